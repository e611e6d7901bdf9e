/- Package token: Sound. -/
import Derived.Test.YtbjkfgfiifnjoaaDoorTkE
namespace Go.Proofs.YtbjkfgfiifnjoaaDoor
open Go.RowKit
set_option maxRecDepth 100000

def soundB (T : Tree) : List Tk → Bool
  | [] => false
  | [x] => inR T x.1 && x.2.within Rt.all
  | x :: y :: rest => underB T y x.1 x.2 && soundB T (y :: rest)

/-- How far a pointer's block lies up. -/
def ptrM : Value → Nat
  | .pointer (some a) => a.block + 1
  | _ => 0
def Desc (bs : List Nat) : Prop := bs.Pairwise (fun a b => b < a)

set_option maxHeartbeats 16000000 in
theorem sound_any (bt bl cap : Nat) (bs : List Nat) (T : Tree) (ch : List Tk) (w : World) (HT : TreeAt w bt bl cap T) (HC : TokAt w bs ch) (hd : Desc bs) :
    Calls Tryd.prog 40 #[.pointer (some ⟨bt, 0, none⟩), ptrV bs] w fun e w' => e = .returned (.bool (soundB T ch)) ∧ Ext [] w w' := by
  have HD := Lib.hid (fun at_ w' (x' : Ext [] w w') => depth_any bt bl cap T at_ w' (HT.ext x' (by simp) (by simp)))
  have HU := Lib.hid (fun b x up at_ r w' (x' : Ext [] w w') (h : Blk w' b 91 (tkCells x up)) => under_any bt bl cap b T x up at_ r w' (HT.ext x' (by simp) (by simp)) h)
  have HA := Lib.hid all_any
  have HW := Lib.hid (fun r w' => within_any r Rt.all w')
  obtain ⟨E, hE⟩ : ∃ E, E = soundB T ch := ⟨_, rfl⟩
  rw [← hE]
  have HE := Lib.hid hE
  have HCC := Lib.hid HC
  clear hE HT HC
  unfold Rt.val at HU HW
  go_enter Tryd.func40, Tryd.ntmps40
  go_wp2_with fail
  go_loopw [1] (fun p wr => ∃ (rest : List Nat) (cr : List Tk), p = ptrV rest ∧ Hid (Desc rest) ∧ Hid (TokAt w rest cr) ∧ Hid (E = soundB T cr) ∧ Ext [] w wr) (fun p _ => ptrM p)
  case atStart => exact ⟨bs, ch, rfl, Lib.hid hd, HCC, HE, Ext.refl _ _⟩
  case round =>
    clear HE HCC hd
    obtain ⟨rest, cr, rfl, HS, HT, HE, x⟩ := hrel
    cases rest with
    | nil =>
      clear HS
      obtain rfl : cr = [] := by
        cases cr with
        | nil => rfl
        | cons y cr' => exact HT.out.elim
      have hE := HE.out
      unfold soundB at hE
      subst hE
      clear HE HT
      rw [show ptrV [] = .pointer none from rfl]
      go_wp2_with fail
      go_ret
      exact ⟨rfl, x⟩
    | cons b rest' =>
      obtain ⟨y, cr', rfl⟩ : ∃ y cr', cr = y :: cr' := by
        cases cr with
        | nil => exact (HT.out).elim
        | cons y cr' => exact ⟨y, cr', rfl⟩
      obtain ⟨hb1, hb2⟩ := HT.out
      have HB1 := Lib.hid (fun w' (x' : Ext [] w w') => hb1.ext x' (by simp))
      have HB2 := Lib.hid hb2
      clear HT hb1 hb2
      rw [show ptrV (b :: rest') = .pointer (some ⟨b, 0, none⟩) from rfl]
      obtain ⟨q0, q1, q2, q3, q4, q5, q6, q7, lt⟩ := tk_cells (HB1.out _ x)
      cases rest' with
      | nil =>
        clear HS
        obtain rfl : cr' = [] := by
          cases cr' with
          | nil => rfl
          | cons y cr' => exact HB2.out.elim
        clear HB2
        have hE := HE.out
        unfold soundB at hE
        clear HE
        obtain ⟨ya, yr⟩ := y
        dsimp only at hE q0 q1 q2 q3 q4 q5 q6
        rw [show ptrV [] = .pointer none from rfl] at *
        obtain ⟨d, hd⟩ := HD.out ya wr x
        have HDD := Lib.hid hd
        clear hd HD
        have HW2 := Lib.hid (fun w' => HW.out yr w')
        clear HW
        generalize inR T ya = ir at *
        generalize yr.within Rt.all = ia at *
        go_wp2_with fail
        refine HDD.out.mono ?_
        rintro e w3 ⟨rfl, x3⟩
        have X3 := x.trans x3
        have HB3 := Lib.hid (fun w' (x' : Ext [] w3 w') => HB1.out w' (X3.trans x'))
        clear HB1 HDD HU x x3 q0 q1 q2 q3 q4 q5 q6 q7 lt
        cases ir with
        | false =>
          simp only [Bool.false_eq_true, if_false, Bool.false_and] at *
          subst hE
          go_upto_region 5 with (fail)
          have zz : Ext [] w3 w3.drew := (Ext.refl _ _).drew
          refine wp_region_held_drew (S := fun w' => Ext [] w3 w') (by kernel_rfl) zz (fun hS => ?_)
          refine wpAnyH_take (i := 0) (oi := ⟨some 27, _, _, _, _, _⟩) (v := ?_) rfl (by kernel_rfl) (by kernel_rfl) (by kernel_rfl) (fun _ _ _ h => h) (Or.inl ⟨by rfl, ?_⟩) (by assumption) ?_
          rotate_left 1
          · (intro w hSw; (try dsimp only at hSw); go_split_ands; (try go_simp); (try with_reducible rfl))
          try simp only [Act.put, List.setIfInBounds_toArray, List.set_cons_zero, List.set_cons_succ]
          refine wpAnyH_take (i := 1) (oi := ⟨some 28, _, _, _, _, _⟩) (v := ?_) rfl (by kernel_rfl) (by kernel_rfl) (by kernel_rfl) (fun _ _ _ h => h) (Or.inl ⟨by rfl, ?_⟩) (by assumption) ?_
          rotate_left 1
          · (intro w hSw; (try dsimp only at hSw); go_split_ands; (try go_simp); (try with_reducible rfl))
          try simp only [Act.put, List.setIfInBounds_toArray, List.set_cons_zero, List.set_cons_succ]
          refine wpAnyH_take (i := 2) (oi := ⟨some 29, _, _, _, _, _⟩) (v := ?_) rfl (by kernel_rfl) (by kernel_rfl) (by kernel_rfl) (fun _ _ _ h => h) (Or.inl ⟨by rfl, ?_⟩) (by assumption) ?_
          rotate_left 1
          · (intro w hSw; (try dsimp only at hSw); go_split_ands; (try go_simp); (try with_reducible rfl))
          try simp only [Act.put, List.setIfInBounds_toArray, List.set_cons_zero, List.set_cons_succ]
          refine wpAnyH_take (i := 3) (oi := ⟨some 30, _, _, _, _, _⟩) (v := _) rfl (by kernel_rfl) (by kernel_rfl) (by kernel_rfl) (fun _ _ _ h => h) (Or.inr ⟨by rfl, rfl⟩) (by assumption) ?_
          try simp only [Act.put, List.setIfInBounds_toArray, List.set_cons_zero, List.set_cons_succ]
          refine wpAnyH_take (i := 4) (oi := ⟨some 31, _, _, _, _, _⟩) (v := _) rfl (by kernel_rfl) (by kernel_rfl) (by kernel_rfl) (fun _ _ _ h => h) (Or.inr ⟨by rfl, rfl⟩) (by assumption) ?_
          try simp only [Act.put, List.setIfInBounds_toArray, List.set_cons_zero, List.set_cons_succ]
          refine wpAnyH_take (i := 5) (oi := ⟨some 32, _, _, _, _, _⟩) (v := _) rfl (by kernel_rfl) (by kernel_rfl) (by kernel_rfl) (fun _ _ _ h => h) (Or.inr ⟨by rfl, rfl⟩) (by assumption) ?_
          try simp only [Act.put, List.setIfInBounds_toArray, List.set_cons_zero, List.set_cons_succ]
          refine wpAnyH_take (i := 6) (oi := ⟨some 33, _, _, _, _, _⟩) (v := _) rfl (by kernel_rfl) (by kernel_rfl) (by kernel_rfl) (fun _ _ _ h => h) (Or.inr ⟨by rfl, rfl⟩) (by assumption) ?_
          try simp only [Act.put, List.setIfInBounds_toArray, List.set_cons_zero, List.set_cons_succ]
          refine wpAnyH_take (i := 7) (oi := ⟨some 34, _, _, _, _, _⟩) (v := _) rfl (by kernel_rfl) (by kernel_rfl) (by kernel_rfl) (fun _ _ _ h => h) (Or.inr ⟨by rfl, rfl⟩) (by assumption) ?_
          try simp only [Act.put, List.setIfInBounds_toArray, List.set_cons_zero, List.set_cons_succ]
          refine wpAnyH_take (i := 8) (oi := ⟨some 35, _, _, _, _, _⟩) (v := _) rfl (by kernel_rfl) (by kernel_rfl) (by kernel_rfl) (fun _ _ _ h => h) (Or.inr ⟨by rfl, rfl⟩) (by assumption) ?_
          try simp only [Act.put, List.setIfInBounds_toArray, List.set_cons_zero, List.set_cons_succ]
          refine wpAnyH_take (i := 9) (oi := ⟨some 36, _, _, _, _, _⟩) (v := ?_) rfl (by kernel_rfl) (by kernel_rfl) (by kernel_rfl) (fun _ _ _ h => h) (Or.inl ⟨by rfl, ?_⟩) (by assumption) ?_
          rotate_left 1
          · (intro w hSw; (try dsimp only at hSw); go_split_ands; (try go_simp); (try with_reducible rfl))
          try simp only [Act.put, List.setIfInBounds_toArray, List.set_cons_zero, List.set_cons_succ]
          refine wpAnyH_take (i := 10) (oi := ⟨some 4, _, _, _, _, _⟩) (v := ?_) rfl (by kernel_rfl) (by kernel_rfl) (by kernel_rfl) (fun _ _ _ h => h) (Or.inl ⟨by rfl, ?_⟩) (by assumption) ?_
          rotate_left 1
          · (intro w hSw; (try dsimp only at hSw); go_split_ands; (try go_simp); (try with_reducible rfl))
          try simp only [Act.put, List.setIfInBounds_toArray, List.set_cons_zero, List.set_cons_succ]
          refine wpAnyH_done (by kernel_rfl) ?_ _
          go_wp2_with fail
          go_returns
          exact ⟨rfl, X3.trans hS⟩
        | true =>
          simp only [if_true, Bool.true_and] at *
          subst hE
          go_upto_region 5 with (fail)
          have zz : Ext [] w3 w3.drew := (Ext.refl _ _).drew
          refine wp_region_held_drew (S := fun w' => Ext [] w3 w') (by kernel_rfl) zz (fun hS => ?_)
          refine wpAnyH_take (i := 0) (oi := ⟨some 27, _, _, _, _, _⟩) (v := ?_) rfl (by kernel_rfl) (by kernel_rfl) (by kernel_rfl) (fun _ _ _ h => h) (Or.inl ⟨by rfl, ?_⟩) (by assumption) ?_
          rotate_left 1
          · (intro w hSw; (try dsimp only at hSw); go_split_ands; (try go_simp); (try with_reducible rfl))
          try simp only [Act.put, List.setIfInBounds_toArray, List.set_cons_zero, List.set_cons_succ]
          refine wpAnyH_take (i := 1) (oi := ⟨some 28, _, _, _, _, _⟩) (v := ?_) rfl (by kernel_rfl) (by kernel_rfl) (by kernel_rfl) (fun _ _ _ h => h) (Or.inl ⟨by rfl, ?_⟩) (by assumption) ?_
          rotate_left 1
          · (intro w hSw; (try dsimp only at hSw); go_split_ands; (try go_simp); (try with_reducible rfl))
          try simp only [Act.put, List.setIfInBounds_toArray, List.set_cons_zero, List.set_cons_succ]
          refine wpAnyH_take (i := 2) (oi := ⟨some 29, _, _, _, _, _⟩) (v := ?_) rfl (by kernel_rfl) (by kernel_rfl) (by kernel_rfl) (fun _ _ _ h => h) (Or.inl ⟨by rfl, ?_⟩) (by assumption) ?_
          rotate_left 1
          · (intro w hSw; (try dsimp only at hSw); go_split_ands; (try go_simp); (try with_reducible rfl))
          try simp only [Act.put, List.setIfInBounds_toArray, List.set_cons_zero, List.set_cons_succ]
          refine wpAnyH_take (i := 3) (oi := ⟨some 30, _, _, _, _, _⟩) (v := ?_) rfl (by kernel_rfl) (by kernel_rfl) (by kernel_rfl) (fun _ _ _ h => h) (Or.inl ⟨by rfl, ?_⟩) (by assumption) ?_
          rotate_left 1
          · (intro w hSw; (try dsimp only at hSw); go_split_ands; (try go_simp); (try with_reducible rfl))
          try simp only [Act.put, List.setIfInBounds_toArray, List.set_cons_zero, List.set_cons_succ]
          refine wpAnyH_take (i := 4) (oi := ⟨some 31, _, _, _, _, _⟩) (v := ?_) rfl (by kernel_rfl) (by kernel_rfl) (by kernel_rfl) (fun _ _ _ h => h) (Or.inl ⟨by rfl, ?_⟩) (by assumption) ?_
          rotate_left 1
          · (intro w hSw; (try dsimp only at hSw); go_split_ands; (try go_simp); (try with_reducible rfl))
          try simp only [Act.put, List.setIfInBounds_toArray, List.set_cons_zero, List.set_cons_succ]
          refine wpAnyH_take (i := 5) (oi := ⟨some 32, _, _, _, _, _⟩) (v := ?_) rfl (by kernel_rfl) (by kernel_rfl) (by kernel_rfl) (fun _ _ _ h => h) (Or.inl ⟨by rfl, ?_⟩) (by assumption) ?_
          rotate_left 1
          · (intro w hSw; (try dsimp only at hSw); go_split_ands; obtain ⟨q0, q1, q2, q3, q4, q5, q6, q7, lt⟩ := tk_cells (HB3.out _ hSw); (try go_simp); (try with_reducible rfl))
          try simp only [Act.put, List.setIfInBounds_toArray, List.set_cons_zero, List.set_cons_succ]
          refine wpAnyH_take (i := 6) (oi := ⟨some 33, _, _, _, _, _⟩) (v := ?_) rfl (by kernel_rfl) (by kernel_rfl) (by kernel_rfl) (fun _ _ _ h => h) (Or.inl ⟨by rfl, ?_⟩) (by assumption) ?_
          rotate_left 1
          · (intro w hSw; (try dsimp only at hSw); go_split_ands; obtain ⟨q0, q1, q2, q3, q4, q5, q6, q7, lt⟩ := tk_cells (HB3.out _ hSw); (try go_simp); (try with_reducible rfl))
          try simp only [Act.put, List.setIfInBounds_toArray, List.set_cons_zero, List.set_cons_succ]
          refine wpAnyH_ready (rs := [7]) (by kernel_rfl) (by simp) ?_
          refine AllReadyH.cons (o := ⟨some 34, _, _, _, _, _⟩) rfl (fun K hK => ?_) AllReadyH.nil
          go_simp
          refine (HA.out _).mono ?_
          rintro e W7 ⟨rfl, x6⟩
          go_simp
          have hk := hS.trans x6
          refine hK.out _ _ hk (fun hS => ?_)
          clear hK K
          try simp only [Act.put, List.setIfInBounds_toArray, List.set_cons_zero, List.set_cons_succ]
          generalize W7 = wd at *
          refine wpAnyH_ready (rs := [8]) (by kernel_rfl) (by simp) ?_
          refine AllReadyH.cons (o := ⟨some 35, _, _, _, _, _⟩) rfl (fun K hK => ?_) AllReadyH.nil
          go_simp
          refine (HW2.out _).mono ?_
          rintro e W8 ⟨rfl, x7⟩
          go_simp
          have hk := hS.trans x7
          refine hK.out _ _ hk (fun hS => ?_)
          clear hK K
          try simp only [Act.put, List.setIfInBounds_toArray, List.set_cons_zero, List.set_cons_succ]
          generalize W8 = we at *
          refine wpAnyH_take (i := 9) (oi := ⟨some 36, _, _, _, _, _⟩) (v := ?_) rfl (by kernel_rfl) (by kernel_rfl) (by kernel_rfl) (fun _ _ _ h => h) (Or.inl ⟨by rfl, ?_⟩) (by assumption) ?_
          rotate_left 1
          · (intro w hSw; (try dsimp only at hSw); go_split_ands; (try go_simp); (try with_reducible rfl))
          try simp only [Act.put, List.setIfInBounds_toArray, List.set_cons_zero, List.set_cons_succ]
          refine wpAnyH_take (i := 10) (oi := ⟨some 4, _, _, _, _, _⟩) (v := ?_) rfl (by kernel_rfl) (by kernel_rfl) (by kernel_rfl) (fun _ _ _ h => h) (Or.inl ⟨by rfl, ?_⟩) (by assumption) ?_
          rotate_left 1
          · (intro w hSw; (try dsimp only at hSw); go_split_ands; (try go_simp); (try with_reducible rfl))
          try simp only [Act.put, List.setIfInBounds_toArray, List.set_cons_zero, List.set_cons_succ]
          refine wpAnyH_done (by kernel_rfl) ?_ _
          go_wp2_with fail
          go_returns
          exact ⟨rfl, X3.trans hS⟩
      | cons c rest'' =>
        clear HD HA HW
        obtain ⟨z, cr'', rfl⟩ : ∃ y cr'', cr' = y :: cr'' := by
          cases cr' with
          | nil => exact HB2.out.elim
          | cons y cr' => exact ⟨y, cr', rfl⟩
        have hcm : c < b := List.rel_of_pairwise_cons HS.out (by simp)
        have HS2 := Lib.hid (List.Pairwise.of_cons HS.out)
        have HUU := Lib.hid (fun w' (x' : Ext [] wr w') => HU.out c z (ptrV rest'') y.1 y.2 w' (x.trans x') (HB2.out.1.ext (x.trans x') (by simp)))
        have hlc := (HB2.out.1.ext x (by simp)).lt
        have HLC := Lib.hid (fun w' (x' : Ext [] wr w') => (HB2.out.1.ext (x.trans x') (by simp)).lt)
        have HB3 := Lib.hid (fun w' (x' : Ext [] wr w') => HB1.out w' (x.trans x'))
        have hE := HE.out
        unfold soundB at hE
        have HE2 := Lib.hid hE
        clear HE hE HS HB1 HU
        obtain ⟨ya, yr⟩ := y
        dsimp only at HE2 HUU HB3 q0 q1 q2 q3 q4 q5 q6
        rw [show ptrV (c :: rest'') = .pointer (some ⟨c, 0, none⟩) from rfl] at HB3 q7
        generalize underB T z ya yr = ub at *
        go_upto_region 6 with (fail)
        clear q0 q1 q2 q3 q4 q5 q6 q7 lt hlc
        have zz : Ext [] wr wr.drew := (Ext.refl _ _).drew
        refine wp_region_held_drew (S := fun w' => Ext [] wr w') (by kernel_rfl) zz (fun hS => ?_)
        refine wpAnyH_take (i := 0) (oi := ⟨some 37, _, _, _, _, _⟩) (v := ?_) rfl (by kernel_rfl) (by kernel_rfl) (by kernel_rfl) (fun _ _ _ h => h) (Or.inl ⟨by rfl, ?_⟩) (by assumption) ?_
        rotate_left 1
        · (intro w hSw; (try dsimp only at hSw); go_split_ands; (try go_simp); (try with_reducible rfl))
        try simp only [Act.put, List.setIfInBounds_toArray, List.set_cons_zero, List.set_cons_succ]
        refine wpAnyH_take (i := 1) (oi := ⟨some 38, _, _, _, _, _⟩) (v := ?_) rfl (by kernel_rfl) (by kernel_rfl) (by kernel_rfl) (fun _ _ _ h => h) (Or.inl ⟨by rfl, ?_⟩) (by assumption) ?_
        rotate_left 1
        · (intro w hSw; (try dsimp only at hSw); go_split_ands; (try go_simp); (try with_reducible rfl))
        try simp only [Act.put, List.setIfInBounds_toArray, List.set_cons_zero, List.set_cons_succ]
        refine wpAnyH_take (i := 2) (oi := ⟨some 39, _, _, _, _, _⟩) (v := ?_) rfl (by kernel_rfl) (by kernel_rfl) (by kernel_rfl) (fun _ _ _ h => h) (Or.inl ⟨by rfl, ?_⟩) (by assumption) ?_
        rotate_left 1
        · (intro w hSw; (try dsimp only at hSw); go_split_ands; (try go_simp); (try with_reducible rfl))
        try simp only [Act.put, List.setIfInBounds_toArray, List.set_cons_zero, List.set_cons_succ]
        refine wpAnyH_take (i := 3) (oi := ⟨some 40, _, _, _, _, _⟩) (v := ?_) rfl (by kernel_rfl) (by kernel_rfl) (by kernel_rfl) (fun _ _ _ h => h) (Or.inl ⟨by rfl, ?_⟩) (by assumption) ?_
        rotate_left 1
        · (intro w hSw; (try dsimp only at hSw); go_split_ands; obtain ⟨q0, q1, q2, q3, q4, q5, q6, q7, lt⟩ := tk_cells (HB3.out _ hSw); (try go_simp); (try with_reducible rfl))
        try simp only [Act.put, List.setIfInBounds_toArray, List.set_cons_zero, List.set_cons_succ]
        refine wpAnyH_take (i := 4) (oi := ⟨some 41, _, _, _, _, _⟩) (v := ?_) rfl (by kernel_rfl) (by kernel_rfl) (by kernel_rfl) (fun _ _ _ h => h) (Or.inl ⟨by rfl, ?_⟩) (by assumption) ?_
        rotate_left 1
        · (intro w hSw; (try dsimp only at hSw); go_split_ands; obtain ⟨q0, q1, q2, q3, q4, q5, q6, q7, lt⟩ := tk_cells (HB3.out _ hSw); (try go_simp); (try with_reducible rfl))
        try simp only [Act.put, List.setIfInBounds_toArray, List.set_cons_zero, List.set_cons_succ]
        refine wpAnyH_take (i := 5) (oi := ⟨some 42, _, _, _, _, _⟩) (v := ?_) rfl (by kernel_rfl) (by kernel_rfl) (by kernel_rfl) (fun _ _ _ h => h) (Or.inl ⟨by rfl, ?_⟩) (by assumption) ?_
        rotate_left 1
        · (intro w hSw; (try dsimp only at hSw); go_split_ands; (try go_simp); (try with_reducible rfl))
        try simp only [Act.put, List.setIfInBounds_toArray, List.set_cons_zero, List.set_cons_succ]
        refine wpAnyH_take (i := 6) (oi := ⟨some 43, _, _, _, _, _⟩) (v := ?_) rfl (by kernel_rfl) (by kernel_rfl) (by kernel_rfl) (fun _ _ _ h => h) (Or.inl ⟨by rfl, ?_⟩) (by assumption) ?_
        rotate_left 1
        · (intro w hSw; (try dsimp only at hSw); go_split_ands; (try go_simp); (try with_reducible rfl))
        try simp only [Act.put, List.setIfInBounds_toArray, List.set_cons_zero, List.set_cons_succ]
        refine wpAnyH_take (i := 7) (oi := ⟨some 44, _, _, _, _, _⟩) (v := ?_) rfl (by kernel_rfl) (by kernel_rfl) (by kernel_rfl) (fun _ _ _ h => h) (Or.inl ⟨by rfl, ?_⟩) (by assumption) ?_
        rotate_left 1
        · (intro w hSw; (try dsimp only at hSw); go_split_ands; obtain ⟨q0, q1, q2, q3, q4, q5, q6, q7, lt⟩ := tk_cells (HB3.out _ hSw); (try go_simp); (try with_reducible rfl))
        try simp only [Act.put, List.setIfInBounds_toArray, List.set_cons_zero, List.set_cons_succ]
        refine wpAnyH_take (i := 8) (oi := ⟨some 45, _, _, _, _, _⟩) (v := ?_) rfl (by kernel_rfl) (by kernel_rfl) (by kernel_rfl) (fun _ _ _ h => h) (Or.inl ⟨by rfl, ?_⟩) (by assumption) ?_
        rotate_left 1
        · (intro w hSw; (try dsimp only at hSw); go_split_ands; obtain ⟨q0, q1, q2, q3, q4, q5, q6, q7, lt⟩ := tk_cells (HB3.out _ hSw); (try go_simp); (try with_reducible rfl))
        try simp only [Act.put, List.setIfInBounds_toArray, List.set_cons_zero, List.set_cons_succ]
        refine wpAnyH_take (i := 9) (oi := ⟨some 46, _, _, _, _, _⟩) (v := ?_) rfl (by kernel_rfl) (by kernel_rfl) (by kernel_rfl) (fun _ _ _ h => h) (Or.inl ⟨by rfl, ?_⟩) (by assumption) ?_
        rotate_left 1
        · (intro w hSw; (try dsimp only at hSw); go_split_ands; (try go_simp); (try with_reducible rfl))
        try simp only [Act.put, List.setIfInBounds_toArray, List.set_cons_zero, List.set_cons_succ]
        refine wpAnyH_take (i := 10) (oi := ⟨some 47, _, _, _, _, _⟩) (v := ?_) rfl (by kernel_rfl) (by kernel_rfl) (by kernel_rfl) (fun _ _ _ h => h) (Or.inl ⟨by rfl, ?_⟩) (by assumption) ?_
        rotate_left 1
        · (intro w hSw; (try dsimp only at hSw); go_split_ands; (try go_simp); (try with_reducible rfl))
        try simp only [Act.put, List.setIfInBounds_toArray, List.set_cons_zero, List.set_cons_succ]
        refine wpAnyH_take (i := 11) (oi := ⟨some 48, _, _, _, _, _⟩) (v := ?_) rfl (by kernel_rfl) (by kernel_rfl) (by kernel_rfl) (fun _ _ _ h => h) (Or.inl ⟨by rfl, ?_⟩) (by assumption) ?_
        rotate_left 1
        · (intro w hSw; (try dsimp only at hSw); go_split_ands; obtain ⟨q0, q1, q2, q3, q4, q5, q6, q7, lt⟩ := tk_cells (HB3.out _ hSw); (try go_simp); (try with_reducible rfl))
        try simp only [Act.put, List.setIfInBounds_toArray, List.set_cons_zero, List.set_cons_succ]
        refine wpAnyH_take (i := 12) (oi := ⟨some 49, _, _, _, _, _⟩) (v := ?_) rfl (by kernel_rfl) (by kernel_rfl) (by kernel_rfl) (fun _ _ _ h => h) (Or.inl ⟨by rfl, ?_⟩) (by assumption) ?_
        rotate_left 1
        · (intro w hSw; (try dsimp only at hSw); go_split_ands; obtain ⟨q0, q1, q2, q3, q4, q5, q6, q7, lt⟩ := tk_cells (HB3.out _ hSw); (try go_simp); (try with_reducible rfl))
        try simp only [Act.put, List.setIfInBounds_toArray, List.set_cons_zero, List.set_cons_succ]
        refine wpAnyH_ready (rs := [13]) (by kernel_rfl) (by simp) ?_
        refine AllReadyH.cons (o := ⟨some 50, _, _, _, _, _⟩) rfl (fun K hK => ?_) AllReadyH.nil
        go_simp
        refine (HUU.out _ hS).mono ?_
        rintro e W13 ⟨rfl, x6⟩
        go_simp
        have hk := hS.trans x6
        refine hK.out _ _ hk (fun hS => ?_)
        clear hK K
        try simp only [Act.put, List.setIfInBounds_toArray, List.set_cons_zero, List.set_cons_succ]
        generalize W13 = wd at *
        refine wpAnyH_take (i := 14) (oi := ⟨some 51, _, _, _, _, _⟩) (v := ?_) rfl (by kernel_rfl) (by kernel_rfl) (by kernel_rfl) (fun _ _ _ h => h) (Or.inl ⟨by rfl, ?_⟩) (by assumption) ?_
        rotate_left 1
        · (intro w hSw; (try dsimp only at hSw); go_split_ands; (try go_simp); (try with_reducible rfl))
        try simp only [Act.put, List.setIfInBounds_toArray, List.set_cons_zero, List.set_cons_succ]
        refine wpAnyH_done (by kernel_rfl) ?_ _
        cases ub with
        | false =>
          have hE := HE2.out
          simp only [Bool.false_and] at hE
          subst hE
          go_wp2_with fail
          go_ret
          exact ⟨rfl, x.trans hS⟩
        | true =>
          obtain ⟨q0, q1, q2, q3, q4, q5, q6, q7, lt⟩ := tk_cells (HB3.out _ hS)
          go_wp2_with fail
          go_roundw
          case rel =>
            have hE := HE2.out
            simp only [Bool.true_and] at hE
            exact ⟨c :: rest'', z :: cr'', rfl, HS2, HB2, Lib.hid hE, x.trans hS⟩
          case measure => simp [ptrM]; omega
end Go.Proofs.YtbjkfgfiifnjoaaDoor

/- Package token: Root, Derive, Sound. -/
import Derived.Test.YtbjkfgfiifnjoaaDoorTkD
namespace Go.Proofs.YtbjkfgfiifnjoaaDoor
open Go.RowKit
set_option maxRecDepth 100000

def inR (T : Tree) (at_ : Int) : Bool := decide (0 ≤ at_ ∧ at_ < T.len)
theorem depth_any (bt bl cap : Nat) (T : Tree) (at_ : Int) (w : World) (H : TreeAt w bt bl cap T) :
    ∃ d : Int, Calls Tryd.prog 74 #[.pointer (some ⟨bt, 0, none⟩), .int .i64 at_] w fun e w' => e = .returned (.tuple #[.int .i64 d, .int .i64 (if inR T at_ = true then 0 else 2)]) ∧ Ext [] w w' := by
  unfold inR
  by_cases h : 0 ≤ at_ ∧ at_ < T.len
  · obtain ⟨k, rfl⟩ := Int.eq_ofNat_of_zero_le h.1
    refine ⟨((T.depth k : Nat) : Int), ?_⟩
    rw [if_pos (by simpa using h)]
    exact depth_of _ _ _ _ _ w (find_ok bt bl cap k T w H (by omega))
  · refine ⟨0, ?_⟩
    rw [if_neg (by simpa using h)]
    exact depth_of _ _ _ _ _ w (find_no bt bl cap at_ T w H (by omega))

/-- A new token, or none. -/
def NewPost (w : World) (E : Int) (x : Tk) (up : Value) (e : Ending) (w' : World) : Prop :=
  Ext [] w w' ∧ ((E = 0 ∧ ∃ b, e = .returned (.tuple #[.pointer (some ⟨b, 0, none⟩), .int .i64 0]) ∧ Blk w' b 91 (tkCells x up) ∧ w.heap.size ≤ b) ∨ (E ≠ 0 ∧ e = .returned (.tuple #[.pointer none, .int .i64 E])))
def rootE (T : Tree) (at_ : Int) (r : Rt) : Int := if inR T at_ = true then if r.within Rt.all = true then 0 else 1 else 2
def derE (T : Tree) (x : Tk) (n : Nat) (at_ : Int) (r : Rt) : Int := if inR T at_ = true then if underB T x at_ r = true then if 4 ≤ n then 7 else 0 else 1 else 2

set_option maxHeartbeats 8000000 in
theorem root_any (bt bl cap : Nat) (T : Tree) (at_ : Int) (r : Rt) (w : World) (HT : TreeAt w bt bl cap T) :
    Calls Tryd.prog 34 #[.pointer (some ⟨bt, 0, none⟩), .int .i64 at_, r.val] w (NewPost w (rootE T at_ r) (at_, r) (.pointer none)) := by
  have HD := Lib.hid (fun w' (x' : Ext [] w w') => depth_any bt bl cap T at_ w' (HT.ext x' (by simp) (by simp)))
  have HA := Lib.hid all_any
  have HW := Lib.hid (fun w' => within_any r Rt.all w')
  obtain ⟨E, hE⟩ : ∃ E, E = rootE T at_ r := ⟨_, rfl⟩
  rw [← hE]
  unfold rootE at hE
  generalize inR T at_ = q at *
  generalize r.within Rt.all = q2 at *
  have hru : r.val = .agg #[.int .u16 (r.c.toNat : Int), .int .u16 (r.p.toNat : Int), .int .u16 (r.m.toNat : Int), .int .u16 (r.h.toNat : Int), .bool r.v, .bool r.s] := rfl
  rw [hru] at HW ⊢
  clear hru
  obtain ⟨w2, hw2⟩ : ∃ w2, w2 = w.alloc (.cells #[.int .u16 (r.c.toNat : Int), .int .u16 (r.p.toNat : Int), .int .u16 (r.m.toNat : Int), .int .u16 (r.h.toNat : Int), .bool r.v, .bool r.s] 84) := ⟨_, rfl⟩
  have BA : Blk w2 w.heap.size 84 r.cells := by rw [hw2]; exact Blk.new w _ _
  have X : Ext [] w w2 := by rw [hw2]; exact (Ext.refl _ _).alloc _
  clear HT
  go_enter Tryd.func34, Tryd.ntmps34
  go_upto_region 1 with (fail)
  rw [← hw2]
  clear hw2
  obtain ⟨d, hd⟩ := HD.out w2 X
  have HDD := Lib.hid hd
  clear hd HD
  cases q with
  | false =>
    simp only [Bool.false_eq_true, if_false] at hE HDD
    subst hE
    go_wp2_with fail
    refine HDD.out.mono ?_
    rintro e w3 ⟨rfl, x3⟩
    go_wp2_with fail
    go_returns
    exact ⟨X.trans x3, .inr ⟨by decide, rfl⟩⟩
  | true =>
    simp only [if_true] at hE HDD
    have HE := Lib.hid hE
    clear hE
    go_upto_region 4 with (fail)
    refine HDD.out.mono ?_
    rintro e w3 ⟨rfl, x3⟩
    go_upto_region 4 with (fail)
    have BA3 := BA.ext x3 (by simp)
    have X3 := X.trans x3
    clear BA X x3 HDD
    have zz : Ext [] w3 w3.drew := (Ext.refl _ _).drew
    refine wp_region_held_drew (S := fun w' => Ext [] w3 w') (by kernel_rfl) zz (fun hS => ?_)
    refine wpAnyH_take (i := 0) (oi := ⟨some 19, _, _, _, _, _⟩) (v := ?_) rfl (by kernel_rfl) (by kernel_rfl) (by kernel_rfl) (fun _ _ _ h => h) (Or.inl ⟨by rfl, ?_⟩) (by assumption) ?_
    rotate_left 1
    · (intro w hSw; (try dsimp only at hSw); go_split_ands; obtain ⟨q0, q1, q2, q3, q4, q5, lt⟩ := rt_cells (BA3.ext hSw (by simp)); (try go_simp); (try with_reducible rfl))
    try simp only [Act.put, List.setIfInBounds_toArray, List.set_cons_zero, List.set_cons_succ]
    refine wpAnyH_ready (rs := [1]) (by kernel_rfl) (by simp) ?_
    refine AllReadyH.cons (o := ⟨some 20, _, _, _, _, _⟩) rfl (fun K hK => ?_) AllReadyH.nil
    go_simp
    refine (HA.out _).mono ?_
    rintro e W1 ⟨rfl, x6⟩
    go_simp
    have hk := hS.trans x6
    refine hK.out _ _ hk (fun hS => ?_)
    clear hK K
    try simp only [Act.put, List.setIfInBounds_toArray, List.set_cons_zero, List.set_cons_succ]
    generalize W1 = wd at *
    refine wpAnyH_ready (rs := [2]) (by kernel_rfl) (by simp) ?_
    refine AllReadyH.cons (o := ⟨some 21, _, _, _, _, _⟩) rfl (fun K hK => ?_) AllReadyH.nil
    go_simp
    refine (HW.out _).mono ?_
    rintro e W2 ⟨rfl, x7⟩
    go_simp
    have hk := hS.trans x7
    refine hK.out _ _ hk (fun hS => ?_)
    clear hK K
    try simp only [Act.put, List.setIfInBounds_toArray, List.set_cons_zero, List.set_cons_succ]
    generalize W2 = we at *
    refine wpAnyH_take (i := 3) (oi := ⟨some 22, _, _, _, _, _⟩) (v := ?_) rfl (by kernel_rfl) (by kernel_rfl) (by kernel_rfl) (fun _ _ _ h => h) (Or.inl ⟨by rfl, ?_⟩) (by assumption) ?_
    rotate_left 1
    · (intro w hSw; (try dsimp only at hSw); go_split_ands; (try go_simp); (try with_reducible rfl))
    try simp only [Act.put, List.setIfInBounds_toArray, List.set_cons_zero, List.set_cons_succ]
    refine wpAnyH_done (by kernel_rfl) ?_ _
    cases q2 with
    | true =>
      simp only [if_true] at HE
      have hE0 := HE.out
      subst hE0
      clear HE
      obtain ⟨q0, q1, q2, q3, q4, q5, lt⟩ := rt_cells (BA3.ext hS (by simp))
      go_wp2_with fail
      go_returns
      refine ⟨(X3.trans hS).alloc _, .inl ⟨rfl, _, rfl, Blk.new _ _ _, (X3.trans hS).size⟩⟩
    | false =>
      simp only [Bool.false_eq_true, if_false] at HE
      have hE0 := HE.out
      subst hE0
      clear HE
      go_wp2_with fail
      go_returns
      exact ⟨X3.trans hS, .inr ⟨by decide, rfl⟩⟩

theorem root_nil (at_ : Int) (r : Rt) (w : World) :
    Calls Tryd.prog 34 #[.pointer none, .int .i64 at_, r.val] w fun e w' => e = .returned (.tuple #[.pointer none, .int .i64 22]) ∧ Ext [] w w' := by
  have HF := Lib.hid (fun w' => find_nil at_ w')
  have HD := Lib.hid (fun w' => depth_of none at_ 0 0 22 w' (HF.out w'))
  unfold Rt.val
  go_enter Tryd.func34, Tryd.ntmps34
  go_wp2_with fail
  refine (HD.out _).mono ?_
  rintro e w3 ⟨rfl, x3⟩
  go_wp2_with fail
  go_returns
  exact ⟨rfl, ((Ext.refl _ _).alloc _).trans x3⟩

theorem derive_nil (p : Value) (at_ : Int) (r : Rt) (w : World) :
    Calls Tryd.prog 38 #[p, .pointer none, .int .i64 at_, r.val] w fun e w' => e = .returned (.tuple #[.pointer none, .int .i64 22]) ∧ Ext [] w w' := by
  unfold Rt.val
  go_enter Tryd.func38, Tryd.ntmps38
  go_wp2_with fail
  go_returns
  exact ⟨rfl, (Ext.refl _ _).alloc _⟩

set_option maxHeartbeats 8000000 in
theorem derive_any (bt bl cap b : Nat) (bs : List Nat) (T : Tree) (x : Tk) (xs : List Tk) (at_ : Int) (r : Rt) (w : World) (HT : TreeAt w bt bl cap T) (HC : TokAt w (b :: bs) (x :: xs)) (hn : bs.length + 1 ≤ 100) :
    Calls Tryd.prog 38 #[.pointer (some ⟨bt, 0, none⟩), .pointer (some ⟨b, 0, none⟩), .int .i64 at_, r.val] w (NewPost w (derE T x (bs.length + 1) at_ r) (at_, r) (.pointer (some ⟨b, 0, none⟩))) := by
  have HD := Lib.hid (fun w' (x' : Ext [] w w') => depth_any bt bl cap T at_ w' (HT.ext x' (by simp) (by simp)))
  have HU := Lib.hid (fun w' (x' : Ext [] w w') => under_any bt bl cap b T x (ptrV bs) at_ r w' (HT.ext x' (by simp) (by simp)) (HC.1.ext x' (by simp)))
  have HH := Lib.hid (fun w' (x' : Ext [] w w') => chain_any (b :: bs) (x :: xs) w' (HC.ext0 x') (by simpa using hn))
  rw [show ptrV (b :: bs) = .pointer (some ⟨b, 0, none⟩) from rfl] at HH
  obtain ⟨E, hE⟩ : ∃ E, E = derE T x (bs.length + 1) at_ r := ⟨_, rfl⟩
  rw [← hE]
  unfold derE at hE
  generalize inR T at_ = q at *
  generalize underB T x at_ r = q2 at *
  have hru : r.val = .agg #[.int .u16 (r.c.toNat : Int), .int .u16 (r.p.toNat : Int), .int .u16 (r.m.toNat : Int), .int .u16 (r.h.toNat : Int), .bool r.v, .bool r.s] := rfl
  rw [hru] at HU ⊢
  clear hru
  obtain ⟨w2, hw2⟩ : ∃ w2, w2 = w.alloc (.cells #[.int .u16 (r.c.toNat : Int), .int .u16 (r.p.toNat : Int), .int .u16 (r.m.toNat : Int), .int .u16 (r.h.toNat : Int), .bool r.v, .bool r.s] 84) := ⟨_, rfl⟩
  have BA : Blk w2 w.heap.size 84 r.cells := by rw [hw2]; exact Blk.new w _ _
  have X : Ext [] w w2 := by rw [hw2]; exact (Ext.refl _ _).alloc _
  have hlb := HC.1.lt
  clear HT HC
  have HLB := Lib.hid hlb
  clear hlb
  go_enter Tryd.func38, Tryd.ntmps38
  go_upto_region 1 with (fail)
  rw [← hw2]
  clear hw2
  obtain ⟨d, hd⟩ := HD.out w2 X
  have HDD := Lib.hid hd
  clear hd HD
  cases q with
  | false =>
    simp only [Bool.false_eq_true, if_false] at hE HDD
    subst hE
    go_wp2_with fail
    refine HDD.out.mono ?_
    rintro e w3 ⟨rfl, x3⟩
    go_wp2_with fail
    go_returns
    exact ⟨X.trans x3, .inr ⟨by decide, rfl⟩⟩
  | true =>
    simp only [if_true] at hE HDD
    have HE := Lib.hid hE
    clear hE
    go_wp2_with fail
    refine HDD.out.mono ?_
    rintro e w3 ⟨rfl, x3⟩
    have BA3 := BA.ext x3 (by simp)
    have X3 := X.trans x3
    clear BA X x3 HDD
    obtain ⟨q0, q1, q2', q3, q4, q5, lt⟩ := rt_cells BA3
    go_wp2_with fail
    clear q0 q1 q2' q3 q4 q5 lt
    refine (HU.out _ X3).mono ?_
    rintro e w4 ⟨rfl, x4⟩
    have X4 := X3.trans x4
    have BA4 := BA3.ext x4 (by simp)
    clear BA3 X3 x4 HU
    cases q2 with
    | false =>
      simp only [Bool.false_eq_true, if_false] at HE
      have hE0 := HE.out
      subst hE0
      clear HE
      go_wp2_with fail
      go_returns
      exact ⟨X4, .inr ⟨by decide, rfl⟩⟩
    | true =>
      simp only [if_true] at HE
      go_wp2_with fail
      refine (HH.out _ X4).mono ?_
      rintro e w5 ⟨v5, rfl, hown, x5, -⟩
      obtain ⟨va, vc, rfl⟩ := owns_slice hown
      have X5 := X4.trans x5
      have BA5 := BA4.ext x5 (by simp)
      clear BA4 X4 x5 HH hown
      obtain ⟨q0, q1, q2', q3, q4, q5, lt⟩ := rt_cells BA5
      simp only [List.length_cons] at *
      generalize hnn : bs.length + 1 = nn at *
      clear hnn
      by_cases h4 : 4 ≤ nn
      · rw [if_pos h4] at HE
        have hE0 := HE.out
        subst hE0
        clear HE
        go_wp2_with fail
        go_returns
        exact ⟨X5, .inr ⟨by decide, rfl⟩⟩
      · rw [if_neg h4] at HE
        have hE0 := HE.out
        subst hE0
        clear HE
        have hlb := HLB.out
        go_wp2_with fail
        go_returns
        refine ⟨X5.alloc _, .inl ⟨rfl, _, rfl, Blk.new _ _ _, X5.size⟩⟩
end Go.Proofs.YtbjkfgfiifnjoaaDoor

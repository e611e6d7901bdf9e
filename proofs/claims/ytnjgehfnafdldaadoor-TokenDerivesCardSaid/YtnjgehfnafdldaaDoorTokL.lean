/- The statement TokenForged. -/
import Derived.Test.YtnjgehfnafdldaaDoorTokK
import Derived.Test.YtnjgehfnafdldaaDoorCase
import Derived.Test.YtnjgehfnafdldaaDoorHeld
namespace Go.Proofs.YtnjgehfnafdldaaDoor
open Go.RowKit
set_option maxRecDepth 100000

/-- Two trees alike, of the call's own. -/
structure Pair (B : Nat) (w : World) (bt bl c bw bu c' : Nat) (T : Tree) : Prop where
  t : TreeAt w bt bl c T
  r : RefAt w bw bu c' T
  f1 : B ≤ bt
  f2 : B ≤ bl
  f3 : B ≤ bw
  f4 : B ≤ bu
  n1 : bt ≠ bw
  n2 : bt ≠ bu
  n3 : bl ≠ bw
  n4 : bl ≠ bu

theorem st_cells {w : World} {b : Nat} {x : Tk} (h : Blk w b 52 (stCells x)) :
    w.cell? ⟨b, 0, none⟩ = some (.int .i64 x.1) ∧ w.cell? ⟨b, 1, none⟩ = some (.int .u16 (x.2.c.toNat : Int)) ∧ w.cell? ⟨b, 2, none⟩ = some (.int .u16 (x.2.p.toNat : Int)) ∧ w.cell? ⟨b, 3, none⟩ = some (.int .u16 (x.2.m.toNat : Int)) ∧ w.cell? ⟨b, 4, none⟩ = some (.int .u16 (x.2.h.toNat : Int)) ∧ w.cell? ⟨b, 5, none⟩ = some (.bool x.2.v) ∧ w.cell? ⟨b, 6, none⟩ = some (.bool x.2.s) ∧ b < w.heap.size :=
  ⟨h.cell 0, h.cell 1, h.cell 2, h.cell 3, h.cell 4, h.cell 5, h.cell 6, h.lt⟩

theorem st_here {w : World} {b o k : Nat} {x : Tk} (h : ∀ j, j < 7 → w.cell? ⟨b, o + k * 7 + j, none⟩ = (stCells x)[j]?) :
    w.cell? ⟨b, o + k * 7, none⟩ = some (.int .i64 x.1) ∧ w.cell? ⟨b, o + k * 7 + 1, none⟩ = some (.int .u16 (x.2.c.toNat : Int)) ∧ w.cell? ⟨b, o + k * 7 + 2, none⟩ = some (.int .u16 (x.2.p.toNat : Int)) ∧ w.cell? ⟨b, o + k * 7 + 3, none⟩ = some (.int .u16 (x.2.m.toNat : Int)) ∧ w.cell? ⟨b, o + k * 7 + 4, none⟩ = some (.int .u16 (x.2.h.toNat : Int)) ∧ w.cell? ⟨b, o + k * 7 + 5, none⟩ = some (.bool x.2.v) ∧ w.cell? ⟨b, o + k * 7 + 6, none⟩ = some (.bool x.2.s) :=
  ⟨h 0 (by omega), h 1 (by omega), h 2 (by omega), h 3 (by omega), h 4 (by omega), h 5 (by omega), h 6 (by omega)⟩

theorem ptrV_ptr (bs : List Nat) : ∃ o, ptrV bs = .pointer o := by cases bs <;> exact ⟨_, rfl⟩
def sndB (T : Tree) (l : List Tk) : Bool := l.isEmpty || soundB T l
theorem take_rev (ch : List Tk) (k : Nat) (hk : k < ch.length) : (ch.take (k + 1)).reverse = ch[k] :: (ch.take k).reverse := by
  rw [List.take_succ_eq_append_getElem hk, List.reverse_append]
  rfl
theorem snd_one (T : Tree) (x : Tk) : soundB T [x] = (x.2.within Rt.all && inR T x.1) := by
  unfold soundB
  rw [Bool.and_comm]
theorem snd_more (T : Tree) (x y : Tk) (l : List Tk) : soundB T (x :: y :: l) = (soundB T (y :: l) && (T.inside x.1 y.1 && x.2.within y.2)) := by
  conv => lhs; unfold soundB
  unfold underB
  rw [Bool.and_comm]

set_option maxHeartbeats 16000000 in
theorem forged_walk (v : Value) (w : World) (hv : CaseArg w v) (G : HelpG w) :
    Calls Tryd.prog 4 #[v] w fun e w' => e = .returned (.bool true) ∧ Ext [] w w' := by
  obtain ⟨a1, len1, cap1, z1, a2, len2, cap2, ch, rfl, r1, rfl, hle2, hst⟩ := hv
  obtain ⟨hl, hm, -, b, off, hA, hB, hC⟩ := r1.at
  unfold maxLen at hm
  obtain ⟨hm2, b2, o2, h20, h2c⟩ := hst
  unfold maxLen at hm2
  obtain ⟨w0, hw0⟩ : ∃ w0, w0 = w.alloc (.cells #[.slice a1 len1 cap1, .slice a2 ch.length cap2] 44) := ⟨_, rfl⟩
  have x0 : Ext [] w w0 := by rw [hw0]; exact (Ext.refl _ _).alloc _
  have BC : Blk w0 w.heap.size 44 [.slice a1 len1 cap1, .slice a2 ch.length cap2] := by rw [hw0]; exact Blk.new w _ _
  have HG := Lib.hid (fun w' (x' : Ext [] w0 w') => G.ext (x0.trans x') (by simp))
  have HA := Lib.hid hA
  have HC := Lib.hid (fun i (hi : i < z1.length) => (show w0.cell? ⟨b, off + i, none⟩ = some (.int .i64 (z1.getD i 0)) from (x0.cell (hB (by omega)) (by simp)).trans (hC i hi)))
  have HB := Lib.hid (fun (hi : 0 < z1.length) => Nat.lt_of_lt_of_le (hB hi) x0.size)
  have HS0 := Lib.hid (fun (hi : 0 < ch.length) => (⟨(h20 hi).1, Nat.lt_of_lt_of_le (h20 hi).2 x0.size⟩ : a2 = some ⟨b2, o2, none⟩ ∧ b2 < w0.heap.size))
  have HSC := Lib.hid (fun w' (x' : Ext [] w0 w') k (hk : k < ch.length) => st_here (w := w') (b := b2) (o := o2) (k := k) (x := ch[k]) (fun j hj => ((x0.trans x').cell (h20 (by omega)).2 (by simp)).trans (h2c k hk j hj)))
  clear hA hB hC r1 G h20 h2c
  go_enter Tryd.func4, Tryd.ntmps4
  go_wp2_with fail
  rw [← hw0]
  clear hw0
  have hbc := BC.lt
  generalize w.heap.size = bc at *
  refine (tree_new w0).mono ?_
  rintro e w1 ⟨rfl, T1, x1, hz1⟩
  go_wp2_with fail
  refine (ref_new w1).mono ?_
  rintro e w2 ⟨bw, bu, cr, rfl, R1, x2, hf3, hf4⟩
  have l1 := T1.lt1
  have l2 := T1.lt2
  go_wp2_with fail
  go_loopw [5] (fun i wr => ∃ (k bl c bu c' : Nat) (T : Tree), k ≤ len1 ∧ k ≤ 10 ∧ i = .int .i64 k ∧ Pair w0.heap.size wr (w0.heap.size + 1) bl c bw bu c' T ∧ Ext [] w0 wr) (fun i _ => 10 - (intOf i).toNat)
  case atStart =>
    exact ⟨0, _, _, _, _, _, Nat.zero_le _, by omega, rfl, ⟨T1.ext x2 (by simp) (by simp), R1, by omega, by omega, by omega, by omega, by omega, by omega, by omega, by omega⟩, x1.trans x2⟩
  case round =>
    clear T1 R1 hz1 l1 l2 x1 x2 hf4
    obtain ⟨k, bl, c, bu, c', T, hk, hk10, rfl, P, x⟩ := hrel
    have hbc0 : wr.cell? ⟨bc, 0, none⟩ = some (.slice a1 len1 cap1) := (BC.ext x (by simp)).cell 0
    have hbcl := (BC.ext x (by simp)).lt
    by_cases hlt : k < len1 ∧ k < 10
    · obtain ⟨hlt, h9⟩ := hlt
      obtain rfl := HA.out (by omega)
      have hb := HB.out (by omega)
      have hcell : wr.cell? ⟨b, off + k, none⟩ = some (.int .i64 (z1.getD k 0)) := by
        rw [x.cell hb (by simp)]; exact HC.out k (by omega)
      have hcell0 := Lib.hid (show w0.cell? ⟨b, off + k, none⟩ = some (.int .i64 (z1.getD k 0)) from HC.out k (by omega))
      generalize z1.getD k 0 = z at *
      go_wp2_with fail
      refine (make_any _ _ _ z T wr P.t).mono ?_
      rintro e w3 ⟨bl', cp', rfl, T2, x3, hbl⟩
      have l1 := P.t.lt1
      have l2 := P.t.lt2
      have l3 := P.r.lt1
      have l4 := P.r.lt2
      have q1 := P.n1
      have q2 := P.n2
      have q3 := P.n3
      have q4 := P.n4
      have q5 := P.f2
      have hsz := x.size
      have x13 : Ext [] w0 w3 := x.trans' x3 (by intro i hi; simp at hi; rcases hi with rfl | rfl <;> omega)
      have hcell3 : w3.cell? ⟨b, off + k, none⟩ = some (.int .i64 z) := by rw [x13.cell hb (by simp)]; exact hcell0.out
      have hbc3 : w3.cell? ⟨bc, 0, none⟩ = some (.slice (some ⟨b, off, none⟩) len1 cap1) := (BC.ext x13 (by simp)).cell 0
      have hbcl3 := (BC.ext x13 (by simp)).lt
      have R2 := P.r.ext x3 (by simp; omega) (by simp; omega)
      clear hcell hbc0
      go_wp2_with fail
      refine (rmake_any _ _ _ z T w3 R2).mono ?_
      rintro e w4 ⟨bu', cp2, rfl, R3, x4, hbu⟩
      have l5 := T2.lt1
      have l6 := T2.lt2
      have q6 := P.f4
      have q7 := P.f3
      go_wp2_with fail
      go_roundw
      case rel =>
        have hs3 := x3.size
        refine ⟨k + 1, bl', cp', bu', cp2, _, by omega, by omega, by go_num, ⟨T2.ext x4 (by simp; omega) (by simp; omega), R3, by omega, by omega, by omega, by omega, by omega, by omega, by omega, by omega⟩, ?_⟩
        exact x13.trans' x4 (by intro i hi; simp at hi; rcases hi with rfl | rfl <;> omega)
      case measure => simp [intOf]; omega
    · have hge : (k < len1 ∧ k = 10) ∨ ¬ k < len1 := by omega
      clear HA HB HC hlt
      have HT := Lib.hid (fun w' (x' : Ext [] wr w') => P.t.ext x' (by simp) (by simp))
      have HR := Lib.hid (fun w' (x' : Ext [] wr w') => P.r.ext x' (by simp) (by simp))
      have HBC := Lib.hid (fun w' (x' : Ext [] wr w') => (⟨(BC.ext (x.trans x') (by simp)).cell 1, (BC.ext (x.trans x') (by simp)).lt⟩ : w'.cell? ⟨bc, 1, none⟩ = some (.slice a2 ch.length cap2) ∧ bc < w'.heap.size))
      have HGR := Lib.hid (fun w' (x' : Ext [] wr w') => HG.out w' (x.trans x'))
      have HSR := Lib.hid (fun w' (x' : Ext [] wr w') => HSC.out w' (x.trans x'))
      have HXW := Lib.hid (fun w' (x' : Ext [] wr w') => x0.trans (x.trans x'))
      have HS2 := Lib.hid (fun (hi : 0 < ch.length) => (⟨(HS0.out hi).1, Nat.lt_of_lt_of_le (HS0.out hi).2 x.size⟩ : a2 = some ⟨b2, o2, none⟩ ∧ b2 < wr.heap.size))
      clear P BC HG HSC x x0 HS0
      generalize hbt : w0.heap.size + 1 = bt at *
      clear hbt hbc hf3
      rcases hge with ⟨hlt', rfl⟩ | hlt'
      all_goals
        go_wp2_with fail
        clear hbc0 hbcl
        generalize hw5 : wr = w5 at *
        clear hw5
        go_loopw [6, 7, 8] (fun p s i wr => ∃ (k : Nat) (bs : List Nat), i = .int .i64 k ∧ p = ptrV bs ∧ s = .bool (sndB T (ch.take k).reverse) ∧ k ≤ ch.length ∧ k ≤ 6 ∧ bs.length = k ∧ Hid (Desc bs) ∧ Hid (TokAt wr bs (ch.take k).reverse) ∧ Ext [] w5 wr) (fun _ _ i _ => 6 - (intOf i).toNat)
        case atStart => exact ⟨0, [], rfl, rfl, rfl, Nat.zero_le _, by omega, rfl, Lib.hid List.Pairwise.nil, Lib.hid trivial, Ext.refl _ _⟩
        case round =>
          clear hlt'
          obtain ⟨k, bs, rfl, rfl, rfl, hkl, hk6, hbk, HD, HTK, x⟩ := hrel
          have hb1 := HBC.out wr x
          obtain ⟨hb1, hb1l⟩ := hb1
          by_cases hlt2 : k < ch.length ∧ k < 6
          · obtain ⟨hlt, h6⟩ := hlt2
            obtain ⟨rfl, hb2⟩ := HS2.out (by omega)
            have hcs := HSR.out wr x k hlt
            have HTR := Lib.hid (take_rev ch k hlt)
            obtain ⟨⟨sa, sr⟩, hs⟩ : ∃ s, ch[k] = s := ⟨_, rfl⟩
            rw [hs] at hcs HTR
            dsimp only at hcs
            obtain ⟨c0, c1, c2, c3, c4, c5, c6⟩ := hcs
            have hb2l := Nat.lt_of_lt_of_le hb2 x.size
            clear hs
            obtain ⟨w6, hw6⟩ : ∃ w6, w6 = wr.alloc (.cells #[.int .i64 sa, .int .u16 (sr.c.toNat : Int), .int .u16 (sr.p.toNat : Int), .int .u16 (sr.m.toNat : Int), .int .u16 (sr.h.toNat : Int), .bool sr.v, .bool sr.s] 52) := ⟨_, rfl⟩
            have BS : Blk w6 wr.heap.size 52 (stCells (sa, sr)) := by rw [hw6]; exact Blk.new _ _ _
            have X6 : Ext [] wr w6 := by rw [hw6]; exact (Ext.refl _ _).alloc _
            have HBS := Lib.hid (fun w' (x' : Ext [] w6 w') => BS.ext x' (by simp))
            have HTO := Lib.hid (fun r w' => to_any r w')
            unfold Rt.val at HTO
            by_cases hk0 : k = 0
            · have hbk0 : ((k : Int) == 0) = true := by simp [hk0]
              have hrn : (ch.take k).reverse = [] := by rw [hk0]; simp
              have HE := Lib.hid (show soundB T ((sa, sr) :: (ch.take k).reverse) = (sr.within Rt.all && inR T sa) from by rw [hrn, snd_one])
              have HRA := Lib.hid rall_any
              have HRW := Lib.hid (fun w' => rwithin_any sr Rt.all w')
              have HHAS := Lib.hid (fun w' (x' : Ext [] w6 w') => has_any bw bu c' sa T w' (HR.out _ (x.trans (X6.trans x'))))
              rw [show decide (0 ≤ sa ∧ sa < (T.len : Int)) = inR T sa from rfl] at HHAS
              have hk0' : ¬ 6 ≤ k := by omega
              unfold Rt.val at HRW HRA
              clear hk0 hrn
              go_upto_region 14 with (fail)
              rw [← hw6]
              clear hw6 c0 c1 c2 c3 c4 c5 c6 BS
              generalize wr.heap.size = ns at *
              have zz : Ext [] w6 w6.drew := (Ext.refl _ _).drew
              refine wp_region_held_drew (S := fun w' => Ext [] w6 w') (by kernel_rfl) zz (fun hS => ?_)
              cases hq : sr.within Rt.all with
              | false =>
                rw [hq] at HE HRW
                rw [Bool.false_and] at HE
                refine wpAnyH_take (i := 0) (oi := ⟨some 56, _, _, _, _, _⟩) (v := ?_) rfl (by kernel_rfl) (by kernel_rfl) (by kernel_rfl) (fun _ _ _ h => h) (Or.inl ⟨by rfl, ?_⟩) (by assumption) ?_
                rotate_left 1
                · (intro w hSw; (try dsimp only at hSw); go_split_ands; (try go_simp); (try with_reducible rfl))
                try simp only [Act.put, List.setIfInBounds_toArray, List.set_cons_zero, List.set_cons_succ]
                refine wpAnyH_take (i := 1) (oi := ⟨some 57, _, _, _, _, _⟩) (v := ?_) rfl (by kernel_rfl) (by kernel_rfl) (by kernel_rfl) (fun _ _ _ h => h) (Or.inl ⟨by rfl, ?_⟩) (by assumption) ?_
                rotate_left 1
                · (intro w hSw; (try dsimp only at hSw); go_split_ands; obtain ⟨p0, p1, p2, p3, p4, p5, p6, p7⟩ := st_cells (HBS.out _ hSw); (try go_simp); (try with_reducible rfl))
                try simp only [Act.put, List.setIfInBounds_toArray, List.set_cons_zero, List.set_cons_succ]
                refine wpAnyH_ready (rs := [2]) (by kernel_rfl) (by simp) ?_
                refine AllReadyH.cons (o := ⟨some 58, _, _, _, _, _⟩) rfl (fun K hK => ?_) AllReadyH.nil
                go_simp
                refine (HRA.out _).mono ?_
                rintro e W2 ⟨rfl, x6⟩
                go_simp
                have hk := hS.trans x6
                refine hK.out _ _ hk (fun hS => ?_)
                clear hK K
                try simp only [Act.put, List.setIfInBounds_toArray, List.set_cons_zero, List.set_cons_succ]
                generalize W2 = wd at *
                refine wpAnyH_ready (rs := [3]) (by kernel_rfl) (by simp) ?_
                refine AllReadyH.cons (o := ⟨some 59, _, _, _, _, _⟩) rfl (fun K hK => ?_) AllReadyH.nil
                go_simp
                refine (HRW.out _).mono ?_
                rintro e W3 ⟨rfl, x7⟩
                go_simp
                have hk := hS.trans x7
                refine hK.out _ _ hk (fun hS => ?_)
                clear hK K
                try simp only [Act.put, List.setIfInBounds_toArray, List.set_cons_zero, List.set_cons_succ]
                generalize W3 = wx at *
                refine wpAnyH_take (i := 4) (oi := ⟨some 60, _, _, _, _, _⟩) (v := ?_) rfl (by kernel_rfl) (by kernel_rfl) (by kernel_rfl) (fun _ _ _ h => h) (Or.inl ⟨by rfl, ?_⟩) (by assumption) ?_
                rotate_left 1
                · (intro w hSw; (try dsimp only at hSw); go_split_ands; (try go_simp); (try with_reducible rfl))
                try simp only [Act.put, List.setIfInBounds_toArray, List.set_cons_zero, List.set_cons_succ]
                refine wpAnyH_take (i := 5) (oi := ⟨some 61, _, _, _, _, _⟩) (v := _) rfl (by kernel_rfl) (by kernel_rfl) (by kernel_rfl) (fun _ _ _ h => h) (Or.inr ⟨by rfl, rfl⟩) (by assumption) ?_
                try simp only [Act.put, List.setIfInBounds_toArray, List.set_cons_zero, List.set_cons_succ]
                refine wpAnyH_take (i := 6) (oi := ⟨some 62, _, _, _, _, _⟩) (v := _) rfl (by kernel_rfl) (by kernel_rfl) (by kernel_rfl) (fun _ _ _ h => h) (Or.inr ⟨by rfl, rfl⟩) (by assumption) ?_
                try simp only [Act.put, List.setIfInBounds_toArray, List.set_cons_zero, List.set_cons_succ]
                refine wpAnyH_take (i := 7) (oi := ⟨some 63, _, _, _, _, _⟩) (v := _) rfl (by kernel_rfl) (by kernel_rfl) (by kernel_rfl) (fun _ _ _ h => h) (Or.inr ⟨by rfl, rfl⟩) (by assumption) ?_
                try simp only [Act.put, List.setIfInBounds_toArray, List.set_cons_zero, List.set_cons_succ]
                refine wpAnyH_take (i := 8) (oi := ⟨some 64, _, _, _, _, _⟩) (v := _) rfl (by kernel_rfl) (by kernel_rfl) (by kernel_rfl) (fun _ _ _ h => h) (Or.inr ⟨by rfl, rfl⟩) (by assumption) ?_
                try simp only [Act.put, List.setIfInBounds_toArray, List.set_cons_zero, List.set_cons_succ]
                refine wpAnyH_take (i := 9) (oi := ⟨some 65, _, _, _, _, _⟩) (v := ?_) rfl (by kernel_rfl) (by kernel_rfl) (by kernel_rfl) (fun _ _ _ h => h) (Or.inl ⟨by rfl, ?_⟩) (by assumption) ?_
                rotate_left 1
                · (intro w hSw; (try dsimp only at hSw); go_split_ands; (try go_simp); (try with_reducible rfl))
                try simp only [Act.put, List.setIfInBounds_toArray, List.set_cons_zero, List.set_cons_succ]
                refine wpAnyH_take (i := 10) (oi := ⟨some 7, _, _, _, _, _⟩) (v := ?_) rfl (by kernel_rfl) (by kernel_rfl) (by kernel_rfl) (fun _ _ _ h => h) (Or.inl ⟨by rfl, ?_⟩) (by assumption) ?_
                rotate_left 1
                · (intro w hSw; (try dsimp only at hSw); go_split_ands; (try go_simp); (try with_reducible rfl))
                try simp only [Act.put, List.setIfInBounds_toArray, List.set_cons_zero, List.set_cons_succ]
                refine wpAnyH_done (by kernel_rfl) ?_ _
                have X : Ext [] w6 wx := hS
                clear hS HRA HRW HHAS zz
                obtain ⟨o, ho⟩ := ptrV_ptr bs
                rw [ho]
                have HO := Lib.hid ho
                clear ho
                go_upto_region 17 with (fail)
                have zz : Ext [] wx wx.drew := (Ext.refl _ _).drew
                refine wp_region_held_drew (S := fun w' => Ext [] wx w') (by kernel_rfl) zz (fun hS => ?_)
                refine wpAnyH_take (i := 0) (oi := ⟨some 88, _, _, _, _, _⟩) (v := ?_) rfl (by kernel_rfl) (by kernel_rfl) (by kernel_rfl) (fun _ _ _ h => h) (Or.inl ⟨by rfl, ?_⟩) (by assumption) ?_
                rotate_left 1
                · (intro w hSw; (try dsimp only at hSw); go_split_ands; (try go_simp); (try with_reducible rfl))
                try simp only [Act.put, List.setIfInBounds_toArray, List.set_cons_zero, List.set_cons_succ]
                refine wpAnyH_take (i := 1) (oi := ⟨some 89, _, _, _, _, _⟩) (v := ?_) rfl (by kernel_rfl) (by kernel_rfl) (by kernel_rfl) (fun _ _ _ h => h) (Or.inl ⟨by rfl, ?_⟩) (by assumption) ?_
                rotate_left 1
                · (intro w hSw; (try dsimp only at hSw); go_split_ands; obtain ⟨p0, p1, p2, p3, p4, p5, p6, p7⟩ := st_cells (HBS.out _ (X.trans hSw)); (try go_simp); (try with_reducible rfl))
                try simp only [Act.put, List.setIfInBounds_toArray, List.set_cons_zero, List.set_cons_succ]
                refine wpAnyH_take (i := 2) (oi := ⟨some 90, _, _, _, _, _⟩) (v := ?_) rfl (by kernel_rfl) (by kernel_rfl) (by kernel_rfl) (fun _ _ _ h => h) (Or.inl ⟨by rfl, ?_⟩) (by assumption) ?_
                rotate_left 1
                · (intro w hSw; (try dsimp only at hSw); go_split_ands; (try go_simp); (try with_reducible rfl))
                try simp only [Act.put, List.setIfInBounds_toArray, List.set_cons_zero, List.set_cons_succ]
                refine wpAnyH_take (i := 3) (oi := ⟨some 91, _, _, _, _, _⟩) (v := ?_) rfl (by kernel_rfl) (by kernel_rfl) (by kernel_rfl) (fun _ _ _ h => h) (Or.inl ⟨by rfl, ?_⟩) (by assumption) ?_
                rotate_left 1
                · (intro w hSw; (try dsimp only at hSw); go_split_ands; obtain ⟨p0, p1, p2, p3, p4, p5, p6, p7⟩ := st_cells (HBS.out _ (X.trans hSw)); (try go_simp); (try with_reducible rfl))
                try simp only [Act.put, List.setIfInBounds_toArray, List.set_cons_zero, List.set_cons_succ]
                refine wpAnyH_take (i := 5) (oi := ⟨some 93, _, _, _, _, _⟩) (v := ?_) rfl (by kernel_rfl) (by kernel_rfl) (by kernel_rfl) (fun _ _ _ h => h) (Or.inl ⟨by rfl, ?_⟩) (by assumption) ?_
                rotate_left 1
                · (intro w hSw; (try dsimp only at hSw); go_split_ands; (try go_simp); (try with_reducible rfl))
                try simp only [Act.put, List.setIfInBounds_toArray, List.set_cons_zero, List.set_cons_succ]
                refine wpAnyH_ready (rs := [4]) (by kernel_rfl) (by simp) ?_
                refine AllReadyH.cons (o := ⟨some 92, _, _, _, _, _⟩) rfl (fun K hK => ?_) AllReadyH.nil
                go_simp
                refine (HTO.out sr _).mono ?_
                rintro e W4 ⟨rfl, x6⟩
                go_simp
                have hk := hS.trans x6
                refine hK.out _ _ hk (fun hS => ?_)
                clear hK K
                try simp only [Act.put, List.setIfInBounds_toArray, List.set_cons_zero, List.set_cons_succ]
                generalize W4 = wd at *
                refine wpAnyH_take (i := 6) (oi := ⟨some 94, _, _, _, _, _⟩) (v := ?_) rfl (by kernel_rfl) (by kernel_rfl) (by kernel_rfl) (fun _ _ _ h => h) (Or.inl ⟨by rfl, ?_⟩) (by assumption) ?_
                rotate_left 1
                · (intro w hSw; (try dsimp only at hSw); go_split_ands; (try go_simp); (try with_reducible rfl))
                try simp only [Act.put, List.setIfInBounds_toArray, List.set_cons_zero, List.set_cons_succ]
                refine wpAnyH_ready (rs := [7]) (by kernel_rfl) (by simp) ?_
                refine AllReadyH.cons (o := ⟨some 95, _, _, _, _, _⟩) rfl (fun K hK => ?_) AllReadyH.nil
                go_simp
                refine hK.out _ _ (hS.alloc _) (fun hS2 => ?_)
                clear hK K
                try simp only [Act.put, List.setIfInBounds_toArray, List.set_cons_zero, List.set_cons_succ]
                refine wpAnyH_take (i := 8) (oi := ⟨some 6, _, _, _, _, _⟩) (v := ?_) rfl (by kernel_rfl) (by kernel_rfl) (by kernel_rfl) (fun _ _ _ h => h) (Or.inl ⟨by rfl, ?_⟩) (by assumption) ?_
                rotate_left 1
                · (intro w hSw; (try dsimp only at hSw); go_split_ands; (try go_simp); (try with_reducible rfl))
                try simp only [Act.put, List.setIfInBounds_toArray, List.set_cons_zero, List.set_cons_succ]
                refine wpAnyH_done (by kernel_rfl) ?_ _
                have BN : Blk (wd.alloc (.cells #[.int .i64 sa, .int .u16 (sr.c.toNat : Int), .int .u16 (sr.p.toNat : Int), .int .u16 (sr.m.toNat : Int), .int .u16 (sr.h.toNat : Int), .bool sr.v, .bool sr.s, .pointer o] 59)) wd.heap.size 59 (tkCells (sa, sr) (ptrV bs)) := by rw [HO.out]; exact Blk.new _ _ _
                have hnb : wr.heap.size ≤ wd.heap.size := (X6.trans (X.trans hS)).size
                have X8 : Ext [] wr (wd.alloc (.cells #[.int .i64 sa, .int .u16 (sr.c.toNat : Int), .int .u16 (sr.p.toNat : Int), .int .u16 (sr.m.toNat : Int), .int .u16 (sr.h.toNat : Int), .bool sr.v, .bool sr.s, .pointer o] 59)) := X6.trans (X.trans hS2)
                generalize (wd.alloc (.cells #[.int .i64 sa, .int .u16 (sr.c.toNat : Int), .int .u16 (sr.p.toNat : Int), .int .u16 (sr.m.toNat : Int), .int .u16 (sr.h.toNat : Int), .bool sr.v, .bool sr.s, .pointer o] 59)) = w8 at *
                generalize wd.heap.size = nb at *
                have HNEW : TokAt w8 (nb :: bs) ((sa, sr) :: (ch.take k).reverse) := ⟨BN, TokAt.ext0 X8 HTK.out⟩
                have HDN : Desc (nb :: bs) := List.pairwise_cons.2 ⟨fun c hc => Nat.lt_of_lt_of_le (TokAt.cons HTK.out c hc) hnb, HD.out⟩
                have hss := sound_any bt bl c (nb :: bs) T ((sa, sr) :: (ch.take k).reverse) w8 (HT.out _ (x.trans X8)) HNEW HDN
                rw [HE.out, show ptrV (nb :: bs) = .pointer (some ⟨nb, 0, none⟩) from rfl] at hss
                have HSS := Lib.hid hss
                have HNW := Lib.hid HNEW
                have HDN := Lib.hid HDN
                clear hss HNEW BN hS hS2 hnb
                go_wp2_with fail
                refine HSS.out.mono ?_
                rintro e w9 ⟨rfl, x9⟩
                clear HSS
                have hcc := chain_any (nb :: bs) ((sa, sr) :: (ch.take k).reverse) w9 (TokAt.ext0 x9 HNW.out) (by rw [List.length_cons]; omega)
                rw [show ptrV (nb :: bs) = .pointer (some ⟨nb, 0, none⟩) from rfl] at hcc
                have HCCC := Lib.hid hcc
                clear hcc
                go_wp2_with fail
                refine HCCC.out.mono ?_
                rintro e w10 ⟨v10, rfl, hown, x10, -⟩
                rw [List.length_cons, hbk] at hown
                obtain ⟨va, vc, rfl⟩ := owns_slice hown
                clear hown HCCC
                go_wp2_with fail
                go_roundw
                case rel =>
                  refine ⟨k + 1, nb :: bs, by go_num, rfl, ?_, by omega, by omega, by rw [List.length_cons, hbk], HDN, Lib.hid ?_, x.trans (X8.trans (x9.trans x10))⟩
                  · rw [HTR.out]
                    unfold sndB
                    rw [HE.out]
                    rfl
                  · rw [HTR.out]
                    exact TokAt.ext0 (x9.trans x10) HNW.out
                case measure => simp [intOf]; omega
              | true =>
                rw [hq] at HE HRW
                rw [Bool.true_and] at HE
                generalize inR T sa = qh at *
                refine wpAnyH_take (i := 0) (oi := ⟨some 56, _, _, _, _, _⟩) (v := ?_) rfl (by kernel_rfl) (by kernel_rfl) (by kernel_rfl) (fun _ _ _ h => h) (Or.inl ⟨by rfl, ?_⟩) (by assumption) ?_
                rotate_left 1
                · (intro w hSw; (try dsimp only at hSw); go_split_ands; (try go_simp); (try with_reducible rfl))
                try simp only [Act.put, List.setIfInBounds_toArray, List.set_cons_zero, List.set_cons_succ]
                refine wpAnyH_take (i := 1) (oi := ⟨some 57, _, _, _, _, _⟩) (v := ?_) rfl (by kernel_rfl) (by kernel_rfl) (by kernel_rfl) (fun _ _ _ h => h) (Or.inl ⟨by rfl, ?_⟩) (by assumption) ?_
                rotate_left 1
                · (intro w hSw; (try dsimp only at hSw); go_split_ands; obtain ⟨p0, p1, p2, p3, p4, p5, p6, p7⟩ := st_cells (HBS.out _ hSw); (try go_simp); (try with_reducible rfl))
                try simp only [Act.put, List.setIfInBounds_toArray, List.set_cons_zero, List.set_cons_succ]
                refine wpAnyH_ready (rs := [2]) (by kernel_rfl) (by simp) ?_
                refine AllReadyH.cons (o := ⟨some 58, _, _, _, _, _⟩) rfl (fun K hK => ?_) AllReadyH.nil
                go_simp
                refine (HRA.out _).mono ?_
                rintro e W2 ⟨rfl, x6⟩
                go_simp
                have hk := hS.trans x6
                refine hK.out _ _ hk (fun hS => ?_)
                clear hK K
                try simp only [Act.put, List.setIfInBounds_toArray, List.set_cons_zero, List.set_cons_succ]
                generalize W2 = wd at *
                refine wpAnyH_ready (rs := [3]) (by kernel_rfl) (by simp) ?_
                refine AllReadyH.cons (o := ⟨some 59, _, _, _, _, _⟩) rfl (fun K hK => ?_) AllReadyH.nil
                go_simp
                refine (HRW.out _).mono ?_
                rintro e W3 ⟨rfl, x7⟩
                go_simp
                have hk := hS.trans x7
                refine hK.out _ _ hk (fun hS => ?_)
                clear hK K
                try simp only [Act.put, List.setIfInBounds_toArray, List.set_cons_zero, List.set_cons_succ]
                generalize W3 = we at *
                refine wpAnyH_take (i := 4) (oi := ⟨some 60, _, _, _, _, _⟩) (v := ?_) rfl (by kernel_rfl) (by kernel_rfl) (by kernel_rfl) (fun _ _ _ h => h) (Or.inl ⟨by rfl, ?_⟩) (by assumption) ?_
                rotate_left 1
                · (intro w hSw; (try dsimp only at hSw); go_split_ands; (try go_simp); (try with_reducible rfl))
                try simp only [Act.put, List.setIfInBounds_toArray, List.set_cons_zero, List.set_cons_succ]
                refine wpAnyH_take (i := 5) (oi := ⟨some 61, _, _, _, _, _⟩) (v := ?_) rfl (by kernel_rfl) (by kernel_rfl) (by kernel_rfl) (fun _ _ _ h => h) (Or.inl ⟨by rfl, ?_⟩) (by assumption) ?_
                rotate_left 1
                · (intro w hSw; (try dsimp only at hSw); go_split_ands; (try go_simp); (try with_reducible rfl))
                try simp only [Act.put, List.setIfInBounds_toArray, List.set_cons_zero, List.set_cons_succ]
                refine wpAnyH_take (i := 6) (oi := ⟨some 62, _, _, _, _, _⟩) (v := ?_) rfl (by kernel_rfl) (by kernel_rfl) (by kernel_rfl) (fun _ _ _ h => h) (Or.inl ⟨by rfl, ?_⟩) (by assumption) ?_
                rotate_left 1
                · (intro w hSw; (try dsimp only at hSw); go_split_ands; (try go_simp); (try with_reducible rfl))
                try simp only [Act.put, List.setIfInBounds_toArray, List.set_cons_zero, List.set_cons_succ]
                refine wpAnyH_take (i := 7) (oi := ⟨some 63, _, _, _, _, _⟩) (v := ?_) rfl (by kernel_rfl) (by kernel_rfl) (by kernel_rfl) (fun _ _ _ h => h) (Or.inl ⟨by rfl, ?_⟩) (by assumption) ?_
                rotate_left 1
                · (intro w hSw; (try dsimp only at hSw); go_split_ands; obtain ⟨p0, p1, p2, p3, p4, p5, p6, p7⟩ := st_cells (HBS.out _ hSw); (try go_simp); (try with_reducible rfl))
                try simp only [Act.put, List.setIfInBounds_toArray, List.set_cons_zero, List.set_cons_succ]
                refine wpAnyH_ready (rs := [8]) (by kernel_rfl) (by simp) ?_
                refine AllReadyH.cons (o := ⟨some 64, _, _, _, _, _⟩) rfl (fun K hK => ?_) AllReadyH.nil
                go_simp
                refine (HHAS.out _ hS).mono ?_
                rintro e W8 ⟨rfl, rfl⟩
                go_simp
                have hk := hS
                refine hK.out _ _ hk (fun hS => ?_)
                clear hK K
                try simp only [Act.put, List.setIfInBounds_toArray, List.set_cons_zero, List.set_cons_succ]
                refine wpAnyH_take (i := 9) (oi := ⟨some 65, _, _, _, _, _⟩) (v := ?_) rfl (by kernel_rfl) (by kernel_rfl) (by kernel_rfl) (fun _ _ _ h => h) (Or.inl ⟨by rfl, ?_⟩) (by assumption) ?_
                rotate_left 1
                · (intro w hSw; (try dsimp only at hSw); go_split_ands; (try go_simp); (try with_reducible rfl))
                try simp only [Act.put, List.setIfInBounds_toArray, List.set_cons_zero, List.set_cons_succ]
                refine wpAnyH_take (i := 10) (oi := ⟨some 7, _, _, _, _, _⟩) (v := ?_) rfl (by kernel_rfl) (by kernel_rfl) (by kernel_rfl) (fun _ _ _ h => h) (Or.inl ⟨by rfl, ?_⟩) (by assumption) ?_
                rotate_left 1
                · (intro w hSw; (try dsimp only at hSw); go_split_ands; (try go_simp); (try with_reducible rfl))
                try simp only [Act.put, List.setIfInBounds_toArray, List.set_cons_zero, List.set_cons_succ]
                refine wpAnyH_done (by kernel_rfl) ?_ _
                have X : Ext [] w6 we := hS
                generalize hwx : we = wx at *
                clear hwx
                clear hS HRA HRW HHAS zz
                obtain ⟨o, ho⟩ := ptrV_ptr bs
                rw [ho]
                have HO := Lib.hid ho
                clear ho
                go_upto_region 17 with (fail)
                have zz : Ext [] wx wx.drew := (Ext.refl _ _).drew
                refine wp_region_held_drew (S := fun w' => Ext [] wx w') (by kernel_rfl) zz (fun hS => ?_)
                refine wpAnyH_take (i := 0) (oi := ⟨some 88, _, _, _, _, _⟩) (v := ?_) rfl (by kernel_rfl) (by kernel_rfl) (by kernel_rfl) (fun _ _ _ h => h) (Or.inl ⟨by rfl, ?_⟩) (by assumption) ?_
                rotate_left 1
                · (intro w hSw; (try dsimp only at hSw); go_split_ands; (try go_simp); (try with_reducible rfl))
                try simp only [Act.put, List.setIfInBounds_toArray, List.set_cons_zero, List.set_cons_succ]
                refine wpAnyH_take (i := 1) (oi := ⟨some 89, _, _, _, _, _⟩) (v := ?_) rfl (by kernel_rfl) (by kernel_rfl) (by kernel_rfl) (fun _ _ _ h => h) (Or.inl ⟨by rfl, ?_⟩) (by assumption) ?_
                rotate_left 1
                · (intro w hSw; (try dsimp only at hSw); go_split_ands; obtain ⟨p0, p1, p2, p3, p4, p5, p6, p7⟩ := st_cells (HBS.out _ (X.trans hSw)); (try go_simp); (try with_reducible rfl))
                try simp only [Act.put, List.setIfInBounds_toArray, List.set_cons_zero, List.set_cons_succ]
                refine wpAnyH_take (i := 2) (oi := ⟨some 90, _, _, _, _, _⟩) (v := ?_) rfl (by kernel_rfl) (by kernel_rfl) (by kernel_rfl) (fun _ _ _ h => h) (Or.inl ⟨by rfl, ?_⟩) (by assumption) ?_
                rotate_left 1
                · (intro w hSw; (try dsimp only at hSw); go_split_ands; (try go_simp); (try with_reducible rfl))
                try simp only [Act.put, List.setIfInBounds_toArray, List.set_cons_zero, List.set_cons_succ]
                refine wpAnyH_take (i := 3) (oi := ⟨some 91, _, _, _, _, _⟩) (v := ?_) rfl (by kernel_rfl) (by kernel_rfl) (by kernel_rfl) (fun _ _ _ h => h) (Or.inl ⟨by rfl, ?_⟩) (by assumption) ?_
                rotate_left 1
                · (intro w hSw; (try dsimp only at hSw); go_split_ands; obtain ⟨p0, p1, p2, p3, p4, p5, p6, p7⟩ := st_cells (HBS.out _ (X.trans hSw)); (try go_simp); (try with_reducible rfl))
                try simp only [Act.put, List.setIfInBounds_toArray, List.set_cons_zero, List.set_cons_succ]
                refine wpAnyH_take (i := 5) (oi := ⟨some 93, _, _, _, _, _⟩) (v := ?_) rfl (by kernel_rfl) (by kernel_rfl) (by kernel_rfl) (fun _ _ _ h => h) (Or.inl ⟨by rfl, ?_⟩) (by assumption) ?_
                rotate_left 1
                · (intro w hSw; (try dsimp only at hSw); go_split_ands; (try go_simp); (try with_reducible rfl))
                try simp only [Act.put, List.setIfInBounds_toArray, List.set_cons_zero, List.set_cons_succ]
                refine wpAnyH_ready (rs := [4]) (by kernel_rfl) (by simp) ?_
                refine AllReadyH.cons (o := ⟨some 92, _, _, _, _, _⟩) rfl (fun K hK => ?_) AllReadyH.nil
                go_simp
                refine (HTO.out sr _).mono ?_
                rintro e W4 ⟨rfl, x6⟩
                go_simp
                have hk := hS.trans x6
                refine hK.out _ _ hk (fun hS => ?_)
                clear hK K
                try simp only [Act.put, List.setIfInBounds_toArray, List.set_cons_zero, List.set_cons_succ]
                generalize W4 = wd at *
                refine wpAnyH_take (i := 6) (oi := ⟨some 94, _, _, _, _, _⟩) (v := ?_) rfl (by kernel_rfl) (by kernel_rfl) (by kernel_rfl) (fun _ _ _ h => h) (Or.inl ⟨by rfl, ?_⟩) (by assumption) ?_
                rotate_left 1
                · (intro w hSw; (try dsimp only at hSw); go_split_ands; (try go_simp); (try with_reducible rfl))
                try simp only [Act.put, List.setIfInBounds_toArray, List.set_cons_zero, List.set_cons_succ]
                refine wpAnyH_ready (rs := [7]) (by kernel_rfl) (by simp) ?_
                refine AllReadyH.cons (o := ⟨some 95, _, _, _, _, _⟩) rfl (fun K hK => ?_) AllReadyH.nil
                go_simp
                refine hK.out _ _ (hS.alloc _) (fun hS2 => ?_)
                clear hK K
                try simp only [Act.put, List.setIfInBounds_toArray, List.set_cons_zero, List.set_cons_succ]
                refine wpAnyH_take (i := 8) (oi := ⟨some 6, _, _, _, _, _⟩) (v := ?_) rfl (by kernel_rfl) (by kernel_rfl) (by kernel_rfl) (fun _ _ _ h => h) (Or.inl ⟨by rfl, ?_⟩) (by assumption) ?_
                rotate_left 1
                · (intro w hSw; (try dsimp only at hSw); go_split_ands; (try go_simp); (try with_reducible rfl))
                try simp only [Act.put, List.setIfInBounds_toArray, List.set_cons_zero, List.set_cons_succ]
                refine wpAnyH_done (by kernel_rfl) ?_ _
                have BN : Blk (wd.alloc (.cells #[.int .i64 sa, .int .u16 (sr.c.toNat : Int), .int .u16 (sr.p.toNat : Int), .int .u16 (sr.m.toNat : Int), .int .u16 (sr.h.toNat : Int), .bool sr.v, .bool sr.s, .pointer o] 59)) wd.heap.size 59 (tkCells (sa, sr) (ptrV bs)) := by rw [HO.out]; exact Blk.new _ _ _
                have hnb : wr.heap.size ≤ wd.heap.size := (X6.trans (X.trans hS)).size
                have X8 : Ext [] wr (wd.alloc (.cells #[.int .i64 sa, .int .u16 (sr.c.toNat : Int), .int .u16 (sr.p.toNat : Int), .int .u16 (sr.m.toNat : Int), .int .u16 (sr.h.toNat : Int), .bool sr.v, .bool sr.s, .pointer o] 59)) := X6.trans (X.trans hS2)
                generalize (wd.alloc (.cells #[.int .i64 sa, .int .u16 (sr.c.toNat : Int), .int .u16 (sr.p.toNat : Int), .int .u16 (sr.m.toNat : Int), .int .u16 (sr.h.toNat : Int), .bool sr.v, .bool sr.s, .pointer o] 59)) = w8 at *
                generalize wd.heap.size = nb at *
                have HNEW : TokAt w8 (nb :: bs) ((sa, sr) :: (ch.take k).reverse) := ⟨BN, TokAt.ext0 X8 HTK.out⟩
                have HDN : Desc (nb :: bs) := List.pairwise_cons.2 ⟨fun c hc => Nat.lt_of_lt_of_le (TokAt.cons HTK.out c hc) hnb, HD.out⟩
                have hss := sound_any bt bl c (nb :: bs) T ((sa, sr) :: (ch.take k).reverse) w8 (HT.out _ (x.trans X8)) HNEW HDN
                rw [HE.out, show ptrV (nb :: bs) = .pointer (some ⟨nb, 0, none⟩) from rfl] at hss
                have HSS := Lib.hid hss
                have HNW := Lib.hid HNEW
                have HDN := Lib.hid HDN
                clear hss HNEW BN hS hS2 hnb
                go_wp2_with fail
                refine HSS.out.mono ?_
                rintro e w9 ⟨rfl, x9⟩
                clear HSS
                have hcc := chain_any (nb :: bs) ((sa, sr) :: (ch.take k).reverse) w9 (TokAt.ext0 x9 HNW.out) (by rw [List.length_cons]; omega)
                rw [show ptrV (nb :: bs) = .pointer (some ⟨nb, 0, none⟩) from rfl] at hcc
                have HCCC := Lib.hid hcc
                clear hcc
                go_wp2_with fail
                refine HCCC.out.mono ?_
                rintro e w10 ⟨v10, rfl, hown, x10, -⟩
                rw [List.length_cons, hbk] at hown
                obtain ⟨va, vc, rfl⟩ := owns_slice hown
                clear hown HCCC
                go_wp2_with fail
                go_roundw
                case rel =>
                  refine ⟨k + 1, nb :: bs, by go_num, rfl, ?_, by omega, by omega, by rw [List.length_cons, hbk], HDN, Lib.hid ?_, x.trans (X8.trans (x9.trans x10))⟩
                  · rw [HTR.out]
                    unfold sndB
                    rw [HE.out]
                    rfl
                  · rw [HTR.out]
                    exact TokAt.ext0 (x9.trans x10) HNW.out
                case measure => simp [intOf]; omega
            · obtain ⟨k', rfl⟩ : ∃ k', k = k' + 1 := ⟨k - 1, by omega⟩
              have hcs := HSR.out wr x k' (by omega)
              have hrr := take_rev ch k' (by omega)
              obtain ⟨⟨ta, tr⟩, hs⟩ : ∃ s, ch[k'] = s := ⟨_, rfl⟩
              rw [hs] at hcs hrr
              dsimp only at hcs
              have HSU := Lib.hid (fun w' (x' : Ext [] wr w') => HSR.out w' (x.trans x') k' (by omega))
              simp only [hs] at HSU
              have hE0 : soundB T ((sa, sr) :: (ch.take (k' + 1)).reverse) = (soundB T (ch.take (k' + 1)).reverse && (T.inside sa ta && sr.within tr)) := by rw [hrr, snd_more]
              have hsn : sndB T (ch.take (k' + 1)).reverse = soundB T (ch.take (k' + 1)).reverse := by rw [hrr]; rfl
              rw [hsn]
              clear hsn hrr hs hk0
              have HI := Lib.hid (fun w' (x' : Ext [] w6 w') => rinside_any bw bu c' sa ta T w' (HR.out _ (x.trans (X6.trans x'))))
              have HRW := Lib.hid (fun w' => rwithin_any sr tr w')
              unfold Rt.val at HRW
              generalize soundB T (ch.take (k' + 1)).reverse = sb at *
              generalize T.inside sa ta = qi at *
              generalize sr.within tr = qw at *
              have HE := Lib.hid hE0
              clear hE0
              clear hcs
              obtain ⟨w7, hw7⟩ : ∃ w7, w7 = w6.alloc (.cells #[.int .i64 ta, .int .u16 (tr.c.toNat : Int), .int .u16 (tr.p.toNat : Int), .int .u16 (tr.m.toNat : Int), .int .u16 (tr.h.toNat : Int), .bool tr.v, .bool tr.s] 52) := ⟨_, rfl⟩
              have BU : Blk w7 w6.heap.size 52 (stCells (ta, tr)) := by rw [hw7]; exact Blk.new _ _ _
              have X7 : Ext [] w6 w7 := by rw [hw7]; exact (Ext.refl _ _).alloc _
              have HBU := Lib.hid (fun w' (x' : Ext [] w7 w') => BU.ext x' (by simp))
              have hbc6 := HBC.out w6 (x.trans X6)
              obtain ⟨hb6, hb6l⟩ := hbc6
              have hd6 := HSU.out w6 X6
              obtain ⟨d0, d1, d2, d3, d4, d5, d6⟩ := hd6
              have hb26 : b2 < w6.heap.size := Nat.lt_of_lt_of_le hb2l X6.size
              have hkr : ((k' + 1 : Nat) : Int) - 1 = (k' : Nat) := by omega
              have hk0 : ¬ (k' + 1 = 0) := by omega
              go_upto_region 15 with (fail)
              rw [← hw6]
              clear hw6 BS c0 c1 c2 c3 c4 c5 c6 hb1 hb1l hb2l
              generalize wr.heap.size = ns at *
              go_upto_region 16 with (fail)
              rw [← hw7]
              clear hw7 BU d0 d1 d2 d3 d4 d5 d6 hb6 hb6l hb26
              generalize w6.heap.size = nu at *
              obtain ⟨p0, p1, p2, p3, p4, p5, p6, p7⟩ := st_cells (HBS.out _ X7)
              obtain ⟨r0, r1, r2, r3, r4, r5, r6, r7⟩ := st_cells (HBU.out _ (Ext.refl _ _))
              cases sb with
              | false =>
                rw [Bool.false_and] at HE
                clear p0 p1 p2 p3 p4 p5 p6 p7 r0 r1 r2 r3 r4 r5 r6 r7
                have X : Ext [] w6 w7 := X7
                generalize hwx : w7 = wx at *
                clear hwx
                obtain ⟨o, ho⟩ := ptrV_ptr bs
                rw [ho]
                have HO := Lib.hid ho
                clear ho
                go_upto_region 17 with (fail)
                have zz : Ext [] wx wx.drew := (Ext.refl _ _).drew
                refine wp_region_held_drew (S := fun w' => Ext [] wx w') (by kernel_rfl) zz (fun hS => ?_)
                refine wpAnyH_take (i := 0) (oi := ⟨some 88, _, _, _, _, _⟩) (v := ?_) rfl (by kernel_rfl) (by kernel_rfl) (by kernel_rfl) (fun _ _ _ h => h) (Or.inl ⟨by rfl, ?_⟩) (by assumption) ?_
                rotate_left 1
                · (intro w hSw; (try dsimp only at hSw); go_split_ands; (try go_simp); (try with_reducible rfl))
                try simp only [Act.put, List.setIfInBounds_toArray, List.set_cons_zero, List.set_cons_succ]
                refine wpAnyH_take (i := 1) (oi := ⟨some 89, _, _, _, _, _⟩) (v := ?_) rfl (by kernel_rfl) (by kernel_rfl) (by kernel_rfl) (fun _ _ _ h => h) (Or.inl ⟨by rfl, ?_⟩) (by assumption) ?_
                rotate_left 1
                · (intro w hSw; (try dsimp only at hSw); go_split_ands; obtain ⟨p0, p1, p2, p3, p4, p5, p6, p7⟩ := st_cells (HBS.out _ (X.trans hSw)); (try go_simp); (try with_reducible rfl))
                try simp only [Act.put, List.setIfInBounds_toArray, List.set_cons_zero, List.set_cons_succ]
                refine wpAnyH_take (i := 2) (oi := ⟨some 90, _, _, _, _, _⟩) (v := ?_) rfl (by kernel_rfl) (by kernel_rfl) (by kernel_rfl) (fun _ _ _ h => h) (Or.inl ⟨by rfl, ?_⟩) (by assumption) ?_
                rotate_left 1
                · (intro w hSw; (try dsimp only at hSw); go_split_ands; (try go_simp); (try with_reducible rfl))
                try simp only [Act.put, List.setIfInBounds_toArray, List.set_cons_zero, List.set_cons_succ]
                refine wpAnyH_take (i := 3) (oi := ⟨some 91, _, _, _, _, _⟩) (v := ?_) rfl (by kernel_rfl) (by kernel_rfl) (by kernel_rfl) (fun _ _ _ h => h) (Or.inl ⟨by rfl, ?_⟩) (by assumption) ?_
                rotate_left 1
                · (intro w hSw; (try dsimp only at hSw); go_split_ands; obtain ⟨p0, p1, p2, p3, p4, p5, p6, p7⟩ := st_cells (HBS.out _ (X.trans hSw)); (try go_simp); (try with_reducible rfl))
                try simp only [Act.put, List.setIfInBounds_toArray, List.set_cons_zero, List.set_cons_succ]
                refine wpAnyH_take (i := 5) (oi := ⟨some 93, _, _, _, _, _⟩) (v := ?_) rfl (by kernel_rfl) (by kernel_rfl) (by kernel_rfl) (fun _ _ _ h => h) (Or.inl ⟨by rfl, ?_⟩) (by assumption) ?_
                rotate_left 1
                · (intro w hSw; (try dsimp only at hSw); go_split_ands; (try go_simp); (try with_reducible rfl))
                try simp only [Act.put, List.setIfInBounds_toArray, List.set_cons_zero, List.set_cons_succ]
                refine wpAnyH_ready (rs := [4]) (by kernel_rfl) (by simp) ?_
                refine AllReadyH.cons (o := ⟨some 92, _, _, _, _, _⟩) rfl (fun K hK => ?_) AllReadyH.nil
                go_simp
                refine (HTO.out sr _).mono ?_
                rintro e W4 ⟨rfl, x6⟩
                go_simp
                have hk := hS.trans x6
                refine hK.out _ _ hk (fun hS => ?_)
                clear hK K
                try simp only [Act.put, List.setIfInBounds_toArray, List.set_cons_zero, List.set_cons_succ]
                generalize W4 = wd at *
                refine wpAnyH_take (i := 6) (oi := ⟨some 94, _, _, _, _, _⟩) (v := ?_) rfl (by kernel_rfl) (by kernel_rfl) (by kernel_rfl) (fun _ _ _ h => h) (Or.inl ⟨by rfl, ?_⟩) (by assumption) ?_
                rotate_left 1
                · (intro w hSw; (try dsimp only at hSw); go_split_ands; (try go_simp); (try with_reducible rfl))
                try simp only [Act.put, List.setIfInBounds_toArray, List.set_cons_zero, List.set_cons_succ]
                refine wpAnyH_ready (rs := [7]) (by kernel_rfl) (by simp) ?_
                refine AllReadyH.cons (o := ⟨some 95, _, _, _, _, _⟩) rfl (fun K hK => ?_) AllReadyH.nil
                go_simp
                refine hK.out _ _ (hS.alloc _) (fun hS2 => ?_)
                clear hK K
                try simp only [Act.put, List.setIfInBounds_toArray, List.set_cons_zero, List.set_cons_succ]
                refine wpAnyH_take (i := 8) (oi := ⟨some 6, _, _, _, _, _⟩) (v := ?_) rfl (by kernel_rfl) (by kernel_rfl) (by kernel_rfl) (fun _ _ _ h => h) (Or.inl ⟨by rfl, ?_⟩) (by assumption) ?_
                rotate_left 1
                · (intro w hSw; (try dsimp only at hSw); go_split_ands; (try go_simp); (try with_reducible rfl))
                try simp only [Act.put, List.setIfInBounds_toArray, List.set_cons_zero, List.set_cons_succ]
                refine wpAnyH_done (by kernel_rfl) ?_ _
                have BN : Blk (wd.alloc (.cells #[.int .i64 sa, .int .u16 (sr.c.toNat : Int), .int .u16 (sr.p.toNat : Int), .int .u16 (sr.m.toNat : Int), .int .u16 (sr.h.toNat : Int), .bool sr.v, .bool sr.s, .pointer o] 59)) wd.heap.size 59 (tkCells (sa, sr) (ptrV bs)) := by rw [HO.out]; exact Blk.new _ _ _
                have hnb : wr.heap.size ≤ wd.heap.size := (X6.trans (X.trans hS)).size
                have X8 : Ext [] wr (wd.alloc (.cells #[.int .i64 sa, .int .u16 (sr.c.toNat : Int), .int .u16 (sr.p.toNat : Int), .int .u16 (sr.m.toNat : Int), .int .u16 (sr.h.toNat : Int), .bool sr.v, .bool sr.s, .pointer o] 59)) := X6.trans (X.trans hS2)
                generalize (wd.alloc (.cells #[.int .i64 sa, .int .u16 (sr.c.toNat : Int), .int .u16 (sr.p.toNat : Int), .int .u16 (sr.m.toNat : Int), .int .u16 (sr.h.toNat : Int), .bool sr.v, .bool sr.s, .pointer o] 59)) = w8 at *
                generalize wd.heap.size = nb at *
                have HNEW : TokAt w8 (nb :: bs) ((sa, sr) :: (ch.take (k' + 1)).reverse) := ⟨BN, TokAt.ext0 X8 HTK.out⟩
                have HDN : Desc (nb :: bs) := List.pairwise_cons.2 ⟨fun c hc => Nat.lt_of_lt_of_le (TokAt.cons HTK.out c hc) hnb, HD.out⟩
                have hss := sound_any bt bl c (nb :: bs) T ((sa, sr) :: (ch.take (k' + 1)).reverse) w8 (HT.out _ (x.trans X8)) HNEW HDN
                rw [HE.out, show ptrV (nb :: bs) = .pointer (some ⟨nb, 0, none⟩) from rfl] at hss
                have HSS := Lib.hid hss
                have HNW := Lib.hid HNEW
                have HDN := Lib.hid HDN
                clear hss HNEW BN hS hS2 hnb
                go_wp2_with fail
                refine HSS.out.mono ?_
                rintro e w9 ⟨rfl, x9⟩
                clear HSS
                have hcc := chain_any (nb :: bs) ((sa, sr) :: (ch.take (k' + 1)).reverse) w9 (TokAt.ext0 x9 HNW.out) (by rw [List.length_cons]; omega)
                rw [show ptrV (nb :: bs) = .pointer (some ⟨nb, 0, none⟩) from rfl] at hcc
                have HCCC := Lib.hid hcc
                clear hcc
                go_wp2_with fail
                refine HCCC.out.mono ?_
                rintro e w10 ⟨v10, rfl, hown, x10, -⟩
                rw [List.length_cons, hbk] at hown
                obtain ⟨va, vc, rfl⟩ := owns_slice hown
                clear hown HCCC
                go_wp2_with fail
                go_roundw
                case rel =>
                  refine ⟨(k' + 1) + 1, nb :: bs, by go_num, rfl, ?_, by omega, by omega, by rw [List.length_cons, hbk], HDN, Lib.hid ?_, x.trans (X8.trans (x9.trans x10))⟩
                  · rw [HTR.out]
                    unfold sndB
                    rw [HE.out]
                    rfl
                  · rw [HTR.out]
                    exact TokAt.ext0 (x9.trans x10) HNW.out
                case measure => simp [intOf]; omega
              | true =>
                rw [Bool.true_and] at HE
                go_wp2_with fail
                refine (HI.out _ X7).mono ?_
                rintro e w8 ⟨rfl, x8⟩
                clear p0 p1 p2 p3 p4 p5 p6 p7 r0 r1 r2 r3 r4 r5 r6 r7
                cases qi with
                | false =>
                  rw [Bool.false_and] at HE
                  have X : Ext [] w6 w8 := X7.trans x8
                  generalize hwx : w8 = wx at *
                  clear hwx
                  obtain ⟨o, ho⟩ := ptrV_ptr bs
                  rw [ho]
                  have HO := Lib.hid ho
                  clear ho
                  go_upto_region 17 with (fail)
                  have zz : Ext [] wx wx.drew := (Ext.refl _ _).drew
                  refine wp_region_held_drew (S := fun w' => Ext [] wx w') (by kernel_rfl) zz (fun hS => ?_)
                  refine wpAnyH_take (i := 0) (oi := ⟨some 88, _, _, _, _, _⟩) (v := ?_) rfl (by kernel_rfl) (by kernel_rfl) (by kernel_rfl) (fun _ _ _ h => h) (Or.inl ⟨by rfl, ?_⟩) (by assumption) ?_
                  rotate_left 1
                  · (intro w hSw; (try dsimp only at hSw); go_split_ands; (try go_simp); (try with_reducible rfl))
                  try simp only [Act.put, List.setIfInBounds_toArray, List.set_cons_zero, List.set_cons_succ]
                  refine wpAnyH_take (i := 1) (oi := ⟨some 89, _, _, _, _, _⟩) (v := ?_) rfl (by kernel_rfl) (by kernel_rfl) (by kernel_rfl) (fun _ _ _ h => h) (Or.inl ⟨by rfl, ?_⟩) (by assumption) ?_
                  rotate_left 1
                  · (intro w hSw; (try dsimp only at hSw); go_split_ands; obtain ⟨p0, p1, p2, p3, p4, p5, p6, p7⟩ := st_cells (HBS.out _ (X.trans hSw)); (try go_simp); (try with_reducible rfl))
                  try simp only [Act.put, List.setIfInBounds_toArray, List.set_cons_zero, List.set_cons_succ]
                  refine wpAnyH_take (i := 2) (oi := ⟨some 90, _, _, _, _, _⟩) (v := ?_) rfl (by kernel_rfl) (by kernel_rfl) (by kernel_rfl) (fun _ _ _ h => h) (Or.inl ⟨by rfl, ?_⟩) (by assumption) ?_
                  rotate_left 1
                  · (intro w hSw; (try dsimp only at hSw); go_split_ands; (try go_simp); (try with_reducible rfl))
                  try simp only [Act.put, List.setIfInBounds_toArray, List.set_cons_zero, List.set_cons_succ]
                  refine wpAnyH_take (i := 3) (oi := ⟨some 91, _, _, _, _, _⟩) (v := ?_) rfl (by kernel_rfl) (by kernel_rfl) (by kernel_rfl) (fun _ _ _ h => h) (Or.inl ⟨by rfl, ?_⟩) (by assumption) ?_
                  rotate_left 1
                  · (intro w hSw; (try dsimp only at hSw); go_split_ands; obtain ⟨p0, p1, p2, p3, p4, p5, p6, p7⟩ := st_cells (HBS.out _ (X.trans hSw)); (try go_simp); (try with_reducible rfl))
                  try simp only [Act.put, List.setIfInBounds_toArray, List.set_cons_zero, List.set_cons_succ]
                  refine wpAnyH_take (i := 5) (oi := ⟨some 93, _, _, _, _, _⟩) (v := ?_) rfl (by kernel_rfl) (by kernel_rfl) (by kernel_rfl) (fun _ _ _ h => h) (Or.inl ⟨by rfl, ?_⟩) (by assumption) ?_
                  rotate_left 1
                  · (intro w hSw; (try dsimp only at hSw); go_split_ands; (try go_simp); (try with_reducible rfl))
                  try simp only [Act.put, List.setIfInBounds_toArray, List.set_cons_zero, List.set_cons_succ]
                  refine wpAnyH_ready (rs := [4]) (by kernel_rfl) (by simp) ?_
                  refine AllReadyH.cons (o := ⟨some 92, _, _, _, _, _⟩) rfl (fun K hK => ?_) AllReadyH.nil
                  go_simp
                  refine (HTO.out sr _).mono ?_
                  rintro e W4 ⟨rfl, x6⟩
                  go_simp
                  have hk := hS.trans x6
                  refine hK.out _ _ hk (fun hS => ?_)
                  clear hK K
                  try simp only [Act.put, List.setIfInBounds_toArray, List.set_cons_zero, List.set_cons_succ]
                  generalize W4 = wd at *
                  refine wpAnyH_take (i := 6) (oi := ⟨some 94, _, _, _, _, _⟩) (v := ?_) rfl (by kernel_rfl) (by kernel_rfl) (by kernel_rfl) (fun _ _ _ h => h) (Or.inl ⟨by rfl, ?_⟩) (by assumption) ?_
                  rotate_left 1
                  · (intro w hSw; (try dsimp only at hSw); go_split_ands; (try go_simp); (try with_reducible rfl))
                  try simp only [Act.put, List.setIfInBounds_toArray, List.set_cons_zero, List.set_cons_succ]
                  refine wpAnyH_ready (rs := [7]) (by kernel_rfl) (by simp) ?_
                  refine AllReadyH.cons (o := ⟨some 95, _, _, _, _, _⟩) rfl (fun K hK => ?_) AllReadyH.nil
                  go_simp
                  refine hK.out _ _ (hS.alloc _) (fun hS2 => ?_)
                  clear hK K
                  try simp only [Act.put, List.setIfInBounds_toArray, List.set_cons_zero, List.set_cons_succ]
                  refine wpAnyH_take (i := 8) (oi := ⟨some 6, _, _, _, _, _⟩) (v := ?_) rfl (by kernel_rfl) (by kernel_rfl) (by kernel_rfl) (fun _ _ _ h => h) (Or.inl ⟨by rfl, ?_⟩) (by assumption) ?_
                  rotate_left 1
                  · (intro w hSw; (try dsimp only at hSw); go_split_ands; (try go_simp); (try with_reducible rfl))
                  try simp only [Act.put, List.setIfInBounds_toArray, List.set_cons_zero, List.set_cons_succ]
                  refine wpAnyH_done (by kernel_rfl) ?_ _
                  have BN : Blk (wd.alloc (.cells #[.int .i64 sa, .int .u16 (sr.c.toNat : Int), .int .u16 (sr.p.toNat : Int), .int .u16 (sr.m.toNat : Int), .int .u16 (sr.h.toNat : Int), .bool sr.v, .bool sr.s, .pointer o] 59)) wd.heap.size 59 (tkCells (sa, sr) (ptrV bs)) := by rw [HO.out]; exact Blk.new _ _ _
                  have hnb : wr.heap.size ≤ wd.heap.size := (X6.trans (X.trans hS)).size
                  have X8 : Ext [] wr (wd.alloc (.cells #[.int .i64 sa, .int .u16 (sr.c.toNat : Int), .int .u16 (sr.p.toNat : Int), .int .u16 (sr.m.toNat : Int), .int .u16 (sr.h.toNat : Int), .bool sr.v, .bool sr.s, .pointer o] 59)) := X6.trans (X.trans hS2)
                  generalize (wd.alloc (.cells #[.int .i64 sa, .int .u16 (sr.c.toNat : Int), .int .u16 (sr.p.toNat : Int), .int .u16 (sr.m.toNat : Int), .int .u16 (sr.h.toNat : Int), .bool sr.v, .bool sr.s, .pointer o] 59)) = w8 at *
                  generalize wd.heap.size = nb at *
                  have HNEW : TokAt w8 (nb :: bs) ((sa, sr) :: (ch.take (k' + 1)).reverse) := ⟨BN, TokAt.ext0 X8 HTK.out⟩
                  have HDN : Desc (nb :: bs) := List.pairwise_cons.2 ⟨fun c hc => Nat.lt_of_lt_of_le (TokAt.cons HTK.out c hc) hnb, HD.out⟩
                  have hss := sound_any bt bl c (nb :: bs) T ((sa, sr) :: (ch.take (k' + 1)).reverse) w8 (HT.out _ (x.trans X8)) HNEW HDN
                  rw [HE.out, show ptrV (nb :: bs) = .pointer (some ⟨nb, 0, none⟩) from rfl] at hss
                  have HSS := Lib.hid hss
                  have HNW := Lib.hid HNEW
                  have HDN := Lib.hid HDN
                  clear hss HNEW BN hS hS2 hnb
                  go_wp2_with fail
                  refine HSS.out.mono ?_
                  rintro e w9 ⟨rfl, x9⟩
                  clear HSS
                  have hcc := chain_any (nb :: bs) ((sa, sr) :: (ch.take (k' + 1)).reverse) w9 (TokAt.ext0 x9 HNW.out) (by rw [List.length_cons]; omega)
                  rw [show ptrV (nb :: bs) = .pointer (some ⟨nb, 0, none⟩) from rfl] at hcc
                  have HCCC := Lib.hid hcc
                  clear hcc
                  go_wp2_with fail
                  refine HCCC.out.mono ?_
                  rintro e w10 ⟨v10, rfl, hown, x10, -⟩
                  rw [List.length_cons, hbk] at hown
                  obtain ⟨va, vc, rfl⟩ := owns_slice hown
                  clear hown HCCC
                  go_wp2_with fail
                  go_roundw
                  case rel =>
                    refine ⟨(k' + 1) + 1, nb :: bs, by go_num, rfl, ?_, by omega, by omega, by rw [List.length_cons, hbk], HDN, Lib.hid ?_, x.trans (X8.trans (x9.trans x10))⟩
                    · rw [HTR.out]
                      unfold sndB
                      rw [HE.out]
                      rfl
                    · rw [HTR.out]
                      exact TokAt.ext0 (x9.trans x10) HNW.out
                  case measure => simp [intOf]; omega
                | true =>
                  rw [Bool.true_and] at HE
                  obtain ⟨p0, p1, p2, p3, p4, p5, p6, p7⟩ := st_cells (HBS.out _ (X7.trans x8))
                  obtain ⟨r0, r1, r2, r3, r4, r5, r6, r7⟩ := st_cells (HBU.out _ x8)
                  go_wp2_with fail
                  refine (HRW.out _).mono ?_
                  rintro e wx ⟨rfl, x9⟩
                  clear p0 p1 p2 p3 p4 p5 p6 p7 r0 r1 r2 r3 r4 r5 r6 r7
                  have X : Ext [] w6 wx := X7.trans (x8.trans x9)
                  obtain ⟨o, ho⟩ := ptrV_ptr bs
                  rw [ho]
                  have HO := Lib.hid ho
                  clear ho
                  go_upto_region 17 with (fail)
                  have zz : Ext [] wx wx.drew := (Ext.refl _ _).drew
                  refine wp_region_held_drew (S := fun w' => Ext [] wx w') (by kernel_rfl) zz (fun hS => ?_)
                  refine wpAnyH_take (i := 0) (oi := ⟨some 88, _, _, _, _, _⟩) (v := ?_) rfl (by kernel_rfl) (by kernel_rfl) (by kernel_rfl) (fun _ _ _ h => h) (Or.inl ⟨by rfl, ?_⟩) (by assumption) ?_
                  rotate_left 1
                  · (intro w hSw; (try dsimp only at hSw); go_split_ands; (try go_simp); (try with_reducible rfl))
                  try simp only [Act.put, List.setIfInBounds_toArray, List.set_cons_zero, List.set_cons_succ]
                  refine wpAnyH_take (i := 1) (oi := ⟨some 89, _, _, _, _, _⟩) (v := ?_) rfl (by kernel_rfl) (by kernel_rfl) (by kernel_rfl) (fun _ _ _ h => h) (Or.inl ⟨by rfl, ?_⟩) (by assumption) ?_
                  rotate_left 1
                  · (intro w hSw; (try dsimp only at hSw); go_split_ands; obtain ⟨p0, p1, p2, p3, p4, p5, p6, p7⟩ := st_cells (HBS.out _ (X.trans hSw)); (try go_simp); (try with_reducible rfl))
                  try simp only [Act.put, List.setIfInBounds_toArray, List.set_cons_zero, List.set_cons_succ]
                  refine wpAnyH_take (i := 2) (oi := ⟨some 90, _, _, _, _, _⟩) (v := ?_) rfl (by kernel_rfl) (by kernel_rfl) (by kernel_rfl) (fun _ _ _ h => h) (Or.inl ⟨by rfl, ?_⟩) (by assumption) ?_
                  rotate_left 1
                  · (intro w hSw; (try dsimp only at hSw); go_split_ands; (try go_simp); (try with_reducible rfl))
                  try simp only [Act.put, List.setIfInBounds_toArray, List.set_cons_zero, List.set_cons_succ]
                  refine wpAnyH_take (i := 3) (oi := ⟨some 91, _, _, _, _, _⟩) (v := ?_) rfl (by kernel_rfl) (by kernel_rfl) (by kernel_rfl) (fun _ _ _ h => h) (Or.inl ⟨by rfl, ?_⟩) (by assumption) ?_
                  rotate_left 1
                  · (intro w hSw; (try dsimp only at hSw); go_split_ands; obtain ⟨p0, p1, p2, p3, p4, p5, p6, p7⟩ := st_cells (HBS.out _ (X.trans hSw)); (try go_simp); (try with_reducible rfl))
                  try simp only [Act.put, List.setIfInBounds_toArray, List.set_cons_zero, List.set_cons_succ]
                  refine wpAnyH_take (i := 5) (oi := ⟨some 93, _, _, _, _, _⟩) (v := ?_) rfl (by kernel_rfl) (by kernel_rfl) (by kernel_rfl) (fun _ _ _ h => h) (Or.inl ⟨by rfl, ?_⟩) (by assumption) ?_
                  rotate_left 1
                  · (intro w hSw; (try dsimp only at hSw); go_split_ands; (try go_simp); (try with_reducible rfl))
                  try simp only [Act.put, List.setIfInBounds_toArray, List.set_cons_zero, List.set_cons_succ]
                  refine wpAnyH_ready (rs := [4]) (by kernel_rfl) (by simp) ?_
                  refine AllReadyH.cons (o := ⟨some 92, _, _, _, _, _⟩) rfl (fun K hK => ?_) AllReadyH.nil
                  go_simp
                  refine (HTO.out sr _).mono ?_
                  rintro e W4 ⟨rfl, x6⟩
                  go_simp
                  have hk := hS.trans x6
                  refine hK.out _ _ hk (fun hS => ?_)
                  clear hK K
                  try simp only [Act.put, List.setIfInBounds_toArray, List.set_cons_zero, List.set_cons_succ]
                  generalize W4 = wd at *
                  refine wpAnyH_take (i := 6) (oi := ⟨some 94, _, _, _, _, _⟩) (v := ?_) rfl (by kernel_rfl) (by kernel_rfl) (by kernel_rfl) (fun _ _ _ h => h) (Or.inl ⟨by rfl, ?_⟩) (by assumption) ?_
                  rotate_left 1
                  · (intro w hSw; (try dsimp only at hSw); go_split_ands; (try go_simp); (try with_reducible rfl))
                  try simp only [Act.put, List.setIfInBounds_toArray, List.set_cons_zero, List.set_cons_succ]
                  refine wpAnyH_ready (rs := [7]) (by kernel_rfl) (by simp) ?_
                  refine AllReadyH.cons (o := ⟨some 95, _, _, _, _, _⟩) rfl (fun K hK => ?_) AllReadyH.nil
                  go_simp
                  refine hK.out _ _ (hS.alloc _) (fun hS2 => ?_)
                  clear hK K
                  try simp only [Act.put, List.setIfInBounds_toArray, List.set_cons_zero, List.set_cons_succ]
                  refine wpAnyH_take (i := 8) (oi := ⟨some 6, _, _, _, _, _⟩) (v := ?_) rfl (by kernel_rfl) (by kernel_rfl) (by kernel_rfl) (fun _ _ _ h => h) (Or.inl ⟨by rfl, ?_⟩) (by assumption) ?_
                  rotate_left 1
                  · (intro w hSw; (try dsimp only at hSw); go_split_ands; (try go_simp); (try with_reducible rfl))
                  try simp only [Act.put, List.setIfInBounds_toArray, List.set_cons_zero, List.set_cons_succ]
                  refine wpAnyH_done (by kernel_rfl) ?_ _
                  have BN : Blk (wd.alloc (.cells #[.int .i64 sa, .int .u16 (sr.c.toNat : Int), .int .u16 (sr.p.toNat : Int), .int .u16 (sr.m.toNat : Int), .int .u16 (sr.h.toNat : Int), .bool sr.v, .bool sr.s, .pointer o] 59)) wd.heap.size 59 (tkCells (sa, sr) (ptrV bs)) := by rw [HO.out]; exact Blk.new _ _ _
                  have hnb : wr.heap.size ≤ wd.heap.size := (X6.trans (X.trans hS)).size
                  have X8 : Ext [] wr (wd.alloc (.cells #[.int .i64 sa, .int .u16 (sr.c.toNat : Int), .int .u16 (sr.p.toNat : Int), .int .u16 (sr.m.toNat : Int), .int .u16 (sr.h.toNat : Int), .bool sr.v, .bool sr.s, .pointer o] 59)) := X6.trans (X.trans hS2)
                  generalize (wd.alloc (.cells #[.int .i64 sa, .int .u16 (sr.c.toNat : Int), .int .u16 (sr.p.toNat : Int), .int .u16 (sr.m.toNat : Int), .int .u16 (sr.h.toNat : Int), .bool sr.v, .bool sr.s, .pointer o] 59)) = w8 at *
                  generalize wd.heap.size = nb at *
                  have HNEW : TokAt w8 (nb :: bs) ((sa, sr) :: (ch.take (k' + 1)).reverse) := ⟨BN, TokAt.ext0 X8 HTK.out⟩
                  have HDN : Desc (nb :: bs) := List.pairwise_cons.2 ⟨fun c hc => Nat.lt_of_lt_of_le (TokAt.cons HTK.out c hc) hnb, HD.out⟩
                  have hss := sound_any bt bl c (nb :: bs) T ((sa, sr) :: (ch.take (k' + 1)).reverse) w8 (HT.out _ (x.trans X8)) HNEW HDN
                  rw [HE.out, show ptrV (nb :: bs) = .pointer (some ⟨nb, 0, none⟩) from rfl] at hss
                  have HSS := Lib.hid hss
                  have HNW := Lib.hid HNEW
                  have HDN := Lib.hid HDN
                  clear hss HNEW BN hS hS2 hnb
                  go_wp2_with fail
                  refine HSS.out.mono ?_
                  rintro e w9 ⟨rfl, x9⟩
                  clear HSS
                  have hcc := chain_any (nb :: bs) ((sa, sr) :: (ch.take (k' + 1)).reverse) w9 (TokAt.ext0 x9 HNW.out) (by rw [List.length_cons]; omega)
                  rw [show ptrV (nb :: bs) = .pointer (some ⟨nb, 0, none⟩) from rfl] at hcc
                  have HCCC := Lib.hid hcc
                  clear hcc
                  go_wp2_with fail
                  refine HCCC.out.mono ?_
                  rintro e w10 ⟨v10, rfl, hown, x10, -⟩
                  rw [List.length_cons, hbk] at hown
                  obtain ⟨va, vc, rfl⟩ := owns_slice hown
                  clear hown HCCC
                  go_wp2_with fail
                  go_roundw
                  case rel =>
                    refine ⟨(k' + 1) + 1, nb :: bs, by go_num, rfl, ?_, by omega, by omega, by rw [List.length_cons, hbk], HDN, Lib.hid ?_, x.trans (X8.trans (x9.trans x10))⟩
                    · rw [HTR.out]
                      unfold sndB
                      rw [HE.out]
                      rfl
                    · rw [HTR.out]
                      exact TokAt.ext0 (x9.trans x10) HNW.out
                  case measure => simp [intOf]; omega
          · have hge : (k < ch.length ∧ k = 6) ∨ ¬ k < ch.length := by omega
            clear hlt2
            rcases hge with ⟨hlt', rfl⟩ | hlt'
            all_goals
              go_wp2_with fail
              refine (derives_any wr (HGR.out _ x)).mono ?_
              rintro e w9 ⟨rfl, x9⟩
              go_wp2_with fail
              go_ret
              exact ⟨rfl, HXW.out _ (x.trans x9)⟩
end Go.Proofs.YtnjgehfnafdldaaDoor

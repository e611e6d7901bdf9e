/- The reference of layer 7: DocMake, DocHold. -/
import Derived.Test.YtknghmogfbpclaaDoc
namespace Go.Proofs.Ytknghmogfbpclaa
open Go.RowKit
set_option maxRecDepth 100000

/-- One more. -/
def DocMakePost (bd : Nat) (v : Value) (size next : Nat) (l : List Ent) (x : Value) (w : World) (e : Ending) (w' : World) : Prop :=
  ∃ v', e = .returned (.tuple #[.int .i64 ((next : Int) + 1), .int .i64 0]) ∧ (∀ b, DocAt w' bd v' size (next + 1) (l ++ [⟨next + 1, b, x, 1⟩])) ∧ Ext (bd :: v.ownBlock.toList) w w' ∧ (v'.ownBlock = v.ownBlock ∨ ∃ g, v'.ownBlock = some g ∧ w.heap.size ≤ g)

set_option maxHeartbeats 8000000 in
theorem doc_make (bd : Nat) (v : Value) (size next : Nat) (l : List Ent) (z : Int) (w : World) (H : DocAt w bd v size next l) (hlt : l.length < size) (hsz : size ≤ 64) (hnx : next < 1000000) :
    Calls Try.prog 21 #[.pointer (some ⟨bd, 0, none⟩), .int .i64 z] w (DocMakePost bd v size next l (.int .i64 z) w) := by
  obtain ⟨i0, hi, hz0, hz1, hz2⟩ := info_parts info_one
  have c0 := H.h.cell 0
  have c1 := H.h.cell 1
  have c2 := H.h.cell 2
  have f1 := H.h.frozen 1
  have hbl := H.h.lt
  simp only [List.getElem?_cons_zero, List.getElem?_cons_succ] at c0 c1 c2
  have HH := Lib.hid H
  have HV := Lib.hid H.ne
  obtain ⟨va, vc, rfl⟩ := owns_slice H.own
  clear H
  go_enter Try.func21, Try.ntmps21
  go_upto_region 1 with (fail)
  go_quiet (fail)
  have H1 := HH.out.ext0 ((Ext.refl [] w).drewN nq)
  have x1 : Ext (bd :: (Value.slice va l.length vc).ownBlock.toList) w (w.drewN nq) := (Ext.refl _ _).drewN nq
  clear c0 c1 c2 f1 hbl
  have hs1 : w.heap.size ≤ (w.drewN nq).heap.size := Nat.le_refl _
  generalize w.drewN nq = w1 at *
  have c0 := H1.h.cell 0
  have c1 := H1.h.cell 1
  have c2 := H1.h.cell 2
  have f1 := H1.h.frozen 1
  have hbl := H1.h.lt
  simp only [List.getElem?_cons_zero, List.getElem?_cons_succ] at c0 c1 c2
  go_upto_region 4 with (fail)
  have B2 : Blk (w1.setCell ⟨bd, 1, none⟩ (.int .i64 ((next : Int) + 1))) bd 51 [.int .i64 (size : Int), .int .i64 ((next : Int) + 1), .slice va l.length vc] := H1.h.set 1 _
  have x12 : Ext [bd] w1 (w1.setCell ⟨bd, 1, none⟩ (.int .i64 ((next : Int) + 1))) := (Ext.refl _ _).setCell (.inl (by simp)) _
  have O2 := owns_ext H1.own x12 (by intro g hg; have := HV.out g hg; simp; omega)
  have x2 : Ext (bd :: (Value.slice va l.length vc).ownBlock.toList) w (w1.setCell ⟨bd, 1, none⟩ (.int .i64 ((next : Int) + 1))) := x1.setCell (.inl (by simp)) _
  have hs2 := x12.size
  clear c0 c1 c2 f1 hbl H1 x1 x12
  generalize w1.setCell ⟨bd, 1, none⟩ (.int .i64 ((next : Int) + 1)) = w2 at *
  have c1 := B2.cell 1
  have c2 := B2.cell 2
  have hbl := B2.lt
  simp only [List.getElem?_cons_zero, List.getElem?_cons_succ] at c1 c2
  have S2 : Ext [] w2 w2.drew := (Ext.refl _ _).drew
  have T2 : Ext (bd :: (Value.slice va l.length vc).ownBlock.toList) w w2.drew := x2.drew
  have B3 : Blk w2.drew bd 51 [.int .i64 (size : Int), .int .i64 ((next : Int) + 1), .slice va l.length vc] := B2.drew
  have O3 := owns_ext O2 S2 (by simp)
  refine wp_region_held_drew (S := fun _ => True) (by kernel_rfl) trivial (fun hS => ?_)
  have hs3 : w.heap.size ≤ w2.drew.heap.size := Nat.le_trans hs1 hs2
  clear c1 c2 hbl B2 O2 x2 S2
  generalize w2.drew = wq at B3 O3 T2 hs3 ⊢
  refine wpAnyH_take (i := 0) (oi := ⟨some 23, _, _, _, _, _⟩) (v := ?_) rfl (by kernel_rfl) (by kernel_rfl) (by kernel_rfl) (fun _ _ _ h => h) (Or.inl ⟨by rfl, ?_⟩) (by assumption) ?_
  rotate_left 1
  · (intro w hSw; (try dsimp only at hSw); go_split_ands; (try go_simp); (try with_reducible rfl))
  try simp only [Act.put, List.setIfInBounds_toArray, List.set_cons_zero, List.set_cons_succ]
  refine wpAnyH_take (i := 1) (oi := ⟨some 24, _, _, _, _, _⟩) (v := ?_) rfl (by kernel_rfl) (by kernel_rfl) (by kernel_rfl) (fun _ _ _ h => h) (Or.inl ⟨by rfl, ?_⟩) (by assumption) ?_
  rotate_left 1
  · (intro w hSw; (try dsimp only at hSw); go_split_ands; (try go_simp); (try with_reducible rfl))
  try simp only [Act.put, List.setIfInBounds_toArray, List.set_cons_zero, List.set_cons_succ]
  refine wpAnyH_take (i := 2) (oi := ⟨some 25, _, _, _, _, _⟩) (v := ?_) rfl (by kernel_rfl) (by kernel_rfl) (by kernel_rfl) (fun _ _ _ h => h) (Or.inl ⟨by rfl, ?_⟩) (by assumption) ?_
  rotate_left 1
  · (intro w hSw; (try dsimp only at hSw); go_split_ands; (try go_simp); (try with_reducible rfl))
  try simp only [Act.put, List.setIfInBounds_toArray, List.set_cons_zero, List.set_cons_succ]
  refine wpAnyH_take (i := 3) (oi := ⟨some 26, _, _, _, _, _⟩) (v := ?_) rfl (by kernel_rfl) (by kernel_rfl) (by kernel_rfl) (fun _ _ _ h => h) (Or.inl ⟨by rfl, ?_⟩) (by assumption) ?_
  rotate_left 1
  · (intro w hSw; (try dsimp only at hSw); go_split_ands; (try go_simp); (try with_reducible rfl))
  try simp only [Act.put, List.setIfInBounds_toArray, List.set_cons_zero, List.set_cons_succ]
  refine wpAnyH_take (i := 5) (oi := ⟨some 28, _, _, _, _, _⟩) (v := ?_) rfl (by kernel_rfl) (by kernel_rfl) (by kernel_rfl) (fun _ _ _ h => h) (Or.inl ⟨by rfl, ?_⟩) (by assumption) ?_
  rotate_left 1
  · (intro w hSw; (try dsimp only at hSw); go_split_ands; (try go_simp); (try with_reducible rfl))
  try simp only [Act.put, List.setIfInBounds_toArray, List.set_cons_zero, List.set_cons_succ]
  refine wpAnyH_take (i := 6) (oi := ⟨some 29, _, _, _, _, _⟩) (v := ?_) rfl (by kernel_rfl) (by kernel_rfl) (by kernel_rfl) (fun _ _ _ h => h) (Or.inl ⟨by rfl, ?_⟩) (by assumption) ?_
  rotate_left 1
  · (intro w hSw; (try dsimp only at hSw); go_split_ands; (try go_simp); (try with_reducible rfl))
  try simp only [Act.put, List.setIfInBounds_toArray, List.set_cons_zero, List.set_cons_succ]
  refine wpAnyH_take (i := 7) (oi := ⟨some 30, _, _, _, _, _⟩) (v := ?_) rfl (by kernel_rfl) (by kernel_rfl) (by kernel_rfl) (fun _ _ _ h => h) (Or.inl ⟨by rfl, ?_⟩) (by assumption) ?_
  rotate_left 1
  · (intro w hSw; (try dsimp only at hSw); go_split_ands; (try go_simp); (try with_reducible rfl))
  try simp only [Act.put, List.setIfInBounds_toArray, List.set_cons_zero, List.set_cons_succ]
  refine wpAnyH_take (i := 9) (oi := ⟨some 32, _, _, _, _, _⟩) (v := ?_) rfl (by kernel_rfl) (by kernel_rfl) (by kernel_rfl) (fun _ _ _ h => h) (Or.inl ⟨by rfl, ?_⟩) (by assumption) ?_
  rotate_left 1
  · (intro w hSw; (try dsimp only at hSw); go_split_ands; (try go_simp); (try with_reducible rfl))
  try simp only [Act.put, List.setIfInBounds_toArray, List.set_cons_zero, List.set_cons_succ]
  refine wpAnyH_ready (rs := [4, 8]) (by kernel_rfl) (by simp) ?_
  refine AllReadyH.cons (o := ⟨some 27, _, _, _, _, _⟩) rfl (fun K hK => ?_) (AllReadyH.cons (o := ⟨some 31, _, _, _, _, _⟩) rfl (fun K hK => ?_) AllReadyH.nil)
  · skip
    have c2 := B3.cell 2
    have hbl := B3.lt
    simp only [List.getElem?_cons_zero, List.getElem?_cons_succ] at c2
    go_simp
    clear c2
    refine hK.out _ _ trivial (fun hS => ?_)
    clear hK K
    try simp only [Act.put, List.setIfInBounds_toArray, List.set_cons_zero, List.set_cons_succ]
    refine wpAnyH_ready (rs := [8]) (by kernel_rfl) (by simp) ?_
    refine AllReadyH.cons (o := ⟨some 31, _, _, _, _, _⟩) rfl (fun K hK => ?_) AllReadyH.nil
    have c1 := B3.cell 1
    have hbl := B3.lt
    simp only [List.getElem?_cons_zero, List.getElem?_cons_succ] at c1
    go_simp
    clear c1
    refine hK.out _ _ trivial (fun hS => ?_)
    clear hK K
    try simp only [Act.put, List.setIfInBounds_toArray, List.set_cons_zero, List.set_cons_succ]
    refine wpAnyH_take (i := 10) (oi := ⟨some 33, _, _, _, _, _⟩) (v := ?_) rfl (by kernel_rfl) (by kernel_rfl) (by kernel_rfl) (fun _ _ _ h => h) (Or.inl ⟨by rfl, ?_⟩) (by assumption) ?_
    rotate_left 1
    · (intro w hSw; (try dsimp only at hSw); go_split_ands; (try go_simp); (try with_reducible rfl))
    try simp only [Act.put, List.setIfInBounds_toArray, List.set_cons_zero, List.set_cons_succ]
    refine wpAnyH_ready (rs := [11]) (by kernel_rfl) (by simp) ?_
    refine AllReadyH.cons (o := ⟨some 34, _, _, _, _, _⟩) rfl (fun K hK => ?_) AllReadyH.nil
    go_simp
    have BN := Blk.new wq 55 #[.int .i64 ((next : Int) + 1), .int .i64 z, .int .i64 1]
    have xq : Ext [] wq (wq.alloc (.cells #[.int .i64 ((next : Int) + 1), .int .i64 z, .int .i64 1] 55)) := (Ext.refl _ _).alloc _
    have B3' := B3.ext xq (by simp)
    have O3' := owns_ext O3 xq (by simp)
    have T2' := T2.alloc (.cells #[.int .i64 ((next : Int) + 1), .int .i64 z, .int .i64 1] 55)
    have hs3' : w.heap.size ≤ (wq.alloc (.cells #[.int .i64 ((next : Int) + 1), .int .i64 z, .int .i64 1] 55)).heap.size := Nat.le_trans hs3 xq.size
    clear xq B3 O3 T2 hs3
    generalize wq.heap.size = bq at BN ⊢
    generalize wq.alloc (.cells #[.int .i64 ((next : Int) + 1), .int .i64 z, .int .i64 1] 55) = wp at BN B3' O3' T2' hs3' ⊢
    have B3 := B3'
    have O3 := O3'
    have T2 := T2'
    have hs3 := hs3'
    clear B3' O3' T2' hs3'
    obtain ⟨wq, hwq⟩ : ∃ w, w = wp := ⟨_, rfl⟩
    rw [← hwq] at BN B3 O3 T2 hs3 ⊢
    clear hwq
    refine hK.out _ _ trivial (fun hS => ?_)
    clear hK K
    try simp only [Act.put, List.setIfInBounds_toArray, List.set_cons_zero, List.set_cons_succ]
    refine wpAnyH_ready (rs := [12]) (by kernel_rfl) (by simp) ?_
    refine AllReadyH.cons (o := ⟨some 35, _, _, _, _, _⟩) rfl (fun K hK => ?_) AllReadyH.nil
    refine step_app _ rfl (.tmp 27) (.tmp 34) 49 rfl 55 i0 _ 3 24 Try.underlying49 hi hz0 hz1 hz2 rfl (by decide) (.slice va l.length vc) _ _ rfl O3 (.slice (some ⟨bq, 0, none⟩) 1 1) 1 _ rfl (blk_reads BN 1 rfl) (by intro u hu; simp at hu; rcases hu with rfl | rfl | rfl <;> rfl) (by unfold maxLen; omega) (by omega) ?_
    intro v4 w4 hown4 hgrow4 hfr4 _
    have xg : Ext (Value.slice va l.length vc).ownBlock.toList wq w4 := (Ext.refl _ _).grown hgrow4 (fun k hk => .inl (by simp [hk]))
    have B4 := B3.ext xg (by intro hm; have := HV.out bd (by simpa using hm); omega)
    have T4 : Ext (bd :: (Value.slice va l.length vc).ownBlock.toList) w w4 := T2.trans (xg.sub (fun i hi => .inl (by simp at hi ⊢; exact .inr hi)))
    have F4 : v4.ownBlock = (Value.slice va l.length vc).ownBlock ∨ ∃ g, v4.ownBlock = some g ∧ w.heap.size ≤ g := by
      rcases hfr4 with h | ⟨g, h, h'⟩
      · exact .inl h
      · exact .inr ⟨g, h, Nat.le_trans hs3 h'⟩
    have N4 : ∀ g, v4.ownBlock = some g → g ≠ bd := by
      intro g hg
      rcases hfr4 with h | ⟨g', h, h'⟩
      · exact HV.out g (h ▸ hg)
      · rw [h] at hg; cases hg; have := B3.lt; omega
    clear hgrow4 hfr4 xg B3 O3 T2 BN hs3
    have c2 := B4.cell 2
    have hbl := B4.lt
    have f2 := B4.frozen 2
    simp only [List.getElem?_cons_zero, List.getElem?_cons_succ] at c2
    obtain ⟨v4a, v4c, rfl⟩ := owns_slice hown4
    refine hK.out _ _ trivial (fun hS => ?_)
    clear hK K
    try simp only [Act.put, List.setIfInBounds_toArray, List.set_cons_zero, List.set_cons_succ]
    refine wpAnyH_take (i := 13) (oi := ⟨some 36, _, _, _, _, _⟩) (v := ?_) rfl (by kernel_rfl) (by kernel_rfl) (by kernel_rfl) (fun _ _ _ h => h) (Or.inl ⟨by rfl, ?_⟩) (by assumption) ?_
    rotate_left 1
    · (intro w hSw; (try dsimp only at hSw); go_split_ands; (try go_simp); (try with_reducible rfl))
    try simp only [Act.put, List.setIfInBounds_toArray, List.set_cons_zero, List.set_cons_succ]
    refine wpAnyH_take (i := 14) (oi := ⟨some 37, _, _, _, _, _⟩) (v := ?_) rfl (by kernel_rfl) (by kernel_rfl) (by kernel_rfl) (fun _ _ _ h => h) (Or.inl ⟨by rfl, ?_⟩) (by assumption) ?_
    rotate_left 1
    · (intro w hSw; (try dsimp only at hSw); go_split_ands; (try go_simp); (try with_reducible rfl))
    try simp only [Act.put, List.setIfInBounds_toArray, List.set_cons_zero, List.set_cons_succ]
    refine wpAnyH_ready (rs := [15]) (by kernel_rfl) (by simp) ?_
    refine AllReadyH.cons (o := ⟨none, _, _, _, _, _⟩) rfl (fun K hK => ?_) AllReadyH.nil
    go_simp
    have B5 := B4.set 2 (.slice v4a (l.length + 1) v4c)
    have x5 : Ext [bd] w4 (w4.setCell ⟨bd, 2, none⟩ (.slice v4a (l.length + 1) v4c)) := (Ext.refl _ _).setCell (.inl (by simp)) _
    have O5 := owns_ext hown4 x5 (by intro g hg; have := N4 g hg; simp; omega)
    have T5 := T4.setCell (p := ⟨bd, 2, none⟩) (.inl (by simp)) (.slice v4a (l.length + 1) v4c)
    clear c2 hbl f2 B4 x5 hown4 T4
    generalize w4.setCell ⟨bd, 2, none⟩ (.slice v4a (l.length + 1) v4c) = w5 at B5 O5 T5 ⊢
    simp only [List.set_cons_zero, List.set_cons_succ] at B5
    refine hK.out _ _ trivial (fun hS => ?_)
    clear hK K
    try simp only [Act.put]
    refine wpAnyH_done (by kernel_rfl) ?_ _
    have c1 := B5.cell 1
    have hbl := B5.lt
    simp only [List.getElem?_cons_zero, List.getElem?_cons_succ] at c1
    go_wp2_with fail
    go_ret2
    refine ⟨_, rfl, fun b => ⟨by simpa using B5, ?_, N4⟩, T5, F4⟩
    rw [docV_append, docV_one, List.length_append]
    exact O5
  · skip
    have c1 := B3.cell 1
    have hbl := B3.lt
    simp only [List.getElem?_cons_zero, List.getElem?_cons_succ] at c1
    go_simp
    clear c1
    refine hK.out _ _ trivial (fun hS => ?_)
    clear hK K
    try simp only [Act.put, List.setIfInBounds_toArray, List.set_cons_zero, List.set_cons_succ]
    refine wpAnyH_take (i := 10) (oi := ⟨some 33, _, _, _, _, _⟩) (v := ?_) rfl (by kernel_rfl) (by kernel_rfl) (by kernel_rfl) (fun _ _ _ h => h) (Or.inl ⟨by rfl, ?_⟩) (by assumption) ?_
    rotate_left 1
    · (intro w hSw; (try dsimp only at hSw); go_split_ands; (try go_simp); (try with_reducible rfl))
    try simp only [Act.put, List.setIfInBounds_toArray, List.set_cons_zero, List.set_cons_succ]
    refine wpAnyH_ready (rs := [4, 11]) (by kernel_rfl) (by simp) ?_
    refine AllReadyH.cons (o := ⟨some 27, _, _, _, _, _⟩) rfl (fun K hK => ?_) (AllReadyH.cons (o := ⟨some 34, _, _, _, _, _⟩) rfl (fun K hK => ?_) AllReadyH.nil)
    · skip
      have c2 := B3.cell 2
      have hbl := B3.lt
      simp only [List.getElem?_cons_zero, List.getElem?_cons_succ] at c2
      go_simp
      clear c2
      refine hK.out _ _ trivial (fun hS => ?_)
      clear hK K
      try simp only [Act.put, List.setIfInBounds_toArray, List.set_cons_zero, List.set_cons_succ]
      refine wpAnyH_ready (rs := [11]) (by kernel_rfl) (by simp) ?_
      refine AllReadyH.cons (o := ⟨some 34, _, _, _, _, _⟩) rfl (fun K hK => ?_) AllReadyH.nil
      go_simp
      have BN := Blk.new wq 55 #[.int .i64 ((next : Int) + 1), .int .i64 z, .int .i64 1]
      have xq : Ext [] wq (wq.alloc (.cells #[.int .i64 ((next : Int) + 1), .int .i64 z, .int .i64 1] 55)) := (Ext.refl _ _).alloc _
      have B3' := B3.ext xq (by simp)
      have O3' := owns_ext O3 xq (by simp)
      have T2' := T2.alloc (.cells #[.int .i64 ((next : Int) + 1), .int .i64 z, .int .i64 1] 55)
      have hs3' : w.heap.size ≤ (wq.alloc (.cells #[.int .i64 ((next : Int) + 1), .int .i64 z, .int .i64 1] 55)).heap.size := Nat.le_trans hs3 xq.size
      clear xq B3 O3 T2 hs3
      generalize wq.heap.size = bq at BN ⊢
      generalize wq.alloc (.cells #[.int .i64 ((next : Int) + 1), .int .i64 z, .int .i64 1] 55) = wp at BN B3' O3' T2' hs3' ⊢
      have B3 := B3'
      have O3 := O3'
      have T2 := T2'
      have hs3 := hs3'
      clear B3' O3' T2' hs3'
      obtain ⟨wq, hwq⟩ : ∃ w, w = wp := ⟨_, rfl⟩
      rw [← hwq] at BN B3 O3 T2 hs3 ⊢
      clear hwq
      refine hK.out _ _ trivial (fun hS => ?_)
      clear hK K
      try simp only [Act.put, List.setIfInBounds_toArray, List.set_cons_zero, List.set_cons_succ]
      refine wpAnyH_ready (rs := [12]) (by kernel_rfl) (by simp) ?_
      refine AllReadyH.cons (o := ⟨some 35, _, _, _, _, _⟩) rfl (fun K hK => ?_) AllReadyH.nil
      refine step_app _ rfl (.tmp 27) (.tmp 34) 49 rfl 55 i0 _ 3 24 Try.underlying49 hi hz0 hz1 hz2 rfl (by decide) (.slice va l.length vc) _ _ rfl O3 (.slice (some ⟨bq, 0, none⟩) 1 1) 1 _ rfl (blk_reads BN 1 rfl) (by intro u hu; simp at hu; rcases hu with rfl | rfl | rfl <;> rfl) (by unfold maxLen; omega) (by omega) ?_
      intro v4 w4 hown4 hgrow4 hfr4 _
      have xg : Ext (Value.slice va l.length vc).ownBlock.toList wq w4 := (Ext.refl _ _).grown hgrow4 (fun k hk => .inl (by simp [hk]))
      have B4 := B3.ext xg (by intro hm; have := HV.out bd (by simpa using hm); omega)
      have T4 : Ext (bd :: (Value.slice va l.length vc).ownBlock.toList) w w4 := T2.trans (xg.sub (fun i hi => .inl (by simp at hi ⊢; exact .inr hi)))
      have F4 : v4.ownBlock = (Value.slice va l.length vc).ownBlock ∨ ∃ g, v4.ownBlock = some g ∧ w.heap.size ≤ g := by
        rcases hfr4 with h | ⟨g, h, h'⟩
        · exact .inl h
        · exact .inr ⟨g, h, Nat.le_trans hs3 h'⟩
      have N4 : ∀ g, v4.ownBlock = some g → g ≠ bd := by
        intro g hg
        rcases hfr4 with h | ⟨g', h, h'⟩
        · exact HV.out g (h ▸ hg)
        · rw [h] at hg; cases hg; have := B3.lt; omega
      clear hgrow4 hfr4 xg B3 O3 T2 BN hs3
      have c2 := B4.cell 2
      have hbl := B4.lt
      have f2 := B4.frozen 2
      simp only [List.getElem?_cons_zero, List.getElem?_cons_succ] at c2
      obtain ⟨v4a, v4c, rfl⟩ := owns_slice hown4
      refine hK.out _ _ trivial (fun hS => ?_)
      clear hK K
      try simp only [Act.put, List.setIfInBounds_toArray, List.set_cons_zero, List.set_cons_succ]
      refine wpAnyH_take (i := 13) (oi := ⟨some 36, _, _, _, _, _⟩) (v := ?_) rfl (by kernel_rfl) (by kernel_rfl) (by kernel_rfl) (fun _ _ _ h => h) (Or.inl ⟨by rfl, ?_⟩) (by assumption) ?_
      rotate_left 1
      · (intro w hSw; (try dsimp only at hSw); go_split_ands; (try go_simp); (try with_reducible rfl))
      try simp only [Act.put, List.setIfInBounds_toArray, List.set_cons_zero, List.set_cons_succ]
      refine wpAnyH_take (i := 14) (oi := ⟨some 37, _, _, _, _, _⟩) (v := ?_) rfl (by kernel_rfl) (by kernel_rfl) (by kernel_rfl) (fun _ _ _ h => h) (Or.inl ⟨by rfl, ?_⟩) (by assumption) ?_
      rotate_left 1
      · (intro w hSw; (try dsimp only at hSw); go_split_ands; (try go_simp); (try with_reducible rfl))
      try simp only [Act.put, List.setIfInBounds_toArray, List.set_cons_zero, List.set_cons_succ]
      refine wpAnyH_ready (rs := [15]) (by kernel_rfl) (by simp) ?_
      refine AllReadyH.cons (o := ⟨none, _, _, _, _, _⟩) rfl (fun K hK => ?_) AllReadyH.nil
      go_simp
      have B5 := B4.set 2 (.slice v4a (l.length + 1) v4c)
      have x5 : Ext [bd] w4 (w4.setCell ⟨bd, 2, none⟩ (.slice v4a (l.length + 1) v4c)) := (Ext.refl _ _).setCell (.inl (by simp)) _
      have O5 := owns_ext hown4 x5 (by intro g hg; have := N4 g hg; simp; omega)
      have T5 := T4.setCell (p := ⟨bd, 2, none⟩) (.inl (by simp)) (.slice v4a (l.length + 1) v4c)
      clear c2 hbl f2 B4 x5 hown4 T4
      generalize w4.setCell ⟨bd, 2, none⟩ (.slice v4a (l.length + 1) v4c) = w5 at B5 O5 T5 ⊢
      simp only [List.set_cons_zero, List.set_cons_succ] at B5
      refine hK.out _ _ trivial (fun hS => ?_)
      clear hK K
      try simp only [Act.put]
      refine wpAnyH_done (by kernel_rfl) ?_ _
      have c1 := B5.cell 1
      have hbl := B5.lt
      simp only [List.getElem?_cons_zero, List.getElem?_cons_succ] at c1
      go_wp2_with fail
      go_ret2
      refine ⟨_, rfl, fun b => ⟨by simpa using B5, ?_, N4⟩, T5, F4⟩
      rw [docV_append, docV_one, List.length_append]
      exact O5
    · skip
      go_simp
      have BN := Blk.new wq 55 #[.int .i64 ((next : Int) + 1), .int .i64 z, .int .i64 1]
      have xq : Ext [] wq (wq.alloc (.cells #[.int .i64 ((next : Int) + 1), .int .i64 z, .int .i64 1] 55)) := (Ext.refl _ _).alloc _
      have B3' := B3.ext xq (by simp)
      have O3' := owns_ext O3 xq (by simp)
      have T2' := T2.alloc (.cells #[.int .i64 ((next : Int) + 1), .int .i64 z, .int .i64 1] 55)
      have hs3' : w.heap.size ≤ (wq.alloc (.cells #[.int .i64 ((next : Int) + 1), .int .i64 z, .int .i64 1] 55)).heap.size := Nat.le_trans hs3 xq.size
      clear xq B3 O3 T2 hs3
      generalize wq.heap.size = bq at BN ⊢
      generalize wq.alloc (.cells #[.int .i64 ((next : Int) + 1), .int .i64 z, .int .i64 1] 55) = wp at BN B3' O3' T2' hs3' ⊢
      have B3 := B3'
      have O3 := O3'
      have T2 := T2'
      have hs3 := hs3'
      clear B3' O3' T2' hs3'
      obtain ⟨wq, hwq⟩ : ∃ w, w = wp := ⟨_, rfl⟩
      rw [← hwq] at BN B3 O3 T2 hs3 ⊢
      clear hwq
      refine hK.out _ _ trivial (fun hS => ?_)
      clear hK K
      try simp only [Act.put, List.setIfInBounds_toArray, List.set_cons_zero, List.set_cons_succ]
      refine wpAnyH_ready (rs := [4]) (by kernel_rfl) (by simp) ?_
      refine AllReadyH.cons (o := ⟨some 27, _, _, _, _, _⟩) rfl (fun K hK => ?_) AllReadyH.nil
      have c2 := B3.cell 2
      have hbl := B3.lt
      simp only [List.getElem?_cons_zero, List.getElem?_cons_succ] at c2
      go_simp
      clear c2
      refine hK.out _ _ trivial (fun hS => ?_)
      clear hK K
      try simp only [Act.put, List.setIfInBounds_toArray, List.set_cons_zero, List.set_cons_succ]
      refine wpAnyH_ready (rs := [12]) (by kernel_rfl) (by simp) ?_
      refine AllReadyH.cons (o := ⟨some 35, _, _, _, _, _⟩) rfl (fun K hK => ?_) AllReadyH.nil
      refine step_app _ rfl (.tmp 27) (.tmp 34) 49 rfl 55 i0 _ 3 24 Try.underlying49 hi hz0 hz1 hz2 rfl (by decide) (.slice va l.length vc) _ _ rfl O3 (.slice (some ⟨bq, 0, none⟩) 1 1) 1 _ rfl (blk_reads BN 1 rfl) (by intro u hu; simp at hu; rcases hu with rfl | rfl | rfl <;> rfl) (by unfold maxLen; omega) (by omega) ?_
      intro v4 w4 hown4 hgrow4 hfr4 _
      have xg : Ext (Value.slice va l.length vc).ownBlock.toList wq w4 := (Ext.refl _ _).grown hgrow4 (fun k hk => .inl (by simp [hk]))
      have B4 := B3.ext xg (by intro hm; have := HV.out bd (by simpa using hm); omega)
      have T4 : Ext (bd :: (Value.slice va l.length vc).ownBlock.toList) w w4 := T2.trans (xg.sub (fun i hi => .inl (by simp at hi ⊢; exact .inr hi)))
      have F4 : v4.ownBlock = (Value.slice va l.length vc).ownBlock ∨ ∃ g, v4.ownBlock = some g ∧ w.heap.size ≤ g := by
        rcases hfr4 with h | ⟨g, h, h'⟩
        · exact .inl h
        · exact .inr ⟨g, h, Nat.le_trans hs3 h'⟩
      have N4 : ∀ g, v4.ownBlock = some g → g ≠ bd := by
        intro g hg
        rcases hfr4 with h | ⟨g', h, h'⟩
        · exact HV.out g (h ▸ hg)
        · rw [h] at hg; cases hg; have := B3.lt; omega
      clear hgrow4 hfr4 xg B3 O3 T2 BN hs3
      have c2 := B4.cell 2
      have hbl := B4.lt
      have f2 := B4.frozen 2
      simp only [List.getElem?_cons_zero, List.getElem?_cons_succ] at c2
      obtain ⟨v4a, v4c, rfl⟩ := owns_slice hown4
      refine hK.out _ _ trivial (fun hS => ?_)
      clear hK K
      try simp only [Act.put, List.setIfInBounds_toArray, List.set_cons_zero, List.set_cons_succ]
      refine wpAnyH_take (i := 13) (oi := ⟨some 36, _, _, _, _, _⟩) (v := ?_) rfl (by kernel_rfl) (by kernel_rfl) (by kernel_rfl) (fun _ _ _ h => h) (Or.inl ⟨by rfl, ?_⟩) (by assumption) ?_
      rotate_left 1
      · (intro w hSw; (try dsimp only at hSw); go_split_ands; (try go_simp); (try with_reducible rfl))
      try simp only [Act.put, List.setIfInBounds_toArray, List.set_cons_zero, List.set_cons_succ]
      refine wpAnyH_take (i := 14) (oi := ⟨some 37, _, _, _, _, _⟩) (v := ?_) rfl (by kernel_rfl) (by kernel_rfl) (by kernel_rfl) (fun _ _ _ h => h) (Or.inl ⟨by rfl, ?_⟩) (by assumption) ?_
      rotate_left 1
      · (intro w hSw; (try dsimp only at hSw); go_split_ands; (try go_simp); (try with_reducible rfl))
      try simp only [Act.put, List.setIfInBounds_toArray, List.set_cons_zero, List.set_cons_succ]
      refine wpAnyH_ready (rs := [15]) (by kernel_rfl) (by simp) ?_
      refine AllReadyH.cons (o := ⟨none, _, _, _, _, _⟩) rfl (fun K hK => ?_) AllReadyH.nil
      go_simp
      have B5 := B4.set 2 (.slice v4a (l.length + 1) v4c)
      have x5 : Ext [bd] w4 (w4.setCell ⟨bd, 2, none⟩ (.slice v4a (l.length + 1) v4c)) := (Ext.refl _ _).setCell (.inl (by simp)) _
      have O5 := owns_ext hown4 x5 (by intro g hg; have := N4 g hg; simp; omega)
      have T5 := T4.setCell (p := ⟨bd, 2, none⟩) (.inl (by simp)) (.slice v4a (l.length + 1) v4c)
      clear c2 hbl f2 B4 x5 hown4 T4
      generalize w4.setCell ⟨bd, 2, none⟩ (.slice v4a (l.length + 1) v4c) = w5 at B5 O5 T5 ⊢
      simp only [List.set_cons_zero, List.set_cons_succ] at B5
      refine hK.out _ _ trivial (fun hS => ?_)
      clear hK K
      try simp only [Act.put]
      refine wpAnyH_done (by kernel_rfl) ?_ _
      have c1 := B5.cell 1
      have hbl := B5.lt
      simp only [List.getElem?_cons_zero, List.getElem?_cons_succ] at c1
      go_wp2_with fail
      go_ret2
      refine ⟨_, rfl, fun b => ⟨by simpa using B5, ?_, N4⟩, T5, F4⟩
      rw [docV_append, docV_one, List.length_append]
      exact O5

theorem doc_make_full (bd : Nat) (v : Value) (size next : Nat) (l : List Ent) (z : Int) (w : World) (H : DocAt w bd v size next l) (hlt : l.length = size) (_hsz : size ≤ 64) :
    Calls Try.prog 21 #[.pointer (some ⟨bd, 0, none⟩), .int .i64 z] w fun e w' => e = .returned (.tuple #[.int .i64 0, .int .i64 12]) ∧ Ext [] w w' := by
  have c0 := H.h.cell 0
  have c2 := H.h.cell 2
  have hbl := H.h.lt
  simp only [List.getElem?_cons_zero, List.getElem?_cons_succ] at c0 c2
  obtain ⟨va, vc, rfl⟩ := owns_slice H.own
  have h1 : size ≤ l.length := by omega
  clear H hlt
  go_enter Try.func21, Try.ntmps21
  go_upto_region 1 with (fail)
  go_quiet (fail)
  go_wp2_with fail
  go_ret2
  exact ⟨rfl, (Ext.refl _ _).drewN nq⟩
end Go.Proofs.Ytknghmogfbpclaa

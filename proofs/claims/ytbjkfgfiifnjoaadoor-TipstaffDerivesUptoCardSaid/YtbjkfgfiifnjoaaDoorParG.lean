/- rights.Parse: the region that draws. -/
import Derived.Test.YtbjkfgfiifnjoaaDoorParF
namespace Go.Proofs.YtbjkfgfiifnjoaaDoor
open Go.RowKit
set_option maxRecDepth 100000

noncomputable def parseBody : Code := Tryd.f36.body.getD .skip
def RestOk (w : World) (v : Value) : Prop := (∃ a c, v = .slice a 0 c) ∨ ∃ b off c, ∃ zs : List ByteArray, v = .slice (some ⟨b, off, none⟩) zs.length c ∧ zs.length ≤ 1048577 ∧ ∀ j, j < zs.length → w.cell? ⟨b, off + j, none⟩ = some (.string (zs.getD j ByteArray.empty))

theorem rt_newcells {w : World} {b : Nat} {T : TypeId} {cs : List Value} (h : Blk w b T cs) : (∀ i, w.cell? ⟨b, i, none⟩ = cs[i]?) ∧ (∀ i, w.frozen? ⟨b, i, none⟩ = false) ∧ b < w.heap.size := ⟨h.cell, h.frozen, h.lt⟩

set_option maxHeartbeats 16000000 in
theorem parse16 (nb : Nat) (n0 n1 n2 n3 : BitVec 16) (v : Value) (w0 : World)
    (BN : Blk w0 nb 158 [.int .u16 (n0.toNat : Int), .int .u16 (n1.toNat : Int), .int .u16 (n2.toNat : Int), .int .u16 (n3.toNat : Int)]) (HR : Hid (∀ w', Ext [] w0 w' → RestOk w' v))
    (C : Code) (hC : C = (regAt 16 parseBody).getD .skip) (Q : Exit → Act → World → Prop) (u0 u1 u2 u3 u5 u6 u7 u8 u10 u11 u12 u13 u14 u15 u16 u17 u18 u19 u20 u21 u22 u23 u24 u25 u26 u27 u28 u29 u30 u31 u32 u33 u34 u35 u36 u37 u38 u39 u40 u41 u42 u43 u44 u45 u46 u47 u48 u49 u50 u51 u52 u53 u54 u55 u56 u57 u58 u59 u60 u61 u62 u63 : Value) (hP : ∀ ch (a : Act) (d : Nat) v w, Q (.panic ch) (a.put (some d) v) w → Q (.panic ch) a w)
    (hQ : ∀ (s45 s46 s47 s48 s49 s50 s51 s52 s53 s54 s55 s56 s57 : Value) (rb : Nat) (r : Rt) (w' : World), Blk w' rb 84 r.cells → w0.heap.size ≤ rb → Ext [] w0 w' → Q .normal ⟨#[u0, u1, u2, u3, .pointer (some ⟨nb, 0, none⟩), u5, u6, u7, u8, v, .pointer (some ⟨rb, 0, none⟩), u11, u12, u13, u14, u15, u16, u17, u18, u19, u20, u21, u22, u23, u24, u25, u26, u27, u28, u29, u30, u31, u32, u33, u34, u35, u36, u37, u38, u39, u40, u41, u42, u43, u44, s45, s46, s47, s48, s49, s50, s51, s52, s53, s54, s55, s56, s57, u58, u59, u60, u61, u62, u63], []⟩ w') :
    Code.wp Tryd.prog C Q ⟨#[u0, u1, u2, u3, .pointer (some ⟨nb, 0, none⟩), u5, u6, u7, u8, v, u10, u11, u12, u13, u14, u15, u16, u17, u18, u19, u20, u21, u22, u23, u24, u25, u26, u27, u28, u29, u30, u31, u32, u33, u34, u35, u36, u37, u38, u39, u40, u41, u42, u43, u44, u45, u46, u47, u48, u49, u50, u51, u52, u53, u54, u55, u56, u57, u58, u59, u60, u61, u62, u63], []⟩ w0 := by
  subst hC
  conv =>
    arg 2
    whnf
  have HQ := Lib.hid hQ
  clear hQ
  have hz0 := Lib.hid (show w0.heap.size = w0.drew.heap.size from rfl)
  have x0 : Ext [] w0 w0.drew := (Ext.refl _ _).drew
  have HB := Lib.hid (fun w' (x : Ext [] w0.drew w') => BN.ext (x0.trans x) (by simp))
  have HR2 := Lib.hid (fun w' (x : Ext [] w0.drew w') => HR.out w' (x0.trans x))
  have HX := Lib.hid (fun w' (x : Ext [] w0.drew w') => x0.trans x)
  clear x0 BN HR
  refine wp_region_held_drew (S := fun w' => Ext [] w0.drew w') (by kernel_rfl) (Ext.refl _ _) (fun hS => ?_)
  generalize w0.drew = w9 at *
  refine (?_ : ∀ wq, Ext [] w9 wq → wpAnyH _ _ _ _ _ _ _ _ wq) w9 hS
  clear hS
  intro wq hS
  refine wpAnyH_take (i := 0) (oi := ⟨some 45, _, _, _, _, _⟩) (v := ?_) rfl (by kernel_rfl) (by kernel_rfl) (by kernel_rfl) (fun ch a w h => hP ch a _ _ w h) (Or.inl ⟨by rfl, ?_⟩) (by assumption) ?_
  rotate_left 1
  · (intro w hSw; (try dsimp only at hSw); go_split_ands; (try go_simp); (try with_reducible rfl))
  try simp only [Act.put, List.setIfInBounds_toArray, List.set_cons_zero, List.set_cons_succ]
  refine wpAnyH_take (i := 1) (oi := ⟨some 46, _, _, _, _, _⟩) (v := ?_) rfl (by kernel_rfl) (by kernel_rfl) (by kernel_rfl) (fun ch a w h => hP ch a _ _ w h) (Or.inl ⟨by rfl, ?_⟩) (by assumption) ?_
  rotate_left 1
  · (intro w hSw; (try dsimp only at hSw); go_split_ands; have B := HB.out _ hSw; have c0 := B.cell 0; have hl := B.lt; (try go_simp); (try with_reducible rfl))
  try simp only [Act.put, List.setIfInBounds_toArray, List.set_cons_zero, List.set_cons_succ]
  refine wpAnyH_take (i := 2) (oi := ⟨some 47, _, _, _, _, _⟩) (v := ?_) rfl (by kernel_rfl) (by kernel_rfl) (by kernel_rfl) (fun ch a w h => hP ch a _ _ w h) (Or.inl ⟨by rfl, ?_⟩) (by assumption) ?_
  rotate_left 1
  · (intro w hSw; (try dsimp only at hSw); go_split_ands; (try go_simp); (try with_reducible rfl))
  try simp only [Act.put, List.setIfInBounds_toArray, List.set_cons_zero, List.set_cons_succ]
  refine wpAnyH_take (i := 3) (oi := ⟨some 48, _, _, _, _, _⟩) (v := ?_) rfl (by kernel_rfl) (by kernel_rfl) (by kernel_rfl) (fun ch a w h => hP ch a _ _ w h) (Or.inl ⟨by rfl, ?_⟩) (by assumption) ?_
  rotate_left 1
  · (intro w hSw; (try dsimp only at hSw); go_split_ands; have B := HB.out _ hSw; have c0 := B.cell 1; have hl := B.lt; (try go_simp); (try with_reducible rfl))
  try simp only [Act.put, List.setIfInBounds_toArray, List.set_cons_zero, List.set_cons_succ]
  refine wpAnyH_take (i := 4) (oi := ⟨some 49, _, _, _, _, _⟩) (v := ?_) rfl (by kernel_rfl) (by kernel_rfl) (by kernel_rfl) (fun ch a w h => hP ch a _ _ w h) (Or.inl ⟨by rfl, ?_⟩) (by assumption) ?_
  rotate_left 1
  · (intro w hSw; (try dsimp only at hSw); go_split_ands; (try go_simp); (try with_reducible rfl))
  try simp only [Act.put, List.setIfInBounds_toArray, List.set_cons_zero, List.set_cons_succ]
  refine wpAnyH_take (i := 5) (oi := ⟨some 50, _, _, _, _, _⟩) (v := ?_) rfl (by kernel_rfl) (by kernel_rfl) (by kernel_rfl) (fun ch a w h => hP ch a _ _ w h) (Or.inl ⟨by rfl, ?_⟩) (by assumption) ?_
  rotate_left 1
  · (intro w hSw; (try dsimp only at hSw); go_split_ands; have B := HB.out _ hSw; have c0 := B.cell 2; have hl := B.lt; (try go_simp); (try with_reducible rfl))
  try simp only [Act.put, List.setIfInBounds_toArray, List.set_cons_zero, List.set_cons_succ]
  refine wpAnyH_take (i := 6) (oi := ⟨some 51, _, _, _, _, _⟩) (v := ?_) rfl (by kernel_rfl) (by kernel_rfl) (by kernel_rfl) (fun ch a w h => hP ch a _ _ w h) (Or.inl ⟨by rfl, ?_⟩) (by assumption) ?_
  rotate_left 1
  · (intro w hSw; (try dsimp only at hSw); go_split_ands; (try go_simp); (try with_reducible rfl))
  try simp only [Act.put, List.setIfInBounds_toArray, List.set_cons_zero, List.set_cons_succ]
  refine wpAnyH_take (i := 7) (oi := ⟨some 52, _, _, _, _, _⟩) (v := ?_) rfl (by kernel_rfl) (by kernel_rfl) (by kernel_rfl) (fun ch a w h => hP ch a _ _ w h) (Or.inl ⟨by rfl, ?_⟩) (by assumption) ?_
  rotate_left 1
  · (intro w hSw; (try dsimp only at hSw); go_split_ands; have B := HB.out _ hSw; have c0 := B.cell 3; have hl := B.lt; (try go_simp); (try with_reducible rfl))
  try simp only [Act.put, List.setIfInBounds_toArray, List.set_cons_zero, List.set_cons_succ]
  refine wpAnyH_take (i := 8) (oi := ⟨some 53, _, _, _, _, _⟩) (v := ?_) rfl (by kernel_rfl) (by kernel_rfl) (by kernel_rfl) (fun ch a w h => hP ch a _ _ w h) (Or.inl ⟨by rfl, ?_⟩) (by assumption) ?_
  rotate_left 1
  · (intro w hSw; (try dsimp only at hSw); go_split_ands; (try go_simp); (try with_reducible rfl))
  try simp only [Act.put, List.setIfInBounds_toArray, List.set_cons_zero, List.set_cons_succ]
  refine wpAnyH_take (i := 10) (oi := ⟨some 55, _, _, _, _, _⟩) (v := ?_) rfl (by kernel_rfl) (by kernel_rfl) (by kernel_rfl) (fun ch a w h => hP ch a _ _ w h) (Or.inl ⟨by rfl, ?_⟩) (by assumption) ?_
  rotate_left 1
  · (intro w hSw; (try dsimp only at hSw); go_split_ands; (try go_simp); (try with_reducible rfl))
  try simp only [Act.put, List.setIfInBounds_toArray, List.set_cons_zero, List.set_cons_succ]
  refine wpAnyH_ready (rs := [9, 13]) (by kernel_rfl) (by simp) ?_
  refine AllReadyH.cons (o := ⟨some 54, _, _, _, _, _⟩) rfl (fun K hK => ?_) (AllReadyH.cons (o := ⟨some 10, _, _, _, _, _⟩) rfl (fun K hK => ?_) AllReadyH.nil)
  · skip
    go_simp
    refine (contains_any v _ wq (HR2.out _ hS)).mono ?_
    rintro e W9 ⟨⟨q9, rfl⟩, rfl⟩
    go_simp
    have hk := hS
    refine hK.out _ _ hk (fun hS => ?_)
    clear hK K
    try simp only [Act.put, List.setIfInBounds_toArray, List.set_cons_zero, List.set_cons_succ]
    refine wpAnyH_ready (rs := [11, 13]) (by kernel_rfl) (by simp) ?_
    refine AllReadyH.cons (o := ⟨some 56, _, _, _, _, _⟩) rfl (fun K hK => ?_) (AllReadyH.cons (o := ⟨some 10, _, _, _, _, _⟩) rfl (fun K hK => ?_) AllReadyH.nil)
    · skip
      go_simp
      refine (contains_any v _ wq (HR2.out _ hS)).mono ?_
      rintro e W11 ⟨⟨q11, rfl⟩, rfl⟩
      go_simp
      have hk := hS
      refine hK.out _ _ hk (fun hS => ?_)
      clear hK K
      try simp only [Act.put, List.setIfInBounds_toArray, List.set_cons_zero, List.set_cons_succ]
      refine wpAnyH_take (i := 12) (oi := ⟨some 57, _, _, _, _, _⟩) (v := ?_) rfl (by kernel_rfl) (by kernel_rfl) (by kernel_rfl) (fun ch a w h => hP ch a _ _ w h) (Or.inl ⟨by rfl, ?_⟩) (by assumption) ?_
      rotate_left 1
      · (intro w hSw; (try dsimp only at hSw); go_split_ands; (try go_simp); (try with_reducible rfl))
      try simp only [Act.put, List.setIfInBounds_toArray, List.set_cons_zero, List.set_cons_succ]
      refine wpAnyH_ready (rs := [13]) (by kernel_rfl) (by simp) ?_
      refine AllReadyH.cons (o := ⟨some 10, _, _, _, _, _⟩) rfl (fun K hK => ?_) AllReadyH.nil
      go_simp
      obtain ⟨zc, hzc, BR⟩ : ∃ zc : List Value, zc.length = 6 ∧ Blk (wq.alloc (.cells #[.int .u16 0, .int .u16 0, .int .u16 0, .int .u16 0, .bool false, .bool false] 84)) wq.heap.size 84 zc := ⟨_, by kernel_rfl, Blk.new wq 84 #[.int .u16 0, .int .u16 0, .int .u16 0, .int .u16 0, .bool false, .bool false]⟩
      have hrb : w9.heap.size ≤ wq.heap.size := hS.size
      have hk : Ext [] w9 (wq.alloc (.cells #[.int .u16 0, .int .u16 0, .int .u16 0, .int .u16 0, .bool false, .bool false] 84)) := hS.alloc _
      clear hS
      generalize wq.alloc (.cells #[.int .u16 0, .int .u16 0, .int .u16 0, .int .u16 0, .bool false, .bool false] 84) = wq2 at *
      generalize wq.heap.size = rb at *
      obtain ⟨wq, hwq⟩ : ∃ w, w = wq2 := ⟨_, rfl⟩
      subst hwq
      refine hK.out _ _ hk (fun hS => ?_)
      clear hK K
      try simp only [Act.put, List.setIfInBounds_toArray, List.set_cons_zero, List.set_cons_succ]
      refine wpAnyH_ready (rs := [14]) (by kernel_rfl) (by simp) ?_
      refine AllReadyH.cons (o := ⟨none, _, _, _, _, _⟩) rfl (fun K hK => ?_) AllReadyH.nil
      refine step_strow rfl 84 (.tmp 10) (.tmp 57) rfl rb 0 rfl 84 zc (Rt.mk n0 n1 n2 n3 q9 q11).cells rfl BR (by rw [hzc]; exact Nat.le_refl _) (by intro u hu; simp [Rt.cells] at hu; rcases hu with rfl | rfl | rfl | rfl | rfl | rfl <;> rfl) (by kernel_rfl) ?_
      intro w7 B7 x7 _
      rw [List.take_zero, List.nil_append, List.drop_of_length_le (by rw [hzc]; exact Nat.le_refl _), List.append_nil] at B7
      have hk := hS.trans' x7 (by intro i hi; rw [List.mem_singleton] at hi; exact .inr (hi ▸ hrb))
      refine hK.out _ _ hk (fun hS => ?_)
      clear hK K
      try simp only [Act.put]
      refine wpAnyH_done (by kernel_rfl) ?_ _
      exact HQ.out _ _ _ _ _ _ _ _ _ _ _ _ _ rb _ w7 B7 (by rw [hz0.out]; exact hrb) (HX.out _ hS)
    · skip
      go_simp
      obtain ⟨zc, hzc, BR⟩ : ∃ zc : List Value, zc.length = 6 ∧ Blk (wq.alloc (.cells #[.int .u16 0, .int .u16 0, .int .u16 0, .int .u16 0, .bool false, .bool false] 84)) wq.heap.size 84 zc := ⟨_, by kernel_rfl, Blk.new wq 84 #[.int .u16 0, .int .u16 0, .int .u16 0, .int .u16 0, .bool false, .bool false]⟩
      have hrb : w9.heap.size ≤ wq.heap.size := hS.size
      have hk : Ext [] w9 (wq.alloc (.cells #[.int .u16 0, .int .u16 0, .int .u16 0, .int .u16 0, .bool false, .bool false] 84)) := hS.alloc _
      clear hS
      generalize wq.alloc (.cells #[.int .u16 0, .int .u16 0, .int .u16 0, .int .u16 0, .bool false, .bool false] 84) = wq2 at *
      generalize wq.heap.size = rb at *
      obtain ⟨wq, hwq⟩ : ∃ w, w = wq2 := ⟨_, rfl⟩
      subst hwq
      refine hK.out _ _ hk (fun hS => ?_)
      clear hK K
      try simp only [Act.put, List.setIfInBounds_toArray, List.set_cons_zero, List.set_cons_succ]
      refine wpAnyH_ready (rs := [11]) (by kernel_rfl) (by simp) ?_
      refine AllReadyH.cons (o := ⟨some 56, _, _, _, _, _⟩) rfl (fun K hK => ?_) AllReadyH.nil
      go_simp
      refine (contains_any v _ wq (HR2.out _ hS)).mono ?_
      rintro e W11 ⟨⟨q11, rfl⟩, rfl⟩
      go_simp
      have hk := hS
      refine hK.out _ _ hk (fun hS => ?_)
      clear hK K
      try simp only [Act.put, List.setIfInBounds_toArray, List.set_cons_zero, List.set_cons_succ]
      refine wpAnyH_take (i := 12) (oi := ⟨some 57, _, _, _, _, _⟩) (v := ?_) rfl (by kernel_rfl) (by kernel_rfl) (by kernel_rfl) (fun ch a w h => hP ch a _ _ w h) (Or.inl ⟨by rfl, ?_⟩) (by assumption) ?_
      rotate_left 1
      · (intro w hSw; (try dsimp only at hSw); go_split_ands; (try go_simp); (try with_reducible rfl))
      try simp only [Act.put, List.setIfInBounds_toArray, List.set_cons_zero, List.set_cons_succ]
      refine wpAnyH_ready (rs := [14]) (by kernel_rfl) (by simp) ?_
      refine AllReadyH.cons (o := ⟨none, _, _, _, _, _⟩) rfl (fun K hK => ?_) AllReadyH.nil
      refine step_strow rfl 84 (.tmp 10) (.tmp 57) rfl rb 0 rfl 84 zc (Rt.mk n0 n1 n2 n3 q9 q11).cells rfl BR (by rw [hzc]; exact Nat.le_refl _) (by intro u hu; simp [Rt.cells] at hu; rcases hu with rfl | rfl | rfl | rfl | rfl | rfl <;> rfl) (by kernel_rfl) ?_
      intro w7 B7 x7 _
      rw [List.take_zero, List.nil_append, List.drop_of_length_le (by rw [hzc]; exact Nat.le_refl _), List.append_nil] at B7
      have hk := hS.trans' x7 (by intro i hi; rw [List.mem_singleton] at hi; exact .inr (hi ▸ hrb))
      refine hK.out _ _ hk (fun hS => ?_)
      clear hK K
      try simp only [Act.put]
      refine wpAnyH_done (by kernel_rfl) ?_ _
      exact HQ.out _ _ _ _ _ _ _ _ _ _ _ _ _ rb _ w7 B7 (by rw [hz0.out]; exact hrb) (HX.out _ hS)
  · skip
    go_simp
    obtain ⟨zc, hzc, BR⟩ : ∃ zc : List Value, zc.length = 6 ∧ Blk (wq.alloc (.cells #[.int .u16 0, .int .u16 0, .int .u16 0, .int .u16 0, .bool false, .bool false] 84)) wq.heap.size 84 zc := ⟨_, by kernel_rfl, Blk.new wq 84 #[.int .u16 0, .int .u16 0, .int .u16 0, .int .u16 0, .bool false, .bool false]⟩
    have hrb : w9.heap.size ≤ wq.heap.size := hS.size
    have hk : Ext [] w9 (wq.alloc (.cells #[.int .u16 0, .int .u16 0, .int .u16 0, .int .u16 0, .bool false, .bool false] 84)) := hS.alloc _
    clear hS
    generalize wq.alloc (.cells #[.int .u16 0, .int .u16 0, .int .u16 0, .int .u16 0, .bool false, .bool false] 84) = wq2 at *
    generalize wq.heap.size = rb at *
    obtain ⟨wq, hwq⟩ : ∃ w, w = wq2 := ⟨_, rfl⟩
    subst hwq
    refine hK.out _ _ hk (fun hS => ?_)
    clear hK K
    try simp only [Act.put, List.setIfInBounds_toArray, List.set_cons_zero, List.set_cons_succ]
    refine wpAnyH_ready (rs := [9]) (by kernel_rfl) (by simp) ?_
    refine AllReadyH.cons (o := ⟨some 54, _, _, _, _, _⟩) rfl (fun K hK => ?_) AllReadyH.nil
    go_simp
    refine (contains_any v _ wq (HR2.out _ hS)).mono ?_
    rintro e W9 ⟨⟨q9, rfl⟩, rfl⟩
    go_simp
    have hk := hS
    refine hK.out _ _ hk (fun hS => ?_)
    clear hK K
    try simp only [Act.put, List.setIfInBounds_toArray, List.set_cons_zero, List.set_cons_succ]
    refine wpAnyH_ready (rs := [11]) (by kernel_rfl) (by simp) ?_
    refine AllReadyH.cons (o := ⟨some 56, _, _, _, _, _⟩) rfl (fun K hK => ?_) AllReadyH.nil
    go_simp
    refine (contains_any v _ wq (HR2.out _ hS)).mono ?_
    rintro e W11 ⟨⟨q11, rfl⟩, rfl⟩
    go_simp
    have hk := hS
    refine hK.out _ _ hk (fun hS => ?_)
    clear hK K
    try simp only [Act.put, List.setIfInBounds_toArray, List.set_cons_zero, List.set_cons_succ]
    refine wpAnyH_take (i := 12) (oi := ⟨some 57, _, _, _, _, _⟩) (v := ?_) rfl (by kernel_rfl) (by kernel_rfl) (by kernel_rfl) (fun ch a w h => hP ch a _ _ w h) (Or.inl ⟨by rfl, ?_⟩) (by assumption) ?_
    rotate_left 1
    · (intro w hSw; (try dsimp only at hSw); go_split_ands; (try go_simp); (try with_reducible rfl))
    try simp only [Act.put, List.setIfInBounds_toArray, List.set_cons_zero, List.set_cons_succ]
    refine wpAnyH_ready (rs := [14]) (by kernel_rfl) (by simp) ?_
    refine AllReadyH.cons (o := ⟨none, _, _, _, _, _⟩) rfl (fun K hK => ?_) AllReadyH.nil
    refine step_strow rfl 84 (.tmp 10) (.tmp 57) rfl rb 0 rfl 84 zc (Rt.mk n0 n1 n2 n3 q9 q11).cells rfl BR (by rw [hzc]; exact Nat.le_refl _) (by intro u hu; simp [Rt.cells] at hu; rcases hu with rfl | rfl | rfl | rfl | rfl | rfl <;> rfl) (by kernel_rfl) ?_
    intro w7 B7 x7 _
    rw [List.take_zero, List.nil_append, List.drop_of_length_le (by rw [hzc]; exact Nat.le_refl _), List.append_nil] at B7
    have hk := hS.trans' x7 (by intro i hi; rw [List.mem_singleton] at hi; exact .inr (hi ▸ hrb))
    refine hK.out _ _ hk (fun hS => ?_)
    clear hK K
    try simp only [Act.put]
    refine wpAnyH_done (by kernel_rfl) ?_ _
    exact HQ.out _ _ _ _ _ _ _ _ _ _ _ _ _ rb _ w7 B7 (by rw [hz0.out]; exact hrb) (HX.out _ hS)
end Go.Proofs.YtbjkfgfiifnjoaaDoor

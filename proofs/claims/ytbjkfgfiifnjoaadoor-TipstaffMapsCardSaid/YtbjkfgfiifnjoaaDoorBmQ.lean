/- Package bmap: Sum: one entry's parts. -/
import Derived.Test.YtbjkfgfiifnjoaaDoorBmO
import Derived.Test.YtbjkfgfiifnjoaaDoorSlc
namespace Go.Proofs.YtbjkfgfiifnjoaaDoor
open Go.RowKit
set_option maxRecDepth 100000

theorem info_sl : (Tryd.prog.info? 39).map (fun i => (i.zero, i.size, i.bytes)) = some (some (.slice none 0 0), 1, 24) := by kernel_rfl

noncomputable def sumBody : Code := Tryd.f20.body.getD .skip

set_option maxHeartbeats 16000000 in
theorem bm_sum9 (eb cb pb k : Nat) (v0 v1 : UInt8) (v4 : Value) (vs : List Value) (bs : List (List UInt8)) (w0 : World) (P : Parts w0 v4 vs bs) (hvs : vs.length ≤ 100)
    (d0 : w0.cell? ⟨eb, 0, none⟩ = some (.string (keyS k))) (d1 : w0.cell? ⟨eb, 1, none⟩ = some (.pointer (some ⟨cb, 0, none⟩))) (d2 : w0.cell? ⟨cb, 0, none⟩ = some (.slice (some ⟨pb, 0, none⟩) 2 2)) (hel : eb < w0.heap.size) (hcl : cb < w0.heap.size)
    (PB : PartB w0 (.slice (some ⟨pb, 0, none⟩) 2 2) [v0, v1]) (ne : eb ∉ v4.ownBlock.toList) (nc : cb ∉ v4.ownBlock.toList)
    (C : Code) (hC : C = (regAt 9 sumBody).getD .skip) (Q : Exit → Act → World → Prop) (u0 u1 u2 u3 u5 u7 u8 u9 u10 u11 u12 u13 u14 u15 u16 u17 u18 u19 u20 u21 u22 u23 u24 u25 u26 u27 u28 u29 u30 u31 u32 u33 u34 u35 u36 u37 u38 u39 u40 u41 u42 u43 u44 u45 u46 u47 u48 u49 u50 u51 u52 u53 u54 u55 u56 u57 u58 u59 u60 u61 u62 u63 u64 u65 u66 : Value) (hP : ∀ ch (a : Act) (d : Nat) v w, Q (.panic ch) (a.put (some d) v) w → Q (.panic ch) a w)
    (hQ : ∀ (s4 s49 s50 s51 s52 s53 s54 s55 s56 s57 s58 s59 s60 s61 s62 s63 : Value) (u : Value) (w' : World), Parts w' s4 (vs ++ [u, .slice (some ⟨pb, 0, none⟩) 2 2]) (bs ++ [keyB4 k, [v0, v1]]) → Ext v4.ownBlock.toList w0 w' → (∀ g, s4.ownBlock = some g → v4.ownBlock = some g ∨ w0.heap.size ≤ g) → Q .normal ⟨#[u0, u1, u2, u3, s4, u5, .pointer (some ⟨eb, 0, none⟩), u7, u8, u9, u10, u11, u12, u13, u14, u15, u16, u17, u18, u19, u20, u21, u22, u23, u24, u25, u26, u27, u28, u29, u30, u31, u32, u33, u34, u35, u36, u37, u38, u39, u40, u41, u42, u43, u44, u45, u46, u47, u48, s49, s50, s51, s52, s53, s54, s55, s56, s57, s58, s59, s60, s61, s62, s63, u64, u65, u66], []⟩ w') :
    Code.wp Tryd.prog C Q ⟨#[u0, u1, u2, u3, v4, u5, .pointer (some ⟨eb, 0, none⟩), u7, u8, u9, u10, u11, u12, u13, u14, u15, u16, u17, u18, u19, u20, u21, u22, u23, u24, u25, u26, u27, u28, u29, u30, u31, u32, u33, u34, u35, u36, u37, u38, u39, u40, u41, u42, u43, u44, u45, u46, u47, u48, u49, u50, u51, u52, u53, u54, u55, u56, u57, u58, u59, u60, u61, u62, u63, u64, u65, u66], []⟩ w0 := by
  obtain ⟨i0, hi, hz0, hz1, hz2⟩ := info_parts info_sl
  subst hC
  conv =>
    arg 2
    whnf
  have HQ := Lib.hid hQ
  clear hQ
  obtain ⟨va, vc, rfl⟩ := owns_slice P.own
  have hks : (keyS k).size = 4 := rfl
  have HD := Lib.hid (fun w' (x : Ext (Value.slice va vs.length vc).ownBlock.toList w0.drew w') => (show w'.cell? ⟨eb, 0, none⟩ = some (.string (keyS k)) ∧ w'.cell? ⟨eb, 1, none⟩ = some (.pointer (some ⟨cb, 0, none⟩)) ∧ w'.cell? ⟨cb, 0, none⟩ = some (.slice (some ⟨pb, 0, none⟩) 2 2) ∧ eb < w'.heap.size ∧ cb < w'.heap.size from
    ⟨(x.cell (p := ⟨eb, 0, none⟩) hel ne).trans d0, (x.cell (p := ⟨eb, 1, none⟩) hel ne).trans d1, (x.cell (p := ⟨cb, 0, none⟩) hcl nc).trans d2, Nat.lt_of_lt_of_le hel x.size, Nat.lt_of_lt_of_le hcl x.size⟩))
  have X0 : Ext (Value.slice va vs.length vc).ownBlock.toList w0 w0.drew := (Ext.refl _ _).drew
  have P := P.ext0 ((Ext.refl [] w0).drew)
  have PB := PB.ext0 ((Ext.refl [] w0).drew)
  clear d0 d1 d2 hel hcl ne nc
  refine wp_region_held_drew (S := fun w' => Ext (Value.slice va vs.length vc).ownBlock.toList w0.drew w') (by kernel_rfl) (Ext.refl _ _) (fun hS => ?_)
  generalize w0.drew = w9 at *
  refine (?_ : ∀ wq, Ext (Value.slice va vs.length vc).ownBlock.toList w9 wq → Parts wq (.slice va vs.length vc) vs bs → PartB wq (.slice (some ⟨pb, 0, none⟩) 2 2) [v0, v1] → wpAnyH _ _ _ _ _ _ _ _ wq) w9 hS P PB
  clear hS P PB
  intro wq hS P PB
  refine wpAnyH_take (i := 0) (oi := ⟨some 49, _, _, _, _, _⟩) (v := ?_) rfl (by kernel_rfl) (by kernel_rfl) (by kernel_rfl) (fun ch a w h => hP ch a _ _ w h) (Or.inl ⟨by rfl, ?_⟩) (by assumption) ?_
  rotate_left 1
  · (intro w hSw; (try dsimp only at hSw); go_split_ands; (try go_simp); (try with_reducible rfl))
  try simp only [Act.put, List.setIfInBounds_toArray, List.set_cons_zero, List.set_cons_succ]
  refine wpAnyH_take (i := 1) (oi := ⟨some 50, _, _, _, _, _⟩) (v := ?_) rfl (by kernel_rfl) (by kernel_rfl) (by kernel_rfl) (fun ch a w h => hP ch a _ _ w h) (Or.inl ⟨by rfl, ?_⟩) (by assumption) ?_
  rotate_left 1
  · (intro w hSw; (try dsimp only at hSw); go_split_ands; (try go_simp); (try with_reducible rfl))
  try simp only [Act.put, List.setIfInBounds_toArray, List.set_cons_zero, List.set_cons_succ]
  refine wpAnyH_take (i := 2) (oi := ⟨some 51, _, _, _, _, _⟩) (v := ?_) rfl (by kernel_rfl) (by kernel_rfl) (by kernel_rfl) (fun ch a w h => hP ch a _ _ w h) (Or.inl ⟨by rfl, ?_⟩) (by assumption) ?_
  rotate_left 1
  · (intro w hSw; (try dsimp only at hSw); go_split_ands; (try go_simp); (try with_reducible rfl))
  try simp only [Act.put, List.setIfInBounds_toArray, List.set_cons_zero, List.set_cons_succ]
  refine wpAnyH_take (i := 3) (oi := ⟨some 52, _, _, _, _, _⟩) (v := ?_) rfl (by kernel_rfl) (by kernel_rfl) (by kernel_rfl) (fun ch a w h => hP ch a _ _ w h) (Or.inl ⟨by rfl, ?_⟩) (by assumption) ?_
  rotate_left 1
  · (intro w hSw; (try dsimp only at hSw); go_split_ands; (try go_simp); (try with_reducible rfl))
  try simp only [Act.put, List.setIfInBounds_toArray, List.set_cons_zero, List.set_cons_succ]
  refine wpAnyH_take (i := 4) (oi := ⟨some 53, _, _, _, _, _⟩) (v := ?_) rfl (by kernel_rfl) (by kernel_rfl) (by kernel_rfl) (fun ch a w h => hP ch a _ _ w h) (Or.inl ⟨by rfl, ?_⟩) (by assumption) ?_
  rotate_left 1
  · (intro w hSw; (try dsimp only at hSw); go_split_ands; obtain ⟨d0, d1, d2, l1, l2⟩ := HD.out w (by assumption); (try go_simp); (try with_reducible rfl))
  try simp only [Act.put, List.setIfInBounds_toArray, List.set_cons_zero, List.set_cons_succ]
  refine wpAnyH_take (i := 6) (oi := ⟨some 55, _, _, _, _, _⟩) (v := ?_) rfl (by kernel_rfl) (by kernel_rfl) (by kernel_rfl) (fun ch a w h => hP ch a _ _ w h) (Or.inl ⟨by rfl, ?_⟩) (by assumption) ?_
  rotate_left 1
  · (intro w hSw; (try dsimp only at hSw); go_split_ands; (try go_simp); (try with_reducible rfl))
  try simp only [Act.put, List.setIfInBounds_toArray, List.set_cons_zero, List.set_cons_succ]
  refine wpAnyH_take (i := 7) (oi := ⟨some 56, _, _, _, _, _⟩) (v := ?_) rfl (by kernel_rfl) (by kernel_rfl) (by kernel_rfl) (fun ch a w h => hP ch a _ _ w h) (Or.inl ⟨by rfl, ?_⟩) (by assumption) ?_
  rotate_left 1
  · (intro w hSw; (try dsimp only at hSw); go_split_ands; (try go_simp); (try with_reducible rfl))
  try simp only [Act.put, List.setIfInBounds_toArray, List.set_cons_zero, List.set_cons_succ]
  refine wpAnyH_take (i := 8) (oi := ⟨some 57, _, _, _, _, _⟩) (v := ?_) rfl (by kernel_rfl) (by kernel_rfl) (by kernel_rfl) (fun ch a w h => hP ch a _ _ w h) (Or.inl ⟨by rfl, ?_⟩) (by assumption) ?_
  rotate_left 1
  · (intro w hSw; (try dsimp only at hSw); go_split_ands; (try go_simp); (try with_reducible rfl))
  try simp only [Act.put, List.setIfInBounds_toArray, List.set_cons_zero, List.set_cons_succ]
  refine wpAnyH_take (i := 9) (oi := ⟨some 58, _, _, _, _, _⟩) (v := ?_) rfl (by kernel_rfl) (by kernel_rfl) (by kernel_rfl) (fun ch a w h => hP ch a _ _ w h) (Or.inl ⟨by rfl, ?_⟩) (by assumption) ?_
  rotate_left 1
  · (intro w hSw; (try dsimp only at hSw); go_split_ands; obtain ⟨d0, d1, d2, l1, l2⟩ := HD.out w (by assumption); (try go_simp); (try with_reducible rfl))
  try simp only [Act.put, List.setIfInBounds_toArray, List.set_cons_zero, List.set_cons_succ]
  refine wpAnyH_take (i := 10) (oi := ⟨some 59, _, _, _, _, _⟩) (v := ?_) rfl (by kernel_rfl) (by kernel_rfl) (by kernel_rfl) (fun ch a w h => hP ch a _ _ w h) (Or.inl ⟨by rfl, ?_⟩) (by assumption) ?_
  rotate_left 1
  · (intro w hSw; (try dsimp only at hSw); go_split_ands; (try go_simp); (try with_reducible rfl))
  try simp only [Act.put, List.setIfInBounds_toArray, List.set_cons_zero, List.set_cons_succ]
  refine wpAnyH_take (i := 11) (oi := ⟨some 60, _, _, _, _, _⟩) (v := ?_) rfl (by kernel_rfl) (by kernel_rfl) (by kernel_rfl) (fun ch a w h => hP ch a _ _ w h) (Or.inl ⟨by rfl, ?_⟩) (by assumption) ?_
  rotate_left 1
  · (intro w hSw; (try dsimp only at hSw); go_split_ands; (try go_simp); (try with_reducible rfl))
  try simp only [Act.put, List.setIfInBounds_toArray, List.set_cons_zero, List.set_cons_succ]
  refine wpAnyH_take (i := 12) (oi := ⟨some 61, _, _, _, _, _⟩) (v := ?_) rfl (by kernel_rfl) (by kernel_rfl) (by kernel_rfl) (fun ch a w h => hP ch a _ _ w h) (Or.inl ⟨by rfl, ?_⟩) (by assumption) ?_
  rotate_left 1
  · (intro w hSw; (try dsimp only at hSw); go_split_ands; obtain ⟨d0, d1, d2, l1, l2⟩ := HD.out w (by assumption); (try go_simp); (try with_reducible rfl))
  try simp only [Act.put, List.setIfInBounds_toArray, List.set_cons_zero, List.set_cons_succ]
  refine wpAnyH_ready (rs := [5]) (by kernel_rfl) (by simp) ?_
  refine AllReadyH.cons (o := ⟨some 54, _, _, _, _, _⟩) rfl (fun K hK => ?_) AllReadyH.nil
  have hcv := Lib.run_convert_string_bytes (P := Tryd.prog) wq 9 39 5 (keyS k) Tryd.underlying9 Tryd.underlying39 (by kernel_rfl)
  rw [hks] at hcv
  go_simp
  clear hcv
  have xq := bytesW_ext wq 5 (keyS k)
  have P1 := bytesW_part wq k (grownCap wq 4 0 5)
  have P := P.ext0 xq
  have PB := PB.ext0 xq
  have hSn := hS.trans (xq.sub (by simp))
  clear hS xq
  generalize grownCap wq 4 0 5 = kc at *
  generalize Lib.bytesWorld wq 5 (keyS k) = wq2 at *
  generalize wq.heap.size = kb at *
  obtain ⟨wq, hwq⟩ : ∃ w, w = wq2 := ⟨_, rfl⟩
  subst hwq
  refine hK.out _ _ hSn (fun hS => ?_)
  clear hSn
  clear hK K
  try simp only [Act.put, List.setIfInBounds_toArray, List.set_cons_zero, List.set_cons_succ]
  refine wpAnyH_ready (rs := [13]) (by kernel_rfl) (by simp) ?_
  refine AllReadyH.cons (o := ⟨some 62, _, _, _, _, _⟩) rfl (fun K hK => ?_) AllReadyH.nil
  go_simp
  have BN := Blk.new wq 39 #[(.slice (some ⟨kb, 0, none⟩) 4 kc), .slice (some ⟨pb, 0, none⟩) 2 2]
  have xq : Ext [] wq (wq.alloc (.cells #[(.slice (some ⟨kb, 0, none⟩) 4 kc), .slice (some ⟨pb, 0, none⟩) 2 2] 39)) := (Ext.refl _ _).alloc _
  have P := P.ext0 xq
  have PB := PB.ext0 xq
  have P1 := P1.ext0 xq
  have hSn := hS.trans (xq.sub (by simp))
  clear hS xq
  generalize wq.alloc (.cells #[(.slice (some ⟨kb, 0, none⟩) 4 kc), .slice (some ⟨pb, 0, none⟩) 2 2] 39) = wq2 at *
  generalize wq.heap.size = nb at *
  obtain ⟨wq, hwq⟩ : ∃ w, w = wq2 := ⟨_, rfl⟩
  subst hwq
  refine hK.out _ _ hSn (fun hS => ?_)
  clear hSn
  clear hK K
  try simp only [Act.put, List.setIfInBounds_toArray, List.set_cons_zero, List.set_cons_succ]
  refine wpAnyH_ready (rs := [14]) (by kernel_rfl) (by simp) ?_
  refine AllReadyH.cons (o := ⟨some 63, _, _, _, _, _⟩) rfl (fun K hK => ?_) AllReadyH.nil
  refine step_app _ rfl (.tmp 49) (.tmp 62) 41 rfl 39 i0 _ 1 24 Tryd.underlying41 hi hz0 hz1 hz2 rfl (by decide) (.slice va vs.length vc) vs.length vs rfl P.own (.slice (some ⟨nb, 0, none⟩) 2 2) 2 [(.slice (some ⟨kb, 0, none⟩) 4 kc), .slice (some ⟨pb, 0, none⟩) 2 2] rfl (blk_reads BN 2 rfl) (by intro u hu; simp at hu; rcases hu with rfl | rfl; rfl; rfl) (by unfold maxLen; omega) (by omega) ?_
  intro v8 w8 hown8 hgrow8 hfr8 _
  have x8 : Ext (Value.slice va vs.length vc).ownBlock.toList wq w8 := (Ext.refl _ _).grown hgrow8 (by intro g hg; left; simp [hg])
  have P8 := P.snoc P1 PB x8 hown8
  have hfr : ∀ g, v8.ownBlock = some g → (Value.slice va vs.length vc).ownBlock = some g ∨ w9.heap.size ≤ g := by
    intro g hg
    rcases hfr8 with e | ⟨g', e, hle⟩
    · exact .inl (e ▸ hg)
    · rw [e] at hg; cases hg; exact .inr (Nat.le_trans hS.size hle)
  have hSn := hS.trans x8
  clear hS x8 hgrow8 hfr8 hown8 P P1 PB BN
  refine hK.out _ _ hSn (fun hS => ?_)
  clear hK K
  try simp only [Act.put, List.setIfInBounds_toArray, List.set_cons_zero, List.set_cons_succ]
  refine wpAnyH_take (i := 15) (oi := ⟨some 4, _, _, _, _, _⟩) (v := ?_) rfl (by kernel_rfl) (by kernel_rfl) (by kernel_rfl) (fun ch a w h => hP ch a _ _ w h) (Or.inl ⟨by rfl, ?_⟩) (by assumption) ?_
  rotate_left 1
  · (intro w hSw; (try dsimp only at hSw); go_split_ands; (try go_simp); (try with_reducible rfl))
  try simp only [Act.put, List.setIfInBounds_toArray, List.set_cons_zero, List.set_cons_succ]
  refine wpAnyH_done (by kernel_rfl) ?_ _
  have hz := X0.size
  exact HQ.out _ _ _ _ _ _ _ _ _ _ _ _ _ _ _ _ (.slice (some ⟨kb, 0, none⟩) 4 kc) _ P8 (X0.trans hS) (fun g hg => (hfr g hg).imp_right (Nat.le_trans hz))

end Go.Proofs.YtbjkfgfiifnjoaaDoor

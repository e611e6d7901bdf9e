/- TipstaffMaps: an Update of one of b's maps. -/
import Derived.Test.YtbjkfgfiifnjoaaDoorMapsB
namespace Go.Proofs.YtbjkfgfiifnjoaaDoor
open Go.RowKit
set_option maxRecDepth 100000

set_option maxHeartbeats 16000000 in
theorem maps_r32 (w0 w : World) (ba bb bw : Nat) (m : Nat → Nat) (F : Nat → List Nat) (c : Nat → Con) (q : Nat) (R : List Nat) (W : Wan) (H : MSt w0 w ba bb bw m F c q R W) (hq : q ≤ 100000) (j k g : Nat) (v0 v1 : UInt8) (hj : j < 3) (hk : k < 8) (hW : W k = some (g, v0, v1)) (hc0 : tyS (3 + j) = 0 → c (3 + j) k ≠ none)
    (C : Code) (hC : C = (regAt 32 mapsBody).getD .skip) (Q : Exit → Act → World → Prop) (u0 u1 u2 u3 u4 u7 u8 u9 u10 u11 u12 u14 u15 u16 u17 u18 u21 u22 u23 u24 u25 u26 u27 u28 u29 u30 u31 u32 u33 u34 u35 u36 u37 u38 u39 u40 u41 u42 u43 u44 u45 u46 u47 u48 u49 u50 u51 u52 u53 u54 u55 u56 u57 u58 u59 u60 u61 u62 u63 u64 u65 u66 u67 u68 u69 u70 u71 u72 u73 u74 u75 u76 u77 u78 u79 u80 u81 u82 u83 u84 u85 u86 u87 u88 u89 u90 u91 u92 u93 u94 u95 u96 u97 u98 u99 u100 u101 u102 u103 u104 u105 u106 u107 u108 u109 u110 u111 u112 u113 u114 u115 u116 u117 u118 u119 u120 u121 u122 u123 u124 u125 u126 u127 u128 u129 u130 u131 u132 u133 u134 u135 u136 u137 u138 u139 u140 u141 u142 u143 u144 u145 u146 u147 u148 u149 u150 u151 u152 u153 u154 u155 u156 u157 u158 u159 u160 u161 u162 u163 u164 u165 u166 u167 u168 u169 u170 u171 u172 u173 u174 u175 u176 u177 u178 u179 u180 u181 u182 u183 u184 u185 u186 u187 u188 u189 u190 u191 u192 u193 u194 u195 u196 u197 u198 u199 u200 u201 u202 u203 u204 u205 u206 u207 u208 u209 u210 u211 u212 u213 u214 u215 : Value) (hP : ∀ ch (a : Act) (d : Nat) v w, Q (.panic ch) (a.put (some d) v) w → Q (.panic ch) a w)
    (hQ : ∀ (F' : Nat → List Nat) (s113 s114 s115 s116 s117 s118 s119 s120 s121 s122 : Value) (w' : World), MSt w0 w' ba bb bw m F' (updN c (3 + j) (updC (c (3 + j)) k v0 v1)) (q + 1) R W → Q .normal ⟨#[u0, u1, u2, u3, u4, .pointer (some ⟨ba, 0, none⟩), .pointer (some ⟨bb, 0, none⟩), u7, u8, u9, u10, u11, u12, .pointer (some ⟨bw, 0, none⟩), u14, u15, u16, u17, u18, .int .i64 (k : Int), .int .i64 (j : Int), u21, u22, u23, u24, u25, u26, u27, u28, u29, u30, u31, u32, u33, u34, u35, u36, u37, u38, u39, u40, u41, u42, u43, u44, u45, u46, u47, u48, u49, u50, u51, u52, u53, u54, u55, u56, u57, u58, u59, u60, u61, u62, u63, u64, u65, u66, u67, u68, u69, u70, u71, u72, u73, u74, u75, u76, u77, u78, u79, u80, u81, u82, u83, u84, u85, u86, u87, u88, u89, u90, u91, u92, u93, u94, u95, u96, u97, u98, u99, u100, u101, u102, u103, u104, u105, u106, u107, u108, u109, u110, u111, u112, s113, s114, s115, s116, s117, s118, s119, s120, s121, s122, .bool false, u124, u125, u126, u127, u128, u129, u130, u131, u132, u133, u134, u135, u136, u137, u138, u139, u140, u141, u142, u143, u144, u145, u146, u147, u148, u149, u150, u151, u152, u153, u154, u155, u156, u157, u158, u159, u160, u161, u162, u163, u164, u165, u166, u167, u168, u169, u170, u171, u172, u173, u174, u175, u176, u177, u178, u179, u180, u181, u182, u183, u184, u185, u186, u187, u188, u189, u190, u191, u192, u193, u194, u195, u196, u197, u198, u199, u200, u201, u202, u203, u204, u205, u206, u207, u208, u209, u210, u211, u212, u213, u214, u215], []⟩ w') :
    Code.wp Tryd.prog C Q ⟨#[u0, u1, u2, u3, u4, .pointer (some ⟨ba, 0, none⟩), .pointer (some ⟨bb, 0, none⟩), u7, u8, u9, u10, u11, u12, .pointer (some ⟨bw, 0, none⟩), u14, u15, u16, u17, u18, .int .i64 (k : Int), .int .i64 (j : Int), u21, u22, u23, u24, u25, u26, u27, u28, u29, u30, u31, u32, u33, u34, u35, u36, u37, u38, u39, u40, u41, u42, u43, u44, u45, u46, u47, u48, u49, u50, u51, u52, u53, u54, u55, u56, u57, u58, u59, u60, u61, u62, u63, u64, u65, u66, u67, u68, u69, u70, u71, u72, u73, u74, u75, u76, u77, u78, u79, u80, u81, u82, u83, u84, u85, u86, u87, u88, u89, u90, u91, u92, u93, u94, u95, u96, u97, u98, u99, u100, u101, u102, u103, u104, u105, u106, u107, u108, u109, u110, u111, u112, u113, u114, u115, u116, u117, u118, u119, u120, u121, u122, u123, u124, u125, u126, u127, u128, u129, u130, u131, u132, u133, u134, u135, u136, u137, u138, u139, u140, u141, u142, u143, u144, u145, u146, u147, u148, u149, u150, u151, u152, u153, u154, u155, u156, u157, u158, u159, u160, u161, u162, u163, u164, u165, u166, u167, u168, u169, u170, u171, u172, u173, u174, u175, u176, u177, u178, u179, u180, u181, u182, u183, u184, u185, u186, u187, u188, u189, u190, u191, u192, u193, u194, u195, u196, u197, u198, u199, u200, u201, u202, u203, u204, u205, u206, u207, u208, u209, u210, u211, u212, u213, u214, u215], []⟩ w := by
  subst hC
  conv =>
    arg 2
    whnf
  have HQ := Lib.hid hQ
  clear hQ
  have H := H.ext0 ((Ext.refl _ _).drew)
  have i1 : (j : Int) < 3 := by omega
  have i2 : (0 : Int) ≤ (j : Int) := by omega
  have i3 : (k : Int) < 8 := by omega
  have i4 : (0 : Int) ≤ (k : Int) := by omega
  have uk : IntKind.u8.wrap (k : Int) = (k : Int) := by simp [IntKind.wrap, IntKind.bits, IntKind.signed]; omega
  have hA := (H.B.cell j).trans (ptr3_at m 3 j hj)
  have hWk := (H.Wt.h.cell k).trans (wantV_at W k hk)
  rw [show wv W k = .slice (some ⟨g, 0, none⟩) 2 2 by simp [wv, hW]] at hWk
  have lA := H.B.lt
  have lW := H.Wt.h.lt
  refine wp_region_held_drew (S := fun w' => w'.cell? ⟨bb, j, none⟩ = some (.pointer (some ⟨m (3 + j), 0, none⟩)) ∧ w'.cell? ⟨bw, k, none⟩ = some (.slice (some ⟨g, 0, none⟩) 2 2) ∧ bb < w'.heap.size ∧ bw < w'.heap.size) (by kernel_rfl) ⟨hA, hWk, lA, lW⟩ (fun hS => ?_)
  clear hA hWk lA lW
  generalize w.drew = w1 at *
  refine wpAnyH_take (i := 0) (oi := ⟨some 113, _, _, _, _, _⟩) (v := ?_) rfl (by kernel_rfl) (by kernel_rfl) (by kernel_rfl) (fun ch a w h => hP ch a _ _ w h) (Or.inl ⟨by rfl, ?_⟩) (by assumption) ?_
  rotate_left 1
  · (intro w hSw; (try dsimp only at hSw); go_split_ands; (try go_simp); (try with_reducible rfl))
  try simp only [Act.put, List.setIfInBounds_toArray, List.set_cons_zero, List.set_cons_succ]
  refine wpAnyH_take (i := 1) (oi := ⟨some 114, _, _, _, _, _⟩) (v := ?_) rfl (by kernel_rfl) (by kernel_rfl) (by kernel_rfl) (fun ch a w h => hP ch a _ _ w h) (Or.inl ⟨by rfl, ?_⟩) (by assumption) ?_
  rotate_left 1
  · (intro w hSw; (try dsimp only at hSw); go_split_ands; (try go_simp); (try with_reducible rfl))
  try simp only [Act.put, List.setIfInBounds_toArray, List.set_cons_zero, List.set_cons_succ]
  refine wpAnyH_take (i := 2) (oi := ⟨some 115, _, _, _, _, _⟩) (v := ?_) rfl (by kernel_rfl) (by kernel_rfl) (by kernel_rfl) (fun ch a w h => hP ch a _ _ w h) (Or.inl ⟨by rfl, ?_⟩) (by assumption) ?_
  rotate_left 1
  · (intro w hSw; (try dsimp only at hSw); go_split_ands; (try skip); (try go_simp); (try with_reducible rfl))
  try simp only [Act.put, List.setIfInBounds_toArray, List.set_cons_zero, List.set_cons_succ]
  refine wpAnyH_take (i := 3) (oi := ⟨some 116, _, _, _, _, _⟩) (v := ?_) rfl (by kernel_rfl) (by kernel_rfl) (by kernel_rfl) (fun ch a w h => hP ch a _ _ w h) (Or.inl ⟨by rfl, ?_⟩) (by assumption) ?_
  rotate_left 1
  · (intro w hSw; (try dsimp only at hSw); go_split_ands; (try go_simp); (try with_reducible rfl))
  try simp only [Act.put, List.setIfInBounds_toArray, List.set_cons_zero, List.set_cons_succ]
  refine wpAnyH_take (i := 4) (oi := ⟨some 117, _, _, _, _, _⟩) (v := ?_) rfl (by kernel_rfl) (by kernel_rfl) (by kernel_rfl) (fun ch a w h => hP ch a _ _ w h) (Or.inl ⟨by rfl, ?_⟩) (by assumption) ?_
  rotate_left 1
  · (intro w hSw; (try dsimp only at hSw); go_split_ands; (try go_simp); (try with_reducible rfl))
  try simp only [Act.put, List.setIfInBounds_toArray, List.set_cons_zero, List.set_cons_succ]
  refine wpAnyH_take (i := 6) (oi := ⟨some 119, _, _, _, _, _⟩) (v := ?_) rfl (by kernel_rfl) (by kernel_rfl) (by kernel_rfl) (fun ch a w h => hP ch a _ _ w h) (Or.inl ⟨by rfl, ?_⟩) (by assumption) ?_
  rotate_left 1
  · (intro w hSw; (try dsimp only at hSw); go_split_ands; (try go_simp); (try with_reducible rfl))
  try simp only [Act.put, List.setIfInBounds_toArray, List.set_cons_zero, List.set_cons_succ]
  refine wpAnyH_take (i := 7) (oi := ⟨some 120, _, _, _, _, _⟩) (v := ?_) rfl (by kernel_rfl) (by kernel_rfl) (by kernel_rfl) (fun ch a w h => hP ch a _ _ w h) (Or.inl ⟨by rfl, ?_⟩) (by assumption) ?_
  rotate_left 1
  · (intro w hSw; (try dsimp only at hSw); go_split_ands; (try go_simp); (try with_reducible rfl))
  try simp only [Act.put, List.setIfInBounds_toArray, List.set_cons_zero, List.set_cons_succ]
  refine wpAnyH_take (i := 8) (oi := ⟨some 121, _, _, _, _, _⟩) (v := ?_) rfl (by kernel_rfl) (by kernel_rfl) (by kernel_rfl) (fun ch a w h => hP ch a _ _ w h) (Or.inl ⟨by rfl, ?_⟩) (by assumption) ?_
  rotate_left 1
  · (intro w hSw; (try dsimp only at hSw); go_split_ands; (try skip); (try go_simp); (try with_reducible rfl))
  try simp only [Act.put, List.setIfInBounds_toArray, List.set_cons_zero, List.set_cons_succ]
  refine wpAnyH_ready (rs := [5]) (by kernel_rfl) (by simp) ?_
  refine AllReadyH.cons (o := ⟨some 118, _, _, _, _, _⟩) rfl (fun K hK => ?_) AllReadyH.nil
  go_simp
  have BK := Blk.new w1 5 #[.int .u8 (k : Int), .int .u8 0, .int .u8 0, .int .u8 0]
  have xq : Ext [] w1 (w1.alloc (.cells #[.int .u8 (k : Int), .int .u8 0, .int .u8 0, .int .u8 0] 5)) := (Ext.refl _ _).alloc _
  have H := H.ext0 xq
  have hSn := And.intro ((xq.cell (p := ⟨bb, j, none⟩) hS.2.2.1 (by simp)).trans hS.1) (And.intro ((xq.cell (p := ⟨bw, k, none⟩) hS.2.2.2 (by simp)).trans hS.2.1) (And.intro (Nat.lt_of_lt_of_le hS.2.2.1 xq.size) (Nat.lt_of_lt_of_le hS.2.2.2 xq.size)))
  clear hS xq
  generalize w1.alloc (.cells #[.int .u8 (k : Int), .int .u8 0, .int .u8 0, .int .u8 0] 5) = w2 at *
  generalize w1.heap.size = kb at *
  refine hK.out _ _ hSn (fun hS => ?_)
  clear hSn
  clear hK K
  try simp only [Act.put, List.setIfInBounds_toArray, List.set_cons_zero, List.set_cons_succ]
  refine wpAnyH_ready (rs := [9]) (by kernel_rfl) (by simp) ?_
  refine AllReadyH.cons (o := ⟨some 122, _, _, _, _, _⟩) rfl (fun K hK => ?_) AllReadyH.nil
  go_simp
  refine (bm_update (m (3 + j)) (tyS (3 + j)) (F (3 + j)) (c (3 + j)) q k w2 (H.M.at_ (3 + j) (by omega)) (tyS_ok (3 + j)) hc0 hk (by omega) _ (key_blk hk BK 4) v0 v1 g 2 (H.Wt.e k g v0 v1 hW).1).mono ?_
  rintro e w3 ⟨rfl, hp⟩
  obtain ⟨F', H3, x3⟩ := H.step (3 + j) (by omega) hp
  have hSn := And.intro ((H3.B.cell j).trans (ptr3_at m 3 j hj)) (And.intro ((H3.Wt.h.cell k).trans (wantV_at W k hk)) (And.intro H3.B.lt H3.Wt.h.lt))
  rw [show wv W k = .slice (some ⟨g, 0, none⟩) 2 2 by simp [wv, hW]] at hSn
  clear hp x3 H hS
  go_simp
  refine hK.out _ _ hSn (fun hS => ?_)
  clear hK K
  try simp only [Act.put, List.setIfInBounds_toArray, List.set_cons_zero, List.set_cons_succ]
  refine wpAnyH_take (i := 10) (oi := ⟨some 123, _, _, _, _, _⟩) (v := ?_) rfl (by kernel_rfl) (by kernel_rfl) (by kernel_rfl) (fun ch a w h => hP ch a _ _ w h) (Or.inl ⟨by rfl, ?_⟩) (by assumption) ?_
  rotate_left 1
  · (intro w hSw; (try dsimp only at hSw); go_split_ands; (try go_simp); (try with_reducible rfl))
  try simp only [Act.put, List.setIfInBounds_toArray, List.set_cons_zero, List.set_cons_succ]
  refine wpAnyH_done (by kernel_rfl) ?_ _
  exact HQ.out F' _ _ _ _ _ _ _ _ _ _ _ H3
end Go.Proofs.YtbjkfgfiifnjoaaDoor

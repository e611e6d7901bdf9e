/- The statement ObjtabNumbers: the region of its four appends. -/
import Derived.Test.YtknghmogfbpclaaHeld
import Derived.Test.YtknghmogfbpclaaSlc
import Derived.Test.YtknghmogfbpclaaObjBase
import Derived.Test.YtknghmogfbpclaaProg
namespace Go.Proofs.Ytknghmogfbpclaa
open Go.RowKit
set_option maxRecDepth 100000

theorem info_intN : (Try.prog.info? 3).map (fun i => (i.zero, i.size, i.bytes)) = some (some (.int .i64 0), 1, 8) := by kernel_rfl
theorem info_strN : (Try.prog.info? 9).map (fun i => (i.zero, i.size, i.bytes)) = some (some (.string ⟨#[]⟩), 1, 16) := by kernel_rfl
noncomputable def numBody : Code := Try.f5.body.getD .skip

set_option maxHeartbeats 32000000 in
theorem num_reg24 (k n vc8 vc9 : Nat) (va8 va9 : Option Addr) (x8 x9 : List Value) (w6 : World) (C : Code) (hC : C = (regAt 24 numBody).getD .skip) (Q : Exit → Act → World → Prop)
    (u0 u1 u2 u3 u4 u5 u6 u7 u10 u11 u12 u14 u15 u16 u17 u18 u19 u20 u21 u22 u23 u24 u25 u26 u27 u28 u29 u30 u31 u32 u33 u34 u35 u36 u37 u38 u39 u40 u41 u42 u43 u44 u45 u46 u47 u48 u49 u50 u51 u52 u53 u54 u55 u56 u57 u58 u59 u60 u61 u62 u63 u64 u65 u66 u67 u68 u69 u70 u71 u72 u73 u74 u75 u76 u77 u78 u79 u80 u81 u82 u83 u84 u85 u86 u87 u88 u89 u90 u91 u92 u93 u94 u95 u96 u97 u98 u99 u100 u101 u102 u103 u104 u105 u106 u107 u108 u109 u110 u111 u112 u113 u114 u115 u116 u117 u118 u119 u120 u121 u122 u123 u124 u125 u126 u127 u128 u129 u130 u131 u132 u133 u134 u135 u136 u137 u138 u139 u140 u141 u142 u143 u144 u145 u146 u147 u148 u149 u150 u151 u152 u153 u154 u155 u156 u157 u158 u159 u160 u161 u162 u163 u164 u165 u166 u167 u168 u169 u170 u171 u172 u173 u174 u175 u176 u177 u178 u179 u180 u181 u182 u183 u184 u185 u186 u187 : Value) (hk : k < n) (hn : n ≤ 8) (hP : ∀ ch (a : Act) (d : Nat) v w, Q (.panic ch) (a.put (some d) v) w → Q (.panic ch) a w)
    (H8 : Hid (∀ w', Ext [] w6 w' → w'.ownsRow 0 3 1 (.slice va8 n vc8) n x8)) (H9 : Hid (∀ w', Ext [] w6 w' → w'.ownsRow 0 9 1 (.slice va9 n vc9) n x9))
    (c8 : ∀ u ∈ x8, u.oneCell' = true) (c9 : ∀ u ∈ x9, u.oneCell' = true)
    (hQ : ∀ (v8 v9 s137 s138 s139 s140 s141 s142 s143 s144 s145 s146 s147 s148 s149 s150 s151 s152 s153 s154 s155 s156 : Value) (w' : World), Two w6 w' 3 v8 (0 + k + (n - (k + 1))) ([] ++ x8.take (k * 1) ++ x8.drop ((k + 1) * 1)) 9 v9 (0 + k + (n - (k + 1))) ([] ++ x9.take (k * 1) ++ x9.drop ((k + 1) * 1)) →
      Q .normal ⟨#[u0, u1, u2, u3, u4, u5, u6, u7, v8, v9, u10, u11, u12, .int .i64 (k : Int), u14, u15, u16, u17, u18, u19, u20, u21, u22, u23, u24, u25, u26, u27, u28, u29, u30, u31, u32, u33, u34, u35, u36, u37, u38, u39, u40, u41, u42, u43, u44, u45, u46, u47, u48, u49, u50, u51, u52, u53, u54, u55, u56, u57, u58, u59, u60, u61, u62, u63, u64, u65, u66, u67, u68, u69, u70, u71, u72, u73, u74, u75, u76, u77, u78, u79, u80, u81, u82, u83, u84, u85, u86, u87, u88, u89, u90, u91, u92, u93, u94, u95, u96, u97, u98, u99, u100, u101, u102, u103, u104, u105, u106, u107, u108, u109, u110, u111, u112, u113, u114, u115, u116, u117, u118, u119, u120, u121, u122, u123, u124, u125, u126, u127, u128, u129, u130, u131, u132, u133, u134, u135, u136, s137, s138, s139, s140, s141, s142, s143, s144, s145, s146, s147, s148, s149, s150, s151, s152, s153, s154, s155, s156, u157, u158, u159, u160, u161, u162, u163, u164, u165, u166, u167, u168, u169, u170, u171, u172, u173, u174, u175, u176, u177, u178, u179, u180, u181, u182, u183, u184, u185, u186, u187], []⟩ w') :
    Code.wp Try.prog C Q ⟨#[u0, u1, u2, u3, u4, u5, u6, u7, .slice va8 n vc8, .slice va9 n vc9, u10, u11, u12, .int .i64 (k : Int), u14, u15, u16, u17, u18, u19, u20, u21, u22, u23, u24, u25, u26, u27, u28, u29, u30, u31, u32, u33, u34, u35, u36, u37, u38, u39, u40, u41, u42, u43, u44, u45, u46, u47, u48, u49, u50, u51, u52, u53, u54, u55, u56, u57, u58, u59, u60, u61, u62, u63, u64, u65, u66, u67, u68, u69, u70, u71, u72, u73, u74, u75, u76, u77, u78, u79, u80, u81, u82, u83, u84, u85, u86, u87, u88, u89, u90, u91, u92, u93, u94, u95, u96, u97, u98, u99, u100, u101, u102, u103, u104, u105, u106, u107, u108, u109, u110, u111, u112, u113, u114, u115, u116, u117, u118, u119, u120, u121, u122, u123, u124, u125, u126, u127, u128, u129, u130, u131, u132, u133, u134, u135, u136, u137, u138, u139, u140, u141, u142, u143, u144, u145, u146, u147, u148, u149, u150, u151, u152, u153, u154, u155, u156, u157, u158, u159, u160, u161, u162, u163, u164, u165, u166, u167, u168, u169, u170, u171, u172, u173, u174, u175, u176, u177, u178, u179, u180, u181, u182, u183, u184, u185, u186, u187], []⟩ w6 := by
  subst hC
  conv =>
    arg 2
    whnf
  obtain ⟨i0, hi, hz0, hz1, hz2⟩ := info_parts info_intN
  obtain ⟨j0, hj, hy0, hy1, hy2⟩ := info_parts info_strN
  have hown8 := H8.out w6 (Ext.refl _ _)
  have hown9 := H9.out w6 (Ext.refl _ _)
  have hc8 : n ≤ vc8 := by
    obtain ⟨g, cap, cur, he, -, h, -, -, -⟩ := owns_some hown8 (by omega)
    cases he; exact h
  have hc9 : n ≤ vc9 := by
    obtain ⟨g, cap, cur, he, -, h, -, -, -⟩ := owns_some hown9 (by omega)
    cases he; exact h
  have hs1 := fun w => run_part_to (P := Try.prog) w 37 3 i0 Try.underlying37 hi va8 n vc8 k (by omega)
  have hs2 := fun w => run_part_to (P := Try.prog) w 36 9 j0 Try.underlying36 hj va9 n vc9 k (by omega)
  obtain ⟨u8, hu8, hr8⟩ := part_from (P := Try.prog) 37 3 i0 1 Try.underlying37 hi hz1 3 va8 n vc8 (k + 1) (by omega) x8
  obtain ⟨u9, hu9, hr9⟩ := part_from (P := Try.prog) 36 9 j0 1 Try.underlying36 hj hy1 9 va9 n vc9 (k + 1) (by omega) x9
  have hk1 : ((k + 1 : Nat) : Int) = (k : Int) + 1 := by omega
  rw [hk1] at hu8 hu9
  clear hk1
  have R8a := Lib.hid (fun w' (x' : Ext [] w6 w') => reads_to (H8.out w' x') k (by omega))
  have R9a := Lib.hid (fun w' (x' : Ext [] w6 w') => reads_to (H9.out w' x') k (by omega))
  have R8b := Lib.hid (fun w' (x' : Ext [] w6 w') => hr8 w' (H8.out w' x'))
  have R9b := Lib.hid (fun w' (x' : Ext [] w6 w') => hr9 w' (H9.out w' x'))
  have C8 := Lib.hid c8
  have C9 := Lib.hid c9
  clear hr8 hr9 hown8 hown9 c8 c9
  have hw1 : IntKind.i64.wrap ((k : Int) + 1) = (k : Int) + 1 := IntWalk.i64_in _ (by omega)
  have zz : Ext [] w6 w6.drew := (Ext.refl _ _).drew
  have T := Two.start w6 w6.drew zz 3 9
  refine wp_region_held_drew (S := fun w' => Ext [] w6 w') (by kernel_rfl) zz (fun hS => ?_)
  generalize w6.drew = wq at T hS ⊢
  refine wpAnyH_take (i := 1) (oi := ⟨some 138, _, _, _, _, _⟩) (v := ?_) rfl (by kernel_rfl) (by kernel_rfl) (by kernel_rfl) (fun ch a w h => hP ch a _ _ w h) (Or.inl ⟨by rfl, ?_⟩) (by assumption) ?_
  rotate_left 1
  · (intro w hSw; (try dsimp only at hSw); go_split_ands; (try go_simp); (try with_reducible rfl))
  try simp only [Act.put, List.setIfInBounds_toArray, List.set_cons_zero, List.set_cons_succ]
  refine wpAnyH_take (i := 2) (oi := ⟨some 139, _, _, _, _, _⟩) (v := ?_) rfl (by kernel_rfl) (by kernel_rfl) (by kernel_rfl) (fun ch a w h => hP ch a _ _ w h) (Or.inl ⟨by rfl, ?_⟩) (by assumption) ?_
  rotate_left 1
  · (intro w hSw; (try dsimp only at hSw); go_split_ands; (try go_simp); (try with_reducible rfl))
  try simp only [Act.put, List.setIfInBounds_toArray, List.set_cons_zero, List.set_cons_succ]
  refine wpAnyH_take (i := 3) (oi := ⟨some 140, _, _, _, _, _⟩) (v := ?_) rfl (by kernel_rfl) (by kernel_rfl) (by kernel_rfl) (fun ch a w h => hP ch a _ _ w h) (Or.inl ⟨by rfl, ?_⟩) (by assumption) ?_
  rotate_left 1
  · (intro w hSw; (try dsimp only at hSw); go_split_ands; (try go_simp); (try with_reducible rfl))
  try simp only [Act.put, List.setIfInBounds_toArray, List.set_cons_zero, List.set_cons_succ]
  refine wpAnyH_take (i := 5) (oi := ⟨some 142, _, _, _, _, _⟩) (v := ?_) rfl (by kernel_rfl) (by kernel_rfl) (by kernel_rfl) (fun ch a w h => hP ch a _ _ w h) (Or.inl ⟨by rfl, ?_⟩) (by assumption) ?_
  rotate_left 1
  · (intro w hSw; (try dsimp only at hSw); go_split_ands; (try go_simp); (try with_reducible rfl))
  try simp only [Act.put, List.setIfInBounds_toArray, List.set_cons_zero, List.set_cons_succ]
  refine wpAnyH_take (i := 6) (oi := ⟨some 143, _, _, _, _, _⟩) (v := ?_) rfl (by kernel_rfl) (by kernel_rfl) (by kernel_rfl) (fun ch a w h => hP ch a _ _ w h) (Or.inl ⟨by rfl, ?_⟩) (by assumption) ?_
  rotate_left 1
  · (intro w hSw; (try dsimp only at hSw); go_split_ands; (try go_simp); (try with_reducible rfl))
  try simp only [Act.put, List.setIfInBounds_toArray, List.set_cons_zero, List.set_cons_succ]
  refine wpAnyH_take (i := 7) (oi := ⟨some 144, _, _, _, _, _⟩) (v := ?_) rfl (by kernel_rfl) (by kernel_rfl) (by kernel_rfl) (fun ch a w h => hP ch a _ _ w h) (Or.inl ⟨by rfl, ?_⟩) (by assumption) ?_
  rotate_left 1
  · (intro w hSw; (try dsimp only at hSw); go_split_ands; (try go_simp); (try with_reducible rfl))
  try simp only [Act.put, List.setIfInBounds_toArray, List.set_cons_zero, List.set_cons_succ]
  refine wpAnyH_take (i := 8) (oi := ⟨some 145, _, _, _, _, _⟩) (v := ?_) rfl (by kernel_rfl) (by kernel_rfl) (by kernel_rfl) (fun ch a w h => hP ch a _ _ w h) (Or.inl ⟨by rfl, ?_⟩) (by assumption) ?_
  rotate_left 1
  · (intro w hSw; (try dsimp only at hSw); go_split_ands; (try go_simp); (try with_reducible rfl))
  try simp only [Act.put, List.setIfInBounds_toArray, List.set_cons_zero, List.set_cons_succ]
  refine wpAnyH_take (i := 11) (oi := ⟨some 148, _, _, _, _, _⟩) (v := ?_) rfl (by kernel_rfl) (by kernel_rfl) (by kernel_rfl) (fun ch a w h => hP ch a _ _ w h) (Or.inl ⟨by rfl, ?_⟩) (by assumption) ?_
  rotate_left 1
  · (intro w hSw; (try dsimp only at hSw); go_split_ands; (try go_simp); (try with_reducible rfl))
  try simp only [Act.put, List.setIfInBounds_toArray, List.set_cons_zero, List.set_cons_succ]
  refine wpAnyH_take (i := 12) (oi := ⟨some 149, _, _, _, _, _⟩) (v := ?_) rfl (by kernel_rfl) (by kernel_rfl) (by kernel_rfl) (fun ch a w h => hP ch a _ _ w h) (Or.inl ⟨by rfl, ?_⟩) (by assumption) ?_
  rotate_left 1
  · (intro w hSw; (try dsimp only at hSw); go_split_ands; (try go_simp); (try with_reducible rfl))
  try simp only [Act.put, List.setIfInBounds_toArray, List.set_cons_zero, List.set_cons_succ]
  refine wpAnyH_take (i := 13) (oi := ⟨some 150, _, _, _, _, _⟩) (v := ?_) rfl (by kernel_rfl) (by kernel_rfl) (by kernel_rfl) (fun ch a w h => hP ch a _ _ w h) (Or.inl ⟨by rfl, ?_⟩) (by assumption) ?_
  rotate_left 1
  · (intro w hSw; (try dsimp only at hSw); go_split_ands; (try go_simp); (try with_reducible rfl))
  try simp only [Act.put, List.setIfInBounds_toArray, List.set_cons_zero, List.set_cons_succ]
  refine wpAnyH_take (i := 15) (oi := ⟨some 152, _, _, _, _, _⟩) (v := ?_) rfl (by kernel_rfl) (by kernel_rfl) (by kernel_rfl) (fun ch a w h => hP ch a _ _ w h) (Or.inl ⟨by rfl, ?_⟩) (by assumption) ?_
  rotate_left 1
  · (intro w hSw; (try dsimp only at hSw); go_split_ands; (try go_simp); (try with_reducible rfl))
  try simp only [Act.put, List.setIfInBounds_toArray, List.set_cons_zero, List.set_cons_succ]
  refine wpAnyH_take (i := 16) (oi := ⟨some 153, _, _, _, _, _⟩) (v := ?_) rfl (by kernel_rfl) (by kernel_rfl) (by kernel_rfl) (fun ch a w h => hP ch a _ _ w h) (Or.inl ⟨by rfl, ?_⟩) (by assumption) ?_
  rotate_left 1
  · (intro w hSw; (try dsimp only at hSw); go_split_ands; (try go_simp); (try with_reducible rfl))
  try simp only [Act.put, List.setIfInBounds_toArray, List.set_cons_zero, List.set_cons_succ]
  refine wpAnyH_take (i := 17) (oi := ⟨some 154, _, _, _, _, _⟩) (v := ?_) rfl (by kernel_rfl) (by kernel_rfl) (by kernel_rfl) (fun ch a w h => hP ch a _ _ w h) (Or.inl ⟨by rfl, ?_⟩) (by assumption) ?_
  rotate_left 1
  · (intro w hSw; (try dsimp only at hSw); go_split_ands; (try go_simp); (try with_reducible rfl))
  try simp only [Act.put, List.setIfInBounds_toArray, List.set_cons_zero, List.set_cons_succ]
  refine wpAnyH_take (i := 18) (oi := ⟨some 155, _, _, _, _, _⟩) (v := ?_) rfl (by kernel_rfl) (by kernel_rfl) (by kernel_rfl) (fun ch a w h => hP ch a _ _ w h) (Or.inl ⟨by rfl, ?_⟩) (by assumption) ?_
  rotate_left 1
  · (intro w hSw; (try dsimp only at hSw); go_split_ands; (try go_simp); (try with_reducible rfl))
  try simp only [Act.put, List.setIfInBounds_toArray, List.set_cons_zero, List.set_cons_succ]
  refine wpAnyH_ready (rs := [0, 10]) (by kernel_rfl) (by simp) ?_
  refine AllReadyH.cons (o := ⟨some 137, _, _, _, _, _⟩) rfl (fun K hK => ?_) (AllReadyH.cons (o := ⟨some 147, _, _, _, _, _⟩) rfl (fun K hK => ?_) AllReadyH.nil)
  · skip
    go_simp
    have T1 := T.newA
    clear T
    generalize wq.heap.size = bq at T1 ⊢
    generalize wq.alloc _ = wp at T1 ⊢
    have T := T1
    clear T1
    obtain ⟨wq, hwq⟩ : ∃ w, w = wp := ⟨_, rfl⟩
    rw [← hwq] at T ⊢
    clear hwq
    refine hK.out _ _ T.x (fun hS => ?_)
    clear hK K
    try simp only [Act.put, List.setIfInBounds_toArray, List.set_cons_zero, List.set_cons_succ]
    refine wpAnyH_ready (rs := [4, 10]) (by kernel_rfl) (by simp) ?_
    refine AllReadyH.cons (o := ⟨some 141, _, _, _, _, _⟩) rfl (fun K hK => ?_) (AllReadyH.cons (o := ⟨some 147, _, _, _, _, _⟩) rfl (fun K hK => ?_) AllReadyH.nil)
    · skip
      refine step_app _ rfl (.tmp 137) (.tmp 140) 37 rfl 3 i0 _ 1 8 Try.underlying37 hi hz0 hz1 hz2 rfl (by decide) _ _ _ rfl T.a (.slice va8 k vc8) k _ rfl (R8a.out _ T.x) (fun u hu => C8.out u (List.mem_of_mem_take hu)) (by unfold maxLen; omega) (by omega) ?_
      intro v4 w4 hown4 hgrow4 hfr4 _
      have T1 := T.appA hown4 hgrow4 hfr4
      clear hown4 hgrow4 hfr4 T
      have T := T1
      clear T1
      obtain ⟨wq, hwq⟩ : ∃ w, w = w4 := ⟨_, rfl⟩
      rw [← hwq] at T ⊢
      clear hwq
      refine hK.out _ _ T.x (fun hS => ?_)
      clear hK K
      try simp only [Act.put, List.setIfInBounds_toArray, List.set_cons_zero, List.set_cons_succ]
      refine wpAnyH_ready (rs := [9, 10]) (by kernel_rfl) (by simp) ?_
      refine AllReadyH.cons (o := ⟨some 146, _, _, _, _, _⟩) rfl (fun K hK => ?_) (AllReadyH.cons (o := ⟨some 147, _, _, _, _, _⟩) rfl (fun K hK => ?_) AllReadyH.nil)
      · skip
        refine step_app _ rfl (.tmp 141) (.tmp 145) 37 rfl 3 i0 _ 1 8 Try.underlying37 hi hz0 hz1 hz2 rfl (by decide) _ _ _ rfl T.a u8 _ _ rfl (R8b.out _ T.x) (fun u hu => C8.out u (List.mem_of_mem_drop hu)) (by unfold maxLen; omega) (by omega) ?_
        intro v4 w4 hown4 hgrow4 hfr4 _
        have T1 := T.appA hown4 hgrow4 hfr4
        clear hown4 hgrow4 hfr4 T
        have T := T1
        clear T1
        obtain ⟨wq, hwq⟩ : ∃ w, w = w4 := ⟨_, rfl⟩
        rw [← hwq] at T ⊢
        clear hwq
        refine hK.out _ _ T.x (fun hS => ?_)
        clear hK K
        try simp only [Act.put, List.setIfInBounds_toArray, List.set_cons_zero, List.set_cons_succ]
        refine wpAnyH_ready (rs := [10]) (by kernel_rfl) (by simp) ?_
        refine AllReadyH.cons (o := ⟨some 147, _, _, _, _, _⟩) rfl (fun K hK => ?_) AllReadyH.nil
        go_simp
        have T1 := T.newB
        clear T
        generalize wq.heap.size = bq at T1 ⊢
        generalize wq.alloc _ = wp at T1 ⊢
        have T := T1
        clear T1
        obtain ⟨wq, hwq⟩ : ∃ w, w = wp := ⟨_, rfl⟩
        rw [← hwq] at T ⊢
        clear hwq
        refine hK.out _ _ T.x (fun hS => ?_)
        clear hK K
        try simp only [Act.put, List.setIfInBounds_toArray, List.set_cons_zero, List.set_cons_succ]
        refine wpAnyH_ready (rs := [14]) (by kernel_rfl) (by simp) ?_
        refine AllReadyH.cons (o := ⟨some 151, _, _, _, _, _⟩) rfl (fun K hK => ?_) AllReadyH.nil
        refine step_app _ rfl (.tmp 147) (.tmp 150) 36 rfl 9 j0 _ 1 16 Try.underlying36 hj hy0 hy1 hy2 rfl (by decide) _ _ _ rfl T.b (.slice va9 k vc9) k _ rfl (R9a.out _ T.x) (fun u hu => C9.out u (List.mem_of_mem_take hu)) (by unfold maxLen; omega) (by omega) ?_
        intro v4 w4 hown4 hgrow4 hfr4 _
        have T1 := T.appB hown4 hgrow4 hfr4
        clear hown4 hgrow4 hfr4 T
        have T := T1
        clear T1
        obtain ⟨wq, hwq⟩ : ∃ w, w = w4 := ⟨_, rfl⟩
        rw [← hwq] at T ⊢
        clear hwq
        refine hK.out _ _ T.x (fun hS => ?_)
        clear hK K
        try simp only [Act.put, List.setIfInBounds_toArray, List.set_cons_zero, List.set_cons_succ]
        refine wpAnyH_ready (rs := [19]) (by kernel_rfl) (by simp) ?_
        refine AllReadyH.cons (o := ⟨some 156, _, _, _, _, _⟩) rfl (fun K hK => ?_) AllReadyH.nil
        refine step_app _ rfl (.tmp 151) (.tmp 155) 36 rfl 9 j0 _ 1 16 Try.underlying36 hj hy0 hy1 hy2 rfl (by decide) _ _ _ rfl T.b u9 _ _ rfl (R9b.out _ T.x) (fun u hu => C9.out u (List.mem_of_mem_drop hu)) (by unfold maxLen; omega) (by omega) ?_
        intro v4 w4 hown4 hgrow4 hfr4 _
        have T1 := T.appB hown4 hgrow4 hfr4
        clear hown4 hgrow4 hfr4 T
        have T := T1
        clear T1
        obtain ⟨wq, hwq⟩ : ∃ w, w = w4 := ⟨_, rfl⟩
        rw [← hwq] at T ⊢
        clear hwq
        refine hK.out _ _ T.x (fun hS => ?_)
        clear hK K
        try simp only [Act.put, List.setIfInBounds_toArray, List.set_cons_zero, List.set_cons_succ]
        refine wpAnyH_take (i := 20) (oi := ⟨some 8, _, _, _, _, _⟩) (v := ?_) rfl (by kernel_rfl) (by kernel_rfl) (by kernel_rfl) (fun ch a w h => hP ch a _ _ w h) (Or.inl ⟨by rfl, ?_⟩) (by assumption) ?_
        rotate_left 1
        · (intro w hSw; (try dsimp only at hSw); go_split_ands; (try go_simp); (try with_reducible rfl))
        try simp only [Act.put, List.setIfInBounds_toArray, List.set_cons_zero, List.set_cons_succ]
        refine wpAnyH_take (i := 21) (oi := ⟨some 9, _, _, _, _, _⟩) (v := ?_) rfl (by kernel_rfl) (by kernel_rfl) (by kernel_rfl) (fun ch a w h => hP ch a _ _ w h) (Or.inl ⟨by rfl, ?_⟩) (by assumption) ?_
        rotate_left 1
        · (intro w hSw; (try dsimp only at hSw); go_split_ands; (try go_simp); (try with_reducible rfl))
        try simp only [Act.put, List.setIfInBounds_toArray, List.set_cons_zero, List.set_cons_succ]
        refine wpAnyH_done (by kernel_rfl) ?_ _
        exact hQ _ _ _ _ _ _ _ _ _ _ _ _ _ _ _ _ _ _ _ _ _ _ _ T
      · skip
        go_simp
        have T1 := T.newB
        clear T
        generalize wq.heap.size = bq at T1 ⊢
        generalize wq.alloc _ = wp at T1 ⊢
        have T := T1
        clear T1
        obtain ⟨wq, hwq⟩ : ∃ w, w = wp := ⟨_, rfl⟩
        rw [← hwq] at T ⊢
        clear hwq
        refine hK.out _ _ T.x (fun hS => ?_)
        clear hK K
        try simp only [Act.put, List.setIfInBounds_toArray, List.set_cons_zero, List.set_cons_succ]
        refine wpAnyH_ready (rs := [9]) (by kernel_rfl) (by simp) ?_
        refine AllReadyH.cons (o := ⟨some 146, _, _, _, _, _⟩) rfl (fun K hK => ?_) AllReadyH.nil
        refine step_app _ rfl (.tmp 141) (.tmp 145) 37 rfl 3 i0 _ 1 8 Try.underlying37 hi hz0 hz1 hz2 rfl (by decide) _ _ _ rfl T.a u8 _ _ rfl (R8b.out _ T.x) (fun u hu => C8.out u (List.mem_of_mem_drop hu)) (by unfold maxLen; omega) (by omega) ?_
        intro v4 w4 hown4 hgrow4 hfr4 _
        have T1 := T.appA hown4 hgrow4 hfr4
        clear hown4 hgrow4 hfr4 T
        have T := T1
        clear T1
        obtain ⟨wq, hwq⟩ : ∃ w, w = w4 := ⟨_, rfl⟩
        rw [← hwq] at T ⊢
        clear hwq
        refine hK.out _ _ T.x (fun hS => ?_)
        clear hK K
        try simp only [Act.put, List.setIfInBounds_toArray, List.set_cons_zero, List.set_cons_succ]
        refine wpAnyH_ready (rs := [14]) (by kernel_rfl) (by simp) ?_
        refine AllReadyH.cons (o := ⟨some 151, _, _, _, _, _⟩) rfl (fun K hK => ?_) AllReadyH.nil
        refine step_app _ rfl (.tmp 147) (.tmp 150) 36 rfl 9 j0 _ 1 16 Try.underlying36 hj hy0 hy1 hy2 rfl (by decide) _ _ _ rfl T.b (.slice va9 k vc9) k _ rfl (R9a.out _ T.x) (fun u hu => C9.out u (List.mem_of_mem_take hu)) (by unfold maxLen; omega) (by omega) ?_
        intro v4 w4 hown4 hgrow4 hfr4 _
        have T1 := T.appB hown4 hgrow4 hfr4
        clear hown4 hgrow4 hfr4 T
        have T := T1
        clear T1
        obtain ⟨wq, hwq⟩ : ∃ w, w = w4 := ⟨_, rfl⟩
        rw [← hwq] at T ⊢
        clear hwq
        refine hK.out _ _ T.x (fun hS => ?_)
        clear hK K
        try simp only [Act.put, List.setIfInBounds_toArray, List.set_cons_zero, List.set_cons_succ]
        refine wpAnyH_ready (rs := [19]) (by kernel_rfl) (by simp) ?_
        refine AllReadyH.cons (o := ⟨some 156, _, _, _, _, _⟩) rfl (fun K hK => ?_) AllReadyH.nil
        refine step_app _ rfl (.tmp 151) (.tmp 155) 36 rfl 9 j0 _ 1 16 Try.underlying36 hj hy0 hy1 hy2 rfl (by decide) _ _ _ rfl T.b u9 _ _ rfl (R9b.out _ T.x) (fun u hu => C9.out u (List.mem_of_mem_drop hu)) (by unfold maxLen; omega) (by omega) ?_
        intro v4 w4 hown4 hgrow4 hfr4 _
        have T1 := T.appB hown4 hgrow4 hfr4
        clear hown4 hgrow4 hfr4 T
        have T := T1
        clear T1
        obtain ⟨wq, hwq⟩ : ∃ w, w = w4 := ⟨_, rfl⟩
        rw [← hwq] at T ⊢
        clear hwq
        refine hK.out _ _ T.x (fun hS => ?_)
        clear hK K
        try simp only [Act.put, List.setIfInBounds_toArray, List.set_cons_zero, List.set_cons_succ]
        refine wpAnyH_take (i := 20) (oi := ⟨some 8, _, _, _, _, _⟩) (v := ?_) rfl (by kernel_rfl) (by kernel_rfl) (by kernel_rfl) (fun ch a w h => hP ch a _ _ w h) (Or.inl ⟨by rfl, ?_⟩) (by assumption) ?_
        rotate_left 1
        · (intro w hSw; (try dsimp only at hSw); go_split_ands; (try go_simp); (try with_reducible rfl))
        try simp only [Act.put, List.setIfInBounds_toArray, List.set_cons_zero, List.set_cons_succ]
        refine wpAnyH_take (i := 21) (oi := ⟨some 9, _, _, _, _, _⟩) (v := ?_) rfl (by kernel_rfl) (by kernel_rfl) (by kernel_rfl) (fun ch a w h => hP ch a _ _ w h) (Or.inl ⟨by rfl, ?_⟩) (by assumption) ?_
        rotate_left 1
        · (intro w hSw; (try dsimp only at hSw); go_split_ands; (try go_simp); (try with_reducible rfl))
        try simp only [Act.put, List.setIfInBounds_toArray, List.set_cons_zero, List.set_cons_succ]
        refine wpAnyH_done (by kernel_rfl) ?_ _
        exact hQ _ _ _ _ _ _ _ _ _ _ _ _ _ _ _ _ _ _ _ _ _ _ _ T
    · skip
      go_simp
      have T1 := T.newB
      clear T
      generalize wq.heap.size = bq at T1 ⊢
      generalize wq.alloc _ = wp at T1 ⊢
      have T := T1
      clear T1
      obtain ⟨wq, hwq⟩ : ∃ w, w = wp := ⟨_, rfl⟩
      rw [← hwq] at T ⊢
      clear hwq
      refine hK.out _ _ T.x (fun hS => ?_)
      clear hK K
      try simp only [Act.put, List.setIfInBounds_toArray, List.set_cons_zero, List.set_cons_succ]
      refine wpAnyH_ready (rs := [4]) (by kernel_rfl) (by simp) ?_
      refine AllReadyH.cons (o := ⟨some 141, _, _, _, _, _⟩) rfl (fun K hK => ?_) AllReadyH.nil
      refine step_app _ rfl (.tmp 137) (.tmp 140) 37 rfl 3 i0 _ 1 8 Try.underlying37 hi hz0 hz1 hz2 rfl (by decide) _ _ _ rfl T.a (.slice va8 k vc8) k _ rfl (R8a.out _ T.x) (fun u hu => C8.out u (List.mem_of_mem_take hu)) (by unfold maxLen; omega) (by omega) ?_
      intro v4 w4 hown4 hgrow4 hfr4 _
      have T1 := T.appA hown4 hgrow4 hfr4
      clear hown4 hgrow4 hfr4 T
      have T := T1
      clear T1
      obtain ⟨wq, hwq⟩ : ∃ w, w = w4 := ⟨_, rfl⟩
      rw [← hwq] at T ⊢
      clear hwq
      refine hK.out _ _ T.x (fun hS => ?_)
      clear hK K
      try simp only [Act.put, List.setIfInBounds_toArray, List.set_cons_zero, List.set_cons_succ]
      refine wpAnyH_ready (rs := [9]) (by kernel_rfl) (by simp) ?_
      refine AllReadyH.cons (o := ⟨some 146, _, _, _, _, _⟩) rfl (fun K hK => ?_) AllReadyH.nil
      refine step_app _ rfl (.tmp 141) (.tmp 145) 37 rfl 3 i0 _ 1 8 Try.underlying37 hi hz0 hz1 hz2 rfl (by decide) _ _ _ rfl T.a u8 _ _ rfl (R8b.out _ T.x) (fun u hu => C8.out u (List.mem_of_mem_drop hu)) (by unfold maxLen; omega) (by omega) ?_
      intro v4 w4 hown4 hgrow4 hfr4 _
      have T1 := T.appA hown4 hgrow4 hfr4
      clear hown4 hgrow4 hfr4 T
      have T := T1
      clear T1
      obtain ⟨wq, hwq⟩ : ∃ w, w = w4 := ⟨_, rfl⟩
      rw [← hwq] at T ⊢
      clear hwq
      refine hK.out _ _ T.x (fun hS => ?_)
      clear hK K
      try simp only [Act.put, List.setIfInBounds_toArray, List.set_cons_zero, List.set_cons_succ]
      refine wpAnyH_ready (rs := [14]) (by kernel_rfl) (by simp) ?_
      refine AllReadyH.cons (o := ⟨some 151, _, _, _, _, _⟩) rfl (fun K hK => ?_) AllReadyH.nil
      refine step_app _ rfl (.tmp 147) (.tmp 150) 36 rfl 9 j0 _ 1 16 Try.underlying36 hj hy0 hy1 hy2 rfl (by decide) _ _ _ rfl T.b (.slice va9 k vc9) k _ rfl (R9a.out _ T.x) (fun u hu => C9.out u (List.mem_of_mem_take hu)) (by unfold maxLen; omega) (by omega) ?_
      intro v4 w4 hown4 hgrow4 hfr4 _
      have T1 := T.appB hown4 hgrow4 hfr4
      clear hown4 hgrow4 hfr4 T
      have T := T1
      clear T1
      obtain ⟨wq, hwq⟩ : ∃ w, w = w4 := ⟨_, rfl⟩
      rw [← hwq] at T ⊢
      clear hwq
      refine hK.out _ _ T.x (fun hS => ?_)
      clear hK K
      try simp only [Act.put, List.setIfInBounds_toArray, List.set_cons_zero, List.set_cons_succ]
      refine wpAnyH_ready (rs := [19]) (by kernel_rfl) (by simp) ?_
      refine AllReadyH.cons (o := ⟨some 156, _, _, _, _, _⟩) rfl (fun K hK => ?_) AllReadyH.nil
      refine step_app _ rfl (.tmp 151) (.tmp 155) 36 rfl 9 j0 _ 1 16 Try.underlying36 hj hy0 hy1 hy2 rfl (by decide) _ _ _ rfl T.b u9 _ _ rfl (R9b.out _ T.x) (fun u hu => C9.out u (List.mem_of_mem_drop hu)) (by unfold maxLen; omega) (by omega) ?_
      intro v4 w4 hown4 hgrow4 hfr4 _
      have T1 := T.appB hown4 hgrow4 hfr4
      clear hown4 hgrow4 hfr4 T
      have T := T1
      clear T1
      obtain ⟨wq, hwq⟩ : ∃ w, w = w4 := ⟨_, rfl⟩
      rw [← hwq] at T ⊢
      clear hwq
      refine hK.out _ _ T.x (fun hS => ?_)
      clear hK K
      try simp only [Act.put, List.setIfInBounds_toArray, List.set_cons_zero, List.set_cons_succ]
      refine wpAnyH_take (i := 20) (oi := ⟨some 8, _, _, _, _, _⟩) (v := ?_) rfl (by kernel_rfl) (by kernel_rfl) (by kernel_rfl) (fun ch a w h => hP ch a _ _ w h) (Or.inl ⟨by rfl, ?_⟩) (by assumption) ?_
      rotate_left 1
      · (intro w hSw; (try dsimp only at hSw); go_split_ands; (try go_simp); (try with_reducible rfl))
      try simp only [Act.put, List.setIfInBounds_toArray, List.set_cons_zero, List.set_cons_succ]
      refine wpAnyH_take (i := 21) (oi := ⟨some 9, _, _, _, _, _⟩) (v := ?_) rfl (by kernel_rfl) (by kernel_rfl) (by kernel_rfl) (fun ch a w h => hP ch a _ _ w h) (Or.inl ⟨by rfl, ?_⟩) (by assumption) ?_
      rotate_left 1
      · (intro w hSw; (try dsimp only at hSw); go_split_ands; (try go_simp); (try with_reducible rfl))
      try simp only [Act.put, List.setIfInBounds_toArray, List.set_cons_zero, List.set_cons_succ]
      refine wpAnyH_done (by kernel_rfl) ?_ _
      exact hQ _ _ _ _ _ _ _ _ _ _ _ _ _ _ _ _ _ _ _ _ _ _ _ T
  · skip
    go_simp
    have T1 := T.newB
    clear T
    generalize wq.heap.size = bq at T1 ⊢
    generalize wq.alloc _ = wp at T1 ⊢
    have T := T1
    clear T1
    obtain ⟨wq, hwq⟩ : ∃ w, w = wp := ⟨_, rfl⟩
    rw [← hwq] at T ⊢
    clear hwq
    refine hK.out _ _ T.x (fun hS => ?_)
    clear hK K
    try simp only [Act.put, List.setIfInBounds_toArray, List.set_cons_zero, List.set_cons_succ]
    refine wpAnyH_ready (rs := [0]) (by kernel_rfl) (by simp) ?_
    refine AllReadyH.cons (o := ⟨some 137, _, _, _, _, _⟩) rfl (fun K hK => ?_) AllReadyH.nil
    go_simp
    have T1 := T.newA
    clear T
    generalize wq.heap.size = bq at T1 ⊢
    generalize wq.alloc _ = wp at T1 ⊢
    have T := T1
    clear T1
    obtain ⟨wq, hwq⟩ : ∃ w, w = wp := ⟨_, rfl⟩
    rw [← hwq] at T ⊢
    clear hwq
    refine hK.out _ _ T.x (fun hS => ?_)
    clear hK K
    try simp only [Act.put, List.setIfInBounds_toArray, List.set_cons_zero, List.set_cons_succ]
    refine wpAnyH_ready (rs := [4]) (by kernel_rfl) (by simp) ?_
    refine AllReadyH.cons (o := ⟨some 141, _, _, _, _, _⟩) rfl (fun K hK => ?_) AllReadyH.nil
    refine step_app _ rfl (.tmp 137) (.tmp 140) 37 rfl 3 i0 _ 1 8 Try.underlying37 hi hz0 hz1 hz2 rfl (by decide) _ _ _ rfl T.a (.slice va8 k vc8) k _ rfl (R8a.out _ T.x) (fun u hu => C8.out u (List.mem_of_mem_take hu)) (by unfold maxLen; omega) (by omega) ?_
    intro v4 w4 hown4 hgrow4 hfr4 _
    have T1 := T.appA hown4 hgrow4 hfr4
    clear hown4 hgrow4 hfr4 T
    have T := T1
    clear T1
    obtain ⟨wq, hwq⟩ : ∃ w, w = w4 := ⟨_, rfl⟩
    rw [← hwq] at T ⊢
    clear hwq
    refine hK.out _ _ T.x (fun hS => ?_)
    clear hK K
    try simp only [Act.put, List.setIfInBounds_toArray, List.set_cons_zero, List.set_cons_succ]
    refine wpAnyH_ready (rs := [9]) (by kernel_rfl) (by simp) ?_
    refine AllReadyH.cons (o := ⟨some 146, _, _, _, _, _⟩) rfl (fun K hK => ?_) AllReadyH.nil
    refine step_app _ rfl (.tmp 141) (.tmp 145) 37 rfl 3 i0 _ 1 8 Try.underlying37 hi hz0 hz1 hz2 rfl (by decide) _ _ _ rfl T.a u8 _ _ rfl (R8b.out _ T.x) (fun u hu => C8.out u (List.mem_of_mem_drop hu)) (by unfold maxLen; omega) (by omega) ?_
    intro v4 w4 hown4 hgrow4 hfr4 _
    have T1 := T.appA hown4 hgrow4 hfr4
    clear hown4 hgrow4 hfr4 T
    have T := T1
    clear T1
    obtain ⟨wq, hwq⟩ : ∃ w, w = w4 := ⟨_, rfl⟩
    rw [← hwq] at T ⊢
    clear hwq
    refine hK.out _ _ T.x (fun hS => ?_)
    clear hK K
    try simp only [Act.put, List.setIfInBounds_toArray, List.set_cons_zero, List.set_cons_succ]
    refine wpAnyH_ready (rs := [14]) (by kernel_rfl) (by simp) ?_
    refine AllReadyH.cons (o := ⟨some 151, _, _, _, _, _⟩) rfl (fun K hK => ?_) AllReadyH.nil
    refine step_app _ rfl (.tmp 147) (.tmp 150) 36 rfl 9 j0 _ 1 16 Try.underlying36 hj hy0 hy1 hy2 rfl (by decide) _ _ _ rfl T.b (.slice va9 k vc9) k _ rfl (R9a.out _ T.x) (fun u hu => C9.out u (List.mem_of_mem_take hu)) (by unfold maxLen; omega) (by omega) ?_
    intro v4 w4 hown4 hgrow4 hfr4 _
    have T1 := T.appB hown4 hgrow4 hfr4
    clear hown4 hgrow4 hfr4 T
    have T := T1
    clear T1
    obtain ⟨wq, hwq⟩ : ∃ w, w = w4 := ⟨_, rfl⟩
    rw [← hwq] at T ⊢
    clear hwq
    refine hK.out _ _ T.x (fun hS => ?_)
    clear hK K
    try simp only [Act.put, List.setIfInBounds_toArray, List.set_cons_zero, List.set_cons_succ]
    refine wpAnyH_ready (rs := [19]) (by kernel_rfl) (by simp) ?_
    refine AllReadyH.cons (o := ⟨some 156, _, _, _, _, _⟩) rfl (fun K hK => ?_) AllReadyH.nil
    refine step_app _ rfl (.tmp 151) (.tmp 155) 36 rfl 9 j0 _ 1 16 Try.underlying36 hj hy0 hy1 hy2 rfl (by decide) _ _ _ rfl T.b u9 _ _ rfl (R9b.out _ T.x) (fun u hu => C9.out u (List.mem_of_mem_drop hu)) (by unfold maxLen; omega) (by omega) ?_
    intro v4 w4 hown4 hgrow4 hfr4 _
    have T1 := T.appB hown4 hgrow4 hfr4
    clear hown4 hgrow4 hfr4 T
    have T := T1
    clear T1
    obtain ⟨wq, hwq⟩ : ∃ w, w = w4 := ⟨_, rfl⟩
    rw [← hwq] at T ⊢
    clear hwq
    refine hK.out _ _ T.x (fun hS => ?_)
    clear hK K
    try simp only [Act.put, List.setIfInBounds_toArray, List.set_cons_zero, List.set_cons_succ]
    refine wpAnyH_take (i := 20) (oi := ⟨some 8, _, _, _, _, _⟩) (v := ?_) rfl (by kernel_rfl) (by kernel_rfl) (by kernel_rfl) (fun ch a w h => hP ch a _ _ w h) (Or.inl ⟨by rfl, ?_⟩) (by assumption) ?_
    rotate_left 1
    · (intro w hSw; (try dsimp only at hSw); go_split_ands; (try go_simp); (try with_reducible rfl))
    try simp only [Act.put, List.setIfInBounds_toArray, List.set_cons_zero, List.set_cons_succ]
    refine wpAnyH_take (i := 21) (oi := ⟨some 9, _, _, _, _, _⟩) (v := ?_) rfl (by kernel_rfl) (by kernel_rfl) (by kernel_rfl) (fun ch a w h => hP ch a _ _ w h) (Or.inl ⟨by rfl, ?_⟩) (by assumption) ?_
    rotate_left 1
    · (intro w hSw; (try dsimp only at hSw); go_split_ands; (try go_simp); (try with_reducible rfl))
    try simp only [Act.put, List.setIfInBounds_toArray, List.set_cons_zero, List.set_cons_succ]
    refine wpAnyH_done (by kernel_rfl) ?_ _
    exact hQ _ _ _ _ _ _ _ _ _ _ _ _ _ _ _ _ _ _ _ _ _ _ _ T
end Go.Proofs.Ytknghmogfbpclaa

/- The statement ObjtabNumbers: one object is dropped. -/
import Derived.Test.YtknghmogfbpclaaObjNumI
namespace Go.Proofs.Ytknghmogfbpclaa
open Go.RowKit
set_option maxRecDepth 100000

theorem erase_map {α β : Type} (f : α → β) (l : List α) (j : Nat) : [] ++ (l.map f).take (j * 1) ++ (l.map f).drop ((j + 1) * 1) = (l.eraseIdx j).map f := by
  rw [map_eraseIdx, List.eraseIdx_eq_take_drop_succ]
  simp

set_option maxHeartbeats 16000000 in
theorem num_drop (B bt bm n' k len1 cap1 : Nat) (a1 : Option Addr) (z : Int) (l : List Ent) (v8 v9 : Value) (w w5 : World) (hB : B = w.heap.size) (x5 : Ext [] w w5) (I : NumInv B w5 bt bm n' l v8 v9) (hl : 0 < l.length)
    (hz : ∃ b o, a1 = some ⟨b, o, none⟩ ∧ w5.cell? ⟨b, o + k, none⟩ = some (.int .i64 z)) (hk : k < len1)
    (C : Code) (hC : C = (tailAt 19 numBody).getD .skip) (Q : Exit → Act → World → Prop)
    (u0 u2 u3 u4 u6 u7 u11 u12 u13 u14 u15 u16 u17 u18 u19 u20 u21 u22 u23 u24 u25 u26 u27 u28 u29 u30 u31 u32 u33 u34 u35 u36 u37 u38 u39 u40 u41 u42 u43 u44 u45 u46 u47 u48 u49 u50 u51 u52 u53 u54 u55 u56 u57 u58 u59 u60 u61 u62 u63 u64 u65 u66 u67 u68 u69 u70 u71 u72 u73 u74 u75 u76 u77 u78 u79 u80 u81 u82 u83 u84 u85 u86 u87 u88 u89 u90 u91 u92 u93 u94 u95 u96 u97 u98 u99 u100 u101 u102 u103 u104 u105 u106 u107 u108 u109 u110 u111 u112 u113 u114 u115 u116 u117 u118 u119 u120 u121 u122 u123 u124 u125 u126 u127 u128 u129 u130 u131 u132 u133 u134 u135 u136 u137 u138 u139 u140 u141 u142 u143 u144 u145 u146 u147 u148 u149 u150 u151 u152 u153 u154 u155 u156 u157 u158 u159 u160 u161 u162 u163 u164 u165 u166 u167 u168 u169 u170 u171 u172 u173 u174 u175 u176 u177 u178 u179 u180 u181 u182 u183 u184 u185 u186 u187 : Value) (hP : ∀ ch (a : Act) (d : Nat) v w, Q (.panic ch) (a.put (some d) v) w → Q (.panic ch) a w)
    (hQ : ∀ (l2 : List Ent) (v8 v9 s13 s14 s15 s16 s17 s99 s100 s101 s102 s103 s104 s105 s106 s107 s108 s109 s110 s111 s112 s113 s114 s115 s116 s117 s118 s119 s120 s121 s122 s123 s124 s125 s126 s127 s128 s129 s130 s131 s132 s133 s134 s135 s136 s137 s138 s139 s140 s141 s142 s143 s144 s145 s146 s147 s148 s149 s150 s151 s152 s153 s154 s155 s156 : Value) (w' : World), NumInv B w' bt bm n' l2 v8 v9 → Ext [] w w' → Q .normal ⟨#[u0, .slice a1 len1 cap1, u2, u3, u4, .pointer (some ⟨bt, 0, none⟩), u6, u7, v8, v9, .int .i64 (k : Int), u11, u12, s13, s14, s15, s16, s17, u18, u19, u20, u21, u22, u23, u24, u25, u26, u27, u28, u29, u30, u31, u32, u33, u34, u35, u36, u37, u38, u39, u40, u41, u42, u43, u44, u45, u46, u47, u48, u49, u50, u51, u52, u53, u54, u55, u56, u57, u58, u59, u60, u61, u62, u63, u64, u65, u66, u67, u68, u69, u70, u71, u72, u73, u74, u75, u76, u77, u78, u79, u80, u81, u82, u83, u84, u85, u86, u87, u88, u89, u90, u91, u92, u93, u94, u95, u96, u97, u98, s99, s100, s101, s102, s103, s104, s105, s106, s107, s108, s109, s110, s111, s112, s113, s114, s115, s116, s117, s118, s119, s120, s121, s122, s123, s124, s125, s126, s127, s128, s129, s130, s131, s132, s133, s134, s135, s136, s137, s138, s139, s140, s141, s142, s143, s144, s145, s146, s147, s148, s149, s150, s151, s152, s153, s154, s155, s156, u157, u158, u159, u160, u161, u162, u163, u164, u165, u166, u167, u168, u169, u170, u171, u172, u173, u174, u175, u176, u177, u178, u179, u180, u181, u182, u183, u184, u185, u186, u187], []⟩ w') :
    Code.wp Try.prog C Q ⟨#[u0, .slice a1 len1 cap1, u2, u3, u4, .pointer (some ⟨bt, 0, none⟩), u6, u7, v8, v9, .int .i64 (k : Int), u11, u12, u13, u14, u15, u16, u17, u18, u19, u20, u21, u22, u23, u24, u25, u26, u27, u28, u29, u30, u31, u32, u33, u34, u35, u36, u37, u38, u39, u40, u41, u42, u43, u44, u45, u46, u47, u48, u49, u50, u51, u52, u53, u54, u55, u56, u57, u58, u59, u60, u61, u62, u63, u64, u65, u66, u67, u68, u69, u70, u71, u72, u73, u74, u75, u76, u77, u78, u79, u80, u81, u82, u83, u84, u85, u86, u87, u88, u89, u90, u91, u92, u93, u94, u95, u96, u97, u98, u99, u100, u101, u102, u103, u104, u105, u106, u107, u108, u109, u110, u111, u112, u113, u114, u115, u116, u117, u118, u119, u120, u121, u122, u123, u124, u125, u126, u127, u128, u129, u130, u131, u132, u133, u134, u135, u136, u137, u138, u139, u140, u141, u142, u143, u144, u145, u146, u147, u148, u149, u150, u151, u152, u153, u154, u155, u156, u157, u158, u159, u160, u161, u162, u163, u164, u165, u166, u167, u168, u169, u170, u171, u172, u173, u174, u175, u176, u177, u178, u179, u180, u181, u182, u183, u184, u185, u186, u187], []⟩ w5 := by
  subst hC
  conv =>
    arg 2
    whnf
  obtain ⟨va, vc, rfl⟩ := owns_slice I.r8
  obtain ⟨vb, vd, rfl⟩ := owns_slice I.r9
  have hl8 := I.o.lsz
  obtain ⟨b1, o1, rfl, hz1⟩ := hz
  have hb1 := World.block_lt_of_cell? w5 _ hz1
  obtain ⟨j, hj, hjl⟩ := mod_nat z l.length hl (by omega)
  have HJ := Lib.hid hj
  obtain ⟨g, rfl, hgl, hc, -⟩ := own_get I.r8 j hjl
  rw [List.getElem?_map, List.getElem?_eq_getElem hjl] at hc
  simp only [Option.map_some] at hc
  have HDR := Lib.hid (S.obj_drop_last I.o j hjl (I.ones _ (List.getElem_mem hjl)))
  have HNO := Lib.hid (show ∀ x ∈ l.eraseIdx j, (x.id : Int) ≠ (l[j].id : Int) from fun x hx e => by
    obtain ⟨i, hi, rfl⟩ := List.mem_iff_getElem.1 hx
    rw [List.getElem_eraseIdx] at e
    have hi' : i < l.length - 1 := by rw [List.length_eraseIdx_of_lt hjl] at hi; exact hi
    split at e
    · have := List.pairwise_iff_getElem.1 I.o.ids i j (by omega) hjl (by assumption)
      omega
    · have := List.pairwise_iff_getElem.1 I.o.ids j (i + 1) hjl (by omega) (by omega)
      omega)
  have HI := Lib.hid I
  have hgne : g ≠ bt ∧ g ≠ bm ∧ l[j].b ≠ g := by
    have := I.a8 g rfl
    exact ⟨this.2.1, this.2.2.1, this.2.2.2 _ (List.getElem_mem hjl)⟩
  clear hj I
  obtain ⟨x, hx⟩ : ∃ x, x = l[j] := ⟨_, rfl⟩
  rw [← hx] at hc HDR HNO hgne
  have HX := Lib.hid hx
  clear hx
  go_upto_region 20 with (fail)
  rw [show wrap64 ((IntKind.u64.wrap z).tmod (l.length : Int)) = (j : Int) from HJ.out]
  go_wp2_with fail
  refine HDR.out.mono ?_
  rintro e w7 ⟨rfl, O7, x7, -⟩
  have hc7 := (x7.cell (p := ⟨g, j, none⟩) hgl (by simp; omega)).trans hc
  have HG := Lib.hid (S.obj_get_no (.pointer (some ⟨bt, 0, none⟩)) (x.id : Int) 2 w7 (by omega) (S.obj_find_no O7 _ HNO.out))
  clear HDR hc hz1 hb1
  go_wp2_with fail
  refine HG.out.mono ?_
  rintro e w8 ⟨rfl, rfl⟩
  clear HG hc7
  go_upto_region 24 with (fail)
  have hsub : (l.eraseIdx j).Sublist l := List.eraseIdx_sublist ..
  have hap := HI.out.ap
  have hxl : x ∈ l := by rw [HX.out]; exact List.getElem_mem hjl
  have hxb := hap.2.2 x hxl
  have R8 := Lib.hid (fun w' (x' : Ext [] w7 w') => owns_ext (owns_ext HI.out.r8 x7 (by
    intro q hq
    have h1 := HI.out.a8 q hq
    have h2 := h1.2.2.2 x hxl
    simp; omega)) x' (by simp))
  have R9 := Lib.hid (fun w' (x' : Ext [] w7 w') => owns_ext (owns_ext HI.out.r9 x7 (by
    intro q hq
    have h1 := HI.out.a9 q hq
    have h2 := h1.2.2.2 x hxl
    simp; omega)) x' (by simp))
  have x57 : Ext [] w w7 := x5.trans' x7 (by intro i hi; simp at hi; omega)
  have hel : (l.eraseIdx j).length = 0 + j + (l.length - (j + 1)) := by rw [List.length_eraseIdx_of_lt hjl]; omega
  refine num_reg24 j l.length vc vd (some ⟨g, 0, none⟩) vb _ _ w7 _ (by kernel_rfl) _ _ _ _ _ _ _ _ _ _ _ _ _ _ _ _ _ _ _ _ _ _ _ _ _ _ _ _ _ _ _ _ _ _ _ _ _ _ _ _ _ _ _ _ _ _ _ _ _ _ _ _ _ _ _ _ _ _ _ _ _ _ _ _ _ _ _ _ _ _ _ _ _ _ _ _ _ _ _ _ _ _ _ _ _ _ _ _ _ _ _ _ _ _ _ _ _ _ _ _ _ _ _ _ _ _ _ _ _ _ _ _ _ _ _ _ _ _ _ _ _ _ _ _ _ _ _ _ _ _ _ _ _ _ _ _ _ _ _ _ _ _ _ _ _ _ _ _ _ _ _ _ _ _ _ _ _ _ _ _ _ _ _ _ _ _ _ _ _ _ _ _ _ _ _ _ _ _ _ _ _ _ _ _ _ _ hjl (by omega) hP R8 R9
    (fun u hu => by obtain ⟨y, -, rfl⟩ := List.mem_map.1 hu; rfl) (fun u hu => by obtain ⟨y, hy, rfl⟩ := List.mem_map.1 hu; exact HI.out.o.one y hy) ?_
  intro v8 v9 s137 s138 s139 s140 s141 s142 s143 s144 s145 s146 s147 s148 s149 s150 s151 s152 s153 s154 s155 s156 w' T
  refine hQ (l.eraseIdx j) v8 v9 _ _ _ _ _ _ _ _ _ _ _ _ _ _ _ _ _ _ _ _ _ _ _ _ _ _ _ _ _ _ _ _ _ _ _ _ _ _ _ _ _ _ _ _ _ _ _ _ _ _ _ _ _ _ _ _ _ _ _ _ _ _ _ w' ?_ (x57.trans T.x)
  have ha := T.a
  have hb := T.b
  rw [erase_map, ← hel] at ha hb
  have hB8 := x57.size
  refine ⟨O7.ext0 T.x, fun y hy => HI.out.ones y (hsub.subset hy), fun y hy => HI.out.strs y (hsub.subset hy), ha, hb, fun q hq => ?_, fun q hq => ?_, T.d, hap.1, hap.2.1, fun y hy => hap.2.2 y (hsub.subset hy)⟩
  · have h1 := T.fa q hq
    have h2 := O7.t.lt
    have h3 := O7.m.lt
    exact ⟨by omega, by omega, by omega, fun y hy => by have := (O7.e y hy).lt; omega⟩
  · have h1 := T.fb q hq
    have h2 := O7.t.lt
    have h3 := O7.m.lt
    exact ⟨by omega, by omega, by omega, fun y hy => by have := (O7.e y hy).lt; omega⟩
end Go.Proofs.Ytknghmogfbpclaa

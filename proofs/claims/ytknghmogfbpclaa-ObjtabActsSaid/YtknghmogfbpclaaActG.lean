/- The statement ObjtabActs: one act, in both tables: Get. -/
import Derived.Test.YtknghmogfbpclaaActM
namespace Go.Proofs.Ytknghmogfbpclaa
open Go.RowKit
set_option maxRecDepth 100000

set_option maxHeartbeats 16000000 in
theorem act_get (B bt bm bd bx size next : Nat) (v : Value) (l : List Ent) (wt xx id : Int) (w0 w5 : World) (hB : B = w0.heap.size) (x5 : Ext [] w0 w5) (A : ActI B w5 bt bm bd v size next l) (_hnx : next ≤ 100)
    (BX : Blk w5 bx 53 [.int .i64 wt, .int .i64 xx, .int .i64 id]) (AP : Apart bx bt bm bd v l) (hq : wrap64 ((IntKind.u64.wrap wt).tmod 6) = 5)
    (C : Code) (hC : C = seqHead ((tailAt 14 actBody).getD .skip)) (Q : Exit → Act → World → Prop) (u0 u1 u2 u3 u4 u5 u6 u7 u8 u9 u10 u12 u14 u16 u17 u18 u19 u20 u21 u22 u23 u24 u25 u26 u27 u28 u29 u30 u31 u32 u33 u34 u35 u36 u37 u38 u39 u40 u41 u42 u43 u44 u45 u46 u47 u48 u49 u50 u51 u52 u53 u54 u55 u56 u57 u58 u59 u60 u61 u62 u63 u64 u65 u66 u67 u68 u69 u70 u71 u72 u73 u74 u75 u76 u77 u78 u79 u80 u81 u82 u83 u84 u85 u86 u87 u88 u89 u90 u91 u92 u93 u94 u95 u96 u97 u98 u99 u100 u101 u102 u103 u104 u105 u106 u107 u108 u109 u110 u111 u112 u113 u114 u115 u116 u117 u118 u119 u120 u121 u122 u123 u124 u125 u126 u127 u128 u129 u130 u131 u132 u133 u134 u135 u136 u137 u138 u139 u140 u141 u142 u143 u144 u145 u146 u147 u148 u149 u150 u151 u152 u153 u154 u155 u156 u157 u158 u159 u160 u161 u162 u163 u164 u165 u166 u167 u168 u169 u170 u171 u172 u173 u174 u175 u176 u177 u178 u179 u180 u181 u182 u183 u184 u185 u186 u187 u188 u189 u190 u191 u192 u193 u194 u195 u196 u197 u198 u199 u200 u201 u202 u203 u204 u205 u206 u207 u208 u209 u210 u211 u212 u213 u214 u215 u216 u217 u218 u219 u220 u221 u222 u223 u224 u225 u226 u227 u228 u229 u230 u231 u232 u233 u234 u235 u236 u237 u238 u239 u240 u241 u242 u243 u244 u245 u246 u247 u248 u249 u250 u251 u252 u253 u254 u255 u256 u257 u258 u259 u260 u261 u262 u263 u264 u265 u266 u267 u268 u269 u270 u271 u272 : Value)
    (hQ : ∀ (l2 : List Ent) (v2 : Value) (next2 : Nat) (s16 s17 s18 s19 s20 s21 s22 s23 s24 s25 s26 s108 s109 s110 s111 s112 s113 s114 s115 s116 s117 s118 s119 s120 s121 s122 s123 s124 s125 s126 s127 s128 s129 s130 s131 s132 s133 s134 s135 s136 s137 s138 s139 s140 s141 s142 s143 s144 s145 s146 s147 s148 s149 s150 s151 s152 s153 s154 s155 s156 s157 s158 s159 s160 s161 s162 s163 s164 s165 s166 s167 s168 s169 s170 s171 s172 s173 s174 s175 s176 s177 s178 s179 s180 s181 s182 s183 s184 s185 s186 s187 s188 s189 s190 s191 s192 s193 s194 s195 s196 s197 s198 s199 s200 s201 s202 s203 s204 s205 s206 s207 s208 s209 s210 s211 s212 s213 s214 s215 s216 s217 s218 s219 : Value) (w' : World), ActI B w' bt bm bd v2 size next2 l2 → next2 ≤ next + 1 → Ext [] w0 w' → Q .normal ⟨#[u0, u1, u2, u3, u4, u5, u6, u7, u8, u9, u10, .pointer (some ⟨bt, 0, none⟩), u12, .pointer (some ⟨bd, 0, none⟩), u14, .pointer (some ⟨bx, 0, none⟩), s16, s17, s18, s19, s20, s21, s22, s23, s24, s25, s26, u27, u28, u29, u30, u31, u32, u33, u34, u35, u36, u37, u38, u39, u40, u41, u42, u43, u44, u45, u46, u47, u48, u49, u50, u51, u52, u53, u54, u55, u56, u57, u58, u59, u60, u61, u62, u63, u64, u65, u66, u67, u68, u69, u70, u71, u72, u73, u74, u75, u76, u77, u78, u79, u80, u81, u82, u83, u84, u85, u86, u87, u88, u89, u90, u91, u92, u93, u94, u95, u96, u97, u98, u99, u100, u101, u102, u103, u104, u105, u106, u107, s108, s109, s110, s111, s112, s113, s114, s115, s116, s117, s118, s119, s120, s121, s122, s123, s124, s125, s126, s127, s128, s129, s130, s131, s132, s133, s134, s135, s136, s137, s138, s139, s140, s141, s142, s143, s144, s145, s146, s147, s148, s149, s150, s151, s152, s153, s154, s155, s156, s157, s158, s159, s160, s161, s162, s163, s164, s165, s166, s167, s168, s169, s170, s171, s172, s173, s174, s175, s176, s177, s178, s179, s180, s181, s182, s183, s184, s185, s186, s187, s188, s189, s190, s191, s192, s193, s194, s195, s196, s197, s198, s199, s200, s201, s202, s203, s204, s205, s206, s207, s208, s209, s210, s211, s212, s213, s214, s215, s216, s217, s218, s219, u220, u221, u222, u223, u224, u225, u226, u227, u228, u229, u230, u231, u232, u233, u234, u235, u236, u237, u238, u239, u240, u241, u242, u243, u244, u245, u246, u247, u248, u249, u250, u251, u252, u253, u254, u255, u256, u257, u258, u259, u260, u261, u262, u263, u264, u265, u266, u267, u268, u269, u270, u271, u272], []⟩ w') :
    Code.wp Try.prog C Q ⟨#[u0, u1, u2, u3, u4, u5, u6, u7, u8, u9, u10, .pointer (some ⟨bt, 0, none⟩), u12, .pointer (some ⟨bd, 0, none⟩), u14, .pointer (some ⟨bx, 0, none⟩), u16, u17, u18, u19, u20, u21, u22, u23, u24, u25, u26, u27, u28, u29, u30, u31, u32, u33, u34, u35, u36, u37, u38, u39, u40, u41, u42, u43, u44, u45, u46, u47, u48, u49, u50, u51, u52, u53, u54, u55, u56, u57, u58, u59, u60, u61, u62, u63, u64, u65, u66, u67, u68, u69, u70, u71, u72, u73, u74, u75, u76, u77, u78, u79, u80, u81, u82, u83, u84, u85, u86, u87, u88, u89, u90, u91, u92, u93, u94, u95, u96, u97, u98, u99, u100, u101, u102, u103, u104, u105, u106, u107, u108, u109, u110, u111, u112, u113, u114, u115, u116, u117, u118, u119, u120, u121, u122, u123, u124, u125, u126, u127, u128, u129, u130, u131, u132, u133, u134, u135, u136, u137, u138, u139, u140, u141, u142, u143, u144, u145, u146, u147, u148, u149, u150, u151, u152, u153, u154, u155, u156, u157, u158, u159, u160, u161, u162, u163, u164, u165, u166, u167, u168, u169, u170, u171, u172, u173, u174, u175, u176, u177, u178, u179, u180, u181, u182, u183, u184, u185, u186, u187, u188, u189, u190, u191, u192, u193, u194, u195, u196, u197, u198, u199, u200, u201, u202, u203, u204, u205, u206, u207, u208, u209, u210, u211, u212, u213, u214, u215, u216, u217, u218, u219, u220, u221, u222, u223, u224, u225, u226, u227, u228, u229, u230, u231, u232, u233, u234, u235, u236, u237, u238, u239, u240, u241, u242, u243, u244, u245, u246, u247, u248, u249, u250, u251, u252, u253, u254, u255, u256, u257, u258, u259, u260, u261, u262, u263, u264, u265, u266, u267, u268, u269, u270, u271, u272], []⟩ w5 := by
  subst hC
  conv =>
    arg 2
    whnf
  have HQ := Lib.hid hQ
  clear hQ
  have c0 := BX.cell 0
  have c1 := BX.cell 1
  have c2 := BX.cell 2
  have hxl := BX.lt
  simp only [List.getElem?_cons_zero, List.getElem?_cons_succ] at c0 c1 c2
  have hsm := A.o.small
  have hll := A.o.lsz
  have hB5 : B ≤ w5.heap.size := by rw [hB]; exact x5.size
  all_goals
    go_upto_region 15 with (fail)
    rw [hq]
    clear c0 c1
    by_cases hex : ∃ x ∈ l, (x.id : Int) = id
    · obtain ⟨x, hx, hid0⟩ := hex
      obtain ⟨j, hj, rfl⟩ := List.mem_iff_getElem.1 hx
      have HID := Lib.hid hid0.symm
      have hheld := A.o.held _ hx
      have hxb := A.ap.2.2.2.1 _ hx
      have hxx := AP.e _ hx
      clear hx hid0
      obtain ⟨z, hz⟩ := A.ints _ (List.getElem_mem hj)
      have hg := I.obj_get' A.o j hj id HID.out
      rw [hz] at hg
      have HM := Lib.hid hg
      have HD := Lib.hid (doc_find_at' A.d (by omega) A.o.ids hj HID.out)
      obtain ⟨g, c, hv, hn, hm, hgl, hgb, a0, a1, a2, -⟩ := A.d.at j hj
      rw [hz] at a1
      have hbl := A.d.h.lt
      have b2 := A.d.h.cell 2
      simp only [List.getElem?_cons_zero, List.getElem?_cons_succ] at b2
      have HA := Lib.hid A
      subst hv
      clear hg hz a0 a2 A
      go_wp2_with fail
      refine HM.out.mono ?_
      rintro e w6 ⟨rfl, rfl⟩
      clear HM
      go_wp2_with fail
      refine HD.out.mono ?_
      rintro e w7 ⟨rfl, rfl⟩
      clear HD
      have hn2 : next ≤ next + 1 := by omega
      have hj0 : (0 : Int) ≤ (j : Int) := by omega
      go_wp2_with fail
      exact HQ.out _ _ _ _ _ _ _ _ _ _ _ _ _ _ _ _ _ _ _ _ _ _ _ _ _ _ _ _ _ _ _ _ _ _ _ _ _ _ _ _ _ _ _ _ _ _ _ _ _ _ _ _ _ _ _ _ _ _ _ _ _ _ _ _ _ _ _ _ _ _ _ _ _ _ _ _ _ _ _ _ _ _ _ _ _ _ _ _ _ _ _ _ _ _ _ _ _ _ _ _ _ _ _ _ _ _ _ _ _ _ _ _ _ _ _ _ _ _ _ _ _ _ _ _ _ _ w5 HA.out hn2 x5
    · have hno : ∀ x ∈ l, (x.id : Int) ≠ id := fun x hx e => hex ⟨x, hx, e⟩
      have HM := Lib.hid (I.obj_get_no (.pointer (some ⟨bt, 0, none⟩)) id 2 w5 (by omega) (I.obj_find_no A.o id hno))
      have HD := Lib.hid (doc_find_no bd v size next l id w5 A.d (by omega) hno)
      clear hno hex
      go_wp2_with fail
      refine HM.out.mono ?_
      rintro e w6 ⟨rfl, rfl⟩
      clear HM
      go_wp2_with fail
      refine HD.out.mono ?_
      rintro e w7 ⟨rfl, rfl⟩
      clear HD
      have hn2 : next ≤ next + 1 := by omega
      go_wp2_with fail
      exact HQ.out _ _ _ _ _ _ _ _ _ _ _ _ _ _ _ _ _ _ _ _ _ _ _ _ _ _ _ _ _ _ _ _ _ _ _ _ _ _ _ _ _ _ _ _ _ _ _ _ _ _ _ _ _ _ _ _ _ _ _ _ _ _ _ _ _ _ _ _ _ _ _ _ _ _ _ _ _ _ _ _ _ _ _ _ _ _ _ _ _ _ _ _ _ _ _ _ _ _ _ _ _ _ _ _ _ _ _ _ _ _ _ _ _ _ _ _ _ _ _ _ _ _ _ _ _ _ w5 A hn2 x5
end Go.Proofs.Ytknghmogfbpclaa

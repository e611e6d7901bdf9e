/- The statement ObjtabActs: what all objects are, in both tables. -/
import Derived.Test.YtknghmogfbpclaaActI
namespace Go.Proofs.Ytknghmogfbpclaa
open Go.RowKit
set_option maxRecDepth 100000

noncomputable def actBody : Code := Try.f6.body.getD .skip

set_option maxHeartbeats 16000000 in
theorem act_tail (B bt bm bd size next : Nat) (v : Value) (l : List Ent) (w5 : World) (A : ActI B w5 bt bm bd v size next l)
    (C : Code) (hC : C = (tailAt 35 actBody).getD .skip) (Q : Exit → Act → World → Prop) (u0 u1 u2 u3 u4 u5 u6 u7 u8 u9 u10 u12 u14 u15 u16 u17 u18 u19 u20 u21 u22 u23 u24 u25 u26 u27 u28 u29 u30 u31 u32 u33 u34 u35 u36 u37 u38 u39 u40 u41 u42 u43 u44 u45 u46 u47 u48 u49 u50 u51 u52 u53 u54 u55 u56 u57 u58 u59 u60 u61 u62 u63 u64 u65 u66 u67 u68 u69 u70 u71 u72 u73 u74 u75 u76 u77 u78 u79 u80 u81 u82 u83 u84 u85 u86 u87 u88 u89 u90 u91 u92 u93 u94 u95 u96 u97 u98 u99 u100 u101 u102 u103 u104 u105 u106 u107 u108 u109 u110 u111 u112 u113 u114 u115 u116 u117 u118 u119 u120 u121 u122 u123 u124 u125 u126 u127 u128 u129 u130 u131 u132 u133 u134 u135 u136 u137 u138 u139 u140 u141 u142 u143 u144 u145 u146 u147 u148 u149 u150 u151 u152 u153 u154 u155 u156 u157 u158 u159 u160 u161 u162 u163 u164 u165 u166 u167 u168 u169 u170 u171 u172 u173 u174 u175 u176 u177 u178 u179 u180 u181 u182 u183 u184 u185 u186 u187 u188 u189 u190 u191 u192 u193 u194 u195 u196 u197 u198 u199 u200 u201 u202 u203 u204 u205 u206 u207 u208 u209 u210 u211 u212 u213 u214 u215 u216 u217 u218 u219 u220 u221 u222 u223 u224 u225 u226 u227 u228 u229 u230 u231 u232 u233 u234 u235 u236 u237 u238 u239 u240 u241 u242 u243 u244 u245 u246 u247 u248 u249 u250 u251 u252 u253 u254 u255 u256 u257 u258 u259 u260 u261 u262 u263 u264 u265 u266 u267 u268 u269 u270 u271 u272 : Value)
    (hQ : ∀ (s4 s27 s28 s220 s221 s222 s223 s224 s225 s226 s227 s228 s229 s230 s231 s232 s233 s234 s235 s236 s237 s238 s239 s240 s241 s242 s243 s244 s245 s246 s247 s248 s249 s250 s251 s252 s253 s254 s255 s256 s257 s258 s259 s260 s261 s262 s263 s264 s265 : Value) (w' : World), Ext [] w5 w' → Q .normal ⟨#[u0, u1, u2, u3, s4, u5, u6, u7, u8, u9, u10, .pointer (some ⟨bt, 0, none⟩), u12, .pointer (some ⟨bd, 0, none⟩), u14, u15, u16, u17, u18, u19, u20, u21, u22, u23, u24, u25, u26, s27, s28, u29, u30, u31, u32, u33, u34, u35, u36, u37, u38, u39, u40, u41, u42, u43, u44, u45, u46, u47, u48, u49, u50, u51, u52, u53, u54, u55, u56, u57, u58, u59, u60, u61, u62, u63, u64, u65, u66, u67, u68, u69, u70, u71, u72, u73, u74, u75, u76, u77, u78, u79, u80, u81, u82, u83, u84, u85, u86, u87, u88, u89, u90, u91, u92, u93, u94, u95, u96, u97, u98, u99, u100, u101, u102, u103, u104, u105, u106, u107, u108, u109, u110, u111, u112, u113, u114, u115, u116, u117, u118, u119, u120, u121, u122, u123, u124, u125, u126, u127, u128, u129, u130, u131, u132, u133, u134, u135, u136, u137, u138, u139, u140, u141, u142, u143, u144, u145, u146, u147, u148, u149, u150, u151, u152, u153, u154, u155, u156, u157, u158, u159, u160, u161, u162, u163, u164, u165, u166, u167, u168, u169, u170, u171, u172, u173, u174, u175, u176, u177, u178, u179, u180, u181, u182, u183, u184, u185, u186, u187, u188, u189, u190, u191, u192, u193, u194, u195, u196, u197, u198, u199, u200, u201, u202, u203, u204, u205, u206, u207, u208, u209, u210, u211, u212, u213, u214, u215, u216, u217, u218, u219, s220, s221, s222, s223, s224, s225, s226, s227, s228, s229, s230, s231, s232, s233, s234, s235, s236, s237, s238, s239, s240, s241, s242, s243, s244, s245, s246, s247, s248, s249, s250, s251, s252, s253, s254, s255, s256, s257, s258, s259, s260, s261, s262, s263, s264, s265, u266, u267, u268, u269, u270, u271, u272], []⟩ w') :
    Code.wp Try.prog C Q ⟨#[u0, u1, u2, u3, u4, u5, u6, u7, u8, u9, u10, .pointer (some ⟨bt, 0, none⟩), u12, .pointer (some ⟨bd, 0, none⟩), u14, u15, u16, u17, u18, u19, u20, u21, u22, u23, u24, u25, u26, u27, u28, u29, u30, u31, u32, u33, u34, u35, u36, u37, u38, u39, u40, u41, u42, u43, u44, u45, u46, u47, u48, u49, u50, u51, u52, u53, u54, u55, u56, u57, u58, u59, u60, u61, u62, u63, u64, u65, u66, u67, u68, u69, u70, u71, u72, u73, u74, u75, u76, u77, u78, u79, u80, u81, u82, u83, u84, u85, u86, u87, u88, u89, u90, u91, u92, u93, u94, u95, u96, u97, u98, u99, u100, u101, u102, u103, u104, u105, u106, u107, u108, u109, u110, u111, u112, u113, u114, u115, u116, u117, u118, u119, u120, u121, u122, u123, u124, u125, u126, u127, u128, u129, u130, u131, u132, u133, u134, u135, u136, u137, u138, u139, u140, u141, u142, u143, u144, u145, u146, u147, u148, u149, u150, u151, u152, u153, u154, u155, u156, u157, u158, u159, u160, u161, u162, u163, u164, u165, u166, u167, u168, u169, u170, u171, u172, u173, u174, u175, u176, u177, u178, u179, u180, u181, u182, u183, u184, u185, u186, u187, u188, u189, u190, u191, u192, u193, u194, u195, u196, u197, u198, u199, u200, u201, u202, u203, u204, u205, u206, u207, u208, u209, u210, u211, u212, u213, u214, u215, u216, u217, u218, u219, u220, u221, u222, u223, u224, u225, u226, u227, u228, u229, u230, u231, u232, u233, u234, u235, u236, u237, u238, u239, u240, u241, u242, u243, u244, u245, u246, u247, u248, u249, u250, u251, u252, u253, u254, u255, u256, u257, u258, u259, u260, u261, u262, u263, u264, u265, u266, u267, u268, u269, u270, u271, u272], []⟩ w5 := by
  subst hC
  conv =>
    arg 2
    whnf
  have ht := A.o.t.cell 2
  simp only [List.getElem?_cons_succ, List.getElem?_cons_zero] at ht
  have HQ := Lib.hid hQ
  clear hQ
  have hll := A.o.lsz
  have hsm := A.o.small
  have HLV := Lib.hid (live_int bt bm (l.map Ent.pair) w5 ht A.o.m (by rw [List.length_map]; omega) (fun p hp => by
    obtain ⟨e, he, rfl⟩ := List.mem_map.1 hp
    have := A.o.top e he
    have := A.o.nx
    show (Lit.int .i64 (e.id : Int)).wf = true
    exact WalkArith.wf_i64 (by omega)) (by
    rw [List.map_map]
    refine List.pairwise_map.2 (A.o.ids.imp fun h => ?_)
    simp [Ent.pair]; omega))
  have HLE := Lib.hid (show (l.map Ent.pair).length = l.length from List.length_map _)
  have HA := Lib.hid (fun w' (x' : Ext [] w5 w') => A.ext0 x')
  obtain ⟨va, vc, rfl⟩ := owns_slice A.d.own
  clear A ht
  go_wp2_with fail
  refine HLV.out.mono ?_
  rintro e w6 ⟨u, rfl, hown, x6⟩
  rw [HLE.out, List.map_map] at hown
  have HOW := Lib.hid (fun w' (x' : Ext [] w6 w') => owns_ext hown x' (by simp))
  obtain ⟨ua, uc, rfl⟩ := owns_slice hown
  clear hown HLV HLE
  have A6 := HA.out w6 x6
  have c2 := A6.d.h.cell 2
  have hlt := A6.d.h.lt
  simp only [List.getElem?_cons_succ, List.getElem?_cons_zero] at c2
  clear A6
  go_wp2_with fail
  clear c2 hlt
  go_loopw [4, 28] (fun _ i wr => ∃ k : Nat, k ≤ l.length ∧ i = .int .i64 (k : Int) ∧ Ext [] w6 wr) (fun _ i _ => l.length - (intOf i).toNat)
  case atStart => exact ⟨0, Nat.zero_le _, rfl, Ext.refl _ _⟩
  case round =>
    obtain ⟨k, hk, rfl, x⟩ := hrel
    by_cases hlt : k < l.length
    · have A7 := HA.out wr (x6.trans x)
      obtain ⟨g, rfl, hg, hc, -⟩ := own_get (HOW.out wr x) k hlt
      rw [List.getElem?_map, List.getElem?_eq_getElem hlt] at hc
      simp only [Option.map_some, Function.comp_apply, Ent.pair] at hc
      obtain ⟨g2, c, he, hn2, hm2, hg2, hgb, a0, a1, a2, -⟩ := A7.d.at k hlt
      cases he
      have c2 := A7.d.h.cell 2
      have hbl := A7.d.h.lt
      simp only [List.getElem?_cons_succ, List.getElem?_cons_zero] at c2
      have HH := Lib.hid (fun n => I.obj_held (w := wr.drewN n) (A7.o.ext0 ((Ext.refl _ _).drewN n)) k hlt)
      clear A7
      generalize l[k] = y at *
      go_upto_region 41 with (fail)
      go_quiet ((go_at_call 11; exact quiet_left (HH.out _)))
      have x9 : Ext [] w6 (wr.drewN nq) := x.drewN nq
      clear HH a0 a1 a2 c2 hc
      go_wp2_with fail
      go_roundw
      case rel => exact ⟨k + 1, by omega, by go_num, x9⟩
      case measure => simp [intOf]; omega
    · go_wp2_with fail
      exact HQ.out _ _ _ _ _ _ _ _ _ _ _ _ _ _ _ _ _ _ _ _ _ _ _ _ _ _ _ _ _ _ _ _ _ _ _ _ _ _ _ _ _ _ _ _ _ _ _ _ _ wr (x6.trans x)
end Go.Proofs.Ytknghmogfbpclaa

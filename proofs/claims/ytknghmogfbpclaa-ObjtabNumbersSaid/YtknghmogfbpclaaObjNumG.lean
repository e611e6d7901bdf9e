/- The statement ObjtabNumbers: its last loop: each object is asked for. -/
import Derived.Test.YtknghmogfbpclaaObjNumI
namespace Go.Proofs.Ytknghmogfbpclaa
open Go.RowKit
set_option maxRecDepth 100000

set_option maxHeartbeats 8000000 in
theorem num_gets (B bt bm n' : Nat) (l : List Ent) (v8 v9 : Value) (w6 : World) (I : NumInv B w6 bt bm n' l v8 v9) (C : Code) (hC : C = (tailAt 25 numBody).getD .skip) (Q : Exit → Act → World → Prop)
    (u0 u1 u2 u3 u4 u6 u7 u10 u11 u12 u13 u14 u15 u16 u17 u18 u19 u20 u21 u22 u23 u24 u25 u26 u27 u28 u29 u30 u31 u32 u33 u34 u35 u36 u37 u38 u39 u40 u41 u42 u43 u44 u45 u46 u47 u48 u49 u50 u51 u52 u53 u54 u55 u56 u57 u58 u59 u60 u61 u62 u63 u64 u65 u66 u67 u68 u69 u70 u71 u72 u73 u74 u75 u76 u77 u78 u79 u80 u81 u82 u83 u84 u85 u86 u87 u88 u89 u90 u91 u92 u93 u94 u95 u96 u97 u98 u99 u100 u101 u102 u103 u104 u105 u106 u107 u108 u109 u110 u111 u112 u113 u114 u115 u116 u117 u118 u119 u120 u121 u122 u123 u124 u125 u126 u127 u128 u129 u130 u131 u132 u133 u134 u135 u136 u137 u138 u139 u140 u141 u142 u143 u144 u145 u146 u147 u148 u149 u150 u151 u152 u153 u154 u155 u156 u157 u158 u159 u160 u161 u162 u163 u164 u165 u166 u167 u168 u169 u170 u171 u172 u173 u174 u175 u176 u177 u178 u179 u180 u181 u182 u183 u184 u185 u186 u187 : Value) (hQ : ∀ (s4 s18 s19 s20 s157 s158 s159 s160 s161 s162 s163 s164 s165 s166 s167 s168 s169 s170 s171 s172 s173 s174 s175 s176 s177 s178 s179 s180 s181 : Value), Q .normal ⟨#[u0, u1, u2, u3, s4, .pointer (some ⟨bt, 0, none⟩), u6, u7, v8, v9, u10, u11, u12, u13, u14, u15, u16, u17, s18, s19, s20, u21, u22, u23, u24, u25, u26, u27, u28, u29, u30, u31, u32, u33, u34, u35, u36, u37, u38, u39, u40, u41, u42, u43, u44, u45, u46, u47, u48, u49, u50, u51, u52, u53, u54, u55, u56, u57, u58, u59, u60, u61, u62, u63, u64, u65, u66, u67, u68, u69, u70, u71, u72, u73, u74, u75, u76, u77, u78, u79, u80, u81, u82, u83, u84, u85, u86, u87, u88, u89, u90, u91, u92, u93, u94, u95, u96, u97, u98, u99, u100, u101, u102, u103, u104, u105, u106, u107, u108, u109, u110, u111, u112, u113, u114, u115, u116, u117, u118, u119, u120, u121, u122, u123, u124, u125, u126, u127, u128, u129, u130, u131, u132, u133, u134, u135, u136, u137, u138, u139, u140, u141, u142, u143, u144, u145, u146, u147, u148, u149, u150, u151, u152, u153, u154, u155, u156, s157, s158, s159, s160, s161, s162, s163, s164, s165, s166, s167, s168, s169, s170, s171, s172, s173, s174, s175, s176, s177, s178, s179, s180, s181, u182, u183, u184, u185, u186, u187], []⟩ w6) :
    Code.wp Try.prog C Q ⟨#[u0, u1, u2, u3, u4, .pointer (some ⟨bt, 0, none⟩), u6, u7, v8, v9, u10, u11, u12, u13, u14, u15, u16, u17, u18, u19, u20, u21, u22, u23, u24, u25, u26, u27, u28, u29, u30, u31, u32, u33, u34, u35, u36, u37, u38, u39, u40, u41, u42, u43, u44, u45, u46, u47, u48, u49, u50, u51, u52, u53, u54, u55, u56, u57, u58, u59, u60, u61, u62, u63, u64, u65, u66, u67, u68, u69, u70, u71, u72, u73, u74, u75, u76, u77, u78, u79, u80, u81, u82, u83, u84, u85, u86, u87, u88, u89, u90, u91, u92, u93, u94, u95, u96, u97, u98, u99, u100, u101, u102, u103, u104, u105, u106, u107, u108, u109, u110, u111, u112, u113, u114, u115, u116, u117, u118, u119, u120, u121, u122, u123, u124, u125, u126, u127, u128, u129, u130, u131, u132, u133, u134, u135, u136, u137, u138, u139, u140, u141, u142, u143, u144, u145, u146, u147, u148, u149, u150, u151, u152, u153, u154, u155, u156, u157, u158, u159, u160, u161, u162, u163, u164, u165, u166, u167, u168, u169, u170, u171, u172, u173, u174, u175, u176, u177, u178, u179, u180, u181, u182, u183, u184, u185, u186, u187], []⟩ w6 := by
  subst hC
  conv =>
    arg 2
    whnf
  obtain ⟨va, vc, rfl⟩ := owns_slice I.r8
  obtain ⟨vb, vd, rfl⟩ := owns_slice I.r9
  have hl8 := I.o.lsz
  have HAT := Lib.hid (fun j (hj : j < l.length) => (show ∃ (g g9 : Nat) (s : ByteArray), va = some ⟨g, 0, none⟩ ∧ vb = some ⟨g9, 0, none⟩ ∧ w6.cell? ⟨g, j, none⟩ = some (.int .i64 (l[j].id : Int)) ∧ w6.cell? ⟨g9, j, none⟩ = some (.string s) ∧
      Calls Try.prog 17 #[.pointer (some ⟨bt, 0, none⟩), .int .i64 (l[j].id : Int)] w6 fun e w' => e = .returned (.tuple #[.string s, .int .i64 0]) ∧ w6 = w' from by
    obtain ⟨g, rfl, -, hc, -⟩ := own_get I.r8 j hj
    obtain ⟨g9, rfl, -, hc9, -⟩ := own_get I.r9 j hj
    obtain ⟨s, hs⟩ := I.strs _ (List.getElem_mem hj)
    rw [List.getElem?_map, List.getElem?_eq_getElem hj] at hc hc9
    simp only [Option.map_some, hs] at hc hc9
    have := S.obj_get I.o j hj
    rw [hs] at this
    exact ⟨g, g9, s, rfl, rfl, hc, hc9, this⟩))
  clear I
  go_wp2_with fail
  go_loop [18, 19, 20] (fun i _ _ => ∃ k : Nat, k ≤ l.length ∧ i = .int .i64 (k : Int)) (fun i _ _ => l.length - (intOf i).toNat)
  case atStart => exact ⟨0, Nat.zero_le _, rfl⟩
  case round =>
    obtain ⟨k, hk, rfl⟩ := hrel
    by_cases hlt : k < l.length
    · obtain ⟨g, g9, s, rfl, rfl, hc, hc9, hcall⟩ := HAT.out k hlt
      have HC := Lib.hid hcall
      clear hcall
      generalize l[k] = x at *
      go_wp2_with fail
      refine HC.out.mono ?_
      rintro e w7 ⟨rfl, rfl⟩
      clear HC
      go_wp2_with fail
      go_round
      case rel => exact ⟨k + 1, by omega, by go_num⟩
      case measure => simp [intOf]; omega
    · go_wp2_with fail
      exact hQ _ _ _ _ _ _ _ _ _ _ _ _ _ _ _ _ _ _ _ _ _ _ _ _ _ _ _ _ _
end Go.Proofs.Ytknghmogfbpclaa

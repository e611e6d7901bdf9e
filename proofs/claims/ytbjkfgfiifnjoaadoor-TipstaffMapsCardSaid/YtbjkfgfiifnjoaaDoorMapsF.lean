/- TipstaffMaps: all that is found; the sums. -/
import Derived.Deep.CutRange
import Derived.Deep.CutBlock
import Derived.Test.YtbjkfgfiifnjoaaDoorMapsC
import Derived.Test.YtbjkfgfiifnjoaaDoorMapsD
import Derived.Test.YtbjkfgfiifnjoaaDoorMapsE
namespace Go.Proofs.YtbjkfgfiifnjoaaDoor
open Go.RowKit
set_option maxRecDepth 100000

theorem cA_some {j : Nat} {W : Wan} {k g : Nat} {v0 v1 : UInt8} (hk : k < 8) (h : W k = some (g, v0, v1)) : cA j W k = some (v0, v1) := by
  unfold cA val
  simp [hk, h]
theorem cA_zero {W : Wan} {k : Nat} (hk : k < 8) (h : W k = none) : cA 0 W k = some (0, 0) := by
  unfold cA val
  simp [hk, h]
theorem cA_none {j : Nat} {W : Wan} {k : Nat} (hj : j ≠ 0) (h : W k = none) : cA j W k = none := by
  unfold cA val
  simp [hj, h]
theorem updN_same (c : Nat → Con) (s : Nat) : updN c s (c s) = c := by
  funext i
  unfold updN
  split
  · rename_i e; rw [e]
  · rfl

set_option maxHeartbeats 16000000 in
theorem maps_t34 (w0 w : World) (G : DigG w0) (ba bb bw : Nat) (m : Nat → Nat) (F : Nat → List Nat) (c : Nat → Con) (q : Nat) (R : List Nat) (W : Wan) (H : MSt w0 w ba bb bw m F c q R W) (hq : q ≤ 1000) (hc : ∀ j, j < 3 → c j = cA j W) (hc3 : ∀ j, j < 3 → c (3 + j) = cA j W)
    (C : Code) (hC : C = (tailAt 34 mapsBody).getD .skip) (u0 u1 u2 u3 u4 u7 u8 u9 u10 u11 u12 u14 u15 u16 u17 u18 u19 u20 u21 u22 u23 u24 u25 u26 u27 u28 u29 u30 u31 u32 u33 u34 u35 u36 u37 u38 u39 u40 u41 u42 u43 u44 u45 u46 u47 u48 u49 u50 u51 u52 u53 u54 u55 u56 u57 u58 u59 u60 u61 u62 u63 u64 u65 u66 u67 u68 u69 u70 u71 u72 u73 u74 u75 u76 u77 u78 u79 u80 u81 u82 u83 u84 u85 u86 u87 u88 u89 u90 u91 u92 u93 u94 u95 u96 u97 u98 u99 u100 u101 u102 u103 u104 u105 u106 u107 u108 u109 u110 u111 u112 u113 u114 u115 u116 u117 u118 u119 u120 u121 u122 u123 u124 u125 u126 u127 u128 u129 u130 u131 u132 u133 u134 u135 u136 u137 u138 u139 u140 u141 u142 u143 u144 u145 u146 u147 u148 u149 u150 u151 u152 u153 u154 u155 u156 u157 u158 u159 u160 u161 u162 u163 u164 u165 u166 u167 u168 u169 u170 u171 u172 u173 u174 u175 u176 u177 u178 u179 u180 u181 u182 u183 u184 u185 u186 u187 u188 u189 u190 u191 u192 u193 u194 u195 u196 u197 u198 u199 u200 u201 u202 u203 u204 u205 u206 u207 u208 u209 u210 u211 u212 u213 u214 u215 : Value) :
    Code.wp Tryd.prog C (bodyPost Tryd.prog Tryd.f4 fun e w' => e = .returned (.bool true) ∧ Ext [] w0 w') ⟨#[u0, u1, u2, u3, u4, .pointer (some ⟨ba, 0, none⟩), .pointer (some ⟨bb, 0, none⟩), u7, u8, u9, u10, u11, u12, .pointer (some ⟨bw, 0, none⟩), u14, u15, u16, u17, u18, u19, u20, u21, u22, u23, u24, u25, u26, u27, u28, u29, u30, u31, u32, u33, u34, u35, u36, u37, u38, u39, u40, u41, u42, u43, u44, u45, u46, u47, u48, u49, u50, u51, u52, u53, u54, u55, u56, u57, u58, u59, u60, u61, u62, u63, u64, u65, u66, u67, u68, u69, u70, u71, u72, u73, u74, u75, u76, u77, u78, u79, u80, u81, u82, u83, u84, u85, u86, u87, u88, u89, u90, u91, u92, u93, u94, u95, u96, u97, u98, u99, u100, u101, u102, u103, u104, u105, u106, u107, u108, u109, u110, u111, u112, u113, u114, u115, u116, u117, u118, u119, u120, u121, u122, u123, u124, u125, u126, u127, u128, u129, u130, u131, u132, u133, u134, u135, u136, u137, u138, u139, u140, u141, u142, u143, u144, u145, u146, u147, u148, u149, u150, u151, u152, u153, u154, u155, u156, u157, u158, u159, u160, u161, u162, u163, u164, u165, u166, u167, u168, u169, u170, u171, u172, u173, u174, u175, u176, u177, u178, u179, u180, u181, u182, u183, u184, u185, u186, u187, u188, u189, u190, u191, u192, u193, u194, u195, u196, u197, u198, u199, u200, u201, u202, u203, u204, u205, u206, u207, u208, u209, u210, u211, u212, u213, u214, u215], []⟩ w := by
  subst hC
  conv =>
    arg 2
    whnf
  have HC := Lib.hid hc
  have HC3 := Lib.hid hc3
  clear hc hc3
  go_wp2_with fail
  go_loopw [21] (fun i wr => ∃ (k : Nat) (F : Nat → List Nat) (q : Nat), i = .int .u8 (k : Int) ∧ k ≤ 8 ∧ q ≤ 1000 + 3 * k ∧ MSt w0 wr ba bb bw m F c q R W) (fun i _ => 8 - (intOf i).toNat)
  case atStart => exact ⟨0, F, q, rfl, by omega, by omega, H⟩
  case round =>
    clear H hq
    obtain ⟨k, F, q, rfl, hk, hq, H⟩ := hrel
    by_cases hlt : k < 8
    · have ik : (k : Int) < 8 := by omega
      go_upto_region 37 with (fail)
      go_wp2_with fail
      go_loopw [22] (fun i wr => ∃ (j : Nat) (F : Nat → List Nat) (q : Nat), i = .int .i64 (j : Int) ∧ j ≤ 3 ∧ q ≤ 1000 + 3 * k + j ∧ MSt w0 wr ba bb bw m F c q R W) (fun i _ => 3 - (intOf i).toNat)
      case atStart => exact ⟨0, F, q, rfl, by omega, by omega, H⟩
      case round =>
        clear H hq
        obtain ⟨j, F, q, rfl, hj, hq, H⟩ := hrel
        by_cases hlj : j < 3
        · have q1 := (H.A.cell j).trans (ptr3_at m 0 j hlj)
          rw [Nat.zero_add] at q1
          have q2 := H.A.lt
          have i1 : (j : Int) < 3 := by omega
          have i2 : (0 : Int) ≤ (j : Int) := by omega
          go_upto_region 40 with (fail)
          have xq : Ext [] wr (wr.alloc (.cells #[.int .u8 (k : Int), .int .u8 0, .int .u8 0, .int .u8 0] 5)) := (Ext.refl _ _).alloc _
          have HLK := Lib.hid (bm_lookup (m j) (tyS j) (F j) (c j) q k _ ((H.ext0 xq).M.at_ j (by omega)) (tyS_ok j) hlt (by omega) _ (key_blk hlt (Blk.new wr 5 #[.int .u8 (k : Int), .int .u8 0, .int .u8 0, .int .u8 0]) 4))
          have HST := Lib.hid (fun w3 hp => (H.ext0 xq).step (w' := w3) j (by omega) (c' := c j) hp)
          clear H xq
          go_wp2_with fail
          refine HLK.out.mono ?_
          rintro e w3 ⟨hp, hcase⟩
          obtain ⟨F', H3, -⟩ := HST.out w3 hp
          rw [updN_same] at H3
          rw [HC.out j hlj] at hcase
          clear HLK HST hp q1 q2
          have HREL := Lib.hid (show ∀ w4, Ext [] w3 w4 → ∃ (j' : Nat) (F : Nat → List Nat) (q : Nat), Value.int .i64 ((j : Int) + 1) = .int .i64 (j' : Int) ∧ j' ≤ 3 ∧ q ≤ 1000 + 3 * k + j' ∧ MSt w0 w4 ba bb bw m F c q R W from fun w4 x4 => ⟨j + 1, F', q + 1, by go_num, by omega, by omega, H3.ext0 x4⟩)
          obtain ⟨v', E, rfl, hR⟩ : ∃ (v' : Value) (E : Int), e = .returned (.tuple #[v', .int .i64 E]) ∧ ((W k = none ∧ j = 0 ∧ E = 0 ∧ w3.ownsRow 0 5 1 v' 2 (bytesV [0, 0])) ∨ (W k = none ∧ (j = 1 ∨ j = 2) ∧ E = 2) ∨ ∃ g v0 v1, W k = some (g, v0, v1) ∧ E = 0 ∧ w3.ownsRow 0 5 1 v' 2 (bytesV [v0, v1])) := by
            rcases hcase with ⟨hn, rfl⟩ | ⟨v0, v1, v', hs, rfl, ho⟩
            · refine ⟨_, _, rfl, .inr (.inl ?_)⟩
              cases hw : W k with
              | none =>
                refine ⟨rfl, ?_, rfl⟩
                by_cases hj0 : j = 0
                · subst hj0; rw [cA_zero hlt hw] at hn; cases hn
                · omega
              | some x => obtain ⟨g, a, b⟩ := x; rw [cA_some hlt hw] at hn; cases hn
            · refine ⟨v', 0, rfl, ?_⟩
              cases hw : W k with
              | none =>
                have hj0 : j = 0 := by
                  apply Classical.byContradiction
                  intro hj0
                  rw [cA_none hj0 hw] at hs
                  cases hs
                subst hj0
                rw [cA_zero hlt hw] at hs
                obtain ⟨rfl, rfl⟩ : v0 = 0 ∧ v1 = 0 := by cases hs; exact ⟨rfl, rfl⟩
                exact .inl ⟨rfl, rfl, rfl, ho⟩
              | some x =>
                obtain ⟨g, a, b⟩ := x
                rw [cA_some hlt hw] at hs
                obtain ⟨rfl, rfl⟩ : a = v0 ∧ b = v1 := by cases hs; exact ⟨rfl, rfl⟩
                exact .inr (.inr ⟨g, a, b, rfl, rfl, ho⟩)
          have HRR := Lib.hid hR
          clear hcase hR
          go_upto_region 41 with (fail)
          refine maps_r41 w0 w3 ba bb bw m F' c (q + 1) R W H3 j k hlt v' E HRR.out _ (by kernel_rfl) _ _ _ _ _ _ _ _ _ _ _ _ _ _ _ _ _ _ _ _ _ _ _ _ _ _ _ _ _ _ _ _ _ _ _ _ _ _ _ _ _ _ _ _ _ _ _ _ _ _ _ _ _ _ _ _ _ _ _ _ _ _ _ _ _ _ _ _ _ _ _ _ _ _ _ _ _ _ _ _ _ _ _ _ _ _ _ _ _ _ _ _ _ _ _ _ _ _ _ _ _ _ _ _ _ _ _ _ _ _ _ _ _ _ _ _ _ _ _ _ _ _ _ _ _ _ _ _ _ _ _ _ _ _ _ _ _ _ _ _ _ _ _ _ _ _ _ _ _ _ _ _ _ _ _ _ _ _ _ _ _ _ _ _ _ _ _ _ _ _ _ _ _ _ _ _ _ _ _ _ _ _ _ _ _ _ _ _ _ _ _ _ _ _ _ _ _ _ _ _ _ _ _ _ _ _ _ _ _ _ ?_ ?_
          · exact fun _ _ _ _ _ h => h
          intro s141 s142 s143 s144 s145 s146 s147 s148 s149 s150 s151 s152 s153 s154 s155 s156 s157 s158 s159 s160 s161 s162 s163 s164 s165 s166 s167 s168 s169 s170 s171 s172 s173 s174 s175 s176 s177 s178 s179 s180 s181 s182 s183 w4 x4
          clear H3
          go_wp2_with fail
          go_roundw
          case rel =>
            exact HREL.out w4 x4
          case measure => simp [intOf]; omega
        · obtain rfl : j = 3 := by omega
          have HREL := Lib.hid (show ∃ (k' : Nat) (F : Nat → List Nat) (q : Nat), Value.int .u8 ((k : Int) + 1) = .int .u8 (k' : Int) ∧ k' ≤ 8 ∧ q ≤ 1000 + 3 * k' ∧ MSt w0 wr ba bb bw m F c q R W from ⟨k + 1, F, q, by go_num, by omega, by omega, H⟩)
          have uk : IntKind.u8.wrap ((k : Int) + 1) = (k : Int) + 1 := by simp [IntKind.wrap, IntKind.bits, IntKind.signed]; omega
          clear H hq
          go_wp2_with fail
          go_roundw
          case rel => exact HREL.out
          case measure => simp [intOf]; omega
    · obtain rfl : k = 8 := by omega
      have GR := G.ext H.x (by simp) (by simp)
      go_upto_region 43 with (fail)
      refine maps_r43 w0 wr GR ba bb bw m F c q R W H ((HC3.out 0 (by omega)).trans (HC.out 0 (by omega)).symm) ((HC3.out 1 (by omega)).trans (HC.out 1 (by omega)).symm) ((HC3.out 2 (by omega)).trans (HC.out 2 (by omega)).symm) _ (by kernel_rfl) _ _ _ _ _ _ _ _ _ _ _ _ _ _ _ _ _ _ _ _ _ _ _ _ _ _ _ _ _ _ _ _ _ _ _ _ _ _ _ _ _ _ _ _ _ _ _ _ _ _ _ _ _ _ _ _ _ _ _ _ _ _ _ _ _ _ _ _ _ _ _ _ _ _ _ _ _ _ _ _ _ _ _ _ _ _ _ _ _ _ _ _ _ _ _ _ _ _ _ _ _ _ _ _ _ _ _ _ _ _ _ _ _ _ _ _ _ _ _ _ _ _ _ _ _ _ _ _ _ _ _ _ _ _ _ _ _ _ _ _ _ _ _ _ _ _ _ _ _ _ _ _ _ _ _ _ _ _ _ _ _ _ _ _ _ _ _ _ _ _ _ _ _ _ _ _ _ _ _ _ _ _ _ _ _ _ _ _ _ _ _ _ _ _ _ _ _ _ _ _ _ _ _ _ _ _ _ _ _ _ _ _ _ _ _ ?_ ?_
      · exact fun _ _ _ _ _ h => h
      intro s185 s186 s187 s188 s189 s190 s191 s192 s193 s194 s195 s196 s197 s198 s199 s200 s201 s202 s203 s204 s205 s206 s207 s208 s209 s210 s211 s212 s213 s214 s215 w4 x4
      have X := H.x.trans x4
      clear H GR
      go_wp2_with fail
      go_ret
      exact ⟨rfl, X⟩
end Go.Proofs.YtbjkfgfiifnjoaaDoor

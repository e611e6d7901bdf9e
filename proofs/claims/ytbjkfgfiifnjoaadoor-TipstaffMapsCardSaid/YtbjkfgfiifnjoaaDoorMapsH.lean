/- TipstaffMaps: the other ones have the last values alone. -/
import Derived.Laws.Cover3
import Derived.Test.YtbjkfgfiifnjoaaDoorMapsF
namespace Go.Proofs.YtbjkfgfiifnjoaaDoor
open Go.RowKit
set_option maxRecDepth 100000

/-- What is wanted, from a key on. -/
def resW (W : Wan) (n : Nat) : Wan := fun i => if n ≤ i then W i else none
theorem resW_none {W : Wan} {k : Nat} (h : W k = none) : resW W k = resW W (k + 1) := by
  funext i
  unfold resW
  by_cases h1 : k + 1 ≤ i
  · rw [if_pos (by omega), if_pos h1]
  · rw [if_neg h1]
    by_cases h2 : k ≤ i
    · obtain rfl : i = k := by omega
      rw [if_pos h2, h]
    · rw [if_neg h2]
theorem resW_some {W : Wan} {k : Nat} {x : Nat × UInt8 × UInt8} (h : W k = some x) : setW (resW W (k + 1)) k x = resW W k := by
  funext i
  unfold setW resW
  by_cases e : i = k
  · subst e; simp [h]
  · rw [if_neg e]
    by_cases h1 : k + 1 ≤ i
    · rw [if_pos h1, if_pos (by omega)]
    · rw [if_neg h1, if_neg (by omega)]
theorem cA_res8 (j : Nat) (W : Wan) : cA j (resW W 8) = cA j (fun _ => none) := by
  funext i
  unfold cA
  by_cases h : i < 8
  · simp [h, val, resW, show ¬ 8 ≤ i by omega]
  · simp [h]
theorem cA_res0 (j : Nat) (W : Wan) : cA j (resW W 0) = cA j W := by
  have : resW W 0 = W := by funext i; simp [resW]
  rw [this]

set_option maxHeartbeats 16000000 in
theorem maps_t26 (w0 w : World) (G : DigG w0) (ba bb bw : Nat) (m : Nat → Nat) (F : Nat → List Nat) (c : Nat → Con) (q : Nat) (R : List Nat) (W : Wan) (H : MSt w0 w ba bb bw m F c q R W) (hq : q ≤ 100) (hc : ∀ j, j < 3 → c j = cA j W) (hc3 : ∀ j, j < 3 → c (3 + j) = cA j (fun _ => none))
    (C : Code) (hC : C = (tailAt 26 mapsBody).getD .skip) (u0 u1 u2 u3 u4 u7 u8 u9 u10 u11 u12 u14 u15 u16 u17 u18 u19 u20 u21 u22 u23 u24 u25 u26 u27 u28 u29 u30 u31 u32 u33 u34 u35 u36 u37 u38 u39 u40 u41 u42 u43 u44 u45 u46 u47 u48 u49 u50 u51 u52 u53 u54 u55 u56 u57 u58 u59 u60 u61 u62 u63 u64 u65 u66 u67 u68 u69 u70 u71 u72 u73 u74 u75 u76 u77 u78 u79 u80 u81 u82 u83 u84 u85 u86 u87 u88 u89 u90 u91 u92 u93 u94 u95 u96 u97 u98 u99 u100 u101 u102 u103 u104 u105 u106 u107 u108 u109 u110 u111 u112 u113 u114 u115 u116 u117 u118 u119 u120 u121 u122 u123 u124 u125 u126 u127 u128 u129 u130 u131 u132 u133 u134 u135 u136 u137 u138 u139 u140 u141 u142 u143 u144 u145 u146 u147 u148 u149 u150 u151 u152 u153 u154 u155 u156 u157 u158 u159 u160 u161 u162 u163 u164 u165 u166 u167 u168 u169 u170 u171 u172 u173 u174 u175 u176 u177 u178 u179 u180 u181 u182 u183 u184 u185 u186 u187 u188 u189 u190 u191 u192 u193 u194 u195 u196 u197 u198 u199 u200 u201 u202 u203 u204 u205 u206 u207 u208 u209 u210 u211 u212 u213 u214 u215 : Value) :
    Code.wp Tryd.prog C (bodyPost Tryd.prog Tryd.f4 fun e w' => e = .returned (.bool true) ∧ Ext [] w0 w') ⟨#[u0, u1, u2, u3, u4, .pointer (some ⟨ba, 0, none⟩), .pointer (some ⟨bb, 0, none⟩), u7, u8, u9, u10, u11, u12, .pointer (some ⟨bw, 0, none⟩), u14, u15, u16, u17, u18, u19, u20, u21, u22, u23, u24, u25, u26, u27, u28, u29, u30, u31, u32, u33, u34, u35, u36, u37, u38, u39, u40, u41, u42, u43, u44, u45, u46, u47, u48, u49, u50, u51, u52, u53, u54, u55, u56, u57, u58, u59, u60, u61, u62, u63, u64, u65, u66, u67, u68, u69, u70, u71, u72, u73, u74, u75, u76, u77, u78, u79, u80, u81, u82, u83, u84, u85, u86, u87, u88, u89, u90, u91, u92, u93, u94, u95, u96, u97, u98, u99, u100, u101, u102, u103, u104, u105, u106, u107, u108, u109, u110, u111, u112, u113, u114, u115, u116, u117, u118, u119, u120, u121, u122, u123, u124, u125, u126, u127, u128, u129, u130, u131, u132, u133, u134, u135, u136, u137, u138, u139, u140, u141, u142, u143, u144, u145, u146, u147, u148, u149, u150, u151, u152, u153, u154, u155, u156, u157, u158, u159, u160, u161, u162, u163, u164, u165, u166, u167, u168, u169, u170, u171, u172, u173, u174, u175, u176, u177, u178, u179, u180, u181, u182, u183, u184, u185, u186, u187, u188, u189, u190, u191, u192, u193, u194, u195, u196, u197, u198, u199, u200, u201, u202, u203, u204, u205, u206, u207, u208, u209, u210, u211, u212, u213, u214, u215], []⟩ w := by
  subst hC
  conv =>
    arg 2
    whnf
  have HG := Lib.hid G
  have hnq := fun a l c w => run_neq_slice_nil (P := Tryd.prog) w 39 5 a l c Tryd.underlying39
  have H0 := Lib.hid (And.intro H (And.intro hc hc3))
  clear H hc hc3 G
  go_upto_block 6 with (fail)
  go_cut [4, 19, 20] from 99 (fun _ _ _ wx => ∃ (F : Nat → List Nat) (c : Nat → Con) (q : Nat), q ≤ 124 ∧ MSt w0 wx ba bb bw m F c q R W ∧ (∀ j, j < 3 → c j = cA j W) ∧ ∀ j, j < 3 → c (3 + j) = cA j W)
  case first =>
    go_wp2_with fail
    go_loopw [19] (fun i wr => ∃ (n : Nat) (F : Nat → List Nat) (c : Nat → Con) (q : Nat), i = .int .i64 ((n : Int) - 1) ∧ n ≤ 8 ∧ q + 3 * n ≤ 124 ∧ MSt w0 wr ba bb bw m F c q R W ∧ (∀ j, j < 3 → c j = cA j W) ∧ ∀ j, j < 3 → c (3 + j) = cA j (resW W n)) (fun i _ => (intOf i + 1).toNat)
    case atStart => exact ⟨8, F, c, q, rfl, Nat.le_refl _, by omega, H0.out.1, H0.out.2.1, fun j hj => (H0.out.2.2 j hj).trans (cA_res8 j W).symm⟩
    case round =>
      clear H0 hq
      obtain ⟨n, F, c, q, rfl, hn, hq, H, hc, hc3⟩ := hrel
      cases n with
      | zero =>
        have HH := Lib.hid (show ∃ (F : Nat → List Nat) (c : Nat → Con) (q : Nat), q ≤ 124 ∧ MSt w0 wr ba bb bw m F c q R W ∧ (∀ j, j < 3 → c j = cA j W) ∧ ∀ j, j < 3 → c (3 + j) = cA j W from ⟨F, c, q, by omega, H, hc, fun j hj => (hc3 j hj).trans (cA_res0 j W)⟩)
        clear H hc hc3 hq
        go_wp2_with fail
        go_meet
        exact HH.out
      | succ k =>
        have e1 : ((k + 1 : Nat) : Int) - 1 = (k : Int) := by omega
        rw [e1]
        have hk8 : k < 8 := by omega
        have i1 : (0 : Int) ≤ (k : Int) := by omega
        have i2 : (k : Int) < 8 := by omega
        clear e1
        go_upto_region 29 with (fail)
        have HC := Lib.hid (And.intro H (And.intro hc hc3))
        clear H hc hc3
        go_wp2_with fail
        go_loopw [20] (fun i wr => ∃ (j : Nat) (F : Nat → List Nat) (c : Nat → Con) (q : Nat), i = .int .i64 (j : Int) ∧ j ≤ 3 ∧ q + 3 * k ≤ 121 + j ∧ MSt w0 wr ba bb bw m F c q R W ∧ (∀ j, j < 3 → c j = cA j W) ∧ ∀ r, r < 3 → c (3 + r) = cA r (resW W (if r < j then k else k + 1))) (fun i _ => 3 - (intOf i).toNat)
        case atStart => exact ⟨0, F, c, q, rfl, by omega, by omega, HC.out.1, HC.out.2.1, fun r hr => by rw [if_neg (by omega)]; exact HC.out.2.2 r hr⟩
        case round =>
          clear HC hq
          obtain ⟨j, F, c, q, rfl, hj, hq, H, hc, hc3⟩ := hrel
          have q1 := (H.Wt.h.cell k).trans (wantV_at W k hk8)
          have q2 := H.Wt.h.lt
          have hw1 : IntKind.i64.wrap ((k : Int) - 1) = (k : Int) - 1 := IntWalk.i64_in _ (by omega)
          by_cases hlj : j < 3
          · have i3 : (j : Int) < 3 := by omega
            have i4 : (0 : Int) ≤ (j : Int) := by omega
            cases hw : W k with
            | none =>
              rw [show wv W k = .slice none 0 0 by simp [wv, hw]] at q1
              have HREL := Lib.hid (show ∃ (n' : Nat) (F : Nat → List Nat) (c : Nat → Con) (q : Nat), Value.int .i64 ((k : Int) - 1) = .int .i64 ((n' : Int) - 1) ∧ n' ≤ 8 ∧ q + 3 * n' ≤ 124 ∧ MSt w0 wr ba bb bw m F c q R W ∧ (∀ j, j < 3 → c j = cA j W) ∧ ∀ j, j < 3 → c (3 + j) = cA j (resW W n') from
                ⟨k, F, c, q, rfl, by omega, by omega, H, hc, fun r hr => by
                  rw [hc3 r hr]
                  split
                  · rfl
                  · rw [resW_none hw]⟩)
              clear H hc hc3 hq hw
              go_wp2_with fail
              go_roundw
              case rel => exact HREL.out
              case measure => simp [intOf]
            | some x =>
              obtain ⟨g, v0, v1⟩ := x
              rw [show wv W k = .slice (some ⟨g, 0, none⟩) 2 2 by simp [wv, hw]] at q1
              have hcj : c (3 + j) = cA j (resW W (k + 1)) := by rw [hc3 j hlj, if_neg (Nat.lt_irrefl _)]
              have h0 : tyS (3 + j) = 0 → c (3 + j) k ≠ none := by
                intro e
                have hj0 : j = 0 := by unfold tyS at e; omega
                subst hj0
                rw [hcj]
                unfold cA
                simp [hk8]
              have HREL := Lib.hid (fun w2 F' (H2 : MSt w0 w2 ba bb bw m F' (updN c (3 + j) (updC (c (3 + j)) k v0 v1)) (q + 1) R W) => (show ∃ (j' : Nat) (F : Nat → List Nat) (c : Nat → Con) (q : Nat), Value.int .i64 ((j : Int) + 1) = .int .i64 (j' : Int) ∧ j' ≤ 3 ∧ q + 3 * k ≤ 121 + j' ∧ MSt w0 w2 ba bb bw m F c q R W ∧ (∀ j, j < 3 → c j = cA j W) ∧ ∀ r, r < 3 → c (3 + r) = cA r (resW W (if r < j' then k else k + 1)) from by
                refine ⟨j + 1, F', _, q + 1, by go_num, by omega, by omega, H2, fun r hr => ?_, fun r hr => ?_⟩
                · unfold updN
                  rw [if_neg (by omega)]
                  exact hc r hr
                · unfold updN
                  by_cases e : r = j
                  · subst e
                    rw [if_pos rfl, if_pos (by omega), hcj, cA_upd _ _ _ hk8 g, resW_some hw]
                  · rw [if_neg (by omega), hc3 r hr]
                    by_cases h2 : r < j
                    · rw [if_pos h2, if_pos (by omega)]
                    · rw [if_neg h2, if_neg (by omega)]))
              go_upto_region 32 with (fail)
              refine maps_r32 w0 wr ba bb bw m F c q R W H (by omega) j k g v0 v1 hlj hk8 hw h0 _ (by kernel_rfl) _ _ _ _ _ _ _ _ _ _ _ _ _ _ _ _ _ _ _ _ _ _ _ _ _ _ _ _ _ _ _ _ _ _ _ _ _ _ _ _ _ _ _ _ _ _ _ _ _ _ _ _ _ _ _ _ _ _ _ _ _ _ _ _ _ _ _ _ _ _ _ _ _ _ _ _ _ _ _ _ _ _ _ _ _ _ _ _ _ _ _ _ _ _ _ _ _ _ _ _ _ _ _ _ _ _ _ _ _ _ _ _ _ _ _ _ _ _ _ _ _ _ _ _ _ _ _ _ _ _ _ _ _ _ _ _ _ _ _ _ _ _ _ _ _ _ _ _ _ _ _ _ _ _ _ _ _ _ _ _ _ _ _ _ _ _ _ _ _ _ _ _ _ _ _ _ _ _ _ _ _ _ _ _ _ _ _ _ _ _ _ _ _ _ _ _ _ _ _ _ _ _ _ _ _ _ _ _ _ _ _ _ ?_ ?_
              · exact fun _ _ _ _ _ h => h
              intro F' s113 s114 s115 s116 s117 s118 s119 s120 s121 s122 w2 H2
              have HR2 := Lib.hid (HREL.out w2 F' H2)
              clear H hc hc3 hq hcj h0 HREL H2 q1 q2
              go_wp2_with fail
              go_roundw
              case rel => exact HR2.out
              case measure => simp [intOf]; omega
          · obtain rfl : j = 3 := by omega
            have HREL := Lib.hid (show ∃ (n' : Nat) (F : Nat → List Nat) (c : Nat → Con) (q : Nat), Value.int .i64 ((k : Int) - 1) = .int .i64 ((n' : Int) - 1) ∧ n' ≤ 8 ∧ q + 3 * n' ≤ 124 ∧ MSt w0 wr ba bb bw m F c q R W ∧ (∀ j, j < 3 → c j = cA j W) ∧ ∀ j, j < 3 → c (3 + j) = cA j (resW W n') from
              ⟨k, F, c, q, rfl, by omega, by omega, H, hc, fun r hr => by rw [hc3 r hr, if_pos hr]⟩)
            clear H hc hc3 hq q1 q2
            go_wp2_with fail
            go_roundw
            case rel => exact HREL.out
            case measure => simp [intOf]
  case rest =>
    obtain ⟨F', c', q', hq', H', hc', hc3'⟩ := hcut
    rename_i KK aK
    refine aK _ _ ?_
    exact maps_t34 w0 _ HG.out ba bb bw m F' c' q' R W H' (by omega) hc' hc3' _ (by kernel_rfl) _ _ _ _ _ _ _ _ _ _ _ _ _ _ _ _ _ _ _ _ _ _ _ _ _ _ _ _ _ _ _ _ _ _ _ _ _ _ _ _ _ _ _ _ _ _ _ _ _ _ _ _ _ _ _ _ _ _ _ _ _ _ _ _ _ _ _ _ _ _ _ _ _ _ _ _ _ _ _ _ _ _ _ _ _ _ _ _ _ _ _ _ _ _ _ _ _ _ _ _ _ _ _ _ _ _ _ _ _ _ _ _ _ _ _ _ _ _ _ _ _ _ _ _ _ _ _ _ _ _ _ _ _ _ _ _ _ _ _ _ _ _ _ _ _ _ _ _ _ _ _ _ _ _ _ _ _ _ _ _ _ _ _ _ _ _ _ _ _ _ _ _ _ _ _ _ _ _ _ _ _ _ _ _ _ _ _ _ _ _ _ _ _ _ _ _ _ _ _ _ _ _ _ _ _ _ _ _ _ _ _ _ _
end Go.Proofs.YtbjkfgfiifnjoaaDoor

/- TipstaffMaps: the values are put in. -/
import Derived.Test.YtbjkfgfiifnjoaaDoorMapsH
import Derived.Test.YtbjkfgfiifnjoaaDoorBCut
namespace Go.Proofs.YtbjkfgfiifnjoaaDoor
open Go.RowKit
set_option maxRecDepth 100000

/-- A row of bytes that came in, by place. -/
theorem bytes_at {w : World} {v : Value} {b : List UInt8} (h : BytesArg w v b) (i : Nat) (hi : i < b.length) :
    ∃ g o c, v = .slice (some ⟨g, o, none⟩) b.length c ∧ g < w.heap.size ∧ w.cell? ⟨g, o + i, none⟩ = some (.int .u8 (b[i].toNat : Int)) := by
  obtain ⟨ao, c, rfl, -, -, ao', c', e, -, hnone, hcells⟩ := h
  cases e
  obtain ⟨ad, rfl⟩ : ∃ ad, ao = some ad := by
    cases ao with
    | none => have := (hnone rfl).1; omega
    | some ad => exact ⟨ad, rfl⟩
  have hc := hcells ad rfl i (.int .u8 (b[i].toNat : Int)) (by simp [bytesV, hi])
  have hc0 := hcells ad rfl 0 (.int .u8 (b[0].toNat : Int)) (by simp [bytesV, show 0 < b.length by omega])
  obtain ⟨g, o, spot⟩ := ad
  have hs : spot = none := by
    have := World.cell?_spot hc0
    simpa [Addr.add] using this
  subst hs
  rw [Addr.add_lit] at hc
  exact ⟨g, o, c, rfl, World.block_lt_of_cell? w _ hc, hc⟩

theorem MSt.want {w0 w : World} {ba bb bw : Nat} {m : Nat → Nat} {F : Nat → List Nat} {c : Nat → Con} {q : Nat} {R : List Nat} {W : Wan} (h : MSt w0 w ba bb bw m F c q R W) (k : Nat) (hk : k < 8) (v0 v1 : UInt8) :
    MSt w0 ((w.alloc (.cells (bytesV [v0, v1]).toArray 5)).setCell ⟨bw, k, none⟩ (.slice (some ⟨w.heap.size, 0, none⟩) 2 2)) ba bb bw m F c q (w.heap.size :: R) (setW W k (w.heap.size, v0, v1)) := by
  have x1 : Ext [] w (w.alloc (.cells (bytesV [v0, v1]).toArray 5)) := (Ext.refl _ _).alloc _
  have BN := Blk.new w 5 (bytesV [v0, v1]).toArray
  have M1 := h.M.more x1 w.heap.size (Nat.le_refl _) BN.lt
  have h1 := h.ext0 x1
  have x2 : Ext [bw] (w.alloc (.cells (bytesV [v0, v1]).toArray 5)) ((w.alloc (.cells (bytesV [v0, v1]).toArray 5)).setCell ⟨bw, k, none⟩ (.slice (some ⟨w.heap.size, 0, none⟩) 2 2)) := (Ext.refl _ _).setCell (.inl (by simp)) _
  have hx : ∀ {g T cs}, Blk (w.alloc (.cells (bytesV [v0, v1]).toArray 5)) g T cs → T ≠ 53 → g ∉ [bw] := fun hb hT hm => blk_ne hb h1.Wt.h hT (by simpa using hm)
  refine ⟨M1.ext x2 (fun s hs g hg hm => ?_), h1.x.trans' x2 (fun i hi => .inr (by simp at hi; rw [hi]; exact h.lw)), h1.A.ext x2 (hx h1.A (by decide)), h1.B.ext x2 (hx h1.B (by decide)), ⟨?_, ?_⟩, by simp [h.ra], by simp [h.rb], by simp [h.rw_], h.lw⟩
  · have e : g = bw := by simpa using hm
    exact h1.M.rz s hs g hg (e ▸ h.rw_)
  · rw [← wantV_set W k hk]
    exact h1.Wt.h.set k _
  · intro i g a b e
    unfold setW at e
    split at e
    · cases e
      exact ⟨BN.ext x2 (hx BN (by decide)), by simp⟩
    · have hb := (h1.Wt.e i g a b e)
      exact ⟨hb.1.ext x2 (hx hb.1 (by decide)), by simp [hb.2]⟩

set_option maxHeartbeats 32000000 in
theorem maps_t11 (w0 w : World) (G : DigG w0) (ba bb : Nat) (m : Nat → Nat) (F : Nat → List Nat) (M : Maps w0 w m F (fun s => cA (s % 3) fun _ => none) 0 [ba, bb]) (x : Ext [] w0 w) (A : Blk w ba 47 (ptr3 m 0)) (B : Blk w bb 47 (ptr3 m 3))
    (kv vv : Value) (kb vb : List UInt8) (hkv : BytesArg w0 kv kb) (hvv : BytesArg w0 vv vb)
    (C : Code) (hC : C = (tailAt 11 mapsBody).getD .skip) (u2 u3 u4 u7 u8 u9 u10 u11 u12 u13 u14 u15 u16 u17 u18 u19 u20 u21 u22 u23 u24 u25 u26 u27 u28 u29 u30 u31 u32 u33 u34 u35 u36 u37 u38 u39 u40 u41 u42 u43 u44 u45 u46 u47 u48 u49 u50 u51 u52 u53 u54 u55 u56 u57 u58 u59 u60 u61 u62 u63 u64 u65 u66 u67 u68 u69 u70 u71 u72 u73 u74 u75 u76 u77 u78 u79 u80 u81 u82 u83 u84 u85 u86 u87 u88 u89 u90 u91 u92 u93 u94 u95 u96 u97 u98 u99 u100 u101 u102 u103 u104 u105 u106 u107 u108 u109 u110 u111 u112 u113 u114 u115 u116 u117 u118 u119 u120 u121 u122 u123 u124 u125 u126 u127 u128 u129 u130 u131 u132 u133 u134 u135 u136 u137 u138 u139 u140 u141 u142 u143 u144 u145 u146 u147 u148 u149 u150 u151 u152 u153 u154 u155 u156 u157 u158 u159 u160 u161 u162 u163 u164 u165 u166 u167 u168 u169 u170 u171 u172 u173 u174 u175 u176 u177 u178 u179 u180 u181 u182 u183 u184 u185 u186 u187 u188 u189 u190 u191 u192 u193 u194 u195 u196 u197 u198 u199 u200 u201 u202 u203 u204 u205 u206 u207 u208 u209 u210 u211 u212 u213 u214 u215 : Value) :
    Code.wp Tryd.prog C (bodyPost Tryd.prog Tryd.f4 fun e w' => e = .returned (.bool true) ∧ Ext [] w0 w') ⟨#[kv, vv, u2, u3, u4, .pointer (some ⟨ba, 0, none⟩), .pointer (some ⟨bb, 0, none⟩), u7, u8, u9, u10, u11, u12, u13, u14, u15, u16, u17, u18, u19, u20, u21, u22, u23, u24, u25, u26, u27, u28, u29, u30, u31, u32, u33, u34, u35, u36, u37, u38, u39, u40, u41, u42, u43, u44, u45, u46, u47, u48, u49, u50, u51, u52, u53, u54, u55, u56, u57, u58, u59, u60, u61, u62, u63, u64, u65, u66, u67, u68, u69, u70, u71, u72, u73, u74, u75, u76, u77, u78, u79, u80, u81, u82, u83, u84, u85, u86, u87, u88, u89, u90, u91, u92, u93, u94, u95, u96, u97, u98, u99, u100, u101, u102, u103, u104, u105, u106, u107, u108, u109, u110, u111, u112, u113, u114, u115, u116, u117, u118, u119, u120, u121, u122, u123, u124, u125, u126, u127, u128, u129, u130, u131, u132, u133, u134, u135, u136, u137, u138, u139, u140, u141, u142, u143, u144, u145, u146, u147, u148, u149, u150, u151, u152, u153, u154, u155, u156, u157, u158, u159, u160, u161, u162, u163, u164, u165, u166, u167, u168, u169, u170, u171, u172, u173, u174, u175, u176, u177, u178, u179, u180, u181, u182, u183, u184, u185, u186, u187, u188, u189, u190, u191, u192, u193, u194, u195, u196, u197, u198, u199, u200, u201, u202, u203, u204, u205, u206, u207, u208, u209, u210, u211, u212, u213, u214, u215], []⟩ w := by
  subst hC
  conv =>
    arg 2
    whnf
  have HG := Lib.hid G
  have HK := Lib.hid (fun i hi => bytes_at hkv i hi)
  have HV := Lib.hid (fun i hi => bytes_at hvv i hi)
  obtain ⟨a0, c0, rfl, hlc0, hmx0, -⟩ := hkv
  obtain ⟨a1, c1, rfl, hlc1, hmx1, -⟩ := hvv
  unfold maxLen at hmx0 hmx1
  clear G
  go_upto_region 12 with (fail)
  have BW := Blk.new w 53 (wantV fun _ => none).toArray
  have x1 : Ext [] w (w.alloc (.cells (wantV fun _ => none).toArray 53)) := (Ext.refl _ _).alloc _
  show Code.wp _ _ _ _ (w.alloc (.cells (wantV fun _ => none).toArray 53))
  have H1 : MSt w0 (w.alloc (.cells (wantV fun _ => none).toArray 53)) ba bb w.heap.size m F (fun s => cA (s % 3) fun _ => none) 0 [w.heap.size, ba, bb] (fun _ => none) :=
    ⟨M.more x1 _ (Nat.le_refl _) BW.lt, x.trans x1, A.ext x1 (by simp), B.ext x1 (by simp), ⟨BW, fun _ _ _ _ e => by cases e⟩, by simp, by simp, by simp, x.size⟩
  clear M x A B BW x1
  generalize w.alloc (.cells (wantV fun _ => none).toArray 53) = w1 at *
  generalize w.heap.size = bw at *
  go_upto_region 13 with (fail)
  have hmin : min (kb.length : Int) 12 = ((min kb.length 12 : Nat) : Int) := by omega
  rw [hmin]
  have hn1 : min kb.length 12 ≤ kb.length := Nat.min_le_left _ _
  have hn2 : min kb.length 12 ≤ 12 := Nat.min_le_right _ _
  clear hmin
  generalize min kb.length 12 = nn at *
  have H0 := Lib.hid H1
  clear H1
  go_upto_block 2 with (fail)
  go_cut [4, 15, 16, 17, 18] from 59 (fun _ _ _ _ _ wx => ∃ (F : Nat → List Nat) (c : Nat → Con) (q : Nat) (R : List Nat) (W : Wan), q ≤ 100 ∧ MSt w0 wx ba bb bw m F c q R W ∧ (∀ j, j < 3 → c j = cA j W) ∧ ∀ j, j < 3 → c (3 + j) = cA j (fun _ => none))
  case first =>
    go_wp2_with fail
    go_loopw [15] (fun i wr => ∃ (n : Nat) (F : Nat → List Nat) (c : Nat → Con) (q : Nat) (R : List Nat) (W : Wan), i = .int .i64 (n : Int) ∧ n ≤ nn ∧ q ≤ 3 * n ∧ MSt w0 wr ba bb bw m F c q R W ∧ (∀ j, j < 3 → c j = cA j W) ∧ ∀ j, j < 3 → c (3 + j) = cA j (fun _ => none)) (fun i _ => nn - (intOf i).toNat)
    case atStart => exact ⟨0, F, _, 0, _, _, rfl, Nat.zero_le _, by omega, H0.out, fun j hj => by show cA (j % 3) _ = _; rw [Nat.mod_eq_of_lt hj], fun j hj => by show cA ((3 + j) % 3) _ = _; rw [show (3 + j) % 3 = j by omega]⟩
    case round =>
      clear H0
      obtain ⟨n, F, c, q, R, W, rfl, hn, hq, H, hc, hc3⟩ := hrel
      by_cases hlt : n < nn
      · have i1 : (n : Int) < (nn : Int) := by omega
        have i2 : (0 : Int) ≤ (n : Int) := by omega
        have i3 : (n : Int) < (kb.length : Int) := by omega
        obtain ⟨g0, o0, c0', he0, hg0, hk0⟩ := HK.out n (by omega)
        cases he0
        have d0 := (H.x.cell (p := ⟨g0, o0 + n, none⟩) hg0 (by simp)).trans hk0
        have l0 : g0 < wr.heap.size := Nat.lt_of_lt_of_le hg0 H.x.size
        obtain ⟨k, hkk, hk8⟩ : ∃ k : Nat, (((kb[n]'(by omega)).toNat : Int)).tmod 8 = (k : Int) ∧ k < 8 := ⟨(kb[n]'(by omega)).toNat % 8, by rw [Int.tmod_eq_emod_of_nonneg (by omega)]; omega, Nat.mod_lt _ (by omega)⟩
        have un : IntKind.u8.wrap (n : Int) = (n : Int) := by simp [IntKind.wrap, IntKind.bits, IntKind.signed]; omega
        clear hk0 hg0
        generalize (kb[n]'(by omega)).toNat = kbn at *
        go_upto_if 74 with (fail)
        clear d0 l0
        have HH := Lib.hid (And.intro H (And.intro hc hc3))
        clear H hc hc3
        go_cut [17] from 59 to 98 (fun s wx => ∃ b : UInt8, s = .int .u8 (b.toNat : Int) ∧ wx = wr)
        case first =>
          by_cases hv : n < vb.length
          · have i4 : (n : Int) < (vb.length : Int) := by omega
            obtain ⟨g1, o1, c1', he1, hg1, hk1⟩ := HV.out n hv
            cases he1
            have d1 := (HH.out.1.x.cell (p := ⟨g1, o1 + n, none⟩) hg1 (by simp)).trans hk1
            have l1 : g1 < wr.heap.size := Nat.lt_of_lt_of_le hg1 HH.out.1.x.size
            clear hk1 hg1
            generalize vb[n] = bv at *
            go_wp2_with fail
            go_meet
            exact ⟨bv, rfl, rfl⟩
          · have i4 : ¬ (n : Int) < (vb.length : Int) := by omega
            go_wp2_with fail
            go_meet
            exact ⟨UInt8.ofNat n, by simp; omega, rfl⟩
        case rest =>
          obtain ⟨b, rfl, rfl⟩ := hcut
          obtain ⟨H, hc, hc3⟩ := HH.out
          have lb := H.Wt.h.lt
          have fb := H.Wt.h.frozen k
          have db := (H.Wt.h.cell k).trans (wantV_at W k hk8)
          have j1 : (k : Int) < 8 := by omega
          have j2 : (0 : Int) ≤ (k : Int) := by omega
          go_upto_region 21 with (fail)
          have HW := H.want k hk8 b (UInt8.ofNat n)
          rw [World.setCell_alloc_past _ _ _ _ lb, show bytesV [b, UInt8.ofNat n] = [.int .u8 (b.toNat : Int), .int .u8 (n : Int)] by simp [bytesV]; omega] at HW
          clear lb fb db H
          have HW2 : ∃ (g : Nat) (F : Nat → List Nat) (c : Nat → Con) (q : Nat), q ≤ 3 * n ∧ g = wc.heap.size ∧ MSt w0 ((wc.setCell ⟨bw, k, none⟩ (.slice (some ⟨wc.heap.size, 0, none⟩) 2 2)).alloc (.cells #[.int .u8 (b.toNat : Int), .int .u8 (n : Int)] 5)) ba bb bw m F c q (wc.heap.size :: R) (setW W k (wc.heap.size, b, UInt8.ofNat n)) ∧ (∀ r, r < 3 → c r = cA r W) ∧ ∀ r, r < 3 → c (3 + r) = cA r (fun _ => none) := ⟨_, F, c, q, hq, rfl, HW, hc, hc3⟩
          clear HW hc hc3 hq HH
          obtain ⟨g, F, c, q, hq, hgq, HW, hc, hc3⟩ := HW2
          rw [← hgq] at HW ⊢
          generalize (wc.setCell ⟨bw, k, none⟩ (.slice (some ⟨g, 0, none⟩) 2 2)).alloc (.cells #[.int .u8 (b.toNat : Int), .int .u8 (n : Int)] 5) = w6 at *
          clear hgq
          have HC := Lib.hid (And.intro HW (And.intro hc (And.intro hc3 hq)))
          clear HW hc hc3 hq
          go_wp2_with fail
          go_loopw [18] (fun i wr => ∃ (j : Nat) (F : Nat → List Nat) (c : Nat → Con) (q : Nat), i = .int .i64 (j : Int) ∧ j ≤ 3 ∧ q ≤ 3 * n + j ∧ MSt w0 wr ba bb bw m F c q (g :: R) (setW W k (g, b, UInt8.ofNat n)) ∧ (∀ r, r < 3 → c r = cA r (if r < j then setW W k (g, b, UInt8.ofNat n) else W)) ∧ ∀ r, r < 3 → c (3 + r) = cA r (fun _ => none)) (fun i _ => 3 - (intOf i).toNat)
          case atStart => exact ⟨0, F, c, q, rfl, by omega, HC.out.2.2.2, HC.out.1, fun r hr => by rw [if_neg (by omega)]; exact HC.out.2.1 r hr, HC.out.2.2.1⟩
          case round =>
            clear HC
            obtain ⟨j, F, c, q, rfl, hj, hq, H, hc, hc3⟩ := hrel
            by_cases hlj : j < 3
            · have hcj : c j = cA j W := by rw [hc j hlj, if_neg (Nat.lt_irrefl _)]
              have h0 : tyS j = 0 → c j k ≠ none := by
                intro e
                have hj0 : j = 0 := by unfold tyS at e; omega
                subst hj0
                rw [hcj]
                unfold cA
                simp [hk8]
              have HREL := Lib.hid (fun w2 F' (H2 : MSt w0 w2 ba bb bw m F' (updN c j (updC (c j) k b (UInt8.ofNat n))) (q + 1) (g :: R) (setW W k (g, b, UInt8.ofNat n))) => (show ∃ (j' : Nat) (F : Nat → List Nat) (c : Nat → Con) (q : Nat), Value.int .i64 ((j : Int) + 1) = .int .i64 (j' : Int) ∧ j' ≤ 3 ∧ q ≤ 3 * n + j' ∧ MSt w0 w2 ba bb bw m F c q (g :: R) (setW W k (g, b, UInt8.ofNat n)) ∧ (∀ r, r < 3 → c r = cA r (if r < j' then setW W k (g, b, UInt8.ofNat n) else W)) ∧ ∀ r, r < 3 → c (3 + r) = cA r (fun _ => none) from by
                refine ⟨j + 1, F', _, q + 1, by go_num, by omega, by omega, H2, fun r hr => ?_, fun r hr => ?_⟩
                · unfold updN
                  by_cases e : r = j
                  · subst e
                    rw [if_pos rfl, if_pos (by omega), hcj, cA_upd _ _ _ hk8 g]
                  · rw [if_neg e, hc r hr]
                    by_cases h2 : r < j
                    · rw [if_pos h2, if_pos (by omega)]
                    · rw [if_neg h2, if_neg (by omega)]
                · unfold updN
                  rw [if_neg (by omega)]
                  exact hc3 r hr))
              go_upto_region 24 with (fail)
              refine maps_r24 w0 wr ba bb bw m F c q (g :: R) (setW W k (g, b, UInt8.ofNat n)) H (by omega) j k g b (UInt8.ofNat n) hlj hk8 (by simp [setW]) h0 _ (by kernel_rfl) _ _ _ _ _ _ _ _ _ _ _ _ _ _ _ _ _ _ _ _ _ _ _ _ _ _ _ _ _ _ _ _ _ _ _ _ _ _ _ _ _ _ _ _ _ _ _ _ _ _ _ _ _ _ _ _ _ _ _ _ _ _ _ _ _ _ _ _ _ _ _ _ _ _ _ _ _ _ _ _ _ _ _ _ _ _ _ _ _ _ _ _ _ _ _ _ _ _ _ _ _ _ _ _ _ _ _ _ _ _ _ _ _ _ _ _ _ _ _ _ _ _ _ _ _ _ _ _ _ _ _ _ _ _ _ _ _ _ _ _ _ _ _ _ _ _ _ _ _ _ _ _ _ _ _ _ _ _ _ _ _ _ _ _ _ _ _ _ _ _ _ _ _ _ _ _ _ _ _ _ _ _ _ _ _ _ _ _ _ _ _ _ _ _ _ _ _ _ _ _ _ _ _ _ _ _ _ _ _ _ _ _ ?_ ?_
              · exact fun _ _ _ _ _ h => h
              intro F' s89 s90 s91 s92 s93 s94 s95 s96 s97 w2 H2
              have HR2 := Lib.hid (HREL.out w2 F' H2)
              clear H hc hc3 hq hcj h0 HREL H2
              go_wp2_with fail
              go_roundw
              case rel => exact HR2.out
              case measure => simp [intOf]; omega
            · obtain rfl : j = 3 := by omega
              have HREL := Lib.hid (show ∃ (n' : Nat) (F : Nat → List Nat) (c : Nat → Con) (q : Nat) (R : List Nat) (W : Wan), Value.int .i64 ((n : Int) + 1) = .int .i64 (n' : Int) ∧ n' ≤ nn ∧ q ≤ 3 * n' ∧ MSt w0 wr ba bb bw m F c q R W ∧ (∀ j, j < 3 → c j = cA j W) ∧ ∀ j, j < 3 → c (3 + j) = cA j (fun _ => none) from
                ⟨n + 1, F, c, q, _, _, by go_num, by omega, by omega, H, fun r hr => by rw [hc r hr, if_pos hr], hc3⟩)
              clear H hc hc3 hq
              go_wp2_with fail
              go_roundw
              case rel => exact HREL.out
              case measure => simp [intOf]; omega
      · have HR := Lib.hid (show ∃ (F : Nat → List Nat) (c : Nat → Con) (q : Nat) (R : List Nat) (W : Wan), q ≤ 100 ∧ MSt w0 wr ba bb bw m F c q R W ∧ (∀ j, j < 3 → c j = cA j W) ∧ ∀ j, j < 3 → c (3 + j) = cA j (fun _ => none) from ⟨F, c, q, R, W, by omega, H, hc, hc3⟩)
        clear H hc hc3 hq
        go_wp2_with fail
        go_meet
        exact HR.out
  case rest =>
    obtain ⟨F', c', q', R', W', hq', H', hc', hc3'⟩ := hcut
    rename_i KK aK
    refine aK _ _ ?_
    exact maps_t26 w0 _ HG.out ba bb bw m F' c' q' R' W' H' hq' hc' hc3' _ (by kernel_rfl) _ _ _ _ _ _ _ _ _ _ _ _ _ _ _ _ _ _ _ _ _ _ _ _ _ _ _ _ _ _ _ _ _ _ _ _ _ _ _ _ _ _ _ _ _ _ _ _ _ _ _ _ _ _ _ _ _ _ _ _ _ _ _ _ _ _ _ _ _ _ _ _ _ _ _ _ _ _ _ _ _ _ _ _ _ _ _ _ _ _ _ _ _ _ _ _ _ _ _ _ _ _ _ _ _ _ _ _ _ _ _ _ _ _ _ _ _ _ _ _ _ _ _ _ _ _ _ _ _ _ _ _ _ _ _ _ _ _ _ _ _ _ _ _ _ _ _ _ _ _ _ _ _ _ _ _ _ _ _ _ _ _ _ _ _ _ _ _ _ _ _ _ _ _ _ _ _ _ _ _ _ _ _ _ _ _ _ _ _ _ _ _ _ _ _ _ _ _ _ _ _ _ _ _ _ _ _ _ _ _ _ _ _
end Go.Proofs.YtbjkfgfiifnjoaaDoor

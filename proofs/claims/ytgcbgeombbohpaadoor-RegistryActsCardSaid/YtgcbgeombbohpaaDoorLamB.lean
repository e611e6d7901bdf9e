/- Package lamport: Key, Sign. -/
import Derived.Test.YtgcbgeombbohpaaDoorLamA
namespace Go.Proofs.YtgcbgeombbohpaaDoor
open Go.RowKit
set_option maxRecDepth 100000

/-- The leaves of the first k places. -/
def keyL (seed : List UInt8) (k : Nat) : List UInt8 := ((List.range k).map fun i => sumOf (secB seed i 0) ++ sumOf (secB seed i 1)).flatten
def keyB (seed : List UInt8) : List UInt8 := sumOf (keyL seed 32)
def signL (seed sum : List UInt8) (k : Nat) : List UInt8 := ((List.range k).map fun i => secB seed i (bitM sum i) ++ sumOf (secB seed i (1 - bitM sum i))).flatten

theorem keyL_succ (seed : List UInt8) (k : Nat) : keyL seed (k + 1) = keyL seed k ++ sumOf (secB seed k 0) ++ sumOf (secB seed k 1) := by simp [keyL, List.range_succ]
theorem signL_succ (seed sum : List UInt8) (k : Nat) : signL seed sum (k + 1) = signL seed sum k ++ secB seed k (bitM sum k) ++ sumOf (secB seed k (1 - bitM sum k)) := by simp [signL, List.range_succ]
theorem keyL_length (seed : List UInt8) : ∀ k, (keyL seed k).length = 64 * k
  | 0 => rfl
  | k + 1 => by rw [keyL_succ, List.length_append, List.length_append, keyL_length seed k, sumOf_length, sumOf_length]; omega
theorem signL_length (seed sum : List UInt8) : ∀ k, (signL seed sum k).length = 64 * k
  | 0 => rfl
  | k + 1 => by rw [signL_succ, List.length_append, List.length_append, signL_length seed sum k, sumOf_length, secB_length]; omega

set_option maxHeartbeats 8000000 in
theorem lkey_any (v : Value) (seed : List UInt8) (w : World) (G : DigG w) (hr : Reads w v 1 seed.length (bytesV seed)) (hl : seed.length ≤ 1000) :
    Calls Tryd.prog 10 #[v] w fun e w' => e = .returned (.agg (bytesV (keyB seed)).toArray) ∧ Ext [] w w' := by
  obtain ⟨i0, hi, hz0, hz1, hz2⟩ := info_parts info_byte
  have HG := Lib.hid (fun w' (x' : Ext [] w w') => G.ext x' (by simp) (by simp))
  have HSEC := Lib.hid (fun i b w' (x : Ext [] w w') hi hb => secret_any v seed i b w' (G.ext x (by simp) (by simp)) (hr.ext x) hl hi hb)
  obtain ⟨ao, c, rfl, -, -, -⟩ := hr
  clear G
  go_enter Tryd.func10, Tryd.ntmps10
  go_upto_region 1 with (fail)
  show Code.wp _ _ _ _ (w.alloc (.cells (bytesV (List.replicate 32 0)).toArray 22))
  have B1 := Blk.new w 22 (bytesV (List.replicate 32 0)).toArray
  have x1 : Ext [] w (w.alloc (.cells (bytesV (List.replicate 32 0)).toArray 22)) := (Ext.refl _ _).alloc _
  have hw1 := B1.lt
  generalize w.alloc (.cells (bytesV (List.replicate 32 0)).toArray 22) = w1 at *
  go_wp2_with fail
  go_loopw [3, 5] (fun u i wr => ∃ k : Nat, k ≤ 32 ∧ i = .int .i64 (k : Int) ∧ wr.ownsRow 0 5 1 u (keyL seed k).length (bytesV (keyL seed k)) ∧ Ext [] w1 wr ∧ ∀ g, u.ownBlock = some g → w1.heap.size ≤ g) (fun _ i _ => 32 - (intOf i).toNat)
  case atStart => exact ⟨0, by omega, rfl, by simpa [bytesV, keyL] using World.ownsRow_nil _ _ _ _, Ext.refl _ _, fun g h => by cases h⟩
  case round =>
    obtain ⟨k, hk, rfl, hown, x, fr⟩ := hrel
    obtain ⟨va, vc, rfl⟩ := owns_slice hown
    have hkl := keyL_length seed k
    by_cases hlt : k < 32
    · have HS0 := Lib.hid (fun w' (x' : Ext [] w1 w') => HSEC.out k 0 w' (x1.trans x') hlt (by omega))
      have HS1 := Lib.hid (fun w' (x' : Ext [] w1 w') => HSEC.out k 1 w' (x1.trans x') hlt (by omega))
      have HKS := Lib.hid (keyL_succ seed k)
      have hs0 := secB_length seed k 0
      have hs1 := secB_length seed k 1
      generalize secB seed k 0 = s0 at *
      generalize secB seed k 1 = s1 at *
      have hLk : (keyL seed k).length ≤ 2048 := by omega
      clear hkl
      generalize keyL seed k = L at *
      go_wp2_with fail
      refine (HS0.out wr x).mono ?_
      rintro e w2 ⟨u2, rfl, h2, x2⟩
      go_wp2_with fail
      refine (leaf_any u2 s0 w2 (HG.out _ (x1.trans (x.trans x2))) h2.reads (by omega)).mono ?_
      rintro e w3 ⟨u3, rfl, h3, x3⟩
      have hl3 : (sumOf s0).length = 32 := sumOf_length _
      generalize sumOf s0 = l0 at *
      obtain ⟨g3, rfl, B3, hg3, -⟩ := h3
      have hown3 := owns_ext hown (x2.trans x3) (by simp)
      have y3 := x.trans (x2.trans x3)
      clear h2 x2 x3 x hown
      go_upto_region 6 with (at_builtin; go_must (refine wpList_app _ rfl (.tmp 8) (.tmp 12) 30 rfl 5 i0 (.int .u8 0) 1 1 Tryd.underlying30 hi hz0 hz1 hz2 rfl (by decide) (.slice va L.length vc) L.length (bytesV L) rfl hown3 (.slice (some ⟨g3, 0, none⟩) 32 32) 32 (bytesV l0) rfl (blk_reads B3 32 (by rw [bytesV_length, hl3])) (bytesV_one l0) (by unfold maxLen; omega) (by omega) ?_); intro v4 w4 hown4 hgrow4 hfr4 _)
      rw [← bytesV_append] at hown4
      have fr4 := own_fresh y3 fr hgrow4 hfr4
      have y4 := y3.grown hgrow4 (by intro g hg; exact .inr (fr g hg))
      obtain ⟨a4, c4, rfl⟩ := owns_slice hown4
      clear hgrow4 hfr4 y3 fr B3 hown3
      go_wp2_with fail
      refine (HS1.out w4 y4).mono ?_
      rintro e w5 ⟨u5, rfl, h5, x5⟩
      go_wp2_with fail
      refine (leaf_any u5 s1 w5 (HG.out _ (x1.trans (y4.trans x5))) h5.reads (by omega)).mono ?_
      rintro e w6 ⟨u6, rfl, h6, x6⟩
      have hl6 : (sumOf s1).length = 32 := sumOf_length _
      generalize sumOf s1 = l1 at *
      obtain ⟨g6, rfl, B6, hg6, -⟩ := h6
      have hown6 := owns_ext hown4 (x5.trans x6) (by simp)
      have y6 := y4.trans (x5.trans x6)
      clear h5 x5 x6 y4 hown4
      go_upto_region 7 with (at_builtin; go_must (refine wpList_app _ rfl (.tmp 14) (.tmp 18) 30 rfl 5 i0 (.int .u8 0) 1 1 Tryd.underlying30 hi hz0 hz1 hz2 rfl (by decide) (.slice a4 (L.length + 32) c4) (L.length + 32) (bytesV (L ++ l0)) rfl hown6 (.slice (some ⟨g6, 0, none⟩) 32 32) 32 (bytesV l1) rfl (blk_reads B6 32 (by rw [bytesV_length, hl6])) (bytesV_one l1) (by unfold maxLen; omega) (by omega) ?_); intro v7 w7 hown7 hgrow7 hfr7 _)
      rw [← bytesV_append, show L.length + 32 + 32 = (L ++ l0 ++ l1).length by rw [List.length_append, List.length_append, hl6, hl3], ← HKS.out] at hown7
      have fr7 := own_fresh y6 fr4 hgrow7 hfr7
      have y7 := y6.grown hgrow7 (by intro g hg; exact .inr (fr4 g hg))
      clear hgrow7 hfr7 y6 fr4 B6 hown6
      go_wp2_with fail
      go_roundw
      case rel => exact ⟨k + 1, by omega, by go_num, hown7, y7, fr7⟩
      case measure => simp [intOf]; omega
    · obtain rfl : k = 32 := by omega
      have HSU := Lib.hid (sum_any (.slice va (keyL seed 32).length vc) (keyL seed 32) wr (HG.out _ (x1.trans x)) (owns_reads hown) (by omega))
      rw [show sumOf (keyL seed 32) = keyB seed from rfl] at HSU
      have hOl : (bytesV (keyB seed)).length = 32 := by rw [bytesV_length]; exact sumOf_length _
      have hob : ∀ u ∈ bytesV (keyB seed), u.oneCell' = true := bytesV_one _
      clear hown fr
      go_wp2_with fail
      refine HSU.out.mono ?_
      rintro e w9 ⟨rfl, x9⟩
      have BR := (B1.ext x (by simp)).ext x9 (by simp)
      generalize hov : bytesV (keyB seed) = ov at *
      go_wp2_with fail
      refine upon_strow w.heap.size 0 22 _ ov BR (by rw [hOl]; simp [bytesV]) hob ?_
      intro w10 H10 x10 _
      have e9 : (bytesV (List.replicate 32 0)).take 0 ++ ov ++ (bytesV (List.replicate 32 0)).drop (0 + ov.length) = ov := by
        rw [hOl, List.take_zero, List.nil_append, List.drop_of_length_le (by simp [bytesV]), List.append_nil]
      rw [e9] at H10
      go_wp2_with fail
      refine bodyPost_ret (results_blk Tryd.results10 _ _ w.heap.size 22 ov _ rfl H10 Tryd.underlying22 rfl (by rw [hOl]; kernel_rfl)) rfl ?_
      exact ⟨by rw [hov], (x1.trans (x.trans x9)).trans' x10 (by simp)⟩

set_option maxHeartbeats 8000000 in
theorem lsign_any (v : Value) (seed sum : List UInt8) (w : World) (G : DigG w) (hr : Reads w v 1 seed.length (bytesV seed)) (hl : seed.length ≤ 1000) (hsum : sum.length = 32) :
    Calls Tryd.prog 12 #[v, .agg (bytesV sum).toArray] w fun e w' => BytesPost w (signL seed sum 32) e w' := by
  obtain ⟨i0, hi, hz0, hz1, hz2⟩ := info_parts info_byte
  have HG := Lib.hid (fun w' (x' : Ext [] w w') => G.ext x' (by simp) (by simp))
  have HSEC := Lib.hid (fun i b w' (x : Ext [] w w') hi hb => secret_any v seed i b w' (G.ext x (by simp) (by simp)) (hr.ext x) hl hi hb)
  have HBIT := Lib.hid (fun i w' hi => lbit_any sum i w' hsum hi)
  obtain ⟨ao, c, rfl, -, -, -⟩ := hr
  have hol : (bytesV sum).length = 32 := by rw [bytesV_length, hsum]
  have hob : ∀ u ∈ bytesV sum, u.oneCell' = true := bytesV_one _
  obtain ⟨ov, hov⟩ : ∃ ov, ov = bytesV sum := ⟨_, rfl⟩
  rw [← hov] at HBIT hol hob ⊢
  clear G hov
  go_enter Tryd.func12, Tryd.ntmps12
  go_upto_region 1 with (fail)
  have B1 := Blk.new w 22 ov.toArray
  have x1 : Ext [] w (w.alloc (.cells ov.toArray 22)) := (Ext.refl _ _).alloc _
  have hw1 := B1.lt
  generalize w.alloc (.cells ov.toArray 22) = w1 at *
  rw [show ov.toArray.toList = ov from rfl] at B1
  go_wp2_with fail
  go_loopw [5, 8] (fun u i wr => ∃ k : Nat, k ≤ 32 ∧ i = .int .i64 (k : Int) ∧ wr.ownsRow 0 5 1 u (signL seed sum k).length (bytesV (signL seed sum k)) ∧ Ext [] w1 wr ∧ ∀ g, u.ownBlock = some g → w1.heap.size ≤ g) (fun _ i _ => 32 - (intOf i).toNat)
  case atStart => exact ⟨0, by omega, rfl, by simpa [bytesV, signL] using World.ownsRow_nil _ _ _ _, Ext.refl _ _, fun g h => by cases h⟩
  case round =>
    obtain ⟨k, hk, rfl, hown, x, fr⟩ := hrel
    obtain ⟨va, vc, rfl⟩ := owns_slice hown
    have hkl := signL_length seed sum k
    by_cases hlt : k < 32
    · have HB := Lib.hid (fun w' => HBIT.out k w' hlt)
      have HS0 := Lib.hid (fun w' (x' : Ext [] w1 w') => HSEC.out k (bitM sum k) w' (x1.trans x') hlt (bitM_lt sum k))
      have HS1 := Lib.hid (fun w' (x' : Ext [] w1 w') => HSEC.out k (1 - bitM sum k) w' (x1.trans x') hlt (by omega))
      have HKS := Lib.hid (signL_succ seed sum k)
      have hs0 := secB_length seed k (bitM sum k)
      have hs1 := secB_length seed k (1 - bitM sum k)
      have hbl := bitM_lt sum k
      have hLk : (signL seed sum k).length ≤ 2048 := by omega
      generalize secB seed k (bitM sum k) = s0 at *
      generalize secB seed k (1 - bitM sum k) = s1 at *
      clear hkl
      generalize signL seed sum k = L at *
      have BR := B1.ext x (by simp)
      have hb1 : IntKind.u8.wrap (1 - ((bitM sum k : Nat) : Int)) = ((1 - bitM sum k : Nat) : Int) := by
        have : bitM sum k = 0 ∨ bitM sum k = 1 := by omega
        rcases this with h | h <;> rw [h] <;> rfl
      generalize bitM sum k = b at *
      go_upto_region 5 with (fail)
      apply wp_region_lit
      refine wpList_ldpart rfl 22 (.tmp 3) rfl w.heap.size 0 rfl ov _ BR.part Tryd.underlying22 rfl (by rw [hol]; kernel_rfl) ?_
      go_wp2_with fail
      refine (HB.out wr).mono ?_
      rintro e w2 ⟨rfl, x2⟩
      have y2 := x.trans x2
      have hown2 := owns_ext hown x2 (by simp)
      clear hown x x2 BR
      go_wp2_with fail
      refine (HS0.out w2 y2).mono ?_
      rintro e w3 ⟨u3, rfl, h3, x3⟩
      obtain ⟨g3, rfl, B3, hg3, hl3⟩ := h3
      have hown3 := owns_ext hown2 x3 (by simp)
      have y3 := y2.trans x3
      clear x3 y2 hown2
      go_upto_region 7 with (at_builtin; go_must (refine wpList_app _ rfl (.tmp 14) (.tmp 18) 30 rfl 5 i0 (.int .u8 0) 1 1 Tryd.underlying30 hi hz0 hz1 hz2 rfl (by decide) (.slice va L.length vc) L.length (bytesV L) rfl hown3 (.slice (some ⟨g3, 0, none⟩) 32 32) 32 (bytesV s0) rfl (blk_reads B3 32 (by rw [bytesV_length, hl3])) (bytesV_one s0) (by unfold maxLen; omega) (by omega) ?_); intro v4 w4 hown4 hgrow4 hfr4 _)
      rw [← bytesV_append] at hown4
      have fr4 := own_fresh y3 fr hgrow4 hfr4
      have y4 := y3.grown hgrow4 (by intro g hg; exact .inr (fr g hg))
      obtain ⟨a4, c4, rfl⟩ := owns_slice hown4
      clear hgrow4 hfr4 y3 fr B3 hown3
      go_wp2_with fail
      clear hb1
      refine (HS1.out w4 y4).mono ?_
      rintro e w5 ⟨u5, rfl, h5, x5⟩
      go_wp2_with fail
      refine (leaf_any u5 s1 w5 (HG.out _ (x1.trans (y4.trans x5))) h5.reads (by omega)).mono ?_
      rintro e w6 ⟨u6, rfl, h6, x6⟩
      have hl6 : (sumOf s1).length = 32 := sumOf_length _
      generalize sumOf s1 = l1 at *
      obtain ⟨g6, rfl, B6, hg6, -⟩ := h6
      have hown6 := owns_ext hown4 (x5.trans x6) (by simp)
      have y6 := y4.trans (x5.trans x6)
      clear h5 x5 x6 y4 hown4
      go_upto_region 8 with (at_builtin; go_must (refine wpList_app _ rfl (.tmp 20) (.tmp 26) 30 rfl 5 i0 (.int .u8 0) 1 1 Tryd.underlying30 hi hz0 hz1 hz2 rfl (by decide) (.slice a4 (L.length + 32) c4) (L.length + 32) (bytesV (L ++ s0)) rfl hown6 (.slice (some ⟨g6, 0, none⟩) 32 32) 32 (bytesV l1) rfl (blk_reads B6 32 (by rw [bytesV_length, hl6])) (bytesV_one l1) (by unfold maxLen; omega) (by omega) ?_); intro v7 w7 hown7 hgrow7 hfr7 _)
      rw [← bytesV_append, show L.length + 32 + 32 = (L ++ s0 ++ l1).length by rw [List.length_append, List.length_append, hl6, hl3], ← HKS.out] at hown7
      have fr7 := own_fresh y6 fr4 hgrow7 hfr7
      have y7 := y6.grown hgrow7 (by intro g hg; exact .inr (fr4 g hg))
      clear hgrow7 hfr7 y6 fr4 B6 hown6
      go_wp2_with fail
      go_roundw
      case rel => exact ⟨k + 1, by omega, by go_num, hown7, y7, fr7⟩
      case measure => simp [intOf]; omega
    · obtain rfl : k = 32 := by omega
      have hsz := x1.size
      have frw : ∀ g, (Value.slice va (signL seed sum 32).length vc).ownBlock = some g → w.heap.size ≤ g := fun g hg => by have := fr g hg; omega
      go_wp2_with fail
      go_ret
      exact ⟨_, rfl, hown, x1.trans x, frw⟩
end Go.Proofs.YtgcbgeombbohpaaDoor

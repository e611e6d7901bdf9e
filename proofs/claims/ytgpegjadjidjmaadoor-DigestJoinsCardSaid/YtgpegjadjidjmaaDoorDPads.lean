/- The law DigestPads: the walk. -/
import Derived.Test.YtgpegjadjidjmaaDoorRefHex
import Derived.Test.YtgpegjadjidjmaaDoorEqB
namespace Go.Proofs.YtgpegjadjidjmaaDoor
open Go.RowKit

theorem byte_int (z : Int) (h0 : 0 ≤ z) (h1 : z < 256) : Value.int .u8 z = Value.int .u8 (((UInt8.ofNat z.toNat).toNat : Nat) : Int) := by
  rw [byte_val]; congr 1; omega

theorem eq_sums (b c : List UInt8) : ∀ w, (Op.equalIn 10000 23 (.agg (bytesV (sumOf b)).toArray) (.agg (bytesV (sumOf c)).toArray)).run Tryd.prog w = .ok (decide (sumOf b = sumOf c)) w :=
  run_equal_bytes (P := Tryd.prog) 9998 Tryd.underlying23 Tryd.underlying5 (by kernel_rfl) (by kernel_rfl) (sumOf b) (sumOf c) (sumOf_length _) (sumOf_length _)

set_option maxHeartbeats 4000000 in
set_option maxRecDepth 100000 in
theorem pads_walk (a0 a1 : Int) (w : World) (G : DigG w) :
    Calls Tryd.prog 4 #[.int .i64 a0, .int .u8 a1] w fun e w' => e = .returned (.bool true) ∧ Ext [] w w' := by
  obtain ⟨i0, hi, hz0, hz1, hz2⟩ := info_parts info_byte
  have HG := Lib.hid (fun w' (x' : Ext [] w w') => G.ext x' (by simp) (by simp))
  clear G
  obtain ⟨k, hk, hk90⟩ := mod_nat a0 90 (by omega) (by omega)
  have HK := Lib.hid hk
  clear hk
  go_enter Tryd.func4, Tryd.ntmps4
  go_upto_region 2 with (fail)
  rw [show wrap64 ((IntKind.u64.wrap a0).tmod 90) = (k : Int) from HK.out]
  rw [IntWalk.wrap64_in (50 + (k : Int)) (by omega), show 50 + (k : Int) = ((50 + k : Nat) : Int) by omega]
  obtain ⟨m, hm⟩ : ∃ m, m = 50 + k := ⟨_, rfl⟩
  rw [← hm]
  have hm2 : m ≤ 140 := by omega
  have hm1 : 50 ≤ m := by omega
  clear hm HK hk90
  go_wp2_with (at_make; refine wpList_mk _ rfl _ _ _ rfl 5 i0 (.int .u8 0) Tryd.underlying22 hi hz0 hz1 rfl .i64 .i64 _ _ m rfl rfl rfl rfl (by rw [hz2]; omega) (by unfold maxLen; omega) ?_)
  have hB : Blk (w.alloc (.cells (Array.replicate m (Value.int .u8 0)) 5)) w.heap.size 5 (bytesV (List.replicate m 0)) := by
    have := Blk.new w 5 (Array.replicate m (Value.int .u8 0))
    simpa [bytesV] using this
  have xB : Ext [] w (w.alloc (.cells (Array.replicate m (Value.int .u8 0)) 5)) := (Ext.refl _ _).alloc _
  generalize w.alloc (.cells (Array.replicate m (Value.int .u8 0)) 5) = w1 at *
  go_loopw [7] (fun i wr => ∃ (j : Nat) (bs : List UInt8), j ≤ m ∧ i = .int .i64 (j : Int) ∧ bs.length = m ∧ Blk wr w.heap.size 5 (bytesV bs) ∧ Ext [] w wr) (fun i _ => m - (intOf i).toNat)
  case atStart => exact ⟨0, _, by omega, rfl, by simp, hB, xB⟩
  case round =>
    obtain ⟨j, bs, hj, rfl, hbl, B, x⟩ := hrel
    have HBL := Lib.hid hbl
    clear hbl hB xB
    by_cases hlt : j < m
    · have hc := (B.cell j).trans (show (bytesV bs)[j]? = some (.int .u8 ((bs.getD j 0).toNat : Int)) by have := HBL.out; unfold bytesV; simp [List.getD, show j < bs.length by omega])
      have hf := B.frozen j
      generalize bs.getD j 0 = old at *
      go_wp2_with fail
      go_roundw
      case rel =>
        go_light
        refine ⟨j + 1, bs.set j (UInt8.ofNat ((a1 + (j : Int)) % 256).toNat), by omega, by go_num, ?_, ?_, x.setCell (.inr (by simp)) _⟩
        rotate_left
        · rw [byte_int _ (Int.emod_nonneg _ (by omega)) (Int.emod_lt_of_pos _ (by omega))]
          have := B.set j (.int .u8 (((UInt8.ofNat ((a1 + (j : Int)) % 256).toNat).toNat : Nat) : Int))
          rw [bytesV_set] at this
          exact this
        · rw [List.length_set]; exact HBL.out
      case measure => simp [intOf]; omega
    · have HR := Lib.hid (fun w' (x : Ext [] wr w') => (show Reads w' (.slice (some ⟨w.heap.size, 0, none⟩) m m) 1 bs.length (bytesV bs) from by
        have h := blk_reads (size := 1) (m := m) (B.ext x (by simp)) m (by have := HBL.out; rw [bytesV_length]; omega)
        rw [HBL.out]; exact h))
      have hbs : bs.length ≤ 1048576 := by have := HBL.out; omega
      go_wp2_with fail
      refine (sums_any wr (HG.out _ x)).mono ?_
      rintro e w7 ⟨rfl, x7⟩
      go_wp2_with fail
      refine (sum_any _ bs w7 (HG.out _ (x.trans x7)) (HR.out _ x7) hbs).mono ?_
      rintro e w8 ⟨rfl, x8⟩
      go_wp2_with fail
      refine (rsum _ bs w8 (HR.out _ (x7.trans x8)) hbs).mono ?_
      rintro e w9 ⟨rfl, x9⟩
      have heq := eq_sums bs bs
      simp only [decide_true] at heq
      generalize (bytesV (sumOf bs)).toArray = arr at *
      go_wp2_with fail
      go_ret
      exact ⟨rfl, ((x.trans x7).trans x8).trans x9⟩
end Go.Proofs.YtgpegjadjidjmaaDoor

/- Package digest: right, length, words, work, Sum. -/
import Derived.Test.YtbjkfgfiifnjoaaDoorBits
import Derived.Test.YtbjkfgfiifnjoaaDoorByt
namespace Go.Proofs.YtbjkfgfiifnjoaaDoor
open Go.RowKit
set_option maxRecDepth 100000

theorem rotl_any (x : BitVec 32) (n : Nat) (w : World) (h1 : 1 ≤ n) (h2 : n ≤ 31) :
    Calls Tryd.prog 145 #[.int .u32 (x.toNat : Int), .int .i64 (-(n : Int))] w fun e w' => e = .returned (.int .u32 ((rotr x n).toNat : Int)) ∧ w = w' := by
  have hs := neg_and31 n h1 h2
  have hx := x.isLt
  go_enter Tryd.func145, Tryd.ntmps145
  go_wp2_with fail
  go_ret
  refine ⟨ret_int ?_, rfl⟩
  rw [show 32 - (32 - n) = n by omega, bv_shl', bv_shr, bv_or, rotr, BitVec.or_comm]

theorem right_any (x : BitVec 32) (n : Nat) (w : World) (h1 : 1 ≤ n) (h2 : n ≤ 31) :
    Calls Tryd.prog 121 #[.int .u32 (x.toNat : Int), .int .i64 (n : Int)] w fun e w' => e = .returned (.int .u32 ((rotr x n).toNat : Int)) ∧ w = w' := by
  have HC := Lib.hid (rotl_any x n w h1 h2)
  go_enter Tryd.func121, Tryd.ntmps121
  go_wp2_with fail
  refine HC.out.mono ?_
  rintro e w' ⟨rfl, rfl⟩
  go_wp2_with fail
  go_ret
  exact ⟨rfl, rfl⟩

/-- A number's eight bytes, the highest first. -/
def be8 (n : Nat) : List UInt8 := (List.range 8).map fun k => UInt8.ofNat (n / 2 ^ (8 * (7 - k)))

theorem be8_take (n k : Nat) (hk : k < 8) : (be8 n).take (k + 1) = (be8 n).take k ++ [UInt8.ofNat (n / 2 ^ (8 * (7 - k)))] := by
  rw [List.take_succ_eq_append_getElem (by simp [be8]; omega)]
  simp [be8]

set_option maxHeartbeats 1000000 in
theorem length_any (n : Nat) (w : World) :
    Calls Tryd.prog 50 #[.int .u64 (n : Int)] w (BytesPost w (be8 n)) := by
  obtain ⟨i0, hi, hz0, hz1, hz2⟩ := info_parts info_byte
  go_enter Tryd.func50, Tryd.ntmps50
  go_wp2_with fail
  go_loopw [3, 4] (fun v i wr => ∃ k : Nat, k ≤ 8 ∧ i = .int .i64 (7 - (k : Int)) ∧ wr.ownsRow 0 5 1 v k (bytesV ((be8 n).take k)) ∧ Ext [] w wr ∧ ∀ g, v.ownBlock = some g → w.heap.size ≤ g) (fun _ i _ => (1 + intOf i).toNat)
  case atStart => exact ⟨0, by omega, by go_num, by simpa [bytesV] using World.ownsRow_nil _ _ _ _, Ext.refl _ _, fun g h => by cases h⟩
  case round =>
    obtain ⟨k, hk, rfl, hown, x, hfr⟩ := hrel
    by_cases hlt : k < 8
    · have hst := be8_take n k hlt
      have HS := Lib.hid hst
      clear hst
      have hown2 := fun z => owns_ext hown ((Ext.refl [] wr).alloc (.cells #[.int .u8 z] 5)) (by simp)
      go_wp2_with (at_builtin; go_must (refine wpList_app _ rfl _ _ 39 rfl 5 i0 (.int .u8 0) 1 1 Tryd.underlying39 hi hz0 hz1 hz2 rfl (by decide) _ _ _ rfl (hown2 _) _ 1 [.int .u8 ((n : Int) / 2 ^ (8 * (7 - k)) % 256)] rfl (blk_reads (Blk.new wr 5 #[.int .u8 ((n : Int) / 2 ^ (8 * (7 - k)) % 256)]) 1 rfl) (by intro u hu; simp at hu; subst hu; rfl) (by unfold maxLen; omega) (by omega) ?_); intro v' w1 hown' hgrow hfr' _)
      go_roundw
      case rel =>
        refine ⟨k + 1, by omega, by go_num, ?_, (x.alloc _).grown hgrow fun g hg => .inr (hfr g hg), ?_⟩
        · rw [HS.out, bytesV_append, show bytesV [UInt8.ofNat (n / 2 ^ (8 * (7 - k)))] = [.int .u8 ((n : Int) / 2 ^ (8 * (7 - k)) % 256)] by
            show [Value.int .u8 _] = _
            rw [byte_val]; simp]
          exact hown'
        · intro g hg
          rcases hfr' with h | ⟨g', h, hle'⟩
          · exact hfr g (h ▸ hg)
          · rw [h] at hg; obtain rfl := Option.some.inj hg
            have := x.size
            simp at hle'; omega
      case measure => simp [intOf]; omega
    · obtain rfl : k = 8 := by omega
      go_wp2_with fail
      go_ret
      refine ⟨_, rfl, ?_, x, hfr⟩
      have e : (be8 n).take 8 = be8 n := List.take_of_length_le (by simp [be8])
      rw [e] at hown
      exact hown

end Go.Proofs.YtbjkfgfiifnjoaaDoor

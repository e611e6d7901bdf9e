/- Package rights: Bit; package token: has, of, Helper. -/
import Derived.Test.YtnjgehfnafdldaaDoorTokA
namespace Go.Proofs.YtnjgehfnafdldaaDoor
open Go.RowKit
set_option maxRecDepth 100000

/-- The helpers, by their bits. -/
def HL : List Int := [1, 2, 3, 5, 7, 87, 88, 89]
structure HelpG (w : World) : Prop where
  h : ∀ j, j < 8 → w.cell? ⟨0, 0 + j, none⟩ = some (.int .i32 (HL.getD j 0))
theorem HelpG.lt {w : World} (h : HelpG w) : 0 < w.heap.size := World.block_lt_of_cell? w _ (h.h 0 (by omega))
theorem HelpG.ext {S : List Nat} {w w' : World} (h : HelpG w) (e : Ext S w w') (h1 : 0 ∉ S) : HelpG w' :=
  ⟨fun j hj => (e.cell h.lt h1).trans (h.h j hj)⟩

set_option maxHeartbeats 400000 in
theorem index32_any (b off cap : Nat) (zs : List Int) (x : Int) (w : World) (hm : zs.length ≤ 9223372036854775807)
    (hc : ∀ i, i < zs.length → w.cell? ⟨b, off + i, none⟩ = some (.int .i32 (zs.getD i 0))) :
    Calls Tryd.prog 39 #[.slice (some ⟨b, off, none⟩) zs.length cap, .int .i32 x] w fun e w' => e = .returned (.int .i64 (idxFrom x zs 0)) ∧ w = w' := by
  go_enter Tryd.func39, Tryd.ntmps39
  go_wp2
  go_loop [5, 8] (fun _ i => ∃ k : Nat, k ≤ zs.length ∧ i = .int .i64 k ∧ idxFrom x zs 0 = idxFrom x (zs.drop k) k) (fun _ i => zs.length - (intOf i).toNat)
  case atStart => exact ⟨0, Nat.zero_le _, rfl, rfl⟩
  case round =>
    obtain ⟨k, hk, rfl, hi⟩ := hrel
    have HI := Lib.hid hi
    clear hi
    by_cases hlt : k < zs.length
    · have hcell : w.cell? ⟨b, off + k, none⟩ = some (.int .i32 (zs.getD k 0)) := hc k hlt
      clear hc
      go_wp2
      · go_ret
        refine ⟨ret_int ?_, rfl⟩
        rw [HI.out]
        exact (idxFrom_hit x zs k hlt (by have h : (x == zs[k]) = true := by assumption
                                          simpa using h)).symm
      · go_round
        case rel =>
          refine ⟨k + 1, by omega, by go_num, ?_⟩
          rw [HI.out]
          exact idxFrom_miss x zs k hlt (by have h : (x == zs[k]) = false := by assumption
                                            simpa using h)
        case measure => simp [intOf]; omega
    · clear hc
      go_wp2
      go_ret
      refine ⟨ret_int ?_, rfl⟩
      rw [HI.out, List.drop_of_length_le (by omega)]
      rfl

def bitN (x : Int) : Int := if 0 ≤ idxFrom x HL 0 then idxFrom x HL 0 else 0
def bitB (x : Int) : Bool := decide (0 ≤ idxFrom x HL 0)

theorem bit_any (x : Int) (w : World) (G : HelpG w) :
    Calls Tryd.prog 28 #[.int .i32 x] w fun e w' => e = .returned (.tuple #[.int .i64 (bitN x), .bool (bitB x)]) ∧ Ext [] w w' := by
  have hi0 := index32_any 0 0 8 HL x w (by decide) G.h
  have hlt := G.lt
  unfold bitN bitB
  generalize idxFrom x HL 0 = i at *
  have HI := Lib.hid hi0
  clear hi0
  by_cases hi : 0 ≤ i
  · rw [if_pos hi, decide_eq_true hi]
    go_enter Tryd.func28, Tryd.ntmps28
    go_wp2_with fail
    refine HI.out.mono ?_
    rintro e w1 ⟨rfl, rfl⟩
    clear HI
    go_wp2_with fail
    go_returns
    refine ⟨?_, Ext.refl _ _⟩
    simp
    try omega
  · rw [if_neg hi, decide_eq_false hi]
    go_enter Tryd.func28, Tryd.ntmps28
    go_wp2_with fail
    refine HI.out.mono ?_
    rintro e w1 ⟨rfl, rfl⟩
    clear HI
    go_wp2_with fail
    go_returns
    refine ⟨?_, Ext.refl _ _⟩
    simp
    try omega

theorem bv16_shr (x : BitVec 16) (n : Nat) : (x.toNat : Int) / 2 ^ n = ((x >>> n).toNat : Int) := by
  rw [BitVec.toNat_ushiftRight, Nat.shiftRight_eq_div_pow]; simp
theorem shr_bit (x : BitVec 16) (k : Nat) : (bits .and .u16 ((x.toNat : Int) / 2 ^ k) 1 == 0) = !x.getLsbD k := by
  rw [bv16_shr, show (1 : Int) = ((1 : Nat) : Int) from rfl, u16_and_nat _ _ (x >>> k).isLt (by decide), BitVec.getLsbD, Nat.testBit, BitVec.toNat_ushiftRight, Nat.and_comm]
  rw [Nat.and_comm, Nat.and_one_is_mod]
  rcases Nat.mod_two_eq_zero_or_one (x.toNat >>> k) with h | h <;> rw [h] <;> rfl

/-- May one? -/
def hasE (x : BitVec 16) (n : Int) : Int := if n < 0 ∨ 16 ≤ n then 22 else if x.getLsbD n.toNat then 0 else 1

theorem thas_any (x : BitVec 16) (n : Int) (w : World) :
    Calls Tryd.prog 34 #[.int .u16 (x.toNat : Int), .int .i64 n] w fun e w' => e = .returned (.int .i64 (hasE x n)) ∧ w = w' := by
  obtain ⟨E, hE⟩ : ∃ E, E = hasE x n := ⟨_, rfl⟩
  rw [← hE]
  unfold hasE at hE
  by_cases h0 : n < 0
  · rw [if_pos (Or.inl h0)] at hE
    subst hE
    go_enter Tryd.func34, Tryd.ntmps34
    go_wp2_with fail
    go_returns
    exact ⟨rfl, rfl⟩
  · by_cases h1 : 16 ≤ n
    · rw [if_pos (Or.inr h1)] at hE
      subst hE
      go_enter Tryd.func34, Tryd.ntmps34
      go_wp2_with fail
      go_returns
      exact ⟨rfl, rfl⟩
    · obtain ⟨k, rfl⟩ := Int.eq_ofNat_of_zero_le (by omega : 0 ≤ n)
      rw [if_neg (by omega), Int.toNat_natCast] at hE
      have HE := Lib.hid hE
      clear hE
      go_enter Tryd.func34, Tryd.ntmps34
      go_upto_region 3 with (fail)
      go_wp2_with fail
      · have hb : (bits BinOp.and IntKind.u16 ((x.toNat : Int) / 2 ^ k) 1 == 0) = true := by assumption
        rw [shr_bit] at hb
        go_returns
        exact ⟨congrArg (fun z => Ending.returned (.int .i64 z)) (show (1 : Int) = E by rw [HE.out, if_neg (by simpa using hb)]), rfl⟩
      · have hb : (bits BinOp.and IntKind.u16 ((x.toNat : Int) / 2 ^ k) 1 == 0) = false := by assumption
        rw [shr_bit] at hb
        go_returns
        exact ⟨congrArg (fun z => Ending.returned (.int .i64 z)) (show (0 : Int) = E by rw [HE.out, if_pos (by simpa using hb)]), rfl⟩
end Go.Proofs.YtnjgehfnafdldaaDoor

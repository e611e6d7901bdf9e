/- Plain laws of layer 2: keys of known seeds. No program in sight. -/
import Derived.Test.YtgcbgeombbohpaaDoorLamB
import Derived.Test.YtgcbgeombbohpaaDoorFast
namespace Go.Proofs.YtgcbgeombbohpaaDoor
open Go.RowKit
set_option maxRecDepth 100000

/-! ### Keys of known seeds, reckoned over numbers -/
def secN (len : Nat) (seed : List Nat) (i b : Nat) : List Nat := sumK (len + 18) (be8N len ++ (seed ++ (be8N 2 ++ [i, b]))) []
def leavesN (len : Nat) (seed : List Nat) : Nat → Nat → List Nat
  | 0, _ => []
  | n + 1, i => sumK 32 (secN len seed i 0) (sumK 32 (secN len seed i 1) (leavesN len seed n (i + 1)))
def keyN (len : Nat) (seed : List Nat) : List Nat := sumK 2048 (leavesN len seed 32 0) []

theorem secN_eq (seed : List UInt8) (i b : Nat) (hi : i < 256) (hb : b < 256) : secN seed.length (bN seed) i b = bN (secB seed i b) := by
  unfold secN secB
  have e : be8N seed.length ++ (bN seed ++ (be8N 2 ++ [i, b])) = bN (joinB [seed, [UInt8.ofNat i, UInt8.ofNat b]]) := by
    rw [← be8N_eq, ← be8N_eq]
    simp [joinB, bN, Nat.mod_eq_of_lt hi, Nat.mod_eq_of_lt hb]
  rw [e, sumK_eq _ _ (by simp [joinB, be8_length]; omega), List.append_nil]
theorem leavesN_eq (seed : List UInt8) : ∀ n i, i + n ≤ 256 → leavesN seed.length (bN seed) n i = bN (((List.range n).map fun j => sumOf (secB seed (i + j) 0) ++ sumOf (secB seed (i + j) 1)).flatten)
  | 0, _, _ => rfl
  | n + 1, i, h => by
    rw [leavesN, secN_eq seed i 0 (by omega) (by omega), secN_eq seed i 1 (by omega) (by omega), sumK_eq _ _ (secB_length _ _ _), sumK_eq _ _ (secB_length _ _ _), leavesN_eq seed n (i + 1) (by omega), List.range_succ_eq_map]
    simp only [List.map_cons, List.map_map, List.flatten_cons, bN, List.map_append, Nat.add_zero, List.append_assoc]
    congr 4
    apply List.map_congr_left
    intro j _
    simp only [Function.comp, Nat.succ_eq_add_one, show i + 1 + j = i + (j + 1) by omega]
theorem keyN_eq (seed : List UInt8) : bN (keyB seed) = keyN seed.length (bN seed) := by
  unfold keyN keyB
  have e : leavesN seed.length (bN seed) 32 0 = bN (keyL seed 32) := by
    rw [leavesN_eq seed 32 0 (by omega)]
    simp only [Nat.zero_add]
    rfl
  rw [e, sumK_eq _ _ (keyL_length seed 32), List.append_nil]

theorem key_head (seed : List UInt8) (v : Nat) (h : (keyN seed.length (bN seed)).headD 0 = v) : ((keyB seed).getD 0 0).toNat = v := by
  rw [← h, ← keyN_eq]
  cases hk : keyB seed with
  | nil => rfl
  | cons x l => rfl
end Go.Proofs.YtgcbgeombbohpaaDoor

/- The document's answer of digest: primes, Make. -/
import Derived.Test.YtgcbgeombbohpaaDoorRefB
import Derived.Test.YtgcbgeombbohpaaDoorWork
namespace Go.Proofs.YtgcbgeombbohpaaDoor
open Go.RowKit
set_option maxRecDepth 100000

/-- The primes found behind t numbers, from 2 on. -/
def primesTo : Nat → List Nat
  | 0 => []
  | t + 1 => if (primesTo t).all (fun q => (t + 2) % q != 0) then primesTo t ++ [t + 2] else primesTo t

theorem primesTo_pos : ∀ t, ∀ q ∈ primesTo t, 2 ≤ q
  | 0, q, h => by simp [primesTo] at h
  | t + 1, q, h => by
    unfold primesTo at h
    split at h
    · rcases List.mem_append.1 h with h | h
      · exact primesTo_pos t q h
      · simp at h; omega
    · exact primesTo_pos t q h

theorem primes_all : (primesTo 310).length = 64 ∧ ∀ t : Fin 310, (primesTo t.val).length < 64 := by decide +kernel
def pl : List Nat := [2, 3, 5, 7, 11, 13, 17, 19, 23, 29, 31, 37, 41, 43, 47, 53, 59, 61, 67, 71, 73, 79, 83, 89, 97, 101, 103, 107, 109, 113, 127, 131, 137, 139, 149, 151, 157, 163, 167, 173, 179, 181, 191, 193, 197, 199, 211, 223, 227, 229, 233, 239, 241, 251, 257, 263, 269, 271, 277, 281, 283, 293, 307, 311]
theorem primes_pl : primesTo 310 = pl := by decide +kernel
theorem roots_k0 : ∀ i : Fin 8, rootOf (pl.getD (0 + i.val) 0) 3 = (Ks.getD (0 + i.val) 0#32).toNat := by decide +kernel
theorem roots_k1 : ∀ i : Fin 8, rootOf (pl.getD (8 + i.val) 0) 3 = (Ks.getD (8 + i.val) 0#32).toNat := by decide +kernel
theorem roots_k2 : ∀ i : Fin 8, rootOf (pl.getD (16 + i.val) 0) 3 = (Ks.getD (16 + i.val) 0#32).toNat := by decide +kernel
theorem roots_k3 : ∀ i : Fin 8, rootOf (pl.getD (24 + i.val) 0) 3 = (Ks.getD (24 + i.val) 0#32).toNat := by decide +kernel
theorem roots_k4 : ∀ i : Fin 8, rootOf (pl.getD (32 + i.val) 0) 3 = (Ks.getD (32 + i.val) 0#32).toNat := by decide +kernel
theorem roots_k5 : ∀ i : Fin 8, rootOf (pl.getD (40 + i.val) 0) 3 = (Ks.getD (40 + i.val) 0#32).toNat := by decide +kernel
theorem roots_k6 : ∀ i : Fin 8, rootOf (pl.getD (48 + i.val) 0) 3 = (Ks.getD (48 + i.val) 0#32).toNat := by decide +kernel
theorem roots_k7 : ∀ i : Fin 8, rootOf (pl.getD (56 + i.val) 0) 3 = (Ks.getD (56 + i.val) 0#32).toNat := by decide +kernel
theorem roots_h : ∀ i : Fin 8, rootOf (pl.getD i.val 0) 2 = (begin0.list.getD i.val 0#32).toNat := by decide +kernel
theorem roots_k (i : Nat) (hi : i < 64) : rootOf (pl.getD i 0) 3 = (Ks.getD i 0#32).toNat := by
  have h : i = 8 * (i / 8) + i % 8 := by omega
  have hm : i % 8 < 8 := by omega
  generalize i / 8 = c at *
  generalize i % 8 = r at *
  subst h
  have hc : c < 8 := by omega
  match c, hc with
  | 0, _ => exact roots_k0 ⟨r, hm⟩
  | 1, _ => exact roots_k1 ⟨r, hm⟩
  | 2, _ => exact roots_k2 ⟨r, hm⟩
  | 3, _ => exact roots_k3 ⟨r, hm⟩
  | 4, _ => exact roots_k4 ⟨r, hm⟩
  | 5, _ => exact roots_k5 ⟨r, hm⟩
  | 6, _ => exact roots_k6 ⟨r, hm⟩
  | 7, _ => exact roots_k7 ⟨r, hm⟩

end Go.Proofs.YtgcbgeombbohpaaDoor

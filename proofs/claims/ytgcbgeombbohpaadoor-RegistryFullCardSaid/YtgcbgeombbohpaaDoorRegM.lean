/- Plain laws: a registry of several keys of known seeds. No program in sight. -/
import Derived.Test.YtgcbgeombbohpaaDoorRegF
namespace Go.Proofs.YtgcbgeombbohpaaDoor
open Go.RowKit

def esO (KK : Nat → List UInt8) (sp : Nat → Bool) (n : Nat) : List RE := (List.range n).map fun i => (KK i, sp i)
def setB (sp : Nat → Bool) (k : Nat) : Nat → Bool := fun i => if i = k then true else sp i
theorem esO_length (KK : Nat → List UInt8) (sp : Nat → Bool) (n : Nat) : (esO KK sp n).length = n := by simp [esO]
theorem esO_at (KK : Nat → List UInt8) (sp : Nat → Bool) (n j : Nat) (h : j < n) : (esO KK sp n)[j]? = some (KK j, sp j) := by
  simp [esO, h]
theorem esO_getD (KK : Nat → List UInt8) (sp : Nat → Bool) (n j : Nat) (h : j < n) : (esO KK sp n).getD j ([], false) = (KK j, sp j) := by
  rw [List.getD_eq_getElem?_getD, esO_at KK sp n j h]; rfl
theorem esO_none (KK : Nat → List UInt8) (sp : Nat → Bool) (n : Nat) (key : List UInt8) (h : ∀ i, i < n → KK i ≠ key) : findN (esO KK sp n) key = n := by
  have := findN_none (esO KK sp n) key (fun j hj => by
    rw [esO_length] at hj
    rw [esO_at KK sp n j hj]
    simpa using h j hj)
  rw [this, esO_length]
theorem esO_find (KK : Nat → List UInt8) (sp : Nat → Bool) (n k : Nat) (hk : k < n) (h : ∀ i, i < k → KK i ≠ KK k) : findN (esO KK sp n) (KK k) = k := by
  refine findN_at (esO KK sp n) (KK k) k (by rw [esO_length]; exact hk) (fun j hj => ?_) ?_
  · rw [esO_at KK sp n j (by omega)]
    simpa using h j hj
  · simp [esO]
theorem esO_add (KK : Nat → List UInt8) (n : Nat) (hn : n < 32) (h : ∀ i, i < n → KK i ≠ KK n) :
    addE (esO KK (fun _ => false) n) (KK n) = 0 ∧ addL (esO KK (fun _ => false) n) (KK n) = esO KK (fun _ => false) (n + 1) := by
  have e := esO_none KK (fun _ => false) n (KK n) h
  have l := esO_length KK (fun _ => false) n
  refine ⟨by simp [addE, e, l]; omega, ?_⟩
  unfold addL
  rw [e, l, if_neg (by omega), if_neg (by omega)]
  simp [esO, List.range_succ]
theorem esO_full (KK : Nat → List UInt8) (sp : Nat → Bool) (key : List UInt8) (h : ∀ i, i < 32 → KK i ≠ key) :
    addE (esO KK sp 32) key = 28 ∧ addL (esO KK sp 32) key = esO KK sp 32 := by
  have e := esO_none KK sp 32 key h
  have l := esO_length KK sp 32
  exact ⟨by simp [addE, e, l], by unfold addL; rw [e, l, if_neg (by omega), if_pos rfl]⟩
theorem esO_again (KK : Nat → List UInt8) (sp : Nat → Bool) (n k : Nat) (hk : k < n) (h : ∀ i, i < k → KK i ≠ KK k) :
    addE (esO KK sp n) (KK k) = 17 ∧ addL (esO KK sp n) (KK k) = esO KK sp n := by
  have e := esO_find KK sp n k hk h
  have l := esO_length KK sp n
  exact ⟨by unfold addE; rw [e, l, if_pos hk], by unfold addL; rw [e, l, if_pos hk]⟩
theorem esO_has (KK : Nat → List UInt8) (sp : Nat → Bool) (n k : Nat) (hk : k < n) (h : ∀ i, i < k → KK i ≠ KK k) : hasM (esO KK sp n) (KK k) = !sp k := by
  unfold hasM
  rw [esO_find KK sp n k hk h, esO_length, if_pos hk, esO_getD KK sp n k hk]
theorem esO_set (KK : Nat → List UInt8) (sp : Nat → Bool) (n k : Nat) (_hk : k < n) : (esO KK sp n).set k (KK k, true) = esO KK (setB sp k) n := by
  apply List.ext_getElem?
  intro j
  by_cases hj : j < n
  · rw [esO_at _ _ _ _ hj]
    by_cases e : k = j
    · subst e
      rw [List.getElem?_set_self (by rw [esO_length]; exact hj)]
      simp [setB]
    · rw [List.getElem?_set_ne e, esO_at _ _ _ _ hj]
      simp [setB, show ¬ j = k from fun x => e x.symm]
  · rw [List.getElem?_eq_none (by rw [List.length_set, esO_length]; omega), List.getElem?_eq_none (by rw [esO_length]; omega)]
theorem esO_spend (KK : Nat → List UInt8) (sp : Nat → Bool) (n k : Nat) (hk : k < n) (h : sp k = false) :
    spE (esO KK sp n) (k : Int) = 0 ∧ spL (esO KK sp n) (k : Int) = esO KK (setB sp k) n := by
  have c : ¬ ((k : Int) < 0 ∨ ((esO KK sp n).length : Int) ≤ (k : Int)) := by rw [esO_length]; omega
  constructor
  · unfold spE
    rw [if_neg c, Int.toNat_natCast, esO_getD KK sp n k hk, h]; rfl
  · unfold spL
    rw [if_neg c, Int.toNat_natCast, esO_getD KK sp n k hk, h]
    exact esO_set KK sp n k hk
theorem esO_spent (KK : Nat → List UInt8) (sp : Nat → Bool) (n k : Nat) (hk : k < n) (h : sp k = true) :
    spE (esO KK sp n) (k : Int) = 129 ∧ spL (esO KK sp n) (k : Int) = esO KK sp n := by
  have c : ¬ ((k : Int) < 0 ∨ ((esO KK sp n).length : Int) ≤ (k : Int)) := by rw [esO_length]; omega
  constructor
  · unfold spE
    rw [if_neg c, Int.toNat_natCast, esO_getD KK sp n k hk, h]; rfl
  · unfold spL
    rw [if_neg c, Int.toNat_natCast, esO_getD KK sp n k hk, h]; rfl
theorem esO_fs (KK : Nat → List UInt8) (sp : Nat → Bool) (n k : Nat) (hk : k < n) (sum s : List UInt8) (hs : s.length = 2048) (hv : ∀ i, i < n → (verR (KK i) sum s = 0 ↔ i = k)) :
    fsV (esO KK sp n) sum s = if sp k = true then .tuple #[.int .i64 0, .int .i64 129] else .tuple #[.int .i64 (k : Int), .int .i64 0] := by
  have l := esO_length KK sp n
  have hp : ∀ j, j < n → ((esO KK sp n)[j]?.map (fsP sum s)) = some (!sp j && decide (j = k)) := fun j hj => by
    rw [esO_at KK sp n j hj]
    simp only [Option.map_some, fsP]
    rw [show decide (verR (KK j) sum s = 0) = decide (j = k) from by simp [hv j hj]]
  unfold fsV
  rw [if_pos hs]
  by_cases h : sp k = true
  · have e : fsN (esO KK sp n) sum s = n := by
      rw [fsN_none (esO KK sp n) sum s (fun j hj => by
        rw [l] at hj
        rw [hp j hj]
        by_cases ej : j = k
        · subst ej; simp [h]
        · simp [ej]), l]
    rw [e, l, if_neg (Nat.lt_irrefl _), if_pos h]
  · have e : fsN (esO KK sp n) sum s = k := fsN_at (esO KK sp n) sum s k (by rw [l]; exact hk) (fun j hj => by
        rw [hp j (by omega)]
        simp [show ¬ j = k by omega]) (by
        have := hp k hk
        rw [List.getElem?_eq_getElem (by rw [l]; exact hk)] at this
        simp [h] at this
        simpa using this)
    rw [e, l, if_pos hk, if_neg h]
def spV (sp : Nat → Bool) : List Value := (List.range 4).map fun i => .bool (sp i)
theorem spV_set (sp : Nat → Bool) (k : Nat) : (spV sp).set k (.bool true) = spV (setB sp k) := by
  apply List.ext_getElem?
  intro j
  by_cases hj : j < 4
  · by_cases e : k = j
    · subst e
      rw [List.getElem?_set_self (by simpa [spV] using hj)]
      simp [spV, setB, hj]
    · rw [List.getElem?_set_ne e]
      simp [spV, setB, hj, show ¬ j = k from fun x => e x.symm]
  · rw [List.getElem?_eq_none (by simp [spV]; omega), List.getElem?_eq_none (by simp [spV]; omega)]
theorem spV_at (sp : Nat → Bool) (k : Nat) (hk : k < 4) : (spV sp)[k]? = some (.bool (sp k)) := by simp [spV, hk]
end Go.Proofs.YtgcbgeombbohpaaDoor

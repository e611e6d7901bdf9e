/- A parameter of texts: a slice of strings that came in. -/
import Derived.Test.YtbjkfgfiifnjoaaDoorFlat
namespace Go.Proofs.YtbjkfgfiifnjoaaDoor
open Go.RowKit
set_option maxRecDepth 100000

def strOk (cs : List Value) : Prop := ∃ s : ByteArray, cs = [.string s] ∧ s.size ≤ maxLen

/-- A slice of texts that came in. -/
def StrsAt (w : World) (a : Option Addr) (ss : List ByteArray) : Prop :=
  ss.length ≤ maxLen ∧ (∀ s ∈ ss, s.size ≤ maxLen) ∧ ∃ b o, (0 < ss.length → a = some ⟨b, o, none⟩ ∧ b < w.heap.size) ∧ ∀ k (hk : k < ss.length), w.cell? ⟨b, o + k, none⟩ = some (.string ss[k])

theorem strs_of_row {w : World} {a : Option Addr} {len cap : Nat} (h : RowOf strOk 1 w a len cap) : ∃ ss : List ByteArray, ss.length = len ∧ len ≤ cap ∧ cap ≤ maxLen ∧ StrsAt w a ss := by
  rcases h with ⟨rfl, rfl, rfl⟩ | ⟨x, rfl, hl, hm, hc⟩
  · exact ⟨[], rfl, Nat.le_refl _, Nat.zero_le _, by simp, by simp, 0, 0, by simp, by simp⟩
  · have hi : ∀ i, i < len → ∃ y : ByteArray, y.size ≤ maxLen ∧ w.cell? (x.add i) = some (.string y) := by
      intro i hi
      obtain ⟨cs, -, ⟨y, rfl, hy⟩, hcs⟩ := hc i (by omega)
      have := hcs 0 (by omega)
      rw [Nat.mul_one, Addr.add_add] at this
      exact ⟨y, hy, this⟩
    let f : Nat → ByteArray := fun i => if h : i < len then Classical.choose (hi i h) else ByteArray.empty
    have hll : ((List.range len).map f).length = len := by simp
    have hf : ∀ k (hk : k < ((List.range len).map f).length), ((List.range len).map f)[k] = Classical.choose (hi k (by rw [hll] at hk; exact hk)) := by
      intro k hk
      have hq : k < len := by rw [hll] at hk; exact hk
      simp [f, hq]
    refine ⟨(List.range len).map f, hll, hl, hm, by rw [hll]; omega, ?_, ?_⟩
    · intro s hs
      obtain ⟨k, hk, rfl⟩ := List.mem_iff_getElem.1 hs
      rw [hf k hk]
      exact (Classical.choose_spec (hi k (by rw [hll] at hk; exact hk))).1
    · have hall : ∀ k (hk : k < ((List.range len).map f).length), w.cell? (x.add k) = some (.string ((List.range len).map f)[k]) := by
        intro k hk
        rw [hf k hk]
        exact (Classical.choose_spec (hi k (by rw [hll] at hk; exact hk))).2
      obtain ⟨b, o, spot⟩ := x
      by_cases h0 : 0 < len
      · have h00 := hall 0 (by rw [hll]; exact h0)
        have hs : spot = none := by
          have := World.cell?_spot h00
          simpa [Addr.add] using this
        subst hs
        refine ⟨b, o, fun _ => ⟨rfl, ?_⟩, fun k hk => ?_⟩
        · have := World.block_lt_of_cell? w _ h00
          simpa [Addr.add] using this
        · have := hall k hk
          rw [Addr.add_lit] at this
          exact this
      · refine ⟨b, o, fun h => ?_, fun k hk => ?_⟩
        · rw [hll] at h; omega
        · rw [hll] at hk; omega

theorem StrsAt.ext {w w' : World} {a : Option Addr} {ss : List ByteArray} (h : StrsAt w a ss) (x : Ext [] w w') : StrsAt w' a ss := by
  obtain ⟨hm, hz, b, o, h0, hc⟩ := h
  refine ⟨hm, hz, b, o, fun hk => ⟨(h0 hk).1, Nat.lt_of_lt_of_le (h0 hk).2 x.size⟩, fun k hk => ?_⟩
  rw [x.cell (h0 (by omega)).2 (by simp)]
  exact hc k hk
end Go.Proofs.YtbjkfgfiifnjoaaDoor

/- Package bmap: parts of a text, each in a row of bytes. -/
import Derived.Lib.ConvBytes
import Derived.Test.YtbjkfgfiifnjoaaDoorBmK
import Derived.Test.YtbjkfgfiifnjoaaDoorJoined
namespace Go.Proofs.YtbjkfgfiifnjoaaDoor
open Go.RowKit
set_option maxRecDepth 100000

/-- A slice of bytes, of whatever make its row is. -/
def PartB (w : World) (u : Value) (b : List UInt8) : Prop :=
  ∃ g c cs m, u = .slice (some ⟨g, 0, none⟩) b.length c ∧ w.heap[g]? = some (.cells cs 5 m) ∧ PartAt w g 0 (bytesV b)
theorem PartB.ext {S : List Nat} {w w' : World} {u : Value} {b : List UInt8} (h : PartB w u b) (x : Ext S w w') (hS : ∀ g ∈ S, ∀ cs m, w.heap[g]? ≠ some (.cells cs 5 m)) : PartB w' u b := by
  obtain ⟨g, c, cs, m, e, h1, h2⟩ := h
  have hlt : g < w.heap.size := (Array.getElem?_eq_some_iff.1 h1).1
  have hn : g ∉ S := fun hm => hS g hm cs m h1
  refine ⟨g, c, cs, m, e, (x.block g hlt hn).trans h1, fun j hj => ?_⟩
  rw [x.cell (p := ⟨g, 0 + j, none⟩) hlt hn]
  exact h2 j hj
theorem PartB.ext0 {w w' : World} {u : Value} {b : List UInt8} (h : PartB w u b) (x : Ext [] w w') : PartB w' u b := h.ext x (by simp)
theorem PartB.one {w : World} {u : Value} {b : List UInt8} (h : PartB w u b) : u.oneCell' = true := by
  obtain ⟨g, c, cs, m, rfl, -, -⟩ := h
  rfl
theorem PartB.reads {w : World} {u : Value} {b : List UInt8} (h : PartB w u b) : Reads w u 1 b.length (bytesV b) := by
  obtain ⟨g, c, cs, m, rfl, -, h2⟩ := h
  refine ⟨_, _, rfl, by rw [bytesV_length, Nat.mul_one], (fun e => by cases e), fun ad e j u hu => ?_⟩
  obtain rfl := Option.some.inj e
  rw [Addr.add_lit]
  have := h2 j (by rw [List.getElem?_eq_some_iff] at hu; exact hu.1)
  rw [this]; exact hu
theorem PartB.blk {w : World} {g c : Nat} {b : List UInt8} (h : Blk w g 5 (bytesV b)) : PartB w (.slice (some ⟨g, 0, none⟩) b.length c) b := ⟨g, c, _, _, rfl, h, h.part⟩
/-- A row of slices' own block is no row of bytes. -/
theorem row_notB {w : World} {v : Value} {n : Nat} {xs : List Value} (h : w.ownsRow 0 39 1 v n xs) : ∀ g ∈ v.ownBlock.toList, ∀ cs m, w.heap[g]? ≠ some (.cells cs 5 m) := by
  intro g hg cs m e
  rcases h.2 with ⟨rfl, _⟩ | ⟨g1, cap, cur, rfl, _, hgb, _⟩
  · simp [Value.ownBlock] at hg
  · simp [Value.ownBlock] at hg
    subst hg
    have := e.symm.trans hgb
    simp at this
theorem bytesW_ext (w : World) (e : TypeId) (s : ByteArray) : Ext [] w (Lib.bytesWorld w e s) := by
  refine ⟨rfl, rfl, rfl, by rw [Lib.bytesWorld_size]; omega, fun k hk _ => Lib.bytesWorld_at_old w e s k hk⟩
theorem bytesW_part (w : World) (k : Nat) (c : Nat) : PartB (Lib.bytesWorld w 5 (keyS k)) (.slice (some ⟨w.heap.size, 0, none⟩) 4 c) (keyB4 k) := by
  refine ⟨w.heap.size, c, _, _, rfl, Lib.bytesWorld_at_new w 5 (keyS k), fun j hj => ?_⟩
  have hj' : j < 4 := by simpa [bytesV, keyB4] using hj
  rw [Nat.zero_add, Lib.bytesWorld_cell w 5 (keyS k) j (by show j < (keyS k).data.size; simpa [keyS, strB, keyB4] using hj')]
  simp only [keyS, strB, bytesV]
  rw [List.getElem?_map]
  have : (keyB4 k)[j]? = some ((keyB4 k).getD j 0) := by
    rw [List.getD_eq_getElem?_getD, List.getElem?_eq_getElem (by simpa [keyB4] using hj')]; rfl
  rw [this]
  rfl
end Go.Proofs.YtbjkfgfiifnjoaaDoor

/- The law RegistryActs: both registries side by side. -/
import Derived.Deep.CutRange
import Derived.Deep.CutBlock
import Derived.Test.YtgcbgeombbohpaaDoorRegF
import Derived.Test.YtgcbgeombbohpaaDoorDRegA
import Derived.Test.YtgcbgeombbohpaaDoorDRegF
namespace Go.Proofs.YtgcbgeombbohpaaDoor
open Go.RowKit
set_option maxRecDepth 100000

/-- The program's registry (es) and the document's (es2), both made since w0. -/
structure Both (w0 w : World) (b : Nat) (v : Value) (bd : Nat) (vk vs : Value) (es es2 : List RE) : Prop where
  l : RegL w0 w b v es
  d : DocR w bd vk vs es2
  bd0 : w0.heap.size ≤ bd
  k0 : ∀ g, vk.ownBlock = some g → w0.heap.size ≤ g
  s0 : ∀ g, vs.ownBlock = some g → w0.heap.size ≤ g
section
variable {w0 w w' : World} {b bd : Nat} {v vk vs : Value} {es es2 es' : List RE} {E : Int} {e : Ending}
theorem Both.ext0 (h : Both w0 w b v bd vk vs es es2) (x : Ext [] w w') : Both w0 w' b v bd vk vs es es2 := ⟨h.l.ext0 x, h.d.ext0 x, h.bd0, h.k0, h.s0⟩
/-- A block of another type is not the program's registry's. -/
theorem Both.offP (h : Both w0 w b v bd vk vs es es2) {k : Nat} {T : TypeId} {cs : List Value} (hb : Blk w k T cs) (h1 : T ≠ 59) (h2 : T ≠ 62) : k ∉ b :: v.ownBlock.toList := h.l.at_.apart hb h1 h2
/-- Nor the document's. -/
theorem Both.offD (h : Both w0 w b v bd vk vs es es2) {k : Nat} {T : TypeId} {cs : List Value} (hb : Blk w k T cs) (h1 : T ≠ 52) (h2 : T ≠ 4) (h3 : vk.ownBlock ≠ some k) : k ∉ bd :: (vk.ownBlock.toList ++ vs.ownBlock.toList) := by
  intro hm
  rcases List.mem_cons.1 hm with rfl | hm
  · have := (show w.heap[k]? = _ from hb).symm.trans h.d.h
    simp at this
    exact h1 this.2
  · rcases List.mem_append.1 hm with hm | hm
    · exact h3 (by simpa using hm)
    · exact blk_not_row hb h2 h.d.s (by simpa using hm : vs.ownBlock = some k).symm
theorem Both.prog (h : Both w0 w b v bd vk vs es es2) (p : RegPost w b v E es' e w') :
    ∃ v', e = .returned (.int .i64 E) ∧ Both w0 w' b v' bd vk vs es' es2 ∧ Ext (b :: v.ownBlock.toList) w w' := by
  obtain ⟨v', rfl, L, x⟩ := h.l.post p
  refine ⟨v', rfl, ⟨L, h.d.ext x ?_ ?_ ?_, h.bd0, h.k0, h.s0⟩, x⟩
  · exact h.l.at_.apart h.d.h (by decide) (by decide)
  · exact h.l.at_.apartO h.d.k (by decide) (by decide)
  · exact h.l.at_.apartO h.d.s (by decide) (by decide)
theorem Both.doc (h : Both w0 w b v bd vk vs es es2) (p : DocPost w bd vk vs E es' e w') :
    ∃ vk' vs', e = .returned (.int .i64 E) ∧ Both w0 w' b v bd vk' vs' es es' ∧ Ext (bd :: (vk.ownBlock.toList ++ vs.ownBlock.toList)) w w' ∧ ∀ g, vk'.ownBlock = some g → vk.ownBlock = some g ∨ w.heap.size ≤ g := by
  obtain ⟨vk', vs', rfl, D, x, f1, f2⟩ := p
  have ws := h.l.x.size
  refine ⟨vk', vs', rfl, ⟨⟨h.l.at_.ext x ?_ ?_, h.l.x.trans' x ?_, h.l.hb, h.l.hv⟩, D, h.bd0, ?_, ?_⟩, x, f1⟩
  · exact h.offD h.l.at_.hd (by decide) (by decide) (fun e => blk_not_row h.l.at_.hd (by decide) h.d.k e.symm)
  · intro g hg
    rcases h.l.at_.own.2 with ⟨rfl, _⟩ | ⟨g1, cap, cur, rfl, _, hgb, _⟩
    · cases hg
    · obtain rfl := Option.some.inj hg
      have hb : Blk w g1 62 cur.toList := by simpa [Blk] using hgb
      exact h.offD hb (by decide) (by decide) (fun e => blk_not_row hb (by decide) h.d.k e.symm)
  · intro i hi
    rcases List.mem_cons.1 hi with rfl | hi
    · exact .inr h.bd0
    · rcases List.mem_append.1 hi with hi | hi
      · exact .inr (h.k0 i (by simpa using hi))
      · exact .inr (h.s0 i (by simpa using hi))
  · intro g hg
    rcases f1 g hg with h3 | h3
    · exact h.k0 g h3
    · omega
  · intro g hg
    rcases f2 g hg with h3 | h3
    · exact h.s0 g h3
    · omega
end

theorem addL_le (es : List RE) (key : List UInt8) : (addL es key).length ≤ es.length + 1 := by
  unfold addL
  split
  · omega
  · split
    · omega
    · simp
theorem spL_le (es : List RE) (i : Int) : (spL es i).length = es.length := by
  unfold spL
  split
  · rfl
  · split
    · rfl
    · simp
theorem fsV_tuple (es : List RE) (sum s : List UInt8) : ∃ x f : Int, fsV es sum s = .tuple #[.int .i64 x, .int .i64 f] := by
  unfold fsV
  split
  · split
    · exact ⟨_, _, rfl⟩
    · exact ⟨_, _, rfl⟩
  · exact ⟨_, _, rfl⟩

/-- One act's cells. -/
def actV (wt sd : Int) (kb sum : List UInt8) (ii : Int) : List Value := [.int .i64 wt, .int .i64 sd] ++ (bytesV kb ++ (bytesV sum ++ [.int .i64 ii]))
/-- Its block. -/
structure ActB (w : World) (bx : Nat) (wt sd : Int) (kb sum : List UInt8) (ii : Int) : Prop where
  h : Blk w bx 54 (actV wt sd kb sum ii)
  lk : kb.length = 32
  ls : sum.length = 32
section
variable {w : World} {bx : Nat} {wt sd ii : Int} {kb sum : List UInt8}
theorem ActB.cells (h : ActB w bx wt sd kb sum ii) : w.cell? ⟨bx, 0, none⟩ = some (.int .i64 wt) ∧ w.cell? ⟨bx, 1, none⟩ = some (.int .i64 sd) ∧ w.cell? ⟨bx, 66, none⟩ = some (.int .i64 ii) ∧ bx < w.heap.size := by
  refine ⟨h.h.cell 0, h.h.cell 1, ?_, h.h.lt⟩
  rw [h.h.cell 66]
  unfold actV
  rw [List.getElem?_append_right (by simp), List.getElem?_append_right (by simp [bytesV_length, h.lk]), List.getElem?_append_right (by simp [bytesV_length, h.lk, h.ls])]
  simp [bytesV_length, h.lk, h.ls]
theorem ActB.part2 (h : ActB w bx wt sd kb sum ii) : PartAt w bx 2 (bytesV kb) := fun j hj => by
  rw [h.h.cell]
  unfold actV
  rw [List.getElem?_append_right (by simp), List.getElem?_append_left (by simp; omega)]
  congr 1
  simp
theorem ActB.part3 (h : ActB w bx wt sd kb sum ii) : PartAt w bx 34 (bytesV sum) := fun j hj => by
  have hj' : j < 32 := by rw [bytesV_length, h.ls] at hj; exact hj
  rw [h.h.cell]
  unfold actV
  rw [List.getElem?_append_right (by simp; omega), List.getElem?_append_right (by simp [bytesV_length, h.lk]; omega), List.getElem?_append_left (by simp [bytesV_length, h.lk, h.ls]; omega)]
  congr 1
  simp [bytesV_length, h.lk]
  omega
end
end Go.Proofs.YtgcbgeombbohpaaDoor

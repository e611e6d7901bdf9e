/- Bytes as values. -/
import Derived.Test.YtbjkfgfiifnjoaaDoorBase
import Derived.Test.YtbjkfgfiifnjoaaDoorRows
import Derived.Outline
namespace Go.Proofs.YtbjkfgfiifnjoaaDoor
open Go.RowKit
set_option maxRecDepth 100000

/-- Bytes as values. -/
def bytesV (l : List UInt8) : List Value := l.map fun b => Value.int .u8 (b.toNat : Int)
theorem bytesV_append (a b : List UInt8) : bytesV (a ++ b) = bytesV a ++ bytesV b := by simp [bytesV]
theorem bytesV_length (a : List UInt8) : (bytesV a).length = a.length := by simp [bytesV]
theorem bytesV_one (a : List UInt8) : ∀ u ∈ bytesV a, u.oneCell' = true := by
  intro u hu
  obtain ⟨y, _, rfl⟩ := List.mem_map.1 hu
  rfl
theorem bytesV_at (l : List UInt8) (j : Nat) (hj : j < l.length) : (bytesV l)[j]? = some (.int .u8 ((l.getD j 0).toNat : Int)) := by
  simp [bytesV, List.getD, hj]
theorem byte_val (m : Nat) : Value.int .u8 (((UInt8.ofNat m).toNat : Nat) : Int) = Value.int .u8 ((m : Int) % 256) := by simp
theorem info_byte : (Tryd.prog.info? 5).map (fun i => (i.zero, i.size, i.bytes)) = some (some (.int .u8 0), 1, 1) := by kernel_rfl

/-- A fresh row of bytes is handed back. -/
def BytesPost (w : World) (l : List UInt8) (e : Ending) (w' : World) : Prop :=
  ∃ v, e = .returned v ∧ w'.ownsRow 0 5 1 v l.length (bytesV l) ∧ Ext [] w w' ∧ ∀ g, v.ownBlock = some g → w.heap.size ≤ g

theorem Reads.ext {w w' : World} {v : Value} {s n : Nat} {cs : List Value} (h : Reads w v s n cs) (x : Ext [] w w') : Reads w' v s n cs := by
  obtain ⟨ao, c, rfl, hvl, hnone, hcells⟩ := h
  refine ⟨ao, c, rfl, hvl, hnone, fun ad had j u hu => ?_⟩
  have h := hcells ad had j u hu
  rw [x.cell (World.block_lt_of_cell? w _ h) (by simp)]; exact h

theorem Blk.grown {w w' : World} {b : Nat} {T : TypeId} {cs : List Value} {row : Option Nat} (h : Blk w b T cs) (hg : w.grownBy w' row) (hne : row ≠ some b) : Blk w' b T cs :=
  (hg.block b h.lt (fun e => hne e.symm)).trans h

theorem ba_append (a b : Array UInt8) : (⟨a⟩ : ByteArray) ++ ⟨b⟩ = ⟨a ++ b⟩ := ByteArray.ext (by simp)

end Go.Proofs.YtbjkfgfiifnjoaaDoor

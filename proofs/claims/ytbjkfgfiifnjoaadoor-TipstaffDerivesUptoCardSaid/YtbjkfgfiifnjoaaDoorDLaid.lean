/- What the row's list gives: the two tables of package digest. -/
import Derived.Test.YtbjkfgfiifnjoaaDoorWork
import Derived.Test.YtbjkfgfiifnjoaaDoorRows
import Derived.Lib.LaidTab
import Derived.Stop.LaidErr
import Derived.ProofKit
namespace Go.Proofs.YtbjkfgfiifnjoaaDoor
open Go.RowKit
set_option maxRecDepth 100000

def ksI : List Int := Ks.map fun x => (x.toNat : Int)
def b0I : List Int := begin0.list.map fun x => (x.toNat : Int)

theorem gK : Tryd.prog.globalNamed "tipstaff/digest.k" = some 1 := by kernel_rfl
theorem gKT : (Tryd.prog.globals[1]?).map (·.type) = some 206 := by kernel_rfl
theorem gB : Tryd.prog.globalNamed "tipstaff/digest.begin" = some 0 := by kernel_rfl
theorem gBT : (Tryd.prog.globals[0]?).map (·.type) = some 173 := by kernel_rfl

theorem laidEq : ([("tipstaff/digest.k", Rows.laid_tipstaff_digest_k), ("tipstaff/digest.begin", Rows.laid_tipstaff_digest_begin)] : List (String × DataW Unit)) = [("tipstaff/digest.k", Lib.tabData .u32 ksI), ("tipstaff/digest.begin", Lib.tabData .u32 b0I)] := by rfl

theorem digG_of_laid {W : World} (h : laidMetH Tryd.prog [("tipstaff/digest.k", Rows.laid_tipstaff_digest_k), ("tipstaff/digest.begin", Rows.laid_tipstaff_digest_begin)] W) : DigG W := by
  have h' : laidMet Tryd.prog [("tipstaff/digest.k", Lib.tabData .u32 ksI), ("tipstaff/digest.begin", Lib.tabData .u32 b0I)] W := h
  have tk : Lib.TabIs Tryd.prog W "tipstaff/digest.k" .u32 ksI := Lib.tabIs_of_head gK gKT Tryd.underlying206 Tryd.underlying171 (by kernel_rfl) (by kernel_rfl) h'
  have tb : Lib.TabIs Tryd.prog W "tipstaff/digest.begin" .u32 b0I := Lib.tabIs_of_head gB gBT Tryd.underlying173 Tryd.underlying171 (by kernel_rfl) (by kernel_rfl) h'.tail
  refine ⟨fun t ht => ?_, fun j hj => ?_⟩
  · rw [tk.cell gK t (by show t < Ks.length; exact ht)]
    have : ∀ t : Fin 64, ksI.getD t.val 0 = ((Ks.getD t.val 0#32).toNat : Int) := by decide +kernel
    rw [this ⟨t, ht⟩]
  · have hj' : j < 8 := hj
    rw [Nat.zero_add, tb.cell gB j hj']
    have : ∀ t : Fin 8, some (Value.int .u32 (b0I.getD t.val 0)) = (V32 begin0.list)[t.val]? := by
      intro t
      match t with
      | ⟨0, _⟩ => rfl
      | ⟨1, _⟩ => rfl
      | ⟨2, _⟩ => rfl
      | ⟨3, _⟩ => rfl
      | ⟨4, _⟩ => rfl
      | ⟨5, _⟩ => rfl
      | ⟨6, _⟩ => rfl
      | ⟨7, _⟩ => rfl
    exact this ⟨j, hj'⟩

def putCells (cs : Array Value) : Obj → Obj
  | .cells _ t frozen => .cells cs t frozen
  | o => o

/-- A world for the witness: the settled one, the tables as their initialisers lay them. -/
noncomputable def laidWorld (os : Os) : World :=
  { World.holding Tryd.prog os ⟨#[], #[], []⟩ with heap := ((World.holding Tryd.prog os ⟨#[], #[], []⟩).heap.modify 1 (putCells (ksI.map (Value.int .u32)).toArray)).modify 0 (putCells (b0I.map (Value.int .u32)).toArray) }

set_option maxRecDepth 100000 in
theorem laid_met (os : Os) (args : Array Value) : laidMet Tryd.prog [("tipstaff/digest.k", Rows.laid_tipstaff_digest_k), ("tipstaff/digest.begin", Rows.laid_tipstaff_digest_begin)] ((laidWorld os).forCall (fun _ _ => 0) ⟨#[], args, []⟩).memory :=
  laidMet_of_run' 80 (by kernel_rfl) (by kernel_rfl)
end Go.Proofs.YtbjkfgfiifnjoaaDoor

/- What the row's list gives: the table of package rights. -/
import Derived.Test.YtnjgehfnafdldaaDoorTokB
import Derived.Test.YtnjgehfnafdldaaDoorRows
import Derived.Lib.LaidTab
import Derived.Stop.LaidErr
import Derived.ProofKit
namespace Go.Proofs.YtnjgehfnafdldaaDoor
open Go.RowKit
set_option maxRecDepth 100000

theorem gH : Tryd.prog.globalNamed "tipstaff/rights.helpers" = some 0 := by kernel_rfl
theorem gHT : (Tryd.prog.globals[0]?).map (·.type) = some 85 := by kernel_rfl

theorem laidEqH : ([("tipstaff/rights.helpers", Rows.laid_tipstaff_rights_helpers)] : List (String × DataW Unit)) = [("tipstaff/rights.helpers", Lib.tabData .i32 HL)] := by rfl

theorem helpG_of_laid {W : World} (h : laidMetH Tryd.prog [("tipstaff/rights.helpers", Rows.laid_tipstaff_rights_helpers)] W) : HelpG W := by
  have h' : laidMet Tryd.prog [("tipstaff/rights.helpers", Lib.tabData .i32 HL)] W := h
  have tb : Lib.TabIs Tryd.prog W "tipstaff/rights.helpers" .i32 HL := Lib.tabIs_of_head gH gHT Tryd.underlying85 Tryd.underlying21 (by kernel_rfl) (by kernel_rfl) h'
  refine ⟨fun j hj => ?_⟩
  rw [Nat.zero_add]
  exact tb.cell gH j hj

def putCellsH (cs : Array Value) : Obj → Obj
  | .cells _ t frozen => .cells cs t frozen
  | o => o

/-- A world for the witness: the settled one, the table as its initialiser lays it. -/
noncomputable def laidWorldH (os : Os) : World :=
  { World.holding Tryd.prog os ⟨#[], #[], []⟩ with heap := (World.holding Tryd.prog os ⟨#[], #[], []⟩).heap.modify 0 (putCellsH (HL.map (Value.int .i32)).toArray) }

set_option maxRecDepth 100000 in
theorem laid_metH (os : Os) (args : Array Value) : laidMet Tryd.prog [("tipstaff/rights.helpers", Rows.laid_tipstaff_rights_helpers)] ((laidWorldH os).forCall (fun _ _ => 0) ⟨#[], args, []⟩).memory :=
  laidMet_of_run' 80 (by kernel_rfl) (by kernel_rfl)
end Go.Proofs.YtnjgehfnafdldaaDoor

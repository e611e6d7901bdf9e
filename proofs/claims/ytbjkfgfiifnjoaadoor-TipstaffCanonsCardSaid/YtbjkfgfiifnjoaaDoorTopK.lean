/- TipstaffCanons: its program is in form. -/
import Derived.Test.YtbjkfgfiifnjoaaDoorTopP
import Derived.Test.YtbjkfgfiifnjoaaDoorShG
namespace Go.Proofs.YtbjkfgfiifnjoaaDoor
open Go.RowKit
set_option maxRecDepth 100000

theorem prog_check (i : BitVec 32) : checkM (prog3 0 1 0 i) = (0, 0) := by
  have h1 : firstBad (oneM (prog3 0 1 0 i)) 8 = none := by kernel_rfl
  have h2 : firstBad (landsM (prog3 0 1 0 i)) 8 = none := by kernel_rfl
  have h3 : lastM (prog3 0 1 0 i) = true := by kernel_rfl
  unfold checkM
  rw [show (prog3 0 1 0 i).length = 8 from rfl, h1, h2, h3]
  rfl
theorem top_check (v : Value) (i : BitVec 32) (w : World) (hr : Reads w v 5 8 (insV (prog3 0 1 0 i))) :
    Calls Tryd.prog 11 #[v] w fun e w' => e = .returned (.tuple #[.int .i64 0, .int .i64 0]) ∧ Ext [] w w' := by
  refine (check_any v (prog3 0 1 0 i) w hr (by show 8 ≤ 100000; omega)).mono ?_
  rintro e w' ⟨rfl, x⟩
  rw [prog_check]
  exact ⟨rfl, x⟩

end Go.Proofs.YtbjkfgfiifnjoaaDoor

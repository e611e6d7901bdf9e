/- Is the first descriptor opened? -/
import Derived.Test.YtbjkfgfiifnjoaaDoorFdUsed
namespace Go.Proofs.YtbjkfgfiifnjoaaDoor
open Go.RowKit
set_option maxRecDepth 100000

set_option maxHeartbeats 1000000 in
theorem opens_top (w : World) : Calls Tryd.prog 19 #[] w fun e w' => e = .returned (.bool true) ∧ Ext [] w w' := by
  go_enter Tryd.func19, Tryd.ntmps19
  go_wp2_with fail
  refine (fd_new 2 w (by omega) (by omega)).mono ?_; rintro e w1 ⟨rfl, H1, x1, -⟩
  have H1 : FdAt w1 (w.heap.size + 1) w.heap.size [0, 0] := H1
  go_wp2_with fail
  refine (fd_open _ _ 0 _ 5 _ H1 (by omega) (by omega) (by decide) rfl (by omega)).mono ?_; rintro e w2 ⟨rfl, H2, x2, -⟩
  have H2 : FdAt w2 (w.heap.size + 1) w.heap.size [5, 0] := H2
  go_wp2_with fail
  refine (fd_get _ _ 0 _ _ H2 (by decide) (by decide)).mono ?_; rintro e w3 ⟨rfl, rfl⟩
  go_wp2
  go_ret
  exact ⟨rfl, x1.trans' x2 (by simp)⟩
end Go.Proofs.YtbjkfgfiifnjoaaDoor

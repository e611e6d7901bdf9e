/- The laws of layer 8: FdtabRound, FdtabFull: the walks. -/
import Derived.Test.YtlfidgfdpoeplaaFdUsed
namespace Go.Proofs.Ytlfidgfdpoeplaa
open Go.RowKit

set_option maxHeartbeats 1000000 in
theorem opens_any (w : World) : Calls Try.prog 13 #[] w fun e w' => e = .returned (.bool true) ∧ Ext [] w w' := by
  go_enter Try.func13, Try.ntmps13
  go_wp2_with fail
  refine (fd_new 3 w (by omega) (by omega)).mono ?_; rintro e w1 ⟨rfl, H1, x1, -⟩
  have H1 : FdAt w1 (w.heap.size + 1) w.heap.size [0, 0, 0] := H1
  go_wp2_with fail
  refine (fd_open _ _ 0 _ 5 _ H1 (by omega) (by omega) (by decide) rfl (by omega)).mono ?_; rintro e w2 ⟨rfl, H2, x2, -⟩
  have H2 : FdAt w2 (w.heap.size + 1) w.heap.size [5, 0, 0] := H2
  go_wp2_with fail
  refine (fd_open _ _ 1 _ 6 _ H2 (by omega) (by omega) (by decide) rfl (by decide)).mono ?_; rintro e w3 ⟨rfl, H3, x3, -⟩
  have H3 : FdAt w3 (w.heap.size + 1) w.heap.size [5, 6, 0] := H3
  go_wp2_with fail
  refine (fd_close _ _ 0 _ _ H3 (by decide) (by decide)).mono ?_; rintro e w4 ⟨rfl, H4, x4, -⟩
  have H4 : FdAt w4 (w.heap.size + 1) w.heap.size [0, 6, 0] := H4
  go_wp2_with fail
  refine (fd_open _ _ 0 _ 7 _ H4 (by omega) (by omega) (by decide) rfl (by omega)).mono ?_; rintro e w5 ⟨rfl, H5, x5, -⟩
  go_wp2
  go_ret
  refine ⟨rfl, ?_⟩
  refine (((x1.trans' x2 ?_).trans' x3 ?_).trans' x4 ?_).trans' x5 ?_ <;> simp

end Go.Proofs.Ytlfidgfdpoeplaa

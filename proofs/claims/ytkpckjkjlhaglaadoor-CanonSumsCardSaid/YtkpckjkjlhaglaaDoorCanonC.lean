/- The laws of layer 6: slots. -/
import Derived.Test.YtkpckjkjlhaglaaDoorCanonB
namespace Go.Proofs.YtkpckjkjlhaglaaDoor
open Go.RowKit

def mapI (z : BitVec 32) : Ins := ⟨24, 0, 1, 0, z⟩
def nilI : Ins := ⟨0, 0, 0, 0, 0⟩
def l0 : List Ins := [mapI 7, nilI, mapI 3, nilI, mapI 7, nilI]
theorem l0_fds : fdsOf l0 = [7#32, 3#32] := by decide +kernel
theorem l0_out : outOf l0 = [mapI 0, nilI, mapI 1, nilI, mapI 0, nilI] := by decide +kernel

set_option maxHeartbeats 2000000 in
set_option maxRecDepth 100000 in
theorem slots_any (w : World) :
    Calls Tryd.prog 6 #[] w fun e w' => e = .returned (.bool true) ∧ Ext [] w w' := by
  go_enter Tryd.func6, Tryd.ntmps6
  go_wp2_with fail
  have hrd : Reads (w.alloc (.cells (insV l0).toArray 35)) (.slice (some ⟨w.heap.size, 0, none⟩) 6 6) 5 l0.length (insV l0) := blk_reads (Blk.new w 35 (insV l0).toArray) 6 rfl
  have x1 : Ext [] w (w.alloc (.cells (insV l0).toArray 35)) := (Ext.refl _ _).alloc _
  show Calls _ _ _ (w.alloc (.cells (insV l0).toArray 35)) _
  generalize w.alloc (.cells (insV l0).toArray 35) = w1 at *
  refine (slots_go _ l0 w1 hrd (by decide)).mono ?_
  intro e w2 hp
  unfold SlotsPost at hp
  rw [l0_fds, l0_out, if_pos (by decide)] at hp
  obtain ⟨v5, v6, rfl, h5, h6, x2, -, -, -⟩ := hp
  have h5' : w2.ownsRow 0 35 5 v5 6 (insV [mapI 0, nilI, mapI 1, nilI, mapI 0, nilI]) := h5
  have h6' : w2.ownsRow 0 21 1 v6 2 (immV [7#32, 3#32]) := h6
  obtain ⟨g5, p5, cur5, rfl, -, hp5, -, -, -⟩ := owns_some h5' (by omega)
  obtain ⟨g6, p6, cur6, rfl, -, hp6, -, -, -⟩ := owns_some h6' (by omega)
  have c1 : w2.cell? ⟨g5, 14, none⟩ = some (.int .i32 1) := (h5'.cellAt 14 (by omega)).trans rfl
  have c2 : w2.cell? ⟨g5, 24, none⟩ = some (.int .i32 0) := (h5'.cellAt 24 (by omega)).trans rfl
  have c3 : w2.cell? ⟨g6, 0, none⟩ = some (.int .i32 7) := (h6'.cellAt 0 (by omega)).trans rfl
  have c4 : w2.cell? ⟨g6, 1, none⟩ = some (.int .i32 3) := (h6'.cellAt 1 (by omega)).trans rfl
  clear h5 h6 h5' h6' hrd
  go_wp2_with fail
  go_ret
  exact ⟨rfl, x1.trans x2⟩
end Go.Proofs.YtkpckjkjlhaglaaDoor

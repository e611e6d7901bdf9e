/- Does the known text have its sum? -/
import Derived.Test.YtbjkfgfiifnjoaaDoorHex
import Derived.Lib.SlBytesConst
namespace Go.Proofs.YtbjkfgfiifnjoaaDoor
open Go.RowKit
set_option maxRecDepth 100000

set_option maxHeartbeats 4000000 in
set_option maxRecDepth 100000 in
theorem stands_any (w : World) (G : DigG w) :
    Calls Tryd.prog 10 #[] w fun e w' => e = .returned (.bool true) ∧ Ext [] w w' := by
  have HG := Lib.hid (fun w' (x' : Ext [] w w') => G.ext x' (by simp) (by simp))
  clear G
  go_enter Tryd.func10, Tryd.ntmps10
  have hcv := Lib.run_convert_bytes_const (P := Tryd.prog) w 39 5 #[Value.int IntKind.u8 97, Value.int IntKind.u8 98, Value.int IntKind.u8 99] 3 3 Tryd.underlying39 Tryd.underlying5
  go_wp2_with fail
  have x1 : Ext [] w (w.alloc (Obj.cells #[Value.int IntKind.u8 97, Value.int IntKind.u8 98, Value.int IntKind.u8 99] 5 (3, 4))) := (Ext.refl _ _).alloc _
  have hrd : Reads (w.alloc (Obj.cells #[Value.int IntKind.u8 97, Value.int IntKind.u8 98, Value.int IntKind.u8 99] 5 (3, 4))) (.slice (some ⟨w.heap.size, 0, none⟩) 3 3) 1 3 (bytesV abcText) := by
    refine ⟨_, _, rfl, rfl, (fun e => by cases e), fun ad e j u hu => ?_⟩
    obtain rfl := Option.some.inj e
    rw [Addr.add_lit, Nat.zero_add]
    simp [World.cell?, World.alloc, -World.alloc_eq]
    exact hu
  show Calls _ _ _ (w.alloc (Obj.cells #[Value.int IntKind.u8 97, Value.int IntKind.u8 98, Value.int IntKind.u8 99] 5 (3, 4))) _
  generalize w.alloc (Obj.cells #[Value.int IntKind.u8 97, Value.int IntKind.u8 98, Value.int IntKind.u8 99] 5 (3, 4)) = w1 at *
  refine (sum_any _ abcText w1 (HG.out _ x1) hrd (by decide)).mono ?_
  rintro e w2 ⟨rfl, x2⟩
  go_wp2_with fail
  refine (hex_any (sumOf abcText) w2 (sumOf_length _)).mono ?_
  rintro e w3 ⟨rfl, x3⟩
  rw [hex_abc]
  go_wp2_with fail
  go_ret
  refine ⟨congrArg (fun b => Ending.returned (.bool b)) (?_ : _ = true), x1.trans (x2.trans x3)⟩
  decide +kernel

end Go.Proofs.YtbjkfgfiifnjoaaDoor

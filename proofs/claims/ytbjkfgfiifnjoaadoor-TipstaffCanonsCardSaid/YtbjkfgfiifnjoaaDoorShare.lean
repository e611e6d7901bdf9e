/- What the texts on instructions share. -/
import Derived.Test.YtbjkfgfiifnjoaaDoorIns
import Derived.Test.YtbjkfgfiifnjoaaDoorByt
import Derived.Laws.IdiomStrings
namespace Go.Proofs.YtbjkfgfiifnjoaaDoor
open Go.RowKit
set_option maxRecDepth 100000

theorem info_insn : (Tryd.prog.info? 25).map (fun i => (i.zero, i.size, i.bytes)) = some (some (.agg #[.int .u8 0, .int .u8 0, .int .u8 0, .int .i16 0, .int .i32 0]), 5, 12) := by kernel_rfl
end Go.Proofs.YtbjkfgfiifnjoaaDoor

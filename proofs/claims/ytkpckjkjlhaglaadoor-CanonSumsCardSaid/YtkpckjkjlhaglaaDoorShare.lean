/- What the texts on instructions share. -/
import Derived.Test.YtkpckjkjlhaglaaDoorIns
import Derived.Test.YtkpckjkjlhaglaaDoorByt
import Derived.Laws.IdiomStrings
namespace Go.Proofs.YtkpckjkjlhaglaaDoor
open Go.RowKit

theorem info_insn : (Tryd.prog.info? 35).map (fun i => (i.zero, i.size, i.bytes)) = some (some (.agg #[.int .u8 0, .int .u8 0, .int .u8 0, .int .i16 0, .int .i32 0]), 5, 12) := by kernel_rfl
end Go.Proofs.YtkpckjkjlhaglaaDoor

/- The first byte of the keys of the seeds "x", "y" (reckoned). -/
import Derived.Test.YtgcbgeombbohpaaDoorLamP
namespace Go.Proofs.YtgcbgeombbohpaaDoor
theorem keyN_120 : (keyN 1 [120]).headD 0 = 58 := by decide +kernel
end Go.Proofs.YtgcbgeombbohpaaDoor

/- The first byte of the key of the seed "y" (reckoned). -/
import Derived.Test.YtgcbgeombbohpaaDoorLamP
namespace Go.Proofs.YtgcbgeombbohpaaDoor
theorem keyN_121 : (keyN 1 [121]).headD 0 = 17 := by decide +kernel
end Go.Proofs.YtgcbgeombbohpaaDoor

/- The first byte of the key of the seed [0] (reckoned). -/
import Derived.Test.YtgcbgeombbohpaaDoorLamP
namespace Go.Proofs.YtgcbgeombbohpaaDoor
theorem keyN_0 : (keyN 1 [0]).headD 0 = 14 := by decide +kernel
end Go.Proofs.YtgcbgeombbohpaaDoor

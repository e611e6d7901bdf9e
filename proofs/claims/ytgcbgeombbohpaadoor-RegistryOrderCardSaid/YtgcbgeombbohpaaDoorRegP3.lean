/- The first byte of the key of the seed [3] (reckoned). -/
import Derived.Test.YtgcbgeombbohpaaDoorLamP
namespace Go.Proofs.YtgcbgeombbohpaaDoor
theorem keyN_3 : (keyN 1 [3]).headD 0 = 200 := by decide +kernel
end Go.Proofs.YtgcbgeombbohpaaDoor

/- The first byte of the key of the seed [1] (reckoned). -/
import Derived.Test.YtgcbgeombbohpaaDoorLamP
namespace Go.Proofs.YtgcbgeombbohpaaDoor
theorem keyN_1 : (keyN 1 [1]).headD 0 = 161 := by decide +kernel
end Go.Proofs.YtgcbgeombbohpaaDoor

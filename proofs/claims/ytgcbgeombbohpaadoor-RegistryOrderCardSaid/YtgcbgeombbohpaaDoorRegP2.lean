/- The first byte of the key of the seed [2] (reckoned). -/
import Derived.Test.YtgcbgeombbohpaaDoorLamP
namespace Go.Proofs.YtgcbgeombbohpaaDoor
theorem keyN_2 : (keyN 1 [2]).headD 0 = 202 := by decide +kernel
end Go.Proofs.YtgcbgeombbohpaaDoor

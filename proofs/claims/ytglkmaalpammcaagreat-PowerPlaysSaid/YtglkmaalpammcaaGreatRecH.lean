/- Records: what the walks of putters and getters share. -/
import Derived.Test.YtglkmaalpammcaaGreatZE
import Derived.Deep.RegionHeld3
import Derived.Test.YtglkmaalpammcaaGreatZA
namespace Go.Proofs.YtglkmaalpammcaaGreat
open Go.Gl Go.RowKit
set_option linter.unusedVariables false
set_option maxRecDepth 100000
end Go.Proofs.YtglkmaalpammcaaGreat

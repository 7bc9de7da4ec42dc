/- gleanref1: number, Norm. -/
import Derived.Test.YtglkmaalpammcaaGreatRDig
import Derived.StillTailTactics
namespace Go.Gl
end Go.Gl
namespace Go.Proofs.YtglkmaalpammcaaGreat
open Go.Gl Go.RowKit
set_option linter.unusedVariables false
set_option maxRecDepth 100000
end Go.Proofs.YtglkmaalpammcaaGreat

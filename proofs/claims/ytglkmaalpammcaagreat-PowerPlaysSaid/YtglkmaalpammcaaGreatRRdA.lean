/- gleanref4.Reader: Nat, Dec. -/
import Derived.Test.YtglkmaalpammcaaGreatRRdN
namespace Go.Proofs.YtglkmaalpammcaaGreat
open Go.Gl Go.RowKit
set_option linter.unusedVariables false
set_option maxRecDepth 100000
end Go.Proofs.YtglkmaalpammcaaGreat

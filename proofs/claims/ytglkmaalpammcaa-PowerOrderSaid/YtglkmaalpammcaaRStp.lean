/- Steps of a reader: the plain laws of what they leave and what they tell. -/
import Derived.Test.YtglkmaalpammcaaEWrN
import Derived.Test.YtglkmaalpammcaaERdS
namespace Go.Proofs.Ytglkmaalpammcaa
open Go.Gl Go.RowKit
set_option linter.unusedVariables false
set_option maxRecDepth 100000
end Go.Proofs.Ytglkmaalpammcaa

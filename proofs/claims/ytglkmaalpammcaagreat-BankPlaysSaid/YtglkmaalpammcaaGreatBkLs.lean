/- Accounts, plain: the sum of all coins after a call. -/
import Derived.Test.YtglkmaalpammcaaGreatBkLw
import Derived.Test.YtglkmaalpammcaaGreatBsS
namespace Go.Proofs.YtglkmaalpammcaaGreat
open Go.Gl Go.RowKit
set_option linter.unusedVariables false
set_option maxRecDepth 100000
end Go.Proofs.YtglkmaalpammcaaGreat

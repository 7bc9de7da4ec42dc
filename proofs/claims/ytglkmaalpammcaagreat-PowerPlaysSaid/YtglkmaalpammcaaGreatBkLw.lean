/- Accounts, plain: what lies for them after a call; two stores with the same accounts are the same. -/
import Derived.Test.YtglkmaalpammcaaGreatBkG
import Derived.Test.YtglkmaalpammcaaGreatZE
import Derived.Test.YtglkmaalpammcaaGreatZC
namespace Go.Proofs.YtglkmaalpammcaaGreat
open Go.Gl Go.RowKit
set_option linter.unusedVariables false
set_option maxRecDepth 100000
end Go.Proofs.YtglkmaalpammcaaGreat

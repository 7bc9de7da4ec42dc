/- Admission, plain: what is admitted changes two accounts, and isn't admitted again. -/
import Derived.Test.YtglkmaalpammcaaGreatAnA
namespace Go.Proofs.YtglkmaalpammcaaGreat
open Go.Gl Go.RowKit
set_option linter.unusedVariables false
set_option maxRecDepth 100000
end Go.Proofs.YtglkmaalpammcaaGreat

/- gleanref9: May, Move. -/
import Derived.Test.YtglkmaalpammcaaGreatBkR
import Derived.Test.YtglkmaalpammcaaGreatBkLw
namespace Go.Proofs.YtglkmaalpammcaaGreat
open Go.Gl Go.RowKit
set_option linter.unusedVariables false
set_option maxRecDepth 100000
section
variable {w:World}{g n:Nat}{F:List aN}{Q:Nat→Prop}
end
end Go.Proofs.YtglkmaalpammcaaGreat

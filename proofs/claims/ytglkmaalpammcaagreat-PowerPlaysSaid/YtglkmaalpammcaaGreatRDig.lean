/- gleanref1: digits, number, Norm. -/
import Derived.Test.YtglkmaalpammcaaGreatZE
import Derived.Deep.RegionLaw
import Derived.Deep.DrawnRows
namespace Go.Gl
end Go.Gl
namespace Go.Proofs.YtglkmaalpammcaaGreat
open Go.Gl Go.RowKit
set_option linter.unusedVariables false
set_option maxRecDepth 100000
attribute [local go_sem ↓] Go.wp_at_zero Go.wp_at_succ
end Go.Proofs.YtglkmaalpammcaaGreat

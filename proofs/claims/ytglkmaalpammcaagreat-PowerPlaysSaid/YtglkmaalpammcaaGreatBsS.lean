/- bank.Sum: the coins of all accounts together. -/
import Derived.Test.YtglkmaalpammcaaGreatBs
import Derived.Test.YtglkmaalpammcaaGreatZE
import Derived.Test.YtglkmaalpammcaaGreatNAdd
namespace Go.Proofs.YtglkmaalpammcaaGreat
open Go.Gl Go.RowKit
set_option linter.unusedVariables false
set_option maxRecDepth 100000
abbrev BB:Nat:=18446744073709551616
end Go.Proofs.YtglkmaalpammcaaGreat

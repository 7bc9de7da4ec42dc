/- bank.Sum: the coins of all accounts together. -/
import Derived.Test.YtglkmaalpammcaaBs
import Derived.Test.YtglkmaalpammcaaStI
import Derived.Test.YtglkmaalpammcaaNAdd
import Derived.Test.YtglkmaalpammcaaZD
namespace Go.Proofs.Ytglkmaalpammcaa
open Go.Gl Go.RowKit
set_option linter.unusedVariables false
set_option maxRecDepth 100000
abbrev BB : Nat := 18446744073709551616
end Go.Proofs.Ytglkmaalpammcaa

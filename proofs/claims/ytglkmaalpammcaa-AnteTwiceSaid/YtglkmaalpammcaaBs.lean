/- bank.coins: its closure is an iterator over what each account has, that ticks the store. -/
import Derived.Test.YtglkmaalpammcaaBs0
import Derived.Test.YtglkmaalpammcaaZD
import Derived.Test.YtglkmaalpammcaaRqAccount
namespace Go.Proofs.Ytglkmaalpammcaa
open Go.Gl Go.RowKit
set_option linter.unusedVariables false
set_option maxRecDepth 100000
end Go.Proofs.Ytglkmaalpammcaa

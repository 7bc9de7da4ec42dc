/- bank.coins, bank.Sum: their regions (printed by gen_cns.py). -/
import Derived.Test.YtglkmaalpammcaaBkP
import Derived.Test.YtglkmaalpammcaaZC
import Derived.Test.YtglkmaalpammcaaZB
namespace Go.Proofs.Ytglkmaalpammcaa
open Go.Gl Go.RowKit
set_option linter.unusedVariables false
set_option linter.unusedSimpArgs false
set_option maxRecDepth 100000
end Go.Proofs.Ytglkmaalpammcaa

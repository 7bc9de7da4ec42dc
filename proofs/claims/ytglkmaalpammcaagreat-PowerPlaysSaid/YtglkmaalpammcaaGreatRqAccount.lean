/- rec.Account: the fields function, putters, getters (printed by gen_rec.py). -/
import Derived.Test.YtglkmaalpammcaaGreatRecH
namespace Go.Proofs.YtglkmaalpammcaaGreat
open Go.Gl Go.RowKit
set_option linter.unusedVariables false
set_option maxRecDepth 100000
end Go.Proofs.YtglkmaalpammcaaGreat

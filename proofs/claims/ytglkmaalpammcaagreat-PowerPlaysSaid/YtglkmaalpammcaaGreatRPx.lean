/- gleanref8.Put..: each lays its record (printed by gen_rput.py). -/
import Derived.Test.YtglkmaalpammcaaGreatRFPut
import Derived.Test.YtglkmaalpammcaaGreatZE
namespace Go.Proofs.YtglkmaalpammcaaGreat
open Go.Gl Go.RowKit
set_option linter.unusedVariables false
set_option maxRecDepth 100000
end Go.Proofs.YtglkmaalpammcaaGreat

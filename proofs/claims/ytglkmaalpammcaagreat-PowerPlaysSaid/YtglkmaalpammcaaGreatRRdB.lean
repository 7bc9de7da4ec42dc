/- gleanref4.Reader: Dec, Raw. -/
import Derived.Test.YtglkmaalpammcaaGreatRRdA
namespace Go.Proofs.YtglkmaalpammcaaGreat
open Go.Gl Go.RowKit
set_option linter.unusedVariables false
set_option maxRecDepth 100000
end Go.Proofs.YtglkmaalpammcaaGreat

/- enc.Reader: Nat, Dec, Raw. -/
import Derived.Test.YtglkmaalpammcaaERdN
namespace Go.Proofs.Ytglkmaalpammcaa
open Go.Gl Go.RowKit
set_option linter.unusedVariables false
set_option maxRecDepth 100000
end Go.Proofs.Ytglkmaalpammcaa

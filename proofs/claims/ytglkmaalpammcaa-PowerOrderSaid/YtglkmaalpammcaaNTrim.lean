/- nat.trim, nat.Norm; the reference's trim. -/
import Derived.Test.YtglkmaalpammcaaNLib
import Derived.Test.YtglkmaalpammcaaNPlain
namespace Go.Gl
end Go.Gl
namespace Go.Proofs.Ytglkmaalpammcaa
open Go.Gl Go.RowKit
set_option linter.unusedVariables false
set_option maxRecDepth 100000
end Go.Proofs.Ytglkmaalpammcaa

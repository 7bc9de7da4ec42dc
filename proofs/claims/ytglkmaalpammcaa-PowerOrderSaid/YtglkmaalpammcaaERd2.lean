/- enc.Reader: peek that finds its bytes; number, U8, U32, U64. -/
import Derived.Test.YtglkmaalpammcaaERd
namespace Go.Proofs.Ytglkmaalpammcaa
open Go.Gl Go.RowKit
set_option linter.unusedVariables false
set_option maxRecDepth 100000
end Go.Proofs.Ytglkmaalpammcaa

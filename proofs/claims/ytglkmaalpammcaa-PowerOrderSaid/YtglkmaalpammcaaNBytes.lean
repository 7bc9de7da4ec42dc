/- nat.Bytes: a number's bytes. -/
import Derived.Test.YtglkmaalpammcaaNBits
import Derived.LoopN
namespace Go.Gl
end Go.Gl
namespace Go.Proofs.Ytglkmaalpammcaa
open Go.Gl Go.RowKit
set_option linter.unusedVariables false
set_option maxRecDepth 100000
end Go.Proofs.Ytglkmaalpammcaa

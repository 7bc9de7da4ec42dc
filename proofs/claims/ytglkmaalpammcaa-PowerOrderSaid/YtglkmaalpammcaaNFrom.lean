/- nat.FromBytes: the number that bytes say. -/
import Derived.Test.YtglkmaalpammcaaNBytes
import Derived.Test.YtglkmaalpammcaaNumT
import Derived.StillTailTactics
namespace Go.Gl
end Go.Gl
namespace Go.Proofs.Ytglkmaalpammcaa
open Go.Gl Go.RowKit
set_option linter.unusedVariables false
set_option maxRecDepth 100000
end Go.Proofs.Ytglkmaalpammcaa

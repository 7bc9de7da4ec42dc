/- How many bits and bytes a number has; nat.Bits. -/
import Derived.Test.YtglkmaalpammcaaNTrim
import Derived.Test.YtglkmaalpammcaaLen64
import Derived.Lib.ItoaNum
namespace Go.Gl
end Go.Gl
namespace Go.Proofs.Ytglkmaalpammcaa
open Go.Gl Go.RowKit
set_option linter.unusedVariables false
set_option maxRecDepth 100000
end Go.Proofs.Ytglkmaalpammcaa

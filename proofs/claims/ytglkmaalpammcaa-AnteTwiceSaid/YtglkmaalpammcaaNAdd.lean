/- nat.Of, nat.Add: numbers in limbs. -/
import Derived.Test.YtglkmaalpammcaaZD
import Derived.Test.YtglkmaalpammcaaRNum
import Derived.Laws.Externs
import Derived.Deep.DeepCutAuto
import Derived.Deep.LoopGhost
namespace Go.Proofs.Ytglkmaalpammcaa
open Go.Gl Go.RowKit
set_option linter.unusedVariables false
set_option maxRecDepth 100000
end Go.Proofs.Ytglkmaalpammcaa

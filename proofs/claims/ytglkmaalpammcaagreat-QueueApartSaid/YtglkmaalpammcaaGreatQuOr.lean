/- QueueOrder: the walk. -/
import Derived.Test.YtglkmaalpammcaaGreatQuO
import Derived.Deep.DeepCutAuto
namespace Go.Proofs.YtglkmaalpammcaaGreat
open Go.Gl Go.RowKit
set_option linter.unusedVariables false
set_option maxRecDepth 100000
def yD (x:Nat):List aJ:=bW [] (qk 2 0 0) (jg 3 x)
end Go.Proofs.YtglkmaalpammcaaGreat

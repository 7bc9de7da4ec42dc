/- bank: key, is, much, Get, lay, as calls on a store. -/
import Derived.Test.YtglkmaalpammcaaGreatZE
import Derived.Test.YtglkmaalpammcaaGreatRqAccount
import Derived.Test.YtglkmaalpammcaaGreatBk0
namespace Go.Proofs.YtglkmaalpammcaaGreat
open Go.Gl Go.RowKit
set_option linter.unusedVariables false
set_option maxRecDepth 100000
def U64 (n:Nat):Prop:=n≤18446744073709551615
section
variable {w:World}{sg n p:Nat}{F:List aN}{Q:Nat→Prop}
end
end Go.Proofs.YtglkmaalpammcaaGreat

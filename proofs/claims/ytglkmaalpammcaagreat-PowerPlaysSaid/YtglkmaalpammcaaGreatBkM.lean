/- bank: Mint, Move, Bump, as calls on a store. -/
import Derived.Test.YtglkmaalpammcaaGreatBkG
namespace Go.Proofs.YtglkmaalpammcaaGreat
open Go.Gl Go.RowKit
set_option linter.unusedVariables false
set_option maxRecDepth 100000
theorem wrap_u64 (x:Int):IntKind.u64.wrap x=x % 18446744073709551616:=by
 simp [IntKind.wrap,IntKind.signed,IntKind.bits]
section
variable {w:World}{sg n p:Nat}{F:List aN}{Q:Nat→Prop}
end
end Go.Proofs.YtglkmaalpammcaaGreat

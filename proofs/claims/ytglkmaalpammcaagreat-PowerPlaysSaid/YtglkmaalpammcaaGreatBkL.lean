/- The calls that bank's laws do, on a store of their own (KVe): New, Dump, Copy, bank.Sum. -/
import Derived.Test.YtglkmaalpammcaaGreatBkM
import Derived.Test.YtglkmaalpammcaaGreatBsS
namespace Go.Proofs.YtglkmaalpammcaaGreat
open Go.Gl Go.RowKit
set_option linter.unusedVariables false
set_option maxRecDepth 100000
section
variable {w w0:World}{sg n p:Nat}{F:List aN}{Q:Nat→Prop}
theorem zL {M:List EV} (h:M.map EV.ent=F):M.length=F.length:=by rw [← h,List.length_map]
end
end Go.Proofs.YtglkmaalpammcaaGreat

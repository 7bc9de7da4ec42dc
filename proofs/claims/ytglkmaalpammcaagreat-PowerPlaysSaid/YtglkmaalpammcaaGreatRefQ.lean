/- gleanref8: a reader in new memory, the record's block beside it; ends. -/
import Derived.Test.YtglkmaalpammcaaGreatRecH
import Derived.Test.YtglkmaalpammcaaGreatRRdB
namespace Go.Proofs.YtglkmaalpammcaaGreat
open Go.Gl Go.RowKit
set_option linter.unusedVariables false
set_option maxRecDepth 100000
variable {w wx wy:World}{g:Nat}{s:oM}{bs:List (Nat × Obj)}{ds:List (Value × List Nat)}
end Go.Proofs.YtglkmaalpammcaaGreat

/- make of byte slices: what is made is owned, all noughts. -/
import Derived.Test.YtglkmaalpammcaaGrow
import Derived.Deep.OwnRows
namespace Go.Proofs.Ytglkmaalpammcaa
open Go.Gl Go.RowKit
set_option linter.unusedVariables false
end Go.Proofs.Ytglkmaalpammcaa

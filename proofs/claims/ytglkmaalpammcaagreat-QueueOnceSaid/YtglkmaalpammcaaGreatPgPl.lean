/- gleanhelp.Place (out of KBegins, whose other texts this seat lacks). -/
import Derived.Test.YtglkmaalpammcaaGreatZA
namespace Go.Proofs.YtglkmaalpammcaaGreat
open Go.Gl Go.RowKit
set_option linter.unusedVariables false
end Go.Proofs.YtglkmaalpammcaaGreat

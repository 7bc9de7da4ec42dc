/- Arguments of a law, opened: a byte slice that came in. -/
import Derived.Test.YtglkmaalpammcaaZA
import Derived.ProofKit
import Derived.ChangeOld
namespace Go.Proofs.Ytglkmaalpammcaa
open Go.Gl Go.RowKit Go.ChangeShapes Go.WideShapes Go.ChangeAt
set_option linter.unusedVariables false
set_option maxRecDepth 100000
theorem laidOut:laidOutB Try.prog=true:=by kernel_rfl
theorem own:ownKnob Try.prog.godebug=none:=by kernel_rfl
end Go.Proofs.Ytglkmaalpammcaa

/- A slice of bytes that the call itself has made and appends to: nothing else turns. -/
import Derived.Test.YtglkmaalpammcaaZD
namespace Go.Proofs.Ytglkmaalpammcaa
open Go.Gl Go.RowKit
set_option linter.unusedVariables false
theorem aI.nil (w:World):aI w (.slice none 0 0):=fun k hk=>by simp [Value.ownBlock] at hk
end Go.Proofs.Ytglkmaalpammcaa

/- A slice of bytes that the call itself has made and appends to: nothing else turns. -/
import Derived.Test.YtngemlpalkfjeaaRPut
namespace Go.Proofs.Ytngemlpalkfjeaa
open Go.Gl Go.RowKit
set_option linter.unusedVariables false
theorem freshIn.nil (w : World) : freshIn w (.slice none 0 0) := fun k hk => by simp [Value.ownBlock] at hk
end Go.Proofs.Ytngemlpalkfjeaa

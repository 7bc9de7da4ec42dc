/- page.Map.Back: its closure is an iterator over the same entries, falling. -/
import Derived.Test.YtngemlpalkfjeaaPgB0
namespace Go.Proofs.Ytngemlpalkfjeaa
open Go.Gl Go.RowKit
set_option linter.unusedVariables false
set_option maxRecDepth 100000
end Go.Proofs.Ytngemlpalkfjeaa

/- gleanref4.Put: n bytes of a number appended, the highest first. -/
import Derived.Test.YtngemlpalkfjeaaZA
import Derived.Test.YtngemlpalkfjeaaSpecK
namespace Go.Proofs.Ytngemlpalkfjeaa
open Go.Gl Go.RowKit
set_option linter.unusedVariables false
end Go.Proofs.Ytngemlpalkfjeaa

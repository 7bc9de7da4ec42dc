/- page.Map.Back: the regions of its closure (printed by gen_back5.py). -/
import Derived.Test.YtngemlpalkfjeaaPgQ
namespace Go.Proofs.Ytngemlpalkfjeaa
open Go.Gl Go.RowKit
set_option linter.unusedVariables false
set_option linter.unusedSimpArgs false
set_option maxRecDepth 100000
end Go.Proofs.Ytngemlpalkfjeaa

/- gleanref4.Nat, Raw: what they append. -/
import Derived.Test.YtglkmaalpammcaaGreatRNB
import Derived.Test.YtglkmaalpammcaaGreatZE
namespace Go.Proofs.YtglkmaalpammcaaGreat
open Go.Gl Go.RowKit
set_option linter.unusedVariables false
set_option maxRecDepth 100000
theorem fV.refl {w:World}{v:Value}{xs:List UInt8} (h:Gl.Own w v xs):fV w v xs w v:=⟨h,ae.refl _ _,.inl rfl⟩
theorem fV.then {w w1 w2:World}{v v1 v2:Value}{xs ys:List UInt8} (h:fV w v xs w1 v1) (h1:Gl.Own w2 v2 ys) (h2:ae (dC v1) w1 w2) (h3:v2.ownBlock=v1.ownBlock∨aF w1 v2):fV w v ys w2 v2:=h.trans ⟨h1,h2,h3⟩
end Go.Proofs.YtglkmaalpammcaaGreat

/- Records: what a reader of a whole record tells. Plain. -/
import Derived.Test.YtglkmaalpammcaaRecP
namespace Go.Proofs.Ytglkmaalpammcaa
open Go.Gl Go.RowKit
set_option linter.unusedVariables false
set_option maxRecDepth 100000
def zeroF (k:Nat):tX:=⟨k,0,[]⟩
def EO (ks:List Nat) (xs:List UInt8):List tX × Nat :=
 if (uK ks (xs,0)).2=([],0) then ((uK ks (xs,0)).1,0) else (ks.map zeroF,80)
end Go.Proofs.Ytglkmaalpammcaa

/- Records: what their fields lay, what is read of them. Plain. -/
import Derived.Test.YtglkmaalpammcaaRStp
namespace Go.Proofs.Ytglkmaalpammcaa
open Go.Gl Go.RowKit
set_option linter.unusedVariables false
set_option maxRecDepth 100000
structure tX where
 k:Nat
 n:Nat
 ls:List Nat
def tX.N (f:tX):Nat:=dval 18446744073709551616 f.ls
def rdF (k:Nat) (s:nM):tX × nM :=
 if k=0 then (⟨0,wI 8 s,[]⟩,est 8 s) else if k=1 then (⟨1,if decide (wI 1 s=1)=true then 1 else 0,[]⟩,boolS s) else (⟨2,0,natV s⟩,natT s)
def uK:List Nat→nM→List tX × nM
 | [],s=>([],s)
 | k :: ks,s=>((rdF k s).1 :: (uK ks (rdF k s).2).1,(uK ks (rdF k s).2).2)
structure tX.Ok (f:tX):Prop where
 k:f.k≤2
 n:f.n≤18446744073709551615
 b:f.k=1→f.n≤1
 ls:Lim f.ls
end Go.Proofs.Ytglkmaalpammcaa

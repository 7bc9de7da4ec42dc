/- enc.Reader: what its block holds; NewReader, peek, number, U8, U32, U64. -/
import Derived.Test.YtglkmaalpammcaaRRdr
import Derived.Test.YtglkmaalpammcaaEWr3
namespace Go.Proofs.Ytglkmaalpammcaa
open Go.Gl Go.RowKit
set_option linter.unusedVariables false
set_option maxRecDepth 100000
def rtake (n:Nat) (xs:List UInt8) (e:Int):Nat:=if e=0 then (if n≤xs.length then num (xs.take n) else 0) else 0
def rerr (n:Nat) (xs:List UInt8) (e:Int):Int:=if e=0 then (if n≤xs.length then 0 else 40) else e
def rleft (n:Nat) (xs:List UInt8) (e:Int):List UInt8:=if e=0 then (if n≤xs.length then xs.drop n else xs) else xs
end Go.Proofs.Ytglkmaalpammcaa

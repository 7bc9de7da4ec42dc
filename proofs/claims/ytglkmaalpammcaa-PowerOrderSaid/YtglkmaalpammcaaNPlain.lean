/- Digits of a number to a base, the lowest first; noughts at the top struck. Plain. -/
import Derived.KernelRfl
namespace Go.Gl
def dval (B:Nat):List Nat→Nat
 | []=>0
 | d :: ds=>d+B*dval B ds
def strip:List Nat→List Nat
 | []=>[]
 | d :: ds=>if d=0∧strip ds=[] then [] else d :: strip ds
def ldig (B:Nat):Nat→Nat→List Nat
 | 0,_=>[]
 | n+1,x=>x % B :: ldig B n (x / B)
def dig (B x:Nat):List Nat:=strip (ldig B x x)
end Go.Gl

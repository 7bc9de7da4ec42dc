/- key(..), put(..), Set(..) in one region: what its three calls give. -/
import Derived.Test.YtglkmaalpammcaaGreatZE
namespace Go.Gl
set_option linter.unusedVariables false
section
variable {prog:Program}{w w4:World}{S D N:Nat→Prop}{P P':FP}{ks vs:List UInt8}
def X3 (w:World) (S D:Nat→Prop) (w4:World) (P:FP) (N:Nat→Prop) (ks:List UInt8) (w':World) (f:Value):Prop:=Own w' f ks∧ae ai w4 w'∧GI w S D w' P (fun k=>N k∨eY f k)
def Y3 (w:World) (S D:Nat→Prop) (w4:World) (P:FP) (N:Nat→Prop) (ks vs:List UInt8) (w':World) (f v:Value):Prop:=Own w' f ks∧Own w' v vs∧ae ai w4 w'∧GI w S D w' P (fun k=>(N k∨eY f k)∨eY v k)
def Z3 (w:World) (S D:Nat→Prop) (w4:World) (P':FP) (N:Nat→Prop) (w':World):Prop:=GI w S D w' P' N∧ae (fun k=>¬ Out w S N k) w4 w'
theorem uI (G:GI w S D w4 P N) (fr:gK P) {f:FuncId}{args:Array Value} (K:∀ W,Calls prog f args W fun e w'=>∃ v,e = .returned v∧Own w' v ks∧ae ai W w'∧aG W v):∀ b',ae ai w4 b'→Calls prog f args b' fun e w'=>∃ v,e = .returned v∧X3 w S D w4 P N ks w' v :=
 fun b' m=>(K b').mono fun e w' ⟨v,a,o,m',fr'⟩=>⟨v,a,o,m.then0 m',(G.keep0 fr m).own fr m' o fr'⟩
theorem uH (fr:gK P) {f:FuncId}{args:Array Value} (K:∀ W,ae ai w4 W→Calls prog f args W fun e w'=>∃ v,e = .returned v∧Own w' v vs∧ae ai W w'∧aG W v):∀ b' u,X3 w S D w4 P N ks b' u→Calls prog f args b' fun e w'=>∃ v,e = .returned v∧Y3 w S D w4 P N ks vs w' u v :=
 fun b' u hX=>(K b' hX.2.1).mono fun e w' ⟨v,a,o,m',fr'⟩=>⟨v,a,hX.1.keep m' (fun _ _ x=>x),o,hX.2.1.then0 m',hX.2.2.own fr m' o fr'⟩
theorem uJ {f:FuncId}{st r:Value} (C:∀ W u v,Own W u ks→Own W v vs→GS prog f #[st,u,v] W P (Out w S (fun k=>(N k∨eY u k)∨eY v k)) r P'):∀ b' u v,Y3 w S D w4 P N ks vs b' u v→Calls prog f #[st,u,v] b' fun e w'=>∃ r,e = .returned r∧Z3 w S D w4 P' N w' :=
 fun b' u v hY=>(hY.2.2.2.calls (C b' u v hY.1 hY.2.1)).mono fun e w' ⟨a,g,mm⟩=>⟨_,a,g.less (fun k hk => .inl (.inl hk)),hY.2.2.1.trans mm (fun _ _ x=>x.elim) (fun k _ hk x=>hk (x.imp (fun y => .inl (.inl y)) id))⟩
theorem sJ (w':World) (f:Value) (h:X3 w S D w4 P N ks w' f):ae ai w4 w':=h.2.1
theorem sH (w':World) (f v:Value) (h:Y3 w S D w4 P N ks vs w' f v):ae ai w4 w':=h.2.2.1
theorem Z3.heap {w':World}{k:Nat}{o:Obj} (h:Z3 w S D w4 P' N w') (hk:N k) (b:w4.heap[k]?=some o):w'.heap[k]?=some o:=h.2.heap b (fun x=>x (.inl hk))
end
end Go.Gl

/- Accounts, plain: what lies for them in a store's entries, and what the calls of bank do. -/
import Derived.Test.YtglkmaalpammcaaZD
import Derived.Test.YtglkmaalpammcaaRecG
namespace Go.Proofs.Ytglkmaalpammcaa
open Go.Gl Go.RowKit
set_option linter.unusedVariables false
def two (xs:List UInt8):Nat × Nat:=match (EO [0,0] xs).1 with
 | [a,b]=>(a.n,b.n)
 | _=>(0,0)
theorem zJ {F:List aN} (h:fO F) (k v:List UInt8):fO (ji F k v):=by
 unfold ji
 split
 ·exact uU h k v
 ·exact h
theorem zk (n:Int) (a b:Nat):((fQ n a b).getD []).length≤64:=by
  unfold fQ
  cases hf:fU n.toNat with
  | none=>simp
  | some f =>
    simp only
    split
    · simp only [Option.getD_some]
      unfold gy ku
      simp only [List.length_append,List.length_singleton]
      have h1:(if f.a=true then be 8 (gV f a) else []).length≤8:=by split <;> simp [eY]
      have h2:(if f.mid.toNat=0 then ([]:List UInt8) else [f.mid]).length≤1:=by split <;> simp
      have h3:(if f.b=true then be 8 b else []).length≤8:=by split <;> simp [eY]
      omega
    · simp
theorem GS.any {prog:Program}{f:FuncId}{args:Array Value}{w:World}{Q:Nat→Prop}{r:Value}{ι:Type}{P P':ι→FP}{R R':FP} (h:∀ i,GS prog f args w (P i) Q r (P' i)) (h1:∀ S D,R w S D→∃ i,P i w S D) (h2:∀ w' S D i,P' i w' S D→(∀ S D,R w S D→True)→R' w' S D):GS prog f args w R Q r R':=GS.of fun S D p hQ=>by
 obtain⟨i,hi⟩:=h1 S D p
 refine (h i S D hi hQ).mono ?_
 rintro e w' ⟨v,P1,N,rfl,⟨rfl,rfl,_⟩,S',D',p',m,s,d,_⟩
 exact⟨rfl,S',D',h2 _ _ _ i p' (fun _ _ _=>trivial),m,s,d⟩
section
variable {w:World}{sg g n p:Nat}{F:List aN}{Q:Nat→Prop}
end
end Go.Proofs.Ytglkmaalpammcaa

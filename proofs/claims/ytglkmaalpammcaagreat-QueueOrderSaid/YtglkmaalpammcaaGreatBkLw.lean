/- Accounts, plain: what lies for them after a call; two stores with the same accounts are the same. -/
import Derived.Test.YtglkmaalpammcaaGreatZE
import Derived.Test.YtglkmaalpammcaaGreatKPlain
import Derived.Test.YtglkmaalpammcaaGreatZB
namespace Go.Proofs.YtglkmaalpammcaaGreat
open Go.Gl Go.RowKit
set_option linter.unusedVariables false
set_option maxRecDepth 100000
theorem Ci {a b:Nat} (ha:aU a) (hb:aU b):two (iV a b)=(a,b):=by
 have h:=tN [⟨0,a,[]⟩,⟨0,b,[]⟩] (fun f hf=>by
  rcases List.mem_cons.1 hf with rfl | hf
  ·exact⟨by simp,ha,fun x=>by simp at x,fun x hx=>by cases hx⟩
  ·rcases List.mem_cons.1 hf with rfl | hf
   ·exact⟨by simp,hb,fun x=>by simp at x,fun x hx=>by cases hx⟩
   ·cases hf) (ks:=[0,0]) rfl
 exact Am h
theorem Il (a b:Nat):(iV a b).length=16:=by simp [iV,bD,dW.lay,aX]
theorem KQ {F:List aN}{k v:List UInt8}{e:aN} (h:e∈insL F k v):e∈F∨e=(k,v):=by
 unfold insL at h
 rcases List.mem_append.1 h with h | h
 ·exact .inl (List.mem_filter.1 h).1
 ·rcases List.mem_cons.1 h with h | h
  ·exact .inr h
  ·exact .inl (List.mem_filter.1 h).1
end Go.Proofs.YtglkmaalpammcaaGreat

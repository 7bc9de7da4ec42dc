/- A loop over an iterator that ticks, with things of its own (R i: what lies there when i elements have come), apart from what the iterator leans on. -/
import Derived.Test.YtglkmaalpammcaaZC
import Derived.Test.YtglkmaalpammcaaZA
namespace Go.Gl
open Go.RowKit
set_option linter.unusedVariables false
def fpost (R:Nat→FP) (Rx:Code→Nat→FP) (S D:Nat→Prop) (i:Nat) (W:World) (e:Exit) (W':World):Prop :=
 ∃ P:FP,(match e with
  | .normal=>P=R (i+1)
  | .ret=>P=Rx .ret (i+1)
  | .exit id=>P=Rx (.exit id) (i+1)
  | .goto t=>P=Rx (.goto t) (i+1)
  | _=>False)∧∃ S' D',P W' S' D'∧ae S W W'∧(∀ k,S' k→S k∨W.heap.size≤k)∧(∀ k,D' k→D k∨W.heap.size≤k)
structure LJ (w:World) (sg:Nat) (Qt S0 D0:Nat→Prop) (T:World→Prop) (R:FP) (U:Nat→Prop) (W:World):Prop where
 t:T W
 sz:w.heap.size≤W.heap.size
 r:∃ S D,R W S D∧(∀ k,S k→¬ Qt k∧¬ U k∧(S0 k∨w.heap.size≤k))∧(∀ k,D k→k≠sg∧¬ U k)
 m:ae (fun k=>S0 k∨k=sg) w W
theorem LJ.frm {w:World}{sg:Nat}{Qt S0 D0:Nat→Prop}{T:World→Prop}{R:FP} (f:gG R) (hT:∀ A B X,T A→ae X A B→(∀ k,X k→¬ Qt k)→T B) (hQt:∀ k,Qt k→k<w.heap.size)
  {U U':Nat→Prop}{A B:World} (h:LJ w sg Qt S0 D0 T R U A) (hm:ae (fun k=>U k∧(aj k∨w.heap.size≤k)) A B) (hsub:∀ k,U' k→U k∨A.heap.size≤k):LJ w sg Qt S0 D0 T R U' B:=by
 obtain⟨t,sz,⟨S,D,r,hs,hd⟩,m⟩:=h
 have l:=f.lt r
 refine⟨hT _ _ _ t hm (fun k hk x=>?_),Nat.le_trans sz hm.size,⟨S,D,f.keep r hm (fun k hk x=>(hs k hk).2.1 x.1) (fun k hk x=>(hd k hk).2 x.1),fun k hk=>⟨(hs k hk).1,fun x=>?_,(hs k hk).2.2⟩,fun k hk=>⟨(hd k hk).1,fun x=>?_⟩⟩,m.trans hm (fun _ _ x=>x) (fun k hk x=>?_)⟩
 ·have:=hQt k x
  rcases hk.2 with y | y
  ·exact y
  ·omega
 ·rcases hsub k x with y | y
  ·exact (hs k hk).2.1 y
  ·have:=l.1 k hk;omega
 ·rcases hsub k x with y | y
  ·exact (hd k hk).2 y
  ·have:=l.2 k hk;omega
 ·rcases x.2 with y | y
  ·exact y.elim
  ·omega
section
variable {P:Program}
end
end Go.Gl

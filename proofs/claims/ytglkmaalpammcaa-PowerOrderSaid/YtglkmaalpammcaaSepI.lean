/- Inside a function that works on a thing with a footprint: from its entry (w, S0, D0) up to here (w'); N: new memory of its own. -/
import Derived.Test.YtglkmaalpammcaaZA
namespace Go.Gl
set_option linter.unusedVariables false
def GI (w:World) (S0 D0:Nat→Prop) (w':World) (P:FP) (N:Nat→Prop):Prop:=∃ S D,P w' S D∧ae S0 w w'∧(∀ k,S k→S0 k∨w.heap.size≤k)∧(∀ k,D k→D0 k∨w.heap.size≤k)∧(∀ k,N k→w.heap.size≤k∧k<w'.heap.size∧¬ S k∧¬ D k)
def Out (w:World) (S0 N:Nat→Prop) (k:Nat):Prop:=N k∨(k<w.heap.size∧¬ S0 k)
section
variable {prog:Program}{f:FuncId}{args:Array Value}{w w1 w2:World}{S0 D0 N N':Nat→Prop}{P P':FP}{r:Value}
theorem GI.start (p:P w S0 D0):GI w S0 D0 w P (fun _=>False):=⟨S0,D0,p,ae.refl _ _,fun _ => .inl,fun _ => .inl,fun _ x=>x.elim⟩
theorem GI.mods (h:GI w S0 D0 w1 P N):ae S0 w w1:=by obtain⟨_,_,_,m,_⟩:=h;exact m
theorem GI.keep0 (h:GI w S0 D0 w1 P N) (f:gG P) (m:ae aj w1 w2):GI w S0 D0 w2 P N:=by
 obtain⟨S,D,p,m0,s,d,n⟩:=h
 exact⟨S,D,f.keep p m (fun _ _ x=>x) (fun _ _ x=>x),m0.then0 m,s,d,fun k hk=>⟨(n k hk).1,Nat.lt_of_lt_of_le (n k hk).2.1 m.size,(n k hk).2.2⟩⟩
theorem GI.grow (h:GI w S0 D0 w1 P N) (f:gG P) (m:ae aj w1 w2) (hn:∀ k,N' k→N k∨(w1.heap.size≤k∧k<w2.heap.size)):GI w S0 D0 w2 P N':=by
 obtain⟨S,D,p,m0,s,d,n⟩:=h
 have l:=f.lt p
 refine⟨S,D,f.keep p m (fun _ _ x=>x) (fun _ _ x=>x),m0.then0 m,s,d,fun k hk=>?_⟩
 rcases hn k hk with x | ⟨x,y⟩
 ·exact⟨(n k x).1,Nat.lt_of_lt_of_le (n k x).2.1 m.size,(n k x).2.2⟩
 ·exact⟨by have:=m0.size;omega,y,fun z=>by have:=l.1 k z;omega,fun z=>by have:=l.2 k z;omega⟩
theorem GI.own (h:GI w S0 D0 w1 P N) (f:gG P) (m:ae aj w1 w2) {v:Value}{xs:List UInt8} (o:Own w2 v xs) (fr:aI w1 v):GI w S0 D0 w2 P (fun k=>N k∨fK v k):=h.grow f m (fun k hk=>hk.imp id (fun x=>⟨fr k x,o.lt k x⟩))
theorem GI.less (h:GI w S0 D0 w1 P N) (hn:∀ k,N' k→N k):GI w S0 D0 w1 P N':=by
 obtain⟨S,D,p,m0,s,d,n⟩:=h
 exact⟨S,D,p,m0,s,d,fun k hk=>n k (hn k hk)⟩
theorem GI.call {R:World→Value→FP→(Nat→Prop)→Prop} (h:GI w S0 D0 w1 P N) (c:GC prog f args w1 P (Out w S0 N) R):Calls prog f args w1 fun e w'=>∃ v P' N',e = .returned v∧R w' v P' N'∧GI w S0 D0 w' P' (fun k=>N k∨N' k)∧(∀ k,N' k→w1.heap.size≤k)∧ae (fun k=>¬ Out w S0 N k) w1 w':=by
 obtain⟨S,D,p,m0,s,d,n⟩:=h
 have hq:∀ k,Out w S0 N k→¬ S k:=fun k hk x=>by
  rcases hk with hk | ⟨h1,h2⟩
  ·exact (n k hk).2.2.1 x
  ·rcases s k x with y | y
   ·exact h2 y
   ·omega
 refine (c S D p hq).mono ?_
 rintro e w' ⟨v,P',N',rfl,hR,S',D',p',m,s1,d1,n1⟩
 have hs:=m0.size
 refine⟨v,P',N',rfl,hR,⟨S',D',p',m0.trans m (fun _ _ x=>x) (fun k hk x=>(s k x).elim id (fun y=>by omega)),fun k hk=>(s1 k hk).elim (s k) (fun y => .inr (by omega)),fun k hk=>(d1 k hk).elim (d k) (fun y => .inr (by omega)),fun k hk=>?_⟩,fun k hk=>(n1 k hk).1,m.mono (fun k _ hk x=>hq k x hk)⟩
 rcases hk with hk | hk
 ·have q:=n k hk
  refine⟨q.1,Nat.lt_of_lt_of_le q.2.1 m.size,fun x=>?_,fun x=>?_⟩
  ·rcases s1 k x with y | y
   ·exact q.2.2.1 y
   ·omega
  ·rcases d1 k x with y | y
   ·exact q.2.2.2 y
   ·omega
 ·exact⟨by have:=(n1 k hk).1;omega,(n1 k hk).2⟩
theorem GI.calls (h:GI w S0 D0 w1 P N) (c:GS prog f args w1 P (Out w S0 N) r P'):Calls prog f args w1 fun e w'=>e = .returned r∧GI w S0 D0 w' P' N∧ae (fun k=>¬ Out w S0 N k) w1 w':=by
 refine (GI.call h c).mono ?_
 rintro e w' ⟨v,P1,N1,rfl,⟨rfl,rfl,_⟩,g,_,m⟩
 exact⟨rfl,g.less (fun k hk => .inl hk),m⟩
def CJ (w:World) (S D:Nat→Prop) (w':World) (P':FP):Prop:=∃ S' D',P' w' S' D'∧ae S w w'∧(∀ k,S' k→S k∨w.heap.size≤k)∧(∀ k,D' k→D k∨w.heap.size≤k)
theorem GI.done (h:GI w S0 D0 w1 P N):CJ w S0 D0 w1 P:=by
 obtain⟨S,D,p,m0,s,d,n⟩:=h
 exact⟨S,D,p,m0,s,d⟩
theorem GS.walk {Q:Nat→Prop} (h:∀ S D,P w S D→(∀ k,Q k→¬ S k)→Calls prog f args w fun e w'=>e = .returned r∧CJ w S D w' P'):GS prog f args w P Q r P':=GS.of h
end
end Go.Gl

/- QueueApart: the walk. -/
import Derived.Test.YtglkmaalpammcaaGreatQuA
import Derived.Test.YtglkmaalpammcaaGreatQuA2
import Derived.Deep.DeepCutAuto
namespace Go.Proofs.YtglkmaalpammcaaGreat
open Go.Gl Go.RowKit
set_option linter.unusedVariables false
set_option maxRecDepth 100000
section
variable {w0 w:World}{sg wg n p n2 p2:Nat}{F C:List aJ}{Q:Nat→Prop}
theorem qcopy (hp:p≤100000):GC Tryz.prog 31 #[.pointer (some ⟨sg,0,none⟩)] w (aQ sg F n p) Q (fun w' v P' N=>∃ cg,v = .pointer (some ⟨cg,0,none⟩)∧P'=Star (aQ sg F n p) (aQ cg F n p)∧N=fun _=>False):=fun S D ⟨m,q,hm,hq',kv⟩ hQ=>by
 have l:=kv.lt
 obtain⟨mg,vo,R,jv,J,km,_,_,_,_,_,eS,eD⟩:=id kv
 refine (hCopy kv (by omega)).mono ?_
 rintro e w' ⟨cg,S2,D2,rfl,kc,mm,hs,hd⟩
 refine⟨_,_,_,rfl,⟨cg,rfl,rfl,rfl⟩,fun k=>S k∨S2 k,fun k=>D k∨D2 k,⟨S,D,S2,D2,⟨m,q,hm,hq',kv.keep0 mm⟩,⟨0,q,by omega,hq',kc⟩,fun k x y=>?_,fun k x y=>?_,fun k x y=>?_,fun _=>Iff.rfl,fun _=>Iff.rfl⟩,mm.mono (fun _ _ x=>x.elim),fun k hk=>hk.imp id (hs k),fun k hk => .inl (hk.elim id (hd k)),fun k x=>x.elim⟩
 ·have:=l.1 k x;have:=hs k y;omega
 ·have:=l.2.1 k x;have:=hs k y;omega
 ·exact km.data k (by rw [← eD];exact hd k x) (by rw [← eS];exact y)
def gX (w0:World) (sg wg:Nat) (F C:List aJ) (K P:Nat) (Q:Nat→Prop) (W:World):Prop:=∃ n p n2 p2,G1 w0 W (Star (aQ sg F n p) (aQ wg C n2 p2)) Q∧n≤K∧n2≤K∧p≤P∧p2≤P
theorem L9 {n p n2 p2:Nat}:dw (Star (aQ sg F n p) (aQ wg C n2 p2)):=dw.star aS aS
theorem Gi {K P:Nat}{W W':World} (h:gX w0 sg wg F C K P Q W) (m:ae ag W W'):gX w0 sg wg F C K P Q W':=by
 obtain⟨a,b,c,d,g,r⟩:=h
 exact⟨a,b,c,d,g.keep0 L9 m,r⟩
theorem Jy {K P:Nat}{W:World} (h:gX w0 sg wg F C K P Q W):ae ag w0 W:=by
 obtain⟨a,b,c,d,g,r⟩:=h
 exact g.mods
theorem Qs {K P:Nat}{W:World} (h:gX w0 sg wg F C K P Q W):∀ k,k<w0.heap.size→Q k:=by
 obtain⟨a,b,c,d,g,r⟩:=h
 exact g.q0
theorem zN {K P K2 P2:Nat}{W:World} (h:gX w0 sg wg F C K P Q W) (h1:K≤K2) (h2:P≤P2):gX w0 sg wg F C K2 P2 Q W:=by
 obtain⟨a,b,c,d,g,x,y,z,u⟩:=h
 exact⟨a,b,c,d,g,by omega,by omega,by omega,by omega⟩
theorem uf {K P k:Nat}{W W':World}{o:Obj} (h:gX w0 sg wg F C K P Q W) (m:ae ag W W') (hk:W.heap.size≤k) (ho:W'.heap[k]?=some o):gX w0 sg wg F C K P (fun j=>Q j∨j=k) W':=by
 obtain⟨a,b,c,d,g,r⟩:=h
 exact⟨a,b,c,d,g.grow L9 m (fun j hj=>hj.imp (fun x=>x) (fun x=>by subst x;exact⟨hk,lt_of_heap ho⟩)) (fun j hj => .inl (g.q0 j hj)),r⟩
theorem wO {K P:Nat}{W:World}{f:FuncId}{args:Array Value}{r:Value}{F':List aJ}{dn dp:Nat} (h:gX w0 sg wg F C K P Q W) (c:∀ n p,n≤K→p≤P→GS Tryz.prog f args W (aQ sg F n p) Q r (aQ sg F' (n+dn) (p+dp))):Calls Tryz.prog f args W fun e w'=>e = .returned r∧gX w0 sg wg F' C (K+dn) (P+dp) Q w'∧ae (fun k=>¬ Q k) W w':=by
 obtain⟨n,p,n2,p2,g,h1,h2,h3,h4⟩:=h
 exact (g.calls (GS.frame (c n p h1 h3) aS)).mono fun e w' ⟨a,b,m⟩=>⟨a,⟨_,_,_,_,b,by omega,by omega,by omega,by omega⟩,m⟩
theorem Nu {K P:Nat}{W:World}{f:FuncId}{args:Array Value}{r:Value}{dn dp:Nat} (h:gX w0 sg wg F C K P Q W) (c:∀ n p,n≤K→p≤P→GS Tryz.prog f args W (aQ wg C n p) Q r (aQ wg C (n+dn) (p+dp))):Calls Tryz.prog f args W fun e w'=>e = .returned r∧gX w0 sg wg F C (K+dn) (P+dp) Q w'∧ae (fun k=>¬ Q k) W w':=by
 obtain⟨n,p,n2,p2,g,h1,h2,h3,h4⟩:=h
 exact (g.calls (GS.right (c n2 p2 h2 h4) aS)).mono fun e w' ⟨a,b,m⟩=>⟨a,⟨_,_,_,_,b,by omega,by omega,by omega,by omega⟩,m⟩
theorem PX {K P i n0 n1 n2 n3 n4 n5:Nat}{b:Bool}{W:World} (h:gX w0 sg wg F C K P Q W) (hi:aU i) (hK:K≤1000000) (hP:P≤50000) (hu:uG F i=[n0,n1,n2,n3,n4,n5]) (hb:uB F i=b):Calls Tryz.prog 57 #[.pointer (some ⟨sg,0,none⟩),.int .u64 ((i:Nat):Int)] W fun e w'=>e = .returned (.tuple #[.agg #[.int .u64 n0,.int .u64 n1,.int .u64 n2,.int .u64 n3,.int .u64 n4,.int .u64 n5],.bool b])∧gX w0 sg wg F C (K+1) P Q w'∧ae (fun k=>¬ Q k) W w' :=
 wO (dp:=0) h (fun n p a b=>by
  have c:=qR (w:=W) (sg:=sg) (n:=n) (p:=p) (F:=F) (Q:=Q) hi (by omega) (by omega)
  rw [hu,hb] at c
  exact c)
theorem Oh {K P i n0 n1 n2 n3 n4 n5:Nat}{b:Bool}{W:World} (h:gX w0 sg wg F C K P Q W) (hi:aU i) (hK:K≤1000000) (hP:P≤50000) (hu:uG C i=[n0,n1,n2,n3,n4,n5]) (hb:uB C i=b):Calls Tryz.prog 57 #[.pointer (some ⟨wg,0,none⟩),.int .u64 ((i:Nat):Int)] W fun e w'=>e = .returned (.tuple #[.agg #[.int .u64 n0,.int .u64 n1,.int .u64 n2,.int .u64 n3,.int .u64 n4,.int .u64 n5],.bool b])∧gX w0 sg wg F C (K+1) P Q w'∧ae (fun k=>¬ Q k) W w' :=
 Nu (dp:=0) h (fun n p a b=>by
  have c:=qR (w:=W) (sg:=wg) (n:=n) (p:=p) (F:=C) (Q:=Q) hi (by omega) (by omega)
  rw [hu,hb] at c
  exact c)
def MvG (w0:World) (sg wg:Nat) (F C:List aJ) (K P:Nat) (Q:Nat→Prop) (l:List Nat) (a:Option Addr) (c:Nat) (W W':World):Prop:=RN W' (.slice a l.length c) l∧gX w0 sg wg F C (K+1) P (fun j=>Q j∨(l≠[]∧(Value.slice a l.length c).ownBlock=some j)) W'∧ae (fun k=>¬ Q k) W W'
theorem Pi {K P i n0 n1 n2 n3 n4 n5:Nat}{l:List Nat}{b:Bool}{W:World} (h:gX w0 sg wg F C K P Q W) (hi:aU i) (hK:K≤1000000) (hP:P≤50000) (hu:mG F i=([n0,n1,n2,n3,n4,n5],l)) (hb:mB F i=b):Calls Tryz.prog 58 #[.pointer (some ⟨sg,0,none⟩),.int .u64 ((i:Nat):Int)] W fun e w'=>∃ a c,e = .returned (.tuple #[.agg #[.int .u64 n0,.int .u64 n1,.int .u64 n2,.int .u64 n3,.int .u64 n4,.int .u64 n5,.slice a l.length c],.bool b])∧MvG w0 sg wg F C K P Q l a c W w':=by
 obtain⟨n,p,m2,p2,g,h1,h2,h3,h4⟩:=h
 refine (g.call (GC.frame (xP hi (by omega) (by omega)) aS)).mono ?_
 rintro e w' ⟨v,P',N,rfl,⟨P1,rfl,k0,k1,k2,k3,k4,k5,u6,l6,rfl,hg,e6,rfl,rfl⟩,g',_,m⟩
 rw [hu] at hg
 simp only [Prod.mk.injEq,List.cons.injEq,and_true] at hg
 obtain⟨⟨rfl,rfl,rfl,rfl,rfl,rfl⟩,rfl⟩:=hg
 obtain⟨a,c,rfl,_⟩:=e6.form
 exact⟨a,c,by rw [hb],e6,⟨_,_,_,_,g',by omega,by omega,by omega,by omega⟩,m⟩
theorem Nl {K P i n0 n1 n2 n3 n4 n5:Nat}{l:List Nat}{b:Bool}{W:World} (h:gX w0 sg wg F C K P Q W) (hi:aU i) (hK:K≤1000000) (hP:P≤50000) (hu:mG C i=([n0,n1,n2,n3,n4,n5],l)) (hb:mB C i=b):Calls Tryz.prog 58 #[.pointer (some ⟨wg,0,none⟩),.int .u64 ((i:Nat):Int)] W fun e w'=>∃ a c,e = .returned (.tuple #[.agg #[.int .u64 n0,.int .u64 n1,.int .u64 n2,.int .u64 n3,.int .u64 n4,.int .u64 n5,.slice a l.length c],.bool b])∧MvG w0 sg wg F C K P Q l a c W w':=by
 obtain⟨n,p,m2,p2,g,h1,h2,h3,h4⟩:=h
 refine (g.call (GC.right (xP hi (by omega) (by omega)) aS)).mono ?_
 rintro e w' ⟨v,P',N,rfl,⟨P1,rfl,k0,k1,k2,k3,k4,k5,u6,l6,rfl,hg,e6,rfl,rfl⟩,g',_,m⟩
 rw [hu] at hg
 simp only [Prod.mk.injEq,List.cons.injEq,and_true] at hg
 obtain⟨⟨rfl,rfl,rfl,rfl,rfl,rfl⟩,rfl⟩:=hg
 obtain⟨a,c,rfl,_⟩:=e6.form
 exact⟨a,c,by rw [hb],e6,⟨_,_,_,_,g',by omega,by omega,by omega,by omega⟩,m⟩
end
end Go.Proofs.YtglkmaalpammcaaGreat

/- QueueApart: plain. -/
import Derived.Test.YtglkmaalpammcaaGreatQuOr
import Derived.Test.YtglkmaalpammcaaGreatQuA0
import Derived.Test.YtglkmaalpammcaaGreatPgPl
namespace Go.Proofs.YtglkmaalpammcaaGreat
open Go.Gl Go.RowKit
set_option linter.unusedVariables false
set_option maxRecDepth 100000
theorem Jo {F:List aN}{h n:Nat}{es:List QE} (q:QI F h n es) {i:Nat} (hi:bD i) (hn:∀ e∈es,e.id≠i) {k:Nat} (hk:k=12∨k=13):gQ F k i 0=none:=q.e0 k i hk hi (fun e he x=>hn e he x.2)
theorem Ja {F:List aN}{i:Nat} (h:gQ F 12 i 0=none):uB F i=false:=by unfold uB;rw [h];rfl
theorem IY {F:List aN}{i:Nat} (h:gQ F 13 i 0=none):mB F i=false:=by unfold mB;rw [h];rfl
theorem TT {F:List aN}{h n:Nat}{es:List QE} (q:QI F h n es) {e:QE} (he:e∈es) (hk:e.k=12):∃ n2 n4 n5,bD n2∧bD n4∧bD n5∧uB F e.id=true∧uG F e.id=[e.d,e.v,n2,e.t,n4,n5]∧mB F e.id=false:=by
 have o:=(q.ok e he).1
 have hg:=q.e1 e he
 rw [hk] at hg
 rcases o.bs with ⟨_,n2,n4,n5,u2,u4,u5,hb⟩ | ⟨h13,_⟩
 ·have hl:=LZ (n0:=e.d) (n1:=e.v) (n2:=n2) (n3:=e.t) (n4:=n4) (n5:=n5) (fE o.d (fE o.v (fE u2 (fE o.t (fE u4 (fE u5 uh))))))
  refine⟨n2,n4,n5,u2,u4,u5,?_,?_,IY (q.e0 13 e.id (.inr rfl) o.id (fun x hx y=>?_))⟩
  ·unfold uB uOk
   rw [hg,hb,Option.getD_some,hl]
   rfl
  ·unfold uG AZ
   rw [hg,hb,Option.getD_some,hl]
   rfl
  ·have:=qy q.inc hx he y.2
   subst this
   omega
 ·omega
theorem TB {F:List aN}{h n:Nat}{es:List QE} (q:QI F h n es) {e:QE} (he:e∈es) (hk:e.k=13):∃ n2 n3 n5 l,bD n2∧bD n3∧bD n5∧mB F e.id=true∧mG F e.id=([e.d,e.v,n2,n3,e.t,n5],limQ l)∧uB F e.id=false:=by
 have o:=(q.ok e he).1
 have hg:=q.e1 e he
 rw [hk] at hg
 rcases o.bs with ⟨h12,_⟩ | ⟨_,n2,n3,n5,l,u2,u3,u5,ll,hb⟩
 ·omega
 ·have hl:=Nr (n0:=e.d) (n1:=e.v) (n2:=n2) (n3:=n3) (n4:=e.t) (n5:=n5) (fE o.d (fE o.v (fE u2 (fE u3 (fE o.t (fE u5 uh)))))) ll
  refine⟨n2,n3,n5,l,u2,u3,u5,?_,?_,Ja (q.e0 12 e.id (.inl rfl) o.id (fun x hx y=>?_))⟩
  ·unfold mB mOk
   rw [hg,hb,Option.getD_some,hl]
   rfl
  ·unfold mG AX
   rw [hg,hb,Option.getD_some,hl]
  ·have:=qy q.inc hx he y.2
   subst this
   omega
theorem Si {F:List aN}{h n:Nat}{es:List QE} (q:QI F h n es) {e:QE} (he:e∈es) (hl:es.length<18446744073709551615):rU F e.id (e.k:Nat)=true∧QI (qV F e.id (e.k:Nat)) h n (es.filter (fun x=>decide (x.id≠e.id))):=by
 have o:=(q.ok e he).1
 have hd:=U3 q he hl
 rcases o.kk with hk | hk
 ·obtain⟨n2,n4,n5,u2,u4,u5,h1,h2,_⟩:=TT q he hk
  unfold rU qV
  rw [hk] at hd ⊢
  refine⟨by rw [if_pos (by rfl)];exact h1,?_⟩
  rw [if_pos (by rfl)]
  unfold Cm
  rw [h1,h2]
  exact hd
 ·obtain⟨n2,n3,n5,l0,u2,u3,u5,h1,h2,_⟩:=TB q he hk
  unfold rU qV
  rw [hk] at hd ⊢
  refine⟨by rw [if_neg (by decide),if_pos (by rfl)];exact h1,?_⟩
  rw [if_neg (by decide),if_pos (by rfl)]
  unfold CJ
  rw [h1,h2]
  exact hd
theorem OC {F:List aN}{i:Nat}{kd:Int} (h1:uB F i=false) (h2:mB F i=false):rU F i kd=false∧qV F i kd=F:=by
 unfold rU qV Cm CJ
 rw [h1,h2]
 simp
theorem KA {F:List aN}{h n:Nat}{es:List QE} (q:QI F h n es):∃ T:List TE,F.filter (fun e=>dh [113] e.1)=oV 14 T∧(∀ t∈T,QK 14 t.1 t.2.1∧t.2.2≤17)∧jR 18446744073709551615 T=T∧T.length=es.length:=by
 obtain⟨T,hT,hTs,hTm⟩:=Ij q
 exact⟨T,hT,CO q hTm,JZ (fun t ht=>by
  obtain⟨e,he,rfl⟩:=(hTm t).1 ht
  exact (q.ok e he).1.t),Di hTs q.inc hTm⟩
end Go.Proofs.YtglkmaalpammcaaGreat

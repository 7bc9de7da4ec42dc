/- QueueApart: plain. -/
import Derived.Test.YtglkmaalpammcaaGreatQuOr
import Derived.Test.YtglkmaalpammcaaGreatQuA0
import Derived.Test.YtglkmaalpammcaaGreatPgPl
namespace Go.Proofs.YtglkmaalpammcaaGreat
open Go.Gl Go.RowKit
set_option linter.unusedVariables false
set_option maxRecDepth 100000
theorem Ez {F1 F2:List aJ}{h1 n1 h2 n2:Nat}{es1 es2:List QE} (q1:QI F1 h1 n1 es1) (q2:QI F2 h2 n2 es2) {i:Nat} (hi:aU i) (h:∀ e,e.id=i→(e∈es1↔e∈es2)) {k:Nat} (hk:k=12∨k=13):gQ F1 k i 0=gQ F2 k i 0:=by
 by_cases hex:∃ e∈es1,e.k=k∧e.id=i
 ·obtain⟨e,he,rfl,rfl⟩:=hex
  rw [q1.e1 e he,q2.e1 e ((h e rfl).1 he)]
 ·rw [q1.e0 k i hk hi (fun e he x=>hex ⟨e,he,x⟩),q2.e0 k i hk hi (fun e he x=>hex ⟨e,(h e x.2).2 he,x⟩)]
theorem DY {F:List aJ}{h n:Nat}{es:List QE} (q:QI F h n es) {i:Nat} (hi:aU i) (hn:∀ e∈es,e.id≠i) {k:Nat} (hk:k=12∨k=13):gQ F k i 0=none:=q.e0 k i hk hi (fun e he x=>hn e he x.2)
theorem Ej {F:List aJ}{i:Nat} (h:gQ F 12 i 0=none):uB F i=false:=by unfold uB;rw [h];rfl
theorem Eg {F:List aJ}{i:Nat} (h:gQ F 13 i 0=none):mB F i=false:=by unfold mB;rw [h];rfl
theorem tq {F:List aJ}{h n:Nat}{es:List QE} (q:QI F h n es) {e:QE} (he:e∈es) (hk:e.k=12):∃ n2 n4 n5,aU n2∧aU n4∧aU n5∧uB F e.id=true∧uG F e.id=[e.d,e.v,n2,e.t,n4,n5]∧mB F e.id=false:=by
 have o:=(q.ok e he).1
 have hg:=q.e1 e he
 rw [hk] at hg
 rcases o.bs with ⟨_,n2,n4,n5,u2,u4,u5,hb⟩ | ⟨h13,_⟩
 ·have hl:=Hy (n0:=e.d) (n1:=e.v) (n2:=n2) (n3:=e.t) (n4:=n4) (n5:=n5) (bV o.d (bV o.v (bV u2 (bV o.t (bV u4 (bV u5 lT))))))
  refine⟨n2,n4,n5,u2,u4,u5,?_,?_,Eg (q.e0 13 e.id (.inr rfl) o.id (fun x hx y=>?_))⟩
  ·unfold uB uOk
   rw [hg,hb,Option.getD_some,hl]
   rfl
  ·unfold uG uU
   rw [hg,hb,Option.getD_some,hl]
   rfl
  ·have:=jE q.inc hx he y.2
   subst this
   omega
 ·omega
theorem xM {F:List aJ}{h n:Nat}{es:List QE} (q:QI F h n es) {e:QE} (he:e∈es) (hk:e.k=13):∃ n2 n3 n5 l,aU n2∧aU n3∧aU n5∧mB F e.id=true∧mG F e.id=([e.d,e.v,n2,n3,e.t,n5],limQ l)∧uB F e.id=false:=by
 have o:=(q.ok e he).1
 have hg:=q.e1 e he
 rw [hk] at hg
 rcases o.bs with ⟨h12,_⟩ | ⟨_,n2,n3,n5,l,u2,u3,u5,ll,hb⟩
 ·omega
 ·have hl:=IL (n0:=e.d) (n1:=e.v) (n2:=n2) (n3:=n3) (n4:=e.t) (n5:=n5) (bV o.d (bV o.v (bV u2 (bV u3 (bV o.t (bV u5 lT)))))) ll
  refine⟨n2,n3,n5,l,u2,u3,u5,?_,?_,Ej (q.e0 12 e.id (.inl rfl) o.id (fun x hx y=>?_))⟩
  ·unfold mB mOk
   rw [hg,hb,Option.getD_some,hl]
   rfl
  ·unfold mG uS
   rw [hg,hb,Option.getD_some,hl]
  ·have:=jE q.inc hx he y.2
   subst this
   omega
theorem Gm {F:List aJ}{i bal:Nat} (h:uB F i=false):lD F i bal=F:=by unfold lD;rw [h];rfl
theorem LG {F:List aJ}{i:Nat}{l:List Nat} (h:mB F i=false):og F i l=F:=by unfold og;rw [h];rfl
theorem Ou {F:List aJ}{h n:Nat}{es:List QE} (q:QI F h n es) {e:QE} (he:e∈es) (hk:e.k=12) {bal:Nat} (hb:aU bal):∃ bs,QI (lD F e.id bal) h n (es.map (chg e.id bs)):=by
 obtain⟨n2,n4,n5,u2,u4,u5,h1,h2,_⟩:=tq q he hk
 refine⟨iC e.d e.v n2 e.t n4 bal,?_⟩
 have:=IB q he (bs:=iC e.d e.v n2 e.t n4 bal) (.inl ⟨hk,n2,n4,bal,u2,u4,hb,rfl⟩)
 unfold lD
 rw [h1,h2]
 rw [hk] at this
 exact this
theorem P8 {F:List aJ}{h n:Nat}{es:List QE} (q:QI F h n es) {e:QE} (he:e∈es) (hk:e.k=13) {l:List Nat} (hl:dm l):∃ bs,QI (og F e.id l) h n (es.map (chg e.id bs)):=by
 obtain⟨n2,n3,n5,l0,u2,u3,u5,h1,h2,_⟩:=xM q he hk
 refine⟨iw e.d e.v n2 n3 e.t n5 l,?_⟩
 have:=IB q he (bs:=iw e.d e.v n2 n3 e.t n5 l) (.inr ⟨hk,n2,n3,n5,l,u2,u3,u5,hl,rfl⟩)
 unfold og
 rw [h1,h2]
 rw [hk] at this
 exact this
theorem NM {F:List aJ}{h n:Nat}{es:List QE} (q:QI F h n es) {e:QE} (he:e∈es) (hl:es.length<18446744073709551615):nH F e.id (e.k:Nat)=true∧QI (nG F e.id (e.k:Nat)) h n (es.filter (fun x=>decide (x.id≠e.id))):=by
 have o:=(q.ok e he).1
 have hd:=Pv q he hl
 rcases o.kk with hk | hk
 ·obtain⟨n2,n4,n5,u2,u4,u5,h1,h2,_⟩:=tq q he hk
  unfold nH nG
  rw [hk] at hd ⊢
  refine⟨by rw [if_pos (by rfl)];exact h1,?_⟩
  rw [if_pos (by rfl)]
  unfold zo
  rw [h1,h2]
  exact hd
 ·obtain⟨n2,n3,n5,l0,u2,u3,u5,h1,h2,_⟩:=xM q he hk
  unfold nH nG
  rw [hk] at hd ⊢
  refine⟨by rw [if_neg (by decide),if_pos (by rfl)];exact h1,?_⟩
  rw [if_neg (by decide),if_pos (by rfl)]
  unfold zk
  rw [h1,h2]
  exact hd
theorem Fq {es:List QE} (hi:es.Pairwise (fun a b=>a.id<b.id)) {e:QE} (he:e∈es):(es.filter (fun x=>decide (x.id≠e.id))).length+1=es.length:=by
  induction es with
  | nil=>cases he
  | cons a l ih =>
    have hp:=List.pairwise_cons.1 hi
    by_cases hae:a.id=e.id
    · have hx:a=e:=jE hi List.mem_cons_self he hae
      subst hx
      rw [List.filter_cons_of_neg (by simp),qx (fun x hx=>by have:=hp.1 x hx;omega)]
      rfl
    · have hel:e∈l:=by
        rcases List.mem_cons.1 he with rfl | x
        · exact absurd rfl hae
        · exact x
      rw [List.filter_cons_of_pos (by simpa using hae)]
      have:=ih hp.2 hel
      simp only [List.length_cons]
      omega
theorem EK {F:List aJ}{h n:Nat}{es:List QE} (q:QI F h n es):∃ T:List TE,F.filter (fun e=>bI [113] e.1)=oK 14 T∧(∀ t∈T,QK 14 t.1 t.2.1∧t.2.2≤17)∧pR 18446744073709551615 T=T∧T.length=es.length:=by
 obtain⟨T,hT,hTs,hTm⟩:=PS q
 exact⟨T,hT,Nv q hTm,Nw (fun t ht=>by
  obtain⟨e,he,rfl⟩:=(hTm t).1 ht
  exact (q.ok e he).1.t),OC hTs q.inc hTm⟩
end Go.Proofs.YtglkmaalpammcaaGreat

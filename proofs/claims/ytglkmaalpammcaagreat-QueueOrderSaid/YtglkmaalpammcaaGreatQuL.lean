/- queue, plain: the entries that live told by a list; how Unbond, Move, Less, Fewer, Drop turn it; what Due and From tell. -/
import Derived.Test.YtglkmaalpammcaaGreatQuP
namespace Go.Proofs.YtglkmaalpammcaaGreat
open Go.Gl Go.RowKit
set_option linter.unusedVariables false
set_option linter.unusedSimpArgs false
structure QE where
 k:Nat
 id:Nat
 d:Nat
 v:Nat
 t:Nat
 bs:List UInt8
def cq (es:List QE) (d v:Nat):Nat:=es.countP (fun e=>decide (e.d=d∧e.v=v))
def BsOk (e:QE):Prop:=(e.k=12∧∃ n2 n4 n5,aU n2∧aU n4∧aU n5∧e.bs=jd e.d e.v n2 e.t n4 n5)∨(e.k=13∧∃ n2 n3 n5 l,aU n2∧aU n3∧aU n5∧dn l∧e.bs=jc e.d e.v n2 n3 e.t n5 l)
structure jf (e:QE):Prop where
 id:aU e.id
 d:aU e.d
 v:aU e.v
 t:aU e.t
 bs:BsOk e
theorem EQ (N:Nat):(iZ (iL N)).length≤256:=by
 have:=jJ N
 unfold iZ
 rw [List.length_append,aX,gm]
 omega
theorem Ji (n0 n1 n2 n3 n4 n5:Nat) (l6:List Nat):(jc n0 n1 n2 n3 n4 n5 l6).length≤4096:=by
 have:=EQ (dW.N ⟨2,0,l6⟩)
 simp only [jc,bD,dW.lay,List.flatMap_cons,List.flatMap_nil,List.length_append,aX,if_true,List.length_nil,List.append_nil]
 rw [if_neg (by decide),if_neg (by decide)]
 omega
theorem jf.kk {e:QE} (h:jf e):e.k=12∨e.k=13:=by
 rcases h.bs with ⟨x,_⟩ | ⟨x,_⟩
 ·exact .inl x
 ·exact .inr x
theorem jf.len {e:QE} (h:jf e):e.bs.length≤4096:=by
 rcases h.bs with ⟨_,n2,n4,n5,_,_,_,x⟩ | ⟨_,n2,n3,n5,l,_,_,_,_,x⟩
 ·rw [x];exact IB ..
 ·rw [x];exact Ji ..
theorem jf.q1 {e:QE} (h:jf e):QK e.k e.id 0:=⟨h.id,by unfold aU;omega,by have:=h.kk;omega⟩
theorem jf.q2 {e:QE} (h:jf e):QK 14 e.t e.id:=⟨h.t,h.id,by omega⟩
theorem jf.q3 {e:QE} (h:jf e):QK 15 e.v e.id:=⟨h.v,h.id,by omega⟩
theorem jf.q4 {e:QE} (h:jf e):QK 17 e.d e.v:=⟨h.d,h.v,by omega⟩
theorem Eb:QK 2 0 0:=⟨by unfold aU;omega,by unfold aU;omega,by omega⟩
structure QI (F:List aN) (h nx:Nat) (es:List QE):Prop where
 ris:dN F
 key:IY F
 ch:gZ F=(h,nx)
 hu:aU h
 ok:∀ e∈es,jf e∧e.id<nx
 inc:es.Pairwise (fun a b=>a.id<b.id)
 e1:∀ e∈es,gQ F e.k e.id 0=some e.bs
 e0:∀ k a,(k=12∨k=13)→aU a→(∀ e∈es,¬ (e.k=k∧e.id=a))→gQ F k a 0=none
 t1:∀ e∈es,gQ F 14 e.t e.id=some (dE e.k)
 t0:∀ a b,aU a→aU b→(∀ e∈es,¬ (e.t=a∧e.id=b))→gQ F 14 a b=none
 s1:∀ e∈es,gQ F 15 e.v e.id=some (dE e.k)
 s0:∀ a b,aU a→aU b→(∀ e∈es,¬ (e.v=a∧e.id=b))→gQ F 15 a b=none
 c:∀ d v,aU d→aU v→gQ F 17 d v=if cq es d v=0 then none else some (dE (cq es d v))
theorem zy:∀ {es:List QE},es.Pairwise (fun a b=>a.id<b.id)→∀ {x y:QE},x∈es→y∈es→x.id=y.id→x=y:=by
  intro es
  induction es with
  | nil=>intro _ x y hx;cases hx
  | cons a l ih =>
    intro h x y hx hy e
    have hp:=List.pairwise_cons.1 h
    rcases List.mem_cons.1 hx with rfl | hx1 <;> rcases List.mem_cons.1 hy with rfl | hy1
    · rfl
    · have:=hp.1 y hy1;omega
    · have:=hp.1 x hx1;omega
    · exact ih hp.2 hx1 hy1 e
theorem EP (es:List QE) (d v:Nat):cq es d v≤es.length:=List.countP_le_length
theorem LG (es:List QE) (e:QE) (d v:Nat):cq (es ++ [e]) d v=cq es d v+if e.d=d∧e.v=v then 1 else 0:=by
 unfold cq
 rw [List.countP_append,List.countP_cons,List.countP_nil]
 by_cases h:e.d=d∧e.v=v
 ·simp [h]
 ·rw [if_neg h]
  simp [h]
theorem KR {F:List aN}{h nx:Nat}{es:List QE}{d v:Nat} (hd:gQ F 17 d v=if cq es d v=0 then none else some (dE (cq es d v))) (hu:aU (cq es d v)):kV F d v=cq es d v:=by
 unfold kV
 have:dB F (qk 17 d v)=gQ F 17 d v:=rfl
 rw [this,hd]
 by_cases h0:cq es d v=0
 ·rw [if_pos h0,h0];exact Ko
 ·rw [if_neg h0];exact uy hu
def uM (F:List aN) (h nx:Nat) (e:QE):List aN:=bZ (bZ (bZ (bZ F (qk 2 0 0) (iV h (nx+1))) (qk e.k e.id 0) e.bs) (qk 14 e.t e.id) (dE e.k)) (qk 15 e.v e.id) (dE e.k)
theorem g4 {F:List aN}{h nx:Nat}{e:QE} (he:jf e) {k a b:Nat} (hk:QK k a b):gQ (uM F h nx e) k a b=if 15=k∧e.v=a∧e.id=b then some (dE e.k) else if 14=k∧e.t=a∧e.id=b then some (dE e.k) else if e.k=k∧e.id=a∧0=b then some e.bs else if 2=k∧0=a∧0=b then some (iV h (nx+1)) else gQ F k a b:=by
 unfold uM
 rw [su he.q3 hk _ (nT _),su he.q2 hk _ (nT _),su he.q1 hk _ he.len,su Eb hk _ (xK _ _)]
theorem Pm {F:List aN}{h nx:Nat}{es:List QE} (q:QI F h nx es) {e:QE} (he:jf e) (hid:e.id=nx) (hn:nx<18446744073709551615) (hl:es.length<18446744073709551615):ja F e.k e.bs e.d e.v e.t=bZ (uM F h nx e) (qk 17 e.d e.v) (dE (cq es e.d e.v+1)):=by
 have hc:kV (uM F h nx e) e.d e.v=cq es e.d e.v:=by
  refine KR (h:=h) (nx:=nx) ?_ (by have:=EP es e.d e.v;unfold aU;omega)
  have hk:=he.kk
  rw [g4 he he.q4,if_neg (by omega),if_neg (by omega),if_neg (by omega),if_neg (by omega)]
  exact q.c _ _ he.d he.v
 have e4:bZ (bZ (bZ (wL F) (qk e.k (gZ F).2 0) e.bs) (qk 14 e.t (gZ F).2) (dE e.k)) (qk 15 e.v (gZ F).2) (dE e.k)=uM F h nx e:=by
  unfold uM wL
  rw [q.ch]
  simp only
  rw [hid,Nat.mod_eq_of_lt (by omega)]
 unfold ja
 rw [e4,hc,Nat.mod_eq_of_lt (by have:=EP es e.d e.v;omega)]
 unfold nV
 rw [if_neg (by omega)]
theorem OI {F:List aN}{h nx:Nat}{es:List QE} (q:QI F h nx es) {e:QE} (he:jf e) (hid:e.id=nx) (hn:nx<18446744073709551615) (hl:es.length<18446744073709551615):QI (ja F e.k e.bs e.d e.v e.t) h (nx+1) (es ++ [e]):=by
 rw [Pm q he hid hn hl]
 have hk:=he.kk
 have G:∀ {k a b:Nat},QK k a b→gQ (bZ (uM F h nx e) (qk 17 e.d e.v) (dE (cq es e.d e.v+1))) k a b=if 17=k∧e.d=a∧e.v=b then some (dE (cq es e.d e.v+1)) else if 15=k∧e.v=a∧e.id=b then some (dE e.k) else if 14=k∧e.t=a∧e.id=b then some (dE e.k) else if e.k=k∧e.id=a∧0=b then some e.bs else if 2=k∧0=a∧0=b then some (iV h (nx+1)) else gQ F k a b:=fun hq=>by
  rw [su he.q4 hq _ (nT _),g4 he hq]
 have hmem:∀ x,x∈es ++ [e]→x∈es∨x=e:=fun x hx=>by simpa using hx
 have u0:aU 0:=by unfold aU;omega
 refine⟨?_,?_,?_,q.hu,?_,?_,?_,?_,?_,?_,?_,?_,?_⟩
 ·exact jX (jX (jX (jX (jX q.ris _ _) _ _) _ _) _ _) _ _
 ·exact lw (lw (lw (lw (lw q.key Eb _) he.q1 _) he.q2 _) he.q3 _) he.q4 _
 ·have:=G Eb
  rw [if_neg (by omega),if_neg (by omega),if_neg (by omega),if_neg (by omega),if_pos (by omega)] at this
  unfold gZ
  rw [show dB _ (qk 2 0 0)=_ from this]
  exact Ci q.hu (by unfold aU;omega)
 ·intro x hx
  rcases hmem x hx with hx | rfl
  ·have:=q.ok x hx;exact⟨this.1,by omega⟩
  ·exact⟨he,by omega⟩
 ·refine List.pairwise_append.2 ⟨q.inc,by simp,fun x hx y hy=>?_⟩
  rw [List.mem_singleton.1 hy,hid]
  exact (q.ok x hx).2
 ·intro x hx
  rcases hmem x hx with hx | rfl
  ·have xo:=q.ok x hx
   have hxk:=xo.1.kk
   rw [G xo.1.q1,if_neg (by omega),if_neg (by omega),if_neg (by omega),if_neg (by omega),if_neg (by omega)]
   exact q.e1 x hx
  ·rw [G he.q1,if_neg (by omega),if_neg (by omega),if_neg (by omega),if_pos ⟨rfl,rfl,rfl⟩]
 ·intro k a hk' ha hn'
  rw [G ⟨ha,u0,by omega⟩,if_neg (by omega),if_neg (by omega),if_neg (by omega),if_neg (fun x=>hn' e (by simp) ⟨x.1,x.2.1⟩),if_neg (by omega)]
  exact q.e0 k a hk' ha (fun x hx=>hn' x (by simp [hx]))
 ·intro x hx
  rcases hmem x hx with hx | rfl
  ·have xo:=q.ok x hx
   rw [G xo.1.q2,if_neg (by omega),if_neg (by omega),if_neg (by omega),if_neg (by omega),if_neg (by omega)]
   exact q.t1 x hx
  ·rw [G he.q2,if_neg (by omega),if_neg (by omega),if_pos ⟨rfl,rfl,rfl⟩]
 ·intro a b ha hb hn'
  rw [G ⟨ha,hb,by omega⟩,if_neg (by omega),if_neg (by omega),if_neg (fun x=>hn' e (by simp) ⟨x.2.1,x.2.2⟩),if_neg (by omega),if_neg (by omega)]
  exact q.t0 a b ha hb (fun x hx=>hn' x (by simp [hx]))
 ·intro x hx
  rcases hmem x hx with hx | rfl
  ·have xo:=q.ok x hx
   rw [G xo.1.q3,if_neg (by omega),if_neg (by omega),if_neg (by omega),if_neg (by omega),if_neg (by omega)]
   exact q.s1 x hx
  ·rw [G he.q3,if_neg (by omega),if_pos ⟨rfl,rfl,rfl⟩]
 ·intro a b ha hb hn'
  rw [G ⟨ha,hb,by omega⟩,if_neg (by omega),if_neg (fun x=>hn' e (by simp) ⟨x.2.1,x.2.2⟩),if_neg (by omega),if_neg (by omega),if_neg (by omega)]
  exact q.s0 a b ha hb (fun x hx=>hn' x (by simp [hx]))
 ·intro d v hd hv
  rw [LG]
  by_cases hc:e.d=d∧e.v=v
  ·obtain⟨rfl,rfl⟩:=hc
   rw [G he.q4,if_pos ⟨rfl,rfl,rfl⟩]
   simp
  ·rw [G ⟨hd,hv,by omega⟩,if_neg (fun x=>hc x.2),if_neg (by omega),if_neg (by omega),if_neg (by omega),if_neg (by omega),if_neg hc,Nat.add_zero]
   exact q.c d v hd hv
def chg (i:Nat) (bs:List UInt8) (x:QE):QE:=if x.id=i then { x with bs:=bs } else x
theorem IA {h nx:Nat} (hh:aU h) (hn:aU nx):QI (bZ [] (qk 2 0 0) (iV h nx)) h nx []:=by
 have u0:aU 0:=by unfold aU;omega
 have G:∀ {k a b:Nat},QK k a b→gQ (bZ [] (qk 2 0 0) (iV h nx)) k a b=if 2=k∧0=a∧0=b then some (iV h nx) else none:=fun hq=>su Eb hq [] (xK _ _)
 refine⟨jX List.Pairwise.nil _ _,lw ((fun e he=>by cases he)) Eb _,?_,hh,(fun e he=>by cases he),List.Pairwise.nil,(fun e he=>by cases he),?_,(fun e he=>by cases he),?_,(fun e he=>by cases he),?_,?_⟩
 ·have:=G Eb
  rw [if_pos ⟨rfl,rfl,rfl⟩] at this
  unfold gZ
  rw [show dB _ (qk 2 0 0)=_ from this]
  exact Ci hh hn
 ·intro k a hk ha _
  rw [G ⟨ha,u0,by omega⟩,if_neg (by omega)]
 ·intro a b ha hb _
  rw [G ⟨ha,hb,by omega⟩,if_neg (by omega)]
 ·intro a b ha hb _
  rw [G ⟨ha,hb,by omega⟩,if_neg (by omega)]
 ·intro d v hd hv
  rw [G ⟨hd,hv,by omega⟩,if_neg (by omega)]
  rfl
abbrev TE:=Nat × Nat × Nat
def l9 (kk:Nat) (T:List TE):List aN:=T.map (fun t=>(qk kk t.1 t.2.1,dE t.2.2))
theorem vC {α β:Type}{P:β→Prop}{f:β→α}:∀ {l:List α},(∀ x∈l,∃ t,P t∧x=f t)→∃ T:List β,l=T.map f∧∀ t∈T,P t:=by
  intro l
  induction l with
  | nil=>intro _;exact⟨[],rfl,fun t ht=>by cases ht⟩
  | cons a l ih =>
    intro h
    obtain⟨t,ht,rfl⟩:=h a List.mem_cons_self
    obtain⟨T,rfl,hT⟩:=ih (fun x hx=>h x (List.mem_cons_of_mem _ hx))
    exact⟨t :: T,rfl,fun s hs=>by
      rcases List.mem_cons.1 hs with rfl | hs
      · exact ht
      · exact hT s hs⟩
theorem Cm {F:List aN} (hr:dN F) {e:aN} (he:e∈F):dB F e.1=some e.2:=by
 unfold dB
 rw [dN.find hr he]
 rfl
theorem get_mem {F:List aN} (hr:dN F) {k v:List UInt8} (h:dB F k=some v):(k,v)∈F:=(oV F k hr).2 v h
theorem less2 {c:UInt8}{a b a' b':Nat} (ha:aU a) (ha':aU a') (hb:aU b) (hb':aU b') (h:aI (c :: (be 8 a ++ be 8 b)) (c :: (be 8 a' ++ be 8 b'))=true):a<a'∨(a=a'∧b<b'):=by
 unfold aU at ha ha' hb hb'
 have h1:aI (be 8 a ++ be 8 b) (be 8 a' ++ be 8 b')=true:=by
  have:=Fq [c] (be 8 a ++ be 8 b) (be 8 a' ++ be 8 b')
  rw [show [c] ++ (be 8 a ++ be 8 b)=c :: (be 8 a ++ be 8 b) from rfl,show [c] ++ (be 8 a' ++ be 8 b')=c :: (be 8 a' ++ be 8 b') from rfl] at this
  rw [← this];exact h
 rw [zV 8 _ _ _ _ (by omega) (by omega)] at h1
 by_cases e:a=a'
 ·rw [if_pos e] at h1
  have h2:=zV 8 b b' [] [] (by omega) (by omega)
  rw [List.append_nil,List.append_nil] at h2
  rw [h2] at h1
  by_cases e2:b=b'
  ·rw [if_pos e2] at h1;cases h1
  ·rw [if_neg e2] at h1;exact .inr ⟨e,of_decide_eq_true h1⟩
 ·rw [if_neg e] at h1
  exact .inl (of_decide_eq_true h1)
theorem PG {F:List aN}{h nx:Nat}{es:List QE} (q:QI F h nx es):∃ T:List TE,F.filter (fun e=>bu [113] e.1)=l9 14 T∧T.Pairwise (fun s t=>s.1<t.1∨(s.1=t.1∧s.2.1<t.2.1))∧∀ t,t∈T↔∃ e∈es,t=(e.t,e.id,e.k):=by
 obtain⟨T,hT,hP⟩:=vC (P:=fun t:TE=>∃ e∈es,t=(e.t,e.id,e.k)) (f:=fun t:TE=>((qk 14 t.1 t.2.1,dE t.2.2):aN)) (l:=F.filter (fun e=>bu [113] e.1)) (fun x hx=>by
  obtain⟨hx,hb⟩:=List.mem_filter.1 hx
  obtain⟨k,a,b,hq,hk⟩:=q.key x hx
  rw [hk] at hb
  obtain rfl:=(A8 hq _ _ hb).1 rfl
  have hg:=Cm q.ris hx
  rw [hk] at hg
  have hg':gQ F 14 a b=some x.2:=hg
  by_cases hex:∃ e∈es,e.t=a∧e.id=b
  ·obtain⟨e,he,rfl,rfl⟩:=hex
   rw [q.t1 e he] at hg'
   exact⟨(e.t,e.id,e.k),⟨e,he,rfl⟩,Prod.ext hk (Option.some.inj hg').symm⟩
  ·rw [q.t0 a b hq.1 hq.2.1 (fun e he x=>hex ⟨e,he,x⟩)] at hg'
   cases hg')
 refine⟨T,hT,?_,fun t=>⟨hP t,?_⟩⟩
 ·have hr:dN (F.filter (fun e=>bu [113] e.1)):=List.Pairwise.filter _ q.ris
  rw [hT] at hr
  refine List.Pairwise.imp_of_mem ?_ (List.pairwise_map.1 hr)
  intro s t hs ht hl
  obtain⟨e,he,rfl⟩:=hP s hs
  obtain⟨e',he',rfl⟩:=hP t ht
  have o:=(q.ok e he).1
  have o':=(q.ok e' he').1
  simp only [yZ] at hl
  exact less2 o.t o'.t o.id o'.id hl
 ·rintro⟨e,he,rfl⟩
  have o:=(q.ok e he).1
  have hm:=get_mem q.ris (q.t1 e he)
  have hm2:((qk 14 e.t e.id,dE e.k):aN)∈F.filter (fun e=>bu [113] e.1):=List.mem_filter.2 ⟨hm,by
   simp only
   rw [yZ,eP]
   simp [uZ]⟩
  rw [hT] at hm2
  obtain⟨t,ht,hte⟩:=List.mem_map.1 hm2
  obtain⟨e',he',rfl⟩:=hP t ht
  have o':=(q.ok e' he').1
  obtain⟨h1,h2⟩:=Prod.mk.inj hte
  obtain⟨_,_,h3⟩:=(zi o'.q2 o.q2).1 h1
  rw [← zy q.inc he' he h3]
  exact ht
theorem xE {v a b:Nat} (hv:aU v) (ha:aU a):bu (101 :: be 8 v) (qk 15 a b)=true↔a=v:=by
 rw [yV,eP]
 unfold bu
 rw [aX,List.take_left' (aX 8 a)]
 simp only [decide_true,Bool.true_and,decide_eq_true_iff]
 exact⟨fun h=>PQ (by unfold aU at ha;omega) (by unfold aU at hv;omega) h,fun h=>by rw [h]⟩
theorem OX {F:List aN}{h nx:Nat}{es:List QE} (q:QI F h nx es) {v:Nat} (hv:aU v):∃ T:List TE,F.filter (fun e=>bu (101 :: be 8 v) e.1)=l9 15 T∧T.Pairwise (fun s t=>s.2.1<t.2.1)∧∀ t,t∈T↔∃ e∈es,e.v=v∧t=(e.v,e.id,e.k):=by
 obtain⟨T,hT,hP⟩:=vC (P:=fun t:TE=>∃ e∈es,e.v=v∧t=(e.v,e.id,e.k)) (f:=fun t:TE=>((qk 15 t.1 t.2.1,dE t.2.2):aN)) (l:=F.filter (fun e=>bu (101 :: be 8 v) e.1)) (fun x hx=>by
  obtain⟨hx,hb⟩:=List.mem_filter.1 hx
  obtain⟨k,a,b,hq,hk⟩:=q.key x hx
  rw [hk] at hb
  obtain rfl:=(A8 hq _ _ hb).2 rfl
  have hav:=(xE hv hq.1).1 hb
  have hg:=Cm q.ris hx
  rw [hk] at hg
  have hg':gQ F 15 a b=some x.2:=hg
  by_cases hex:∃ e∈es,e.v=a∧e.id=b
  ·obtain⟨e,he,rfl,rfl⟩:=hex
   rw [q.s1 e he] at hg'
   exact⟨(e.v,e.id,e.k),⟨e,he,hav,rfl⟩,Prod.ext hk (Option.some.inj hg').symm⟩
  ·rw [q.s0 a b hq.1 hq.2.1 (fun e he x=>hex ⟨e,he,x⟩)] at hg'
   cases hg')
 refine⟨T,hT,?_,fun t=>⟨hP t,?_⟩⟩
 ·have hr:dN (F.filter (fun e=>bu (101 :: be 8 v) e.1)):=List.Pairwise.filter _ q.ris
  rw [hT] at hr
  refine List.Pairwise.imp_of_mem ?_ (List.pairwise_map.1 hr)
  intro s t hs ht hl
  obtain⟨e,he,hv1,rfl⟩:=hP s hs
  obtain⟨e',he',hv2,rfl⟩:=hP t ht
  have o:=(q.ok e he).1
  have o':=(q.ok e' he').1
  simp only [yV] at hl
  have:=less2 o.v o'.v o.id o'.id hl
  show e.id<e'.id
  omega
 ·rintro⟨e,he,hev,rfl⟩
  have o:=(q.ok e he).1
  have hm:=get_mem q.ris (q.s1 e he)
  have hm2:((qk 15 e.v e.id,dE e.k):aN)∈F.filter (fun e=>bu (101 :: be 8 v) e.1):=List.mem_filter.2 ⟨hm,(xE hv o.v).2 hev⟩
  rw [hT] at hm2
  obtain⟨t,ht,hte⟩:=List.mem_map.1 hm2
  obtain⟨e',he',_,rfl⟩:=hP t ht
  have o':=(q.ok e' he').1
  obtain⟨h1,h2⟩:=Prod.mk.inj hte
  obtain⟨_,_,h3⟩:=(zi o'.q3 o.q3).1 h1
  rw [← zy q.inc he' he h3]
  exact ht
end Go.Proofs.YtglkmaalpammcaaGreat

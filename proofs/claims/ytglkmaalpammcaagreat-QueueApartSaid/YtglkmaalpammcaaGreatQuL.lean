/- queue, plain: the entries that live told by a list; how Unbond, Move, Less, Fewer, Drop turn it; what Due and From tell. -/
import Derived.Test.YtglkmaalpammcaaGreatQuP
namespace Go.Proofs.YtglkmaalpammcaaGreat
open Go.Gl Go.RowKit
set_option linter.unusedVariables false
set_option linter.unusedSimpArgs false
structure QE where
 k:Nat
 id:Nat
 d:Nat
 v:Nat
 t:Nat
 bs:List UInt8
def cq (es:List QE) (d v:Nat):Nat:=es.countP (fun e=>decide (e.d=d∧e.v=v))
def BsOk (e:QE):Prop:=(e.k=12∧∃ n2 n4 n5,aU n2∧aU n4∧aU n5∧e.bs=iC e.d e.v n2 e.t n4 n5)∨(e.k=13∧∃ n2 n3 n5 l,aU n2∧aU n3∧aU n5∧dm l∧e.bs=iw e.d e.v n2 n3 e.t n5 l)
structure iM (e:QE):Prop where
 id:aU e.id
 d:aU e.d
 v:aU e.v
 t:aU e.t
 bs:BsOk e
theorem F5 (N:Nat):(jh (iW N)).length≤256:=by
 have:=jV N
 unfold jh
 rw [List.length_append,aX,gz]
 omega
theorem J9 (n0 n1 n2 n3 n4 n5:Nat) (l6:List Nat):(iw n0 n1 n2 n3 n4 n5 l6).length≤4096:=by
 have:=F5 (dW.N ⟨2,0,l6⟩)
 simp only [iw,bF,dW.lay,List.flatMap_cons,List.flatMap_nil,List.length_append,aX,if_true,List.length_nil,List.append_nil]
 rw [if_neg (by decide),if_neg (by decide)]
 omega
theorem iM.kk {e:QE} (h:iM e):e.k=12∨e.k=13:=by
 rcases h.bs with ⟨x,_⟩ | ⟨x,_⟩
 ·exact .inl x
 ·exact .inr x
theorem iM.len {e:QE} (h:iM e):e.bs.length≤4096:=by
 rcases h.bs with ⟨_,n2,n4,n5,_,_,_,x⟩ | ⟨_,n2,n3,n5,l,_,_,_,_,x⟩
 ·rw [x];exact JA ..
 ·rw [x];exact J9 ..
theorem iM.q1 {e:QE} (h:iM e):QK e.k e.id 0:=⟨h.id,by unfold aU;omega,by have:=h.kk;omega⟩
theorem iM.q2 {e:QE} (h:iM e):QK 14 e.t e.id:=⟨h.t,h.id,by omega⟩
theorem iM.q3 {e:QE} (h:iM e):QK 15 e.v e.id:=⟨h.v,h.id,by omega⟩
theorem iM.q4 {e:QE} (h:iM e):QK 17 e.d e.v:=⟨h.d,h.v,by omega⟩
theorem yx:QK 2 0 0:=⟨by unfold aU;omega,by unfold aU;omega,by omega⟩
structure QI (F:List aJ) (h nx:Nat) (es:List QE):Prop where
 ris:dU F
 key:Au F
 ch:iD F=(h,nx)
 hu:aU h
 ok:∀ e∈es,iM e∧e.id<nx
 inc:es.Pairwise (fun a b=>a.id<b.id)
 e1:∀ e∈es,gQ F e.k e.id 0=some e.bs
 e0:∀ k a,(k=12∨k=13)→aU a→(∀ e∈es,¬ (e.k=k∧e.id=a))→gQ F k a 0=none
 t1:∀ e∈es,gQ F 14 e.t e.id=some (dJ e.k)
 t0:∀ a b,aU a→aU b→(∀ e∈es,¬ (e.t=a∧e.id=b))→gQ F 14 a b=none
 s1:∀ e∈es,gQ F 15 e.v e.id=some (dJ e.k)
 s0:∀ a b,aU a→aU b→(∀ e∈es,¬ (e.v=a∧e.id=b))→gQ F 15 a b=none
 c:∀ d v,aU d→aU v→gQ F 17 d v=if cq es d v=0 then none else some (dJ (cq es d v))
theorem jE:∀ {es:List QE},es.Pairwise (fun a b=>a.id<b.id)→∀ {x y:QE},x∈es→y∈es→x.id=y.id→x=y:=by
  intro es
  induction es with
  | nil=>intro _ x y hx;cases hx
  | cons a l ih =>
    intro h x y hx hy e
    have hp:=List.pairwise_cons.1 h
    rcases List.mem_cons.1 hx with rfl | hx1 <;> rcases List.mem_cons.1 hy with rfl | hy1
    · rfl
    · have:=hp.1 y hy1;omega
    · have:=hp.1 x hx1;omega
    · exact ih hp.2 hx1 hy1 e
theorem Fv (es:List QE) (d v:Nat):cq es d v≤es.length:=List.countP_le_length
theorem Nz (es:List QE) (e:QE) (d v:Nat):cq (es ++ [e]) d v=cq es d v+if e.d=d∧e.v=v then 1 else 0:=by
 unfold cq
 rw [List.countP_append,List.countP_cons,List.countP_nil]
 by_cases h:e.d=d∧e.v=v
 ·simp [h]
 ·rw [if_neg h]
  simp [h]
theorem qx {l:List QE}{i:Nat} (h:∀ x∈l,x.id≠i):l.filter (fun x=>decide (x.id≠i))=l:=List.filter_eq_self.2 (fun x hx=>by simpa using h x hx)
theorem NZ:∀ {es:List QE},es.Pairwise (fun a b=>a.id<b.id)→∀ {e:QE},e∈es→∀ d v,cq es d v=cq (es.filter (fun x=>decide (x.id≠e.id))) d v+if e.d=d∧e.v=v then 1 else 0:=by
  intro es
  induction es with
  | nil=>intro _ e he;cases he
  | cons a l ih =>
    intro h e he d v
    have hp:=List.pairwise_cons.1 h
    by_cases hae:a.id=e.id
    · have hx:a=e:=jE h (List.mem_cons_self) he hae
      subst hx
      rw [List.filter_cons_of_neg (by simp),qx (fun x hx=>by have:=hp.1 x hx;omega)]
      unfold cq
      rw [List.countP_cons]
      by_cases hc:a.d=d∧a.v=v
      · simp [hc]
      · simp only [hc,decide_false,Bool.false_eq_true,if_false]
    · have hel:e∈l:=by
        rcases List.mem_cons.1 he with rfl | x
        · exact absurd rfl hae
        · exact x
      rw [List.filter_cons_of_pos (by simpa using hae)]
      have:=ih hp.2 hel d v
      unfold cq at this ⊢
      rw [List.countP_cons,List.countP_cons,this]
      omega
theorem MF {F:List aJ}{h nx:Nat}{es:List QE}{d v:Nat} (hd:gQ F 17 d v=if cq es d v=0 then none else some (dJ (cq es d v))) (hu:aU (cq es d v)):nC F d v=cq es d v:=by
 unfold nC
 have:dE F (qk 17 d v)=gQ F 17 d v:=rfl
 rw [this,hd]
 by_cases h0:cq es d v=0
 ·rw [if_pos h0,h0];exact JK
 ·rw [if_neg h0];exact uQ hu
def ve (F:List aJ) (h nx:Nat) (e:QE):List aJ:=bW (bW (bW (bW F (qk 2 0 0) (jg h (nx+1))) (qk e.k e.id 0) e.bs) (qk 14 e.t e.id) (dJ e.k)) (qk 15 e.v e.id) (dJ e.k)
theorem g4 {F:List aJ}{h nx:Nat}{e:QE} (he:iM e) {k a b:Nat} (hk:QK k a b):gQ (ve F h nx e) k a b=if 15=k∧e.v=a∧e.id=b then some (dJ e.k) else if 14=k∧e.t=a∧e.id=b then some (dJ e.k) else if e.k=k∧e.id=a∧0=b then some e.bs else if 2=k∧0=a∧0=b then some (jg h (nx+1)) else gQ F k a b:=by
 unfold ve
 rw [pG he.q3 hk _ (lS _),pG he.q2 hk _ (lS _),pG he.q1 hk _ he.len,pG yx hk _ (yM _ _)]
theorem P7 {F:List aJ}{h nx:Nat}{es:List QE} (q:QI F h nx es) {e:QE} (he:iM e) (hid:e.id=nx) (hn:nx<18446744073709551615) (hl:es.length<18446744073709551615):ji F e.k e.bs e.d e.v e.t=bW (ve F h nx e) (qk 17 e.d e.v) (dJ (cq es e.d e.v+1)):=by
 have hc:nC (ve F h nx e) e.d e.v=cq es e.d e.v:=by
  refine MF (h:=h) (nx:=nx) ?_ (by have:=Fv es e.d e.v;unfold aU;omega)
  have hk:=he.kk
  rw [g4 he he.q4,if_neg (by omega),if_neg (by omega),if_neg (by omega),if_neg (by omega)]
  exact q.c _ _ he.d he.v
 have e4:bW (bW (bW (vY F) (qk e.k (iD F).2 0) e.bs) (qk 14 e.t (iD F).2) (dJ e.k)) (qk 15 e.v (iD F).2) (dJ e.k)=ve F h nx e:=by
  unfold ve vY
  rw [q.ch]
  simp only
  rw [hid,Nat.mod_eq_of_lt (by omega)]
 unfold ji
 rw [e4,hc,Nat.mod_eq_of_lt (by have:=Fv es e.d e.v;omega)]
 unfold jS
 rw [if_neg (by omega)]
theorem PY {F:List aJ}{h nx:Nat}{es:List QE} (q:QI F h nx es) {e:QE} (he:iM e) (hid:e.id=nx) (hn:nx<18446744073709551615) (hl:es.length<18446744073709551615):QI (ji F e.k e.bs e.d e.v e.t) h (nx+1) (es ++ [e]):=by
 rw [P7 q he hid hn hl]
 have hk:=he.kk
 have G:∀ {k a b:Nat},QK k a b→gQ (bW (ve F h nx e) (qk 17 e.d e.v) (dJ (cq es e.d e.v+1))) k a b=if 17=k∧e.d=a∧e.v=b then some (dJ (cq es e.d e.v+1)) else if 15=k∧e.v=a∧e.id=b then some (dJ e.k) else if 14=k∧e.t=a∧e.id=b then some (dJ e.k) else if e.k=k∧e.id=a∧0=b then some e.bs else if 2=k∧0=a∧0=b then some (jg h (nx+1)) else gQ F k a b:=fun hq=>by
  rw [pG he.q4 hq _ (lS _),g4 he hq]
 have hmem:∀ x,x∈es ++ [e]→x∈es∨x=e:=fun x hx=>by simpa using hx
 have u0:aU 0:=by unfold aU;omega
 refine⟨?_,?_,?_,q.hu,?_,?_,?_,?_,?_,?_,?_,?_,?_⟩
 ·exact iK (iK (iK (iK (iK q.ris _ _) _ _) _ _) _ _) _ _
 ·exact jq (jq (jq (jq (jq q.key yx _) he.q1 _) he.q2 _) he.q3 _) he.q4 _
 ·have:=G yx
  rw [if_neg (by omega),if_neg (by omega),if_neg (by omega),if_neg (by omega),if_pos (by omega)] at this
  unfold iD
  rw [show dE _ (qk 2 0 0)=_ from this]
  exact Ee q.hu (by unfold aU;omega)
 ·intro x hx
  rcases hmem x hx with hx | rfl
  ·have:=q.ok x hx;exact⟨this.1,by omega⟩
  ·exact⟨he,by omega⟩
 ·refine List.pairwise_append.2 ⟨q.inc,by simp,fun x hx y hy=>?_⟩
  rw [List.mem_singleton.1 hy,hid]
  exact (q.ok x hx).2
 ·intro x hx
  rcases hmem x hx with hx | rfl
  ·have xo:=q.ok x hx
   have hxk:=xo.1.kk
   rw [G xo.1.q1,if_neg (by omega),if_neg (by omega),if_neg (by omega),if_neg (by omega),if_neg (by omega)]
   exact q.e1 x hx
  ·rw [G he.q1,if_neg (by omega),if_neg (by omega),if_neg (by omega),if_pos ⟨rfl,rfl,rfl⟩]
 ·intro k a hk' ha hn'
  rw [G ⟨ha,u0,by omega⟩,if_neg (by omega),if_neg (by omega),if_neg (by omega),if_neg (fun x=>hn' e (by simp) ⟨x.1,x.2.1⟩),if_neg (by omega)]
  exact q.e0 k a hk' ha (fun x hx=>hn' x (by simp [hx]))
 ·intro x hx
  rcases hmem x hx with hx | rfl
  ·have xo:=q.ok x hx
   rw [G xo.1.q2,if_neg (by omega),if_neg (by omega),if_neg (by omega),if_neg (by omega),if_neg (by omega)]
   exact q.t1 x hx
  ·rw [G he.q2,if_neg (by omega),if_neg (by omega),if_pos ⟨rfl,rfl,rfl⟩]
 ·intro a b ha hb hn'
  rw [G ⟨ha,hb,by omega⟩,if_neg (by omega),if_neg (by omega),if_neg (fun x=>hn' e (by simp) ⟨x.2.1,x.2.2⟩),if_neg (by omega),if_neg (by omega)]
  exact q.t0 a b ha hb (fun x hx=>hn' x (by simp [hx]))
 ·intro x hx
  rcases hmem x hx with hx | rfl
  ·have xo:=q.ok x hx
   rw [G xo.1.q3,if_neg (by omega),if_neg (by omega),if_neg (by omega),if_neg (by omega),if_neg (by omega)]
   exact q.s1 x hx
  ·rw [G he.q3,if_neg (by omega),if_pos ⟨rfl,rfl,rfl⟩]
 ·intro a b ha hb hn'
  rw [G ⟨ha,hb,by omega⟩,if_neg (by omega),if_neg (fun x=>hn' e (by simp) ⟨x.2.1,x.2.2⟩),if_neg (by omega),if_neg (by omega),if_neg (by omega)]
  exact q.s0 a b ha hb (fun x hx=>hn' x (by simp [hx]))
 ·intro d v hd hv
  rw [Nz]
  by_cases hc:e.d=d∧e.v=v
  ·obtain⟨rfl,rfl⟩:=hc
   rw [G he.q4,if_pos ⟨rfl,rfl,rfl⟩]
   simp
  ·rw [G ⟨hd,hv,by omega⟩,if_neg (fun x=>hc x.2),if_neg (by omega),if_neg (by omega),if_neg (by omega),if_neg (by omega),if_neg hc,Nat.add_zero]
   exact q.c d v hd hv
def chg (i:Nat) (bs:List UInt8) (x:QE):QE:=if x.id=i then { x with bs:=bs } else x
theorem eH (i:Nat) (bs:List UInt8) (x:QE):(chg i bs x).k=x.k∧(chg i bs x).id=x.id∧(chg i bs x).d=x.d∧(chg i bs x).v=x.v∧(chg i bs x).t=x.t:=by
 unfold chg
 split <;> exact⟨rfl,rfl,rfl,rfl,rfl⟩
theorem IB {F:List aJ}{h nx:Nat}{es:List QE} (q:QI F h nx es) {e:QE} (hm:e∈es) {bs:List UInt8} (hb:BsOk { e with bs:=bs }):QI (bW F (qk e.k e.id 0) bs) h nx (es.map (chg e.id bs)):=by
 have he:=(q.ok e hm).1
 have hk:=he.kk
 have he':iM { e with bs:=bs }:=⟨he.id,he.d,he.v,he.t,hb⟩
 have G:∀ {k a b:Nat},QK k a b→gQ (bW F (qk e.k e.id 0) bs) k a b=if e.k=k∧e.id=a∧0=b then some bs else gQ F k a b:=fun hq=>pG he.q1 hq _ he'.len
 have u0:aU 0:=by unfold aU;omega
 have mm:∀ {P:QE→Prop},(∀ x∈es,P (chg e.id bs x))→∀ y∈es.map (chg e.id bs),P y:=fun hP y hy=>by
  obtain⟨x,hx,rfl⟩:=List.mem_map.1 hy
  exact hP x hx
 refine⟨iK q.ris _ _,jq q.key he.q1 _,?_,q.hu,?_,?_,?_,?_,?_,?_,?_,?_,?_⟩
 ·have:=G yx
  rw [if_neg (by omega)] at this
  have h2:=q.ch
  unfold iD at h2 ⊢
  rw [show dE _ (qk 2 0 0)=_ from this]
  exact h2
 ·refine mm (fun x hx=>?_)
  have xo:=q.ok x hx
  by_cases hi:x.id=e.id
  ·obtain rfl:=jE q.inc hx hm hi
   unfold chg
   rw [if_pos rfl]
   exact⟨he',xo.2⟩
  ·unfold chg
   rw [if_neg hi]
   exact xo
 ·refine List.pairwise_map.2 (q.inc.imp (fun {x y} hxy=>?_))
  rw [(eH _ _ x).2.1,(eH _ _ y).2.1]
  exact hxy
 ·refine mm (fun x hx=>?_)
  have xo:=q.ok x hx
  by_cases hi:x.id=e.id
  ·obtain rfl:=jE q.inc hx hm hi
   unfold chg
   rw [if_pos rfl]
   simp only
   rw [G he.q1,if_pos ⟨rfl,rfl,rfl⟩]
  ·unfold chg
   rw [if_neg hi,G xo.1.q1,if_neg (fun y=>hi y.2.1.symm)]
   exact q.e1 x hx
 ·intro k a hk' ha hn'
  have hn2:∀ x∈es,¬ (x.k=k∧x.id=a):=fun x hx=>by
   have:=hn' _ (List.mem_map_of_mem hx)
   rw [(eH _ _ x).1,(eH _ _ x).2.1] at this
   exact this
  rw [G ⟨ha,u0,by omega⟩,if_neg (fun x=>hn2 e hm ⟨x.1,x.2.1⟩)]
  exact q.e0 k a hk' ha hn2
 ·refine mm (fun x hx=>?_)
  have xo:=(q.ok x hx).1
  obtain⟨a1,a2,a3,a4,a5⟩:=eH e.id bs x
  rw [a1,a2,a5,G xo.q2,if_neg (by omega)]
  exact q.t1 x hx
 ·intro a b ha hb' hn'
  have hn2:∀ x∈es,¬ (x.t=a∧x.id=b):=fun x hx=>by
   have:=hn' _ (List.mem_map_of_mem hx)
   rw [(eH _ _ x).2.2.2.2,(eH _ _ x).2.1] at this
   exact this
  rw [G ⟨ha,hb',by omega⟩,if_neg (by omega)]
  exact q.t0 a b ha hb' hn2
 ·refine mm (fun x hx=>?_)
  have xo:=(q.ok x hx).1
  obtain⟨a1,a2,a3,a4,a5⟩:=eH e.id bs x
  rw [a1,a2,a4,G xo.q3,if_neg (by omega)]
  exact q.s1 x hx
 ·intro a b ha hb' hn'
  have hn2:∀ x∈es,¬ (x.v=a∧x.id=b):=fun x hx=>by
   have:=hn' _ (List.mem_map_of_mem hx)
   rw [(eH _ _ x).2.2.2.1,(eH _ _ x).2.1] at this
   exact this
  rw [G ⟨ha,hb',by omega⟩,if_neg (by omega)]
  exact q.s0 a b ha hb' hn2
 ·intro d v hd hv
  have hcq:cq (es.map (chg e.id bs)) d v=cq es d v:=by
   unfold cq
   rw [List.countP_map]
   refine List.countP_congr (fun x hx=>?_)
   simp only [Function.comp]
   rw [(eH _ _ x).2.2.1,(eH _ _ x).2.2.2.1]
  rw [hcq,G ⟨hd,hv,by omega⟩,if_neg (by omega)]
  exact q.c d v hd hv
theorem gd3 {F:List aJ}{e:QE} (he:iM e) {k a b:Nat} (hk:QK k a b):gQ (lL F e.k e.id e.v e.t) k a b=if 15=k∧e.v=a∧e.id=b then none else if 14=k∧e.t=a∧e.id=b then none else if e.k=k∧e.id=a∧0=b then none else gQ F k a b:=by
 unfold lL
 rw [zu he.q3 hk,zu he.q2 hk,zu he.q1 hk]
theorem Pv {F:List aJ}{h nx:Nat}{es:List QE} (q:QI F h nx es) {e:QE} (hm:e∈es) (hl:es.length<18446744073709551615):QI (kK F e.k e.id e.d e.v e.t) h nx (es.filter (fun x=>decide (x.id≠e.id))):=by
 have he:=(q.ok e hm).1
 have hk:=he.kk
 have u0:aU 0:=by unfold aU;omega
 have cd:=NZ q.inc hm
 have cself:=cd e.d e.v
 rw [if_pos ⟨rfl,rfl⟩] at cself
 have hcl:=Fv es e.d e.v
 have hc:nC (lL F e.k e.id e.v e.t) e.d e.v=cq es e.d e.v:=by
  refine MF (h:=h) (nx:=nx) ?_ (by unfold aU;omega)
  rw [gd3 he he.q4,if_neg (by omega),if_neg (by omega),if_neg (by omega)]
  exact q.c _ _ he.d he.v
 obtain⟨m,hmm⟩:∃ m,cq (es.filter (fun x=>decide (x.id≠e.id))) e.d e.v=m:=⟨_,rfl⟩
 rw [hmm] at cself
 have hF:kK F e.k e.id e.d e.v e.t=jS (lL F e.k e.id e.v e.t) e.d e.v m:=by
  unfold kK
  rw [hc,if_pos (by omega),cself,Nat.add_sub_cancel]
 rw [hF]
 have G:∀ {k a b:Nat},QK k a b→gQ (jS (lL F e.k e.id e.v e.t) e.d e.v m) k a b=if 17=k∧e.d=a∧e.v=b then (if m=0 then none else some (dJ m)) else if 15=k∧e.v=a∧e.id=b then none else if 14=k∧e.t=a∧e.id=b then none else if e.k=k∧e.id=a∧0=b then none else gQ F k a b:=fun hq=>by
  unfold jS
  by_cases h0:m=0
  ·rw [if_pos h0,if_pos h0,zu he.q4 hq,gd3 he hq]
  ·rw [if_neg h0,if_neg h0,pG he.q4 hq _ (lS _),gd3 he hq]
 have mem:∀ x,x∈es.filter (fun x=>decide (x.id≠e.id))↔x∈es∧x.id≠e.id:=fun x=>by rw [List.mem_filter,decide_eq_true_iff]
 have non:∀ {P:QE→Prop},(∀ x∈es.filter (fun x=>decide (x.id≠e.id)),¬ P x)→¬ P e→∀ x∈es,¬ P x:=fun hP he' x hx=>by
  by_cases hi:x.id=e.id
  ·rw [jE q.inc hx hm hi];exact he'
  ·exact hP x ((mem x).2 ⟨hx,hi⟩)
 refine⟨?_,?_,?_,q.hu,?_,?_,?_,?_,?_,?_,?_,?_,?_⟩
 ·unfold jS lL
  split
  ·exact jF (jF (jF (jF q.ris _) _) _) _
  ·exact iK (jF (jF (jF q.ris _) _) _) _ _
 ·unfold jS lL
  split
  ·exact kD (kD (kD (kD q.key _) _) _) _
  ·exact jq (kD (kD (kD q.key _) _) _) he.q4 _
 ·have:=G yx
  rw [if_neg (by omega),if_neg (by omega),if_neg (by omega),if_neg (by omega)] at this
  have h2:=q.ch
  unfold iD at h2 ⊢
  rw [show dE _ (qk 2 0 0)=_ from this]
  exact h2
 ·intro x hx
  exact q.ok x ((mem x).1 hx).1
 ·exact q.inc.filter _
 ·intro x hx
  obtain⟨h1,h2⟩:=(mem x).1 hx
  have xo:=(q.ok x h1).1
  have xk:=xo.kk
  rw [G xo.q1,if_neg (by omega),if_neg (by omega),if_neg (by omega),if_neg (by omega)]
  exact q.e1 x h1
 ·intro k a hk' ha hn'
  rw [G ⟨ha,u0,by omega⟩,if_neg (by omega),if_neg (by omega),if_neg (by omega)]
  by_cases hh:e.k=k∧e.id=a∧0=0
  ·rw [if_pos hh]
  ·rw [if_neg hh]
   exact q.e0 k a hk' ha (non hn' (fun x=>hh ⟨x.1,x.2,rfl⟩))
 ·intro x hx
  obtain⟨h1,h2⟩:=(mem x).1 hx
  have xo:=(q.ok x h1).1
  rw [G xo.q2,if_neg (by omega),if_neg (by omega),if_neg (by omega),if_neg (by omega)]
  exact q.t1 x h1
 ·intro a b ha hb hn'
  rw [G ⟨ha,hb,by omega⟩,if_neg (by omega),if_neg (by omega)]
  by_cases hh:14=14∧e.t=a∧e.id=b
  ·rw [if_pos hh]
  ·rw [if_neg hh,if_neg (by omega)]
   exact q.t0 a b ha hb (non hn' (fun x=>hh ⟨rfl,x.1,x.2⟩))
 ·intro x hx
  obtain⟨h1,h2⟩:=(mem x).1 hx
  have xo:=(q.ok x h1).1
  rw [G xo.q3,if_neg (by omega),if_neg (by omega),if_neg (by omega),if_neg (by omega)]
  exact q.s1 x h1
 ·intro a b ha hb hn'
  rw [G ⟨ha,hb,by omega⟩,if_neg (by omega)]
  by_cases hh:15=15∧e.v=a∧e.id=b
  ·rw [if_pos hh]
  ·rw [if_neg hh,if_neg (by omega),if_neg (by omega)]
   exact q.s0 a b ha hb (non hn' (fun x=>hh ⟨rfl,x.1,x.2⟩))
 ·intro d v hd hv
  rw [G ⟨hd,hv,by omega⟩]
  by_cases hh:e.d=d∧e.v=v
  ·rw [if_pos ⟨rfl,hh.1,hh.2⟩,← hh.1,← hh.2,hmm]
  ·rw [if_neg (fun x=>hh x.2),if_neg (by omega),if_neg (by omega),if_neg (by omega)]
   have:=cd d v
   rw [if_neg hh,Nat.add_zero] at this
   rw [← this]
   exact q.c d v hd hv
theorem J8 {h nx:Nat} (hh:aU h) (hn:aU nx):QI (bW [] (qk 2 0 0) (jg h nx)) h nx []:=by
 have u0:aU 0:=by unfold aU;omega
 have G:∀ {k a b:Nat},QK k a b→gQ (bW [] (qk 2 0 0) (jg h nx)) k a b=if 2=k∧0=a∧0=b then some (jg h nx) else none:=fun hq=>pG yx hq [] (yM _ _)
 refine⟨iK List.Pairwise.nil _ _,jq ((fun e he=>by cases he)) yx _,?_,hh,(fun e he=>by cases he),List.Pairwise.nil,(fun e he=>by cases he),?_,(fun e he=>by cases he),?_,(fun e he=>by cases he),?_,?_⟩
 ·have:=G yx
  rw [if_pos ⟨rfl,rfl,rfl⟩] at this
  unfold iD
  rw [show dE _ (qk 2 0 0)=_ from this]
  exact Ee hh hn
 ·intro k a hk ha _
  rw [G ⟨ha,u0,by omega⟩,if_neg (by omega)]
 ·intro a b ha hb _
  rw [G ⟨ha,hb,by omega⟩,if_neg (by omega)]
 ·intro a b ha hb _
  rw [G ⟨ha,hb,by omega⟩,if_neg (by omega)]
 ·intro d v hd hv
  rw [G ⟨hd,hv,by omega⟩,if_neg (by omega)]
  rfl
abbrev TE:=Nat × Nat × Nat
def oK (kk:Nat) (T:List TE):List aJ:=T.map (fun t=>(qk kk t.1 t.2.1,dJ t.2.2))
theorem Gh {α β:Type}{P:β→Prop}{f:β→α}:∀ {l:List α},(∀ x∈l,∃ t,P t∧x=f t)→∃ T:List β,l=T.map f∧∀ t∈T,P t:=by
  intro l
  induction l with
  | nil=>intro _;exact⟨[],rfl,fun t ht=>by cases ht⟩
  | cons a l ih =>
    intro h
    obtain⟨t,ht,rfl⟩:=h a List.mem_cons_self
    obtain⟨T,rfl,hT⟩:=ih (fun x hx=>h x (List.mem_cons_of_mem _ hx))
    exact⟨t :: T,rfl,fun s hs=>by
      rcases List.mem_cons.1 hs with rfl | hs
      · exact ht
      · exact hT s hs⟩
theorem OG {F:List aJ} (hr:dU F) {e:aJ} (he:e∈F):dE F e.1=some e.2:=by
 unfold dE
 rw [dU.find hr he]
 rfl
theorem get_mem {F:List aJ} (hr:dU F) {k v:List UInt8} (h:dE F k=some v):(k,v)∈F:=(pU F k hr).2 v h
theorem less2 {c:UInt8}{a b a' b':Nat} (ha:aU a) (ha':aU a') (hb:aU b) (hb':aU b') (h:aI (c :: (be 8 a ++ be 8 b)) (c :: (be 8 a' ++ be 8 b'))=true):a<a'∨(a=a'∧b<b'):=by
 unfold aU at ha ha' hb hb'
 have h1:aI (be 8 a ++ be 8 b) (be 8 a' ++ be 8 b')=true:=by
  have:=FT [c] (be 8 a ++ be 8 b) (be 8 a' ++ be 8 b')
  rw [show [c] ++ (be 8 a ++ be 8 b)=c :: (be 8 a ++ be 8 b) from rfl,show [c] ++ (be 8 a' ++ be 8 b')=c :: (be 8 a' ++ be 8 b') from rfl] at this
  rw [← this];exact h
 rw [BK 8 _ _ _ _ (by omega) (by omega)] at h1
 by_cases e:a=a'
 ·rw [if_pos e] at h1
  have h2:=BK 8 b b' [] [] (by omega) (by omega)
  rw [List.append_nil,List.append_nil] at h2
  rw [h2] at h1
  by_cases e2:b=b'
  ·rw [if_pos e2] at h1;cases h1
  ·rw [if_neg e2] at h1;exact .inr ⟨e,of_decide_eq_true h1⟩
 ·rw [if_neg e] at h1
  exact .inl (of_decide_eq_true h1)
theorem PS {F:List aJ}{h nx:Nat}{es:List QE} (q:QI F h nx es):∃ T:List TE,F.filter (fun e=>bI [113] e.1)=oK 14 T∧T.Pairwise (fun s t=>s.1<t.1∨(s.1=t.1∧s.2.1<t.2.1))∧∀ t,t∈T↔∃ e∈es,t=(e.t,e.id,e.k):=by
 obtain⟨T,hT,hP⟩:=Gh (P:=fun t:TE=>∃ e∈es,t=(e.t,e.id,e.k)) (f:=fun t:TE=>((qk 14 t.1 t.2.1,dJ t.2.2):aJ)) (l:=F.filter (fun e=>bI [113] e.1)) (fun x hx=>by
  obtain⟨hx,hb⟩:=List.mem_filter.1 hx
  obtain⟨k,a,b,hq,hk⟩:=q.key x hx
  rw [hk] at hb
  obtain rfl:=(JC hq _ _ hb).1 rfl
  have hg:=OG q.ris hx
  rw [hk] at hg
  have hg':gQ F 14 a b=some x.2:=hg
  by_cases hex:∃ e∈es,e.t=a∧e.id=b
  ·obtain⟨e,he,rfl,rfl⟩:=hex
   rw [q.t1 e he] at hg'
   exact⟨(e.t,e.id,e.k),⟨e,he,rfl⟩,Prod.ext hk (Option.some.inj hg').symm⟩
  ·rw [q.t0 a b hq.1 hq.2.1 (fun e he x=>hex ⟨e,he,x⟩)] at hg'
   cases hg')
 refine⟨T,hT,?_,fun t=>⟨hP t,?_⟩⟩
 ·have hr:dU (F.filter (fun e=>bI [113] e.1)):=List.Pairwise.filter _ q.ris
  rw [hT] at hr
  refine List.Pairwise.imp_of_mem ?_ (List.pairwise_map.1 hr)
  intro s t hs ht hl
  obtain⟨e,he,rfl⟩:=hP s hs
  obtain⟨e',he',rfl⟩:=hP t ht
  have o:=(q.ok e he).1
  have o':=(q.ok e' he').1
  simp only [zt] at hl
  exact less2 o.t o'.t o.id o'.id hl
 ·rintro⟨e,he,rfl⟩
  have o:=(q.ok e he).1
  have hm:=get_mem q.ris (q.t1 e he)
  have hm2:((qk 14 e.t e.id,dJ e.k):aJ)∈F.filter (fun e=>bI [113] e.1):=List.mem_filter.2 ⟨hm,by
   simp only
   rw [zt,fP]
   simp [wQ]⟩
  rw [hT] at hm2
  obtain⟨t,ht,hte⟩:=List.mem_map.1 hm2
  obtain⟨e',he',rfl⟩:=hP t ht
  have o':=(q.ok e' he').1
  obtain⟨h1,h2⟩:=Prod.mk.inj hte
  obtain⟨_,_,h3⟩:=(vX o'.q2 o.q2).1 h1
  rw [← jE q.inc he' he h3]
  exact ht
end Go.Proofs.YtglkmaalpammcaaGreat

/- queue, plain: the entries that live told by a list; how Unbond, Move, Less, Fewer, Drop turn it; what Due and From tell. -/
import Derived.Test.YtglkmaalpammcaaGreatQuP
namespace Go.Proofs.YtglkmaalpammcaaGreat
open Go.Gl Go.RowKit
set_option linter.unusedVariables false
set_option linter.unusedSimpArgs false
structure QE where
 k:Nat
 id:Nat
 d:Nat
 v:Nat
 t:Nat
 bs:List UInt8
def cq (es:List QE) (d v:Nat):Nat:=es.countP (fun e=>decide (e.d=d∧e.v=v))
def BsOk (e:QE):Prop:=(e.k=12∧∃ n2 n4 n5,bD n2∧bD n4∧bD n5∧e.bs=pF e.d e.v n2 e.t n4 n5)∨(e.k=13∧∃ n2 n3 n5 l,bD n2∧bD n3∧bD n5∧gu l∧e.bs=pq e.d e.v n2 n3 e.t n5 l)
structure pY (e:QE):Prop where
 id:bD e.id
 d:bD e.d
 v:bD e.v
 t:bD e.t
 bs:BsOk e
theorem Lh (N:Nat):(qh (pI N)).length≤256:=by
 have:=rG N
 unfold qh
 rw [List.length_append,bU,kw]
 omega
theorem OH (n0 n1 n2 n3 n4 n5:Nat) (l6:List Nat):(pq n0 n1 n2 n3 n4 n5 l6).length≤4096:=by
 have:=Lh (iO.N ⟨2,0,l6⟩)
 simp only [pq,dC,iO.lay,List.flatMap_cons,List.flatMap_nil,List.length_append,bU,if_true,List.length_nil,List.append_nil]
 rw [if_neg (by decide),if_neg (by decide)]
 omega
theorem pY.kk {e:QE} (h:pY e):e.k=12∨e.k=13:=by
 rcases h.bs with ⟨x,_⟩ | ⟨x,_⟩
 ·exact .inl x
 ·exact .inr x
theorem pY.len {e:QE} (h:pY e):e.bs.length≤4096:=by
 rcases h.bs with ⟨_,n2,n4,n5,_,_,_,x⟩ | ⟨_,n2,n3,n5,l,_,_,_,_,x⟩
 ·rw [x];exact Ro ..
 ·rw [x];exact OH ..
theorem pY.q1 {e:QE} (h:pY e):QK e.k e.id 0:=⟨h.id,by unfold bD;omega,by have:=h.kk;omega⟩
theorem pY.q2 {e:QE} (h:pY e):QK 14 e.t e.id:=⟨h.t,h.id,by omega⟩
theorem pY.q3 {e:QE} (h:pY e):QK 15 e.v e.id:=⟨h.v,h.id,by omega⟩
theorem pY.q4 {e:QE} (h:pY e):QK 17 e.d e.v:=⟨h.d,h.v,by omega⟩
theorem Hf:QK 2 0 0:=⟨by unfold bD;omega,by unfold bD;omega,by omega⟩
structure QI (F:List aN) (h nx:Nat) (es:List QE):Prop where
 ris:iD F
 key:GV F
 ch:kC F=(h,nx)
 hu:bD h
 ok:∀ e∈es,pY e∧e.id<nx
 inc:es.Pairwise (fun a b=>a.id<b.id)
 e1:∀ e∈es,gQ F e.k e.id 0=some e.bs
 e0:∀ k a,(k=12∨k=13)→bD a→(∀ e∈es,¬ (e.k=k∧e.id=a))→gQ F k a 0=none
 t1:∀ e∈es,gQ F 14 e.t e.id=some (gV e.k)
 t0:∀ a b,bD a→bD b→(∀ e∈es,¬ (e.t=a∧e.id=b))→gQ F 14 a b=none
 s1:∀ e∈es,gQ F 15 e.v e.id=some (gV e.k)
 s0:∀ a b,bD a→bD b→(∀ e∈es,¬ (e.v=a∧e.id=b))→gQ F 15 a b=none
 c:∀ d v,bD d→bD v→gQ F 17 d v=if cq es d v=0 then none else some (gV (cq es d v))
theorem qy:∀ {es:List QE},es.Pairwise (fun a b=>a.id<b.id)→∀ {x y:QE},x∈es→y∈es→x.id=y.id→x=y:=by
  intro es
  induction es with
  | nil=>intro _ x y hx;cases hx
  | cons a l ih =>
    intro h x y hx hy e
    have hp:=List.pairwise_cons.1 h
    rcases List.mem_cons.1 hx with rfl | hx1 <;> rcases List.mem_cons.1 hy with rfl | hy1
    · rfl
    · have:=hp.1 y hy1;omega
    · have:=hp.1 x hx1;omega
    · exact ih hp.2 hx1 hy1 e
theorem EZ (es:List QE) (d v:Nat):cq es d v≤es.length:=List.countP_le_length
theorem Ur (es:List QE) (e:QE) (d v:Nat):cq (es ++ [e]) d v=cq es d v+if e.d=d∧e.v=v then 1 else 0:=by
 unfold cq
 rw [List.countP_append,List.countP_cons,List.countP_nil]
 by_cases h:e.d=d∧e.v=v
 ·simp [h]
 ·rw [if_neg h]
  simp [h]
theorem xx {l:List QE}{i:Nat} (h:∀ x∈l,x.id≠i):l.filter (fun x=>decide (x.id≠i))=l:=List.filter_eq_self.2 (fun x hx=>by simpa using h x hx)
theorem TA:∀ {es:List QE},es.Pairwise (fun a b=>a.id<b.id)→∀ {e:QE},e∈es→∀ d v,cq es d v=cq (es.filter (fun x=>decide (x.id≠e.id))) d v+if e.d=d∧e.v=v then 1 else 0:=by
  intro es
  induction es with
  | nil=>intro _ e he;cases he
  | cons a l ih =>
    intro h e he d v
    have hp:=List.pairwise_cons.1 h
    by_cases hae:a.id=e.id
    · have hx:a=e:=qy h (List.mem_cons_self) he hae
      subst hx
      rw [List.filter_cons_of_neg (by simp),xx (fun x hx=>by have:=hp.1 x hx;omega)]
      unfold cq
      rw [List.countP_cons]
      by_cases hc:a.d=d∧a.v=v
      · simp [hc]
      · simp only [hc,decide_false,Bool.false_eq_true,if_false]
    · have hel:e∈l:=by
        rcases List.mem_cons.1 he with rfl | x
        · exact absurd rfl hae
        · exact x
      rw [List.filter_cons_of_pos (by simpa using hae)]
      have:=ih hp.2 hel d v
      unfold cq at this ⊢
      rw [List.countP_cons,List.countP_cons,this]
      omega
theorem Ko {F:List aN}{h nx:Nat}{es:List QE}{d v:Nat} (hd:gQ F 17 d v=if cq es d v=0 then none else some (gV (cq es d v))) (hu:bD (cq es d v)):sN F d v=cq es d v:=by
 unfold sN
 have:gz F (qk 17 d v)=gQ F 17 d v:=rfl
 rw [this,hd]
 by_cases h0:cq es d v=0
 ·rw [if_pos h0,h0];exact Pv
 ·rw [if_neg h0];exact AY hu
def AQ (F:List aN) (h nx:Nat) (e:QE):List aN:=fV (fV (fV (fV F (qk 2 0 0) (qJ h (nx+1))) (qk e.k e.id 0) e.bs) (qk 14 e.t e.id) (gV e.k)) (qk 15 e.v e.id) (gV e.k)
theorem g4 {F:List aN}{h nx:Nat}{e:QE} (he:pY e) {k a b:Nat} (hk:QK k a b):gQ (AQ F h nx e) k a b=if 15=k∧e.v=a∧e.id=b then some (gV e.k) else if 14=k∧e.t=a∧e.id=b then some (gV e.k) else if e.k=k∧e.id=a∧0=b then some e.bs else if 2=k∧0=a∧0=b then some (qJ h (nx+1)) else gQ F k a b:=by
 unfold AQ
 rw [xZ he.q3 hk _ (ul _),xZ he.q2 hk _ (ul _),xZ he.q1 hk _ he.len,xZ Hf hk _ (Eo _ _)]
theorem Vy {F:List aN}{h nx:Nat}{es:List QE} (q:QI F h nx es) {e:QE} (he:pY e) (hid:e.id=nx) (hn:nx<18446744073709551615) (hl:es.length<18446744073709551615):qf F e.k e.bs e.d e.v e.t=fV (AQ F h nx e) (qk 17 e.d e.v) (gV (cq es e.d e.v+1)):=by
 have hc:sN (AQ F h nx e) e.d e.v=cq es e.d e.v:=by
  refine Ko (h:=h) (nx:=nx) ?_ (by have:=EZ es e.d e.v;unfold bD;omega)
  have hk:=he.kk
  rw [g4 he he.q4,if_neg (by omega),if_neg (by omega),if_neg (by omega),if_neg (by omega)]
  exact q.c _ _ he.d he.v
 have e4:fV (fV (fV (A7 F) (qk e.k (kC F).2 0) e.bs) (qk 14 e.t (kC F).2) (gV e.k)) (qk 15 e.v (kC F).2) (gV e.k)=AQ F h nx e:=by
  unfold AQ A7
  rw [q.ch]
  simp only
  rw [hid,Nat.mod_eq_of_lt (by omega)]
 unfold qf
 rw [e4,hc,Nat.mod_eq_of_lt (by have:=EZ es e.d e.v;omega)]
 unfold rD
 rw [if_neg (by omega)]
theorem U8 {F:List aN}{h nx:Nat}{es:List QE} (q:QI F h nx es) {e:QE} (he:pY e) (hid:e.id=nx) (hn:nx<18446744073709551615) (hl:es.length<18446744073709551615):QI (qf F e.k e.bs e.d e.v e.t) h (nx+1) (es ++ [e]):=by
 rw [Vy q he hid hn hl]
 have hk:=he.kk
 have G:∀ {k a b:Nat},QK k a b→gQ (fV (AQ F h nx e) (qk 17 e.d e.v) (gV (cq es e.d e.v+1))) k a b=if 17=k∧e.d=a∧e.v=b then some (gV (cq es e.d e.v+1)) else if 15=k∧e.v=a∧e.id=b then some (gV e.k) else if 14=k∧e.t=a∧e.id=b then some (gV e.k) else if e.k=k∧e.id=a∧0=b then some e.bs else if 2=k∧0=a∧0=b then some (qJ h (nx+1)) else gQ F k a b:=fun hq=>by
  rw [xZ he.q4 hq _ (ul _),g4 he hq]
 have hmem:∀ x,x∈es ++ [e]→x∈es∨x=e:=fun x hx=>by simpa using hx
 have u0:bD 0:=by unfold bD;omega
 refine⟨?_,?_,?_,q.hu,?_,?_,?_,?_,?_,?_,?_,?_,?_⟩
 ·exact qM (qM (qM (qM (qM q.ris _ _) _ _) _ _) _ _) _ _
 ·exact sD (sD (sD (sD (sD q.key Hf _) he.q1 _) he.q2 _) he.q3 _) he.q4 _
 ·have:=G Hf
  rw [if_neg (by omega),if_neg (by omega),if_neg (by omega),if_neg (by omega),if_pos (by omega)] at this
  unfold kC
  rw [show gz _ (qk 2 0 0)=_ from this]
  exact Jj q.hu (by unfold bD;omega)
 ·intro x hx
  rcases hmem x hx with hx | rfl
  ·have:=q.ok x hx;exact⟨this.1,by omega⟩
  ·exact⟨he,by omega⟩
 ·refine List.pairwise_append.2 ⟨q.inc,by simp,fun x hx y hy=>?_⟩
  rw [List.mem_singleton.1 hy,hid]
  exact (q.ok x hx).2
 ·intro x hx
  rcases hmem x hx with hx | rfl
  ·have xo:=q.ok x hx
   have hxk:=xo.1.kk
   rw [G xo.1.q1,if_neg (by omega),if_neg (by omega),if_neg (by omega),if_neg (by omega),if_neg (by omega)]
   exact q.e1 x hx
  ·rw [G he.q1,if_neg (by omega),if_neg (by omega),if_neg (by omega),if_pos ⟨rfl,rfl,rfl⟩]
 ·intro k a hk' ha hn'
  rw [G ⟨ha,u0,by omega⟩,if_neg (by omega),if_neg (by omega),if_neg (by omega),if_neg (fun x=>hn' e (by simp) ⟨x.1,x.2.1⟩),if_neg (by omega)]
  exact q.e0 k a hk' ha (fun x hx=>hn' x (by simp [hx]))
 ·intro x hx
  rcases hmem x hx with hx | rfl
  ·have xo:=q.ok x hx
   rw [G xo.1.q2,if_neg (by omega),if_neg (by omega),if_neg (by omega),if_neg (by omega),if_neg (by omega)]
   exact q.t1 x hx
  ·rw [G he.q2,if_neg (by omega),if_neg (by omega),if_pos ⟨rfl,rfl,rfl⟩]
 ·intro a b ha hb hn'
  rw [G ⟨ha,hb,by omega⟩,if_neg (by omega),if_neg (by omega),if_neg (fun x=>hn' e (by simp) ⟨x.2.1,x.2.2⟩),if_neg (by omega),if_neg (by omega)]
  exact q.t0 a b ha hb (fun x hx=>hn' x (by simp [hx]))
 ·intro x hx
  rcases hmem x hx with hx | rfl
  ·have xo:=q.ok x hx
   rw [G xo.1.q3,if_neg (by omega),if_neg (by omega),if_neg (by omega),if_neg (by omega),if_neg (by omega)]
   exact q.s1 x hx
  ·rw [G he.q3,if_neg (by omega),if_pos ⟨rfl,rfl,rfl⟩]
 ·intro a b ha hb hn'
  rw [G ⟨ha,hb,by omega⟩,if_neg (by omega),if_neg (fun x=>hn' e (by simp) ⟨x.2.1,x.2.2⟩),if_neg (by omega),if_neg (by omega),if_neg (by omega)]
  exact q.s0 a b ha hb (fun x hx=>hn' x (by simp [hx]))
 ·intro d v hd hv
  rw [Ur]
  by_cases hc:e.d=d∧e.v=v
  ·obtain⟨rfl,rfl⟩:=hc
   rw [G he.q4,if_pos ⟨rfl,rfl,rfl⟩]
   simp
  ·rw [G ⟨hd,hv,by omega⟩,if_neg (fun x=>hc x.2),if_neg (by omega),if_neg (by omega),if_neg (by omega),if_neg (by omega),if_neg hc,Nat.add_zero]
   exact q.c d v hd hv
def chg (i:Nat) (bs:List UInt8) (x:QE):QE:=if x.id=i then { x with bs:=bs } else x
theorem gd3 {F:List aN}{e:QE} (he:pY e) {k a b:Nat} (hk:QK k a b):gQ (tZ F e.k e.id e.v e.t) k a b=if 15=k∧e.v=a∧e.id=b then none else if 14=k∧e.t=a∧e.id=b then none else if e.k=k∧e.id=a∧0=b then none else gQ F k a b:=by
 unfold tZ
 rw [ER he.q3 hk,ER he.q2 hk,ER he.q1 hk]
theorem U3 {F:List aN}{h nx:Nat}{es:List QE} (q:QI F h nx es) {e:QE} (hm:e∈es) (hl:es.length<18446744073709551615):QI (rX F e.k e.id e.d e.v e.t) h nx (es.filter (fun x=>decide (x.id≠e.id))):=by
 have he:=(q.ok e hm).1
 have hk:=he.kk
 have u0:bD 0:=by unfold bD;omega
 have cd:=TA q.inc hm
 have cself:=cd e.d e.v
 rw [if_pos ⟨rfl,rfl⟩] at cself
 have hcl:=EZ es e.d e.v
 have hc:sN (tZ F e.k e.id e.v e.t) e.d e.v=cq es e.d e.v:=by
  refine Ko (h:=h) (nx:=nx) ?_ (by unfold bD;omega)
  rw [gd3 he he.q4,if_neg (by omega),if_neg (by omega),if_neg (by omega)]
  exact q.c _ _ he.d he.v
 obtain⟨m,hmm⟩:∃ m,cq (es.filter (fun x=>decide (x.id≠e.id))) e.d e.v=m:=⟨_,rfl⟩
 rw [hmm] at cself
 have hF:rX F e.k e.id e.d e.v e.t=rD (tZ F e.k e.id e.v e.t) e.d e.v m:=by
  unfold rX
  rw [hc,if_pos (by omega),cself,Nat.add_sub_cancel]
 rw [hF]
 have G:∀ {k a b:Nat},QK k a b→gQ (rD (tZ F e.k e.id e.v e.t) e.d e.v m) k a b=if 17=k∧e.d=a∧e.v=b then (if m=0 then none else some (gV m)) else if 15=k∧e.v=a∧e.id=b then none else if 14=k∧e.t=a∧e.id=b then none else if e.k=k∧e.id=a∧0=b then none else gQ F k a b:=fun hq=>by
  unfold rD
  by_cases h0:m=0
  ·rw [if_pos h0,if_pos h0,ER he.q4 hq,gd3 he hq]
  ·rw [if_neg h0,if_neg h0,xZ he.q4 hq _ (ul _),gd3 he hq]
 have mem:∀ x,x∈es.filter (fun x=>decide (x.id≠e.id))↔x∈es∧x.id≠e.id:=fun x=>by rw [List.mem_filter,decide_eq_true_iff]
 have non:∀ {P:QE→Prop},(∀ x∈es.filter (fun x=>decide (x.id≠e.id)),¬ P x)→¬ P e→∀ x∈es,¬ P x:=fun hP he' x hx=>by
  by_cases hi:x.id=e.id
  ·rw [qy q.inc hx hm hi];exact he'
  ·exact hP x ((mem x).2 ⟨hx,hi⟩)
 refine⟨?_,?_,?_,q.hu,?_,?_,?_,?_,?_,?_,?_,?_,?_⟩
 ·unfold rD tZ
  split
  ·exact qE (qE (qE (qE q.ris _) _) _) _
  ·exact qM (qE (qE (qE q.ris _) _) _) _ _
 ·unfold rD tZ
  split
  ·exact su (su (su (su q.key _) _) _) _
  ·exact sD (su (su (su q.key _) _) _) he.q4 _
 ·have:=G Hf
  rw [if_neg (by omega),if_neg (by omega),if_neg (by omega),if_neg (by omega)] at this
  have h2:=q.ch
  unfold kC at h2 ⊢
  rw [show gz _ (qk 2 0 0)=_ from this]
  exact h2
 ·intro x hx
  exact q.ok x ((mem x).1 hx).1
 ·exact q.inc.filter _
 ·intro x hx
  obtain⟨h1,h2⟩:=(mem x).1 hx
  have xo:=(q.ok x h1).1
  have xk:=xo.kk
  rw [G xo.q1,if_neg (by omega),if_neg (by omega),if_neg (by omega),if_neg (by omega)]
  exact q.e1 x h1
 ·intro k a hk' ha hn'
  rw [G ⟨ha,u0,by omega⟩,if_neg (by omega),if_neg (by omega),if_neg (by omega)]
  by_cases hh:e.k=k∧e.id=a∧0=0
  ·rw [if_pos hh]
  ·rw [if_neg hh]
   exact q.e0 k a hk' ha (non hn' (fun x=>hh ⟨x.1,x.2,rfl⟩))
 ·intro x hx
  obtain⟨h1,h2⟩:=(mem x).1 hx
  have xo:=(q.ok x h1).1
  rw [G xo.q2,if_neg (by omega),if_neg (by omega),if_neg (by omega),if_neg (by omega)]
  exact q.t1 x h1
 ·intro a b ha hb hn'
  rw [G ⟨ha,hb,by omega⟩,if_neg (by omega),if_neg (by omega)]
  by_cases hh:14=14∧e.t=a∧e.id=b
  ·rw [if_pos hh]
  ·rw [if_neg hh,if_neg (by omega)]
   exact q.t0 a b ha hb (non hn' (fun x=>hh ⟨rfl,x.1,x.2⟩))
 ·intro x hx
  obtain⟨h1,h2⟩:=(mem x).1 hx
  have xo:=(q.ok x h1).1
  rw [G xo.q3,if_neg (by omega),if_neg (by omega),if_neg (by omega),if_neg (by omega)]
  exact q.s1 x h1
 ·intro a b ha hb hn'
  rw [G ⟨ha,hb,by omega⟩,if_neg (by omega)]
  by_cases hh:15=15∧e.v=a∧e.id=b
  ·rw [if_pos hh]
  ·rw [if_neg hh,if_neg (by omega),if_neg (by omega)]
   exact q.s0 a b ha hb (non hn' (fun x=>hh ⟨rfl,x.1,x.2⟩))
 ·intro d v hd hv
  rw [G ⟨hd,hv,by omega⟩]
  by_cases hh:e.d=d∧e.v=v
  ·rw [if_pos ⟨rfl,hh.1,hh.2⟩,← hh.1,← hh.2,hmm]
  ·rw [if_neg (fun x=>hh x.2),if_neg (by omega),if_neg (by omega),if_neg (by omega)]
   have:=cd d v
   rw [if_neg hh,Nat.add_zero] at this
   rw [← this]
   exact q.c d v hd hv
theorem PY {h nx:Nat} (hh:bD h) (hn:bD nx):QI (fV [] (qk 2 0 0) (qJ h nx)) h nx []:=by
 have u0:bD 0:=by unfold bD;omega
 have G:∀ {k a b:Nat},QK k a b→gQ (fV [] (qk 2 0 0) (qJ h nx)) k a b=if 2=k∧0=a∧0=b then some (qJ h nx) else none:=fun hq=>xZ Hf hq [] (Eo _ _)
 refine⟨qM List.Pairwise.nil _ _,sD ((fun e he=>by cases he)) Hf _,?_,hh,(fun e he=>by cases he),List.Pairwise.nil,(fun e he=>by cases he),?_,(fun e he=>by cases he),?_,(fun e he=>by cases he),?_,?_⟩
 ·have:=G Hf
  rw [if_pos ⟨rfl,rfl,rfl⟩] at this
  unfold kC
  rw [show gz _ (qk 2 0 0)=_ from this]
  exact Jj hh hn
 ·intro k a hk ha _
  rw [G ⟨ha,u0,by omega⟩,if_neg (by omega)]
 ·intro a b ha hb _
  rw [G ⟨ha,hb,by omega⟩,if_neg (by omega)]
 ·intro a b ha hb _
  rw [G ⟨ha,hb,by omega⟩,if_neg (by omega)]
 ·intro d v hd hv
  rw [G ⟨hd,hv,by omega⟩,if_neg (by omega)]
  rfl
abbrev TE:=Nat × Nat × Nat
def oV (kk:Nat) (T:List TE):List aN:=T.map (fun t=>(qk kk t.1 t.2.1,gV t.2.2))
theorem BZ {α β:Type}{P:β→Prop}{f:β→α}:∀ {l:List α},(∀ x∈l,∃ t,P t∧x=f t)→∃ T:List β,l=T.map f∧∀ t∈T,P t:=by
  intro l
  induction l with
  | nil=>intro _;exact⟨[],rfl,fun t ht=>by cases ht⟩
  | cons a l ih =>
    intro h
    obtain⟨t,ht,rfl⟩:=h a List.mem_cons_self
    obtain⟨T,rfl,hT⟩:=ih (fun x hx=>h x (List.mem_cons_of_mem _ hx))
    exact⟨t :: T,rfl,fun s hs=>by
      rcases List.mem_cons.1 hs with rfl | hs
      · exact ht
      · exact hT s hs⟩
theorem Dh {F:List aN} (hr:iD F) {e:aN} (he:e∈F):gz F e.1=some e.2:=by
 unfold gz
 rw [iD.find hr he]
 rfl
theorem get_mem {F:List aN} (hr:iD F) {k v:List UInt8} (h:gz F k=some v):(k,v)∈F:=(xg F k hr).2 v h
theorem less2 {c:UInt8}{a b a' b':Nat} (ha:bD a) (ha':bD a') (hb:bD b) (hb':bD b') (h:aJ (c :: (be 8 a ++ be 8 b)) (c :: (be 8 a' ++ be 8 b'))=true):a<a'∨(a=a'∧b<b'):=by
 unfold bD at ha ha' hb hb'
 have h1:aJ (be 8 a ++ be 8 b) (be 8 a' ++ be 8 b')=true:=by
  have:=La [c] (be 8 a ++ be 8 b) (be 8 a' ++ be 8 b')
  rw [show [c] ++ (be 8 a ++ be 8 b)=c :: (be 8 a ++ be 8 b) from rfl,show [c] ++ (be 8 a' ++ be 8 b')=c :: (be 8 a' ++ be 8 b') from rfl] at this
  rw [← this];exact h
 rw [GZ 8 _ _ _ _ (by omega) (by omega)] at h1
 by_cases e:a=a'
 ·rw [if_pos e] at h1
  have h2:=GZ 8 b b' [] [] (by omega) (by omega)
  rw [List.append_nil,List.append_nil] at h2
  rw [h2] at h1
  by_cases e2:b=b'
  ·rw [if_pos e2] at h1;cases h1
  ·rw [if_neg e2] at h1;exact .inr ⟨e,of_decide_eq_true h1⟩
 ·rw [if_neg e] at h1
  exact .inl (of_decide_eq_true h1)
theorem Ij {F:List aN}{h nx:Nat}{es:List QE} (q:QI F h nx es):∃ T:List TE,F.filter (fun e=>dh [113] e.1)=oV 14 T∧T.Pairwise (fun s t=>s.1<t.1∨(s.1=t.1∧s.2.1<t.2.1))∧∀ t,t∈T↔∃ e∈es,t=(e.t,e.id,e.k):=by
 obtain⟨T,hT,hP⟩:=BZ (P:=fun t:TE=>∃ e∈es,t=(e.t,e.id,e.k)) (f:=fun t:TE=>((qk 14 t.1 t.2.1,gV t.2.2):aN)) (l:=F.filter (fun e=>dh [113] e.1)) (fun x hx=>by
  obtain⟨hx,hb⟩:=List.mem_filter.1 hx
  obtain⟨k,a,b,hq,hk⟩:=q.key x hx
  rw [hk] at hb
  obtain rfl:=(G9 hq _ _ hb).1 rfl
  have hg:=Dh q.ris hx
  rw [hk] at hg
  have hg':gQ F 14 a b=some x.2:=hg
  by_cases hex:∃ e∈es,e.t=a∧e.id=b
  ·obtain⟨e,he,rfl,rfl⟩:=hex
   rw [q.t1 e he] at hg'
   exact⟨(e.t,e.id,e.k),⟨e,he,rfl⟩,Prod.ext hk (Option.some.inj hg').symm⟩
  ·rw [q.t0 a b hq.1 hq.2.1 (fun e he x=>hex ⟨e,he,x⟩)] at hg'
   cases hg')
 refine⟨T,hT,?_,fun t=>⟨hP t,?_⟩⟩
 ·have hr:iD (F.filter (fun e=>dh [113] e.1)):=List.Pairwise.filter _ q.ris
  rw [hT] at hr
  refine List.Pairwise.imp_of_mem ?_ (List.pairwise_map.1 hr)
  intro s t hs ht hl
  obtain⟨e,he,rfl⟩:=hP s hs
  obtain⟨e',he',rfl⟩:=hP t ht
  have o:=(q.ok e he).1
  have o':=(q.ok e' he').1
  simp only [EO] at hl
  exact less2 o.t o'.t o.id o'.id hl
 ·rintro⟨e,he,rfl⟩
  have o:=(q.ok e he).1
  have hm:=get_mem q.ris (q.t1 e he)
  have hm2:((qk 14 e.t e.id,gV e.k):aN)∈F.filter (fun e=>dh [113] e.1):=List.mem_filter.2 ⟨hm,by
   simp only
   rw [EO,jq]
   simp [BM]⟩
  rw [hT] at hm2
  obtain⟨t,ht,hte⟩:=List.mem_map.1 hm2
  obtain⟨e',he',rfl⟩:=hP t ht
  have o':=(q.ok e' he').1
  obtain⟨h1,h2⟩:=Prod.mk.inj hte
  obtain⟨_,_,h3⟩:=(zx o'.q2 o.q2).1 h1
  rw [← qy q.inc he' he h3]
  exact ht
theorem DW {v a b:Nat} (hv:bD v) (ha:bD a):dh (101 :: be 8 v) (qk 15 a b)=true↔a=v:=by
 rw [EX,jq]
 unfold dh
 rw [bU,List.take_left' (bU 8 a)]
 simp only [decide_true,Bool.true_and,decide_eq_true_iff]
 exact⟨fun h=>UR (by unfold bD at ha;omega) (by unfold bD at hv;omega) h,fun h=>by rw [h]⟩
theorem UC {F:List aN}{h nx:Nat}{es:List QE} (q:QI F h nx es) {v:Nat} (hv:bD v):∃ T:List TE,F.filter (fun e=>dh (101 :: be 8 v) e.1)=oV 15 T∧T.Pairwise (fun s t=>s.2.1<t.2.1)∧∀ t,t∈T↔∃ e∈es,e.v=v∧t=(e.v,e.id,e.k):=by
 obtain⟨T,hT,hP⟩:=BZ (P:=fun t:TE=>∃ e∈es,e.v=v∧t=(e.v,e.id,e.k)) (f:=fun t:TE=>((qk 15 t.1 t.2.1,gV t.2.2):aN)) (l:=F.filter (fun e=>dh (101 :: be 8 v) e.1)) (fun x hx=>by
  obtain⟨hx,hb⟩:=List.mem_filter.1 hx
  obtain⟨k,a,b,hq,hk⟩:=q.key x hx
  rw [hk] at hb
  obtain rfl:=(G9 hq _ _ hb).2 rfl
  have hav:=(DW hv hq.1).1 hb
  have hg:=Dh q.ris hx
  rw [hk] at hg
  have hg':gQ F 15 a b=some x.2:=hg
  by_cases hex:∃ e∈es,e.v=a∧e.id=b
  ·obtain⟨e,he,rfl,rfl⟩:=hex
   rw [q.s1 e he] at hg'
   exact⟨(e.v,e.id,e.k),⟨e,he,hav,rfl⟩,Prod.ext hk (Option.some.inj hg').symm⟩
  ·rw [q.s0 a b hq.1 hq.2.1 (fun e he x=>hex ⟨e,he,x⟩)] at hg'
   cases hg')
 refine⟨T,hT,?_,fun t=>⟨hP t,?_⟩⟩
 ·have hr:iD (F.filter (fun e=>dh (101 :: be 8 v) e.1)):=List.Pairwise.filter _ q.ris
  rw [hT] at hr
  refine List.Pairwise.imp_of_mem ?_ (List.pairwise_map.1 hr)
  intro s t hs ht hl
  obtain⟨e,he,hv1,rfl⟩:=hP s hs
  obtain⟨e',he',hv2,rfl⟩:=hP t ht
  have o:=(q.ok e he).1
  have o':=(q.ok e' he').1
  simp only [EX] at hl
  have:=less2 o.v o'.v o.id o'.id hl
  show e.id<e'.id
  omega
 ·rintro⟨e,he,hev,rfl⟩
  have o:=(q.ok e he).1
  have hm:=get_mem q.ris (q.s1 e he)
  have hm2:((qk 15 e.v e.id,gV e.k):aN)∈F.filter (fun e=>dh (101 :: be 8 v) e.1):=List.mem_filter.2 ⟨hm,(DW hv o.v).2 hev⟩
  rw [hT] at hm2
  obtain⟨t,ht,hte⟩:=List.mem_map.1 hm2
  obtain⟨e',he',_,rfl⟩:=hP t ht
  have o':=(q.ok e' he').1
  obtain⟨h1,h2⟩:=Prod.mk.inj hte
  obtain⟨_,_,h3⟩:=(zx o'.q3 o.q3).1 h1
  rw [← qy q.inc he' he h3]
  exact ht
end Go.Proofs.YtglkmaalpammcaaGreat

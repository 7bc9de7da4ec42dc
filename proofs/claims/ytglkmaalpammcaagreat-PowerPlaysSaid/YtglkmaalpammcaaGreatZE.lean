/- Parts of the proof, one behind the other: KvD, KvB, KvE, KvX, KvY, KvH, KvL, KvSr, KForm, SpecK, KEight, KFirst, KEq, KMake, RPut, EWr, EWr2, EWr3, Grow, Make, NLib, NPlain, NTrim, Len64, NBits, NBytes, EWrN, NumT, RRdr, ERd, ERd2, NFrom, ERdN, ERdP, ERdS, RStp, RecP, RecG, BkP, Pw0, KPlain, BEq, KNum, KPlain2, PwP, StI, StI1, KRead, PwT, SepI, PwC, PwR0, EKnown, Thr, ThrR, RecF. -/
import Derived.Test.YtglkmaalpammcaaGreatZD
import Derived.Test.YtglkmaalpammcaaGreatZC
import Derived.Test.YtglkmaalpammcaaGreatZA
import Derived.Deep.WholeRow
import Derived.KernelRfl
import Derived.Deep.RegionLaw
import Derived.Deep.DrawnRows
import Derived.Deep.OwnRows
import Derived.Shelf.Strconv.Itoa0
import Derived.Test.YtglkmaalpammcaaGreatProg
import Derived.Lib.ItoaNum
import Derived.LoopN
import Derived.StillTailTactics
import Derived.Test.YtglkmaalpammcaaGreatZB
import Derived.Lib.BufferRead
import Derived.Deep.DeepCutAuto
import Derived.Deep.LoopGhost
import Derived.Deep.RegionHeld3
set_option maxHeartbeats 64000000
set_option linter.unusedSimpArgs false
set_option linter.unusedVariables false
set_option maxRecDepth 100000
namespace Go.Proofs.YtglkmaalpammcaaGreat
open Go.Gl Go.RowKit
theorem Ew {R:List PV} (ok:gu (aH R)):(jO R [] []).map EV.ent=(aH R).flatten:=zY ok
theorem C9 {w:World}{sg mg:Nat}{vo jv:Value}{R:List PV}{J:List JV}{n:Int} (h:KM w sg mg vo R jv J n) (ok:gu (aH R)) (hn:R.length≤1000000) (hc:(aH R).flatten.length≤100000000) :
  Calls Tryz.prog 20 #[.pointer (some ⟨sg,0,none⟩)] w fun e w'=>∃ v L,e = .returned v∧qY w w' v L∧ae ai w w'∧L.map EV.ent=(aH R).flatten:=by
 have hLL:(jO R [] []).length≤100000000:=by have:=congrArg List.length (Ew ok);rw [List.length_map] at this;omega
 rw [← Ew ok]
 (refine kM _ Tryz.func20 rfl ?_;simp only [Tryz.ntmps20,List.size_toArray,List.length_cons,List.length_nil,Nat.reduceAdd,Nat.reduceSub,Array.replicate_succ,Array.replicate_zero,List.push_toArray,List.append_toArray,List.nil_append,List.cons_append])
 refine wpIn_seq ?_
 refine bT (d := .region 0 (aJ 0 Tryz.f20) false) (by kernel_rfl) ?_
 refine RW.wpIn (dm0 ?_) (by kernel_rfl)
 intro w1 e1
 subst e1
 refine bI ?_
 refine wpIn_seq ?_
 refine bT (d := .region 1 (aJ 1 Tryz.f20) false) (by kernel_rfl) ?_
 refine RW.wpIn (dm1 ?_) (by kernel_rfl)
 intros
 rename_i ob w2 e2 h2 m2
 refine bI ?_
 have k2:=h.keep0 m2
 refine wpIn_seq ?_
 refine wpIn_seq ?_
 refine bT (d := .region 2 (aJ 2 Tryz.f20) false) (by kernel_rfl) ?_
 refine RW.wpIn (dm2 k2.cells.1 (zF k2.pm (Rd.nil w2) (Rd.nil w2) (by simp) (by simp)) ?_) (by kernel_rfl)
 intros
 rename_i m bf bt fv tv w3 hr
 refine bI ?_
 obtain⟨wp,m3,g3,g4,g5,f3,f4⟩:=hr
 have hlo:=lt_of_heap h2
 have s2:=m2.size
 have s3:=m3.size
 have hob3:=m3.heap h2 (fun x=>x)
 have nU:¬ wZ mg vo R m bf bt fv tv ob:=fun x=>by
  rcases x with (x | x | x | x | x) | x | x
  ·have:=h.pm.lt ob x;omega
  ·have:=h.pm.dlt ob x;omega
  ·omega
  ·omega
  ·have:=f3 ob x;omega
  ·omega
  ·have:=f4 ob x;omega
 have hI0:nM ai (fun _=>False) (fun _ => .deferred none) w1 (jO R [] []) ob 0 (wZ mg vo R m bf bt fv tv) w3 (.slice none 0 0) [] :=
  ⟨hob3,fun k x=>x.elim,⟨rfl,.inl ⟨rfl,rfl⟩⟩,fun e he=>(List.not_mem_nil he).elim,rfl,nU,fun k x=>x.elim,fun k hk=>by simp [Value.ownBlock] at hk,fun k ⟨e,he,_⟩=>(List.not_mem_nil he).elim,by omega,fun k x=>x.elim,fun x=>x,m2.then0 m3,fun k x=>x.elim⟩
 refine wpIn_block ?_
 refine qC (by rfl) (enters_of Tryz.func159 (by kernel_rfl) rfl) (xx wp ok hn (by simp)) (ae.refl _ _) wp.lt (oL _ _) (fun i U args W1 hA=>by obtain⟨e,kv,vv,_,rfl,_⟩:=hA;rfl)
  (fun i U Wr=>i≤(jO R [] []).length∧∃ v L,nM ai (fun _=>False) (fun _ => .deferred none) w1 (jO R [] []) ob i U Wr v L)
  (fun c i U Wr=>False)
  ?_ ?_ ⟨Nat.zero_le _,_,_,hI0⟩ ?_ ?_ ?_
 ·rintro i U U' A B' ⟨h1,v,L,h3⟩ hm hus hsub
  exact⟨h1,v,L,h3.frm (by omega) hm hsub⟩
 ·rintro c i U U' A B' h1 hm hus hsub
  exact h1
 ·-- one round
  intro lp i U args Wr hlp hUlp hi _ ⟨e,kv,vv,hei,hargs,hok,hov,hkU,hvU,hkv,hkB,hvB⟩ hUs hwr _ ⟨hin,v,L,hI⟩ hab
  subst hargs
  obtain⟨ak,ck,rfl,_⟩:=hok.rd.form
  obtain⟨av,cv,rfl,_⟩:=hov.rd.form
  simp only [iT,List.setIfInBounds_toArray,List.set_cons_succ,List.set_cons_zero]
  refine wpIn_seq ?_
  refine bT (d := .region 3 (aJ 3 Tryz.f20) false) (by kernel_rfl) ?_
  refine RW.wpIn (dm3 ?_) (by kernel_rfl)
  intro w4 e4
  subst e4
  refine bI ?_
  refine bT (d := .region 4 (aJ 4 Tryz.f20) false) (by kernel_rfl) ?_
  refine RW.wpIn (dm4 ?_) (by kernel_rfl)
  intro w4 e4
  subst e4
  refine bI ?_
  refine⟨ae.refl _ _,?_⟩
  intro W2 m2' _
  have hI2:=hI.frm (by omega) (B:=W2) (base:=w3.heap.size) (U':=fun k=>U k∨gV #[.slice ak e.k.length ck,.slice av e.v.length cv] k) (m2'.mono (fun k _ hk=>by subst hk;exact⟨.inl hUlp,.inr hlp⟩)) (fun k hk => .inl hk)
  have hok2:=hok.keep m2' (fun k hk x=>hkU k hk (x▸hUlp))
  have hov2:=hov.keep m2' (fun k hk x=>hvU k hk (x▸hUlp))
  have hUs2:∀ k,U k→k<W2.heap.size:=fun k hk=>Nat.lt_of_lt_of_le (hUs k hk) m2'.size
  have hlen:L.length=i:=by
   have:=congrArg List.length hI2.eq
   rw [List.length_map,List.length_map,List.length_take] at this
   omega
  have hsz2:w4.heap.size≤W2.heap.size:=m2'.size
  refine wpIn_block ?_
  refine bT (d := .region 5 (aJ 5 Tryz.f20) false) (by kernel_rfl) ?_
  refine RW.wpIn (dm5 hI2.hob hI2.row (by omega) (fun x=>(hI2.vb ob x).2.1 rfl) ?_) (by kernel_rfl)
  intros
  rename_i v8 w8 w9 o8 m8 f8 h9
  refine iI ?_
  obtain⟨hS,hM,_⟩:=hI2.step0 hlen hei hUs2 hI2.mods.size hkU hvU (fun k hk=>by have:=hkB k hk;omega) (fun k hk=>by have:=hvB k hk;omega) hok2 hov2 o8 m8 f8 h9
  exact⟨hM,hi,_,_,hS⟩
 ·-- all have come
  rintro D U W5 hD hUD hus ⟨h1,v,L,h3⟩ hdef
  refine iI ?_
  refine bI ?_
  refine wpIn_seq ?_
  refine bT (d := .region 6 (aJ 6 Tryz.f20) false) (by kernel_rfl) ?_
  refine RW.wpIn (dm6 (ag h3.hob 0) ?_) (by kernel_rfl)
  intros
  rename_i w6 e6
  subst e6
  refine bI ?_
  refine wpIn_ret ?_
  refine iq hdef (results_tmp rfl _ _ _) ?_
  obtain⟨g,gm⟩:=h3.got (dJ _ D _) (fun k hk=>by subst hk;exact⟨hUD,by omega⟩)
  refine⟨v,L,rfl,g,gm,?_⟩
  rw [h3.eq,List.take_length]
 ·rintro D c i U W5 hD hUD hus hi h1 hdef
  exact h1.elim
end Go.Proofs.YtglkmaalpammcaaGreat
namespace Go.Proofs.YtglkmaalpammcaaGreat
open Go.Gl Go.RowKit
end Go.Proofs.YtglkmaalpammcaaGreat
namespace Go.Proofs.YtglkmaalpammcaaGreat
open Go.Gl Go.RowKit
end Go.Proofs.YtglkmaalpammcaaGreat
namespace Go.Proofs.YtglkmaalpammcaaGreat
open Go.Gl Go.RowKit
theorem nD {ps:Pgs} (ok:gu ps):ps.length≤ps.flatten.length:=by
  have key:∀ qs:Pgs,(∀ p∈qs,p≠[])→qs.length≤qs.flatten.length:=fun qs=>by
    induction qs with
    | nil=>intro _;simp
    | cons q qs ih =>
      intro h
      have h1:=ih (fun p hp=>h p (List.mem_cons_of_mem _ hp))
      have h2:=h q (List.mem_cons_self ..)
      have h3:q.length≠0:=fun e=>h2 (List.eq_nil_of_length_eq_zero e)
      rw [List.flatten_cons,List.length_append,List.length_cons]
      omega
  exact key ps ok.ne
theorem GN {l:List aN} (h:fM l) (k v:List UInt8):(insL l k v).length≤l.length+1:=by
 have h3:=congrArg List.length (sU h k)
 rw [List.length_append,List.length_append] at h3
 have h4:(insL l k v).length=(l.filter (fun e=>aB e.1 k)).length+((l.filter (fun e=>aB k e.1)).length+1):=by unfold insL;rw [List.length_append,List.length_cons]
 rw [h4]
 omega
theorem GH {l:List aN} (h:fM l) (k:List UInt8):(gJ l k).length≤l.length:=by
 have h3:=congrArg List.length (sU h k)
 rw [List.length_append,List.length_append] at h3
 have h4:(gJ l k).length=(l.filter (fun e=>aB e.1 k)).length+(l.filter (fun e=>aB k e.1)).length:=by unfold gJ;rw [List.length_append]
 rw [h4]
 omega
end Go.Proofs.YtglkmaalpammcaaGreat
namespace Go.Proofs.YtglkmaalpammcaaGreat
open Go.Gl Go.RowKit
theorem KS.made {sg mg:Nat}{vo:Value}{R:List PV}{k:Nat} (h:KS sg mg vo R (.slice none 0 0) [] k):k=sg∨MS mg vo R k:=by
 rcases h with h | h | h | ⟨q,hq,_⟩
 ·exact .inl h
 ·exact .inr h
 ·simp [Value.ownBlock] at h
 ·exact (List.not_mem_nil hq).elim
theorem KD.made {R:List PV}{k:Nat} (h:KD R [] k):MD R k:=by
 rcases h with h | ⟨q,hq,_⟩
 ·exact h
 ·exact (List.not_mem_nil hq).elim
end Go.Proofs.YtglkmaalpammcaaGreat
namespace Go.Proofs.YtglkmaalpammcaaGreat
open Go.Gl Go.RowKit
def JU (J:List JV):List (List sD):=(J.map (fun q=>q.us.map (·.u))).reverse
def oW (J:List JV):Nat:=(J.map (fun q=>q.us.length)).sum
theorem Dy (ls:List (List sD)):∀ F,(nX ls F).length=ls.length:=by
 induction ls with
 | nil=>intro F;rfl
 | cons l ls ih=>intro F;simp [nX,ih]
theorem J4 (J:List JV):(JU J).length=J.length:=by simp [JU]
theorem AV (A:List JV) (q:JV):JU (A ++ [q])=q.us.map (·.u) :: JU A:=by simp [JU]
theorem yN (A:List JV) (q:JV):oW (A ++ [q])=oW A+q.us.length:=by simp [oW]
theorem Bg {J:List JV}{q:JV} (h:q∈J):q.us.length≤oW J:=by
  induction J with
  | nil=>cases h
  | cons a J ih =>
    have e:oW (a :: J)=a.us.length+oW J:=by simp [oW]
    rcases List.mem_cons.1 h with rfl | h
    · omega
    · have:=ih h;omega
def KV (w:World) (sg:Nat) (F:List aN) (Ws:List (List aN)) (n p:Nat) (S D:Nat→Prop):Prop :=
 ∃ mg vo R jv J,KM w sg mg vo R jv J (n:Int)∧gu (aH R)∧(aH R).flatten=F∧nX (JU J) F=Ws∧J.length≤16∧F.length+oW J≤p∧S=KS sg mg vo R jv J∧D=KD R J
theorem KV.ris {w:World}{sg:Nat}{F:List aN}{Ws:List (List aN)}{n p:Nat}{S D:Nat→Prop} (h:KV w sg F Ws n p S D):fM F:=by
 obtain⟨mg,vo,R,jv,J,km,ok,rfl,_⟩:=h
 exact ok.ris
theorem KV.lt {w:World}{sg:Nat}{F:List aN}{Ws:List (List aN)}{n p:Nat}{S D:Nat→Prop} (h:KV w sg F Ws n p S D):(∀ k,S k→k<w.heap.size)∧(∀ k,D k→k<w.heap.size)∧S sg:=by
 obtain⟨mg,vo,R,jv,J,km,ok,hf,hw,hj,hp,rfl,rfl⟩:=h
 exact⟨km.lt,km.dlt,.inl rfl⟩
theorem KV.keep {w w':World}{sg:Nat}{F:List aN}{Ws:List (List aN)}{n p:Nat}{S D T:Nat→Prop} (h:KV w sg F Ws n p S D) (hm:ae T w w') (h1:∀ k,S k→¬ T k) (h2:∀ k,D k→¬ T k):KV w' sg F Ws n p S D:=by
 obtain⟨mg,vo,R,jv,J,km,ok,hf,hw,hj,hp,rfl,rfl⟩:=h
 exact⟨mg,vo,R,jv,J,km.keep hm h1 h2,ok,hf,hw,hj,hp,rfl,rfl⟩
theorem KV.keep0 {w w':World}{sg:Nat}{F:List aN}{Ws:List (List aN)}{n p:Nat}{S D:Nat→Prop} (h:KV w sg F Ws n p S D) (hm:ae ai w w'):KV w' sg F Ws n p S D:=h.keep hm (fun _ _ x=>x) (fun _ _ x=>x)
theorem KV.more {w:World}{sg:Nat}{F:List aN}{Ws:List (List aN)}{n p p':Nat}{S D:Nat→Prop} (h:KV w sg F Ws n p S D) (hp':p≤p'):KV w sg F Ws n p' S D:=by
 obtain⟨mg,vo,R,jv,J,km,ok,hf,hw,hj,hp,hs,hd⟩:=h
 exact⟨mg,vo,R,jv,J,km,ok,hf,hw,hj,by omega,hs,hd⟩
theorem KV.len {w:World}{sg:Nat}{F:List aN}{Ws:List (List aN)}{n p:Nat}{S D:Nat→Prop} (h:KV w sg F Ws n p S D):F.length≤p∧Ws.length≤16:=by
 obtain⟨mg,vo,R,jv,J,km,ok,hf,hw,hj,hp,hs,hd⟩:=h
 exact⟨by omega,by rw [← hw,Dy,J4];exact hj⟩
def Bl (w w':World) (sg:Nat) (S D:Nat→Prop) (F':List aN) (Ws':List (List aN)) (n' p':Nat):Prop :=
 ∃ S' D',KV w' sg F' Ws' n' p' S' D'∧ae S w w'∧(∀ k,S' k→S k∨w.heap.size≤k)∧(∀ k,D' k→D k∨w.heap.size≤k)
theorem zT {w w':World}{sg mg:Nat}{vo jv vo' jv':Value}{R R':List PV}{J J':List JV}{n' p':Nat} (t:KT w w' sg mg vo R jv J vo' R' jv' J' (n':Int)) (ok:gu (aH R')) (hj:J'.length≤16) (hp:(aH R').flatten.length+oW J'≤p') {F':List aN}{Ws':List (List aN)} (hf:(aH R').flatten=F') (hw:nX (JU J') F'=Ws') :
  Bl w w' sg (KS sg mg vo R jv J) (KD R J) F' Ws' n' p' :=
 ⟨_,_,⟨mg,vo',R',jv',J',t.km,ok,hf,hw,hj,by rw [← hf];exact hp,rfl,rfl⟩,t.mods,t.ks,t.kd⟩
theorem AA {w:World}{sg mg:Nat}{vo jv:Value}{R:List PV}{J:List JV}{n:Int} (h:KM w sg mg vo R jv J n) (ok:gu (aH R)) {k v:List UInt8} (hg:lX (aH R) k=some v):v.length≤1000000:=by
 rw [tu ok] at hg
 have hm:=(ui (aH R).flatten k ok.ris).2 v hg
 obtain⟨l,hl,he⟩:=List.mem_flatten.1 hm
 obtain⟨p,hp,rfl⟩:=List.mem_map.1 hl
 obtain⟨e,hee,hev⟩:=List.mem_map.1 he
 have:=(h.pm.ents p hp e hee).lv
 have h2:e.v=v:=congrArg Prod.snd hev
 rw [← h2]
 exact this
theorem DF {ps:Pgs} (ok:gu ps) (k:List UInt8):(bz ps k).2.2=(iy ps.flatten k).isSome:=by
 rw [← tu ok]
 unfold lX
 cases (bz ps k).2.2 <;> rfl
theorem uw {J J':List JV}{k:List UInt8}{F F':List aN} (old:Option (List UInt8)) (h:vJ J J' k old) (hu:qp ⟨k,old⟩ F'=F):nX (JU J') F'=nX (JU J) F∧J'.length=J.length∧oW J'≤oW J+1:=by
 rcases h with ⟨rfl,rfl⟩ | ⟨A,q0,v,x,rfl,rfl,hx⟩
 ·exact⟨rfl,rfl,by omega⟩
 ·refine⟨?_,by simp,?_⟩
  ·rw [AV,AV,List.map_append,List.map_singleton,hx]
   exact BF hu _ _
  ·rw [yN,yN,List.length_append,List.length_singleton]
   omega
theorem hNew (w:World):Calls Tryz.prog 12 #[] w fun e w'=>∃ sg S D,e = .returned (.pointer (some ⟨sg,0,none⟩))∧KV w' sg [] [] 0 0 S D∧ae ai w w'∧(∀ k,S k→w.heap.size≤k)∧(∀ k,¬ D k):=by
 refine (EX w).mono ?_
 rintro e w' ⟨sg,mg,rfl,km,m,g1,g2⟩
 refine⟨sg,_,_,rfl,⟨mg,_,[],_,[],km,⟨List.Pairwise.nil,fun p hp=>(List.not_mem_nil hp).elim,fun p hp=>(List.not_mem_nil hp).elim⟩,rfl,rfl,by simp,by simp [oW],rfl,rfl⟩,m,fun k hk=>?_,fun k hk=>?_⟩
 ·rcases hk.made with rfl | hk
  ·exact g1
  ·rcases hk with rfl | hk | ⟨p,hp,_⟩
   ·exact g2
   ·simp [Value.ownBlock] at hk
   ·exact (List.not_mem_nil hp).elim
 ·obtain⟨p,hp,_⟩:=hk.made
  exact (List.not_mem_nil hp).elim
section
variable {w:World}{sg n p:Nat}{F:List aN}{Ws:List (List aN)}{S D:Nat→Prop}
theorem hSet {q u:Value}{ks vs:List UInt8} (h:KV w sg F Ws n p S D) (hq:Rd w q ks) (hu:Rd w u vs) (hqs:Off S q ks) (hus:Off S u vs) (hn:n≤1000000000000) (hp:p≤100000) :
  Calls Tryz.prog 74 #[.pointer (some ⟨sg,0,none⟩),q,u] w fun e w'=>e = .returned (.int .i64 (gU ks vs:Nat))∧Bl w w' sg S D (if gU ks vs=0 then insL F ks vs else F) Ws (n+1) (p+2):=by
 obtain⟨mg,vo,R,jv,J,km,ok,rfl,rfl,hj,hpp,rfl,rfl⟩:=h
 have hb:=nD ok
 rw [dW] at hb
 refine (EU km hq hu hqs hus (by omega) (by omega) ok (by omega) (by have:cnt (aH R)=(aH R).flatten.length:=rfl;omega) (by omega) (fun q hq=>by have:=Bg hq;omega) (fun v hv=>AA km ok hv)).mono ?_
 rintro e w' ⟨rfl,⟨h0,t⟩ | ⟨h0,vo',R',J',t,e1,nt⟩⟩
 ·refine⟨rfl,?_⟩
  rw [if_neg h0]
  exact zT t ok hj (by omega) rfl rfl
 ·refine⟨rfl,?_⟩
  rw [if_pos h0]
  rw [tu ok] at nt
  obtain⟨s1,s2,s3⟩:=uw _ nt (Fh ok.ris ks vs)
  have ef:(aH R').flatten=insL (aH R).flatten ks vs:=by rw [e1];exact xK ok _ _
  refine zT t (by rw [e1];exact Ig ok _ _) (by omega) ?_ ef s1
  rw [ef]
  have:=GN ok.ris ks vs
  omega
theorem Iu {q:Value}{ks:List UInt8} (h:KV w sg F Ws n p S D) (hq:Rd w q ks) (hqs:Off S q ks) (lk:ks.length≤1000000) (hn:n≤1000000000000) (hp:p≤100000) :
  Calls Tryz.prog 145 #[.pointer (some ⟨sg,0,none⟩),q] w fun e w'=>e = .returned (.bool (iy F ks).isSome)∧Bl w w' sg S D (gJ F ks) Ws (n+1) (p+2):=by
 obtain⟨mg,vo,R,jv,J,km,ok,rfl,rfl,hj,hpp,rfl,rfl⟩:=h
 have hb:=nD ok
 rw [dW] at hb
 refine (Ag km hq hqs lk (by omega) (by omega) ok (by omega) (by have:cnt (aH R)=(aH R).flatten.length:=rfl;omega) (by omega) (fun q hq=>by have:=Bg hq;omega) (fun v hv=>AA km ok hv)).mono ?_
 rintro e w' ⟨rfl,vo',R',J',t,e1,nt⟩
 rw [DF ok]
 refine⟨rfl,?_⟩
 rw [tu ok] at nt
 obtain⟨s1,s2,s3⟩:=uw _ nt (Gt ok.ris ks)
 have ef:(aH R').flatten=gJ (aH R).flatten ks:=by rw [e1];exact xq ok _
 refine zT t (by rw [e1];exact IP ok _) (by omega) ?_ ef s1
 rw [ef]
 have:=GH ok.ris ks
 omega
theorem hOps (h:KV w sg F Ws n p S D) (hn:n≤1000000000000):Calls Tryz.prog 67 #[.pointer (some ⟨sg,0,none⟩)] w fun e w'=>e = .returned (.int .i64 (n:Nat))∧w'=w:=by
 obtain⟨mg,vo,R,jv,J,km,ok,rfl,rfl,hj,hpp,rfl,rfl⟩:=h
 exact FC km (by omega) (by omega)
theorem hDump (h:KV w sg F Ws n p S D) (hp:p≤100000):Calls Tryz.prog 20 #[.pointer (some ⟨sg,0,none⟩)] w fun e w'=>∃ v L,e = .returned v∧qY w w' v L∧ae ai w w'∧L.map EV.ent=F:=by
 obtain⟨mg,vo,R,jv,J,km,ok,rfl,rfl,hj,hpp,rfl,rfl⟩:=h
 have hb:=nD ok
 rw [dW] at hb
 exact C9 km ok (by omega) (by omega)
end
theorem Bd {R:List PV} (ok:gu (aH R)) (xs:List UInt8):(nK R xs).map EV.ent=(aH R).flatten.filter (fun e=>bF xs e.1):=by
  have h1:(jO R xs []).map EV.ent=(aH R).flatten.filter (fun e => !aB e.1 xs):=by
    have:=Am ok xs []
    rw [show (jO R xs []).map EV.ent=ents (jO R xs []) from rfl,this]
    refine List.filter_congr (fun e _=>?_)
    simp [btw]
  have h2:∀ l:List EV,(l.takeWhile (fun e=>bF xs e.k)).map EV.ent=(l.map EV.ent).takeWhile (fun e=>bF xs e.1):=fun l=>by
    induction l with
    | nil=>rfl
    | cons a l ih =>
      have ha:(EV.ent a).1=a.k:=rfl
      rw [List.map_cons,List.takeWhile_cons,List.takeWhile_cons,ha]
      cases bF xs a.k with
      | true=>simp only [if_true,List.map_cons,ih]
      | false=>rfl
  unfold nK
  rw [h2,h1]
  exact zX ok.ris xs
section
variable {w:World}{sg n p:Nat}{F:List aN}{Ws:List (List aN)}{S D:Nat→Prop}
end
end Go.Proofs.YtglkmaalpammcaaGreat
namespace Go.Proofs.YtglkmaalpammcaaGreat
open Go.Gl Go.RowKit
def KL (w0 w:World) (sg:Nat) (F:List aN) (Ws:List (List aN)) (n p:Nat) (Q:Nat→Prop):Prop :=
 ∃ S D,KV w sg F Ws n p S D∧(∀ k,Q k→¬ S k∧¬ D k∧k<w.heap.size)∧(∀ k,k<w0.heap.size→Q k)∧ae ai w0 w
def K2 (w0 w:World) (sg:Nat) (F:List aN) (Ws:List (List aN)) (n p:Nat) (sg2:Nat) (F2:List aN) (Ws2:List (List aN)) (n2 p2:Nat) (Q:Nat→Prop):Prop :=
 ∃ S D S2 D2,KV w sg F Ws n p S D∧KV w sg2 F2 Ws2 n2 p2 S2 D2∧(∀ k,Q k→¬ S k∧¬ D k∧¬ S2 k∧¬ D2 k∧k<w.heap.size)∧(∀ k,k<w0.heap.size→Q k)∧(∀ k,S k→¬ S2 k)∧(∀ k,D k→¬ S2 k)∧(∀ k,D2 k→¬ S k)∧ae ai w0 w
theorem Bl.refl {w:World}{sg n p:Nat}{F:List aN}{Ws:List (List aN)}{S D:Nat→Prop} (h:KV w sg F Ws n p S D):Bl w w sg S D F Ws n p:=⟨S,D,h,ae.refl _ _,fun _ => .inl,fun _ => .inl⟩
def CC (f:FuncId) (args:Array Value) (w:World) (sg:Nat) (F:List aN) (Ws:List (List aN)) (n p:Nat) (Q:Nat→Prop) (r:Value) (F':List aN) (Ws':List (List aN)) (n' p':Nat):Prop :=
 ∀ S D,KV w sg F Ws n p S D→(∀ k,Q k→¬ S k)→Calls Tryz.prog f args w fun e w'=>e = .returned r∧Bl w w' sg S D F' Ws' n' p'
section
variable {w0 w:World}{sg n p n' p':Nat}{F F':List aN}{Ws Ws':List (List aN)}{Q:Nat→Prop}
theorem KL.call {f:FuncId}{args:Array Value}{r:Value} (h:KL w0 w sg F Ws n p Q) (c:CC f args w sg F Ws n p Q r F' Ws' n' p'):Calls Tryz.prog f args w fun e w'=>e = .returned r∧KL w0 w' sg F' Ws' n' p' Q∧ae (fun k=>¬ Q k) w w':=by
 obtain⟨S,D,kv,hq,h0,m0⟩:=h
 refine (c S D kv (fun k hk=>(hq k hk).1)).mono ?_
 rintro e w' ⟨rfl,S',D',kv',m,hs,hd⟩
 refine⟨rfl,⟨S',D',kv',fun k hk=>⟨fun x=>?_,fun x=>?_,Nat.lt_of_lt_of_le (hq k hk).2.2 m.size⟩,h0,m0.trans m (fun _ _ x=>x) (fun k hk x=>(hq k (h0 k hk)).1 x)⟩,m.mono (fun k _ hk x=>(hq k x).1 hk)⟩
 ·rcases hs k x with y | y
  ·exact (hq k hk).1 y
  ·have:=(hq k hk).2.2;omega
 ·rcases hd k x with y | y
  ·exact (hq k hk).2.1 y
  ·have:=(hq k hk).2.2;omega
theorem KL.keep0 {w':World} (h:KL w0 w sg F Ws n p Q) (m:ae ai w w'):KL w0 w' sg F Ws n p Q:=by
 obtain⟨S,D,kv,hq,h0,m0⟩:=h
 exact⟨S,D,kv.keep0 m,fun k hk=>⟨(hq k hk).1,(hq k hk).2.1,Nat.lt_of_lt_of_le (hq k hk).2.2 m.size⟩,h0,m0.then0 m⟩
theorem KL.grow {w':World}{Q':Nat→Prop} (h:KL w0 w sg F Ws n p Q) (m:ae ai w w') (hq':∀ k,Q' k→Q k∨(w.heap.size≤k∧k<w'.heap.size)) (h1:∀ k,k<w0.heap.size→Q' k):KL w0 w' sg F Ws n p Q':=by
 obtain⟨S,D,kv,hq,h0,m0⟩:=h
 refine⟨S,D,kv.keep0 m,fun k hk=>?_,h1,m0.then0 m⟩
 rcases hq' k hk with x | ⟨x,y⟩
 ·exact⟨(hq k x).1,(hq k x).2.1,Nat.lt_of_lt_of_le (hq k x).2.2 m.size⟩
 ·exact⟨fun z=>by have:=kv.lt.1 k z;omega,fun z=>by have:=kv.lt.2.1 k z;omega,y⟩
theorem KL.more {p2:Nat} (h:KL w0 w sg F Ws n p Q) (hp:p≤p2):KL w0 w sg F Ws n p2 Q:=by
 obtain⟨S,D,kv,r⟩:=h
 exact⟨S,D,kv.more hp,r⟩
theorem KL.less {Q':Nat→Prop} (h:KL w0 w sg F Ws n p Q) (hq:∀ k,Q' k→Q k) (h1:∀ k,k<w0.heap.size→Q' k):KL w0 w sg F Ws n p Q':=by
 obtain⟨S,D,kv,q,h0,m0⟩:=h
 exact⟨S,D,kv,fun k hk=>q k (hq k hk),h1,m0⟩
theorem KL.mods (h:KL w0 w sg F Ws n p Q):ae ai w0 w:=by obtain⟨_,_,_,_,_,m⟩:=h;exact m
theorem KL.ris (h:KL w0 w sg F Ws n p Q):fM F:=by obtain⟨_,_,kv,_⟩:=h;exact kv.ris
theorem KL.len (h:KL w0 w sg F Ws n p Q):F.length≤p∧Ws.length≤16:=by obtain⟨_,_,kv,_⟩:=h;exact kv.len
theorem KL.q0 (h:KL w0 w sg F Ws n p Q):∀ k,k<w0.heap.size→Q k:=by obtain⟨_,_,_,_,a,_⟩:=h;exact a
variable {sg2 n2 p2:Nat}{F2:List aN}{Ws2:List (List aN)}
theorem K2.swap (h:K2 w0 w sg F Ws n p sg2 F2 Ws2 n2 p2 Q):K2 w0 w sg2 F2 Ws2 n2 p2 sg F Ws n p Q:=by
 obtain⟨S,D,S2,D2,kv,kv2,hq,h0,a1,a2,a3,m0⟩:=h
 exact⟨S2,D2,S,D,kv2,kv,fun k hk=>⟨(hq k hk).2.2.1,(hq k hk).2.2.2.1,(hq k hk).1,(hq k hk).2.1,(hq k hk).2.2.2.2⟩,h0,fun k x y=>a1 k y x,a3,a2,m0⟩
theorem K2.one (h:K2 w0 w sg F Ws n p sg2 F2 Ws2 n2 p2 Q):KL w0 w sg F Ws n p Q:=by
 obtain⟨S,D,S2,D2,kv,kv2,hq,h0,a1,a2,a3,m0⟩:=h
 exact⟨S,D,kv,fun k hk=>⟨(hq k hk).1,(hq k hk).2.1,(hq k hk).2.2.2.2⟩,h0,m0⟩
theorem K2.call {f:FuncId}{args:Array Value}{r:Value} (h:K2 w0 w sg F Ws n p sg2 F2 Ws2 n2 p2 Q) (c:CC f args w sg F Ws n p Q r F' Ws' n' p'):Calls Tryz.prog f args w fun e w'=>e = .returned r∧K2 w0 w' sg F' Ws' n' p' sg2 F2 Ws2 n2 p2 Q∧ae (fun k=>¬ Q k) w w':=by
 obtain⟨S,D,S2,D2,kv,kv2,hq,h0,a1,a2,a3,m0⟩:=h
 refine (c S D kv (fun k hk=>(hq k hk).1)).mono ?_
 rintro e w' ⟨rfl,S',D',kv',m,hs,hd⟩
 have l2:=kv2.lt
 refine⟨rfl,⟨S',D',S2,D2,kv',kv2.keep m (fun k hk x=>a1 k x hk) (fun k hk x=>a3 k hk x),fun k hk=>⟨fun x=>?_,fun x=>?_,(hq k hk).2.2.1,(hq k hk).2.2.2.1,Nat.lt_of_lt_of_le (hq k hk).2.2.2.2 m.size⟩,h0,fun k x y=>?_,fun k x y=>?_,fun k x y=>?_,m0.trans m (fun _ _ x=>x) (fun k hk x=>(hq k (h0 k hk)).1 x)⟩,m.mono (fun k _ hk x=>(hq k x).1 hk)⟩
 ·rcases hs k x with y | y
  ·exact (hq k hk).1 y
  ·have:=(hq k hk).2.2.2.2;omega
 ·rcases hd k x with y | y
  ·exact (hq k hk).2.1 y
  ·have:=(hq k hk).2.2.2.2;omega
 ·rcases hs k x with z | z
  ·exact a1 k z y
  ·have:=l2.1 k y;omega
 ·rcases hd k x with z | z
  ·exact a2 k z y
  ·have:=l2.1 k y;omega
 ·rcases hs k y with z | z
  ·exact a3 k x z
  ·have:=l2.2.1 k x;omega
theorem K2.keep0 {w':World} (h:K2 w0 w sg F Ws n p sg2 F2 Ws2 n2 p2 Q) (m:ae ai w w'):K2 w0 w' sg F Ws n p sg2 F2 Ws2 n2 p2 Q:=by
 obtain⟨S,D,S2,D2,kv,kv2,hq,h0,a1,a2,a3,m0⟩:=h
 exact⟨S,D,S2,D2,kv.keep0 m,kv2.keep0 m,fun k hk=>⟨(hq k hk).1,(hq k hk).2.1,(hq k hk).2.2.1,(hq k hk).2.2.2.1,Nat.lt_of_lt_of_le (hq k hk).2.2.2.2 m.size⟩,h0,a1,a2,a3,m0.then0 m⟩
theorem K2.grow {w':World}{Q':Nat→Prop} (h:K2 w0 w sg F Ws n p sg2 F2 Ws2 n2 p2 Q) (m:ae ai w w') (hq':∀ k,Q' k→Q k∨(w.heap.size≤k∧k<w'.heap.size)) (h1:∀ k,k<w0.heap.size→Q' k):K2 w0 w' sg F Ws n p sg2 F2 Ws2 n2 p2 Q':=by
 obtain⟨S,D,S2,D2,kv,kv2,hq,h0,a1,a2,a3,m0⟩:=h
 refine⟨S,D,S2,D2,kv.keep0 m,kv2.keep0 m,fun k hk=>?_,h1,a1,a2,a3,m0.then0 m⟩
 rcases hq' k hk with x | ⟨x,y⟩
 ·exact⟨(hq k x).1,(hq k x).2.1,(hq k x).2.2.1,(hq k x).2.2.2.1,Nat.lt_of_lt_of_le (hq k x).2.2.2.2 m.size⟩
 ·exact⟨fun z=>by have:=kv.lt.1 k z;omega,fun z=>by have:=kv.lt.2.1 k z;omega,fun z=>by have:=kv2.lt.1 k z;omega,fun z=>by have:=kv2.lt.2.1 k z;omega,y⟩
theorem K2.more {q q2:Nat} (h:K2 w0 w sg F Ws n p sg2 F2 Ws2 n2 p2 Q) (hp:p≤q) (hp2:p2≤q2):K2 w0 w sg F Ws n q sg2 F2 Ws2 n2 q2 Q:=by
 obtain⟨S,D,S2,D2,kv,kv2,r⟩:=h
 exact⟨S,D,S2,D2,kv.more hp,kv2.more hp2,r⟩
theorem JJ {q u:Value}{ks vs:List UInt8} (hq:Rd w q ks) (hu:Rd w u vs) (oq:Off (fun k=>¬ Q k) q ks) (ou:Off (fun k=>¬ Q k) u vs) (hn:n≤1000000000000) (hp:p≤100000):CC 74 #[.pointer (some ⟨sg,0,none⟩),q,u] w sg F Ws n p Q (.int .i64 (gU ks vs:Nat)) (if gU ks vs=0 then insL F ks vs else F) Ws (n+1) (p+2) :=
 fun S D kv hQ=>hSet kv hq hu (oq.mono (fun k hk x=>hQ k x hk)) (ou.mono (fun k hk x=>hQ k x hk)) hn hp
theorem Ju {q:Value}{ks:List UInt8} (hq:Rd w q ks) (oq:Off (fun k=>¬ Q k) q ks) (lk:ks.length≤1000000) (hn:n≤1000000000000) (hp:p≤100000):CC 145 #[.pointer (some ⟨sg,0,none⟩),q] w sg F Ws n p Q (.bool (iy F ks).isSome) (gJ F ks) Ws (n+1) (p+2) :=
 fun S D kv hQ=>Iu kv hq (oq.mono (fun k hk x=>hQ k x hk)) lk hn hp
end
end Go.Proofs.YtglkmaalpammcaaGreat
namespace Go.Proofs.YtglkmaalpammcaaGreat
open Go.Gl Go.RowKit
def l7 (sg:Nat) (F:List aN) (Ws:List (List aN)) (n p:Nat):FP:=fun w S D=>KV w sg F Ws n p S D
def RFp (g:Nat) (F:List aN) (Ws:List (List aN)) (n:Nat):FP:=fun w S D=>kT w g F Ws n S D
theorem nV {sg:Nat}{F:List aN}{Ws:List (List aN)}{n p:Nat}:gz (l7 sg F Ws n p):=⟨fun h=>⟨KV.lt h |>.1,KV.lt h |>.2.1⟩,fun h m a b=>KV.keep h m a b⟩
def jJ (F:List aN) (k v:List UInt8):List aN:=if gU k v=0 then insL F k v else F
section
variable {w:World}{sg g n p:Nat}{F:List aN}{Ws:List (List aN)}{Q:Nat→Prop}
theorem CC.gs {f:FuncId}{args:Array Value}{r:Value}{F':List aN}{Ws':List (List aN)}{n' p':Nat} (c:CC f args w sg F Ws n p Q r F' Ws' n' p'):GS Tryz.prog f args w (l7 sg F Ws n p) Q r (l7 sg F' Ws' n' p'):=GS.of c
theorem DK {q u:Value}{ks vs:List UInt8} (hq:Rd w q ks) (hu:Rd w u vs) (oq:Off (fun k=>¬ Q k) q ks) (ou:Off (fun k=>¬ Q k) u vs) (hn:n≤1000000000000) (hp:p≤100000):GS Tryz.prog 74 #[.pointer (some ⟨sg,0,none⟩),q,u] w (l7 sg F Ws n p) Q (.int .i64 (gU ks vs:Nat)) (l7 sg (jJ F ks vs) Ws (n+1) (p+2)):=CC.gs (JJ hq hu oq ou hn hp)
theorem ED {q:Value}{ks:List UInt8} (hq:Rd w q ks) (oq:Off (fun k=>¬ Q k) q ks) (lk:ks.length≤1000000) (hn:n≤1000000000000) (hp:p≤100000):GS Tryz.prog 145 #[.pointer (some ⟨sg,0,none⟩),q] w (l7 sg F Ws n p) Q (.bool (iy F ks).isSome) (l7 sg (gJ F ks) Ws (n+1) (p+2)):=CC.gs (Ju hq oq lk hn hp)
theorem Jm {q u:Value}{ks vs:List UInt8} (hq:Rd w q ks) (hu:Rd w u vs) (oq:Off (fun k=>¬ Q k) q ks) (ou:Off (fun k=>¬ Q k) u vs) (hn:n≤1000000000000) (hF:F.length≤100000):GS Tryz.prog 43 #[.pointer (some ⟨g,0,none⟩),q,u] w (RFp g F Ws n) Q (.int .i64 (gU ks vs:Nat)) (RFp g (jJ F ks vs) Ws (n+1)) :=
 GS.of fun S D rf hQ=>rSet6 rf hq hu (oq.mono (fun k hk x=>hQ k x hk)) (ou.mono (fun k hk x=>hQ k x hk)) hn hF
theorem Jh {q:Value}{ks:List UInt8} (hq:Rd w q ks) (oq:Off (fun k=>¬ Q k) q ks) (hn:n≤1000000000000) (hF:F.length≤100000):GS Tryz.prog 134 #[.pointer (some ⟨g,0,none⟩),q] w (RFp g F Ws n) Q (.bool (iy F ks).isSome) (RFp g (gJ F ks) Ws (n+1)) :=
 GS.of fun S D rf hQ=>ET rf hq (oq.mono (fun k hk x=>hQ k x hk)) hn hF
end
end Go.Proofs.YtglkmaalpammcaaGreat
namespace Go.Proofs.YtglkmaalpammcaaGreat
open Go.Gl Go.RowKit
structure dV where
 head:UInt8
 mid:UInt8
 a:Bool
 b:Bool
 turned:Bool
def eY:Nat→Option dV
 | 1=>some ⟨112,0,false,false,false⟩
 | 2=>some ⟨99,0,false,false,false⟩
 | 3=>some ⟨109,0,false,false,false⟩
 | 4=>some ⟨97,0,true,false,false⟩
 | 5=>some ⟨118,48,true,false,false⟩
 | 6=>some ⟨118,100,true,true,false⟩
 | 7=>some ⟨118,104,true,true,false⟩
 | 8=>some ⟨118,115,true,true,false⟩
 | 9=>some ⟨116,0,true,false,false⟩
 | 10=>some ⟨105,0,true,true,true⟩
 | 11=>some ⟨98,0,true,false,false⟩
 | 12=>some ⟨117,0,true,false,false⟩
 | 13=>some ⟨114,0,true,false,false⟩
 | 14=>some ⟨113,0,true,true,false⟩
 | 15=>some ⟨101,0,true,true,false⟩
 | 16=>some ⟨110,0,true,true,false⟩
 | 17=>some ⟨107,0,true,true,false⟩
 | _=>none
def nz (f:dV):List Value:=[.int .u8 f.head.toNat,.int .u8 f.mid.toNat,.bool f.a,.bool f.b,.bool f.turned]
def fv (f:dV):Value := .agg (nz f).toArray
def sZ:Array Value:=((List.range 17).flatMap fun k=>((eY (k+1)).map nz).getD []).toArray
def Ed:Array Value:=((List.range 17).flatMap fun _=>nz ⟨0,0,false,false,false⟩).toArray
set_option maxRecDepth 100000 in
theorem Dp (w:World) :
  Calls Tryz.prog 234 #[] w fun e w'=>e = .returned (.agg sZ)∧w'=w.alloc (.cells sZ 329):=by
 have hz:∀ w:World,(zeroValue 329).run Tryz.prog w = .ok (.agg Ed) w:=fun _=>by kernel_rfl
 go_enter Tryz.func234,Tryz.ntmps234
 go_wp2_with (refine wpList_build rfl 329 _ rfl (by as_aux_lemma=>kernel_rfl) (stop ?_))
 unfold Stop
 refine wpList_store_row rfl 329 _ _ rfl w.heap.size sZ rfl (by as_aux_lemma=>kernel_rfl) 329 Ed (aU _ _) (by as_aux_lemma=>kernel_rfl) (by as_aux_lemma=>kernel_rfl) (by as_aux_lemma=>kernel_rfl) ?_
 rw [World.setRow_alloc_new]
 go_wp2
 refine bodyPost_ret (results_cell_row rfl _ _ w.heap.size 329 sZ (0,0) _ rfl (aU _ _) Tryz.underlying329 rfl (by as_aux_lemma=>kernel_rfl)) rfl ⟨rfl,rfl⟩
theorem mM (k:Nat) (h1:1≤k) (h2:k≤17):∃ f,eY k=some f∧∀ w:World,(Instr.index 329 (.agg sZ) (.int .i64 ((k:Int) - 1))).run Tryz.prog w = .ok (.agg #[.int .u8 f.head.toNat,.int .u8 f.mid.toNat,.bool f.a,.bool f.b,.bool f.turned]) w:=by
 have h17:k=1∨k=2∨k=3∨k=4∨k=5∨k=6∨k=7∨k=8∨k=9∨k=10∨k=11∨k=12∨k=13∨k=14∨k=15∨k=16∨k=17:=by omega
 rcases h17 with rfl | rfl | rfl | rfl | rfl | rfl | rfl | rfl | rfl | rfl | rfl | rfl | rfl | rfl | rfl | rfl | rfl <;> exact⟨_,rfl,fun _=>by kernel_rfl⟩
theorem xM (n:Int) (w:World) (h:n<1∨17<n) :
  Calls Tryz.prog 175 #[.int .i64 n] w fun e w'=>e = .returned (.tuple #[fv ⟨0,0,false,false,false⟩,.bool false])∧ae ai w w':=by
 rcases h with h | h
 ·go_enter Tryz.func175,Tryz.ntmps175
  go_wp2
  go_returns
  exact⟨rfl,(by repeat' (first | (with_reducible first | exact ae.refl _ _ | assumption | refine ae.alloc ?_ _ | refine ae.drew ?_ | refine ae.drewN ?_ _ | refine ae.regrown ?_ _ _ | refine ae.setCell ?_ ?_ _) | (refine .inr ?_;first | (simp;done) | (simp;omega) | omega)))⟩
 ·have h1:¬ n<1:=by omega
  go_enter Tryz.func175,Tryz.ntmps175
  go_wp2
  go_returns
  exact⟨rfl,(by repeat' (first | (with_reducible first | exact ae.refl _ _ | assumption | refine ae.alloc ?_ _ | refine ae.drew ?_ | refine ae.drewN ?_ _ | refine ae.regrown ?_ _ _ | refine ae.setCell ?_ ?_ _) | (refine .inr ?_;first | (simp;done) | (simp;omega) | omega)))⟩
theorem pJ (k:Nat) (f:dV) (w:World) (hf:eY k=some f) :
  Calls Tryz.prog 175 #[.int .i64 k] w fun e w'=>e = .returned (.tuple #[fv f,.bool true])∧ae ai w w':=by
 have hk:1≤k∧k≤17:=by
  rcases Nat.lt_or_ge k 18 with h | h
  ·rcases Nat.eq_zero_or_pos k with rfl | h0
   ·simp [eY] at hf
   ·omega
  ·obtain⟨j,rfl⟩:∃ j,k=j+18:=⟨k - 18,by omega⟩
   simp [eY] at hf
 obtain⟨h1,h2⟩:=hk
 obtain⟨f',hf',hi⟩:=mM k h1 h2
 obtain rfl:f=f':=by rw [hf] at hf';simpa using hf'
 clear hf' hf
 go_enter Tryz.func175,Tryz.ntmps175
 go_wp2_with (go_at_call 234;refine (Dp _).mono ?_;rintro e w' ⟨rfl,rfl⟩)
 go_returns
 exact⟨rfl,(by repeat' (first | (with_reducible first | exact ae.refl _ _ | assumption | refine ae.alloc ?_ _ | refine ae.drew ?_ | refine ae.drewN ?_ _ | refine ae.regrown ?_ _ _ | refine ae.setCell ?_ ?_ _) | (refine .inr ?_;first | (simp;done) | (simp;omega) | omega)))⟩
end Go.Proofs.YtglkmaalpammcaaGreat
namespace Go.Gl
def be:Nat→Nat→List UInt8
 | 0,_=>[]
 | n+1,x=>UInt8.ofNat (x / 256 ^ n) :: be n x
def num (xs:List UInt8):Nat:=xs.foldl (fun a c=>a*256+c.toNat) 0
theorem dH (n x:Nat):(be n x).length=n:=by
 induction n with
 | zero=>rfl
 | succ n ih=>simp [be,ih]
theorem yZ (xs:List UInt8) (c:UInt8):num (xs ++ [c])=num xs*256+c.toNat:=by simp [num]
theorem yB (xs:List UInt8):num xs<256 ^ xs.length:=by
  suffices h:∀ ys:List UInt8,num ys.reverse<256 ^ ys.length by
    have:=h xs.reverse
    simpa using this
  intro ys
  induction ys with
  | nil=>simp [num]
  | cons c ys ih =>
    rw [List.reverse_cons,yZ,List.length_cons,Nat.pow_succ]
    have:=c.toNat_lt
    omega
theorem Dx (xs:List UInt8) (a:Nat):xs.foldl (fun a c=>a*256+c.toNat) a=a*256 ^ xs.length+num xs:=by
  induction xs generalizing a with
  | nil=>simp [num]
  | cons c xs ih =>
    rw [num,List.foldl_cons,List.foldl_cons,List.length_cons,ih,ih (0*256+c.toNat),Nat.pow_succ,Nat.zero_mul,Nat.zero_add,Nat.add_mul,Nat.mul_comm (256 ^ xs.length) 256,← Nat.mul_assoc,Nat.add_assoc]
theorem yX (c:UInt8) (xs:List UInt8):num (c :: xs)=c.toNat*256 ^ xs.length+num xs:=by
 rw [num,List.foldl_cons,Dx]
 simp
theorem DN (n x:Nat):num (be n x)=x % 256 ^ n:=by
  induction n with
  | zero=>simp [be,num,Nat.mod_one]
  | succ n ih =>
    rw [be,yX,dH,ih,UInt8.toNat_ofNat']
    have h:=Nat.mod_mul (x:=x) (a:=256 ^ n) (b:=256)
    rw [Nat.pow_succ 256 n,h,show (2 ^ 8:Nat)=256 from rfl,Nat.mul_comm (256 ^ n)]
    omega
theorem JA (xs:List UInt8):be xs.length (num xs)=xs:=by
  suffices h:∀ (xs:List UInt8) (q:Nat),be xs.length (q*256 ^ xs.length+num xs)=xs by simpa using h xs 0
  intro xs
  induction xs with
  | nil=>intro q;rfl
  | cons c xs ih =>
    intro q
    have hl:=yB xs
    have hp:0<256 ^ xs.length:=Nat.pow_pos (by decide)
    rw [List.length_cons,be,yX]
    have e:q*256 ^ (xs.length+1)+(c.toNat*256 ^ xs.length+num xs)=(q*256+c.toNat)*256 ^ xs.length+num xs:=by
      rw [Nat.pow_succ,Nat.add_mul,Nat.mul_assoc,Nat.mul_comm (256 ^ xs.length) 256];omega
    rw [e,ih]
    congr 1
    rw [Nat.mul_comm,Nat.mul_add_div hp,Nat.div_eq_of_lt hl,Nat.add_zero]
    apply UInt8.toNat_inj.1
    rw [UInt8.toNat_ofNat']
    have:=c.toNat_lt
    omega
theorem Bc (x:Nat) (h:x<18446744073709551616):num (be 8 x)=x:=by
 rw [DN]
 exact Nat.mod_eq_of_lt (by simpa using h)
def b8 (x i:Nat):Int:=((x / 256 ^ i % 256:Nat):Int)
end Go.Gl
namespace Go.Proofs.YtglkmaalpammcaaGreat
open Go.Gl Go.RowKit
theorem JW (x:Nat):bv (be 8 x)=[.int .u8 (b8 x 7),.int .u8 (b8 x 6),.int .u8 (b8 x 5),.int .u8 (b8 x 4),.int .u8 (b8 x 3),.int .u8 (b8 x 2),.int .u8 (b8 x 1),.int .u8 (b8 x 0)]:=by
 simp only [be,bv,List.map_cons,List.map_nil,UInt8.toNat_ofNat',b8]
theorem agg8 (x:Nat) (hx:x<18446744073709551616) (a0 a1 a2 a3 a4 a5 a6 a7:Int) (h:a0=x / 72057594037927936∧a1=x / 281474976710656 % 256∧a2=x / 1099511627776 % 256∧a3=x / 4294967296 % 256∧a4=x / 16777216 % 256∧a5=x / 65536 % 256∧a6=x / 256 % 256∧a7=x % 256) :
  a0=b8 x 7∧a1=b8 x 6∧a2=b8 x 5∧a3=b8 x 4∧a4=b8 x 3∧a5=b8 x 2∧a6=b8 x 1∧a7=b8 x 0:=by
 obtain⟨rfl,rfl,rfl,rfl,rfl,rfl,rfl,rfl⟩:=h
 simp only [b8]
 omega
def zO (x:Nat):Value := .agg #[.int .u8 (b8 x 7),.int .u8 (b8 x 6),.int .u8 (b8 x 5),.int .u8 (b8 x 4),.int .u8 (b8 x 3),.int .u8 (b8 x 2),.int .u8 (b8 x 1),.int .u8 (b8 x 0)]
theorem CW (x:Nat) (hx:x<18446744073709551616):Value.agg #[.int .u8 (x / 72057594037927936),.int .u8 (x / 281474976710656 % 256),.int .u8 (x / 1099511627776 % 256),.int .u8 (x / 4294967296 % 256),.int .u8 (x / 16777216 % 256),.int .u8 (x / 65536 % 256),.int .u8 (x / 256 % 256),.int .u8 (x % 256)]=zO x:=by
 obtain⟨h0,h1,h2,h3,h4,h5,h6,h7⟩:=agg8 x hx _ _ _ _ _ _ _ _ ⟨rfl,rfl,rfl,rfl,rfl,rfl,rfl,rfl⟩
 unfold zO
 rw [h0,h1,h2,h3,h4,h5,h6,h7]
theorem EO (x:Nat) (w:World) (hx:x<18446744073709551616) :
  Calls Tryz.prog 178 #[.int .u64 x] w fun e w'=>e = .returned (zO x)∧ae ai w w':=by
 have H:=lh (CW x hx)
 go_enter Tryz.func178,Tryz.ntmps178
 go_wp2
 go_rounds 9
 refine bodyPost_ret (by simp [results,Tryz.results178,go_sem];exact H.out) rfl ?_
 exact⟨rfl,(by repeat' (first | (with_reducible first | exact ae.refl _ _ | assumption | refine ae.alloc ?_ _ | refine ae.drew ?_ | refine ae.drewN ?_ _ | refine ae.regrown ?_ _ _ | refine ae.setCell ?_ ?_ _) | (refine .inr ?_;first | (simp;done) | (simp;omega) | omega)))⟩
theorem xJ (n:Int) (w:World) (h0:0≤n) (h1:n≤18446744073709551615) :
  Calls Tryz.prog 178 #[.int .u64 n] w fun e w'=>e = .returned (.agg #[.int .u8 (b8 n.toNat 7),.int .u8 (b8 n.toNat 6),.int .u8 (b8 n.toNat 5),.int .u8 (b8 n.toNat 4),.int .u8 (b8 n.toNat 3),.int .u8 (b8 n.toNat 2),.int .u8 (b8 n.toNat 1),.int .u8 (b8 n.toNat 0)])∧ae ai w w':=by
 obtain⟨x,rfl⟩:=Int.eq_ofNat_of_zero_le h0
 exact EO x w (by omega)
theorem rd8 {w:World}{g:Nat}{x:Nat}{e:TypeId}{fr:Nat × Nat} (h:w.heap[g]?=some (.cells #[.int .u8 (b8 x 7),.int .u8 (b8 x 6),.int .u8 (b8 x 5),.int .u8 (b8 x 4),.int .u8 (b8 x 3),.int .u8 (b8 x 2),.int .u8 (b8 x 1),.int .u8 (b8 x 0)] e fr)):Rd w (.slice (some ⟨g,0,none⟩) 8 8) (be 8 x):=by
 refine⟨by rw [dH,jy,dH],.inr ⟨g,0,8,by rw [dH],by rw [dH];omega,by simp [maxLen],.inr (lt_of_heap h),fun j u hj=>?_⟩⟩
 rw [JW] at hj
 rw [ag h,Nat.zero_add]
 simpa using hj
end Go.Proofs.YtglkmaalpammcaaGreat
namespace Go.Proofs.YtglkmaalpammcaaGreat
open Go.Gl Go.RowKit
def fU (f:dV) (a:Nat):Nat:=if f.turned then 18446744073709551615 - a else a
def iQ (f:dV) (a:Nat):List UInt8:=[f.head] ++ (if f.a then be 8 (fU f a) else []) ++ (if f.mid.toNat=0 then [] else [f.mid])
theorem first_any (f:dV) (a:Nat) (w:World) (ha:a≤18446744073709551615) :
  Calls Tryz.prog 177 #[.agg #[.int .u8 f.head.toNat,.int .u8 f.mid.toNat,.bool f.a,.bool f.b,.bool f.turned],.int .u64 a] w fun e w'=>∃ v,e = .returned v∧Gl.Own w' v (iQ f a)∧ae ai w w'∧aF w v:=by
 obtain⟨hd,md,fa,fb,ft⟩:=f
 have hfin:Hid (∀ t:Nat,t=fU ⟨hd,md,fa,fb,ft⟩ a→iQ ⟨hd,md,fa,fb,ft⟩ a=[hd] ++ (if fa then be 8 t else []) ++ (if md.toNat=0 then [] else [md])):=by
  intro t ht;rw [ht];rfl
 have hmd:md.toNat<256:=md.toNat_lt
 have fin:∀ (W:World) (v:Value) (b:Nat),w.heap.size≤b→(v.ownBlock=some b∨aF W v)→w.heap.size≤W.heap.size→aF w v:=by
  intro W v b hb hv hW k hk
  rcases hv with hv | hv
  ·rw [hv] at hk;simp at hk;omega
  ·have:=hv k hk;omega
 have F:=lh fin
 clear fin
 have M:(((md.toNat:Nat):Int) != 0)=false∧md.toNat=0∨(((md.toNat:Nat):Int) != 0)=true∧md.toNat≠0:=by
  by_cases h:md.toNat=0
  ·exact .inl ⟨by simp [h],h⟩
  ·exact .inr ⟨by simp [h],h⟩
 cases ft
 all_goals
  go_enter Tryz.func177,Tryz.ntmps177
  go_wp2_with fail
  try rw [AZ _ (by omega) (by omega)]
  refine (xJ _ _ (by omega) (by omega)).mono ?_
  rintro e w1 ⟨rfl,hm1⟩
  have B0:=ag (hm1.heap (g:=w.heap.size) (dA (aU _ _) _) (fun x=>x))
  have o1:Gl.Own w1 (.slice (some ⟨w.heap.size+1,0,none⟩) 1 1) [hd]:=by
   have h:=fun o=>jw hd (w:=w.alloc o) (w.heap.size+1) (by simp)
   exact (h _).keep hm1 (fun _ _ x=>x)
  have hz1:w.heap.size+1<w1.heap.size:=by have:=hm1.size;simp at this;omega
  have hz0:w.heap.size<w1.heap.size:=by omega
  have m1:ae ai w w1:=((((ae.refl _ _).alloc _).alloc _).trans hm1 (fun _ _ x=>x) (fun _ _ x=>x))
  rcases M with ⟨hb,hM⟩ | ⟨hb,hM⟩
  all_goals
   have HM:=lh hM
   clear hM hm1
   cases fa
 case inl.false | inr.inl.false =>
  go_wp2_with (at_builtin;refine stop ?_)
  go_ret
  refine⟨_,rfl,?_,m1.alloc _,F.out w1 _ _ (Nat.le_succ _) (.inl rfl) m1.size⟩
  rw [hfin.out _ rfl,if_pos HM.out]
  exact o1.alloc _
 case inr.false | inr.inr.false =>
  go_wp2_with (at_builtin;refine stop ?_)
  unfold Stop
  refine gW rfl rfl [hd] [md] ((o1.alloc _).alloc _) (jw md _ (by simp)).rd rfl rfl (by simp) ?_
  intro v2 w2 h1 h2 h3
  go_wp2
  go_ret
  refine⟨_,rfl,?_,((m1.alloc _).alloc _).trans h2 (fun _ _ x=>x) (fun i hi x=>by have:=(jW x);omega),F.out _ _ _ (Nat.le_succ _) h3 (by simp;omega)⟩
  rw [hfin.out _ rfl,if_neg HM.out]
  exact h1
 case inl.true | inr.inl.true =>
  go_wp2_with (at_builtin;refine stop ?_)
  unfold Stop
  refine gW rfl rfl [hd] _ (o1.alloc _) (rd8 (aU _ _)) rfl rfl (by simp [dH]) ?_
  intro v2 w2 h1 h2 h3
  have B2:∀ o,w2.cell? ⟨w.heap.size,o,none⟩=_:=fun o=>(h2.cellAt (g:=w.heap.size) (by simp;omega) (fun x=>by have:=jW x;omega) o).trans ((World.cell?_alloc_past _ _ _ hz0).trans (B0 o))
  have F2:=lh (show _∧_∧_ from⟨h1,h2,h3⟩)
  clear h1 h2 h3
  go_wp2_with (at_builtin;refine stop ?_)
  go_ret
  obtain⟨h1,h2,h3⟩:=F2.out
  refine⟨_,rfl,?_,(m1.alloc _).trans h2 (fun _ _ x=>x) (fun i hi x=>by have:=(jW x);omega),F.out _ _ _ (Nat.le_succ _) h3 (by simp;omega)⟩
  rw [hfin.out _ rfl,if_pos HM.out]
  simpa [fU] using h1
 case inr.true | inr.inr.true =>
  go_wp2_with (at_builtin;refine stop ?_)
  unfold Stop
  refine gW rfl rfl [hd] _ (o1.alloc _) (rd8 (aU _ _)) rfl rfl (by simp [dH]) ?_
  intro v2 w2 h1 h2 h3
  have B2:∀ o,w2.cell? ⟨w.heap.size,o,none⟩=_:=fun o=>(h2.cellAt (g:=w.heap.size) (by simp;omega) (fun x=>by have:=jW x;omega) o).trans ((World.cell?_alloc_past _ _ _ hz0).trans (B0 o))
  have F2:=lh (show _∧_∧_ from⟨h1,h2,h3⟩)
  clear h1 h2 h3
  go_wp2_with (at_builtin;refine stop ?_)
  unfold Stop
  obtain⟨h1,h2,h3⟩:=F2.out
  have hs2:=h2.size
  simp only [World.size_alloc] at hs2
  refine gW rfl rfl _ [md] (h1.alloc _) (jw md _ (by simp)).rd rfl rfl (by simp [dH]) ?_
  intro v3 w3 k1 k2 k3
  go_wp2
  go_ret
  have hv2:aF w v2:=F.out _ _ _ (Nat.le_succ _) h3 (by simp;omega)
  refine⟨_,rfl,?_,(((m1.alloc _).trans h2 (U:=ai) (fun _ _ x=>x) (fun i hi x=>by have:=(jW x);omega)).alloc _).trans k2 (fun _ _ x=>x) (fun i hi x=>by have:=hv2 i x;omega),fun k hk=>?_⟩
  ·rw [hfin.out _ rfl,if_neg HM.out]
   simpa [fU] using k1
  ·rcases k3 with k3 | k3
   ·exact hv2 k (k3.symm.trans hk)
   ·have:=k3 k hk
    simp at this
    omega
end Go.Proofs.YtglkmaalpammcaaGreat
namespace Go.Proofs.YtglkmaalpammcaaGreat
open Go.Gl Go.RowKit
theorem qW:(Tryz.prog.info? 173).map (·.size)=some 3:=by kernel_rfl
theorem E5 (d:Nat) (k a b k' a' b':Int) (w:World):(Op.equalIn (d+2) 173 (.agg #[.int .i64 k,.int .u64 a,.int .u64 b]) (.agg #[.int .i64 k',.int .u64 a',.int .u64 b'])).run Tryz.prog w = .ok (k == k' && (a == a' && b == b')) w:=by
 simp [go_sem]
 by_cases h1:k=k' <;> by_cases h2:a=a' <;> by_cases h3:b=b' <;> simp [h1,h2,h3]
theorem Au (k a b k' a' b':Int) (w:World):(binOp .neq 173 (.agg #[.int .i64 k,.int .u64 a,.int .u64 b]) (.agg #[.int .i64 k',.int .u64 a',.int .u64 b'])).run Tryz.prog w = .ok (.bool (!(k == k' && (a == a' && b == b')))) w:=by
 rw [run_neq_struct,E5 9998]
 rfl
end Go.Proofs.YtglkmaalpammcaaGreat
namespace Go.Proofs.YtglkmaalpammcaaGreat
open Go.Gl Go.RowKit
def rG (c:Bool) (a:Nat):Int:=((if c then a else 0:Nat):Int)
theorem zG (f:dV) (k:Int) (a b:Nat) (w:World) :
  Calls Tryz.prog 176 #[.agg #[.int .u8 f.head.toNat,.int .u8 f.mid.toNat,.bool f.a,.bool f.b,.bool f.turned],.agg #[.int .i64 k,.int .u64 a,.int .u64 b]] w fun e w'=>e = .returned (.agg #[.int .i64 k,.int .u64 (rG f.a a),.int .u64 (rG f.b b)])∧ae ai w w':=by
 obtain⟨hd,md,fa,fb,ft⟩:=f
 cases fa <;> cases fb
 all_goals
  go_enter Tryz.func176,Tryz.ntmps176
  go_wp2
  go_returns
  exact⟨rfl,(by repeat' (first | (with_reducible first | exact ae.refl _ _ | assumption | refine ae.alloc ?_ _ | refine ae.drew ?_ | refine ae.drewN ?_ _ | refine ae.regrown ?_ _ _ | refine ae.setCell ?_ ?_ _) | (refine .inr ?_;first | (simp;done) | (simp;omega) | omega)))⟩
theorem Of_no (n:Int) (w:World) (h:n<1∨17<n) :
  Calls Tryz.prog 112 #[.int .i64 n] w fun e w'=>e = .returned (.tuple #[.slice none 0 0,.int .i64 70])∧ae ai w w':=by
 have H:=lh h
 clear h
 go_enter Tryz.func112,Tryz.ntmps112
 go_wp2_with (go_at_call 175;refine (xM _ _ H.out).mono ?_;rintro e w1 ⟨rfl,hm⟩;unfold fv nz)
 go_returns
 exact⟨rfl,(by repeat' (first | (with_reducible first | exact ae.refl _ _ | assumption | refine ae.alloc ?_ _ | refine ae.drew ?_ | refine ae.drewN ?_ _ | refine ae.regrown ?_ _ _ | refine ae.setCell ?_ ?_ _) | (refine .inr ?_;first | (simp;done) | (simp;omega) | omega)))⟩
theorem Ji (k:Nat) (f:dV) (w:World) (hf:eY k=some f) :
  Calls Tryz.prog 112 #[.int .i64 k] w fun e w'=>∃ v,e = .returned (.tuple #[v,.int .i64 0])∧Gl.Own w' v [f.head]∧ae ai w w'∧aF w v:=by
 have H:=lh hf
 clear hf
 go_enter Tryz.func112,Tryz.ntmps112
 go_wp2_with (go_at_call 175;refine (pJ _ _ _ H.out).mono ?_;rintro e w1 ⟨rfl,hm⟩;unfold fv nz)
 go_returns
 refine⟨_,rfl,jw _ _ (by simp),(by repeat' (first | (with_reducible first | exact ae.refl _ _ | assumption | refine ae.alloc ?_ _ | refine ae.drew ?_ | refine ae.drewN ?_ _ | refine ae.regrown ?_ _ _ | refine ae.setCell ?_ ?_ _) | (refine .inr ?_;first | (simp;done) | (simp;omega) | omega))),fun k hk=>?_⟩
 have:=hm.size
 simp [Value.ownBlock] at hk
 omega
def iV (w:World) (xs:List UInt8) (n:Int) (e:Ending) (w':World):Prop:=∃ v,e = .returned (.tuple #[v,.int .i64 n])∧Gl.Own w' v xs∧ae ai w w'∧aF w v
theorem iV.nil {w w':World}{n:Int} (hm:ae ai w w'):iV w [] n (.returned (.tuple #[.slice none 0 0,.int .i64 n])) w':=⟨_,rfl,Gl.Own.nil _,hm,fun k hk=>by simp [Value.ownBlock] at hk⟩
def dD (f:dV) (a b:Nat):List UInt8:=iQ f a ++ if f.b then be 8 b else []
def lC (f:dV) (a b:Nat):Bool:=(f.a || decide (a=0)) && (f.b || decide (b=0))
theorem Fz (n:Int) (a b:Nat) (w:World) (h:n<1∨17<n) :
  Calls Tryz.prog 106 #[.agg #[.int .i64 n,.int .u64 a,.int .u64 b]] w (iV w [] 70):=by
 have H:=lh h
 clear h
 go_enter Tryz.func106,Tryz.ntmps106
 go_wp2_with (go_at_call 175;refine (xM _ _ H.out).mono ?_;rintro e w1 ⟨rfl,hm⟩;unfold fv nz)
 refine wp_region_quiet_below (by kernel_rfl) (by kernel_rfl) ?_
 repeat (quiet_step (fail))
 refine wpQuiet_nil ?_
 intro _ hw'
 obtain⟨⟨dq,osq⟩,hw''⟩:=hw'
 subst hw''
 go_wp2
 go_returns
 have m1:=hm.after
 exact iV.nil (by repeat' (first | (with_reducible first | exact ae.refl _ _ | assumption | refine ae.alloc ?_ _ | refine ae.drew ?_ | refine ae.drewN ?_ _ | refine ae.regrown ?_ _ _ | refine ae.setCell ?_ ?_ _) | (refine .inr ?_;first | (simp;done) | (simp;omega) | omega)))
theorem CZ (f:dV) (k a b:Nat):(!(((k:Int) == (k:Int)) && (((rG f.a a) == (a:Int)) && ((rG f.b b) == (b:Int))))) = !lC f a b:=by
 obtain⟨hd,md,fa,fb,ft⟩:=f
 cases fa <;> cases fb <;> simp [lC,rG] <;> by_cases h1:a=0 <;> by_cases h2:b=0 <;> simp_all <;> omega
theorem Gs (k a b:Nat) (f:dV) (w:World) (hf:eY k=some f) (hn:lC f a b=false) :
  Calls Tryz.prog 106 #[.agg #[.int .i64 k,.int .u64 a,.int .u64 b]] w (iV w [] 70):=by
 have hne:=fun w=>(Au (k:Int) (rG f.a a) (rG f.b b) (k:Int) (a:Int) (b:Int) w).trans (by rw [CZ,hn])
 have H:=lh hf
 clear hf hn
 obtain⟨hd,md,fa,fb,ft⟩:=f
 go_enter Tryz.func106,Tryz.ntmps106
 go_wp2_with (go_at_call 175;refine (pJ _ _ _ H.out).mono ?_;rintro e w1 ⟨rfl,hm⟩;unfold fv nz)
 have m1:=hm.after
 have c1:=hm.cellAt (g:=w.heap.size) (by simp) (fun x=>x)
 have hz:w.heap.size<w1.heap.size:=hm.size_of (by simp)
 have c0:∀ o,(w1.alloc (.cells #[.int .u8 hd.toNat,.int .u8 md.toNat,.bool fa,.bool fb,.bool ft] 261)).cell? ⟨w.heap.size,o,none⟩=#[.int .i64 (k:Int),.int .u64 (a:Int),.int .u64 (b:Int)][o]?:=fun o=>(World.cell?_alloc_past _ _ _ hz).trans ((c1 o).trans (by simp))
 have c2:=mJ c0 (by simp;omega)
 have c3:=mJ (ag (aU w1 (.cells #[.int .u8 hd.toNat,.int .u8 md.toNat,.bool fa,.bool fb,.bool ft] 261))) (by simp)
 clear c0 c1
 refine wp_region_quiet_below (by kernel_rfl) (by kernel_rfl) ?_
 repeat (quiet_step ((go_at_call 176;exact Calls.quiet_mods (zG ⟨hd,md,fa,fb,ft⟩ _ _ _ _))))
 refine wpQuiet_nil ?_
 intro _ hw'
 obtain⟨⟨dq,osq⟩,hw''⟩:=hw'
 subst hw''
 clear c2 c3
 go_wp2
 go_returns
 exact iV.nil (by repeat' (first | (with_reducible first | exact ae.refl _ _ | assumption | refine ae.alloc ?_ _ | refine ae.drew ?_ | refine ae.drewN ?_ _ | refine ae.regrown ?_ _ _ | refine ae.setCell ?_ ?_ _) | (refine .inr ?_;first | (simp;done) | (simp;omega) | omega)))
theorem ER (k a b:Nat) (f:dV) (w:World) (hf:eY k=some f) (hn:lC f a b=true) (ha:a≤18446744073709551615) (hb:b≤18446744073709551615) :
  Calls Tryz.prog 106 #[.agg #[.int .i64 k,.int .u64 a,.int .u64 b]] w (iV w (dD f a b) 0):=by
 have hne:=fun w=>(Au (k:Int) (rG f.a a) (rG f.b b) (k:Int) (a:Int) (b:Int) w).trans (by rw [CZ,hn])
 have H:=lh hf
 clear hf hn
 obtain⟨hd,md,fa,fb,ft⟩:=f
 go_enter Tryz.func106,Tryz.ntmps106
 go_wp2_with (go_at_call 175;refine (pJ _ _ _ H.out).mono ?_;rintro e w1 ⟨rfl,hm⟩;unfold fv nz)
 have m1:=hm.after
 have c1:=hm.cellAt (g:=w.heap.size) (by simp) (fun x=>x)
 have hz:w.heap.size<w1.heap.size:=hm.size_of (by simp)
 have c0:∀ o,(w1.alloc (.cells #[.int .u8 hd.toNat,.int .u8 md.toNat,.bool fa,.bool fb,.bool ft] 261)).cell? ⟨w.heap.size,o,none⟩=#[.int .i64 (k:Int),.int .u64 (a:Int),.int .u64 (b:Int)][o]?:=fun o=>(World.cell?_alloc_past _ _ _ hz).trans ((c1 o).trans (by simp))
 have c2:=mJ c0 (by simp;omega)
 have c3:=mJ (ag (aU w1 (.cells #[.int .u8 hd.toNat,.int .u8 md.toNat,.bool fa,.bool fb,.bool ft] 261))) (by simp)
 clear c0 c1
 refine wp_region_quiet_below (by kernel_rfl) (by kernel_rfl) ?_
 repeat (quiet_step ((go_at_call 176;exact Calls.quiet_mods (zG ⟨hd,md,fa,fb,ft⟩ _ _ _ _))))
 refine wpQuiet_nil ?_
 intro _ hw'
 obtain⟨⟨dq,osq⟩,hw''⟩:=hw'
 subst hw''
 have d2:=c2 dq osq
 have d3:=c3 dq osq
 have hs2:=(mY (w1.alloc (.cells #[.int .u8 hd.toNat,.int .u8 md.toNat,.bool fa,.bool fb,.bool ft] 261)) dq osq).size
 have m2:=(m1.alloc (.cells #[.int .u8 hd.toNat,.int .u8 md.toNat,.bool fa,.bool fb,.bool ft] 261)).regrown dq osq
 simp only [World.size_alloc] at hs2
 clear c2 c3 hne hm
 generalize Sort.grow _ osq=w2 at *
 go_wp2_with fail
 refine (first_any ⟨hd,md,fa,fb,ft⟩ a _ ha).mono ?_
 rintro e w3 ⟨v,rfl,h1,h2,h3⟩
 have hs3:=h2.size
 have b0:w.heap.size<w2.heap.size:=by omega
 have b1:w1.heap.size<w2.heap.size:=by omega
 have e2:=fun o=>(h2.cellAt b0 (fun x=>x) o).trans (d2 o)
 have e3:=fun o=>(h2.cellAt b1 (fun x=>x) o).trans (d3 o)
 clear d2 d3
 go_wp2_with fail
 refine (xJ _ _ (by omega) (by omega)).mono ?_
 rintro e w4 ⟨rfl,h4⟩
 have hs4:=h4.size
 have f3:=fun o=>(h4.cellAt (g:=w1.heap.size) (by omega) (fun x=>x) o).trans (e3 o)
 have b4:w1.heap.size<w4.heap.size:=by omega
 have m4:=(m2.then0 h2).then0 h4
 have o4:=h1.keep h4 (fun _ _ x=>x)
 have fr:aF w v:=h3.of (by omega)
 clear e2 e3
 cases fb
 ·go_wp2_with (at_builtin;refine stop ?_)
  go_returns
  refine⟨v,rfl,?_,m4.alloc _,fr⟩
  simpa [dD] using o4.alloc _
 ·go_wp2_with (at_builtin;refine stop ?_)
  unfold Stop
  refine gW rfl rfl _ _ (o4.alloc _) (rd8 (aU _ _)) rfl rfl (by simp [dH,iQ];repeat' split <;> simp [dH]) ?_
  intro v5 w5 k1 k2 k3
  go_wp2
  go_returns
  refine⟨v5,rfl,by simpa [dD] using k1,(m4.alloc _).trans k2 (fun _ _ x=>x) (fun i hi x=>by have:=fr i x;omega),fun k hk=>?_⟩
  rcases k3 with k3 | k3
  ·exact fr k (k3.symm.trans hk)
  ·have:=k3 k hk
   simp at this
   omega
theorem ru {n:Int} (h:n<1∨17<n):eY n.toNat=none:=by
 rcases h with h | h
 ·rw [show n.toNat=0 from by omega];rfl
 ·obtain⟨j,hj⟩:∃ j,n.toNat=j+18:=⟨n.toNat - 18,by omega⟩
  rw [hj];rfl
def fE (n:Int) (a b:Nat):Option (List UInt8):=match eY n.toNat with
 | none=>none
 | some f=>if lC f a b then some (dD f a b) else none
theorem zu (n:Int) (a b:Nat) (w:World) (ha:a≤18446744073709551615) (hb:b≤18446744073709551615) :
  Calls Tryz.prog 106 #[.agg #[.int .i64 n,.int .u64 a,.int .u64 b]] w (iV w ((fE n a b).getD []) (if (fE n a b).isSome then 0 else 70)):=by
 by_cases h:n<1∨17<n
 ·have:=Fz n a b w h
  simpa [fE,ru h] using this
 ·obtain⟨k,rfl⟩:=Int.eq_ofNat_of_zero_le (a:=n) (by omega)
  obtain⟨f,hf,_⟩:=mM k (by omega) (by omega)
  cases hn:lC f a b
  ·have:=Gs k a b f w hf hn
   simpa [fE,hf,hn] using this
  ·have:=ER k a b f w hf hn ha hb
   simpa [fE,hf,hn] using this
def kof (n:Int):Option (List UInt8):=(eY n.toNat).map fun f=>[f.head]
theorem DX (n:Int) (w:World):Calls Tryz.prog 112 #[.int .i64 n] w (iV w ((kof n).getD []) (if (kof n).isSome then 0 else 70)):=by
 by_cases h:n<1∨17<n
 ·simpa [kof,ru h] using (Of_no n w h).mono fun e w' ⟨he,hm⟩=>by rw [he];exact iV.nil hm
 ·obtain⟨k,rfl⟩:=Int.eq_ofNat_of_zero_le (a:=n) (by omega)
  obtain⟨f,hf,_⟩:=mM k (by omega) (by omega)
  have h1:Calls Tryz.prog 112 #[.int .i64 k] w (iV w [f.head] 0):=Ji k f w hf
  simpa [kof,hf] using h1
end Go.Proofs.YtglkmaalpammcaaGreat
namespace Go.Proofs.YtglkmaalpammcaaGreat
open Go.Gl Go.RowKit
structure fV (w:World) (v:Value) (xs:List UInt8) (w':World) (v':Value):Prop where
 own:Gl.Own w' v' xs
 mods:ae (dC v) w w'
 blk:v'.ownBlock=v.ownBlock∨aF w v'
theorem fV.trans {w w1 w2:World}{v v1 v2:Value}{xs ys:List UInt8} (h:fV w v xs w1 v1) (k:fV w1 v1 ys w2 v2):fV w v ys w2 v2 :=
 ⟨k.own,h.mods.trans k.mods (fun _ _ x=>x) (fun i hi hx=>by
   rcases h.blk with hb | hb
   ·exact hb.symm.trans hx
   ·exact absurd hi (Nat.not_lt.2 (hb i hx))),
  by
   rcases k.blk with kb | kb
   ·rcases h.blk with hb | hb
    ·exact .inl (kb.trans hb)
    ·exact .inr (fun i hi=>hb i (kb▸hi))
   ·exact .inr (kb.of h.mods.size)⟩
theorem fV.fresh {w w1:World}{v v1:Value}{xs:List UInt8} (h:fV w v xs w1 v1) {w0:World} (hs:w0.heap.size≤w.heap.size) (hv:aF w0 v):aF w0 v1:=by
 rcases h.blk with hb | hb
 ·exact fun i hi=>hv i (hb▸hi)
 ·exact hb.of hs
theorem fV.mods0 {w w1:World}{v v1:Value}{xs:List UInt8} (h:fV w v xs w1 v1) {w0:World} (hm:ae ai w0 w) (hv:aF w0 v):ae ai w0 w1 :=
 hm.trans h.mods (fun _ _ x=>x) (fun i hi hx=>absurd hi (Nat.not_lt.2 (hv i hx)))
theorem yD (x j:Nat):(x:Int) / 2 ^ (8*j) % 256=(((UInt8.ofNat (x / 256 ^ j)).toNat:Nat):Int):=by
 rw [UInt8.toNat_ofNat',show (256:Nat)=2 ^ 8 from rfl,← Nat.pow_mul]
 simp
theorem mP {v:Value}{xs:List UInt8}{w:World} (n x:Nat) (hv:Gl.Own w v xs) (hn:n≤8) (hx:x≤18446744073709551615) (hl:xs.length≤100000000000000) :
  Calls Tryz.prog 199 #[v,.int .i64 n,.int .u64 x] w fun e w'=>∃ v',e = .returned v'∧fV w v (xs ++ be n x) w' v':=by
 obtain⟨out,hgo⟩:∃ out,xs ++ be n x=out:=⟨_,rfl⟩
 have R0:Hid (fV w v xs w v∧xs ++ be n x=out∧xs.length+n≤100000000000008):=⟨⟨hv,ae.refl _ _,.inl rfl⟩,hgo,by omega⟩
 rw [hgo]
 clear hv hgo hl
 go_enter Tryz.func199,Tryz.ntmps199
 go_wp2
 go_loopw [0,7] (fun b k wr=>∃ (j:Nat) (ys:List UInt8),j≤8∧k = .int .i64 ((j:Int) - 1)∧Hid (fV w v ys wr b∧ys ++ be j x=out∧ys.length+j≤100000000000008)) (fun _ k _=>(intOf k+1).toNat)
 case atStart=>exact⟨n,xs,hn,rfl,R0⟩
 case round =>
  obtain⟨j,ys,hj,rfl,hR⟩:=hrel
  clear R0
  rcases j with _ | j
  ·go_wp2
   go_ret
   obtain⟨h1,h2,h3⟩:=hR.out
   simp only [be,List.append_nil] at h2
   subst h2
   exact⟨_,rfl,h1⟩
  ·rw [show (((j+1:Nat):Int) - 1)=((j:Nat):Int) from by omega]
   have h8:j≤7:=by omega
   go_wp2_with (at_builtin;refine stop ?_)
   unfold Stop
   rw [yD]
   obtain⟨h1,h2,h3⟩:=hR.out
   refine gW rfl rfl ys _ (h1.own.alloc _) (jw (UInt8.ofNat (x / 256 ^ j)) _ rfl).rd rfl rfl (by simp;omega) ?_
   intro v' w' k1 k2 k3
   have R1:Hid (fV w v (ys ++ [UInt8.ofNat (x / 256 ^ j)]) w' v'∧(ys ++ [UInt8.ofNat (x / 256 ^ j)]) ++ be j x=out∧(ys ++ [UInt8.ofNat (x / 256 ^ j)]).length+j≤100000000000008) :=
    ⟨h1.trans ⟨k1,((ae.refl _ _).alloc _).trans k2 (fun _ _ x=>x) (fun _ _ x=>x),k3.imp_right (fun h=>h.of (by simp))⟩,by rw [← h2];simp [be],by simp;omega⟩
   clear hR h1 h2 h3 k1 k2 k3
   go_wp2
   go_roundw
   case rel=>exact⟨j,_,by omega,rfl,R1⟩
   case measure=>simp [intOf]
end Go.Proofs.YtglkmaalpammcaaGreat
namespace Go.Proofs.YtglkmaalpammcaaGreat
open Go.Gl Go.RowKit
structure Wr (w:World) (g:Nat) (v:Value) (xs:List UInt8) (e:Int):Prop where
 heap:w.heap[g]?=some (.cells #[v,.int .i64 e] 311 (0,0))
 own:Gl.Own w v xs
 apart:v.ownBlock≠some g
def WS (g:Nat) (v:Value):Nat→Prop:=fun k=>k=g∨v.ownBlock=some k
structure gB (w:World) (g:Nat) (v:Value) (xs:List UInt8) (e:Int) (w':World) (v':Value):Prop where
 wr:Wr w' g v' xs e
 mods:ae (WS g v) w w'
 blk:v'.ownBlock=v.ownBlock∨aF w v'
theorem gB.trans {w w1 w2:World}{g:Nat}{v v1 v2:Value}{xs ys:List UInt8}{e e':Int} (h:gB w g v xs e w1 v1) (k:gB w1 g v1 ys e' w2 v2):gB w g v ys e' w2 v2 :=
 ⟨k.wr,h.mods.trans k.mods (fun _ _ x=>x) (fun i hi hx=>by
   rcases hx with hx | hx
   ·exact .inl hx
   ·rcases h.blk with hb | hb
    ·exact .inr (hb.symm.trans hx)
    ·exact absurd hi (Nat.not_lt.2 (hb i hx))),
  by
   rcases k.blk with kb | kb
   ·rcases h.blk with hb | hb
    ·exact .inl (kb.trans hb)
    ·exact .inr (fun i hi=>hb i (kb▸hi))
   ·exact .inr (kb.of h.mods.size)⟩
theorem gB.refl {w:World}{g:Nat}{v:Value}{xs:List UInt8}{e:Int} (h:Wr w g v xs e):gB w g v xs e w v:=⟨h,ae.refl _ _,.inl rfl⟩
theorem Wr.lt {w:World}{g:Nat}{v:Value}{xs:List UInt8}{e:Int} (h:Wr w g v xs e):g<w.heap.size:=lt_of_heap h.heap
theorem Wr.set {w w':World}{g:Nat}{v v':Value}{xs ys:List UInt8}{e:Int} (h:Wr w g v xs e) (ho:Gl.Own w' v' ys) (hm:ae (dC v) w w') (hb:v'.ownBlock=v.ownBlock∨aF w v') :
  gB w g v ys e (w'.setCell ⟨g,0,none⟩ v') v':=by
 have hv':v'.ownBlock≠some g:=by
  rcases hb with hb | hb
  ·rw [hb];exact h.apart
  ·exact hb.not h.lt
 have h1:=hm.heap h.heap (fun x=>h.apart x)
 refine⟨⟨?_,ho.keep ((ae.refl (fun k=>k=g) w').setCell (.inl rfl) v') (fun k hk e=>hv' (by rw [hk,e])),hv'⟩,(hm.mono (T:=WS g v) (fun i _ x => .inr x)).setCell (.inl (.inl rfl)) v',hb⟩
 have:=heap_set h1 0 v'
 simpa using this
end Go.Proofs.YtglkmaalpammcaaGreat
namespace Go.Proofs.YtglkmaalpammcaaGreat
open Go.Gl Go.RowKit
attribute [local go_sem ↓] Go.wp_at_zero Go.wp_at_succ
theorem FB {ops:Array Oper}{Q:Exit→Act→World→Prop}{K:Act→World→Prop}{E:Prop}{o:Oper}{a:Act}{w:World}{s x:Operand} (hw:Region.wanted o (yielded ops a.tmps)=true)
  (ho:o.op = .call { callee := .builtin .append,args:=#[s,x],argTypes:=#[91,91] })
  {v u:Value} (xs ys:List UInt8) (hown:Gl.Own w v xs) (hrd:Rd w u ys) (hs:a.eval s=v) (hx:a.eval x=u) (hlen:xs.length+ys.length≤140737488355328)
  (h:∀ v' w',Gl.Own w' v' (xs ++ ys)→ae (dC v) w w'→(v'.ownBlock=v.ownBlock∨aF w v')→K (a.put o.dst v') w') :
  if Region.wanted o (yielded ops a.tmps)=true then Oper.wp Tryz.prog o a w K Q else E:=by
 rw [if_pos hw]
 obtain⟨i,hi,hz,hs1,hb1⟩:=info_parts Tryz.infoU8
 obtain⟨v',w',hr,h2,h3,h4⟩:=iE (P:=Tryz.prog) 91 91 o.type 5 5 i _ Tryz.underlying91 Tryz.underlying91 hi hz (by rw [hs1];rfl) (by rw [hs1];exact hown) (by rw [hs1];exact hrd) (Dw _) (by simp only [maxLen];omega) (by rw [hb1];omega)
 unfold Oper.wp execOp
 simp only [ho,resolve,invoke,builtin,Sem.run_bind,Sem.run_pure,Result.andThen_ok,List.map_toArray,List.map_cons,List.map_nil,hs,hx,hr]
 refine h v' w' ?_ h3 h4
 rw [hs1] at h2
 unfold Gl.Own
 rw [wL,List.length_append]
 exact h2
theorem Jb (c:UInt8) {z:Int} (hz:z=c.toNat) {w:World} (n:Nat) (hn:n=w.heap.size):Gl.Own (w.alloc (.cells #[.int .u8 z] 5)) (.slice (some ⟨n,0,none⟩) 1 1) [c]:=by
 subst hz
 exact jw c n hn
theorem E8 {w:World}{g:Nat}{v:Value}{xs:List UInt8}{e:Int} (n x:Nat) (h:Wr w g v xs e) (he:e≠0) :
  Calls Tryz.prog 288 #[.pointer (some ⟨g,0,none⟩),.int .u64 x,.int .i64 n] w fun r w'=>r = .returned (.tuple #[])∧w'=w:=by
 have c:=ag h.heap
 have hb:(e != 0)=true:=by simp [he]
 clear h he
 go_enter Tryz.func288,Tryz.ntmps288
 go_wp2
 first | go_end0 | (refine bodyPost_ret (by simp [results,Tryz.results288,go_sem];try rfl) rfl ?_)
 exact⟨rfl,rfl⟩
theorem Wr.drewN {w:World}{g:Nat}{v:Value}{xs:List UInt8}{e:Int} (h:Wr w g v xs e) (n:Nat):Wr (w.drewN n) g v xs e:=⟨h.heap,h.own.quiet ⟨n,rfl⟩,h.apart⟩
theorem Wr.alloc {w:World}{g:Nat}{v:Value}{xs:List UInt8}{e:Int} (h:Wr w g v xs e) (o:Obj):Wr (w.alloc o) g v xs e:=⟨dA h.heap o,h.own.alloc o,h.apart⟩
theorem Wr.drew {w:World}{g:Nat}{v:Value}{xs:List UInt8}{e:Int} (h:Wr w g v xs e):Wr w.drew g v xs e:=⟨h.heap,h.own.quiet ⟨1,rfl⟩,h.apart⟩
theorem gB.from {w w1 w2:World}{g:Nat}{v v2:Value}{xs:List UInt8}{e:Int} (h:gB w1 g v xs e w2 v2) (hm:ae ai w w1):gB w g v xs e w2 v2 :=
 ⟨h.wr,hm.trans h.mods (fun _ _ x=>x.elim) (fun _ _ x=>x),h.blk.imp_right (fun k=>k.of hm.size)⟩
theorem IX {w:World}{g:Nat}{v:Value}{xs:List UInt8} (n x:Nat) (h:Wr w g v xs 0) (hn:n≤8) (hx:x≤18446744073709551615) (hl:xs.length≤100000000000000) :
  Calls Tryz.prog 288 #[.pointer (some ⟨g,0,none⟩),.int .u64 x,.int .i64 n] w fun r w'=>r = .returned (.tuple #[])∧∃ v',gB w g v (xs ++ be n x) 0 w' v':=by
 obtain⟨out,hgo⟩:∃ out,xs ++ be n x=out:=⟨_,rfl⟩
 have R0:Hid (gB w g v xs 0 w v∧xs ++ be n x=out∧xs.length+n≤100000000000008):=⟨gB.refl h,hgo,by omega⟩
 rw [hgo]
 have c:=ag h.heap
 clear h hgo hl
 go_enter Tryz.func288,Tryz.ntmps288
 go_wp2
 clear c
 go_loopw [6] (fun k wr=>∃ (j:Nat) (b:Value) (ys:List UInt8),j≤8∧k = .int .i64 ((j:Int) - 1)∧Hid (gB w g v ys 0 wr b∧ys ++ be j x=out∧ys.length+j≤100000000000008)) (fun k _=>(intOf k+1).toNat)
 case atStart=>exact⟨n,v,xs,hn,rfl,R0⟩
 case round =>
  obtain⟨j,b,ys,hj,rfl,hR⟩:=hrel
  clear R0
  rcases j with _ | j
  ·go_wp2
   go_end0
   obtain⟨h1,h2,h3⟩:=hR.out
   simp only [be,List.append_nil] at h2
   subst h2
   exact⟨rfl,_,h1⟩
  ·rw [show (((j+1:Nat):Int) - 1)=((j:Nat):Int) from by omega]
   have h8:j≤7:=by omega
   have c:=ag hR.out.1.wr.heap
   have f:=bY hR.out.1.wr.heap
   go_wp2
   have s1:IntKind.i64.wrap (8*(j:Int))=8*(j:Int):=IntWalk.i64_in _ (by omega)
   have s2:(0:Int)≤8*(j:Int):=by omega
   have s3:(8*(j:Int)).toNat=8*j:=by omega
   have hgl:=hR.out.1.wr.lt
   have hgn:wr.heap.size≠g:=by omega
   have hgm:g≠wr.heap.size:=by omega
   go_region_law ((refine FB (by rfl) (by rfl) ys [UInt8.ofNat (x / 256 ^ j)] ?_ ?_ (by rfl) (by rfl) ?_ ?_;(next=>exact (hR.out.1.wr.own.quiet ⟨1,rfl⟩).alloc _);(next=>exact (Jb (UInt8.ofNat (x / 256 ^ j)) (yD x j) _ rfl).rd);(next=>have:=hR.out.2.2;simp;omega);intro v' w' k1 k2 k3;obtain⟨a',cap',rfl,hm'⟩:=k1.rd.form;have H1:=ag (k2.heap (dA (w:=wr.drew) hR.out.1.wr.heap _) hR.out.1.wr.apart);have F1:=bY (k2.heap (dA (w:=wr.drew) hR.out.1.wr.heap _) hR.out.1.wr.apart)))
   all_goals
    have R1:Hid (gB w g v (ys ++ [UInt8.ofNat (x / 256 ^ j)]) 0 (w'.setCell ⟨g,0,none⟩ (.slice a' (ys.length+1) cap')) (.slice a' (ys.length+1) cap')∧(ys ++ [UInt8.ofNat (x / 256 ^ j)]) ++ be j x=out∧(ys ++ [UInt8.ofNat (x / 256 ^ j)]).length+j≤100000000000008):=by
     have hh:=hR.out
     refine⟨hh.1.trans ((((hh.1.wr.drew.alloc _).set (by simpa using k1) k2 (by first | exact k3 | (rw [List.length_append] at k3;exact k3))).from (((ae.refl ai wr).drew).alloc _))),by rw [← hh.2.1];simp [be],by have:=hh.2.2;simp;omega⟩
    clear hR k1 k2 k3 H1 F1 c f s1 s2 s3
    go_wp2
    go_roundw
    case rel=>exact⟨j,_,_,by omega,rfl,R1⟩
    case measure=>simp [intOf]
def BD (e:Int) (xs ys:List UInt8):List UInt8:=if e=0 then xs ++ ys else xs
def FY (w:World) (g:Nat) (v:Value) (xs:List UInt8) (e:Int) (r:Ending) (w':World):Prop:=r = .returned (.tuple #[])∧∃ v',gB w g v xs e w' v'
theorem zi {w:World}{g:Nat}{v:Value}{xs:List UInt8}{e:Int} (n x:Nat) (h:Wr w g v xs e) (hn:n≤8) (hx:x≤18446744073709551615) (hl:xs.length≤100000000000000) :
  Calls Tryz.prog 288 #[.pointer (some ⟨g,0,none⟩),.int .u64 x,.int .i64 n] w (FY w g v (BD e xs (be n x)) e):=by
 by_cases he:e=0
 ·subst he
  exact IX n x h hn hx hl
 ·refine (E8 n x h he).mono ?_
  rintro r w' ⟨rfl,rfl⟩
  rw [BD,if_neg he]
  exact⟨rfl,_,gB.refl h⟩
theorem IY {w:World}{g:Nat}{v:Value}{xs:List UInt8}{e:Int} (x:Nat) (h:Wr w g v xs e) (hx:x≤255) (hl:xs.length≤100000000000000) :
  Calls Tryz.prog 309 #[.pointer (some ⟨g,0,none⟩),.int .u8 x] w (FY w g v (BD e xs (be 1 x)) e):=by
 have H:=lh h
 clear h
 go_enter Tryz.func309,Tryz.ntmps309
 go_wp2_with (go_at_call 288;refine (zi 1 x H.out (by omega) (by omega) hl).mono ?_;rintro r w' ⟨rfl,hr⟩)
 go_end0
 exact⟨rfl,hr⟩
theorem EQ {w:World}{g:Nat}{v:Value}{xs:List UInt8}{e:Int} (x:Nat) (h:Wr w g v xs e) (hx:x≤18446744073709551615) (hl:xs.length≤100000000000000) :
  Calls Tryz.prog 258 #[.pointer (some ⟨g,0,none⟩),.int .u64 x] w (FY w g v (BD e xs (be 8 x)) e):=by
 have H:=lh h
 clear h
 go_enter Tryz.func258,Tryz.ntmps258
 go_wp2_with (go_at_call 288;refine (zi 8 x H.out (by omega) (by omega) hl).mono ?_;rintro r w' ⟨rfl,hr⟩)
 go_end0
 exact⟨rfl,hr⟩
end Go.Proofs.YtglkmaalpammcaaGreat
namespace Go.Proofs.YtglkmaalpammcaaGreat
open Go.Gl Go.RowKit
theorem Wr.fail {w:World}{g:Nat}{v:Value}{xs:List UInt8} (c:Nat) (h:Wr w g v xs 0):gB w g v xs c (w.setCell ⟨g,1,none⟩ (.int .i64 c)) v :=
 ⟨⟨by have:=heap_set h.heap 1 (.int .i64 c);simpa using this,h.own.keep ((ae.refl (fun k=>k=g) w).setCell (.inl rfl) _) (fun k hk e=>h.apart (by rw [hk,e])),h.apart⟩,(ae.refl (WS g v) w).setCell (.inl (.inl rfl)) _,.inl rfl⟩
theorem Ic {w:World}{g:Nat}{v:Value}{xs:List UInt8} (h:Wr w g v xs 0) (hl:xs.length≤140737488355328) :
  Calls Tryz.prog 219 #[.pointer (some ⟨g,0,none⟩)] w fun r w'=>∃ u,r = .returned (.tuple #[u,.int .i64 0])∧Gl.Own w' u xs∧ae ai w w'∧aF w u:=by
 have H:=lh h
 have c:=ag h.heap
 clear h
 go_enter Tryz.func219,Tryz.ntmps219
 go_wp2_with (at_builtin;refine stop ?_)
 unfold Stop
 refine gW rfl rfl [] xs (Gl.Own.nil _) H.out.own.rd rfl rfl (by simpa using hl) ?_
 intro v' w' k1 k2 k3
 have R:=lh (And.intro k1 (And.intro k2 k3))
 clear k1 k2 k3
 go_wp2
 go_ret2
 obtain⟨k1,k2,k3⟩:=R.out
 exact⟨v',rfl,k1,k2.mono (fun i _ x=>(tJ x).elim),by rcases k3 with k3 | k3;exact (fun k hk=>by rw [k3] at hk;simp [Value.ownBlock] at hk);exact k3⟩
theorem EW {w:World}{g:Nat}{v:Value}{xs:List UInt8}{e:Int} (h:Wr w g v xs e) (he:e≠0) :
  Calls Tryz.prog 219 #[.pointer (some ⟨g,0,none⟩)] w fun r w'=>r = .returned (.tuple #[.slice none 0 0,.int .i64 e])∧Quiet w w':=by
 have c:=ag h.heap
 have hb:(e != 0)=true:=by simp [he]
 clear h he
 go_enter Tryz.func219,Tryz.ntmps219
 go_wp2
 go_quiet (fail)
 go_wp2
 go_ret2
 exact⟨rfl,_,rfl⟩
def Hu (e:Int) (xs:List UInt8):List UInt8:=if e=0 then xs else []
def JE (w:World) (xs:List UInt8) (e:Int) (r:Ending) (w':World):Prop:=∃ u,r = .returned (.tuple #[u,.int .i64 e])∧Gl.Own w' u (Hu e xs)∧ae ai w w'∧aF w u
theorem Ha {w:World}{g:Nat}{v:Value}{xs:List UInt8}{e:Int} (h:Wr w g v xs e) (hl:xs.length≤140737488355328) :
  Calls Tryz.prog 219 #[.pointer (some ⟨g,0,none⟩)] w (JE w xs e):=by
 by_cases he:e=0
 ·subst he
  exact Ic h hl
 ·refine (EW h he).mono ?_
  rintro r w' ⟨rfl,hq⟩
  exact⟨_,rfl,by rw [Hu,if_neg he];exact Gl.Own.nil _,hq.mods _,fun k hk=>by simp [Value.ownBlock] at hk⟩
end Go.Proofs.YtglkmaalpammcaaGreat
namespace Go.Proofs.YtglkmaalpammcaaGreat
open Go.Gl Go.RowKit
theorem aF.nil (w:World):aF w (.slice none 0 0):=fun k hk=>by simp [Value.ownBlock] at hk
theorem Ar (xs:List UInt8) {w:World} (n len:Nat) (cs:Array Value) (hn:n=w.heap.size) (hl:xs.length=len) (hm:Nat.ble len 1000=true) (hc:cs.toList=bv xs):Gl.Own (w.alloc (.cells cs 5)) (.slice (some ⟨n,0,none⟩) len len) xs:=by
 subst hn hl
 have hs:cs.size=xs.length:=by rw [← Array.length_toList,hc,jy]
 refine⟨by rw [jy,Nat.mul_one],.inr ⟨_,0,_,_,rfl,aU _ _,Nat.le_refl _,by have:=Nat.le_of_ble_eq_true hm;simp only [maxLen];omega,by omega,fun j u hj=>?_⟩⟩
 rw [Nat.zero_add,← Array.getElem?_toList,hc]
 exact hj
end Go.Proofs.YtglkmaalpammcaaGreat
namespace Go.Proofs.YtglkmaalpammcaaGreat
open Go.Gl Go.RowKit
end Go.Proofs.YtglkmaalpammcaaGreat
namespace Go.Gl
open Go.RowKit
def jd {α:Type} (f:α→Value) (w:World) (v:Value) (xs:List α):Prop:=fZ w 1 v xs.length (xs.map f)
def fF {α:Type} (e:TypeId) (f:α→Value) (w:World) (v:Value) (xs:List α):Prop:=aO w e 1 v xs.length (xs.map f)
theorem fF.rd {α:Type}{e:TypeId}{f:α→Value}{w:World}{v:Value}{xs:List α} (h:fF e f w v xs):jd f w v xs:=aO.rd h
theorem jd.nil {α:Type} (f:α→Value) (w:World):jd f w (.slice none 0 0) []:=⟨rfl,.inl ⟨.nil,rfl⟩⟩
theorem fF.nil {α:Type} (e:TypeId) (f:α→Value) (w:World):fF e f w (.slice none 0 0) []:=⟨rfl,.inl ⟨rfl,rfl⟩⟩
theorem jd.form {α:Type}{f:α→Value}{w:World}{v:Value}{xs:List α} (h:jd f w v xs):∃ a cap,v = .slice a xs.length cap∧xs.length≤maxLen:=fZ.form h
theorem jd.keep {α:Type}{f:α→Value}{S:Nat→Prop}{w w':World}{v:Value}{xs:List α} (h:jd f w v xs) (hm:ae S w w') (hs:∀ k,v.ownBlock=some k→¬ S k):jd f w' v xs:=fZ.keep h hm hs
theorem fF.keep {α:Type}{e:TypeId}{f:α→Value}{S:Nat→Prop}{w w':World}{v:Value}{xs:List α} (h:fF e f w v xs) (hm:ae S w w') (hs:∀ k,v.ownBlock=some k→¬ S k):fF e f w' v xs:=aO.keep h hm hs
theorem jd.ltn {α:Type}{f:α→Value}{w:World}{v:Value}{xs:List α} (h:jd f w v xs) (hn:xs.length≠0):∀ k,v.ownBlock=some k→k<w.heap.size:=fZ.ltn h hn
theorem jd.keepL {α:Type}{f:α→Value}{S:Nat→Prop}{w w':World}{v:Value}{xs:List α} (h:jd f w v xs) (hm:ae S w w') (hs:∀ k,k<w.heap.size→v.ownBlock=some k→¬ S k):jd f w' v xs:=fZ.keepL h hm hs
theorem fF.lt {α:Type}{e:TypeId}{f:α→Value}{w:World}{v:Value}{xs:List α} (h:fF e f w v xs):∀ k,v.ownBlock=some k→k<w.heap.size:=aO.lt h
theorem jd.open {α:Type}{f:α→Value}{w:World}{v:Value}{xs:List α} (h:jd f w v xs) :
  (qh v∧xs=[])∨∃ g off cap,v = .slice (some ⟨g,off,none⟩) xs.length cap∧xs.length≤cap∧cap≤maxLen∧(xs.length=0∨g<w.heap.size)∧∀ i (hi:i<xs.length),w.cell? ⟨g,off+i,none⟩=some (f xs[i]):=by
 rcases h.2 with ⟨h0,hn⟩ | ⟨g,off,cap,hv,h1,h2,hg,h3⟩
 ·exact .inl ⟨h0,List.eq_nil_of_length_eq_zero hn⟩
 ·exact .inr ⟨g,off,cap,hv,h1,h2,hg,fun i hi=>h3 i _ (by simp [hi])⟩
theorem fF.open {α:Type}{e:TypeId}{f:α→Value}{w:World}{v:Value}{xs:List α} (h:fF e f w v xs) :
  (v = .slice none 0 0∧xs=[])∨∃ g off cap cur,v = .slice (some ⟨g,off,none⟩) xs.length cap∧w.heap[g]?=some (.cells cur e (0,0))∧xs.length≤cap∧cap≤maxLen∧off+cap≤cur.size∧∀ i (hi:i<xs.length),cur[off+i]?=some (f xs[i]):=by
 rcases h.2 with ⟨rfl,hn⟩ | ⟨g,off,cap,cur,hv,h1,h2,h3,h4,h5⟩
 ·exact .inl ⟨rfl,List.eq_nil_of_length_eq_zero hn⟩
 ·exact .inr ⟨g,off,cap,cur,hv,h1,h2,h3,by omega,fun i hi=>h5 i _ (by simp [hi])⟩
abbrev u64 (n:Nat):Value := .int .u64 n
abbrev ON (e:TypeId) (w:World) (v:Value) (ls:List Nat):Prop:=fF e u64 w v ls
def Lim (ls:List Nat):Prop:=∀ x∈ls,x≤18446744073709551615
end Go.Gl
namespace Go.Proofs.YtglkmaalpammcaaGreat
open Go.Gl Go.RowKit
end Go.Proofs.YtglkmaalpammcaaGreat
namespace Go.Gl
def dval (B:Nat):List Nat→Nat
 | []=>0
 | d :: ds=>d+B*dval B ds
def strip:List Nat→List Nat
 | []=>[]
 | d :: ds=>if d=0∧strip ds=[] then [] else d :: strip ds
def ldig (B:Nat):Nat→Nat→List Nat
 | 0,_=>[]
 | n+1,x=>x % B :: ldig B n (x / B)
def dig (B x:Nat):List Nat:=strip (ldig B x x)
end Go.Gl
namespace Go.Gl
end Go.Gl
namespace Go.Proofs.YtglkmaalpammcaaGreat
open Go.Gl Go.RowKit
end Go.Proofs.YtglkmaalpammcaaGreat
namespace Go.Proofs.YtglkmaalpammcaaGreat
open Go.Shelf
end Go.Proofs.YtglkmaalpammcaaGreat
namespace Go.Gl
end Go.Gl
namespace Go.Proofs.YtglkmaalpammcaaGreat
open Go.Gl Go.RowKit
end Go.Proofs.YtglkmaalpammcaaGreat
namespace Go.Gl
end Go.Gl
namespace Go.Proofs.YtglkmaalpammcaaGreat
open Go.Gl Go.RowKit
end Go.Proofs.YtglkmaalpammcaaGreat
namespace Go.Proofs.YtglkmaalpammcaaGreat
open Go.Gl Go.RowKit
theorem Wr.then0 {w wy:World}{g:Nat}{v:Value}{xs:List UInt8}{e:Int} (h:Wr w g v xs e) (hm:ae ai w wy):Wr wy g v xs e :=
 ⟨hm.heap h.heap (fun x=>x),h.own.keep hm (fun _ _ x=>x),h.apart⟩
end Go.Proofs.YtglkmaalpammcaaGreat
namespace Go.Proofs.YtglkmaalpammcaaGreat
open Go.Gl Go.RowKit
theorem yS (xs:List UInt8) (k:Nat) (h:k<xs.length):num (xs.take (k+1))=num (xs.take k)*256+(xs[k]).toNat:=by
 rw [List.take_succ_eq_append_getElem h,yZ]
theorem ul (xs:List UInt8) (k:Nat) (hx:xs.length≤8) (h:k<xs.length):num (xs.take k)<72057594037927936:=by
 have:=yB (xs.take k)
 have h1:(xs.take k).length≤7:=by rw [List.length_take];omega
 have h2:256 ^ (xs.take k).length≤256 ^ 7:=Nat.pow_le_pow_right (by decide) h1
 have h3:(256:Nat) ^ 7=72057594037927936:=by decide
 omega
theorem Aq {a b:Int} (h:a=b):Ending.returned (.int .u64 a) = .returned (.int .u64 b):=by rw [h]
end Go.Proofs.YtglkmaalpammcaaGreat
namespace Go.Proofs.YtglkmaalpammcaaGreat
open Go.Gl Go.RowKit
structure RR (w:World) (g:Nat) (vB:Value) (xs:List UInt8) (err:Int):Prop where
 heap:w.heap[g]?=some (.cells #[vB,.int .i64 err] 249 (0,0))
 rd:Rd w vB xs
 apart:vB.ownBlock≠some g
def lZ (n:Nat) (xs:List UInt8) (err:Int):List UInt8:=if err=0 then (if n≤xs.length then xs.take n else []) else []
def qF (n:Nat) (xs:List UInt8) (err:Int):List UInt8:=if err=0 then (if n≤xs.length then xs.drop n else xs) else xs
def qG (n:Nat) (xs:List UInt8) (err:Int):Int:=if err=0 then (if n≤xs.length then 0 else 40) else err
structure tN (w:World) (g:Nat) (vB:Value) (xs:List UInt8) (err:Int) (w':World):Prop where
 st:∃ vB',RR w' g vB' xs err∧(∀ k,vB'.ownBlock=some k→vB.ownBlock=some k)
 mods:ae (fun k=>k=g) w w'
theorem ae.one (w:World) (g o:Nat) (u:Value):ae (fun k=>k=g) w (w.setCell ⟨g,o,none⟩ u):=(ae.refl (fun k=>k=g) w).setCell (.inl (by rfl)) u
theorem RR.lt {w:World}{g:Nat}{vB:Value}{xs:List UInt8}{err:Int} (h:RR w g vB xs err):g<w.heap.size:=lt_of_heap h.heap
theorem RR.keep {S:Nat→Prop}{w w':World}{g:Nat}{vB:Value}{xs:List UInt8}{err:Int} (h:RR w g vB xs err) (hm:ae S w w') (hg:¬ S g) (hv:∀ k,vB.ownBlock=some k→¬ S k):RR w' g vB xs err :=
 ⟨hm.heap h.heap hg,h.rd.keep hm hv,h.apart⟩
theorem Rd.drop {w:World}{g off n cap:Nat}{xs:List UInt8} (h:Rd w (.slice (some ⟨g,off,none⟩) xs.length cap) xs) (hn:n≤xs.length):Rd w (.slice (if cap=n then some ⟨g,off,none⟩ else some ⟨g,off+n,none⟩) (xs.length - n) (cap - n)) (xs.drop n):=by
 rcases h.open with ⟨h1,_⟩ | ⟨g',off',cap',h1,h2,h3,h4,h5⟩
 ·exact h1.no.elim
 ·cases h1
  by_cases hc:cap=n
  ·rw [if_pos hc]
   obtain rfl:n=xs.length:=by omega
   rw [List.drop_length,Nat.sub_self]
   exact⟨rfl,.inr ⟨g,off,_,rfl,Nat.zero_le _,by omega,.inl rfl,fun j u hj=>by simp [bv] at hj⟩⟩
  ·rw [if_neg hc]
   refine⟨by rw [jy,Nat.mul_one],.inr ⟨_,_,_,by rw [List.length_drop],by rw [List.length_drop];omega,by omega,h4.imp (fun x=>by rw [List.length_drop];omega) id,fun j u hj=>?_⟩⟩
   have hj':j<(xs.drop n).length:=by have:=(List.getElem?_eq_some_iff.1 hj).1;simpa [jy] using this
   rw [rV _ j hj'] at hj
   rw [← hj,Nat.add_assoc,h5 (n+j) (by rw [List.length_drop] at hj';omega)]
   simp
theorem Es {w:World}{g:Nat}{vB:Value}{xs:List UInt8}{err:Int} (n:Nat) (h:RR w g vB xs err) (he:err≠0) :
  Calls Tryz.prog 230 #[.pointer (some ⟨g,0,none⟩),.int .i64 n] w fun e w'=>e = .returned (.slice none 0 0)∧w'=w:=by
 have c:=ag h.heap
 have hb:(err == 0)=false:=by simp [he]
 have hb2:(err != 0)=true:=by simp [he]
 clear h he
 go_enter Tryz.func230,Tryz.ntmps230
 go_wp2
 go_ret
 exact⟨rfl,rfl⟩
theorem Ae {w:World}{g:Nat}{vB:Value}{xs:List UInt8} (n:Nat) (h:RR w g vB xs 0) (hn:xs.length<n) (hm:n≤9223372036854775807) :
  Calls Tryz.prog 230 #[.pointer (some ⟨g,0,none⟩),.int .i64 n] w fun e w'=>e = .returned (.slice none 0 0)∧tN w g vB xs 40 w':=by
 obtain⟨a,ca,rfl,h1⟩:=h.rd.form
 have c:=ag h.heap
 have f:=bY h.heap
 have R:=lh h
 clear h
 generalize hx:xs.length=len at *
 have HX:=lh hx
 clear hx h1
 go_enter Tryz.func230,Tryz.ntmps230
 go_wp2
 go_ret
 have hh:=heap_set R.out.heap 1 (.int .i64 40)
 refine⟨rfl,⟨_,⟨by simpa using hh,R.out.rd.keep (ae.one _ _ _ _) (fun k hk e=>R.out.apart (by rw [hk,e])),R.out.apart⟩,fun _ x=>x⟩,ae.one _ _ _ _⟩
theorem RR.setB {w:World}{g:Nat}{vB:Value}{xs:List UInt8}{err:Int} (h:RR w g vB xs err) (v:Value):(w.setCell ⟨g,0,none⟩ v).heap[g]?=some (.cells #[v,.int .i64 err] 249 (0,0)):=by
 have hh:=heap_set h.heap 0 v
 simpa using hh
theorem RR.setE {w:World}{g:Nat}{vB:Value}{xs:List UInt8}{err:Int} (h:RR w g vB xs err) (n:Int):(w.setCell ⟨g,1,none⟩ (.int .i64 n)).heap[g]?=some (.cells #[vB,.int .i64 n] 249 (0,0)):=by
 have hh:=heap_set h.heap 1 (.int .i64 n)
 simpa using hh
theorem xk {w:World}{g gb off off' ca ca' m:Nat}{xs:List UInt8}{n:Nat} (R:RR w g (.slice (some ⟨gb,off,none⟩) xs.length ca) xs 0) (hn:n≤xs.length) (r3:Rd w (.slice (some ⟨gb,off',none⟩) m ca') (xs.drop n)) :
  ∃ v,Ending.returned (.slice (some ⟨gb,off,none⟩) n ca) = .returned v∧Rd (w.setCell ⟨g,0,none⟩ (.slice (some ⟨gb,off',none⟩) m ca')) v (xs.take n)∧(∀ k,v.ownBlock=some k→(Value.slice (some ⟨gb,off,none⟩) xs.length ca).ownBlock=some k)∧tN w g (.slice (some ⟨gb,off,none⟩) xs.length ca) (xs.drop n) 0 (w.setCell ⟨g,0,none⟩ (.slice (some ⟨gb,off',none⟩) m ca')):=by
 have hne:gb≠g:=fun e=>R.apart (by rw [e];rfl)
 refine⟨_,rfl,(R.rd.take hn).keep (ae.one _ _ _ _) (fun k hk e=>?_),fun k hk=>by simpa [Value.ownBlock] using hk,⟨_,⟨R.setB _,r3.keep (ae.one _ _ _ _) (fun k hk e=>?_),fun e=>?_⟩,fun k hk=>by simpa [Value.ownBlock] using hk⟩,ae.one _ _ _ _⟩
 ·simp [Value.ownBlock] at hk;omega
 ·simp [Value.ownBlock] at hk;omega
 ·simp [Value.ownBlock] at e;omega
theorem FQ {w:World}{g:Nat}{vB:Value}{xs:List UInt8} (n:Nat) (h:RR w g vB xs 0) (hn:n≤xs.length) :
  Calls Tryz.prog 230 #[.pointer (some ⟨g,0,none⟩),.int .i64 n] w fun e w'=>∃ v,e = .returned v∧Rd w' v (xs.take n)∧(∀ k,v.ownBlock=some k→vB.ownBlock=some k)∧tN w g vB (xs.drop n) 0 w':=by
 rcases h.rd.open with ⟨h0,rfl⟩ | ⟨gb,off,ca,rfl,h1,h2,h3,_⟩
 ·obtain⟨a0,rfl⟩:=h0.form
  obtain rfl:n=0:=by simpa using hn
  have c:=ag h.heap
  have f:=bY h.heap
  have R:=lh h
  clear h hn
  go_enter Tryz.func230,Tryz.ntmps230
  go_wp2
  go_ret
  have hh:=heap_set R.out.heap 0 (.slice a0 0 0)
  refine⟨_,rfl,R.out.rd.any,fun _ x=>x,⟨_,⟨by simpa using hh,R.out.rd.any,R.out.apart⟩,fun _ x=>x⟩,ae.one _ _ _ _⟩
 ·have hm:ca≤9223372036854775807:=by simp only [maxLen] at h2;omega
  have r2:=Rd.drop h.rd hn
  by_cases hcn:ca=n
  ·subst hcn
   rw [if_pos rfl,Nat.sub_self,show xs.length - ca=0 from by omega] at r2
   have c:=ag h.heap
   have f:=bY h.heap
   have R:=lh (And.intro h r2)
   clear h h2 h3 r2
   go_enter Tryz.func230,Tryz.ntmps230
   go_wp2
   go_ret
   exact xk R.out.1 hn R.out.2
  ·rw [if_neg hcn] at r2
   have c:=ag h.heap
   have f:=bY h.heap
   have R:=lh (And.intro h r2)
   clear h h2 h3 r2
   go_enter Tryz.func230,Tryz.ntmps230
   go_wp2
   go_ret
   exact xk R.out.1 hn R.out.2
theorem D9 {w:World}{g:Nat}{vB:Value}{xs:List UInt8}{err:Int} (n:Nat) (h:RR w g vB xs err) (hm:n≤9223372036854775807) :
  Calls Tryz.prog 230 #[.pointer (some ⟨g,0,none⟩),.int .i64 n] w fun e w'=>∃ v,e = .returned v∧Rd w' v (lZ n xs err)∧tN w g vB (qF n xs err) (qG n xs err) w':=by
 unfold qF lZ qG
 by_cases he:err=0
 ·subst he
  by_cases hn:n≤xs.length
  ·simp only [if_true,hn]
   exact (FQ n h hn).mono fun e w' ⟨v,he,hr,_,hs⟩=>⟨v,he,hr,hs⟩
  ·simp only [if_true,hn,if_false]
   exact (Ae n h (by omega) hm).mono fun e w' ⟨he,hs⟩=>⟨_,he,Rd.nil _,hs⟩
 ·simp only [he,if_false]
  exact (Es n h he).mono fun e w' ⟨hr,hw⟩=>by subst hw;exact⟨_,hr,Rd.nil _,⟨vB,h,fun _ x=>x⟩,ae.refl _ _⟩
theorem yO {w:World}{g:Nat}{vB:Value}{xs:List UInt8}{err:Int} (n:Nat) (h:RR w g vB xs err) (hm:n≤8) :
  Calls Tryz.prog 165 #[.pointer (some ⟨g,0,none⟩),.int .i64 n] w fun e w'=>e = .returned (.int .u64 (num (lZ n xs err)))∧tN w g vB (qF n xs err) (qG n xs err) w':=by
 have hy:(lZ n xs err).length≤8:=by
  unfold lZ
  repeat' split
  ·rw [List.length_take];omega
  ·simp
  ·simp
 go_enter Tryz.func165,Tryz.ntmps165
 go_wp2_with fail
 refine (D9 n h (by omega)).mono ?_
 rintro e w1 ⟨v,rfl,hr,hs⟩
 obtain⟨ax,cx,rfl,h1,h2⟩:=Rd.at hr
 have HS:=lh hs
 have KX:=lh h2
 generalize hys:lZ n xs err=ys at *
 have HY:=lh hys
 clear hr hs h2 h h1 hys
 obtain⟨nx,hnx⟩:∃ nx,ys.length=nx:=⟨_,rfl⟩
 have KX:Hid (nx=0∨∃ g off,ax=some ⟨g,off,none⟩∧∀ i (hi:i<ys.length),w1.cell? ⟨g,off+i,none⟩=some (.int .u8 (ys[i]).toNat)):=by
  rcases KX.out with h | h
  ·exact .inl (by omega)
  ·exact .inr h
 rw [hnx] at hy ⊢
 have HX:=lh hnx
 clear hnx
 go_wp2
 go_loop [6,7] (fun x i=>∃ k:Nat,k≤nx∧i = .int .i64 k∧x = .int .u64 (num (ys.take k))) (fun _ i=>nx - (intOf i).toNat)
 case atStart=>exact⟨0,Nat.zero_le _,rfl,rfl⟩
 case round =>
  obtain⟨k,hk,rfl,rfl⟩:=hrel
  by_cases hlt:k<nx
  ·have lx:k<ys.length:=by rw [HX.out];exact hlt
   obtain⟨g',off,hax,c1⟩:=KX.out.resolve_left (by omega)
   have c2:=c1 k lx
   have hb:=(ys[k]).toNat_lt
   have hb0:(0:Int)≤((ys[k]).toNat:Int):=by omega
   have hn:=ul ys k (by rw [HX.out];exact hy) lx
   have ht:=lh (yS ys k lx)
   clear c1 KX
   subst hax
   generalize hz:num (ys.take k)=z at *
   have HZ:=lh hz
   clear hz
   have hz1:((z:Nat):Int)<72057594037927936:=by omega
   go_wp2
   go_round
   case rel =>
    refine⟨k+1,by omega,by go_num,?_⟩
    rw [uV _ _ (by omega) hz1 hb0 (by omega),ht.out]
    simp
   case measure=>simp [intOf];omega
  ·obtain rfl:k=nx:=by omega
   go_wp2
   go_ret
   refine⟨Aq ?_,HS.out⟩
   rw [List.take_of_length_le (by rw [HX.out];omega),HY.out]
end Go.Proofs.YtglkmaalpammcaaGreat
namespace Go.Proofs.YtglkmaalpammcaaGreat
open Go.Gl Go.RowKit
def rtake (n:Nat) (xs:List UInt8) (e:Int):Nat:=if e=0 then (if n≤xs.length then num (xs.take n) else 0) else 0
def rerr (n:Nat) (xs:List UInt8) (e:Int):Int:=if e=0 then (if n≤xs.length then 0 else 40) else e
def rleft (n:Nat) (xs:List UInt8) (e:Int):List UInt8:=if e=0 then (if n≤xs.length then xs.drop n else xs) else xs
end Go.Proofs.YtglkmaalpammcaaGreat
namespace Go.Proofs.YtglkmaalpammcaaGreat
open Go.Gl Go.RowKit
end Go.Proofs.YtglkmaalpammcaaGreat
namespace Go.Gl
end Go.Gl
namespace Go.Proofs.YtglkmaalpammcaaGreat
open Go.Gl Go.RowKit
end Go.Proofs.YtglkmaalpammcaaGreat
namespace Go.Proofs.YtglkmaalpammcaaGreat
open Go.Gl Go.RowKit
abbrev oM:=List UInt8 × Int
def est (n:Nat) (s:oM):oM:=(rleft n s.1 s.2,rerr n s.1 s.2)
def yG (n:Nat) (s:oM):Nat:=rtake n s.1 s.2
def boolS (s:oM):oM:=if s.2=0∧1<yG 1 s then (s.1,41) else est 1 s
end Go.Proofs.YtglkmaalpammcaaGreat
namespace Go.Proofs.YtglkmaalpammcaaGreat
open Go.Gl Go.RowKit
end Go.Proofs.YtglkmaalpammcaaGreat
namespace Go.Proofs.YtglkmaalpammcaaGreat
open Go.Gl Go.RowKit
def CG (s:oM):List UInt8:=(s.1.drop 1).take (yG 1 s)
def natV (s:oM):List Nat:=if s.2=0∧1≤s.1.length∧1+yG 1 s≤s.1.length∧(CG s)[0]?≠some 0 then dig 18446744073709551616 (num (CG s)) else []
def natT (s:oM):oM:=if s.2=0 then (if 1≤s.1.length∧1+yG 1 s≤s.1.length then (if (CG s)[0]?=some 0 then (s.1,41) else (s.1.drop (1+yG 1 s),0)) else (s.1,40)) else s
end Go.Proofs.YtglkmaalpammcaaGreat
namespace Go.Proofs.YtglkmaalpammcaaGreat
open Go.Gl Go.RowKit
end Go.Proofs.YtglkmaalpammcaaGreat
namespace Go.Proofs.YtglkmaalpammcaaGreat
open Go.Gl Go.RowKit
structure xy where
 k:Nat
 n:Nat
 ls:List Nat
def xy.N (f:xy):Nat:=dval 18446744073709551616 f.ls
def rdF (k:Nat) (s:oM):xy × oM :=
 if k=0 then (⟨0,yG 8 s,[]⟩,est 8 s) else if k=1 then (⟨1,if decide (yG 1 s=1)=true then 1 else 0,[]⟩,boolS s) else (⟨2,0,natV s⟩,natT s)
def yf:List Nat→oM→List xy × oM
 | [],s=>([],s)
 | k :: ks,s=>((rdF k s).1 :: (yf ks (rdF k s).2).1,(yf ks (rdF k s).2).2)
structure xy.Ok (f:xy):Prop where
 k:f.k≤2
 n:f.n≤18446744073709551615
 b:f.k=1→f.n≤1
 ls:Lim f.ls
end Go.Proofs.YtglkmaalpammcaaGreat
namespace Go.Proofs.YtglkmaalpammcaaGreat
open Go.Gl Go.RowKit
def zeroF (k:Nat):xy:=⟨k,0,[]⟩
def JO (ks:List Nat) (xs:List UInt8):List xy × Nat :=
 if (yf ks (xs,0)).2=([],0) then ((yf ks (xs,0)).1,0) else (ks.map zeroF,80)
end Go.Proofs.YtglkmaalpammcaaGreat
namespace Go.Proofs.YtglkmaalpammcaaGreat
open Go.Gl Go.RowKit
def two (xs:List UInt8):Nat × Nat:=match (JO [0,0] xs).1 with
 | [a,b]=>(a.n,b.n)
 | _=>(0,0)
theorem Dh {F:List aN} (h:fM F) (k v:List UInt8):fM (jJ F k v):=by
 unfold jJ
 split
 ·exact uH h k v
 ·exact h
theorem Eb (n:Int) (a b:Nat):((fE n a b).getD []).length≤64:=by
  unfold fE
  cases hf:eY n.toNat with
  | none=>simp
  | some f =>
    simp only
    split
    · simp only [Option.getD_some]
      unfold dD iQ
      simp only [List.length_append,List.length_singleton]
      have h1:(if f.a=true then be 8 (fU f a) else []).length≤8:=by split <;> simp [dH]
      have h2:(if f.mid.toNat=0 then ([]:List UInt8) else [f.mid]).length≤1:=by split <;> simp
      have h3:(if f.b=true then be 8 b else []).length≤8:=by split <;> simp [dH]
      omega
    · simp
def KVe (sg:Nat) (F:List aN) (n p:Nat):FP:=fun w S D=>∃ m q,m≤n∧q≤p∧KV w sg F [] m q S D
def iR (g:Nat) (F:List aN) (n:Nat):FP:=fun w S D=>∃ m,m≤n∧kT w g F [] m S D
theorem kX {g:Nat}{F:List aN}{n:Nat}:gz (iR g F n):=⟨fun⟨_,_,h⟩=>⟨kT.lt h |>.1,kT.lt h |>.2.1⟩,fun⟨m,a,h⟩ mm x y=>⟨m,a,kT.keep h mm x y⟩⟩
theorem KVe.more {sg:Nat}{F:List aN}{n p n' p':Nat}{w:World}{S D:Nat→Prop} (h:KVe sg F n p w S D) (hn:n≤n') (hp:p≤p'):KVe sg F n' p' w S D:=by
 obtain⟨m,q,a,b,h⟩:=h
 exact⟨m,q,by omega,by omega,h⟩
theorem iR.more {g:Nat}{F:List aN}{n n':Nat}{w:World}{S D:Nat→Prop} (h:iR g F n w S D) (hn:n≤n'):iR g F n' w S D:=by
 obtain⟨m,a,h⟩:=h
 exact⟨m,by omega,h⟩
theorem GS.any {prog:Program}{f:FuncId}{args:Array Value}{w:World}{Q:Nat→Prop}{r:Value}{ι:Type}{P P':ι→FP}{R R':FP} (h:∀ i,GS prog f args w (P i) Q r (P' i)) (h1:∀ S D,R w S D→∃ i,P i w S D) (h2:∀ w' S D i,P' i w' S D→(∀ S D,R w S D→True)→R' w' S D):GS prog f args w R Q r R':=GS.of fun S D p hQ=>by
 obtain⟨i,hi⟩:=h1 S D p
 refine (h i S D hi hQ).mono ?_
 rintro e w' ⟨v,P1,N,rfl,⟨rfl,rfl,_⟩,S',D',p',m,s,d,_⟩
 exact⟨rfl,S',D',h2 _ _ _ i p' (fun _ _ _=>trivial),m,s,d⟩
section
variable {w:World}{sg g n p:Nat}{F:List aN}{Q:Nat→Prop}
theorem Ec {q u:Value}{ks vs:List UInt8} (hq:Rd w q ks) (hu:Rd w u vs) (oq:Off (fun k=>¬ Q k) q ks) (ou:Off (fun k=>¬ Q k) u vs) (hn:n≤1000000000000) (hF:F.length≤100000):GS Tryz.prog 43 #[.pointer (some ⟨g,0,none⟩),q,u] w (iR g F n) Q (.int .i64 (gU ks vs:Nat)) (iR g (jJ F ks vs) (n+1)):=GS.of fun S D ⟨m,hm,rf⟩ hQ=>by
 refine (Jm hq hu oq ou (n:=m) (by omega) hF S D rf hQ).mono ?_
 rintro e w' ⟨v,P1,N,rfl,⟨rfl,rfl,_⟩,S',D',p',m',s,d,_⟩
 exact⟨rfl,S',D',⟨_,by omega,p'⟩,m',s,d⟩
theorem Ez {q:Value}{ks:List UInt8} (hq:Rd w q ks) (oq:Off (fun k=>¬ Q k) q ks) (hn:n≤1000000000000) (hF:F.length≤100000):GS Tryz.prog 134 #[.pointer (some ⟨g,0,none⟩),q] w (iR g F n) Q (.bool (iy F ks).isSome) (iR g (gJ F ks) (n+1)):=GS.of fun S D ⟨m,hm,rf⟩ hQ=>by
 refine (Jh hq oq (n:=m) (by omega) hF S D rf hQ).mono ?_
 rintro e w' ⟨v,P1,N,rfl,⟨rfl,rfl,_⟩,S',D',p',m',s,d,_⟩
 exact⟨rfl,S',D',⟨_,by omega,p'⟩,m',s,d⟩
end
end Go.Proofs.YtglkmaalpammcaaGreat
namespace Go.Proofs.YtglkmaalpammcaaGreat
open Go.Gl Go.RowKit
theorem qO:(Tryz.prog.info? 22).map (fun i=>(i.zero,i.size,i.bytes))=some (some (.int .u64 0),1,8):=by kernel_rfl
theorem pR {w:World}{g:Nat}{x:Value}{e:TypeId} (h:w.heap[g]?=some (.cells #[x] e (0,0))):aO w e 1 (.slice (some ⟨g,0,none⟩) 1 1) 1 [x]:=⟨rfl,.inr ⟨g,0,1,#[x],rfl,h,Nat.le_refl _,by simp [maxLen],by simp,fun j u hj=>by rw [Nat.zero_add,← hj];exact List.getElem?_toArray⟩⟩
theorem pt0 {w:World}{n:Int}{x0 x2 x3 x4 x5 x6 x7 x8 x9 aW bn bi aZ aP aQ aS aT aX aY bD bC bG bH bJ bQ bP bM bK bV bW cZ dh dn dw di dm:Value}{df:List Deferred}{Q:Exit→Act→World→Prop}
  (hK:∀ (bq:Nat) (w':World),bq=w.heap.size→w'.heap[bq]?=some (.cells #[.int .i64 n] 3 (0,0))→ae ai w w'→Q .normal ⟨#[x0,.int .i64 n,x2,.pointer (some ⟨bq,0,none⟩),.slice none 0 0,x5,x6,x7,x8,x9,aW,bn,bi,aZ,aP,aQ,aS,aT,aX,aY,bD,bC,bG,bH,bJ,bQ,bP,bM,bK,bV,bW,cZ,dh,dn,dw,di,dm],df⟩ w'):RW Tryz.prog (aJ 0 Tryz.f69) false Q ⟨#[x0,.int .i64 n,x2,x3,x4,x5,x6,x7,x8,x9,aW,bn,bi,aZ,aP,aQ,aS,aT,aX,aY,bD,bC,bG,bH,bJ,bQ,bP,bM,bK,bV,bW,cZ,dh,dn,dw,di,dm],df⟩ w:=by
 have HQ:=lh hK
 clear hK
 refine bU [(0,false),(1,false)] (by kernel_rfl) ?_
 refine fG (.cells #[.int .i64 n] 3) (some 3) (ki (by kernel_rfl)) (by kernel_rfl) ?_
 intro k1 w_k1 hk_k1 hO_k1 hm_k1 hl_k1
 refine⟨fun _=>trivial,?_⟩
 refine az [1] [(.slice none 0 0)] rfl (by kernel_rfl) (by kernel_rfl) (.inr trivial) ?_
 exact aA (bg (K:=Q .normal) (by kernel_rfl) (HQ.out  k1 w_k1 hk_k1 hO_k1 hm_k1))
section
variable {x0 x1 x2 x3 x4 x5 x6 x7 x8 x9 aW bn bi aZ aP aQ aS aT aX aY bD bC bG bH bJ bQ bP bM bK bV bW cZ dh dn dw di dm dK dE dF dL dM dN dP dQ dR dS dO eF eG fA ed dX dY eH eP eQ fB eU fD fC eX iG iH:Value}{df:List Deferred}{Q:Exit→Act→World→Prop}
theorem pt1 {w:World}{hb:Nat}{n:Int}{B:Bool} (q0:w.cell? ⟨hb,0,none⟩=some (.int .i64 n)) (hB:decide (n<1)=B)
  (hK:∀ (lD:Value)  (w':World),w'=w→Q .normal ⟨#[x0,x1,x2,.pointer (some ⟨hb,0,none⟩),x4,x5,x6,x7,x8,x9,aW,lD,.bool B,aZ,aP,aQ,aS,aT,aX,aY,bD,bC,bG,bH,bJ,bQ,bP,bM,bK,bV,bW,cZ,dh,dn,dw,di,dm],df⟩ w'):RW Tryz.prog (aJ 1 Tryz.f69) false Q ⟨#[x0,x1,x2,.pointer (some ⟨hb,0,none⟩),x4,x5,x6,x7,x8,x9,aW,bn,bi,aZ,aP,aQ,aS,aT,aX,aY,bD,bC,bG,bH,bJ,bQ,bP,bM,bK,bV,bW,cZ,dh,dn,dw,di,dm],df⟩ w:=by
 have HQ:=lh hK
 clear hK
 refine bU [(0,false),(1,false)] (by kernel_rfl) ?_
 refine aC (.int .i64 n) _ (some 11) (ki (by kernel_rfl)) (aG (x:=(.tmp 3)) (by kernel_rfl) (by kernel_rfl) (aI ((fun _=>q0) (trivial)) Tryz.underlying3 rfl)) (fun _=>trivial) ?_
 refine aC (.bool B) _ (some 12) (ki (by kernel_rfl)) (cO (t:=3) (t':=3) (xv := .int .i64 n) (yv := .int .i64 1) (x:=(.tmp 11)) (y:=(.const (.int .i64 1))) (by kernel_rfl) (by kernel_rfl) (by kernel_rfl) (fun _=>by kernel_rfl) (kP _ hB)) (fun _=>trivial) ?_
 exact aA (bg (K:=Q .normal) (by kernel_rfl) (HQ.out (.int .i64 n) _ rfl))
theorem pt3 {w:World} 
  (hK:∀ (bq:Nat) (w':World),bq=w.heap.size→w'.heap[bq]?=some (.cells #[.slice none 0 0] 63 (0,0))→ae ai w w'→Q .normal ⟨#[x0,x1,x2,x3,x4,.pointer (some ⟨bq,0,none⟩),x6,x7,x8,x9,aW,bn,bi,aZ,aP,aQ,aS,aT,aX,aY,bD,bC,bG,bH,bJ,bQ,bP,bM,bK,bV,bW,cZ,dh,dn,dw,di,dm],df⟩ w'):RW Tryz.prog (aJ 3 Tryz.f69) false Q ⟨#[x0,x1,x2,x3,x4,x5,x6,x7,x8,x9,aW,bn,bi,aZ,aP,aQ,aS,aT,aX,aY,bD,bC,bG,bH,bJ,bQ,bP,bM,bK,bV,bW,cZ,dh,dn,dw,di,dm],df⟩ w:=by
 have HQ:=lh hK
 clear hK
 refine bU [(0,false)] (by kernel_rfl) ?_
 refine fG (.cells #[.slice none 0 0] 63) (some 5) (ki (by kernel_rfl)) (by kernel_rfl) ?_
 intro k1 w_k1 hk_k1 hO_k1 hm_k1 hl_k1
 refine⟨fun _=>trivial,?_⟩
 exact aA (bg (K:=Q .normal) (by kernel_rfl) (HQ.out  k1 w_k1 hk_k1 hO_k1 hm_k1))
theorem pt4 {w:World}{X:Value→World→Prop} (hC:Calls Tryz.prog 112 #[.int .i64 10] w fun e w'=>∃ (v er:Value),e = .returned (.tuple #[v,er])∧X v w')
  (hK:∀ (y7 kF jB jR jS:Value) (v:Value) (w':World),X v w'→Q .normal ⟨#[x0,x1,x2,x3,x4,x5,v,y7,x8,x9,aW,bn,bi,kF,jB,jR,jS,aT,aX,aY,bD,bC,bG,bH,bJ,bQ,bP,bM,bK,bV,bW,cZ,dh,dn,dw,di,dm],df⟩ w'):RW Tryz.prog (aJ 4 Tryz.f69) false Q ⟨#[x0,x1,x2,x3,x4,x5,x6,x7,x8,x9,aW,bn,bi,aZ,aP,aQ,aS,aT,aX,aY,bD,bC,bG,bH,bJ,bQ,bP,bM,bK,bV,bW,cZ,dh,dn,dw,di,dm],df⟩ w:=by
 have HQ:=lh hK
 clear hK
 refine bU [(0,false),(1,false),(2,false),(3,false),(4,false),(5,false)] (by kernel_rfl) ?_
 refine bu (some 14) (ki (by kernel_rfl)) hC (fun _=>by kernel_rfl) ?_
 rintro r w7 ⟨v,er,rfl,hx⟩
 refine⟨_,rfl,fun _=>trivial,?_⟩
 refine az [1,2,3,4,5] [.tuple #[v,er],v,er,v,er] rfl (by kernel_rfl) (by kernel_rfl) (.inr trivial) ?_
 exact aA (bg (K:=Q .normal) (by kernel_rfl) (HQ.out (er) (.tuple #[v,er]) (.tuple #[v,er]) (v) (er) v w7 hx))
theorem pt5 {w:World}{sv hv:Value}{X:Array Value→World→Prop} (hC:Calls Tryz.prog 114 #[sv,hv] w fun e w'=>∃ lb,e = .returned (.func (.func 244) #[] lb)∧X lb w')
  (hK:∀ (jk jl:Value) (lb:Array Value) (w':World),X lb w'→Q .normal ⟨#[sv,x1,x2,x3,x4,x5,hv,x7,x8,x9,aW,bn,bi,aZ,aP,aQ,aS,jk,jl,.func (.func 244) #[] lb,bD,bC,bG,bH,bJ,bQ,bP,bM,bK,bV,bW,cZ,dh,dn,dw,di,dm],df⟩ w'):RW Tryz.prog (aJ 5 Tryz.f69) false Q ⟨#[sv,x1,x2,x3,x4,x5,hv,x7,x8,x9,aW,bn,bi,aZ,aP,aQ,aS,aT,aX,aY,bD,bC,bG,bH,bJ,bQ,bP,bM,bK,bV,bW,cZ,dh,dn,dw,di,dm],df⟩ w:=by
 have HQ:=lh hK
 clear hK
 refine bU [(0,false),(1,false),(2,false)] (by kernel_rfl) ?_
 refine az [0,1] [sv,hv] rfl (by kernel_rfl) (by kernel_rfl) (.inr trivial) ?_
 refine bu (some 19) (ki (by kernel_rfl)) hC (fun _=>by kernel_rfl) ?_
 rintro r w7 ⟨lb,rfl,hx⟩
 refine⟨_,rfl,fun _=>trivial,?_⟩
 exact aA (bg (K:=Q .normal) (by kernel_rfl) (HQ.out (sv) (hv) lb w7 hx))
theorem pt6 {w:World}{u:Value}{x0 x1 x2 x3 x4 x5 x6 x7 x8 x9 aW bn bi aZ aP aQ aS aT aX aY bC bG bH bJ bQ bP bM bK bV bW cZ dh dn dw di dm:Value}{df:List Deferred}{Q:Exit→Act→World→Prop}
  (hK:∀  (w':World),w'=w→Q .normal ⟨#[x0,x1,x2,x3,x4,x5,x6,x7,u,x9,aW,bn,bi,aZ,aP,aQ,aS,aT,aX,aY,u,bC,bG,bH,bJ,bQ,bP,bM,bK,bV,bW,cZ,dh,dn,dw,di,dm],df⟩ w'):RW Tryz.prog (aJ 6 Tryz.f69) false Q ⟨#[x0,x1,x2,x3,x4,x5,x6,x7,x8,x9,aW,bn,bi,aZ,aP,aQ,aS,aT,aX,aY,u,bC,bG,bH,bJ,bQ,bP,bM,bK,bV,bW,cZ,dh,dn,dw,di,dm],df⟩ w:=by
 have HQ:=lh hK
 clear hK
 refine bU [(0,false)] (by kernel_rfl) ?_
 refine az [0] [u] rfl (by kernel_rfl) (by kernel_rfl) (.inr trivial) ?_
 exact aA (bg (K:=Q .normal) (by kernel_rfl) (HQ.out  _ rfl))
theorem pt7 {w:World}{u:Value}{X:Int→Nat→Nat→World→Prop} (hC:Calls Tryz.prog 147 #[u] w fun e w'=>∃ (kk:Int) (a b:Nat) (er:Value),e = .returned (.tuple #[.agg #[.int .i64 kk,.int .u64 ((a:Nat):Int),.int .u64 ((b:Nat):Int)],er])∧X kk a b w')
  (hK:∀ (jQ jm iY jD iZ jo:Value) (kk:Int) (a b bq:Nat) (wc:World) (w':World),X kk a b wc→wc.heap.size≤bq→w'.heap[bq]?=some (.cells #[.int .i64 kk,.int .u64 ((a:Nat):Int),.int .u64 ((b:Nat):Int)] 173 (0,0))→ae ai wc w'→Q .normal ⟨#[x0,x1,x2,x3,x4,x5,x6,x7,u,.pointer (some ⟨bq,0,none⟩),jQ,bn,bi,aZ,aP,aQ,aS,aT,aX,aY,bD,bC,jm,iY,jD,iZ,jo,bM,bK,bV,bW,cZ,dh,dn,dw,di,dm],df⟩ w'):RW Tryz.prog (aJ 7 Tryz.f69) false Q ⟨#[x0,x1,x2,x3,x4,x5,x6,x7,u,x9,aW,bn,bi,aZ,aP,aQ,aS,aT,aX,aY,bD,bC,bG,bH,bJ,bQ,bP,bM,bK,bV,bW,cZ,dh,dn,dw,di,dm],df⟩ w:=by
 have HQ:=lh hK
 clear hK
 refine bU [(0,false),(1,false),(2,false),(3,false),(4,false),(5,false),(6,false),(7,false)] (by kernel_rfl) ?_
 refine az [0] [u] rfl (by kernel_rfl) (by kernel_rfl) (.inr trivial) ?_
 refine bu (some 24) (ki (by kernel_rfl)) hC (fun _=>by kernel_rfl) ?_
 rintro r w7 ⟨kk,a,b,er,rfl,hx⟩
 refine⟨_,rfl,fun _=>trivial,?_⟩
 refine az [2,3,4] [.tuple #[.agg #[.int .i64 kk,.int .u64 ((a:Nat):Int),.int .u64 ((b:Nat):Int)],er],.agg #[.int .i64 kk,.int .u64 ((a:Nat):Int),.int .u64 ((b:Nat):Int)],er] rfl (by kernel_rfl) (by kernel_rfl) (.inr trivial) ?_
 refine fG (.cells #[.int .i64 0,.int .u64 0,.int .u64 0] 173) (some 9) (ki (by kernel_rfl)) (by kernel_rfl) ?_
 intro k1 w_k1 hk_k1 hO_k1 hm_k1 hl_k1
 refine⟨fun _=>trivial,?_⟩
 refine nI (off:=0) (ty:=173) (x:=(.tmp 9)) (y:=(.tmp 25)) (cells:=#[.int .i64 kk,.int .u64 ((a:Nat):Int),.int .u64 ((b:Nat):Int)]) #[.int .i64 kk,.int .u64 ((a:Nat):Int),.int .u64 ((b:Nat):Int)] none (ki (by kernel_rfl)) (by kernel_rfl) (by kernel_rfl) (by kernel_rfl) hO_k1 (by kernel_rfl) (by kernel_rfl) (by kernel_rfl) (by kernel_rfl) ?_
 intro w9 hO9 hm9 hs9
 refine⟨fun _=>trivial,?_⟩
 have hM:=hm_k1.trans hm9 (U:=ai) (fun _ _ x=>x) (fun i hi e=>by omega)
 refine az [7] [er] rfl (by kernel_rfl) (by kernel_rfl) (.inr trivial) ?_
 exact aA (bg (K:=Q .normal) (by kernel_rfl) (HQ.out (er) (.tuple #[.agg #[.int .i64 kk,.int .u64 ((a:Nat):Int),.int .u64 ((b:Nat):Int)],er]) (u) (.tuple #[.agg #[.int .i64 kk,.int .u64 ((a:Nat):Int),.int .u64 ((b:Nat):Int)],er]) (.agg #[.int .i64 kk,.int .u64 ((a:Nat):Int),.int .u64 ((b:Nat):Int)]) (er) kk a b k1 w7 w9 hx (Nat.le_of_eq hk_k1.symm) hO9 hM))
theorem pt8 {w:World}{ob kb n x:Nat}{vo:Value}{pcs:List Value}{t:TypeId} (hg:w.heap[ob]?=some (.cells #[vo] t (0,0))) (qk:w.cell? ⟨kb,2,none⟩=some (.int .u64 ((x:Nat):Int))) (hr:aO w 22 1 vo n pcs) (hn:n≤100000000) (hvo:¬ dC vo ob)
  (hK:∀ (kH jT jU kJ lG:Value) (v8:Value) (w8:World) (w':World),aO w8 22 1 v8 (n+1) (pcs ++ [.int .u64 ((x:Nat):Int)])→ae (dC vo) w w8→(v8.ownBlock=vo.ownBlock∨aF w v8)→w'=w8.setCell ⟨ob,0,none⟩ v8→Q .normal ⟨#[x0,x1,x2,x3,x4,.pointer (some ⟨ob,0,none⟩),x6,x7,x8,.pointer (some ⟨kb,0,none⟩),aW,bn,bi,aZ,aP,aQ,aS,aT,aX,aY,bD,bC,bG,bH,bJ,bQ,bP,kH,jT,jU,kJ,lG,dh,dn,dw,di,dm],df⟩ w'):RW Tryz.prog (aJ 8 Tryz.f69) false Q ⟨#[x0,x1,x2,x3,x4,.pointer (some ⟨ob,0,none⟩),x6,x7,x8,.pointer (some ⟨kb,0,none⟩),aW,bn,bi,aZ,aP,aQ,aS,aT,aX,aY,bD,bC,bG,bH,bJ,bQ,bP,bM,bK,bV,bW,cZ,dh,dn,dw,di,dm],df⟩ w:=by
 have HQ:=lh hK
 clear hK
 have HR:=lh hr
 have HG:=lh hg
 have q0:w.cell? ⟨ob,0,none⟩=some vo:=ag hg 0
 clear hr hg
 have MR:=lh (ae.refl ai w)
 refine bU [(0,false),(1,false),(2,false),(3,false),(4,false),(5,false)] (by kernel_rfl) ?_
 refine aC (vo) _ (some 27) (ki (by kernel_rfl)) (aG (x:=(.tmp 5)) (by kernel_rfl) (by kernel_rfl) (aI ((fun _=>q0) (trivial)) Tryz.underlying63 rfl)) (fun _=>trivial) ?_
 refine az [1] [af kb 2] rfl (by kernel_rfl) (by kernel_rfl) (.inr trivial) ?_
 refine aC (.int .u64 ((x:Nat):Int)) _ (some 29) (ki (by kernel_rfl)) (aG (x:=(.tmp 28)) (by kernel_rfl) (by kernel_rfl) (aI ((fun _=>qk) (trivial)) Tryz.underlying22 rfl)) (fun _=>trivial) ?_
 refine gK (.cells #[.int .u64 ((x:Nat):Int)] 22) 1 (some 30) (ki (by kernel_rfl)) (by kernel_rfl) ?_
 intro k1 w_k1 hk_k1 hO_k1 hm_k1 hl_k1
 have MZ:=MR.out.size
 replace MR:=lh (MR.out.then0 hm_k1)
 refine⟨fun _=>trivial,?_⟩
 obtain⟨inf,hi,hz,hs,hby⟩:=info_parts qO
 obtain⟨v8,w8,hr8,o8,m8,f8⟩:=iE (P:=Tryz.prog) 63 63 63 22 22 inf (.int .u64 0) Tryz.underlying63 Tryz.underlying63 hi hz (by rw [hs];rfl) (by rw [hs];exact HR.out.keep MR.out (fun _ _ x=>x)) (m:=1) (ys:=[.int .u64 ((x:Nat):Int)]) (by rw [hs];exact aO.rd (pR hO_k1)) (by intro y hy;simp at hy;rw [hy];rfl) (by unfold maxLen;omega) (by rw [hby];omega)
 rw [hs] at o8
 refine aC v8 w8 (some 31) (ki (by kernel_rfl)) (of_append (x:=(.tmp 27)) (y:=(.tmp 30)) (by kernel_rfl) (by kernel_rfl) (by kernel_rfl) hr8) (fun _=>trivial) ?_
 have m78:=hm_k1.trans m8 (U:=dC vo) (fun _ _ x=>x.elim) (fun _ _ x=>x)
 have f9:=f8.imp id (fun h=>h.of hm_k1.size)
 have hg8:=m78.heap HG.out hvo
 obtain⟨a8,c8,e8,_⟩:=o8.rd.form
 have h18:v8.oneCell'=true:=by rw [e8];rfl
 clear e8
 refine fH (ty:=63) (x:=(.tmp 5)) (y:=(.tmp 31)) (g:=ob) (off:=0) (v:=v8) none (ki (by kernel_rfl)) (by kernel_rfl) (by kernel_rfl) (by kernel_rfl) (by kernel_rfl) (by rw [ag hg8];rfl) (bY hg8 _) (h18) ?_
 intro w9 hw9
 refine⟨(fun h=>by first | (cases h;done) | exact trivial),?_⟩
 exact aA (bg (K:=Q .normal) (by kernel_rfl) (HQ.out (vo) (af kb 2) (.int .u64 ((x:Nat):Int)) (.slice (some ⟨k1,0,none⟩) 1 1) (v8) v8 w8 w9 o8 m78 f9 hw9))
theorem pt9 {w:World}{hb ob g off m c:Nat}{n:Int}{B:Bool} (q0:w.cell? ⟨ob,0,none⟩=some (.slice (some ⟨g,off,none⟩) m c)) (q1:w.cell? ⟨hb,0,none⟩=some (.int .i64 n)) (hB:decide (((m:Nat):Int)=n)=B)
  (hK:∀ (lH kK mi:Value)  (w':World),w'=w→Q .normal ⟨#[x0,x1,x2,.pointer (some ⟨hb,0,none⟩),x4,.pointer (some ⟨ob,0,none⟩),x6,x7,x8,x9,aW,bn,bi,aZ,aP,aQ,aS,aT,aX,aY,bD,bC,bG,bH,bJ,bQ,bP,bM,bK,bV,bW,cZ,lH,kK,mi,.bool B,dm],df⟩ w'):RW Tryz.prog (aJ 9 Tryz.f69) false Q ⟨#[x0,x1,x2,.pointer (some ⟨hb,0,none⟩),x4,.pointer (some ⟨ob,0,none⟩),x6,x7,x8,x9,aW,bn,bi,aZ,aP,aQ,aS,aT,aX,aY,bD,bC,bG,bH,bJ,bQ,bP,bM,bK,bV,bW,cZ,dh,dn,dw,di,dm],df⟩ w:=by
 have HQ:=lh hK
 clear hK
 refine bU [(0,false),(1,false),(2,false),(3,false)] (by kernel_rfl) ?_
 refine aC (.slice (some ⟨g,off,none⟩) m c) _ (some 32) (ki (by kernel_rfl)) (aG (x:=(.tmp 5)) (by kernel_rfl) (by kernel_rfl) (aI ((fun _=>q0) (trivial)) Tryz.underlying63 rfl)) (fun _=>trivial) ?_
 refine az [1] [.int .i64 ((m:Nat):Int)] rfl (by kernel_rfl) (by kernel_rfl) (.inr trivial) ?_
 refine aC (.int .i64 n) _ (some 34) (ki (by kernel_rfl)) (aG (x:=(.tmp 3)) (by kernel_rfl) (by kernel_rfl) (aI ((fun _=>q1) (trivial)) Tryz.underlying3 rfl)) (fun _=>trivial) ?_
 refine aC (.bool B) _ (some 35) (ki (by kernel_rfl)) (cO (t:=3) (t':=3) (xv := .int .i64 ((m:Nat):Int)) (yv := .int .i64 n) (x:=(.tmp 33)) (y:=(.tmp 34)) (by kernel_rfl) (by kernel_rfl) (by kernel_rfl) (fun _=>by kernel_rfl) (wu _ hB)) (fun _=>trivial) ?_
 exact aA (bg (K:=Q .normal) (by kernel_rfl) (HQ.out (.slice (some ⟨g,off,none⟩) m c) (.int .i64 ((m:Nat):Int)) (.int .i64 n) _ rfl))
theorem pt10 {w:World}{ob:Nat}{v:Value} (q0:w.cell? ⟨ob,0,none⟩=some v)
  (hK:∀ (lI:Value)  (w':World),w'=w→Q .normal ⟨#[x0,x1,x2,x3,v,.pointer (some ⟨ob,0,none⟩),x6,x7,x8,x9,aW,bn,bi,aZ,aP,aQ,aS,aT,aX,aY,bD,bC,bG,bH,bJ,bQ,bP,bM,bK,bV,bW,cZ,dh,dn,dw,di,lI],df⟩ w'):RW Tryz.prog (aJ 10 Tryz.f69) false Q ⟨#[x0,x1,x2,x3,x4,.pointer (some ⟨ob,0,none⟩),x6,x7,x8,x9,aW,bn,bi,aZ,aP,aQ,aS,aT,aX,aY,bD,bC,bG,bH,bJ,bQ,bP,bM,bK,bV,bW,cZ,dh,dn,dw,di,dm],df⟩ w:=by
 have HQ:=lh hK
 clear hK
 refine bU [(0,false),(1,false)] (by kernel_rfl) ?_
 refine aC (v) _ (some 36) (ki (by kernel_rfl)) (aG (x:=(.tmp 5)) (by kernel_rfl) (by kernel_rfl) (aI ((fun _=>q0) (trivial)) Tryz.underlying63 rfl)) (fun _=>trivial) ?_
 refine az [1] [v] rfl (by kernel_rfl) (by kernel_rfl) (.inr trivial) ?_
 exact aA (bg (K:=Q .normal) (by kernel_rfl) (HQ.out (v) _ rfl))
theorem pb0 {w:World}{x0 x1 x2 x3 x4 x5 x6 x7 x8 x9 aW bn bi aZ aP aQ aS aT aX aY bD bC bG bH bJ bQ bP bM bK:Value}{df:List Deferred}{Q:Exit→Act→World→Prop}
  (hK:∀  (w':World),w'=w→Q .normal ⟨#[x0,x1,.slice none 0 0,x3,x4,x5,x6,x7,x8,x9,aW,bn,bi,aZ,aP,aQ,aS,aT,aX,aY,bD,bC,bG,bH,bJ,bQ,bP,bM,bK],df⟩ w'):RW Tryz.prog (aJ 0 Tryz.f71) false Q ⟨#[x0,x1,x2,x3,x4,x5,x6,x7,x8,x9,aW,bn,bi,aZ,aP,aQ,aS,aT,aX,aY,bD,bC,bG,bH,bJ,bQ,bP,bM,bK],df⟩ w:=by
 have HQ:=lh hK
 clear hK
 refine bU [(0,false)] (by kernel_rfl) ?_
 refine az [0] [(.slice none 0 0)] rfl (by kernel_rfl) (by kernel_rfl) (.inr trivial) ?_
 exact aA (bg (K:=Q .normal) (by kernel_rfl) (HQ.out  _ rfl))
theorem pb1 {w:World} 
  (hK:∀ (bq:Nat) (w':World),bq=w.heap.size→w'.heap[bq]?=some (.cells #[.slice none 0 0] 63 (0,0))→ae ai w w'→Q .normal ⟨#[x0,x1,x2,.pointer (some ⟨bq,0,none⟩),x4,x5,x6,x7,x8,x9,aW,bn,bi,aZ,aP,aQ,aS,aT,aX,aY,bD,bC,bG,bH,bJ,bQ,bP,bM,bK],df⟩ w'):RW Tryz.prog (aJ 1 Tryz.f71) false Q ⟨#[x0,x1,x2,x3,x4,x5,x6,x7,x8,x9,aW,bn,bi,aZ,aP,aQ,aS,aT,aX,aY,bD,bC,bG,bH,bJ,bQ,bP,bM,bK],df⟩ w:=by
 have HQ:=lh hK
 clear hK
 refine bU [(0,false)] (by kernel_rfl) ?_
 refine fG (.cells #[.slice none 0 0] 63) (some 3) (ki (by kernel_rfl)) (by kernel_rfl) ?_
 intro k1 w_k1 hk_k1 hO_k1 hm_k1 hl_k1
 refine⟨fun _=>trivial,?_⟩
 exact aA (bg (K:=Q .normal) (by kernel_rfl) (HQ.out  k1 w_k1 hk_k1 hO_k1 hm_k1))
theorem pb2 {w:World}{X:Value→World→Prop} (hC:Calls Tryz.prog 112 #[.int .i64 11] w fun e w'=>∃ (v er:Value),e = .returned (.tuple #[v,er])∧X v w')
  (hK:∀ (y5 y9 jQ lD y12:Value) (v:Value) (w':World),X v w'→Q .normal ⟨#[x0,x1,x2,x3,v,y5,x6,x7,x8,y9,jQ,lD,y12,aZ,aP,aQ,aS,aT,aX,aY,bD,bC,bG,bH,bJ,bQ,bP,bM,bK],df⟩ w'):RW Tryz.prog (aJ 2 Tryz.f71) false Q ⟨#[x0,x1,x2,x3,x4,x5,x6,x7,x8,x9,aW,bn,bi,aZ,aP,aQ,aS,aT,aX,aY,bD,bC,bG,bH,bJ,bQ,bP,bM,bK],df⟩ w:=by
 have HQ:=lh hK
 clear hK
 refine bU [(0,false),(1,false),(2,false),(3,false),(4,false),(5,false)] (by kernel_rfl) ?_
 refine bu (some 10) (ki (by kernel_rfl)) hC (fun _=>by kernel_rfl) ?_
 rintro r w7 ⟨v,er,rfl,hx⟩
 refine⟨_,rfl,fun _=>trivial,?_⟩
 refine az [1,2,3,4,5] [.tuple #[v,er],v,er,v,er] rfl (by kernel_rfl) (by kernel_rfl) (.inr trivial) ?_
 exact aA (bg (K:=Q .normal) (by kernel_rfl) (HQ.out (er) (.tuple #[v,er]) (.tuple #[v,er]) (v) (er) v w7 hx))
theorem pb3 {w:World}{sv hv:Value}{X:Array Value→World→Prop} (hC:Calls Tryz.prog 114 #[sv,hv] w fun e w'=>∃ lb,e = .returned (.func (.func 244) #[] lb)∧X lb w')
  (hK:∀ (kF jB:Value) (lb:Array Value) (w':World),X lb w'→Q .normal ⟨#[sv,x1,x2,x3,hv,x5,x6,x7,x8,x9,aW,bn,bi,kF,jB,.func (.func 244) #[] lb,aS,aT,aX,aY,bD,bC,bG,bH,bJ,bQ,bP,bM,bK],df⟩ w'):RW Tryz.prog (aJ 3 Tryz.f71) false Q ⟨#[sv,x1,x2,x3,hv,x5,x6,x7,x8,x9,aW,bn,bi,aZ,aP,aQ,aS,aT,aX,aY,bD,bC,bG,bH,bJ,bQ,bP,bM,bK],df⟩ w:=by
 have HQ:=lh hK
 clear hK
 refine bU [(0,false),(1,false),(2,false)] (by kernel_rfl) ?_
 refine az [0,1] [sv,hv] rfl (by kernel_rfl) (by kernel_rfl) (.inr trivial) ?_
 refine bu (some 15) (ki (by kernel_rfl)) hC (fun _=>by kernel_rfl) ?_
 rintro r w7 ⟨lb,rfl,hx⟩
 refine⟨_,rfl,fun _=>trivial,?_⟩
 exact aA (bg (K:=Q .normal) (by kernel_rfl) (HQ.out (sv) (hv) lb w7 hx))
theorem pb4 {w:World}{u:Value}{x0 x1 x2 x3 x4 x5 x6 x7 x8 x9 aW bn bi aZ aP aQ aT aX aY bD bC bG bH bJ bQ bP bM bK:Value}{df:List Deferred}{Q:Exit→Act→World→Prop}
  (hK:∀  (w':World),w'=w→Q .normal ⟨#[x0,x1,x2,x3,x4,x5,u,x7,x8,x9,aW,bn,bi,aZ,aP,aQ,u,aT,aX,aY,bD,bC,bG,bH,bJ,bQ,bP,bM,bK],df⟩ w'):RW Tryz.prog (aJ 4 Tryz.f71) false Q ⟨#[x0,x1,x2,x3,x4,x5,x6,x7,x8,x9,aW,bn,bi,aZ,aP,aQ,u,aT,aX,aY,bD,bC,bG,bH,bJ,bQ,bP,bM,bK],df⟩ w:=by
 have HQ:=lh hK
 clear hK
 refine bU [(0,false)] (by kernel_rfl) ?_
 refine az [0] [u] rfl (by kernel_rfl) (by kernel_rfl) (.inr trivial) ?_
 exact aA (bg (K:=Q .normal) (by kernel_rfl) (HQ.out  _ rfl))
theorem pb5 {w:World}{u:Value}{X:Int→Nat→Nat→World→Prop} (hC:Calls Tryz.prog 147 #[u] w fun e w'=>∃ (kk:Int) (a b:Nat) (er:Value),e = .returned (.tuple #[.agg #[.int .i64 kk,.int .u64 ((a:Nat):Int),.int .u64 ((b:Nat):Int)],er])∧X kk a b w')
  (hK:∀ (y8 jl jC lF kG jm:Value) (kk:Int) (a b bq:Nat) (wc:World) (w':World),X kk a b wc→wc.heap.size≤bq→w'.heap[bq]?=some (.cells #[.int .i64 kk,.int .u64 ((a:Nat):Int),.int .u64 ((b:Nat):Int)] 173 (0,0))→ae ai wc w'→Q .normal ⟨#[x0,x1,x2,x3,x4,x5,u,.pointer (some ⟨bq,0,none⟩),y8,x9,aW,bn,bi,aZ,aP,aQ,aS,aT,jl,jC,lF,kG,jm,bH,bJ,bQ,bP,bM,bK],df⟩ w'):RW Tryz.prog (aJ 5 Tryz.f71) false Q ⟨#[x0,x1,x2,x3,x4,x5,u,x7,x8,x9,aW,bn,bi,aZ,aP,aQ,aS,aT,aX,aY,bD,bC,bG,bH,bJ,bQ,bP,bM,bK],df⟩ w:=by
 have HQ:=lh hK
 clear hK
 refine bU [(0,false),(1,false),(2,false),(3,false),(4,false),(5,false),(6,false),(7,false)] (by kernel_rfl) ?_
 refine az [0] [u] rfl (by kernel_rfl) (by kernel_rfl) (.inr trivial) ?_
 refine bu (some 20) (ki (by kernel_rfl)) hC (fun _=>by kernel_rfl) ?_
 rintro r w7 ⟨kk,a,b,er,rfl,hx⟩
 refine⟨_,rfl,fun _=>trivial,?_⟩
 refine az [2,3,4] [.tuple #[.agg #[.int .i64 kk,.int .u64 ((a:Nat):Int),.int .u64 ((b:Nat):Int)],er],.agg #[.int .i64 kk,.int .u64 ((a:Nat):Int),.int .u64 ((b:Nat):Int)],er] rfl (by kernel_rfl) (by kernel_rfl) (.inr trivial) ?_
 refine fG (.cells #[.int .i64 0,.int .u64 0,.int .u64 0] 173) (some 7) (ki (by kernel_rfl)) (by kernel_rfl) ?_
 intro k1 w_k1 hk_k1 hO_k1 hm_k1 hl_k1
 refine⟨fun _=>trivial,?_⟩
 refine nI (off:=0) (ty:=173) (x:=(.tmp 7)) (y:=(.tmp 21)) (cells:=#[.int .i64 kk,.int .u64 ((a:Nat):Int),.int .u64 ((b:Nat):Int)]) #[.int .i64 kk,.int .u64 ((a:Nat):Int),.int .u64 ((b:Nat):Int)] none (ki (by kernel_rfl)) (by kernel_rfl) (by kernel_rfl) (by kernel_rfl) hO_k1 (by kernel_rfl) (by kernel_rfl) (by kernel_rfl) (by kernel_rfl) ?_
 intro w9 hO9 hm9 hs9
 refine⟨fun _=>trivial,?_⟩
 have hM:=hm_k1.trans hm9 (U:=ai) (fun _ _ x=>x) (fun i hi e=>by omega)
 refine az [7] [er] rfl (by kernel_rfl) (by kernel_rfl) (.inr trivial) ?_
 exact aA (bg (K:=Q .normal) (by kernel_rfl) (HQ.out (er) (.tuple #[.agg #[.int .i64 kk,.int .u64 ((a:Nat):Int),.int .u64 ((b:Nat):Int)],er]) (u) (.tuple #[.agg #[.int .i64 kk,.int .u64 ((a:Nat):Int),.int .u64 ((b:Nat):Int)],er]) (.agg #[.int .i64 kk,.int .u64 ((a:Nat):Int),.int .u64 ((b:Nat):Int)]) (er) kk a b k1 w7 w9 hx (Nat.le_of_eq hk_k1.symm) hO9 hM))
theorem pb6 {w:World}{ob kb n x:Nat}{vo:Value}{pcs:List Value}{t:TypeId} (hg:w.heap[ob]?=some (.cells #[vo] t (0,0))) (qk:w.cell? ⟨kb,1,none⟩=some (.int .u64 ((x:Nat):Int))) (hr:aO w 22 1 vo n pcs) (hn:n≤100000000) (hvo:¬ dC vo ob)
  (hK:∀ (iY jD iZ jo kH:Value) (v8:Value) (w8:World) (w':World),aO w8 22 1 v8 (n+1) (pcs ++ [.int .u64 ((x:Nat):Int)])→ae (dC vo) w w8→(v8.ownBlock=vo.ownBlock∨aF w v8)→w'=w8.setCell ⟨ob,0,none⟩ v8→Q .normal ⟨#[x0,x1,x2,.pointer (some ⟨ob,0,none⟩),x4,x5,x6,.pointer (some ⟨kb,0,none⟩),x8,x9,aW,bn,bi,aZ,aP,aQ,aS,aT,aX,aY,bD,bC,bG,iY,jD,iZ,jo,kH,bK],df⟩ w'):RW Tryz.prog (aJ 6 Tryz.f71) false Q ⟨#[x0,x1,x2,.pointer (some ⟨ob,0,none⟩),x4,x5,x6,.pointer (some ⟨kb,0,none⟩),x8,x9,aW,bn,bi,aZ,aP,aQ,aS,aT,aX,aY,bD,bC,bG,bH,bJ,bQ,bP,bM,bK],df⟩ w:=by
 have HQ:=lh hK
 clear hK
 have HR:=lh hr
 have HG:=lh hg
 have q0:w.cell? ⟨ob,0,none⟩=some vo:=ag hg 0
 clear hr hg
 have MR:=lh (ae.refl ai w)
 refine bU [(0,false),(1,false),(2,false),(3,false),(4,false),(5,false)] (by kernel_rfl) ?_
 refine aC (vo) _ (some 23) (ki (by kernel_rfl)) (aG (x:=(.tmp 3)) (by kernel_rfl) (by kernel_rfl) (aI ((fun _=>q0) (trivial)) Tryz.underlying63 rfl)) (fun _=>trivial) ?_
 refine az [1] [af kb 1] rfl (by kernel_rfl) (by kernel_rfl) (.inr trivial) ?_
 refine aC (.int .u64 ((x:Nat):Int)) _ (some 25) (ki (by kernel_rfl)) (aG (x:=(.tmp 24)) (by kernel_rfl) (by kernel_rfl) (aI ((fun _=>qk) (trivial)) Tryz.underlying22 rfl)) (fun _=>trivial) ?_
 refine gK (.cells #[.int .u64 ((x:Nat):Int)] 22) 1 (some 26) (ki (by kernel_rfl)) (by kernel_rfl) ?_
 intro k1 w_k1 hk_k1 hO_k1 hm_k1 hl_k1
 have MZ:=MR.out.size
 replace MR:=lh (MR.out.then0 hm_k1)
 refine⟨fun _=>trivial,?_⟩
 obtain⟨inf,hi,hz,hs,hby⟩:=info_parts qO
 obtain⟨v8,w8,hr8,o8,m8,f8⟩:=iE (P:=Tryz.prog) 63 63 63 22 22 inf (.int .u64 0) Tryz.underlying63 Tryz.underlying63 hi hz (by rw [hs];rfl) (by rw [hs];exact HR.out.keep MR.out (fun _ _ x=>x)) (m:=1) (ys:=[.int .u64 ((x:Nat):Int)]) (by rw [hs];exact aO.rd (pR hO_k1)) (by intro y hy;simp at hy;rw [hy];rfl) (by unfold maxLen;omega) (by rw [hby];omega)
 rw [hs] at o8
 refine aC v8 w8 (some 27) (ki (by kernel_rfl)) (of_append (x:=(.tmp 23)) (y:=(.tmp 26)) (by kernel_rfl) (by kernel_rfl) (by kernel_rfl) hr8) (fun _=>trivial) ?_
 have m78:=hm_k1.trans m8 (U:=dC vo) (fun _ _ x=>x.elim) (fun _ _ x=>x)
 have f9:=f8.imp id (fun h=>h.of hm_k1.size)
 have hg8:=m78.heap HG.out hvo
 obtain⟨a8,c8,e8,_⟩:=o8.rd.form
 have h18:v8.oneCell'=true:=by rw [e8];rfl
 clear e8
 refine fH (ty:=63) (x:=(.tmp 3)) (y:=(.tmp 27)) (g:=ob) (off:=0) (v:=v8) none (ki (by kernel_rfl)) (by kernel_rfl) (by kernel_rfl) (by kernel_rfl) (by kernel_rfl) (by rw [ag hg8];rfl) (bY hg8 _) (h18) ?_
 intro w9 hw9
 refine⟨(fun h=>by first | (cases h;done) | exact trivial),?_⟩
 exact aA (bg (K:=Q .normal) (by kernel_rfl) (HQ.out (vo) (af kb 1) (.int .u64 ((x:Nat):Int)) (.slice (some ⟨k1,0,none⟩) 1 1) (v8) v8 w8 w9 o8 m78 f9 hw9))
theorem pb7 {w:World}{ob:Nat}{v:Value} (q0:w.cell? ⟨ob,0,none⟩=some v)
  (hK:∀ (jT:Value)  (w':World),w'=w→Q .normal ⟨#[x0,x1,v,.pointer (some ⟨ob,0,none⟩),x4,x5,x6,x7,x8,x9,aW,bn,bi,aZ,aP,aQ,aS,aT,aX,aY,bD,bC,bG,bH,bJ,bQ,bP,bM,jT],df⟩ w'):RW Tryz.prog (aJ 7 Tryz.f71) false Q ⟨#[x0,x1,x2,.pointer (some ⟨ob,0,none⟩),x4,x5,x6,x7,x8,x9,aW,bn,bi,aZ,aP,aQ,aS,aT,aX,aY,bD,bC,bG,bH,bJ,bQ,bP,bM,bK],df⟩ w:=by
 have HQ:=lh hK
 clear hK
 refine bU [(0,false),(1,false)] (by kernel_rfl) ?_
 refine aC (v) _ (some 28) (ki (by kernel_rfl)) (aG (x:=(.tmp 3)) (by kernel_rfl) (by kernel_rfl) (aI ((fun _=>q0) (trivial)) Tryz.underlying63 rfl)) (fun _=>trivial) ?_
 refine az [1] [v] rfl (by kernel_rfl) (by kernel_rfl) (.inr trivial) ?_
 exact aA (bg (K:=Q .normal) (by kernel_rfl) (HQ.out (v) _ rfl))
theorem pu18 {w:World}{n x:Nat}{vo:Value}{pcs:List Value} (hr:aO w 22 1 vo n pcs) (hn:n≤100000000)
  (hK:∀ (y48 y49 y50 y51:Value) (v8:Value) (w':World),aO w' 22 1 v8 (n+1) (pcs ++ [.int .u64 ((x:Nat):Int)])→ae (dC vo) w w'→(v8.ownBlock=vo.ownBlock∨aF w v8)→Q .normal ⟨#[x0,x1,x2,x3,x4,x5,x6,x7,x8,x9,aW,v8,bi,.int .u64 ((x:Nat):Int),aP,aQ,aS,aT,aX,aY,bD,bC,bG,bH,bJ,bQ,bP,bM,bK,bV,bW,cZ,dh,dn,dw,di,dm,dK,dE,dF,dL,dM,dN,dP,dQ,dR,dS,dO,y48,y49,y50,y51,dX,dY,eH,eP,eQ,fB,eU,fD,fC,eX,iG,iH],df⟩ w'):RW Tryz.prog (aJ 18 Tryz.f143) false Q ⟨#[x0,x1,x2,x3,x4,x5,x6,x7,x8,x9,aW,vo,bi,.int .u64 ((x:Nat):Int),aP,aQ,aS,aT,aX,aY,bD,bC,bG,bH,bJ,bQ,bP,bM,bK,bV,bW,cZ,dh,dn,dw,di,dm,dK,dE,dF,dL,dM,dN,dP,dQ,dR,dS,dO,eF,eG,fA,ed,dX,dY,eH,eP,eQ,fB,eU,fD,fC,eX,iG,iH],df⟩ w:=by
 have HQ:=lh hK
 clear hK
 have HR:=lh hr
 clear hr
 have MR:=lh (ae.refl ai w)
 refine bU [(0,false),(1,false),(2,false),(3,false),(4,false)] (by kernel_rfl) ?_
 refine az [0,1] [vo,.int .u64 ((x:Nat):Int)] rfl (by kernel_rfl) (by kernel_rfl) (.inr trivial) ?_
 refine gK (.cells #[.int .u64 ((x:Nat):Int)] 22) 1 (some 50) (ki (by kernel_rfl)) (by kernel_rfl) ?_
 intro k1 w_k1 hk_k1 hO_k1 hm_k1 hl_k1
 have MZ:=MR.out.size
 replace MR:=lh (MR.out.then0 hm_k1)
 refine⟨fun _=>trivial,?_⟩
 obtain⟨inf,hi,hz,hs,hby⟩:=info_parts qO
 obtain⟨v8,w8,hr8,o8,m8,f8⟩:=iE (P:=Tryz.prog) 63 63 63 22 22 inf (.int .u64 0) Tryz.underlying63 Tryz.underlying63 hi hz (by rw [hs];rfl) (by rw [hs];exact HR.out.keep MR.out (fun _ _ x=>x)) (m:=1) (ys:=[.int .u64 ((x:Nat):Int)]) (by rw [hs];exact aO.rd (pR hO_k1)) (by intro y hy;simp at hy;rw [hy];rfl) (by unfold maxLen;omega) (by rw [hby];omega)
 rw [hs] at o8
 refine aC v8 w8 (some 51) (ki (by kernel_rfl)) (of_append (x:=(.tmp 48)) (y:=(.tmp 50)) (by kernel_rfl) (by kernel_rfl) (by kernel_rfl) hr8) (fun _=>trivial) ?_
 have m78:=hm_k1.trans m8 (U:=dC vo) (fun _ _ x=>x.elim) (fun _ _ x=>x)
 have f9:=f8.imp (fun x=>x) (fun h=>h.of hm_k1.size)
 refine az [4] [v8] rfl (by kernel_rfl) (by kernel_rfl) (.inr trivial) ?_
 exact aA (bg (K:=Q .normal) (by kernel_rfl) (HQ.out (vo) (.int .u64 ((x:Nat):Int)) (.slice (some ⟨k1,0,none⟩) 1 1) (v8) v8 w8 o8 m78 f9))
theorem pu20 {w:World}{n x:Nat}{vo:Value}{pcs:List Value} (hr:aO w 22 1 vo n pcs) (hn:n≤100000000)
  (hK:∀ (y54 y55 y56 y57:Value) (v8:Value) (w':World),aO w' 22 1 v8 (n+1) (pcs ++ [.int .u64 ((x:Nat):Int)])→ae (dC vo) w w'→(v8.ownBlock=vo.ownBlock∨aF w v8)→Q .normal ⟨#[x0,x1,x2,x3,x4,x5,x6,x7,x8,x9,aW,bn,v8,.int .u64 ((x:Nat):Int),aP,aQ,aS,aT,aX,aY,bD,bC,bG,bH,bJ,bQ,bP,bM,bK,bV,bW,cZ,dh,dn,dw,di,dm,dK,dE,dF,dL,dM,dN,dP,dQ,dR,dS,dO,eF,eG,fA,ed,dX,dY,y54,y55,y56,y57,eU,fD,fC,eX,iG,iH],df⟩ w'):RW Tryz.prog (aJ 20 Tryz.f143) false Q ⟨#[x0,x1,x2,x3,x4,x5,x6,x7,x8,x9,aW,bn,vo,.int .u64 ((x:Nat):Int),aP,aQ,aS,aT,aX,aY,bD,bC,bG,bH,bJ,bQ,bP,bM,bK,bV,bW,cZ,dh,dn,dw,di,dm,dK,dE,dF,dL,dM,dN,dP,dQ,dR,dS,dO,eF,eG,fA,ed,dX,dY,eH,eP,eQ,fB,eU,fD,fC,eX,iG,iH],df⟩ w:=by
 have HQ:=lh hK
 clear hK
 have HR:=lh hr
 clear hr
 have MR:=lh (ae.refl ai w)
 refine bU [(0,false),(1,false),(2,false),(3,false),(4,false)] (by kernel_rfl) ?_
 refine az [0,1] [vo,.int .u64 ((x:Nat):Int)] rfl (by kernel_rfl) (by kernel_rfl) (.inr trivial) ?_
 refine gK (.cells #[.int .u64 ((x:Nat):Int)] 22) 1 (some 56) (ki (by kernel_rfl)) (by kernel_rfl) ?_
 intro k1 w_k1 hk_k1 hO_k1 hm_k1 hl_k1
 have MZ:=MR.out.size
 replace MR:=lh (MR.out.then0 hm_k1)
 refine⟨fun _=>trivial,?_⟩
 obtain⟨inf,hi,hz,hs,hby⟩:=info_parts qO
 obtain⟨v8,w8,hr8,o8,m8,f8⟩:=iE (P:=Tryz.prog) 63 63 63 22 22 inf (.int .u64 0) Tryz.underlying63 Tryz.underlying63 hi hz (by rw [hs];rfl) (by rw [hs];exact HR.out.keep MR.out (fun _ _ x=>x)) (m:=1) (ys:=[.int .u64 ((x:Nat):Int)]) (by rw [hs];exact aO.rd (pR hO_k1)) (by intro y hy;simp at hy;rw [hy];rfl) (by unfold maxLen;omega) (by rw [hby];omega)
 rw [hs] at o8
 refine aC v8 w8 (some 57) (ki (by kernel_rfl)) (of_append (x:=(.tmp 54)) (y:=(.tmp 56)) (by kernel_rfl) (by kernel_rfl) (by kernel_rfl) hr8) (fun _=>trivial) ?_
 have m78:=hm_k1.trans m8 (U:=dC vo) (fun _ _ x=>x.elim) (fun _ _ x=>x)
 have f9:=f8.imp (fun x=>x) (fun h=>h.of hm_k1.size)
 refine az [4] [v8] rfl (by kernel_rfl) (by kernel_rfl) (.inr trivial) ?_
 exact aA (bg (K:=Q .normal) (by kernel_rfl) (HQ.out (vo) (.int .u64 ((x:Nat):Int)) (.slice (some ⟨k1,0,none⟩) 1 1) (v8) v8 w8 o8 m78 f9))
end
end Go.Proofs.YtglkmaalpammcaaGreat
namespace Go.Proofs.YtglkmaalpammcaaGreat
open Go.Gl Go.RowKit
def oZ:Nat:=18446744073709551615
def nZ (f:dV) (b:List UInt8):Nat:=fU f (if f.a=true∧9≤b.length then num ((b.drop 1).take 8) else 0)
def ni (f:dV) (b:List UInt8):Nat:=if f.b=true∧8≤b.length then num (b.drop (b.length - 8)) else 0
theorem kY {k:Nat}{f:dV} (hf:eY k=some f):1≤k∧k≤17:=by
 rcases Nat.lt_or_ge k 18 with h | h
 ·rcases Nat.eq_zero_or_pos k with rfl | h0
  ·simp [eY] at hf
  ·omega
 ·obtain⟨j,rfl⟩:∃ j,k=j+18:=⟨k - 18,by omega⟩
  simp [eY] at hf
theorem uS {k:Nat}{f:dV} (hf:eY k=some f):(f.turned=true→f.a=true)∧(f.b=true→f.a=true):=by
 obtain⟨h1,h2⟩:=kY hf
 have:k=1∨k=2∨k=3∨k=4∨k=5∨k=6∨k=7∨k=8∨k=9∨k=10∨k=11∨k=12∨k=13∨k=14∨k=15∨k=16∨k=17:=by omega
 rcases this with rfl | rfl | rfl | rfl | rfl | rfl | rfl | rfl | rfl | rfl | rfl | rfl | rfl | rfl | rfl | rfl | rfl <;> cases hf <;> decide
theorem Cm (f:dV) (a:Nat) (h:a≤18446744073709551615):fU f (fU f a)=a:=by
 unfold fU
 split <;> omega
theorem uO (f:dV) (a:Nat) (h:a≤18446744073709551615):fU f a≤18446744073709551615:=by
 unfold fU
 split <;> omega
theorem Iy {k a b:Nat}{f:dV} (hf:eY k=some f) (hn:lC f a b=true) (ha:a≤18446744073709551615) (hb:b≤18446744073709551615):nZ f (dD f a b)=a∧ni f (dD f a b)=b:=by
 obtain⟨ht,hba⟩:=uS hf
 have hA:fU f a<18446744073709551616:=by have:=uO f a ha;omega
 have h2:=Cm f a ha
 obtain⟨hd,md,fa,fb,ft⟩:=f
 simp only [lC,Bool.and_eq_true,Bool.or_eq_true,decide_eq_true_eq] at hn
 cases fa
 ·have hbf:fb=false:=by cases fb;rfl;exact absurd (hba rfl) (by simp)
  have htf:ft=false:=by cases ft;rfl;exact absurd (ht rfl) (by simp)
  subst hbf htf
  simp at hn
  simp [nZ,ni,fU,hn.1,hn.2]
 ·have e1:(((dD ⟨hd,md,true,fb,ft⟩ a b).drop 1).take 8)=be 8 (fU ⟨hd,md,true,fb,ft⟩ a):=by
   simp only [dD,iQ,if_true,List.append_assoc,List.cons_append,List.nil_append,List.drop_succ_cons,List.drop_zero]
   rw [List.take_append_of_le_length (by rw [dH];omega),List.take_of_length_le (by rw [dH];omega)]
  have l1:9≤(dD ⟨hd,md,true,fb,ft⟩ a b).length:=by
   simp [dD,iQ,dH]
  refine⟨?_,?_⟩
  ·unfold nZ
   rw [if_pos ⟨rfl,l1⟩,e1,Bc _ hA,h2]
  ·cases fb
   ·simp at hn
    simp [ni,hn]
   ·unfold ni
    rw [if_pos ⟨rfl,by omega⟩]
    have e2:(dD ⟨hd,md,true,true,ft⟩ a b).drop ((dD ⟨hd,md,true,true,ft⟩ a b).length - 8)=be 8 b:=by
     simp only [dD,if_true]
     rw [List.length_append,dH,Nat.add_sub_cancel,List.drop_left]
    rw [e2,Bc b (by omega)]
def iO (b:List UInt8) (k:Int) (A B:Nat) (n:Int):Prop :=
 (n=0∧fE k A B=some b∧A≤oZ∧B≤oZ∧1≤k∧k≤17)∨(n=70∧k=0∧A=0∧B=0∧∀ (k':Nat) (A' B':Nat),A'≤oZ→B'≤oZ→fE k' A' B'≠some b)
theorem rU {k:Nat}{f:dV}{A B:Nat}{b:List UInt8} (hf:eY k=some f) (h:fE k A B=some b) (hA:A≤oZ) (hB:B≤oZ):nZ f b=A∧ni f b=B:=by
 simp only [fE,Int.toNat_natCast,hf] at h
 split at h
 ·rename_i hn
  cases h
  exact Iy hf hn hA hB
 ·cases h
theorem pI {k:Int}{A B:Nat}{b:List UInt8} (h:fE k A B=some b):∃ f,eY k.toNat=some f∧lC f A B=true∧b=dD f A B:=by
 unfold fE at h
 split at h
 ·cases h
 ·rename_i f hf
  split at h
  ·rename_i hn;cases h;exact⟨f,hf,hn,rfl⟩
  ·cases h
theorem nY {k:Int}{A B:Nat}{b:List UInt8} (h:fE k A B=some b):1≤k∧k≤17:=by
 obtain⟨f,hf,_⟩:=pI h
 have:=kY hf
 omega
def ktag (b:List UInt8):Nat × Nat × Nat:=((b.getD 0 0).toNat,(if (b.getD 0 0).toNat=118 then (b.getD 9 0).toNat else 0),b.length)
theorem wO {k:Nat}{A B:Nat}{b:List UInt8}{f:dV} (hf:eY k=some f) (h:fE k A B=some b):ktag b=(f.head.toNat,(if f.head.toNat=118 then f.mid.toNat else 0),b.length):=by
 simp only [fE,Int.toNat_natCast,hf] at h
 split at h
 ·cases h
  obtain⟨h1,h2⟩:=kY hf
  have:k=1∨k=2∨k=3∨k=4∨k=5∨k=6∨k=7∨k=8∨k=9∨k=10∨k=11∨k=12∨k=13∨k=14∨k=15∨k=16∨k=17:=by omega
  rcases this with rfl | rfl | rfl | rfl | rfl | rfl | rfl | rfl | rfl | rfl | rfl | rfl | rfl | rfl | rfl | rfl | rfl <;> cases hf <;> simp [ktag,dD,iQ,be,fU]
 ·cases h
def pU (k:Nat):Option (Nat × Nat):=(eY k).map fun g=>(g.head.toNat,if g.head.toNat=118 then g.mid.toNat else 0)
theorem Dz {k k':Nat}{f f':dV} (hf:eY k=some f) (hf':eY k'=some f') (h1:f.head.toNat=f'.head.toNat) (h2:(if f.head.toNat=118 then f.mid.toNat else 0)=(if f'.head.toNat=118 then f'.mid.toNat else 0)):k=k':=by
 have r1:=kY hf
 have r2:=kY hf'
 have t:∀ j:Fin 18,∀ j':Fin 18,pU j.1=pU j'.1→pU j.1≠none→j=j':=by decide
 have e1:pU k=some (f.head.toNat,if f.head.toNat=118 then f.mid.toNat else 0):=by simp [pU,hf]
 have e2:pU k'=some (f'.head.toNat,if f'.head.toNat=118 then f'.mid.toNat else 0):=by simp [pU,hf']
 have:=t ⟨k,by omega⟩ ⟨k',by omega⟩ (by rw [e1,e2,h2,h1]) (by rw [e1];simp)
 exact congrArg Fin.val this
theorem Dj {k k':Int}{A B A' B':Nat}{b:List UInt8} (h:fE k A B=some b) (h':fE k' A' B'=some b) (hA:A≤oZ) (hB:B≤oZ) (hA':A'≤oZ) (hB':B'≤oZ):k=k'∧A=A'∧B=B':=by
 have r:=nY h
 have r':=nY h'
 obtain⟨n,rfl⟩:=Int.eq_ofNat_of_zero_le (a:=k) (by omega)
 obtain⟨n',rfl⟩:=Int.eq_ofNat_of_zero_le (a:=k') (by omega)
 obtain⟨f,hf,_,_⟩:=pI h
 obtain⟨f',hf',_,_⟩:=pI h'
 rw [Int.toNat_natCast] at hf hf'
 have t:=wO hf h
 have t':=wO hf' h'
 rw [t] at t'
 simp only [Prod.mk.injEq] at t'
 obtain rfl:=Dz hf hf' t'.1 t'.2.1
 obtain rfl:f=f':=by rw [hf] at hf';exact Option.some.inj hf'
 obtain⟨c1,c2⟩:=rU hf h hA hB
 obtain⟨c3,c4⟩:=rU hf h' hA' hB'
 exact⟨rfl,c1.symm.trans c3,c2.symm.trans c4⟩
theorem iO.same {b:List UInt8}{k k':Int}{A B A' B':Nat}{n n':Int} (h:iO b k A B n) (h':iO b k' A' B' n'):k=k'∧A=A'∧B=B'∧n=n':=by
 rcases h with ⟨rfl,h1,h2,h3,h4,h5⟩ | ⟨rfl,rfl,rfl,rfl,hno⟩ <;> rcases h' with ⟨rfl,h1',h2',h3',h4',h5'⟩ | ⟨rfl,rfl,rfl,rfl,hno'⟩
 ·obtain⟨e1,e2,e3⟩:=Dj h1 h1' h2 h3 h2' h3'
  exact⟨e1,e2,e3,rfl⟩
 ·obtain⟨m,rfl⟩:=Int.eq_ofNat_of_zero_le (a:=k) (by omega)
  exact absurd h1 (hno' m A B h2 h3)
 ·obtain⟨m,rfl⟩:=Int.eq_ofNat_of_zero_le (a:=k') (by omega)
  exact absurd h1' (hno m A' B' h2' h3')
 ·exact⟨rfl,rfl,rfl,rfl⟩
end Go.Proofs.YtglkmaalpammcaaGreat
namespace Go.Proofs.YtglkmaalpammcaaGreat
open Go.Gl Go.RowKit
theorem Rd.str {w:World}{v:Value}{xs:List UInt8} (h:Rd w v xs):(convert 91 9 v).run Tryz.prog w = .ok (.string ⟨xs.toArray⟩) w:=by
 rcases h.open with ⟨h0,rfl⟩ | ⟨g,off,cap,rfl,h1,h2,_,h3⟩
 ·rcases h0 with rfl | ⟨g,off,s,rfl⟩
  ·exact Lib.run_convert_nil_bytes w 91 9 5 0 Tryz.underlying91 Tryz.underlying5 Tryz.underlying9
  ·exact run_convert_bytes_back w 91 9 5 ⟨g,off,some s⟩ 0 [] Tryz.underlying91 Tryz.underlying5 Tryz.underlying9 (fun j hj=>by simp at hj)
 ·refine run_convert_bytes_back w 91 9 5 _ cap xs Tryz.underlying91 Tryz.underlying5 Tryz.underlying9 (fun j hj=>?_)
  rw [show (⟨g,off,none⟩:Addr).add j=⟨g,off+j,none⟩ from Addr.add_lit ..]
  exact h3 j hj
theorem JI (xs ys:List UInt8):(xs == ys)=decide (xs=ys):=by
 by_cases h:xs=ys <;> simp [h]
theorem Dl {x y:Value}{xs ys:List UInt8}{w:World} (hx:Rd w x xs) (hy:Rd w y ys) :
  Calls Tryz.prog 211 #[x,y] w fun e w'=>e = .returned (.bool (decide (xs=ys)))∧Quiet w w':=by
 have k1:=Rd.str hx
 have k2:=Rd.str hy
 go_enter Tryz.func211,Tryz.ntmps211
 go_wp2
 go_ret
 exact⟨jE (JI xs ys),Quiet.refl _⟩
end Go.Proofs.YtglkmaalpammcaaGreat
namespace Go.Proofs.YtglkmaalpammcaaGreat
open Go.Gl Go.RowKit
theorem Aa (ax:Option Addr) (nx cx:Nat) (xs:List UInt8) (w:World) (hx:xs.length=nx) (hnx:nx≤8) (kx:nx=0∨∃ g off,ax=some ⟨g,off,none⟩∧∀ i (hi:i<xs.length),w.cell? ⟨g,off+i,none⟩=some (.int .u8 (xs[i]).toNat)) :
  Calls Tryz.prog 210 #[.slice ax nx cx] w fun e w'=>e = .returned (.int .u64 (num xs))∧w'=w:=by
 have HX:=lh hx
 have KX:=lh kx
 clear hx kx
 go_enter Tryz.func210,Tryz.ntmps210
 go_wp2
 go_loop [3,8] (fun x i=>∃ k:Nat,k≤nx∧i = .int .i64 k∧x = .int .u64 (num (xs.take k))) (fun _ i=>nx - (intOf i).toNat)
 case atStart=>exact⟨0,Nat.zero_le _,rfl,rfl⟩
 case round =>
  obtain⟨k,hk,rfl,rfl⟩:=hrel
  by_cases hlt:k<nx
  ·have lx:k<xs.length:=by rw [HX.out];exact hlt
   obtain⟨g,off,hax,c1⟩:=KX.out.resolve_left (by omega)
   have c2:=c1 k lx
   have hb:=(xs[k]).toNat_lt
   have hb0:(0:Int)≤((xs[k]).toNat:Int):=by omega
   have hn:=ul xs k (by rw [HX.out];exact hnx) lx
   have ht:=lh (yS xs k lx)
   clear c1 KX
   subst hax
   generalize hz:num (xs.take k)=z at *
   have HZ:=lh hz
   clear hz
   have hz1:((z:Nat):Int)<72057594037927936:=by omega
   go_wp2
   go_round
   case rel =>
    refine⟨k+1,by omega,by go_num,?_⟩
    rw [uV _ _ (by omega) hz1 hb0 (by omega),ht.out]
    simp
   case measure=>simp [intOf];omega
  ·obtain rfl:k=nx:=by omega
   go_wp2
   go_ret
   refine⟨Aq ?_,rfl⟩
   rw [List.take_of_length_le (by rw [HX.out];omega)]
theorem vT {v:Value}{xs:List UInt8}{w:World} (hv:Rd w v xs) (h8:xs.length≤8) :
  Calls Tryz.prog 210 #[v] w fun e w'=>e = .returned (.int .u64 (num xs))∧w'=w:=by
 obtain⟨a,ca,rfl,h1,h2⟩:=Rd.at hv
 exact Aa a _ ca xs w rfl h8 h2
end Go.Proofs.YtglkmaalpammcaaGreat
namespace Go.Proofs.YtglkmaalpammcaaGreat
open Go.Gl Go.RowKit
theorem BV (p xs ys:List UInt8):aB (p ++ xs) (p ++ ys)=aB xs ys:=by
 induction p with
 | nil=>rfl
 | cons c p ih=>simpa [aB] using ih
theorem GL (n a b:Nat) (ha:a<256 ^ (n+1)) (hb:b<256 ^ (n+1)):a / 256 ^ n<256∧b / 256 ^ n<256:=by
 rw [Nat.pow_succ] at ha hb
 exact⟨Nat.div_lt_of_lt_mul (by rw [Nat.mul_comm];exact ha |> fun h=>by rwa [Nat.mul_comm] at h ⊢),Nat.div_lt_of_lt_mul (by rwa [Nat.mul_comm] at hb ⊢)⟩
theorem DC (n a:Nat):be n (a % 256 ^ n)=be n a:=by
 have h:=JA (be n a)
 rw [dH,DN] at h
 exact h
theorem yx (n a b:Nat) (xs ys:List UInt8) (ha:a<256 ^ n) (hb:b<256 ^ n):aB (be n a ++ xs) (be n b ++ ys)=if a=b then aB xs ys else decide (a<b):=by
  induction n generalizing a b with
  | zero =>
    simp at ha hb
    subst ha hb
    simp [be]
  | succ n ih =>
    obtain⟨h1,h2⟩:=GL n a b ha hb
    have hp:0<256 ^ n:=Nat.pow_pos (by decide)
    have da:=Nat.div_add_mod a (256 ^ n)
    have db:=Nat.div_add_mod b (256 ^ n)
    have ma:=Nat.mod_lt a hp
    have mb:=Nat.mod_lt b hp
    simp only [be,List.cons_append,aB,← UInt8.toNat_inj,UInt8.toNat_ofNat']
    rw [show a / 256 ^ n % 2 ^ 8=a / 256 ^ n from Nat.mod_eq_of_lt h1,show b / 256 ^ n % 2 ^ 8=b / 256 ^ n from Nat.mod_eq_of_lt h2]
    by_cases he:a / 256 ^ n=b / 256 ^ n
    · rw [if_pos he,← DC n a,← DC n b,ih _ _ ma mb]
      rw [he] at da
      by_cases hm:a % 256 ^ n=b % 256 ^ n
      · rw [if_pos hm,if_pos (by omega)]
      · rw [if_neg hm,if_neg (by intro h;exact hm (by rw [h]))]
        exact decide_eq_decide.2 (by omega)
    · rw [if_neg he,if_neg (by intro h;exact he (by rw [h]))]
      have key:∀ x y:Nat,x / 256 ^ n<y / 256 ^ n→x<y:=fun x y h=>by
        rcases Nat.lt_or_ge x y with h1 | h1
        · exact h1
        · have:=Nat.div_le_div_right (c:=256 ^ n) h1;omega
      refine decide_eq_decide.2 ⟨fun h=>key a b h,fun h=>?_⟩
      rcases Nat.lt_or_ge (a / 256 ^ n) (b / 256 ^ n) with h3 | h3
      · exact h3
      · exact absurd (key b a (by omega)) (by omega)
end Go.Proofs.YtglkmaalpammcaaGreat
namespace Go.Proofs.YtglkmaalpammcaaGreat
open Go.Gl Go.RowKit
def gp (kind a b:Nat):List UInt8:=(fE kind a b).getD []
def zk (k a b:Nat):Prop:=a≤18446744073709551615∧b≤18446744073709551615∧(k=10∨(k=11∧b=0))
theorem uY {k a b:Nat} (h:zk k a b):fE k a b=some (gp k a b):=by
 have:∃ x,fE k a b=some x:=by
  obtain⟨_,_,h⟩:=h
  rcases h with rfl | ⟨rfl,rfl⟩ <;> exact⟨_,rfl⟩
 obtain⟨x,hx⟩:=this
 unfold gp
 rw [hx]
 rfl
theorem yu {k:Nat}{f:dV} (hf:eY k=some f) {a b:Nat} (h:lC f a b=true):gp k a b=dD f a b:=by
 unfold gp fE
 simp only [Int.toNat_natCast,hf,h,if_true]
 rfl
theorem zK (a b:Nat):gp 10 a b=105 :: (be 8 (18446744073709551615 - a) ++ be 8 b):=by
 rw [yu (k:=10) (f:=⟨105,0,true,true,true⟩) rfl (by simp [lC])]
 simp [dD,iQ,fU]
theorem Dv (a:Nat):gp 11 a 0=98 :: be 8 a:=by
 rw [yu (k:=11) (f:=⟨98,0,true,false,false⟩) rfl (by simp [lC])]
 simp [dD,iQ,fU]
theorem GY {k a b:Nat} (h:zk k a b):1≤(gp k a b).length∧(gp k a b).length≤64:=by
 obtain⟨_,_,h⟩:=h
 rcases h with rfl | ⟨rfl,rfl⟩
 ·rw [zK];simp [dH]
 ·rw [Dv];simp [dH]
theorem xH {k a b:Nat} (h:zk k a b) (c:UInt8) (hb:bF [c] (gp k a b)=true):(c=105→k=10)∧(c=98→k=11∧b=0):=by
 obtain⟨_,_,h⟩:=h
 rcases h with rfl | ⟨rfl,rfl⟩
 ·rw [zK,oD,Bool.and_eq_true,decide_eq_true_iff] at hb
  rw [hb.1];exact⟨fun x=>rfl,fun x=>absurd x (by decide)⟩
 ·rw [Dv,oD,Bool.and_eq_true,decide_eq_true_iff] at hb
  rw [hb.1];exact⟨fun x=>absurd x (by decide),fun x=>⟨rfl,rfl⟩⟩
structure oN (F:List aN):Prop where
 ris:fM F
 all:∀ e∈F,∃ k a b,zk k a b∧e=(gp k a b,[])
theorem IV:oN []:=⟨List.Pairwise.nil,fun e he=>by cases he⟩
theorem JS {k a b:Nat} (h:zk k a b) (F:List aN):jJ F (gp k a b) []=insL F (gp k a b) []:=by
 have:=GY h
 have e:gU (gp k a b) []=0:=by unfold gU;rw [if_neg (by omega),if_neg (by simp)]
 unfold jJ
 rw [if_pos e]
theorem BI {F:List aN}{k v:List UInt8}{e:aN} (h:e∈insL F k v):e∈F∨e=(k,v):=by
 unfold insL at h
 rcases List.mem_append.1 h with h | h
 ·exact .inl (List.mem_filter.1 h).1
 ·rcases List.mem_cons.1 h with h | h
  ·exact .inr h
  ·exact .inl (List.mem_filter.1 h).1
theorem Ci {F:List aN}{k:List UInt8}{e:aN} (h:e∈gJ F k):e∈F:=by
 unfold gJ at h
 rcases List.mem_append.1 h with h | h <;> exact (List.mem_filter.1 h).1
theorem En {F:List aN} (h:oN F) {k a b:Nat} (hk:zk k a b):oN (jJ F (gp k a b) []):=by
 refine⟨Dh h.ris _ _,fun e he=>?_⟩
 rw [JS hk] at he
 rcases BI he with x | rfl
 ·exact h.all e x
 ·exact⟨k,a,b,hk,rfl⟩
theorem Ep {F:List aN} (h:oN F) (k:List UInt8):oN (gJ F k):=⟨uN h.ris _,fun e he=>h.all e (Ci he)⟩
theorem xB {α β:Type}{P:β→Prop}{f:β→α}:∀ {l:List α},(∀ x∈l,∃ t,P t∧x=f t)→∃ T:List β,l=T.map f∧∀ t∈T,P t:=by
  intro l
  induction l with
  | nil=>intro _;exact⟨[],rfl,fun t ht=>by cases ht⟩
  | cons a l ih =>
    intro h
    obtain⟨t,ht,rfl⟩:=h a List.mem_cons_self
    obtain⟨T,rfl,hT⟩:=ih (fun x hx=>h x (List.mem_cons_of_mem _ hx))
    exact⟨t :: T,rfl,fun s hs=>by
      rcases List.mem_cons.1 hs with rfl | hs
      · exact ht
      · exact hT s hs⟩
theorem FZ {c:UInt8}{a b a' b':Nat} (ha:a≤18446744073709551615) (ha':a'≤18446744073709551615) (hb:b≤18446744073709551615) (hb':b'≤18446744073709551615) (h:aB (c :: (be 8 a ++ be 8 b)) (c :: (be 8 a' ++ be 8 b'))=true):a<a'∨(a=a'∧b<b'):=by
 have h1:aB (be 8 a ++ be 8 b) (be 8 a' ++ be 8 b')=true:=by
  have:=BV [c] (be 8 a ++ be 8 b) (be 8 a' ++ be 8 b')
  rw [show [c] ++ (be 8 a ++ be 8 b)=c :: (be 8 a ++ be 8 b) from rfl,show [c] ++ (be 8 a' ++ be 8 b')=c :: (be 8 a' ++ be 8 b') from rfl] at this
  rw [← this];exact h
 rw [yx 8 _ _ _ _ (by omega) (by omega)] at h1
 by_cases e:a=a'
 ·rw [if_pos e] at h1
  have h2:=yx 8 b b' [] [] (by omega) (by omega)
  rw [List.append_nil,List.append_nil] at h2
  rw [h2] at h1
  by_cases e2:b=b'
  ·rw [if_pos e2] at h1;cases h1
  ·rw [if_neg e2] at h1;exact .inr ⟨e,of_decide_eq_true h1⟩
 ·rw [if_neg e] at h1
  exact .inl (of_decide_eq_true h1)
def sS (t:Nat × Nat):Prop:=t.1≤18446744073709551615∧t.2≤18446744073709551615
def qf (T:List (Nat × Nat)):List aN:=T.map (fun t=>(gp 10 t.1 t.2,[]))
def oC (V:List Nat):List aN:=V.map (fun v=>(gp 11 v 0,[]))
theorem Jg {F:List aN} (h:oN F):∃ T:List (Nat × Nat),F.filter (fun e=>bF [105] e.1)=qf T∧(∀ t∈T,sS t)∧T.Pairwise (fun s t=>t.1<s.1∨(s.1=t.1∧s.2<t.2)):=by
 obtain⟨T,hT,hP⟩:=xB (P:=sS) (f:=fun t:Nat × Nat=>((gp 10 t.1 t.2,[]):aN)) (l:=F.filter (fun e=>bF [105] e.1)) (fun x hx=>by
  obtain⟨hx,hb⟩:=List.mem_filter.1 hx
  obtain⟨k,a,b,hq,rfl⟩:=h.all x hx
  obtain rfl:=(xH hq _ hb).1 rfl
  exact⟨(a,b),⟨hq.1,hq.2.1⟩,rfl⟩)
 refine⟨T,hT,hP,?_⟩
 have hr:fM (F.filter (fun e=>bF [105] e.1)):=List.Pairwise.filter _ h.ris
 rw [hT] at hr
 refine List.Pairwise.imp_of_mem ?_ (List.pairwise_map.1 hr)
 intro s t hs ht hl
 have o:=hP s hs
 have o':=hP t ht
 unfold sS at o o'
 simp only [zK] at hl
 have:=FZ (by omega) (by omega) o.2 o'.2 hl
 omega
theorem IZ {F:List aN} (h:oN F):∃ V:List Nat,F.filter (fun e=>bF [98] e.1)=oC V∧∀ v∈V,v≤18446744073709551615 :=
 xB (P:=fun v=>v≤18446744073709551615) (f:=fun v:Nat=>((gp 11 v 0,[]):aN)) (l:=F.filter (fun e=>bF [98] e.1)) (fun x hx=>by
  obtain⟨hx,hb⟩:=List.mem_filter.1 hx
  obtain⟨k,a,b,hq,rfl⟩:=h.all x hx
  obtain⟨rfl,rfl⟩:=(xH hq _ hb).2 rfl
  exact⟨a,hq.1,rfl⟩)
end Go.Proofs.YtglkmaalpammcaaGreat
namespace Go.Gl
open Go.RowKit
def fpost (R:Nat→FP) (Rx:Code→Nat→FP) (S D:Nat→Prop) (i:Nat) (W:World) (e:Exit) (W':World):Prop :=
 ∃ P:FP,(match e with
  | .normal=>P=R (i+1)
  | .ret=>P=Rx .ret (i+1)
  | .exit id=>P=Rx (.exit id) (i+1)
  | .goto t=>P=Rx (.goto t) (i+1)
  | _=>False)∧∃ S' D',P W' S' D'∧ae S W W'∧(∀ k,S' k→S k∨W.heap.size≤k)∧(∀ k,D' k→D k∨W.heap.size≤k)
structure LJ (w:World) (sg:Nat) (Qt S0 D0:Nat→Prop) (T:World→Prop) (R:FP) (U:Nat→Prop) (W:World):Prop where
 t:T W
 sz:w.heap.size≤W.heap.size
 r:∃ S D,R W S D∧(∀ k,S k→¬ Qt k∧¬ U k∧(S0 k∨w.heap.size≤k))∧(∀ k,D k→k≠sg∧¬ U k)
 m:ae (fun k=>S0 k∨k=sg) w W
theorem LJ.frm {w:World}{sg:Nat}{Qt S0 D0:Nat→Prop}{T:World→Prop}{R:FP} (f:gz R) (hT:∀ A B X,T A→ae X A B→(∀ k,X k→¬ Qt k)→T B) (hQt:∀ k,Qt k→k<w.heap.size)
  {U U':Nat→Prop}{A B:World} (h:LJ w sg Qt S0 D0 T R U A) (hm:ae (fun k=>U k∧(ai k∨w.heap.size≤k)) A B) (hsub:∀ k,U' k→U k∨A.heap.size≤k):LJ w sg Qt S0 D0 T R U' B:=by
 obtain⟨t,sz,⟨S,D,r,hs,hd⟩,m⟩:=h
 have l:=f.lt r
 refine⟨hT _ _ _ t hm (fun k hk x=>?_),Nat.le_trans sz hm.size,⟨S,D,f.keep r hm (fun k hk x=>(hs k hk).2.1 x.1) (fun k hk x=>(hd k hk).2 x.1),fun k hk=>⟨(hs k hk).1,fun x=>?_,(hs k hk).2.2⟩,fun k hk=>⟨(hd k hk).1,fun x=>?_⟩⟩,m.trans hm (fun _ _ x=>x) (fun k hk x=>?_)⟩
 ·have:=hQt k x
  rcases hk.2 with y | y
  ·exact y
  ·omega
 ·rcases hsub k x with y | y
  ·exact (hs k hk).2.1 y
  ·have:=l.1 k hk;omega
 ·rcases hsub k x with y | y
  ·exact (hd k hk).2 y
  ·have:=l.2 k hk;omega
 ·rcases x.2 with y | y
  ·exact y.elim
  ·omega
section
variable {P:Program}
end
end Go.Gl
namespace Go.Gl
open Go.RowKit
section
variable {P:Program}
theorem wU {g:Operand}{ps:Array Tmp}{assign body:Code}{Q:Exit→Act→World→Prop}{a:Act}{w:World}{gf:FuncId}{lb:Array Value} (hg:a.eval g = .func (.func gf) #[] lb) (eg:∀ args w,(callFunc gf args).run P w = .ok (.enter gf args) w)
    {n:Nat}{A:Nat→(Nat→Prop)→Array Value→World→Prop}{U0:Nat→Prop}{sg:Nat}{τ:World→World→Prop}{Ok:World→Prop}{w0:World} (it:vG P gf lb n A U0 τ Ok w0) (hτ:∀ A B,τ A B→ae (fun k=>k=sg) A B) (h0:ae (fun k=>¬ U0 k) w0 w) (hU:∀ k,U0 k→k<w.heap.size) (hA:qI A) (hps:∀ i U args W,A i U args W→args.size=ps.size)
    {T:Nat→World→Prop}{Qt:Nat→Prop} (R:Nat→FP) (Rx:Code→Nat→FP) (fR:∀ i,gz (R i)) (fRx:∀ c i,gz (Rx c i)) (hT:∀ j A B X,T j A→ae X A B→(∀ k,X k→¬ Qt k)→T j B) (hQt:∀ k,Qt k→k<w.heap.size) (tT:∀ j A,j≤n→T j A→Ok A∧∀ B,τ A B→T (j+1) B) (sgQ:Qt sg)
    {S0 D0:Nat→Prop} (t0:T 0 w) (r0:R 0 w S0 D0) (hS:∀ k,S0 k→¬ Qt k∧¬ U0 k) (hD:∀ k,D0 k→k≠sg∧¬ U0 k)
    (hround:∀ l i U args W S D,w.heap.size≤l→i<n→T (i+2) W→R i W S D→A i U args W→(∀ k,S k→¬ Qt k∧¬ U k∧k≠l∧¬ gV args k∧(S0 k∨w.heap.size≤k))→(∀ k,D k→k≠sg∧¬ U k∧k≠l∧¬ gV args k)→(∀ k,gV args k→k<W.heap.size)→U l→l<W.heap.size→w.heap.size≤W.heap.size→ae (fun k=>S0 k∨k=sg) w W →
      assign.wpIn (WF (some l)) 3 P (Exit.then (fun a1 W1=>ae ai W W1∧∀ W2,ae (fun k=>k=l) W1 W2→R i W2 S D→body.wpIn (WF (some l)) 3 P (fun e _ W'=>fpost R Rx S D i W2 e W') a1 W2) (fun _ _ _=>False))
        { tmps:=iT ps.toList args.toList a.tmps,defers:=[] } W)
    (hdone:∀ Dd W S D,T (n+1) W→R n W S D→(∀ k,S k→¬ Qt k∧k≠Dd∧(S0 k∨w.heap.size≤k))→(∀ k,D k→k≠sg∧k≠Dd)→w.heap.size≤Dd→ae (fun k=>S0 k∨k=sg) w W→W.heap[Dd]?=some (.deferred (some []))→Q .normal { a with defers:={ target := .collected Dd,args:=#[] } :: a.defers } W)
    (hstop:∀ Dd c i W S D,i<n→T (i+2) W→Rx c (i+1) W S D→(∀ k,S k→¬ Qt k∧k≠Dd∧(S0 k∨w.heap.size≤k))→(∀ k,D k→k≠sg∧k≠Dd)→w.heap.size≤Dd→ae (fun k=>S0 k∨k=sg) w W→W.heap[Dd]?=some (.deferred (some []))→c.wpIn (WF none) 3 P Q { a with defers:={ target := .collected Dd,args:=#[] } :: a.defers } W) :
    (Code.rangeFunc g ps assign body).wpIn (WF none) 3 P Q a w:=by
  have fr:∀ {T:World→Prop}{R:FP},gz R→(∀ A B X,T A→ae X A B→(∀ k,X k→¬ Qt k)→T B)→lU w.heap.size ai (fun _ U W=>LJ w sg Qt S0 D0 T R U W):=fun f ht i U U' X Y hx hm _ hsub=>hx.frm f ht hQt hm hsub
  have S0l:=(fR 0).lt r0
  have tk:∀ {j:Nat}{R:FP}{U:Nat→Prop}{A:World},gz R→j≤n→LJ w sg Qt S0 D0 (T j) R U A→Ok A∧∀ B,τ A B→LJ w sg Qt S0 D0 (T (j+1)) R U B:=fun {j R U A} f hj h=>by
    obtain⟨t,sz,⟨S,D,r,hs,hd⟩,m⟩:=h
    obtain⟨a1,a2⟩:=tT j A hj t
    refine⟨a1,fun B hB=>⟨a2 B hB,Nat.le_trans sz (hτ A B hB).size,⟨S,D,f.keep r (hτ A B hB) (fun k hk x=>(hs k hk).1 (x▸sgQ)) (fun k hk x=>(hd k hk).1 x),hs,hd⟩,m.trans (hτ A B hB) (fun _ _ x=>x) (fun k _ x => .inr x)⟩⟩
  refine yH hg eg it hτ (hQt _ sgQ) h0 hU hA hps (fun i U W=>LJ w sg Qt S0 D0 (T 0) (R 0) U W) (fun i U W=>LJ w sg Qt S0 D0 (T (i+1)) (R i) U W) (fun i U W=>LJ w sg Qt S0 D0 (T (i+2)) (R i) U W) (fun c i U W=>LJ w sg Qt S0 D0 (T (i+1)) (Rx c i) U W)
    (fr (fR 0) (hT 0)) (fun i U U' X Y hx hm _ hsub=>hx.frm (fR i) (hT _) hQt hm hsub) (fun i U U' X Y hx hm _ hsub=>hx.frm (fR i) (hT _) hQt hm hsub) (fun c i U U' X Y hx hm _ hsub=>hx.frm (fRx c i) (hT _) hQt hm hsub)
    ⟨t0,Nat.le_refl _,⟨S0,D0,r0,fun k hk=>⟨(hS k hk).1,(hS k hk).2,.inl hk⟩,hD⟩,ae.refl _ _⟩ (fun U A h=>tk (fR 0) (Nat.zero_le _) h) (fun i U A hi h=>tk (fR i) (by omega) h) ?_ ?_ ?_
  · intro l i U args W hl hUl hi hJ hAr hUs hW hlo hJa hab
    obtain⟨t,sz,⟨S,D,r,hs,hd⟩,m⟩:=hJa
    have nl:∀ k,S k→k≠l:=fun k hk x=>(hs k hk).2.1 (.inl (x▸hUl))
    have nd:∀ k,D k→k≠l:=fun k hk x=>(hd k hk).2 (.inl (x▸hUl))
    refine wpIn_mono (hround l i U args W S D hl hi t r hAr (fun k hk=>⟨(hs k hk).1,fun x=>(hs k hk).2.1 (.inl x),nl k hk,fun x=>(hs k hk).2.1 (.inr x),(hs k hk).2.2⟩) (fun k hk=>⟨(hd k hk).1,fun x=>(hd k hk).2 (.inl x),nd k hk,fun x=>(hd k hk).2 (.inr x)⟩) hab hUl (hUs l hUl) hW m) ?_
    rintro e a1 W1 he
    cases e with
    | normal =>
      obtain⟨m0,hb⟩:=he
      have z0:=m0.size
      have lW:l<W.heap.size:=hUs l hUl
      refine⟨m0.mono (fun _ _ x=>x.elim),fun W2 m2 hl2=>wpIn_mono (hb W2 m2 ((fR i).keep ((fR i).keep r m0 (fun _ _ x=>x) (fun _ _ x=>x)) m2 nl nd)) ?_⟩
      rintro e a3 W3 ⟨P',hP,S',D',p,m3,s3,d3⟩
      have l3:∀ {X:FP},gz X→X W3 S' D'→ae (fun k=>¬ U k) W2 W3∧LJ w sg Qt S0 D0 (T (i+2)) X U W3:=fun {X} f x=>by
        refine⟨m3.mono (fun k _ hk=>fun x=>(hs k hk).2.1 (.inl x)),⟨hT _ _ _ _ (hT _ _ _ _ (hT _ _ _ _ t m0 (fun _ x=>x.elim)) m2 (fun k hk x=>by have:=hQt k x;omega)) m3 (fun k hk=>(hs k hk).1),Nat.le_trans sz (Nat.le_trans z0 (Nat.le_trans m2.size m3.size)),⟨S',D',x,fun k hk=>?_,fun k hk=>?_⟩,((m.then0 m0).trans m2 (fun _ _ x=>x) (fun k hk x=>by omega)).trans m3 (fun _ _ x=>x) (fun k hk x=>?_)⟩⟩
        · rcases s3 k hk with y | y
          · exact⟨(hs k y).1,fun z=>(hs k y).2.1 (.inl z),(hs k y).2.2⟩
          · have:=m2.size
            exact⟨fun z=>by have:=hQt k z;omega,fun z=>by have:=hUs k z;omega,.inr (by omega)⟩
        · rcases d3 k hk with y | y
          · exact⟨(hd k y).1,fun z=>(hd k y).2 (.inl z)⟩
          · have:=m2.size
            exact⟨fun z=>by have:=hQt _ (z▸sgQ);omega,fun z=>by have:=hUs k z;omega⟩
        · rcases (hs k x).2.2 with y | y
          · exact .inl y
          · omega
      cases e with
      | normal=>subst hP;exact l3 (fR _) p
      | ret=>subst hP;exact l3 (fRx _ _) p
      | exit id=>subst hP;exact l3 (fRx _ _) p
      | goto t=>subst hP;exact l3 (fRx _ _) p
      | _=>exact hP.elim
    | _=>exact he.elim
  · rintro Dd U W hDd hUD hus ⟨t,sz,⟨S,D,r,hs,hd⟩,m⟩ hdef
    exact hdone Dd W S D t r (fun k hk=>⟨(hs k hk).1,fun x=>(hs k hk).2.1 (x▸hUD),(hs k hk).2.2⟩) (fun k hk=>⟨(hd k hk).1,fun x=>(hd k hk).2 (x▸hUD)⟩) hDd m hdef
  · rintro Dd c i U W hDd hUD hus hi ⟨t,sz,⟨S,D,r,hs,hd⟩,m⟩ hdef
    exact hstop Dd c i W S D hi t r (fun k hk=>⟨(hs k hk).1,fun x=>(hs k hk).2.1 (x▸hUD),(hs k hk).2.2⟩) (fun k hk=>⟨(hd k hk).1,fun x=>(hd k hk).2 (x▸hUD)⟩) hDd m hdef
end
end Go.Gl
namespace Go.Proofs.YtglkmaalpammcaaGreat
open Go.Gl Go.RowKit
def noKind (b:List UInt8) (k:Nat):Prop:=∀ (k' A' B':Nat),k'<k→A'≤oZ→B'≤oZ→fE k' A' B'≠some b
theorem uq (b:List UInt8):noKind b 1:=by
 intro k' A' B' h _ _ e
 have:=nY e
 omega
theorem oG {b:List UInt8}{k:Nat}{f:dV} (h:noKind b k) (hf:eY k=some f) (hne:fE k (nZ f b) (ni f b)≠some b):noKind b (k+1):=by
 intro k' A' B' hk hA hB e
 by_cases hkk:k'=k
 ·subst hkk
  obtain⟨e1,e2⟩:=rU hf e hA hB
  rw [← e1,← e2] at e
  exact hne e
 ·exact h k' A' B' (by omega) hA hB e
theorem vM {b:List UInt8} (h:noKind b 18):iO b 0 0 0 70 :=
 .inr ⟨rfl,rfl,rfl,rfl,fun k' A' B' hA hB e=>by
  have:=nY e
  exact h k' A' B' (by omega) hA hB e⟩
theorem tK (xs:List UInt8) (h:xs.length≤8):num xs≤18446744073709551615:=by
 have:=yB xs
 have:256 ^ xs.length≤256 ^ 8:=Nat.pow_le_pow_right (by decide) h
 have e:(256:Nat) ^ 8=18446744073709551616:=by decide
 omega
def ry (b:List UInt8) (w:World) (e:Ending) (w':World):Prop:=∃ (k:Int) (A B:Nat) (n:Int),e = .returned (.tuple #[.agg #[.int .i64 k,.int .u64 A,.int .u64 B],.int .i64 n])∧iO b k A B n∧ae ai w w'
def lY (w1:World) (f:dV) (k A B:Nat) (wx:World):Prop :=
 wx.heap[w1.heap.size]?=some (.cells #[.int .u8 f.head.toNat,.int .u8 f.mid.toNat,.bool f.a,.bool f.b,.bool f.turned] 261 (0,0)) ∧
 wx.heap[w1.heap.size+1]?=some (.cells #[.int .i64 (k:Int),.int .u64 (A:Int),.int .u64 (B:Int)] 173 (0,0))∧ae ai w1 wx
theorem lY.setA {w1:World}{f:dV}{k A B:Nat}{wx:World} (h:lY w1 f k A B wx) (A':Nat):lY w1 f k A' B (wx.setCell ⟨w1.heap.size+1,1,none⟩ (.int .u64 (A':Int))) :=
 ⟨(iJ (by simp) _).trans h.1,by have:=heap_set h.2.1 1 (.int .u64 (A':Int));simpa using this,h.2.2.setCell (.inr (by simp)) _⟩
theorem lY.setB {w1:World}{f:dV}{k A B:Nat}{wx:World} (h:lY w1 f k A B wx) (B':Nat):lY w1 f k A B' (wx.setCell ⟨w1.heap.size+1,2,none⟩ (.int .u64 (B':Int))) :=
 ⟨(iJ (by simp) _).trans h.1,by have:=heap_set h.2.1 2 (.int .u64 (B':Int));simpa using this,h.2.2.setCell (.inr (by simp)) _⟩
theorem lY.start (w1:World) (f:dV) (k:Nat):lY w1 f k 0 0 ((w1.alloc (.cells #[.int .u8 f.head.toNat,.int .u8 f.mid.toNat,.bool f.a,.bool f.b,.bool f.turned] 261)).alloc (.cells #[.int .i64 (k:Int),.int .u64 0,.int .u64 0] 173)) :=
 ⟨dA (aU _ _) _,by have:=aU (w1.alloc (.cells #[.int .u8 f.head.toNat,.int .u8 f.mid.toNat,.bool f.a,.bool f.b,.bool f.turned] 261)) (.cells #[.int .i64 (k:Int),.int .u64 0,.int .u64 0] 173);simpa using this,((ae.refl _ _).alloc _).alloc _⟩
theorem Bz (b:List UInt8) (ax:Option Addr) (nx cx:Nat) (w:World) (hr:Rd w (.slice ax nx cx) b) (hx:b.length=nx) (hcx:nx≤cx) (hcm:cx≤maxLen) :
    Calls Tryz.prog 147 #[.slice ax nx cx] w (ry b w):=by
  have HX:=lh hx
  have HR:=lh hr
  unfold maxLen at hcm
  clear hx hr
  go_enter Tryz.func147,Tryz.ntmps147
  go_wp2
  go_loopg [4] 17 (fun gk i wr=>∃ k:Nat,k+gk=18∧1≤k∧i = .int .i64 k∧Hid (noKind b k∧ae ai (w.alloc (.cells #[.int .i64 0,.int .u64 0,.int .u64 0] 173)) wr))
  case atStart=>exact⟨1,by omega,Nat.le_refl _,rfl,uq b,ae.refl _ _⟩
  case round =>
    obtain⟨k,hk1,hk2,rfl,hR⟩:=hrel
    by_cases hlt:k<18
    · obtain⟨f,hf,_⟩:=mM k hk2 (by omega)
      have HF:=lh hf
      have hmw:=hR.out.2
      have hz:w.heap.size<wr.heap.size:=hmw.size_of (by simp)
      obtain⟨hd,md,fa,fb,ft⟩:=f
      clear hf hmw
      go_upto_region 6 with (first | (go_at_call 175;refine (pJ _ _ _ HF.out).mono ?_;rintro e w1 ⟨rfl,hm⟩;unfold fv nz))
      have B0:lY w1 ⟨hd,md,fa,fb,ft⟩ k 0 0 ((w1.alloc (.cells #[.int .u8 hd.toNat,.int .u8 md.toNat,.bool fa,.bool fb,.bool ft] 261)).alloc (.cells #[.int .i64 (k:Int),.int .u64 0,.int .u64 0] 173)):=lY.start _ _ _
      generalize World.alloc (World.alloc w1 _) _=wa at *
      obtain⟨cA,hcA⟩:∃ c:Bool,c=(fa && decide (9≤nx)):=⟨_,rfl⟩
      obtain⟨cB,hcB⟩:∃ c:Bool,c=(fb && decide (8≤nx)):=⟨_,rfl⟩
      have HA:=lh hcA
      have HB:=lh hcB
      go_cut [27] (fun s wx=>s = .bool cA∧Hid (lY w1 ⟨hd,md,fa,fb,ft⟩ k 0 0 wx))
      case first =>
        have c0:=ag B0.1
        clear hcA hcB
        cases fa
        all_goals
          go_wp2
          go_meet
          refine⟨?_,B0⟩
          rw [HA.out]
          simp
        all_goals omega
      case rest =>
        obtain⟨rfl,hB⟩:=hcut
        clear hcA hcB B0
        obtain⟨A1,hA1⟩:∃ A1:Nat,A1=if cA then num ((b.drop 1).take 8) else 0:=⟨_,rfl⟩
        obtain⟨B1,hB1⟩:∃ B1:Nat,B1=if cB then num (b.drop (b.length - 8)) else 0:=⟨_,rfl⟩
        have lA1:A1≤18446744073709551615:=by rw [hA1];split;exact tK _ (List.length_take_le _ _);omega
        have lB1:B1≤18446744073709551615:=by
          rw [hB1];split
          · rename_i hcb;have:=HB.out;rw [hcb] at this;simp at this;exact tK _ (by rw [List.length_drop,HX.out];omega)
          · omega
        have HA1:=lh hA1
        have HB1:=lh hB1
        have MW:∀ wx,lY w1 ⟨hd,md,fa,fb,ft⟩ k A1 0 wx∨lY w1 ⟨hd,md,fa,fb,ft⟩ k 0 0 wx∨lY w1 ⟨hd,md,fa,fb,ft⟩ k (fU ⟨hd,md,fa,fb,ft⟩ A1) 0 wx→ae ai w wx:=by
          intro wx h
          have h1:ae ai w1 wx:=by rcases h with h | h | h <;> exact h.2.2
          exact (hR.out.2.after.then0 hm).then0 h1
        have HMW:=lh MW
        clear hA1 hB1 MW
        go_upto_if 27 with fail
        go_cut [] (fun wx=>Hid (lY w1 ⟨hd,md,fa,fb,ft⟩ k A1 0 wx))
        case first =>
          cases cA
          · go_wp2
            go_meet
            have e:A1=0:=by rw [HA1.out];simp
            rw [e]
            exact hB
          · have c9:9≤nx:=by have:=HA.out;simp at this;exact this.2
            obtain⟨g,off,hax⟩:=Rd.addr HR.out (by omega)
            subst hax
            have HR2:Rd w (.slice (some ⟨g,off,none⟩) b.length cx) b:=by rw [HX.out];exact HR.out
            have r1:=(HR2.sub 1 8 (cx - 1) (by rw [HX.out];omega) (by omega) (by unfold maxLen;omega)).keep (HMW.out wc (.inr (.inl hB.out))) (fun _ _ x=>x)
            have ck:=ag hB.out.2.1
            have fk:=bY hB.out.2.1
            have hA1':num ((b.drop 1).take 8)=A1:=by rw [HA1.out];simp
            have HA1':=lh hA1'
            clear HR2 hA1'
            go_wp2_with fail
            refine (vT r1 (List.length_take_le _ _)).mono ?_
            rw [HA1'.out]
            rintro e _ ⟨rfl,rfl⟩
            go_wp2
            go_meet
            exact lY.setA hB.out A1
        case rest =>
          have hB:=hcut
          clear hcut
          have cf:=ag hB.out.1
          go_upto_if 33 with fail
          go_cut [] (fun wx=>Hid (lY w1 ⟨hd,md,fa,fb,ft⟩ k (fU ⟨hd,md,fa,fb,ft⟩ A1) 0 wx))
          case first =>
            clear cf
            have ck:=ag hB.out.2.1
            have fk:=bY hB.out.2.1
            cases ft
            · go_wp2
              go_meet
              exact hB
            · go_wp2
              go_meet
              rw [AZ _ (by omega) (by omega),show (18446744073709551615:Int) - (A1:Int)=((18446744073709551615 - A1:Nat):Int) from by omega]
              exact lY.setA hB.out _
          case rest =>
            clear cf hB
            have hB:=hcut
            clear hcut
            go_upto_region 10 with fail
            go_cut [44] (fun s wx=>s = .bool cB∧Hid (lY w1 ⟨hd,md,fa,fb,ft⟩ k (fU ⟨hd,md,fa,fb,ft⟩ A1) 0 wx))
            case first =>
              have c0:=ag hB.out.1
              cases fb
              all_goals
                go_wp2
                go_meet
                refine⟨?_,hB⟩
                rw [HB.out]
                simp
              all_goals omega
            case rest =>
              clear hB
              obtain⟨rfl,hB⟩:=hcut
              have hT:=uO ⟨hd,md,fa,fb,ft⟩ A1 lA1
              obtain⟨A2,hA2⟩:∃ A2,A2=fU ⟨hd,md,fa,fb,ft⟩ A1:=⟨_,rfl⟩
              rw [← hA2] at hB hT
              have HA2:=lh hA2
              have mwc:=(hR.out.2.after.then0 hm).then0 hB.out.2.2
              clear hA2 HMW
              go_upto_if 44 with fail
              go_cut [] (fun wx=>Hid (lY w1 ⟨hd,md,fa,fb,ft⟩ k A2 B1 wx))
              case first =>
                cases cB
                · go_wp2
                  go_meet
                  have e:B1=0:=by rw [HB1.out];simp
                  rw [e]
                  exact hB
                · have c8:8≤nx:=by have:=HB.out;simp at this;exact this.2
                  obtain⟨g,off,hax⟩:=Rd.addr HR.out (by omega)
                  subst hax
                  have HR2:Rd w (.slice (some ⟨g,off,none⟩) b.length cx) b:=by rw [HX.out];exact HR.out
                  have r1:=(HR2.sub (nx - 8) 8 (cx - (nx - 8)) (by rw [HX.out];omega) (by omega) (by unfold maxLen;omega)).keep mwc (fun _ _ x=>x)
                  have ck:=ag hB.out.2.1
                  have fk:=bY hB.out.2.1
                  have hB1':num ((b.drop (nx - 8)).take 8)=B1:=by
                    rw [HB1.out,if_pos rfl,HX.out,List.take_of_length_le (by rw [List.length_drop,HX.out];omega)]
                  have HB1':=lh hB1'
                  clear HR2 hB1'
                  go_wp2_with fail
                  rw [show nx - (nx - 8)=8 from by omega]
                  refine (vT r1 (List.length_take_le _ _)).mono ?_
                  rw [HB1'.out]
                  rintro e _ ⟨rfl,rfl⟩
                  go_wp2
                  go_meet
                  exact lY.setB hB.out B1
              case rest =>
                clear hB mwc
                have hB:=hcut
                clear hcut
                have ck:=ag hB.out.2.1
                have mwc:=(hR.out.2.after.then0 hm).then0 hB.out.2.2
                have hcand:A2=nZ ⟨hd,md,fa,fb,ft⟩ b∧B1=ni ⟨hd,md,fa,fb,ft⟩ b:=by
                  rw [HA2.out,HB1.out,HA1.out,HA.out,HB.out]
                  unfold nZ ni
                  rw [HX.out]
                  simp
                have HC:=lh hcand
                clear hcand
                go_wp2_with fail
                refine (zu (k:Int) A2 B1 _ hT lB1).mono ?_
                rintro e w2 ⟨v,rfl,ov,mv,fv'⟩
                have hz2:=mv.size
                have rb:=(HR.out.keep mwc (fun _ _ x=>x)).keep mv (fun _ _ x=>x)
                have hk3:=lt_of_heap hB.out.2.1
                have ck2:=fun o=>(mv.cellAt hk3 (fun x=>x) o).trans (ck o)
                have mw2:=(hR.out.2.then0 hm).then0 hB.out.2.2 |>.then0 mv
                clear ck
                have c0:=ag (mw2.heap (aU w _) (fun x=>x))
                have f0:=bY (mw2.heap (aU w _) (fun x=>x))
                cases hmk:fE (k:Int) A2 B1 with
                | none =>
                  have HN:=lh hmk
                  rw [hmk] at ov
                  simp only [Option.isSome_none,Bool.false_eq_true,if_false]
                  clear hmk
                  go_wp2
                  go_roundg (gk - 1)
                  case measure=>omega
                  case rel =>
                    refine⟨k+1,by omega,by omega,by go_num,oG hR.out.1 HF.out ?_,mw2⟩
                    rw [← HC.out.1,← HC.out.2,HN.out]
                    simp
                | some b' =>
                  have HN:=lh hmk
                  rw [hmk] at ov
                  simp only [Option.isSome_some,if_true]
                  clear hmk
                  simp only [Option.getD_some] at ov
                  go_wp2_with fail
                  refine (Dl ov.rd rb).mono ?_
                  rintro e w3 ⟨rfl,nq,rfl⟩
                  by_cases hbb:b'=b
                  · subst hbb
                    rw [show decide (b'=b')=true from by simp]
                    have hkr:iO b' (k:Int) A2 B1 0 := .inl ⟨rfl,HN.out,hT,lB1,by omega,by omega⟩
                    clear rb ov mv fv' hB
                    have g0:(w2.drewN nq).heap[w.heap.size]?=_:=mw2.heap (aU w _) (fun x=>x)
                    have mw3:=mw2.drewN nq
                    clear c0 f0 mw2
                    go_wp2_with (refine jX rfl rfl g0 rfl rfl qW rfl rfl ?_;intro w4 k1 k2 k3;have c4:=ag k1)
                    refine bodyPost_ret (by simp [results,Tryz.results147,go_sem,c4];try rfl) rfl ?_
                    exact⟨k,A2,B1,0,rfl,hkr,mw3.after.trans k2 (fun _ _ x=>x) (fun i hi x=>by omega)⟩
                  · rw [show decide (b'=b)=false from by simp [hbb]]
                    have HBB:=lh hbb
                    clear rb ov mv fv' hB hbb
                    go_wp2
                    go_roundg (gk - 1)
                    case measure=>omega
                    case rel =>
                      refine⟨k+1,by omega,by omega,by go_num,oG hR.out.1 HF.out ?_,mw2.drewN nq⟩
                      rw [← HC.out.1,← HC.out.2,HN.out]
                      intro e
                      exact HBB.out (Option.some.inj e)
    · obtain rfl:k=18:=by omega
      obtain⟨h1,h2⟩:=hR.out
      have g0:=h2.heap (aU w _) (fun x=>x)
      clear hR
      go_wp2_with (refine jX rfl rfl g0 rfl rfl qW rfl rfl ?_;intro w4 k1 k2 k3;have c4:=ag k1)
      refine bodyPost_ret (by simp [results,Tryz.results147,go_sem,c4];try rfl) rfl ?_
      exact⟨0,0,0,70,rfl,vM h1,h2.after.trans k2 (fun _ _ x=>x) (fun i hi x=>by omega)⟩
theorem wY {v:Value}{b:List UInt8}{w:World} (hv:Rd w v b):Calls Tryz.prog 147 #[v] w (ry b w):=by
 obtain⟨a,ca,rfl,h1,h2,h3,h4⟩:=hv.at'
 exact Bz b a _ ca w hv rfl h1 h2
end Go.Proofs.YtglkmaalpammcaaGreat
namespace Go.Proofs.YtglkmaalpammcaaGreat
open Go.Gl Go.RowKit
def wS (w:World) (ob:Nat) (V:List Nat) (B:Nat→Prop) (i:Nat):FP:=fun W S D=>∃ v,W.heap[ob]?=some (.cells #[v] 63 (0,0))∧ON 22 W v (V.take i)∧(∀ k,S k↔k=ob∨v.ownBlock=some k)∧(∀ k,¬ D k)∧w.heap.size≤ob∧(∀ k,v.ownBlock=some k→w.heap.size≤k∧k<W.heap.size∧k≠ob)∧B i
def PwX (w:World) (ob:Nat) (V:List Nat) (B:Nat→Prop) (c:Code) (i:Nat):FP:=fun W S D=>c=Code.exit 0∧wS w ob V B i W S D
theorem yj (w:World) (ob:Nat) (V:List Nat) (B:Nat→Prop) (i:Nat):gz (wS w ob V B i):=by
 constructor
 ·rintro W S D ⟨v,h1,h2,hs,hd,ho,h3,h4⟩
  exact⟨fun k hk=>by
   rcases (hs k).1 hk with rfl | x
   ·exact lt_of_heap h1
   ·exact (h3 k x).2.1,fun k hk=>(hd k hk).elim⟩
 ·rintro W W' S D U ⟨v,h1,h2,hs,hd,ho,h3,h4⟩ m a b
  exact⟨v,m.heap h1 (a _ ((hs _).2 (.inl rfl))),fF.keep h2 m (fun k hk=>a k ((hs k).2 (.inr hk))),hs,hd,ho,fun k hk=>⟨(h3 k hk).1,Nat.lt_of_lt_of_le (h3 k hk).2.1 m.size,(h3 k hk).2.2⟩,h4⟩
theorem Hg (w:World) (ob:Nat) (V:List Nat) (B:Nat→Prop) (c:Code) (i:Nat):gz (PwX w ob V B c i) :=
 ⟨fun⟨_,x⟩=>(yj w ob V B i).lt x,fun⟨a,x⟩ m p q=>⟨a,(yj w ob V B i).keep x m p q⟩⟩
def zg (L:List EV) (kd:Nat) (V:List Nat):Prop:=L.length=V.length∧∀ (i:Nat) (e:EV),L[i]?=some e→∃ a b,zk kd a b∧e.k=gp kd a b∧V[i]?=some (if kd=10 then b else a)
theorem rD {V:List Nat}{i x:Nat} (h:V[i]?=some x):V.take (i+1)=V.take i ++ [x]:=by rw [List.take_add_one,h];rfl
theorem GV {w:World}{sg mg:Nat}{n:Int}{vo jv:Value}{R:List PV}{J:List JV}{c:Int}{V:List Nat} (km:KM w sg mg vo R jv J c) (h0:0≤c) (h1:c≤4000000000000000000) (ok:gu (aH R)) (hn:R.length≤1000000) (hl:V.length≤1000000) (tok:zg (nK R [105]) 10 V) (hn1:1≤n) :
  Calls Tryz.prog 69 #[.pointer (some ⟨sg,0,none⟩),.int .i64 n] w fun e w'=>∃ v,e = .returned v∧ON 22 w' v (V.take n.toNat)∧(∀ k,v.ownBlock=some k→w.heap.size≤k∧k<w'.heap.size)∧ae (fun k=>k=sg) w w'∧∃ c',c≤c'∧c'≤c+1+((V.take n.toNat).length:Int)∧KM w' sg mg vo R jv J c':=by
 have hks:=km.lt
 have hkd:=km.dlt
 have hLn:=tok.1
 have tok2:=tok.2
 obtain⟨BB,hBB⟩:∃ BB:Nat→Prop,BB=(fun i:Nat=>((i:Nat):Int)<n):=⟨_,rfl⟩
 generalize hLL:nK R [105]=LL at *
 (refine kM _ Tryz.func69 rfl ?_;simp only [Tryz.ntmps69,List.size_toArray,List.length_cons,List.length_nil,Nat.reduceAdd,Nat.reduceSub,Array.replicate_succ,Array.replicate_zero,List.push_toArray,List.append_toArray,List.nil_append,List.cons_append])
 refine wpIn_seq ?_
 refine bT (d := .region 0 (aJ 0 Tryz.f69) false) (by kernel_rfl) ?_
 refine RW.wpIn (pt0 ?_) (by kernel_rfl)
 intro hb w00 hhb hH m00
 refine bI ?_
 refine wpIn_seq ?_
 refine wpIn_seq ?_
 refine bT (d := .region 1 (aJ 1 Tryz.f69) false) (by kernel_rfl) ?_
 refine RW.wpIn (pt1 (B:=false) (ag hH 0) (decide_eq_false (by omega)) ?_) (by kernel_rfl)
 intros
 rename_i w0 e0
 subst e0
 have m0:=m00
 refine bI ?_
 refine wpIn_cond_false rfl ?_
 refine wpIn_skip ?_
 refine bI ?_
 refine wpIn_seq ?_
 refine bT (d := .region 3 (aJ 3 Tryz.f69) false) (by kernel_rfl) ?_
 refine RW.wpIn (pt3 ?_) (by kernel_rfl)
 intro ob w1 hob hO m01
 refine bI ?_
 have m1:=m0.then0 m01
 refine wpIn_seq ?_
 refine bT (d := .region 4 (aJ 4 Tryz.f69) false) (by kernel_rfl) ?_
 refine RW.wpIn (pt4 (X:=fun v w'=>Gl.Own w' v [105]∧ae ai w1 w'∧aF w1 v) ((DX 10 w1).mono (fun e w' ⟨v,he,o,m,f⟩=>⟨v,_,he,o,m,f⟩)) ?_) (by kernel_rfl)
 intros
 rename_i hv w2 hx2
 obtain⟨oh,m2,fh⟩:=hx2
 refine bI ?_
 refine wpIn_seq ?_
 refine wpIn_seq ?_
 have m12:=m1.then0 m2
 have hO2:=m2.heap hO (fun x=>x)
 have km2:=km.keep0 m12
 refine bT (d := .region 5 (aJ 5 Tryz.f69) false) (by kernel_rfl) ?_
 refine RW.wpIn (pt5 (X:=fun lb w'=>xZ w2 w' sg mg vo R LL lb)
  ((um km2 oh.rd (by simp) ok hn).mono (fun e w' ⟨b1,b2,he,hg⟩=>⟨_,he,by rw [← hLL];exact hg⟩)) ?_) (by kernel_rfl)
 intros
 rename_i lb w4 hy
 obtain⟨m3,U0,it,hU0⟩:=hy
 refine bI ?_
 have m24:=m3
 have m14:=m2.then0 m24
 have m4:=m12.then0 m24
 have km4:=km.keep0 m4
 have hO4:=m24.heap hO2 (fun x=>x)
 have sgl:=hks sg (.inl rfl)
 have hol:=lt_of_heap hO
 have s0:=m0.size
 have s1:=m01.size
 have s2:=m2.size
 have s3:=m3.size
 have it4:=it w4 (ae.refl _ _)
 have U0l:∀ k,U0 k→k<w4.heap.size:=fun k hk=>by have:=(hU0 k hk).1;omega
 refine wpIn_block ?_
 refine wU (by rfl) (enters_of Tryz.func244 (by kernel_rfl) rfl) (U0:=U0) (sg:=sg) it4 (fun A C t=>t.mods) (ae.refl _ _) U0l (oL _ _) (fun i U args W1 hA=>by obtain⟨e,kv,vv,_,rfl,_⟩:=hA;rfl)
  (T:=fun j W=>KM W sg mg vo R jv J (c+(j:Nat))) (Qt:=fun k=>KS sg mg vo R jv J k∨KD R J k) (wS w0 ob V BB) (fun c i=>PwX w0 ob V (fun i:Nat=>((i:Nat):Int)=n) c i) (yj w0 ob V BB) (fun _ _=>Hg ..) (fun j A B X t m hx=>t.keep m (fun k hk x=>hx k x (.inl hk)) (fun k hk x=>hx k x (.inr hk))) (fun k hk=>?_) (fun j A hj t=>?_) (.inl (.inl rfl))
  (S0:=fun k=>k=ob) (D0:=fun _=>False) (by simpa using km4) ⟨.slice none 0 0,hO4,fF.nil _ _ _,fun k=>by simp [Value.ownBlock],fun _ x=>x,by omega,fun k hk=>by simp [Value.ownBlock] at hk,by rw [hBB];omega⟩ ?_ (fun _ x=>x.elim) ?_ ?_ ?_
 ·rcases hk with x | x
  ·have:=hks k x;omega
  ·have:=hkd k x;omega
 ·rw [hLn] at hj
  refine⟨t.okS (by omega) (by omega),fun B tt=>?_⟩
  have:=t.tickR tt
  rw [show c+((j+1:Nat):Int)=c+(j:Int)+1 by omega]
  exact this
 ·rintro k rfl
  refine⟨?_,?_⟩
  ·rintro (x | x)
   ·have:=hks _ x;omega
   ·have:=hkd _ x;omega
  ·intro x
   rcases (hU0 _ x).2.2 with y | y | y
   ·have:=hks _ (.inr (.inl y));omega
   ·have:=hkd _ (.inl y);omega
   ·omega
 ·intro l i U args W S D hlp hi hT hr hA hS hD hab hUl hlW hW hm
  obtain⟨e,kv,vv,hei,rfl,o1,o2,u1,u2,dd,b1,b2⟩:=hA
  obtain⟨ka0,xw,hpk,hek,hVi⟩:=tok2 i e hei
  rw [hLn] at hi
  simp only [iT,List.setIfInBounds_toArray,List.set_cons_succ,List.set_cons_zero]
  refine bT (d := .region 6 (aJ 6 Tryz.f69) false) (by kernel_rfl) ?_
  refine RW.wpIn (pt6 ?_) (by kernel_rfl)
  intros
  rename_i w5 e5
  subst e5
  refine bI ?_
  refine⟨ae.refl _ _,fun W2 m7 hr2=>?_⟩
  clear hr
  have o17:=o1.keep m7 (fun k hk x=>u1 k hk (x▸hUl))
  refine wpIn_block ?_
  refine wpIn_seq ?_
  refine bT (d := .region 7 (aJ 7 Tryz.f69) false) (by kernel_rfl) ?_
  refine RW.wpIn (pt7 (X:=fun kk a b w'=>(∃ n,iO e.k kk a b n)∧ae ai W2 w') ((wY o17.rd).mono (fun r w' ⟨kk,a,b,n,hr,hg,hm⟩=>⟨kk,a,b,_,hr,⟨n,hg⟩,hm⟩)) ?_) (by kernel_rfl)
  intros
  rename_i kk ka kb kq wc w8 hx hkq hK8 mc8
  obtain⟨⟨kn,hkr⟩,mWc⟩:=hx
  obtain⟨rfl,rfl,rfl,_⟩:=iO.same hkr (show iO e.k (10:Nat) ka0 xw 0 from by rw [hek];exact .inl ⟨rfl,uY hpk,hpk.1,hpk.2.1,by omega,by omega⟩)
  refine bI ?_
  have m28:=mWc.then0 mc8
  have z7:=m7.size
  have z8:=m28.size
  obtain⟨v,q1,q2,hs,hd,ho,q3,q4⟩:=hr2
  have q18:=m28.heap q1 (fun x=>x)
  have q28:=fF.keep q2 m28 (fun _ _ x=>x)
  have hlen:(V.take i).length≤100000000:=by rw [List.length_take];omega
  have hvo:¬ dC v ob:=fun x=>(q3 ob x).2.2 rfl
  have tkA:=rD hVi
  have obl:=lt_of_heap q1
  have hH2:=m28.heap (m7.heap (hm.heap (m24.heap (m2.heap (m01.heap hH (fun x=>x)) (fun x=>x)) (fun x=>x)) (fun x=>by have:=lt_of_heap hH;rcases x with x | x <;> omega)) (fun x=>by have:=lt_of_heap hH;omega)) (fun x=>x)
  refine wpIn_seq ?_
  refine bT (d := .region 8 (aJ 8 Tryz.f69) false) (by kernel_rfl) ?_
  refine RW.wpIn (pt8 q18 (ag hK8 2) q28 hlen hvo ?_) (by kernel_rfl)
  intros
  rename_i v8 w8' w9 o8 m8 f8 hw9
  subst hw9
  have m9:=(ae.refl (fun k=>k=ob) w8').setCell (p:=⟨ob,0,none⟩) (.inl rfl) v8
  have z8':=m8.size
  have z9:=m9.size
  have nv8:∀ k,v8.ownBlock=some k→w0.heap.size≤k∧k≠ob:=fun k hk=>by
   rcases f8 with x | x
   ·rw [x] at hk
    exact⟨(q3 k hk).1,(q3 k hk).2.2⟩
   ·have:=x k hk
    exact⟨by omega,by omega⟩
  have v8l:∀ k,v8.ownBlock=some k→k<w8'.heap.size:=fun k hk=>aO.lt o8 k hk
  have mA:ae S W2 (w8'.setCell ⟨ob,0,none⟩ v8):=(m28.trans m8 (U:=S) (fun _ _ x=>x.elim) (fun k _ x=>(hs k).2 (.inr x))).trans m9 (fun _ _ x=>x) (fun k _ x=>(hs k).2 (.inl x))
  have oA:ON 22 (w8'.setCell ⟨ob,0,none⟩ v8) v8 (V.take (i+1)):=by
   unfold ON fF
   rw [tkA,List.map_append,List.length_append]
   exact aO.keep o8 m9 (fun k hk e=>(nv8 k hk).2 e)
  have hA1:(w8'.setCell ⟨ob,0,none⟩ v8).heap[ob]?=some (.cells #[v8] 63 (0,0)):=heap_set (m8.heap q18 hvo) 0 v8
  have sA:∀ k,(k=ob∨v8.ownBlock=some k)→S k∨W2.heap.size≤k:=fun k hk=>by
   rcases hk with x | x
   ·exact .inl ((hs k).2 (.inl x))
   ·rcases f8 with y | y
    ·rw [y] at x
     exact .inl ((hs k).2 (.inr x))
    ·have:=y k x
     exact .inr (by omega)
  have pA:∀ B:Nat→Prop,B (i+1)→wS w0 ob V B (i+1) (w8'.setCell ⟨ob,0,none⟩ v8) (fun k=>k=ob∨v8.ownBlock=some k) (fun _=>False):=fun B hB=>⟨v8,hA1,oA,fun _=>Iff.rfl,fun _ x=>x,ho,fun k hk=>⟨(nv8 k hk).1,Nat.lt_of_lt_of_le (v8l k hk) z9,(nv8 k hk).2⟩,hB⟩
  refine bI ?_
  rw [hBB] at q4
  obtain⟨g9,off9,c9,rfl,_⟩:∃ g off c,v8 = .slice (some ⟨g,off,none⟩) (i+1) c∧True:=by
   rcases oA.2 with ⟨_,x⟩ | ⟨g,off,c,_,hv,_⟩
   ·rw [List.length_take] at x;have:=List.getElem?_eq_some_iff.1 hVi;obtain⟨y,_⟩:=this;omega
   ·exact⟨g,off,c,by rw [hv,List.length_take,Nat.min_eq_left (by have:=List.getElem?_eq_some_iff.1 hVi;obtain⟨y,_⟩:=this;omega)],trivial⟩
  have hH9:=m9.heap (m8.heap hH2 (fun x=>by have:=lt_of_heap hH;have:=(q3 _ x).1;omega)) (fun x=>by have y:hb=ob:=x;have:=lt_of_heap hH;omega)
  refine wpIn_seq ?_
  refine bT (d := .region 9 (aJ 9 Tryz.f69) false) (by kernel_rfl) ?_
  by_cases hgt:((i+1:Nat):Int)=n
  ·refine RW.wpIn (pt9 (B:=true) (ag hA1 0) (ag hH9 0) (decide_eq_true hgt) ?_) (by kernel_rfl)
   intros
   rename_i w11 e11
   subst e11
   refine bI ?_
   refine wpIn_cond_true rfl ?_
   refine wpIn_exit ?_
   repeat (first | refine zS ?_ | refine Gj (by decide) ?_)
   exact⟨_,rfl,_,_,⟨rfl,pA _ hgt⟩,mA,sA,fun k hk=>hk.elim⟩
  ·refine RW.wpIn (pt9 (B:=false) (ag hA1 0) (ag hH9 0) (decide_eq_false hgt) ?_) (by kernel_rfl)
   intros
   rename_i w11 e11
   subst e11
   refine bI ?_
   refine wpIn_cond_false rfl ?_
   refine wpIn_skip ?_
   refine iI ?_
   exact⟨wS w0 ob V BB (i+1),rfl,_,_,pA BB (by rw [hBB];omega),mA,sA,fun k hk=>hk.elim⟩
 ·intro Dd W S D hT hr hS hD hDd hm hdef
  obtain⟨v,q1,q2,hs,hd,ho,q3,q4⟩:=hr
  rw [hLn] at q2 q4 hT
  have e1:V.take V.length=V.take n.toNat:=by rw [List.take_of_length_le (Nat.le_refl _),List.take_of_length_le];rw [hBB] at q4;omega
  rw [e1] at q2
  refine iI ?_
  refine bI ?_
  refine wpIn_seq ?_
  refine bT (d := .region 10 (aJ 10 Tryz.f69) false) (by kernel_rfl) ?_
  refine RW.wpIn (pt10 (ag q1 0) ?_) (by kernel_rfl)
  intros
  rename_i wz ez
  subst ez
  refine bI ?_
  refine wpIn_ret ?_
  refine iq hdef (results_tmp rfl _ _ _) ?_
  have mD:=dJ wz Dd (.deferred none)
  refine⟨v,rfl,fF.keep q2 mD (fun k hk e=>(hS k ((hs k).2 (.inr hk))).2.1 e),fun k hk=>⟨Nat.le_trans s0 (q3 k hk).1,Nat.lt_of_lt_of_le (q3 k hk).2.1 mD.size⟩,?_,_,?_,?_,hT.keep mD (fun k hk e=>by have:=hks k hk;omega) (fun k hk e=>by have:=hkd k hk;omega)⟩
  ·exact (m4.trans hm (U:=fun k=>k=sg) (fun _ _ x=>x.elim) (fun k hk x=>by rcases x with x | x;omega;exact x)).trans mD (fun _ _ x=>x) (fun k hk x=>by omega)
  ·omega
  ·rw [← e1,List.length_take];omega
 ·rintro Dd cd i W S D hi hT ⟨rfl,hr⟩ hS hD hDd hm hdef
  rw [hLn] at hi
  obtain⟨v,q1,q2,hs,hd,ho,q3,q4⟩:=hr
  have e1:V.take (i+1)=V.take n.toNat:=by congr 1;omega
  rw [e1] at q2
  refine wpIn_exit ?_
  refine vZ ?_
  refine bI ?_
  refine wpIn_seq ?_
  refine bT (d := .region 10 (aJ 10 Tryz.f69) false) (by kernel_rfl) ?_
  refine RW.wpIn (pt10 (ag q1 0) ?_) (by kernel_rfl)
  intros
  rename_i wz ez
  subst ez
  refine bI ?_
  refine wpIn_ret ?_
  refine iq hdef (results_tmp rfl _ _ _) ?_
  have mD:=dJ wz Dd (.deferred none)
  refine⟨v,rfl,fF.keep q2 mD (fun k hk e=>(hS k ((hs k).2 (.inr hk))).2.1 e),fun k hk=>⟨Nat.le_trans s0 (q3 k hk).1,Nat.lt_of_lt_of_le (q3 k hk).2.1 mD.size⟩,?_,_,?_,?_,hT.keep mD (fun k hk e=>by have:=hks k hk;omega) (fun k hk e=>by have:=hkd k hk;omega)⟩
  ·exact (m4.trans hm (U:=fun k=>k=sg) (fun _ _ x=>x.elim) (fun k hk x=>by rcases x with x | x;omega;exact x)).trans mD (fun _ _ x=>x) (fun k hk x=>by omega)
  ·omega
  ·rw [List.length_take];omega
theorem BL {w:World}{sg mg:Nat}{vo jv:Value}{R:List PV}{J:List JV}{c:Int}{V:List Nat} (km:KM w sg mg vo R jv J c) (h0:0≤c) (h1:c≤4000000000000000000) (ok:gu (aH R)) (hn:R.length≤1000000) (hl:V.length≤1000000) (tok:zg (nK R [98]) 11 V) :
  Calls Tryz.prog 71 #[.pointer (some ⟨sg,0,none⟩)] w fun e w'=>∃ v,e = .returned v∧ON 22 w' v V∧(∀ k,v.ownBlock=some k→w.heap.size≤k∧k<w'.heap.size)∧ae (fun k=>k=sg) w w'∧∃ c',c≤c'∧c'≤c+1+(V.length:Int)∧KM w' sg mg vo R jv J c':=by
 have hks:=km.lt
 have hkd:=km.dlt
 have hLn:=tok.1
 have tok2:=tok.2
 obtain⟨BB,hBB⟩:∃ BB:Nat→Prop,BB=(fun _=>True):=⟨_,rfl⟩
 generalize hLL:nK R [98]=LL at *
 (refine kM _ Tryz.func71 rfl ?_;simp only [Tryz.ntmps71,List.size_toArray,List.length_cons,List.length_nil,Nat.reduceAdd,Nat.reduceSub,Array.replicate_succ,Array.replicate_zero,List.push_toArray,List.append_toArray,List.nil_append,List.cons_append])
 refine wpIn_seq ?_
 refine bT (d := .region 0 (aJ 0 Tryz.f71) false) (by kernel_rfl) ?_
 refine RW.wpIn (pb0 ?_) (by kernel_rfl)
 intro w0 e0
 have m0:ae ai w w0:=by rw [e0];exact ae.refl _ _
 refine bI ?_
 refine wpIn_seq ?_
 refine bT (d := .region 1 (aJ 1 Tryz.f71) false) (by kernel_rfl) ?_
 refine RW.wpIn (pb1 ?_) (by kernel_rfl)
 intro ob w1 hob hO m01
 refine bI ?_
 have m1:=m0.then0 m01
 refine wpIn_seq ?_
 refine bT (d := .region 2 (aJ 2 Tryz.f71) false) (by kernel_rfl) ?_
 refine RW.wpIn (pb2 (X:=fun v w'=>Gl.Own w' v [98]∧ae ai w1 w'∧aF w1 v) ((DX 11 w1).mono (fun e w' ⟨v,he,o,m,f⟩=>⟨v,_,he,o,m,f⟩)) ?_) (by kernel_rfl)
 intros
 rename_i hv w2 hx2
 obtain⟨oh,m2,fh⟩:=hx2
 refine bI ?_
 refine wpIn_seq ?_
 refine wpIn_seq ?_
 have m12:=m1.then0 m2
 have hO2:=m2.heap hO (fun x=>x)
 have km2:=km.keep0 m12
 refine bT (d := .region 3 (aJ 3 Tryz.f71) false) (by kernel_rfl) ?_
 refine RW.wpIn (pb3 (X:=fun lb w'=>xZ w2 w' sg mg vo R LL lb)
  ((um km2 oh.rd (by simp) ok hn).mono (fun e w' ⟨b1,b2,he,hg⟩=>⟨_,he,by rw [← hLL];exact hg⟩)) ?_) (by kernel_rfl)
 intros
 rename_i lb w4 hy
 obtain⟨m3,U0,it,hU0⟩:=hy
 refine bI ?_
 have m24:=m3
 have m14:=m2.then0 m24
 have m4:=m12.then0 m24
 have km4:=km.keep0 m4
 have hO4:=m24.heap hO2 (fun x=>x)
 have sgl:=hks sg (.inl rfl)
 have hol:=lt_of_heap hO
 have s0:=m0.size
 have s1:=m01.size
 have s2:=m2.size
 have s3:=m3.size
 have it4:=it w4 (ae.refl _ _)
 have U0l:∀ k,U0 k→k<w4.heap.size:=fun k hk=>by have:=(hU0 k hk).1;omega
 refine wpIn_block ?_
 refine wU (by rfl) (enters_of Tryz.func244 (by kernel_rfl) rfl) (U0:=U0) (sg:=sg) it4 (fun A C t=>t.mods) (ae.refl _ _) U0l (oL _ _) (fun i U args W1 hA=>by obtain⟨e,kv,vv,_,rfl,_⟩:=hA;rfl)
  (T:=fun j W=>KM W sg mg vo R jv J (c+(j:Nat))) (Qt:=fun k=>KS sg mg vo R jv J k∨KD R J k) (wS w0 ob V BB) (fun c i=>PwX w0 ob V (fun _=>False) c i) (yj w0 ob V BB) (fun _ _=>Hg ..) (fun j A B X t m hx=>t.keep m (fun k hk x=>hx k x (.inl hk)) (fun k hk x=>hx k x (.inr hk))) (fun k hk=>?_) (fun j A hj t=>?_) (.inl (.inl rfl))
  (S0:=fun k=>k=ob) (D0:=fun _=>False) (by simpa using km4) ⟨.slice none 0 0,hO4,fF.nil _ _ _,fun k=>by simp [Value.ownBlock],fun _ x=>x,by omega,fun k hk=>by simp [Value.ownBlock] at hk,by rw [hBB];trivial⟩ ?_ (fun _ x=>x.elim) ?_ ?_ ?_
 ·rcases hk with x | x
  ·have:=hks k x;omega
  ·have:=hkd k x;omega
 ·rw [hLn] at hj
  refine⟨t.okS (by omega) (by omega),fun B tt=>?_⟩
  have:=t.tickR tt
  rw [show c+((j+1:Nat):Int)=c+(j:Int)+1 by omega]
  exact this
 ·rintro k rfl
  refine⟨?_,?_⟩
  ·rintro (x | x)
   ·have:=hks _ x;omega
   ·have:=hkd _ x;omega
  ·intro x
   rcases (hU0 _ x).2.2 with y | y | y
   ·have:=hks _ (.inr (.inl y));omega
   ·have:=hkd _ (.inl y);omega
   ·omega
 ·intro l i U args W S D hlp hi hT hr hA hS hD hab hUl hlW hW hm
  obtain⟨e,kv,vv,hei,rfl,o1,o2,u1,u2,dd,b1,b2⟩:=hA
  obtain⟨ka0,xw,hpk,hek,hVi⟩:=tok2 i e hei
  rw [hLn] at hi
  simp only [iT,List.setIfInBounds_toArray,List.set_cons_succ,List.set_cons_zero]
  refine bT (d := .region 4 (aJ 4 Tryz.f71) false) (by kernel_rfl) ?_
  refine RW.wpIn (pb4 ?_) (by kernel_rfl)
  intros
  rename_i w5 e5
  subst e5
  refine bI ?_
  refine⟨ae.refl _ _,fun W2 m7 hr2=>?_⟩
  clear hr
  have o17:=o1.keep m7 (fun k hk x=>u1 k hk (x▸hUl))
  refine wpIn_block ?_
  refine wpIn_seq ?_
  refine bT (d := .region 5 (aJ 5 Tryz.f71) false) (by kernel_rfl) ?_
  refine RW.wpIn (pb5 (X:=fun kk a b w'=>(∃ n,iO e.k kk a b n)∧ae ai W2 w') ((wY o17.rd).mono (fun r w' ⟨kk,a,b,n,hr,hg,hm⟩=>⟨kk,a,b,_,hr,⟨n,hg⟩,hm⟩)) ?_) (by kernel_rfl)
  intros
  rename_i kk ka kb kq wc w8 hx hkq hK8 mc8
  obtain⟨⟨kn,hkr⟩,mWc⟩:=hx
  obtain⟨rfl,rfl,rfl,_⟩:=iO.same hkr (show iO e.k (11:Nat) ka0 xw 0 from by rw [hek];exact .inl ⟨rfl,uY hpk,hpk.1,hpk.2.1,by omega,by omega⟩)
  refine bI ?_
  have m28:=mWc.then0 mc8
  have z7:=m7.size
  have z8:=m28.size
  obtain⟨v,q1,q2,hs,hd,ho,q3,q4⟩:=hr2
  have q18:=m28.heap q1 (fun x=>x)
  have q28:=fF.keep q2 m28 (fun _ _ x=>x)
  have hlen:(V.take i).length≤100000000:=by rw [List.length_take];omega
  have hvo:¬ dC v ob:=fun x=>(q3 ob x).2.2 rfl
  have tkA:=rD hVi
  have obl:=lt_of_heap q1
  refine bT (d := .region 6 (aJ 6 Tryz.f71) false) (by kernel_rfl) ?_
  refine RW.wpIn (pb6 q18 (ag hK8 1) q28 hlen hvo ?_) (by kernel_rfl)
  intros
  rename_i v8 w8' w9 o8 m8 f8 hw9
  subst hw9
  have m9:=(ae.refl (fun k=>k=ob) w8').setCell (p:=⟨ob,0,none⟩) (.inl rfl) v8
  have z8':=m8.size
  have z9:=m9.size
  have nv8:∀ k,v8.ownBlock=some k→w0.heap.size≤k∧k≠ob:=fun k hk=>by
   rcases f8 with x | x
   ·rw [x] at hk
    exact⟨(q3 k hk).1,(q3 k hk).2.2⟩
   ·have:=x k hk
    exact⟨by omega,by omega⟩
  have v8l:∀ k,v8.ownBlock=some k→k<w8'.heap.size:=fun k hk=>aO.lt o8 k hk
  have mA:ae S W2 (w8'.setCell ⟨ob,0,none⟩ v8):=(m28.trans m8 (U:=S) (fun _ _ x=>x.elim) (fun k _ x=>(hs k).2 (.inr x))).trans m9 (fun _ _ x=>x) (fun k _ x=>(hs k).2 (.inl x))
  have oA:ON 22 (w8'.setCell ⟨ob,0,none⟩ v8) v8 (V.take (i+1)):=by
   unfold ON fF
   rw [tkA,List.map_append,List.length_append]
   exact aO.keep o8 m9 (fun k hk e=>(nv8 k hk).2 e)
  have hA1:(w8'.setCell ⟨ob,0,none⟩ v8).heap[ob]?=some (.cells #[v8] 63 (0,0)):=heap_set (m8.heap q18 hvo) 0 v8
  have sA:∀ k,(k=ob∨v8.ownBlock=some k)→S k∨W2.heap.size≤k:=fun k hk=>by
   rcases hk with x | x
   ·exact .inl ((hs k).2 (.inl x))
   ·rcases f8 with y | y
    ·rw [y] at x
     exact .inl ((hs k).2 (.inr x))
    ·have:=y k x
     exact .inr (by omega)
  have pA:∀ B:Nat→Prop,B (i+1)→wS w0 ob V B (i+1) (w8'.setCell ⟨ob,0,none⟩ v8) (fun k=>k=ob∨v8.ownBlock=some k) (fun _=>False):=fun B hB=>⟨v8,hA1,oA,fun _=>Iff.rfl,fun _ x=>x,ho,fun k hk=>⟨(nv8 k hk).1,Nat.lt_of_lt_of_le (v8l k hk) z9,(nv8 k hk).2⟩,hB⟩
  refine iI ?_
  exact⟨wS w0 ob V BB (i+1),rfl,_,_,pA BB (by rw [hBB];trivial),mA,sA,fun k hk=>hk.elim⟩
 ·intro Dd W S D hT hr hS hD hDd hm hdef
  obtain⟨v,q1,q2,hs,hd,ho,q3,q4⟩:=hr
  rw [hLn] at q2 q4 hT
  have e1:V.take V.length=V:=by exact List.take_of_length_le (Nat.le_refl _)
  rw [e1] at q2
  refine iI ?_
  refine bI ?_
  refine wpIn_seq ?_
  refine bT (d := .region 7 (aJ 7 Tryz.f71) false) (by kernel_rfl) ?_
  refine RW.wpIn (pb7 (ag q1 0) ?_) (by kernel_rfl)
  intros
  rename_i wz ez
  subst ez
  refine bI ?_
  refine wpIn_ret ?_
  refine iq hdef (results_tmp rfl _ _ _) ?_
  have mD:=dJ wz Dd (.deferred none)
  refine⟨v,rfl,fF.keep q2 mD (fun k hk e=>(hS k ((hs k).2 (.inr hk))).2.1 e),fun k hk=>⟨Nat.le_trans s0 (q3 k hk).1,Nat.lt_of_lt_of_le (q3 k hk).2.1 mD.size⟩,?_,_,?_,?_,hT.keep mD (fun k hk e=>by have:=hks k hk;omega) (fun k hk e=>by have:=hkd k hk;omega)⟩
  ·exact (m4.trans hm (U:=fun k=>k=sg) (fun _ _ x=>x.elim) (fun k hk x=>by rcases x with x | x;omega;exact x)).trans mD (fun _ _ x=>x) (fun k hk x=>by omega)
  ·omega
  ·omega
 ·rintro Dd cd i W S D hi hT ⟨rfl,hr⟩ hS hD hDd hm hdef
  rw [hLn] at hi
  obtain⟨v,q1,q2,hs,hd,ho,q3,q4⟩:=hr
  exact q4.elim
end Go.Proofs.YtglkmaalpammcaaGreat
namespace Go.Gl
def GI (w:World) (S0 D0:Nat→Prop) (w':World) (P:FP) (N:Nat→Prop):Prop:=∃ S D,P w' S D∧ae S0 w w'∧(∀ k,S k→S0 k∨w.heap.size≤k)∧(∀ k,D k→D0 k∨w.heap.size≤k)∧(∀ k,N k→w.heap.size≤k∧k<w'.heap.size∧¬ S k∧¬ D k)
def Out (w:World) (S0 N:Nat→Prop) (k:Nat):Prop:=N k∨(k<w.heap.size∧¬ S0 k)
section
variable {prog:Program}{f:FuncId}{args:Array Value}{w w1 w2:World}{S0 D0 N N':Nat→Prop}{P P':FP}{r:Value}
theorem GI.start (p:P w S0 D0):GI w S0 D0 w P (fun _=>False):=⟨S0,D0,p,ae.refl _ _,fun _ => .inl,fun _ => .inl,fun _ x=>x.elim⟩
theorem GI.mods (h:GI w S0 D0 w1 P N):ae S0 w w1:=by obtain⟨_,_,_,m,_⟩:=h;exact m
theorem GI.keep0 (h:GI w S0 D0 w1 P N) (f:gz P) (m:ae ai w1 w2):GI w S0 D0 w2 P N:=by
 obtain⟨S,D,p,m0,s,d,n⟩:=h
 exact⟨S,D,f.keep p m (fun _ _ x=>x) (fun _ _ x=>x),m0.then0 m,s,d,fun k hk=>⟨(n k hk).1,Nat.lt_of_lt_of_le (n k hk).2.1 m.size,(n k hk).2.2⟩⟩
theorem GI.grow (h:GI w S0 D0 w1 P N) (f:gz P) (m:ae ai w1 w2) (hn:∀ k,N' k→N k∨(w1.heap.size≤k∧k<w2.heap.size)):GI w S0 D0 w2 P N':=by
 obtain⟨S,D,p,m0,s,d,n⟩:=h
 have l:=f.lt p
 refine⟨S,D,f.keep p m (fun _ _ x=>x) (fun _ _ x=>x),m0.then0 m,s,d,fun k hk=>?_⟩
 rcases hn k hk with x | ⟨x,y⟩
 ·exact⟨(n k x).1,Nat.lt_of_lt_of_le (n k x).2.1 m.size,(n k x).2.2⟩
 ·exact⟨by have:=m0.size;omega,y,fun z=>by have:=l.1 k z;omega,fun z=>by have:=l.2 k z;omega⟩
theorem GI.own (h:GI w S0 D0 w1 P N) (f:gz P) (m:ae ai w1 w2) {v:Value}{xs:List UInt8} (o:Own w2 v xs) (fr:aF w1 v):GI w S0 D0 w2 P (fun k=>N k∨dC v k):=h.grow f m (fun k hk=>hk.imp id (fun x=>⟨fr k x,o.lt k x⟩))
theorem GI.less (h:GI w S0 D0 w1 P N) (hn:∀ k,N' k→N k):GI w S0 D0 w1 P N':=by
 obtain⟨S,D,p,m0,s,d,n⟩:=h
 exact⟨S,D,p,m0,s,d,fun k hk=>n k (hn k hk)⟩
theorem GI.call {R:World→Value→FP→(Nat→Prop)→Prop} (h:GI w S0 D0 w1 P N) (c:GC prog f args w1 P (Out w S0 N) R):Calls prog f args w1 fun e w'=>∃ v P' N',e = .returned v∧R w' v P' N'∧GI w S0 D0 w' P' (fun k=>N k∨N' k)∧(∀ k,N' k→w1.heap.size≤k)∧ae (fun k=>¬ Out w S0 N k) w1 w':=by
 obtain⟨S,D,p,m0,s,d,n⟩:=h
 have hq:∀ k,Out w S0 N k→¬ S k:=fun k hk x=>by
  rcases hk with hk | ⟨h1,h2⟩
  ·exact (n k hk).2.2.1 x
  ·rcases s k x with y | y
   ·exact h2 y
   ·omega
 refine (c S D p hq).mono ?_
 rintro e w' ⟨v,P',N',rfl,hR,S',D',p',m,s1,d1,n1⟩
 have hs:=m0.size
 refine⟨v,P',N',rfl,hR,⟨S',D',p',m0.trans m (fun _ _ x=>x) (fun k hk x=>(s k x).elim id (fun y=>by omega)),fun k hk=>(s1 k hk).elim (s k) (fun y => .inr (by omega)),fun k hk=>(d1 k hk).elim (d k) (fun y => .inr (by omega)),fun k hk=>?_⟩,fun k hk=>(n1 k hk).1,m.mono (fun k _ hk x=>hq k x hk)⟩
 rcases hk with hk | hk
 ·have q:=n k hk
  refine⟨q.1,Nat.lt_of_lt_of_le q.2.1 m.size,fun x=>?_,fun x=>?_⟩
  ·rcases s1 k x with y | y
   ·exact q.2.2.1 y
   ·omega
  ·rcases d1 k x with y | y
   ·exact q.2.2.2 y
   ·omega
 ·exact⟨by have:=(n1 k hk).1;omega,(n1 k hk).2⟩
theorem GI.calls (h:GI w S0 D0 w1 P N) (c:GS prog f args w1 P (Out w S0 N) r P'):Calls prog f args w1 fun e w'=>e = .returned r∧GI w S0 D0 w' P' N∧ae (fun k=>¬ Out w S0 N k) w1 w':=by
 refine (GI.call h c).mono ?_
 rintro e w' ⟨v,P1,N1,rfl,⟨rfl,rfl,_⟩,g,_,m⟩
 exact⟨rfl,g.less (fun k hk => .inl hk),m⟩
def Hq (w:World) (S D:Nat→Prop) (w':World) (P':FP):Prop:=∃ S' D',P' w' S' D'∧ae S w w'∧(∀ k,S' k→S k∨w.heap.size≤k)∧(∀ k,D' k→D k∨w.heap.size≤k)
theorem GI.done (h:GI w S0 D0 w1 P N):Hq w S0 D0 w1 P:=by
 obtain⟨S,D,p,m0,s,d,n⟩:=h
 exact⟨S,D,p,m0,s,d⟩
theorem GS.walk {Q:Nat→Prop} (h:∀ S D,P w S D→(∀ k,Q k→¬ S k)→Calls prog f args w fun e w'=>e = .returned r∧Hq w S D w' P'):GS prog f args w P Q r P':=GS.of h
end
end Go.Gl
namespace Go.Proofs.YtglkmaalpammcaaGreat
open Go.Gl Go.RowKit
theorem sV {kind a b:Nat} (w:World) (ha:a≤18446744073709551615) (hb:b≤18446744073709551615):Calls Tryz.prog 144 #[.int .i64 (kind:Nat),.int .u64 (a:Nat),.int .u64 (b:Nat)] w fun e w'=>∃ v,e = .returned v∧Gl.Own w' v (gp kind a b)∧ae ai w w'∧aF w v:=by
 have M:=lh (zu kind a b w ha hb)
 generalize (if (fE (kind:Nat) a b).isSome=true then (0:Int) else 70)=en at M
 clear ha hb
 go_enter Tryz.func144,Tryz.ntmps144
 go_wp2_with fail
 refine M.out.mono ?_
 rintro e w1 ⟨v,rfl,o,m,f⟩
 have O:=lh (And.intro o (And.intro m f))
 clear o m f M
 go_wp2
 go_ret
 exact⟨_,rfl,O.out⟩
theorem oK {w:World}{S0 N:Nat→Prop}{v:Value}{xs:List UInt8} (h:∀ k,dC v k→N k):Off (fun k=>¬ Out w S0 N k) v xs:=fun _ i hi x=>x (.inl (h i hi))
theorem Bj (kind a b:Nat):(gp kind a b).length≤1000000:=Nat.le_trans (Eb kind a b) (by omega)
theorem AY {L:List EV}{T:List (Nat × Nat)} (h:L.map EV.ent=qf T) (hT:∀ t∈T,sS t):zg L 10 (T.map (·.2)):=by
  refine⟨by have:=congrArg List.length h;simpa [qf] using this,fun i e he=>?_⟩
  have h1:=congrArg (fun l=>l[i]?) h
  simp only [qf,List.getElem?_map,he,Option.map_some] at h1
  cases ht:T[i]? with
  | none=>rw [ht] at h1;simp at h1
  | some t =>
    rw [ht] at h1
    simp only [Option.map_some,Option.some.injEq] at h1
    obtain⟨a,b⟩:=Prod.mk.inj h1
    have o:=hT t (List.mem_of_getElem? ht)
    exact⟨t.1,t.2,⟨o.1,o.2,.inl rfl⟩,a,by simp [ht]⟩
theorem yw {L:List EV}{V:List Nat} (h:L.map EV.ent=oC V) (hV:∀ v∈V,v≤18446744073709551615):zg L 11 V:=by
  refine⟨by have:=congrArg List.length h;simpa [oC] using this,fun i e he=>?_⟩
  have h1:=congrArg (fun l=>l[i]?) h
  simp only [oC,List.getElem?_map,he,Option.map_some] at h1
  cases ht:V[i]? with
  | none=>rw [ht] at h1;simp at h1
  | some v =>
    rw [ht] at h1
    simp only [Option.map_some,Option.some.injEq] at h1
    obtain⟨a,b⟩:=Prod.mk.inj h1
    exact⟨v,0,⟨hV v (List.mem_of_getElem? ht),by omega,.inr ⟨rfl,rfl⟩⟩,a,by simp⟩
section
variable {w:World}{sg n p:Nat}{F:List aN}{Q:Nat→Prop}
theorem pPut {v t:Nat} (hv:v≤18446744073709551615) (ht:t≤18446744073709551615) (hn:n≤1000000000000) (hp:p≤100000):GS Tryz.prog 61 #[.pointer (some ⟨sg,0,none⟩),.int .u64 ((v:Nat):Int),.int .u64 ((t:Nat):Int)] w (l7 sg F [] n p) Q (.tuple #[]) (l7 sg (jJ F (gp 10 t v) []) [] (n+1) (p+2)):=GS.walk fun S D kv hQ=>by
 have G0:=lh (GI.start kv)
 have K:=lh (fun W=>sV (kind:=10) (a:=t) (b:=v) W ht hv)
 clear kv hv ht
 go_enter Tryz.func61,Tryz.ntmps61
 go_wp2_with fail
 refine (K.out w).mono ?_
 rintro e w2 ⟨k,rfl,o2,m2,f2⟩
 have G2:=lh (G0.out.own nV m2 o2 f2)
 have C:=lh (G2.out.calls (DK o2.rd (Rd.nil _) (oK (fun i hi => .inr hi)) (fun h=>absurd rfl h) hn hp))
 clear o2 m2 f2 G0
 go_wp2_with fail
 refine C.out.mono ?_
 rintro e w3 ⟨rfl,g3,m3⟩
 have DD:=lh g3.done
 clear g3 m3 C G2
 go_wp2
 go_end0
 exact⟨rfl,DD.out⟩
theorem Ht {v t:Nat} (hv:v≤18446744073709551615) (ht:t≤18446744073709551615) (hn:n≤1000000000000) (hp:p≤100000):GS Tryz.prog 63 #[.pointer (some ⟨sg,0,none⟩),.int .u64 ((v:Nat):Int),.int .u64 ((t:Nat):Int)] w (l7 sg F [] n p) Q (.tuple #[]) (l7 sg (gJ F (gp 10 t v)) [] (n+1) (p+2)):=GS.walk fun S D kv hQ=>by
 have G0:=lh (GI.start kv)
 have K:=lh (fun W=>sV (kind:=10) (a:=t) (b:=v) W ht hv)
 clear kv hv ht
 go_enter Tryz.func63,Tryz.ntmps63
 go_wp2_with fail
 refine (K.out w).mono ?_
 rintro e w2 ⟨k,rfl,o2,m2,f2⟩
 have G2:=lh (G0.out.own nV m2 o2 f2)
 have C:=lh (G2.out.calls (ED o2.rd (oK (fun i hi => .inr hi)) (Bj ..) hn hp))
 clear o2 m2 f2 G0
 go_wp2_with fail
 refine C.out.mono ?_
 rintro e w3 ⟨rfl,g3,m3⟩
 have DD:=lh g3.done
 clear g3 m3 C G2
 go_wp2
 go_end0
 exact⟨rfl,DD.out⟩
def nT (F:List aN) (v:Nat) (on:Bool):List aN:=if on then jJ F (gp 11 v 0) [] else gJ F (gp 11 v 0)
theorem Cj {v:Nat}{on:Bool} (hv:v≤18446744073709551615) (hn:n≤1000000000000) (hp:p≤100000):GS Tryz.prog 65 #[.pointer (some ⟨sg,0,none⟩),.int .u64 ((v:Nat):Int),.bool on] w (l7 sg F [] n p) Q (.tuple #[]) (l7 sg (nT F v on) [] (n+1) (p+2)):=GS.walk fun S D kv hQ=>by
  have G0:=lh (GI.start kv)
  have K:=lh (fun W=>show Calls Tryz.prog 144 #[.int .i64 11,.int .u64 (v:Nat),.int .u64 0] W fun e w'=>∃ u,e = .returned u∧Gl.Own w' u (gp 11 v 0)∧ae ai W w'∧aF W u from sV (kind:=11) (a:=v) (b:=0) W hv (by omega))
  clear kv hv
  cases on with
  | true =>
    go_enter Tryz.func65,Tryz.ntmps65
    go_wp2_with fail
    refine (K.out w).mono ?_
    rintro e w2 ⟨k,rfl,o2,m2,f2⟩
    have G2:=lh (G0.out.own nV m2 o2 f2)
    have C:=lh (G2.out.calls (DK o2.rd (Rd.nil _) (oK (fun i hi => .inr hi)) (fun h=>absurd rfl h) hn hp))
    clear o2 m2 f2 G0
    go_wp2_with fail
    refine C.out.mono ?_
    rintro e w3 ⟨rfl,g3,m3⟩
    have DD:=lh g3.done
    clear g3 m3 C G2
    go_wp2
    go_end0
    exact⟨rfl,DD.out⟩
  | false =>
    go_enter Tryz.func65,Tryz.ntmps65
    go_wp2_with fail
    refine (K.out w).mono ?_
    rintro e w2 ⟨k,rfl,o2,m2,f2⟩
    have G2:=lh (G0.out.own nV m2 o2 f2)
    have C:=lh (G2.out.calls (ED o2.rd (oK (fun i hi => .inr hi)) (Bj ..) hn hp))
    clear o2 m2 f2 G0
    go_wp2_with fail
    refine C.out.mono ?_
    rintro e w3 ⟨rfl,g3,m3⟩
    have DD:=lh g3.done
    clear g3 m3 C G2
    go_wp2
    go_end0
    exact⟨rfl,DD.out⟩
def yY (sg:Nat) (F:List aN) (n p:Nat) (V:List Nat) (w':World) (v:Value) (P':FP) (N:Nat→Prop):Prop:=ON 22 w' v V∧(∃ n',n≤n'∧n'≤n+1+V.length∧P'=l7 sg F [] n' p)∧N=dC v
theorem Gg {w:World}{k:Int} (hk:k<1):Calls Tryz.prog 69 #[.pointer (some ⟨sg,0,none⟩),.int .i64 k] w fun e w'=>e = .returned (.slice none 0 0)∧ae ai w w':=by
 have M1:=lh ((ae.refl ai w).alloc (.cells #[.int .i64 k] 3))
 have hb:=aU w (.cells #[.int .i64 k] 3)
 have hc:=ag hb 0
 have hd:decide (k<1)=true:=decide_eq_true hk
 clear hb
 go_enter Tryz.func69,Tryz.ntmps69
 go_wp2
 go_ret
 exact⟨rfl,M1.out⟩
theorem pTop {k:Int}{T:List (Nat × Nat)} (ht:F.filter (fun e=>bF [105] e.1)=qf T) (hT:∀ t∈T,sS t) (hn:n≤1000000000000) (hp:p≤100000):GC Tryz.prog 69 #[.pointer (some ⟨sg,0,none⟩),.int .i64 k] w (l7 sg F [] n p) Q (yY sg F n p ((T.map (·.2)).take k.toNat)):=fun S D kv hQ=>by
 by_cases hk:k<1
 ·refine (Gg hk).mono ?_
  rintro e w' ⟨rfl,m⟩
  refine⟨_,_,_,rfl,⟨?_,⟨n,Nat.le_refl _,by omega,rfl⟩,rfl⟩,S,D,KV.keep kv m (fun _ _ x=>x) (fun _ _ x=>x),m.mono (fun _ _ x=>x.elim),fun _ => .inl,fun _ => .inl,fun k hk=>by simp [dC,Value.ownBlock] at hk⟩
  rw [show k.toNat=0 by omega,List.take_zero]
  exact fF.nil _ _ _
 ·obtain⟨mg,vo,R,jv,J,km,ok,rfl,hsn,hj,hpp,rfl,rfl⟩:=kv
  have hb:=nD ok
  rw [dW] at hb
  have tl:T.length≤p:=by
   have h1:=congrArg List.length ht
   simp only [qf,List.length_map] at h1
   have h2:=List.length_filter_le (fun e:aN=>bF [105] e.1) (aH R).flatten
   omega
  have sk:=km.lt
  have dk:=km.dlt
  refine (GV km (by omega) (by omega) ok (by omega) (by rw [List.length_map];omega) (AY (by rw [Bd ok,ht]) hT) (by omega)).mono ?_
  rintro e w' ⟨v,rfl,o,f,mm,c',c0,c1,km'⟩
  obtain⟨c2,rfl⟩:=Int.eq_ofNat_of_zero_le (show 0≤c' by omega)
  refine⟨v,_,_,rfl,⟨o,⟨c2,by omega,by omega,rfl⟩,rfl⟩,_,_,⟨mg,vo,R,jv,J,km',ok,rfl,hsn,hj,hpp,rfl,rfl⟩,mm.mono (fun k _ hk=>by subst hk;exact .inl rfl),fun _ => .inl,fun _ => .inl,fun k hk=>⟨(f k hk).1,(f k hk).2,fun x=>?_,fun x=>?_⟩⟩
  ·have:=sk k x;have:=f k hk;omega
  ·have:=dk k x;have:=f k hk;omega
theorem Az {V:List Nat} (ht:F.filter (fun e=>bF [98] e.1)=oC V) (hV:∀ v∈V,v≤18446744073709551615) (hn:n≤1000000000000) (hp:p≤100000):GC Tryz.prog 71 #[.pointer (some ⟨sg,0,none⟩)] w (l7 sg F [] n p) Q (yY sg F n p V):=fun S D kv hQ=>by
 obtain⟨mg,vo,R,jv,J,km,ok,rfl,hsn,hj,hpp,rfl,rfl⟩:=kv
 have hb:=nD ok
 rw [dW] at hb
 have tl:V.length≤p:=by
  have h1:=congrArg List.length ht
  simp only [oC,List.length_map] at h1
  have h2:=List.length_filter_le (fun e:aN=>bF [98] e.1) (aH R).flatten
  omega
 have sk:=km.lt
 have dk:=km.dlt
 refine (BL km (by omega) (by omega) ok (by omega) (by omega) (yw (by rw [Bd ok,ht]) hV)).mono ?_
 rintro e w' ⟨v,rfl,o,f,mm,c',c0,c1,km'⟩
 obtain⟨c2,rfl⟩:=Int.eq_ofNat_of_zero_le (show 0≤c' by omega)
 refine⟨v,_,_,rfl,⟨o,⟨c2,by omega,by omega,rfl⟩,rfl⟩,_,_,⟨mg,vo,R,jv,J,km',ok,rfl,hsn,hj,hpp,rfl,rfl⟩,mm.mono (fun k _ hk=>by subst hk;exact .inl rfl),fun _ => .inl,fun _ => .inl,fun k hk=>⟨(f k hk).1,(f k hk).2,fun x=>?_,fun x=>?_⟩⟩
 ·have:=sk k x;have:=f k hk;omega
 ·have:=dk k x;have:=f k hk;omega
end
end Go.Proofs.YtglkmaalpammcaaGreat
namespace Go.Proofs.YtglkmaalpammcaaGreat
open Go.Gl Go.RowKit
section
variable {x0 x1 x2 x3 x4 x5 x6 x7 x8 x9 aW bn bi aZ aP aQ aS aT aX aY bD bC bG bH bJ bQ bP bM bK bV bW cZ dh dn dw di dm dK dE:Value}{df:List Deferred}{Q:Exit→Act→World→Prop}
theorem rt7 {w:World}{n x kb:Nat}{vo:Value}{pcs:List Value} (hr:aO w 22 1 vo n pcs) (qk:w.cell? ⟨kb,2,none⟩=some (.int .u64 ((x:Nat):Int))) (hn:n≤100000000)
  (hK:∀ (kK mi mF lI y37:Value) (v8:Value) (w':World),aO w' 22 1 v8 (n+1) (pcs ++ [.int .u64 ((x:Nat):Int)])→ae (dC vo) w w'→(v8.ownBlock=vo.ownBlock∨aF w v8)→Q .normal ⟨#[x0,x1,x2,x3,x4,v8,x6,x7,.pointer (some ⟨kb,0,none⟩),x9,aW,bn,bi,aZ,aP,aQ,aS,aT,aX,aY,bD,bC,bG,bH,bJ,bQ,bP,bM,bK,bV,bW,cZ,dh,kK,mi,mF,lI,y37,dE],df⟩ w'):RW Tryz.prog (aJ 7 Tryz.f70) false Q ⟨#[x0,x1,x2,x3,x4,vo,x6,x7,.pointer (some ⟨kb,0,none⟩),x9,aW,bn,bi,aZ,aP,aQ,aS,aT,aX,aY,bD,bC,bG,bH,bJ,bQ,bP,bM,bK,bV,bW,cZ,dh,dn,dw,di,dm,dK,dE],df⟩ w:=by
 have HQ:=lh hK
 clear hK
 have HR:=lh hr
 clear hr
 have MR:=lh (ae.refl ai w)
 refine bU [(0,false),(1,false),(2,false),(3,false),(4,false),(5,false)] (by kernel_rfl) ?_
 refine az [0,1] [vo,af kb 2] rfl (by kernel_rfl) (by kernel_rfl) (.inr trivial) ?_
 refine aC (.int .u64 ((x:Nat):Int)) _ (some 35) (ki (by kernel_rfl)) (aG (x:=(.tmp 34)) (by kernel_rfl) (by kernel_rfl) (aI ((fun _=>qk) (trivial)) Tryz.underlying22 rfl)) (fun _=>trivial) ?_
 refine gK (.cells #[.int .u64 ((x:Nat):Int)] 22) 1 (some 36) (ki (by kernel_rfl)) (by kernel_rfl) ?_
 intro k1 w_k1 hk_k1 hO_k1 hm_k1 hl_k1
 have MZ:=MR.out.size
 replace MR:=lh (MR.out.then0 hm_k1)
 refine⟨fun _=>trivial,?_⟩
 obtain⟨inf,hi,hz,hs,hby⟩:=info_parts qO
 obtain⟨v8,w8,hr8,o8,m8,f8⟩:=iE (P:=Tryz.prog) 63 63 63 22 22 inf (.int .u64 0) Tryz.underlying63 Tryz.underlying63 hi hz (by rw [hs];rfl) (by rw [hs];exact HR.out.keep MR.out (fun _ _ x=>x)) (m:=1) (ys:=[.int .u64 ((x:Nat):Int)]) (by rw [hs];exact aO.rd (pR hO_k1)) (by intro y hy;simp at hy;rw [hy];rfl) (by unfold maxLen;omega) (by rw [hby];omega)
 rw [hs] at o8
 refine aC v8 w8 (some 37) (ki (by kernel_rfl)) (of_append (x:=(.tmp 33)) (y:=(.tmp 36)) (by kernel_rfl) (by kernel_rfl) (by kernel_rfl) hr8) (fun _=>trivial) ?_
 have m78:=hm_k1.trans m8 (U:=dC vo) (fun _ _ x=>x.elim) (fun _ _ x=>x)
 have f9:=f8.imp (fun x=>x) (fun h=>h.of hm_k1.size)
 refine az [5] [v8] rfl (by kernel_rfl) (by kernel_rfl) (.inr trivial) ?_
 exact aA (bg (K:=Q .normal) (by kernel_rfl) (HQ.out (vo) (af kb 2) (.int .u64 ((x:Nat):Int)) (.slice (some ⟨k1,0,none⟩) 1 1) (v8) v8 w8 o8 m78 f9))
theorem rb7 {w:World}{n x kb:Nat}{vo:Value}{pcs:List Value} (hr:aO w 22 1 vo n pcs) (qk:w.cell? ⟨kb,1,none⟩=some (.int .u64 ((x:Nat):Int))) (hn:n≤100000000)
  (hK:∀ (jo kH jT jU kJ:Value) (v8:Value) (w':World),aO w' 22 1 v8 (n+1) (pcs ++ [.int .u64 ((x:Nat):Int)])→ae (dC vo) w w'→(v8.ownBlock=vo.ownBlock∨aF w v8)→Q .normal ⟨#[x0,x1,x2,v8,x4,x5,.pointer (some ⟨kb,0,none⟩),x7,x8,x9,aW,bn,bi,aZ,aP,aQ,aS,aT,aX,aY,bD,bC,bG,bH,bJ,bQ,jo,kH,jT,jU,kJ,cZ],df⟩ w'):RW Tryz.prog (aJ 7 Tryz.f72) false Q ⟨#[x0,x1,x2,vo,x4,x5,.pointer (some ⟨kb,0,none⟩),x7,x8,x9,aW,bn,bi,aZ,aP,aQ,aS,aT,aX,aY,bD,bC,bG,bH,bJ,bQ,bP,bM,bK,bV,bW,cZ],df⟩ w:=by
 have HQ:=lh hK
 clear hK
 have HR:=lh hr
 clear hr
 have MR:=lh (ae.refl ai w)
 refine bU [(0,false),(1,false),(2,false),(3,false),(4,false),(5,false)] (by kernel_rfl) ?_
 refine az [0,1] [vo,af kb 1] rfl (by kernel_rfl) (by kernel_rfl) (.inr trivial) ?_
 refine aC (.int .u64 ((x:Nat):Int)) _ (some 28) (ki (by kernel_rfl)) (aG (x:=(.tmp 27)) (by kernel_rfl) (by kernel_rfl) (aI ((fun _=>qk) (trivial)) Tryz.underlying22 rfl)) (fun _=>trivial) ?_
 refine gK (.cells #[.int .u64 ((x:Nat):Int)] 22) 1 (some 29) (ki (by kernel_rfl)) (by kernel_rfl) ?_
 intro k1 w_k1 hk_k1 hO_k1 hm_k1 hl_k1
 have MZ:=MR.out.size
 replace MR:=lh (MR.out.then0 hm_k1)
 refine⟨fun _=>trivial,?_⟩
 obtain⟨inf,hi,hz,hs,hby⟩:=info_parts qO
 obtain⟨v8,w8,hr8,o8,m8,f8⟩:=iE (P:=Tryz.prog) 63 63 63 22 22 inf (.int .u64 0) Tryz.underlying63 Tryz.underlying63 hi hz (by rw [hs];rfl) (by rw [hs];exact HR.out.keep MR.out (fun _ _ x=>x)) (m:=1) (ys:=[.int .u64 ((x:Nat):Int)]) (by rw [hs];exact aO.rd (pR hO_k1)) (by intro y hy;simp at hy;rw [hy];rfl) (by unfold maxLen;omega) (by rw [hby];omega)
 rw [hs] at o8
 refine aC v8 w8 (some 30) (ki (by kernel_rfl)) (of_append (x:=(.tmp 26)) (y:=(.tmp 29)) (by kernel_rfl) (by kernel_rfl) (by kernel_rfl) hr8) (fun _=>trivial) ?_
 have m78:=hm_k1.trans m8 (U:=dC vo) (fun _ _ x=>x.elim) (fun _ _ x=>x)
 have f9:=f8.imp (fun x=>x) (fun h=>h.of hm_k1.size)
 refine az [5] [v8] rfl (by kernel_rfl) (by kernel_rfl) (.inr trivial) ?_
 exact aA (bg (K:=Q .normal) (by kernel_rfl) (HQ.out (vo) (af kb 1) (.int .u64 ((x:Nat):Int)) (.slice (some ⟨k1,0,none⟩) 1 1) (v8) v8 w8 o8 m78 f9))
end
end Go.Proofs.YtglkmaalpammcaaGreat
namespace Go.Proofs.YtglkmaalpammcaaGreat
open Go.Gl Go.RowKit
def xw:List UInt8:=[7,0,0,1,2,1,2,1,0,0,0,0,2,97,98]
def KW (w:World) (g:Nat) (xs:List UInt8) (wx:World):Prop:=∃ v,Wr wx g v xs 0∧(∀ k,v.ownBlock=some k→w.heap.size≤k)∧ae ai w wx∧w.heap.size≤g
theorem KW.start (w wx:World) (hm:ae ai w wx):KW w wx.heap.size [] (wx.alloc (.cells #[.slice none 0 0,.int .i64 0] 311)) :=
 ⟨.slice none 0 0,⟨aU _ _,Gl.Own.nil _,by simp [Value.ownBlock]⟩,fun k hk=>by simp [Value.ownBlock] at hk,hm.alloc _,hm.size⟩
theorem KW.step {w wx wy:World}{g:Nat}{xs ys:List UInt8}{v v':Value} (hf:∀ k,v.ownBlock=some k→w.heap.size≤k) (hm:ae ai w wx) (hg:w.heap.size≤g) (h:gB wx g v ys 0 wy v'):KW w g ys wy:=by
 refine⟨v',h.wr,?_,hm.trans h.mods (fun _ _ x=>x) (fun i hi x=>?_),hg⟩
 ·intro k hk
  rcases h.blk with hb | hb
  ·exact hf k (hb▸hk)
  ·exact Nat.le_trans hm.size (hb k hk)
 ·rcases x with x | x
  ·omega
  ·exact absurd hi (Nat.not_lt.2 (hf i x))
theorem KW.then0 {w wx wy:World}{g:Nat}{xs:List UInt8} (h:KW w g xs wx) (hm:ae ai wx wy):KW w g xs wy:=by
 obtain⟨v,h1,h2,h3,h4⟩:=h
 exact⟨v,h1.then0 hm,h2,h3.then0 hm,h4⟩
theorem KW.mods {w wx:World}{g:Nat}{xs:List UInt8} (h:KW w g xs wx):ae ai w wx:=by
 obtain⟨v,h1,h2,h3,h4⟩:=h
 exact h3
theorem KW.u8 {w wx:World}{g:Nat}{xs:List UInt8} (h:KW w g xs wx) (x:Nat) (hx:x≤255) (hl:xs.length≤1000) :
  Calls Tryz.prog 309 #[.pointer (some ⟨g,0,none⟩),.int .u8 x] wx fun r w'=>r = .returned (.tuple #[])∧KW w g (xs ++ be 1 x) w':=by
 obtain⟨v,h1,h2,h3,h4⟩:=h
 exact (IY x h1 hx (by omega)).mono fun r w' ⟨hr,v',hs⟩=>⟨hr,KW.step (xs:=xs) h2 h3 h4 hs⟩
theorem KW.u64 {w wx:World}{g:Nat}{xs:List UInt8} (h:KW w g xs wx) (x:Nat) (hx:x≤18446744073709551615) (hl:xs.length≤1000) :
  Calls Tryz.prog 258 #[.pointer (some ⟨g,0,none⟩),.int .u64 x] wx fun r w'=>r = .returned (.tuple #[])∧KW w g (xs ++ be 8 x) w':=by
 obtain⟨v,h1,h2,h3,h4⟩:=h
 exact (EQ x h1 hx (by omega)).mono fun r w' ⟨hr,v',hs⟩=>⟨hr,KW.step (xs:=xs) h2 h3 h4 hs⟩
theorem KW.out {w wx:World}{g:Nat}{xs:List UInt8} (h:KW w g xs wx) (hl:xs.length≤1000) :
  Calls Tryz.prog 219 #[.pointer (some ⟨g,0,none⟩)] wx fun r w'=>∃ u,r = .returned (.tuple #[u,.int .i64 0])∧Gl.Own w' u xs∧ae ai w w'∧aF w u:=by
 obtain⟨v,h1,h2,h3,h4⟩:=h
 refine (Ha h1 (by omega)).mono ?_
 rintro r w' ⟨u,rfl,ho,hm,hf⟩
 exact⟨u,rfl,ho,h3.then0 hm,hf.of h3.size⟩
end Go.Proofs.YtglkmaalpammcaaGreat
namespace Go.Proofs.YtglkmaalpammcaaGreat
open Go.Gl Go.RowKit
def ptr (B:Nat) (o:Nat):Value := .pointer (some ⟨B,o,none⟩)
structure TW (w:World) (g B:Nat) (v:Value) (cur:Array Value) (T:TypeId) (sl:Value) (os:List Nat):Prop where
 wr:∃ xs,Wr w g v xs 0
 box:w.heap[B]?=some (.cells cur T (0,0))
 ne:¬ WS g v B
 rd:jd (ptr B) w sl os
 sb:∀ k,sl.ownBlock=some k→k<w.heap.size∧¬ WS g v k
theorem Hz {w:World}{g:Nat}{v:Value}{xs:List UInt8}{e:Int} (h:Wr w g v xs e) {k:Nat} (hk:WS g v k):k<w.heap.size:=by
 rcases hk with rfl | hk
 ·exact h.lt
 ·exact h.own.lt k hk
end Go.Proofs.YtglkmaalpammcaaGreat
namespace Go.Proofs.YtglkmaalpammcaaGreat
open Go.Gl Go.RowKit
def uv (x:Nat):Value := .int .u64 x
def dst:Nat→oM→oM
 | 0,s=>s
 | k+1,s=>natT (dst k s)
end Go.Proofs.YtglkmaalpammcaaGreat
namespace Go.Proofs.YtglkmaalpammcaaGreat
open Go.Gl Go.RowKit
structure WB0 (w:World) (g B:Nat) (v0:Value) (cur:Array Value) (T:TypeId):Prop where
 wr:∃ xs,Wr w g v0 xs 0
 box:w.heap[B]?=some (.cells cur T (0,0))
 ne:¬ WS g v0 B
structure WF (w:World) (g tb:Nat) (v0:Value) (xs:List UInt8) (wx:World):Prop where
 st:∃ v',gB w g v0 xs 0 wx v'∧¬ WS g v' tb
 tbx:wx.heap[tb]?=some (.cells #[.pointer (some ⟨g,0,none⟩),.pointer none] 314 (0,0))
 new:w.heap.size≤tb
theorem gB.ws {w wx:World}{g:Nat}{v0 v1:Value}{xs ys:List UInt8} (h:gB w g v0 xs 0 wx v1) {k:Nat} (hk:WS g v1 k):WS g v0 k∨w.heap.size≤k:=by
 rcases hk with rfl | hk
 ·exact .inl (.inl rfl)
 ·rcases h.blk with hb | hb
  ·exact .inl (.inr (hb▸hk))
  ·exact .inr (hb k hk)
variable {w wx wy:World}{g B tb:Nat}{v0:Value}{xs:List UInt8}{cur:Array Value}{T:TypeId}
theorem WF.start (h:Wr w g v0 xs 0):WF w g w.heap.size v0 xs (w.alloc (.cells #[.pointer (some ⟨g,0,none⟩),.pointer none] 314)) :=
 ⟨⟨v0,⟨h.then0 ((ae.refl ai w).alloc _),(ae.refl _ w).alloc _,.inl rfl⟩,fun x=>by have:=Hz h x;omega⟩,aU _ _,Nat.le_refl _⟩
theorem WF.c (h:WF w g tb v0 xs wx) (o:Nat):wx.cell? ⟨tb,o,none⟩=(#[.pointer (some ⟨g,0,none⟩),.pointer none]:Array Value)[o]?:=ag h.tbx o
theorem WF.lt (h:WF w g tb v0 xs wx):tb<wx.heap.size:=lt_of_heap h.tbx
theorem WF.at (h:WF w g tb v0 xs wx) (hm:ae ai wx wy):∃ v1,gB w g v0 xs 0 wy v1∧gB w g v0 xs 0 wx v1∧∀ ys w' v2,gB wy g v1 ys 0 w' v2→WF w g tb v0 ys w':=by
 obtain⟨⟨v1,h1,h4⟩,h2,h3⟩:=h
 have hy:gB w g v0 xs 0 wy v1:=⟨h1.wr.then0 hm,h1.mods.then0 hm,h1.blk⟩
 refine⟨v1,hy,h1,fun ys w' v2 s=>⟨⟨v2,hy.trans s,fun x=>?_⟩,s.mods.heap (hm.heap h2 (fun x=>x)) h4,h3⟩⟩
 rcases x with x | x
 ·exact h4 (.inl x)
 ·rcases s.blk with hb | hb
  ·exact h4 (.inr (hb▸x))
  ·have:=hb _ x
   have:=lt_of_heap h2
   have:=hm.size
   omega
theorem WF.tw (h:WF w g tb v0 xs wx) (b:WB0 w g B v0 cur T) (hm:ae ai wx wy) {k n:Nat}{os:List Nat} (hk:wx.heap.size≤k) (hkl:k<wy.heap.size) (hp:jd (ptr B) wy (.slice (some ⟨k,0,none⟩) n n) os) :
  ∃ v1,Wr wy g v1 xs 0∧gB w g v0 xs 0 wx v1∧TW wy g B v1 cur T (.slice (some ⟨k,0,none⟩) n n) os∧∀ ys w' v2,gB wy g v1 ys 0 w' v2→WF w g tb v0 ys w':=by
 obtain⟨v1,hy,hx,hn⟩:=h.at hm
 have hB:=lt_of_heap b.box
 refine⟨v1,hy.wr,hx,⟨⟨xs,hy.wr⟩,hy.mods.heap b.box b.ne,fun x=>?_,hp,fun i hi=>?_⟩,hn⟩
 ·rcases hy.ws (ys:=xs) x with x | x
  ·exact b.ne x
  ·omega
 ·obtain rfl:k=i:=by simpa [Value.ownBlock] using hi
  exact⟨hkl,fun x=>by have:=Hz hx.wr x;omega⟩
variable {s:oM}{ds:List (Value × List Nat)}
end Go.Proofs.YtglkmaalpammcaaGreat

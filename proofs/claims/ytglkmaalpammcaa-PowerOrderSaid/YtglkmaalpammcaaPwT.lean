/- power.Top, Bonded: the numbers under a beginning, in new memory. -/
import Derived.Test.YtglkmaalpammcaaPw0
import Derived.Test.YtglkmaalpammcaaPwP
import Derived.Test.YtglkmaalpammcaaStI1
import Derived.Test.YtglkmaalpammcaaZD
import Derived.Test.YtglkmaalpammcaaKRead
import Derived.Test.YtglkmaalpammcaaNLib
set_option maxHeartbeats 64000000
namespace Go.Proofs.Ytglkmaalpammcaa
open Go.Gl Go.RowKit
set_option linter.unusedVariables false
set_option maxRecDepth 100000
def ul (w:World) (ob:Nat) (V:List Nat) (B:Nat→Prop) (i:Nat):FP:=fun W S D=>∃ v,W.heap[ob]?=some (.cells #[v] 48 (0,0))∧ON 22 W v (V.take i)∧(∀ k,S k↔k=ob∨v.ownBlock=some k)∧(∀ k,¬ D k)∧w.heap.size≤ob∧(∀ k,v.ownBlock=some k→w.heap.size≤k∧k<W.heap.size∧k≠ob)∧B i
def PwX (w:World) (ob:Nat) (V:List Nat) (B:Nat→Prop) (c:Code) (i:Nat):FP:=fun W S D=>c=Code.exit 0∧ul w ob V B i W S D
theorem uT (w:World) (ob:Nat) (V:List Nat) (B:Nat→Prop) (i:Nat):gG (ul w ob V B i):=by
 constructor
 ·rintro W S D ⟨v,h1,h2,hs,hd,ho,h3,h4⟩
  exact⟨fun k hk=>by
   rcases (hs k).1 hk with rfl | x
   ·exact lt_of_heap h1
   ·exact (h3 k x).2.1,fun k hk=>(hd k hk).elim⟩
 ·rintro W W' S D U ⟨v,h1,h2,hs,hd,ho,h3,h4⟩ m a b
  exact⟨v,m.heap h1 (a _ ((hs _).2 (.inl rfl))),dR.keep h2 m (fun k hk=>a k ((hs k).2 (.inr hk))),hs,hd,ho,fun k hk=>⟨(h3 k hk).1,Nat.lt_of_lt_of_le (h3 k hk).2.1 m.size,(h3 k hk).2.2⟩,h4⟩
theorem Cm (w:World) (ob:Nat) (V:List Nat) (B:Nat→Prop) (c:Code) (i:Nat):gG (PwX w ob V B c i) :=
 ⟨fun⟨_,x⟩=>(uT w ob V B i).lt x,fun⟨a,x⟩ m p q=>⟨a,(uT w ob V B i).keep x m p q⟩⟩
def PwT (L:List EV) (kd:Nat) (V:List Nat):Prop:=L.length=V.length∧∀ (i:Nat) (e:EV),L[i]?=some e→∃ a b,qI kd a b∧e.k=fA kd a b∧V[i]?=some (if kd=10 then b else a)
theorem vC {V:List Nat}{i x:Nat} (h:V[i]?=some x):V.take (i+1)=V.take i ++ [x]:=by rw [List.take_add_one,h];rfl
theorem BV {w:World}{sg mg:Nat}{n:Int}{vo jv:Value}{R:List PV}{J:List JV}{c:Int}{V:List Nat} (km:KM w sg mg vo R jv J c) (h0:0≤c) (h1:c≤4000000000000000000) (ok:fH (aB R)) (hn:R.length≤1000000) (hl:V.length≤1000000) (tok:PwT (lu R [105]) 10 V) (hn1:1≤n) :
  Calls Try.prog 27 #[.pointer (some ⟨sg,0,none⟩),.int .i64 n] w fun e w'=>∃ v,e = .returned v∧ON 22 w' v (V.take n.toNat)∧(∀ k,v.ownBlock=some k→w.heap.size≤k∧k<w'.heap.size)∧ae (fun k=>k=sg) w w'∧∃ c',c≤c'∧c'≤c+1+((V.take n.toNat).length:Int)∧KM w' sg mg vo R jv J c':=by
 have hks:=km.lt
 have hkd:=km.dlt
 have hLn:=tok.1
 have tok2:=tok.2
 obtain⟨BB,hBB⟩:∃ BB:Nat→Prop,BB=(fun i:Nat=>((i:Nat):Int)<n):=⟨_,rfl⟩
 generalize hLL:lu R [105]=LL at *
 (refine kG _ Try.func27 rfl ?_;simp only [Try.ntmps27,List.size_toArray,List.length_cons,List.length_nil,Nat.reduceAdd,Nat.reduceSub,Array.replicate_succ,Array.replicate_zero,List.push_toArray,List.append_toArray,List.nil_append,List.cons_append])
 refine wpIn_seq ?_
 refine bP (d := .region 0 (aJ 0 Try.f27) false) (by kernel_rfl) ?_
 refine RW.wpIn (pt0 ?_) (by kernel_rfl)
 intro hb w00 hhb hH m00
 refine bG ?_
 refine wpIn_seq ?_
 refine wpIn_seq ?_
 refine bP (d := .region 1 (aJ 1 Try.f27) false) (by kernel_rfl) ?_
 refine RW.wpIn (pt1 (B:=false) (ai hH 0) (decide_eq_false (by omega)) ?_) (by kernel_rfl)
 intros
 rename_i w0 e0
 subst e0
 have m0:=m00
 refine bG ?_
 refine wpIn_cond_false rfl ?_
 refine wpIn_skip ?_
 refine bG ?_
 refine wpIn_seq ?_
 refine bP (d := .region 3 (aJ 3 Try.f27) false) (by kernel_rfl) ?_
 refine RW.wpIn (pt3 ?_) (by kernel_rfl)
 intro ob w1 hob hO m01
 refine bG ?_
 have m1:=m0.then0 m01
 refine wpIn_seq ?_
 refine bP (d := .region 4 (aJ 4 Try.f27) false) (by kernel_rfl) ?_
 refine RW.wpIn (pt4 (X:=fun v w'=>Gl.Own w' v [105]∧ae aj w1 w'∧aI w1 v) ((zT 10 w1).mono (fun e w' ⟨v,he,o,m,f⟩=>⟨v,_,he,o,m,f⟩)) ?_) (by kernel_rfl)
 intros
 rename_i hv w2 hx2
 obtain⟨oh,m2,fh⟩:=hx2
 refine bG ?_
 refine wpIn_seq ?_
 refine wpIn_seq ?_
 have m12:=m1.then0 m2
 have hO2:=m2.heap hO (fun x=>x)
 have km2:=km.keep0 m12
 refine bP (d := .region 5 (aJ 5 Try.f27) false) (by kernel_rfl) ?_
 refine RW.wpIn (pt5 (X:=fun lb w'=>uM w2 w' sg mg vo R LL lb)
  ((qG km2 oh.rd (by simp) ok hn).mono (fun e w' ⟨b1,b2,he,hg⟩=>⟨_,he,by rw [← hLL];exact hg⟩)) ?_) (by kernel_rfl)
 intros
 rename_i lb w4 hy
 obtain⟨m3,U0,it,hU0⟩:=hy
 refine bG ?_
 have m24:=m3
 have m14:=m2.then0 m24
 have m4:=m12.then0 m24
 have km4:=km.keep0 m4
 have hO4:=m24.heap hO2 (fun x=>x)
 have sgl:=hks sg (.inl rfl)
 have hol:=lt_of_heap hO
 have s0:=m0.size
 have s1:=m01.size
 have s2:=m2.size
 have s3:=m3.size
 have it4:=it w4 (ae.refl _ _)
 have U0l:∀ k,U0 k→k<w4.heap.size:=fun k hk=>by have:=(hU0 k hk).1;omega
 refine wpIn_block ?_
 refine tu (by rfl) (enters_of Try.func120 (by kernel_rfl) rfl) (U0:=U0) (sg:=sg) it4 (fun A C t=>t.mods) (ae.refl _ _) U0l (nD _ _) (fun i U args W1 hA=>by obtain⟨e,kv,vv,_,rfl,_⟩:=hA;rfl)
  (T:=fun j W=>KM W sg mg vo R jv J (c+(j:Nat))) (Qt:=fun k=>KS sg mg vo R jv J k∨KD R J k) (ul w0 ob V BB) (fun c i=>PwX w0 ob V (fun i:Nat=>((i:Nat):Int)=n) c i) (uT w0 ob V BB) (fun _ _=>Cm ..) (fun j A B X t m hx=>t.keep m (fun k hk x=>hx k x (.inl hk)) (fun k hk x=>hx k x (.inr hk))) (fun k hk=>?_) (fun j A hj t=>?_) (.inl (.inl rfl))
  (S0:=fun k=>k=ob) (D0:=fun _=>False) (by simpa using km4) ⟨.slice none 0 0,hO4,dR.nil _ _ _,fun k=>by simp [Value.ownBlock],fun _ x=>x,by omega,fun k hk=>by simp [Value.ownBlock] at hk,by rw [hBB];omega⟩ ?_ (fun _ x=>x.elim) ?_ ?_ ?_
 ·rcases hk with x | x
  ·have:=hks k x;omega
  ·have:=hkd k x;omega
 ·rw [hLn] at hj
  refine⟨t.okS (by omega) (by omega),fun B tt=>?_⟩
  have:=t.tickR tt
  rw [show c+((j+1:Nat):Int)=c+(j:Int)+1 by omega]
  exact this
 ·rintro k rfl
  refine⟨?_,?_⟩
  ·rintro (x | x)
   ·have:=hks _ x;omega
   ·have:=hkd _ x;omega
  ·intro x
   rcases (hU0 _ x).2.2 with y | y | y
   ·have:=hks _ (.inr (.inl y));omega
   ·have:=hkd _ (.inl y);omega
   ·omega
 ·intro l i U args W S D hlp hi hT hr hA hS hD hab hUl hlW hW hm
  obtain⟨e,kv,vv,hei,rfl,o1,o2,u1,u2,dd,b1,b2⟩:=hA
  obtain⟨ka0,kb0,hpk,hek,hVi⟩:=tok2 i e hei
  rw [hLn] at hi
  simp only [iD,List.setIfInBounds_toArray,List.set_cons_succ,List.set_cons_zero]
  refine bP (d := .region 6 (aJ 6 Try.f27) false) (by kernel_rfl) ?_
  refine RW.wpIn (pt6 ?_) (by kernel_rfl)
  intros
  rename_i w5 e5
  subst e5
  refine bG ?_
  refine⟨ae.refl _ _,fun W2 m7 hr2=>?_⟩
  clear hr
  have o17:=o1.keep m7 (fun k hk x=>u1 k hk (x▸hUl))
  refine wpIn_block ?_
  refine wpIn_seq ?_
  refine bP (d := .region 7 (aJ 7 Try.f27) false) (by kernel_rfl) ?_
  refine RW.wpIn (pt7 (X:=fun kk a b w'=>(∃ n,jm e.k kk a b n)∧ae aj W2 w') ((tV o17.rd).mono (fun r w' ⟨kk,a,b,n,hr,hg,hm⟩=>⟨kk,a,b,_,hr,⟨n,hg⟩,hm⟩)) ?_) (by kernel_rfl)
  intros
  rename_i kk ka kb kq wc w8 hx hkq hK8 mc8
  obtain⟨⟨kn,hkr⟩,mWc⟩:=hx
  obtain⟨rfl,rfl,rfl,_⟩:=jm.same hkr (show jm e.k (10:Nat) ka0 kb0 0 from by rw [hek];exact .inl ⟨rfl,su hpk,hpk.1,hpk.2.1,by omega,by omega⟩)
  refine bG ?_
  have m28:=mWc.then0 mc8
  have z7:=m7.size
  have z8:=m28.size
  obtain⟨v,q1,q2,hs,hd,ho,q3,q4⟩:=hr2
  have q18:=m28.heap q1 (fun x=>x)
  have q28:=dR.keep q2 m28 (fun _ _ x=>x)
  have hlen:(V.take i).length≤100000000:=by rw [List.length_take];omega
  have hvo:¬ fK v ob:=fun x=>(q3 ob x).2.2 rfl
  have tkA:=vC hVi
  have obl:=lt_of_heap q1
  have hH2:=m28.heap (m7.heap (hm.heap (m24.heap (m2.heap (m01.heap hH (fun x=>x)) (fun x=>x)) (fun x=>x)) (fun x=>by have:=lt_of_heap hH;rcases x with x | x <;> omega)) (fun x=>by have:=lt_of_heap hH;omega)) (fun x=>x)
  refine wpIn_seq ?_
  refine bP (d := .region 8 (aJ 8 Try.f27) false) (by kernel_rfl) ?_
  refine RW.wpIn (pt8 q18 (ai hK8 2) q28 hlen hvo ?_) (by kernel_rfl)
  intros
  rename_i v8 w8' w9 o8 m8 f8 hw9
  subst hw9
  have m9:=(ae.refl (fun k=>k=ob) w8').setCell (p:=⟨ob,0,none⟩) (.inl rfl) v8
  have z8':=m8.size
  have z9:=m9.size
  have nv8:∀ k,v8.ownBlock=some k→w0.heap.size≤k∧k≠ob:=fun k hk=>by
   rcases f8 with x | x
   ·rw [x] at hk
    exact⟨(q3 k hk).1,(q3 k hk).2.2⟩
   ·have:=x k hk
    exact⟨by omega,by omega⟩
  have v8l:∀ k,v8.ownBlock=some k→k<w8'.heap.size:=fun k hk=>aU.lt o8 k hk
  have mA:ae S W2 (w8'.setCell ⟨ob,0,none⟩ v8):=(m28.trans m8 (U:=S) (fun _ _ x=>x.elim) (fun k _ x=>(hs k).2 (.inr x))).trans m9 (fun _ _ x=>x) (fun k _ x=>(hs k).2 (.inl x))
  have oA:ON 22 (w8'.setCell ⟨ob,0,none⟩ v8) v8 (V.take (i+1)):=by
   unfold ON dR
   rw [tkA,List.map_append,List.length_append]
   exact aU.keep o8 m9 (fun k hk e=>(nv8 k hk).2 e)
  have hA1:(w8'.setCell ⟨ob,0,none⟩ v8).heap[ob]?=some (.cells #[v8] 48 (0,0)):=heap_set (m8.heap q18 hvo) 0 v8
  have sA:∀ k,(k=ob∨v8.ownBlock=some k)→S k∨W2.heap.size≤k:=fun k hk=>by
   rcases hk with x | x
   ·exact .inl ((hs k).2 (.inl x))
   ·rcases f8 with y | y
    ·rw [y] at x
     exact .inl ((hs k).2 (.inr x))
    ·have:=y k x
     exact .inr (by omega)
  have pA:∀ B:Nat→Prop,B (i+1)→ul w0 ob V B (i+1) (w8'.setCell ⟨ob,0,none⟩ v8) (fun k=>k=ob∨v8.ownBlock=some k) (fun _=>False):=fun B hB=>⟨v8,hA1,oA,fun _=>Iff.rfl,fun _ x=>x,ho,fun k hk=>⟨(nv8 k hk).1,Nat.lt_of_lt_of_le (v8l k hk) z9,(nv8 k hk).2⟩,hB⟩
  refine bG ?_
  rw [hBB] at q4
  obtain⟨g9,off9,c9,rfl,_⟩:∃ g off c,v8 = .slice (some ⟨g,off,none⟩) (i+1) c∧True:=by
   rcases oA.2 with ⟨_,x⟩ | ⟨g,off,c,_,hv,_⟩
   ·rw [List.length_take] at x;have:=List.getElem?_eq_some_iff.1 hVi;obtain⟨y,_⟩:=this;omega
   ·exact⟨g,off,c,by rw [hv,List.length_take,Nat.min_eq_left (by have:=List.getElem?_eq_some_iff.1 hVi;obtain⟨y,_⟩:=this;omega)],trivial⟩
  have hH9:=m9.heap (m8.heap hH2 (fun x=>by have:=lt_of_heap hH;have:=(q3 _ x).1;omega)) (fun x=>by have y:hb=ob:=x;have:=lt_of_heap hH;omega)
  refine wpIn_seq ?_
  refine bP (d := .region 9 (aJ 9 Try.f27) false) (by kernel_rfl) ?_
  by_cases hgt:((i+1:Nat):Int)=n
  ·refine RW.wpIn (pt9 (B:=true) (ai hA1 0) (ai hH9 0) (decide_eq_true hgt) ?_) (by kernel_rfl)
   intros
   rename_i w11 e11
   subst e11
   refine bG ?_
   refine wpIn_cond_true rfl ?_
   refine wpIn_exit ?_
   repeat (first | refine wB ?_ | refine Cf (by decide) ?_)
   exact⟨_,rfl,_,_,⟨rfl,pA _ hgt⟩,mA,sA,fun k hk=>hk.elim⟩
  ·refine RW.wpIn (pt9 (B:=false) (ai hA1 0) (ai hH9 0) (decide_eq_false hgt) ?_) (by kernel_rfl)
   intros
   rename_i w11 e11
   subst e11
   refine bG ?_
   refine wpIn_cond_false rfl ?_
   refine wpIn_skip ?_
   refine iC ?_
   exact⟨ul w0 ob V BB (i+1),rfl,_,_,pA BB (by rw [hBB];omega),mA,sA,fun k hk=>hk.elim⟩
 ·intro Dd W S D hT hr hS hD hDd hm hdef
  obtain⟨v,q1,q2,hs,hd,ho,q3,q4⟩:=hr
  rw [hLn] at q2 q4 hT
  have e1:V.take V.length=V.take n.toNat:=by rw [List.take_of_length_le (Nat.le_refl _),List.take_of_length_le];rw [hBB] at q4;omega
  rw [e1] at q2
  refine iC ?_
  refine bG ?_
  refine wpIn_seq ?_
  refine bP (d := .region 10 (aJ 10 Try.f27) false) (by kernel_rfl) ?_
  refine RW.wpIn (pt10 (ai q1 0) ?_) (by kernel_rfl)
  intros
  rename_i wz ez
  subst ez
  refine bG ?_
  refine wpIn_ret ?_
  refine gQ hdef (results_tmp rfl _ _ _) ?_
  have mD:=dB wz Dd (.deferred none)
  refine⟨v,rfl,dR.keep q2 mD (fun k hk e=>(hS k ((hs k).2 (.inr hk))).2.1 e),fun k hk=>⟨Nat.le_trans s0 (q3 k hk).1,Nat.lt_of_lt_of_le (q3 k hk).2.1 mD.size⟩,?_,_,?_,?_,hT.keep mD (fun k hk e=>by have:=hks k hk;omega) (fun k hk e=>by have:=hkd k hk;omega)⟩
  ·exact (m4.trans hm (U:=fun k=>k=sg) (fun _ _ x=>x.elim) (fun k hk x=>by rcases x with x | x;omega;exact x)).trans mD (fun _ _ x=>x) (fun k hk x=>by omega)
  ·omega
  ·rw [← e1,List.length_take];omega
 ·rintro Dd cd i W S D hi hT ⟨rfl,hr⟩ hS hD hDd hm hdef
  rw [hLn] at hi
  obtain⟨v,q1,q2,hs,hd,ho,q3,q4⟩:=hr
  have e1:V.take (i+1)=V.take n.toNat:=by congr 1;omega
  rw [e1] at q2
  refine wpIn_exit ?_
  refine sS ?_
  refine bG ?_
  refine wpIn_seq ?_
  refine bP (d := .region 10 (aJ 10 Try.f27) false) (by kernel_rfl) ?_
  refine RW.wpIn (pt10 (ai q1 0) ?_) (by kernel_rfl)
  intros
  rename_i wz ez
  subst ez
  refine bG ?_
  refine wpIn_ret ?_
  refine gQ hdef (results_tmp rfl _ _ _) ?_
  have mD:=dB wz Dd (.deferred none)
  refine⟨v,rfl,dR.keep q2 mD (fun k hk e=>(hS k ((hs k).2 (.inr hk))).2.1 e),fun k hk=>⟨Nat.le_trans s0 (q3 k hk).1,Nat.lt_of_lt_of_le (q3 k hk).2.1 mD.size⟩,?_,_,?_,?_,hT.keep mD (fun k hk e=>by have:=hks k hk;omega) (fun k hk e=>by have:=hkd k hk;omega)⟩
  ·exact (m4.trans hm (U:=fun k=>k=sg) (fun _ _ x=>x.elim) (fun k hk x=>by rcases x with x | x;omega;exact x)).trans mD (fun _ _ x=>x) (fun k hk x=>by omega)
  ·omega
  ·rw [List.length_take];omega
theorem yM {w:World}{sg mg:Nat}{vo jv:Value}{R:List PV}{J:List JV}{c:Int}{V:List Nat} (km:KM w sg mg vo R jv J c) (h0:0≤c) (h1:c≤4000000000000000000) (ok:fH (aB R)) (hn:R.length≤1000000) (hl:V.length≤1000000) (tok:PwT (lu R [98]) 11 V) :
  Calls Try.prog 51 #[.pointer (some ⟨sg,0,none⟩)] w fun e w'=>∃ v,e = .returned v∧ON 22 w' v V∧(∀ k,v.ownBlock=some k→w.heap.size≤k∧k<w'.heap.size)∧ae (fun k=>k=sg) w w'∧∃ c',c≤c'∧c'≤c+1+(V.length:Int)∧KM w' sg mg vo R jv J c':=by
 have hks:=km.lt
 have hkd:=km.dlt
 have hLn:=tok.1
 have tok2:=tok.2
 obtain⟨BB,hBB⟩:∃ BB:Nat→Prop,BB=(fun _=>True):=⟨_,rfl⟩
 generalize hLL:lu R [98]=LL at *
 (refine kG _ Try.func51 rfl ?_;simp only [Try.ntmps51,List.size_toArray,List.length_cons,List.length_nil,Nat.reduceAdd,Nat.reduceSub,Array.replicate_succ,Array.replicate_zero,List.push_toArray,List.append_toArray,List.nil_append,List.cons_append])
 refine wpIn_seq ?_
 refine bP (d := .region 0 (aJ 0 Try.f51) false) (by kernel_rfl) ?_
 refine RW.wpIn (pb0 ?_) (by kernel_rfl)
 intro w0 e0
 have m0:ae aj w w0:=by rw [e0];exact ae.refl _ _
 refine bG ?_
 refine wpIn_seq ?_
 refine bP (d := .region 1 (aJ 1 Try.f51) false) (by kernel_rfl) ?_
 refine RW.wpIn (pb1 ?_) (by kernel_rfl)
 intro ob w1 hob hO m01
 refine bG ?_
 have m1:=m0.then0 m01
 refine wpIn_seq ?_
 refine bP (d := .region 2 (aJ 2 Try.f51) false) (by kernel_rfl) ?_
 refine RW.wpIn (pb2 (X:=fun v w'=>Gl.Own w' v [98]∧ae aj w1 w'∧aI w1 v) ((zT 11 w1).mono (fun e w' ⟨v,he,o,m,f⟩=>⟨v,_,he,o,m,f⟩)) ?_) (by kernel_rfl)
 intros
 rename_i hv w2 hx2
 obtain⟨oh,m2,fh⟩:=hx2
 refine bG ?_
 refine wpIn_seq ?_
 refine wpIn_seq ?_
 have m12:=m1.then0 m2
 have hO2:=m2.heap hO (fun x=>x)
 have km2:=km.keep0 m12
 refine bP (d := .region 3 (aJ 3 Try.f51) false) (by kernel_rfl) ?_
 refine RW.wpIn (pb3 (X:=fun lb w'=>uM w2 w' sg mg vo R LL lb)
  ((qG km2 oh.rd (by simp) ok hn).mono (fun e w' ⟨b1,b2,he,hg⟩=>⟨_,he,by rw [← hLL];exact hg⟩)) ?_) (by kernel_rfl)
 intros
 rename_i lb w4 hy
 obtain⟨m3,U0,it,hU0⟩:=hy
 refine bG ?_
 have m24:=m3
 have m14:=m2.then0 m24
 have m4:=m12.then0 m24
 have km4:=km.keep0 m4
 have hO4:=m24.heap hO2 (fun x=>x)
 have sgl:=hks sg (.inl rfl)
 have hol:=lt_of_heap hO
 have s0:=m0.size
 have s1:=m01.size
 have s2:=m2.size
 have s3:=m3.size
 have it4:=it w4 (ae.refl _ _)
 have U0l:∀ k,U0 k→k<w4.heap.size:=fun k hk=>by have:=(hU0 k hk).1;omega
 refine wpIn_block ?_
 refine tu (by rfl) (enters_of Try.func120 (by kernel_rfl) rfl) (U0:=U0) (sg:=sg) it4 (fun A C t=>t.mods) (ae.refl _ _) U0l (nD _ _) (fun i U args W1 hA=>by obtain⟨e,kv,vv,_,rfl,_⟩:=hA;rfl)
  (T:=fun j W=>KM W sg mg vo R jv J (c+(j:Nat))) (Qt:=fun k=>KS sg mg vo R jv J k∨KD R J k) (ul w0 ob V BB) (fun c i=>PwX w0 ob V (fun _=>False) c i) (uT w0 ob V BB) (fun _ _=>Cm ..) (fun j A B X t m hx=>t.keep m (fun k hk x=>hx k x (.inl hk)) (fun k hk x=>hx k x (.inr hk))) (fun k hk=>?_) (fun j A hj t=>?_) (.inl (.inl rfl))
  (S0:=fun k=>k=ob) (D0:=fun _=>False) (by simpa using km4) ⟨.slice none 0 0,hO4,dR.nil _ _ _,fun k=>by simp [Value.ownBlock],fun _ x=>x,by omega,fun k hk=>by simp [Value.ownBlock] at hk,by rw [hBB];trivial⟩ ?_ (fun _ x=>x.elim) ?_ ?_ ?_
 ·rcases hk with x | x
  ·have:=hks k x;omega
  ·have:=hkd k x;omega
 ·rw [hLn] at hj
  refine⟨t.okS (by omega) (by omega),fun B tt=>?_⟩
  have:=t.tickR tt
  rw [show c+((j+1:Nat):Int)=c+(j:Int)+1 by omega]
  exact this
 ·rintro k rfl
  refine⟨?_,?_⟩
  ·rintro (x | x)
   ·have:=hks _ x;omega
   ·have:=hkd _ x;omega
  ·intro x
   rcases (hU0 _ x).2.2 with y | y | y
   ·have:=hks _ (.inr (.inl y));omega
   ·have:=hkd _ (.inl y);omega
   ·omega
 ·intro l i U args W S D hlp hi hT hr hA hS hD hab hUl hlW hW hm
  obtain⟨e,kv,vv,hei,rfl,o1,o2,u1,u2,dd,b1,b2⟩:=hA
  obtain⟨ka0,kb0,hpk,hek,hVi⟩:=tok2 i e hei
  rw [hLn] at hi
  simp only [iD,List.setIfInBounds_toArray,List.set_cons_succ,List.set_cons_zero]
  refine bP (d := .region 4 (aJ 4 Try.f51) false) (by kernel_rfl) ?_
  refine RW.wpIn (pb4 ?_) (by kernel_rfl)
  intros
  rename_i w5 e5
  subst e5
  refine bG ?_
  refine⟨ae.refl _ _,fun W2 m7 hr2=>?_⟩
  clear hr
  have o17:=o1.keep m7 (fun k hk x=>u1 k hk (x▸hUl))
  refine wpIn_block ?_
  refine wpIn_seq ?_
  refine bP (d := .region 5 (aJ 5 Try.f51) false) (by kernel_rfl) ?_
  refine RW.wpIn (pb5 (X:=fun kk a b w'=>(∃ n,jm e.k kk a b n)∧ae aj W2 w') ((tV o17.rd).mono (fun r w' ⟨kk,a,b,n,hr,hg,hm⟩=>⟨kk,a,b,_,hr,⟨n,hg⟩,hm⟩)) ?_) (by kernel_rfl)
  intros
  rename_i kk ka kb kq wc w8 hx hkq hK8 mc8
  obtain⟨⟨kn,hkr⟩,mWc⟩:=hx
  obtain⟨rfl,rfl,rfl,_⟩:=jm.same hkr (show jm e.k (11:Nat) ka0 kb0 0 from by rw [hek];exact .inl ⟨rfl,su hpk,hpk.1,hpk.2.1,by omega,by omega⟩)
  refine bG ?_
  have m28:=mWc.then0 mc8
  have z7:=m7.size
  have z8:=m28.size
  obtain⟨v,q1,q2,hs,hd,ho,q3,q4⟩:=hr2
  have q18:=m28.heap q1 (fun x=>x)
  have q28:=dR.keep q2 m28 (fun _ _ x=>x)
  have hlen:(V.take i).length≤100000000:=by rw [List.length_take];omega
  have hvo:¬ fK v ob:=fun x=>(q3 ob x).2.2 rfl
  have tkA:=vC hVi
  have obl:=lt_of_heap q1
  refine bP (d := .region 6 (aJ 6 Try.f51) false) (by kernel_rfl) ?_
  refine RW.wpIn (pb6 q18 (ai hK8 1) q28 hlen hvo ?_) (by kernel_rfl)
  intros
  rename_i v8 w8' w9 o8 m8 f8 hw9
  subst hw9
  have m9:=(ae.refl (fun k=>k=ob) w8').setCell (p:=⟨ob,0,none⟩) (.inl rfl) v8
  have z8':=m8.size
  have z9:=m9.size
  have nv8:∀ k,v8.ownBlock=some k→w0.heap.size≤k∧k≠ob:=fun k hk=>by
   rcases f8 with x | x
   ·rw [x] at hk
    exact⟨(q3 k hk).1,(q3 k hk).2.2⟩
   ·have:=x k hk
    exact⟨by omega,by omega⟩
  have v8l:∀ k,v8.ownBlock=some k→k<w8'.heap.size:=fun k hk=>aU.lt o8 k hk
  have mA:ae S W2 (w8'.setCell ⟨ob,0,none⟩ v8):=(m28.trans m8 (U:=S) (fun _ _ x=>x.elim) (fun k _ x=>(hs k).2 (.inr x))).trans m9 (fun _ _ x=>x) (fun k _ x=>(hs k).2 (.inl x))
  have oA:ON 22 (w8'.setCell ⟨ob,0,none⟩ v8) v8 (V.take (i+1)):=by
   unfold ON dR
   rw [tkA,List.map_append,List.length_append]
   exact aU.keep o8 m9 (fun k hk e=>(nv8 k hk).2 e)
  have hA1:(w8'.setCell ⟨ob,0,none⟩ v8).heap[ob]?=some (.cells #[v8] 48 (0,0)):=heap_set (m8.heap q18 hvo) 0 v8
  have sA:∀ k,(k=ob∨v8.ownBlock=some k)→S k∨W2.heap.size≤k:=fun k hk=>by
   rcases hk with x | x
   ·exact .inl ((hs k).2 (.inl x))
   ·rcases f8 with y | y
    ·rw [y] at x
     exact .inl ((hs k).2 (.inr x))
    ·have:=y k x
     exact .inr (by omega)
  have pA:∀ B:Nat→Prop,B (i+1)→ul w0 ob V B (i+1) (w8'.setCell ⟨ob,0,none⟩ v8) (fun k=>k=ob∨v8.ownBlock=some k) (fun _=>False):=fun B hB=>⟨v8,hA1,oA,fun _=>Iff.rfl,fun _ x=>x,ho,fun k hk=>⟨(nv8 k hk).1,Nat.lt_of_lt_of_le (v8l k hk) z9,(nv8 k hk).2⟩,hB⟩
  refine iC ?_
  exact⟨ul w0 ob V BB (i+1),rfl,_,_,pA BB (by rw [hBB];trivial),mA,sA,fun k hk=>hk.elim⟩
 ·intro Dd W S D hT hr hS hD hDd hm hdef
  obtain⟨v,q1,q2,hs,hd,ho,q3,q4⟩:=hr
  rw [hLn] at q2 q4 hT
  have e1:V.take V.length=V:=by exact List.take_of_length_le (Nat.le_refl _)
  rw [e1] at q2
  refine iC ?_
  refine bG ?_
  refine wpIn_seq ?_
  refine bP (d := .region 7 (aJ 7 Try.f51) false) (by kernel_rfl) ?_
  refine RW.wpIn (pb7 (ai q1 0) ?_) (by kernel_rfl)
  intros
  rename_i wz ez
  subst ez
  refine bG ?_
  refine wpIn_ret ?_
  refine gQ hdef (results_tmp rfl _ _ _) ?_
  have mD:=dB wz Dd (.deferred none)
  refine⟨v,rfl,dR.keep q2 mD (fun k hk e=>(hS k ((hs k).2 (.inr hk))).2.1 e),fun k hk=>⟨Nat.le_trans s0 (q3 k hk).1,Nat.lt_of_lt_of_le (q3 k hk).2.1 mD.size⟩,?_,_,?_,?_,hT.keep mD (fun k hk e=>by have:=hks k hk;omega) (fun k hk e=>by have:=hkd k hk;omega)⟩
  ·exact (m4.trans hm (U:=fun k=>k=sg) (fun _ _ x=>x.elim) (fun k hk x=>by rcases x with x | x;omega;exact x)).trans mD (fun _ _ x=>x) (fun k hk x=>by omega)
  ·omega
  ·omega
 ·rintro Dd cd i W S D hi hT ⟨rfl,hr⟩ hS hD hDd hm hdef
  rw [hLn] at hi
  obtain⟨v,q1,q2,hs,hd,ho,q3,q4⟩:=hr
  exact q4.elim
end Go.Proofs.Ytglkmaalpammcaa

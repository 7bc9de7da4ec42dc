/- queue.Due, From: the entries under a beginning, in new memory (printed by gen_qui.py). -/
import Derived.Test.YtglkmaalpammcaaGreatQuI
import Derived.Test.YtglkmaalpammcaaGreatQuL
import Derived.Test.YtglkmaalpammcaaGreatStI1
import Derived.Test.YtglkmaalpammcaaGreatBs
import Derived.Test.YtglkmaalpammcaaGreatZD
set_option maxHeartbeats 64000000
namespace Go.Proofs.YtglkmaalpammcaaGreat
open Go.Gl Go.RowKit
set_option linter.unusedVariables false
set_option maxRecDepth 100000
def ecs (T:List TE):List Value:=T.flatMap (fun t=>[.int .u64 ((t.2.1:Nat):Int),.int .i64 ((t.2.2:Nat):Int)])
theorem I5 (T:List TE):(ecs T).length=T.length*2:=by
 induction T with
 | nil=>rfl
 | cons a T ih=>simp only [ecs,List.flatMap_cons,List.length_append,List.length_cons,List.length_nil] at ih ⊢;omega
theorem Aj (T:List TE) (t:TE):ecs (T ++ [t])=ecs T ++ [.int .u64 ((t.2.1:Nat):Int),.int .i64 ((t.2.2:Nat):Int)]:=by simp [ecs]
def jR (h:Nat) (T:List TE):List TE:=T.takeWhile (fun t=>decide (t.1≤h))
theorem xG {h:Nat}:∀ {T:List TE}{i:Nat},(∀ t∈T.take i,t.1≤h)→(T.length≤i∨∃ t,T[i]?=some t∧h<t.1)→jR h T=T.take i:=by
  intro T
  induction T with
  | nil=>intro i _ _;simp [jR]
  | cons a T ih =>
    intro i h1 h2
    cases i with
    | zero =>
      rcases h2 with h2 | ⟨t,ht,hh⟩
      · simp at h2
      · simp only [List.getElem?_cons_zero,Option.some.injEq] at ht
        subst ht
        unfold jR
        rw [List.takeWhile_cons_of_neg (by simp;omega)]
        rfl
    | succ i =>
      have ha:a.1≤h:=h1 a (by simp)
      have:=ih (i:=i) (fun t ht=>h1 t (by simp [ht])) (h2.imp (fun x=>by simp at x;omega) (fun⟨t,ht,hh⟩=>⟨t,by simpa using ht,hh⟩))
      unfold jR at this ⊢
      rw [List.takeWhile_cons_of_pos (by simpa using ha),this]
      rfl
def JR (w:World) (ob h:Nat) (T:List TE) (i:Nat):FP:=fun W S D=>∃ v,W.heap[ob]?=some (.cells #[v] 82 (0,0))∧bC W 86 2 v (T.take i).length (ecs (T.take i))∧(∀ k,S k↔k=ob∨v.ownBlock=some k)∧(∀ k,¬ D k)∧w.heap.size≤ob∧(∀ k,v.ownBlock=some k→w.heap.size≤k∧k<W.heap.size∧k≠ob)∧∀ t∈T.take i,t.1≤h
def DuX (w:World) (ob h:Nat) (T:List TE) (c:Code) (i:Nat):FP:=fun W S D=>c=Code.exit 0∧JR w ob h T (i - 1) W S D∧∃ t,T[i - 1]?=some t∧h<t.1
theorem ES (w:World) (ob h:Nat) (T:List TE) (i:Nat):gK (JR w ob h T i):=by
 constructor
 ·rintro W S D ⟨v,h1,h2,hs,hd,ho,h3,h4⟩
  exact⟨fun k hk=>by
   rcases (hs k).1 hk with rfl | x
   ·exact lt_of_heap h1
   ·exact (h3 k x).2.1,fun k hk=>(hd k hk).elim⟩
 ·rintro W W' S D U ⟨v,h1,h2,hs,hd,ho,h3,h4⟩ m a b
  exact⟨v,m.heap h1 (a _ ((hs _).2 (.inl rfl))),bC.keep h2 m (fun k hk=>a k ((hs k).2 (.inr hk))),hs,hd,ho,fun k hk=>⟨(h3 k hk).1,Nat.lt_of_lt_of_le (h3 k hk).2.1 m.size,(h3 k hk).2.2⟩,h4⟩
theorem RV (w:World) (ob h:Nat) (T:List TE) (c:Code) (i:Nat):gK (DuX w ob h T c i) :=
 ⟨fun⟨_,x,_⟩=>(ES w ob h T (i - 1)).lt x,fun⟨a,x,b⟩ m p q=>⟨a,(ES w ob h T (i - 1)).keep x m p q,b⟩⟩
theorem bC.ltb {w:World}{e:TypeId}{s n:Nat}{v:Value}{xs:List Value} (h:bC w e s v n xs) (k:Nat) (hk:v.ownBlock=some k):k<w.heap.size:=by
 rcases h.2 with ⟨rfl,_⟩ | ⟨g,off,cap,cur,rfl,hg,_⟩
 ·simp [Value.ownBlock] at hk
 ·simp [Value.ownBlock] at hk;subst hk;exact lt_of_heap hg
theorem JK {T:List TE}{i:Nat}{t:TE} (h:T[i]?=some t):T.take (i+1)=T.take i ++ [t]:=by rw [List.take_add_one,h];rfl
theorem DU {n:Nat} (h:n≤17):IntKind.i64.wrap (n:Int)=(n:Int):=by
 simp only [IntKind.wrap,IntKind.signed,IntKind.bits]
 simp
 omega
structure IX (L:List EV) (kk:Nat) (T:List TE):Prop where
 e:L.map EV.ent=oV kk T
 q:∀ t∈T,QK kk t.1 t.2.1∧t.2.2≤17
theorem IX.at {L:List EV}{kk:Nat}{T:List TE} (h:IX L kk T) {i:Nat}{e:EV} (he:L[i]?=some e):∃ t,T[i]?=some t∧e.k=qk kk t.1 t.2.1∧e.v=gV t.2.2∧t∈T:=by
  have h1:=congrArg (fun l=>l[i]?) h.e
  simp only [oV,List.getElem?_map,he,Option.map_some] at h1
  cases ht:T[i]? with
  | none=>rw [ht] at h1;simp at h1
  | some t =>
    rw [ht] at h1
    simp only [Option.map_some,Option.some.injEq] at h1
    obtain⟨a,b⟩:=Prod.mk.inj h1
    exact⟨t,rfl,a,b,List.mem_of_getElem? ht⟩
theorem IX.len {L:List EV}{kk:Nat}{T:List TE} (h:IX L kk T):L.length=T.length:=by
 have:=congrArg List.length h.e
 simpa [oV] using this
theorem Vd (a:Nat):(wG 15 a).getD []=101 :: be 8 a:=by
 simp [wG,iw,jT,ja]
theorem TC {w:World}{sg mg h:Nat}{vo jv:Value}{R:List PV}{J:List JV}{c:Int}{T:List TE} (km:KM w sg mg vo R jv J c) (h0:0≤c) (h1:c≤4000000000000000000) (ok:gY (aI R)) (hn:R.length≤1000000) (hl:T.length≤1000000) (tok:IX (sK R [113]) 14 T) (hh:bD h) :
  Calls Tryz.prog 37 #[.pointer (some ⟨sg,0,none⟩),.int .u64 ((h:Nat):Int)] w fun e w'=>∃ v,e = .returned v∧bC w' 86 2 v (jR h T).length (ecs (jR h T))∧(∀ k,v.ownBlock=some k→w.heap.size≤k∧k<w'.heap.size)∧ae (fun k=>k=sg) w w'∧∃ c',0≤c'∧c'≤c+1+(T.length:Int)∧KM w' sg mg vo R jv J c':=by
 have hks:=km.lt
 have hkd:=km.dlt
 have hLn:=tok.len
 have hLv:∀ e∈sK R [113],e.v.length≤1000000:=fun e he=>by
  obtain⟨i,hi⟩:=List.mem_iff_getElem?.1 he
  obtain⟨t,_,_,hv,_⟩:=tok.at hi
  rw [hv]
  exact Nat.le_trans (ul _) (by omega)
 generalize hLL:sK R [113]=LL at *
 (refine lG _ Tryz.func37 rfl ?_;simp only [Tryz.ntmps37,List.size_toArray,List.length_cons,List.length_nil,Nat.reduceAdd,Nat.reduceSub,Array.replicate_succ,Array.replicate_zero,List.push_toArray,List.append_toArray,List.nil_append,List.cons_append])
 refine wpIn_seq ?_
 refine bW (d := .region 0 (aH 0 Tryz.f37) false) (by kernel_rfl) ?_
 refine RW.wpIn (du0 ?_) (by kernel_rfl)
 intro hb w0 hhb hH m0
 refine bP ?_
 refine wpIn_seq ?_
 refine bW (d := .region 1 (aH 1 Tryz.f37) false) (by kernel_rfl) ?_
 refine RW.wpIn (du1 ?_) (by kernel_rfl)
 intro ob w1 hob hO m01
 refine bP ?_
 have m1:=m0.then0 m01
 refine wpIn_seq ?_
 refine bW (d := .region 2 (aH 2 Tryz.f37) false) (by kernel_rfl) ?_
 refine RW.wpIn (du2 (ak := .int .i64 14) (X:=fun v w'=>Gl.Own w' v [113]∧ae ai w1 w'∧aG w1 v) ((UZ 14 w1).mono (fun e w' ⟨v,he,o,m,f⟩=>⟨v,_,he,o,m,f⟩)) ?_) (by kernel_rfl)
 intros
 rename_i hv w2 hx2
 obtain⟨oh,m2,fh⟩:=hx2
 refine bP ?_
 refine wpIn_seq ?_
 refine wpIn_seq ?_
 have m12:=m1.then0 m2
 have hO2:=m2.heap hO (fun x=>x)
 have km2:=km.keep0 m12
 refine bW (d := .region 3 (aH 3 Tryz.f37) false) (by kernel_rfl) ?_
 refine RW.wpIn (du3 (X:=fun lb w'=>zH w2 w' sg mg vo R LL lb) (Y:=fun lb2 w''=>∃ lb be w3,lb2=#[.pointer (some ⟨be,0,none⟩)]∧zH w2 w3 sg mg vo R LL lb∧w''.heap[be]?=some (.cells #[.func (.func 244) #[] lb] 154 (0,0))∧ae ai w3 w''∧w3.heap.size≤be)
  ((Ac km2 oh.rd (by simp) ok hn).mono (fun e w' ⟨b1,b2,he,hg⟩=>⟨_,he,by rw [← hLL];exact hg⟩))
  (fun lb w3 hX=>(zX w3 lb).mono (fun e w' ⟨be,he,b1,b2,b3⟩=>⟨_,he,lb,be,w3,rfl,hX,b1,b2,b3⟩)) ?_) (by kernel_rfl)
 intros
 rename_i lb2 w4 hy
 obtain⟨lb,be,w3,rfl,⟨m3,U0,it,hU0⟩,hbe,m34,hbe3⟩:=hy
 refine bP ?_
 have m24:=m3.then0 m34
 have m14:=m2.then0 m24
 have m4:=m12.then0 m24
 have km4:=km.keep0 m4
 have hO4:=m24.heap hO2 (fun x=>x)
 have sgl:=hks sg (.inl rfl)
 have hol:=lt_of_heap hO
 have s0:=m0.size
 have s1:=m01.size
 have s2:=m2.size
 have s3:=m3.size
 have s34:=m34.size
 have belt:=lt_of_heap hbe
 have it4:=it w4 (m34.mono (fun _ _ x=>x.elim))
 have U0l:∀ k,U0 k→k<w4.heap.size:=fun k hk=>by have:=(hU0 k hk).1;omega
 refine wpIn_block ?_
 refine Ej (by rfl) (enters_of Tryz.func190 (by kernel_rfl) rfl) (U0:=JC U0 be) (sg:=sg) (yN hbe it4 hLv U0l ?_ (by omega)) (fun A C t=>t.mods) (ae.refl _ _) ?_ (DY _) (fun i U args W1 hA=>by obtain⟨e,kk,a,b,n,_,_,rfl⟩:=hA;rfl)
  (T:=fun j W=>KM W sg mg vo R jv J (c+(j:Nat))) (Qt:=fun k=>KS sg mg vo R jv J k∨KD R J k) (JR w ob h T) (fun c i=>DuX w ob h T c i) (ES w ob h T) (fun _ _=>RV ..) (fun j A B X t m hx=>t.keep m (fun k hk x=>hx k x (.inl hk)) (fun k hk x=>hx k x (.inr hk))) (fun k hk=>?_) (fun j A hj t=>?_) (.inl (.inl rfl))
  (S0:=fun k=>k=ob) (D0:=fun _=>False) (by simpa using km4) ⟨.slice none 0 0,hO4,⟨by simp [ecs],.inl ⟨rfl,by simp⟩⟩,fun k=>by simp [Value.ownBlock],fun _ x=>x,by omega,fun k hk=>by simp [Value.ownBlock] at hk,fun t ht=>by simp at ht⟩ ?_ (fun _ x=>x.elim) ?_ ?_ ?_
 ·-- the store's own block is not leaned on
  rintro (x | x)
  ·exact (hU0 _ x).2.1 rfl
  ·omega
 ·rintro k (x | x)
  ·exact U0l k x
  ·rw [x];exact belt
 ·rcases hk with x | x
  ·have:=hks k x;omega
  ·have:=hkd k x;omega
 ·rw [hLn] at hj
  refine⟨t.okS (by omega) (by omega),fun B tt=>?_⟩
  have:=t.tickR tt
  rw [show c+((j+1:Nat):Int)=c+(j:Int)+1 by omega]
  exact this
 ·rintro k rfl
  refine⟨?_,?_⟩
  ·rintro (x | x)
   ·have:=hks _ x;omega
   ·have:=hkd _ x;omega
  ·rintro (x | x)
   ·rcases (hU0 _ x).2.2 with y | y | y
    ·have:=hks _ (.inr (.inl y));omega
    ·have:=hkd _ (.inl y);omega
    ·omega
   ·omega
 ·intro l i U args W S D hlp hi hT hr hA hS hD hab hUl hlW hW hm
  obtain⟨e,kk,ka,kb,kn,hei,hkr,rfl⟩:=hA
  obtain⟨t,hti,hek,hev,htm⟩:=tok.at hei
  obtain⟨hq,hk17⟩:=tok.q t htm
  have hs2:=pR.same hkr (show pR e.k (14:Nat) t.1 t.2.1 0 from by rw [hek];exact .inl ⟨rfl,Fa hq,hq.1,hq.2.1,by omega,by omega⟩)
  obtain⟨_,rfl,rfl,_⟩:=hs2
  have hv1:one1 e.v=t.2.2:=by rw [hev];exact AY (by unfold bD;omega)
  rw [hv1,DU hk17]
  rw [hLn] at hi
  simp only [jF,List.setIfInBounds_toArray,List.set_cons_succ,List.set_cons_zero]
  refine wpIn_seq ?_
  refine bW (d := .region 4 (aH 4 Tryz.f37) false) (by kernel_rfl) ?_
  refine RW.wpIn (du4 ?_) (by kernel_rfl)
  intro w5 e5
  subst e5
  refine bP ?_
  refine bW (d := .region 5 (aH 5 Tryz.f37) false) (by kernel_rfl) ?_
  refine RW.wpIn (du5 ?_) (by kernel_rfl)
  intros
  rename_i eb w6 heb hE m6
  refine bP ?_
  refine⟨m6,fun W2 m7 hr2=>?_⟩
  clear hr
  have z6:=m6.size
  have z7:=m7.size
  obtain⟨v,q1,q2,hs,hd,ho,q3,q4⟩:=hr2
  have hE2:=m7.heap hE (fun x=>by omega)
  have hlen:(T.take i).length≤100000000:=by rw [List.length_take];omega
  have hvo:¬ eY v ob:=fun x=>(q3 ob x).2.2 rfl
  have tkA:=JK hti
  have obl:=lt_of_heap q1
  have hH2:=m7.heap (m6.heap (hm.heap (m24.heap (m2.heap (m01.heap hH (fun x=>x)) (fun x=>x)) (fun x=>x)) (fun x=>by have:=lt_of_heap hH;rcases x with x | x <;> omega)) (fun x=>x)) (fun x=>by have:=lt_of_heap hH;omega)
  refine wpIn_block ?_
  refine wpIn_seq ?_
  refine wpIn_seq ?_
  refine bW (d := .region 6 (aH 6 Tryz.f37) false) (by kernel_rfl) ?_
  by_cases hgt:h<t.1
  ·refine RW.wpIn (du6 (B:=true) (af hH2 0) (decide_eq_true (by omega)) ?_) (by kernel_rfl)
   intros
   rename_i w8 e8
   subst e8
   refine bP ?_
   refine wpIn_cond_true rfl ?_
   refine wpIn_exit ?_
   repeat (first | refine Hu ?_ | refine QO (by decide) ?_)
   exact⟨_,rfl,S,D,⟨rfl,by rw [Nat.add_sub_cancel];exact⟨v,q1,q2,hs,hd,ho,q3,q4⟩,t,by rw [Nat.add_sub_cancel];exact hti,hgt⟩,ae.refl _ _,fun _ => .inl,fun _ => .inl⟩
  ·refine RW.wpIn (du6 (B:=false) (af hH2 0) (decide_eq_false (by omega)) ?_) (by kernel_rfl)
   intros
   rename_i w8 e8
   subst e8
   refine bP ?_
   refine wpIn_cond_false rfl ?_
   refine wpIn_skip ?_
   refine bP ?_
   refine bW (d := .region 7 (aH 7 Tryz.f37) false) (by kernel_rfl) ?_
   refine RW.wpIn (du7 q1 hE2 q2 hlen hvo ?_) (by kernel_rfl)
   intros
   rename_i v8 w8' w9 o8 m8 f8 hw9
   subst hw9
   refine jh ?_
   have m9:=(ae.refl (fun k=>k=ob) w8').setCell (p:=⟨ob,0,none⟩) (.inl rfl) v8
   have z8:=m8.size
   have z9:=m9.size
   have nv8:∀ k,v8.ownBlock=some k→w.heap.size≤k∧k≠ob:=fun k hk=>by
    rcases f8 with x | x
    ·rw [x] at hk
     exact⟨(q3 k hk).1,(q3 k hk).2.2⟩
    ·have:=x k hk
     exact⟨by omega,by omega⟩
   have v8l:∀ k,v8.ownBlock=some k→k<w8'.heap.size:=fun k hk=>bC.ltb o8 k hk
   refine⟨JR w ob h T (i+1),rfl,fun k=>k=ob∨v8.ownBlock=some k,fun _=>False,⟨v8,heap_set (m8.heap q1 hvo) 0 v8,?_,fun _=>Iff.rfl,fun _ x=>x,ho,fun k hk=>⟨(nv8 k hk).1,Nat.lt_of_lt_of_le (v8l k hk) z9,(nv8 k hk).2⟩,?_⟩,?_,fun k hk=>?_,fun k hk=>hk.elim⟩
   ·rw [tkA,Aj,List.length_append]
    exact bC.keep o8 m9 (fun k hk e=>(nv8 k hk).2 e)
   ·rw [tkA]
    intro x hx
    rcases List.mem_append.1 hx with hx | hx
    ·exact q4 x hx
    ·rw [List.mem_singleton.1 hx];omega
   ·exact m8.trans m9 (fun k _ x=>(hs k).2 (.inr x)) (fun k _ x=>(hs k).2 (.inl x))
   ·rcases hk with x | x
    ·exact .inl ((hs k).2 (.inl x))
    ·rcases f8 with y | y
     ·rw [y] at x
      exact .inl ((hs k).2 (.inr x))
     ·exact .inr (y k x)
 ·intro Dd W S D hT hr hS hD hDd hm hdef
  obtain⟨v,q1,q2,hs,hd,ho,q3,q4⟩:=hr
  rw [hLn] at q2 q4 hT
  have e1:=xG q4 (.inl (Nat.le_refl _))
  rw [← e1] at q2
  refine jh ?_
  refine bP ?_
  refine wpIn_seq ?_
  refine bW (d := .region 8 (aH 8 Tryz.f37) false) (by kernel_rfl) ?_
  refine RW.wpIn (du8 (af q1 0) ?_) (by kernel_rfl)
  intros
  rename_i wz ez
  subst ez
  refine bP ?_
  refine wpIn_ret ?_
  refine iF hdef (results_tmp rfl _ _ _) ?_
  have mD:=fA wz Dd (.deferred none)
  refine⟨v,rfl,bC.keep q2 mD (fun k hk e=>(hS k ((hs k).2 (.inr hk))).2.1 e),fun k hk=>⟨(q3 k hk).1,Nat.lt_of_lt_of_le (q3 k hk).2.1 mD.size⟩,?_,_,?_,?_,hT.keep mD (fun k hk e=>by have:=hks k hk;omega) (fun k hk e=>by have:=hkd k hk;omega)⟩
  ·exact (m4.trans hm (U:=fun k=>k=sg) (fun _ _ x=>x.elim) (fun k hk x=>by rcases x with x | x;omega;exact x)).trans mD (fun _ _ x=>x) (fun k hk x=>by omega)
  ·omega
  ·omega
 ·rintro Dd cd i W S D hi hT ⟨rfl,hr,t,hti,hgt⟩ hS hD hDd hm hdef
  rw [Nat.add_sub_cancel] at hr hti
  rw [hLn] at hi
  obtain⟨v,q1,q2,hs,hd,ho,q3,q4⟩:=hr
  have e1:=xG q4 (.inr ⟨t,hti,hgt⟩)
  rw [← e1] at q2
  refine wpIn_exit ?_
  refine CS ?_
  refine bP ?_
  refine wpIn_seq ?_
  refine bW (d := .region 8 (aH 8 Tryz.f37) false) (by kernel_rfl) ?_
  refine RW.wpIn (du8 (af q1 0) ?_) (by kernel_rfl)
  intros
  rename_i wz ez
  subst ez
  refine bP ?_
  refine wpIn_ret ?_
  refine iF hdef (results_tmp rfl _ _ _) ?_
  have mD:=fA wz Dd (.deferred none)
  refine⟨v,rfl,bC.keep q2 mD (fun k hk e=>(hS k ((hs k).2 (.inr hk))).2.1 e),fun k hk=>⟨(q3 k hk).1,Nat.lt_of_lt_of_le (q3 k hk).2.1 mD.size⟩,?_,_,?_,?_,hT.keep mD (fun k hk e=>by have:=hks k hk;omega) (fun k hk e=>by have:=hkd k hk;omega)⟩
  ·exact (m4.trans hm (U:=fun k=>k=sg) (fun _ _ x=>x.elim) (fun k hk x=>by rcases x with x | x;omega;exact x)).trans mD (fun _ _ x=>x) (fun k hk x=>by omega)
  ·omega
  ·omega
theorem O4 {w:World}{sg mg a:Nat}{vo jv:Value}{R:List PV}{J:List JV}{c:Int}{T:List TE} (km:KM w sg mg vo R jv J c) (h0:0≤c) (h1:c≤4000000000000000000) (ok:gY (aI R)) (hn:R.length≤1000000) (hl:T.length≤1000000) (ha:bD a) (tok:IX (sK R (101 :: be 8 a)) 15 T) :
  Calls Tryz.prog 39 #[.pointer (some ⟨sg,0,none⟩),.int .u64 ((a:Nat):Int)] w fun e w'=>∃ v,e = .returned v∧bC w' 86 2 v T.length (ecs T)∧(∀ k,v.ownBlock=some k→w.heap.size≤k∧k<w'.heap.size)∧ae (fun k=>k=sg) w w'∧∃ c',0≤c'∧c'≤c+1+(T.length:Int)∧KM w' sg mg vo R jv J c':=by
 obtain⟨h,hh⟩:∃ h,h=18446744073709551615:=⟨_,rfl⟩
 have hks:=km.lt
 have hkd:=km.dlt
 have hLn:=tok.len
 have hLv:∀ e∈sK R (101 :: be 8 a),e.v.length≤1000000:=fun e he=>by
  obtain⟨i,hi⟩:=List.mem_iff_getElem?.1 he
  obtain⟨t,_,_,hv,_⟩:=tok.at hi
  rw [hv]
  exact Nat.le_trans (ul _) (by omega)
 generalize hLL:sK R (101 :: be 8 a)=LL at *
 (refine lG _ Tryz.func39 rfl ?_;simp only [Tryz.ntmps39,List.size_toArray,List.length_cons,List.length_nil,Nat.reduceAdd,Nat.reduceSub,Array.replicate_succ,Array.replicate_zero,List.push_toArray,List.append_toArray,List.nil_append,List.cons_append])
 refine wpIn_seq ?_
 refine bW (d := .region 0 (aH 0 Tryz.f39) false) (by kernel_rfl) ?_
 refine RW.wpIn (fr0 ?_) (by kernel_rfl)
 intro w0 e0
 have m0:ae ai w w0:=by rw [e0];exact ae.refl _ _
 refine bP ?_
 refine wpIn_seq ?_
 refine bW (d := .region 1 (aH 1 Tryz.f39) false) (by kernel_rfl) ?_
 refine RW.wpIn (fr1 ?_) (by kernel_rfl)
 intro ob w1 hob hO m01
 refine bP ?_
 have m1:=m0.then0 m01
 refine wpIn_seq ?_
 refine bW (d := .region 2 (aH 2 Tryz.f39) false) (by kernel_rfl) ?_
 refine RW.wpIn (fr2 (X:=fun v w'=>Gl.Own w' v (101 :: be 8 a)∧ae ai w1 w'∧aG w1 v) ((Na 15 a w1 ha).mono (fun e w' ⟨v,he,o,m,f⟩=>⟨v,_,he,Vd a▸o,m,f⟩)) ?_) (by kernel_rfl)
 intros
 rename_i hv w2 hx2
 obtain⟨oh,m2,fh⟩:=hx2
 refine bP ?_
 refine wpIn_seq ?_
 refine wpIn_seq ?_
 have m12:=m1.then0 m2
 have hO2:=m2.heap hO (fun x=>x)
 have km2:=km.keep0 m12
 refine bW (d := .region 3 (aH 3 Tryz.f39) false) (by kernel_rfl) ?_
 refine RW.wpIn (fr3 (X:=fun lb w'=>zH w2 w' sg mg vo R LL lb) (Y:=fun lb2 w''=>∃ lb be w3,lb2=#[.pointer (some ⟨be,0,none⟩)]∧zH w2 w3 sg mg vo R LL lb∧w''.heap[be]?=some (.cells #[.func (.func 244) #[] lb] 154 (0,0))∧ae ai w3 w''∧w3.heap.size≤be)
  ((Ac km2 oh.rd (by simp [bU]) ok hn).mono (fun e w' ⟨b1,b2,he,hg⟩=>⟨_,he,by rw [← hLL];exact hg⟩))
  (fun lb w3 hX=>(zX w3 lb).mono (fun e w' ⟨be,he,b1,b2,b3⟩=>⟨_,he,lb,be,w3,rfl,hX,b1,b2,b3⟩)) ?_) (by kernel_rfl)
 intros
 rename_i lb2 w4 hy
 obtain⟨lb,be,w3,rfl,⟨m3,U0,it,hU0⟩,hbe,m34,hbe3⟩:=hy
 refine bP ?_
 have m24:=m3.then0 m34
 have m14:=m2.then0 m24
 have m4:=m12.then0 m24
 have km4:=km.keep0 m4
 have hO4:=m24.heap hO2 (fun x=>x)
 have sgl:=hks sg (.inl rfl)
 have hol:=lt_of_heap hO
 have s0:=m0.size
 have s1:=m01.size
 have s2:=m2.size
 have s3:=m3.size
 have s34:=m34.size
 have belt:=lt_of_heap hbe
 have it4:=it w4 (m34.mono (fun _ _ x=>x.elim))
 have U0l:∀ k,U0 k→k<w4.heap.size:=fun k hk=>by have:=(hU0 k hk).1;omega
 refine wpIn_block ?_
 refine Ej (by rfl) (enters_of Tryz.func190 (by kernel_rfl) rfl) (U0:=JC U0 be) (sg:=sg) (yN hbe it4 hLv U0l ?_ (by omega)) (fun A C t=>t.mods) (ae.refl _ _) ?_ (DY _) (fun i U args W1 hA=>by obtain⟨e,kk,a,b,n,_,_,rfl⟩:=hA;rfl)
  (T:=fun j W=>KM W sg mg vo R jv J (c+(j:Nat))) (Qt:=fun k=>KS sg mg vo R jv J k∨KD R J k) (JR w ob h T) (fun c i=>DuX w ob h T c i) (ES w ob h T) (fun _ _=>RV ..) (fun j A B X t m hx=>t.keep m (fun k hk x=>hx k x (.inl hk)) (fun k hk x=>hx k x (.inr hk))) (fun k hk=>?_) (fun j A hj t=>?_) (.inl (.inl rfl))
  (S0:=fun k=>k=ob) (D0:=fun _=>False) (by simpa using km4) ⟨.slice none 0 0,hO4,⟨by simp [ecs],.inl ⟨rfl,by simp⟩⟩,fun k=>by simp [Value.ownBlock],fun _ x=>x,by omega,fun k hk=>by simp [Value.ownBlock] at hk,fun t ht=>by simp at ht⟩ ?_ (fun _ x=>x.elim) ?_ ?_ ?_
 ·-- the store's own block is not leaned on
  rintro (x | x)
  ·exact (hU0 _ x).2.1 rfl
  ·omega
 ·rintro k (x | x)
  ·exact U0l k x
  ·rw [x];exact belt
 ·rcases hk with x | x
  ·have:=hks k x;omega
  ·have:=hkd k x;omega
 ·rw [hLn] at hj
  refine⟨t.okS (by omega) (by omega),fun B tt=>?_⟩
  have:=t.tickR tt
  rw [show c+((j+1:Nat):Int)=c+(j:Int)+1 by omega]
  exact this
 ·rintro k rfl
  refine⟨?_,?_⟩
  ·rintro (x | x)
   ·have:=hks _ x;omega
   ·have:=hkd _ x;omega
  ·rintro (x | x)
   ·rcases (hU0 _ x).2.2 with y | y | y
    ·have:=hks _ (.inr (.inl y));omega
    ·have:=hkd _ (.inl y);omega
    ·omega
   ·omega
 ·intro l i U args W S D hlp hi hT hr hA hS hD hab hUl hlW hW hm
  obtain⟨e,kk,ka,kb,kn,hei,hkr,rfl⟩:=hA
  obtain⟨t,hti,hek,hev,htm⟩:=tok.at hei
  obtain⟨hq,hk17⟩:=tok.q t htm
  have hs2:=pR.same hkr (show pR e.k (15:Nat) t.1 t.2.1 0 from by rw [hek];exact .inl ⟨rfl,Fa hq,hq.1,hq.2.1,by omega,by omega⟩)
  obtain⟨_,rfl,rfl,_⟩:=hs2
  have hv1:one1 e.v=t.2.2:=by rw [hev];exact AY (by unfold bD;omega)
  rw [hv1,DU hk17]
  rw [hLn] at hi
  simp only [jF,List.setIfInBounds_toArray,List.set_cons_succ,List.set_cons_zero]
  refine bW (d := .region 4 (aH 4 Tryz.f39) false) (by kernel_rfl) ?_
  refine RW.wpIn (fr4 ?_) (by kernel_rfl)
  intros
  rename_i eb w6 heb hE m6
  refine bP ?_
  refine⟨m6,fun W2 m7 hr2=>?_⟩
  clear hr
  have z6:=m6.size
  have z7:=m7.size
  obtain⟨v,q1,q2,hs,hd,ho,q3,q4⟩:=hr2
  have hE2:=m7.heap hE (fun x=>by omega)
  have hlen:(T.take i).length≤100000000:=by rw [List.length_take];omega
  have hvo:¬ eY v ob:=fun x=>(q3 ob x).2.2 rfl
  have tkA:=JK hti
  have obl:=lt_of_heap q1
  have hgt:¬ h<t.1:=by have:=hq.1;unfold bD at this;omega
  ·refine wpIn_block ?_
   refine bW (d := .region 5 (aH 5 Tryz.f39) false) (by kernel_rfl) ?_
   refine RW.wpIn (fr5 q1 hE2 q2 hlen hvo ?_) (by kernel_rfl)
   intros
   rename_i v8 w8' w9 o8 m8 f8 hw9
   subst hw9
   refine jh ?_
   have m9:=(ae.refl (fun k=>k=ob) w8').setCell (p:=⟨ob,0,none⟩) (.inl rfl) v8
   have z8:=m8.size
   have z9:=m9.size
   have nv8:∀ k,v8.ownBlock=some k→w.heap.size≤k∧k≠ob:=fun k hk=>by
    rcases f8 with x | x
    ·rw [x] at hk
     exact⟨(q3 k hk).1,(q3 k hk).2.2⟩
    ·have:=x k hk
     exact⟨by omega,by omega⟩
   have v8l:∀ k,v8.ownBlock=some k→k<w8'.heap.size:=fun k hk=>bC.ltb o8 k hk
   refine⟨JR w ob h T (i+1),rfl,fun k=>k=ob∨v8.ownBlock=some k,fun _=>False,⟨v8,heap_set (m8.heap q1 hvo) 0 v8,?_,fun _=>Iff.rfl,fun _ x=>x,ho,fun k hk=>⟨(nv8 k hk).1,Nat.lt_of_lt_of_le (v8l k hk) z9,(nv8 k hk).2⟩,?_⟩,?_,fun k hk=>?_,fun k hk=>hk.elim⟩
   ·rw [tkA,Aj,List.length_append]
    exact bC.keep o8 m9 (fun k hk e=>(nv8 k hk).2 e)
   ·rw [tkA]
    intro x hx
    rcases List.mem_append.1 hx with hx | hx
    ·exact q4 x hx
    ·rw [List.mem_singleton.1 hx];omega
   ·exact m8.trans m9 (fun k _ x=>(hs k).2 (.inr x)) (fun k _ x=>(hs k).2 (.inl x))
   ·rcases hk with x | x
    ·exact .inl ((hs k).2 (.inl x))
    ·rcases f8 with y | y
     ·rw [y] at x
      exact .inl ((hs k).2 (.inr x))
     ·exact .inr (y k x)
 ·intro Dd W S D hT hr hS hD hDd hm hdef
  obtain⟨v,q1,q2,hs,hd,ho,q3,q4⟩:=hr
  rw [hLn] at q2 q4 hT
  have e1:=xG q4 (.inl (Nat.le_refl _))
  rw [List.take_of_length_le (Nat.le_refl _)] at q2
  refine jh ?_
  refine bP ?_
  refine wpIn_seq ?_
  refine bW (d := .region 6 (aH 6 Tryz.f39) false) (by kernel_rfl) ?_
  refine RW.wpIn (fr6 (af q1 0) ?_) (by kernel_rfl)
  intros
  rename_i wz ez
  subst ez
  refine bP ?_
  refine wpIn_ret ?_
  refine iF hdef (results_tmp rfl _ _ _) ?_
  have mD:=fA wz Dd (.deferred none)
  refine⟨v,rfl,bC.keep q2 mD (fun k hk e=>(hS k ((hs k).2 (.inr hk))).2.1 e),fun k hk=>⟨(q3 k hk).1,Nat.lt_of_lt_of_le (q3 k hk).2.1 mD.size⟩,?_,_,?_,?_,hT.keep mD (fun k hk e=>by have:=hks k hk;omega) (fun k hk e=>by have:=hkd k hk;omega)⟩
  ·exact (m4.trans hm (U:=fun k=>k=sg) (fun _ _ x=>x.elim) (fun k hk x=>by rcases x with x | x;omega;exact x)).trans mD (fun _ _ x=>x) (fun k hk x=>by omega)
  ·omega
  ·omega
 ·rintro Dd cd i W S D hi hT ⟨rfl,hr,t,hti,hgt⟩ hS hD hDd hm hdef
  rw [Nat.add_sub_cancel] at hr hti
  rw [hLn] at hi
  have:=(tok.q t (List.mem_of_getElem? hti)).1.1
  unfold bD at this
  omega
end Go.Proofs.YtglkmaalpammcaaGreat

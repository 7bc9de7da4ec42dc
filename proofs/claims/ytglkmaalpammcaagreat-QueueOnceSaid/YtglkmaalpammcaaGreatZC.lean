/- Parts of the proof, one behind the other: KvM, KvN, HCopy, R6M, R6G, Ord2, R60, KvC, KvJ, KvR, KvW, KvS, R6F, R6D, PgK5, PgK, Iter, PgI0, PgI, PgT, PgQ, PgB0, PgB, PgY, R6W, KvI0. -/
import Derived.Test.YtglkmaalpammcaaGreatZB
import Derived.Test.YtglkmaalpammcaaGreatZA
import Derived.Deep.DeepCutAuto
import Derived.Lib.BufferMore
import Derived.RangeFuncNested
import Derived.Shelf.Abstract
set_option maxHeartbeats 64000000
set_option linter.unusedSimpArgs false
set_option linter.unusedVariables false
set_option maxRecDepth 100000
namespace Go.Proofs.YtglkmaalpammcaaGreat
open Go.Gl Go.RowKit
structure UV where
 c:Value
 u:yE
 sb:Nat
 kb:Nat
 ob:Nat
 kv:Value
 ov:Value
def UB (x:UV) (k:Nat):Prop:=k=x.sb∨k=x.kb∨x.kv.ownBlock=some k∨(x.u.old.isSome=true∧(k=x.ob∨x.ov.ownBlock=some k))
def PQ (w:World) (x:UV):Prop:=match x.u.old with
 | none=>x.c = .func (.func 213) #[] #[.pointer (some ⟨x.sb,0,none⟩),.pointer (some ⟨x.kb,0,none⟩)]
 | some v=>x.c = .func (.func 214) #[] #[.pointer (some ⟨x.sb,0,none⟩),.pointer (some ⟨x.kb,0,none⟩),.pointer (some ⟨x.ob,0,none⟩)]∧w.heap[x.ob]?=some (.cells #[x.ov] 91 (0,0))∧Rd w x.ov v∧v.length≤1000000
structure sS (w:World) (sg:Nat) (x:UV):Prop where
 sB:w.heap[x.sb]?=some (.cells #[.pointer (some ⟨sg,0,none⟩)] 26 (0,0))
 kB:w.heap[x.kb]?=some (.cells #[x.kv] 91 (0,0))
 k:Rd w x.kv x.u.k
 lk:x.u.k.length≤1000000
 c:PQ w x
theorem sS.keep {w w':World}{sg:Nat}{x:UV}{T:Nat→Prop} (h:sS w sg x) (hm:ae T w w') (ht:∀ k,UB x k→¬ T k):sS w' sg x:=by
  refine⟨hm.heap h.sB (ht _ (.inl rfl)),hm.heap h.kB (ht _ (.inr (.inl rfl))),h.k.keep hm (fun k hk=>ht k (.inr (.inr (.inl hk)))),h.lk,?_⟩
  have hc:=h.c
  unfold PQ at hc ⊢
  cases ho:x.u.old with
  | none=>rw [ho] at hc;exact hc
  | some v =>
    rw [ho] at hc
    obtain⟨a,b,c,d⟩:=hc
    have hs:x.u.old.isSome=true:=by rw [ho];rfl
    exact⟨a,hm.heap b (ht _ (.inr (.inr (.inr ⟨hs,.inl rfl⟩)))),c.keep hm (fun k hk=>ht k (.inr (.inr (.inr ⟨hs,.inr hk⟩)))),d⟩
theorem sS.one {w:World}{sg:Nat}{x:UV} (h:sS w sg x):x.c.oneCell'=true:=by
 have hc:=h.c
 unfold PQ at hc
 cases ho:x.u.old with
 | none=>rw [ho] at hc;rw [show x.c=_ from hc];rfl
 | some v=>rw [ho] at hc;rw [hc.1];rfl
structure JV where
 jv:Value
 us:List UV
def KS (sg mg:Nat) (vo:Value) (R:List PV) (jv:Value) (J:List JV) (k:Nat):Prop:=k=sg∨MS mg vo R k∨jv.ownBlock=some k∨∃ q∈J,q.jv.ownBlock=some k
def KD (R:List PV) (J:List JV) (k:Nat):Prop:=MD R k∨∃ q∈J,∃ x∈q.us,UB x k
structure KM (w:World) (sg mg:Nat) (vo:Value) (R:List PV) (jv:Value) (J:List JV) (n:Int):Prop where
 hg:w.heap[sg]?=some (.cells #[.pointer (some ⟨mg,0,none⟩),jv,.int .i64 n] 138 (0,0))
 pm:PM w mg vo R
 row:bC w 300 1 jv J.length (J.map (·.jv))
 pg:∀ q∈J,bC w 302 1 q.jv q.us.length (q.us.map (·.c))
 un:∀ q∈J,∀ x∈q.us,sS w sg x
 s1:¬ MS mg vo R sg∧jv.ownBlock≠some sg∧∀ q∈J,q.jv.ownBlock≠some sg
 s2:∀ k,jv.ownBlock=some k→¬ MS mg vo R k∧∀ q∈J,q.jv.ownBlock≠some k
 s3:∀ q∈J,∀ k,q.jv.ownBlock=some k→¬ MS mg vo R k
 s4:J.Pairwise (fun p q=>∀ k,p.jv.ownBlock=some k→q.jv.ownBlock≠some k)
 data:∀ k,KD R J k→¬ KS sg mg vo R jv J k
 dlt:∀ k,KD R J k→k<w.heap.size
theorem KM.lt {w:World}{sg mg:Nat}{vo jv:Value}{R:List PV}{J:List JV}{n:Int} (h:KM w sg mg vo R jv J n):∀ k,KS sg mg vo R jv J k→k<w.heap.size:=by
 rintro k (rfl | hk | hk | ⟨q,hq,hk⟩)
 ·exact lt_of_heap h.hg
 ·exact h.pm.lt k hk
 ·exact h.row.lt k hk
 ·exact (h.pg q hq).lt k hk
theorem KM.keep {w w':World}{sg mg:Nat}{vo jv:Value}{R:List PV}{J:List JV}{n:Int}{T:Nat→Prop} (h:KM w sg mg vo R jv J n) (hm:ae T w w') (h1:∀ k,KS sg mg vo R jv J k→¬ T k) (h2:∀ k,KD R J k→¬ T k):KM w' sg mg vo R jv J n :=
 ⟨hm.heap h.hg (h1 _ (.inl rfl)),h.pm.keep hm (fun k hk=>h1 k (.inr (.inl hk))) (fun k hk=>h2 k (.inl hk)),h.row.keep hm (fun k hk=>h1 k (.inr (.inr (.inl hk)))),fun q hq=>(h.pg q hq).keep hm (fun k hk=>h1 k (.inr (.inr (.inr ⟨q,hq,hk⟩)))),
  fun q hq x hx=>(h.un q hq x hx).keep hm (fun k hk=>h2 k (.inr ⟨q,hq,x,hx,hk⟩)),h.s1,h.s2,h.s3,h.s4,h.data,fun k hk=>Nat.lt_of_lt_of_le (h.dlt k hk) hm.size⟩
theorem KM.keep0 {w w':World}{sg mg:Nat}{vo jv:Value}{R:List PV}{J:List JV}{n:Int} (h:KM w sg mg vo R jv J n) (hm:ae ai w w'):KM w' sg mg vo R jv J n:=h.keep hm (fun _ _ x=>x) (fun _ _ x=>x)
structure KT (w w':World) (sg mg:Nat) (vo:Value) (R:List PV) (jv:Value) (J:List JV) (vo':Value) (R':List PV) (jv':Value) (J':List JV) (n':Int):Prop where
 km:KM w' sg mg vo' R' jv' J' n'
 mods:ae (KS sg mg vo R jv J) w w'
 ks:∀ k,KS sg mg vo' R' jv' J' k→KS sg mg vo R jv J k∨w.heap.size≤k
 kd:∀ k,KD R' J' k→KD R J k∨w.heap.size≤k
theorem KT.refl {w:World}{sg mg:Nat}{vo jv:Value}{R:List PV}{J:List JV}{n:Int} (h:KM w sg mg vo R jv J n):KT w w sg mg vo R jv J vo R jv J n:=⟨h,ae.refl _ _,fun _ => .inl,fun _ => .inl⟩
theorem KT.first {a b c:World}{sg mg:Nat}{vo jv vo' jv':Value}{R R':List PV}{J J':List JV}{n':Int} (h:KT b c sg mg vo R jv J vo' R' jv' J' n') (m:ae ai a b):KT a c sg mg vo R jv J vo' R' jv' J' n' :=
 ⟨h.km,m.trans h.mods (fun _ _ x=>x.elim) (fun _ _ x=>x),fun k hk=>(h.ks k hk).imp id (Nat.le_trans m.size),fun k hk=>(h.kd k hk).imp id (Nat.le_trans m.size)⟩
theorem KT.then0 {a b c:World}{sg mg:Nat}{vo jv vo' jv':Value}{R R':List PV}{J J':List JV}{n':Int} (h:KT a b sg mg vo R jv J vo' R' jv' J' n') (m:ae ai b c):KT a c sg mg vo R jv J vo' R' jv' J' n':=⟨h.km.keep0 m,h.mods.then0 m,h.ks,h.kd⟩
theorem KT.trans {a b c:World}{sg mg:Nat}{vo jv vo' jv' vo2 jv2:Value}{R R' R2:List PV}{J J' J2:List JV}{n' n2:Int} (h:KT a b sg mg vo R jv J vo' R' jv' J' n') (k:KT b c sg mg vo' R' jv' J' vo2 R2 jv2 J2 n2):KT a c sg mg vo R jv J vo2 R2 jv2 J2 n2 :=
 ⟨k.km,h.mods.trans k.mods (fun _ _ x=>x) (fun i hi x=>by
  rcases h.ks i x with y | y
  ·exact y
  ·omega),fun i hi=>by
  rcases k.ks i hi with y | y
  ·exact h.ks i y
  ·exact .inr (Nat.le_trans h.mods.size y),fun i hi=>by
  rcases k.kd i hi with y | y
  ·exact h.kd i y
  ·exact .inr (Nat.le_trans h.mods.size y)⟩
theorem KM.map {w w':World}{sg mg:Nat}{vo jv vo':Value}{R R':List PV}{J:List JV}{n:Int} (h:KM w sg mg vo R jv J n) (t:PT w w' mg vo R vo' R'):KT w w' sg mg vo R jv J vo' R' jv J n:=by
 have ks:∀ k,KS sg mg vo' R' jv J k→KS sg mg vo R jv J k∨w.heap.size≤k:=by
  rintro k (rfl | hk | hk | hk)
  ·exact .inl (.inl rfl)
  ·exact (t.ms k hk).imp (fun x => .inr (.inl x)) id
  ·exact .inl (.inr (.inr (.inl hk)))
  ·exact .inl (.inr (.inr (.inr hk)))
 have kd:∀ k,KD R' J k→KD R J k∨w.heap.size≤k:=by
  rintro k (hk | hk)
  ·exact (t.md k hk).imp .inl id
  ·exact .inl (.inr hk)
 have nms:∀ k,k<w.heap.size→¬ MS mg vo R k→¬ MS mg vo' R' k:=fun k hk hn x=>by
  rcases t.ms k x with y | y
  ·exact hn y
  ·omega
 refine⟨⟨t.mods.heap h.hg h.s1.1,t.pm,h.row.keep t.mods (fun k hk=>(h.s2 k hk).1),fun q hq=>(h.pg q hq).keep t.mods (fun k hk=>h.s3 q hq k hk),fun q hq x hx=>(h.un q hq x hx).keep t.mods (fun k hk y=>h.data k (.inr ⟨q,hq,x,hx,hk⟩) (.inr (.inl y))),
  ⟨nms sg (lt_of_heap h.hg) h.s1.1,h.s1.2⟩,fun k hk=>⟨nms k (h.row.lt k hk) (h.s2 k hk).1,(h.s2 k hk).2⟩,fun q hq k hk=>nms k ((h.pg q hq).lt k hk) (h.s3 q hq k hk),h.s4,fun k hk hs=>?_,fun k hk=>?_⟩,t.mods.mono (fun k _ hk => .inr (.inl hk)),ks,kd⟩
 ·rcases hk with hk | hk
  ·have hpm:=t.pm.data k hk
   rcases hs with rfl | hs | hs
   ·rcases t.md k hk with y | y
    ·exact h.data k (.inl y) (.inl rfl)
    ·have:=lt_of_heap h.hg;omega
   ·exact hpm hs
   ·rcases t.md k hk with y | y
    ·exact h.data k (.inl y) (.inr (.inr hs))
    ·have:=h.lt k (.inr (.inr hs));omega
  ·have hlt:=h.dlt k (.inr hk)
   rcases ks k hs with y | y
   ·exact h.data k (.inr hk) y
   ·omega
 ·rcases kd k hk with y | y
  ·exact Nat.lt_of_lt_of_le (h.dlt k y) t.mods.size
  ·rcases hk with hk | hk
   ·exact t.pm.dlt k hk
   ·have:=h.dlt k (.inr hk);omega
theorem KM.chg {w w':World}{sg mg:Nat}{vo jv jv':Value}{R:List PV}{J J':List JV}{n n':Int}{Z:Nat→Prop} (h:KM w sg mg vo R jv J n) (m:ae (fun k=>k=sg∨jv.ownBlock=some k∨∃ q∈J,q.jv.ownBlock=some k) w w')
  (hg':w'.heap[sg]?=some (.cells #[.pointer (some ⟨mg,0,none⟩),jv',.int .i64 n'] 138 (0,0))) (row':bC w' 300 1 jv' J'.length (J'.map (·.jv))) (hjv:jv'.ownBlock=jv.ownBlock∨aG w jv')
  (pg':∀ q∈J',bC w' 302 1 q.jv q.us.length (q.us.map (·.c))∧((∃ p∈J,q.jv.ownBlock=p.jv.ownBlock)∨aG w q.jv))
  (un':∀ q∈J',∀ x∈q.us,(∃ p∈J,x∈p.us)∨(sS w sg x∧∀ k,UB x k→Z k∧k<w.heap.size∧¬ KS sg mg vo R jv J k))
  (s2':∀ q∈J',∀ k,q.jv.ownBlock=some k→jv'.ownBlock≠some k) (s4':J'.Pairwise (fun p q=>∀ k,p.jv.ownBlock=some k→q.jv.ownBlock≠some k)) :
  KM w' sg mg vo R jv' J' n'∧ae (KS sg mg vo R jv J) w w'∧(∀ k,KS sg mg vo R jv' J' k→KS sg mg vo R jv J k∨w.heap.size≤k)∧(∀ k,KD R J' k→KD R J k∨Z k):=by
 have hgl:=lt_of_heap h.hg
 have jb:∀ k,jv'.ownBlock=some k→jv.ownBlock=some k∨w.heap.size≤k:=fun k hk=>by
  rcases hjv with x | x
  ·exact .inl (x▸hk)
  ·exact .inr (x k hk)
 have qb:∀ q∈J',∀ k,q.jv.ownBlock=some k→(∃ p∈J,p.jv.ownBlock=some k)∨w.heap.size≤k:=fun q hq k hk=>by
  rcases (pg' q hq).2 with ⟨p,hp,x⟩ | x
  ·exact .inl ⟨p,hp,x▸hk⟩
  ·exact .inr (x k hk)
 have ks:∀ k,KS sg mg vo R jv' J' k→KS sg mg vo R jv J k∨w.heap.size≤k:=by
  rintro k (rfl | hk | hk | ⟨q,hq,hk⟩)
  ·exact .inl (.inl rfl)
  ·exact .inl (.inr (.inl hk))
  ·exact (jb k hk).imp (fun x => .inr (.inr (.inl x))) id
  ·exact (qb q hq k hk).imp (fun x => .inr (.inr (.inr x))) id
 have kd:∀ k,KD R J' k→(KD R J k∨Z k)∧k<w.heap.size∧¬ KS sg mg vo R jv J k:=by
  rintro k (hk | ⟨q,hq,x,hx,hk⟩)
  ·exact⟨.inl (.inl hk),h.dlt k (.inl hk),h.data k (.inl hk)⟩
  ·rcases un' q hq x hx with ⟨p,hp,hxp⟩ | ⟨_,hu⟩
   ·have:KD R J k := .inr ⟨p,hp,x,hxp,hk⟩
    exact⟨.inl this,h.dlt k this,h.data k this⟩
   ·obtain⟨z,l,s⟩:=hu k hk
    exact⟨.inr z,l,s⟩
 have tin:∀ k,(k=sg∨jv.ownBlock=some k∨∃ q∈J,q.jv.ownBlock=some k)→KS sg mg vo R jv J k:=by
  rintro k (hk | hk | hk)
  ·exact .inl hk
  ·exact .inr (.inr (.inl hk))
  ·exact .inr (.inr (.inr hk))
 have nms:∀ k,MS mg vo R k→¬ (k=sg∨jv.ownBlock=some k∨∃ q∈J,q.jv.ownBlock=some k):=by
  rintro k hk (rfl | x | ⟨q,hq,x⟩)
  ·exact h.s1.1 hk
  ·exact (h.s2 k x).1 hk
  ·exact h.s3 q hq k x hk
 refine⟨⟨hg',h.pm.keep m nms (fun k hk x=>h.data k (.inl hk) (tin k x)),row',fun q hq=>(pg' q hq).1,fun q hq x hx=>?_,⟨h.s1.1,fun x=>?_,fun q hq x=>?_⟩,fun k hk=>⟨fun x=>?_,fun q hq x=>s2' q hq k x hk⟩,fun q hq k hk x=>?_,s4',fun k hk hs=>?_,fun k hk=>Nat.lt_of_lt_of_le (kd k hk).2.1 m.size⟩,m.mono (fun k _ hk=>tin k hk),ks,fun k hk=>(kd k hk).1⟩
 ·rcases un' q hq x hx with ⟨p,hp,hxp⟩ | ⟨hu,hb⟩
  ·exact (h.un p hp x hxp).keep m (fun k hk y=>h.data k (.inr ⟨p,hp,x,hxp,hk⟩) (tin k y))
  ·exact hu.keep m (fun k hk y=>(hb k hk).2.2 (tin k y))
 ·rcases jb sg x with y | y
  ·exact h.s1.2.1 y
  ·omega
 ·rcases qb q hq sg x with ⟨p,hp,y⟩ | y
  ·exact h.s1.2.2 p hp y
  ·omega
 ·rcases jb k hk with y | y
  ·exact (h.s2 k y).1 x
  ·have:=h.pm.lt k x;omega
 ·rcases qb q hq k hk with ⟨p,hp,y⟩ | y
  ·exact h.s3 p hp k y x
  ·have:=h.pm.lt k x;omega
 ·obtain⟨_,l,s⟩:=kd k hk
  rcases ks k hs with y | y
  ·exact s y
  ·omega
theorem KM.tick {w w':World}{sg mg:Nat}{vo jv:Value}{R:List PV}{J:List JV}{n n':Int} (h:KM w sg mg vo R jv J n) (e:w'=w.setCell ⟨sg,2,none⟩ (.int .i64 n')):KT w w' sg mg vo R jv J vo R jv J n':=by
 have m:ae (fun k=>k=sg∨jv.ownBlock=some k∨∃ q∈J,q.jv.ownBlock=some k) w w':=by rw [e];exact (ae.refl _ w).setCell (p:=⟨sg,2,none⟩) (.inl (.inl rfl)) _
 have m1:ae (fun k=>k=sg) w w':=by rw [e];exact (ae.refl (fun k=>k=sg) w).setCell (p:=⟨sg,2,none⟩) (.inl rfl) _
 obtain⟨a,b,c,d⟩:=h.chg (Z:=fun _=>False) (jv':=jv) (J':=J) (n':=n') m (by rw [e];exact heap_set h.hg 2 _) (h.row.keep m1 (fun k hk x=>h.s1.2.1 (x▸hk))) (.inl rfl) (fun q hq=>⟨(h.pg q hq).keep m1 (fun k hk x=>h.s1.2.2 q hq (x▸hk)),.inl ⟨q,hq,rfl⟩⟩) (fun q hq x hx => .inl ⟨q,hq,hx⟩) (fun q hq k hk x=>(h.s2 k x).2 q hq hk) h.s4
 exact⟨a,b,c,fun k hk=>(d k hk).imp id (fun x=>x.elim)⟩
open Go.Gl Go.RowKit
theorem Ru (w:World):Calls Tryz.prog 12 #[] w fun e w'=>∃ sg mg,e = .returned (.pointer (some ⟨sg,0,none⟩))∧KM w' sg mg (.slice none 0 0) [] (.slice none 0 0) [] 0∧ae ai w w'∧w.heap.size≤sg∧w.heap.size≤mg:=by
 go_enter Tryz.func12,Tryz.ntmps12
 go_wp2_with fail
 refine (TU w).mono ?_
 rintro e w1 ⟨g,rfl,pm,m1,hg⟩
 have hl:=pm.lt g (.inl rfl)
 have hb:=aF w1 (.cells #[.pointer (some ⟨g,0,none⟩),.slice none 0 0,.int .i64 0] 138)
 have m2:=(ae.refl ai w1).alloc (.cells #[.pointer (some ⟨g,0,none⟩),.slice none 0 0,.int .i64 0] 138)
 have PM:=lh (And.intro (pm.keep0 m2) (And.intro (m1.then0 m2) (And.intro hg hl)))
 have HB:=lh hb
 clear pm m1 hg hl hb m2
 go_wp2
 go_ret
 have ms0:∀ k,MS g (.slice none 0 0) [] k→k=g:=fun k h=>by
  rcases h with h | h | ⟨p,hp,_⟩
  ·exact h
  ·simp [Value.ownBlock] at h
  ·exact (List.not_mem_nil hp).elim
 refine⟨_,g,rfl,⟨HB.out,PM.out.1,⟨rfl,.inl ⟨rfl,rfl⟩⟩,fun q hq=>(List.not_mem_nil hq).elim,fun q hq=>(List.not_mem_nil hq).elim,⟨fun x=>by have:=ms0 _ x;have:=PM.out.2.2.2;omega,by simp [Value.ownBlock],fun q hq=>(List.not_mem_nil hq).elim⟩,fun k hk=>by simp [Value.ownBlock] at hk,fun q hq=>(List.not_mem_nil hq).elim,List.Pairwise.nil,fun k hk=>?_,fun k hk=>?_⟩,PM.out.2.1,?_,PM.out.2.2.1⟩
 ·rcases hk with ⟨p,hp,_⟩ | ⟨q,hq,_⟩
  ·exact (List.not_mem_nil hp).elim
  ·exact (List.not_mem_nil hq).elim
 ·rcases hk with ⟨p,hp,_⟩ | ⟨q,hq,_⟩
  ·exact (List.not_mem_nil hp).elim
  ·exact (List.not_mem_nil hq).elim
 ·have:=PM.out.2.2.1;have:=PM.out.2.2.2;omega
def Off (S:Nat→Prop) (q:Value) (ys:List UInt8):Prop:=ys≠[]→∀ i,q.ownBlock=some i→¬ S i
theorem QG {w w':World}{q:Value} (h:Rd w q []):Rd w' q []:=by
 refine⟨h.1,?_⟩
 rcases h.2 with x | ⟨g,off,cap,hv,h1,h2,_,_⟩
 ·exact .inl x
 ·exact .inr ⟨g,off,cap,hv,h1,h2,.inl rfl,fun j u hj=>by simp [bv] at hj⟩
theorem Off.keep {T:Nat→Prop}{w w':World}{q:Value}{ys:List UInt8} (h:Off T q ys) (hq:Rd w q ys) (hm:ae T w w'):Rd w' q ys:=by
 by_cases hy:ys=[]
 ·subst hy;exact QG hq
 ·exact hq.keep hm (h hy)
theorem Off.mono {S T:Nat→Prop}{q:Value}{ys:List UInt8} (h:Off S q ys) (hs:∀ k,T k→S k):Off T q ys:=fun hy i hi x=>h hy i hi (hs i x)
theorem KM.cells {w:World}{sg mg:Nat}{vo jv:Value}{R:List PV}{J:List JV}{n:Int} (h:KM w sg mg vo R jv J n):w.cell? ⟨sg,0,none⟩=some (.pointer (some ⟨mg,0,none⟩))∧w.cell? ⟨sg,1,none⟩=some jv∧w.cell? ⟨sg,2,none⟩=some (.int .i64 n)∧∀ o,w.frozen? ⟨sg,o,none⟩=false :=
 ⟨af h.hg 0,af h.hg 1,af h.hg 2,fun o=>bY h.hg o⟩
theorem KM.add {w:World}{sg mg:Nat}{vo jv:Value}{R:List PV}{J:List JV}{n:Int} (h:KM w sg mg vo R jv J n) (h0:0≤n) (h1:n≤4611686018427387904):Calls Tryz.prog 149 #[.pointer (some ⟨sg,2,none⟩),.int .i64 1] w fun e w'=>e = .returned (.int .i64 (n+1))∧KT w w' sg mg vo R jv J vo R jv J (n+1)∧ae (fun k=>k=sg) w w':=by
 obtain⟨_,_,c,f⟩:=h.cells
 refine (I8 c (f 2) (by omega) (by omega)).mono ?_
 rintro e w' ⟨rfl,e'⟩
 exact⟨rfl,h.tick e',by rw [e'];exact (ae.refl (fun k=>k=sg) w).setCell (p:=⟨sg,2,none⟩) (.inl rfl) _⟩
theorem P7 {w:World}{sg mg:Nat}{vo jv q:Value}{R:List PV}{J:List JV}{n:Int}{ys:List UInt8} (h:KM w sg mg vo R jv J n) (hq:Rd w q ys) (ok:gY (aI R)) (hn:R.length≤1000000) (h0:0≤n) (h1:n≤4611686018427387904) (hqs:Off (fun k=>k=sg) q ys) :
  Calls Tryz.prog 93 #[.pointer (some ⟨sg,0,none⟩),q] w fun e w'=>∃ v',e = .returned (.tuple #[v',.bool (qj (aI R) ys).isSome])∧Gl.Own w' v' ((qj (aI R) ys).getD [])∧KT w w' sg mg vo R jv J vo R jv J (n+1)∧aG w v':=by
 have ADD:=lh (h.add h0 h1)
 have HQ:=lh hq
 have OK:=lh ok
 clear h hq ok h0 h1
 have QS:=lh hqs
 clear hqs
 obtain⟨aq,cq,rfl,_⟩:=HQ.out.form
 go_enter Tryz.func93,Tryz.ntmps93
 go_wp2_with fail
 refine ADD.out.mono ?_
 rintro e w1 ⟨rfl,t1,m1⟩
 have T1:=lh t1
 have c0:=t1.km.cells.1
 have hq1:=QS.out.keep HQ.out m1
 have CG:=lh (Je t1.km.pm hq1 OK.out hn)
 clear t1 m1 hq1 ADD HQ QS
 go_wp2_with fail
 refine CG.out.mono ?_
 rintro e w2 ⟨v',rfl,o2,m2,f2⟩
 have O:=lh (And.intro o2 (And.intro (T1.out.then0 m2) (f2.of T1.out.mods.size)))
 clear o2 m2 f2 CG T1
 go_wp2
 go_ret2
 exact⟨_,rfl,O.out⟩
open Go.Gl Go.RowKit
open Go.Gl Go.RowKit
open Go.Gl Go.RowKit
end Go.Proofs.YtglkmaalpammcaaGreat
namespace Go.Gl
open Go.RowKit
section
variable {P:Program}{ops:Array Oper}{Q Q':Exit→Act→World→Prop}{S:World→Prop}{T:List Nat}
theorem TZ {o:Oper}{a:Act}{w:World}{K:Act→World→Prop} (h:o.wp P a w K (Calm Q')):o.wp P a w K (Calm Q):=by
  unfold Oper.wp at *
  generalize (execOp a.eval o).run P w=res at *
  cases res with
  | ok x w' =>
    cases x with
    | value v=>exact h
    | skip=>exact h
    | defer d=>exact h
    | enter f args =>
      refine Calls.mono h (fun e w'' he=>?_)
      cases e with
      | returned v=>exact he
      | panicked ch=>exact he.elim
      | outgrown=>exact (Calm.letsOut he).elim
    | row row args=>exact h
    | _=>exact h.elim
  | halt x w'=>cases x <;> exact h.elim
theorem I4 {i:Nat}{K:Act→World→Prop}{a:Act}{w:World} (h:wpOp P ops (Calm Q') i K a w):wpOp P ops (Calm Q) i K a w:=by
  unfold wpOp at *
  cases ho:ops[i]? with
  | none=>simpa [ho] using h
  | some o =>
    simp only [ho] at h ⊢
    by_cases hw:Region.wanted o (yielded ops a.tmps)=true
    · simp only [hw,if_true] at h ⊢
      rcases h with h | ⟨_,h⟩
      · exact .inl (TZ h)
      · exact (Calm.letsOut h).elim
    · rw [Bool.not_eq_true] at hw
      simp only [hw,Bool.false_eq_true,if_false] at h ⊢
      exact h
def lists:List (Nat × Bool)→Array Bool→Array Bool
 | [],L=>L
 | (i,_) :: l,L=>lists l (L.setIfInBounds i true)
def BO (ops:Array Oper) (T:List Nat):List (Nat × Bool)→Array Bool→Bool
 | [],_=>true
 | (i,b) :: l,listed=>(if b then Region.free .any ops listed i && (Region.ready .any ops listed).contains i && !T.contains i && T.all (fun t=>reach .any ops i 8 t) else (Region.ready .any ops listed) == [i]) && BO ops T l (listed.setIfInBounds i true)
theorem En (hs:Region.noSelect ops=true) (n:Nat) (l:List (Nat × Bool)) :
    ∀ (listed:Array Bool) (a:Act) (w:World),BO ops T l listed=true→kz .any ops listed→listed.size=ops.size→ST T S listed w→lT P ops (Calm Q') T S l a w →
      (∀ a w,kz .any ops (lists l listed)→(lists l listed).size=ops.size→ST T S (lists l listed) w→Q' .normal a w→pK P .any ops (Calm Q) T S n (lists l listed) a w)→pK P .any ops (Calm Q) T S (n+l.length) listed a w:=by
  induction l with
  | nil =>
    intro listed a w _ hcl hsz hS hw H
    exact H a w hcl hsz hS hw
  | cons x l ih =>
    obtain⟨i,b⟩:=x
    intro listed a w h hcl hsz hS hw H
    simp only [BO,Bool.and_eq_true] at h
    rw [List.length_cons,← Nat.add_assoc]
    rcases b with _ | _
    · simp only [Bool.false_eq_true,if_false] at h
      have hr:=eq_of_beq h.1
      refine⟨fun h0=>(by rw [h0] at hr;cases hr),fun j hj=>?_⟩
      rw [hr] at hj
      obtain rfl:=List.mem_singleton.1 hj
      have hjr:j∈Region.ready .any ops listed:=by rw [hr];exact List.mem_singleton.2 rfl
      refine wpOp_mono (fun a' w' h'=>?_) (I4 (Q:=Q) hw)
      have hS':ST T S (listed.setIfInBounds j true) w':=by
        intro hn
        refine h'.1 ?_
        cases ht:T.contains j with
        | false=>rfl
        | true =>
          have hm:=List.all_eq_true.1 hn j (by simpa using ht)
          have hlt:j<listed.size:=by
            obtain⟨_,o,ho,_⟩:=mem_ready.1 hjr
            rw [hsz]
            exact (Array.getElem?_eq_some_iff.1 ho).1
          simp [hlt] at hm
      exact⟨hS',ih _ _ _ h.2 (hcl.set hjr) (by simpa using hsz) hS' h'.2 H⟩
    · simp only [if_true,Bool.and_eq_true,Bool.not_eq_true'] at h
      obtain⟨o,v,ho,hy,hr⟩:=hw
      have hir:i∈Region.ready .any ops listed:=by simpa using h.1.1.1.2
      have hiT:i∉T:=by simpa using h.1.1.2
      refine wE ho hiT h.1.2 (Region.noSelect_spec hs) (fun c a w=>Calm.dead c a _ _ w) _ _ _ _ (Region.free_spec ho h.1.1.1.1) hir hcl hy hS ?_
      exact ih _ _ _ h.2 (hcl.set hir) (by simpa using hsz) (fun hn=>hS (by rwa [uM hiT] at hn)) hr H
def Two (P:Program) (ops:Array Oper) (Q:Exit→Act→World→Prop) (T:List Nat) (S:World→Prop) (i j:Nat) (l1 l2:List (Nat × Bool)):Exit→Act→World→Prop
 | .normal,a,w=>fB P ops (Calm Q) T S ((i,false) :: l1) a w∧fB P ops (Calm Q) T S ((j,false) :: l2) a w
 | _,_,_=>False
theorem Jp {a:Act}{w:World} (l:List (Nat × Bool)) (i j:Nat) (l1 l2:List (Nat × Bool)) (T:List Nat) (hm:P.follows .mixedOrders=true) (hs:Region.noSelect ops=true) (hl:l.length+1+l1.length=ops.size) (hl2:l2.length=l1.length)
  (ok:(BO ops T l (Array.replicate ops.size false) && (Region.ready .any ops (lists l (Array.replicate ops.size false)) == [i,j]) && (!T.contains i && !T.contains j) &&
   tJ .any ops T l1 ((lists l (Array.replicate ops.size false)).setIfInBounds i true) && tJ .any ops T l2 ((lists l (Array.replicate ops.size false)).setIfInBounds j true))=true)
  (hS:S w.drew) (h:fB P ops (Calm (Two P ops Q T S i j l1 l2)) T S l a w.drew):RW P ops true Q a w:=by
 refine⟨⟨hm,sV (T:=T) (S:=S) _ _ _ _ ?_⟩⟩
 simp only [Bool.and_eq_true] at ok
 obtain⟨⟨⟨⟨o1,o2⟩,o3⟩,o4⟩,o5⟩:=ok
 have o2':=eq_of_beq o2
 rw [← hl,show l.length+1+l1.length=(l1.length+1)+l.length by omega]
 rw [show ops.size=(l1.length+1)+l.length by omega] at o1 o2' o4 o5
 refine En hs _ l _ _ _ o1 ?_ (by simp;omega) (fun _=>hS) h.out (fun a w hcl hsz hS hw=>?_)
 ·intro j oj _ hl'
  simp at hl'
  exact absurd hl' (by
   rcases Nat.lt_or_ge j (l1.length+1+l.length) with h' | h'
   ·simp [h']
   ·simp [h'])
 ·refine⟨fun h0=>(by rw [o2'] at h0;cases h0),fun k hk=>?_⟩
  have hk2:=hk
  rw [o2'] at hk2
  have hfin:∀ (k:Nat) (l':List (Nat × Bool)),k∈Region.ready .any ops (lists l (Array.replicate (l1.length+1+l.length) false))→l'.length=l1.length→T.contains k=false→tJ .any ops T l' ((lists l (Array.replicate (l1.length+1+l.length) false)).setIfInBounds k true)=true→fB P ops (Calm Q) T S ((k,false) :: l') a w →
    wpOp P ops (Calm Q) k (fun a' w'=>ST T S ((lists l (Array.replicate (l1.length+1+l.length) false)).setIfInBounds k true) w'∧pK P .any ops (Calm Q) T S l1.length ((lists l (Array.replicate (l1.length+1+l.length) false)).setIfInBounds k true) a' w') a w:=by
   intro k l' hk hl' hT ok' hw'
   refine wpOp_mono (fun a' w' h'=>?_) hw'.out
   have hS':ST T S ((lists l (Array.replicate (l1.length+1+l.length) false)).setIfInBounds k true) w':=fun _=>h'.1 hT
   refine⟨hS',?_⟩
   have:=vN hs Calm.dead l' _ _ _ ok' (hcl.set hk) (by simpa using hsz) hS' h'.2
   rwa [hl'] at this
  rcases List.mem_cons.1 hk2 with rfl | hk3
  ·exact hfin _ l1 hk rfl (by simpa using o3.1) o4 hw.1
  ·obtain rfl:=List.mem_singleton.1 hk3
   exact hfin _ l2 hk hl2 (by simpa using o3.2) o5 hw.2
theorem zi {i j:Nat}{l1 l2:List (Nat × Bool)}{a:Act}{w:World} (h1:fB P ops (Calm Q) T S ((i,false) :: l1) a w) (h2:fB P ops (Calm Q) T S ((j,false) :: l2) a w):fB P ops (Calm (Two P ops Q T S i j l1 l2)) T S [] a w:=⟨⟨h1,h2⟩⟩
end
end Go.Gl
namespace Go.Proofs.YtglkmaalpammcaaGreat
open Go.Gl Go.RowKit
open Go.Gl Go.RowKit
theorem Gx {w:World}{n c:Nat}{xs:List UInt8} (h:Rd w (.slice none n c) xs):xs=[]∧n=0∧c=0:=by
 rcases h.open with ⟨h0,rfl⟩ | ⟨g,off,cap,hv,_⟩
 ·exact⟨rfl,h0.none⟩
 ·simp at hv
theorem EJ {w:World}{x y:Value}{xs ys:List UInt8} (hx:Rd w x xs) (hy:Rd w y ys):Calls Tryz.prog 194 #[x,y] w fun e w'=>e = .returned (.bool (dh ys xs))∧w'=w:=by
  obtain⟨a2,c2,rfl,l2⟩:=hy.form
  obtain⟨a1,c1,hv,l1⟩:=hx.form
  by_cases hl:ys.length≤xs.length
  · have hc:xs.length≤c1:=by
      rcases hx.open with ⟨h0,rfl⟩ | ⟨g,off,cap,hv',h1,_⟩
      · simp
      · rw [hv] at hv';injection hv' with _ _ h3;omega
    subst hv
    cases a1 with
    | none =>
      obtain⟨rfl,_,rfl⟩:=Gx hx
      obtain rfl:ys=[]:=List.eq_nil_of_length_eq_zero (by simpa using hl)
      have HE:=lh (xE (Rd.nil w) hy)
      simp only [List.length_nil] at HE ⊢
      clear hx hy
      go_enter Tryz.func194,Tryz.ntmps194
      go_wp2_with fail
      refine HE.out.mono ?_
      rintro e w2 ⟨rfl,rfl⟩
      go_wp2
      go_ret
      exact⟨rfl,rfl⟩
    | some a1 =>
      rcases hx.open with ⟨h,rfl⟩ | ⟨g,off,cap,hv,hrest⟩
      · clear hc l1
        rcases h with h | ⟨g,off,s,h⟩
        · simp at h
        · simp only [List.length_nil,Value.slice.injEq,Option.some.injEq,true_and] at h
          obtain⟨rfl,rfl⟩:=h
          obtain rfl:ys=[]:=List.eq_nil_of_length_eq_zero (by simpa using hl)
          have HE:=lh (xE hx hy)
          simp only [List.length_nil] at HE ⊢
          clear hx hy
          go_enter Tryz.func194,Tryz.ntmps194
          go_wp2_with fail
          refine HE.out.mono ?_
          rintro e w2 ⟨rfl,rfl⟩
          go_wp2
          go_ret
          exact⟨rfl,rfl⟩
      obtain rfl:a1=⟨g,off,none⟩:=by simp at hv;exact hv.1
      have ht:=hx.take hl
      have HE:=lh (xE ht hy)
      have hb:dh ys xs=decide (xs.take ys.length=ys):=rfl
      rw [hb]
      clear hx hy ht hb hrest hv
      generalize decide (xs.take ys.length=ys)=b at *
      generalize ys.length=m at *
      generalize xs.length=n at *
      go_enter Tryz.func194,Tryz.ntmps194
      go_wp2_with fail
      refine HE.out.mono ?_
      rintro e w2 ⟨rfl,rfl⟩
      go_wp2
      go_ret
      exact⟨rfl,rfl⟩
  · have:dh ys xs=false:=by
      unfold dh
      refine decide_eq_false (fun e=>?_)
      have:=congrArg List.length e
      rw [List.length_take] at this
      omega
    rw [this]
    subst hv
    clear hx hy this
    generalize ys.length=m at *
    generalize xs.length=n at *
    go_enter Tryz.func194,Tryz.ntmps194
    go_wp2
    go_ret
    exact⟨rfl,rfl⟩
theorem Es {w:World}{q:Value}{xs:List UInt8} (hq:Rd w q xs) (hl:xs.length≤1000000):Calls Tryz.prog 191 #[q] w fun e w'=>∃ v',e = .returned v'∧Gl.Own w' v' xs∧ae ai w w'∧aG w v':=by
  obtain⟨a,c,rfl,_⟩:=hq.form
  cases a with
  | none =>
    obtain⟨rfl,_,rfl⟩:=Gx hq
    have hnil:∀ W,(binOp .eql 91 (.slice none 0 0) (.slice none 0 0)).run Tryz.prog W = .ok (.bool true) W:=fun W=>Lib.run_eql_slice_nil_nil W _ _ Tryz.underlying91
    simp only [List.length_nil]
    clear hq
    go_enter Tryz.func191,Tryz.ntmps191
    go_wp2
    go_ret
    exact⟨_,rfl,Gl.Own.nil _,ae.refl _ _,fun k hk=>by simp [Value.ownBlock] at hk⟩
  | some a =>
    have hnil:∀ W,(binOp .eql 91 (.slice (some a) xs.length c) (.slice none 0 0)).run Tryz.prog W = .ok (.bool false) W:=fun W=>Lib.run_eql_slice_some_nil W _ _ _ Tryz.underlying91
    have HQ:=lh hq
    clear hq
    have HL:=lh hl
    clear hl
    go_enter Tryz.func191,Tryz.ntmps191
    go_wp2_with (at_builtin;refine stop ?_)
    unfold Stop
    have m1:=(ae.refl ai w).alloc (.cells #[] 5)
    have ob:=aF w (.cells #[] 5)
    refine jr rfl rfl [] xs (v := .slice (some ⟨w.heap.size,0,none⟩) 0 0) ⟨rfl,.inr ⟨_,_,_,_,rfl,ob,Nat.le_refl _,by simp [maxLen],by simp,fun j u hj=>by simp [bv] at hj⟩⟩ (HQ.out.keep m1 (fun _ _ x=>x)) rfl rfl (by have:=HL.out;simp;omega) ?_
    intro v' w' h1 h2 h3
    have h1:=lh h1
    have h2:=lh (show ae ai w w' from m1.trans h2 (fun _ _ x=>x) (fun i hi h=>by simp [eY,Value.ownBlock] at h;omega))
    have h3:Hid (aG w v'):=lh (by
      rcases h3 with h3 | h3
      · intro k hk;rw [h3] at hk;simp [Value.ownBlock] at hk;omega
      · exact h3.of (by simp))
    clear HQ m1 ob
    go_wp2
    go_ret
    exact⟨_,rfl,h1.out,h2.out,h3.out⟩
open Go.Gl Go.RowKit
theorem KM.put {w wa w8 w9:World}{sg mg b off N cap:Nat}{vo jv jv' v8:Value}{R:List PV}{A B:List JV}{q0:JV}{xs:List UV}{n:Int}{Z:Nat→Prop} (h:KM w sg mg vo R jv (A ++ q0 :: B) n)
  (ejv:jv = .slice (some ⟨b,off,none⟩) N cap) (ejv':jv' = .slice (some ⟨b,off,none⟩) (A.length+1) cap) (ma:ae (fun k=>k=sg) w wa) (hga:wa.heap[sg]?=some (.cells #[.pointer (some ⟨mg,0,none⟩),jv',.int .i64 n] 138 (0,0)))
  (o8:bC w8 302 1 v8 (q0.us.length+xs.length) (q0.us.map (·.c) ++ xs.map (·.c))) (m8:ae (eY q0.jv) wa w8) (f8:v8.ownBlock=q0.jv.ownBlock∨aG wa v8) (e:w9=w8.setCell ⟨b,off+A.length,none⟩ v8)
  (hx:∀ x∈xs,(∃ p∈A ++ q0 :: B,x∈p.us)∨(sS w sg x∧∀ k,UB x k→Z k∧k<w.heap.size∧¬ KS sg mg vo R jv (A ++ q0 :: B) k)) :
  KM w9 sg mg vo R jv' (A ++ [⟨v8,q0.us ++ xs⟩]) n∧ae (KS sg mg vo R jv (A ++ q0 :: B)) w w9∧(∀ k,KS sg mg vo R jv' (A ++ [⟨v8,q0.us ++ xs⟩]) k→KS sg mg vo R jv (A ++ q0 :: B) k∨w.heap.size≤k)∧(∀ k,KD R (A ++ [⟨v8,q0.us ++ xs⟩]) k→KD R (A ++ q0 :: B) k∨Z k):=by
 have hq0:q0∈A ++ q0 :: B:=List.mem_append_right _ (List.mem_cons_self ..)
 have hA:∀ q∈A,q∈A ++ q0 :: B:=fun q hq=>List.mem_append_left _ hq
 have bj:jv.ownBlock=some b:=by rw [ejv];rfl
 have bj':jv'.ownBlock=some b:=by rw [ejv'];rfl
 have bs:b≠sg:=fun x=>h.s1.2.1 (by rw [bj,x])
 have bq:∀ q∈A ++ q0 :: B,q.jv.ownBlock≠some b:=fun q hq=>(h.s2 b bj).2 q hq
 have bl:b<w.heap.size:=h.row.lt b bj
 have qs:∀ q∈A ++ q0 :: B,q.jv.ownBlock≠some sg:=h.s1.2.2
 have qA:∀ q∈A,∀ k,q.jv.ownBlock=some k→q0.jv.ownBlock≠some k:=fun q hq k hk=>(List.pairwise_append.1 h.s4).2.2 q hq q0 (List.mem_cons_self ..) k hk
 have sz:=ma.size
 have v8b:∀ k,v8.ownBlock=some k→q0.jv.ownBlock=some k∨w.heap.size≤k:=fun k hk=>by
  rcases f8 with x | x
  ·exact .inl (x▸hk)
  ·exact .inr (Nat.le_trans sz (x k hk))
 have m9:ae (fun k=>k=b) w8 w9:=by rw [e];exact (ae.refl (fun k=>k=b) w8).setCell (p:=⟨b,_,none⟩) (.inl rfl) _
 have m:ae (fun k=>k=sg∨jv.ownBlock=some k∨∃ q∈A ++ q0 :: B,q.jv.ownBlock=some k) w w9:=by
  have m1:ae (fun k=>k=sg∨q0.jv.ownBlock=some k) w w8:=ma.trans m8 (fun k _ hk => .inl hk) (fun k _ hk => .inr hk)
  exact m1.trans m9 (fun k _ hk=>by
   rcases hk with hk | hk
   ·exact .inl hk
   ·exact .inr (.inr ⟨q0,hq0,hk⟩)) (fun k _ hk => .inr (.inl (by rw [bj,hk])))
 have m18:ae (fun k=>k=sg∨q0.jv.ownBlock=some k) w w8:=ma.trans m8 (fun k _ hk => .inl hk) (fun k _ hk => .inr hk)
 refine h.chg (Z:=Z) m ?_ ?_ (.inl (by rw [bj,bj'])) ?_ ?_ ?_ ?_
 ·refine m9.heap (m8.heap hga (fun x=>qs q0 hq0 x)) (fun x=>bs x.symm)
 ·have hrow:=h.row
  rw [ejv] at hrow
  rcases hrow.ob with ⟨h0,_⟩ | ⟨b',off',cap',hv,ob⟩
  ·cases h0
  ·obtain⟨⟨rfl,rfl⟩,hN,rfl⟩:(b=b'∧off=off')∧N=(A ++ q0 :: B).length∧cap=cap':=by simpa using hv
   have ob8:=ob.keep m18 (fun hk=>by
    rcases hk with hk | hk
    ·exact bs hk
    ·exact bq q0 hq0 hk)
   have hn:=ob.hn
   have:=ob8.set A.length [v8] (by simp at hn ⊢;omega) (A ++ [(⟨v8,q0.us ++ xs⟩:JV)]).length ((A ++ [(⟨v8,q0.us ++ xs⟩:JV)]).map (·.jv)) (by simp at hn ⊢;omega) (by simp) (fun j u hj=>by
    rw [List.map_append] at hj
    by_cases hjA:j<A.length
    ·rw [if_neg (by omega),List.map_append,List.getElem?_append_left (by simpa using hjA)]
     rw [List.getElem?_append_left (by simpa using hjA)] at hj
     exact hj
    ·rw [List.getElem?_append_right (by simpa using Nat.le_of_not_lt hjA)] at hj
     simp only [List.length_map] at hj
     have hj0:j=A.length:=by
      rcases Nat.eq_zero_or_pos (j - A.length) with h0 | h0
      ·omega
      ·rw [show j - A.length=(j - A.length - 1)+1 by omega] at hj
       simp at hj
     subst hj0
     rw [if_pos (by simp)]
     rw [Nat.sub_self] at hj ⊢
     exact hj)
   rw [e,ejv']
   have e2:(A ++ [(⟨v8,q0.us ++ xs⟩:JV)]).length=A.length+1:=by simp
   have h3:=this.own
   rw [e2] at h3 ⊢
   exact h3
 ·intro q hq
  rcases List.mem_append.1 hq with hq | hq
  ·refine⟨((h.pg q (hA q hq)).keep m18 (fun k hk=>?_)).keep m9 (fun k hk x=>bq q (hA q hq) (x▸hk)),.inl ⟨q,hA q hq,rfl⟩⟩
   rintro (x | x)
   ·exact qs q (hA q hq) (x▸hk)
   ·exact qA q hq k hk x
  ·obtain rfl:=List.mem_singleton.1 hq
   refine⟨?_,?_⟩
   ·have o9:=o8.keep m9 (fun k hk x=>by
     subst x
     rcases v8b k hk with y | y
     ·exact bq q0 hq0 y
     ·omega)
    simpa using o9
   ·rcases f8 with x | x
    ·exact .inl ⟨q0,hq0,x⟩
    ·exact .inr (x.of sz)
 ·intro q hq x hxq
  rcases List.mem_append.1 hq with hq | hq
  ·exact .inl ⟨q,hA q hq,hxq⟩
  ·obtain rfl:=List.mem_singleton.1 hq
   rcases List.mem_append.1 hxq with hxq | hxq
   ·exact .inl ⟨q0,hq0,hxq⟩
   ·exact hx x hxq
 ·intro q hq k hk x
  rw [bj'] at x
  obtain rfl:=Option.some.inj x
  rcases List.mem_append.1 hq with hq | hq
  ·exact bq q (hA q hq) hk
  ·obtain rfl:=List.mem_singleton.1 hq
   rcases v8b _ hk with y | y
   ·exact bq q0 hq0 y
   ·omega
 ·refine List.pairwise_append.2 ⟨(List.pairwise_append.1 h.s4).1,List.pairwise_singleton _ _,fun p hp q hq k hk x=>?_⟩
  obtain rfl:=List.mem_singleton.1 hq
  rcases v8b k x with y | y
  ·exact qA p hp k hk y
  ·have:=(h.pg p (hA p hp)).lt k hk
   omega
open Go.Gl Go.RowKit
theorem infoC:(Tryz.prog.info? 302).map (fun i=>(i.zero,i.size,i.bytes))=some (some (.agg #[.nilFunc]),1,8):=by kernel_rfl
section
variable {x0 x1 x2 x3 x4 x5 x6 x7 x8 x9 bg bn bi aY aU aS aT aW aZ aX bu bz bF bG bH bM bT bQ cO cZ di dw eH eP dW dQ dR dX dF dM dN dG dH dI dJ dK dL dE:Value}{df:List Deferred}{Q:Exit→Act→World→Prop}
theorem kvn4t {w:World}{sbx kbx sg mg:Nat}{kv:Value} (b1:w.heap[sbx]?=some (.cells #[.pointer (some ⟨sg,0,none⟩)] 26 (0,0))) (b2:w.heap[kbx]?=some (.cells #[kv] 91 (0,0))) (b3:w.cell? ⟨sg,0,none⟩=some (.pointer (some ⟨mg,0,none⟩))) (b4:sg<w.heap.size) {xs:List UInt8} (hC:∀ b',ae ai w b'→Calls Tryz.prog 162 #[.pointer (some ⟨mg,0,none⟩),kv] b' fun e w'=>∃ v',e = .returned (.tuple #[v',.bool true])∧Gl.Own w' v' xs∧ae ai b' w'∧aG b' v')
  (hK:∀ (jC kG kH mi jP jD jl jQ jw:Value) (obx:Nat) (v7:Value) (w':World),w.heap.size≤obx→w'.heap[obx]?=some (.cells #[v7] 91 (0,0))→Gl.Own w' v7 xs→aG w v7→ae ai w w'→v7.ownBlock≠some obx→Q .normal ⟨#[x0,x1,.pointer (some ⟨sbx,0,none⟩),.pointer (some ⟨kbx,0,none⟩),x4,.pointer (some ⟨obx,0,none⟩),.bool true,x7,x8,x9,bg,bn,bi,aY,aU,aS,aT,jC,kG,kH,mi,jP,jD,jl,jQ,jw,bT,bQ,cO,cZ,di,dw,eH,eP,dW,dQ,dR,dX,dF,dM,dN,dG,dH,dI,dJ,dK,dL,dE],df⟩ w'):RW Tryz.prog (aH 4 Tryz.f150) true Q ⟨#[x0,x1,.pointer (some ⟨sbx,0,none⟩),.pointer (some ⟨kbx,0,none⟩),x4,x5,x6,x7,x8,x9,bg,bn,bi,aY,aU,aS,aT,aW,aZ,aX,bu,bz,bF,bG,bH,bM,bT,bQ,cO,cZ,di,dw,eH,eP,dW,dQ,dR,dX,dF,dM,dN,dG,dH,dI,dJ,dK,dL,dE],df⟩ w:=by
 have HQ:=lh hK
 clear hK
 have HC:=lh hC
 have Q1:=lh (fun b' (hm:ae ai w b')=>af (hm.heap b1 (fun x=>x)) 0)
 have Q2:=lh (fun b' (hm:ae ai w b')=>af (hm.heap b2 (fun x=>x)) 0)
 have Q3:=lh (fun b' (hm:ae ai w b')=>(hm.cellAt b4 (fun x=>x) 0).trans b3)
 clear hC b1 b2 b3
 have MR:=lh ((ae.refl ai w).drew)
 refine Jp (S:=fun b'=>ae ai w b') [(0,true),(1,true),(2,true),(3,true),(4,true)] 5 9 [(6,true),(7,true),(8,true),(9,false),(10,false),(11,true)] [(5,false),(6,true),(7,true),(8,true),(10,false),(11,true)] [] (by kernel_rfl) (by kernel_rfl) (by kernel_rfl) (by kernel_rfl) (by kernel_rfl) MR.out ?_
 refine ah (aj sg 0) (some 18) (ki (by kernel_rfl)) (fun bb hb=>aB (x:=(.tmp 2)) (by kernel_rfl) (by kernel_rfl) (aO (Q1.out _ hb) Tryz.underlying26 rfl)) ?_
 refine ag [1,2] [aj sg 0,aj sg 0] rfl (by kernel_rfl) (fun _=>by kernel_rfl) ?_
 refine ah (aj mg 0) (some 21) (ki (by kernel_rfl)) (fun bb hb=>aB (x:=(.tmp 20)) (by kernel_rfl) (by kernel_rfl) (aO (Q3.out _ hb) Tryz.underlying129 rfl)) ?_
 refine ah (kv) (some 22) (ki (by kernel_rfl)) (fun bb hb=>aB (x:=(.tmp 3)) (by kernel_rfl) (by kernel_rfl) (aO (Q2.out _ hb) Tryz.underlying91 rfl)) ?_
 refine zi ?_ ?_
 ·skip
  refine az (some 23) (ki (by kernel_rfl)) (HC.out _ MR.out) (fun _=>by kernel_rfl) ?_
  rintro r w7 ⟨v7,rfl,o7,m7,f7⟩
  have F7:=f7.of MR.out.size
  replace MR:=lh (MR.out.then0 m7)
  obtain⟨a7,c7,e7,_⟩:=o7.rd.form
  have h17:v7.oneCell'=true:=by rw [e7];rfl
  clear e7
  have F7L:=o7.lt
  refine⟨_,rfl,fun _=>MR.out,?_⟩
  refine ag [6,7,8] [.tuple #[v7,.bool true],v7,.bool true] rfl (by kernel_rfl) (fun _=>by kernel_rfl) ?_
  refine fU (.cells #[.slice none 0 0] 91) (some 5) (ki (by kernel_rfl)) (by kernel_rfl) ?_
  intro k1 w_k1 hk_k1 hO_k1 hm_k1 hl_k1
  have MZ:=MR.out.size
  replace MR:=lh (MR.out.then0 hm_k1)
  refine⟨fun _=>MR.out,?_⟩
  have o7:=o7.keep hm_k1 (fun _ _ x=>x)
  have N7:v7.ownBlock≠some k1:=fun e=>by have:=F7L _ e;omega
  refine gU (ty:=91) (x:=(.tmp 5)) (y:=(.tmp 24)) (g:=k1) (off:=0) (v:=v7) none (ki (by kernel_rfl)) (by kernel_rfl) (by kernel_rfl) (by kernel_rfl) (by kernel_rfl) (by rw [af hO_k1];rfl) (bY hO_k1 _) (h17) ?_
  intro w9 hw9
  refine⟨(fun h=>by first | (cases h;done) | exact (by rw [hw9];exact MR.out.setCell (p:=⟨k1,0,none⟩) (.inr (show w.heap.size≤k1 by omega)) v7)),?_⟩
  refine ag [11] [.bool true] rfl (by kernel_rfl) (fun _=>by kernel_rfl) ?_
  exact aA (aQ (K:=Q .normal) (by kernel_rfl) (HQ.out (.tuple #[v7,.bool true]) (aj sg 0) (aj sg 0) (aj sg 0) (aj mg 0) (kv) (.tuple #[v7,.bool true]) (v7) (.bool true) k1 v7 w9 (by omega) (by rw [hw9];exact heap_set hO_k1 0 v7) (Gl.Own.keep (S:=fun k=>k=k1) o7 (by rw [hw9];exact (ae.refl (fun k=>k=k1) _).setCell (p:=⟨k1,0,none⟩) (.inl rfl) v7) (fun k hk e=>N7 (e▸hk))) F7 (by rw [hw9];exact MR.out.setCell (p:=⟨k1,0,none⟩) (.inr (show w.heap.size≤k1 by omega)) v7) N7))
 ·skip
  refine fU (.cells #[.slice none 0 0] 91) (some 5) (ki (by kernel_rfl)) (by kernel_rfl) ?_
  intro k1 w_k1 hk_k1 hO_k1 hm_k1 hl_k1
  have MZ:=MR.out.size
  replace MR:=lh (MR.out.then0 hm_k1)
  refine⟨fun _=>MR.out,?_⟩
  refine az (some 23) (ki (by kernel_rfl)) (HC.out _ MR.out) (fun _=>by kernel_rfl) ?_
  rintro r w7 ⟨v7,rfl,o7,m7,f7⟩
  have F7:=f7.of MR.out.size
  have hO_k1:=m7.heap hO_k1 (fun x=>x)
  have N7:v7.ownBlock≠some k1:=fun e=>by have:=f7 _ e;omega
  have hs7:=m7.size
  replace MR:=lh (MR.out.then0 m7)
  obtain⟨a7,c7,e7,_⟩:=o7.rd.form
  have h17:v7.oneCell'=true:=by rw [e7];rfl
  clear e7
  refine⟨_,rfl,fun _=>MR.out,?_⟩
  refine ag [6,7,8] [.tuple #[v7,.bool true],v7,.bool true] rfl (by kernel_rfl) (fun _=>by kernel_rfl) ?_
  refine gU (ty:=91) (x:=(.tmp 5)) (y:=(.tmp 24)) (g:=k1) (off:=0) (v:=v7) none (ki (by kernel_rfl)) (by kernel_rfl) (by kernel_rfl) (by kernel_rfl) (by kernel_rfl) (by rw [af hO_k1];rfl) (bY hO_k1 _) (h17) ?_
  intro w9 hw9
  refine⟨(fun h=>by first | (cases h;done) | exact (by rw [hw9];exact MR.out.setCell (p:=⟨k1,0,none⟩) (.inr (show w.heap.size≤k1 by omega)) v7)),?_⟩
  refine ag [11] [.bool true] rfl (by kernel_rfl) (fun _=>by kernel_rfl) ?_
  exact aA (aQ (K:=Q .normal) (by kernel_rfl) (HQ.out (.tuple #[v7,.bool true]) (aj sg 0) (aj sg 0) (aj sg 0) (aj mg 0) (kv) (.tuple #[v7,.bool true]) (v7) (.bool true) k1 v7 w9 (by omega) (by rw [hw9];exact heap_set hO_k1 0 v7) (Gl.Own.keep (S:=fun k=>k=k1) o7 (by rw [hw9];exact (ae.refl (fun k=>k=k1) _).setCell (p:=⟨k1,0,none⟩) (.inl rfl) v7) (fun k hk e=>N7 (e▸hk))) F7 (by rw [hw9];exact MR.out.setCell (p:=⟨k1,0,none⟩) (.inr (show w.heap.size≤k1 by omega)) v7) N7))
theorem kvn4f {w:World}{sbx kbx sg mg:Nat}{kv:Value} (b1:w.heap[sbx]?=some (.cells #[.pointer (some ⟨sg,0,none⟩)] 26 (0,0))) (b2:w.heap[kbx]?=some (.cells #[kv] 91 (0,0))) (b3:w.cell? ⟨sg,0,none⟩=some (.pointer (some ⟨mg,0,none⟩))) (b4:sg<w.heap.size) {xs:List UInt8} (hC:∀ b',ae ai w b'→Calls Tryz.prog 162 #[.pointer (some ⟨mg,0,none⟩),kv] b' fun e w'=>∃ v',e = .returned (.tuple #[v',.bool false])∧Gl.Own w' v' xs∧ae ai b' w'∧aG b' v')
  (hK:∀ (jC kG kH mi jP jD jl jQ jw:Value) (obx:Nat) (v7:Value) (w':World),w.heap.size≤obx→w'.heap[obx]?=some (.cells #[v7] 91 (0,0))→Gl.Own w' v7 xs→aG w v7→ae ai w w'→v7.ownBlock≠some obx→Q .normal ⟨#[x0,x1,.pointer (some ⟨sbx,0,none⟩),.pointer (some ⟨kbx,0,none⟩),x4,.pointer (some ⟨obx,0,none⟩),.bool false,x7,x8,x9,bg,bn,bi,aY,aU,aS,aT,jC,kG,kH,mi,jP,jD,jl,jQ,jw,bT,bQ,cO,cZ,di,dw,eH,eP,dW,dQ,dR,dX,dF,dM,dN,dG,dH,dI,dJ,dK,dL,dE],df⟩ w'):RW Tryz.prog (aH 4 Tryz.f150) true Q ⟨#[x0,x1,.pointer (some ⟨sbx,0,none⟩),.pointer (some ⟨kbx,0,none⟩),x4,x5,x6,x7,x8,x9,bg,bn,bi,aY,aU,aS,aT,aW,aZ,aX,bu,bz,bF,bG,bH,bM,bT,bQ,cO,cZ,di,dw,eH,eP,dW,dQ,dR,dX,dF,dM,dN,dG,dH,dI,dJ,dK,dL,dE],df⟩ w:=by
 have HQ:=lh hK
 clear hK
 have HC:=lh hC
 have Q1:=lh (fun b' (hm:ae ai w b')=>af (hm.heap b1 (fun x=>x)) 0)
 have Q2:=lh (fun b' (hm:ae ai w b')=>af (hm.heap b2 (fun x=>x)) 0)
 have Q3:=lh (fun b' (hm:ae ai w b')=>(hm.cellAt b4 (fun x=>x) 0).trans b3)
 clear hC b1 b2 b3
 have MR:=lh ((ae.refl ai w).drew)
 refine Jp (S:=fun b'=>ae ai w b') [(0,true),(1,true),(2,true),(3,true),(4,true)] 5 9 [(6,true),(7,true),(8,true),(9,false),(10,false),(11,true)] [(5,false),(6,true),(7,true),(8,true),(10,false),(11,true)] [] (by kernel_rfl) (by kernel_rfl) (by kernel_rfl) (by kernel_rfl) (by kernel_rfl) MR.out ?_
 refine ah (aj sg 0) (some 18) (ki (by kernel_rfl)) (fun bb hb=>aB (x:=(.tmp 2)) (by kernel_rfl) (by kernel_rfl) (aO (Q1.out _ hb) Tryz.underlying26 rfl)) ?_
 refine ag [1,2] [aj sg 0,aj sg 0] rfl (by kernel_rfl) (fun _=>by kernel_rfl) ?_
 refine ah (aj mg 0) (some 21) (ki (by kernel_rfl)) (fun bb hb=>aB (x:=(.tmp 20)) (by kernel_rfl) (by kernel_rfl) (aO (Q3.out _ hb) Tryz.underlying129 rfl)) ?_
 refine ah (kv) (some 22) (ki (by kernel_rfl)) (fun bb hb=>aB (x:=(.tmp 3)) (by kernel_rfl) (by kernel_rfl) (aO (Q2.out _ hb) Tryz.underlying91 rfl)) ?_
 refine zi ?_ ?_
 ·skip
  refine az (some 23) (ki (by kernel_rfl)) (HC.out _ MR.out) (fun _=>by kernel_rfl) ?_
  rintro r w7 ⟨v7,rfl,o7,m7,f7⟩
  have F7:=f7.of MR.out.size
  replace MR:=lh (MR.out.then0 m7)
  obtain⟨a7,c7,e7,_⟩:=o7.rd.form
  have h17:v7.oneCell'=true:=by rw [e7];rfl
  clear e7
  have F7L:=o7.lt
  refine⟨_,rfl,fun _=>MR.out,?_⟩
  refine ag [6,7,8] [.tuple #[v7,.bool false],v7,.bool false] rfl (by kernel_rfl) (fun _=>by kernel_rfl) ?_
  refine fU (.cells #[.slice none 0 0] 91) (some 5) (ki (by kernel_rfl)) (by kernel_rfl) ?_
  intro k1 w_k1 hk_k1 hO_k1 hm_k1 hl_k1
  have MZ:=MR.out.size
  replace MR:=lh (MR.out.then0 hm_k1)
  refine⟨fun _=>MR.out,?_⟩
  have o7:=o7.keep hm_k1 (fun _ _ x=>x)
  have N7:v7.ownBlock≠some k1:=fun e=>by have:=F7L _ e;omega
  refine gU (ty:=91) (x:=(.tmp 5)) (y:=(.tmp 24)) (g:=k1) (off:=0) (v:=v7) none (ki (by kernel_rfl)) (by kernel_rfl) (by kernel_rfl) (by kernel_rfl) (by kernel_rfl) (by rw [af hO_k1];rfl) (bY hO_k1 _) (h17) ?_
  intro w9 hw9
  refine⟨(fun h=>by first | (cases h;done) | exact (by rw [hw9];exact MR.out.setCell (p:=⟨k1,0,none⟩) (.inr (show w.heap.size≤k1 by omega)) v7)),?_⟩
  refine ag [11] [.bool false] rfl (by kernel_rfl) (fun _=>by kernel_rfl) ?_
  exact aA (aQ (K:=Q .normal) (by kernel_rfl) (HQ.out (.tuple #[v7,.bool false]) (aj sg 0) (aj sg 0) (aj sg 0) (aj mg 0) (kv) (.tuple #[v7,.bool false]) (v7) (.bool false) k1 v7 w9 (by omega) (by rw [hw9];exact heap_set hO_k1 0 v7) (Gl.Own.keep (S:=fun k=>k=k1) o7 (by rw [hw9];exact (ae.refl (fun k=>k=k1) _).setCell (p:=⟨k1,0,none⟩) (.inl rfl) v7) (fun k hk e=>N7 (e▸hk))) F7 (by rw [hw9];exact MR.out.setCell (p:=⟨k1,0,none⟩) (.inr (show w.heap.size≤k1 by omega)) v7) N7))
 ·skip
  refine fU (.cells #[.slice none 0 0] 91) (some 5) (ki (by kernel_rfl)) (by kernel_rfl) ?_
  intro k1 w_k1 hk_k1 hO_k1 hm_k1 hl_k1
  have MZ:=MR.out.size
  replace MR:=lh (MR.out.then0 hm_k1)
  refine⟨fun _=>MR.out,?_⟩
  refine az (some 23) (ki (by kernel_rfl)) (HC.out _ MR.out) (fun _=>by kernel_rfl) ?_
  rintro r w7 ⟨v7,rfl,o7,m7,f7⟩
  have F7:=f7.of MR.out.size
  have hO_k1:=m7.heap hO_k1 (fun x=>x)
  have N7:v7.ownBlock≠some k1:=fun e=>by have:=f7 _ e;omega
  have hs7:=m7.size
  replace MR:=lh (MR.out.then0 m7)
  obtain⟨a7,c7,e7,_⟩:=o7.rd.form
  have h17:v7.oneCell'=true:=by rw [e7];rfl
  clear e7
  refine⟨_,rfl,fun _=>MR.out,?_⟩
  refine ag [6,7,8] [.tuple #[v7,.bool false],v7,.bool false] rfl (by kernel_rfl) (fun _=>by kernel_rfl) ?_
  refine gU (ty:=91) (x:=(.tmp 5)) (y:=(.tmp 24)) (g:=k1) (off:=0) (v:=v7) none (ki (by kernel_rfl)) (by kernel_rfl) (by kernel_rfl) (by kernel_rfl) (by kernel_rfl) (by rw [af hO_k1];rfl) (bY hO_k1 _) (h17) ?_
  intro w9 hw9
  refine⟨(fun h=>by first | (cases h;done) | exact (by rw [hw9];exact MR.out.setCell (p:=⟨k1,0,none⟩) (.inr (show w.heap.size≤k1 by omega)) v7)),?_⟩
  refine ag [11] [.bool false] rfl (by kernel_rfl) (fun _=>by kernel_rfl) ?_
  exact aA (aQ (K:=Q .normal) (by kernel_rfl) (HQ.out (.tuple #[v7,.bool false]) (aj sg 0) (aj sg 0) (aj sg 0) (aj mg 0) (kv) (.tuple #[v7,.bool false]) (v7) (.bool false) k1 v7 w9 (by omega) (by rw [hw9];exact heap_set hO_k1 0 v7) (Gl.Own.keep (S:=fun k=>k=k1) o7 (by rw [hw9];exact (ae.refl (fun k=>k=k1) _).setCell (p:=⟨k1,0,none⟩) (.inl rfl) v7) (fun k hk e=>N7 (e▸hk))) F7 (by rw [hw9];exact MR.out.setCell (p:=⟨k1,0,none⟩) (.inr (show w.heap.size≤k1 by omega)) v7) N7))
theorem kvn8 {w:World}{sbx sg b off m cap l:Nat}{qv:Value}{fn:Nat}{bd:Array Value}{pvs us:List Value} (b1:w.heap[sbx]?=some (.cells #[.pointer (some ⟨sg,0,none⟩)] 26 (0,0))) (b3:w.cell? ⟨sg,1,none⟩=some (.slice (some ⟨b,off,none⟩) (m+1) cap)) (b4:sg<w.heap.size) (hB:OB w 300 1 b off (m+1) cap pvs) (hp:pvs[m]?=some qv) (hQ:bC w 302 1 qv l us) (hm:m≤1000000) (hl:l≤1000000) (hqb:¬ eY qv b) (hqs:¬ eY qv sbx) (hqg:¬ eY qv sg)
  (hK:∀ (mM mO qO qP qQ y34 y35 y36 y37 y38 y39 y40 y41 y42 y43 y44 y45 y46 y47:Value) (v8:Value) (w8:World) (w':World),bC w8 302 1 v8 (l+1) (us ++ [.func (.func fn) #[] bd])→ae (eY qv) w w8→(v8.ownBlock=qv.ownBlock∨aG w v8)→w'=w8.setCell ⟨b,off+m,none⟩ v8→Q .normal ⟨#[x0,x1,.pointer (some ⟨sbx,0,none⟩),x3,.int .i64 (((m+1):Nat):Int),x5,x6,.func (.func fn) #[] bd,x8,x9,bg,bn,bi,aY,aU,aS,aT,aW,aZ,aX,bu,bz,bF,bG,bH,bM,bT,bQ,cO,mM,mO,qO,qP,qQ,y34,y35,y36,y37,y38,y39,y40,y41,y42,y43,y44,y45,y46,y47],df⟩ w'):RW Tryz.prog (aH 8 Tryz.f150) true Q ⟨#[x0,x1,.pointer (some ⟨sbx,0,none⟩),x3,.int .i64 (((m+1):Nat):Int),x5,x6,.func (.func fn) #[] bd,x8,x9,bg,bn,bi,aY,aU,aS,aT,aW,aZ,aX,bu,bz,bF,bG,bH,bM,bT,bQ,cO,cZ,di,dw,eH,eP,dW,dQ,dR,dX,dF,dM,dN,dG,dH,dI,dJ,dK,dL,dE],df⟩ w:=by
 have HQ:=lh hK
 clear hK
 have Q1:=lh (fun b' (hm:ae (eY qv) w b')=>af (hm.heap b1 hqs) 0)
 have Q3:=lh (fun b' (hm:ae (eY qv) w b')=>(hm.cellAt b4 hqg 1).trans b3)
 have Q4:=lh (fun b' (hm:ae (eY qv) w b')=>(hB.keep hm hqb).cell hp)
 have HQv:=lh hQ
 have HB:=lh hB
 have hcap:=hB.hn
 clear b1 b3 hB hp hQ
 have MR:=lh ((ae.refl ai w).drew)
 refine iq (S:=fun b'=>ae (eY qv) w b') [(0,true),(1,true),(2,true),(3,true),(4,true),(5,true),(6,true),(7,true),(8,true),(9,true),(10,true),(11,true),(12,true),(13,true),(14,true),(15,true),(16,false),(17,false),(18,true),(19,false)] [19] (by kernel_rfl) (by kernel_rfl) (by kernel_rfl) (by kernel_rfl) (MR.out.mono (fun _ _ x=>x.elim)) ?_
 refine ah (aj sg 0) (some 29) (ki (by kernel_rfl)) (fun bb hb=>aB (x:=(.tmp 2)) (by kernel_rfl) (by kernel_rfl) (aO (Q1.out _ hb) Tryz.underlying26 rfl)) ?_
 refine ag [1,2] [aj sg 0,aj sg 1] rfl (by kernel_rfl) (fun _=>by kernel_rfl) ?_
 refine ah (.slice (some ⟨b,off,none⟩) (m+1) cap) (some 32) (ki (by kernel_rfl)) (fun bb hb=>aB (x:=(.tmp 31)) (by kernel_rfl) (by kernel_rfl) (aO (Q3.out _ hb) Tryz.underlying131 rfl)) ?_
 refine ag [4] [.int .i64 (((m+1):Nat):Int)] rfl (by kernel_rfl) (fun _=>by kernel_rfl) ?_
 refine ah (.int .i64 ((m:Nat):Int)) (some 34) (ki (by kernel_rfl)) (fun bb hb=>bV (t:=3) (t':=3) (xv := .int .i64 (((m+1):Nat):Int)) (yv := .int .i64 1) (x:=(.tmp 33)) (y:=(.const (.int .i64 1))) (by kernel_rfl) (by kernel_rfl) (by kernel_rfl) (fun _=>by kernel_rfl) (GN _ (by omega) (by omega) (by omega))) ?_
 refine ah (aj sg 0) (some 35) (ki (by kernel_rfl)) (fun bb hb=>aB (x:=(.tmp 2)) (by kernel_rfl) (by kernel_rfl) (aO (Q1.out _ hb) Tryz.underlying26 rfl)) ?_
 refine ag [7,8] [aj sg 0,aj sg 1] rfl (by kernel_rfl) (fun _=>by kernel_rfl) ?_
 refine ah (.slice (some ⟨b,off,none⟩) (m+1) cap) (some 38) (ki (by kernel_rfl)) (fun bb hb=>aB (x:=(.tmp 37)) (by kernel_rfl) (by kernel_rfl) (aO (Q3.out _ hb) Tryz.underlying131 rfl)) ?_
 refine ag [10] [.int .i64 (((m+1):Nat):Int)] rfl (by kernel_rfl) (fun _=>by kernel_rfl) ?_
 refine ah (.int .i64 ((m:Nat):Int)) (some 40) (ki (by kernel_rfl)) (fun bb hb=>bV (t:=3) (t':=3) (xv := .int .i64 (((m+1):Nat):Int)) (yv := .int .i64 1) (x:=(.tmp 39)) (y:=(.const (.int .i64 1))) (by kernel_rfl) (by kernel_rfl) (by kernel_rfl) (fun _=>by kernel_rfl) (GN _ (by omega) (by omega) (by omega))) ?_
 refine ah (aj b (off+m)) (some 41) (ki (by kernel_rfl)) (fun bb hb=>gI (s:=1) (e:=300) (g:=b) (off:=off) (n:=(m+1)) (c:=cap) (i:=((m:Nat):Int)) (x:=(.tmp 38)) (y:=(.tmp 40)) (off+m) (by kernel_rfl) (by kernel_rfl) (by kernel_rfl) Tryz.underlying131 (by kernel_rfl) (by omega) (by omega) (by omega)) ?_
 refine ah (qv) (some 42) (ki (by kernel_rfl)) (fun bb hb=>aB (x:=(.tmp 41)) (by kernel_rfl) (by kernel_rfl) (aO (Q4.out _ hb) Tryz.underlying300 rfl)) ?_
 refine ag [14,15] [.func (.func fn) #[] bd,.agg #[.func (.func fn) #[] bd]] rfl (by kernel_rfl) (fun _=>by kernel_rfl) ?_
 refine gq (.cells #[.func (.func fn) #[] bd] 302) 1 (some 45) (ki (by kernel_rfl)) (by kernel_rfl) ?_
 intro k1 w_k1 hk_k1 hO_k1 hm_k1 hl_k1
 have MZ:=MR.out.size
 replace MR:=lh (MR.out.then0 hm_k1)
 refine⟨fun _=>(MR.out.mono (fun _ _ x=>x.elim)),?_⟩
 obtain⟨inf,hi,hz,hs,hby⟩:=info_parts infoC
 obtain⟨v8,w8,hr8,o8,m8,f8⟩:=wH (P:=Tryz.prog) 300 300 300 302 302 inf (.agg #[.nilFunc]) Tryz.underlying300 Tryz.underlying300 hi hz (by rw [hs];rfl) (by rw [hs];exact HQv.out.keep MR.out (fun _ _ x=>x)) (m:=1) (ys:=[.func (.func fn) #[] bd]) (by rw [hs];exact bC.rd (Jd hO_k1).own) (by intro y hy;rw [List.mem_singleton.1 hy];rfl) (by unfold maxLen;omega) (by rw [hby];omega)
 rw [hs] at o8
 refine aP v8 w8 (some 46) (ki (by kernel_rfl)) (of_append (x:=(.tmp 42)) (y:=(.tmp 45)) (by kernel_rfl) (by kernel_rfl) (by kernel_rfl) hr8) (fun _=>MR.out.trans m8 (fun _ _ x=>x.elim) (fun _ _ x=>x)) ?_
 have f9:=f8.imp id (fun h=>h.of MR.out.size)
 have M8:=lh (MR.out.trans m8 (U:=eY qv) (fun _ _ x=>x.elim) (fun _ _ x=>x))
 have ob8:=HB.out.keep M8.out hqb
 obtain⟨a8,c8,e8,_⟩:=o8.rd.form
 have h18:v8.oneCell'=true:=by rw [e8];rfl
 clear e8
 refine ah (aj b (off+m)) (some 47) (ki (by kernel_rfl)) (fun bb hb=>gI (s:=1) (e:=300) (g:=b) (off:=off) (n:=(m+1)) (c:=cap) (i:=((m:Nat):Int)) (x:=(.tmp 32)) (y:=(.tmp 34)) (off+m) (by kernel_rfl) (by kernel_rfl) (by kernel_rfl) Tryz.underlying131 (by kernel_rfl) (by omega) (by omega) (by omega)) ?_
 refine gU (ty:=300) (x:=(.tmp 47)) (y:=(.tmp 46)) (g:=b) (off:=off+m) (v:=v8) none (ki (by kernel_rfl)) (by kernel_rfl) (by kernel_rfl) (by kernel_rfl) (by kernel_rfl) (ob8.there (by have:=ob8.hn;omega)) (ob8.free _) (h18) ?_
 intro w9 hw9
 refine⟨(fun h=>by first | (cases h;done) | exact trivial),?_⟩
 exact aA (aQ (K:=Q .normal) (by kernel_rfl) (HQ.out (aj sg 0) (aj sg 0) (aj sg 1) (.slice (some ⟨b,off,none⟩) (m+1) cap) (.int .i64 (((m+1):Nat):Int)) (.int .i64 ((m:Nat):Int)) (aj sg 0) (aj sg 0) (aj sg 1) (.slice (some ⟨b,off,none⟩) (m+1) cap) (.int .i64 (((m+1):Nat):Int)) (.int .i64 ((m:Nat):Int)) (aj b (off+m)) (qv) (.func (.func fn) #[] bd) (.agg #[.func (.func fn) #[] bd]) (.slice (some ⟨k1,0,none⟩) 1 1) (v8) (aj b (off+m)) v8 w8 w9 o8 M8.out f9 hw9))
end
open Go.Gl Go.RowKit
def Bc (J J':List JV) (k:List UInt8) (old:Option (List UInt8)):Prop:=(J=[]∧J'=[])∨∃ A q0 v x,J=A ++ [q0]∧J'=A ++ [⟨v,q0.us ++ [x]⟩]∧x.u=⟨k,old⟩
theorem EF {w W4 W8 W9:World}{sg mg b off cap:Nat}{vo jv v8:Value}{R:List PV}{A:List JV}{q0:JV}{x:UV}{n:Int} (h:KM w sg mg vo R jv (A ++ [q0]) n) (m4:ae ai w W4) (ejv:jv = .slice (some ⟨b,off,none⟩) (A.length+1) cap) (hx:sS W4 sg x) (hb:∀ k,UB x k→w.heap.size≤k∧k<W4.heap.size)
  (o8:bC W8 302 1 v8 (q0.us.length+1) (q0.us.map (·.c) ++ [x.c])) (m8:ae (eY q0.jv) W4 W8) (f8:v8.ownBlock=q0.jv.ownBlock∨aG W4 v8) (e:W9=W8.setCell ⟨b,off+A.length,none⟩ v8) :
  KT w W9 sg mg vo R jv (A ++ [q0]) vo R jv (A ++ [⟨v8,q0.us ++ [x]⟩]) n:=by
 have k4:=h.keep0 m4
 obtain⟨a,b',c,d⟩:=k4.put (Z:=fun k=>w.heap.size≤k) (xs:=[x]) ejv ejv (ae.refl _ _) k4.hg o8 m8 f8 e (fun y hy=>by
  obtain rfl:=List.mem_singleton.1 hy
  exact .inr ⟨hx,fun k hk=>⟨(hb k hk).1,(hb k hk).2,fun z=>by have:=h.lt k z;have:=(hb k hk).1;omega⟩⟩)
 exact⟨a,m4.trans b' (fun _ _ x=>x.elim) (fun _ _ x=>x),fun k hk=>(c k hk).imp id (fun y=>Nat.le_trans m4.size y),d⟩
theorem BG {w:World}{sg mg:Nat}{vo jv q:Value}{R:List PV}{J:List JV}{n:Int}{ys:List UInt8} (h:KM w sg mg vo R jv J n) (hq:Rd w q ys) (ly:ys.length≤1000000) (ok:gY (aI R)) (hn:R.length≤1000000) (hJ:J.length≤1000000) (hU:∀ q∈J,q.us.length≤1000000) (hv:∀ v,qj (aI R) ys=some v→v.length≤1000000) :
  Calls Tryz.prog 150 #[.pointer (some ⟨sg,0,none⟩),q] w fun e w'=>e = .returned (.tuple #[])∧∃ J',KT w w' sg mg vo R jv J vo R jv J' n∧Bc J J' ys (qj (aI R) ys):=by
 obtain⟨aq,cq,rfl,_⟩:=hq.form
 have m1:ae ai w ((w.alloc (.cells #[.pointer (some ⟨sg,0,none⟩)] 26)).alloc (.cells #[.slice aq ys.length cq] 91)):=((ae.refl ai w).alloc _).alloc _
 have b1:((w.alloc (.cells #[.pointer (some ⟨sg,0,none⟩)] 26)).alloc (.cells #[.slice aq ys.length cq] 91)).heap[w.heap.size]?=some (.cells #[.pointer (some ⟨sg,0,none⟩)] 26 (0,0)):=dA (aF w _) _
 have b2:((w.alloc (.cells #[.pointer (some ⟨sg,0,none⟩)] 26)).alloc (.cells #[.slice aq ys.length cq] 91)).heap[w.heap.size+1]?=some (.cells #[.slice aq ys.length cq] 91 (0,0)):=by have:=aF (w.alloc (.cells #[.pointer (some ⟨sg,0,none⟩)] 26)) (.cells #[.slice aq ys.length cq] 91);rwa [World.size_alloc] at this
 have k1:=h.keep0 m1
 have c1:=k1.cells.2.1
 have d1:=(af b1 0)
 have d2:=(af b2 0)
 rcases J.eq_nil_or_concat with rfl | ⟨A,q0,hJe⟩
 ·obtain⟨a,c,hjv,_⟩:=h.row.rd.form
  simp only [List.length_nil] at hjv
  have H:=lh (show KT w ((w.alloc (.cells #[.pointer (some ⟨sg,0,none⟩)] 26)).alloc (.cells #[.slice aq ys.length cq] 91)) sg mg vo R jv [] vo R jv [] n from (KT.refl h).then0 m1)
  rw [hjv] at c1
  clear h hq m1 k1 hJ hU hv ok b1 b2
  go_enter Tryz.func150,Tryz.ntmps150
  go_wp2
  refine bodyPost_ret (by simp [results,Tryz.results150,go_sem];try rfl) rfl ?_
  exact⟨rfl,[],H.out,.inl ⟨rfl,rfl⟩⟩
 ·rw [List.concat_eq_append] at hJe
  subst hJe
  rcases h.row.ob with ⟨_,h0,_⟩ | ⟨b,off,cap,hjv,ob⟩
  ·simp at h0
  have hl1:(A ++ [q0]).length=A.length+1:=by simp
  rw [hl1] at hjv ob hJ
  have hq0:q0∈A ++ [q0]:=List.mem_append_right _ (List.mem_singleton.2 rfl)
  have hq1:=hq.keep m1 (fun _ _ x=>x)
  have CL:=lh (Es hq1 ly)
  have KW:=lh h
  have hsg:=h.lt sg (.inl rfl)
  have M1:=lh m1
  have B1:=lh b1
  have B2:=lh b2
  have OKH:=lh (And.intro ok (And.intro hn (And.intro hJ (And.intro (hU q0 hq0) hv))))
  have hS1:((w.alloc (.cells #[.pointer (some ⟨sg,0,none⟩)] 26)).alloc (.cells #[.slice aq ys.length cq] 91)).heap.size=w.heap.size+2:=by simp
  have HS1:=lh hS1
  rw [hjv] at c1
  clear h hq m1 k1 hJ hU hv ok b1 b2 hq1 hS1
  go_enter Tryz.func150,Tryz.ntmps150
  go_wp2_with fail
  refine CL.out.mono ?_
  rintro e w2 ⟨v2,rfl,o2,m2,f2⟩
  have B2a:=m2.heap B2.out (fun x=>x)
  have e2:=af B2a 0
  have e3:=bY B2a 0
  have hs2:=m2.size
  rw [HS1.out] at hs2
  have n2:∀ k,v2.ownBlock=some k→w.heap.size+2≤k:=fun k hk=>by have:=f2 k hk;have:=HS1.out;omega
  have O2:=lh o2
  obtain⟨W3,hW3⟩:∃ W3,W3=w2.setCell ⟨w.heap.size+1,0,none⟩ v2:=⟨_,rfl⟩
  have m3:ae (fun k=>k=w.heap.size+1) w2 W3:=by rw [hW3];exact (ae.refl (fun k=>k=w.heap.size+1) w2).setCell (p:=⟨w.heap.size+1,0,none⟩) (.inl rfl) _
  have M3:=lh (show ae ai w W3 from (M1.out.then0 m2).trans m3 (fun _ _ x=>x) (fun i hi x=>by omega))
  have B13:=lh (m3.heap (m2.heap B1.out (fun x=>x)) (show ¬ w.heap.size=w.heap.size+1 by omega))
  have B23:=lh (show W3.heap[w.heap.size+1]?=some (.cells #[v2] 91 (0,0)) by rw [hW3];exact heap_set B2a 0 v2)
  have O3:=lh (o2.keep m3 (fun k hk x=>by have:=n2 k hk;omega))
  have N2:=lh n2
  have S3:=lh (show w.heap.size+2≤W3.heap.size by have:=m3.size;omega)
  obtain⟨a2,cc2,rfl,_⟩:=o2.rd.form
  clear o2 m2 f2 hs2 n2 m3 M1 B1 B2 CL B2a
  go_upto_region 4 with fail
  rw [← hW3]
  clear e2 e3 hW3
  have K3:=KW.out.keep0 M3.out
  have c3:=K3.cells.1
  have GET:=lh (fun b' (hm:ae ai W3 b')=>Je (K3.keep0 hm).pm (O3.out.rd.keep hm (fun _ _ x=>x)) OKH.out.1 OKH.out.2.1)
  have hsg3:sg<W3.heap.size:=by have:=S3.out;omega
  rcases hg:qj (aI R) ys with _ | v
  ·rw [hg] at GET OKH
   refine fM (d := .region 4 (aH 4 Tryz.f150) true) (by kernel_rfl) ?_
   refine RW.wp (kvn4f B13.out B23.out c3 hsg3 (xs:=[]) GET.out ?_)
   intros
   rename_i obx v7 W4 hb hO o7 f7 m4 n7
   have K4:=K3.keep0 m4
   have b14:=m4.heap B13.out (fun x=>x)
   have b24:=m4.heap B23.out (fun x=>x)
   have s4:=m4.size
   have s3:=S3.out
   have c4:=K4.cells.2.1
   rw [hjv] at c4
   have ob4:=ob.keep (M3.out.then0 m4) (fun x=>x)
   have q0b:∀ k,q0.jv.ownBlock=some k→k<w.heap.size:=fun k hk=>(KW.out.pg q0 hq0).lt k hk
   have hx:sS W4 sg ⟨.func (.func 213) #[] #[.pointer (some ⟨w.heap.size,0,none⟩),.pointer (some ⟨w.heap.size+1,0,none⟩)],⟨ys,none⟩,w.heap.size,w.heap.size+1,obx,.slice a2 ys.length cc2,v7⟩:=⟨b14,b24,O3.out.rd.keep m4 (fun _ _ x=>x),ly,rfl⟩
   have hxb:∀ k,UB ⟨.func (.func 213) #[] #[.pointer (some ⟨w.heap.size,0,none⟩),.pointer (some ⟨w.heap.size+1,0,none⟩)],⟨ys,none⟩,w.heap.size,w.heap.size+1,obx,.slice a2 ys.length cc2,v7⟩ k→w.heap.size≤k∧k<W4.heap.size:=by
    rintro k (hk | hk | hk | ⟨hs,hk | hk⟩)
    ·simp only at hk;omega
    ·simp only at hk;omega
    ·exact⟨by have:=N2.out k hk;omega,Nat.lt_of_lt_of_le (O3.out.lt k hk) s4⟩
    ·simp at hs
    ·simp at hs
   have HX:=lh hx
   have HXB:=lh hxb
   have M4:=lh (M3.out.then0 m4)
   clear hx hxb hO o7 f7 n7 GET m4 K3 b24 hb
   go_upto_region 8 with fail
   rw [show (A.length:Int)+1=((A.length+1:Nat):Int) from by omega]
   refine fM (d := .region 8 (aH 8 Tryz.f150) true) (by kernel_rfl) ?_
   refine RW.wp (kvn8 (l:=q0.us.length) (us:=q0.us.map (·.c)) b14 c4 (by omega) ob4 (by simp) (K4.pg q0 hq0) (by have:=OKH.out.2.2.1;omega) OKH.out.2.2.2.1 (fun x=>(KW.out.s2 b (by rw [hjv];rfl)).2 q0 hq0 x) (fun x=>by have:=q0b _ x;omega) (fun x=>KW.out.s1.2.2 q0 hq0 x) ?_)
   intros
   rename_i v8 W8 W9 o8 m8 f8 e9
   have FIN:=lh (EF KW.out M4.out hjv HX.out HXB.out o8 m8 f8 e9)
   clear o8 m8 f8 e9 K4 c4 ob4 b14 ob
   go_wp2
   go_end0
   replace FIN:=FIN.out
   rw [hjv] at FIN
   exact⟨rfl,_,FIN,.inr ⟨A,q0,_,_,rfl,rfl,rfl⟩⟩
  ·rw [hg] at GET OKH
   refine fM (d := .region 4 (aH 4 Tryz.f150) true) (by kernel_rfl) ?_
   refine RW.wp (kvn4t B13.out B23.out c3 hsg3 (xs:=v) GET.out ?_)
   intros
   rename_i obx v7 W4 hb hO o7 f7 m4 n7
   have K4:=K3.keep0 m4
   have b14:=m4.heap B13.out (fun x=>x)
   have b24:=m4.heap B23.out (fun x=>x)
   have s4:=m4.size
   have s3:=S3.out
   have c4:=K4.cells.2.1
   rw [hjv] at c4
   have ob4:=ob.keep (M3.out.then0 m4) (fun x=>x)
   have q0b:∀ k,q0.jv.ownBlock=some k→k<w.heap.size:=fun k hk=>(KW.out.pg q0 hq0).lt k hk
   have hx:sS W4 sg ⟨.func (.func 214) #[] #[.pointer (some ⟨w.heap.size,0,none⟩),.pointer (some ⟨w.heap.size+1,0,none⟩),.pointer (some ⟨obx,0,none⟩)],⟨ys,some v⟩,w.heap.size,w.heap.size+1,obx,.slice a2 ys.length cc2,v7⟩:=⟨b14,b24,O3.out.rd.keep m4 (fun _ _ x=>x),ly,⟨rfl,hO,o7.rd,OKH.out.2.2.2.2 v rfl⟩⟩
   have hxb:∀ k,UB ⟨.func (.func 214) #[] #[.pointer (some ⟨w.heap.size,0,none⟩),.pointer (some ⟨w.heap.size+1,0,none⟩),.pointer (some ⟨obx,0,none⟩)],⟨ys,some v⟩,w.heap.size,w.heap.size+1,obx,.slice a2 ys.length cc2,v7⟩ k→w.heap.size≤k∧k<W4.heap.size:=by
    rintro k (hk | hk | hk | ⟨hs,hk | hk⟩)
    ·simp only at hk;omega
    ·simp only at hk;omega
    ·exact⟨by have:=N2.out k hk;omega,Nat.lt_of_lt_of_le (O3.out.lt k hk) s4⟩
    ·simp only at hk;subst hk;exact⟨by omega,lt_of_heap hO⟩
    ·exact⟨f7.of (by omega) k hk,o7.lt k hk⟩
   have HX:=lh hx
   have HXB:=lh hxb
   have M4:=lh (M3.out.then0 m4)
   clear hx hxb hO o7 f7 n7 GET m4 K3 b24 hb
   go_upto_region 8 with fail
   rw [show (A.length:Int)+1=((A.length+1:Nat):Int) from by omega]
   refine fM (d := .region 8 (aH 8 Tryz.f150) true) (by kernel_rfl) ?_
   refine RW.wp (kvn8 (l:=q0.us.length) (us:=q0.us.map (·.c)) b14 c4 (by omega) ob4 (by simp) (K4.pg q0 hq0) (by have:=OKH.out.2.2.1;omega) OKH.out.2.2.2.1 (fun x=>(KW.out.s2 b (by rw [hjv];rfl)).2 q0 hq0 x) (fun x=>by have:=q0b _ x;omega) (fun x=>KW.out.s1.2.2 q0 hq0 x) ?_)
   intros
   rename_i v8 W8 W9 o8 m8 f8 e9
   have FIN:=lh (EF KW.out M4.out hjv HX.out HXB.out o8 m8 f8 e9)
   clear o8 m8 f8 e9 K4 c4 ob4 b14 ob
   go_wp2
   go_end0
   replace FIN:=FIN.out
   rw [hjv] at FIN
   exact⟨rfl,_,FIN,.inr ⟨A,q0,_,_,rfl,rfl,rfl⟩⟩
open Go.Gl Go.RowKit
def jJ (k v:List UInt8):Nat:=if k.length<1∨64<k.length then 60 else if 4096<v.length then 61 else 0
theorem KM.rdk {w:World}{sg mg:Nat}{vo jv q:Value}{R:List PV}{J:List JV}{n:Int}{ys:List UInt8} (h:KM w sg mg vo R jv J n) (hq:Rd w q ys) (hqs:Off (KS sg mg vo R jv J) q ys) {vo' jv':Value}{R':List PV}{J':List JV}{n':Int}{w':World} (t:KT w w' sg mg vo R jv J vo' R' jv' J' n') :
  Rd w' q ys:=hqs.keep hq t.mods
theorem OJ {w:World}{sg mg:Nat}{vo jv q u:Value}{R:List PV}{J:List JV}{n:Int}{ks vs:List UInt8} (h:KM w sg mg vo R jv J n) (hq:Rd w q ks) (hu:Rd w u vs) (hqs:Off (KS sg mg vo R jv J) q ks) (hus:Off (KS sg mg vo R jv J) u vs)
  (h0:0≤n) (h1:n≤4611686018427387904) (ok:gY (aI R)) (hn:R.length≤1000000) (hc:cnt (aI R)≤1000000000) (hJ:J.length≤1000000) (hU:∀ q∈J,q.us.length≤1000000) (hv:∀ v,qj (aI R) ks=some v→v.length≤1000000) :
  Calls Tryz.prog 74 #[.pointer (some ⟨sg,0,none⟩),q,u] w fun e w'=>e = .returned (.int .i64 (jJ ks vs:Nat)) ∧
   ((jJ ks vs≠0∧KT w w' sg mg vo R jv J vo R jv J (n+1))∨(jJ ks vs=0∧∃ vo' R' J',KT w w' sg mg vo R jv J vo' R' jv J' (n+1)∧aI R'=uY (aI R) ks vs∧Bc J J' ks (qj (aI R) ks))):=by
 have ADD:=lh (h.add h0 h1)
 have HM:=lh h
 have HQ:=lh (And.intro hq hqs)
 have HU:=lh (And.intro hu hus)
 obtain⟨aq,cq,rfl,_⟩:=hq.form
 obtain⟨au,cu,rfl,_⟩:=hu.form
 have PR:=lh (And.intro ok (And.intro hn (And.intro hc (And.intro hJ (And.intro hU hv)))))
 clear h hq hu hqs hus ok hn hc hJ hU hv h0 h1
 by_cases hk:ks.length<1∨64<ks.length
 ·have he:jJ ks vs=60:=if_pos hk
  refine Calls.mono (R:=fun e w'=>e = .returned (.int .i64 60)∧KT w w' sg mg vo R jv J vo R jv J (n+1)) ?_ (fun e w' ⟨a,b⟩=>⟨by rw [he];exact a,.inl ⟨by rw [he];decide,b⟩⟩)
  clear he
  go_enter Tryz.func74,Tryz.ntmps74
  go_wp2_with fail
  refine ADD.out.mono ?_
  rintro e w1 ⟨rfl,t1,m1⟩
  have T1:=lh t1
  clear t1 m1 ADD HQ HU PR HM
  rcases hk with hk | hk
  ·go_wp2
   go_ret
   exact⟨rfl,T1.out⟩
  ·go_wp2
   go_ret
   exact⟨rfl,T1.out⟩
 ·by_cases hl:4096<vs.length
  ·have he:jJ ks vs=61:=by unfold jJ;rw [if_neg hk,if_pos hl]
   refine Calls.mono (R:=fun e w'=>e = .returned (.int .i64 61)∧KT w w' sg mg vo R jv J vo R jv J (n+1)) ?_ (fun e w' ⟨a,b⟩=>⟨by rw [he];exact a,.inl ⟨by rw [he];decide,b⟩⟩)
   clear he
   obtain⟨hk1,hk2⟩:=not_or.1 hk
   go_enter Tryz.func74,Tryz.ntmps74
   go_wp2_with fail
   refine ADD.out.mono ?_
   rintro e w1 ⟨rfl,t1,m1⟩
   have T1:=lh t1
   clear t1 m1 ADD HQ HU PR HM hk
   go_wp2
   go_ret
   exact⟨rfl,T1.out⟩
  ·have he:jJ ks vs=0:=by unfold jJ;rw [if_neg hk,if_neg hl]
   refine Calls.mono (R:=fun e w'=>e = .returned (.int .i64 0)∧∃ vo' R' J',KT w w' sg mg vo R jv J vo' R' jv J' (n+1)∧aI R'=uY (aI R) ks vs∧Bc J J' ks (qj (aI R) ks)) ?_ (fun e w' ⟨a,b⟩=>⟨by rw [he];exact a,.inr ⟨he,b⟩⟩)
   clear he
   obtain⟨hk1,hk2⟩:=not_or.1 hk
   have HK:=lh (show ks.length≤1000000∧vs.length≤1000000∧ks.length≠0 by omega)
   go_enter Tryz.func74,Tryz.ntmps74
   go_wp2_with fail
   refine ADD.out.mono ?_
   rintro e w1 ⟨rfl,t1,m1⟩
   have q1:=HM.out.rdk HQ.out.1 HQ.out.2 t1
   have ND:=lh (BG t1.km q1 HK.out.1 PR.out.1 PR.out.2.1 PR.out.2.2.2.1 PR.out.2.2.2.2.1 PR.out.2.2.2.2.2)
   have T1:=lh t1
   clear t1 m1 ADD q1 hk
   go_wp2_with fail
   refine ND.out.mono ?_
   rintro e w2 ⟨rfl,J',t2,nt⟩
   have t12:=T1.out.trans t2
   have q2:=HM.out.rdk HQ.out.1 HQ.out.2 t12
   have u2:=HM.out.rdk HU.out.1 HU.out.2 t12
   have SETC:=lh (SG t12.km.pm q2 u2 HK.out.1 HK.out.2.1 PR.out.1 PR.out.2.1 PR.out.2.2.1)
   have T2:=lh t12
   have NT:=lh nt
   have c2:=t12.km.cells.1
   clear t2 t12 nt q2 u2 ND T1
   go_wp2_with fail
   refine SETC.out.mono ?_
   rintro e w3 ⟨vo',R',rfl,t3,e3⟩
   have T3:=lh (T2.out.trans (T2.out.km.map t3))
   have E3:=lh e3
   clear t3 e3 SETC c2 T2
   go_wp2
   go_ret
   exact⟨rfl,vo',R',J',T3.out,E3.out,NT.out⟩
theorem IB {w:World}{sg mg:Nat}{vo jv q:Value}{R:List PV}{J:List JV}{n:Int}{ks:List UInt8} (h:KM w sg mg vo R jv J n) (hq:Rd w q ks) (hqs:Off (KS sg mg vo R jv J) q ks) (lk:ks.length≤1000000)
  (h0:0≤n) (h1:n≤4611686018427387904) (ok:gY (aI R)) (hn:R.length≤1000000) (hc:cnt (aI R)≤1000000000) (hJ:J.length≤1000000) (hU:∀ q∈J,q.us.length≤1000000) (hv:∀ v,qj (aI R) ks=some v→v.length≤1000000) :
  Calls Tryz.prog 145 #[.pointer (some ⟨sg,0,none⟩),q] w fun e w'=>e = .returned (.bool (bK (aI R) ks).2.2)∧∃ vo' R' J',KT w w' sg mg vo R jv J vo' R' jv J' (n+1)∧aI R'=lY (aI R) ks∧Bc J J' ks (qj (aI R) ks):=by
 have ADD:=lh (h.add h0 h1)
 have HM:=lh h
 have HQ:=lh (And.intro hq hqs)
 obtain⟨aq,cq,rfl,_⟩:=hq.form
 have PR:=lh (And.intro ok (And.intro hn (And.intro hc (And.intro hJ (And.intro hU hv)))))
 obtain⟨B,hB⟩:∃ B,(bK (aI R) ks).2.2=B:=⟨_,rfl⟩
 rw [hB]
 clear h hq hqs ok hn hc hJ hU hv h0 h1
 have HB:=lh hB
 have HK:=lh lk
 clear hB lk
 go_enter Tryz.func145,Tryz.ntmps145
 go_wp2_with fail
 refine ADD.out.mono ?_
 rintro e w1 ⟨rfl,t1,m1⟩
 have q1:=HM.out.rdk HQ.out.1 HQ.out.2 t1
 have ND:=lh (BG t1.km q1 HK.out PR.out.1 PR.out.2.1 PR.out.2.2.2.1 PR.out.2.2.2.2.1 PR.out.2.2.2.2.2)
 have T1:=lh t1
 clear t1 m1 ADD q1
 go_wp2_with fail
 refine ND.out.mono ?_
 rintro e w2 ⟨rfl,J',t2,nt⟩
 have t12:=T1.out.trans t2
 have q2:=HM.out.rdk HQ.out.1 HQ.out.2 t12
 have SETC:=lh (Lu t12.km.pm q2 PR.out.1 PR.out.2.1 PR.out.2.2.1)
 have T2:=lh t12
 have NT:=lh nt
 have c2:=t12.km.cells.1
 clear t2 t12 nt q2 ND T1
 go_wp2_with fail
 refine SETC.out.mono ?_
 rintro e w3 ⟨vo',R',rfl,t3,e3⟩
 rw [HB.out]
 have T3:=lh (T2.out.trans (T2.out.km.map t3))
 have E3:=lh e3
 clear t3 e3 SETC c2 T2
 go_wp2
 go_ret
 exact⟨rfl,vo',R',J',T3.out,E3.out,NT.out⟩
open Go.Gl Go.RowKit
open Go.Gl Go.RowKit
section
variable {w:World}{g n:Nat}{F:List aN}{Ws:List (List aN)}{S D:Nat→Prop}
end
open Go.Gl Go.RowKit
open Go.Gl Go.RowKit
end Go.Proofs.YtglkmaalpammcaaGreat
namespace Go.Gl
open Go.RowKit
def pO (base:Nat) (V:Nat→Prop) (J:Nat→(Nat→Prop)→World→Prop):Prop :=
 ∀ i U U' A B,J i U A→ae (fun k=>U k∧(V k∨base≤k)) A B→(∀ k,U k→k<A.heap.size)→(∀ k,U' k→U k∨A.heap.size≤k)→J i U' B
def JI (P:Program) (l:Nat) (args:Array Value) (W:World) (R:Ending→World→Prop):Prop:=YieldAt Fence.wide 3 P l args W R
def iR (args:Array Value) (k:Nat):Prop:=∃ v,v∈args∧v.ownBlock=some k
def Iter (P:Program) (gf:FuncId) (lb:Array Value) (n:Nat) (A:Nat→(Nat→Prop)→Array Value→World→Prop) (U0 V:Nat→Prop) (w:World):Prop :=
 ∀ (l:Nat) (J Jx:Nat→(Nat→Prop)→World→Prop) (W:World),ae (fun k=>¬ U0 k) w W→pO W.heap.size V J→pO W.heap.size V Jx →
  (∀ i U args W1,i<n→J i U W1→A i U args W1→(∀ k,U k→k<W1.heap.size)→W.heap.size≤W1.heap.size→J i (fun k=>U k∨iR args k) W1→(∀ k,iR args k→k<W1.heap.size)→JI P l args W1 fun e W' =>
   (e = .returned (.bool true)∧J (i+1) U W'∧ae (fun k=>¬ U k) W1 W')∨(e = .returned (.bool false)∧Jx (i+1) U W'∧ae (fun k=>¬ U k) W1 W')) →
  J 0 U0 W →
  Calls P gf (#[.func (.yield l) #[] #[]] ++ lb) W fun e W'=>(∃ v,e = .returned v)∧((∃ U,J n U W'∧∀ k,U k→k<W'.heap.size)∨(∃ i U,i<n∧Jx (i+1) U W'∧∀ k,U k→k<W'.heap.size))
theorem fA (W:World) (l:Nat) (o:Obj):ae (fun k=>k=l) W (W.putObj l o) :=
 ⟨rfl,rfl,rfl,by simp,fun k _ hk=>World.putObj_heap_other hk⟩
def EP (I:Nat→(Nat→Prop)→World→Prop) (Ix:Code→Nat→(Nat→Prop)→World→Prop) (U:Nat→Prop) (i:Nat) (W:World):Exit→Act→World→Prop
 | .normal,_,W'=>ae (fun k=>¬ U k) W W'∧I (i+1) U W'
 | .ret,_,W'=>ae (fun k=>¬ U k) W W'∧Ix .ret (i+1) U W'
 | .exit id,_,W'=>ae (fun k=>¬ U k) W W'∧Ix (.exit id) (i+1) U W'
 | .goto t,_,W'=>ae (fun k=>¬ U k) W W'∧Ix (.goto t) (i+1) U W'
 | .panic _,_,_=>False
 | .outgrown,_,_=>False
def vP (A:Nat→(Nat→Prop)→Array Value→World→Prop):Prop :=
 ∀ i U args W l o,A i U args W→W.heap[l]?=some o→o.isCells=false→A i (fun k=>U k∨k=l) args W
section
variable {P:Program}{r:Option Nat}
def jF:List Tmp→List Value→Array Value→Array Value
 | p :: ps,v :: vs,t=>jF ps vs (t.setIfInBounds p v)
 | _,_,t=>t
theorem IA (ps:List Tmp) (vs:List Value):∀ t:Array Value,(ps.zip vs).foldl (fun t (p,v)=>t.setIfInBounds p v) t=jF ps vs t:=by
  induction ps generalizing vs with
  | nil=>intro t;cases vs <;> rfl
  | cons p ps ih =>
    intro t
    cases vs with
    | nil=>rfl
    | cons v vs=>exact ih vs _
theorem Ak {rec:LoopState→Option Code→Loop}{l i:Nat}{fn:FuncId}{tm:Array Value}{ps:Array Tmp}{assign body:Code}{args:Array Value}{W:World}{base:Nat}{V U:Nat→Prop}
    {I:Nat→(Nat→Prop)→World→Prop}{Ix:Code→Nat→(Nat→Prop)→World→Prop}{df:Nat}
    (hrec:rec=fun st pe=>{ state:=st,pending:=pe,fn,tmps:=tm,params:=ps,assign,body,defers:=df }) (hI:pO base V I) (hIx:∀ c,pO base V (Ix c)) (hl:W.heap[l]?=some (.loop (rec .ready none))) (hps:args.size=ps.size) (hlb:base≤l) (hUl:U l) (hUs:∀ k,U k→k<W.heap.size)
    (h:assign.wpIn (WF (some l)) 3 P (Exit.then (fun a1 W1=>ae (fun k=>¬ U k) W W1∧∀ W2,ae (fun k=>k=l) W1 W2→(∃ r,W2.heap[l]?=some (.loop r))→body.wpIn (WF (some l)) 3 P (EP I Ix U i W2) a1 W2) (fun _ _ _=>False))
      { tmps:=jF ps.toList args.toList tm,defers:=[] } W)
    (R:Ending→World→Prop)
    (hn:∀ W',I (i+1) U W'→ae (fun k=>¬ U k∨k=l) W W'→W'.heap[l]?=some (.loop (rec .ready none))→R (.returned (.bool true)) W')
    (hx:∀ c W',Ix c (i+1) U W'→ae (fun k=>¬ U k∨k=l) W W'→W'.heap[l]?=some (.loop (rec .done (some c)))→R (.returned (.bool false)) W') :
    JI P l args W R:=by
  have hy:=run_yield (P:=P) (args:=args) hl (by rw [hrec];exact hps)
  rw [hrec] at hy
  have ep:(ps.zip args).foldl (fun t (p,v)=>t.setIfInBounds p v) tm=jF ps.toList args.toList tm:=by rw [← IA,← Array.foldl_toList,Array.toList_zip]
  rw [← ep] at h
  refine⟨fn,_,assign,body,hy,RoundIn.room (r:=none) (r':=none) (roundIn_of_wpIn (F:=WF none) (n:=3) trivial (wpIn_mono h ?_))⟩
  rintro e a1 W1 he
  cases e with
  | normal =>
    obtain⟨m1,hb⟩:=he
    have hl1:W1.heap[l]?=some (.loop (rec .ready none)):=(m1.block l (lt_of_heap hl) (fun hk=>hk hUl)).trans hl
    have hlt1:=lt_of_heap hl1
    refine⟨_,run_beginRound hl1 (by rw [hrec]),?_⟩
    have hl2:(W1.putObj l (.loop { rec .ready none with state := .busy })).heap[l]?=some (.loop { rec .ready none with state := .busy }):=World.putObj_heap_same hlt1
    refine wpIn_mono (hb _ (fA W1 l _) ⟨_,hl2⟩) ?_
    have fin:∀ (jump:Option Code) (Wc:World),ae (fun k=>¬ U k) (W1.putObj l (.loop { rec .ready none with state := .busy })) Wc →
        (Instr.endRound l jump).run P Wc = .ok (.bool jump.isNone) (Wc.putObj l (.loop (rec (if jump.isNone then .ready else .done) jump)))∧(Wc.putObj l (.loop (rec (if jump.isNone then .ready else .done) jump))).heap[l]?=some (.loop (rec (if jump.isNone then .ready else .done) jump)) ∧
        ae (fun k=>¬ U k∨k=l) W (Wc.putObj l (.loop (rec (if jump.isNone then .ready else .done) jump)))∧ae (fun k=>U k∧(V k∨base≤k)) Wc (Wc.putObj l (.loop (rec (if jump.isNone then .ready else .done) jump)))∧(∀ k,U k→k<Wc.heap.size):=fun jump Wc m3=>by
      have hl3:=(m3.block l (by simpa using hlt1) (fun hk=>hk hUl)).trans hl2
      have hr:=run_endRound (P:=P) jump hl3
      have hm:=((m1.trans (fA W1 l _) (U:=fun k=>¬ U k∨k=l) (fun _ _ x => .inl x) (fun _ _ x => .inr x)).trans m3 (U:=fun k=>¬ U k∨k=l) (fun _ _ x=>x) (fun _ _ x => .inl x))
      refine⟨?_,World.putObj_heap_same (lt_of_heap hl3),hm.trans (fA Wc l _) (fun _ _ x=>x) (fun _ _ x => .inr x),(fA Wc l _).mono (fun k _ hk=>by subst hk;exact⟨hUl,.inr hlb⟩),fun k hk=>Nat.lt_of_lt_of_le (hUs k hk) hm.size⟩
      rw [hrec] at hr ⊢
      exact hr
    rintro e a3 Wc hp
    cases e with
    | normal =>
      obtain⟨m3,hi3⟩:=hp
      obtain⟨hr,k1,k2,k3,k4⟩:=fin none Wc m3
      exact⟨_,_,hr,hn _ (hI _ _ _ _ _ hi3 k3 k4 (fun k hk => .inl hk)) k2 k1⟩
    | ret =>
      obtain⟨m3,hi3⟩:=hp
      obtain⟨hr,k1,k2,k3,k4⟩:=fin (some .ret) Wc m3
      exact⟨_,_,hr,hx .ret _ (hIx _ _ _ _ _ _ hi3 k3 k4 (fun k hk => .inl hk)) k2 k1⟩
    | exit id =>
      obtain⟨m3,hi3⟩:=hp
      obtain⟨hr,k1,k2,k3,k4⟩:=fin (some (.exit id)) Wc m3
      exact⟨_,_,hr,hx (.exit id) _ (hIx _ _ _ _ _ _ hi3 k3 k4 (fun k hk => .inl hk)) k2 k1⟩
    | goto t =>
      obtain⟨m3,hi3⟩:=hp
      obtain⟨hr,k1,k2,k3,k4⟩:=fin (some (.goto t)) Wc m3
      exact⟨_,_,hr,hx (.goto t) _ (hIx _ _ _ _ _ _ hi3 k3 k4 (fun k hk => .inl hk)) k2 k1⟩
    | panic ch=>exact hp.elim
    | outgrown=>exact hp.elim
  | _=>exact he.elim
theorem wW {g:Operand}{ps:Array Tmp}{assign body:Code}{Q:Exit→Act→World→Prop}{a:Act}{w:World}{gf:FuncId}{lb:Array Value} (hg:a.eval g = .func (.func gf) #[] lb) (eg:∀ args w,(callFunc gf args).run P w = .ok (.enter gf args) w)
  {n:Nat}{A:Nat→(Nat→Prop)→Array Value→World→Prop}{U0 V:Nat→Prop}{w0:World} (it:Iter P gf lb n A U0 V w0) (h0:ae (fun k=>¬ U0 k) w0 w) (hU:∀ k,U0 k→k<w.heap.size) (hA:vP A) (hps:∀ i U args W,A i U args W→args.size=ps.size)
  (I:Nat→(Nat→Prop)→World→Prop) (Ix:Code→Nat→(Nat→Prop)→World→Prop) (hI:pO w.heap.size V I) (hIx:∀ c,pO w.heap.size V (Ix c)) (hs:I 0 U0 w)
  (hround:∀ l i U args W,w.heap.size≤l→U l→i<n→I i U W→A i U args W→(∀ k,U k→k<W.heap.size)→w.heap.size≤W.heap.size→(∃ r,W.heap[l]?=some (.loop r))→I i (fun k=>U k∨iR args k) W→(∀ k,iR args k→k<W.heap.size) →
   assign.wpIn (WF (some l)) 3 P (Exit.then (fun a1 W1=>ae (fun k=>¬ U k) W W1∧∀ W2,ae (fun k=>k=l) W1 W2→(∃ r,W2.heap[l]?=some (.loop r))→body.wpIn (WF (some l)) 3 P (EP I Ix U i W2) a1 W2) (fun _ _ _=>False))
    { tmps:=jF ps.toList args.toList a.tmps,defers:=[] } W)
  (hdone:∀ D U W,w.heap.size≤D→U D→(∀ k,U k→k<W.heap.size)→I n U W→W.heap[D]?=some (.deferred (some []))→Q .normal { a with defers:={ target := .collected D,args:=#[] } :: a.defers } W)
  (hstop:∀ D c i U W,w.heap.size≤D→U D→(∀ k,U k→k<W.heap.size)→i<n→Ix c (i+1) U W→W.heap[D]?=some (.deferred (some []))→c.wpIn (WF none) 3 P Q { a with defers:={ target := .collected D,args:=#[] } :: a.defers } W) :
  (Code.rangeFunc g ps assign body).wpIn (WF none) 3 P Q a w:=by
 refine wpIn_rangeFunc ?_
 intro fn hfn
 obtain⟨rec,hrec⟩:∃ rec:LoopState→Option Code→Loop,rec=fun st pe=>{ state:=st,pending:=pe,fn,tmps:=a.tmps,params:=ps,assign,body,defers:=w.heap.size }:=⟨_,rfl⟩
 obtain⟨W1,hW1⟩:∃ W1,(w.alloc (.deferred (some []))).alloc (.loop (rec .ready none))=W1:=⟨_,rfl⟩
 have hm1:ae ai w W1:=by rw [← hW1];exact ((ae.refl ai w).alloc _).alloc _
 have hsz:W1.heap.size=w.heap.size+2:=by rw [← hW1];simp
 have hL1:W1.heap[w.heap.size+1]?=some (.loop (rec .ready none)):=by
  rw [← hW1];have:=World.alloc_heap_new (w.alloc (.deferred (some []))) (.loop (rec .ready none));rwa [World.size_alloc] at this
 have hK1:W1.heap[w.heap.size]?=some (.deferred (some [])):=by
  rw [← hW1];exact dA (aF w _) _
 obtain⟨l,hl⟩:∃ l,l=w.heap.size+1:=⟨_,rfl⟩
 obtain⟨D,hD⟩:∃ D,D=w.heap.size:=⟨_,rfl⟩
 rw [← hl] at hL1
 rw [← hD] at hK1
 have hw1:ae (fun k=>¬ U0 k) w0 W1:=h0.trans hm1 (fun _ _ x=>x) (fun _ _ x=>x.elim)
 have hUD:∀ (U:Nat→Prop) k,(U k∨k=l)∨k=D↔U k∨k=l∨k=D:=fun U k=>by rw [or_assoc]
 refine⟨l,[{ target := .collected D,args:=#[] }],W1,{ target := .fn (.func gf) lb,args:=#[.func (.yield l) #[] #[]] },W1,gf,#[.func (.yield l) #[] #[]] ++ lb,W1,?_,?_,?_,?_,fun h=>by simp [Fence.wide] at h,?_⟩
 ·rw [← hW1,hrec,hl,hD];exact run_enterLoop_outer _ _ _ _ _
 ·simp only [resolve,hg]
  simp [go_sem]
 ·intro f' hf';trivial
 ·simp [invoke,go_sem,eg]
 ·refine qY.2 ((it l (fun i U W=>I i (fun k=>(U k∨k=l)∨k=D) W∧¬ U l∧¬ U D∧W.heap[l]?=some (.loop (rec .ready none))∧W.heap[D]?=some (.deferred (some [])))
   (fun i U W=>∃ c,Ix c i (fun k=>(U k∨k=l)∨k=D) W∧¬ U l∧¬ U D∧W.heap[l]?=some (.loop (rec .done (some c)))∧W.heap[D]?=some (.deferred (some [])))
   W1 hw1 ?_ ?_ ?_ ⟨hI _ _ _ _ _ hs (hm1.mono (fun _ _ x=>x.elim)) hU (fun k hk=>by rcases hk with (h | h) | h;exact .inl h;exact .inr (by omega);exact .inr (by omega)),fun h=>by have:=hU l h;omega,fun h=>by have:=hU D h;omega,hL1,hK1⟩).mono ?_)
  ·rintro i U U' X Y ⟨hi,h1,h2,h3,h4⟩ hm hus hsub
   have hlX:=lt_of_heap h3
   have hDX:=lt_of_heap h4
   refine⟨hI _ _ _ _ _ hi (hm.mono (fun k _ hk=>⟨.inl (.inl hk.1),hk.2.imp id (fun h=>by omega)⟩)) (fun k hk=>by rcases hk with (h | h) | h;exact hus k h;omega;omega) (fun k hk=>by
    rcases hk with (h | h) | h
    ·exact (hsub k h).imp (fun x => .inl (.inl x)) id
    ·exact .inl (.inl (.inr h))
    ·exact .inl (.inr h)),fun h=>by rcases hsub l h with h | h;exact h1 h;omega,fun h=>by rcases hsub D h with h | h;exact h2 h;omega,(hm.block l hlX (fun hk=>h1 hk.1)).trans h3,(hm.block D hDX (fun hk=>h2 hk.1)).trans h4⟩
  ·rintro i U U' X Y ⟨c,hi,h1,h2,h3,h4⟩ hm hus hsub
   have hlX:=lt_of_heap h3
   have hDX:=lt_of_heap h4
   refine⟨c,hIx c _ _ _ _ _ hi (hm.mono (fun k _ hk=>⟨.inl (.inl hk.1),hk.2.imp id (fun h=>by omega)⟩)) (fun k hk=>by rcases hk with (h | h) | h;exact hus k h;omega;omega) (fun k hk=>by
    rcases hk with (h | h) | h
    ·exact (hsub k h).imp (fun x => .inl (.inl x)) id
    ·exact .inl (.inl (.inr h))
    ·exact .inl (.inr h)),fun h=>by rcases hsub l h with h | h;exact h1 h;omega,fun h=>by rcases hsub D h with h | h;exact h2 h;omega,(hm.block l hlX (fun hk=>h1 hk.1)).trans h3,(hm.block D hDX (fun hk=>h2 hk.1)).trans h4⟩
  ·rintro i U args W hin ⟨hi,h1,h2,h3,h4⟩ hargs hus hge ⟨hi',_,_,_,_⟩ hab
   have hlW:=lt_of_heap h3
   have hDW:=lt_of_heap h4
   have hA2:=hA _ _ _ _ D _ (hA _ _ _ _ l _ hargs h3 rfl) h4 rfl
   have hus2:∀ k,((U k∨k=l)∨k=D)→k<W.heap.size:=fun k hk=>by rcases hk with (h | h) | h;exact hus k h;omega;omega
   refine Ak (base:=w.heap.size) (V:=V) (U:=fun k=>(U k∨k=l)∨k=D) (i:=i) hrec hI hIx h3 (hps _ _ _ _ hargs) (by omega) (.inl (.inr rfl)) hus2 (hround l i _ args W (by omega) (.inl (.inr rfl)) hin hi hA2 hus2 (by omega) ⟨_,h3⟩
    (hI _ _ _ _ _ hi' (ae.refl _ _) (fun k hk=>by rcases hk with ((h | h) | h) | h;exact hus k h;exact hab k h;omega;omega) (fun k hk=>by rcases hk with ((h | h) | h) | h;exact .inl (.inl (.inl (.inl h)));exact .inl (.inl (.inr h));exact .inl (.inr h);exact .inl (.inl (.inl (.inr h))))) hab) _ ?_ ?_
   ·intro W' hi' hm' hl'
    have hD':W'.heap[D]?=some (.deferred (some [])):=(hm'.block D hDW (fun hk=>by rcases hk with hk | hk;exact hk (.inr rfl);omega)).trans h4
    exact .inl ⟨rfl,⟨hi',h1,h2,hl',hD'⟩,hm'.mono (fun k _ hk hu=>by rcases hk with hk | hk;exact hk (.inl (.inl hu));exact h1 (hk▸hu))⟩
   ·intro c W' hi' hm' hl'
    have hD':W'.heap[D]?=some (.deferred (some [])):=(hm'.block D hDW (fun hk=>by rcases hk with hk | hk;exact hk (.inr rfl);omega)).trans h4
    exact .inr ⟨rfl,⟨c,hi',h1,h2,hl',hD'⟩,hm'.mono (fun k _ hk hu=>by rcases hk with hk | hk;exact hk (.inl (.inl hu));exact h1 (hk▸hu))⟩
  ·rintro e W2 ⟨⟨v,rfl⟩,(⟨U,⟨hi,h1,h2,h3,h4⟩,hus⟩ | ⟨i,U,hin,⟨c,hi,h1,h2,h3,h4⟩,hus⟩)⟩
   ·refine⟨none,_,by have:=run_endLoop (P:=P) h3 (by rw [hrec];simp);rw [hrec] at this;exact this,?_⟩
    have hlW:=lt_of_heap h3
    have hDW:=lt_of_heap h4
    exact hdone D (fun k=>(U k∨k=l)∨k=D) _ (by omega) (.inr rfl) (fun k hk=>by rw [World.putObj_size];rcases hk with (h | h) | h;exact hus k h;omega;omega) (hI _ _ _ _ _ hi ((fA W2 l _).mono (fun k _ hk=>by subst hk;exact⟨.inl (.inr rfl),.inr (by omega)⟩)) (fun k hk=>by rcases hk with (h | h) | h;exact hus k h;omega;omega) (fun k hk => .inl hk)) ((World.putObj_heap_other (by omega)).trans h4)
   ·refine⟨some c,_,by have:=run_endLoop (P:=P) h3 (by rw [hrec];simp);rw [hrec] at this;exact this,?_⟩
    have hlW:=lt_of_heap h3
    have hDW:=lt_of_heap h4
    exact hstop D c i (fun k=>(U k∨k=l)∨k=D) _ (by omega) (.inr rfl) (fun k hk=>by rw [World.putObj_size];rcases hk with (h | h) | h;exact hus k h;omega;omega) hin (hIx c _ _ _ _ _ hi ((fA W2 l _).mono (fun k _ hk=>by subst hk;exact⟨.inl (.inr rfl),.inr (by omega)⟩)) (fun k hk=>by rcases hk with (h | h) | h;exact hus k h;omega;omega) (fun k hk => .inl hk)) ((World.putObj_heap_other (by omega)).trans h4)
section
variable {ops:Array Oper}{Q:Exit→Act→World→Prop}{n:Nat}
theorem jk {id:Nat}{a:Act}{w:World}{draws:Bool}{Q1:Exit→Act→World→Prop} (m:Nat) (hB:(if draws then OX ops.toList m else decide (m<ops.size) && uC ops && lS ops)=true) (h:RW P (ops.toList.take m).toArray draws Q1 a w)
    (hG:∀ a w,Q1 .normal a w→wpOpsIn (WF r) n P ops Q (List.range' m (ops.size - m)) a w):(Code.region id ops draws).wpIn (WF r) n P Q a w:=by
  have e:ops.toList.toArray=ops:=Array.toArray_toList
  have el:ops.toList.length=ops.size:=Array.length_toList
  cases draws with
  | true =>
    have:=zQ (id:=id) (l:=ops.toList) (Q:=Q) (r:=r) (n:=n) m hB h (by rw [e,el];exact hG)
    rw [e] at this
    exact this
  | false =>
    have:=yM (id:=id) (l:=ops.toList) (Q:=Q) (r:=r) (n:=n) m (by rw [e,el];exact hB) h (by rw [e,el];exact hG)
    rw [e] at this
    exact this
theorem kV {i l:Nat}{rest:List Nat}{a:Act}{w:World}{vs:Array Value}{R:Ending→World→Prop} (d:Option Tmp) (h:uX ops i a d true) (hd:lS ops=true) (hrun:(execOp a.eval (qK ops i)).run P w=(Instr.yield l vs).run P w) (hy:JI P l vs w R)
  (hK:∀ e w',R e w'→∃ v,e = .returned v∧wpOpsIn (WF r) n P ops Q rest (a.put d v) w'):wpOpsIn (WF r) n P ops Q (i :: rest) a w:=by
 obtain⟨h1,rfl,h2⟩:=h
 rw [wpOpsIn_cons]
 unfold wpOpIn
 simp only [pV h1,h2,if_true]
 refine⟨fun _ _=>trivial,?_⟩
 obtain⟨fn,tmps,assign,body,hyr,hR⟩:=hy
 rw [Oper.semAt_eq _ _ _ (qF hd (pV h1)),hrun,hyr,Oper.uponIn_round]
 refine⟨fun h=>by simp [Fence.wide] at h,(RoundIn.room (r:=none) (r':=r) hR).mono (fun e w' he=>?_)⟩
 obtain⟨v,rfl,hv⟩:=hK e w' he
 exact hv
theorem fZ {i:Nat}{rest:List Nat}{a:Act}{w:World} (v:Value) (d:Option Tmp) (h:uX ops i a d true) (hd:lS ops=true) (hrun:(execOp a.eval (qK ops i)).run P w = .ok (.value v) w)
  (hK:wpOpsIn (WF r) n P ops Q rest (a.put d v) w):wpOpsIn (WF r) n P ops Q (i :: rest) a w:=by
 obtain⟨h1,rfl,h2⟩:=h
 rw [wpOpsIn_cons]
 unfold wpOpIn
 simp only [pV h1,h2,if_true]
 refine⟨fun _ _=>trivial,?_⟩
 rw [Oper.semAt_eq _ _ _ (qF hd (pV h1)),hrun,Oper.uponIn_value]
 exact hK
theorem bW {n:Nat}{Q:Exit→Act→World→Prop}{a:Act}{w:World}{c d:Code} (e:c=d) (h:d.wpIn (WF r) n P Q a w):c.wpIn (WF r) n P Q a w:=e▸h
end
theorem FN {f:FuncId}{fn:Func}{args:Array Value}{w:World}{R:Ending→World→Prop} (c:Code) (hf:P.funcs[f]?=some fn) (hb:fn.body=some c)
  (h:c.wpIn (WF none) 3 P (bodyPost P fn R) { tmps:=args ++ Array.replicate (fn.ntmps - args.size) undef,defers:=[] } w):Calls P f args w R:=(qY (r:=none) (n:=3)).1 (callsIn_of_wp hf hb trivial h)
theorem lG {f:FuncId}{fn:Func}{args:Array Value}{w:World}{R:Ending→World→Prop} (c:Code) (hf:P.funcs[f]?=some fn) (hb:fn.body=some c)
  (h:c.wpIn (WF none) 3 P (bodyPostM (WF none) 3 P fn R) { tmps:=args ++ Array.replicate (fn.ntmps - args.size) undef,defers:=[] } w):Calls P f args w R:=(qY (r:=none) (n:=3)).1 (callsIn_of_wp_marks hf hb trivial h)
theorem iF {fn:Func}{R:Ending→World→Prop}{tmps:Array Value}{D:Nat}{W:World}{v:Value} (hK:W.heap[D]?=some (.deferred (some []))) (hr:(results fn tmps).run P (W.putObj D (.deferred none)) = .ok v (W.putObj D (.deferred none))) (h:R (.returned v) (W.putObj D (.deferred none))) :
  LeavesInM (WF none) 3 P fn tmps R [{ target := .collected D,args:=#[] }] .returning W:=by
 refine⟨by simp,.inl ⟨_,_,rfl,run_takeDeferred hK,?_⟩⟩
 exact⟨_,hr,h⟩
theorem bP {K:Act→World→Prop}{Q:Exit→Act→World→Prop}{a:Act}{w:World} (h:K a w):Exit.then K Q .normal a w:=h
theorem sU {K:Act→World→Prop}{Q:Exit→Act→World→Prop}{a:Act}{w:World} (h:Q .ret a w):Exit.then K Q .ret a w:=h
theorem Hu {K:Act→World→Prop}{Q:Exit→Act→World→Prop}{a:Act}{w:World}{i:Nat} (h:Q (.exit i) a w):Exit.then K Q (.exit i) a w:=h
theorem kU {id:Nat}{Q:Exit→Act→World→Prop}{a:Act}{w:World} (h:Q .ret a w):Exit.inBlock id Q .ret a w:=h
theorem CS {id:Nat}{Q:Exit→Act→World→Prop}{a:Act}{w:World} (h:Q .normal a w):Exit.inBlock id Q (.exit id) a w:=by simp only [Exit.inBlock,if_true];exact h
theorem QO {id j:Nat}{Q:Exit→Act→World→Prop}{a:Act}{w:World} (hne:¬ j=id) (h:Q (.exit j) a w):Exit.inBlock id Q (.exit j) a w:=by simp only [Exit.inBlock,hne,if_false];exact h
theorem jh {id:Nat}{Q:Exit→Act→World→Prop}{a:Act}{w:World} (h:Q .normal a w):Exit.inBlock id Q .normal a w:=h
end
end Go.Gl
namespace Go.Proofs.YtglkmaalpammcaaGreat
open Go.Gl Go.RowKit
def Ae (df:List Deferred) (v0 v1 v2 v4 v5:Value) (a:Act):Prop:=∃ x3 x6 x7 x8 x9 bg bn bi aY aU aS aT aW aZ aX bu bz bF bG bH bM bT bQ cO cZ di dw eH eP dW dQ dR dX dF dM dN dG dH dI dJ dK dL dE dY dO dS dU dZ ed eu eF eG eQ eU fK fG fD:Value,a=⟨#[v0,v1,v2,x3,v4,v5,x6,x7,x8,x9,bg,bn,bi,aY,aU,aS,aT,aW,aZ,aX,bu,bz,bF,bG,bH,bM,bT,bQ,cO,cZ,di,dw,eH,eP,dW,dQ,dR,dX,dF,dM,dN,dG,dH,dI,dJ,dK,dL,dE,dY,dO,dS,dU,dZ,ed,eu,eF,eG,eQ,eU,fK,fG,fD],df⟩
theorem Ae.mk {df:List Deferred}{v0 v1 v2 v4 v5 x3 x6 x7 x8 x9 bg bn bi aY aU aS aT aW aZ aX bu bz bF bG bH bM bT bQ cO cZ di dw eH eP dW dQ dR dX dF dM dN dG dH dI dJ dK dL dE dY dO dS dU dZ ed eu eF eG eQ eU fK fG fD:Value}:Ae df v0 v1 v2 v4 v5 ⟨#[v0,v1,v2,x3,v4,v5,x6,x7,x8,x9,bg,bn,bi,aY,aU,aS,aT,aW,aZ,aX,bu,bz,bF,bG,bH,bM,bT,bQ,cO,cZ,di,dw,eH,eP,dW,dQ,dR,dX,dF,dM,dN,dG,dH,dI,dJ,dK,dL,dE,dY,dO,dS,dU,dZ,ed,eu,eF,eG,eQ,eU,fK,fG,fD],df⟩:=⟨x3,x6,x7,x8,x9,bg,bn,bi,aY,aU,aS,aT,aW,aZ,aX,bu,bz,bF,bG,bH,bM,bT,bQ,cO,cZ,di,dw,eH,eP,dW,dQ,dR,dX,dF,dM,dN,dG,dH,dI,dJ,dK,dL,dE,dY,dO,dS,dU,dZ,ed,eu,eF,eG,eQ,eU,fK,fG,fD,rfl⟩
theorem Ae.elim {df:List Deferred}{v0 v1 v2 v4 v5:Value}{a:Act}{C:Act→Prop} (h:Ae df v0 v1 v2 v4 v5 a) (k:∀ x3 x6 x7 x8 x9 bg bn bi aY aU aS aT aW aZ aX bu bz bF bG bH bM bT bQ cO cZ di dw eH eP dW dQ dR dX dF dM dN dG dH dI dJ dK dL dE dY dO dS dU dZ ed eu eF eG eQ eU fK fG fD:Value,C ⟨#[v0,v1,v2,x3,v4,v5,x6,x7,x8,x9,bg,bn,bi,aY,aU,aS,aT,aW,aZ,aX,bu,bz,bF,bG,bH,bM,bT,bQ,cO,cZ,di,dw,eH,eP,dW,dQ,dR,dX,dF,dM,dN,dG,dH,dI,dJ,dK,dL,dE,dY,dO,dS,dU,dZ,ed,eu,eF,eG,eQ,eU,fK,fG,fD],df⟩):C a:=by
 obtain⟨x3,x6,x7,x8,x9,bg,bn,bi,aY,aU,aS,aT,aW,aZ,aX,bu,bz,bF,bG,bH,bM,bT,bQ,cO,cZ,di,dw,eH,eP,dW,dQ,dR,dX,dF,dM,dN,dG,dH,dI,dJ,dK,dL,dE,dY,dO,dS,dU,dZ,ed,eu,eF,eG,eQ,eU,fK,fG,fD,rfl⟩:=h
 exact k _ _ _ _ _ _ _ _ _ _ _ _ _ _ _ _ _ _ _ _ _ _ _ _ _ _ _ _ _ _ _ _ _ _ _ _ _ _ _ _ _ _ _ _ _ _ _ _ _ _ _ _ _ _ _ _ _
section
variable {x0 x1 x2 x3 x4 x5 x6 x7 x8 x9 bg bn bi aY aU aS aT aW aZ aX bu bz bF bG bH bM bT bQ cO cZ di dw eH eP dW dQ dR dX dF dM dN dG dH dI dJ dK dL dE dY dO dS dU dZ ed eu eF eG eQ eU fK fG fD:Value}{df:List Deferred}{Q:Exit→Act→World→Prop}
theorem ris0e {w:World}{m g cap n:Nat}{ao:Option Addr} (c1:w.cell? ⟨m,0,none⟩=some (.pointer (some ⟨g,0,none⟩))) (c2:w.cell? ⟨g,0,none⟩=some (.slice ao n cap)) (hn:n=0)
  (hK:∀ (y7 y8 y9 jU pU:Value)  (w':World),w'=w→Q .normal ⟨#[x0,.pointer (some ⟨m,0,none⟩),x2,x3,x4,x5,x6,y7,y8,y9,jU,pU,.bool true,aY,aU,aS,aT,aW,aZ,aX,bu,bz,bF,bG,bH,bM,bT,bQ,cO,cZ,di,dw,eH,eP,dW,dQ,dR,dX,dF,dM,dN,dG,dH,dI,dJ,dK,dL,dE,dY,dO,dS,dU,dZ,ed,eu,eF,eG,eQ,eU,fK,fG,fD],df⟩ w'):RW Tryz.prog (aH 0 Tryz.f223) false Q ⟨#[x0,.pointer (some ⟨m,0,none⟩),x2,x3,x4,x5,x6,x7,x8,x9,bg,bn,bi,aY,aU,aS,aT,aW,aZ,aX,bu,bz,bF,bG,bH,bM,bT,bQ,cO,cZ,di,dw,eH,eP,dW,dQ,dR,dX,dF,dM,dN,dG,dH,dI,dJ,dK,dL,dE,dY,dO,dS,dU,dZ,ed,eu,eF,eG,eQ,eU,fK,fG,fD],df⟩ w:=by
 have HQ:=lh hK
 clear hK
 refine bZ [(0,false),(1,false),(2,false),(3,false),(4,false),(5,false)] (by kernel_rfl) ?_
 refine aP (aj g 0) _ (some 7) (ki (by kernel_rfl)) (aB (x:=(.tmp 1)) (by kernel_rfl) (by kernel_rfl) (aO ((fun _=>c1) (trivial)) Tryz.underlying129 rfl)) (fun _=>trivial) ?_
 refine aC [1,2] [aj g 0,aj g 0] rfl (by kernel_rfl) (by kernel_rfl) (.inr trivial) ?_
 refine aP ((.slice ao n cap)) _ (some 10) (ki (by kernel_rfl)) (aB (x:=(.tmp 9)) (by kernel_rfl) (by kernel_rfl) (aO ((fun _=>c2) (trivial)) Tryz.underlying228 rfl)) (fun _=>trivial) ?_
 refine aC [4] [.int .i64 ((n:Nat):Int)] rfl (by kernel_rfl) (by kernel_rfl) (.inr trivial) ?_
 refine aP (.bool true) _ (some 12) (ki (by kernel_rfl)) (bV (t:=3) (t':=3) (xv := .int .i64 ((n:Nat):Int)) (yv := .int .i64 0) (x:=(.tmp 11)) (y:=(.const (.int .i64 0))) (by kernel_rfl) (by kernel_rfl) (by kernel_rfl) (fun _=>by kernel_rfl) (kS _ (decide_eq_true (by omega)))) (fun _=>trivial) ?_
 exact aA (aQ (K:=Q .normal) (by kernel_rfl) (HQ.out (aj g 0) (aj g 0) (aj g 0) ((.slice ao n cap)) (.int .i64 ((n:Nat):Int)) _ rfl))
theorem ris0n {w:World}{m g cap n:Nat}{ao:Option Addr} (c1:w.cell? ⟨m,0,none⟩=some (.pointer (some ⟨g,0,none⟩))) (c2:w.cell? ⟨g,0,none⟩=some (.slice ao n cap)) (hn:¬ n=0)
  (hK:∀ (y7 y8 y9 jU pU:Value)  (w':World),w'=w→Q .normal ⟨#[x0,.pointer (some ⟨m,0,none⟩),x2,x3,x4,x5,x6,y7,y8,y9,jU,pU,.bool false,aY,aU,aS,aT,aW,aZ,aX,bu,bz,bF,bG,bH,bM,bT,bQ,cO,cZ,di,dw,eH,eP,dW,dQ,dR,dX,dF,dM,dN,dG,dH,dI,dJ,dK,dL,dE,dY,dO,dS,dU,dZ,ed,eu,eF,eG,eQ,eU,fK,fG,fD],df⟩ w'):RW Tryz.prog (aH 0 Tryz.f223) false Q ⟨#[x0,.pointer (some ⟨m,0,none⟩),x2,x3,x4,x5,x6,x7,x8,x9,bg,bn,bi,aY,aU,aS,aT,aW,aZ,aX,bu,bz,bF,bG,bH,bM,bT,bQ,cO,cZ,di,dw,eH,eP,dW,dQ,dR,dX,dF,dM,dN,dG,dH,dI,dJ,dK,dL,dE,dY,dO,dS,dU,dZ,ed,eu,eF,eG,eQ,eU,fK,fG,fD],df⟩ w:=by
 have HQ:=lh hK
 clear hK
 refine bZ [(0,false),(1,false),(2,false),(3,false),(4,false),(5,false)] (by kernel_rfl) ?_
 refine aP (aj g 0) _ (some 7) (ki (by kernel_rfl)) (aB (x:=(.tmp 1)) (by kernel_rfl) (by kernel_rfl) (aO ((fun _=>c1) (trivial)) Tryz.underlying129 rfl)) (fun _=>trivial) ?_
 refine aC [1,2] [aj g 0,aj g 0] rfl (by kernel_rfl) (by kernel_rfl) (.inr trivial) ?_
 refine aP ((.slice ao n cap)) _ (some 10) (ki (by kernel_rfl)) (aB (x:=(.tmp 9)) (by kernel_rfl) (by kernel_rfl) (aO ((fun _=>c2) (trivial)) Tryz.underlying228 rfl)) (fun _=>trivial) ?_
 refine aC [4] [.int .i64 ((n:Nat):Int)] rfl (by kernel_rfl) (by kernel_rfl) (.inr trivial) ?_
 refine aP (.bool false) _ (some 12) (ki (by kernel_rfl)) (bV (t:=3) (t':=3) (xv := .int .i64 ((n:Nat):Int)) (yv := .int .i64 0) (x:=(.tmp 11)) (y:=(.const (.int .i64 0))) (by kernel_rfl) (by kernel_rfl) (by kernel_rfl) (fun _=>by kernel_rfl) (kS _ (decide_eq_false (by omega)))) (fun _=>trivial) ?_
 exact aA (aQ (K:=Q .normal) (by kernel_rfl) (HQ.out (aj g 0) (aj g 0) (aj g 0) ((.slice ao n cap)) (.int .i64 ((n:Nat):Int)) _ rfl))
theorem ris1 {w:World}{m bf g p:Nat}{fv:Value} (c1:w.cell? ⟨m,0,none⟩=some (.pointer (some ⟨g,0,none⟩))) (c2:w.cell? ⟨bf,0,none⟩=some fv) (hC:Calls Tryz.prog 224 #[.pointer (some ⟨g,0,none⟩),fv] w fun e w'=>e = .returned (.int .i64 (p:Nat))∧ae ai w w')
  (hK:∀ (kF jV jW:Value)  (w':World),ae ai w w'→Q .normal ⟨#[x0,.pointer (some ⟨m,0,none⟩),.pointer (some ⟨bf,0,none⟩),x3,.int .i64 ((p:Nat):Int),x5,x6,x7,x8,x9,bg,bn,bi,kF,jV,jW,aT,aW,aZ,aX,bu,bz,bF,bG,bH,bM,bT,bQ,cO,cZ,di,dw,eH,eP,dW,dQ,dR,dX,dF,dM,dN,dG,dH,dI,dJ,dK,dL,dE,dY,dO,dS,dU,dZ,ed,eu,eF,eG,eQ,eU,fK,fG,fD],df⟩ w'):RW Tryz.prog (aH 1 Tryz.f223) false Q ⟨#[x0,.pointer (some ⟨m,0,none⟩),.pointer (some ⟨bf,0,none⟩),x3,x4,x5,x6,x7,x8,x9,bg,bn,bi,aY,aU,aS,aT,aW,aZ,aX,bu,bz,bF,bG,bH,bM,bT,bQ,cO,cZ,di,dw,eH,eP,dW,dQ,dR,dX,dF,dM,dN,dG,dH,dI,dJ,dK,dL,dE,dY,dO,dS,dU,dZ,ed,eu,eF,eG,eQ,eU,fK,fG,fD],df⟩ w:=by
 have HQ:=lh hK
 clear hK
 refine bZ [(0,false),(1,false),(2,false),(3,false)] (by kernel_rfl) ?_
 refine aP (aj g 0) _ (some 13) (ki (by kernel_rfl)) (aB (x:=(.tmp 1)) (by kernel_rfl) (by kernel_rfl) (aO ((fun _=>c1) (trivial)) Tryz.underlying129 rfl)) (fun _=>trivial) ?_
 refine aP (fv) _ (some 14) (ki (by kernel_rfl)) (aB (x:=(.tmp 2)) (by kernel_rfl) (by kernel_rfl) (aO ((fun _=>c2) (trivial)) Tryz.underlying91 rfl)) (fun _=>trivial) ?_
 refine az (some 15) (ki (by kernel_rfl)) hC (fun _=>by kernel_rfl) ?_
 rintro r w7 ⟨rfl,m7⟩
 refine⟨_,rfl,fun _=>trivial,?_⟩
 refine aC [3] [.int .i64 ((p:Nat):Int)] rfl (by kernel_rfl) (by kernel_rfl) (.inr trivial) ?_
 exact aA (aQ (K:=Q .normal) (by kernel_rfl) (HQ.out (aj g 0) (fv) (.int .i64 ((p:Nat):Int)) w7 m7))
theorem ris2 {w:World}{m bf g p b off n cap i pc k:Nat}{ap:Option Addr}{fv:Value}{B:Bool} (c1:∀ b',ae ai w b'→b'.cell? ⟨m,0,none⟩=some (.pointer (some ⟨g,0,none⟩))) (c2:∀ b',ae ai w b'→b'.cell? ⟨g,0,none⟩=some (.slice (some ⟨b,off,none⟩) n cap)) (c3:∀ b',ae ai w b'→b'.cell? ⟨b,off+p,none⟩=some (.slice ap k pc)) (c4:∀ b',ae ai w b'→b'.cell? ⟨bf,0,none⟩=some fv) (hp:p<n) (hC:∀ b',ae ai w b'→Calls Tryz.prog 225 #[.slice ap k pc,fv] b' fun e w'=>e = .returned (.tuple #[.int .i64 (i:Nat),.bool B])∧ae ai b' w')
  (hK:∀ (y6 jO jC kG kH mi jP jD jl jQ jw jX mF:Value)  (w':World),ae ai w w'→Q .normal ⟨#[x0,.pointer (some ⟨m,0,none⟩),.pointer (some ⟨bf,0,none⟩),x3,.int .i64 ((p:Nat):Int),.int .i64 ((i:Nat):Int),y6,x7,x8,x9,bg,bn,bi,aY,aU,aS,jO,jC,kG,kH,mi,jP,jD,jl,jQ,jw,jX,mF,cO,cZ,di,dw,eH,eP,dW,dQ,dR,dX,dF,dM,dN,dG,dH,dI,dJ,dK,dL,dE,dY,dO,dS,dU,dZ,ed,eu,eF,eG,eQ,eU,fK,fG,fD],df⟩ w'):RW Tryz.prog (aH 2 Tryz.f223) true Q ⟨#[x0,.pointer (some ⟨m,0,none⟩),.pointer (some ⟨bf,0,none⟩),x3,.int .i64 ((p:Nat):Int),x5,x6,x7,x8,x9,bg,bn,bi,aY,aU,aS,aT,aW,aZ,aX,bu,bz,bF,bG,bH,bM,bT,bQ,cO,cZ,di,dw,eH,eP,dW,dQ,dR,dX,dF,dM,dN,dG,dH,dI,dJ,dK,dL,dE,dY,dO,dS,dU,dZ,ed,eu,eF,eG,eQ,eU,fK,fG,fD],df⟩ w:=by
 have HQ:=lh hK
 clear hK
 have HC:=lh hC
 have Q1:=lh c1
 have Q2:=lh c2
 have Q3:=lh c3
 have Q4:=lh c4
 clear hC c1 c2 c3 c4
 have MR:=lh ((ae.refl ai w).drew)
 refine iU (S:=fun b'=>ae ai w b') [(0,true),(1,true),(2,true),(3,true),(4,true),(5,true),(6,true),(7,true),(8,false),(9,true),(10,true),(11,true),(12,true),(13,true)] [] [(0,2,131072),(1,131072,262144),(2,262144,524288),(4,524288,1048576),(0,16,2097152),(24,3145728,4194304),(32,4194304,8388608),(0,4,16777216),(192,25165824,33554432),(256,33554432,65536),(512,65536,67108864),(512,65536,134217728),(2047,67108864,32),(8191,134217728,64)] (by kernel_rfl) (by kernel_rfl) (by kernel_rfl) (by kernel_rfl) (by kernel_rfl) MR.out ?_
 refine ah (aj g 0) (some 17) (ki (by kernel_rfl)) (fun bb hb=>aB (x:=(.tmp 1)) (by kernel_rfl) (by kernel_rfl) (aO (Q1.out _ hb) Tryz.underlying129 rfl)) ?_
 refine ag [1,2] [aj g 0,aj g 0] rfl (by kernel_rfl) (fun _=>by kernel_rfl) ?_
 refine ah (.slice (some ⟨b,off,none⟩) n cap) (some 20) (ki (by kernel_rfl)) (fun bb hb=>aB (x:=(.tmp 19)) (by kernel_rfl) (by kernel_rfl) (aO (Q2.out _ hb) Tryz.underlying228 rfl)) ?_
 refine ag [4] [.int .i64 ((p:Nat):Int)] rfl (by kernel_rfl) (fun _=>by kernel_rfl) ?_
 refine ah (aj b (off+p)) (some 22) (ki (by kernel_rfl)) (fun bb hb=>gI (s:=1) (e:=258) (g:=b) (off:=off) (n:=n) (c:=cap) (i:=((p:Nat):Int)) (x:=(.tmp 20)) (y:=(.tmp 21)) (off+p) (by kernel_rfl) (by kernel_rfl) (by kernel_rfl) Tryz.underlying228 (by kernel_rfl) (by omega) (by omega) (by omega)) ?_
 refine ah ((.slice ap k pc)) (some 23) (ki (by kernel_rfl)) (fun bb hb=>aB (x:=(.tmp 22)) (by kernel_rfl) (by kernel_rfl) (aO (Q3.out _ hb) Tryz.underlying258 rfl)) ?_
 refine ah (fv) (some 24) (ki (by kernel_rfl)) (fun bb hb=>aB (x:=(.tmp 2)) (by kernel_rfl) (by kernel_rfl) (aO (Q4.out _ hb) Tryz.underlying91 rfl)) ?_
 refine az (some 25) (ki (by kernel_rfl)) (HC.out _ MR.out) (fun _=>by kernel_rfl) ?_
 rintro r w7 ⟨rfl,m7⟩
 replace MR:=lh (MR.out.then0 m7)
 refine⟨_,rfl,fun _=>MR.out,?_⟩
 refine ag [9,10,11,12,13] [.tuple #[.int .i64 ((i:Nat):Int),.bool B],.int .i64 ((i:Nat):Int),.bool B,.int .i64 ((i:Nat):Int),.bool B] rfl (by kernel_rfl) (fun _=>by kernel_rfl) ?_
 exact aA (aQ (K:=Q .normal) (by kernel_rfl) (HQ.out (.bool B) (.tuple #[.int .i64 ((i:Nat):Int),.bool B]) (aj g 0) (aj g 0) (aj g 0) (.slice (some ⟨b,off,none⟩) n cap) (.int .i64 ((p:Nat):Int)) (aj b (off+p)) ((.slice ap k pc)) (fv) (.tuple #[.int .i64 ((i:Nat):Int),.bool B]) (.int .i64 ((i:Nat):Int)) (.bool B) _ MR.out))
theorem ris3t {w:World}{m g cap n p:Nat}{ao:Option Addr} (c1:w.cell? ⟨m,0,none⟩=some (.pointer (some ⟨g,0,none⟩))) (c2:w.cell? ⟨g,0,none⟩=some (.slice ao n cap)) (hn:p<n)
  (hK:∀ (mJ mM mO qO qP qQ:Value)  (w':World),w'=w→Q .normal ⟨#[x0,.pointer (some ⟨m,0,none⟩),x2,x3,.int .i64 ((p:Nat):Int),x5,x6,x7,x8,x9,bg,bn,bi,aY,aU,aS,aT,aW,aZ,aX,bu,bz,bF,bG,bH,bM,bT,bQ,mJ,mM,mO,qO,qP,qQ,.bool true,dQ,dR,dX,dF,dM,dN,dG,dH,dI,dJ,dK,dL,dE,dY,dO,dS,dU,dZ,ed,eu,eF,eG,eQ,eU,fK,fG,fD],df⟩ w'):RW Tryz.prog (aH 3 Tryz.f223) false Q ⟨#[x0,.pointer (some ⟨m,0,none⟩),x2,x3,.int .i64 ((p:Nat):Int),x5,x6,x7,x8,x9,bg,bn,bi,aY,aU,aS,aT,aW,aZ,aX,bu,bz,bF,bG,bH,bM,bT,bQ,cO,cZ,di,dw,eH,eP,dW,dQ,dR,dX,dF,dM,dN,dG,dH,dI,dJ,dK,dL,dE,dY,dO,dS,dU,dZ,ed,eu,eF,eG,eQ,eU,fK,fG,fD],df⟩ w:=by
 have HQ:=lh hK
 clear hK
 refine bZ [(0,false),(1,false),(2,false),(3,false),(4,false),(5,false),(6,false)] (by kernel_rfl) ?_
 refine aC [0] [.int .i64 ((p:Nat):Int)] rfl (by kernel_rfl) (by kernel_rfl) (.inr trivial) ?_
 refine aP (aj g 0) _ (some 29) (ki (by kernel_rfl)) (aB (x:=(.tmp 1)) (by kernel_rfl) (by kernel_rfl) (aO ((fun _=>c1) (trivial)) Tryz.underlying129 rfl)) (fun _=>trivial) ?_
 refine aC [2,3] [aj g 0,aj g 0] rfl (by kernel_rfl) (by kernel_rfl) (.inr trivial) ?_
 refine aP ((.slice ao n cap)) _ (some 32) (ki (by kernel_rfl)) (aB (x:=(.tmp 31)) (by kernel_rfl) (by kernel_rfl) (aO ((fun _=>c2) (trivial)) Tryz.underlying228 rfl)) (fun _=>trivial) ?_
 refine aC [5] [.int .i64 ((n:Nat):Int)] rfl (by kernel_rfl) (by kernel_rfl) (.inr trivial) ?_
 refine aP (.bool true) _ (some 34) (ki (by kernel_rfl)) (bV (t:=3) (t':=3) (xv := .int .i64 ((p:Nat):Int)) (yv := .int .i64 ((n:Nat):Int)) (x:=(.tmp 28)) (y:=(.tmp 33)) (by kernel_rfl) (by kernel_rfl) (by kernel_rfl) (fun _=>by kernel_rfl) (qU _ (decide_eq_true (by omega)))) (fun _=>trivial) ?_
 exact aA (aQ (K:=Q .normal) (by kernel_rfl) (HQ.out (.int .i64 ((p:Nat):Int)) (aj g 0) (aj g 0) (aj g 0) ((.slice ao n cap)) (.int .i64 ((n:Nat):Int)) _ rfl))
theorem ris3f {w:World}{m g cap n p:Nat}{ao:Option Addr} (c1:w.cell? ⟨m,0,none⟩=some (.pointer (some ⟨g,0,none⟩))) (c2:w.cell? ⟨g,0,none⟩=some (.slice ao n cap)) (hn:¬ p<n)
  (hK:∀ (mJ mM mO qO qP qQ:Value)  (w':World),w'=w→Q .normal ⟨#[x0,.pointer (some ⟨m,0,none⟩),x2,x3,.int .i64 ((p:Nat):Int),x5,x6,x7,x8,x9,bg,bn,bi,aY,aU,aS,aT,aW,aZ,aX,bu,bz,bF,bG,bH,bM,bT,bQ,mJ,mM,mO,qO,qP,qQ,.bool false,dQ,dR,dX,dF,dM,dN,dG,dH,dI,dJ,dK,dL,dE,dY,dO,dS,dU,dZ,ed,eu,eF,eG,eQ,eU,fK,fG,fD],df⟩ w'):RW Tryz.prog (aH 3 Tryz.f223) false Q ⟨#[x0,.pointer (some ⟨m,0,none⟩),x2,x3,.int .i64 ((p:Nat):Int),x5,x6,x7,x8,x9,bg,bn,bi,aY,aU,aS,aT,aW,aZ,aX,bu,bz,bF,bG,bH,bM,bT,bQ,cO,cZ,di,dw,eH,eP,dW,dQ,dR,dX,dF,dM,dN,dG,dH,dI,dJ,dK,dL,dE,dY,dO,dS,dU,dZ,ed,eu,eF,eG,eQ,eU,fK,fG,fD],df⟩ w:=by
 have HQ:=lh hK
 clear hK
 refine bZ [(0,false),(1,false),(2,false),(3,false),(4,false),(5,false),(6,false)] (by kernel_rfl) ?_
 refine aC [0] [.int .i64 ((p:Nat):Int)] rfl (by kernel_rfl) (by kernel_rfl) (.inr trivial) ?_
 refine aP (aj g 0) _ (some 29) (ki (by kernel_rfl)) (aB (x:=(.tmp 1)) (by kernel_rfl) (by kernel_rfl) (aO ((fun _=>c1) (trivial)) Tryz.underlying129 rfl)) (fun _=>trivial) ?_
 refine aC [2,3] [aj g 0,aj g 0] rfl (by kernel_rfl) (by kernel_rfl) (.inr trivial) ?_
 refine aP ((.slice ao n cap)) _ (some 32) (ki (by kernel_rfl)) (aB (x:=(.tmp 31)) (by kernel_rfl) (by kernel_rfl) (aO ((fun _=>c2) (trivial)) Tryz.underlying228 rfl)) (fun _=>trivial) ?_
 refine aC [5] [.int .i64 ((n:Nat):Int)] rfl (by kernel_rfl) (by kernel_rfl) (.inr trivial) ?_
 refine aP (.bool false) _ (some 34) (ki (by kernel_rfl)) (bV (t:=3) (t':=3) (xv := .int .i64 ((p:Nat):Int)) (yv := .int .i64 ((n:Nat):Int)) (x:=(.tmp 28)) (y:=(.tmp 33)) (by kernel_rfl) (by kernel_rfl) (by kernel_rfl) (fun _=>by kernel_rfl) (qU _ (decide_eq_false (by omega)))) (fun _=>trivial) ?_
 exact aA (aQ (K:=Q .normal) (by kernel_rfl) (HQ.out (.int .i64 ((p:Nat):Int)) (aj g 0) (aj g 0) (aj g 0) ((.slice ao n cap)) (.int .i64 ((n:Nat):Int)) _ rfl))
theorem ris5t {w:World}{m g b off cap n p k i pc:Nat}{ap:Option Addr} (c1:w.cell? ⟨m,0,none⟩=some (.pointer (some ⟨g,0,none⟩))) (c2:w.cell? ⟨g,0,none⟩=some (.slice (some ⟨b,off,none⟩) n cap)) (c3:w.cell? ⟨b,off+p,none⟩=some (.slice ap k pc)) (hp:p<n) (hn:i<k)
  (hK:∀ (y37 y38 y39 y40 y41 y42 y43 y44 y45:Value)  (w':World),w'=w→Q .normal ⟨#[x0,.pointer (some ⟨m,0,none⟩),x2,x3,.int .i64 ((p:Nat):Int),.int .i64 ((i:Nat):Int),x6,x7,x8,x9,bg,bn,bi,aY,aU,aS,aT,aW,aZ,aX,bu,bz,bF,bG,bH,bM,bT,bQ,cO,cZ,di,dw,eH,eP,dW,dQ,dR,y37,y38,y39,y40,y41,y42,y43,y44,y45,.bool true,dE,dY,dO,dS,dU,dZ,ed,eu,eF,eG,eQ,eU,fK,fG,fD],df⟩ w'):RW Tryz.prog (aH 5 Tryz.f223) false Q ⟨#[x0,.pointer (some ⟨m,0,none⟩),x2,x3,.int .i64 ((p:Nat):Int),.int .i64 ((i:Nat):Int),x6,x7,x8,x9,bg,bn,bi,aY,aU,aS,aT,aW,aZ,aX,bu,bz,bF,bG,bH,bM,bT,bQ,cO,cZ,di,dw,eH,eP,dW,dQ,dR,dX,dF,dM,dN,dG,dH,dI,dJ,dK,dL,dE,dY,dO,dS,dU,dZ,ed,eu,eF,eG,eQ,eU,fK,fG,fD],df⟩ w:=by
 have HQ:=lh hK
 clear hK
 refine bZ [(0,false),(1,false),(2,false),(3,false),(4,false),(5,false),(6,false),(7,false),(8,false),(9,false)] (by kernel_rfl) ?_
 refine aC [0] [.int .i64 ((i:Nat):Int)] rfl (by kernel_rfl) (by kernel_rfl) (.inr trivial) ?_
 refine aP (aj g 0) _ (some 38) (ki (by kernel_rfl)) (aB (x:=(.tmp 1)) (by kernel_rfl) (by kernel_rfl) (aO ((fun _=>c1) (trivial)) Tryz.underlying129 rfl)) (fun _=>trivial) ?_
 refine aC [2,3] [aj g 0,aj g 0] rfl (by kernel_rfl) (by kernel_rfl) (.inr trivial) ?_
 refine aP (.slice (some ⟨b,off,none⟩) n cap) _ (some 41) (ki (by kernel_rfl)) (aB (x:=(.tmp 40)) (by kernel_rfl) (by kernel_rfl) (aO ((fun _=>c2) (trivial)) Tryz.underlying228 rfl)) (fun _=>trivial) ?_
 refine aC [5] [.int .i64 ((p:Nat):Int)] rfl (by kernel_rfl) (by kernel_rfl) (.inr trivial) ?_
 refine aP (aj b (off+p)) _ (some 43) (ki (by kernel_rfl)) (gI (s:=1) (e:=258) (g:=b) (off:=off) (n:=n) (c:=cap) (i:=((p:Nat):Int)) (x:=(.tmp 41)) (y:=(.tmp 42)) (off+p) (by kernel_rfl) (by kernel_rfl) (by kernel_rfl) Tryz.underlying228 (by kernel_rfl) (by omega) (by omega) (by omega)) (fun _=>trivial) ?_
 refine aP ((.slice ap k pc)) _ (some 44) (ki (by kernel_rfl)) (aB (x:=(.tmp 43)) (by kernel_rfl) (by kernel_rfl) (aO ((fun _=>c3) (trivial)) Tryz.underlying258 rfl)) (fun _=>trivial) ?_
 refine aC [8] [.int .i64 ((k:Nat):Int)] rfl (by kernel_rfl) (by kernel_rfl) (.inr trivial) ?_
 refine aP (.bool true) _ (some 46) (ki (by kernel_rfl)) (bV (t:=3) (t':=3) (xv := .int .i64 ((i:Nat):Int)) (yv := .int .i64 ((k:Nat):Int)) (x:=(.tmp 37)) (y:=(.tmp 45)) (by kernel_rfl) (by kernel_rfl) (by kernel_rfl) (fun _=>by kernel_rfl) (qU _ (decide_eq_true (by omega)))) (fun _=>trivial) ?_
 exact aA (aQ (K:=Q .normal) (by kernel_rfl) (HQ.out (.int .i64 ((i:Nat):Int)) (aj g 0) (aj g 0) (aj g 0) (.slice (some ⟨b,off,none⟩) n cap) (.int .i64 ((p:Nat):Int)) (aj b (off+p)) ((.slice ap k pc)) (.int .i64 ((k:Nat):Int)) _ rfl))
theorem ris5f {w:World}{m g b off cap n p k i pc:Nat}{ap:Option Addr} (c1:w.cell? ⟨m,0,none⟩=some (.pointer (some ⟨g,0,none⟩))) (c2:w.cell? ⟨g,0,none⟩=some (.slice (some ⟨b,off,none⟩) n cap)) (c3:w.cell? ⟨b,off+p,none⟩=some (.slice ap k pc)) (hp:p<n) (hn:¬ i<k)
  (hK:∀ (y37 y38 y39 y40 y41 y42 y43 y44 y45:Value)  (w':World),w'=w→Q .normal ⟨#[x0,.pointer (some ⟨m,0,none⟩),x2,x3,.int .i64 ((p:Nat):Int),.int .i64 ((i:Nat):Int),x6,x7,x8,x9,bg,bn,bi,aY,aU,aS,aT,aW,aZ,aX,bu,bz,bF,bG,bH,bM,bT,bQ,cO,cZ,di,dw,eH,eP,dW,dQ,dR,y37,y38,y39,y40,y41,y42,y43,y44,y45,.bool false,dE,dY,dO,dS,dU,dZ,ed,eu,eF,eG,eQ,eU,fK,fG,fD],df⟩ w'):RW Tryz.prog (aH 5 Tryz.f223) false Q ⟨#[x0,.pointer (some ⟨m,0,none⟩),x2,x3,.int .i64 ((p:Nat):Int),.int .i64 ((i:Nat):Int),x6,x7,x8,x9,bg,bn,bi,aY,aU,aS,aT,aW,aZ,aX,bu,bz,bF,bG,bH,bM,bT,bQ,cO,cZ,di,dw,eH,eP,dW,dQ,dR,dX,dF,dM,dN,dG,dH,dI,dJ,dK,dL,dE,dY,dO,dS,dU,dZ,ed,eu,eF,eG,eQ,eU,fK,fG,fD],df⟩ w:=by
 have HQ:=lh hK
 clear hK
 refine bZ [(0,false),(1,false),(2,false),(3,false),(4,false),(5,false),(6,false),(7,false),(8,false),(9,false)] (by kernel_rfl) ?_
 refine aC [0] [.int .i64 ((i:Nat):Int)] rfl (by kernel_rfl) (by kernel_rfl) (.inr trivial) ?_
 refine aP (aj g 0) _ (some 38) (ki (by kernel_rfl)) (aB (x:=(.tmp 1)) (by kernel_rfl) (by kernel_rfl) (aO ((fun _=>c1) (trivial)) Tryz.underlying129 rfl)) (fun _=>trivial) ?_
 refine aC [2,3] [aj g 0,aj g 0] rfl (by kernel_rfl) (by kernel_rfl) (.inr trivial) ?_
 refine aP (.slice (some ⟨b,off,none⟩) n cap) _ (some 41) (ki (by kernel_rfl)) (aB (x:=(.tmp 40)) (by kernel_rfl) (by kernel_rfl) (aO ((fun _=>c2) (trivial)) Tryz.underlying228 rfl)) (fun _=>trivial) ?_
 refine aC [5] [.int .i64 ((p:Nat):Int)] rfl (by kernel_rfl) (by kernel_rfl) (.inr trivial) ?_
 refine aP (aj b (off+p)) _ (some 43) (ki (by kernel_rfl)) (gI (s:=1) (e:=258) (g:=b) (off:=off) (n:=n) (c:=cap) (i:=((p:Nat):Int)) (x:=(.tmp 41)) (y:=(.tmp 42)) (off+p) (by kernel_rfl) (by kernel_rfl) (by kernel_rfl) Tryz.underlying228 (by kernel_rfl) (by omega) (by omega) (by omega)) (fun _=>trivial) ?_
 refine aP ((.slice ap k pc)) _ (some 44) (ki (by kernel_rfl)) (aB (x:=(.tmp 43)) (by kernel_rfl) (by kernel_rfl) (aO ((fun _=>c3) (trivial)) Tryz.underlying258 rfl)) (fun _=>trivial) ?_
 refine aC [8] [.int .i64 ((k:Nat):Int)] rfl (by kernel_rfl) (by kernel_rfl) (.inr trivial) ?_
 refine aP (.bool false) _ (some 46) (ki (by kernel_rfl)) (bV (t:=3) (t':=3) (xv := .int .i64 ((i:Nat):Int)) (yv := .int .i64 ((k:Nat):Int)) (x:=(.tmp 37)) (y:=(.tmp 45)) (by kernel_rfl) (by kernel_rfl) (by kernel_rfl) (fun _=>by kernel_rfl) (qU _ (decide_eq_false (by omega)))) (fun _=>trivial) ?_
 exact aA (aQ (K:=Q .normal) (by kernel_rfl) (HQ.out (.int .i64 ((i:Nat):Int)) (aj g 0) (aj g 0) (aj g 0) (.slice (some ⟨b,off,none⟩) n cap) (.int .i64 ((p:Nat):Int)) (aj b (off+p)) ((.slice ap k pc)) (.int .i64 ((k:Nat):Int)) _ rfl))
theorem ris7 {w:World}{l m g b off cap n p k i pb po pc:Nat}{u v:Value} (c1:w.cell? ⟨m,0,none⟩=some (.pointer (some ⟨g,0,none⟩))) (c2:w.cell? ⟨g,0,none⟩=some (.slice (some ⟨b,off,none⟩) n cap)) (c3:w.cell? ⟨b,off+p,none⟩=some (.slice (some ⟨pb,po,none⟩) k pc)) (c4:w.cell? ⟨pb,po+i*2,none⟩=some u) (c5:w.cell? ⟨pb,po+i*2+1,none⟩=some v) (hp:p<n) (hi:i<k)
  (hK:∀ (y50 y51 y52 y53 y54 y55 y56 y57 y58:Value)  (w':World),w'=w→Q .normal ⟨#[.func (.yield l) #[] #[],.pointer (some ⟨m,0,none⟩),x2,x3,.int .i64 ((p:Nat):Int),.int .i64 ((i:Nat):Int),x6,x7,x8,x9,bg,bn,bi,aY,aU,aS,aT,aW,aZ,aX,bu,bz,bF,bG,bH,bM,bT,bQ,cO,cZ,di,dw,eH,eP,dW,dQ,dR,dX,dF,dM,dN,dG,dH,dI,dJ,dK,dL,dE,dY,.func (.yield l) #[] #[],y50,y51,y52,y53,y54,y55,y56,y57,y58,.agg #[u,v],fG,fD],df⟩ w'):RW Tryz.prog ((aH 7 Tryz.f223).toList.take 11).toArray false Q ⟨#[.func (.yield l) #[] #[],.pointer (some ⟨m,0,none⟩),x2,x3,.int .i64 ((p:Nat):Int),.int .i64 ((i:Nat):Int),x6,x7,x8,x9,bg,bn,bi,aY,aU,aS,aT,aW,aZ,aX,bu,bz,bF,bG,bH,bM,bT,bQ,cO,cZ,di,dw,eH,eP,dW,dQ,dR,dX,dF,dM,dN,dG,dH,dI,dJ,dK,dL,dE,dY,dO,dS,dU,dZ,ed,eu,eF,eG,eQ,eU,fK,fG,fD],df⟩ w:=by
 have HQ:=lh hK
 clear hK
 refine bZ [(0,false),(1,false),(2,false),(3,false),(4,false),(5,false),(6,false),(7,false),(8,false),(9,false),(10,false)] (by kernel_rfl) ?_
 refine aC [0] [.func (.yield l) #[] #[]] rfl (by kernel_rfl) (by kernel_rfl) (.inr trivial) ?_
 refine aP (aj g 0) _ (some 50) (ki (by kernel_rfl)) (aB (x:=(.tmp 1)) (by kernel_rfl) (by kernel_rfl) (aO ((fun _=>c1) (trivial)) Tryz.underlying129 rfl)) (fun _=>trivial) ?_
 refine aC [2,3] [aj g 0,aj g 0] rfl (by kernel_rfl) (by kernel_rfl) (.inr trivial) ?_
 refine aP (.slice (some ⟨b,off,none⟩) n cap) _ (some 53) (ki (by kernel_rfl)) (aB (x:=(.tmp 52)) (by kernel_rfl) (by kernel_rfl) (aO ((fun _=>c2) (trivial)) Tryz.underlying228 rfl)) (fun _=>trivial) ?_
 refine aC [5] [.int .i64 ((p:Nat):Int)] rfl (by kernel_rfl) (by kernel_rfl) (.inr trivial) ?_
 refine aP (aj b (off+p)) _ (some 55) (ki (by kernel_rfl)) (gI (s:=1) (e:=258) (g:=b) (off:=off) (n:=n) (c:=cap) (i:=((p:Nat):Int)) (x:=(.tmp 53)) (y:=(.tmp 54)) (off+p) (by kernel_rfl) (by kernel_rfl) (by kernel_rfl) Tryz.underlying228 (by kernel_rfl) (by omega) (by omega) (by omega)) (fun _=>trivial) ?_
 refine aP (.slice (some ⟨pb,po,none⟩) k pc) _ (some 56) (ki (by kernel_rfl)) (aB (x:=(.tmp 55)) (by kernel_rfl) (by kernel_rfl) (aO ((fun _=>c3) (trivial)) Tryz.underlying258 rfl)) (fun _=>trivial) ?_
 refine aC [8] [.int .i64 ((i:Nat):Int)] rfl (by kernel_rfl) (by kernel_rfl) (.inr trivial) ?_
 refine aP (aj pb (po+i*2)) _ (some 58) (ki (by kernel_rfl)) (gI (s:=2) (e:=244) (g:=pb) (off:=po) (n:=k) (c:=pc) (i:=((i:Nat):Int)) (x:=(.tmp 56)) (y:=(.tmp 57)) (po+i*2) (by kernel_rfl) (by kernel_rfl) (by kernel_rfl) Tryz.underlying258 (by kernel_rfl) (by omega) (by omega) (by omega)) (fun _=>trivial) ?_
 refine aP (.agg #[u,v]) _ (some 59) (ki (by kernel_rfl)) (aB (x:=(.tmp 58)) (by kernel_rfl) (by kernel_rfl) (dD [u,v] ((fun _=>DK c4 c5) (trivial)) Tryz.underlying244 rfl (by kernel_rfl))) (fun _=>trivial) ?_
 exact aA (aQ (K:=Q .normal) (by kernel_rfl) (HQ.out (aj g 0) (aj g 0) (aj g 0) (.slice (some ⟨b,off,none⟩) n cap) (.int .i64 ((p:Nat):Int)) (aj b (off+p)) (.slice (some ⟨pb,po,none⟩) k pc) (.int .i64 ((i:Nat):Int)) (aj pb (po+i*2)) _ rfl))
theorem ris6 {w:World}{i:Nat} (hi:i≤1000000000)
  (hK:∀ (y47 y48:Value)  (w':World),w'=w→Q .normal ⟨#[x0,x1,x2,x3,x4,.int .i64 (((i+1):Nat):Int),x6,x7,x8,x9,bg,bn,bi,aY,aU,aS,aT,aW,aZ,aX,bu,bz,bF,bG,bH,bM,bT,bQ,cO,cZ,di,dw,eH,eP,dW,dQ,dR,dX,dF,dM,dN,dG,dH,dI,dJ,dK,dL,y47,y48,dO,dS,dU,dZ,ed,eu,eF,eG,eQ,eU,fK,fG,fD],df⟩ w'):RW Tryz.prog (aH 6 Tryz.f223) false Q ⟨#[x0,x1,x2,x3,x4,.int .i64 ((i:Nat):Int),x6,x7,x8,x9,bg,bn,bi,aY,aU,aS,aT,aW,aZ,aX,bu,bz,bF,bG,bH,bM,bT,bQ,cO,cZ,di,dw,eH,eP,dW,dQ,dR,dX,dF,dM,dN,dG,dH,dI,dJ,dK,dL,dE,dY,dO,dS,dU,dZ,ed,eu,eF,eG,eQ,eU,fK,fG,fD],df⟩ w:=by
 have HQ:=lh hK
 clear hK
 refine bZ [(0,false),(1,false),(2,false)] (by kernel_rfl) ?_
 refine aC [0] [.int .i64 ((i:Nat):Int)] rfl (by kernel_rfl) (by kernel_rfl) (.inr trivial) ?_
 refine aP (.int .i64 (((i+1):Nat):Int)) _ (some 48) (ki (by kernel_rfl)) (bV (t:=3) (t':=3) (xv := .int .i64 ((i:Nat):Int)) (yv := .int .i64 1) (x:=(.tmp 47)) (y:=(.const (.int .i64 1))) (by kernel_rfl) (by kernel_rfl) (by kernel_rfl) (fun _=>by kernel_rfl) (iQ _ (by omega) (by omega) (by omega))) (fun _=>trivial) ?_
 refine aC [2] [.int .i64 (((i+1):Nat):Int)] rfl (by kernel_rfl) (by kernel_rfl) (.inr trivial) ?_
 exact aA (aQ (K:=Q .normal) (by kernel_rfl) (HQ.out (.int .i64 ((i:Nat):Int)) (.int .i64 (((i+1):Nat):Int)) _ rfl))
theorem ris4 {w:World}{p:Nat} (hi:p≤1000000000)
  (hK:∀ (y35 y36:Value)  (w':World),w'=w→Q .normal ⟨#[x0,x1,x2,x3,.int .i64 (((p+1):Nat):Int),.int .i64 0,x6,x7,x8,x9,bg,bn,bi,aY,aU,aS,aT,aW,aZ,aX,bu,bz,bF,bG,bH,bM,bT,bQ,cO,cZ,di,dw,eH,eP,dW,y35,y36,dX,dF,dM,dN,dG,dH,dI,dJ,dK,dL,dE,dY,dO,dS,dU,dZ,ed,eu,eF,eG,eQ,eU,fK,fG,fD],df⟩ w'):RW Tryz.prog (aH 4 Tryz.f223) false Q ⟨#[x0,x1,x2,x3,.int .i64 ((p:Nat):Int),x5,x6,x7,x8,x9,bg,bn,bi,aY,aU,aS,aT,aW,aZ,aX,bu,bz,bF,bG,bH,bM,bT,bQ,cO,cZ,di,dw,eH,eP,dW,dQ,dR,dX,dF,dM,dN,dG,dH,dI,dJ,dK,dL,dE,dY,dO,dS,dU,dZ,ed,eu,eF,eG,eQ,eU,fK,fG,fD],df⟩ w:=by
 have HQ:=lh hK
 clear hK
 refine bZ [(0,false),(1,false),(2,false),(3,false)] (by kernel_rfl) ?_
 refine aC [0] [.int .i64 ((p:Nat):Int)] rfl (by kernel_rfl) (by kernel_rfl) (.inr trivial) ?_
 refine aP (.int .i64 (((p+1):Nat):Int)) _ (some 36) (ki (by kernel_rfl)) (bV (t:=3) (t':=3) (xv := .int .i64 ((p:Nat):Int)) (yv := .int .i64 1) (x:=(.tmp 35)) (y:=(.const (.int .i64 1))) (by kernel_rfl) (by kernel_rfl) (by kernel_rfl) (fun _=>by kernel_rfl) (iQ _ (by omega) (by omega) (by omega))) (fun _=>trivial) ?_
 refine aC [2,3] [.int .i64 (((p+1):Nat):Int),.int .i64 0] rfl (by kernel_rfl) (by kernel_rfl) (.inr trivial) ?_
 exact aA (aQ (K:=Q .normal) (by kernel_rfl) (HQ.out (.int .i64 ((p:Nat):Int)) (.int .i64 (((p+1):Nat):Int)) _ rfl))
theorem wk0 {w:World}{l:Nat}{x1 x2 x3 x4 x5 x6 x7 x8 x9 bg bn bi aY aU aS aT aW aZ aX bu bz bF bG bH bM bT bQ cO cZ di:Value}{df:List Deferred}{Q:Exit→Act→World→Prop}
  (hK:∀ (bq:Nat) (w':World),bq=w.heap.size→w'.heap[bq]?=some (.cells #[.func (.yield l) #[] #[]] 150)→ae ai w w'→Q .normal ⟨#[.func (.yield l) #[] #[],x1,x2,x3,.pointer (some ⟨bq,0,none⟩),x5,x6,x7,x8,x9,bg,bn,bi,aY,aU,aS,aT,aW,aZ,aX,bu,bz,bF,bG,bH,bM,bT,bQ,cO,cZ,di],df⟩ w'):RW Tryz.prog (aH 0 Tryz.f159) false Q ⟨#[.func (.yield l) #[] #[],x1,x2,x3,x4,x5,x6,x7,x8,x9,bg,bn,bi,aY,aU,aS,aT,aW,aZ,aX,bu,bz,bF,bG,bH,bM,bT,bQ,cO,cZ,di],df⟩ w:=by
 have HQ:=lh hK
 clear hK
 refine bZ [(0,false)] (by kernel_rfl) ?_
 refine fU (.cells #[.func (.yield l) #[] #[]] 150) (some 4) (ki (by kernel_rfl)) (by kernel_rfl) ?_
 intro k1 w_k1 hk_k1 hO_k1 hm_k1 hl_k1
 refine⟨fun _=>trivial,?_⟩
 exact aA (aQ (K:=Q .normal) (by kernel_rfl) (HQ.out  k1 w_k1 hk_k1 hO_k1 hm_k1))
theorem wk1 {w:World}{m bf g:Nat}{fv:Value}{X:Nat→Nat→World→Prop} (c1:w.cell? ⟨m,0,none⟩=some (.pointer (some ⟨g,0,none⟩))) (c2:w.cell? ⟨bf,0,none⟩=some fv) (hC:Calls Tryz.prog 160 #[.pointer (some ⟨g,0,none⟩),fv] w fun e w'=>∃ ma bf:Nat,e = .returned (.func (.func 223) #[] #[.pointer (some ⟨ma,0,none⟩),.pointer (some ⟨bf,0,none⟩)])∧X ma bf w')
  (hK:∀ (y6 y7:Value) (ma bq:Nat) (w':World),X ma bq w'→Q .normal ⟨#[x0,.pointer (some ⟨m,0,none⟩),.pointer (some ⟨bf,0,none⟩),x3,x4,x5,y6,y7,.func (.func 223) #[] #[.pointer (some ⟨ma,0,none⟩),.pointer (some ⟨bq,0,none⟩)],x9,bg,bn,bi,aY,aU,aS,aT,aW,aZ,aX,bu,bz,bF,bG,bH,bM,bT,bQ,cO,cZ,di],df⟩ w'):RW Tryz.prog (aH 1 Tryz.f159) false Q ⟨#[x0,.pointer (some ⟨m,0,none⟩),.pointer (some ⟨bf,0,none⟩),x3,x4,x5,x6,x7,x8,x9,bg,bn,bi,aY,aU,aS,aT,aW,aZ,aX,bu,bz,bF,bG,bH,bM,bT,bQ,cO,cZ,di],df⟩ w:=by
 have HQ:=lh hK
 clear hK
 refine bZ [(0,false),(1,false),(2,false)] (by kernel_rfl) ?_
 refine aP (aj g 0) _ (some 6) (ki (by kernel_rfl)) (aB (x:=(.tmp 1)) (by kernel_rfl) (by kernel_rfl) (aO ((fun _=>c1) (trivial)) Tryz.underlying129 rfl)) (fun _=>trivial) ?_
 refine aP (fv) _ (some 7) (ki (by kernel_rfl)) (aB (x:=(.tmp 2)) (by kernel_rfl) (by kernel_rfl) (aO ((fun _=>c2) (trivial)) Tryz.underlying91 rfl)) (fun _=>trivial) ?_
 refine az (some 8) (ki (by kernel_rfl)) hC (fun _=>by kernel_rfl) ?_
 rintro r w7 ⟨ma,bf,rfl,hh⟩
 refine⟨_,rfl,fun _=>trivial,?_⟩
 exact aA (aQ (K:=Q .normal) (by kernel_rfl) (HQ.out (aj g 0) (fv) ma bf w7 hh))
theorem wk2 {w:World}{u v:Value} (hu:u.oneCell'=true) (hv:v.oneCell'=true)
  (hK:∀ (bq:Nat) (w':World),w.heap.size≤bq→w'.heap[bq]?=some (.cells #[u,v] 244 (0,0))→ae ai w w'→Q .normal ⟨#[x0,x1,x2,x3,x4,.pointer (some ⟨bq,0,none⟩),x6,x7,x8,.agg #[u,v],bg,bn,bi,aY,aU,aS,aT,aW,aZ,aX,bu,bz,bF,bG,bH,bM,bT,bQ,cO,cZ,di],df⟩ w'):RW Tryz.prog (aH 2 Tryz.f159) false Q ⟨#[x0,x1,x2,x3,x4,x5,x6,x7,x8,.agg #[u,v],bg,bn,bi,aY,aU,aS,aT,aW,aZ,aX,bu,bz,bF,bG,bH,bM,bT,bQ,cO,cZ,di],df⟩ w:=by
 have HQ:=lh hK
 clear hK
 refine bZ [(0,false),(1,false)] (by kernel_rfl) ?_
 refine fU (.cells #[.slice none 0 0,.slice none 0 0] 244) (some 5) (ki (by kernel_rfl)) (by kernel_rfl) ?_
 intro k1 w_k1 hk_k1 hO_k1 hm_k1 hl_k1
 refine⟨fun _=>trivial,?_⟩
 refine qp (off:=0) (ty:=244) (x:=(.tmp 5)) (y:=(.tmp 9)) (cells:=#[u,v]) #[u,v] none (ki (by kernel_rfl)) (by kernel_rfl) (by kernel_rfl) (by kernel_rfl) hO_k1 (by kernel_rfl) (by kernel_rfl) (by simp [hu,hv]) (by kernel_rfl) ?_
 intro w9 hO9 hm9 hs9
 refine⟨fun _=>trivial,?_⟩
 have hM:=hm_k1.trans hm9 (U:=ai) (fun _ _ x=>x) (fun i hi e=>by omega)
 exact aA (aQ (K:=Q .normal) (by kernel_rfl) (HQ.out  k1 w9 (Nat.le_of_eq hk_k1.symm) hO9 hM))
theorem wk3s {w:World}{l x bt by1:Nat}{at1:Option Addr}{ct:Nat}{u v:Value}{ks vs ts:List UInt8} (q1:w.heap[x]?=some (.cells #[u,v] 244 (0,0))) (q2:w.cell? ⟨bt,0,none⟩=some (.slice at1 ts.length ct)) (q3:bt<w.heap.size) (hu:Rd w u ks) (hv:Rd w v vs) (ht:Rd w (.slice at1 ts.length ct) ts) (lk:ks.length≤1000000) (lv:vs.length≤1000000) (h1:ts≠[]) (h2:0≤Lib.compareBytes ks ts)
  (hK:∀ (jU pU qN kF jV jW jO jC kG kH mi jP jD jl jQ jw jX mF mJ mM:Value)  (w':World),ae ai w w'→Q .normal ⟨#[x0,x1,x2,.pointer (some ⟨bt,0,none⟩),.pointer (some ⟨by1,0,none⟩),.pointer (some ⟨x,0,none⟩),x6,x7,x8,x9,jU,pU,qN,kF,jV,jW,jO,jC,kG,kH,mi,jP,jD,jl,jQ,jw,jX,mF,mJ,mM,.bool true],df⟩ w'):RW Tryz.prog (aH 3 Tryz.f159) true Q ⟨#[x0,x1,x2,.pointer (some ⟨bt,0,none⟩),.pointer (some ⟨by1,0,none⟩),.pointer (some ⟨x,0,none⟩),x6,x7,x8,x9,bg,bn,bi,aY,aU,aS,aT,aW,aZ,aX,bu,bz,bF,bG,bH,bM,bT,bQ,cO,cZ,di],df⟩ w:=by
 have HQ:=lh hK
 clear hK
 have L1:0<ts.length:=List.length_pos_iff.2 h1
 have HU:=lh hu
 have HV:=lh hv
 have HT:=lh ht
 have MR:=lh ((ae.refl ai w).drew)
 have Q1:=lh (fun b' (hm:ae ai w b')=>show b'.cell? ⟨x,0,none⟩=some u from af (hm.heap q1 (fun x=>x)) 0)
 have Q6:=lh (fun b' (hm:ae ai w b')=>show b'.cell? ⟨x,1,none⟩=some v from af (hm.heap q1 (fun x=>x)) 1)
 have Q2:=lh (fun b' (hm:ae ai w b')=>show b'.cell? ⟨bt,0,none⟩=some (.slice at1 ts.length ct) from (hm.cellAt q3 (fun x=>x) 0).trans q2)
 clear hu hv ht q1 q2 q3
 refine iU (S:=fun b'=>ae ai w b') [(0,true),(1,true),(2,true),(3,true),(4,true),(5,true),(6,true),(7,false),(8,true),(9,true),(10,true),(11,true),(12,true),(13,true),(15,true),(16,true),(14,false),(17,false),(18,false),(19,true),(20,true)] [] [(0,8,1024),(1,1024,2048),(2,2048,4096),(4,4096,8192),(8,8224,16384),(24,24576,32768),(8,8200,65536),(104,106496,131072),(136,139264,262144),(264,270336,524288),(640,524288,1048576),(1024,1048592,2097152),(1024,1048608,4194304),(5120,5242880,8388608),(9216,9437184,16777216),(1024,1048608,33554432),(33792,34603008,67108864),(82944,68157440,134217728),(150528,154140672,268435456),(263168,269484032,536870912),(525312,537919488,1073741824)] (by kernel_rfl) (by kernel_rfl) (by kernel_rfl) (by kernel_rfl) (by kernel_rfl) MR.out ?_
 refine ah ((.slice at1 ts.length ct)) (some 10) (ki (by kernel_rfl)) (fun bb hb=>aB (x:=(.tmp 3)) (by kernel_rfl) (by kernel_rfl) (aO (Q2.out _ hb) Tryz.underlying91 rfl)) ?_
 refine ag [1] [.int .i64 ((ts.length:Nat):Int)] rfl (by kernel_rfl) (fun _=>by kernel_rfl) ?_
 refine ah (.bool true) (some 12) (ki (by kernel_rfl)) (fun bb hb=>bV (t:=3) (t':=3) (xv := .int .i64 ((ts.length:Nat):Int)) (yv := .int .i64 0) (x:=(.tmp 11)) (y:=(.const (.int .i64 0))) (by kernel_rfl) (by kernel_rfl) (by kernel_rfl) (fun _=>by kernel_rfl) (sQ _ (decide_eq_true (by omega)))) ?_
 refine ag [3,4] [.bool true,aj x 0] rfl (by kernel_rfl) (fun _=>by kernel_rfl) ?_
 refine ah (u) (some 15) (ki (by kernel_rfl)) (fun bb hb=>aB (x:=(.tmp 14)) (by kernel_rfl) (by kernel_rfl) (aO (Q1.out _ hb) Tryz.underlying91 rfl)) ?_
 refine ah ((.slice at1 ts.length ct)) (some 16) (ki (by kernel_rfl)) (fun bb hb=>aB (x:=(.tmp 3)) (by kernel_rfl) (by kernel_rfl) (aO (Q2.out _ hb) Tryz.underlying91 rfl)) ?_
 refine az (some 17) (ki (by kernel_rfl)) (ut (HU.out.keep MR.out (fun _ _ x=>x)) (HT.out.keep MR.out (fun _ _ x=>x))) (fun _=>by kernel_rfl) ?_
 rintro r wc ⟨rfl,rfl⟩
 refine⟨_,rfl,fun _=>MR.out,?_⟩
 refine ah (.bool true) (some 18) (ki (by kernel_rfl)) (fun bb hb=>bV (t:=3) (t':=3) (xv := .int .i64 (Lib.compareBytes ks ts)) (yv := .int .i64 0) (x:=(.tmp 17)) (y:=(.const (.int .i64 0))) (by kernel_rfl) (by kernel_rfl) (by kernel_rfl) (fun _=>by kernel_rfl) (vJ _ (decide_eq_true (by omega)))) ?_
 refine ag [9,10,11,12,13,15,16] [.bool true,.bool true,undef,undef,undef,undef,undef] rfl (by kernel_rfl) (fun _=>by kernel_rfl) ?_
 refine lD (some 24) (ki (by kernel_rfl)) (fun _=>MR.out) ?_
 refine lD (some 27) (ki (by kernel_rfl)) (fun _=>MR.out) ?_
 refine lD (some 28) (ki (by kernel_rfl)) (fun _=>MR.out) ?_
 refine ag [19,20] [undef,.bool true] rfl (by kernel_rfl) (fun _=>by kernel_rfl) ?_
 exact aA (aQ (K:=Q .normal) (by kernel_rfl) (HQ.out ((.slice at1 ts.length ct)) (.int .i64 ((ts.length:Nat):Int)) (.bool true) (.bool true) (aj x 0) (u) ((.slice at1 ts.length ct)) (.int .i64 (Lib.compareBytes ks ts)) (.bool true) (.bool true) (.bool true) (undef) (undef) (undef) (undef) (undef) (undef) (undef) (undef) (undef) _ MR.out))
theorem wk3a {w:World}{l x bt by1:Nat}{at1:Option Addr}{ct:Nat}{u v:Value}{ks vs ts:List UInt8} (q1:w.heap[x]?=some (.cells #[u,v] 244 (0,0))) (q2:w.cell? ⟨bt,0,none⟩=some (.slice at1 ts.length ct)) (q3:bt<w.heap.size) (hu:Rd w u ks) (hv:Rd w v vs) (ht:Rd w (.slice at1 ts.length ct) ts) (lk:ks.length≤1000000) (lv:vs.length≤1000000) (h1:ts=[]) (q4:w.cell? ⟨by1,0,none⟩=some (.func (.yield l) #[] #[])) (q5:by1<w.heap.size)
  (hK:∀ (jU pU qN kF jV jW jO jC kG kH jD jl jw jX:Value) (d1 d2:Value) (w':World),Gl.Own w' d1 ks→Gl.Own w' d2 vs→aG w d1→aG w d2→(∀ k,d1.ownBlock=some k→d2.ownBlock≠some k)→ae ai w w'→Q .normal ⟨#[x0,x1,x2,.pointer (some ⟨bt,0,none⟩),.pointer (some ⟨by1,0,none⟩),.pointer (some ⟨x,0,none⟩),x6,x7,x8,x9,jU,pU,qN,kF,jV,jW,jO,jC,kG,kH,.bool false,.func (.yield l) #[] #[],jD,jl,d1,jw,jX,d2,cO,cZ,di],df⟩ w'):RW Tryz.prog ((aH 3 Tryz.f159).toList.take 18).toArray true Q ⟨#[x0,x1,x2,.pointer (some ⟨bt,0,none⟩),.pointer (some ⟨by1,0,none⟩),.pointer (some ⟨x,0,none⟩),x6,x7,x8,x9,bg,bn,bi,aY,aU,aS,aT,aW,aZ,aX,bu,bz,bF,bG,bH,bM,bT,bQ,cO,cZ,di],df⟩ w:=by
 have HQ:=lh hK
 clear hK
 have L1:¬ 0<ts.length:=by rw [h1];simp
 have HU:=lh hu
 have HV:=lh hv
 have HT:=lh ht
 have MR:=lh ((ae.refl ai w).drew)
 have Q1:=lh (fun b' (hm:ae ai w b')=>show b'.cell? ⟨x,0,none⟩=some u from af (hm.heap q1 (fun x=>x)) 0)
 have Q6:=lh (fun b' (hm:ae ai w b')=>show b'.cell? ⟨x,1,none⟩=some v from af (hm.heap q1 (fun x=>x)) 1)
 have Q2:=lh (fun b' (hm:ae ai w b')=>show b'.cell? ⟨bt,0,none⟩=some (.slice at1 ts.length ct) from (hm.cellAt q3 (fun x=>x) 0).trans q2)
 have Q4:=lh (fun b' (hm:ae ai w b')=>show b'.cell? ⟨by1,0,none⟩=some (.func (.yield l) #[] #[]) from (hm.cellAt q5 (fun x=>x) 0).trans q4)
 clear hu hv ht q1 q2 q3 q4 q5
 refine iU (S:=fun b'=>ae ai w b') [(0,true),(1,true),(2,true),(3,true),(4,true),(5,true),(6,true),(7,false),(8,true),(9,true),(10,true),(11,true),(12,true),(13,true),(15,true),(16,true),(14,false),(17,false)] [] [(0,8,1024),(1,1024,2048),(2,2048,4096),(4,4096,8192),(8,8224,16384),(24,24576,32768),(8,8200,65536),(104,106496,131072),(136,139264,262144),(264,270336,524288),(640,524288,1048576),(1024,1048592,2097152),(1024,1048608,4194304),(5120,5242880,8388608),(9216,9437184,16777216),(1024,1048608,33554432),(33792,34603008,67108864),(82944,68157440,134217728)] (by kernel_rfl) (by kernel_rfl) (by kernel_rfl) (by kernel_rfl) (by kernel_rfl) MR.out ?_
 refine ah ((.slice at1 ts.length ct)) (some 10) (ki (by kernel_rfl)) (fun bb hb=>aB (x:=(.tmp 3)) (by kernel_rfl) (by kernel_rfl) (aO (Q2.out _ hb) Tryz.underlying91 rfl)) ?_
 refine ag [1] [.int .i64 ((ts.length:Nat):Int)] rfl (by kernel_rfl) (fun _=>by kernel_rfl) ?_
 refine ah (.bool false) (some 12) (ki (by kernel_rfl)) (fun bb hb=>bV (t:=3) (t':=3) (xv := .int .i64 ((ts.length:Nat):Int)) (yv := .int .i64 0) (x:=(.tmp 11)) (y:=(.const (.int .i64 0))) (by kernel_rfl) (by kernel_rfl) (by kernel_rfl) (fun _=>by kernel_rfl) (sQ _ (decide_eq_false (by omega)))) ?_
 refine ag [3,4,5,6] [.bool false,undef,undef,undef] rfl (by kernel_rfl) (fun _=>by kernel_rfl) ?_
 refine lD (some 17) (ki (by kernel_rfl)) (fun _=>MR.out) ?_
 refine ag [8,9,10] [undef,.bool false,.bool false] rfl (by kernel_rfl) (fun _=>by kernel_rfl) ?_
 refine ah (.func (.yield l) #[] #[]) (some 21) (ki (by kernel_rfl)) (fun bb hb=>aB (x:=(.tmp 4)) (by kernel_rfl) (by kernel_rfl) (aO (Q4.out _ hb) Tryz.underlying150 rfl)) ?_
 refine ag [12] [aj x 0] rfl (by kernel_rfl) (fun _=>by kernel_rfl) ?_
 refine ah (u) (some 23) (ki (by kernel_rfl)) (fun bb hb=>aB (x:=(.tmp 22)) (by kernel_rfl) (by kernel_rfl) (aO (Q1.out _ hb) Tryz.underlying91 rfl)) ?_
 refine ag [15] [aj x 1] rfl (by kernel_rfl) (fun _=>by kernel_rfl) ?_
 refine ah (v) (some 26) (ki (by kernel_rfl)) (fun bb hb=>aB (x:=(.tmp 25)) (by kernel_rfl) (by kernel_rfl) (aO (Q6.out _ hb) Tryz.underlying91 rfl)) ?_
 refine az (some 24) (ki (by kernel_rfl)) (ji (HU.out.keep MR.out (fun _ _ x=>x)) (by omega)) (fun _=>by kernel_rfl) ?_
 rintro r wd1 ⟨d1,rfl,o1,n1,f1⟩
 have F1:=lh (f1.of MR.out.size)
 have S1:=MR.out.size
 replace MR:=lh (MR.out.then0 n1)
 refine⟨_,rfl,fun _=>MR.out,?_⟩
 refine az (some 27) (ki (by kernel_rfl)) (ji (HV.out.keep MR.out (fun _ _ x=>x)) (by omega)) (fun _=>by kernel_rfl) ?_
 rintro r wd2 ⟨d2,rfl,o2,n2,f2⟩
 have F2:=lh (f2.of MR.out.size)
 have S2:=MR.out.size
 replace MR:=lh (MR.out.then0 n2)
 refine⟨_,rfl,fun _=>MR.out,?_⟩
 exact aA (aQ (K:=Q .normal) (by kernel_rfl) (HQ.out ((.slice at1 ts.length ct)) (.int .i64 ((ts.length:Nat):Int)) (.bool false) (.bool false) (undef) (undef) (undef) (undef) (undef) (.bool false) (aj x 0) (u) (aj x 1) (v) d1 d2 _ (o1.keep n2 (fun _ _ x=>x)) o2 F1.out F2.out (fun k hk hk2=>by have:=o1.lt k hk;have:=f2 k hk2;omega) MR.out))
theorem wk3b {w:World}{l x bt by1:Nat}{at1:Option Addr}{ct:Nat}{u v:Value}{ks vs ts:List UInt8} (q1:w.heap[x]?=some (.cells #[u,v] 244 (0,0))) (q2:w.cell? ⟨bt,0,none⟩=some (.slice at1 ts.length ct)) (q3:bt<w.heap.size) (hu:Rd w u ks) (hv:Rd w v vs) (ht:Rd w (.slice at1 ts.length ct) ts) (lk:ks.length≤1000000) (lv:vs.length≤1000000) (h1:ts≠[]) (h2:¬ 0≤Lib.compareBytes ks ts) (q4:w.cell? ⟨by1,0,none⟩=some (.func (.yield l) #[] #[])) (q5:by1<w.heap.size)
  (hK:∀ (jU pU qN kF jV jW jO jC kG kH jD jl jw jX:Value) (d1 d2:Value) (w':World),Gl.Own w' d1 ks→Gl.Own w' d2 vs→aG w d1→aG w d2→(∀ k,d1.ownBlock=some k→d2.ownBlock≠some k)→ae ai w w'→Q .normal ⟨#[x0,x1,x2,.pointer (some ⟨bt,0,none⟩),.pointer (some ⟨by1,0,none⟩),.pointer (some ⟨x,0,none⟩),x6,x7,x8,x9,jU,pU,qN,kF,jV,jW,jO,jC,kG,kH,.bool false,.func (.yield l) #[] #[],jD,jl,d1,jw,jX,d2,cO,cZ,di],df⟩ w'):RW Tryz.prog ((aH 3 Tryz.f159).toList.take 18).toArray true Q ⟨#[x0,x1,x2,.pointer (some ⟨bt,0,none⟩),.pointer (some ⟨by1,0,none⟩),.pointer (some ⟨x,0,none⟩),x6,x7,x8,x9,bg,bn,bi,aY,aU,aS,aT,aW,aZ,aX,bu,bz,bF,bG,bH,bM,bT,bQ,cO,cZ,di],df⟩ w:=by
 have HQ:=lh hK
 clear hK
 have L1:0<ts.length:=List.length_pos_iff.2 h1
 have HU:=lh hu
 have HV:=lh hv
 have HT:=lh ht
 have MR:=lh ((ae.refl ai w).drew)
 have Q1:=lh (fun b' (hm:ae ai w b')=>show b'.cell? ⟨x,0,none⟩=some u from af (hm.heap q1 (fun x=>x)) 0)
 have Q6:=lh (fun b' (hm:ae ai w b')=>show b'.cell? ⟨x,1,none⟩=some v from af (hm.heap q1 (fun x=>x)) 1)
 have Q2:=lh (fun b' (hm:ae ai w b')=>show b'.cell? ⟨bt,0,none⟩=some (.slice at1 ts.length ct) from (hm.cellAt q3 (fun x=>x) 0).trans q2)
 have Q4:=lh (fun b' (hm:ae ai w b')=>show b'.cell? ⟨by1,0,none⟩=some (.func (.yield l) #[] #[]) from (hm.cellAt q5 (fun x=>x) 0).trans q4)
 clear hu hv ht q1 q2 q3 q4 q5
 refine iU (S:=fun b'=>ae ai w b') [(0,true),(1,true),(2,true),(3,true),(4,true),(5,true),(6,true),(7,false),(8,true),(9,true),(10,true),(11,true),(12,true),(13,true),(15,true),(16,true),(14,false),(17,false)] [] [(0,8,1024),(1,1024,2048),(2,2048,4096),(4,4096,8192),(8,8224,16384),(24,24576,32768),(8,8200,65536),(104,106496,131072),(136,139264,262144),(264,270336,524288),(640,524288,1048576),(1024,1048592,2097152),(1024,1048608,4194304),(5120,5242880,8388608),(9216,9437184,16777216),(1024,1048608,33554432),(33792,34603008,67108864),(82944,68157440,134217728)] (by kernel_rfl) (by kernel_rfl) (by kernel_rfl) (by kernel_rfl) (by kernel_rfl) MR.out ?_
 refine ah ((.slice at1 ts.length ct)) (some 10) (ki (by kernel_rfl)) (fun bb hb=>aB (x:=(.tmp 3)) (by kernel_rfl) (by kernel_rfl) (aO (Q2.out _ hb) Tryz.underlying91 rfl)) ?_
 refine ag [1] [.int .i64 ((ts.length:Nat):Int)] rfl (by kernel_rfl) (fun _=>by kernel_rfl) ?_
 refine ah (.bool true) (some 12) (ki (by kernel_rfl)) (fun bb hb=>bV (t:=3) (t':=3) (xv := .int .i64 ((ts.length:Nat):Int)) (yv := .int .i64 0) (x:=(.tmp 11)) (y:=(.const (.int .i64 0))) (by kernel_rfl) (by kernel_rfl) (by kernel_rfl) (fun _=>by kernel_rfl) (sQ _ (decide_eq_true (by omega)))) ?_
 refine ag [3,4] [.bool true,aj x 0] rfl (by kernel_rfl) (fun _=>by kernel_rfl) ?_
 refine ah (u) (some 15) (ki (by kernel_rfl)) (fun bb hb=>aB (x:=(.tmp 14)) (by kernel_rfl) (by kernel_rfl) (aO (Q1.out _ hb) Tryz.underlying91 rfl)) ?_
 refine ah ((.slice at1 ts.length ct)) (some 16) (ki (by kernel_rfl)) (fun bb hb=>aB (x:=(.tmp 3)) (by kernel_rfl) (by kernel_rfl) (aO (Q2.out _ hb) Tryz.underlying91 rfl)) ?_
 refine az (some 17) (ki (by kernel_rfl)) (ut (HU.out.keep MR.out (fun _ _ x=>x)) (HT.out.keep MR.out (fun _ _ x=>x))) (fun _=>by kernel_rfl) ?_
 rintro r wc ⟨rfl,rfl⟩
 refine⟨_,rfl,fun _=>MR.out,?_⟩
 refine ah (.bool false) (some 18) (ki (by kernel_rfl)) (fun bb hb=>bV (t:=3) (t':=3) (xv := .int .i64 (Lib.compareBytes ks ts)) (yv := .int .i64 0) (x:=(.tmp 17)) (y:=(.const (.int .i64 0))) (by kernel_rfl) (by kernel_rfl) (by kernel_rfl) (fun _=>by kernel_rfl) (vJ _ (decide_eq_false (by omega)))) ?_
 refine ag [9,10] [.bool false,.bool false] rfl (by kernel_rfl) (fun _=>by kernel_rfl) ?_
 refine ah (.func (.yield l) #[] #[]) (some 21) (ki (by kernel_rfl)) (fun bb hb=>aB (x:=(.tmp 4)) (by kernel_rfl) (by kernel_rfl) (aO (Q4.out _ hb) Tryz.underlying150 rfl)) ?_
 refine ag [12] [aj x 0] rfl (by kernel_rfl) (fun _=>by kernel_rfl) ?_
 refine ah (u) (some 23) (ki (by kernel_rfl)) (fun bb hb=>aB (x:=(.tmp 22)) (by kernel_rfl) (by kernel_rfl) (aO (Q1.out _ hb) Tryz.underlying91 rfl)) ?_
 refine ag [15] [aj x 1] rfl (by kernel_rfl) (fun _=>by kernel_rfl) ?_
 refine ah (v) (some 26) (ki (by kernel_rfl)) (fun bb hb=>aB (x:=(.tmp 25)) (by kernel_rfl) (by kernel_rfl) (aO (Q6.out _ hb) Tryz.underlying91 rfl)) ?_
 refine az (some 24) (ki (by kernel_rfl)) (ji (HU.out.keep MR.out (fun _ _ x=>x)) (by omega)) (fun _=>by kernel_rfl) ?_
 rintro r wd1 ⟨d1,rfl,o1,n1,f1⟩
 have F1:=lh (f1.of MR.out.size)
 have S1:=MR.out.size
 replace MR:=lh (MR.out.then0 n1)
 refine⟨_,rfl,fun _=>MR.out,?_⟩
 refine az (some 27) (ki (by kernel_rfl)) (ji (HV.out.keep MR.out (fun _ _ x=>x)) (by omega)) (fun _=>by kernel_rfl) ?_
 rintro r wd2 ⟨d2,rfl,o2,n2,f2⟩
 have F2:=lh (f2.of MR.out.size)
 have S2:=MR.out.size
 replace MR:=lh (MR.out.then0 n2)
 refine⟨_,rfl,fun _=>MR.out,?_⟩
 exact aA (aQ (K:=Q .normal) (by kernel_rfl) (HQ.out ((.slice at1 ts.length ct)) (.int .i64 ((ts.length:Nat):Int)) (.bool true) (.bool true) (aj x 0) (u) ((.slice at1 ts.length ct)) (.int .i64 (Lib.compareBytes ks ts)) (.bool false) (.bool false) (aj x 0) (u) (aj x 1) (v) d1 d2 _ (o1.keep n2 (fun _ _ x=>x)) o2 F1.out F2.out (fun k hk hk2=>by have:=o1.lt k hk;have:=f2 k hk2;omega) MR.out))
theorem wkOwn {w:World}{bf bt:Nat}{fv tv:Value}{xs ts:List UInt8}{t1 t2:TypeId} (q1:w.heap[bf]?=some (.cells #[fv] t1 (0,0))) (q2:w.heap[bt]?=some (.cells #[tv] t2 (0,0))) (hne:¬ bf=bt) (hu:Rd w fv xs) (hv:Rd w tv ts) (lk:xs.length≤140737488355328) (lv:ts.length≤140737488355328)
  (hK:∀ (y7 y8 y9 jU:Value) (d1 d2:Value) (w':World),w'.heap[bf]?=some (.cells #[d1] t1 (0,0))→w'.heap[bt]?=some (.cells #[d2] t2 (0,0))→Gl.Own w' d1 xs→Gl.Own w' d2 ts→aG w d1→aG w d2→ae (fun k=>k=bf∨k=bt) w w'→Q .normal ⟨#[x0,x1,x2,x3,.pointer (some ⟨bf,0,none⟩),.pointer (some ⟨bt,0,none⟩),x6,y7,y8,y9,jU,bn],df⟩ w'):RW Tryz.prog (aH 1 Tryz.f91) true Q ⟨#[x0,x1,x2,x3,.pointer (some ⟨bf,0,none⟩),.pointer (some ⟨bt,0,none⟩),x6,x7,x8,x9,bg,bn],df⟩ w:=by
 have HQ:=lh hK
 clear hK
 have HU:=lh hu
 have HV:=lh hv
 have Q1:=lh (fun b' (hm:ae ai w b')=>show b'.cell? ⟨bf,0,none⟩=some fv from af (hm.heap q1 (fun x=>x)) 0)
 have Q2:=lh (fun b' (hm:ae ai w b')=>show b'.cell? ⟨bt,0,none⟩=some tv from af (hm.heap q2 (fun x=>x)) 0)
 clear hu hv
 have MR:=lh ((ae.refl ai w).drew)
 refine iq (S:=fun b'=>ae ai w b') [(0,true),(2,true),(1,false),(3,false),(4,false),(5,false)] [4,5] (by kernel_rfl) (by kernel_rfl) (by kernel_rfl) (by kernel_rfl) MR.out ?_
 refine ah (fv) (some 7) (ki (by kernel_rfl)) (fun bb hb=>aB (x:=(.tmp 4)) (by kernel_rfl) (by kernel_rfl) (aO (Q1.out _ hb) Tryz.underlying91 rfl)) ?_
 refine ah (tv) (some 9) (ki (by kernel_rfl)) (fun bb hb=>aB (x:=(.tmp 5)) (by kernel_rfl) (by kernel_rfl) (aO (Q2.out _ hb) Tryz.underlying91 rfl)) ?_
 refine az (some 8) (ki (by kernel_rfl)) (ji (HU.out.keep MR.out (fun _ _ x=>x)) lk) (fun _=>by kernel_rfl) ?_
 rintro r wd1 ⟨d1,rfl,o1,n1,f1⟩
 have F1:=lh (f1.of MR.out.size)
 replace MR:=lh (MR.out.then0 n1)
 obtain⟨ad1,cd1,ed1,_⟩:=o1.rd.form
 have od1:d1.oneCell'=true:=by rw [ed1];rfl
 refine⟨_,rfl,fun _=>MR.out,?_⟩
 refine az (some 10) (ki (by kernel_rfl)) (ji (HV.out.keep MR.out (fun _ _ x=>x)) lv) (fun _=>by kernel_rfl) ?_
 rintro r wd2 ⟨d2,rfl,o2,n2,f2⟩
 have F2:=lh (f2.of MR.out.size)
 replace MR:=lh (MR.out.then0 n2)
 obtain⟨ad2,cd2,ed2,_⟩:=o2.rd.form
 have od2:d2.oneCell'=true:=by rw [ed2];rfl
 refine⟨_,rfl,fun _=>MR.out,?_⟩
 have hb1:=MR.out.heap q1 (fun x=>x)
 have hb2:=MR.out.heap q2 (fun x=>x)
 refine gU (ty:=91) (x:=(.tmp 4)) (y:=(.tmp 8)) (g:=bf) (off:=0) (v:=d1) none (ki (by kernel_rfl)) (by kernel_rfl) (by kernel_rfl) (by kernel_rfl) (by kernel_rfl) (by rw [af hb1];rfl) (bY hb1 _) od1 ?_
 intro w91 hw91
 refine⟨(fun h=>by cases h),?_⟩
 have m91:ae (fun k=>k=bf) wd2 w91:=by rw [hw91];exact (ae.refl (fun k=>k=bf) wd2).setCell (p:=⟨bf,0,none⟩) (.inl rfl) d1
 have hc1:w91.heap[bf]?=some (.cells #[d1] t1 (0,0)):=by rw [hw91];exact heap_set hb1 0 d1
 have hc2:=m91.heap hb2 (fun e=>hne e.symm)
 refine gU (ty:=91) (x:=(.tmp 5)) (y:=(.tmp 10)) (g:=bt) (off:=0) (v:=d2) none (ki (by kernel_rfl)) (by kernel_rfl) (by kernel_rfl) (by kernel_rfl) (by kernel_rfl) (by rw [af hc2];rfl) (bY hc2 _) od2 ?_
 intro w92 hw92
 refine⟨(fun h=>by cases h),?_⟩
 have m92:ae (fun k=>k=bt) w91 w92:=by rw [hw92];exact (ae.refl (fun k=>k=bt) w91).setCell (p:=⟨bt,0,none⟩) (.inl rfl) d2
 have he2:w92.heap[bt]?=some (.cells #[d2] t2 (0,0)):=by rw [hw92];exact heap_set hc2 0 d2
 have he1:=m92.heap hc1 hne
 have hbl:=lt_of_heap q1
 have htl:=lt_of_heap q2
 have p1:=((o1.keep n2 (fun _ _ x=>x)).keep m91 (fun k hk e=>by have:=F1.out k hk;omega)).keep m92 (fun k hk e=>by have:=F1.out k hk;omega)
 have p2:=(o2.keep m91 (fun k hk e=>by have:=F2.out k hk;omega)).keep m92 (fun k hk e=>by have:=F2.out k hk;omega)
 have pm:=(MR.out.trans m91 (U:=fun k=>k=bf∨k=bt) (fun _ _ x=>x.elim) (fun _ _ x => .inl x)).trans m92 (U:=fun k=>k=bf∨k=bt) (fun _ _ x=>x) (fun _ _ x => .inr x)
 exact aA (aQ (K:=Q .normal) (by kernel_rfl) (HQ.out (fv) (d1) (tv) (d2) d1 d2 w92 he1 he2 p1 p2 F1.out F2.out pm))
end
open Go.Gl Go.RowKit
def rest (R:List PV) (p i:Nat):List EV:=((R.drop p).flatMap (·.es)).drop i
def lF (R:List PV) (xs:List UInt8):List EV:=rest R (bK (aI R) xs).1 (bK (aI R) xs).2.1
theorem Dk {R:List PV}{p i:Nat} (hp:p<R.length) (hi:i≤(R[p]).es.length):rest R p i=(R[p]).es.drop i ++ rest R (p+1) 0:=by
 unfold rest
 rw [List.drop_eq_getElem_cons hp,List.flatMap_cons,List.drop_append_of_le_length hi,List.drop_zero]
theorem rest_end {R:List PV}{p i:Nat} (hp:R.length≤p):rest R p i=[]:=by
 unfold rest
 rw [List.drop_of_length_le hp];simp
theorem DZ {R:List PV}{p i:Nat} (hp:p<R.length) (hi:i<(R[p]).es.length):rest R p i=(R[p]).es[i] :: rest R p (i+1):=by
 rw [Dk hp (Nat.le_of_lt hi),Dk hp hi,List.drop_eq_getElem_cons hi,List.cons_append]
theorem OG {R:List PV}{p:Nat} (hp:p<R.length):rest R p (R[p]).es.length=rest R (p+1) 0:=by
 rw [Dk hp (Nat.le_refl _),List.drop_of_length_le (Nat.le_refl _),List.nil_append]
def uf (g:Nat) (vo:Value) (R:List PV) (m bf:Nat) (fv:Value) (k:Nat):Prop:=MS g vo R k∨MD R k∨k=m∨k=bf∨fv.ownBlock=some k
def ARis (R:List PV) (xs:List UInt8) (i:Nat) (_:Nat→Prop) (args:Array Value) (_:World):Prop:=∃ e,(lF R xs)[i]?=some e∧args=#[.agg #[e.kv,e.vv]]
theorem Fp {vs:Array Value}{k:Nat} (h:iR #[.agg vs] k):False:=by
 obtain⟨v,hv,hk⟩:=h
 have:v = .agg vs:=by simpa using hv
 rw [this] at hk
 simp [Value.ownBlock] at hk
structure jg (w:World) (g:Nat) (vo:Value) (R:List PV) (m bf:Nat) (fv:Value) (xs:List UInt8):Prop where
 pm:PM w g vo R
 bm:∃ t,w.heap[m]?=some (.cells #[.pointer (some ⟨g,0,none⟩)] t (0,0))
 bfr:∃ t,w.heap[bf]?=some (.cells #[fv] t (0,0))
 fr:Gl.Own w fv xs
theorem jg.keep {w w':World}{g:Nat}{vo:Value}{R:List PV}{m bf:Nat}{fv:Value}{xs:List UInt8} (h:jg w g vo R m bf fv xs) (hm:ae (fun k=>¬ uf g vo R m bf fv k) w w'):jg w' g vo R m bf fv xs:=by
 obtain⟨t1,h1⟩:=h.bm
 obtain⟨t2,h2⟩:=h.bfr
 exact⟨h.pm.keep hm (fun k hk x=>x (.inl hk)) (fun k hk x=>x (.inr (.inl hk))),⟨t1,hm.heap h1 (fun x=>x (.inr (.inr (.inl rfl))))⟩,⟨t2,hm.heap h2 (fun x=>x (.inr (.inr (.inr (.inl rfl)))))⟩,h.fr.keep hm (fun k hk x=>x (.inr (.inr (.inr (.inr hk)))))⟩
theorem jg.lt {w:World}{g:Nat}{vo:Value}{R:List PV}{m bf:Nat}{fv:Value}{xs:List UInt8} (h:jg w g vo R m bf fv xs):∀ k,uf g vo R m bf fv k→k<w.heap.size:=by
 obtain⟨t1,h1⟩:=h.bm
 obtain⟨t2,h2⟩:=h.bfr
 rintro k (hk | hk | rfl | rfl | hk)
 ·exact h.pm.lt k hk
 ·exact h.pm.dlt k hk
 ·exact lt_of_heap h1
 ·exact lt_of_heap h2
 ·exact h.fr.lt k hk
theorem IK {w:World}{g:Nat}{vo:Value}{R:List PV}{m bf:Nat}{fv:Value}{xs:List UInt8} (h:jg w g vo R m bf fv xs) (ok:gY (aI R)) (hn:R.length≤1000000) :
  Iter Tryz.prog 223 #[.pointer (some ⟨m,0,none⟩),.pointer (some ⟨bf,0,none⟩)] (lF R xs).length (ARis R xs) (uf g vo R m bf fv) ai w:=by
 intro l J Jx W hW hJ hJx hY h0
 have pre:=h.keep hW
 obtain⟨SZ,hSZ⟩:∃ SZ,W.heap.size=SZ:=⟨_,rfl⟩
 rw [hSZ] at hY
 have hs0:SZ≤W.heap.size:=Nat.le_of_eq hSZ.symm
 clear h hW hSZ
 have hlen:∀ q∈R,q.es.length≤32:=fun q hq=>by
  have:=ok.most (ents q.es) (List.mem_map_of_mem (f:=fun p=>ents p.es) hq)
  rwa [fF] at this
 have hne:∀ q∈R,q.es≠[]:=fun q hq e=>by
  have:=ok.ne (ents q.es) (List.mem_map_of_mem (f:=fun p=>ents p.es) hq)
  rw [e] at this
  exact this rfl
 have keepJ:∀ i A B,J i (uf g vo R m bf fv) A→jg A g vo R m bf fv xs→ae ai A B→J i (uf g vo R m bf fv) B:=fun i A B hj hp hm=>hJ i _ _ A B hj (hm.mono (fun _ _ x=>x.elim)) hp.lt (fun k hk => .inl hk)
 have keepX:∀ i A B,Jx i (uf g vo R m bf fv) A→jg A g vo R m bf fv xs→ae ai A B→Jx i (uf g vo R m bf fv) B:=fun i A B hj hp hm=>hJx i _ _ A B hj (hm.mono (fun _ _ x=>x.elim)) hp.lt (fun k hk => .inl hk)
 obtain⟨tm,hbm⟩:=pre.bm
 obtain⟨tf,hbf⟩:=pre.bfr
 obtain⟨ao,cap,hvo,_⟩:=(bC.rd pre.pm.row).form
 have c1:W.cell? ⟨m,0,none⟩=some (.pointer (some ⟨g,0,none⟩)):=af hbm 0
 have c2:W.cell? ⟨g,0,none⟩=some (.slice ao R.length cap):=by rw [← hvo];exact af pre.pm.hg 0
 by_cases hR:R=[]
 ·have hz:R.length=0:=by rw [hR];rfl
  have hr0:lF R xs=[]:=by rw [hR];rfl
  (refine FN _ Tryz.func223 rfl ?_;simp only [Tryz.ntmps223,List.size_toArray,List.length_cons,List.length_nil,Nat.reduceAdd,Nat.reduceSub,Array.replicate_succ,Array.replicate_zero,List.push_toArray,List.append_toArray,List.nil_append,List.cons_append])
  refine wpIn_seq ?_
  refine wpIn_seq ?_
  refine bW (d := .region 0 (aH 0 Tryz.f223) false) (by kernel_rfl) ?_
  refine RW.wpIn (ris0e c1 c2 hz ?_) (by kernel_rfl)
  intros
  rename_i hw
  subst hw
  refine bP ?_
  refine wpIn_cond_true rfl ?_
  refine wpIn_ret ?_
  repeat (refine sU ?_)
  refine bodyPost_ret (results_none rfl _ _ _) rfl ?_
  refine⟨⟨_,rfl⟩,.inl ⟨_,?_,pre.lt⟩⟩
  rw [hr0]
  exact h0
 ·obtain⟨hp0,hi0⟩:=JP (ys:=xs) hR
  obtain⟨b,off,rfl⟩:∃ b off,ao=some ⟨b,off,none⟩:=by
   rcases pre.pm.open with ⟨h1,_⟩ | ⟨b,off,cp,hv,_,_,_⟩
   ·exact absurd h1 hR
   ·rw [hvo] at hv;cases hv;exact⟨_,_,rfl⟩
  have hne':aI R≠[]:=fun h=>hR (by cases R with | nil=>rfl | cons a b=>simp [aI] at h)
  have HP:=lh (fun (wr:World) (hp:jg wr g vo R m bf fv xs)=>Bf hp.pm hp.fr.rd ok hn)
  have PL:=lh (fun (wr:World) (hp:jg wr g vo R m bf fv xs) (p:Nat) (hlt:p<R.length)=>Ef (hp.pm.page (List.getElem_mem hlt)) hp.fr.rd (by have:=ok.page (i:=p) (by rw [fH];exact hlt);simpa [aI] using this) (by have:=hlen _ (List.getElem_mem hlt);omega))
  have hfind:=xY hne' xs
  have hrl:lF R xs=rest R (bK (aI R) xs).1 (bK (aI R) xs).2.1:=rfl
  generalize bK (aI R) xs=F at *
  obtain⟨P,I,B⟩:=F
  simp only at hp0 hi0 hrl
  have hF1:P=jm (aI R) xs:=congrArg Prod.fst hfind
  have hF2:I=jd (ents (R[P]).es) xs:=by
   have:=congrArg (fun x=>x.2.1) hfind
   simp only at this
   rw [← hF1,kD hp0] at this
   exact this
  have keepM:∀ A B,jg A g vo R m bf fv xs→ae ai A B→jg B g vo R m bf fv xs:=fun A B hp hm=>hp.keep (hm.mono (fun _ _ x=>x.elim))
  have k1:∀ wr,jg wr g vo R m bf fv xs→wr.cell? ⟨m,0,none⟩=some (.pointer (some ⟨g,0,none⟩)):=fun wr hp=>by obtain⟨t,h⟩:=hp.bm;exact af h 0
  have k2:∀ wr,jg wr g vo R m bf fv xs→wr.cell? ⟨g,0,none⟩=some (.slice (some ⟨b,off,none⟩) R.length cap):=fun wr hp=>by rw [← hvo];exact af hp.pm.hg 0
  have k3:∀ wr,jg wr g vo R m bf fv xs→wr.cell? ⟨bf,0,none⟩=some fv:=fun wr hp=>by obtain⟨t,h⟩:=hp.bfr;exact af h 0
  have k4:∀ wr,jg wr g vo R m bf fv xs→∀ p (hp:p<R.length),wr.cell? ⟨b,off+p,none⟩=some (R[p]).pv:=fun wr hp p hlt=>by have:=hp.pm;rw [hvo] at this;exact this.rowcell (ae.refl ai wr) hlt
  have KK:=lh (And.intro k1 (And.intro k2 (And.intro k3 k4)))
  clear k1 k2 k3 k4 hfind c1 hbm hbf
  (refine FN _ Tryz.func223 rfl ?_;simp only [Tryz.ntmps223,List.size_toArray,List.length_cons,List.length_nil,Nat.reduceAdd,Nat.reduceSub,Array.replicate_succ,Array.replicate_zero,List.push_toArray,List.append_toArray,List.nil_append,List.cons_append])
  refine wpIn_seq ?_
  refine wpIn_seq ?_
  refine bW (d := .region 0 (aH 0 Tryz.f223) false) (by kernel_rfl) ?_
  refine RW.wpIn (ris0n (KK.out.1 _ pre) c2 (fun h=>hR (List.length_eq_zero_iff.1 h)) ?_) (by kernel_rfl)
  intros
  rename_i hw
  subst hw
  refine bP ?_
  refine wpIn_cond_false rfl ?_
  refine wpIn_skip ?_
  refine bP ?_
  refine wpIn_seq ?_
  refine bW (d := .region 1 (aH 1 Tryz.f223) false) (by kernel_rfl) ?_
  refine RW.wpIn (ris1 (KK.out.1 _ pre) (KK.out.2.2.1 _ pre) (HP.out _ pre) ?_) (by kernel_rfl)
  intros
  rename_i w1 m1
  have pre1:=keepM _ _ pre m1
  have h1:=keepJ _ _ _ h0 pre m1
  clear h0 pre c2
  rw [← hF1]
  refine bP ?_
  refine wpIn_seq ?_
  obtain⟨ap,pc,hpv,_⟩:=(pre1.pm.page (List.getElem_mem hp0)).row.form
  refine bW (d := .region 2 (aH 2 Tryz.f223) true) (by kernel_rfl) ?_
  refine RW.wpIn (ris2 (fun b' hb=>KK.out.1 _ (keepM _ _ pre1 hb)) (fun b' hb=>KK.out.2.1 _ (keepM _ _ pre1 hb)) (fun b' hb=>(KK.out.2.2.2 _ (keepM _ _ pre1 hb) P hp0).trans (congrArg some hpv)) (fun b' hb=>KK.out.2.2.1 _ (keepM _ _ pre1 hb)) hp0 (fun b' hb=>by have:=PL.out _ (keepM _ _ pre1 hb) P hp0;rw [hpv] at this;exact this) ?_) (by kernel_rfl)
  intros
  rename_i w2 m2
  have pre2:=keepM _ _ pre1 m2
  have h2:=keepJ _ _ _ h1 pre1 m2
  have hs2:=Nat.le_trans hs0 (Nat.le_trans m1.size m2.size)
  clear h1 pre1 m1 m2
  rw [← hF2]
  refine bP ?_
  refine wpIn_block ?_
  refine wpIn_loop (fun a wr=>∃ p i j:Nat,Ae [] (.func (.yield l) #[] #[]) (.pointer (some ⟨m,0,none⟩)) (.pointer (some ⟨bf,0,none⟩)) (.int .i64 ((p:Nat):Int)) (.int .i64 ((i:Nat):Int)) a∧p≤R.length∧(∀ hp:p<R.length,i≤(R[p]).es.length)∧j≤(lF R xs).length∧(lF R xs).drop j=rest R p i∧J j (uf g vo R m bf fv) wr∧jg wr g vo R m bf fv xs∧SZ≤wr.heap.size)
   (fun a _=>R.length - (intOf (a.tmps.getD 4 undef)).toNat) ⟨P,I,0,Ae.mk,Nat.le_of_lt hp0,fun _=>hi0,Nat.zero_le _,by rw [List.drop_zero,hrl],h2,pre2,hs2⟩ ?_
  clear h2 pre2 hs2
  rintro a wr ⟨p,i,j,hfr,hpl,hil,hjl,hdj,hJj,hpre,hws⟩
  have g4:a.tmps.getD 4 undef = .int .i64 ((p:Nat):Int):=hfr.elim (C:=fun a=>a.tmps.getD 4 undef = .int .i64 ((p:Nat):Int)) (by intros;rfl)
  refine hfr.elim (C:=fun a=>Code.wpIn _ _ _ _ _ a _) ?_
  intros
  refine wpIn_seq ?_
  refine wpIn_seq ?_
  refine bW (d := .region 3 (aH 3 Tryz.f223) false) (by kernel_rfl) ?_
  by_cases hlt:p<R.length
  ·have hil:=hil hlt
   have hmem:=List.getElem_mem hlt
   obtain⟨pb,po,pc1,hpv1,ob1⟩:=hpre.pm.pageOB hmem (hne _ hmem)
   refine RW.wpIn (ris3t (KK.out.1 _ hpre) (KK.out.2.1 _ hpre) hlt ?_) (by kernel_rfl)
   intros
   rename_i hw
   subst hw
   refine bP ?_
   refine wpIn_cond_true rfl ?_
   refine wpIn_skip ?_
   refine bP ?_
   refine wpIn_seq ?_
   refine wpIn_block ?_
   refine wpIn_block ?_
   refine wpIn_loop (fun a wr=>∃ i j:Nat,Ae [] (.func (.yield l) #[] #[]) (.pointer (some ⟨m,0,none⟩)) (.pointer (some ⟨bf,0,none⟩)) (.int .i64 ((p:Nat):Int)) (.int .i64 ((i:Nat):Int)) a∧i≤(R[p]).es.length∧j≤(lF R xs).length∧(lF R xs).drop j=rest R p i∧J j (uf g vo R m bf fv) wr∧jg wr g vo R m bf fv xs∧SZ≤wr.heap.size)
    (fun a _=>(R[p]).es.length - (intOf (a.tmps.getD 5 undef)).toNat) ⟨i,j,Ae.mk,hil,hjl,hdj,hJj,hpre,hws⟩ ?_
   clear hil hjl hdj hJj hpre ob1 hpv1 hws
   rintro a5 wr ⟨i,j,hfr,hil,hjl,hdj,hJj,hpre,hws⟩
   have g5:a5.tmps.getD 5 undef = .int .i64 ((i:Nat):Int):=hfr.elim (C:=fun a=>a.tmps.getD 5 undef = .int .i64 ((i:Nat):Int)) (by intros;rfl)
   obtain⟨pb,po,pc1,hpv1,ob1⟩:=hpre.pm.pageOB hmem (hne _ hmem)
   refine hfr.elim (C:=fun a=>Code.wpIn _ _ _ _ _ a _) ?_
   intros
   refine wpIn_seq ?_
   refine wpIn_seq ?_
   refine bW (d := .region 5 (aH 5 Tryz.f223) false) (by kernel_rfl) ?_
   have c3:=(KK.out.2.2.2 _ hpre p hlt).trans (congrArg some hpv1)
   by_cases hin:i<(R[p]).es.length
   ·refine RW.wpIn (ris5t (KK.out.1 _ hpre) (KK.out.2.1 _ hpre) c3 hlt hin ?_) (by kernel_rfl)
    intros
    rename_i hw
    subst hw
    refine bP ?_
    refine wpIn_cond_true rfl ?_
    refine wpIn_skip ?_
    refine bP ?_
    refine wpIn_seq ?_
    refine wpIn_block ?_
    refine wpIn_seq ?_
    refine bW (d := .region 7 (aH 7 Tryz.f223) false) (by kernel_rfl) ?_
    have hcs:=wV (R[p]).es i hin
    have hjlt:j<(lF R xs).length:=by
     rcases Nat.lt_or_ge j (lF R xs).length with h | h
     ·exact h
     ·rw [List.drop_of_length_le h,DZ hlt hin] at hdj;cases hdj
    have hdj':=hdj
    rw [DZ hlt hin,List.drop_eq_getElem_cons hjlt] at hdj'
    obtain⟨hd1,hd2⟩:=List.cons.inj hdj'
    refine jk (Q1:=fun _ a' w'=>wpOpsIn _ _ _ _ _ _ a' w') 11 (by kernel_rfl) (ris7 (KK.out.1 _ hpre) (KK.out.2.1 _ hpre) c3 (by have:=ob1.cell hcs.1;exact this) (by have:=ob1.cell hcs.2;rw [Nat.add_assoc];exact this) hlt hin ?_) (fun _ _ h=>h)
    intros
    rename_i hw
    subst hw
    have hY1:=hY j (uf g vo R m bf fv) #[.agg #[((R[p]).es[i]).kv,((R[p]).es[i]).vv]] _ hjlt hJj ⟨(R[p]).es[i],by rw [List.getElem?_eq_getElem hjlt,hd1],rfl⟩ hpre.lt hws (hJ _ _ _ _ _ hJj (ae.refl _ _) hpre.lt (fun k hk => .inl (hk.elim id (fun h=>(Fp h).elim)))) (fun k hk=>(Fp hk).elim)
    refine kV (some 60) (ki (by kernel_rfl)) (by kernel_rfl) (by kernel_rfl) hY1 ?_
    rintro e w3 (⟨rfl,hJ3,m3⟩ | ⟨rfl,hJ3,m3⟩)
    ·have pre3:=hpre.keep m3
     refine⟨_,rfl,?_⟩
     refine fZ (.bool false) (some 61) (ki (by kernel_rfl)) (by kernel_rfl) (by kernel_rfl) ?_
     refine bP ?_
     refine wpIn_cond_false rfl ?_
     refine wpIn_skip ?_
     refine jh ?_
     refine bP ?_
     refine bW (d := .region 6 (aH 6 Tryz.f223) false) (by kernel_rfl) ?_
     refine RW.wpIn (ris6 (by have:=hlen _ hmem;omega) ?_) (by kernel_rfl)
     intros
     rename_i hw
     subst hw
     refine bP ?_
     refine⟨⟨i+1,j+1,Ae.mk,hin,hjlt,hd2,hJ3,pre3,Nat.le_trans hws m3.size⟩,?_⟩
     rw [g5]
     show (R[p]).es.length - (i+1)<(R[p]).es.length - i
     omega
    ·have pre3:=hpre.keep m3
     refine⟨_,rfl,?_⟩
     refine fZ (.bool true) (some 61) (ki (by kernel_rfl)) (by kernel_rfl) (by kernel_rfl) ?_
     refine bP ?_
     refine wpIn_cond_true rfl ?_
     refine wpIn_ret ?_
     repeat (first | refine sU ?_ | refine kU ?_)
     refine bodyPost_ret (results_none rfl _ _ _) rfl ?_
     exact⟨⟨_,rfl⟩,.inr ⟨j,_,hjlt,hJ3,pre3.lt⟩⟩
   ·obtain rfl:i=(R[p]).es.length:=by omega
    refine RW.wpIn (ris5f (KK.out.1 _ hpre) (KK.out.2.1 _ hpre) c3 hlt hin ?_) (by kernel_rfl)
    intros
    rename_i hw
    subst hw
    refine bP ?_
    refine wpIn_cond_false rfl ?_
    refine wpIn_exit ?_
    repeat (refine Hu ?_)
    refine CS ?_
    refine jh ?_
    refine bP ?_
    refine bW (d := .region 4 (aH 4 Tryz.f223) false) (by kernel_rfl) ?_
    refine RW.wpIn (ris4 (by omega) ?_) (by kernel_rfl)
    intros
    rename_i hw
    subst hw
    refine bP ?_
    refine⟨⟨p+1,0,j,Ae.mk,hlt,fun _=>Nat.zero_le _,hjl,by rw [hdj,OG hlt],hJj,hpre,hws⟩,?_⟩
    rw [g4]
    show R.length - (p+1)<R.length - p
    omega
  ·refine RW.wpIn (ris3f (KK.out.1 _ hpre) (KK.out.2.1 _ hpre) hlt ?_) (by kernel_rfl)
   intros
   rename_i hw
   subst hw
   refine bP ?_
   refine wpIn_cond_false rfl ?_
   refine wpIn_exit ?_
   repeat (refine Hu ?_)
   refine CS ?_
   refine bodyPost_end (results_none rfl _ _ _) rfl ?_
   have hj:j=(lF R xs).length:=by
    rw [rest_end (by omega)] at hdj
    have:=List.drop_eq_nil_iff.1 hdj
    omega
   subst hj
   exact⟨⟨_,rfl⟩,.inl ⟨_,hJj,hpre.lt⟩⟩
open Go.Gl Go.RowKit
def under (ts:List UInt8) (e:EV):Bool:=ts.isEmpty || aJ e.k ts
def lU (R:List PV) (xs ts:List UInt8):List EV:=(lF R xs).takeWhile (under ts)
theorem Vm (R:List PV) (xs ts:List UInt8):(lU R xs ts).length≤(lF R xs).length:=List.Sublist.length_le (List.takeWhile_sublist _)
theorem yu {α:Type} (p:α→Bool) (l:List α):∀ (i:Nat) (e:α),i≤(l.takeWhile p).length→l[i]?=some e→(p e=true↔i<(l.takeWhile p).length)∧(i<(l.takeWhile p).length→(l.takeWhile p)[i]?=some e):=by
  induction l with
  | nil=>intro i e _ h;simp at h
  | cons a l ih =>
    intro i e hi he
    rw [List.takeWhile_cons] at hi ⊢
    cases hp:p a with
    | true =>
      rw [hp] at hi
      simp only [if_true] at hi ⊢
      rcases i with _ | i
      · obtain rfl:a=e:=by simpa using he
        exact⟨⟨fun _=>by simp,fun _=>hp⟩,fun _=>rfl⟩
      · obtain⟨h1,h2⟩:=ih i e (by simpa using hi) (by simpa using he)
        exact⟨⟨fun h=>(by have:=h1.1 h;simp;omega),fun h=>h1.2 (by simpa using h)⟩,fun h=>(by simpa using h2 (by simpa using h))⟩
    | false =>
      rw [hp] at hi
      simp only [Bool.false_eq_true,if_false,List.length_nil,Nat.le_zero] at hi ⊢
      subst hi
      obtain rfl:a=e:=by simpa using he
      exact⟨⟨fun h=>(by rw [hp] at h;cases h),fun h=>(by omega)⟩,fun h=>(by omega)⟩
def yl (B:Nat) (L:List EV) (i:Nat) (U:Nat→Prop) (args:Array Value) (W:World):Prop :=
 ∃ e kv vv,L[i]?=some e∧args=#[kv,vv]∧Gl.Own W kv e.k∧Gl.Own W vv e.v∧(∀ k,kv.ownBlock=some k→¬ U k)∧(∀ k,vv.ownBlock=some k→¬ U k)∧(∀ k,kv.ownBlock=some k→vv.ownBlock≠some k)∧(∀ k,kv.ownBlock=some k→B≤k)∧(∀ k,vv.ownBlock=some k→B≤k)
theorem Nh {W:World}{v:Value}{xs:List UInt8} (h:Gl.Own W v xs) {k:Nat} (hk:v.ownBlock=some k):∃ o,W.heap[k]?=some o∧o.isCells=true:=by
 rcases h.2 with ⟨rfl,_⟩ | ⟨g,off,cap,cur,rfl,hg,_⟩
 ·simp [Value.ownBlock] at hk
 ·simp [Value.ownBlock] at hk
  subst hk
  exact⟨_,hg,rfl⟩
theorem wR (B:Nat) (L:List EV):vP (yl B L):=by
 rintro i U args W l o ⟨e,kv,vv,h1,h2,h3,h4,h5,h6,h7,h8,h9⟩ hl hc
 have key:∀ {v:Value}{xs:List UInt8},Gl.Own W v xs→v.ownBlock≠some l:=fun h hk=>by
  obtain⟨o',ho,hc'⟩:=Nh h hk
  rw [hl] at ho
  cases ho
  rw [hc] at hc'
  cases hc'
 exact⟨e,kv,vv,h1,h2,h3,h4,fun k hk hu=>by rcases hu with hu | rfl;exact h5 k hk hu;exact key h3 hk,fun k hk hu=>by rcases hu with hu | rfl;exact h6 k hk hu;exact key h4 hk,h7,h8,h9⟩
theorem KP (R:List PV) (xs:List UInt8):vP (ARis R xs):=fun i U args W l o h _ _=>h
theorem Gv {a b:Value}{k:Nat} (h:iR #[a,b] k):a.ownBlock=some k∨b.ownBlock=some k:=by
 obtain⟨v,hv,hk⟩:=h
 have:v=a∨v=b:=by simpa using hv
 rcases this with rfl | rfl
 ·exact .inl hk
 ·exact .inr hk
def Eu (g:Nat) (vo:Value) (R:List PV) (m bf bt:Nat) (fv tv:Value) (k:Nat):Prop:=uf g vo R m bf fv k∨k=bt∨tv.ownBlock=some k
structure rf (w:World) (g:Nat) (vo:Value) (R:List PV) (m bf bt:Nat) (fv tv:Value) (xs ts:List UInt8):Prop where
 ris:jg w g vo R m bf fv xs
 bt:∃ t,w.heap[bt]?=some (.cells #[tv] t (0,0))
 tv:Gl.Own w tv ts
theorem rf.keep {w w':World}{g:Nat}{vo:Value}{R:List PV}{m bf bt:Nat}{fv tv:Value}{xs ts:List UInt8} (h:rf w g vo R m bf bt fv tv xs ts) (hm:ae (fun k=>¬ Eu g vo R m bf bt fv tv k) w w'):rf w' g vo R m bf bt fv tv xs ts:=by
 obtain⟨t1,h1⟩:=h.bt
 exact⟨h.ris.keep (hm.mono (fun k _ hk x=>hk (.inl x))),⟨t1,hm.heap h1 (fun x=>x (.inr (.inl rfl)))⟩,h.tv.keep hm (fun k hk x=>x (.inr (.inr hk)))⟩
theorem rf.lt {w:World}{g:Nat}{vo:Value}{R:List PV}{m bf bt:Nat}{fv tv:Value}{xs ts:List UInt8} (h:rf w g vo R m bf bt fv tv xs ts):∀ k,Eu g vo R m bf bt fv tv k→k<w.heap.size:=by
 obtain⟨t1,h1⟩:=h.bt
 rintro k (hk | rfl | hk)
 ·exact h.ris.lt k hk
 ·exact lt_of_heap h1
 ·exact h.tv.lt k hk
def UH (w:World) (g:Nat) (fv:Value) (m bf:Nat) (w':World):Prop :=
 (∃ t,w'.heap[m]?=some (.cells #[.pointer (some ⟨g,0,none⟩)] t (0,0)))∧(∃ t,w'.heap[bf]?=some (.cells #[fv] t (0,0)))∧ae ai w w'∧w.heap.size≤m∧w.heap.size≤bf
theorem LP {w:World}{g:Nat}{fv:Value}{xs:List UInt8} (hf:Rd w fv xs) :
  Calls Tryz.prog 160 #[.pointer (some ⟨g,0,none⟩),fv] w fun e w'=>∃ m bf:Nat,e = .returned (.func (.func 223) #[] #[.pointer (some ⟨m,0,none⟩),.pointer (some ⟨bf,0,none⟩)])∧UH w g fv m bf w':=by
 obtain⟨a,c,rfl,_⟩:=hf.form
 clear hf
 go_enter Tryz.func160,Tryz.ntmps160
 go_wp2
 go_ret
 refine⟨_,_,rfl,⟨129,dA (aF w _) _⟩,⟨91,?_⟩,((ae.refl ai w).alloc _).alloc _,Nat.le_refl _,by omega⟩
 have:=aF (w.alloc (.cells #[.pointer (some ⟨g,0,none⟩)] 129)) (.cells #[.slice a xs.length c] 91)
 rw [World.size_alloc] at this
 exact this
theorem Qa {R:List PV}{xs:List UInt8}{i:Nat}{e:EV} (h:(lF R xs)[i]?=some e):∃ p∈R,e∈p.es:=by
 have h1:e∈lF R xs:=List.mem_of_getElem? h
 unfold lF rest at h1
 have h2:=List.mem_of_mem_drop h1
 obtain⟨p,hp,he⟩:=List.mem_flatMap.1 h2
 exact⟨p,List.mem_of_mem_drop hp,he⟩
def iy (UW:Nat→Prop) (by1:Nat) (U:Nat→Prop) (k:Nat):Prop:=UW k∨U k∨k=by1
theorem Eb {w:World}{g:Nat}{vo:Value}{R:List PV}{m bf bt:Nat}{fv tv:Value}{xs ts:List UInt8} (h:rf w g vo R m bf bt fv tv xs ts) (ok:gY (aI R)) (hn:R.length≤1000000) (hts:ts.length≤1000000) :
  Iter Tryz.prog 159 #[.pointer (some ⟨m,0,none⟩),.pointer (some ⟨bf,0,none⟩),.pointer (some ⟨bt,0,none⟩)] (lU R xs ts).length (yl w.heap.size (lU R xs ts)) (Eu g vo R m bf bt fv tv) ai w:=by
 intro l J Jx W hW hJ hJx hY h0
 have pre:=h.keep hW
 have hwW:w.heap.size≤W.heap.size:=hW.size
 clear h hW
 obtain⟨tm,hbm⟩:=pre.ris.bm
 obtain⟨tf,hbf⟩:=pre.ris.bfr
 obtain⟨a1,ct,htv,_⟩:=pre.tv.rd.form
 obtain⟨UW,hUW⟩:∃ UW,Eu g vo R m bf bt fv tv=UW:=⟨_,rfl⟩
 rw [hUW] at h0
 have hUl:∀ k,UW k→k<W.heap.size:=fun k hk=>by rw [← hUW] at hk;exact pre.lt k hk
 have keepP:∀ A B,rf A g vo R m bf bt fv tv xs ts→ae (fun k=>¬ UW k) A B→rf B g vo R m bf bt fv tv xs ts:=fun A B hp hm=>hp.keep (by rw [hUW];exact hm)
 have SW:=lh hUW
 (refine lG _ Tryz.func159 rfl ?_;simp only [Tryz.ntmps159,List.size_toArray,List.length_cons,List.length_nil,Nat.reduceAdd,Nat.reduceSub,Array.replicate_succ,Array.replicate_zero,List.push_toArray,List.append_toArray,List.nil_append,List.cons_append])
 refine wpIn_seq ?_
 refine bW (d := .region 0 (aH 0 Tryz.f159) false) (by kernel_rfl) ?_
 refine RW.wpIn (wk0 ?_) (by kernel_rfl)
 intro by1 w1 hby hbO m1
 refine bP ?_
 have pre1:=keepP _ _ pre (m1.mono (fun _ _ x=>x.elim))
 refine wpIn_seq ?_
 refine bW (d := .region 1 (aH 1 Tryz.f159) false) (by kernel_rfl) ?_
 refine RW.wpIn (wk1 (af (m1.heap hbm (fun x=>x)) 0) (af (m1.heap hbf (fun x=>x)) 0) (LP pre1.ris.fr.rd) ?_) (by kernel_rfl)
 intros
 rename_i ma bq w2 hres
 obtain⟨⟨t1,e1⟩,⟨t2,e2⟩,m2,s1,s2⟩:=hres
 refine bP ?_
 have m12:=m1.then0 m2
 have pre2:=keepP _ _ pre (m12.mono (fun _ _ x=>x.elim))
 have rp:jg w2 g vo R ma bq fv xs:=⟨pre2.ris.pm,⟨_,e1⟩,⟨_,e2⟩,pre2.ris.fr⟩
 have hbO2:=m2.heap hbO (fun x=>x)
 have hby2:by1<w2.heap.size:=lt_of_heap hbO2
 have hs12:W.heap.size≤w2.heap.size:=m12.size
 have hUo:∀ U:Nat→Prop,(∀ k,U k→k<w2.heap.size)→∀ k,iy UW by1 U k→k<w2.heap.size:=fun U hU k hk=>by
  rcases hk with hk | hk | rfl
  ·have:=hUl k hk;omega
  ·exact hU k hk
  ·exact hby2
 have hsub0:∀ k,iy UW by1 (uf g vo R ma bq fv) k→UW k∨W.heap.size≤k:=fun k hk=>by
  rcases hk with hk | hk | rfl
  ·exact .inl hk
  ·rcases hk with hk | hk | rfl | rfl | hk
   ·exact .inl (by rw [← SW.out];exact .inl (.inl hk))
   ·exact .inl (by rw [← SW.out];exact .inl (.inr (.inl hk)))
   ·right;have:=m1.size;omega
   ·right;have:=m1.size;omega
   ·exact .inl (by rw [← SW.out];exact .inl (.inr (.inr (.inr (.inr hk)))))
  ·right;omega
 have h2:J 0 (iy UW by1 (uf g vo R ma bq fv)) w2:=hJ _ _ _ _ _ h0 (m12.mono (fun _ _ x=>x.elim)) hUl hsub0
 have frm:∀ (X:Nat→(Nat→Prop)→World→Prop),pO W.heap.size ai X→∀ i U U' A B,X i (iy UW by1 U) A→w2.heap.size≤A.heap.size→ae (fun k=>U k∧(ai k∨w2.heap.size≤k)) A B→(∀ k,U k→k<A.heap.size)→(∀ k,U' k→U k∨A.heap.size≤k)→X i (iy UW by1 U') B:=fun X hX i U U' A B hx hsz hm hus hsub=>by
  refine hX _ _ _ _ _ hx (hm.mono (fun k _ hk=>⟨.inr (.inl hk.1),hk.2.imp id (fun h=>by omega)⟩)) (fun k hk=>?_) (fun k hk=>?_)
  ·rcases hk with hk | hk | rfl
   ·have:=hUl k hk;omega
   ·exact hus k hk
   ·omega
  ·rcases hk with hk | hk | hk
   ·exact .inl (.inl hk)
   ·exact (hsub k hk).imp (fun h => .inr (.inl h)) id
   ·exact .inl (.inr (.inr hk))
 have keep2:∀ (U:Nat→Prop) (A B:World),ae (fun k=>U k∧(ai k∨w2.heap.size≤k)) A B→rf A g vo R m bf bt fv tv xs ts∧A.heap[by1]?=some (.cells #[.func (.yield l) #[] #[]] 150 (0,0))→rf B g vo R m bf bt fv tv xs ts∧B.heap[by1]?=some (.cells #[.func (.yield l) #[] #[]] 150 (0,0)):=fun U A B hm hp=>by
  refine⟨keepP _ _ hp.1 (hm.mono (fun k _ hk hu=>?_)),hm.heap hp.2 (fun hk=>?_)⟩
  ·rcases hk.2 with h | h
   ·exact h
   ·have:=hUl k hu;omega
  ·rcases hk.2 with h | h
   ·exact h
   ·omega
 refine wpIn_block ?_
 refine wW (by rfl) (enters_of Tryz.func223 (by kernel_rfl) rfl) (IK rp ok hn) (ae.refl _ _) rp.lt (KP R xs) (fun i U args W1 hA=>by obtain⟨e,_,rfl⟩:=hA;rfl)
  (fun i U Wr=>i≤(lU R xs ts).length∧J i (iy UW by1 U) Wr∧(rf Wr g vo R m bf bt fv tv xs ts∧Wr.heap[by1]?=some (.cells #[.func (.yield l) #[] #[]] 150 (0,0)))∧w2.heap.size≤Wr.heap.size)
  (fun c i U Wr=>c = .ret∧((i=(lU R xs ts).length+1∧J (lU R xs ts).length (iy UW by1 U) Wr)∨(∃ j,i=j+1∧j<(lU R xs ts).length∧Jx (j+1) (iy UW by1 U) Wr))∧w2.heap.size≤Wr.heap.size)
  ?_ ?_ ⟨Nat.zero_le _,h2,⟨pre2,hbO2⟩,Nat.le_refl _⟩ ?_ ?_ ?_
 ·rintro i U U' A B ⟨h1,h2,h3,h4⟩ hm hus hsub
  exact⟨h1,frm J hJ _ _ _ _ _ h2 h4 hm hus hsub,keep2 U _ _ hm h3,Nat.le_trans h4 hm.size⟩
 ·rintro c i U U' A B ⟨h1,h2,h4⟩ hm hus hsub
  refine⟨h1,h2.imp (fun x=>⟨x.1,frm J hJ _ _ _ _ _ x.2 h4 hm hus hsub⟩) (fun⟨j,x1,x2,x3⟩=>⟨j,x1,x2,frm Jx hJx _ _ _ _ _ x3 h4 hm hus hsub⟩),Nat.le_trans h4 hm.size⟩
 ·-- one round
  intro lp i U args Wr hlp hUlp hi ⟨hin,hJi,⟨hpr,hbyr⟩,hszr⟩ ⟨e,hei,hargs⟩ hUs _ _ _ _
  subst hargs
  obtain⟨hq1,hq2⟩:=yu (under ts) (lF R xs) i e hin hei
  obtain⟨pg1,hpg1,hepg⟩:=Qa hei
  have he1:=hpr.ris.pm.ents pg1 hpg1 e hepg
  obtain⟨ak,ck,hak,_⟩:=he1.k.form
  obtain⟨av,cv,hav,_⟩:=he1.v.form
  simp only [jF,List.setIfInBounds_toArray,List.set_cons_succ,List.set_cons_zero]
  refine bW (d := .region 2 (aH 2 Tryz.f159) false) (by kernel_rfl) ?_
  refine RW.wpIn (wk2 (u:=e.kv) (v:=e.vv) (by rw [hak];rfl) (by rw [hav];rfl) ?_) (by kernel_rfl)
  intro bx w3 hbx hbxO m3
  refine bP ?_
  refine⟨m3.mono (fun _ _ x=>x.elim),?_⟩
  intro w4 m4 _
  have hxl:bx≠lp:=fun e=>by have:=hUs lp hUlp;omega
  have hbx4:=m4.heap hbxO hxl
  have m34:=m3.trans m4 (U:=fun k=>k=lp) (fun _ _ x=>x.elim) (fun _ _ x=>x)
  have hkl:ae (fun k=>U k∧(ai k∨w2.heap.size≤k)) Wr w4:=m34.mono (fun k _ hk=>by subst hk;exact⟨hUlp,.inr hlp⟩)
  obtain⟨hp4,hby4⟩:=keep2 U _ _ hkl ⟨hpr,hbyr⟩
  have hJ4:=frm J hJ _ _ _ _ _ hJi hszr hkl hUs (fun k hk => .inl hk)
  have hsz4:=Nat.le_trans hszr m34.size
  have he4:=hp4.ris.pm.ents pg1 hpg1 e hepg
  have hUs4:∀ k,U k→k<w4.heap.size:=fun k hk=>Nat.lt_of_lt_of_le (hUs k hk) m34.size
  have hUo4:∀ k,iy UW by1 U k→k<w4.heap.size:=fun k hk=>by
   rcases hk with hk | hk | rfl
   ·have:=hUl k hk;omega
   ·exact hUs4 k hk
   ·omega
  have hbt4:w4.cell? ⟨bt,0,none⟩=some (.slice a1 ts.length ct):=by obtain⟨t,ht⟩:=hp4.bt;rw [← htv];exact af ht 0
  have hbtl:bt<w4.heap.size:=by obtain⟨t,ht⟩:=hp4.bt;exact lt_of_heap ht
  have htr:Rd w4 (.slice a1 ts.length ct) ts:=by rw [← htv];exact hp4.tv.rd
  have hbyc:w4.cell? ⟨by1,0,none⟩=some (.func (.yield l) #[] #[]):=af hby4 0
  have hbyl:by1<w4.heap.size:=lt_of_heap hby4
  clear hpr hbyr hJi hbxO m3 hkl he1
  refine wpIn_block ?_
  refine wpIn_seq ?_
  refine bW (d := .region 3 (aH 3 Tryz.f159) true) (by kernel_rfl) ?_
  have go:∀ (hu:under ts e=true) (d1 d2:Value) (w5:World),Gl.Own w5 d1 e.k→Gl.Own w5 d2 e.v→aG w4 d1→aG w4 d2→(∀ k,d1.ownBlock=some k→d2.ownBlock≠some k)→ae ai w4 w5 →
    JI Tryz.prog l #[d1,d2] w5 fun r w6=>(r = .returned (.bool true)∧(i+1≤(lU R xs ts).length∧J (i+1) (iy UW by1 U) w6∧(rf w6 g vo R m bf bt fv tv xs ts∧w6.heap[by1]?=some (.cells #[.func (.yield l) #[] #[]] 150 (0,0)))∧w2.heap.size≤w6.heap.size)∧ae (fun k=>¬ U k) w4 w6) ∨
     (r = .returned (.bool false)∧(i<(lU R xs ts).length∧Jx (i+1) (iy UW by1 U) w6)∧ae (fun k=>¬ U k) w4 w6∧w2.heap.size≤w6.heap.size):=by
   intro hu d1 d2 w5 o1 o2 f1 f2 dd m5
   have hlt:=hq1.1 hu
   have hJ5:=frm J hJ _ _ _ _ _ hJ4 hsz4 (m5.mono (fun _ _ x=>x.elim)) hUs4 (fun k hk => .inl hk)
   have hY5:=hY i (iy UW by1 U) #[d1,d2] w5 hlt hJ5 ⟨e,d1,d2,hq2 hlt,rfl,o1,o2,fun k hk hu=>by have:=f1 k hk;have:=hUo4 k hu;omega,fun k hk hu=>by have:=f2 k hk;have:=hUo4 k hu;omega,dd,fun k hk=>by have:=f1 k hk;omega,fun k hk=>by have:=f2 k hk;omega⟩ (fun k hk=>Nat.lt_of_lt_of_le (hUo4 k hk) m5.size) (by have:=m5.size;omega)
    (hJ _ _ _ _ _ hJ4 (m5.mono (fun _ _ x=>x.elim)) hUo4 (fun k hk=>hk.imp id (fun h=>by rcases Gv h with h | h;exact f1 k h;exact f2 k h))) (fun k hk=>by rcases Gv hk with h | h;exact o1.lt k h;exact o2.lt k h)
   obtain⟨fn,tm,asg,bd,hy,hR⟩:=hY5
   refine⟨fn,tm,asg,bd,hy,hR.mono ?_⟩
   rintro r w6 (⟨rfl,k1,k2⟩ | ⟨rfl,k1,k2⟩)
   ·have k3:=(m5.trans k2 (U:=fun k=>¬ iy UW by1 U k) (fun _ _ x=>x.elim) (fun _ _ x=>x))
    refine .inl ⟨rfl,⟨hlt,k1,⟨keepP _ _ hp4 (k3.mono (fun k _ hk hu=>hk (.inl hu))),k3.heap hby4 (fun hk=>hk (.inr (.inr rfl)))⟩,Nat.le_trans hsz4 k3.size⟩,k3.mono (fun k _ hk hu=>hk (.inr (.inl hu)))⟩
   ·have k3:=(m5.trans k2 (U:=fun k=>¬ iy UW by1 U k) (fun _ _ x=>x.elim) (fun _ _ x=>x))
    exact .inr ⟨rfl,⟨hlt,k1⟩,k3.mono (fun k _ hk hu=>hk (.inr (.inl hu))),Nat.le_trans hsz4 k3.size⟩
  by_cases hte:ts=[]
  ·have hu:under ts e=true:=by rw [hte];rfl
   refine jk (Q1:=fun _ a' w'=>wpOpsIn _ _ _ _ _ _ a' w') 18 (by kernel_rfl) (wk3a hbx4 hbt4 hbtl he4.k he4.v htr he4.lk he4.lv hte hbyc hbyl ?_) (fun _ _ h=>h)
   intros
   rename_i d1 d2 w5 o1 o2 f1 f2 dd m5
   refine kV (some 28) (ki (by kernel_rfl)) (by kernel_rfl) (by kernel_rfl) (go hu d1 d2 w5 o1 o2 f1 f2 dd m5) ?_
   rintro r w6 (⟨rfl,k1,k2⟩ | ⟨rfl,k1,k2,k3⟩)
   ·refine⟨_,rfl,?_⟩
    refine fZ (.bool false) (some 29) (ki (by kernel_rfl)) (by kernel_rfl) (by kernel_rfl) ?_
    refine fZ (.bool false) (some 30) (ki (by kernel_rfl)) (by kernel_rfl) (by kernel_rfl) ?_
    refine bP ?_
    refine wpIn_cond_false rfl ?_
    refine wpIn_skip ?_
    refine jh ?_
    exact⟨k2,k1⟩
   ·refine⟨_,rfl,?_⟩
    refine fZ (.bool true) (some 29) (ki (by kernel_rfl)) (by kernel_rfl) (by kernel_rfl) ?_
    refine fZ (.bool true) (some 30) (ki (by kernel_rfl)) (by kernel_rfl) (by kernel_rfl) ?_
    refine bP ?_
    refine wpIn_cond_true rfl ?_
    refine wpIn_ret ?_
    repeat (first | refine sU ?_ | refine kU ?_)
    exact⟨k2,rfl,.inr ⟨i,rfl,k1.1,k1.2⟩,k3⟩
  ·have hemp:ts.isEmpty=false:=by cases ts with | nil=>exact absurd rfl hte | cons a b=>rfl
   by_cases hcmp:0≤Lib.compareBytes e.k ts
   ·have hu:¬ under ts e=true:=by
     unfold under
     rw [hemp,Bool.false_or,← GM]
     simpa using hcmp
    have hie:i=(lU R xs ts).length:=by
     have:¬ i<(lU R xs ts).length:=fun h=>hu (hq1.2 h)
     omega
    refine RW.wpIn (wk3s (l:=l) hbx4 hbt4 hbtl he4.k he4.v htr he4.lk he4.lv hte hcmp ?_) (by kernel_rfl)
    intros
    rename_i w5 m5
    refine bP ?_
    refine wpIn_cond_true rfl ?_
    refine wpIn_ret ?_
    repeat (first | refine sU ?_ | refine kU ?_)
    have hJ5:=frm J hJ _ _ _ _ _ hJ4 hsz4 (m5.mono (fun _ _ x=>x.elim)) hUs4 (fun k hk => .inl hk)
    rw [hie] at hJ5
    exact⟨m5.mono (fun _ _ x=>x.elim),rfl,.inl ⟨by rw [hie],hJ5⟩,Nat.le_trans hsz4 m5.size⟩
   ·have hu:under ts e=true:=by
     unfold under
     rw [hemp,Bool.false_or,← GM]
     simpa using hcmp
    refine jk (Q1:=fun _ a' w'=>wpOpsIn _ _ _ _ _ _ a' w') 18 (by kernel_rfl) (wk3b hbx4 hbt4 hbtl he4.k he4.v htr he4.lk he4.lv hte hcmp hbyc hbyl ?_) (fun _ _ h=>h)
    intros
    rename_i d1 d2 w5 o1 o2 f1 f2 dd m5
    refine kV (some 28) (ki (by kernel_rfl)) (by kernel_rfl) (by kernel_rfl) (go hu d1 d2 w5 o1 o2 f1 f2 dd m5) ?_
    rintro r w6 (⟨rfl,k1,k2⟩ | ⟨rfl,k1,k2,k3⟩)
    ·refine⟨_,rfl,?_⟩
     refine fZ (.bool false) (some 29) (ki (by kernel_rfl)) (by kernel_rfl) (by kernel_rfl) ?_
     refine fZ (.bool false) (some 30) (ki (by kernel_rfl)) (by kernel_rfl) (by kernel_rfl) ?_
     refine bP ?_
     refine wpIn_cond_false rfl ?_
     refine wpIn_skip ?_
     refine jh ?_
     exact⟨k2,k1⟩
    ·refine⟨_,rfl,?_⟩
     refine fZ (.bool true) (some 29) (ki (by kernel_rfl)) (by kernel_rfl) (by kernel_rfl) ?_
     refine fZ (.bool true) (some 30) (ki (by kernel_rfl)) (by kernel_rfl) (by kernel_rfl) ?_
     refine bP ?_
     refine wpIn_cond_true rfl ?_
     refine wpIn_ret ?_
     repeat (first | refine sU ?_ | refine kU ?_)
     exact⟨k2,rfl,.inr ⟨i,rfl,k1.1,k1.2⟩,k3⟩
 ·-- all have come
  rintro D U W5 hD hUD hus ⟨h1,h2,h3,h4⟩ hdef
  refine jh ?_
  refine iF hdef (results_none rfl _ _ _) ?_
  have hj:(lF R xs).length=(lU R xs ts).length:=by have:=Vm R xs ts;omega
  rw [hj] at h2
  have hD5:=lt_of_heap hdef
  refine⟨⟨_,rfl⟩,.inl ⟨iy UW by1 U,frm J hJ _ _ _ _ _ h2 h4 ((fA W5 D _).mono (fun k _ hk=>by subst hk;exact⟨hUD,.inr hD⟩)) hus (fun k hk => .inl hk),fun k hk=>?_⟩⟩
  rw [World.putObj_size]
  rcases hk with hk | hk | rfl
  ·have:=hUl k hk;omega
  ·exact hus k hk
  ·omega
 ·-- a round has left
  rintro D c i U W5 hD hUD hus hi ⟨rfl,h2,h4⟩ hdef
  have hbd:∀ k,iy UW by1 U k→k<(W5.putObj D (.deferred none)).heap.size:=fun k hk=>by
   rw [World.putObj_size]
   rcases hk with hk | hk | rfl
   ·have:=hUl k hk;omega
   ·exact hus k hk
   ·omega
  have hmD:ae (fun k=>U k∧(ai k∨w2.heap.size≤k)) W5 (W5.putObj D (.deferred none)):=(fA W5 D _).mono (fun k _ hk=>by subst hk;exact⟨hUD,.inr hD⟩)
  refine wpIn_ret ?_
  refine kU ?_
  refine iF hdef (results_none rfl _ _ _) ?_
  rcases h2 with ⟨_,h2⟩ | ⟨j,hj,hjl,h2⟩
  ·exact⟨⟨_,rfl⟩,.inl ⟨iy UW by1 U,frm J hJ _ _ _ _ _ h2 h4 hmD hus (fun k hk => .inl hk),hbd⟩⟩
  ·exact⟨⟨_,rfl⟩,.inr ⟨j,iy UW by1 U,hjl,frm Jx hJx _ _ _ _ _ h2 h4 hmD hus (fun k hk => .inl hk),hbd⟩⟩
open Go.Gl Go.RowKit
def J3 (w:World) (g:Nat) (vo:Value) (R:List PV) (xs ts:List UInt8) (m bf bt:Nat) (fv tv:Value) (w':World):Prop :=
 rf w' g vo R m bf bt fv tv xs ts∧ae ai w w'∧w.heap.size≤m∧w.heap.size≤bf∧w.heap.size≤bt∧aG w fv∧aG w tv
theorem F5 {w:World}{g:Nat}{vo fv tv:Value}{R:List PV}{xs ts:List UInt8} (hm:PM w g vo R) (hf:Rd w fv xs) (ht:Rd w tv ts) (lx:xs.length≤1000000) (lt:ts.length≤1000000) :
  Calls Tryz.prog 91 #[.pointer (some ⟨g,0,none⟩),fv,tv] w fun e w'=>∃ m bf bt fv' tv',e = .returned (.func (.func 159) #[] #[.pointer (some ⟨m,0,none⟩),.pointer (some ⟨bf,0,none⟩),.pointer (some ⟨bt,0,none⟩)])∧J3 w g vo R xs ts m bf bt fv' tv' w':=by
 obtain⟨a1,c1,rfl,_⟩:=hf.form
 obtain⟨a2,c2,rfl,_⟩:=ht.form
 have HM:=lh hm
 have HF:=lh hf
 have HT:=lh ht
 have hgl:=lt_of_heap hm.hg
 clear hm hf ht
 go_enter Tryz.func91,Tryz.ntmps91
 go_upto_region 1 with fail
 have h1:=aF w (.cells #[.pointer (some ⟨g,0,none⟩)] 129)
 have h2:=aF (w.alloc (.cells #[.pointer (some ⟨g,0,none⟩)] 129)) (.cells #[.slice a1 xs.length c1] 91)
 have h3:=aF ((w.alloc (.cells #[.pointer (some ⟨g,0,none⟩)] 129)).alloc (.cells #[.slice a1 xs.length c1] 91)) (.cells #[.slice a2 ts.length c2] 91)
 have h1':=dA (dA h1 (.cells #[.slice a1 xs.length c1] 91)) (.cells #[.slice a2 ts.length c2] 91)
 have h2':=dA h2 (.cells #[.slice a2 ts.length c2] 91)
 have m1:=(((ae.refl ai w).alloc (.cells #[.pointer (some ⟨g,0,none⟩)] 129)).alloc (.cells #[.slice a1 xs.length c1] 91)).alloc (.cells #[.slice a2 ts.length c2] 91)
 simp only [World.size_alloc] at h2 h3 h1' h2'
 generalize World.alloc (World.alloc (World.alloc w _) _) _=w1 at *
 refine fM (d := .region 1 (aH 1 Tryz.f91) true) (by kernel_rfl) ?_
 refine RW.wp (wkOwn h2' h3 (by omega) (HF.out.keep m1 (fun _ _ x=>x)) (HT.out.keep m1 (fun _ _ x=>x)) (by omega) (by omega) ?_)
 intros
 rename_i d1 d2 w2 e1 e2 o1 o2 f1 f2 m2
 have hs1:w.heap.size≤w1.heap.size:=m1.size
 have hw1:w.heap.size+2<w1.heap.size:=lt_of_heap h3
 have pm:PM w2 g vo R:=(HM.out.keep0 m1).keep m2 (fun k hk e=>by have:=HM.out.lt k hk;omega) (fun k hk e=>by have:=HM.out.dlt k hk;omega)
 have hm3:=m2.heap h1' (fun e=>by omega)
 have m12:ae ai w w2:=m1.trans m2 (fun _ _ x=>x) (fun i hi e=>by omega)
 have RES:=lh (show J3 w g vo R xs ts w.heap.size (w.heap.size+1) (w.heap.size+1+1) d1 d2 w2 from⟨⟨⟨pm,⟨_,hm3⟩,⟨_,e1⟩,o1⟩,⟨_,e2⟩,o2⟩,m12,Nat.le_refl _,by omega,by omega,f1.of hs1,f2.of hs1⟩)
 clear h1 h2 h3 h1' h2' m1 m2 e1 e2 o1 o2 f1 f2 pm hm3 m12
 go_wp2
 go_ret
 exact⟨_,_,_,_,_,rfl,RES.out⟩
open Go.Gl Go.RowKit
open Go.Gl Go.RowKit
open Go.Gl
theorem Oj (R:List PV) (p i:Nat):ents (rest R p i)=((aI R).drop p).flatten.drop i:=by
 unfold rest ents aI
 rw [List.map_drop,List.map_flatMap,List.flatMap_def,List.map_drop]
 rfl
theorem QW {R:List PV} (ok:gY (aI R)) (xs:List UInt8):ents (lF R xs)=(aI R).flatten.filter (fun e => !aJ e.1 xs):=by
 unfold lF
 rw [Oj]
 by_cases hne:aI R=[]
 ·rw [hne];simp
 obtain⟨A,l,C,i,h⟩:=lies ok hne xs
 rw [h.fst,h.snd,h.flat]
 rw [List.filter_append,jo (l:=A.flatten ++ l.take i) (fun e he=>by rcases List.mem_append.1 he with he | he;rw [h.lo e he];rfl;rw [h.plo e he];rfl),List.nil_append,
  filter_all (l:=l.drop i ++ C.flatten) (fun e he=>by rcases List.mem_append.1 he with he | he;rw [h.phi e he];rfl;rw [lw (h.hi e he)];rfl)]
 rw [h.eq,List.append_assoc A,List.drop_left' rfl,List.flatten_append,List.flatten_singleton,List.drop_append_of_le_length h.il]
theorem JG (p:aN→Bool):∀ L:List EV,ents (L.takeWhile (fun e=>p (e.k,e.v)))=(ents L).takeWhile p
  | []=>rfl
  | e :: L => by
    have ih:=JG p L
    unfold ents at ih ⊢
    rw [List.takeWhile_cons,List.map_cons,List.takeWhile_cons]
    cases hp:p (e.k,e.v) with
    | true=>rw [show p e.ent=true from hp];simp only [if_true];rw [List.map_cons,ih]
    | false=>rw [show p e.ent=false from hp];rfl
def btw (xs ts:List UInt8) (e:aN):Bool := !aJ e.1 xs && (ts.isEmpty || aJ e.1 ts)
theorem Js {R:List PV} (ok:gY (aI R)) (xs ts:List UInt8):ents (lU R xs ts)=(aI R).flatten.filter (btw xs ts):=by
  have h1:lU R xs ts=(lF R xs).takeWhile (fun e=>(fun x:aN=>ts.isEmpty || aJ x.1 ts) (e.k,e.v)):=rfl
  rw [h1,JG (fun x:aN=>ts.isEmpty || aJ x.1 ts),QW ok]
  have hr:iD ((aI R).flatten.filter (fun e => !aJ e.1 xs)):=List.Pairwise.filter _ ok.ris
  have h2:((aI R).flatten.filter (fun e => !aJ e.1 xs)).takeWhile (fun x=>ts.isEmpty || aJ x.1 ts)=((aI R).flatten.filter (fun e => !aJ e.1 xs)).filter (fun x=>ts.isEmpty || aJ x.1 ts):=by
    cases ts with
    | nil =>
      simp only [List.isEmpty_nil,Bool.true_or]
      rw [List.filter_eq_self.2 (fun _ _=>rfl)]
      generalize List.filter _ _=l
      induction l with
      | nil=>rfl
      | cons a l ih=>rw [List.takeWhile_cons_of_pos rfl,ih]
    | cons a b =>
      simp only [List.isEmpty_cons,Bool.false_or]
      exact (hr.split _).1
  rw [h2,List.filter_filter]
  congr 1
  funext e
  exact Bool.and_comm _ _
theorem IL {R:List PV} (ok:gY (aI R)):ents (lU R [] [])=(aI R).flatten:=by
 rw [Js ok]
 refine filter_all (fun e _=>?_)
 have:aJ e.1 []=false:=by cases e.1 <;> rfl
 unfold btw
 rw [this]
 rfl
open Go.Gl Go.RowKit
section
variable {w:World}{g n:Nat}{F:List aN}{Ws:List (List aN)}{S D:Nat→Prop}
end
open Go.Gl Go.RowKit
theorem kci0 {w:World}{l:Nat}{x1 x2 x3 x4 x5 x6 x7 x8 x9 bg bn bi aY aU aS aT aW aZ aX bu bz:Value}{df:List Deferred}{Q:Exit→Act→World→Prop}
  (hK:∀ (bq:Nat) (w':World),bq=w.heap.size→w'.heap[bq]?=some (.cells #[.func (.yield l) #[] #[]] 150 (0,0))→ae ai w w'→Q .normal ⟨#[.func (.yield l) #[] #[],x1,x2,.pointer (some ⟨bq,0,none⟩),x4,x5,x6,x7,x8,x9,bg,bn,bi,aY,aU,aS,aT,aW,aZ,aX,bu,bz],df⟩ w'):RW Tryz.prog (aH 0 Tryz.f244) false Q ⟨#[.func (.yield l) #[] #[],x1,x2,x3,x4,x5,x6,x7,x8,x9,bg,bn,bi,aY,aU,aS,aT,aW,aZ,aX,bu,bz],df⟩ w:=by
 have HQ:=lh hK
 clear hK
 refine bZ [(0,false)] (by kernel_rfl) ?_
 refine fU (.cells #[.func (.yield l) #[] #[]] 150) (some 3) (ki (by kernel_rfl)) (by kernel_rfl) ?_
 intro k1 w_k1 hk_k1 hO_k1 hm_k1 hl_k1
 refine⟨fun _=>trivial,?_⟩
 exact aA (aQ (K:=Q .normal) (by kernel_rfl) (HQ.out  k1 w_k1 hk_k1 hO_k1 hm_k1))
section
variable {x0 x1 x2 x3 x4 x5 x6 x7 x8 x9 bg bn bi aY aU aS aT aW aZ aX bu bz bF bG bH:Value}{df:List Deferred}{Q:Exit→Act→World→Prop}
theorem zY {w:World}{bs sg:Nat}{X:World→Prop} (c1:w.cell? ⟨bs,0,none⟩=some (.pointer (some ⟨sg,0,none⟩))) (hC:Calls Tryz.prog 149 #[.pointer (some ⟨sg,2,none⟩),.int .i64 1] w fun e w'=>∃ v,e = .returned v∧X w')
  (hK:∀ (y6 y7 y8 y9:Value)  (w':World),X w'→Q .normal ⟨#[x0,.pointer (some ⟨bs,0,none⟩),x2,x3,x4,x5,y6,y7,y8,y9,bg,bn,bi,aY,aU,aS,aT,aW,aZ,aX,bu,bz],df⟩ w'):RW Tryz.prog (aH 1 Tryz.f244) false Q ⟨#[x0,.pointer (some ⟨bs,0,none⟩),x2,x3,x4,x5,x6,x7,x8,x9,bg,bn,bi,aY,aU,aS,aT,aW,aZ,aX,bu,bz],df⟩ w:=by
 have HQ:=lh hK
 clear hK
 refine bZ [(0,false),(1,false),(2,false),(3,false)] (by kernel_rfl) ?_
 refine aP (aj sg 0) _ (some 6) (ki (by kernel_rfl)) (aB (x:=(.tmp 1)) (by kernel_rfl) (by kernel_rfl) (aO ((fun _=>c1) (trivial)) Tryz.underlying26 rfl)) (fun _=>trivial) ?_
 refine aC [1,2] [aj sg 0,aj sg 2] rfl (by kernel_rfl) (by kernel_rfl) (.inr trivial) ?_
 refine az (some 9) (ki (by kernel_rfl)) hC (fun _=>by kernel_rfl) ?_
 rintro r w7 ⟨v7,rfl,hh⟩
 refine⟨_,rfl,fun _=>trivial,?_⟩
 exact aA (aQ (K:=Q .normal) (by kernel_rfl) (HQ.out (aj sg 0) (aj sg 0) (aj sg 2) (v7) w7 hh))
theorem zZ {w:World}{bw gf:Nat}{lb:Array Value} (c1:w.cell? ⟨bw,0,none⟩=some (.func (.func gf) #[] lb))
  (hK:∀  (w':World),w'=w→Q .normal ⟨#[x0,x1,.pointer (some ⟨bw,0,none⟩),x3,x4,x5,x6,x7,x8,x9,.func (.func gf) #[] lb,bn,bi,aY,aU,aS,aT,aW,aZ,aX,bu,bz],df⟩ w'):RW Tryz.prog (aH 2 Tryz.f244) false Q ⟨#[x0,x1,.pointer (some ⟨bw,0,none⟩),x3,x4,x5,x6,x7,x8,x9,bg,bn,bi,aY,aU,aS,aT,aW,aZ,aX,bu,bz],df⟩ w:=by
 have HQ:=lh hK
 clear hK
 refine bZ [(0,false)] (by kernel_rfl) ?_
 refine aP (.func (.func gf) #[] lb) _ (some 10) (ki (by kernel_rfl)) (aB (x:=(.tmp 2)) (by kernel_rfl) (by kernel_rfl) (aO ((fun _=>c1) (trivial)) Tryz.underlying154 rfl)) (fun _=>trivial) ?_
 exact aA (aQ (K:=Q .normal) (by kernel_rfl) (HQ.out  _ rfl))
theorem Fz {w:World}{u:Value}{x0 x1 x2 x3 x4 x5 x6 x7 x8 x9 bg bi aY aU aS aT aW aZ aX bu bz:Value}{df:List Deferred}{Q:Exit→Act→World→Prop}
  (hK:∀  (w':World),w'=w→Q .normal ⟨#[x0,x1,x2,x3,u,x5,x6,x7,x8,x9,bg,u,bi,aY,aU,aS,aT,aW,aZ,aX,bu,bz],df⟩ w'):RW Tryz.prog (aH 3 Tryz.f244) false Q ⟨#[x0,x1,x2,x3,x4,x5,x6,x7,x8,x9,bg,u,bi,aY,aU,aS,aT,aW,aZ,aX,bu,bz],df⟩ w:=by
 have HQ:=lh hK
 clear hK
 refine bZ [(0,false)] (by kernel_rfl) ?_
 refine aC [0] [u] rfl (by kernel_rfl) (by kernel_rfl) (.inr trivial) ?_
 exact aA (aQ (K:=Q .normal) (by kernel_rfl) (HQ.out  _ rfl))
theorem Il {w:World}{u:Value}{x0 x1 x2 x3 x4 x5 x6 x7 x8 x9 bg bn aY aU aS aT aW aZ aX bu bz:Value}{df:List Deferred}{Q:Exit→Act→World→Prop}
  (hK:∀  (w':World),w'=w→Q .normal ⟨#[x0,x1,x2,x3,x4,u,x6,x7,x8,x9,bg,bn,u,aY,aU,aS,aT,aW,aZ,aX,bu,bz],df⟩ w'):RW Tryz.prog (aH 4 Tryz.f244) false Q ⟨#[x0,x1,x2,x3,x4,x5,x6,x7,x8,x9,bg,bn,u,aY,aU,aS,aT,aW,aZ,aX,bu,bz],df⟩ w:=by
 have HQ:=lh hK
 clear hK
 refine bZ [(0,false)] (by kernel_rfl) ?_
 refine aC [0] [u] rfl (by kernel_rfl) (by kernel_rfl) (.inr trivial) ?_
 exact aA (aQ (K:=Q .normal) (by kernel_rfl) (HQ.out  _ rfl))
theorem Gz {w:World}{bs sg:Nat}{X:World→Prop} (c1:w.cell? ⟨bs,0,none⟩=some (.pointer (some ⟨sg,0,none⟩))) (hC:Calls Tryz.prog 149 #[.pointer (some ⟨sg,2,none⟩),.int .i64 1] w fun e w'=>∃ v,e = .returned v∧X w')
  (hK:∀ (kF jV jW jO:Value)  (w':World),X w'→Q .normal ⟨#[x0,.pointer (some ⟨bs,0,none⟩),x2,x3,x4,x5,x6,x7,x8,x9,bg,bn,bi,kF,jV,jW,jO,aW,aZ,aX,bu,bz],df⟩ w'):RW Tryz.prog (aH 5 Tryz.f244) false Q ⟨#[x0,.pointer (some ⟨bs,0,none⟩),x2,x3,x4,x5,x6,x7,x8,x9,bg,bn,bi,aY,aU,aS,aT,aW,aZ,aX,bu,bz],df⟩ w:=by
 have HQ:=lh hK
 clear hK
 refine bZ [(0,false),(1,false),(2,false),(3,false)] (by kernel_rfl) ?_
 refine aP (aj sg 0) _ (some 13) (ki (by kernel_rfl)) (aB (x:=(.tmp 1)) (by kernel_rfl) (by kernel_rfl) (aO ((fun _=>c1) (trivial)) Tryz.underlying26 rfl)) (fun _=>trivial) ?_
 refine aC [1,2] [aj sg 0,aj sg 2] rfl (by kernel_rfl) (by kernel_rfl) (.inr trivial) ?_
 refine az (some 16) (ki (by kernel_rfl)) hC (fun _=>by kernel_rfl) ?_
 rintro r w7 ⟨v7,rfl,hh⟩
 refine⟨_,rfl,fun _=>trivial,?_⟩
 exact aA (aQ (K:=Q .normal) (by kernel_rfl) (HQ.out (aj sg 0) (aj sg 0) (aj sg 2) (v7) w7 hh))
theorem H7 {w:World}{by1 l:Nat}{u v:Value} (c1:w.cell? ⟨by1,0,none⟩=some (.func (.yield l) #[] #[]))
  (hK:∀  (w':World),w'=w→Q .normal ⟨#[x0,x1,x2,.pointer (some ⟨by1,0,none⟩),u,v,x6,x7,x8,x9,bg,bn,bi,aY,aU,aS,aT,.func (.yield l) #[] #[],u,v,bu,bz],df⟩ w'):RW Tryz.prog ((aH 6 Tryz.f244).toList.take 3).toArray false Q ⟨#[x0,x1,x2,.pointer (some ⟨by1,0,none⟩),u,v,x6,x7,x8,x9,bg,bn,bi,aY,aU,aS,aT,aW,aZ,aX,bu,bz],df⟩ w:=by
 have HQ:=lh hK
 clear hK
 refine bZ [(0,false),(1,false),(2,false)] (by kernel_rfl) ?_
 refine aP (.func (.yield l) #[] #[]) _ (some 17) (ki (by kernel_rfl)) (aB (x:=(.tmp 3)) (by kernel_rfl) (by kernel_rfl) (aO ((fun _=>c1) (trivial)) Tryz.underlying150 rfl)) (fun _=>trivial) ?_
 refine aC [1,2] [u,v] rfl (by kernel_rfl) (by kernel_rfl) (.inr trivial) ?_
 exact aA (aQ (K:=Q .normal) (by kernel_rfl) (HQ.out  _ rfl))
theorem kp0 {w:World}{l:Nat}{x1 x2 x3 x4 x5 x6 x7 x8 x9 bg bn bi aY aU aS aT aW aZ aX bu bz bF bG bH:Value}{df:List Deferred}{Q:Exit→Act→World→Prop}
  (hK:∀ (bq:Nat) (w':World),bq=w.heap.size→w'.heap[bq]?=some (.cells #[.func (.yield l) #[] #[]] 150 (0,0))→ae ai w w'→Q .normal ⟨#[.func (.yield l) #[] #[],x1,x2,.pointer (some ⟨bq,0,none⟩),x4,x5,x6,x7,x8,x9,bg,bn,bi,aY,aU,aS,aT,aW,aZ,aX,bu,bz,bF,bG,bH],df⟩ w'):RW Tryz.prog (aH 0 Tryz.f193) false Q ⟨#[.func (.yield l) #[] #[],x1,x2,x3,x4,x5,x6,x7,x8,x9,bg,bn,bi,aY,aU,aS,aT,aW,aZ,aX,bu,bz,bF,bG,bH],df⟩ w:=by
 have HQ:=lh hK
 clear hK
 refine bZ [(0,false)] (by kernel_rfl) ?_
 refine fU (.cells #[.func (.yield l) #[] #[]] 150) (some 3) (ki (by kernel_rfl)) (by kernel_rfl) ?_
 intro k1 w_k1 hk_k1 hO_k1 hm_k1 hl_k1
 refine⟨fun _=>trivial,?_⟩
 exact aA (aQ (K:=Q .normal) (by kernel_rfl) (HQ.out  k1 w_k1 hk_k1 hO_k1 hm_k1))
theorem kp1 {w:World}{bs bp sg mg:Nat}{pv:Value}{X:Nat→Nat→Nat→World→Prop} (b1:w.heap[bs]?=some (.cells #[.pointer (some ⟨sg,0,none⟩)] 26 (0,0))) (b2:w.heap[bp]?=some (.cells #[pv] 91 (0,0))) (b3:w.cell? ⟨sg,0,none⟩=some (.pointer (some ⟨mg,0,none⟩))) (b4:sg<w.heap.size) (hC:∀ b',ae ai w b'→Calls Tryz.prog 91 #[.pointer (some ⟨mg,0,none⟩),pv,.slice none 0 0] b' fun e w'=>∃ m bf bt,e = .returned (.func (.func 159) #[] #[.pointer (some ⟨m,0,none⟩),.pointer (some ⟨bf,0,none⟩),.pointer (some ⟨bt,0,none⟩)])∧X m bf bt w')
  (hK:∀ (y6 y7 y8 y9 jU:Value) (m bf bt:Nat) (w':World),X m bf bt w'→Q .normal ⟨#[x0,.pointer (some ⟨bs,0,none⟩),.pointer (some ⟨bp,0,none⟩),x3,x4,x5,y6,y7,y8,y9,jU,.func (.func 159) #[] #[.pointer (some ⟨m,0,none⟩),.pointer (some ⟨bf,0,none⟩),.pointer (some ⟨bt,0,none⟩)],bi,aY,aU,aS,aT,aW,aZ,aX,bu,bz,bF,bG,bH],df⟩ w'):RW Tryz.prog (aH 1 Tryz.f193) true Q ⟨#[x0,.pointer (some ⟨bs,0,none⟩),.pointer (some ⟨bp,0,none⟩),x3,x4,x5,x6,x7,x8,x9,bg,bn,bi,aY,aU,aS,aT,aW,aZ,aX,bu,bz,bF,bG,bH],df⟩ w:=by
 have HQ:=lh hK
 clear hK
 have HC:=lh hC
 have Q1:=lh (fun b' (hm:ae ai w b')=>af (hm.heap b1 (fun x=>x)) 0)
 have Q2:=lh (fun b' (hm:ae ai w b')=>af (hm.heap b2 (fun x=>x)) 0)
 have Q3:=lh (fun b' (hm:ae ai w b')=>(hm.cellAt b4 (fun x=>x) 0).trans b3)
 clear hC b1 b2 b3
 have MR:=lh ((ae.refl ai w).drew)
 refine iq (S:=fun b'=>ae ai w b') [(0,true),(1,true),(2,true),(3,true),(4,true),(5,false)] [5] (by kernel_rfl) (by kernel_rfl) (by kernel_rfl) (by kernel_rfl) MR.out ?_
 refine ah (aj sg 0) (some 6) (ki (by kernel_rfl)) (fun bb hb=>aB (x:=(.tmp 1)) (by kernel_rfl) (by kernel_rfl) (aO (Q1.out _ hb) Tryz.underlying26 rfl)) ?_
 refine ag [1,2] [aj sg 0,aj sg 0] rfl (by kernel_rfl) (fun _=>by kernel_rfl) ?_
 refine ah (aj mg 0) (some 9) (ki (by kernel_rfl)) (fun bb hb=>aB (x:=(.tmp 8)) (by kernel_rfl) (by kernel_rfl) (aO (Q3.out _ hb) Tryz.underlying129 rfl)) ?_
 refine ah (pv) (some 10) (ki (by kernel_rfl)) (fun bb hb=>aB (x:=(.tmp 2)) (by kernel_rfl) (by kernel_rfl) (aO (Q2.out _ hb) Tryz.underlying91 rfl)) ?_
 refine az (some 11) (ki (by kernel_rfl)) (HC.out _ MR.out) (fun _=>by kernel_rfl) ?_
 rintro r w7 ⟨m,bf,bt,rfl,hx⟩
 refine⟨_,rfl,(fun h=>by cases h),?_⟩
 exact aA (aQ (K:=Q .normal) (by kernel_rfl) (HQ.out (aj sg 0) (aj sg 0) (aj sg 0) (aj mg 0) (pv) m bf bt w7 hx))
theorem kp2 {w:World}{u:Value}{x0 x1 x2 x3 x4 x5 x6 x7 x8 x9 bg bn aY aU aS aT aW aZ aX bu bz bF bG bH:Value}{df:List Deferred}{Q:Exit→Act→World→Prop}
  (hK:∀  (w':World),w'=w→Q .normal ⟨#[x0,x1,x2,x3,u,x5,x6,x7,x8,x9,bg,bn,u,aY,aU,aS,aT,aW,aZ,aX,bu,bz,bF,bG,bH],df⟩ w'):RW Tryz.prog (aH 2 Tryz.f193) false Q ⟨#[x0,x1,x2,x3,x4,x5,x6,x7,x8,x9,bg,bn,u,aY,aU,aS,aT,aW,aZ,aX,bu,bz,bF,bG,bH],df⟩ w:=by
 have HQ:=lh hK
 clear hK
 refine bZ [(0,false)] (by kernel_rfl) ?_
 refine aC [0] [u] rfl (by kernel_rfl) (by kernel_rfl) (.inr trivial) ?_
 exact aA (aQ (K:=Q .normal) (by kernel_rfl) (HQ.out  _ rfl))
theorem kp3 {w:World}{u:Value}{x0 x1 x2 x3 x4 x5 x6 x7 x8 x9 bg bn bi aU aS aT aW aZ aX bu bz bF bG bH:Value}{df:List Deferred}{Q:Exit→Act→World→Prop}
  (hK:∀  (w':World),w'=w→Q .normal ⟨#[x0,x1,x2,x3,x4,u,x6,x7,x8,x9,bg,bn,bi,u,aU,aS,aT,aW,aZ,aX,bu,bz,bF,bG,bH],df⟩ w'):RW Tryz.prog (aH 3 Tryz.f193) false Q ⟨#[x0,x1,x2,x3,x4,x5,x6,x7,x8,x9,bg,bn,bi,u,aU,aS,aT,aW,aZ,aX,bu,bz,bF,bG,bH],df⟩ w:=by
 have HQ:=lh hK
 clear hK
 refine bZ [(0,false)] (by kernel_rfl) ?_
 refine aC [0] [u] rfl (by kernel_rfl) (by kernel_rfl) (.inr trivial) ?_
 exact aA (aQ (K:=Q .normal) (by kernel_rfl) (HQ.out  _ rfl))
theorem kp4t {w:World}{bp by1 l:Nat}{pv u v:Value} (c1:w.cell? ⟨bp,0,none⟩=some pv) (c2:w.cell? ⟨by1,0,none⟩=some (.func (.yield l) #[] #[])) (hC:Calls Tryz.prog 194 #[u,pv] w fun e w'=>e = .returned (.bool true)∧w'=w)
  (hK:∀ (jV jW jO jC:Value)  (w':World),w'=w→Q .normal ⟨#[x0,x1,.pointer (some ⟨bp,0,none⟩),.pointer (some ⟨by1,0,none⟩),u,v,x6,x7,x8,x9,bg,bn,bi,aY,jV,jW,jO,jC,.bool false,.func (.yield l) #[] #[],u,v,bF,bG,bH],df⟩ w'):RW Tryz.prog ((aH 4 Tryz.f193).toList.take 8).toArray false Q ⟨#[x0,x1,.pointer (some ⟨bp,0,none⟩),.pointer (some ⟨by1,0,none⟩),u,v,x6,x7,x8,x9,bg,bn,bi,aY,aU,aS,aT,aW,aZ,aX,bu,bz,bF,bG,bH],df⟩ w:=by
 have HQ:=lh hK
 clear hK
 refine bZ [(0,false),(1,false),(2,false),(3,false),(4,false),(5,false),(6,false),(7,false)] (by kernel_rfl) ?_
 refine aC [0] [u] rfl (by kernel_rfl) (by kernel_rfl) (.inr trivial) ?_
 refine aP (pv) _ (some 15) (ki (by kernel_rfl)) (aB (x:=(.tmp 2)) (by kernel_rfl) (by kernel_rfl) (aO ((fun _=>c1) (trivial)) Tryz.underlying91 rfl)) (fun _=>trivial) ?_
 refine az (some 16) (ki (by kernel_rfl)) hC (fun _=>by kernel_rfl) ?_
 rintro r w7 ⟨rfl,rfl⟩
 refine⟨_,rfl,fun _=>trivial,?_⟩
 refine aC [3,4] [.bool false,.bool false] rfl (by kernel_rfl) (by kernel_rfl) (.inr trivial) ?_
 refine aP (.func (.yield l) #[] #[]) _ (some 19) (ki (by kernel_rfl)) (aB (x:=(.tmp 3)) (by kernel_rfl) (by kernel_rfl) (aO ((fun _=>c2) (trivial)) Tryz.underlying150 rfl)) (fun _=>trivial) ?_
 refine aC [6,7] [u,v] rfl (by kernel_rfl) (by kernel_rfl) (.inr trivial) ?_
 exact aA (aQ (K:=Q .normal) (by kernel_rfl) (HQ.out (u) (pv) (.bool true) (.bool false) _ rfl))
theorem kp4f {w:World}{bp by1 l:Nat}{pv u v:Value} (c1:w.cell? ⟨bp,0,none⟩=some pv) (c2:w.cell? ⟨by1,0,none⟩=some (.func (.yield l) #[] #[])) (hC:Calls Tryz.prog 194 #[u,pv] w fun e w'=>e = .returned (.bool false)∧w'=w)
  (hK:∀ (jV jW jO jC kG kH mi jP jD jl:Value)  (w':World),w'=w→Q .normal ⟨#[x0,x1,.pointer (some ⟨bp,0,none⟩),.pointer (some ⟨by1,0,none⟩),u,v,x6,x7,x8,x9,bg,bn,bi,aY,jV,jW,jO,jC,kG,kH,mi,jP,jD,jl,.bool true],df⟩ w'):RW Tryz.prog (aH 4 Tryz.f193) false Q ⟨#[x0,x1,.pointer (some ⟨bp,0,none⟩),.pointer (some ⟨by1,0,none⟩),u,v,x6,x7,x8,x9,bg,bn,bi,aY,aU,aS,aT,aW,aZ,aX,bu,bz,bF,bG,bH],df⟩ w:=by
 have HQ:=lh hK
 clear hK
 refine bZ [(0,false),(1,false),(2,false),(3,false),(4,false),(5,false),(6,false),(7,false),(8,false),(9,false),(10,false)] (by kernel_rfl) ?_
 refine aC [0] [u] rfl (by kernel_rfl) (by kernel_rfl) (.inr trivial) ?_
 refine aP (pv) _ (some 15) (ki (by kernel_rfl)) (aB (x:=(.tmp 2)) (by kernel_rfl) (by kernel_rfl) (aO ((fun _=>c1) (trivial)) Tryz.underlying91 rfl)) (fun _=>trivial) ?_
 refine az (some 16) (ki (by kernel_rfl)) hC (fun _=>by kernel_rfl) ?_
 rintro r w7 ⟨rfl,rfl⟩
 refine⟨_,rfl,fun _=>trivial,?_⟩
 refine aC [3,4,5,6,7,8,9,10] [.bool true,.bool true,undef,undef,undef,undef,undef,.bool true] rfl (by kernel_rfl) (by kernel_rfl) (.inr trivial) ?_
 exact aA (aQ (K:=Q .normal) (by kernel_rfl) (HQ.out (u) (pv) (.bool false) (.bool true) (.bool true) (undef) (undef) (undef) (undef) (undef) _ rfl))
end
end Go.Proofs.YtglkmaalpammcaaGreat

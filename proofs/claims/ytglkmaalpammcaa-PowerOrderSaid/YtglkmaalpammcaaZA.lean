/- Parts of the proof, one behind the other: Lib, Lib2, Sep, Base, HBytes, HLess, PgP, PgC, PgS, Tail, PgM, Base2, PgF, Ord, OrdT, Row, PgU, Ins1, Ins2, Cln, OrdF, PgV, OrdL, Bar, In. -/
import Derived.WalkKit
import Derived.WalkSpells
import Derived.WalkLawsBesides
import Derived.Deep.AppendSrc
import Derived.Deep.QuietTactic
import Derived.BigQuiet
import Derived.Lib.Hide
import Derived.Handy
import Derived.OpenShut
import Derived.Lib.QuietBelow
import Derived.Test.YtglkmaalpammcaaRows
import Derived.Laws.Externs
import Derived.Lib.Bytealg
import Derived.Outline
import Derived.Deep.RegionHeld3
import Derived.Laws.Rows
import Derived.Deep.MidRow
import Derived.Lib.AppendZerosOnto
import Derived.Lib.SliceRun
import Derived.Laws.IdiomCopy
import Derived.Lib.Overlaps
import Derived.StillTailTactics
import Derived.Deep.DeepCutAuto
import Derived.StillTail
import Derived.OrdersIn
import Derived.RangeFuncSeq
namespace Go.Gl
abbrev ag (b o : Nat) : Value := .pointer (some ⟨b, o, none⟩)
end Go.Gl
namespace Go.Gl
theorem lh {p : Prop} (h : p) : RowKit.Hid p := Lib.hid h
end Go.Gl
set_option maxHeartbeats 64000000
set_option linter.unusedVariables false
set_option maxRecDepth 100000
namespace Go.Gl
open Go.RowKit
structure ae (S:Nat→Prop) (w w':World):Prop where
 os:w'.os=w.os
 tape:w'.tape=w.tape
 output:w'.output=w.output
 size:w.heap.size≤w'.heap.size
 block:∀ k,k<w.heap.size→¬ S k→w'.heap[k]?=w.heap[k]?
def aj:Nat→Prop:=fun _=>False
def fK (v:Value):Nat→Prop:=fun k=>v.ownBlock=some k
theorem ae.refl (S:Nat→Prop) (w:World):ae S w w:=⟨rfl,rfl,rfl,Nat.le_refl _,fun _ _ _=>rfl⟩
theorem ae.trans {S T U:Nat→Prop}{a b c:World} (h:ae S a b) (k:ae T b c) (hS:∀ i,i<a.heap.size→S i→U i) (hT:∀ i,i<a.heap.size→T i→U i):ae U a c :=
 ⟨k.os.trans h.os,k.tape.trans h.tape,k.output.trans h.output,Nat.le_trans h.size k.size,fun i hi hu =>
  (k.block i (Nat.lt_of_lt_of_le hi h.size) (fun ht=>hu (hT i hi ht))).trans (h.block i hi (fun hs=>hu (hS i hi hs)))⟩
theorem ae.mono {S T:Nat→Prop}{a b:World} (h:ae S a b) (hS:∀ i,i<a.heap.size→S i→T i):ae T a b :=
 ⟨h.os,h.tape,h.output,h.size,fun i hi hu=>h.block i hi (fun hs=>hu (hS i hi hs))⟩
theorem ae.below {a b:World} (h:ae aj a b):Below a.heap.size a b:=⟨h.os,h.tape,h.output,h.size,fun k hk=>h.block k hk (fun x=>x)⟩
theorem ae.of_below {a b:World}{B:Nat} (h:Below B a b) (hB:a.heap.size≤B) (S:Nat→Prop):ae S a b:=⟨h.os,h.tape,h.output,h.size,fun k hk _=>h.block k (by omega)⟩
theorem ae.drew {S:Nat→Prop}{a b:World} (h:ae S a b):ae S a b.drew:=⟨h.os,h.tape,h.output,h.size,h.block⟩
theorem ae.drewN {S:Nat→Prop}{a b:World} (h:ae S a b) (n:Nat):ae S a (b.drewN n):=⟨h.os,h.tape,h.output,h.size,h.block⟩
theorem ae.alloc {S:Nat→Prop}{a b:World} (h:ae S a b) (o:Obj):ae S a (b.alloc o) :=
 ⟨h.os,h.tape,h.output,by have:=h.size;simp;omega,fun k hk hs=>(Below.heap_alloc b o k (by have:=h.size;omega)).trans (h.block k hk hs)⟩
theorem ae.setCell {S:Nat→Prop}{a b:World} (h:ae S a b) {p:Addr} (hp:S p.block∨a.heap.size≤p.block) (u:Value):ae S a (b.setCell p u) :=
 ⟨h.os,h.tape,h.output,by simpa [World.setCell] using h.size,fun k hk hs=>(Below.heap_setCell b p u k (by rintro rfl;rcases hp with hp | hp;exact hs hp;omega)).trans (h.block k hk hs)⟩
theorem ae.setCells {S:Nat→Prop}{a b:World} (h:ae S a b) {g off:Nat} (hp:S g∨a.heap.size≤g) (us:List Value):ae S a (b.setCells g off us):=by
 induction us generalizing b off with
 | nil=>exact h
 | cons u us ih=>exact ih (h.setCell hp u)
theorem ae.cell {S:Nat→Prop}{a b:World} (h:ae S a b) {p:Addr} (hp:p.block<a.heap.size) (hs:¬ S p.block):b.cell? p=a.cell? p:=World.cell?_of_block (w:=a) (h.block p.block hp hs)
def Quiet (w w':World):Prop:=∃ n,w'=w.drewN n
theorem Quiet.mods {w w':World} (h:Quiet w w') (S:Nat→Prop):ae S w w':=by obtain⟨n,rfl⟩:=h;exact (ae.refl S w).drewN n
theorem Quiet.refl (w:World):Quiet w w:=⟨0,rfl⟩
theorem Quiet.more {w w':World} (h:Quiet w w') {n:Nat}:Quiet w (w'.drewN n):=by obtain⟨m,rfl⟩:=h;exact⟨_,World.drewN_drewN ..⟩
theorem Quiet.trans {a b c:World} (h:Quiet a b) (k:Quiet b c):Quiet a c:=by obtain⟨m,rfl⟩:=k;exact h.more
theorem Quiet.heap {w w':World} (h:Quiet w w'):w'.heap=w.heap:=by obtain⟨n,rfl⟩:=h;rfl
theorem ai {w:World}{g:Nat}{cur:Array Value}{e:TypeId}{fr:Nat × Nat} (h:w.heap[g]?=some (.cells cur e fr)) (o:Nat):w.cell? ⟨g,o,none⟩=cur[o]?:=by
 simp [World.cell?,h]
theorem dw {w:World}{g:Nat}{cur:Array Value}{e:TypeId} (h:w.heap[g]?=some (.cells cur e (0,0))) (o:Nat):w.frozen? ⟨g,o,none⟩=false:=by
 simp [World.frozen?,h]
theorem lt_of_heap {w:World}{g:Nat}{o:Obj} (h:w.heap[g]?=some o):g<w.heap.size:=(Array.getElem?_eq_some_iff.1 h).1
theorem heap_set {w:World}{g:Nat}{cur:Array Value}{e:TypeId}{fr:Nat × Nat} (h:w.heap[g]?=some (.cells cur e fr)) (o:Nat) (u:Value) :
  (w.setCell ⟨g,o,none⟩ u).heap[g]?=some (.cells (cur.setIfInBounds o u) e fr):=by
 simp [World.setCell,Array.getElem?_modify,h]
theorem gI {w:World}{a:Addr}{g:Nat} (h:g≠a.block) (u:Value):(w.setCell a u).heap[g]?=w.heap[g]?:=Below.heap_setCell w a u g h
theorem bC (w:World) (o:Obj):(w.alloc o).heap[w.heap.size]?=some o:=heap_alloc_new w o
theorem dS {w:World}{g:Nat}{x:Obj} (h:w.heap[g]?=some x) (o:Obj):(w.alloc o).heap[g]?=some x:=(Below.heap_alloc w o g (lt_of_heap h)).trans h
theorem ae.heap {S:Nat→Prop}{a b:World} (h:ae S a b) {g:Nat}{x:Obj} (hg:a.heap[g]?=some x) (hs:¬ S g):b.heap[g]?=some x:=(h.block g (lt_of_heap hg) hs).trans hg
def bv (xs:List UInt8):List Value:=xs.map fun b => .int .u8 b.toNat
theorem jI (xs:List UInt8):(bv xs).length=xs.length:=by simp [bv]
theorem zD (xs ys:List UInt8):bv (xs ++ ys)=bv xs ++ bv ys:=by simp [bv]
theorem pq (xs:List UInt8) (i:Nat) (h:i<xs.length):(bv xs)[i]?=some (.int .u8 (xs[i]).toNat):=by simp [bv,h]
theorem EF (xs:List UInt8):∀ u∈bv xs,u.oneCell'=true:=by
 intro u hu
 obtain⟨b,_,rfl⟩:=List.mem_map.1 hu
 rfl
def mO (v:Value):Prop:=v = .slice none 0 0∨∃ g off s,v = .slice (some ⟨g,off,some s⟩) 0 0
theorem mO.nil:mO (.slice none 0 0) := .inl rfl
theorem mO.form {v:Value} (h:mO v):∃ a,v = .slice a 0 0:=by
 rcases h with rfl | ⟨g,off,s,rfl⟩
 ·exact⟨_,rfl⟩
 ·exact⟨_,rfl⟩
theorem mO.no {g off n c:Nat} (h:mO (.slice (some ⟨g,off,none⟩) n c)):False:=by
 rcases h with h | ⟨g',off',s,h⟩
 ·cases h
 ·cases h
theorem mO.none {a:Option Addr}{n c:Nat} (h:mO (.slice a n c)):n=0∧c=0:=by
 obtain⟨a',h⟩:=h.form
 cases h
 exact⟨rfl,rfl⟩
def gX (w:World) (size:Nat) (v:Value) (n:Nat) (xs:List Value):Prop :=
 xs.length=n*size∧((mO v∧n=0)∨∃ g off cap,v = .slice (some ⟨g,off,none⟩) n cap∧n≤cap∧cap≤maxLen∧(n=0∨g<w.heap.size)∧∀ j u,xs[j]?=some u→w.cell? ⟨g,off+j,none⟩=some u)
def aU (w:World) (e:TypeId) (size:Nat) (v:Value) (n:Nat) (xs:List Value):Prop :=
 xs.length=n*size∧((v = .slice none 0 0∧n=0)∨∃ g off cap cur,v = .slice (some ⟨g,off,none⟩) n cap∧w.heap[g]?=some (.cells cur e (0,0))∧n≤cap∧cap≤maxLen∧off+cap*size≤cur.size ∧
  ∀ j u,xs[j]?=some u→cur[off+j]?=some u)
theorem aU.rd {w:World}{e size n:Nat}{v:Value}{xs:List Value} (h:aU w e size v n xs):gX w size v n xs:=by
 refine⟨h.1,?_⟩
 rcases h.2 with ⟨rfl,h2⟩ | ⟨g,off,cap,cur,hv,hg,h1,h2,_,h3⟩
 ·exact .inl ⟨.nil,h2⟩
 ·exact .inr ⟨g,off,cap,hv,h1,h2,.inr (lt_of_heap hg),fun j u hj=>(ai hg _).trans (h3 j u hj)⟩
theorem gX.form {w:World}{size n:Nat}{v:Value}{xs:List Value} (h:gX w size v n xs):∃ a cap,v = .slice a n cap∧n≤maxLen:=by
 rcases h.2 with ⟨h0,rfl⟩ | ⟨g,off,cap,rfl,h1,h2,_⟩
 ·obtain⟨a,rfl⟩:=h0.form
  exact⟨a,0,rfl,by simp [maxLen]⟩
 ·exact⟨_,cap,rfl,Nat.le_trans h1 h2⟩
theorem gX.keepL {S:Nat→Prop}{w w':World}{size n:Nat}{v:Value}{xs:List Value} (h:gX w size v n xs) (hm:ae S w w') (hs:∀ k,k<w.heap.size→v.ownBlock=some k→¬ S k):gX w' size v n xs:=by
 refine⟨h.1,?_⟩
 rcases h.2 with h2 | ⟨g,off,cap,rfl,h1,h2,hg,h3⟩
 ·exact .inl h2
 ·refine .inr ⟨g,off,cap,rfl,h1,h2,hg.imp id (fun x=>Nat.lt_of_lt_of_le x hm.size),fun j u hj=>?_⟩
  rcases hg with hg | hg
  ·have h4:=h.1
   rw [hg,Nat.zero_mul] at h4
   rw [List.eq_nil_of_length_eq_zero h4] at hj
   simp at hj
  ·exact (hm.cell (p:=⟨g,off+j,none⟩) hg (hs g hg rfl)).trans (h3 j u hj)
theorem gX.keep {S:Nat→Prop}{w w':World}{size n:Nat}{v:Value}{xs:List Value} (h:gX w size v n xs) (hm:ae S w w') (hs:∀ k,v.ownBlock=some k→¬ S k):gX w' size v n xs:=h.keepL hm (fun k _=>hs k)
theorem aU.keep {S:Nat→Prop}{w w':World}{e size n:Nat}{v:Value}{xs:List Value} (h:aU w e size v n xs) (hm:ae S w w') (hs:∀ k,v.ownBlock=some k→¬ S k):aU w' e size v n xs:=by
 refine⟨h.1,?_⟩
 rcases h.2 with h2 | ⟨g,off,cap,cur,rfl,hg,rest⟩
 ·exact .inl h2
 ·exact .inr ⟨g,off,cap,cur,rfl,hm.heap hg (hs g rfl),rest⟩
theorem aU.lt {w:World}{e:TypeId}{size n:Nat}{v:Value}{xs:List Value} (h:aU w e size v n xs):∀ k,v.ownBlock=some k→k<w.heap.size:=by
 intro k hk
 rcases h.2 with ⟨rfl,_⟩ | ⟨g,off,cap,cur,rfl,hg,_⟩
 ·simp [Value.ownBlock] at hk
 ·have:=lt_of_heap hg
  simp [Value.ownBlock] at hk
  omega
def Rd (w:World) (v:Value) (xs:List UInt8):Prop:=gX w 1 v xs.length (bv xs)
def Own (w:World) (v:Value) (xs:List UInt8):Prop:=aU w 5 1 v xs.length (bv xs)
theorem Own.rd {w:World}{v:Value}{xs:List UInt8} (h:Own w v xs):Rd w v xs:=aU.rd h
theorem Rd.nil (w:World):Rd w (.slice none 0 0) []:=⟨rfl,.inl ⟨.nil,rfl⟩⟩
theorem Own.nil (w:World):Own w (.slice none 0 0) []:=⟨rfl,.inl ⟨rfl,rfl⟩⟩
theorem Rd.form {w:World}{v:Value}{xs:List UInt8} (h:Rd w v xs):∃ a cap,v = .slice a xs.length cap∧xs.length≤maxLen:=gX.form h
theorem Rd.keep {S:Nat→Prop}{w w':World}{v:Value}{xs:List UInt8} (h:Rd w v xs) (hm:ae S w w') (hs:∀ k,v.ownBlock=some k→¬ S k):Rd w' v xs:=gX.keep h hm hs
theorem Own.keep {S:Nat→Prop}{w w':World}{v:Value}{xs:List UInt8} (h:Own w v xs) (hm:ae S w w') (hs:∀ k,v.ownBlock=some k→¬ S k):Own w' v xs:=aU.keep h hm hs
theorem Rd.quiet {w w':World}{v:Value}{xs:List UInt8} (h:Rd w v xs) (hq:Quiet w w'):Rd w' v xs:=h.keep (hq.mods aj) (fun _ _ x=>x)
theorem Own.quiet {w w':World}{v:Value}{xs:List UInt8} (h:Own w v xs) (hq:Quiet w w'):Own w' v xs:=h.keep (hq.mods aj) (fun _ _ x=>x)
theorem Rd.keepL {S:Nat→Prop}{w w':World}{v:Value}{xs:List UInt8} (h:Rd w v xs) (hm:ae S w w') (hs:∀ k,k<w.heap.size→v.ownBlock=some k→¬ S k):Rd w' v xs:=gX.keepL h hm hs
theorem Own.lt {w:World}{v:Value}{xs:List UInt8} (h:Own w v xs):∀ k,v.ownBlock=some k→k<w.heap.size:=aU.lt h
theorem Rd.any {w w':World}{v:Value} (h:Rd w v []):Rd w' v []:=by
 refine⟨rfl,?_⟩
 rcases h.2 with h2 | ⟨g,off,cap,hv,h1,h2,hg,h3⟩
 ·exact .inl h2
 ·exact .inr ⟨g,off,cap,hv,h1,h2,.inl rfl,fun j u hj=>by simp [bv] at hj⟩
theorem Rd.open {w:World}{v:Value}{xs:List UInt8} (h:Rd w v xs) :
  (mO v∧xs=[])∨∃ g off cap,v = .slice (some ⟨g,off,none⟩) xs.length cap∧xs.length≤cap∧cap≤maxLen∧(xs.length=0∨g<w.heap.size)∧∀ i (hi:i<xs.length),w.cell? ⟨g,off+i,none⟩=some (.int .u8 (xs[i]).toNat):=by
 rcases h.2 with ⟨h0,hn⟩ | ⟨g,off,cap,hv,h1,h2,hg,h3⟩
 ·exact .inl ⟨h0,List.eq_nil_of_length_eq_zero hn⟩
 ·exact .inr ⟨g,off,cap,hv,h1,h2,hg,fun i hi=>h3 i _ (pq xs i hi)⟩
def aI (w:World) (v:Value):Prop:=∀ k,v.ownBlock=some k→w.heap.size≤k
theorem aI.not {w:World}{v:Value} (h:aI w v) {k:Nat} (hk:k<w.heap.size):v.ownBlock≠some k:=fun e=>by have:=h k e;omega
def Stop (p:Prop):Prop:=p
theorem stop {p:Prop} (h:Stop p):p:=h
theorem gX.src {P:Program}{w:World}{size n:Nat}{v:Value}{xs:List Value} (h:gX w size v n xs) (h1:∀ u∈xs,u.oneCell'=true) {t e':TypeId} (hk:P.underlying t=some (.slice e')):Src P size t v n xs w:=by
 rcases h.2 with ⟨h0,rfl⟩ | ⟨g,off,cap,rfl,_,_,hg,h3⟩
 ·obtain rfl:xs=[]:=List.eq_nil_of_length_eq_zero (by simpa using h.1)
  rcases h0 with rfl | ⟨g,off,s,rfl⟩
  ·exact Src.ofNil w hk 0
  ·exact Src.ofSlice w hk _ 0 0 [] (by simp) (fun j u hj=>by simp at hj) h1
 ·exact Src.ofSlice w hk _ n cap xs h.1 (fun j u hj=>by rw [show (⟨g,off,none⟩:Addr).add j=⟨g,off+j,none⟩ from Addr.add_lit ..];exact h3 j u hj) h1
theorem nK {P:Program}{w:World} (t tx ty e e':TypeId) (i:TypeInfo) (z:Value) (ht:P.underlying t=some (.slice e)) (htx:P.underlying tx=some (.slice e')) (hi:P.info? e=some i) (hz:i.zero=some z) (hzs:z.cells.size=i.size)
    {v:Value}{n:Nat}{xs:List Value} (hown:aU w e i.size v n xs) {u:Value}{m:Nat}{ys:List Value} (hrd:gX w i.size u m ys) (h1:∀ y∈ys,y.oneCell'=true) (hlen:n+m≤maxLen) (hb:(n+m)*i.bytes≤140737488355328) :
    ∃ v' w',(Builtin.append_ #[t,tx] ty #[v,u]).run P w = .ok v' w'∧aU w' e i.size v' (n+m) (xs ++ ys)∧ae (fK v) w w'∧(v'.ownBlock=v.ownBlock∨aI w v'):=by
  have hlen':(xs ++ ys).length=(n+m)*i.size:=by rw [List.length_append,hown.1,hrd.1,Nat.add_mul]
  have hs:=hrd.src (P:=P) h1 htx
  have grow:∀ (base:Option Addr) (sCap:Nat),v = .slice base n sCap→sCap<n+m→(Builtin.firstCells i.size n (.slice base n sCap)).run P w.drew = .ok xs.toArray w.drew →
      ∃ v' w',(Builtin.append_ #[t,tx] ty #[v,u]).run P w = .ok v' w'∧aU w' e i.size v' (n+m) (xs ++ ys)∧ae (fK v) w w'∧(v'.ownBlock=v.ownBlock∨aI w v'):=by
    intro base sCap hv hg hold
    subst hv
    have hge:=grownCap_ge w (n+m) sCap e
    refine⟨_,_,run_append_grow_src w t tx ty e i z ht hi hz base n sCap xs hold u m ys hs hg (by simp only [maxLen] at hlen;omega) (growslice_fits hg hb),⟨hlen',.inr ⟨w.heap.size,0,_,_,rfl,heap_alloc_new w.drew _,hge,grownCap_le_maxLen w _ _ e hlen,?_,?_⟩⟩,((ae.refl _ w).drew).alloc _,.inr ?_⟩
    · simp only [Array.size_append,List.size_toArray,size_zeroCells,hzs,hlen',← Nat.add_mul]
      rw [Nat.zero_add]
      exact Nat.mul_le_mul_right _ (by omega)
    · intro j x hj
      have hjl:j<(xs ++ ys).length:=(List.getElem?_eq_some_iff.1 hj).1
      rw [Nat.zero_add,Array.getElem?_append_left (by simpa using hjl)]
      simpa using hj
    · intro k hk
      simp [Value.ownBlock] at hk
      omega
  rcases hown.2 with ⟨hv,rfl⟩ | ⟨g,off,cap,cur,rfl,hg,h3,h4,h5,h6⟩
  · obtain rfl:xs=[]:=List.eq_nil_of_length_eq_zero (by simpa using hown.1)
    by_cases hm:m=0
    · subst hm
      obtain rfl:ys=[]:=List.eq_nil_of_length_eq_zero (by simpa using hrd.1)
      subst hv
      refine⟨.slice none 0 0,w,?_,⟨by simp,.inl ⟨rfl,rfl⟩⟩,ae.refl _ _,.inl rfl⟩
      simp [Builtin.append_,run_underlying ht,run_underlying htx,sizeOf,typeInfo,hi,hs.len,hs.cells]
    · exact grow none 0 hv (by omega) (run_firstCells_none w.drew i.size 0 0 0)
  · by_cases hroom:n+m≤cap
    · have hmul:(n+m)*i.size≤cap*i.size:=Nat.mul_le_mul_right _ hroom
      have hnm:(n+m)*i.size=n*i.size+ys.length:=by rw [Nat.add_mul,hrd.1]
      have hr:=run_append_room_src (P:=P) w t tx ty e i ht hi g off n cap u m ys hs hroom
        (fun j hj=>by rw [ai hg,Array.getElem?_eq_getElem (by omega)];rfl) (fun j hj=>dw hg _)
      have hset:∀ (l:List Value) (c:Array Value) (o:Nat) (w1:World),w1.heap[g]?=some (.cells c e (0,0))→o+l.length≤c.size →
          ∃ c',(w1.setCells g o l).heap[g]?=some (.cells c' e (0,0))∧c'.size=c.size∧(∀ j,j<o→c'[j]?=c[j]?)∧(∀ j,j<l.length→c'[o+j]?=l[j]?):=by
        intro l
        induction l with
        | nil=>intro c o w1 h _;exact⟨c,h,rfl,fun _ _=>rfl,fun j hj=>by simp at hj⟩
        | cons x l ih =>
          intro c o w1 h hl
          simp only [List.length_cons] at hl
          obtain⟨c',h1',h2',h3',h4'⟩:=ih (c.setIfInBounds o x) (o+1) (w1.setCell ⟨g,o,none⟩ x) (heap_set h o x) (by simp;omega)
          refine⟨c',h1',by simpa using h2',fun j hj=>?_,fun j hj=>?_⟩
          · rw [h3' j (by omega),Array.getElem?_setIfInBounds_ne (by omega)]
          · rcases j with _ | j
            · rw [Nat.add_zero,h3' o (by omega)]
              simp [show o<c.size from by omega]
            · have:=h4' j (by simpa using hj)
              rw [show o+(j+1)=o+1+j from by omega,this]
              simp
      obtain⟨c',k1,k2,k3,k4⟩:=hset ys cur (off+n*i.size) w hg (by omega)
      refine⟨_,_,hr,⟨hlen',.inr ⟨g,off,cap,c',rfl,k1,hroom,h4,by omega,?_⟩⟩,(ae.refl (fK (.slice (some ⟨g,off,none⟩) n cap)) w).setCells (.inl (by rfl)) ys,.inl rfl⟩
      intro j x hj
      by_cases hjn:j<xs.length
      · rw [List.getElem?_append_left hjn] at hj
        rw [k3 _ (by have:=hown.1;omega)]
        exact h6 j x hj
      · rw [List.getElem?_append_right (by omega)] at hj
        have hjy:j - xs.length<ys.length:=(List.getElem?_eq_some_iff.1 hj).1
        have:=k4 (j - xs.length) hjy
        rw [show off+n*i.size+(j - xs.length)=off+j from by have:=hown.1;omega] at this
        rw [this]
        exact hj
    · refine grow (some ⟨g,off,none⟩) cap rfl (by omega) (run_firstCells_some w.drew i.size n _ n cap xs hown.1 (fun j x hj=>?_))
      rw [show (⟨g,off,none⟩:Addr).add j=⟨g,off+j,none⟩ from Addr.add_lit ..]
      show w.drew.cell? _=_
      exact (ai (w:=w.drew) hg _).trans (h6 j x hj)
theorem lN {P:Program}{ops:Array Oper}{Q:Exit→Act→World→Prop}{rest:List Oper}{o:Oper}{a:Act}{w:World}{s x:Operand}{t tx:TypeId} (hgd:o.guard=none)
  (ho:o.op = .call { callee := .builtin .append,args:=#[s,x],argTypes:=#[t,tx] }) {e e':TypeId}{i:TypeInfo}{z:Value} (ht:P.underlying t=some (.slice e)) (htx:P.underlying tx=some (.slice e')) (hi:P.info? e=some i) (hz:i.zero=some z) (hzs:z.cells.size=i.size)
  {v:Value}{n:Nat}{xs:List Value} (hs:a.eval s=v) (hown:aU w e i.size v n xs) {u:Value}{m:Nat}{ys:List Value} (hx:a.eval x=u) (hrd:gX w i.size u m ys) (h1:∀ y∈ys,y.oneCell'=true) (hlen:n+m≤maxLen) (hb:(n+m)*i.bytes≤140737488355328)
  (h:∀ v' w',aU w' e i.size v' (n+m) (xs ++ ys)→ae (fK v) w w'→(v'.ownBlock=v.ownBlock∨aI w v')→wpList P ops Q rest (a.put o.dst v') w'):wpList P ops Q (o :: rest) a w:=by
 refine wpList_plain hgd fun K hK=>?_
 obtain⟨v',w',hr,h2,h3,h4⟩:=nK (P:=P) t tx o.type e e' i z ht htx hi hz hzs hown hrd h1 hlen hb
 unfold Oper.wp execOp
 simp only [ho,resolve,invoke,builtin,Sem.run_bind,Sem.run_pure,Result.andThen_ok,List.map_toArray,List.map_cons,List.map_nil,hs,hx,hr]
 exact hK _ _ (h v' w' h2 h3 h4)
theorem Own.alloc {w:World}{v:Value}{xs:List UInt8} (h:Own w v xs) (o:Obj):Own (w.alloc o) v xs:=h.keep ((ae.refl aj w).alloc o) (fun _ _ x=>x)
theorem Rd.alloc {w:World}{v:Value}{xs:List UInt8} (h:Rd w v xs) (o:Obj):Rd (w.alloc o) v xs:=h.keep ((ae.refl aj w).alloc o) (fun _ _ x=>x)
theorem rQ (c:UInt8) {w:World} (n:Nat) (hn:n=w.heap.size):Own (w.alloc (.cells #[.int .u8 c.toNat] 5)) (.slice (some ⟨n,0,none⟩) 1 1) [c]:=by
 subst hn
 refine⟨rfl,.inr ⟨_,0,1,_,rfl,bC _ _,Nat.le_refl _,by simp [maxLen],by simp,fun j u hj=>?_⟩⟩
 rw [Nat.zero_add]
 simpa [bv] using hj
theorem ae.cellAt {S:Nat→Prop}{a b:World} (h:ae S a b) {g:Nat} (hg:g<a.heap.size) (hs:¬ S g) (o:Nat):b.cell? ⟨g,o,none⟩=a.cell? ⟨g,o,none⟩:=h.cell (p:=⟨g,o,none⟩) hg hs
theorem jh {g off n cap i:Nat} (h:fK (.slice (some ⟨g,off,none⟩) n cap) i):i=g:=by
 simp [fK,Value.ownBlock] at h
 omega
theorem xy (x:Int) (h0:0≤x) (h1:x≤18446744073709551615):bits .xor .u64 IntKind.u64.max x=18446744073709551615 - x:=by
 obtain⟨n,rfl⟩:=Int.eq_ofNat_of_zero_le h0
 have hm:IntKind.u64.max=((18446744073709551615:Nat):Int):=rfl
 rw [hm,bits_xor_u64_nat _ _ (by omega) (by omega)]
 have h2:n<2 ^ 64:=by omega
 have h3:(18446744073709551615 ^^^ n:Nat)=(BitVec.allOnes 64 ^^^ BitVec.ofNat 64 n).toNat:=by
  rw [BitVec.toNat_xor,BitVec.toNat_ofNat,Nat.mod_eq_of_lt h2]
  rfl
 rw [h3,BitVec.allOnes_xor,BitVec.toNat_not,BitVec.toNat_ofNat,Nat.mod_eq_of_lt h2]
 omega
theorem yK (x c:Int) (h0:0≤x) (h1:x<72057594037927936) (h2:0≤c) (h3:c<256):bits .or .u64 (x*256) c=x*256+c:=by
 obtain⟨n,rfl⟩:=Int.eq_ofNat_of_zero_le h0
 obtain⟨k,rfl⟩:=Int.eq_ofNat_of_zero_le h2
 have hx:((n:Int)*256)=((n*256:Nat):Int):=by simp
 rw [hx]
 unfold bits
 have e1:(BitVec.ofInt 64 ((n*256:Nat):Int))=BitVec.ofNat 64 (n*256):=BitVec.ofInt_natCast ..
 have e2:(BitVec.ofInt 64 ((k:Nat):Int))=BitVec.ofNat 64 k:=BitVec.ofInt_natCast ..
 have h4:(n*256) ||| k=n*256+k:=by
  have:=Nat.shiftLeft_add_eq_or_of_lt (b:=k) (i:=8) (by omega) n
  rw [Nat.shiftLeft_eq] at this
  simpa using this.symm
 show IntKind.u64.wrap (((BitVec.ofInt 64 ((n*256:Nat):Int)) ||| (BitVec.ofInt 64 ((k:Nat):Int))).toNat:Int)=_
 rw [e1,e2,BitVec.toNat_or,BitVec.toNat_ofNat,BitVec.toNat_ofNat,Nat.mod_eq_of_lt (by omega),Nat.mod_eq_of_lt (by omega),h4,IntKind.wrap_u64]
 omega
open Go.RowKit Go.Sort
theorem kM {w:World}{g:Nat}{arr:Array Value} (h:∀ o,w.cell? ⟨g,o,none⟩=arr[o]?) (hg:g<w.heap.size) (d:Nat) (os:Array Obj) (o:Nat):(grow (redrawn w d) os).cell? ⟨g,o,none⟩=arr[o]?:=by
 rw [(below_regrown w d os).cell (p:=⟨g,o,none⟩) hg];exact h o
theorem kU (w:World) (d:Nat) (os:Array Obj):ae aj w (grow (redrawn w d) os):=ae.of_below (below_regrown w d os) (Nat.le_refl _) _
theorem Calls.quiet_mods {P:Program}{f:FuncId}{args:Array Value}{w:World}{d:Nat}{os:Array Obj}{v:Value}
  (h:Calls P f args (grow (redrawn w d) os) fun e w'=>e = .returned v∧ae aj (grow (redrawn w d) os) w'):Calls P f args (grow (redrawn w d) os) fun e w''=>e = .returned v∧∃ p:Regrown,w''=grow (redrawn w p.d) p.os :=
 Calls.regrown_of (h.mono fun _ _ ⟨he,hb⟩=>⟨he,hb.below⟩)
theorem Rd.regrown {w:World}{v:Value}{xs:List UInt8} (h:Rd w v xs) (d:Nat) (os:Array Obj):Rd (grow (redrawn w d) os) v xs:=h.keep (kU w d os) (fun _ _ x=>x)
theorem Own.regrown {w:World}{v:Value}{xs:List UInt8} (h:Own w v xs) (d:Nat) (os:Array Obj):Own (grow (redrawn w d) os) v xs:=h.keep (kU w d os) (fun _ _ x=>x)
theorem ae.regrown {S:Nat→Prop}{a b:World} (h:ae S a b) (d:Nat) (os:Array Obj):ae S a (grow (redrawn b d) os):=h.trans (kU b d os) (fun _ _ x=>x) (fun _ _ x=>x.elim)
theorem ae.after {S:Nat→Prop}{w w1:World}{o:Obj} (h:ae S (w.alloc o) w1):ae S w w1:=((ae.refl S w).alloc o).trans h (fun _ _ x=>x) (fun _ _ x=>x)
theorem ae.then0 {S:Nat→Prop}{a b c:World} (h:ae S a b) (k:ae aj b c):ae S a c:=h.trans k (fun _ _ x=>x) (fun _ _ x=>x.elim)
theorem ae.size_of {S:Nat→Prop}{a b:World} (h:ae S a b) {n:Nat} (hn:n<a.heap.size):n<b.heap.size:=Nat.lt_of_lt_of_le hn h.size
theorem aI.of {w w1:World}{v:Value} (h:aI w1 v) (hs:w.heap.size≤w1.heap.size):aI w v:=fun k hk=>Nat.le_trans hs (h k hk)
theorem Rd.at {w:World}{v:Value}{xs:List UInt8} (h:Rd w v xs):∃ a cap,v = .slice a xs.length cap∧xs.length≤maxLen∧(xs.length=0∨∃ g off,a=some ⟨g,off,none⟩∧∀ i (hi:i<xs.length),w.cell? ⟨g,off+i,none⟩=some (.int .u8 (xs[i]).toNat)):=by
 rcases h.open with ⟨h0,rfl⟩ | ⟨g,off,cap,rfl,h1,h2,_,h3⟩
 ·obtain⟨a,rfl⟩:=h0.form
  exact⟨a,0,rfl,by simp,.inl rfl⟩
 ·exact⟨_,cap,rfl,by omega,.inr ⟨g,off,rfl,h3⟩⟩
theorem Rd.take {w:World}{g off n cap:Nat}{xs:List UInt8} (h:Rd w (.slice (some ⟨g,off,none⟩) xs.length cap) xs) (hn:n≤xs.length):Rd w (.slice (some ⟨g,off,none⟩) n cap) (xs.take n):=by
 rcases h.open with ⟨h1,_⟩ | ⟨g',off',cap',h1,h2,h3,h4,h5⟩
 ·exact h1.no.elim
 ·cases h1
  refine⟨by rw [jI,Nat.mul_one],.inr ⟨_,_,_,by rw [List.length_take,Nat.min_eq_left hn],by rw [List.length_take];omega,h3,h4.imp (fun x=>by rw [List.length_take];omega) id,fun j u hj=>?_⟩⟩
  have hj':j<(xs.take n).length:=by have:=(List.getElem?_eq_some_iff.1 hj).1;simpa [jI] using this
  rw [pq _ j hj'] at hj
  rw [← hj,h5 j (by rw [List.length_take] at hj';omega)]
  simp
theorem Rd.at' {w:World}{v:Value}{xs:List UInt8} (h:Rd w v xs):∃ a cap,v = .slice a xs.length cap∧xs.length≤cap∧cap≤maxLen∧(xs.length≠0→∀ k,v.ownBlock=some k→k<w.heap.size)∧(xs.length=0∨∃ g off,a=some ⟨g,off,none⟩∧∀ i (hi:i<xs.length),w.cell? ⟨g,off+i,none⟩=some (.int .u8 (xs[i]).toNat)):=by
 rcases h.open with ⟨h0,rfl⟩ | ⟨g,off,cap,rfl,h1,h2,h5,h3⟩
 ·obtain⟨a,rfl⟩:=h0.form
  exact⟨a,0,rfl,by simp,by simp,fun hn=>absurd rfl hn,.inl rfl⟩
 ·exact⟨_,cap,rfl,h1,h2,fun hn k hk=>by have:=h5.resolve_left hn;simp [Value.ownBlock] at hk;omega,.inr ⟨g,off,rfl,h3⟩⟩
theorem Own.open {w:World}{v:Value}{xs:List UInt8} (h:Own w v xs) :
  (v = .slice none 0 0∧xs=[])∨∃ g off cap cur,v = .slice (some ⟨g,off,none⟩) xs.length cap∧w.heap[g]?=some (.cells cur 5 (0,0))∧xs.length≤cap∧cap≤maxLen∧off+cap≤cur.size∧∀ i (hi:i<xs.length),cur[off+i]?=some (.int .u8 (xs[i]).toNat):=by
 rcases h.2 with ⟨rfl,hn⟩ | ⟨g,off,cap,cur,hv,h1,h2,h3,h4,h5⟩
 ·exact .inl ⟨rfl,List.eq_nil_of_length_eq_zero hn⟩
 ·exact .inr ⟨g,off,cap,cur,hv,h1,h2,h3,by omega,fun i hi=>h5 i _ (pq xs i hi)⟩
theorem Rd.sub {w:World}{g off cap:Nat}{xs:List UInt8} (h:Rd w (.slice (some ⟨g,off,none⟩) xs.length cap) xs) (i n cap':Nat) (hi:i+n≤xs.length) (hc:n≤cap') (hc':cap'≤maxLen):Rd w (.slice (some ⟨g,off+i,none⟩) n cap') ((xs.drop i).take n):=by
 have hl:((xs.drop i).take n).length=n:=by rw [List.length_take,List.length_drop];omega
 rcases h.open with ⟨h1,_⟩ | ⟨g',off',cap'',h1,h2,h3,h4,h5⟩
 ·exact h1.no.elim
 ·cases h1
  refine⟨by rw [jI,Nat.mul_one],.inr ⟨_,_,_,by rw [hl],by rw [hl];exact hc,hc',h4.imp (fun x=>by rw [hl];omega) id,fun j u hj=>?_⟩⟩
  have hj':j<((xs.drop i).take n).length:=by have:=(List.getElem?_eq_some_iff.1 hj).1;simpa [jI] using this
  rw [pq _ j hj'] at hj
  rw [← hj,Nat.add_assoc,h5 (i+j) (by omega)]
  simp
theorem Rd.addr {w:World}{a:Option Addr}{n c:Nat}{xs:List UInt8} (h:Rd w (.slice a n c) xs) (hn:n≠0):∃ g off,a=some ⟨g,off,none⟩:=by
 rcases h.open with ⟨h1,_⟩ | ⟨g,off,cap,h1,_⟩
 ·exact absurd h1.none.1 hn
 ·cases h1;exact⟨g,off,rfl⟩
theorem ng {P:Program}{ops:Array Oper}{rest:List Oper}{o:Oper}{a:Act}{w:World}{Q:Exit→Act→World→Prop}{ty:TypeId}{x y:Operand}{g:Nat}{cells old:Array Value}{t:TypeId} (hgd:o.guard=none) (ho:o.op = .store ty x y)
  (hg:w.heap[g]?=some (.cells old t (0,0))) (hx:a.eval x = .pointer (some ⟨g,0,none⟩)) (hy:a.eval y = .agg cells) (hi:(P.info? ty).map (·.size)=some cells.size)
  (hold:old.size=cells.size) (h1:cells.toList.all (·.oneCell')=true)
  (h:∀ w',w'.heap[g]?=some (.cells cells t (0,0))→ae (fun k=>k=g) w w'→w'.heap.size=w.heap.size→wpList P ops Q rest (a.put o.dst undef) w'):wpList P ops Q (o :: rest) a w:=by
 refine wpList_store_row hgd ty x y ho g cells hx hy t old hg hi hold (by rw [← h1,Array.all_toList]) (h _ (setRow_heap w g old cells t _ hg) ⟨rfl,rfl,rfl,by simp,fun k _ hk=>setRow_other w g k _ (fun e=>hk (by first | exact e | exact e.symm))⟩ (by simp))
def FP:=World→(Nat→Prop)→(Nat→Prop)→Prop
structure gG (P:FP):Prop where
 lt:∀ {w:World}{S D:Nat→Prop},P w S D→(∀ k,S k→k<w.heap.size)∧(∀ k,D k→k<w.heap.size)
 keep:∀ {w w':World}{S D T:Nat→Prop},P w S D→ae T w w'→(∀ k,S k→¬ T k)→(∀ k,D k→¬ T k)→P w' S D
def Star (P R:FP):FP:=fun w S D=>∃ S1 D1 S2 D2,P w S1 D1∧R w S2 D2∧(∀ k,S1 k→¬ S2 k)∧(∀ k,D1 k→¬ S2 k)∧(∀ k,D2 k→¬ S1 k)∧(∀ k,S k↔S1 k∨S2 k)∧(∀ k,D k↔D1 k∨D2 k)
theorem Star.swap {P R:FP}{w:World}{S D:Nat→Prop} (h:Star P R w S D):Star R P w S D:=by
 obtain⟨S1,D1,S2,D2,p,r,a,b,c,hs,hd⟩:=h
 exact⟨S2,D2,S1,D1,r,p,fun k x y=>a k y x,c,b,fun k=>(hs k).trans or_comm,fun k=>(hd k).trans or_comm⟩
def G1 (w0 w:World) (P:FP) (Q:Nat→Prop):Prop:=∃ S D,P w S D∧(∀ k,Q k→¬ S k∧¬ D k∧k<w.heap.size)∧(∀ k,k<w0.heap.size→Q k)∧ae aj w0 w
section
variable {w0 w w':World}{P R:FP}{Q Q':Nat→Prop}
theorem G1.mods (h:G1 w0 w P Q):ae aj w0 w:=by obtain⟨_,_,_,_,_,m⟩:=h;exact m
theorem G1.q0 (h:G1 w0 w P Q):∀ k,k<w0.heap.size→Q k:=by obtain⟨_,_,_,_,a,_⟩:=h;exact a
theorem G1.mono (h:G1 w0 w P Q) (hp:∀ S D,P w S D→R w S D):G1 w0 w R Q:=by
 obtain⟨S,D,p,r⟩:=h
 exact⟨S,D,hp S D p,r⟩
theorem G1.swap (h:G1 w0 w (Star P R) Q):G1 w0 w (Star R P) Q:=h.mono fun _ _=>Star.swap
theorem G1.left (h:G1 w0 w (Star P R) Q):G1 w0 w P Q:=by
 obtain⟨S,D,⟨S1,D1,S2,D2,p,r,_,_,_,hs,hd⟩,hq,q⟩:=h
 exact⟨S1,D1,p,fun k hk=>⟨fun x=>(hq k hk).1 ((hs k).2 (.inl x)),fun x=>(hq k hk).2.1 ((hd k).2 (.inl x)),(hq k hk).2.2⟩,q⟩
theorem G1.keep0 (h:G1 w0 w P Q) (f:gG P) (m:ae aj w w'):G1 w0 w' P Q:=by
 obtain⟨S,D,p,hq,h0,m0⟩:=h
 exact⟨S,D,f.keep p m (fun _ _ x=>x) (fun _ _ x=>x),fun k hk=>⟨(hq k hk).1,(hq k hk).2.1,Nat.lt_of_lt_of_le (hq k hk).2.2 m.size⟩,h0,m0.then0 m⟩
theorem G1.grow (h:G1 w0 w P Q) (f:gG P) (m:ae aj w w') (hq':∀ k,Q' k→Q k∨(w.heap.size≤k∧k<w'.heap.size)) (h1:∀ k,k<w0.heap.size→Q' k):G1 w0 w' P Q':=by
 obtain⟨S,D,p,hq,h0,m0⟩:=h
 have l:=f.lt p
 refine⟨S,D,f.keep p m (fun _ _ x=>x) (fun _ _ x=>x),fun k hk=>?_,h1,m0.then0 m⟩
 rcases hq' k hk with x | ⟨x,y⟩
 ·exact⟨(hq k x).1,(hq k x).2.1,Nat.lt_of_lt_of_le (hq k x).2.2 m.size⟩
 ·exact⟨fun z=>by have:=l.1 k z;omega,fun z=>by have:=l.2 k z;omega,y⟩
theorem G1.less (h:G1 w0 w P Q) (hq:∀ k,Q' k→Q k) (h1:∀ k,k<w0.heap.size→Q' k):G1 w0 w P Q':=by
 obtain⟨S,D,p,q,h0,m0⟩:=h
 exact⟨S,D,p,fun k hk=>q k (hq k hk),h1,m0⟩
theorem G1.base {w1:World} (h:G1 w1 w P Q) (m:ae aj w0 w1):G1 w0 w P Q:=by
 obtain⟨S,D,p,q,h0,m0⟩:=h
 exact⟨S,D,p,q,fun k hk=>h0 k (Nat.lt_of_lt_of_le hk m.size),m.then0 m0⟩
end
def GC (prog:Program) (f:FuncId) (args:Array Value) (w:World) (P:FP) (Q:Nat→Prop) (R:World→Value→FP→(Nat→Prop)→Prop):Prop :=
 ∀ S D,P w S D→(∀ k,Q k→¬ S k)→Calls prog f args w fun e w'=>∃ v P' N,e = .returned v∧R w' v P' N∧∃ S' D',P' w' S' D'∧ae S w w'∧(∀ k,S' k→S k∨w.heap.size≤k)∧(∀ k,D' k→D k∨w.heap.size≤k)∧(∀ k,N k→w.heap.size≤k∧k<w'.heap.size∧¬ S' k∧¬ D' k)
section
variable {prog:Program}{f:FuncId}{args:Array Value}{w0 w:World}{P P2:FP}{Q:Nat→Prop}{R R':World→Value→FP→(Nat→Prop)→Prop}
theorem GC.mono (h:GC prog f args w P Q R) (hr:∀ w' v P' N,R w' v P' N→R' w' v P' N):GC prog f args w P Q R':=fun S D p hq=>(h S D p hq).mono fun e w' ⟨v,P',N,he,hR,rest⟩=>⟨v,P',N,he,hr _ _ _ _ hR,rest⟩
theorem GC.sub {Q':Nat→Prop} (h:GC prog f args w P Q R) (hq:∀ k,Q k→Q' k):GC prog f args w P Q' R:=fun S D p hQ=>h S D p (fun k hk=>hQ k (hq k hk))
theorem GC.frame (h:GC prog f args w P Q R) (f2:gG P2):GC prog f args w (Star P P2) Q (fun w' v P' N=>∃ P1,P'=Star P1 P2∧R w' v P1 N):=by
 rintro S D ⟨S1,D1,S2,D2,p,r,a,b,c,hs,hd⟩ hq
 refine (h S1 D1 p (fun k hk x=>hq k hk ((hs k).2 (.inl x)))).mono ?_
 rintro e w' ⟨v,P',N,rfl,hR,S',D',p',m,s1,d1,n1⟩
 have l:=f2.lt r
 refine⟨v,_,N,rfl,⟨P',rfl,hR⟩,fun k=>S' k∨S2 k,fun k=>D' k∨D2 k,⟨S',D',S2,D2,p',f2.keep r m (fun k hk x=>a k x hk) (fun k hk x=>c k hk x),fun k x y=>?_,fun k x y=>?_,fun k x y=>?_,fun _=>Iff.rfl,fun _=>Iff.rfl⟩,m.mono (fun k _ x=>(hs k).2 (.inl x)),fun k hk=>?_,fun k hk=>?_,fun k hk=>⟨(n1 k hk).1,(n1 k hk).2.1,?_,?_⟩⟩
 ·rcases s1 k x with z | z
  ·exact a k z y
  ·have:=l.1 k y;omega
 ·rcases d1 k x with z | z
  ·exact b k z y
  ·have:=l.1 k y;omega
 ·rcases s1 k y with z | z
  ·exact c k x z
  ·have:=l.2 k x;omega
 ·rcases hk with x | x
  ·exact (s1 k x).imp (fun z=>(hs k).2 (.inl z)) id
  ·exact .inl ((hs k).2 (.inr x))
 ·rcases hk with x | x
  ·exact (d1 k x).imp (fun z=>(hd k).2 (.inl z)) id
  ·exact .inl ((hd k).2 (.inr x))
 ·rintro (x | x)
  ·exact (n1 k hk).2.2.1 x
  ·have:=l.1 k x;have:=(n1 k hk).1;omega
 ·rintro (x | x)
  ·exact (n1 k hk).2.2.2 x
  ·have:=l.2 k x;have:=(n1 k hk).1;omega
theorem GC.right (h:GC prog f args w P Q R) (f2:gG P2):GC prog f args w (Star P2 P) Q (fun w' v P' N=>∃ P1,P'=Star P2 P1∧R w' v P1 N):=by
 intro S D p hq
 refine (h.frame f2 S D p.swap hq).mono ?_
 rintro e w' ⟨v,P',N,rfl,⟨P1,rfl,hR⟩,S',D',p',rest⟩
 exact⟨v,_,N,rfl,⟨P1,rfl,hR⟩,S',D',p'.swap,rest⟩
theorem G1.call (h:G1 w0 w P Q) (c:GC prog f args w P Q R):Calls prog f args w fun e w'=>∃ v P' N,e = .returned v∧R w' v P' N∧G1 w0 w' P' (fun k=>Q k∨N k)∧(∀ k,N k→w.heap.size≤k)∧ae (fun k=>¬ Q k) w w':=by
 obtain⟨S,D,p,hq,h0,m0⟩:=h
 refine (c S D p (fun k hk=>(hq k hk).1)).mono ?_
 rintro e w' ⟨v,P',N,rfl,hR,S',D',p',m,s1,d1,n1⟩
 refine⟨v,P',N,rfl,hR,⟨S',D',p',fun k hk=>?_,fun k hk => .inl (h0 k hk),m0.trans m (fun _ _ x=>x) (fun k hk x=>(hq k (h0 k hk)).1 x)⟩,fun k hk=>(n1 k hk).1,m.mono (fun k _ hk x=>(hq k x).1 hk)⟩
 rcases hk with hk | hk
 ·have q:=hq k hk
  refine⟨fun x=>?_,fun x=>?_,Nat.lt_of_lt_of_le q.2.2 m.size⟩
  ·rcases s1 k x with z | z
   ·exact q.1 z
   ·omega
  ·rcases d1 k x with z | z
   ·exact q.2.1 z
   ·omega
 ·exact⟨(n1 k hk).2.2.1,(n1 k hk).2.2.2,(n1 k hk).2.1⟩
end
def GS (prog:Program) (f:FuncId) (args:Array Value) (w:World) (P:FP) (Q:Nat→Prop) (r:Value) (P':FP):Prop:=GC prog f args w P Q (fun _ v P1 N=>v=r∧P1=P'∧∀ k,¬ N k)
section
variable {prog:Program}{f:FuncId}{args:Array Value}{w0 w:World}{P P' P2:FP}{Q:Nat→Prop}{r:Value}
theorem GS.of (h:∀ S D,P w S D→(∀ k,Q k→¬ S k)→Calls prog f args w fun e w'=>e = .returned r∧∃ S' D',P' w' S' D'∧ae S w w'∧(∀ k,S' k→S k∨w.heap.size≤k)∧(∀ k,D' k→D k∨w.heap.size≤k)):GS prog f args w P Q r P':=fun S D p hq=>(h S D p hq).mono fun e w' ⟨he,S',D',a,b,c,d⟩=>⟨r,P',fun _=>False,he,⟨rfl,rfl,fun _ x=>x⟩,S',D',a,b,c,d,fun _ x=>x.elim⟩
theorem GS.frame (h:GS prog f args w P Q r P') (f2:gG P2):GS prog f args w (Star P P2) Q r (Star P' P2):=GC.mono (GC.frame h f2) (fun w' v P1 N ⟨_,h1,h2,h3,h4⟩=>⟨h2,by rw [h1,h3],h4⟩)
theorem GS.right (h:GS prog f args w P Q r P') (f2:gG P2):GS prog f args w (Star P2 P) Q r (Star P2 P'):=GC.mono (GC.right h f2) (fun w' v P1 N ⟨_,h1,h2,h3,h4⟩=>⟨h2,by rw [h1,h3],h4⟩)
theorem G1.calls (h:G1 w0 w P Q) (c:GS prog f args w P Q r P'):Calls prog f args w fun e w'=>e = .returned r∧G1 w0 w' P' Q∧ae (fun k=>¬ Q k) w w':=by
 refine (G1.call h c).mono ?_
 rintro e w' ⟨v,P1,N,rfl,⟨rfl,rfl,hN⟩,g,_,m⟩
 exact⟨rfl,g.less (fun k hk => .inl hk) (fun k hk=>h.q0 k hk),m⟩
end
section
variable {prog:Program}{f:FuncId}{args:Array Value}{w0 w:World}{P P' P2:FP}{Q:Nat→Prop}{mk:Value→Value}{xs:List UInt8}
end
end Go.Gl
namespace Go.Proofs.Ytglkmaalpammcaa
open Go.Gl Go.RowKit
theorem Try.infoU8:(Try.prog.info? 5).map (fun i=>(i.zero,i.size,i.bytes))=some (some (.int .u8 0),1,1):=by kernel_rfl
theorem jk {ops:Array Oper}{Q:Exit→Act→World→Prop}{rest:List Oper}{o:Oper}{a:Act}{w:World}{s x:Operand} (hgd:o.guard=none)
  (ho:o.op = .call { callee := .builtin .append,args:=#[s,x],argTypes:=#[77,77] })
  {v u:Value} (xs ys:List UInt8) (hown:Gl.Own w v xs) (hrd:Rd w u ys) (hs:a.eval s=v) (hx:a.eval x=u) (hlen:xs.length+ys.length≤140737488355328)
  (h:∀ v' w',Gl.Own w' v' (xs ++ ys)→ae (fK v) w w'→(v'.ownBlock=v.ownBlock∨aI w v')→wpList Try.prog ops Q rest (a.put o.dst v') w'):wpList Try.prog ops Q (o :: rest) a w:=by
 obtain⟨i,hi,hz,hs1,hb1⟩:=info_parts Try.infoU8
 refine lN hgd ho Try.underlying77 Try.underlying77 hi hz (by rw [hs1];rfl) hs (by rw [hs1];exact hown) hx (by rw [hs1];exact hrd) (EF _) (by simp only [maxLen];omega) (by rw [hb1];omega) ?_
 intro v' w' h1 h2 h3
 refine h v' w' ?_ h2 h3
 rw [hs1] at h1
 unfold Gl.Own
 rw [zD,List.length_append]
 exact h1
open Go.Gl Go.RowKit
theorem nY {a b:Bool} (h:a=b):Ending.returned (.bool a) = .returned (.bool b):=by rw [h]
open Go.Gl Go.RowKit
def aF:List UInt8→List UInt8→Bool
 | _,[]=>false
 | [],_ :: _=>true
 | x :: xs,y :: ys=>if x=y then aF xs ys else decide (x.toNat<y.toNat)
open Go.Gl
abbrev aN:=List UInt8 × List UInt8
abbrev Pgs:=List (List aN)
theorem fE:∀ (a:List UInt8),aF a a=false
 | []=>rfl
 | x :: a=>by simp only [aF,if_true];exact fE a
theorem fJ:∀ {a b c:List UInt8},aF a b=true→aF b c=true→aF a c=true
  | [], _, [], h, k => by
    rename_i b
    cases b with
    | nil=>simp [aF] at h
    | cons x b=>simp [aF] at k
  | [],_,_ :: _,h,k=>by simp [aF]
  | x :: a,[],_,h,k=>by simp [aF] at h
  | x :: a,y :: b,[],h,k=>by simp [aF] at k
  | x :: a, y :: b, z :: c, h, k => by
    simp only [aF,← UInt8.toNat_inj] at h k ⊢
    by_cases h1:x.toNat=y.toNat
    · rw [if_pos h1] at h
      by_cases h2:y.toNat=z.toNat
      · rw [if_pos h2] at k
        rw [if_pos (by omega)]
        exact fJ h k
      · rw [if_neg h2] at k
        rw [if_neg (by omega)]
        simp at k ⊢
        omega
    · rw [if_neg h1] at h
      by_cases h2:y.toNat=z.toNat
      · rw [if_neg (by omega)]
        simp at h ⊢
        omega
      · rw [if_neg h2] at k
        simp at h k
        rw [if_neg (by omega)]
        simp
        omega
theorem kP:∀ {a b:List UInt8},aF a b=false→aF b a=false→a=b
  | [],[],_,_=>rfl
  | [],_ :: _,h,_=>by simp [aF] at h
  | _ :: _,[],_,k=>by simp [aF] at k
  | x :: a, y :: b, h, k => by
    simp only [aF,← UInt8.toNat_inj] at h k
    by_cases h1:x.toNat=y.toNat
    · rw [if_pos h1] at h
      rw [if_pos h1.symm] at k
      rw [kP h k,UInt8.toNat_inj.1 h1]
    · rw [if_neg h1] at h
      rw [if_neg (fun e=>h1 e.symm)] at k
      simp at h k
      omega
theorem jl {a b:List UInt8} (h:aF a b=true):aF b a=false:=by
 cases hb:aF b a with
 | false=>rfl
 | true=>have:=fJ h hb;rw [fE] at this;cases this
def fO (l:List aN):Prop:=l.Pairwise (fun a b=>aF a.1 b.1=true)
structure fH (ps:Pgs):Prop where
 ris:fO ps.flatten
 ne:∀ p∈ps,p≠[]
 most:∀ p∈ps,p.length≤32
def iI (k:List UInt8):List aN→Bool
 | []=>false
 | e :: _ => !aF k e.1
def gq (ps:Pgs) (k:List UInt8):Nat:=(ps.takeWhile (iI k)).length - 1
def fV (l:List aN) (k:List UInt8):Nat:=(l.takeWhile (fun e=>aF e.1 k)).length
def iq (l:List aN) (i:Nat) (k:List UInt8):Bool:=match l[i]? with
 | some e=>decide (e.1=k)
 | none=>false
def aK (ps:Pgs) (k:List UInt8):Nat × Nat × Bool :=
 if ps=[] then (0,0,false) else (gq ps k,fV (ps.getD (gq ps k) []) k,iq (ps.getD (gq ps k) []) (fV (ps.getD (gq ps k) []) k) k)
def jZ (ps:Pgs) (k:List UInt8):Option (List UInt8) :=
 if (aK ps k).2.2 then some (((ps.getD (aK ps k).1 []).getD (aK ps k).2.1 ([],[])).2) else none
def jg (l:List aN) (i:Nat) (x:aN):List aN:=l.take i ++ x :: l.drop i
def lU (ps:Pgs) (k v:List UInt8):Pgs :=
 if ps=[] then [[(k,v)]]
 else if (aK ps k).2.2 then ps.set (aK ps k).1 ((ps.getD (aK ps k).1 []).set (aK ps k).2.1 (k,v))
 else if 32<(jg (ps.getD (aK ps k).1 []) (aK ps k).2.1 (k,v)).length then
  ps.take (aK ps k).1 ++ [(jg (ps.getD (aK ps k).1 []) (aK ps k).2.1 (k,v)).take 16,(jg (ps.getD (aK ps k).1 []) (aK ps k).2.1 (k,v)).drop 16] ++ ps.drop ((aK ps k).1+1)
 else ps.set (aK ps k).1 (jg (ps.getD (aK ps k).1 []) (aK ps k).2.1 (k,v))
def newP (ps:Pgs) (k:List UInt8):Bool := !(aK ps k).2.2
def gK (ps:Pgs) (p:Nat):Bool:=decide (p+1<ps.length) && decide ((ps.getD p []).length+(ps.getD (p+1) []).length≤16)
def jU (ps:Pgs) (p:Nat):Pgs:=ps.take p ++ [ps.getD p [] ++ ps.getD (p+1) []] ++ ps.drop (p+2)
def iV (ps:Pgs) (k:List UInt8):Pgs :=
 if (aK ps k).2.2 then
  if (ps.getD (aK ps k).1 []).length=1 then ps.eraseIdx (aK ps k).1
  else
   let qs:=ps.set (aK ps k).1 ((ps.getD (aK ps k).1 []).eraseIdx (aK ps k).2.1)
   if gK qs (aK ps k).1 then jU qs (aK ps k).1
   else if (aK ps k).1≠0∧gK qs ((aK ps k).1 - 1)=true then jU qs ((aK ps k).1 - 1)
   else qs
 else ps
theorem fO.split {l:List aN} (h:fO l) (k:List UInt8):l.takeWhile (fun e=>aF e.1 k)=l.filter (fun e=>aF e.1 k)∧l.dropWhile (fun e=>aF e.1 k)=l.filter (fun e => !aF e.1 k):=by
  induction l with
  | nil=>exact⟨rfl,rfl⟩
  | cons e l ih =>
    have h1:=List.pairwise_cons.1 h
    obtain⟨i1,i2⟩:=ih h1.2
    cases hk:aF e.1 k with
    | true =>
      simp only [List.takeWhile_cons,List.dropWhile_cons,List.filter_cons,hk,if_true,Bool.not_true,Bool.false_eq_true,if_false]
      exact⟨by rw [i1],i2⟩
    | false =>
      have hn:∀ x∈l,aF x.1 k=false:=fun x hx=>by
        cases hb:aF x.1 k with
        | false=>rfl
        | true=>have:=fJ (h1.1 x hx) hb;rw [hk] at this;cases this
      simp only [List.takeWhile_cons,List.dropWhile_cons,List.filter_cons,hk,Bool.false_eq_true,if_false,Bool.not_false,if_true]
      constructor
      · exact (List.filter_eq_nil_iff.2 (fun x hx=>by rw [hn x hx];simp)).symm
      · exact congrArg _ (List.filter_eq_self.2 (fun x hx=>by rw [hn x hx];rfl)).symm
theorem sN (l:List aN) (k:List UInt8):fV l k≤l.length:=List.Sublist.length_le (List.takeWhile_sublist _)
theorem pW (l:List aN) (k:List UInt8):l.take (fV l k)=l.takeWhile (fun e=>aF e.1 k):=by
 unfold fV
 rw [← List.prefix_iff_eq_take.1 (List.takeWhile_prefix _)]
theorem sZ (l:List aN) (k:List UInt8):l.drop (fV l k)=l.dropWhile (fun e=>aF e.1 k):=by
 have h:=List.takeWhile_append_dropWhile (p:=fun e:aN=>aF e.1 k) (l:=l)
 have h2:=List.take_append_drop (fV l k) l
 rw [pW,← h] at h2
 exact List.append_cancel_left (by rw [h] at h2;rw [h2,h])
open Go.Gl Go.RowKit
theorem uJ {P:Program}{w:World} (xs:List UInt8):∀ (g off:Nat) (acc:ByteArray),(∀ i (hi:i<xs.length),w.cell? ⟨g,off+i,none⟩=some (.int .u8 (xs[i]).toNat)) →
    (Extern.Bytes.loadBytes ⟨g,off,none⟩ xs.length acc).run P w = .ok ⟨acc.data ++ xs.toArray⟩ w:=by
  induction xs with
  | nil=>intro g off acc h;simp [Extern.Bytes.loadBytes]
  | cons x xs ih =>
    intro g off acc h
    have h0:=h 0 (by simp)
    rw [Nat.add_zero,List.getElem_cons_zero] at h0
    have h1:=ih g (off+1) (acc.push x) (fun i hi=>by
      have:=h (i+1) (by simp;omega)
      rw [List.getElem_cons_succ] at this
      rw [show off+1+i=off+(i+1) from by omega]
      exact this)
    have ha:(⟨g,off,none⟩:Addr).add 1=⟨g,off+1,none⟩:=Addr.add_lit ..
    have hx:((x.toNat:Int).toNat).toUInt8=x:=by
      rw [Int.toNat_natCast]
      exact UInt8.toNat_inj.1 (by simp)
    simp only [List.length_cons,Extern.Bytes.loadBytes,Sem.run_bind]
    have hl:(load ⟨g,off,none⟩).run P w = .ok (.int .u8 x.toNat) w:=by simp [load,Sem.run,h0]
    rw [hl]
    simp only [Result.andThen_ok,hx,ha,h1]
    simp [ByteArray.push]
theorem Rd.bytes {P:Program}{w:World}{v:Value}{xs:List UInt8} (h:Rd w v xs):(Extern.Bytes.bytesOf v).run P w = .ok ⟨xs.toArray⟩ w:=by
 rcases h.open with ⟨h0,rfl⟩ | ⟨g,off,cap,rfl,h1,h2,_,hc⟩
 ·rcases h0 with rfl | ⟨g,off,s,rfl⟩
  ·rfl
  ·rfl
 ·have:=uJ (P:=P) xs g off .empty hc
  simp only [Extern.Bytes.bytesOf]
  rw [this]
  exact congrArg (fun a=>Result.ok (ByteArray.mk a) w) (Array.empty_append (xs:=xs.toArray))
theorem wX {P:Program}{w:World}{x y:Value}{xs ys:List UInt8} (hx:Rd w x xs) (hy:Rd w y ys):(Extern.BytealgCompare.compare #[x,y]).run P w = .ok (.int .i64 (Lib.compareBytes xs ys)) w:=by
 have h1:=Rd.bytes (P:=P) hx
 have h2:=Rd.bytes (P:=P) hy
 change Sem.run P (do let a ← Extern.Bytes.bytesOf x;let b ← Extern.Bytes.bytesOf y;pure (goInt (Extern.BytealgCompare.cmp a b))) w=_
 simp only [Sem.run_bind,h1,h2,Result.andThen_ok,Sem.run_pure,Lib.cmp_eq]
 rfl
theorem mM:∀ (a b:List UInt8),Lib.compareBytes a b=if aF a b=true then -1 else if a=b then 0 else 1
  | [],[]=>rfl
  | [],_ :: _=>rfl
  | x :: a,[]=>by simp [Lib.compareBytes,aF]
  | x :: a, y :: b => by
    simp only [Lib.compareBytes,aF,List.cons.injEq]
    by_cases h1:x=y
    · subst h1
      simp only [UInt8.lt_irrefl,if_false,if_true,true_and]
      exact mM a b
    · simp only [decide_eq_true_eq,UInt8.lt_iff_toNat_lt,h1,false_and,if_false]
      have:x.toNat≠y.toNat:=fun e=>h1 (UInt8.toNat_inj.1 e)
      by_cases h2:x.toNat<y.toNat
      · simp [h2]
      · have:y.toNat<x.toNat:=by omega
        simp [h2,this]
theorem lJ {x y:Value}{xs ys:List UInt8}{w:World} (hx:Rd w x xs) (hy:Rd w y ys):Calls Try.prog 69 #[x,y] w fun e w'=>e = .returned (.int .i64 (Lib.compareBytes xs ys))∧w'=w:=by
 have HR:=lh (wX (P:=Try.prog) hx hy)
 obtain⟨ax,cx,rfl,_⟩:=hx.form
 obtain⟨ay,cy,rfl,_⟩:=hy.form
 clear hx hy
 go_enter Try.func69,Try.ntmps69
 go_wp2
 rw [run_callFunc_extern Try.func103 (by kernel_rfl) (by kernel_rfl) (by kernel_rfl) (e:=Extern.BytealgCompare.compare) (by kernel_rfl),HR.out]
 simp only [Result.andThen]
 rw [Oper.upon_value]
 go_wp2
 go_ret
 exact⟨rfl,rfl⟩
open Go.Gl Go.RowKit
structure EV where
 kv:Value
 vv:Value
 k:List UInt8
 v:List UInt8
def EV.ent (e:EV):aN:=(e.k,e.v)
def dn (es:List EV):List Value:=es.flatMap (fun e=>[e.kv,e.vv])
theorem oU (es:List EV):(dn es).length=es.length*2:=by
 induction es with
 | nil=>rfl
 | cons e es ih=>simp only [dn,List.flatMap_cons,List.length_append,List.length_cons,List.length_nil] at ih ⊢;omega
theorem kV (a b:List EV):dn (a ++ b)=dn a ++ dn b:=by simp [dn]
theorem jT (e:EV) (b:List EV):dn (e :: b)=e.kv :: e.vv :: dn b:=by simp [dn]
theorem uw (es:List EV) (i:Nat) (h:i<es.length):(dn es)[i*2]?=some (es[i]).kv∧(dn es)[i*2+1]?=some (es[i]).vv:=by
  induction es generalizing i with
  | nil=>simp at h
  | cons e es ih =>
    rw [jT]
    rcases i with _ | i
    · exact⟨rfl,rfl⟩
    · have:=ih i (by simpa using h)
      rw [show (i+1)*2=i*2+1+1 from by omega]
      simpa using this
structure E1 (w:World) (e:EV):Prop where
 k:Rd w e.kv e.k
 v:Rd w e.vv e.v
 lk:e.k.length≤1000000
 lv:e.v.length≤1000000
theorem E1.keep {w w':World}{e:EV}{T:Nat→Prop} (h:E1 w e) (hm:ae T w w') (ht:∀ k,(e.kv.ownBlock=some k∨e.vv.ownBlock=some k)→¬ T k):E1 w' e:=⟨h.k.keep hm (fun k hk=>ht k (.inl hk)),h.v.keep hm (fun k hk=>ht k (.inr hk)),h.lk,h.lv⟩
def xH (w:World) (es:List EV):Prop:=∀ e∈es,E1 w e
theorem xH.keep {w w':World}{es:List EV} (h:xH w es) (hm:ae aj w w'):xH w' es:=fun e he=>(h e he).keep hm (fun _ _ x=>x)
structure uG (w:World) (v:Value) (es:List EV):Prop where
 row:gX w 2 v es.length (dn es)
 ents:xH w es
theorem uG.keep {w w':World}{v:Value}{es:List EV} (h:uG w v es) (hm:ae aj w w'):uG w' v es:=⟨gX.keep h.row hm (fun _ _ x=>x),h.ents.keep hm⟩
theorem uG.open {w:World}{v:Value}{es:List EV} (h:uG w v es):(es=[]∧∃ a,v = .slice a 0 0)∨∃ g off cap,v = .slice (some ⟨g,off,none⟩) es.length cap∧es.length≤cap∧cap≤maxLen∧(es.length=0∨g<w.heap.size) ∧
  ∀ i (hi:i<es.length),w.cell? ⟨g,off+i*2,none⟩=some (es[i]).kv∧w.cell? ⟨g,off+i*2+1,none⟩=some (es[i]).vv:=by
 rcases h.row.2 with ⟨h0,hn⟩ | ⟨g,off,cap,hv,h1,h2,hg,hc⟩
 ·exact .inl ⟨List.eq_nil_of_length_eq_zero hn,h0.form⟩
 ·refine .inr ⟨g,off,cap,hv,h1,h2,hg,fun i hi=>?_⟩
  obtain⟨k1,k2⟩:=uw es i hi
  exact⟨hc _ _ k1,by rw [show off+i*2+1=off+(i*2+1) from by omega];exact hc _ _ k2⟩
def ents (es:List EV):List aN:=es.map EV.ent
theorem dA (es:List EV):(ents es).length=es.length:=by simp [ents]
theorem fO.below {l:List aN} (h:fO l) (k:List UInt8) (i:Nat) (hi:i<l.length):aF (l[i]).1 k=decide (i<fV l k):=by
 have h1:=pW l k
 have h2:=sZ l k
 by_cases hlt:i<fV l k
 ·have hm:l[i]∈l.takeWhile (fun e=>aF e.1 k):=by
   rw [← h1,List.mem_take_iff_getElem]
   exact⟨i,by omega,rfl⟩
  rw [(h.split k).1] at hm
  have:=(List.mem_filter.1 hm).2
  simp only [hlt,decide_true]
  exact this
 ·have hm:l[i]∈l.dropWhile (fun e=>aF e.1 k):=by
   rw [← h2,List.mem_drop_iff_getElem]
   exact⟨i - fV l k,by omega,by congr 1;omega⟩
  rw [(h.split k).2] at hm
  have:=(List.mem_filter.1 hm).2
  simp only [hlt,decide_false]
  simpa using this
theorem rH {w:World}{u v q:Value}{xs ys:List UInt8} (hu:Rd w u xs) (hq:Rd w q ys):Calls Try.prog 132 #[.agg #[u,v],q] w fun e w'=>e = .returned (.int .i64 (Lib.compareBytes xs ys))∧ae aj w w':=by
 have hb:=bC w (.cells #[u,v] 131)
 have m:=(ae.refl aj w).alloc (.cells #[u,v] 131)
 have P:=lh (And.intro hb m)
 have HU:=lh hu
 have HQ:=lh hq
 clear hu hq hb m
 obtain⟨au,cu,rfl,_⟩:=HU.out.form
 go_enter Try.func132,Try.ntmps132
 go_wp2_with fail
 generalize World.alloc w _=w1 at *
 refine (lJ (HU.out.keep P.out.2 (fun _ _ x=>x)) (HQ.out.keep P.out.2 (fun _ _ x=>x))).mono ?_
 rintro e w2 ⟨rfl,rfl⟩
 go_wp2
 go_ret
 exact⟨rfl,P.out.2⟩
theorem vM (a b:List UInt8):decide (Lib.compareBytes a b<0)=aF a b:=by
 rw [mM]
 cases aF a b with
 | true=>rfl
 | false=>by_cases h:a=b <;> simp [h]
theorem A7 (a b:List UInt8):(Lib.compareBytes a b == 0)=decide (a=b):=by
  rw [mM]
  cases h:aF a b with
  | true =>
    have:a≠b:=fun e=>by rw [e,fE] at h;cases h
    simp [this]
  | false=>by_cases h:a=b <;> simp [h]
theorem Au (a b:List UInt8) : -1≤Lib.compareBytes a b∧Lib.compareBytes a b≤1:=by
 rw [mM]
 split
 ·omega
 split <;> omega
theorem zU {a:Int}{b c:Bool} (h:b=c):Ending.returned (.tuple #[.int .i64 a,.bool b]) = .returned (.tuple #[.int .i64 a,.bool c]):=by rw [h]
def BsRel (w:World) (P n:Nat) (a b:Value) (wr:World):Prop:=∃ lo hi:Nat,a = .int .i64 lo∧b = .int .i64 hi∧lo≤P∧P≤hi∧hi≤n∧ae aj w wr
theorem yT {w:World}{l q:Value}{es:List EV}{ys:List UInt8} (hl:uG w l es) (hq:Rd w q ys) (hr:fO (ents es)) (hn:es.length≤1000000) :
  Calls Try.prog 131 #[l,q,.func (.func 132) #[] #[]] w fun e w'=>e = .returned (.tuple #[.int .i64 (fV (ents es) ys),.bool (iq (ents es) (fV (ents es) ys) ys)])∧ae aj w w':=by
 have hb:∀ i (hi:i<es.length),aF (es[i]).k ys=decide (i<fV (ents es) ys):=fun i hi=>by
  have:=hr.below ys i (by rw [dA];exact hi)
  simpa [ents,EV.ent] using this
 have hP:fV (ents es) ys≤es.length:=by have:=sN (ents es) ys;rw [dA] at this;exact this
 have hat:iq (ents es) (fV (ents es) ys) ys=if h:fV (ents es) ys<es.length then decide ((es[fV (ents es) ys]).k=ys) else false:=by
  unfold iq ents
  by_cases h:fV (es.map EV.ent) ys<es.length
  ·rw [dif_pos h]
   simp [h,EV.ent]
  ·rw [dif_neg h,List.getElem?_eq_none (by simpa using h)]
 generalize fV (ents es) ys=P at *
 generalize iq (ents es) P ys=B at *
 obtain⟨al,cl,rfl,_⟩:=hl.row.form
 have HL:=lh hl
 have HQ:=lh hq
 have HB:=lh hb
 have HA:=lh hat
 obtain⟨n,hN⟩:∃ n,es.length=n:=⟨_,rfl⟩
 have HN:=lh hN
 rw [hN] at hn hP ⊢
 clear hl hq hb hat hr hN
 go_enter Try.func131,Try.ntmps131
 go_wp2
 go_loopw [9,10] (fun a b wr=>BsRel w P n a b wr) (fun a b _=>(intOf b - intOf a).toNat)
 case atStart=>exact⟨0,n,rfl,rfl,by omega,hP,by omega,ae.refl _ _⟩
 case round =>
  obtain⟨lo,hi,rfl,rfl,h1,h2,h3,hm⟩:=hrel
  have M:=lh hm
  clear hm
  by_cases hlt:lo<hi
  ·obtain⟨mid,hmid⟩:∃ mid:Nat,mid=(lo+hi) / 2:=⟨_,rfl⟩
   have hE:((lo:Int)+(hi:Int)) / 2=(mid:Int):=by omega
   have l1:mid<n:=by omega
   have l2:lo≤mid:=by omega
   have l3:mid<hi:=by omega
   have lm:mid<es.length:=by rw [HN.out];exact l1
   have hp:=HL.out.keep M.out
   rcases hp.open with ⟨h0,_⟩ | ⟨g,off,cap,hv,k1,k2,k3,hc⟩
   ·rw [h0] at lm;simp at lm
   obtain⟨rfl,rfl⟩:al=some ⟨g,off,none⟩∧cl=cap:=by simpa using hv
   obtain⟨c1,c2⟩:=hc mid lm
   have he:=hp.ents es[mid] (List.getElem_mem lm)
   have hbm:=HB.out mid lm
   have hz:=vM (es[mid]).k ys
   rw [hbm] at hz
   have hbd:=Au (es[mid]).k ys
   have C:=lh (rH (v:=(es[mid]).vv) he.k (HQ.out.keep M.out (fun _ _ x=>x)))
   generalize Lib.compareBytes (es[mid]).k ys=c at *
   generalize (es[mid]).kv=mk at *
   generalize (es[mid]).vv=mv at *
   clear hmid hp hv hc he k1 k3 hbm
   by_cases hc0:c<0
   ·have hmp:mid<P:=by rw [decide_eq_true hc0] at hz;simpa using hz.symm
    clear hz
    go_wp2_with (go_at_call 132;refine C.out.mono ?_;rintro e w2 ⟨rfl,m2⟩)
    go_roundw
    case rel=>exact⟨mid+1,hi,by go_num,rfl,by omega,h2,h3,M.out.then0 m2⟩
    case measure=>simp [intOf];omega
   ·have hmp:¬ mid<P:=by rw [decide_eq_false hc0] at hz;simpa using hz.symm
    clear hz
    go_wp2_with (go_at_call 132;refine C.out.mono ?_;rintro e w2 ⟨rfl,m2⟩)
    go_roundw
    case rel=>exact⟨lo,mid,rfl,rfl,h1,by omega,by omega,M.out.then0 m2⟩
    case measure=>simp [intOf];omega
  ·obtain rfl:lo=hi:=by omega
   obtain rfl:lo=P:=by omega
   have hB:=HA.out
   by_cases hln:lo<n
   ·have lm:lo<es.length:=by rw [HN.out];exact hln
    rw [dif_pos lm,← A7] at hB
    have hp:=HL.out.keep M.out
    rcases hp.open with ⟨h0,_⟩ | ⟨g,off,cap,hv,k1,k2,k3,hc⟩
    ·rw [h0] at lm;simp at lm
    obtain⟨rfl,rfl⟩:al=some ⟨g,off,none⟩∧cl=cap:=by simpa using hv
    obtain⟨c1,c2⟩:=hc lo lm
    have he:=hp.ents es[lo] (List.getElem_mem lm)
    have hbd:=Au (es[lo]).k ys
    have C:=lh (rH (v:=(es[lo]).vv) he.k (HQ.out.keep M.out (fun _ _ x=>x)))
    generalize Lib.compareBytes (es[lo]).k ys=c at *
    generalize (es[lo]).kv=mk at *
    generalize (es[lo]).vv=mv at *
    have HBB:=lh hB
    clear hp hv hc he k1 k3 hB
    go_wp2_with (go_at_call 132;refine C.out.mono ?_;rintro e w2 ⟨rfl,m2⟩)
    all_goals go_ret2
    all_goals exact⟨zU HBB.out.symm,M.out.then0 m2⟩
   ·rw [dif_neg (by rw [HN.out];exact hln)] at hB
    have HBB:=lh hB
    clear hB
    go_wp2_with fail
    go_ret2
    exact⟨zU HBB.out.symm,M.out⟩
theorem uf {w:World}{l q:Value}{es:List EV}{ys:List UInt8} (hl:uG w l es) (hq:Rd w q ys) (hr:fO (ents es)) (hn:es.length≤1000000) :
  Calls Try.prog 102 #[l,q] w fun e w'=>e = .returned (.tuple #[.int .i64 (fV (ents es) ys),.bool (iq (ents es) (fV (ents es) ys) ys)])∧ae aj w w':=by
 have C:=lh (yT hl hq hr hn)
 obtain⟨al,cl,rfl,_⟩:=hl.row.form
 obtain⟨aq,cq,rfl,_⟩:=hq.form
 clear hl hq hr
 go_enter Try.func102,Try.ntmps102
 go_wp2_with fail
 refine C.out.mono ?_
 rintro e w2 ⟨rfl,m2⟩
 go_wp2
 go_ret2
 exact⟨rfl,m2⟩
end Go.Proofs.Ytglkmaalpammcaa
namespace Go.Gl
open Go.RowKit
def tl:Nat→Code→Code
 | 0,c=>c
 | k+1,.seq _ b=>tl k b
 | _,c=>c
def Ec (f:Func):Code:=f.body.getD .skip
theorem gJ {P:Program}{Q:Exit→Act→World→Prop}{a:Act}{w:World}{c d:Code} (e:c=d) (h:d.wp P Q a w):c.wp P Q a w:=e▸h
end Go.Gl
namespace Go.Proofs.Ytglkmaalpammcaa
open Go.Gl Go.RowKit
structure PV where
 pv:Value
 es:List EV
def aB (R:List PV):Pgs:=R.map (fun p=>ents p.es)
theorem dN (R:List PV):(aB R).length=R.length:=by simp [aB]
def cnt (ps:Pgs):Nat:=ps.flatten.length
def MS (g:Nat) (vo:Value) (R:List PV) (k:Nat):Prop:=k=g∨vo.ownBlock=some k∨∃ p∈R,p.pv.ownBlock=some k
def MD (R:List PV) (k:Nat):Prop:=∃ p∈R,∃ e∈p.es,e.kv.ownBlock=some k∨e.vv.ownBlock=some k
structure PM (w:World) (g:Nat) (vo:Value) (R:List PV):Prop where
 hg:w.heap[g]?=some (.cells #[vo,.int .i64 (cnt (aB R):Nat)] 118 (0,0))
 row:aU w 153 1 vo R.length (R.map (·.pv))
 pg:∀ p∈R,aU w 131 2 p.pv p.es.length (dn p.es)
 ents:∀ p∈R,xH w p.es
 sep1:vo.ownBlock≠some g
 sep2:∀ p∈R,p.pv.ownBlock≠some g∧∀ k,p.pv.ownBlock=some k→vo.ownBlock≠some k
 sep3:R.Pairwise (fun p q=>∀ k,p.pv.ownBlock=some k→q.pv.ownBlock≠some k)
 data:∀ k,MD R k→¬ MS g vo R k
 dlt:∀ k,MD R k→k<w.heap.size
theorem PM.keep {w w':World}{g:Nat}{vo:Value}{R:List PV}{T:Nat→Prop} (h:PM w g vo R) (hm:ae T w w') (h1:∀ k,MS g vo R k→¬ T k) (h2:∀ k,MD R k→¬ T k):PM w' g vo R where
 hg:=hm.heap h.hg (h1 g (.inl rfl))
 row:=h.row.keep hm (fun k hk=>h1 k (.inr (.inl hk)))
 pg:=fun p hp=>(h.pg p hp).keep hm (fun k hk=>h1 k (.inr (.inr ⟨p,hp,hk⟩)))
 ents:=fun p hp e he=>(h.ents p hp e he).keep hm (fun k hk=>h2 k ⟨p,hp,e,he,hk⟩)
 sep1:=h.sep1
 sep2:=h.sep2
 sep3:=h.sep3
 data:=h.data
 dlt:=fun k hk=>Nat.lt_of_lt_of_le (h.dlt k hk) hm.size
theorem PM.keep0 {w w':World}{g:Nat}{vo:Value}{R:List PV} (h:PM w g vo R) (hm:ae aj w w'):PM w' g vo R:=h.keep hm (fun _ _ x=>x) (fun _ _ x=>x)
theorem PM.lt {w:World}{g:Nat}{vo:Value}{R:List PV} (h:PM w g vo R):∀ k,MS g vo R k→k<w.heap.size:=by
 rintro k (rfl | hk | ⟨p,hp,hk⟩)
 ·exact lt_of_heap h.hg
 ·exact h.row.lt k hk
 ·exact (h.pg p hp).lt k hk
theorem PM.page {w:World}{g:Nat}{vo:Value}{R:List PV} (h:PM w g vo R) {p:PV} (hp:p∈R):uG w p.pv p.es:=⟨aU.rd (h.pg p hp),h.ents p hp⟩
theorem PM.open {w:World}{g:Nat}{vo:Value}{R:List PV} (h:PM w g vo R):(R=[]∧vo = .slice none 0 0)∨∃ b off cap,vo = .slice (some ⟨b,off,none⟩) R.length cap∧R.length≤cap∧cap≤maxLen ∧
  ∀ i (hi:i<R.length),w.cell? ⟨b,off+i,none⟩=some (R[i]).pv:=by
 rcases h.row.2 with ⟨h0,hn⟩ | ⟨b,off,cap,cur,hv,hb,h1,h2,_,hc⟩
 ·exact .inl ⟨List.eq_nil_of_length_eq_zero hn,h0⟩
 ·refine .inr ⟨b,off,cap,hv,h1,h2,fun i hi=>?_⟩
  exact (ai hb _).trans (hc i _ (by simp [hi]))
def tw (ps:Pgs) (k:List UInt8):Nat:=(ps.takeWhile (iI k)).length
theorem nU (ps:Pgs) (k:List UInt8):gq ps k=tw ps k - 1:=rfl
theorem yC (ps:Pgs) (k:List UInt8):tw ps k≤ps.length:=List.Sublist.length_le (List.takeWhile_sublist _)
theorem uH {ps:Pgs} (h:fO ps.flatten) {i j:Nat} (hij:i<j) (hj:j<ps.length):∀ a∈ps[i],∀ b∈ps[j],aF a.1 b.1=true:=by
 unfold fO at h
 rw [List.pairwise_flatten] at h
 exact List.pairwise_iff_getElem.1 h.2 i j (by omega) hj hij
theorem sG {ps:Pgs} (h:fO ps.flatten) (hne:∀ p∈ps,p≠[]) (k:List UInt8) (i:Nat) (hi:i<ps.length):iI k ps[i]=decide (i<tw ps k):=by
  have key:∀ (ps:Pgs),fO ps.flatten→(∀ p∈ps,p≠[])→∀ i (hi:i<ps.length),iI k ps[i]=decide (i<tw ps k):=by
    intro ps
    induction ps with
    | nil=>intro _ _ i hi;simp at hi
    | cons p ps ih =>
      intro h hne i hi
      have hs:fO ps.flatten:=by
        unfold fO at h ⊢
        rw [List.flatten_cons,List.pairwise_append] at h
        exact h.2.1
      have ih':=ih hs (fun q hq=>hne q (List.mem_cons_of_mem _ hq))
      cases hp:iI k p with
      | true =>
        have ht:tw (p :: ps) k=tw ps k+1:=by unfold tw;rw [List.takeWhile_cons,hp];simp
        rcases i with _ | i
        · rw [List.getElem_cons_zero,hp,ht];simp
        · rw [List.getElem_cons_succ,ih' i (by simpa using hi),ht];simp
      | false =>
        have ht:tw (p :: ps) k=0:=by unfold tw;rw [List.takeWhile_cons,hp];simp
        rcases i with _ | i
        · rw [List.getElem_cons_zero,hp,ht];simp
        · rw [ht]
          have hi':i+1<(p :: ps).length:=hi
          have hq:=uH h (i:=0) (j:=i+1) (by omega) hi'
          rw [List.getElem_cons_zero] at hq
          have hn1:=hne _ (List.getElem_mem hi')
          have hn0:=hne p (List.mem_cons_self ..)
          rw [show decide (i+1<0)=false from by simp]
          cases p with
          | nil=>exact absurd rfl hn0
          | cons a p =>
            cases hqq:(((a :: p) :: ps)[i+1]'hi') with
            | nil=>exact absurd hqq hn1
            | cons b q =>
              have hl:=hq a (List.mem_cons_self ..) b (by rw [hqq];exact List.mem_cons_self ..)
              simp only [iI,Bool.not_eq_false'] at hp ⊢
              exact fJ hp hl
  exact key ps h hne i hi
theorem xU {a b:Int} (h:a=b):Ending.returned (.int .i64 a) = .returned (.int .i64 b):=by rw [h]
def PgRel (w:World) (P n:Nat) (a b:Value) (wr:World):Prop:=∃ lo hi:Nat,a = .int .i64 lo∧b = .int .i64 hi∧lo≤P∧P≤hi∧hi≤n∧ae aj w wr
theorem rC {w:World}{g:Nat}{vo q:Value}{R:List PV}{ys:List UInt8} (hm:PM w g vo R) (hq:Rd w q ys) (ok:fH (aB R)) (hn:R.length≤1000000) :
    Calls Try.prog 101 #[.pointer (some ⟨g,0,none⟩),q] w fun e w'=>e = .returned (.int .i64 (gq (aB R) ys:Nat))∧ae aj w w':=by
  have hb:∀ i (hi:i<R.length),iI ys (ents (R[i]).es)=decide (i<tw (aB R) ys):=fun i hi=>by
    have:=sG ok.ris ok.ne ys i (by rw [dN];exact hi)
    simpa [aB] using this
  have hP:tw (aB R) ys≤R.length:=by have:=yC (aB R) ys;rw [dN] at this;exact this
  rw [nU]
  generalize tw (aB R) ys=P at *
  have hne:∀ i (hi:i<R.length),(R[i]).es≠[]:=fun i hi=>by
    have:=ok.ne (ents (R[i]).es) (List.mem_map_of_mem (f:=fun p=>ents p.es) (List.getElem_mem hi))
    intro h
    rw [h] at this
    exact this rfl
  have hgt:∀ i (hi:i<R.length),(∀ e es,(R[i]).es=e :: es→e.k=ys→P=i+1):=fun i hi e es h1 h2=>by
    have hi':i<(aB R).length:=by rw [dN];exact hi
    have h3:=hb i hi
    rw [h1] at h3
    have h4:iI ys (ents (e :: es))=true:=by
      show (!aF ys e.k)=true
      rw [h2,fE];rfl
    rw [h4] at h3
    have h5:i<P:=by simpa using h3.symm
    by_cases hj:i+1<R.length
    · have h6:=hb (i+1) hj
      have hj':i+1<(aB R).length:=by rw [dN];exact hj
      have h7:=uH ok.ris (i:=i) (j:=i+1) (by omega) hj'
      have h8:(aB R)[i]=ents (e :: es):=by simp [aB,h1]
      have h9:(aB R)[i+1]=ents (R[i+1]).es:=by simp [aB]
      rw [h8,h9] at h7
      have h10:=hne (i+1) hj
      cases h11:(R[i+1]).es with
      | nil=>exact absurd h11 h10
      | cons e' es' =>
        rw [h11] at h6 h7
        have h12:=h7 e.ent (List.mem_cons_self ..) e'.ent (List.mem_cons_self ..)
        have h13:iI ys (ents (e' :: es'))=false:=by
          show (!aF ys e'.k)=false
          have:aF ys e'.k=true:=by rw [← h2];exact h12
          rw [this];rfl
        rw [h13] at h6
        have:¬ i+1<P:=by simpa using h6.symm
        omega
    · omega
  obtain⟨vo',cap,hvo,_⟩:=(aU.rd hm.row).form
  have HM:=lh hm
  have HQ:=lh hq
  have HB:=lh hb
  have HE:=lh hne
  have HG:=lh hgt
  obtain⟨n,hN⟩:∃ n,R.length=n:=⟨_,rfl⟩
  have HN:=lh hN
  have c0:=ai hm.hg 0
  rw [hvo] at c0
  rw [hN] at hn hP c0
  clear hm hq hb hne hgt ok hN
  go_enter Try.func101,Try.ntmps101
  go_wp2
  go_step3
  go_wp2
  go_quiet (fail)
  go_wp2
  go_step3
  go_wp2
  go_loopw [5,6] (fun a b wr=>PgRel w P n a b wr) (fun a b _=>(intOf b - intOf a).toNat)
  case atStart=>exact⟨0,n,rfl,rfl,by omega,hP,by omega,Quiet.mods ⟨_,rfl⟩ _⟩
  case round =>
    obtain⟨lo,hi,rfl,rfl,h1,h2,h3,hm⟩:=hrel
    have M:=lh hm
    clear hm
    by_cases hlt:lo<hi
    · obtain⟨mid,hmid⟩:∃ mid:Nat,mid=(lo+hi) / 2:=⟨_,rfl⟩
      have hE:((lo:Int)+(hi:Int)) / 2=(mid:Int):=by omega
      have l1:mid<n:=by omega
      have l2:lo≤mid:=by omega
      have l3:mid<hi:=by omega
      have lm:mid<R.length:=by rw [HN.out];exact l1
      have hm:=HM.out.keep0 M.out
      have c1:=ai hm.hg 0
      rw [hvo,HN.out] at c1
      rcases hm.open with ⟨h0,_⟩ | ⟨b,off,cp,hv,k1,k2,hc⟩
      · rw [h0] at lm;simp at lm
      obtain⟨rfl,rfl⟩:vo'=some ⟨b,off,none⟩∧cap=cp:=by simpa using hvo.symm.trans hv
      have c2:=hc mid lm
      have hp:=hm.page (List.getElem_mem lm)
      have he:=HE.out mid lm
      have hbm:=HB.out mid lm
      have hgm:=HG.out mid lm
      rw [HN.out] at k1
      generalize (R[mid]).pv=pv at *
      generalize (R[mid]).es=es at *
      cases es with
      | nil=>exact absurd rfl he
      | cons e es =>
      rcases hp.open with ⟨h0,_⟩ | ⟨pb,po,pc,hv2,k3,k4,k5,hc2⟩
      · simp at h0
      subst hv2
      obtain⟨c3,_⟩:=hc2 0 (by simp)
      rw [Nat.zero_mul,Nat.add_zero,List.getElem_cons_zero] at c3
      have hek:=(hp.ents e (List.mem_cons_self ..)).k
      have hcl:(0:Int)<((e :: es).length:Int):=by rw [List.length_cons];omega
      have C:=lh (lJ hek (HQ.out.keep M.out (fun _ _ x=>x)))
      have hgm':=hgm e es rfl
      have hz:=mM e.k ys
      obtain⟨ak,ck,hak,_⟩:=hek.form
      rw [hak] at C c3
      have hbl:iI ys (ents (e :: es)) = !aF ys e.k:=rfl
      rw [hbl] at hbm
      generalize Lib.compareBytes e.k ys=c at *
      clear hmid hm hv hc hp he hgm hc2 hek hbl hvo k3 k4 k5
      generalize (e :: es).length=m at *
      by_cases hl1:aF e.k ys=true
      · rw [if_pos hl1] at hz
        rw [jl hl1] at hbm
        have hmp:mid<P:=by simpa using hbm.symm
        subst hz
        clear hbm hgm' hl1
        go_wp2_with (refine C.out.mono ?_;rintro e2 w2 ⟨rfl,rfl⟩)
        go_roundw
        case rel=>exact⟨mid+1,hi,by go_num,rfl,by omega,h2,h3,M.out⟩
        case measure=>simp [intOf];omega
      · rw [if_neg hl1] at hz
        by_cases he2:e.k=ys
        · rw [if_pos he2] at hz
          have hP1:=hgm' he2
          subst hz
          clear hbm hgm' hl1 he2
          go_wp2_with (refine C.out.mono ?_;rintro e2 w2 ⟨rfl,rfl⟩)
          rw [Exit.noGoto_ret]
          go_ret
          exact⟨xU (by omega),M.out⟩
        · rw [if_neg he2] at hz
          have hmp:¬ mid<P:=by
            have h5:aF ys e.k=true:=by
              cases h6:aF ys e.k with
              | true=>rfl
              | false=>exact absurd (kP (by simpa using hl1) h6) he2
            rw [h5] at hbm
            simpa using hbm.symm
          subst hz
          clear hbm hgm' hl1 he2
          go_wp2_with (refine C.out.mono ?_;rintro e2 w2 ⟨rfl,rfl⟩)
          go_roundw
          case rel=>exact⟨lo,mid,rfl,rfl,h1,by omega,by omega,M.out⟩
          case measure=>simp [intOf];omega
    · obtain rfl:lo=hi:=by omega
      obtain rfl:lo=P:=by omega
      go_wp2_with fail
      all_goals (try rw [Exit.noGoto_ret])
      all_goals go_ret
      all_goals exact⟨xU (by omega),M.out⟩
open Go.Gl Go.RowKit
open Go.Gl Go.RowKit
theorem fZ {v:Value}{xs:List UInt8}{w:World} (hv:Rd w v xs) (hl:xs.length≤140737488355328) :
  Calls Try.prog 66 #[v] w fun e w'=>∃ v',e = .returned v'∧Gl.Own w' v' xs∧ae aj w w'∧aI w v':=by
 go_enter Try.func66,Try.ntmps66
 go_wp2_with (at_builtin;refine stop ?_)
 unfold Stop
 refine jk rfl rfl [] xs (Gl.Own.nil _) hv rfl rfl (by simpa using hl) ?_
 intro v' w' h1 h2 h3
 go_wp2
 go_ret
 refine⟨_,rfl,h1,h2.mono (fun i _ h=>by simp [fK,Value.ownBlock] at h),fun k hk=>?_⟩
 rcases h3 with h3 | h3
 ·exact absurd (h3.symm.trans hk) (by simp [Value.ownBlock])
 ·exact h3 k hk
theorem DT (w:World):Calls Try.prog 29 #[] w fun e w'=>∃ g,e = .returned (.pointer (some ⟨g,0,none⟩))∧PM w' g (.slice none 0 0) []∧ae aj w w'∧w.heap.size≤g:=by
 have hb:=bC w (.cells #[.slice none 0 0,.int .i64 0] 118)
 go_enter Try.func29,Try.ntmps29
 go_wp2
 go_ret
 refine⟨_,rfl,⟨hb,⟨rfl,.inl ⟨rfl,rfl⟩⟩,fun p hp=>(by cases hp),fun p hp=>(by cases hp),by simp [Value.ownBlock],fun p hp=>(by cases hp),List.Pairwise.nil,fun k ⟨p,hp,_⟩=>(by cases hp),fun k ⟨p,hp,_⟩=>(by cases hp)⟩,(ae.refl _ _).alloc _,Nat.le_refl _⟩
theorem sO {ps:Pgs} (h:ps≠[]) (k:List UInt8):gq ps k<ps.length:=by
 have h1:=yC ps k
 rw [nU]
 have:0<ps.length:=List.length_pos_iff.2 h
 omega
theorem oK {ps:Pgs} (h:ps≠[]) (k:List UInt8):aK ps k=(gq ps k,fV (ps.getD (gq ps k) []) k,iq (ps.getD (gq ps k) []) (fV (ps.getD (gq ps k) []) k) k):=if_neg h
theorem fH.page {ps:Pgs} (h:fH ps) {i:Nat} (hi:i<ps.length):fO ps[i]:=by
 have:=h.ris
 unfold fO at this ⊢
 rw [List.pairwise_flatten] at this
 exact this.1 _ (List.getElem_mem hi)
theorem oJ {w:World}{g:Nat}{vo q:Value}{R:List PV}{ys:List UInt8} (hm:PM w g vo R) (hq:Rd w q ys) (ok:fH (aB R)) (hn:R.length≤1000000) :
  Calls Try.prog 89 #[.pointer (some ⟨g,0,none⟩),q] w fun e w'=>e = .returned (.tuple #[.int .i64 ((aK (aB R) ys).1:Nat),.int .i64 ((aK (aB R) ys).2.1:Nat),.bool (aK (aB R) ys).2.2])∧ae aj w w':=by
 obtain⟨vo',cap,hvo,_⟩:=(aU.rd hm.row).form
 have c0:=ai hm.hg 0
 rw [hvo] at c0
 obtain⟨aq,cq,hqv,_⟩:=hq.form
 subst hqv
 by_cases h0:R=[]
 ·subst h0
  rw [show aK (aB []) ys=(0,0,false) from rfl]
  clear hm hq
  go_enter Try.func89,Try.ntmps89
  go_wp2
  go_ret3
  exact⟨rfl,ae.refl _ _⟩
 ·have hne:aB R≠[]:=fun h=>h0 (by cases R with | nil=>rfl | cons a b=>simp [aB] at h)
  have hlt:=sO hne ys
  have hok:=ok.page hlt
  have hmost:=ok.most _ (List.getElem_mem hlt)
  rw [oK hne]
  have hl0:(0:Int)<(R.length:Int):=by have:=List.length_pos_iff.2 h0;omega
  have hz:((R.length:Int) == 0)=false:=by simp;omega
  have C:=lh (rC hm hq ok hn)
  generalize gq (aB R) ys=p at *
  have hlt':p<R.length:=by rw [← dN];exact hlt
  have hge:(aB R).getD p []=ents (R[p]).es:=by simp [aB,hlt']
  have hge2:(aB R)[p]=ents (R[p]).es:=by simp [aB]
  rw [hge]
  rw [hge2] at hok hmost
  rw [dA] at hmost
  rcases hm.open with ⟨h1,_⟩ | ⟨b,off,cp,hv,k1,k2,hc⟩
  ·exact absurd h1 h0
  obtain⟨rfl,rfl⟩:vo'=some ⟨b,off,none⟩∧cap=cp:=by simpa using hvo.symm.trans hv
  have HM:=lh hm
  have HQ:=lh hq
  obtain⟨ap,cpp,hpv,_⟩:=(hm.page (List.getElem_mem hlt')).row.form
  have hp0:∀ (w':World),ae aj w w'→w'.cell? ⟨g,0,none⟩=some (.slice (some ⟨b,off,none⟩) R.length cap)∧w'.cell? ⟨b,off+p,none⟩=some (.slice ap (R[p]).es.length cpp) ∧
    Calls Try.prog 102 #[.slice ap (R[p]).es.length cpp,.slice aq ys.length cq] w' fun e w''=>e = .returned (.tuple #[.int .i64 (fV (ents (R[p]).es) ys),.bool (iq (ents (R[p]).es) (fV (ents (R[p]).es) ys) ys)])∧ae aj w' w'':=by
   intro w' m
   have h:=hm.keep0 m
   have hpg:=h.page (List.getElem_mem hlt')
   rw [hpv] at hpg
   refine⟨(ai h.hg 0).trans (congrArg some hvo),?_,uf hpg (hq.keep m (fun _ _ x=>x)) hok (by omega)⟩
   rcases h.open with ⟨h1,_⟩ | ⟨b',off',cp',hv',_,_,hc'⟩
   ·exact absurd h1 h0
   ·obtain⟨⟨rfl,rfl⟩,_⟩:(b=b'∧off=off')∧cap=cp':=by simpa using hv.symm.trans hv'
    rw [← hpv]
    exact hc' p hlt'
  have HP:=lh hp0
  clear hp0
  generalize fV (ents (R[p]).es) ys=i at *
  generalize iq (ents (R[p]).es) i ys=B at *
  clear hm hq hok hge hge2 hlt hvo hv hc hpv ok k2
  generalize (R[p]).es.length=m at *
  generalize R.length=n at *
  go_enter Try.func89,Try.ntmps89
  go_wp2_with fail
  refine C.out.mono ?_
  rintro e w2 ⟨rfl,m2⟩
  obtain⟨d0,d1,D⟩:=HP.out w2 m2
  have DH:=lh D
  clear D c0
  go_wp2_with fail
  refine DH.out.mono ?_
  rintro e w3 ⟨rfl,m3⟩
  clear d0 d1
  go_wp2
  go_ret3
  exact⟨rfl,m2.then0 m3⟩
theorem qU {R:List PV}{ys:List UInt8} (hf:(aK (aB R) ys).2.2=true):∃ (hp:(aK (aB R) ys).1<R.length) (hi:(aK (aB R) ys).2.1<(R[(aK (aB R) ys).1]).es.length),(R[(aK (aB R) ys).1]).es[(aK (aB R) ys).2.1].k=ys:=by
  by_cases h0:R=[]
  · subst h0;simp [aK,aB] at hf
  have hne:aB R≠[]:=fun h=>h0 (by cases R with | nil=>rfl | cons a b=>simp [aB] at h)
  have hlt:=sO hne ys
  rw [oK hne] at hf ⊢
  simp only at hf ⊢
  generalize gq (aB R) ys=p at *
  have hlt':p<R.length:=by rw [← dN];exact hlt
  have hge:(aB R).getD p []=ents (R[p]).es:=by simp [aB,hlt']
  rw [hge] at hf ⊢
  generalize fV (ents (R[p]).es) ys=i at *
  refine⟨hlt',?_⟩
  unfold iq at hf
  cases hx:(ents (R[p]).es)[i]? with
  | none=>rw [hx] at hf;cases hf
  | some e =>
    obtain⟨hi,he⟩:=List.getElem?_eq_some_iff.1 hx
    rw [hx] at hf
    rw [dA] at hi
    refine⟨hi,?_⟩
    have:e=((R[p]).es[i]).ent:=by rw [← he];simp [ents]
    rw [this] at hf
    exact of_decide_eq_true hf
theorem DU {w:World}{g:Nat}{vo q:Value}{R:List PV}{ys:List UInt8} (hm:PM w g vo R) (hq:Rd w q ys) (ok:fH (aB R)) (hn:R.length≤1000000) :
    Calls Try.prog 70 #[.pointer (some ⟨g,0,none⟩),q] w fun e w'=>∃ v',e = .returned (.tuple #[v',.bool (jZ (aB R) ys).isSome])∧Gl.Own w' v' ((jZ (aB R) ys).getD [])∧ae aj w w'∧aI w v':=by
  have C:=lh (oJ hm hq ok hn)
  have hfi:=qU (R:=R) (ys:=ys)
  obtain⟨aq,cq,hqv,_⟩:=hq.form
  subst hqv
  have hg:jZ (aB R) ys=if (aK (aB R) ys).2.2 then some ((((aB R).getD (aK (aB R) ys).1 []).getD (aK (aB R) ys).2.1 ([],[])).2) else none:=rfl
  generalize aK (aB R) ys=F at *
  obtain⟨p,i,B⟩:=F
  simp only at hfi hg C
  cases B with
  | false =>
    rw [hg]
    clear hm hq hfi hg
    go_enter Try.func70,Try.ntmps70
    go_wp2_with fail
    refine C.out.mono ?_
    rintro e w2 ⟨rfl,m2⟩
    go_wp2
    go_ret2
    exact⟨_,rfl,Gl.Own.nil _,m2,by intro k hk;simp [Value.ownBlock] at hk⟩
  | true =>
    obtain⟨hp,hi,hk⟩:=hfi rfl
    have hv:jZ (aB R) ys=some ((R[p]).es[i]).v:=by rw [hg];simp [aB,ents,hp,hi,EV.ent]
    rw [hv]
    obtain⟨vo',cap,hvo,_⟩:=(aU.rd hm.row).form
    rcases hm.open with ⟨h1,_⟩ | ⟨b,off,cp,hvv,k1,k2,hc⟩
    · rw [h1] at hp;simp at hp
    obtain⟨rfl,rfl⟩:vo'=some ⟨b,off,none⟩∧cap=cp:=by simpa using hvo.symm.trans hvv
    have HM:=lh hm
    have HF:=lh (fun (w':World) (m:ae aj w w')=>show (w'.cell? ⟨g,0,none⟩=some (.slice (some ⟨b,off,none⟩) R.length cap)∧∃ pb po pc,w'.cell? ⟨b,off+p,none⟩=some (.slice (some ⟨pb,po,none⟩) (R[p]).es.length pc)∧w'.cell? ⟨pb,po+i*2+1,none⟩=some ((R[p]).es[i]).vv∧E1 w' ((R[p]).es[i])) from by
      have h:=hm.keep0 m
      refine⟨(ai h.hg 0).trans (congrArg some hvo),?_⟩
      have hpg:=h.page (List.getElem_mem hp)
      rcases hpg.open with ⟨h2,_⟩ | ⟨pb,po,pc,hv2,_,_,_,hc2⟩
      · rw [h2] at hi;simp at hi
      · refine⟨pb,po,pc,?_,(hc2 i hi).2,hpg.ents _ (List.getElem_mem hi)⟩
        rcases h.open with ⟨h1,_⟩ | ⟨b',off',cp',hv',_,_,hc'⟩
        · rw [h1] at hp;simp at hp
        · obtain⟨⟨rfl,rfl⟩,_⟩:(b=b'∧off=off')∧cap=cp':=by simpa using hvv.symm.trans hv'
          rw [← hv2]
          exact hc' p hp)
    generalize ((R[p]).es[i])=ev at *
    have c0:=ai hm.hg 0
    clear hm hq hfi hg hv hvv hc hk hvo
    generalize (R[p]).es.length=m at *
    generalize R.length=n at *
    go_enter Try.func70,Try.ntmps70
    go_wp2_with fail
    refine C.out.mono ?_
    rintro e w2 ⟨rfl,m2⟩
    obtain⟨d0,pb,po,pc,d1,d2,D⟩:=HF.out w2 m2
    obtain⟨av,cv,hav,_⟩:=D.v.form
    rw [hav] at d2
    have OW:=lh (fZ D.v (by have:=D.lv;omega))
    rw [hav] at OW
    clear c0 D hav
    go_wp2_with fail
    refine OW.out.mono ?_
    rintro e w3 ⟨v',rfl,o1,m3,f3⟩
    obtain⟨a3,c3,rfl,_⟩:=o1.rd.form
    have O:=lh (And.intro o1 (And.intro m3 f3))
    clear o1 m3 f3 d0 d1 d2
    go_wp2
    go_ret2
    exact⟨_,rfl,O.out.1,m2.then0 O.out.2.1,O.out.2.2.of m2.size⟩
end Go.Proofs.Ytglkmaalpammcaa
namespace Go.Gl
open Go.RowKit
section
variable {P:Program}{ops:Array Oper}{Q:Exit→Act→World→Prop}{S:World→Prop}
abbrev jL (ops:Array Oper) (i:Nat):Oper:=ops.getD i default
theorem jG {i:Nat} (h:decide (i<ops.size)=true):ops[i]?=some (jL ops i):=by
 have h1:=of_decide_eq_true h
 unfold jL
 rw [Array.getElem?_eq_getElem h1,Array.getD_eq_getD_getElem?,Array.getElem?_eq_getElem h1]
 rfl
structure lY (ops:Array Oper) (i:Nat) (a:Act) (d:Option Tmp) (b:Bool):Prop where
 lt:decide (i<ops.size)=true
 dst:(jL ops i).dst=d
 want:Region.wanted (jL ops i) (yielded ops a.tmps)=b
theorem ki {ops : Array Oper} {i : Nat} {a : Act} {d : Option Tmp} {b : Bool} (h : (decide (i < ops.size), (jL ops i).dst, Region.wanted (jL ops i) (yielded ops a.tmps)) = (true, d, b)) : lY ops i a d b := ⟨congrArg (·.1) h, congrArg (·.2.1) h, congrArg (·.2.2) h⟩
theorem aZ {K:Act→World→Prop}{a b:Act}{w:World} (e:a=b) (h:K b w):K a w:=e▸h
def lI (i:Nat):Code→Option Code
 | .region j ops d=>if i=j then some (.region j ops d) else none
 | .seq a b=>(lI i a).or (lI i b)
 | .cond _ a b=>(lI i a).or (lI i b)
 | .block _ a=>lI i a
 | .loop a=>lI i a
 | .scope a=>lI i a
 | .rangeFunc _ _ x y=>match lI i x with | some c=>some c | none=>lI i y
 | _=>none
def regC (i:Nat) (f:Func):Code:=(lI i (Ec f)).getD .skip
def aJ (i:Nat) (f:Func):Array Oper:=match regC i f with
 | .region _ ops _=>ops
 | _=>#[]
end
section
variable {P:Program}{w:World}
end
open Go.RowKit
section
variable {P:Program}{ops:Array Oper}{Q:Exit→Act→World→Prop}{S:World→Prop}{md:Region.Mode}{T:List Nat}
def reach (md:Region.Mode) (ops:Array Oper) (i:Nat):Nat→Nat→Bool
  | 0,_=>false
  | f + 1, k => match ops[k]? with
    | some o=>o.after.any (fun e=>Region.binds md e && (e.on == i || reach md ops i f e.on))
    | none=>false
def iU (md:Region.Mode) (ops:Array Oper) (L:Array Bool):Prop:=∀ j oj,ops[j]?=some oj→L.getD j false=true→∀ e∈oj.after,Region.binds md e=true→L.getD e.on false=true
theorem iU.set {L:Array Bool}{j:Nat} (h:iU md ops L) (hj:j∈Region.ready md ops L):iU md ops (L.setIfInBounds j true):=by
 intro k ok hk hl e he hb
 by_cases hjk:j=k
 ·subst hjk
  obtain⟨_,o,ho,hall⟩:=mem_ready.1 hj
  obtain rfl:o=ok:=Option.some.inj (ho.symm.trans hk)
  exact getD_set_true (hall e he hb)
 ·rw [getD_set_ne false hjk] at hl
  exact getD_set_true (h k ok hk hl e he hb)
theorem rO {L:Array Bool} (h:iU md ops L) {i:Nat}:∀ (f k:Nat),reach md ops i f k=true→(∀ ok,ops[k]?=some ok→∀ e∈ok.after,Region.binds md e=true→L.getD e.on false=true)→L.getD i false=true:=by
  intro f
  induction f with
  | zero=>intro k hr;simp [reach] at hr
  | succ f ih =>
    intro k hr hk
    simp only [reach] at hr
    cases ho:ops[k]? with
    | none=>simp [ho] at hr
    | some o =>
      simp only [ho] at hr
      obtain⟨e,he,hb⟩:=Array.any_eq_true'.1 hr
      simp only [Bool.and_eq_true,Bool.or_eq_true,beq_iff_eq] at hb
      have hl:=hk o ho e he hb.1
      rcases hb.2 with h1 | h1
      · rw [← h1];exact hl
      · exact ih e.on h1 (fun ok hok e' he' hb'=>h e.on ok hok hl e' he' hb')
def none0 (T:List Nat) (L:Array Bool):Bool:=T.all (fun t => !L.getD t false)
def ST (T:List Nat) (S:World→Prop) (L:Array Bool) (w:World):Prop:=none0 T L=true→S w
theorem qR {L:Array Bool} (h:iU md ops L) {i f:Nat} (hi:L.getD i false=false) (hT:T.all (fun t=>reach md ops i f t)=true):none0 T L=true:=by
  unfold none0
  rw [List.all_eq_true] at hT ⊢
  intro t ht
  cases hl:L.getD t false with
  | false=>rfl
  | true =>
    have:=rO h f t (hT t ht) (fun ok hok e he hb=>h t ok hok hl e he hb)
    rw [hi] at this
    cases this
theorem BI {L:Array Bool} (h:iU md ops L) {i f j:Nat} (hi:L.getD i false=false) (hT:T.all (fun t=>reach md ops i f t)=true) (hj:j∈Region.ready md ops L):j∉T:=by
 intro ht
 obtain⟨_,o,ho,hall⟩:=mem_ready.1 hj
 have:=rO h f j (List.all_eq_true.1 hT j ht) (fun ok hok e he hb=>by
  obtain rfl:o=ok:=Option.some.inj (ho.symm.trans hok)
  exact hall e he hb)
 rw [hi] at this
 cases this
theorem lQ {L:Array Bool}{j:Nat} (hj:j∉T):none0 T (L.setIfInBounds j true)=none0 T L:=by
 unfold none0
 rw [Bool.eq_iff_iff,List.all_eq_true,List.all_eq_true]
 constructor
 ·intro h t ht
  have:=h t ht
  rwa [getD_set_ne false (fun e=>by subst e;exact hj ht)] at this
 ·intro h t ht
  have:=h t ht
  rwa [getD_set_ne false (fun e=>by subst e;exact hj ht)]
def kZ (P:Program) (md:Region.Mode) (ops:Array Oper) (Q:Exit→Act→World→Prop) (T:List Nat) (S:World→Prop):Nat→Array Bool→Act→World→Prop
  | 0,listed,a,w=>Region.ready md ops listed=[]∧Q .normal a w
  | fuel + 1, listed, a, w =>
    (Region.ready md ops listed=[]→Q .normal a w) ∧
    ∀ i∈Region.ready md ops listed,wpOp P ops Q i (fun a' w'=>ST T S (listed.setIfInBounds i true) w'∧kZ P md ops Q T S fuel (listed.setIfInBounds i true) a' w') a w
theorem mG:∀ (fuel:Nat) (listed:Array Bool) (a:Act) (w:World),kZ P md ops Q T S fuel listed a w→wpAny P md ops Q fuel listed a w
 | 0,_,_,_,h=>h
 | fuel+1,_,_,_,h=>⟨h.1,fun i hi=>wpOp_mono (fun a' w' h'=>mG fuel _ a' w' h'.2) (h.2 i hi)⟩
theorem oN {L:Array Bool}{i:Nat} (h:L.getD i true=false):L.getD i false=false:=by
 rcases Nat.lt_or_ge i L.size with h' | h'
 ·simp [h'] at h ⊢;exact h
 ·simp [Array.getElem?_eq_none h'] at h
theorem mV {i f:Nat}{oi:Oper}{v:Value} (hi:ops[i]?=some oi) (hiT:i∉T) (hT:T.all (fun t=>reach md ops i f t)=true) (hsel:∀ (j:Nat) (o:Oper) cs b,ops[j]?=some o→o.op ≠ .select cs b)
    (hQ:∀ c a w,Q (.panic c) (a.put oi.dst v) w→Q (.panic c) a w) :
    ∀ (fuel:Nat) (listed:Array Bool) (a:Act) (w:World),
      (∀ j oj,ops[j]?=some oj→j≠i→listed.getD j true=false→(∀ e∈oj.after,Region.binds md e=true→e.on≠i)→oi.apart ops oj=true) →
      i∈Region.ready md ops listed→iU md ops listed→YieldsIf P ops S oi v a→ST T S listed w →
      kZ P md ops Q T S fuel (listed.setIfInBounds i true) (a.put oi.dst v) w→kZ P md ops Q T S (fuel+1) listed a w:=by
  intro fuel
  induction fuel with
  | zero =>
    intro listed a w _ hr hcl hy hS H
    have hun:=oN (mem_ready.1 hr).1
    have hSw:=hS (qR hcl hun hT)
    refine⟨fun h=>(by rw [h] at hr;cases hr),fun j hj=>?_⟩
    by_cases hji:j=i
    · subst hji;exact hy.wpOp hi hSw ⟨fun _=>hSw,H⟩
    · have:=ready_mono hj hji
      rw [H.1] at this
      cases this
  | succ fuel ih =>
    intro listed a w hfree hr hcl hy hS H
    have hun:=oN (mem_ready.1 hr).1
    have hSw:=hS (qR hcl hun hT)
    refine⟨fun h=>(by rw [h] at hr;cases hr),fun j hj=>?_⟩
    by_cases hji:j=i
    · subst hji;exact hy.wpOp hi hSw ⟨fun _=>hSw,H⟩
    · have h1:=H.2 j (ready_mono hj hji)
      obtain⟨hjun,oj,hoj,hall⟩:=mem_ready.1 hj
      have hnot:∀ e∈oj.after,Region.binds md e=true→e.on≠i:=fun e he hb heq=>by
        have h1:=hall e he hb
        have h0:=(mem_ready.1 hr).1
        rw [heq] at h1
        rcases Nat.lt_or_ge i listed.size with h' | h'
        · simp [h'] at h0 h1;rw [h0] at h1;cases h1
        · simp [Array.getElem?_eq_none h'] at h1
      have h2:=wpOp_putIf hoj (hfree j oj hoj hji hjun hnot) (fun cs b=>hsel i oi cs b hi) (fun cs b=>hsel j oj cs b hoj) hQ hy h1
      have hfree':∀ k ok,ops[k]?=some ok→k≠i→(listed.setIfInBounds j true).getD k true=false →
          (∀ e∈ok.after,Region.binds md e=true→e.on≠i)→oi.apart ops ok=true:=fun k ok hk hki hun hno=>by
        refine hfree k ok hk hki ?_ hno
        by_cases hjk:j=k
        · subst hjk;exact hjun
        · rw [getD_set_ne true hjk] at hun;exact hun
      have hjT:=BI hcl hun hT hj
      have hn0:=qR (T:=T) hcl hun hT
      refine wpOp_mono (fun a' w' h3=>?_) h2
      have hS':S w':=h3.2.1 (by rw [lQ hjT,lQ hiT];exact hn0)
      refine⟨fun _=>hS',ih (listed.setIfInBounds j true) a' w' hfree' (ready_mono hr (Ne.symm hji)) (hcl.set hj) h3.1 (fun _=>hS') ?_⟩
      rw [Array.setIfInBounds_comm _ _ hji]
      exact h3.2.2
def lK (md:Region.Mode) (ops:Array Oper) (T:List Nat):List (Nat × Bool)→Array Bool→Bool
 | [],listed=>(Region.ready md ops listed).isEmpty
 | (i,b) :: l,listed=>(if b then Region.free md ops listed i && (Region.ready md ops listed).contains i && !T.contains i && T.all (fun t=>reach md ops i 8 t) else (Region.ready md ops listed) == [i]) && lK md ops T l (listed.setIfInBounds i true)
def jK (P:Program) (ops:Array Oper) (Q:Exit→Act→World→Prop) (T:List Nat) (S:World→Prop):List (Nat × Bool)→Act→World→Prop
 | [],a,w=>Q .normal a w
 | (i,true) :: l,a,w=>∃ o v,ops[i]?=some o∧YieldsIf P ops S o v a∧jK P ops Q T S l (a.put o.dst v) w
 | (i,false) :: l,a,w=>wpOp P ops Q i (fun a' w'=>(T.contains i=false→S w')∧jK P ops Q T S l a' w') a w
theorem pJ (hs:Region.noSelect ops=true) (hQ:∀ c a d v w,Q (.panic c) (Act.put a d v) w→Q (.panic c) a w) (l:List (Nat × Bool)) :
    ∀ (listed:Array Bool) (a:Act) (w:World),lK md ops T l listed=true→iU md ops listed→listed.size=ops.size→ST T S listed w→jK P ops Q T S l a w→kZ P md ops Q T S l.length listed a w:=by
  induction l with
  | nil =>
    intro listed a w h _ _ _ hw
    simp only [lK,List.isEmpty_iff] at h
    exact⟨h,hw⟩
  | cons x l ih =>
    obtain⟨i,b⟩:=x
    intro listed a w h hcl hsz hS hw
    simp only [lK,Bool.and_eq_true] at h
    rcases b with _ | _
    · simp only [Bool.false_eq_true,if_false] at h
      have hr:=eq_of_beq h.1
      refine⟨fun h0=>(by rw [h0] at hr;cases hr),fun j hj=>?_⟩
      rw [hr] at hj
      obtain rfl:=List.mem_singleton.1 hj
      have hjr:j∈Region.ready md ops listed:=by rw [hr];exact List.mem_singleton.2 rfl
      refine wpOp_mono (fun a' w' h'=>?_) hw
      have hS':ST T S (listed.setIfInBounds j true) w':=by
        intro hn
        refine h'.1 ?_
        cases ht:T.contains j with
        | false=>rfl
        | true =>
          have hm:=List.all_eq_true.1 hn j (by simpa using ht)
          have hlt:j<listed.size:=by
            obtain⟨_,o,ho,_⟩:=mem_ready.1 hjr
            rw [hsz]
            exact (Array.getElem?_eq_some_iff.1 ho).1
          simp [hlt] at hm
      exact⟨hS',ih _ _ _ h.2 (hcl.set hjr) (by simpa using hsz) hS' h'.2⟩
    · simp only [if_true,Bool.and_eq_true,Bool.not_eq_true'] at h
      obtain⟨o,v,ho,hy,hr⟩:=hw
      have hir:i∈Region.ready md ops listed:=by simpa using h.1.1.1.2
      have hiT:i∉T:=by simpa using h.1.1.2
      refine mV ho hiT h.1.2 (Region.noSelect_spec hs) (fun c a w=>hQ c a _ _ w) _ _ _ _ (Region.free_spec ho h.1.1.1.1) hir hcl hy hS ?_
      exact ih _ _ _ h.2 (hcl.set hir) (by simpa using hsz) (fun hn=>hS (by rwa [lQ hiT] at hn)) hr
structure dP (P:Program) (ops:Array Oper) (Q:Exit→Act→World→Prop) (T:List Nat) (S:World→Prop) (l:List (Nat × Bool)) (a:Act) (w:World):Prop where
 out:jK P ops Q T S l a w
theorem af {i:Nat}{l:List (Nat × Bool)}{a:Act}{w:World} (v:Value) (d:Option Tmp) (h:lY ops i a d true)
  (hv:∀ b,S b→(execOp a.eval (jL ops i)).run P b = .ok (.value v) b) (hr:dP P ops Q T S l (a.put d v) w):dP P ops Q T S ((i,true) :: l) a w:=by
 obtain⟨h1,rfl,h2⟩:=h
 exact⟨_,v,jG h1,.inl ⟨h2,hv⟩,hr.out⟩
theorem kC {i:Nat}{l:List (Nat × Bool)}{a:Act}{w:World} (d:Option Tmp) (h:lY ops i a d false) (hS:T.contains i=false→S w)
  (hr:dP P ops Q T S l (a.put d undef) w):dP P ops Q T S ((i,false) :: l) a w:=by
 obtain⟨h1,rfl,h2⟩:=h
 constructor
 unfold jK wpOp
 simp only [jG h1,h2,Bool.false_eq_true,if_false]
 exact⟨hS,hr.out⟩
theorem bF {i:Nat}{l:List (Nat × Bool)}{a:Act}{w:World}{n:FuncId}{vs:Array Value}{R:Ending→World→Prop} (d:Option Tmp) (h:lY ops i a d true)
  (hc:Calls P n vs w R) (hx:∀ b,(execOp a.eval (jL ops i)).run P b = .ok (.enter n vs) b) (hr:∀ r w',R r w'→∃ v,r = .returned v∧(T.contains i=false→S w')∧dP P ops Q T S l (a.put d v) w'):dP P ops Q T S ((i,false) :: l) a w:=by
 obtain⟨h1,rfl,h2⟩:=h
 constructor
 unfold jK wpOp
 simp only [jG h1,h2,if_true]
 refine .inl ?_
 unfold Oper.wp
 rw [hx w,Oper.upon_enter]
 refine hc.mono (fun r w' hr'=>?_)
 obtain⟨v,rfl,k1,k2⟩:=hr r w' hr'
 exact⟨k1,k2.out⟩
theorem aG {i:Nat}{l:List (Nat × Bool)}{a:Act}{w:World} (v:Value) (w':World) (d:Option Tmp) (h:lY ops i a d true)
  (hx:(execOp a.eval (jL ops i)).run P w = .ok (.value v) w') (hS:T.contains i=false→S w') (hr:dP P ops Q T S l (a.put d v) w'):dP P ops Q T S ((i,false) :: l) a w:=by
 obtain⟨h1,rfl,h2⟩:=h
 constructor
 unfold jK wpOp
 simp only [jG h1,h2,if_true]
 refine .inl ?_
 unfold Oper.wp
 rw [hx,Oper.upon_value]
 exact⟨hS,hr.out⟩
theorem qL {i:Nat}{l:List (Nat × Bool)}{a:Act}{w:World} (w':World) (d:Option Tmp) (h:lY ops i a d true)
  (hx:(execOp a.eval (jL ops i)).run P w = .ok .skip w') (hS:T.contains i=false→S w') (hr:dP P ops Q T S l (a.put d undef) w'):dP P ops Q T S ((i,false) :: l) a w:=by
 obtain⟨h1,rfl,h2⟩:=h
 constructor
 unfold jK wpOp
 simp only [jG h1,h2,if_true]
 refine .inl ?_
 unfold Oper.wp
 rw [hx]
 simp only [Oper.upon]
 exact⟨hS,hr.out⟩
def uS (P:Program) (ops:Array Oper) (i:Nat) (a:Act) (b:World):Result Next :=
 if Region.wanted (jL ops i) (yielded ops a.tmps) then (execOp a.eval (jL ops i)).run P b else .ok (.value undef) b
def nJ (P:Program) (ops:Array Oper):List Nat→List Value→Act→World→List (Result Next)
 | i :: l,v :: vs,a,b=>uS P ops i a b :: nJ P ops l vs (a.put (jL ops i).dst v) b
 | _,_,_,_=>[]
def yH (ops:Array Oper):List Nat→List Value→Act→Act
 | i :: l,v :: vs,a=>yH ops l vs (a.put (jL ops i).dst v)
 | _,_,a=>a
theorem ah (l:List Nat) (vs:List Value) {L rest:List (Nat × Bool)}{a:Act}{w:World} (hL:L=l.map (fun i=>(i,true)) ++ rest) (hlen:(l.all (fun i=>decide (i<ops.size)) && decide (l.length=vs.length))=true)
    (hv:∀ b,nJ P ops l vs a b=vs.map (fun v => .ok (.value v) b)) (hr:dP P ops Q T S rest (yH ops l vs a) w):dP P ops Q T S L a w:=by
  subst hL
  induction l generalizing vs a with
  | nil =>
    cases vs with
    | nil=>exact hr
    | cons v vs=>simp at hlen
  | cons i l ih =>
    cases vs with
    | nil=>simp at hlen
    | cons v vs =>
      simp only [List.all_cons,List.length_cons,Bool.and_eq_true,decide_eq_true_eq] at hlen
      have hh:∀ b,uS P ops i a b = .ok (.value v) b:=fun b=>by
        have:=hv b
        simp only [nJ,List.map_cons,List.cons.injEq] at this
        exact this.1
      refine⟨jL ops i,v,jG (decide_eq_true hlen.1.1),?_,(ih vs (by simp only [Bool.and_eq_true,decide_eq_true_eq];exact⟨hlen.1.2,by omega⟩) (fun b=>by
        have:=hv b
        simp only [nJ,List.map_cons,List.cons.injEq] at this
        exact this.2) hr).out⟩
      unfold uS at hh
      by_cases hw:Region.wanted (jL ops i) (yielded ops a.tmps)=true
      · simp only [hw,if_true] at hh
        exact .inl ⟨hw,fun b _=>hh b⟩
      · rw [Bool.not_eq_true] at hw
        simp only [hw,Bool.false_eq_true,if_false] at hh
        exact .inr ⟨hw,by have:=hh (default);simpa using this.symm⟩
theorem az (l:List Nat) (vs:List Value) {L rest:List (Nat × Bool)}{a:Act}{w:World} (hL:L=l.map (fun i=>(i,false)) ++ rest) (hlen:(l.all (fun i=>decide (i<ops.size)) && decide (l.length=vs.length))=true)
    (hv:nJ P ops l vs a w=vs.map (fun v => .ok (.value v) w)) (hS:l.all (fun i=>T.contains i)=true∨S w) (hr:dP P ops Q T S rest (yH ops l vs a) w):dP P ops Q T S L a w:=by
  subst hL
  induction l generalizing vs a with
  | nil =>
    cases vs with
    | nil=>exact hr
    | cons v vs=>simp at hlen
  | cons i l ih =>
    cases vs with
    | nil=>simp at hlen
    | cons v vs =>
      simp only [List.all_cons,List.length_cons,Bool.and_eq_true,decide_eq_true_eq] at hlen
      simp only [nJ,List.map_cons,List.cons.injEq] at hv
      have hS1:T.contains i=false→S w:=fun hf=>by
        rcases hS with hS | hS
        · simp only [List.all_cons,Bool.and_eq_true] at hS
          rw [hf] at hS
          exact absurd hS.1 (by decide)
        · exact hS
      have hS2:l.all (fun i=>T.contains i)=true∨S w:=hS.imp (fun h=>by simp only [List.all_cons,Bool.and_eq_true] at h;exact h.2) id
      have hi:=ih vs (by simp only [Bool.and_eq_true,decide_eq_true_eq];exact⟨hlen.1.2,by omega⟩) hv.2 hS2 hr
      have h1:=hv.1
      unfold uS at h1
      by_cases hw:Region.wanted (jL ops i) (yielded ops a.tmps)=true
      · simp only [hw,if_true] at h1
        exact aG v w _ ⟨decide_eq_true hlen.1.1,rfl,hw⟩ h1 hS1 hi
      · rw [Bool.not_eq_true] at hw
        simp only [hw,Bool.false_eq_true,if_false] at h1
        have e:v=undef:=by simpa using h1.symm
        subst e
        exact kC _ ⟨decide_eq_true hlen.1.1,rfl,hw⟩ hS1 hi
theorem fB {i:Nat}{l:List (Nat × Bool)}{a:Act}{w:World} (O:Obj) (d:Option Tmp) (h:lY ops i a d true)
  (hx:(execOp a.eval (jL ops i)).run P w = .ok (.value (.pointer (some ⟨w.heap.size,0,none⟩))) (w.alloc O))
  (hr:∀ k w',k=w.heap.size→w'.heap[k]?=some O→ae aj w w'→k<w'.heap.size→(T.contains i=false→S w')∧dP P ops Q T S l (a.put d (.pointer (some ⟨k,0,none⟩))) w'):dP P ops Q T S ((i,false) :: l) a w:=by
 obtain⟨h1,h2⟩:=hr _ _ rfl (bC w O) ((ae.refl aj w).alloc O) (by simp)
 exact aG _ _ d h hx h1 h2
def uz:Array Value→Nat→List Value→Array Value
 | c,_,[]=>c
 | c,o,u :: l=>uz (c.setIfInBounds o u) (o+1) l
theorem lF {g:Nat}{e:TypeId} (l:List Value):∀ (c:Array Value) (o:Nat) (w:World),w.heap[g]?=some (.cells c e (0,0))→(w.setCells g o l).heap[g]?=some (.cells (uz c o l) e (0,0))∧(w.setCells g o l).heap.size=w.heap.size:=by
  induction l with
  | nil=>intro c o w h;exact⟨h,rfl⟩
  | cons u l ih =>
    intro c o w h
    obtain⟨h1,h2⟩:=ih (c.setIfInBounds o u) (o+1) (w.setCell ⟨g,o,none⟩ u) (heap_set h o u)
    exact⟨h1,h2.trans (by simp [World.setCell])⟩
theorem mY {i:Nat}{l:List (Nat × Bool)}{a:Act}{w:World}{ty t:TypeId}{x y:Operand}{g off:Nat}{cur cells:Array Value} (new:Array Value) (d:Option Tmp) (h:lY ops i a d true) (ho:(jL ops i).op = .store ty x y)
  (hp:a.eval x = .pointer (some ⟨g,off,none⟩)) (hy:a.eval y = .agg cells) (hg:w.heap[g]?=some (.cells cur t (0,0))) (hb:Nat.ble (off+cells.size) cur.size=true) (hi:(P.info? ty).map (·.size)=some cells.size) (h1:cells.all (·.oneCell')=true)
  (hn:uz cur off cells.toList=new) (hr:∀ w',w'.heap[g]?=some (.cells new t (0,0))→ae (fun k=>k=g) w w'→w'.heap.size=w.heap.size→(T.contains i=false→S w')∧dP P ops Q T S l (a.put d undef) w'):dP P ops Q T S ((i,false) :: l) a w:=by
 have hle:=Nat.le_of_ble_eq_true hb
 obtain⟨k1,k2⟩:=lF (g:=g) (e:=t) cells.toList cur off w hg
 obtain⟨h2,h3⟩:=hr _ (hn▸k1) ((ae.refl (fun k=>k=g) w).setCells (.inl rfl) cells.toList) k2
 refine qL _ d h ?_ h2 h3
 have ht:w.there g off cells.size:=fun j hj=>⟨by rw [ai hg];simp;omega,dw hg _⟩
 have hs:=run_storeAt_mid (P:=P) w g off ty cells ht hi h1
 unfold execOp
 simp only [ho,hp,hy,Sem.run_bind,hs,Sem.run_pure,Result.andThen_ok]
theorem yB (l:List Nat):∀ a w,jK P ops Q [] (fun _=>True) (l.map (fun i=>(i,false))) a w→wpOps P ops Q l a w:=by
  induction l with
  | nil=>exact fun a w h=>h
  | cons i l ih =>
    intro a w h
    rw [wpOps_cons]
    exact wpOp_mono (fun a' w' h'=>ih a' w' h'.2) h
end
open Go.RowKit
theorem qW (l:List Value):∀ (c:Array Value) (o:Nat),(uz c o l).size=c.size:=by
 induction l with
 | nil=>intro c o;rfl
 | cons u l ih=>intro c o;show (uz (c.setIfInBounds o u) (o+1) l).size=_;rw [ih];simp
theorem DF (l:List Value):∀ (c:Array Value) (o:Nat),o+l.length≤c.size→∀ j,(uz c o l)[j]?=if o≤j∧j<o+l.length then l[j - o]? else c[j]?:=by
  induction l with
  | nil=>intro c o _ j;rw [if_neg (by simp only [List.length_nil];omega)];rfl
  | cons u l ih =>
    intro c o h j
    simp only [List.length_cons] at h ⊢
    show (uz (c.setIfInBounds o u) (o+1) l)[j]?=_
    rw [ih _ _ (by simp;omega)]
    by_cases h1:o+1≤j∧j<o+1+l.length
    · rw [if_pos h1,if_pos (by omega)]
      obtain⟨k,rfl⟩:∃ k,j=o+1+k:=⟨j - (o+1),by omega⟩
      rw [show o+1+k - (o+1)=k from by omega,show o+1+k - o=k+1 from by omega,List.getElem?_cons_succ]
    · rw [if_neg h1]
      by_cases h2:j=o
      · subst h2
        rw [if_pos (by omega),Nat.sub_self,List.getElem?_cons_zero,Array.getElem?_setIfInBounds_self_of_lt (by omega)]
      · rw [if_neg (by omega),Array.getElem?_setIfInBounds_ne (by omega)]
structure OB (w:World) (e:TypeId) (s g off n cap:Nat) (xs:List Value):Prop where
 hl:xs.length=n*s
 hn:n≤cap
 hc:cap≤maxLen
 row:∃ cur,w.heap[g]?=some (.cells cur e (0,0))∧off+cap*s≤cur.size∧∀ j u,xs[j]?=some u→cur[off+j]?=some u
theorem OB.own {w:World}{e:TypeId}{s g off n cap:Nat}{xs:List Value} (h:OB w e s g off n cap xs):aU w e s (.slice (some ⟨g,off,none⟩) n cap) n xs:=by
 obtain⟨cur,h1,h2,h3⟩:=h.row
 exact⟨h.hl,.inr ⟨g,off,cap,cur,rfl,h1,h.hn,h.hc,h2,h3⟩⟩
theorem aU.ob {w:World}{e:TypeId}{s n:Nat}{v:Value}{xs:List Value} (h:aU w e s v n xs):(v = .slice none 0 0∧n=0∧xs=[])∨∃ g off cap,v = .slice (some ⟨g,off,none⟩) n cap∧OB w e s g off n cap xs:=by
 rcases h.2 with ⟨h0,hn⟩ | ⟨g,off,cap,cur,hv,h1,h2,h3,h4,h5⟩
 ·exact .inl ⟨h0,hn,List.eq_nil_of_length_eq_zero (by rw [h.1,hn,Nat.zero_mul])⟩
 ·exact .inr ⟨g,off,cap,hv,h.1,h2,h3,cur,h1,h4,h5⟩
theorem OB.lt {w:World}{e:TypeId}{s g off n cap:Nat}{xs:List Value} (h:OB w e s g off n cap xs):g<w.heap.size:=by
 obtain⟨cur,h1,_⟩:=h.row
 exact lt_of_heap h1
theorem OB.cell {w:World}{e:TypeId}{s g off n cap:Nat}{xs:List Value} (h:OB w e s g off n cap xs) {j:Nat}{u:Value} (hj:xs[j]?=some u):w.cell? ⟨g,off+j,none⟩=some u:=by
 obtain⟨cur,h1,h2,h3⟩:=h.row
 exact (ai h1 _).trans (h3 j u hj)
theorem OB.there {w:World}{e:TypeId}{s g off n cap:Nat}{xs:List Value} (h:OB w e s g off n cap xs) {j:Nat} (hj:j<cap*s):(w.cell? ⟨g,off+j,none⟩).isSome=true:=by
 obtain⟨cur,h1,h2,h3⟩:=h.row
 rw [ai h1,Array.getElem?_eq_getElem (by omega)]
 rfl
theorem OB.free {w:World}{e:TypeId}{s g off n cap:Nat}{xs:List Value} (h:OB w e s g off n cap xs) (o:Nat):w.frozen? ⟨g,o,none⟩=false:=by
 obtain⟨cur,h1,_⟩:=h.row
 exact dw h1 o
theorem OB.keep {w w':World}{e:TypeId}{s g off n cap:Nat}{xs:List Value}{T:Nat→Prop} (h:OB w e s g off n cap xs) (hm:ae T w w') (ht:¬ T g):OB w' e s g off n cap xs:=by
 obtain⟨cur,h1,h2,h3⟩:=h.row
 exact⟨h.hl,h.hn,h.hc,cur,hm.heap h1 ht,h2,h3⟩
theorem OB.set {w:World}{e:TypeId}{s g off n cap:Nat}{xs:List Value} (h:OB w e s g off n cap xs) (lo:Nat) (ys:List Value) (hle:lo+ys.length≤cap*s) (m:Nat) (zs:List Value) (hm:m≤cap) (hz:zs.length=m*s)
  (hzs:∀ j u,zs[j]?=some u→if lo≤j∧j<lo+ys.length then ys[j - lo]?=some u else xs[j]?=some u):OB (w.setCells g (off+lo) ys) e s g off m cap zs:=by
 obtain⟨cur,h1,h2,h3⟩:=h.row
 refine⟨hz,hm,h.hc,uz cur (off+lo) ys,(lF ys cur (off+lo) w h1).1,by rw [qW];exact h2,fun j u hj=>?_⟩
 rw [DF _ _ _ (by omega)]
 have:=hzs j u hj
 by_cases hc:lo≤j∧j<lo+ys.length
 ·rw [if_pos hc] at this
  rw [if_pos (by omega),show off+j - (off+lo)=j - lo from by omega]
  exact this
 ·rw [if_neg hc] at this
  rw [if_neg (by omega)]
  exact h3 j u this
theorem dO (w:World) (g o:Nat) (ys:List Value):ae (fun k=>k=g) w (w.setCells g o ys):=(ae.refl (fun k=>k=g) w).setCells (.inl rfl) ys
section
variable {P:Program}
theorem gz (w:World) (dT sT ty elem:TypeId) (i:TypeInfo) (b o dLen dCap:Nat) (a:Addr) (sLen sCap k:Nat) (cs:List Value)
  (hu:P.underlying dT=some (.slice elem)) (hi:P.info? elem=some i) (hk:Nat.min sLen dLen=k) (hn:cs.length=k*i.size)
  (hsrc:∀ j v,cs[j]?=some v→w.cell? (a.add j)=some v) (hc:∀ j,j<cs.length→(w.cell? ⟨b,o+j,none⟩).isSome=true) (hf:∀ j,j<cs.length→w.frozen? ⟨b,o+j,none⟩=false) (h1:∀ v∈cs,v.oneCell'=true) :
  (Builtin.copy_ #[dT,sT] ty #[.slice (some ⟨b,o,none⟩) dLen dCap,.slice (some a) sLen sCap]).run P w = .ok (goInt k) (w.setCells b o cs):=by
 have hl:=run_loadCells_list (P:=P) w a cs hsrc
 have hst:=run_storeCells_cells (P:=P) b o cs 0 w (by simpa using hc) (by simpa using hf) h1
 rw [hn] at hl
 simp [Builtin.copy_,run_underlying hu,Builtin.lenOf,Builtin.firstCells,sizeOf,typeInfo,hi,hk,hl,hst]
theorem kY {ops:Array Oper}{rest:List Oper}{o:Oper}{a:Act}{w:World}{Q:Exit→Act→World→Prop}{d s:Operand}{t t':TypeId}{v u v':Value}{w':World} (hgd:o.guard=none)
  (ho:o.op = .call { callee := .builtin .copy,args:=#[d,s],argTypes:=#[t,t'] }) (hd:a.eval d=v) (hs:a.eval s=u)
  (hr:(Builtin.copy_ #[t,t'] o.type #[v,u]).run P w = .ok v' w') (h:wpList P ops Q rest (a.put o.dst v') w'):wpList P ops Q (o :: rest) a w:=by
 refine wpList_plain hgd fun K hK=>?_
 unfold Oper.wp execOp
 simp only [ho,resolve,invoke,builtin,Sem.run_bind,Sem.run_pure,Result.andThen_ok,List.map_toArray,List.map_cons,List.map_nil,hd,hs,hr]
 exact hK _ _ h
theorem nT (w:World) (t e ty:TypeId) (z:Value) (ht:P.underlying t=some (.slice e)) (hv:∀ w,(zeroValue e).run P w = .ok z w) (b o n c:Nat) (hn:0<n) (zs:List Value) (hz:(Builtin.zeroCells z.cells n).toList=zs) (h1:∀ v∈zs,v.oneCell'=true)
  (hc:∀ j,j<zs.length→(w.cell? ⟨b,o+j,none⟩).isSome=true) (hf:∀ j,j<zs.length→w.frozen? ⟨b,o+j,none⟩=false) :
  (Builtin.clear_ #[t] ty #[.slice (some ⟨b,o,none⟩) n c]).run P w = .ok (.tuple #[]) (w.setCells b o zs):=by
 have hst:=run_storeCells_cells (P:=P) b o zs 0 w (by simpa using hc) (by simpa using hf) h1
 simp only [Nat.add_zero] at hst
 obtain⟨m,rfl⟩:∃ m,n=m+1:=⟨n - 1,by omega⟩
 simp [Builtin.clear_,run_underlying ht,hv,hz,hst]
end
end Go.Gl
namespace Go.Proofs.Ytglkmaalpammcaa
open Go.Gl Go.RowKit
theorem mf (es:List EV) (i:Nat):dn (es.take i)=(dn es).take (i*2):=by
  induction es generalizing i with
  | nil=>simp [dn]
  | cons e es ih =>
    rcases i with _ | i
    · simp [dn]
    · rw [List.take_succ_cons,jT,jT,ih,show (i+1)*2=i*2+1+1 from by omega,List.take_succ_cons,List.take_succ_cons]
theorem l9 (es:List EV) (i:Nat):dn (es.drop i)=(dn es).drop (i*2):=by
  induction es generalizing i with
  | nil=>simp [dn]
  | cons e es ih =>
    rcases i with _ | i
    · simp [dn]
    · rw [List.drop_succ_cons,jT,ih,show (i+1)*2=i*2+1+1 from by omega,List.drop_succ_cons,List.drop_succ_cons]
theorem zu (es:List EV) (i:Nat) (x:EV):dn (es.take i ++ x :: es.drop i)=(dn es).take (i*2) ++ [x.kv,x.vv] ++ (dn es).drop (i*2):=by
 rw [kV,jT,mf,l9];simp
theorem Aw (es:List EV) (i:Nat):dn (es.eraseIdx i)=(dn es).take (i*2) ++ (dn es).drop ((i+1)*2):=by
 rw [List.eraseIdx_eq_take_drop_succ,kV,mf,l9]
theorem Ak (es:List EV) (i:Nat) (x:EV) (hi:i<es.length):dn (es.set i x)=(dn es).take (i*2) ++ [x.kv,x.vv] ++ (dn es).drop ((i+1)*2):=by
 rw [List.set_eq_take_append_cons_drop,if_pos hi,kV,jT,mf,l9];simp
theorem nI (a b:List EV):ents (a ++ b)=ents a ++ ents b:=by simp [ents]
theorem qf (a:List EV) (i:Nat):ents (a.take i)=(ents a).take i:=by simp [ents,List.map_take]
theorem pO (a:List EV) (i:Nat):ents (a.drop i)=(ents a).drop i:=by simp [ents,List.map_drop]
theorem vJ (es:List EV) (i:Nat) (x:EV):ents (es.take i ++ x :: es.drop i)=jg (ents es) i x.ent:=by
 unfold jg
 rw [nI,qf,← pO]
 rfl
theorem Cb (es:List EV) (i:Nat) (x:EV):ents (es.set i x)=(ents es).set i x.ent:=by simp [ents,List.map_set]
theorem yI (es:List EV) (i:Nat):ents (es.eraseIdx i)=(ents es).eraseIdx i:=by
 rw [List.eraseIdx_eq_take_drop_succ,List.eraseIdx_eq_take_drop_succ,nI,qf,pO]
theorem bW (A B:List PV):aB (A ++ B)=aB A ++ aB B:=by simp [aB]
theorem vP (p:PV) (B:List PV):aB (p :: B)=ents p.es :: aB B:=rfl
theorem rY (a b:Pgs):cnt (a ++ b)=cnt a+cnt b:=by simp [cnt]
theorem oC (p:List aN) (b:Pgs):cnt (p :: b)=p.length+cnt b:=by simp [cnt]
theorem yh:cnt []=0:=rfl
theorem BK {α:Type} (R:List α) (p:Nat) (hp:p<R.length):R=R.take p ++ [R[p]] ++ R.drop (p+1):=by
 rw [List.append_assoc,List.singleton_append,← List.drop_eq_getElem_cons hp,List.take_append_drop]
theorem lS {w:World}{es:List EV} (h:xH w es):∀ y∈dn es,y.oneCell'=true:=by
 intro y hy
 unfold dn at hy
 obtain⟨e,he,hm⟩:=List.mem_flatMap.1 hy
 obtain⟨a,c,h1,_⟩:=(h e he).k.form
 obtain⟨a',c',h2,_⟩:=(h e he).v.form
 simp only [List.mem_cons,List.not_mem_nil,or_false] at hm
 rcases hm with rfl | rfl
 ·rw [h1];rfl
 ·rw [h2];rfl
theorem sD {w:World}{g:Nat}{vo:Value}{R:List PV} (h:PM w g vo R):∀ y∈R.map (·.pv),y.oneCell'=true:=by
 intro y hy
 obtain⟨p,hp,rfl⟩:=List.mem_map.1 hy
 obtain⟨a,c,h1,_⟩:=(aU.rd (h.pg p hp)).form
 show (PV.pv p).oneCell'=true
 rw [h1];rfl
theorem PM.upd {w w':World}{g:Nat}{vo vo':Value}{A B C N:List PV}{X:Nat→Prop} (h:PM w g vo (A ++ B ++ C)) (hm:ae (fun k=>k=g∨vo.ownBlock=some k∨∃ q∈B,q.pv.ownBlock=some k) w w')
  (hg':w'.heap[g]?=some (.cells #[vo',.int .i64 (cnt (aB (A ++ N ++ C)):Nat)] 118 (0,0)))
  (row':aU w' 153 1 vo' (A ++ N ++ C).length ((A ++ N ++ C).map (·.pv)))
  (hvo:vo'.ownBlock=vo.ownBlock∨aI w vo')
  (hN:∀ q∈N,aU w' 131 2 q.pv q.es.length (dn q.es)∧((∃ b∈B,q.pv.ownBlock=b.pv.ownBlock)∨aI w q.pv))
  (hNv:∀ q∈N,∀ k,q.pv.ownBlock=some k→vo'.ownBlock≠some k)
  (hNN:N.Pairwise (fun p q=>∀ k,p.pv.ownBlock=some k→q.pv.ownBlock≠some k))
  (hE:∀ q∈N,∀ e∈q.es,(∃ b∈B,e∈b.es)∨(E1 w e∧∀ k,(e.kv.ownBlock=some k∨e.vv.ownBlock=some k)→X k∧k<w.heap.size∧¬ MS g vo (A ++ B ++ C) k)) :
  PM w' g vo' (A ++ N ++ C)∧(∀ k,MS g vo' (A ++ N ++ C) k→MS g vo (A ++ B ++ C) k∨w.heap.size≤k)∧(∀ k,MD (A ++ N ++ C) k→MD (A ++ B ++ C) k∨X k):=by
 have hgl:g<w.heap.size:=lt_of_heap h.hg
 have inB:∀ b∈B,b∈A ++ B ++ C:=fun b hb=>List.mem_append_left _ (List.mem_append_right _ hb)
 have inA:∀ b∈A,b∈A ++ B ++ C:=fun b hb=>List.mem_append_left _ (List.mem_append_left _ hb)
 have inC:∀ b∈C,b∈A ++ B ++ C:=fun b hb=>List.mem_append_right _ hb
 have hs3:=h.sep3
 rw [List.pairwise_append,List.pairwise_append] at hs3
 obtain⟨⟨sA,sB,sAB⟩,sC,sABC⟩:=hs3
 have old:∀ q,q∈A∨q∈C→q∈A ++ B ++ C∧∀ k,q.pv.ownBlock=some k→¬ (k=g∨vo.ownBlock=some k∨∃ b∈B,b.pv.ownBlock=some k):=by
  intro q hq
  have hin:q∈A ++ B ++ C:=by rcases hq with hq | hq;exact inA q hq;exact inC q hq
  refine⟨hin,?_⟩
  rintro k hk (rfl | hv | ⟨b,hb,hbk⟩)
  ·exact (h.sep2 q hin).1 hk
  ·exact (h.sep2 q hin).2 k hk hv
  ·rcases hq with hq | hq
   ·exact sAB q hq b hb k hk hbk
   ·exact sABC b (List.mem_append_right _ hb) q hq k hbk hk
 have ms':∀ k,MS g vo' (A ++ N ++ C) k→MS g vo (A ++ B ++ C) k∨w.heap.size≤k:=by
  rintro k (rfl | hk | ⟨q,hq,hk⟩)
  ·exact .inl (.inl rfl)
  ·rcases hvo with hvo | hvo
   ·exact .inl (.inr (.inl (hvo▸hk)))
   ·exact .inr (hvo k hk)
  ·rw [List.mem_append,List.mem_append] at hq
   rcases hq with (hq | hq) | hq
   ·exact .inl (.inr (.inr ⟨q,inA q hq,hk⟩))
   ·rcases (hN q hq).2 with ⟨b,hb,hbk⟩ | hf
    ·exact .inl (.inr (.inr ⟨b,inB b hb,hbk▸hk⟩))
    ·exact .inr (hf k hk)
   ·exact .inl (.inr (.inr ⟨q,inC q hq,hk⟩))
 have md':∀ k,MD (A ++ N ++ C) k→(MD (A ++ B ++ C) k∨X k)∧k<w.heap.size∧¬ MS g vo (A ++ B ++ C) k:=by
  rintro k ⟨q,hq,e,he,hk⟩
  have fromOld:∀ q∈A ++ B ++ C,e∈q.es→(MD (A ++ B ++ C) k∨X k)∧k<w.heap.size∧¬ MS g vo (A ++ B ++ C) k:=fun q hq he =>
   have:MD (A ++ B ++ C) k:=⟨q,hq,e,he,hk⟩
   ⟨.inl this,h.dlt k this,h.data k this⟩
  rw [List.mem_append,List.mem_append] at hq
  rcases hq with (hq | hq) | hq
  ·exact fromOld q (inA q hq) he
  ·rcases hE q hq e he with ⟨b,hb,heb⟩ | ⟨_,h2⟩
   ·exact fromOld b (inB b hb) heb
   ·obtain⟨k1,k2,k3⟩:=h2 k hk
    exact⟨.inr k1,k2,k3⟩
  ·exact fromOld q (inC q hq) he
 have keepE:∀ e,E1 w e→(∀ k,(e.kv.ownBlock=some k∨e.vv.ownBlock=some k)→¬ MS g vo (A ++ B ++ C) k)→E1 w' e:=fun e he hk=>he.keep hm (fun k hk2=>by
  rintro (rfl | hv | ⟨b,hb,hbk⟩)
  ·exact hk k hk2 (.inl rfl)
  ·exact hk k hk2 (.inr (.inl hv))
  ·exact hk k hk2 (.inr (.inr ⟨b,inB b hb,hbk⟩)))
 have keepO:∀ q∈A ++ B ++ C,∀ e∈q.es,E1 w' e:=fun q hq e he=>keepE e (h.ents q hq e he) (fun k hk=>h.data k ⟨q,hq,e,he,hk⟩)
 refine⟨⟨hg',row',?_,?_,?_,?_,?_,?_,?_⟩,ms',fun k hk=>(md' k hk).1⟩
 ·intro q hq
  rw [List.mem_append,List.mem_append] at hq
  rcases hq with (hq | hq) | hq
  ·exact (h.pg q (inA q hq)).keep hm (old q (.inl hq)).2
  ·exact (hN q hq).1
  ·exact (h.pg q (inC q hq)).keep hm (old q (.inr hq)).2
 ·intro q hq e he
  rw [List.mem_append,List.mem_append] at hq
  rcases hq with (hq | hq) | hq
  ·exact keepO q (inA q hq) e he
  ·rcases hE q hq e he with ⟨b,hb,heb⟩ | ⟨h1,h2⟩
   ·exact keepO b (inB b hb) e heb
   ·exact keepE e h1 (fun k hk=>(h2 k hk).2.2)
  ·exact keepO q (inC q hq) e he
 ·rcases hvo with hvo | hvo
  ·rw [hvo];exact h.sep1
  ·exact hvo.not hgl
 ·intro q hq
  have base:q∈A ++ B ++ C→q.pv.ownBlock≠some g∧∀ k,q.pv.ownBlock=some k→vo'.ownBlock≠some k:=fun hin=>⟨(h.sep2 q hin).1,fun k hk=>by
   rcases hvo with hvo | hvo
   ·rw [hvo];exact (h.sep2 q hin).2 k hk
   ·exact hvo.not ((h.pg q hin).lt k hk)⟩
  rw [List.mem_append,List.mem_append] at hq
  rcases hq with (hq | hq) | hq
  ·exact base (inA q hq)
  ·refine⟨?_,hNv q hq⟩
   rcases (hN q hq).2 with ⟨b,hb,hbk⟩ | hf
   ·rw [hbk];exact (h.sep2 b (inB b hb)).1
   ·exact hf.not hgl
  ·exact base (inC q hq)
 ·have nOld:∀ q∈N,∀ p,p∈A∨p∈C→∀ k,q.pv.ownBlock=some k→p.pv.ownBlock≠some k:=by
   intro q hq p hp k hk hpk
   obtain⟨hpin,hpo⟩:=old p hp
   rcases (hN q hq).2 with ⟨b,hb,hbk⟩ | hf
   ·exact hpo k hpk (.inr (.inr ⟨b,hb,hbk▸hk⟩))
   ·exact absurd ((h.pg p hpin).lt k hpk) (Nat.not_lt.2 (hf k hk))
  rw [List.pairwise_append,List.pairwise_append]
  refine⟨⟨sA,hNN,fun p hp q hq k hpk hqk=>nOld q hq p (.inl hp) k hqk hpk⟩,sC,fun p hp q hq k hpk hqk=>?_⟩
  rw [List.mem_append] at hp
  rcases hp with hp | hp
  ·exact sABC p (List.mem_append_left _ hp) q hq k hpk hqk
  ·exact nOld p hp q (.inr hq) k hpk hqk
 ·intro k hk hms
  obtain⟨_,k2,k3⟩:=md' k hk
  rcases ms' k hms with h1 | h1
  ·exact k3 h1
  ·omega
 ·intro k hk
  exact Nat.lt_of_lt_of_le (md' k hk).2.1 hm.size
open Go.Gl Go.RowKit
theorem yP:(Try.prog.info? 153).map (fun i=>(i.zero,i.size,i.bytes))=some (some (.slice none 0 0),1,24):=by kernel_rfl
theorem Bc {w:World}{v:Value}{n:Nat}{xs ys:List Value}{ug uo uc:Nat} (hv:aU w 153 1 v n xs) (hu:OB w 153 1 ug uo 1 uc ys) (h1:∀ y∈ys,y.oneCell'=true) (hn:n≤1000000) :
  Calls Try.prog 92 #[v,.int .i64 n,.slice (some ⟨ug,uo,none⟩) 1 uc] w fun r w'=>∃ v',r = .returned v'∧aU w' 153 1 v' (n+1) (xs ++ ys)∧ae (fK v) w w'∧(v'.ownBlock=v.ownBlock∨aI w v'):=by
 obtain⟨inf,hi,hz,hs,hb⟩:=info_parts yP
 have hrd:=aU.rd hu.own
 have key:=fun (ops:Array Oper) (Q:Exit→Act→World→Prop) (rest:List Oper) (o:Oper) (a:Act) (s x:Operand) (hgd:o.guard=none) (ho:o.op = .call { callee := .builtin .append,args:=#[s,x],argTypes:=#[116,116] }) (h2:a.eval s=v) (h3:a.eval x = .slice (some ⟨ug,uo,none⟩) 1 uc) (h) =>
  lN (P:=Try.prog) (ops:=ops) (Q:=Q) (rest:=rest) (w:=w) hgd ho Try.underlying116 Try.underlying116 hi hz (by rw [hs];rfl) h2 (by rw [hs];exact hv) h3 (by rw [hs];exact hrd) h1 (by unfold maxLen;omega) (by rw [hb];omega) h
 obtain⟨a,c,hvv,hcap,hc6⟩:∃ a c,v = .slice a n c∧n≤c∧c≤9223372036854775807:=by
  rcases hv.ob with ⟨h,rfl,_⟩ | ⟨g,off,cap,h,ob⟩
  ·exact⟨none,0,h,by omega,by omega⟩
  ·exact⟨_,cap,h,ob.hn,by simpa [maxLen] using ob.hc⟩
 have KY:=lh key
 have HS:=lh hs
 subst hvv
 clear hv hrd h1 hi hz hs hb hu key
 have hnc:n≤c:=hcap
 have hc63:c≤9223372036854775807:=hc6
 clear hcap hc6
 by_cases hcn:c=n
 case pos=>(subst hcn;go_enter Try.func92,Try.ntmps92;go_wp2_with (at_builtin;refine stop ?_);unfold Stop;refine KY.out _ _ _ _ _ _ _ rfl rfl rfl rfl ?_;intro v' w' o1 m1 f1;rw [HS.out] at o1;have O:=lh (And.intro o1 (And.intro m1 f1));obtain⟨a1,c1,rfl,_⟩:=(aU.rd o1).form;clear o1 m1 f1;go_wp2;go_ret;exact⟨_,rfl,O.out.1,O.out.2.1,O.out.2.2⟩)
 have hcn':(n:Int)<(c:Int):=by omega
 (go_enter Try.func92,Try.ntmps92;go_wp2_with (at_builtin;refine stop ?_);unfold Stop;refine KY.out _ _ _ _ _ _ _ rfl rfl rfl rfl ?_;intro v' w' o1 m1 f1;rw [HS.out] at o1;have O:=lh (And.intro o1 (And.intro m1 f1));obtain⟨a1,c1,rfl,_⟩:=(aU.rd o1).form;clear o1 m1 f1;go_wp2;go_ret;exact⟨_,rfl,O.out.1,O.out.2.1,O.out.2.2⟩)
theorem Ae {s n i:Nat}{xs ys:List Value} (hx:xs.length=n*s) (hy:ys.length=s) (hi:i≤n) (j:Nat) (u:Value) (hj:(xs.take (i*s) ++ ys ++ xs.drop (i*s))[j]?=some u) :
  if i*s≤j∧j<i*s+ys.length then ys[j - i*s]?=some u else if j<i*s then xs[j]?=some u else xs[j - s]?=some u:=by
 have h1:i*s≤n*s:=Nat.mul_le_mul_right _ hi
 have ht:(xs.take (i*s)).length=i*s:=by rw [List.length_take];omega
 by_cases c1:j<i*s
 ·rw [List.append_assoc,List.getElem?_append_left (by omega),List.getElem?_take_of_lt c1] at hj
  rw [if_neg (by omega),if_pos c1]
  exact hj
 ·by_cases c2:j<i*s+ys.length
  ·rw [List.getElem?_append_left (by rw [List.length_append];omega),List.getElem?_append_right (by omega),ht] at hj
   rw [if_pos (by omega)]
   exact hj
  ·rw [List.getElem?_append_right (by rw [List.length_append];omega),List.length_append,ht,List.getElem?_drop] at hj
   rw [if_neg (by omega),if_neg c1,← hj]
   congr 1
   omega
theorem wO {s n i:Nat}{xs ys:List Value} (hx:xs.length=n*s) (hy:ys.length=s):(xs.take (i*s) ++ ys ++ xs.drop (i*s)).length=(n+1)*s:=by
 rw [List.length_append,List.length_append,Nat.add_mul,Nat.one_mul]
 have:=List.take_append_drop (i*s) xs
 have:=congrArg List.length this
 rw [List.length_append] at this
 omega
theorem ov1 {w:World}{g off n c:Nat}{xs:List Value}{ug uo uc:Nat}{ys:List Value} (hv:OB w 153 1 g off n c xs) (hu:OB w 153 1 ug uo 1 uc ys) (hne:ug≠g) (hc:0<c) (o2 lb cb:Nat) :
  (Extern.SlicesOverlaps.overlaps #[116,116] #[4] #[.slice (some ⟨ug,uo,none⟩) 1 uc,.slice (some ⟨g,o2,none⟩) lb cb]).run Try.prog w = .ok (.bool false) w:=by
 obtain⟨cv,hv1,hv2,_⟩:=hv.row
 obtain⟨cu,hu1,hu2,_⟩:=hu.row
 exact Lib.run_overlaps_apart w 116 4 153 Try.underlying116 1 Try.sizeOf153 ⟨ug,uo,none⟩ ⟨g,o2,none⟩ 1 uc lb cb hne 153 153 cu.size cv.size (by simp [World.shape?,hu1]) (by simp [World.shape?,hv1]) (by omega) (dw hu1 _) (dw hu1 _)
theorem Dx {w:World}{g off n c i:Nat}{xs ys:List Value} (h:OB w 153 1 g off n c xs) (hy:ys.length=1) (hi:i<n) (hc:n<c):OB ((w.setCells g (off+(i+1)*1) (xs.drop (i*1))).setCells g (off+i*1) ys) 153 1 g off (n+1) c (xs.take (i*1) ++ ys ++ xs.drop (i*1)):=by
 have hl:=h.hl
 have hd:(xs.drop (i*1)).length=(n - i)*1:=by rw [List.length_drop];omega
 have ht:(xs.take ((i+1)*1)).length=(i+1)*1:=by rw [List.length_take];omega
 have h1:=h.set ((i+1)*1) (xs.drop (i*1)) (by omega) (n+1) (xs.take ((i+1)*1) ++ xs.drop (i*1)) (by omega) (by rw [List.length_append,ht,hd];omega) (fun j u hj=>by
  by_cases hc:j<(i+1)*1
  ·rw [if_neg (by omega)]
   rw [List.getElem?_append_left (by omega),List.getElem?_take_of_lt hc] at hj
   exact hj
  ·rw [List.getElem?_append_right (by omega),ht] at hj
   have:=(List.getElem?_eq_some_iff.1 hj).1
   rw [if_pos (by omega)]
   exact hj)
 refine h1.set (i*1) ys (by omega) (n+1) _ (by omega) (wO hl hy) (fun j u hj=>?_)
 have h2:=Ae hl hy (Nat.le_of_lt hi) j u hj
 by_cases hc:i*1≤j∧j<i*1+ys.length
 ·rw [if_pos hc] at h2 ⊢
  exact h2
 ·rw [if_neg hc] at h2 ⊢
  by_cases hc2:j<i*1
  ·rw [if_pos hc2] at h2
   rw [List.getElem?_append_left (by omega),List.getElem?_take_of_lt (by omega)]
   exact h2
  ·rw [if_neg hc2] at h2
   rw [List.getElem?_append_right (by omega),ht,List.getElem?_drop,← h2]
   congr 1
   omega
theorem D9 {w:World}{g off n c i:Nat}{xs ys:List Value}{ug uo uc:Nat} (hv:OB w 153 1 g off n c xs) (hu:OB w 153 1 ug uo 1 uc ys) (hne:ug≠g) (h0:∀ y∈xs,y.oneCell'=true) (h1:∀ y∈ys,y.oneCell'=true) (hi:i<n) (hc:n<c) (hn:n≤1000000) :
  Calls Try.prog 92 #[.slice (some ⟨g,off,none⟩) n c,.int .i64 i,.slice (some ⟨ug,uo,none⟩) 1 uc] w fun r w'=>r = .returned (.slice (some ⟨g,off,none⟩) (n+1) c)∧OB w' 153 1 g off (n+1) c (xs.take (i*1) ++ ys ++ xs.drop (i*1))∧ae (fun k=>k=g) w w':=by
 obtain⟨inf,hinf,_,hsz,_⟩:=info_parts yP
 have HI:=lh (And.intro hinf hsz)
 clear hinf hsz
 have OV:=lh (fun (o2 lb cb:Nat)=>ov1 hv hu hne (by omega) o2 lb cb)
 have hc63:c≤9223372036854775807:=by simpa [maxLen] using hv.hc
 have HV:=lh hv
 have HU:=lh hu
 have H0:=lh h0
 have H1:=lh h1
 clear hv hu h0 h1
 have hin:((i:Int) == (n:Int))=false:=by simp;omega
 have hgt:¬ (c:Int)<(n:Int)+1:=by omega
 go_enter Try.func92,Try.ntmps92
 go_wp2_with fail
 rw [run_callFunc_extern Try.func126 (by kernel_rfl) (by kernel_rfl) (by kernel_rfl) (e:=Extern.SlicesOverlaps.overlaps #[116,116] #[4]) (by kernel_rfl),OV.out]
 simp only [Result.andThen]
 rw [Oper.upon_value]
 go_wp2_with fail
 have CP1:=lh (fun (ty:TypeId) (q d1 c2 o2 o3 l1 l2:Nat) (e2:o2=off+(i+1)*1) (e3:o3=off+i*1) (e4:l1=n - i) (e5:l2=n+1 - i)=>show (Builtin.copy_ #[116,116] ty #[.slice (some ⟨g,o2,none⟩) l1 d1,.slice (some ⟨g,o3,none⟩) l2 c2]).run Try.prog (w.drewN q) = .ok (goInt (n - i:Nat)) ((w.drewN q).setCells g (off+(i+1)*1) (xs.drop (i*1))) from by
  subst e2 e3 e4 e5
  exact gz (P:=Try.prog) (w.drewN q) 116 116 ty 153 inf g (off+(i+1)*1) (n - i) d1 ⟨g,off+i*1,none⟩ (n+1 - i) c2 (n - i) (xs.drop (i*1)) Try.underlying116 HI.out.1 (by show min _ _=_;omega) (by rw [HI.out.2,List.length_drop,HV.out.hl];omega)
    (fun j v hj=>by rw [Addr.add_lit];rw [List.getElem?_drop] at hj;have:=HV.out.cell hj;rw [show off+i*1+j=off+(i*1+j) from by omega];exact this)
    (fun j hj=>by rw [List.length_drop,HV.out.hl] at hj;rw [show off+(i+1)*1+j=off+((i+1)*1+j) from by omega];exact HV.out.there (by omega))
    (fun j hj=>HV.out.free _) (fun v hv=>H0.out v (List.mem_of_mem_drop hv)))
 have w1:IntKind.i64.wrap ((i:Int)+1)=(i:Int)+1:=IntWalk.i64_in _ (by omega)
 have b1:(0:Int)≤(i:Int)+1:=by omega
 have b2:(i:Int)+1≤((n+1:Nat):Int):=by omega
 have b3:((i:Int)+1).toNat=i+1:=by omega
 have b4:(i:Int)≤((n+1:Nat):Int):=by omega
 have b5:(0:Int)≤(i:Int):=by omega
 have b6:i+1≤n+1:=by omega
 have b7:i≤n+1:=by omega
 have b8:¬ (i+1=c):=by omega
 have b9:¬ (c=i+1):=by omega
 have b10:¬ (i=c):=by omega
 have b11:i+1<c:=by omega
 have b12:¬ c≤i+1:=by omega
 have b13:i≤n:=by omega
 have b14:(i:Int)≤(n:Int)+1:=by omega
 have b15:¬ (c=i):=by omega
 go_still_tail 8,(by kernel_rfl)
 change wpList _ _ _ _ _ w.drew
 clear w1 b1 b2 b3 b4 b5 b6 b7 b8 b9 b10 b11 b12 b13 b14 b15
 refine kY rfl rfl rfl rfl (CP1.out _ 1 _ _ _ _ _ _ (by omega) (by omega) (by omega) (by omega)) ?_
 have HB2:=lh (Dx (ys:=ys) (HV.out.keep (w':=w.drewN 1) ((ae.refl aj w).drewN 1) (fun x=>x)) (by rw [HU.out.hl,Nat.one_mul]) hi hc)
 have M1:=lh (((ae.refl (fun k=>k=g) w).drewN 1).trans (dO (w.drewN 1) g (off+(i+1)*1) (xs.drop (i*1))) (fun _ _ x=>x) (fun _ _ x=>x))
 have CP2:=lh (fun (ty:TypeId) (d1 o2 l1:Nat) (e2:o2=off+i*1) (e4:l1=n+1 - i)=>show (Builtin.copy_ #[116,116] ty #[.slice (some ⟨g,o2,none⟩) l1 d1,.slice (some ⟨ug,uo,none⟩) 1 uc]).run Try.prog ((w.drewN 1).setCells g (off+(i+1)*1) (xs.drop (i*1))) = .ok (goInt (1:Nat)) (((w.drewN 1).setCells g (off+(i+1)*1) (xs.drop (i*1))).setCells g (off+i*1) ys) from by
  subst e2 e4
  exact gz (P:=Try.prog) ((w.drewN 1).setCells g (off+(i+1)*1) (xs.drop (i*1))) 116 116 ty 153 inf g (off+i*1) (n+1 - i) d1 ⟨ug,uo,none⟩ 1 uc 1 ys Try.underlying116 HI.out.1 (by show min _ _=_;omega) (by rw [HI.out.2,HU.out.hl])
    (fun j v hj=>by rw [Addr.add_lit];exact (HU.out.keep M1.out hne).cell hj)
    (fun j hj=>by
     rw [HU.out.hl] at hj
     obtain⟨cur,k1,k2,k3⟩:=HV.out.row
     have k4:=(lF (xs.drop (i*1)) cur (off+(i+1)*1) (w.drewN 1) k1).1
     rw [ai k4,Array.getElem?_eq_getElem (by rw [qW];omega)]
     rfl)
    (fun j hj=>by
     obtain⟨cur,k1,k2,k3⟩:=HV.out.row
     exact dw (lF (xs.drop (i*1)) cur (off+(i+1)*1) (w.drewN 1) k1).1 _) H1.out)
 generalize World.setCells (w.drewN 1) g (off+(i+1)*1) (xs.drop (i*1))=w1 at *
 go_wp2_with fail
 rw [CP2.out _ _ _ _ (by omega) (by omega)]
 simp only [Result.andThen]
 rw [Oper.upon_value]
 have M5:=lh (M1.out.trans (dO w1 g (off+i*1) ys) (fun _ _ x=>x) (fun _ _ x=>x))
 generalize World.setCells w1 _ _ _=w5 at *
 go_wp2
 go_ret
 exact⟨rfl,HB2.out,M5.out⟩
theorem C9 {w w2:World}{g n c i:Nat}{xs ys Z:List Value} (h:OB w 153 1 g 0 (n+1) c (xs.take (i*1) ++ Z)) (hx:xs.length=n*1) (hy:ys.length=1) (hi:i<n) (w1:World) (h1:w1=w.setCells g (0+i*1) ys) (h2:OB w1 153 1 g 0 (n+1) c (xs.take (i*1) ++ ys ++ Z.drop 1)→OB w2 153 1 g 0 (n+1) c (xs.take (i*1) ++ ys ++ Z.drop 1)) :
  OB w1 153 1 g 0 (n+1) c (xs.take (i*1) ++ ys ++ Z.drop 1)∧OB (w2.setCells g (0+(i+1)*1) (xs.drop (i*1))) 153 1 g 0 (n+1) c (xs.take (i*1) ++ ys ++ xs.drop (i*1)):=by
 have hl:=h.hl
 have hn:=h.hn
 have ht:(xs.take (i*1)).length=i*1:=by rw [List.length_take];omega
 have hd:(xs.drop (i*1)).length=(n - i)*1:=by rw [List.length_drop];omega
 rw [List.length_append,ht] at hl
 have k1:OB w1 153 1 g 0 (n+1) c (xs.take (i*1) ++ ys ++ Z.drop 1):=by
  rw [h1]
  refine h.set (i*1) ys (by omega) (n+1) _ hn (by rw [List.length_append,List.length_append,List.length_drop,ht,hy];omega) (fun j u hj=>?_)
  by_cases c1:j<i*1
  ·rw [if_neg (by omega)]
   rw [List.append_assoc,List.getElem?_append_left (by omega)] at hj
   rw [List.getElem?_append_left (by omega)]
   exact hj
  ·by_cases c2:j<i*1+ys.length
   ·rw [if_pos (by omega)]
    rw [List.getElem?_append_left (by rw [List.length_append];omega),List.getElem?_append_right (by omega),ht] at hj
    exact hj
   ·rw [if_neg (by omega)]
    rw [List.getElem?_append_right (by rw [List.length_append];omega),List.length_append,ht,List.getElem?_drop] at hj
    rw [List.getElem?_append_right (by omega),ht,← hj]
    congr 1
    omega
 refine⟨k1,(h2 k1).set ((i+1)*1) (xs.drop (i*1)) (by omega) (n+1) _ hn (wO hx hy) (fun j u hj=>?_)⟩
 have h3:=Ae hx hy (Nat.le_of_lt hi) j u hj
 by_cases c1:j<i*1
 ·rw [if_neg (by omega)]
  rw [if_neg (by omega),if_pos c1] at h3
  rw [List.append_assoc,List.getElem?_append_left (by omega),List.getElem?_take_of_lt c1]
  exact h3
 ·by_cases c2:j<i*1+ys.length
  ·rw [if_neg (by omega)]
   rw [if_pos (by omega)] at h3
   rw [List.getElem?_append_left (by rw [List.length_append];omega),List.getElem?_append_right (by omega),ht]
   exact h3
  ·have:=(List.getElem?_eq_some_iff.1 hj).1
   rw [wO hx hy] at this
   rw [if_pos (by omega)]
   rw [if_neg (by omega),if_neg c1] at h3
   rw [List.getElem?_drop,← h3]
   congr 1
   omega
theorem Dy {w:World}{g off n i:Nat}{xs ys:List Value}{ug uo uc:Nat} (hv:OB w 153 1 g off n n xs) (hu:OB w 153 1 ug uo 1 uc ys) (h0:∀ y∈xs,y.oneCell'=true) (h1:∀ y∈ys,y.oneCell'=true) (hi:i<n) (hn:n≤1000000) :
  Calls Try.prog 92 #[.slice (some ⟨g,off,none⟩) n n,.int .i64 i,.slice (some ⟨ug,uo,none⟩) 1 uc] w fun r w'=>∃ v',r = .returned v'∧aU w' 153 1 v' (n+1) (xs.take (i*1) ++ ys ++ xs.drop (i*1))∧ae aj w w'∧aI w v':=by
 obtain⟨inf,hinf,hz0,hsz,hby⟩:=info_parts yP
 have hold:(Builtin.firstCells inf.size i (.slice (some ⟨g,off,none⟩) i n)).run Try.prog w.drew = .ok (xs.take (i*1)).toArray w.drew:=by
  rw [hsz]
  refine run_firstCells_some w.drew 1 i ⟨g,off,none⟩ i n _ (by rw [List.length_take,hv.hl];omega) (fun j v hj=>?_)
  rw [Addr.add_lit]
  have hjl:=(List.getElem?_eq_some_iff.1 hj).1
  rw [List.length_take] at hjl
  rw [List.getElem?_take_of_lt (by omega)] at hj
  exact hv.cell hj
 obtain⟨Z,cap2,W2,hap,hob,hm2,hsz2⟩:∃ (Z:List Value) (cap2:Nat) (W2:World),(∀ ty,(Builtin.append_ #[116,3] ty #[.slice (some ⟨g,off,none⟩) i n,.int .i64 (n+1 - i:Nat)]).run Try.prog w = .ok (.slice (some ⟨w.heap.size,0,none⟩) (n+1) cap2) W2)∧OB W2 153 1 w.heap.size 0 (n+1) cap2 (xs.take (i*1) ++ Z)∧ae aj w W2∧W2.heap.size=w.heap.size+1:=by
  have e:i+(n+1 - i)=n+1:=by omega
  have hr:=fun ty=>Lib.run_append_grow_zeros (P:=Try.prog) w 116 3 ty 153 inf _ .i64 .i64 Try.underlying116 Try.underlying3 hinf hz0 (some ⟨g,off,none⟩) i n (xs.take (i*1)) hold (n+1 - i) (by omega) (by rw [hsz];omega) (by omega) (by omega) (by rw [hby];omega) (by rw [hby];exact growslice_fits (by omega) (by omega))
  have hge:=grownCap_ge w (n+1) n 153
  have hlm:=grownCap_le_maxLen w (n+1) n 153 (by unfold maxLen;omega)
  have hzc:∀ k,(Builtin.zeroCells (Value.cells (.slice none 0 0)) k).size=k*1:=fun k=>by rw [size_zeroCells];rfl
  have ht:(xs.take (i*1)).length=i*1:=by rw [List.length_take,hv.hl];omega
  rw [e] at hr
  refine⟨(Builtin.zeroCells (Value.cells (.slice none 0 0)) (n+1 - i)).toList,_,_,hr,⟨?_,hge,hlm,_,bC w.drew _,?_,?_⟩,((ae.refl aj w).drew).alloc _,by simp⟩
  ·rw [List.length_append,ht,Array.length_toList,hzc];omega
  ·simp only [Array.size_append,List.size_toArray,hzc,ht]
   omega
  ·intro j u hj
   have hjl:=(List.getElem?_eq_some_iff.1 hj).1
   rw [List.length_append,ht,Array.length_toList,hzc] at hjl
   rw [Nat.zero_add,Array.getElem?_append_left (by simp only [Array.size_append,List.size_toArray,hzc,ht];omega),← Array.getElem?_toList]
   simpa using hj
 have AP:=lh hap
 have HB:=lh (And.intro hob (And.intro hm2 hsz2))
 clear hap hob hm2 hsz2
 have HI:=lh (And.intro hinf (And.intro hz0 (And.intro hsz hby)))
 have HV:=lh hv
 have HU:=lh hu
 have H0:=lh h0
 have H1:=lh h1
 clear hv hu h0 h1 hold hinf hz0 hsz hby
 have hin:((i:Int) == (n:Int))=false:=by simp;omega
 have hgt:(n:Int)<(n:Int)+1:=by omega
 have hki:(n:Int)+1 - (i:Int)=((n+1 - i:Nat):Int):=by omega
 have hni:¬ (n=i):=by omega
 go_enter Try.func92,Try.ntmps92
 go_wp2_with (at_builtin;refine stop ?_)
 unfold Stop
 refine Lib.wpList_append_run _ rfl _ _ _ _ rfl _ _ rfl rfl _ _ (AP.out _) ?_
 have hg2:w.heap.size<W2.heap.size:=by rw [HB.out.2.2];omega
 obtain⟨g2,hg2e⟩:∃ g2,w.heap.size=g2:=⟨_,rfl⟩
 have HG:=lh hg2e
 rw [hg2e] at HB ⊢
 have hc2:n+1≤cap2:=HB.out.1.hn
 have hc263:cap2≤9223372036854775807:=by simpa [maxLen] using HB.out.1.hc
 have hnc:¬ (cap2=i):=by omega
 clear hg2 hg2e
 have HUG:=lh (show ug≠g2∧g≠g2 from⟨by have:=HU.out.lt;have:=HG.out;omega,by have:=HV.out.lt;have:=HG.out;omega⟩)
 have HZ:=lh (show Z.length=(n+1 - i)*1 from by have:=HB.out.1.hl;rw [List.length_append,List.length_take,HV.out.hl] at this;omega)
 obtain⟨w3,hw3⟩:∃ w3,W2.setCells g2 (0+i*1) ys=w3:=⟨_,rfl⟩
 have CP1:=lh (fun (ty:TypeId) (d1 o2:Nat) (ho:o2=0+i*1)=>show (Builtin.copy_ #[116,116] ty #[.slice (some ⟨g2,o2,none⟩) (n+1 - i) d1,.slice (some ⟨ug,uo,none⟩) 1 uc]).run Try.prog W2 = .ok (goInt (1:Nat)) w3 from by
  subst ho
  rw [← hw3]
  exact gz (P:=Try.prog) W2 116 116 ty 153 inf g2 (0+i*1) (n+1 - i) d1 ⟨ug,uo,none⟩ 1 uc 1 ys Try.underlying116 HI.out.1 (by show min _ _=_;omega) (by rw [HI.out.2.2.1,HU.out.hl])
   (fun j v hj=>by rw [Addr.add_lit];exact (HU.out.keep HB.out.2.1 (fun x=>x)).cell hj)
   (fun j hj=>by rw [HU.out.hl] at hj;rw [show 0+i*1+j=0+(i*1+j) from by omega];exact HB.out.1.there (by omega))
   (fun j hj=>HB.out.1.free _) H1.out)
 have OG2:=lh (C9 (w2:=w3.drewN 1) HB.out.1 HV.out.hl (by rw [HU.out.hl,Nat.one_mul]) hi w3 hw3.symm (fun h=>h.keep ((ae.refl aj w3).drewN 1) (fun x=>x)))
 have M3:=lh (show ae (fun k=>k=g2) W2 w3 from hw3▸dO W2 g2 (0+i*1) ys)
 have MM:=lh (HB.out.2.1.trans M3.out (U:=aj) (fun _ _ x=>x) (fun b hb e=>by have:=HG.out;omega))
 clear hw3 M3
 go_wp2_with fail
 rw [CP1.out _ _ _ (by omega)]
 simp only [Result.andThen]
 rw [Oper.upon_value]
 clear CP1
 go_wp2_with fail
 obtain⟨w4,hw4⟩:∃ w4,(w3.drewN 1).setCells g2 (0+(i+1)*1) (xs.drop (i*1))=w4:=⟨_,rfl⟩
 have CP2:=lh (fun (ty:TypeId) (d1 c1 o2 o3:Nat) (ho:o2=0+(i+1)*1) (ho3:o3=off+i*1)=>show (Builtin.copy_ #[116,116] ty #[.slice (some ⟨g2,o2,none⟩) (n - i) d1,.slice (some ⟨g,o3,none⟩) (n - i) c1]).run Try.prog (w3.drewN 1) = .ok (goInt (n - i:Nat)) w4 from by
  subst ho ho3
  rw [← hw4]
  exact gz (P:=Try.prog) (w3.drewN 1) 116 116 ty 153 inf g2 (0+(i+1)*1) (n - i) d1 ⟨g,off+i*1,none⟩ (n - i) c1 (n - i) (xs.drop (i*1)) Try.underlying116 HI.out.1 (by show min _ _=_;omega) (by rw [HI.out.2.2.1,List.length_drop,HV.out.hl];omega)
   (fun j v hj=>by rw [Addr.add_lit];rw [List.getElem?_drop] at hj;have:=((HV.out.keep MM.out (fun x=>x)).keep ((ae.refl aj w3).drewN 1) (fun x=>x)).cell hj;rw [show off+i*1+j=off+(i*1+j) from by omega];exact this)
   (fun j hj=>by rw [List.length_drop,HV.out.hl] at hj;rw [show 0+(i+1)*1+j=0+((i+1)*1+j) from by omega];exact (OG2.out.1.keep ((ae.refl aj w3).drewN 1) (fun x=>x)).there (by omega))
   (fun j hj=>(OG2.out.1.keep ((ae.refl aj w3).drewN 1) (fun x=>x)).free _) (fun v hv=>H0.out v (List.mem_of_mem_drop hv)))
 have M4:=lh (show ae (fun k=>k=g2) (w3.drewN 1) w4 from hw4▸dO (w3.drewN 1) g2 (0+(i+1)*1) (xs.drop (i*1)))
 have FIN:=lh (hw4▸OG2.out.2)
 clear hw4
 have w1:IntKind.i64.wrap ((i:Int)+1)=(i:Int)+1:=IntWalk.i64_in _ (by omega)
 have b1:(0:Int)≤(i:Int)+1:=by omega
 have b2:(i:Int)+1≤((n+1:Nat):Int):=by omega
 have b3:((i:Int)+1).toNat=i+1:=by omega
 have b5:(0:Int)≤(i:Int):=by omega
 have b6:i+1≤n+1:=by omega
 have b7:i≤n:=by omega
 have b8:¬ (i+1=cap2):=by omega
 have b9:¬ (cap2=i+1):=by omega
 have b14:(i:Int)≤(n:Int):=by omega
 go_still_tail 8,(by kernel_rfl)
 change wpList _ _ _ _ _ (w3.drewN 1)
 clear w1 b1 b2 b3 b5 b6 b7 b8 b9 b14
 refine kY rfl rfl rfl rfl (CP2.out _ _ _ _ _ (by omega) (by omega)) ?_
 go_wp2
 go_ret
 exact⟨_,rfl,FIN.out.own,(MM.out.drewN 1).trans M4.out (U:=aj) (fun _ _ x=>x) (fun b hb e=>by have:=HG.out;omega),fun k hk=>by simp [Value.ownBlock] at hk;have:=HG.out;omega⟩
theorem Be {w:World}{v:Value}{n i:Nat}{xs ys:List Value}{ug uo uc:Nat} (hv:aU w 153 1 v n xs) (hu:OB w 153 1 ug uo 1 uc ys) (hne:v.ownBlock≠some ug) (h0:∀ y∈xs,y.oneCell'=true) (h1:∀ y∈ys,y.oneCell'=true) (hi:i≤n) (hn:n≤1000000) :
  Calls Try.prog 92 #[v,.int .i64 i,.slice (some ⟨ug,uo,none⟩) 1 uc] w fun r w'=>∃ v',r = .returned v'∧aU w' 153 1 v' (n+1) (xs.take (i*1) ++ ys ++ xs.drop (i*1))∧ae (fK v) w w'∧(v'.ownBlock=v.ownBlock∨aI w v'):=by
 by_cases hin:i=n
 ·subst hin
  refine (Bc hv hu h1 hn).mono ?_
  rintro r w' ⟨v',rfl,k1,k2,k3⟩
  refine⟨v',rfl,?_,k2,k3⟩
  rw [List.take_of_length_le (by rw [hv.1];exact Nat.le_refl _),List.drop_of_length_le (by rw [hv.1];exact Nat.le_refl _),List.append_nil]
  exact k1
 ·rcases hv.ob with ⟨_,h2,_⟩ | ⟨g,off,c,rfl,ob⟩
  ·omega
  by_cases hc:c=n
  ·subst hc
   refine (Dy ob hu h0 h1 (by omega) hn).mono ?_
   rintro r w' ⟨v',rfl,k1,k2,k3⟩
   exact⟨v',rfl,k1,k2.mono (fun _ _ x=>x.elim),.inr k3⟩
  ·refine (D9 ob hu (fun e=>hne (by rw [e];rfl)) h0 h1 (by omega) (by have:=ob.hn;omega) hn).mono ?_
   rintro r w' ⟨rfl,k1,k2⟩
   exact⟨_,rfl,k1.own,k2.mono (fun k _ e=>by rw [e];rfl),.inl rfl⟩
open Go.Gl Go.RowKit
theorem qm:(Try.prog.info? 131).map (fun i=>(i.zero,i.size,i.bytes))=some (some (.agg #[.slice none 0 0,.slice none 0 0]),2,48):=by kernel_rfl
theorem Ci {w:World}{v:Value}{n:Nat}{xs ys:List Value}{ug uo uc:Nat} (hv:aU w 131 2 v n xs) (hu:OB w 131 2 ug uo 1 uc ys) (h1:∀ y∈ys,y.oneCell'=true) (hn:n≤1000000) :
  Calls Try.prog 90 #[v,.int .i64 n,.slice (some ⟨ug,uo,none⟩) 1 uc] w fun r w'=>∃ v',r = .returned v'∧aU w' 131 2 v' (n+1) (xs ++ ys)∧ae (fK v) w w'∧(v'.ownBlock=v.ownBlock∨aI w v'):=by
 obtain⟨inf,hi,hz,hs,hb⟩:=info_parts qm
 have hrd:=aU.rd hu.own
 have key:=fun (ops:Array Oper) (Q:Exit→Act→World→Prop) (rest:List Oper) (o:Oper) (a:Act) (s x:Operand) (hgd:o.guard=none) (ho:o.op = .call { callee := .builtin .append,args:=#[s,x],argTypes:=#[153,153] }) (h2:a.eval s=v) (h3:a.eval x = .slice (some ⟨ug,uo,none⟩) 1 uc) (h) =>
  lN (P:=Try.prog) (ops:=ops) (Q:=Q) (rest:=rest) (w:=w) hgd ho Try.underlying153 Try.underlying153 hi hz (by rw [hs];rfl) h2 (by rw [hs];exact hv) h3 (by rw [hs];exact hrd) h1 (by unfold maxLen;omega) (by rw [hb];omega) h
 obtain⟨a,c,hvv,hcap,hc6⟩:∃ a c,v = .slice a n c∧n≤c∧c≤9223372036854775807:=by
  rcases hv.ob with ⟨h,rfl,_⟩ | ⟨g,off,cap,h,ob⟩
  ·exact⟨none,0,h,by omega,by omega⟩
  ·exact⟨_,cap,h,ob.hn,by simpa [maxLen] using ob.hc⟩
 have KY:=lh key
 have HS:=lh hs
 subst hvv
 clear hv hrd h1 hi hz hs hb hu key
 have hnc:n≤c:=hcap
 have hc63:c≤9223372036854775807:=hc6
 clear hcap hc6
 by_cases hcn:c=n
 case pos=>(subst hcn;go_enter Try.func90,Try.ntmps90;go_wp2_with (at_builtin;refine stop ?_);unfold Stop;refine KY.out _ _ _ _ _ _ _ rfl rfl rfl rfl ?_;intro v' w' o1 m1 f1;rw [HS.out] at o1;have O:=lh (And.intro o1 (And.intro m1 f1));obtain⟨a1,c1,rfl,_⟩:=(aU.rd o1).form;clear o1 m1 f1;go_wp2;go_ret;exact⟨_,rfl,O.out.1,O.out.2.1,O.out.2.2⟩)
 have hcn':(n:Int)<(c:Int):=by omega
 (go_enter Try.func90,Try.ntmps90;go_wp2_with (at_builtin;refine stop ?_);unfold Stop;refine KY.out _ _ _ _ _ _ _ rfl rfl rfl rfl ?_;intro v' w' o1 m1 f1;rw [HS.out] at o1;have O:=lh (And.intro o1 (And.intro m1 f1));obtain⟨a1,c1,rfl,_⟩:=(aU.rd o1).form;clear o1 m1 f1;go_wp2;go_ret;exact⟨_,rfl,O.out.1,O.out.2.1,O.out.2.2⟩)
theorem zQ {s n i:Nat}{xs ys:List Value} (hx:xs.length=n*s) (hy:ys.length=s) (hi:i≤n) (j:Nat) (u:Value) (hj:(xs.take (i*s) ++ ys ++ xs.drop (i*s))[j]?=some u) :
  if i*s≤j∧j<i*s+ys.length then ys[j - i*s]?=some u else if j<i*s then xs[j]?=some u else xs[j - s]?=some u:=by
 have h1:i*s≤n*s:=Nat.mul_le_mul_right _ hi
 have ht:(xs.take (i*s)).length=i*s:=by rw [List.length_take];omega
 by_cases c1:j<i*s
 ·rw [List.append_assoc,List.getElem?_append_left (by omega),List.getElem?_take_of_lt c1] at hj
  rw [if_neg (by omega),if_pos c1]
  exact hj
 ·by_cases c2:j<i*s+ys.length
  ·rw [List.getElem?_append_left (by rw [List.length_append];omega),List.getElem?_append_right (by omega),ht] at hj
   rw [if_pos (by omega)]
   exact hj
  ·rw [List.getElem?_append_right (by rw [List.length_append];omega),List.length_append,ht,List.getElem?_drop] at hj
   rw [if_neg (by omega),if_neg c1,← hj]
   congr 1
   omega
theorem wR {s n i:Nat}{xs ys:List Value} (hx:xs.length=n*s) (hy:ys.length=s):(xs.take (i*s) ++ ys ++ xs.drop (i*s)).length=(n+1)*s:=by
 rw [List.length_append,List.length_append,Nat.add_mul,Nat.one_mul]
 have:=List.take_append_drop (i*s) xs
 have:=congrArg List.length this
 rw [List.length_append] at this
 omega
theorem ov2 {w:World}{g off n c:Nat}{xs:List Value}{ug uo uc:Nat}{ys:List Value} (hv:OB w 131 2 g off n c xs) (hu:OB w 131 2 ug uo 1 uc ys) (hne:ug≠g) (hc:0<c) (o2 lb cb:Nat) :
  (Extern.SlicesOverlaps.overlaps #[153,153] #[4] #[.slice (some ⟨ug,uo,none⟩) 1 uc,.slice (some ⟨g,o2,none⟩) lb cb]).run Try.prog w = .ok (.bool false) w:=by
 obtain⟨cv,hv1,hv2,_⟩:=hv.row
 obtain⟨cu,hu1,hu2,_⟩:=hu.row
 exact Lib.run_overlaps_apart w 153 4 131 Try.underlying153 2 Try.sizeOf131 ⟨ug,uo,none⟩ ⟨g,o2,none⟩ 1 uc lb cb hne 131 131 cu.size cv.size (by simp [World.shape?,hu1]) (by simp [World.shape?,hv1]) (by omega) (dw hu1 _) (dw hu1 _)
theorem DK {w:World}{g off n c i:Nat}{xs ys:List Value} (h:OB w 131 2 g off n c xs) (hy:ys.length=2) (hi:i<n) (hc:n<c):OB ((w.setCells g (off+(i+1)*2) (xs.drop (i*2))).setCells g (off+i*2) ys) 131 2 g off (n+1) c (xs.take (i*2) ++ ys ++ xs.drop (i*2)):=by
 have hl:=h.hl
 have hd:(xs.drop (i*2)).length=(n - i)*2:=by rw [List.length_drop];omega
 have ht:(xs.take ((i+1)*2)).length=(i+1)*2:=by rw [List.length_take];omega
 have h1:=h.set ((i+1)*2) (xs.drop (i*2)) (by omega) (n+1) (xs.take ((i+1)*2) ++ xs.drop (i*2)) (by omega) (by rw [List.length_append,ht,hd];omega) (fun j u hj=>by
  by_cases hc:j<(i+1)*2
  ·rw [if_neg (by omega)]
   rw [List.getElem?_append_left (by omega),List.getElem?_take_of_lt hc] at hj
   exact hj
  ·rw [List.getElem?_append_right (by omega),ht] at hj
   have:=(List.getElem?_eq_some_iff.1 hj).1
   rw [if_pos (by omega)]
   exact hj)
 refine h1.set (i*2) ys (by omega) (n+1) _ (by omega) (wR hl hy) (fun j u hj=>?_)
 have h2:=zQ hl hy (Nat.le_of_lt hi) j u hj
 by_cases hc:i*2≤j∧j<i*2+ys.length
 ·rw [if_pos hc] at h2 ⊢
  exact h2
 ·rw [if_neg hc] at h2 ⊢
  by_cases hc2:j<i*2
  ·rw [if_pos hc2] at h2
   rw [List.getElem?_append_left (by omega),List.getElem?_take_of_lt (by omega)]
   exact h2
  ·rw [if_neg hc2] at h2
   rw [List.getElem?_append_right (by omega),ht,List.getElem?_drop,← h2]
   congr 1
   omega
theorem DX {w:World}{g off n c i:Nat}{xs ys:List Value}{ug uo uc:Nat} (hv:OB w 131 2 g off n c xs) (hu:OB w 131 2 ug uo 1 uc ys) (hne:ug≠g) (h0:∀ y∈xs,y.oneCell'=true) (h1:∀ y∈ys,y.oneCell'=true) (hi:i<n) (hc:n<c) (hn:n≤1000000) :
  Calls Try.prog 90 #[.slice (some ⟨g,off,none⟩) n c,.int .i64 i,.slice (some ⟨ug,uo,none⟩) 1 uc] w fun r w'=>r = .returned (.slice (some ⟨g,off,none⟩) (n+1) c)∧OB w' 131 2 g off (n+1) c (xs.take (i*2) ++ ys ++ xs.drop (i*2))∧ae (fun k=>k=g) w w':=by
 obtain⟨inf,hinf,_,hsz,_⟩:=info_parts qm
 have HI:=lh (And.intro hinf hsz)
 clear hinf hsz
 have OV:=lh (fun (o2 lb cb:Nat)=>ov2 hv hu hne (by omega) o2 lb cb)
 have hc63:c≤9223372036854775807:=by simpa [maxLen] using hv.hc
 have HV:=lh hv
 have HU:=lh hu
 have H0:=lh h0
 have H1:=lh h1
 clear hv hu h0 h1
 have hin:((i:Int) == (n:Int))=false:=by simp;omega
 have hgt:¬ (c:Int)<(n:Int)+1:=by omega
 go_enter Try.func90,Try.ntmps90
 go_wp2_with fail
 rw [run_callFunc_extern Try.func124 (by kernel_rfl) (by kernel_rfl) (by kernel_rfl) (e:=Extern.SlicesOverlaps.overlaps #[153,153] #[4]) (by kernel_rfl),OV.out]
 simp only [Result.andThen]
 rw [Oper.upon_value]
 go_wp2_with fail
 have CP1:=lh (fun (ty:TypeId) (q d1 c2 o2 o3 l1 l2:Nat) (e2:o2=off+(i+1)*2) (e3:o3=off+i*2) (e4:l1=n - i) (e5:l2=n+1 - i)=>show (Builtin.copy_ #[153,153] ty #[.slice (some ⟨g,o2,none⟩) l1 d1,.slice (some ⟨g,o3,none⟩) l2 c2]).run Try.prog (w.drewN q) = .ok (goInt (n - i:Nat)) ((w.drewN q).setCells g (off+(i+1)*2) (xs.drop (i*2))) from by
  subst e2 e3 e4 e5
  exact gz (P:=Try.prog) (w.drewN q) 153 153 ty 131 inf g (off+(i+1)*2) (n - i) d1 ⟨g,off+i*2,none⟩ (n+1 - i) c2 (n - i) (xs.drop (i*2)) Try.underlying153 HI.out.1 (by show min _ _=_;omega) (by rw [HI.out.2,List.length_drop,HV.out.hl];omega)
    (fun j v hj=>by rw [Addr.add_lit];rw [List.getElem?_drop] at hj;have:=HV.out.cell hj;rw [show off+i*2+j=off+(i*2+j) from by omega];exact this)
    (fun j hj=>by rw [List.length_drop,HV.out.hl] at hj;rw [show off+(i+1)*2+j=off+((i+1)*2+j) from by omega];exact HV.out.there (by omega))
    (fun j hj=>HV.out.free _) (fun v hv=>H0.out v (List.mem_of_mem_drop hv)))
 have w1:IntKind.i64.wrap ((i:Int)+1)=(i:Int)+1:=IntWalk.i64_in _ (by omega)
 have b1:(0:Int)≤(i:Int)+1:=by omega
 have b2:(i:Int)+1≤((n+1:Nat):Int):=by omega
 have b3:((i:Int)+1).toNat=i+1:=by omega
 have b4:(i:Int)≤((n+1:Nat):Int):=by omega
 have b5:(0:Int)≤(i:Int):=by omega
 have b6:i+1≤n+1:=by omega
 have b7:i≤n+1:=by omega
 have b8:¬ (i+1=c):=by omega
 have b9:¬ (c=i+1):=by omega
 have b10:¬ (i=c):=by omega
 have b11:i+1<c:=by omega
 have b12:¬ c≤i+1:=by omega
 have b13:i≤n:=by omega
 have b14:(i:Int)≤(n:Int)+1:=by omega
 have b15:¬ (c=i):=by omega
 go_still_tail 8,(by kernel_rfl)
 change wpList _ _ _ _ _ w.drew
 clear w1 b1 b2 b3 b4 b5 b6 b7 b8 b9 b10 b11 b12 b13 b14 b15
 refine kY rfl rfl rfl rfl (CP1.out _ 1 _ _ _ _ _ _ (by omega) (by omega) (by omega) (by omega)) ?_
 have HB2:=lh (DK (ys:=ys) (HV.out.keep (w':=w.drewN 1) ((ae.refl aj w).drewN 1) (fun x=>x)) (by rw [HU.out.hl,Nat.one_mul]) hi hc)
 have M1:=lh (((ae.refl (fun k=>k=g) w).drewN 1).trans (dO (w.drewN 1) g (off+(i+1)*2) (xs.drop (i*2))) (fun _ _ x=>x) (fun _ _ x=>x))
 have CP2:=lh (fun (ty:TypeId) (d1 o2 l1:Nat) (e2:o2=off+i*2) (e4:l1=n+1 - i)=>show (Builtin.copy_ #[153,153] ty #[.slice (some ⟨g,o2,none⟩) l1 d1,.slice (some ⟨ug,uo,none⟩) 1 uc]).run Try.prog ((w.drewN 1).setCells g (off+(i+1)*2) (xs.drop (i*2))) = .ok (goInt (1:Nat)) (((w.drewN 1).setCells g (off+(i+1)*2) (xs.drop (i*2))).setCells g (off+i*2) ys) from by
  subst e2 e4
  exact gz (P:=Try.prog) ((w.drewN 1).setCells g (off+(i+1)*2) (xs.drop (i*2))) 153 153 ty 131 inf g (off+i*2) (n+1 - i) d1 ⟨ug,uo,none⟩ 1 uc 1 ys Try.underlying153 HI.out.1 (by show min _ _=_;omega) (by rw [HI.out.2,HU.out.hl])
    (fun j v hj=>by rw [Addr.add_lit];exact (HU.out.keep M1.out hne).cell hj)
    (fun j hj=>by
     rw [HU.out.hl] at hj
     obtain⟨cur,k1,k2,k3⟩:=HV.out.row
     have k4:=(lF (xs.drop (i*2)) cur (off+(i+1)*2) (w.drewN 1) k1).1
     rw [ai k4,Array.getElem?_eq_getElem (by rw [qW];omega)]
     rfl)
    (fun j hj=>by
     obtain⟨cur,k1,k2,k3⟩:=HV.out.row
     exact dw (lF (xs.drop (i*2)) cur (off+(i+1)*2) (w.drewN 1) k1).1 _) H1.out)
 generalize World.setCells (w.drewN 1) g (off+(i+1)*2) (xs.drop (i*2))=w1 at *
 go_wp2_with fail
 rw [CP2.out _ _ _ _ (by omega) (by omega)]
 simp only [Result.andThen]
 rw [Oper.upon_value]
 have M5:=lh (M1.out.trans (dO w1 g (off+i*2) ys) (fun _ _ x=>x) (fun _ _ x=>x))
 generalize World.setCells w1 _ _ _=w5 at *
 go_wp2
 go_ret
 exact⟨rfl,HB2.out,M5.out⟩
theorem Dj {w w2:World}{g n c i:Nat}{xs ys Z:List Value} (h:OB w 131 2 g 0 (n+1) c (xs.take (i*2) ++ Z)) (hx:xs.length=n*2) (hy:ys.length=2) (hi:i<n) (w1:World) (h1:w1=w.setCells g (0+i*2) ys) (h2:OB w1 131 2 g 0 (n+1) c (xs.take (i*2) ++ ys ++ Z.drop 2)→OB w2 131 2 g 0 (n+1) c (xs.take (i*2) ++ ys ++ Z.drop 2)) :
  OB w1 131 2 g 0 (n+1) c (xs.take (i*2) ++ ys ++ Z.drop 2)∧OB (w2.setCells g (0+(i+1)*2) (xs.drop (i*2))) 131 2 g 0 (n+1) c (xs.take (i*2) ++ ys ++ xs.drop (i*2)):=by
 have hl:=h.hl
 have hn:=h.hn
 have ht:(xs.take (i*2)).length=i*2:=by rw [List.length_take];omega
 have hd:(xs.drop (i*2)).length=(n - i)*2:=by rw [List.length_drop];omega
 rw [List.length_append,ht] at hl
 have k1:OB w1 131 2 g 0 (n+1) c (xs.take (i*2) ++ ys ++ Z.drop 2):=by
  rw [h1]
  refine h.set (i*2) ys (by omega) (n+1) _ hn (by rw [List.length_append,List.length_append,List.length_drop,ht,hy];omega) (fun j u hj=>?_)
  by_cases c1:j<i*2
  ·rw [if_neg (by omega)]
   rw [List.append_assoc,List.getElem?_append_left (by omega)] at hj
   rw [List.getElem?_append_left (by omega)]
   exact hj
  ·by_cases c2:j<i*2+ys.length
   ·rw [if_pos (by omega)]
    rw [List.getElem?_append_left (by rw [List.length_append];omega),List.getElem?_append_right (by omega),ht] at hj
    exact hj
   ·rw [if_neg (by omega)]
    rw [List.getElem?_append_right (by rw [List.length_append];omega),List.length_append,ht,List.getElem?_drop] at hj
    rw [List.getElem?_append_right (by omega),ht,← hj]
    congr 1
    omega
 refine⟨k1,(h2 k1).set ((i+1)*2) (xs.drop (i*2)) (by omega) (n+1) _ hn (wR hx hy) (fun j u hj=>?_)⟩
 have h3:=zQ hx hy (Nat.le_of_lt hi) j u hj
 by_cases c1:j<i*2
 ·rw [if_neg (by omega)]
  rw [if_neg (by omega),if_pos c1] at h3
  rw [List.append_assoc,List.getElem?_append_left (by omega),List.getElem?_take_of_lt c1]
  exact h3
 ·by_cases c2:j<i*2+ys.length
  ·rw [if_neg (by omega)]
   rw [if_pos (by omega)] at h3
   rw [List.getElem?_append_left (by rw [List.length_append];omega),List.getElem?_append_right (by omega),ht]
   exact h3
  ·have:=(List.getElem?_eq_some_iff.1 hj).1
   rw [wR hx hy] at this
   rw [if_pos (by omega)]
   rw [if_neg (by omega),if_neg c1] at h3
   rw [List.getElem?_drop,← h3]
   congr 1
   omega
theorem Dc {w:World}{g off n i:Nat}{xs ys:List Value}{ug uo uc:Nat} (hv:OB w 131 2 g off n n xs) (hu:OB w 131 2 ug uo 1 uc ys) (h0:∀ y∈xs,y.oneCell'=true) (h1:∀ y∈ys,y.oneCell'=true) (hi:i<n) (hn:n≤1000000) :
  Calls Try.prog 90 #[.slice (some ⟨g,off,none⟩) n n,.int .i64 i,.slice (some ⟨ug,uo,none⟩) 1 uc] w fun r w'=>∃ v',r = .returned v'∧aU w' 131 2 v' (n+1) (xs.take (i*2) ++ ys ++ xs.drop (i*2))∧ae aj w w'∧aI w v':=by
 obtain⟨inf,hinf,hz0,hsz,hby⟩:=info_parts qm
 have hold:(Builtin.firstCells inf.size i (.slice (some ⟨g,off,none⟩) i n)).run Try.prog w.drew = .ok (xs.take (i*2)).toArray w.drew:=by
  rw [hsz]
  refine run_firstCells_some w.drew 2 i ⟨g,off,none⟩ i n _ (by rw [List.length_take,hv.hl];omega) (fun j v hj=>?_)
  rw [Addr.add_lit]
  have hjl:=(List.getElem?_eq_some_iff.1 hj).1
  rw [List.length_take] at hjl
  rw [List.getElem?_take_of_lt (by omega)] at hj
  exact hv.cell hj
 obtain⟨Z,cap2,W2,hap,hob,hm2,hsz2⟩:∃ (Z:List Value) (cap2:Nat) (W2:World),(∀ ty,(Builtin.append_ #[153,3] ty #[.slice (some ⟨g,off,none⟩) i n,.int .i64 (n+1 - i:Nat)]).run Try.prog w = .ok (.slice (some ⟨w.heap.size,0,none⟩) (n+1) cap2) W2)∧OB W2 131 2 w.heap.size 0 (n+1) cap2 (xs.take (i*2) ++ Z)∧ae aj w W2∧W2.heap.size=w.heap.size+1:=by
  have e:i+(n+1 - i)=n+1:=by omega
  have hr:=fun ty=>Lib.run_append_grow_zeros (P:=Try.prog) w 153 3 ty 131 inf _ .i64 .i64 Try.underlying153 Try.underlying3 hinf hz0 (some ⟨g,off,none⟩) i n (xs.take (i*2)) hold (n+1 - i) (by omega) (by rw [hsz];omega) (by omega) (by omega) (by rw [hby];omega) (by rw [hby];exact growslice_fits (by omega) (by omega))
  have hge:=grownCap_ge w (n+1) n 131
  have hlm:=grownCap_le_maxLen w (n+1) n 131 (by unfold maxLen;omega)
  have hzc:∀ k,(Builtin.zeroCells (Value.cells (.agg #[.slice none 0 0,.slice none 0 0])) k).size=k*2:=fun k=>by rw [size_zeroCells];rfl
  have ht:(xs.take (i*2)).length=i*2:=by rw [List.length_take,hv.hl];omega
  rw [e] at hr
  refine⟨(Builtin.zeroCells (Value.cells (.agg #[.slice none 0 0,.slice none 0 0])) (n+1 - i)).toList,_,_,hr,⟨?_,hge,hlm,_,bC w.drew _,?_,?_⟩,((ae.refl aj w).drew).alloc _,by simp⟩
  ·rw [List.length_append,ht,Array.length_toList,hzc];omega
  ·simp only [Array.size_append,List.size_toArray,hzc,ht]
   omega
  ·intro j u hj
   have hjl:=(List.getElem?_eq_some_iff.1 hj).1
   rw [List.length_append,ht,Array.length_toList,hzc] at hjl
   rw [Nat.zero_add,Array.getElem?_append_left (by simp only [Array.size_append,List.size_toArray,hzc,ht];omega),← Array.getElem?_toList]
   simpa using hj
 have AP:=lh hap
 have HB:=lh (And.intro hob (And.intro hm2 hsz2))
 clear hap hob hm2 hsz2
 have HI:=lh (And.intro hinf (And.intro hz0 (And.intro hsz hby)))
 have HV:=lh hv
 have HU:=lh hu
 have H0:=lh h0
 have H1:=lh h1
 clear hv hu h0 h1 hold hinf hz0 hsz hby
 have hin:((i:Int) == (n:Int))=false:=by simp;omega
 have hgt:(n:Int)<(n:Int)+1:=by omega
 have hki:(n:Int)+1 - (i:Int)=((n+1 - i:Nat):Int):=by omega
 have hni:¬ (n=i):=by omega
 go_enter Try.func90,Try.ntmps90
 go_wp2_with (at_builtin;refine stop ?_)
 unfold Stop
 refine Lib.wpList_append_run _ rfl _ _ _ _ rfl _ _ rfl rfl _ _ (AP.out _) ?_
 have hg2:w.heap.size<W2.heap.size:=by rw [HB.out.2.2];omega
 obtain⟨g2,hg2e⟩:∃ g2,w.heap.size=g2:=⟨_,rfl⟩
 have HG:=lh hg2e
 rw [hg2e] at HB ⊢
 have hc2:n+1≤cap2:=HB.out.1.hn
 have hc263:cap2≤9223372036854775807:=by simpa [maxLen] using HB.out.1.hc
 have hnc:¬ (cap2=i):=by omega
 clear hg2 hg2e
 have HUG:=lh (show ug≠g2∧g≠g2 from⟨by have:=HU.out.lt;have:=HG.out;omega,by have:=HV.out.lt;have:=HG.out;omega⟩)
 have HZ:=lh (show Z.length=(n+1 - i)*2 from by have:=HB.out.1.hl;rw [List.length_append,List.length_take,HV.out.hl] at this;omega)
 obtain⟨w3,hw3⟩:∃ w3,W2.setCells g2 (0+i*2) ys=w3:=⟨_,rfl⟩
 have CP1:=lh (fun (ty:TypeId) (d1 o2:Nat) (ho:o2=0+i*2)=>show (Builtin.copy_ #[153,153] ty #[.slice (some ⟨g2,o2,none⟩) (n+1 - i) d1,.slice (some ⟨ug,uo,none⟩) 1 uc]).run Try.prog W2 = .ok (goInt (1:Nat)) w3 from by
  subst ho
  rw [← hw3]
  exact gz (P:=Try.prog) W2 153 153 ty 131 inf g2 (0+i*2) (n+1 - i) d1 ⟨ug,uo,none⟩ 1 uc 1 ys Try.underlying153 HI.out.1 (by show min _ _=_;omega) (by rw [HI.out.2.2.1,HU.out.hl])
   (fun j v hj=>by rw [Addr.add_lit];exact (HU.out.keep HB.out.2.1 (fun x=>x)).cell hj)
   (fun j hj=>by rw [HU.out.hl] at hj;rw [show 0+i*2+j=0+(i*2+j) from by omega];exact HB.out.1.there (by omega))
   (fun j hj=>HB.out.1.free _) H1.out)
 have OG2:=lh (Dj (w2:=w3.drewN 1) HB.out.1 HV.out.hl (by rw [HU.out.hl,Nat.one_mul]) hi w3 hw3.symm (fun h=>h.keep ((ae.refl aj w3).drewN 1) (fun x=>x)))
 have M3:=lh (show ae (fun k=>k=g2) W2 w3 from hw3▸dO W2 g2 (0+i*2) ys)
 have MM:=lh (HB.out.2.1.trans M3.out (U:=aj) (fun _ _ x=>x) (fun b hb e=>by have:=HG.out;omega))
 clear hw3 M3
 go_wp2_with fail
 rw [CP1.out _ _ _ (by omega)]
 simp only [Result.andThen]
 rw [Oper.upon_value]
 clear CP1
 go_wp2_with fail
 obtain⟨w4,hw4⟩:∃ w4,(w3.drewN 1).setCells g2 (0+(i+1)*2) (xs.drop (i*2))=w4:=⟨_,rfl⟩
 have CP2:=lh (fun (ty:TypeId) (d1 c1 o2 o3:Nat) (ho:o2=0+(i+1)*2) (ho3:o3=off+i*2)=>show (Builtin.copy_ #[153,153] ty #[.slice (some ⟨g2,o2,none⟩) (n - i) d1,.slice (some ⟨g,o3,none⟩) (n - i) c1]).run Try.prog (w3.drewN 1) = .ok (goInt (n - i:Nat)) w4 from by
  subst ho ho3
  rw [← hw4]
  exact gz (P:=Try.prog) (w3.drewN 1) 153 153 ty 131 inf g2 (0+(i+1)*2) (n - i) d1 ⟨g,off+i*2,none⟩ (n - i) c1 (n - i) (xs.drop (i*2)) Try.underlying153 HI.out.1 (by show min _ _=_;omega) (by rw [HI.out.2.2.1,List.length_drop,HV.out.hl];omega)
   (fun j v hj=>by rw [Addr.add_lit];rw [List.getElem?_drop] at hj;have:=((HV.out.keep MM.out (fun x=>x)).keep ((ae.refl aj w3).drewN 1) (fun x=>x)).cell hj;rw [show off+i*2+j=off+(i*2+j) from by omega];exact this)
   (fun j hj=>by rw [List.length_drop,HV.out.hl] at hj;rw [show 0+(i+1)*2+j=0+((i+1)*2+j) from by omega];exact (OG2.out.1.keep ((ae.refl aj w3).drewN 1) (fun x=>x)).there (by omega))
   (fun j hj=>(OG2.out.1.keep ((ae.refl aj w3).drewN 1) (fun x=>x)).free _) (fun v hv=>H0.out v (List.mem_of_mem_drop hv)))
 have M4:=lh (show ae (fun k=>k=g2) (w3.drewN 1) w4 from hw4▸dO (w3.drewN 1) g2 (0+(i+1)*2) (xs.drop (i*2)))
 have FIN:=lh (hw4▸OG2.out.2)
 clear hw4
 have w1:IntKind.i64.wrap ((i:Int)+1)=(i:Int)+1:=IntWalk.i64_in _ (by omega)
 have b1:(0:Int)≤(i:Int)+1:=by omega
 have b2:(i:Int)+1≤((n+1:Nat):Int):=by omega
 have b3:((i:Int)+1).toNat=i+1:=by omega
 have b5:(0:Int)≤(i:Int):=by omega
 have b6:i+1≤n+1:=by omega
 have b7:i≤n:=by omega
 have b8:¬ (i+1=cap2):=by omega
 have b9:¬ (cap2=i+1):=by omega
 have b14:(i:Int)≤(n:Int):=by omega
 go_still_tail 8,(by kernel_rfl)
 change wpList _ _ _ _ _ (w3.drewN 1)
 clear w1 b1 b2 b3 b5 b6 b7 b8 b9 b14
 refine kY rfl rfl rfl rfl (CP2.out _ _ _ _ _ (by omega) (by omega)) ?_
 go_wp2
 go_ret
 exact⟨_,rfl,FIN.out.own,(MM.out.drewN 1).trans M4.out (U:=aj) (fun _ _ x=>x) (fun b hb e=>by have:=HG.out;omega),fun k hk=>by simp [Value.ownBlock] at hk;have:=HG.out;omega⟩
theorem BJ {w:World}{v:Value}{n i:Nat}{xs ys:List Value}{ug uo uc:Nat} (hv:aU w 131 2 v n xs) (hu:OB w 131 2 ug uo 1 uc ys) (hne:v.ownBlock≠some ug) (h0:∀ y∈xs,y.oneCell'=true) (h1:∀ y∈ys,y.oneCell'=true) (hi:i≤n) (hn:n≤1000000) :
  Calls Try.prog 90 #[v,.int .i64 i,.slice (some ⟨ug,uo,none⟩) 1 uc] w fun r w'=>∃ v',r = .returned v'∧aU w' 131 2 v' (n+1) (xs.take (i*2) ++ ys ++ xs.drop (i*2))∧ae (fK v) w w'∧(v'.ownBlock=v.ownBlock∨aI w v'):=by
 by_cases hin:i=n
 ·subst hin
  refine (Ci hv hu h1 hn).mono ?_
  rintro r w' ⟨v',rfl,k1,k2,k3⟩
  refine⟨v',rfl,?_,k2,k3⟩
  rw [List.take_of_length_le (by rw [hv.1];exact Nat.le_refl _),List.drop_of_length_le (by rw [hv.1];exact Nat.le_refl _),List.append_nil]
  exact k1
 ·rcases hv.ob with ⟨_,h2,_⟩ | ⟨g,off,c,rfl,ob⟩
  ·omega
  by_cases hc:c=n
  ·subst hc
   refine (Dc ob hu h0 h1 (by omega) hn).mono ?_
   rintro r w' ⟨v',rfl,k1,k2,k3⟩
   exact⟨v',rfl,k1,k2.mono (fun _ _ x=>x.elim),.inr k3⟩
  ·refine (DX ob hu (fun e=>hne (by rw [e];rfl)) h0 h1 (by omega) (by have:=ob.hn;omega) hn).mono ?_
   rintro r w' ⟨rfl,k1,k2⟩
   exact⟨_,rfl,k1.own,k2.mono (fun k _ e=>by rw [e];rfl),.inl rfl⟩
open Go.Gl Go.RowKit
theorem xY {w:World}{g off n c:Nat}{xs:List Value} (hv:OB w 131 2 g off n c xs) (h1:∀ y∈xs,y.oneCell'=true) (hn:n≤1000000) :
  Calls Try.prog 91 #[.slice (some ⟨g,off,none⟩) n c] w fun r w'=>∃ v',r = .returned v'∧aU w' 131 2 v' n xs∧ae aj w w'∧aI w v':=by
 have he:=fun (w:World) (a:Option Addr) (n c n' c':Nat)=>Lib.run_eql_slice_nil (P:=Try.prog) w 153 131 a n c n' c' Try.underlying153
 obtain⟨inf,hi,hz,hs,hb⟩:=info_parts qm
 have hrd:=aU.rd hv.own
 have hlt:=hv.lt
 have hown:aU (w.alloc (.cells #[] 131)) 131 2 (.slice (some ⟨w.heap.size,0,none⟩) 0 0) 0 []:=⟨rfl,.inr ⟨_,0,0,_,rfl,bC _ _,Nat.le_refl _,by simp [maxLen],by simp,fun j u hj=>by simp at hj⟩⟩
 have key:=fun (ops:Array Oper) (Q:Exit→Act→World→Prop) (rest:List Oper) (o:Oper) (a:Act) (s x:Operand) (hgd:o.guard=none) (ho:o.op = .call { callee := .builtin .append,args:=#[s,x],argTypes:=#[153,153] }) (h2:a.eval s = .slice (some ⟨w.heap.size,0,none⟩) 0 0) (h3:a.eval x = .slice (some ⟨g,off,none⟩) n c) (h) =>
  lN (P:=Try.prog) (ops:=ops) (Q:=Q) (rest:=rest) (w:=w.alloc (.cells #[] 131)) hgd ho Try.underlying153 Try.underlying153 hi hz (by rw [hs];rfl) h2 (by rw [hs];exact hown) h3 (by rw [hs];exact gX.keep hrd ((ae.refl aj w).alloc _) (fun _ _ x=>x)) h1 (by unfold maxLen;omega) (by rw [hb];omega) h
 have KY:=lh key
 have HS:=lh hs
 clear hv h1 hi hz hs hb key hrd hown
 go_enter Try.func91,Try.ntmps91
 go_wp2_with (at_builtin;refine stop ?_)
 unfold Stop
 refine KY.out _ _ _ _ _ _ _ rfl rfl rfl rfl ?_
 intro v' w' o1 m1 f1
 rw [HS.out,Nat.zero_add,List.nil_append] at o1
 have O:=lh (And.intro o1 (And.intro m1 f1))
 obtain⟨a1,c1,rfl,_⟩:=(aU.rd o1).form
 clear o1 m1 f1
 go_wp2
 go_ret
 refine⟨_,rfl,O.out.1,((ae.refl aj w).alloc _).trans O.out.2.1 (U:=aj) (fun _ _ x=>x) (fun i hi h=>by have:=jh h;omega),fun k hk=>?_⟩
 rcases O.out.2.2 with h | h
 ·have h2:=h.symm.trans hk
  simp [Value.ownBlock] at h2
  omega
 ·have:=h k hk
  simp at this
  omega
end Go.Proofs.Ytglkmaalpammcaa
namespace Go.Gl
open Go.RowKit
section
variable {P:Program}{ops:Array Oper}{Q:Exit→Act→World→Prop}{S:World→Prop}{T:List Nat}
def gB:List Nat→Nat
 | []=>0
 | k :: l=>gB l ||| (1 <<< k)
theorem gU (l:List Nat) (k:Nat):(gB l).testBit k=true↔k∈l:=by
  induction l with
  | nil=>simp [gB]
  | cons a l ih =>
    simp only [gB,Nat.testBit_or,Bool.or_eq_true,ih,List.mem_cons,Nat.one_shiftLeft,Nat.testBit_two_pow,decide_eq_true_eq]
    constructor
    · rintro (h | h)
      · exact .inr h
      · exact .inl h.symm
    · rintro (h | h)
      · exact .inr h.symm
      · exact .inl h
theorem oH {a b:Nat} (h:Nat.beq (a &&& b) 0=true) (k:Nat) (ha:a.testBit k=true) (hb:b.testBit k=true):False:=by
 have h0:a &&& b=0:=Nat.eq_of_beq_eq_true h
 have h1:(a &&& b).testBit k=true:=by rw [Nat.testBit_and,ha,hb];rfl
 rw [h0,Nat.zero_testBit] at h1
 cases h1
theorem Bl (k:Nat):(1 <<< k).testBit k=true:=by rw [Nat.one_shiftLeft,Nat.testBit_two_pow];simp
theorem AQ {m k:Nat} (h:Nat.beq (m &&& (1 <<< k)) 0=true):m.testBit k=false:=by
 cases hm:m.testBit k with
 | false=>rfl
 | true=>exact (oH h k hm (Bl k)).elim
theorem ql {m k:Nat} (h:Nat.beq (m &&& (1 <<< k)) 0=false):m.testBit k=true:=by
  cases hm:m.testBit k with
  | true=>rfl
  | false =>
    have:m &&& (1 <<< k)=0:=by
      apply Nat.eq_of_testBit_eq
      intro i
      rw [Nat.testBit_and,Nat.one_shiftLeft,Nat.testBit_two_pow,Nat.zero_testBit]
      by_cases hi:k=i
      · subst hi;rw [hm];rfl
      · simp [hi]
    rw [this] at h
    cases h
theorem CQ {a m:Nat} (h:Nat.beq (a &&& m) a=true) (k:Nat) (ha:a.testBit k=true):m.testBit k=true:=by
 have h0:a &&& m=a:=Nat.eq_of_beq_eq_true h
 have h1:(a &&& m).testBit k=true:=by rw [h0,ha]
 rw [Nat.testBit_and,Bool.and_eq_true] at h1
 exact h1.2
def lM (o:Oper):List Nat:=(o.after.toList.filter (fun e=>Region.binds .any e)).map (·.on)
def oW (o:Oper):List Nat:=o.dst.toList
def sumOf (ops:Array Oper) (o:Oper):Nat × Nat × Nat:=(gB (lM o),gB (o.looksAt ops),gB (oW o))
def sums (ops:Array Oper):List (Nat × Nat × Nat):=ops.toList.map (sumOf ops)
def uO (i lk d m:Nat):List (Nat × Nat × Nat)→Nat→Bool
 | [],_=>true
 | (a',lk',d') :: r,j=>(Nat.beq j i || !(Nat.beq (m &&& (1 <<< j)) 0) || !(Nat.beq (a' &&& (1 <<< i)) 0) || (Nat.beq (lk' &&& d) 0 && Nat.beq (d' &&& (lk ||| d)) 0)) && uO i lk d m r (j+1)
def qp (i m:Nat):List (Nat × Nat × Nat)→Nat→Bool
 | [],_=>true
 | (a',_,_) :: r,j=>(Nat.beq j i || !(Nat.beq (m &&& (1 <<< j)) 0) || !(Nat.beq (a' &&& m) a')) && qp i m r (j+1)
def uN (sm:List (Nat × Nat × Nat)) (i:Nat):List Nat→Bool
 | []=>true
 | t :: ts=>(!(Nat.beq t i)) && (match sm[t]? with | some (a',_,_) => !(Nat.beq (a' &&& (1 <<< i)) 0) | none=>false) && uN sm i ts
def pM (sm:List (Nat × Nat × Nat)) (T:List Nat):List (Nat × Bool)→Nat→Bool
  | [],m=>qp sm.length m sm 0
  | (i, b) :: l, m => (match sm[i]? with
    | none=>false
    | some (a,lk,d)=>Nat.beq (m &&& (1 <<< i)) 0 && Nat.beq (a &&& m) a && (match b with | true=>uO i lk d m sm 0 && uN sm i T | false=>qp i m sm 0)) && pM sm T l (m ||| (1 <<< i))
theorem yz {i lk d m:Nat}:∀ (r:List (Nat × Nat × Nat)) (j0:Nat),uO i lk d m r j0=true→∀ k a' lk' d',r[k]?=some (a',lk',d')→j0+k≠i→m.testBit (j0+k)=false→a'.testBit i=false→Nat.beq (lk' &&& d) 0=true∧Nat.beq (d' &&& (lk ||| d)) 0=true:=by
  intro r
  induction r with
  | nil=>intro j0 _ k a' lk' d' h;simp at h
  | cons x r ih =>
    obtain⟨xa,xl,xd⟩:=x
    intro j0 h k a' lk' d' hk hne hm ha
    simp only [uO,Bool.and_eq_true,Bool.or_eq_true,Bool.not_eq_true'] at h
    rcases k with _ | k
    · simp only [List.getElem?_cons_zero,Option.some.injEq,Prod.mk.injEq] at hk
      obtain⟨rfl,rfl,rfl⟩:=hk
      rw [Nat.add_zero] at hne hm
      rcases h.1 with ((h1 | h1) | h1) | h1
      · exact absurd (Nat.eq_of_beq_eq_true h1) hne
      · rw [ql h1] at hm;cases hm
      · rw [ql h1] at ha;cases ha
      · exact h1
    · rw [List.getElem?_cons_succ] at hk
      exact ih (j0+1) h.2 k a' lk' d' hk (by omega) (by rw [show j0+1+k=j0+(k+1) from by omega];exact hm) ha
theorem yA {i m:Nat}:∀ (r:List (Nat × Nat × Nat)) (j0:Nat),qp i m r j0=true→∀ k a' lk' d',r[k]?=some (a',lk',d')→j0+k≠i→m.testBit (j0+k)=false→Nat.beq (a' &&& m) a'=false:=by
  intro r
  induction r with
  | nil=>intro j0 _ k a' lk' d' h;simp at h
  | cons x r ih =>
    obtain⟨xa,xl,xd⟩:=x
    intro j0 h k a' lk' d' hk hne hm
    simp only [qp,Bool.and_eq_true,Bool.or_eq_true,Bool.not_eq_true'] at h
    rcases k with _ | k
    · simp only [List.getElem?_cons_zero,Option.some.injEq,Prod.mk.injEq] at hk
      obtain⟨rfl,rfl,rfl⟩:=hk
      rw [Nat.add_zero] at hne hm
      rcases h.1 with (h1 | h1) | h1
      · exact absurd (Nat.eq_of_beq_eq_true h1) hne
      · rw [ql h1] at hm;cases hm
      · exact h1
    · rw [List.getElem?_cons_succ] at hk
      exact ih (j0+1) h.2 k a' lk' d' hk (by omega) (by rw [show j0+1+k=j0+(k+1) from by omega];exact hm)
theorem qQ {i:Nat}{o:Oper} (h:ops[i]?=some o):(sums ops)[i]?=some (sumOf ops o):=by
 unfold sums
 rw [List.getElem?_map,Array.getElem?_toList,h]
 rfl
theorem wE {i:Nat}{p:Nat × Nat × Nat} (h:(sums ops)[i]?=some p):∃ o,ops[i]?=some o∧p=sumOf ops o:=by
 unfold sums at h
 rw [List.getElem?_map,Array.getElem?_toList] at h
 cases ho:ops[i]? with
 | none=>rw [ho] at h;cases h
 | some o=>rw [ho] at h;exact⟨o,rfl,(Option.some.inj h).symm⟩
theorem lq {o:Oper}{k:Nat}:k∈lM o↔∃ e∈o.after,Region.binds .any e=true∧e.on=k:=by
 unfold lM
 rw [List.mem_map]
 constructor
 ·rintro⟨e,he,rfl⟩
  obtain⟨h1,h2⟩:=List.mem_filter.1 he
  exact⟨e,by simpa using h1,h2,rfl⟩
 ·rintro⟨e,he,hb,rfl⟩
  exact⟨e,List.mem_filter.2 ⟨by simpa using he,hb⟩,rfl⟩
def tZ (L:Array Bool) (m:Nat):Prop:=∀ j,j<L.size→L[j]?=some (m.testBit j)
theorem tZ.set {L:Array Bool}{m i:Nat} (h:tZ L m):tZ (L.setIfInBounds i true) (m ||| (1 <<< i)):=by
 intro j hj
 rw [Array.size_setIfInBounds] at hj
 rw [Nat.testBit_or,Nat.one_shiftLeft,Nat.testBit_two_pow]
 by_cases hij:i=j
 ·subst hij
  rw [Array.getElem?_setIfInBounds_self_of_lt hj]
  simp
 ·rw [Array.getElem?_setIfInBounds_ne hij,h j hj]
  simp [hij]
theorem tZ.getD {L:Array Bool}{m:Nat} (h:tZ L m) {j:Nat} (hj:j<L.size) (d:Bool):L.getD j d=m.testBit j:=by
 have:=h j hj
 rw [Array.getD_eq_getD_getElem?,this]
 rfl
theorem EH {L:Array Bool}{m i:Nat}{o:Oper} (h:tZ L m) (hsz:L.size=ops.size) (ho:ops[i]?=some o) (h0:m.testBit i=false) (ha:∀ e∈o.after,Region.binds .any e=true→m.testBit e.on=true) (hb:∀ e∈o.after,Region.binds .any e=true→e.on<ops.size):i∈Region.ready .any ops L:=by
 have hi:=(Array.getElem?_eq_some_iff.1 ho).1
 refine mem_ready.2 ⟨by rw [h.getD (by omega),h0],o,ho,fun e he hbd=>?_⟩
 rw [h.getD (by have:=hb e he hbd;omega),ha e he hbd]
def nO (n:Nat):List (Nat × Nat × Nat)→Bool
 | []=>true
 | (a,_,_) :: r=>Nat.beq (a >>> n) 0 && nO n r
theorem pX {n:Nat}:∀ (r:List (Nat × Nat × Nat)),nO n r=true→∀ (k a' lk' d':Nat),r[k]?=some (a',lk',d')→∀ j:Nat,a'.testBit j=true→j<n:=by
  intro r
  induction r with
  | nil=>intro _ k a' lk' d' h;simp at h
  | cons x r ih =>
    obtain⟨xa,xl,xd⟩:=x
    intro h k a' lk' d' hk j hj
    simp only [nO,Bool.and_eq_true] at h
    rcases k with _ | k
    · simp only [List.getElem?_cons_zero,Option.some.injEq,Prod.mk.injEq] at hk
      obtain⟨rfl,rfl,rfl⟩:=hk
      rcases Nat.lt_or_ge j n with h1 | h1
      · exact h1
      · have h2:xa >>> n=0:=Nat.eq_of_beq_eq_true h.1
        have h3:(xa >>> n).testBit (j - n)=true:=by rw [Nat.testBit_shiftRight,show n+(j - n)=j from by omega,hj]
        rw [h2,Nat.zero_testBit] at h3
        cases h3
    · rw [List.getElem?_cons_succ] at hk
      exact ih h.2 k a' lk' d' hk j hj
theorem Eg {x y:Oper} (h1:Nat.beq (gB (y.looksAt ops) &&& gB (oW x)) 0=true) (h2:Nat.beq (gB (oW y) &&& (gB (x.looksAt ops) ||| gB (oW x))) 0=true):x.apart ops y=true:=by
  unfold Oper.apart
  rw [Bool.and_eq_true]
  constructor
  · cases hx:x.dst with
    | none=>rfl
    | some d =>
      have hd:(gB (oW x)).testBit d=true:=(gU _ _).2 (by unfold oW;rw [hx];simp)
      simp only [Bool.and_eq_true,Bool.not_eq_true']
      constructor
      · cases hc:(y.looksAt ops).contains d with
        | false=>rfl
        | true=>exact (oH h1 d ((gU _ _).2 (by simpa using hc)) hd).elim
      · rw [bne_iff_ne]
        intro hy
        exact oH h2 d ((gU _ _).2 (by unfold oW;rw [hy];simp)) (by rw [Nat.testBit_or,hd,Bool.or_true])
  · cases hy:y.dst with
    | none=>rfl
    | some d =>
      simp only [Bool.not_eq_true']
      cases hc:(x.looksAt ops).contains d with
      | false=>rfl
      | true=>exact (oH h2 d ((gU _ _).2 (by unfold oW;rw [hy];simp)) (by rw [Nat.testBit_or,(gU _ _).2 (by simpa using hc),Bool.true_or])).elim
theorem yX {i:Nat}:∀ (T:List Nat),uN (sums ops) i T=true→i∉T∧T.all (fun t=>reach .any ops i 1 t)=true:=by
  intro T
  induction T with
  | nil=>intro _;exact⟨by simp,rfl⟩
  | cons t ts ih =>
    intro h
    simp only [uN,Bool.and_eq_true,Bool.not_eq_true'] at h
    obtain⟨k1,k2⟩:=ih h.2
    refine⟨fun hm=>?_,?_⟩
    · rcases List.mem_cons.1 hm with rfl | hm
      · rw [Nat.beq_refl] at h;exact absurd h.1.1 (by decide)
      · exact k1 hm
    · rw [List.all_cons,k2,Bool.and_true]
      have h2:=h.1.2
      cases hs:(sums ops)[t]? with
      | none=>rw [hs] at h2;cases h2
      | some p =>
        obtain⟨o,ho,rfl⟩:=wE hs
        rw [hs] at h2
        simp only [sumOf,Bool.not_eq_true'] at h2
        obtain⟨e,he,hb,hon⟩:=lq.1 ((gU _ _).1 (ql h2))
        simp only [reach,ho]
        exact Array.any_eq_true'.2 ⟨e,he,by rw [hb,hon];simp⟩
theorem yE (hs:Region.noSelect ops=true) (hQ:∀ c a d v w,Q (.panic c) (Act.put a d v) w→Q (.panic c) a w) (hE:nO ops.size (sums ops)=true) (l:List (Nat × Bool)) :
    ∀ (L:Array Bool) (m:Nat) (a:Act) (w:World),pM (sums ops) T l m=true→tZ L m→iU .any ops L→L.size=ops.size→ST T S L w→jK P ops Q T S l a w→kZ P .any ops Q T S l.length L a w:=by
  have hlen:(sums ops).length=ops.size:=by simp [sums]
  have notready:∀ (L:Array Bool) (m i:Nat),tZ L m→L.size=ops.size→qp i m (sums ops) 0=true→∀ j∈Region.ready .any ops L,j=i:=by
    intro L m i hR hsz ho j hj
    obtain⟨hun,o,hoj,hall⟩:=mem_ready.1 hj
    have hjlt:=(Array.getElem?_eq_some_iff.1 hoj).1
    rcases Nat.decEq j i with hne | he
    · have hm:m.testBit j=false:=by rw [← hR.getD (by omega) true];exact hun
      have h1:=yA _ 0 ho j _ _ _ (qQ hoj) (by rw [Nat.zero_add];exact hne) (by rw [Nat.zero_add];exact hm)
      have h2:gB (lM o) &&& m=gB (lM o):=by
        apply Nat.eq_of_testBit_eq
        intro k
        rw [Nat.testBit_and]
        cases hk:(gB (lM o)).testBit k with
        | false=>rfl
        | true =>
          obtain⟨e,he,hb,rfl⟩:=lq.1 ((gU _ _).1 hk)
          have:=hall e he hb
          have hlt:=pX _ hE j _ _ _ (qQ hoj) e.on hk
          rw [hR.getD (by omega)] at this
          rw [this]
          rfl
      rw [h2,Nat.beq_refl] at h1
      cases h1
    · exact he
  induction l with
  | nil =>
    intro L m a w h hR hcl hsz hS hw
    simp only [pM] at h
    refine⟨?_,hw⟩
    rcases hr:Region.ready .any ops L with _ | ⟨j,r⟩
    · rfl
    · have hj:j∈Region.ready .any ops L:=by rw [hr];exact List.mem_cons_self ..
      have:=notready L m _ hR hsz h j hj
      obtain⟨_,o,hoj,_⟩:=mem_ready.1 hj
      have hjlt:=(Array.getElem?_eq_some_iff.1 hoj).1
      omega
  | cons x l ih =>
    obtain⟨i,b⟩:=x
    intro L m a w h hR hcl hsz hS hw
    simp only [pM,Bool.and_eq_true] at h
    obtain⟨h0,h⟩:=h
    cases hsi:(sums ops)[i]? with
    | none=>rw [hsi] at h0;cases h0
    | some p =>
      obtain⟨o,ho,rfl⟩:=wE hsi
      rw [hsi] at h0
      simp only [sumOf,Bool.and_eq_true] at h0
      obtain⟨⟨h1,h2⟩,h3⟩:=h0
      have hi:=(Array.getElem?_eq_some_iff.1 ho).1
      have hin:∀ e∈o.after,Region.binds .any e=true→e.on<ops.size:=fun e he hb=>pX _ hE i _ _ _ hsi e.on ((gU _ _).2 (lq.2 ⟨e,he,hb,rfl⟩))
      have hir:i∈Region.ready .any ops L:=EH hR hsz ho (AQ h1) (fun e he hb=>CQ h2 e.on ((gU _ _).2 (lq.2 ⟨e,he,hb,rfl⟩))) hin
      rcases b with _ | _
      · have honly:=notready L m i hR hsz h3
        refine⟨fun h0=>(by rw [h0] at hir;cases hir),fun j hj=>?_⟩
        obtain rfl:=honly j hj
        refine wpOp_mono (fun a' w' h'=>?_) hw
        have hS':ST T S (L.setIfInBounds j true) w':=by
          intro hn
          refine h'.1 ?_
          cases ht:T.contains j with
          | false=>rfl
          | true =>
            have hm:=List.all_eq_true.1 hn j (by simpa using ht)
            have hlt:j<L.size:=by omega
            simp [hlt] at hm
        exact⟨hS',ih _ _ _ _ h hR.set (hcl.set hir) (by simpa using hsz) hS' h'.2⟩
      · simp only [Bool.and_eq_true] at h3
        obtain⟨o',v,ho',hy,hr⟩:=hw
        obtain rfl:o=o':=Option.some.inj (ho.symm.trans ho')
        obtain⟨hiT,hreach⟩:=yX T h3.2
        refine mV ho hiT hreach (Region.noSelect_spec hs) (fun c a w=>hQ c a _ _ w) _ _ _ _ (fun j oj hj hne hun hno=>?_) hir hcl hy hS ?_
        · have hjlt:=(Array.getElem?_eq_some_iff.1 hj).1
          have hm:m.testBit j=false:=by rw [← hR.getD (by omega) true];exact hun
          have hna:(gB (lM oj)).testBit i=false:=by
            cases hb:(gB (lM oj)).testBit i with
            | false=>rfl
            | true =>
              obtain⟨e,he,hbd,hon⟩:=lq.1 ((gU _ _).1 hb)
              exact absurd hon (hno e he hbd)
          obtain⟨k1,k2⟩:=yz _ 0 h3.1 j _ _ _ (qQ hj) (by rw [Nat.zero_add];exact hne) (by rw [Nat.zero_add];exact hm) hna
          exact Eg k1 k2
        · exact ih _ _ _ _ h hR.set (hcl.set hir) (by simpa using hsz) (fun hn=>hS (by rwa [lQ hiT] at hn)) hr
end
end Go.Gl
namespace Go.Proofs.Ytglkmaalpammcaa
open Go.Gl Go.RowKit
structure PT (w w':World) (g:Nat) (vo:Value) (R:List PV) (vo':Value) (R':List PV):Prop where
 pm:PM w' g vo' R'
 mods:ae (MS g vo R) w w'
 ms:∀ k,MS g vo' R' k→MS g vo R k∨w.heap.size≤k
 md:∀ k,MD R' k→MD R k∨w.heap.size≤k
theorem PT.first {a b c:World}{g:Nat}{vo vo':Value}{R R':List PV} (h:PT b c g vo R vo' R') (hm:ae aj a b):PT a c g vo R vo' R' :=
 ⟨h.pm,hm.trans h.mods (fun _ _ x=>x.elim) (fun _ _ x=>x),fun k hk=>(h.ms k hk).imp id (Nat.le_trans hm.size),fun k hk=>(h.md k hk).imp id (Nat.le_trans hm.size)⟩
theorem PT.then0 {a b c:World}{g:Nat}{vo vo':Value}{R R':List PV} (h:PT a b g vo R vo' R') (hm:ae aj b c):PT a c g vo R vo' R' :=
 ⟨h.pm.keep0 hm,h.mods.then0 hm,h.ms,h.md⟩
theorem PT.refl {w:World}{g:Nat}{vo:Value}{R:List PV} (h:PM w g vo R):PT w w g vo R vo R:=⟨h,ae.refl _ _,fun _ => .inl,fun _ => .inl⟩
theorem Bq {w w1 w2:World}{u v:Value}{xs ys:List UInt8} (o1:Gl.Own w1 u xs) (f1:aI w u) (m1:ae aj w w1) (o2:Gl.Own w2 v ys) (f2:aI w1 v) (m2:ae aj w1 w2) (lx:xs.length≤1000000) (ly:ys.length≤1000000) :
  E1 w2 ⟨u,v,xs,ys⟩∧∀ k,(u.ownBlock=some k∨v.ownBlock=some k)→w.heap.size≤k∧k<w2.heap.size:=by
 refine⟨⟨(o1.keep m2 (fun _ _ x=>x)).rd,o2.rd,lx,ly⟩,?_⟩
 rintro k (hk | hk)
 ·exact⟨f1 k hk,Nat.lt_of_lt_of_le (o1.lt k hk) m2.size⟩
 ·exact⟨Nat.le_trans m1.size (f2 k hk),o2.lt k hk⟩
theorem zI {w:World}{g:Nat}{vo:Value}{x:EV} (hm:PM w g vo []) (hx:E1 w x) (hb:∀ k,(x.kv.ownBlock=some k∨x.vv.ownBlock=some k)→k<w.heap.size∧¬ MS g vo [] k) :
  let w':=((((w.alloc (.cells #[x.kv,x.vv] 131)).alloc (.cells #[.slice (some ⟨w.heap.size,0,none⟩) 1 1] 153)).setCell ⟨g,0,none⟩ (.slice (some ⟨w.heap.size+1,0,none⟩) 1 1)).setCell ⟨g,1,none⟩ (.int .i64 1))
  ∃ vo' R',PM w' g vo' R'∧ae (MS g vo []) w w'∧(∀ k,MS g vo' R' k→MS g vo [] k∨w.heap.size≤k)∧(∀ k,MD R' k→MD [] k∨(x.kv.ownBlock=some k∨x.vv.ownBlock=some k))∧aB R'=[[x.ent]]:=by
 intro w'
 have hgl:=lt_of_heap hm.hg
 have h1:=bC w (.cells #[x.kv,x.vv] 131)
 have h2:=bC (w.alloc (.cells #[x.kv,x.vv] 131)) (.cells #[.slice (some ⟨w.heap.size,0,none⟩) 1 1] 153)
 have h1':=dS h1 (.cells #[.slice (some ⟨w.heap.size,0,none⟩) 1 1] 153)
 rw [World.size_alloc] at h2
 have hg':=dS (dS hm.hg (.cells #[x.kv,x.vv] 131)) (.cells #[.slice (some ⟨w.heap.size,0,none⟩) 1 1] 153)
 have mods:ae (fun k=>k=g∨vo.ownBlock=some k∨∃ q∈([]:List PV),q.pv.ownBlock=some k) w w' :=
  ((((ae.refl _ w).alloc _).alloc _).setCell (p:=⟨g,0,none⟩) (.inl (.inl rfl)) _).setCell (p:=⟨g,1,none⟩) (.inl (.inl rfl)) _
 have k1:=heap_set (gI (a:=⟨g,0,none⟩) (g:=w.heap.size) (by show w.heap.size≠g;omega) (.slice (some ⟨w.heap.size+1,0,none⟩) 1 1)▸h1') 0 x.kv
 have r1:w'.heap[w.heap.size]?=some (.cells #[x.kv,x.vv] 131 (0,0)) :=
  (gI (a:=⟨g,1,none⟩) (by show w.heap.size≠g;omega) _).trans ((gI (a:=⟨g,0,none⟩) (by show w.heap.size≠g;omega) _).trans h1')
 have r2:w'.heap[w.heap.size+1]?=some (.cells #[.slice (some ⟨w.heap.size,0,none⟩) 1 1] 153 (0,0)) :=
  (gI (a:=⟨g,1,none⟩) (by show w.heap.size+1≠g;omega) _).trans ((gI (a:=⟨g,0,none⟩) (by show w.heap.size+1≠g;omega) _).trans h2)
 have r3:w'.heap[g]?=some (.cells #[.slice (some ⟨w.heap.size+1,0,none⟩) 1 1,.int .i64 1] 118 (0,0)):=heap_set (heap_set hg' 0 _) 1 _
 have up:=PM.upd (vo' := .slice (some ⟨w.heap.size+1,0,none⟩) 1 1) (A:=[]) (B:=[]) (C:=[]) (N:=[⟨.slice (some ⟨w.heap.size,0,none⟩) 1 1,[x]⟩]) (X:=fun k=>x.kv.ownBlock=some k∨x.vv.ownBlock=some k) hm mods r3
  ⟨rfl,.inr ⟨_,0,1,_,rfl,r2,Nat.le_refl _,by simp [maxLen],by simp,fun j u hj=>by rw [Nat.zero_add];simpa using hj⟩⟩ (.inr (by intro k hk;simp [Value.ownBlock] at hk;omega))
  (by
   intro q hq
   obtain rfl:q=⟨.slice (some ⟨w.heap.size,0,none⟩) 1 1,[x]⟩:=by simpa using hq
   exact⟨⟨rfl,.inr ⟨_,0,1,_,rfl,r1,Nat.le_refl _,by simp [maxLen],by simp,fun j u hj=>by rw [Nat.zero_add];simpa [dn] using hj⟩⟩,.inr (by intro k hk;simp [Value.ownBlock] at hk;omega)⟩)
  (by
   intro q hq k hk
   obtain rfl:q=⟨.slice (some ⟨w.heap.size,0,none⟩) 1 1,[x]⟩:=by simpa using hq
   simp [Value.ownBlock] at hk ⊢
   omega)
  (List.pairwise_singleton _ _)
  (by
   intro q hq e he
   obtain rfl:q=⟨.slice (some ⟨w.heap.size,0,none⟩) 1 1,[x]⟩:=by simpa using hq
   obtain rfl:e=x:=by simpa using he
   exact .inr ⟨hx,fun k hk=>⟨hk,hb k hk⟩⟩)
 exact⟨_,_,up.1,mods.mono (fun k _ hk=>hk),up.2.1,up.2.2,rfl⟩
theorem Ac {w:World}{g:Nat}{vo kv vv:Value}{xs ys:List UInt8} (hm:PM w g vo []) (hk:Rd w kv xs) (hv:Rd w vv ys) (lx:xs.length≤1000000) (ly:ys.length≤1000000) :
  Calls Try.prog 60 #[.pointer (some ⟨g,0,none⟩),kv,vv] w fun e w'=>∃ vo' R',e = .returned (.bool true)∧PT w w' g vo [] vo' R'∧aB R'=[[(xs,ys)]]:=by
 obtain⟨a0,cap,hvo,_⟩:=(aU.rd hm.row).form
 subst hvo
 have HM:=lh hm
 have hc0:(if (g:Nat)=g then (0:Nat) else 0)=0:=by simp
 have hb0:=hm.hg
 have c0:=ai hm.hg 0
 rw [show ([]:List PV).length=0 from rfl] at c0
 have OK:=lh (fZ hk (by omega))
 have HV:=lh hv
 obtain⟨ak,ck,rfl,_⟩:=hk.form
 obtain⟨av,cv,rfl,_⟩:=hv.form
 clear hm hk hv hc0 hb0
 go_enter Try.func60,Try.ntmps60
 go_wp2_with fail
 refine OK.out.mono ?_
 rintro e w1 ⟨u,rfl,o1,m1,f1⟩
 have OV:=lh (fZ (HV.out.keep m1 (fun _ _ x=>x)) (by omega))
 have O1:=lh (And.intro o1 (And.intro m1 f1))
 obtain⟨a1,c1,rfl,_⟩:=o1.rd.form
 clear o1 m1 f1
 go_wp2_with fail
 refine OV.out.mono ?_
 rintro e w2 ⟨v,rfl,o2,m2,f2⟩
 obtain⟨nE,nB⟩:=Bq O1.out.1 O1.out.2.2 O1.out.2.1 o2 f2 m2 lx ly
 have M2:=lh (O1.out.2.1.then0 m2)
 have NE:=lh (And.intro nE nB)
 obtain⟨a2,c2,rfl,_⟩:=o2.rd.form
 clear o2 m2 f2 nE nB
 have hgl:=(lt_of_heap HM.out.hg)
 have e0:w2.cell? ⟨g,0,none⟩=some (.slice a0 0 cap):=by
  have:=ai (M2.out.heap HM.out.hg (fun x=>x)) 0
  exact this
 have ef:w2.frozen? ⟨g,0,none⟩=false:=dw (M2.out.heap HM.out.hg (fun x=>x)) 0
 have e1:w2.cell? ⟨g,1,none⟩=some (.int .i64 (cnt (aB []):Nat)):=by
  have:=ai (M2.out.heap HM.out.hg (fun x=>x)) 1
  exact this
 have ef1:w2.frozen? ⟨g,1,none⟩=false:=dw (M2.out.heap HM.out.hg (fun x=>x)) 1
 have hgl2:g<w2.heap.size:=Nat.lt_of_lt_of_le hgl M2.out.size
 clear c0
 have hbE:=bC w2 (.cells #[.slice a1 xs.length c1,.slice a2 ys.length c2] 131)
 have mE:=(ae.refl aj w2).alloc (.cells #[.slice a1 xs.length c1,.slice a2 ys.length c2] 131)
 go_upto_region 2 with fail
 generalize hw3:World.alloc w2 _=w3 at *
 have hg3:=M2.out.heap HM.out.hg (fun x=>x)
 have f0:∀ o o',((w3.alloc o).alloc o').frozen? ⟨g,0,none⟩=false:=fun o o'=>dw (dS (dS (mE.heap hg3 (fun x=>x)) o) o') 0
 have f1:∀ o o',((w3.alloc o).alloc o').frozen? ⟨g,1,none⟩=false:=fun o o'=>dw (dS (dS (mE.heap hg3 (fun x=>x)) o) o') 1
 have d0:∀ o o',((w3.alloc o).alloc o').cell? ⟨g,0,none⟩=some (.slice a0 0 cap):=fun o o'=>ai (dS (dS (mE.heap hg3 (fun x=>x)) o) o') 0
 have d1:∀ o o',((w3.alloc o).alloc o').cell? ⟨g,1,none⟩=some (.int .i64 (cnt (aB []):Nat)):=fun o o'=>ai (dS (dS (mE.heap hg3 (fun x=>x)) o) o') 1
 have e00:w3.cell? ⟨g,0,none⟩=some (.slice a0 0 cap):=ai (mE.heap hg3 (fun x=>x)) 0
 have b0:w3.cell? ⟨w2.heap.size,0,none⟩=some (.slice a1 xs.length c1):=ai hbE 0
 have b1:w3.cell? ⟨w2.heap.size,1,none⟩=some (.slice a2 ys.length c2):=ai hbE 1
 clear e0 ef e1 ef1
 go_wp2
 go_ret
 have pm3:=(HM.out.keep0 M2.out).keep0 mE
 have hsz:w.heap.size≤w3.heap.size:=Nat.le_trans M2.out.size mE.size
 obtain⟨vo',R',p1,p2,p3,p4,p5⟩:=zI (x:=⟨.slice a1 xs.length c1,.slice a2 ys.length c2,xs,ys⟩) pm3 (NE.out.1.keep mE (fun _ _ x=>x)) (fun k hk=>⟨by have:=(NE.out.2 k hk).2;have:=mE.size;omega,fun h=>by
  have h2:=(HM.out.lt k h)
  have:=(NE.out.2 k hk).1
  omega⟩)
 exact⟨vo',R',rfl,⟨p1,(M2.out.then0 mE).trans p2 (fun _ _ x=>x.elim) (fun _ _ x=>x),fun k hk=>(p3 k hk).imp id (Nat.le_trans hsz),fun k hk=>(p4 k hk).imp id (fun h=>(NE.out.2 k h).1)⟩,p5⟩
theorem iE {R:List PV}{p:Nat} (hp:p<R.length):(aB R).getD p []=ents (R[p]).es:=by simp [aB,hp]
theorem PM.way {w:World}{g:Nat}{vo:Value}{R:List PV} (h:PM w g vo R) {p i:Nat} (hp:p<R.length) (hi:i<(R[p]).es.length) :
  ∃ b off cap pb po pc,vo = .slice (some ⟨b,off,none⟩) R.length cap∧(R[p]).pv = .slice (some ⟨pb,po,none⟩) (R[p]).es.length pc∧OB w 131 2 pb po (R[p]).es.length pc (dn (R[p]).es)∧OB w 153 1 b off R.length cap (R.map (·.pv)):=by
 rcases h.row.ob with ⟨_,h2,_⟩ | ⟨b,off,cap,hv,ob⟩
 ·omega
 rcases (h.pg _ (List.getElem_mem hp)).ob with ⟨_,h2,_⟩ | ⟨pb,po,pc,hv2,ob2⟩
 ·omega
 exact⟨b,off,cap,pb,po,pc,hv,hv2,ob2,ob⟩
theorem parts {α:Type} (R:List α) (p:Nat) (hp:p<R.length):∃ A q C,R=A ++ [q] ++ C∧A.length=p∧R[p]=q :=
 ⟨R.take p,R[p],R.drop (p+1),BK R p hp,by rw [List.length_take];omega,rfl⟩
theorem iK {α:Type} (A C:List α) (q r:α):(A ++ [q] ++ C).set A.length r=A ++ [r] ++ C:=by
 rw [List.append_assoc,List.set_append_right _ _ (Nat.le_refl _),Nat.sub_self];simp
theorem gm (A C:List PV) (N:List PV):cnt (aB (A ++ N ++ C))=cnt (aB A)+cnt (aB N)+cnt (aB C):=by rw [bW,bW,rY,rY]
theorem iw (q:PV):aB [q]=[ents q.es]:=rfl
theorem jF (q:PV):cnt (aB [q])=q.es.length:=by simp [cnt,aB,ents]
theorem zF {w:World}{g:Nat}{vo:Value}{A C:List PV}{q:PV}{x:EV}{i pb po pc:Nat} (hm:PM w g vo (A ++ [q] ++ C)) (hq:q.pv = .slice (some ⟨pb,po,none⟩) q.es.length pc) (hi:i<q.es.length) (hx:E1 w x)
  (hb:∀ k,(x.kv.ownBlock=some k∨x.vv.ownBlock=some k)→k<w.heap.size∧¬ MS g vo (A ++ [q] ++ C) k) :
  PM (w.setCells pb (po+i*2) [x.kv,x.vv]) g vo (A ++ [⟨q.pv,q.es.set i x⟩] ++ C)∧ae (MS g vo (A ++ [q] ++ C)) w (w.setCells pb (po+i*2) [x.kv,x.vv])∧(∀ k,MS g vo (A ++ [⟨q.pv,q.es.set i x⟩] ++ C) k→MS g vo (A ++ [q] ++ C) k∨w.heap.size≤k) ∧
   (∀ k,MD (A ++ [⟨q.pv,q.es.set i x⟩] ++ C) k→MD (A ++ [q] ++ C) k∨(x.kv.ownBlock=some k∨x.vv.ownBlock=some k)):=by
 have hin:q∈A ++ [q] ++ C:=by simp
 have hob:OB w 131 2 pb po q.es.length pc (dn q.es):=by
  rcases (hm.pg q hin).ob with ⟨_,h2,_⟩ | ⟨pb',po',pc',hv2,ob2⟩
  ·omega
  ·rw [hq] at hv2;cases hv2;exact ob2
 have hl:(dn (q.es.set i x)).length=q.es.length*2:=by rw [oU,List.length_set]
 have ob':OB (w.setCells pb (po+i*2) [x.kv,x.vv]) 131 2 pb po q.es.length pc (dn (q.es.set i x)):=by
  refine hob.set (i*2) [x.kv,x.vv] (by have:=hob.hn;simp;omega) _ _ hob.hn hl (fun j u hj=>?_)
  rw [Ak _ _ _ hi] at hj
  have hll:((dn q.es).take (i*2)).length=i*2:=by rw [List.length_take,oU];omega
  by_cases h1:i*2≤j∧j<i*2+[x.kv,x.vv].length
  ·rw [if_pos h1]
   rw [List.getElem?_append_left (by rw [List.length_append,hll];exact h1.2),List.getElem?_append_right (by rw [hll];exact h1.1),hll] at hj
   exact hj
  ·rw [if_neg h1]
   by_cases h2:j<i*2
   ·rw [List.getElem?_append_left (by rw [List.length_append,hll];omega),List.getElem?_append_left (by rw [hll];exact h2),List.getElem?_take_of_lt h2] at hj
    exact hj
   ·have h3:i*2+2≤j:=by simp at h1;omega
    rw [List.getElem?_append_right (by rw [List.length_append,hll];exact h3),List.length_append,hll,List.getElem?_drop] at hj
    rw [← hj]
    congr 1
    show j=(i+1)*2+(j - (i*2+2))
    omega
 have mods:ae (fun k=>k=g∨vo.ownBlock=some k∨∃ b∈[q],b.pv.ownBlock=some k) w (w.setCells pb (po+i*2) [x.kv,x.vv]):=(dO w pb _ _).mono (fun k _ hk => .inr (.inr ⟨q,List.mem_singleton.2 rfl,by rw [hq,hk];rfl⟩))
 have hgp:g≠pb:=fun e=>(hm.sep2 q hin).1 (by rw [hq,e];rfl)
 have hvp:∀ k,vo.ownBlock=some k→k≠pb:=fun k hk e=>(hm.sep2 q hin).2 pb (by rw [hq];rfl) (e▸hk)
 have up:=PM.upd (vo':=vo) (A:=A) (B:=[q]) (C:=C) (N:=[⟨q.pv,q.es.set i x⟩]) (X:=fun k=>x.kv.ownBlock=some k∨x.vv.ownBlock=some k) hm mods
  (by
   rw [gm,jF,List.length_set,← jF q,← gm]
   exact (dO w pb _ _).heap hm.hg (fun e=>hgp e))
  (by
   have h:=hm.row.keep (dO w pb (po+i*2) [x.kv,x.vv]) (fun k hk e=>hvp k hk e)
   have e1:(A ++ [(⟨q.pv,q.es.set i x⟩:PV)] ++ C).length=(A ++ [q] ++ C).length:=by simp
   have e2:(A ++ [(⟨q.pv,q.es.set i x⟩:PV)] ++ C).map (·.pv)=(A ++ [q] ++ C).map (·.pv):=by simp
   rw [e1,e2]
   exact h)
  (.inl rfl)
  (by
   intro r hr
   obtain rfl:r=⟨q.pv,q.es.set i x⟩:=List.mem_singleton.1 hr
   refine⟨?_,.inl ⟨q,List.mem_singleton.2 rfl,rfl⟩⟩
   show aU _ _ 2 q.pv (q.es.set i x).length _
   rw [List.length_set,hq]
   exact ob'.own)
  (by
   intro r hr k hk
   obtain rfl:r=⟨q.pv,q.es.set i x⟩:=List.mem_singleton.1 hr
   exact (hm.sep2 q hin).2 k hk)
  (List.pairwise_singleton _ _)
  (by
   intro r hr e he
   obtain rfl:r=⟨q.pv,q.es.set i x⟩:=List.mem_singleton.1 hr
   rcases List.mem_or_eq_of_mem_set he with he | rfl
   ·exact .inl ⟨q,List.mem_singleton.2 rfl,he⟩
   ·exact .inr ⟨hx,fun k hk=>⟨hk,hb k hk⟩⟩)
 exact⟨up.1,mods.mono (fun k _ hk=>by
  rcases hk with h | h | ⟨b,hb,h⟩
  ·exact .inl h
  ·exact .inr (.inl h)
  ·exact .inr (.inr ⟨q,hin,by rw [List.mem_singleton.1 hb] at h;exact h⟩)),up.2.1,up.2.2⟩
theorem zM {w:World}{g:Nat}{vo kv vv:Value}{R:List PV}{xs ys:List UInt8} (hm:PM w g vo R) (hk:Rd w kv xs) (hv:Rd w vv ys) (lx:xs.length≤1000000) (ly:ys.length≤1000000) (ok:fH (aB R)) (hn:R.length≤1000000)
  (hf:(aK (aB R) xs).2.2=true) :
  Calls Try.prog 60 #[.pointer (some ⟨g,0,none⟩),kv,vv] w fun e w'=>∃ vo' R',e = .returned (.bool false)∧PT w w' g vo R vo' R'∧aB R'=(aB R).set (aK (aB R) xs).1 (((aB R).getD (aK (aB R) xs).1 []).set (aK (aB R) xs).2.1 (xs,ys)):=by
 obtain⟨hp,hi,hkey⟩:=qU hf
 have FD:=lh (fun (w':World) (m:ae aj w w') (q:Value) (hq:Rd w' q xs)=>oJ (hm.keep0 m) hq ok hn)
 obtain⟨b,off,cap,pb,po,pc,hvo,hpv,ob2,ob1⟩:=hm.way hp hi
 have hge:(aB R).getD (aK (aB R) xs).1 []=ents (R[(aK (aB R) xs).1]).es:=iE hp
 rw [hge]
 generalize aK (aB R) xs=F at *
 obtain⟨p,i,B⟩:=F
 simp only at hf hp hi hkey FD hpv ob2 hge ⊢
 subst hf
 have hl0:((R.length:Int) == 0)=false:=by rw [beq_eq_false_iff_ne];omega
 subst hvo
 have HM:=lh hm
 have OB1:=lh ob1
 have OB2:=lh ob2
 have OK:=lh (fZ hk (by omega))
 have HK:=lh hk
 have HV:=lh hv
 have HPV:=lh hpv
 obtain⟨ak,ck,rfl,_⟩:=hk.form
 obtain⟨av,cv,rfl,_⟩:=hv.form
 clear hm hk hv ob1 ob2 hpv hge ok hkey
 go_enter Try.func60,Try.ntmps60
 go_wp2_with fail
 refine OK.out.mono ?_
 rintro e w1 ⟨u,rfl,o1,m1,f1⟩
 have OV:=lh (fZ (HV.out.keep m1 (fun _ _ x=>x)) (by omega))
 have O1:=lh (And.intro o1 (And.intro m1 f1))
 obtain⟨a1,c1,rfl,_⟩:=o1.rd.form
 clear o1 m1 f1
 go_wp2_with fail
 refine OV.out.mono ?_
 rintro e w2 ⟨v,rfl,o2,m2,f2⟩
 obtain⟨nE,nB⟩:=Bq O1.out.1 O1.out.2.2 O1.out.2.1 o2 f2 m2 lx ly
 have M2:=lh (O1.out.2.1.then0 m2)
 have NE:=lh (And.intro nE nB)
 obtain⟨a2,c2,rfl,_⟩:=o2.rd.form
 clear o2 m2 f2 nE nB
 have hbE:=bC w2 (.cells #[.slice a1 xs.length c1,.slice a2 ys.length c2] 131)
 have mE:=(ae.refl aj w2).alloc (.cells #[.slice a1 xs.length c1,.slice a2 ys.length c2] 131)
 go_upto_region 2 with fail
 generalize hw3:World.alloc w2 _=w3 at *
 have M3:=lh (M2.out.then0 mE)
 have e00:w3.cell? ⟨g,0,none⟩=some (.slice (some ⟨b,off,none⟩) R.length cap):=ai (M3.out.heap HM.out.hg (fun x=>x)) 0
 have FW:=lh (FD.out w3 M3.out _ (HK.out.keep M3.out (fun _ _ x=>x)))
 go_wp2_with fail
 refine FW.out.mono ?_
 rintro e w4 ⟨rfl,m4⟩
 have M4:=lh (M3.out.then0 m4)
 have b0:w4.cell? ⟨w2.heap.size,0,none⟩=some (.slice a1 xs.length c1):=ai (m4.heap hbE (fun x=>x)) 0
 have b1:w4.cell? ⟨w2.heap.size,1,none⟩=some (.slice a2 ys.length c2):=ai (m4.heap hbE (fun x=>x)) 1
 have e0:w4.cell? ⟨g,0,none⟩=some (.slice (some ⟨b,off,none⟩) R.length cap):=ai (M4.out.heap HM.out.hg (fun x=>x)) 0
 have q1:w4.cell? ⟨b,off+p,none⟩=some (.slice (some ⟨pb,po,none⟩) (R[p]).es.length pc):=by
  rw [← HPV.out]
  exact (OB1.out.keep M4.out (fun x=>x)).cell (by simp [hp])
 have ob4:=OB2.out.keep M4.out (fun x=>x)
 have d0:(w4.cell? ⟨pb,po+i*2,none⟩).isSome=true:=ob4.there (j:=i*2) (by have:=ob4.hn;omega)
 have d1:(w4.cell? ⟨pb,po+i*2+1,none⟩).isSome=true:=by rw [Nat.add_assoc];exact ob4.there (j:=i*2+1) (by have:=ob4.hn;omega)
 have fr:∀ o,w4.frozen? ⟨pb,o,none⟩=false:=ob4.free
 have hpi:(p:Int)<(R.length:Int):=by omega
 have hii:(i:Int)<((R[p]).es.length:Int):=by omega
 generalize hEs:(R[p]).es=es at *
 have HOB4:=lh ob4
 clear e00 ob4
 go_upto_region 7 with fail
 go_still_tail 10,(by kernel_rfl)
 change wpList _ _ _ _ _ (w4.drewN 1)
 clear d0 d1 fr
 have ob4:=HOB4.out.keep ((ae.refl aj w4).drewN 1) (fun x=>x)
 refine wpList_store_mid (by rfl) 131 (.tmp 49) (.tmp 48) (by rfl) pb (po+i*2) #[.slice a1 xs.length c1,.slice a2 ys.length c2] (by rfl) (by rfl) (fun j hj=>⟨by rw [Nat.add_assoc];exact ob4.there (j:=i*2+j) (by have:=ob4.hn;simp at hj;omega),ob4.free _⟩) (by kernel_rfl) (by simp [Value.oneCell']) ?_
 clear b0 b1 e0 q1 ob4
 generalize hw5:World.setCells _ _ _ _=w5
 go_wp2
 go_ret
 subst hEs
 obtain⟨A,q,C,rfl,rfl,hq⟩:=parts R p hp
 rw [hq] at hi HPV
 have pm4:=(HM.out.keep0 M4.out).keep0 ((ae.refl aj w4).drewN 1)
 have hsz:w.heap.size≤(w4.drewN 1).heap.size:=M4.out.size
 have hm24:ae aj w2 (w4.drewN 1):=(mE.then0 m4).then0 ((ae.refl aj w4).drewN 1)
 obtain⟨p1,p2,p3,p4⟩:=zF (x:=⟨.slice a1 xs.length c1,.slice a2 ys.length c2,xs,ys⟩) pm4 HPV.out hi (NE.out.1.keep hm24 (fun _ _ x=>x)) (fun k hk=>⟨by have:=(NE.out.2 k hk).2;have:=hm24.size;omega,fun h=>by
  have h2:=HM.out.lt k h
  have:=(NE.out.2 k hk).1
  omega⟩)
 rw [hw5] at p1 p2
 refine⟨rfl,_,_,⟨p1,(M4.out.drewN 1).trans p2 (fun _ _ x=>x.elim) (fun _ _ x=>x),fun k hk=>(p3 k hk).imp id (Nat.le_trans hsz),fun k hk=>(p4 k hk).imp id (fun h=>(NE.out.2 k h).1)⟩,?_⟩
 have hlen:A.length=(aB A).length:=(dN A).symm
 rw [hq,bW,bW,bW,bW,hlen,iw q,iK]
 show _ ++ [ents (q.es.set i _)] ++ _=_
 rw [Cb]
 rfl
end Go.Proofs.Ytglkmaalpammcaa
namespace Go.Gl
open Go.RowKit
section
variable {P:Program}{w:World}{a:Act}{o:Oper}
theorem aH {g off:Nat}{ty:TypeId}{d:TypeDesc}{v:Value} (hc:w.cell? ⟨g,off,none⟩=some v) (hu:P.underlying ty=some d) (hd:(match d with | .struct _ | .array _ _=>true | _=>false)=false) :
  (Instr.loadAt ty (.pointer (some ⟨g,off,none⟩))).run P w = .ok v w:=by
 have hagg:(isAgg ty).run P w = .ok false w:=by
  unfold isAgg
  rw [Sem.run_bind,run_underlying hu w]
  cases d <;> simp_all
 simp [Instr.loadAt,Instr.sureAddr,loadVar,Sem.run_bind,hagg,hc]
theorem zK {g off:Nat}{ty:TypeId}{d:TypeDesc} (ys:List Value) (hc:∀ j u,ys[j]?=some u→w.cell? ⟨g,off+j,none⟩=some u) (hu:P.underlying ty=some d) (hd:d.isRow=true)
  (hi:(P.info? ty).map (·.size)=some ys.length):(Instr.loadAt ty (.pointer (some ⟨g,off,none⟩))).run P w = .ok (.agg ys.toArray) w :=
 run_loadAt_mid w g off ty ys d hc hu hd hi
theorem uk {g off:Nat}{u v:Value} (h0:w.cell? ⟨g,off,none⟩=some u) (h1:w.cell? ⟨g,off+1,none⟩=some v):∀ j x,[u,v][j]?=some x→w.cell? ⟨g,off+j,none⟩=some x:=by
 intro j x hj
 rcases j with _ | _ | j
 ·simpa using h0.trans (congrArg some (by simpa using hj))
 ·simpa using h1.trans (congrArg some (by simpa using hj))
 ·simp at hj
theorem aC {ty:TypeId}{p v:Value}{x:Operand}{b:World} (ho:o.op = .load ty x) (hx:a.eval x=p) (h:(Instr.loadAt ty p).run P b = .ok v b):(execOp a.eval o).run P b = .ok (.value v) b:=by
 unfold execOp
 simp only [ho,hx,Sem.run_bind,h,Sem.run_pure,Result.andThen_ok]
theorem run_sizeOf {e:TypeId}{s:Nat} (h:(P.info? e).map (·.size)=some s) (b:World):(sizeOf e).run P b = .ok s b:=by
  cases hq:P.info? e with
  | none=>simp [hq] at h
  | some i =>
    have:i.size=s:=by simpa [hq] using h
    simp [sizeOf,typeInfo,hq,this]
theorem fG {t e:TypeId}{x y:Operand}{g off n c s:Nat}{i:Int}{b:World} (p:Nat) (ho:o.op = .indexAddr t x y) (hx:a.eval x = .slice (some ⟨g,off,none⟩) n c) (hy:a.eval y = .int .i64 i)
  (hu:P.underlying t=some (.slice e)) (hs:(P.info? e).map (·.size)=some s) (h0:0≤i) (h1:i<n) (hp:off+i.toNat*s=p):(execOp a.eval o).run P b = .ok (.value (.pointer (some ⟨g,p,none⟩))) b:=by
 subst hp
 unfold execOp
 simp [ho,hx,hy,Instr.indexAt,run_underlying hu,asIntOf,h0,h1,run_sizeOf hs,Addr.add_mid]
theorem Ai {t e:TypeId}{x y:Operand}{g off n c s:Nat}{i:Int}{b:World} (m:Nat) (ho:o.op = .slice t x none (some y) none) (hx:a.eval x = .slice (some ⟨g,off,none⟩) n c) (hy:a.eval y = .int .i64 i)
  (hu:P.underlying t=some (.slice e)) (hs:(P.info? e).map (·.size)=some s) (hm:i=m) (h1:m≤c):(execOp a.eval o).run P b = .ok (.value (.slice (some ⟨g,off,none⟩) m c)) b:=by
 subst hm
 have he:P.elem t=e:=by simp [Program.elem,hu]
 have hu':P.underlying t=some (.slice (P.elem t)):=by rw [he];exact hu
 unfold execOp
 simp only [ho,Option.map_some,Option.map_none,hx,hy,Sem.run_bind]
 rw [run_sliceAt_slice (h:=hu'),run_slice_h (ht:=hu') (h0:=by omega) (h2:=by omega)]
 ·simp [he,run_sizeOf hs,sliced,Addr.add_mid]
theorem Am {t e:TypeId}{x y:Operand}{g off n c s:Nat}{i:Int}{b:World} (m p:Nat) (ho:o.op = .slice t x (some y) none none) (hx:a.eval x = .slice (some ⟨g,off,none⟩) n c) (hy:a.eval y = .int .i64 i)
  (hu:P.underlying t=some (.slice e)) (hs:(P.info? e).map (·.size)=some s) (hm:i=m) (h1:m≤n) (h2:m<c) (hp:off+m*s=p):(execOp a.eval o).run P b = .ok (.value (.slice (some ⟨g,p,none⟩) (n - m) (c - m))) b:=by
 subst hm hp
 have he:P.elem t=e:=by simp [Program.elem,hu]
 have hu':P.underlying t=some (.slice (P.elem t)):=by rw [he];exact hu
 unfold execOp
 simp only [ho,Option.map_some,Option.map_none,hx,hy,Sem.run_bind]
 rw [run_sliceAt_slice (h:=hu'),run_slice_l (ht:=hu') (h0:=by omega) (h1:=by omega)]
 ·have:¬ (c=m):=by omega
  simp [he,run_sizeOf hs,sliced,Addr.add_mid,this]
theorem fP {t:TypeId}{x y z:Int} (b:World) (h:x+y=z) (h0 : -9223372036854775808≤z) (h1:z≤9223372036854775807):(binOp .add t (.int .i64 x) (.int .i64 y)).run P b = .ok (.int .i64 z) b:=by
 subst h
 have:=IntWalk.i64_in (x+y) ⟨h0,h1⟩
 rw [binOp_add]
 simp [Op.intArith,this]
theorem qV {t:TypeId}{x y z:Int} (b:World) (h:x - y=z) (h0 : -9223372036854775808≤z) (h1:z≤9223372036854775807):(binOp .sub t (.int .i64 x) (.int .i64 y)).run P b = .ok (.int .i64 z) b:=by
 subst h
 have:=IntWalk.i64_in (x - y) ⟨h0,h1⟩
 have e:binOp .sub t (.int .i64 x) (.int .i64 y)=Op.intArith .sub .i64 x y:=by simp [binOp]
 rw [e]
 simp [Op.intArith,this]
theorem iH {t:TypeId}{k:IntKind}{x y:Int}{r:Bool} (b:World) (h:decide (x<y)=r):(binOp .lss t (.int k x) (.int k y)).run P b = .ok (.bool r) b:=by subst h;rw [binOp_lss];rfl
theorem nR {t:TypeId}{k:IntKind}{x y:Int}{r:Bool} (b:World) (h:decide (y<x)=r):(binOp .gtr t (.int k x) (.int k y)).run P b = .ok (.bool r) b:=by subst h;rw [binOp_gtr];rfl
theorem lC {t:TypeId}{k:IntKind}{x y:Int}{r:Bool} (b:World) (h:decide (y≤x)=r):(binOp .geq t (.int k x) (.int k y)).run P b = .ok (.bool r) b:=by subst h;rw [binOp_geq];rfl
theorem nV {t:TypeId}{k:IntKind}{x y:Int}{r:Bool} (b:World) (h:decide (x=y)=r):(binOp .eql t (.int k x) (.int k y)).run P b = .ok (.bool r) b:=by subst h;rw [binOp_eql];rfl
theorem bM {bo:BinOp}{t t':TypeId}{x y:Operand}{xv yv v:Value}{b:World} (ho:o.op = .binOp bo t x y t') (hx:a.eval x=xv) (hy:a.eval y=yv) (hg:∀ b,(eqGuard bo t x y xv yv).run P b = .ok () b) (hv:(binOp bo t xv yv).run P b = .ok v b) :
  (execOp a.eval o).run P b = .ok (.value v) b:=by
 unfold execOp
 simp only [ho,hx,hy,Sem.run_bind,hg,hv,Sem.run_pure,Result.andThen_ok]
theorem yw {ty:TypeId}{x y:Operand}{g off:Nat}{v:Value}{b:World} (ho:o.op = .store ty x y) (hx:a.eval x = .pointer (some ⟨g,off,none⟩)) (hy:a.eval y=v) (hs:(P.info? ty).map (·.size)=some 1)
    (hc:(b.cell? ⟨g,off,none⟩).isSome=true) (hf:b.frozen? ⟨g,off,none⟩=false) (h1:v.oneCell'=true):(execOp a.eval o).run P b = .ok .skip (b.setCell ⟨g,off,none⟩ v):=by
  have hv:v.cells=#[v]:=by cases v <;> first | rfl | simp [Value.oneCell'] at h1
  have:=run_storeCells_cells (P:=P) g off [v] 0 b (fun j hj=>by obtain rfl:j=0:=(by simpa using hj);exact hc) (fun j hj=>by obtain rfl:j=0:=(by simpa using hj);exact hf) (fun u hu=>by rw [List.mem_singleton.1 hu];exact h1)
  unfold execOp
  cases hq:P.info? ty with
  | none=>simp [hq] at hs
  | some i =>
    have h2:i.size=1:=by simpa [hq] using hs
    simp only [Nat.add_zero] at this
    simp [ho,hx,hy,Instr.storeAt,Instr.sureAddr,storeVar,sizeOf,typeInfo,hq,hv,h2,this]
    rfl
theorem of_append {t tx:TypeId}{x y:Operand}{v u v':Value}{w':World} (ho:o.op = .call { callee := .builtin .append,args:=#[x,y],argTypes:=#[t,tx] }) (hx:a.eval x=v) (hy:a.eval y=u) (hr:(Builtin.append_ #[t,tx] o.type #[v,u]).run P w = .ok v' w') :
  (execOp a.eval o).run P w = .ok (.value v') w':=by
 unfold execOp
 simp only [ho,resolve,invoke,builtin,Sem.run_bind,Sem.run_pure,Result.andThen_ok,List.map_toArray,List.map_cons,List.map_nil,hx,hy,hr]
variable {ops:Array Oper}{Q:Exit→Act→World→Prop}{S:World→Prop}{T:List Nat}{i:Nat}{l:List (Nat × Bool)}
theorem jf (O:Obj) (n:Nat) (d:Option Tmp) (h:lY ops i a d true)
  (hx:(execOp a.eval (jL ops i)).run P w = .ok (.value (.slice (some ⟨w.heap.size,0,none⟩) n n)) (w.alloc O))
  (hr:∀ k w',k=w.heap.size→w'.heap[k]?=some O→ae aj w w'→k<w'.heap.size→(T.contains i=false→S w')∧dP P ops Q T S l (a.put d (.slice (some ⟨k,0,none⟩) n n)) w'):dP P ops Q T S ((i,false) :: l) a w:=by
 obtain⟨h1,h2⟩:=hr _ _ rfl (bC w O) ((ae.refl aj w).alloc O) (by simp)
 exact aG _ _ d h hx h1 h2
theorem fD {ty:TypeId}{x y:Operand}{g off:Nat}{v:Value} (d:Option Tmp) (h:lY ops i a d true) (ho:(jL ops i).op = .store ty x y) (hx:a.eval x = .pointer (some ⟨g,off,none⟩)) (hy:a.eval y=v) (hs:(P.info? ty).map (·.size)=some 1)
  (hc:(w.cell? ⟨g,off,none⟩).isSome=true) (hf:w.frozen? ⟨g,off,none⟩=false) (h1:v.oneCell'=true)
  (hr:∀ w',w'=w.setCell ⟨g,off,none⟩ v→(T.contains i=false→S w')∧dP P ops Q T S l (a.put d undef) w'):dP P ops Q T S ((i,false) :: l) a w:=by
 obtain⟨h2,h3⟩:=hr _ rfl
 exact qL _ d h (yw ho hx hy hs hc hf h1) h2 h3
end
open Go.RowKit
section
variable {P:Program}{ops:Array Oper}{md:Region.Mode}
def oO (N:Nat):Nat→Array Bool
 | 0=>Array.replicate N false
 | k+1=>(oO N k).setIfInBounds k true
theorem wJ (N k:Nat):(oO N k).size=N:=by
 induction k with
 | zero=>simp [oO]
 | succ k ih=>simp [oO,ih]
theorem DV (N k j:Nat) (hj:j<N):(oO N k)[j]?=some (decide (j<k)):=by
  induction k with
  | zero=>simp [oO,hj]
  | succ k ih =>
    rw [oO]
    by_cases h:k=j
    · subst h
      rw [Array.getElem?_setIfInBounds_self_of_lt (by rw [wJ];exact hj)]
      simp
    · rw [Array.getElem?_setIfInBounds_ne h,ih]
      congr 1
      exact decide_eq_decide.2 (by omega)
def vK (md:Region.Mode) (ops:Array Oper) (n:Nat):Bool :=
 (List.range ops.size).all fun t=>decide (t≤n) || (List.range t).any fun j=>decide (n≤j) && Region.waitsFor md ops t j
def nz (ops:Array Oper):Bool :=
 (List.range ops.size).all fun i=>match ops[i]? with
  | none=>true
  | some o=>o.after.all (fun e=>decide (e.on<i)) && (match o.guard with | none=>true | some (g,_)=>decide (g<i))
theorem Dh {n:Nat}{L:Array Bool} (hs:Region.sinkB md ops n=true) (ha:vK md ops n=true) (inv:HeadInv md ops n L) {i:Nat} (hi:i<n) (hn:n<ops.size) (hun:L.getD i true=false):∀ t,n≤t→t∉Region.ready md ops L:=by
  intro t ht hr
  obtain⟨_,ot,hot,hall⟩:=mem_ready.1 hr
  have htlt:t<ops.size:=(Array.getElem?_eq_some_iff.1 hot).1
  by_cases htn:t=n
  · subst htn
    have key:∀ (d k:Nat),t - k=d→k<t→L.getD k false=true:=by
      intro d
      induction d using Nat.strongRecOn with
      | _ d ih =>
        intro k hd hk
        obtain⟨j,hj,hj2⟩:=List.any_eq_true.1 (List.all_eq_true.1 hs k (List.mem_range.2 hk))
        simp only [Bool.and_eq_true,decide_eq_true_eq] at hj2
        obtain⟨oj,hoj,e,he,hb,hon⟩:=Region.waitsFor_spec hj2.2
        have hjle:=List.mem_range.1 hj
        by_cases hjt:j=t
        · subst hjt
          obtain rfl:oj=ot:=Option.some.inj (hoj.symm.trans hot)
          have:=hall e he hb
          rwa [hon] at this
        · have:=inv.closed j oj hoj (ih (t - j) (by omega) j rfl (by omega)) e he hb
          rwa [hon] at this
    have:=key _ i rfl hi
    have hil:i<L.size:=by rw [inv.size];omega
    simp [hil] at this hun
    rw [hun] at this
    cases this
  · have h1:=List.all_eq_true.1 ha t (List.mem_range.2 htlt)
    simp only [Bool.or_eq_true,decide_eq_true_eq] at h1
    obtain⟨j,hj,hj2⟩:=List.any_eq_true.1 (h1.resolve_left (by omega))
    simp only [Bool.and_eq_true,decide_eq_true_eq] at hj2
    obtain⟨oj,hoj,e,he,hb,hon⟩:=Region.waitsFor_spec hj2.2
    obtain rfl:oj=ot:=Option.some.inj (hoj.symm.trans hot)
    have h2:=hall e he hb
    have hjt:=List.mem_range.1 hj
    have h3:=inv.tail j hj2.1 (by omega)
    have hjl:j<L.size:=by rw [inv.size];omega
    rw [hon] at h2
    simp [hjl] at h2 h3
    rw [h3] at h2
    cases h2
theorem kR (h:nz ops=true) {i:Nat}{o:Oper} (hi:ops[i]?=some o):(∀ e∈o.after,e.on<i)∧∀ g b,o.guard=some (g,b)→g<i:=by
 have hlt:i<ops.size:=(Array.getElem?_eq_some_iff.1 hi).1
 have h1:=List.all_eq_true.1 h i (List.mem_range.2 hlt)
 simp only [hi,Bool.and_eq_true] at h1
 refine⟨fun e he=>by simpa using Array.all_eq_true_iff_forall_mem.1 h1.1 e he,fun g b hg=>?_⟩
 have h2:=h1.2
 rw [hg] at h2
 simpa using h2
structure Trunc (n:Nat) (opsT ops:Array Oper) (LT L:Array Bool):Prop where
 ops:∀ i,i<n→opsT[i]?=ops[i]?
 size:opsT.size=n
 lsz:LT.size=n
 get:∀ i,i<n→LT[i]?=L[i]?
theorem Trunc.set {n i:Nat}{opsT ops:Array Oper}{LT L:Array Bool} (h:Trunc n opsT ops LT L) (hi:i<n):Trunc n opsT ops (LT.setIfInBounds i true) (L.setIfInBounds i true):=by
 refine⟨h.ops,h.size,by simpa using h.lsz,fun j hj=>?_⟩
 have hL:i<L.size:=by
  have h1:=h.get i hi
  have h2:i<LT.size:=by rw [h.lsz];exact hi
  rw [Array.getElem?_eq_getElem h2] at h1
  exact (Array.getElem?_eq_some_iff.1 h1.symm).1
 by_cases hij:i=j
 ·subst hij
  rw [Array.getElem?_setIfInBounds_self_of_lt (by rw [h.lsz];exact hi),Array.getElem?_setIfInBounds_self_of_lt hL]
 ·rw [Array.getElem?_setIfInBounds_ne hij,Array.getElem?_setIfInBounds_ne hij]
  exact h.get j hj
theorem Trunc.ready {n:Nat}{opsT ops:Array Oper}{LT L:Array Bool} (h:Trunc n opsT ops LT L) (hb:nz ops=true) {i:Nat} (hi:i<n):i∈Region.ready md opsT LT↔i∈Region.ready md ops L:=by
 have g:∀ j,j<n→∀ d,LT.getD j d=L.getD j d:=fun j hj d=>by
  have h1:=h.get j hj
  have h2:j<LT.size:=by rw [h.lsz];exact hj
  rw [Array.getElem?_eq_getElem h2] at h1
  have h3:=(Array.getElem?_eq_some_iff.1 h1.symm)
  obtain⟨h4,h5⟩:=h3
  simp [h2,h4,h5]
 rw [mem_ready,mem_ready,g i hi,h.ops i hi]
 constructor
 ·rintro⟨h1,o,ho,h2⟩
  exact⟨h1,o,ho,fun e he hbd=>by rw [← g e.on (by have:=(kR hb ho).1 e he;omega)];exact h2 e he hbd⟩
 ·rintro⟨h1,o,ho,h2⟩
  exact⟨h1,o,ho,fun e he hbd=>by rw [g e.on (by have:=(kR hb ho).1 e he;omega)];exact h2 e he hbd⟩
theorem Trunc.wanted {n i:Nat}{opsT ops:Array Oper}{LT L:Array Bool} (h:Trunc n opsT ops LT L) (hb:nz ops=true) (hi:i<n) {o:Oper} (ho:ops[i]?=some o) (tm:Array Value):Region.wanted o (yielded opsT tm)=Region.wanted o (yielded ops tm):=by
  unfold Region.wanted
  cases hg:o.guard with
  | none=>rfl
  | some p =>
    obtain⟨g,b⟩:=p
    have hgi:=(kR hb ho).2 g b hg
    simp only [yielded,h.ops g (by omega)]
theorem Trunc.all {n:Nat}{opsT ops:Array Oper}{LT L:Array Bool} (h:Trunc n opsT ops LT L) (hb:nz ops=true) (hn:n≤ops.size) (hr:Region.ready md opsT LT=[]):∀ i,i<n→LT.getD i false=true:=by
  intro i
  induction i using Nat.strongRecOn with
  | _ i ih =>
    intro hi
    cases hl:LT.getD i false with
    | true=>rfl
    | false =>
      have hsz:i<LT.size:=by rw [h.lsz];exact hi
      have hl':LT.getD i true=false:=by simp [hsz] at hl ⊢;exact hl
      have hlt:i<ops.size:=by omega
      have ho:ops[i]?=some ops[i]:=Array.getElem?_eq_getElem hlt
      have:i∈Region.ready md opsT LT:=mem_ready.2 ⟨hl',ops[i],by rw [h.ops i hi,ho],fun e he _=>ih e.on ((kR hb ho).1 e he) (by have:=(kR hb ho).1 e he;omega)⟩
      rw [hr] at this
      cases this
end
open Go.RowKit
abbrev WF (r:Option Nat):Fence:={ Fence.wide with round:=r }
theorem WF.room (r:Option Nat) (k:Nat):(WF r).room k:=fun _ h=>by simp [Fence.wide] at h
theorem jW {r:Option Nat}{n:Nat}{P:Program}{f:FuncId}{args:Array Value}{w:World}{R:Ending→World→Prop}:CallsIn (WF r) n P f args w R↔Calls P f args w R:=callsIn_wide (n:=n)
theorem zH {r:Option Nat}{n:Nat}{P:Program}{row:String}{args:Array Value}{w:World}{R:Value→World→Prop} (h:Rows P row args w R):RowsIn (WF r) n P row args w R:=fun c cs _ =>
 let ⟨v,w',hr,hs⟩:=h c cs;⟨v,w',hr,stepsIn_wide.2 hs⟩
theorem RoundIn.room {r r':Option Nat}{n m:Nat}{P:Program}{l:Nat}{f:FuncId}{tmps:Array Value}{assign body:Code}{w:World}{R:Ending→World→Prop} (h:RoundIn (WF r) n P l f tmps assign body w R):RoundIn (WF r') m P l f tmps assign body w R :=
 ⟨trivial,fun c cs _=>h.2 c cs (WF.room _ _)⟩
def Calm (Q:Exit→Act→World→Prop):Exit→Act→World→Prop
 | .panic _,_,_=>False
 | .outgrown,_,_=>False
 | e,a,w=>Q e a w
theorem Calm.imp {Q:Exit→Act→World→Prop} (e:Exit) (a:Act) (w:World) (h:Calm Q e a w):Q e a w:=by cases e <;> first | exact h | exact h.elim
theorem Calm.letsOut {Q:Exit→Act→World→Prop} (h:LetsOut (Calm Q)):False:=by obtain⟨a,w,h⟩:=h;exact h
theorem Calm.dead {Q:Exit→Act→World→Prop} (c:List PanicEntry) (a:Act) (d:Option Tmp) (v:Value) (w:World) (h:Calm Q (.panic c) (a.put d v) w):Calm Q (.panic c) a w:=h
def iT (ops:Array Oper):Bool:=ops.all fun o=>match o.op with | .defer _=>false | _=>true
theorem jJ {ops:Array Oper} (h:iT ops=true) {i:Nat}{o:Oper} (hi:ops[i]?=some o) (c:Call):o.op ≠ .defer c:=fun e=>by
 have:=Array.all_eq_true_iff_forall_mem.1 h o (Array.mem_of_getElem? hi)
 rw [e] at this
 cases this
section
variable {P:Program}{ops:Array Oper}{Q:Exit→Act→World→Prop}{r:Option Nat}{n:Nat}
theorem oM {Q1:Exit→Act→World→Prop}{o:Oper}{a:Act}{w:World}{K:Act→World→Prop} (hd:∀ c,o.op ≠ .defer c) (h:o.wp P a w K (Calm Q1)):o.wpIn (WF r) n P a w K Q:=by
  refine⟨fun _ _=>trivial,?_⟩
  rw [Oper.semAt_eq _ _ _ hd]
  unfold Oper.wp at h
  generalize (execOp a.eval o).run P w=res at *
  cases res with
  | ok x w' =>
    cases x with
    | value v=>exact h
    | skip=>exact h
    | defer d=>exact h
    | enter f args =>
      refine⟨fun h0=>(by simp [Fence.wide] at h0),jW.2 (Calls.mono h (fun e w'' he=>?_))⟩
      cases e with
      | returned v=>exact he
      | panicked ch=>exact he.elim
      | outgrown=>exact (Calm.letsOut he).elim
    | row row args=>exact⟨fun h0=>(by simp [Fence.wide] at h0),zH h⟩
    | _=>exact h.elim
  | halt x w' =>
    cases x <;> exact h.elim
theorem uy {i:Nat}{K:Act→World→Prop}{a:Act}{w:World} (hd:iT ops=true) (h:wpOp P ops (Calm Q) i K a w):wpOpIn (WF r) n P ops Q i K a w:=by
  unfold wpOp at h
  unfold wpOpIn
  cases ho:ops[i]? with
  | none=>simpa [ho] using h
  | some o =>
    simp only [ho] at h ⊢
    by_cases hw:Region.wanted o (yielded ops a.tmps)=true
    · simp only [hw,if_true] at h ⊢
      rcases h with h | ⟨_,h⟩
      · exact oM (jJ hd ho) h
      · exact (Calm.letsOut h).elim
    · rw [Bool.not_eq_true] at hw
      simp only [hw,Bool.false_eq_true,if_false] at h ⊢
      exact⟨fun _ _=>trivial,h⟩
theorem rJ {md:Region.Mode} (hd:iT ops=true):∀ (fuel:Nat) (L:Array Bool) (a:Act) (w:World),wpAny P md ops (Calm Q) fuel L a w→wpAnyIn (WF r) n P md ops Q fuel L a w
 | 0,_,_,_,h=>h
 | fuel+1,L,a,w,h=>⟨h.1,fun i hi=>wpOpIn_mono (fun a' w' h'=>rJ hd fuel _ a' w' h') (uy hd (h.2 i hi))⟩
theorem rD (hd:iT ops=true):∀ (l:List Nat) (a:Act) (w:World),wpOps P ops (Calm Q) l a w→wpOpsIn (WF r) n P ops Q l a w
  | [],_,_,h=>h
  | i :: l, a, w, h => by
    rw [wpOps_cons] at h
    rw [wpOpsIn_cons]
    exact wpOpIn_mono (fun a' w' h'=>rD hd l a' w' h') (uy hd h)
structure RW (P:Program) (ops:Array Oper) (draws:Bool) (Q:Exit→Act→World→Prop) (a:Act) (w:World):Prop where
 out:if draws then P.follows .mixedOrders=true∧wpAny P .any ops (Calm Q) ops.size (Array.replicate ops.size false) a w.drew else wpOps P ops (Calm Q) (List.range ops.size) a w
theorem RW.wp {draws:Bool}{a:Act}{w:World}{id:Nat} (h:RW P ops draws Q a w):(Code.region id ops draws).wp P Q a w:=by
 have h:=h.out
 cases draws with
 | true=>exact Code.wp_mono Calm.imp (wp_region_any h.1 h.2)
 | false=>exact Code.wp_mono Calm.imp (wp_region h)
theorem RW.wpIn {draws:Bool}{a:Act}{w:World}{id:Nat} (h:RW P ops draws Q a w) (hd:iT ops=true):(Code.region id ops draws).wpIn (WF r) n P Q a w:=by
 have h:=h.out
 cases draws with
 | true=>exact wpIn_region_any h.1 (rJ hd _ _ _ _ h.2)
 | false=>exact wpIn_region (rD hd _ _ _ h)
theorem kQ {a:Act}{w:World}{S:World→Prop} (l:List (Nat × Bool)) (T:List Nat) (hm:P.follows .mixedOrders=true) (hs:Region.noSelect ops=true) (hl:l.length=ops.size)
  (ok:lK .any ops T l (Array.replicate ops.size false)=true) (hS:S w.drew) (h:dP P ops (Calm Q) T S l a w.drew):RW P ops true Q a w:=by
 refine⟨⟨hm,mG (T:=T) (S:=S) _ _ _ _ ?_⟩⟩
 rw [← hl]
 rw [← hl] at ok
 refine pJ hs Calm.dead l _ _ _ ok ?_ (by simpa using hl) (fun _=>hS) h.out
 intro j oj _ hl
 simp at hl
 exact absurd hl (by
  rcases Nat.lt_or_ge j l.length with h' | h'
  ·simp [h']
  ·simp [h'])
theorem iJ {a:Act}{w:World}{S:World→Prop} (l:List (Nat × Bool)) (T:List Nat) (sm:List (Nat × Nat × Nat)) (hm:P.follows .mixedOrders=true) (hs:Region.noSelect ops=true) (hl:l.length=ops.size)
  (hsm:sums ops=sm) (ok:(nO sm.length sm && pM sm T l 0)=true) (hS:S w.drew) (h:dP P ops (Calm Q) T S l a w.drew):RW P ops true Q a w:=by
 subst hsm
 rw [Bool.and_eq_true] at ok
 have hlen:(sums ops).length=ops.size:=by simp [sums]
 rw [hlen] at ok
 refine⟨⟨hm,mG (T:=T) (S:=S) _ _ _ _ ?_⟩⟩
 rw [← hl]
 refine yE hs Calm.dead ok.1 l _ 0 _ _ ok.2 (fun j hj=>?_) ?_ (by simpa using hl) (fun _=>hS) h.out
 ·simp at hj
  simp [hj]
 ·intro j oj _ hl
  simp at hl
  exact absurd hl (by
   rcases Nat.lt_or_ge j l.length with h' | h'
   ·simp [h']
   ·simp [h'])
theorem bV {a:Act}{w:World} (l:List (Nat × Bool)) (hl:l=(List.range ops.size).map (fun i=>(i,false))) (h:dP P ops (Calm Q) [] (fun _=>True) l a w):RW P ops false Q a w :=
 ⟨by have:=yB _ a w (hl▸h.out);simpa using this⟩
theorem aA {T:List Nat}{S:World→Prop}{a:Act}{w:World} (h:Q .normal a w):dP P ops (Calm Q) T S [] a w:=⟨h⟩
theorem pY {md:Region.Mode}:∀ (f:Nat) (L:Array Bool) (a:Act) (w:World),wpAnyIn (WF r) n P md ops Q f L a w→wpAnyIn (WF r) n P md ops Q (f+1) L a w
 | 0,L,a,w,h=>⟨fun _=>h.2,fun i hi=>by rw [h.1] at hi;cases hi⟩
 | f+1,L,a,w,h=>⟨h.1,fun i hi=>wpOpIn_mono (fun a' w' h'=>pY f _ a' w' h') (h.2 i hi)⟩
theorem xx {md:Region.Mode} (g f:Nat) (L:Array Bool) (a:Act) (w:World) (h:wpAnyIn (WF r) n P md ops Q g L a w):wpAnyIn (WF r) n P md ops Q (f+g) L a w:=by
 induction f with
 | zero=>rw [Nat.zero_add];exact h
 | succ f ih=>rw [show f+1+g=(f+g)+1 from by omega];exact pY _ _ _ _ ih
theorem Dv {md:Region.Mode}{m g:Nat}{opsT:Array Oper}{Q1:Exit→Act→World→Prop} (hd:iT ops=true) (hs:Region.sinkB md ops m=true) (ha:vK md ops m=true) (hb:nz ops=true) (hm:m<ops.size)
    (hG:∀ a w,Q1 .normal a w→wpAnyIn (WF r) n P md ops Q g (oO ops.size m) a w) :
    ∀ (f:Nat) (LT L:Array Bool) (a:Act) (w:World),Trunc m opsT ops LT L→HeadInv md ops m L→wpAny P md opsT (Calm Q1) f LT a w→wpAnyIn (WF r) n P md ops Q (f+g) L a w:=by
  have done:∀ (f:Nat) (LT L:Array Bool) (a:Act) (w:World),Trunc m opsT ops LT L→HeadInv md ops m L→Region.ready md opsT LT=[]→Q1 .normal a w→wpAnyIn (WF r) n P md ops Q (f+g) L a w:=by
    intro f LT L a w ht inv hr hg
    have hall:=ht.all hb (Nat.le_of_lt hm) hr
    have e:L=oO ops.size m:=by
      apply Array.ext_getElem?
      intro j
      by_cases hj:j<ops.size
      · rw [DV _ _ _ hj]
        by_cases hjn:j<m
        · have h1:=hall j hjn
          have h2:=ht.get j hjn
          have h3:j<LT.size:=by rw [ht.lsz];exact hjn
          simp [h3] at h1
          rw [← h2,Array.getElem?_eq_getElem h3,h1]
          simp [hjn]
        · have h1:=inv.tail j (by omega) hj
          have h3:j<L.size:=by rw [inv.size];exact hj
          simp [h3] at h1
          rw [Array.getElem?_eq_getElem h3,h1]
          simp [hjn]
      · rw [Array.getElem?_eq_none (by rw [inv.size];omega),Array.getElem?_eq_none (by rw [wJ];omega)]
    subst e
    exact xx _ _ _ _ _ (hG a w hg)
  intro f
  induction f with
  | zero =>
    intro LT L a w ht inv h
    exact done 0 LT L a w ht inv h.1 h.2
  | succ f ih =>
    intro LT L a w ht inv h
    by_cases hr:Region.ready md opsT LT=[]
    · exact done (f+1) LT L a w ht inv hr (h.1 hr)
    · obtain⟨i0,hi0⟩:=List.exists_mem_of_ne_nil _ hr
      have hi0n:i0<m:=by
        obtain⟨_,o,ho,_⟩:=mem_ready.1 hi0
        have:=(Array.getElem?_eq_some_iff.1 ho).1
        rw [ht.size] at this
        exact this
      have hi0r:=(ht.ready (md:=md) hb hi0n).1 hi0
      have hun:=(mem_ready.1 hi0r).1
      rw [show f+1+g=(f+g)+1 from by omega]
      refine⟨fun h0=>(by rw [h0] at hi0r;cases hi0r),fun i hi=>?_⟩
      have hin:i<m:=by
        rcases Nat.lt_or_ge i m with h1 | h1
        · exact h1
        · exact absurd hi (Dh hs ha inv hi0n hm hun i h1)
      have h1:=h.2 i ((ht.ready (md:=md) hb hin).2 hi)
      have ho:ops[i]?=some ops[i]:=Array.getElem?_eq_getElem (by omega)
      have h2:wpOpIn (WF r) n P ops Q i (wpAny P md opsT (Calm Q1) f (LT.setIfInBounds i true)) a w:=by
        unfold wpOp at h1
        unfold wpOpIn
        rw [ht.ops i hin,ho] at h1
        rw [ho]
        simp only [ht.wanted hb hin ho] at h1
        simp only
        by_cases hw:Region.wanted ops[i] (yielded ops a.tmps)=true
        · simp only [hw,if_true] at h1 ⊢
          rcases h1 with h1 | ⟨_,h1⟩
          · exact oM (jJ hd ho) h1
          · exact (Calm.letsOut h1).elim
        · rw [Bool.not_eq_true] at hw
          simp only [hw,Bool.false_eq_true,if_false] at h1 ⊢
          exact⟨fun _ _=>trivial,h1⟩
      exact wpOpIn_mono (fun a' w' hK=>ih _ _ a' w' (ht.set hin) (inv.set hi hin) hK) h2
def chainB (md:Region.Mode) (ops:Array Oper):Nat→Nat→Bool
 | 0,k=>Region.ready md ops (oO ops.size k) == []
 | f+1,k=>Region.ready md ops (oO ops.size k) == [k] && chainB md ops f (k+1)
theorem wP {md:Region.Mode}:∀ (f k:Nat) (a:Act) (w:World),chainB md ops f k=true→wpOpsIn (WF r) n P ops Q (List.range' k f) a w→wpAnyIn (WF r) n P md ops Q f (oO ops.size k) a w
  | 0,k,a,w,hc,h=>⟨by simpa [chainB] using hc,by simpa [wpOpsIn] using h⟩
  | f + 1, k, a, w, hc, h => by
    simp only [chainB,Bool.and_eq_true,beq_iff_eq] at hc
    rw [List.range'_succ,wpOpsIn_cons] at h
    refine⟨fun h0=>(by rw [h0] at hc;cases hc.1),fun i hi=>?_⟩
    rw [hc.1] at hi
    obtain rfl:i=k:=by simpa using hi
    exact wpOpIn_mono (fun a' w' h'=>wP f (i+1) a' w' hc.2 h') h
def Bj (l:List Oper) (m:Nat):Bool :=
 decide (m<l.length) && Region.sinkB .any l.toArray m && vK .any l.toArray m && nz l.toArray && iT l.toArray && chainB .any l.toArray (l.length - m) m
theorem qB {id:Nat}{a:Act}{w:World}{l:List Oper}{Q1:Exit→Act→World→Prop} (m:Nat) (hB:Bj l m=true) (h:RW P (l.take m).toArray true Q1 a w)
  (hG:∀ a w,Q1 .normal a w→wpOpsIn (WF r) n P l.toArray Q (List.range' m (l.length - m)) a w):(Code.region id l.toArray true).wpIn (WF r) n P Q a w:=by
 simp only [Bj,Bool.and_eq_true,decide_eq_true_eq] at hB
 obtain⟨⟨⟨⟨⟨hm,hs⟩,ha⟩,hb⟩,hd⟩,hc⟩:=hB
 have h:=h.out
 simp only [if_true] at h
 refine wpIn_region_any h.1 ?_
 have hm':m<l.toArray.size:=by simpa using hm
 have htl:(l.take m).length=m:=by simp;omega
 have T:Trunc m (l.take m).toArray l.toArray (Array.replicate m false) (Array.replicate l.toArray.size false) :=
  ⟨fun i hi=>by simp [hi],by simpa using htl,by simp,fun i hi=>by simp [hi,show i<l.length from by omega]⟩
 have inv0:HeadInv .any l.toArray m (Array.replicate l.toArray.size false) :=
  ⟨by simp,fun j oj _ hl=>(by rw [getD_replicate_false] at hl;cases hl),fun t _ ht=>getD_in (by simpa using ht) (getD_replicate_false _ _)⟩
 have h2:=h.2
 have hsz:(l.take m).toArray.size=m:=by simpa using htl
 rw [hsz] at h2
 have HH:=Dv (P:=P) (Q:=Q) (n:=n) (r:=r) (g:=l.length - m) hd hs ha hb hm' (fun a' w' hq=>wP _ _ _ _ hc (hG a' w' hq)) m _ _ a w.drew T inv0 h2
 rw [show m+(l.length - m)=l.toArray.size from by simp;omega] at HH
 exact HH
theorem pI {id:Nat}{a:Act}{w:World}{l:List Oper}{Q1:Exit→Act→World→Prop} (m:Nat) (hB:(decide (m<l.length) && nz l.toArray && iT l.toArray)=true) (h:RW P (l.take m).toArray false Q1 a w)
    (hG:∀ a w,Q1 .normal a w→wpOpsIn (WF r) n P l.toArray Q (List.range' m (l.length - m)) a w):(Code.region id l.toArray false).wpIn (WF r) n P Q a w:=by
  simp only [Bool.and_eq_true,decide_eq_true_eq] at hB
  obtain⟨⟨hm,hb⟩,hd⟩:=hB
  have h:=h.out
  simp only [Bool.false_eq_true,if_false] at h
  refine wpIn_region ?_
  have htl:(l.take m).length=m:=by simp;omega
  have hsz:(l.take m).toArray.size=m:=by simpa using htl
  have T:Trunc m (l.take m).toArray l.toArray (Array.replicate m false) (Array.replicate l.toArray.size false) :=
    ⟨fun i hi=>by simp [hi],by simpa using htl,by simp,fun i hi=>by simp [hi,show i<l.length from by omega]⟩
  rw [hsz,List.range_eq_range'] at h
  rw [List.range_eq_range',show l.toArray.size=m+(l.length - m) from by simp;omega]
  have key:∀ (f k:Nat) (a:Act) (w:World),k+f=m→wpOps P (l.take m).toArray (Calm Q1) (List.range' k f) a w→wpOpsIn (WF r) n P l.toArray Q (List.range' k (f+(l.length - m))) a w:=by
    intro f
    induction f with
    | zero =>
      intro k a w hk h
      obtain rfl:k=m:=by omega
      rw [Nat.zero_add]
      exact hG a w h
    | succ f ih =>
      intro k a w hk h
      rw [List.range'_succ,wpOps_cons] at h
      rw [show f+1+(l.length - m)=(f+(l.length - m))+1 from by omega,List.range'_succ,wpOpsIn_cons]
      have hin:k<m:=by omega
      have ho:l.toArray[k]?=some (l.toArray[k]'(by simp;omega)):=Array.getElem?_eq_getElem (by simp;omega)
      refine wpOpIn_mono (fun a' w' h'=>ih (k+1) a' w' (by omega) h') ?_
      unfold wpOp at h
      unfold wpOpIn
      rw [T.ops k hin,ho] at h
      rw [ho]
      simp only [T.wanted hb hin ho] at h
      simp only
      by_cases hw:Region.wanted (l.toArray[k]'(by simp;omega)) (yielded l.toArray a.tmps)=true
      · simp only [hw,if_true] at h ⊢
        rcases h with h | ⟨_,h⟩
        · exact oM (jJ hd ho) h
        · exact (Calm.letsOut h).elim
      · rw [Bool.not_eq_true] at hw
        simp only [hw,Bool.false_eq_true,if_false] at h ⊢
        exact⟨fun _ _=>trivial,h⟩
  exact key m 0 a w (by omega) h
end
end Go.Gl

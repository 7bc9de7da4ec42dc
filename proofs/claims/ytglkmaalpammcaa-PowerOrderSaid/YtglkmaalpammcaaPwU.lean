/- power.Turns: who went, who came (given a sort). -/
import Derived.Test.YtglkmaalpammcaaNLib
import Derived.Test.YtglkmaalpammcaaZA
import Derived.Test.YtglkmaalpammcaaRecG
import Derived.Test.YtglkmaalpammcaaPw0
import Derived.Maps.OwnOps
import Derived.Maps.RangeWalk
import Derived.Maps.Views
import Derived.Deep.DeepCutAuto
namespace Go.Proofs.Ytglkmaalpammcaa
open Go.Gl Go.RowKit Go.Maps
set_option linter.unusedVariables false
set_option maxRecDepth 100000
def met (A B:List Nat) (x:Nat):Int:=(if x∈A then 1 else 0)+if x∈B then 2 else 0
def oL (D:DataW Unit) (A B:List Nat):Prop:=IsMap D∧∀ x:Nat,x≤18446744073709551615→D.atKey (.int .u64 ((x:Nat):Int)) (.lit (.int .i64 0)) = .lit (.int .i64 (met A B x))∧Maps.has D (.int .u64 ((x:Nat):Int))=decide (met A B x≠0)
theorem BD:oL (.map []) [] []:=⟨isMap_empty,fun x _=>⟨rfl,rfl⟩⟩
theorem Af {x y:Nat} (h:x≠y):(Lit.int .u64 ((x:Nat):Int)) ≠ .int .u64 ((y:Nat):Int):=fun e=>by
 injection e with _ e
 omega
theorem uY {D:DataW Unit}{A B A' B':List Nat}{v:Nat}{c:Int} (h:oL D A B) (hc:c=met A' B' v) (h0:c≠0) (hs:∀ x,x≠v→met A' B' x=met A B x):oL (D.put (.int .u64 ((v:Nat):Int)) (.lit (.int .i64 c))) A' B':=by
 refine⟨h.1.put _ _,fun x hx=>?_⟩
 by_cases e:x=v
 ·subst e
  exact⟨by rw [atKey_put_same h.1 (show WideAt.IsKeyLit (.int .u64 ((x:Nat):Int)) from trivial),hc],by rw [has_put_same h.1 (show WideAt.IsKeyLit (.int .u64 ((x:Nat):Int)) from trivial),← hc];exact (decide_eq_true h0).symm⟩
 ·rw [atKey_put_other (Af e),has_put_other (Af e),hs x e]
  exact h.2 x hx
theorem met_l {A:List Nat}{v:Nat}:met (A ++ [v]) [] v=1:=by simp [met]
theorem Eo {A:List Nat}{v x:Nat} (h:x≠v):met (A ++ [v]) [] x=met A [] x:=by simp [met,h]
theorem EE {A B:List Nat}{v x:Nat} (h:x≠v):met A (B ++ [v]) x=met A B x:=by simp [met,h]
theorem met_r {A B:List Nat}{v:Nat}:met A (B ++ [v]) v=(if v∈A then 1 else 0)+2:=by simp [met]
theorem mi {w w':World}{row:Option Nat} (h:w.grownBy w' row):ae (fun k=>some k=row) w w':=⟨h.os,h.tape,h.output,h.size,fun k hk hs=>h.block k hk hs⟩
theorem oI {w:World}{a:Option Addr}{n c i:Nat}{A:List Nat} (h:fM u64 w (.slice a n c) A) (hi:i<A.length):∃ g off,a=some ⟨g,off,none⟩∧g<w.heap.size∧w.cell? ⟨g,off+i,none⟩=some (.int .u64 ((A[i]:Nat):Int)):=by
 rcases fM.open h with ⟨_,h1⟩ | ⟨g,off,cap,hv,_,_,hg,hc⟩
 ·subst h1;simp at hi
 ·cases hv
  exact⟨g,off,rfl,hg.resolve_left (by omega),hc i hi⟩
def zq (n:Nat):Prop:=∀ (w:World) (v:Value) (l:List Nat),l.length≤n→ON 22 w v l→Calls Try.prog 52 #[v] w fun e w'=>e = .returned (.tuple #[])∧∃ l':List Nat,l'.Perm l∧l'.Pairwise (·≤·)∧ON 22 w' v l'∧ae (fK v) w w'
theorem sV:Keyed Try.prog 22:=int_keyed Try.underlying22
theorem CG (w:World):(zeroValue 3).run Try.prog w = .ok (.int .i64 0) w:=by kernel_rfl
theorem wfU {x:Nat} (h:x≤18446744073709551615):(Lit.int .u64 ((x:Nat):Int)).wf=true:=WalkArith.wf_u64 (by omega)
theorem BC {D:DataW Unit}{A:List Nat}{x:Nat}{c:Int} (h:oL D A []) (hx:x≤18446744073709551615) (hat:D.atKey (.int .u64 ((x:Nat):Int)) (.lit (.int .i64 0)) = .lit (.int .i64 c)):bits BinOp.or IntKind.i64 c 1=1:=by
 have h1:=(h.2 x hx).1
 rw [hat] at h1
 injection h1 with h1
 injection h1 with _ h1
 subst h1
 unfold met
 by_cases e:x∈A
 ·rw [if_pos e,if_neg (by simp)];rfl
 ·rw [if_neg e,if_neg (by simp)];rfl
theorem AB {D:DataW Unit}{A B:List Nat}{x:Nat}{c:Int} (h:oL D A B) (hx:x≤18446744073709551615) (hat:D.atKey (.int .u64 ((x:Nat):Int)) (.lit (.int .i64 0)) = .lit (.int .i64 c)):bits BinOp.or IntKind.i64 c 2=(if x∈A then 1 else 0)+2:=by
 have h1:=(h.2 x hx).1
 rw [hat] at h1
 injection h1 with h1
 injection h1 with _ h1
 subst h1
 unfold met
 by_cases e:x∈A <;> by_cases e2:x∈B
 ·rw [if_pos e,if_pos e2];rfl
 ·rw [if_pos e,if_neg e2];rfl
 ·rw [if_neg e,if_pos e2];rfl
 ·rw [if_neg e,if_neg e2];rfl
theorem met_1 {A B:List Nat}{x:Nat}:met A B x=1↔x∈A∧x∉B:=by
 unfold met
 by_cases e:x∈A <;> by_cases e2:x∈B <;> simp [e,e2]
theorem met_2 {A B:List Nat}{x:Nat}:met A B x=2↔x∈B∧x∉A:=by
 unfold met
 by_cases e:x∈A <;> by_cases e2:x∈B <;> simp [e,e2]
structure qK (A B:List Nat) (q:Int) (left:Lit→Bool) (l:List Nat):Prop where
 nd:l.Nodup
 u:∀ x∈l,x≤18446744073709551615
 m:∀ x:Nat,x≤18446744073709551615→(x∈l↔met A B x=q∧left (.int .u64 ((x:Nat):Int))=false)
theorem Cj {A B:List Nat}{q:Int}{D:DataW Unit} (h:oL D A B) (hq:q≠0):qK A B q (Maps.has D) []:=⟨List.nodup_nil,(fun x hx=>by cases hx),(fun x hx=>by
 rw [(h.2 x hx).2]
 simp
 intro e
 rw [e]
 exact hq)⟩
theorem uZ {x y:Nat}:(Lit.int .u64 ((x:Nat):Int)).sameKey (.int .u64 ((y:Nat):Int))=decide (x=y):=by
 show decide (IntKind.u64=IntKind.u64∧((x:Nat):Int)=((y:Nat):Int))=_
 by_cases h:x=y
 ·subst h;simp
 ·rw [decide_eq_false h,decide_eq_false]
  rintro⟨_,e⟩
  omega
theorem rE {A B:List Nat}{q:Int}{left:Lit→Bool}{l:List Nat}{y:Nat} (h:qK A B q left l) (hq:met A B y≠q):qK A B q (fun z=>left z && !z.sameKey (.int .u64 ((y:Nat):Int))) l:=⟨h.nd,h.u,fun x hx=>by
 rw [h.m x hx,uZ]
 by_cases e:x=y
 ·subst e;simp [hq]
 ·simp [e]⟩
theorem xC {A B:List Nat}{q:Int}{left:Lit→Bool}{l:List Nat}{y:Nat} (h:qK A B q left l) (hy:y≤18446744073709551615) (hl:left (.int .u64 ((y:Nat):Int))=true) (hq:met A B y=q):qK A B q (fun z=>left z && !z.sameKey (.int .u64 ((y:Nat):Int))) (l ++ [y]):=by
 have hn:y∉l:=fun x=>by
  have:=((h.m y hy).1 x).2
  rw [hl] at this
  cases this
 refine⟨?_,fun x hx=>?_,fun x hx=>?_⟩
 ·rw [List.nodup_append]
  exact⟨h.nd,by simp,fun a ha b hb=>by rw [List.mem_singleton.1 hb];exact fun e=>hn (e▸ha)⟩
 ·rcases List.mem_append.1 hx with hx | hx
  ·exact h.u x hx
  ·rw [List.mem_singleton.1 hx];exact hy
 ·rw [List.mem_append,h.m x hx,List.mem_singleton,uZ]
  by_cases e:x=y
  ·subst e;simp [hq]
  ·simp [e]
theorem CO {A B:List Nat}{left:Lit→Bool}{l:List Nat} (h:qK A B 1 left l) (hl:∀ z,left z=false) (uA:∀ x∈A,x≤18446744073709551615):∀ x,x∈l↔x∈A∧x∉B:=fun x=>by
 by_cases hx:x≤18446744073709551615
 ·rw [h.m x hx,hl,met_1];simp
 ·exact⟨fun y=>absurd (h.u x y) hx,fun y=>absurd (uA x y.1) hx⟩
theorem CE {A B:List Nat}{left:Lit→Bool}{l:List Nat} (h:qK A B 2 left l) (hl:∀ z,left z=false) (uB:∀ x∈B,x≤18446744073709551615):∀ x,x∈l↔x∈B∧x∉A:=fun x=>by
 by_cases hx:x≤18446744073709551615
 ·rw [h.m x hx,hl,met_2];simp
 ·exact⟨fun y=>absurd (h.u x y) hx,fun y=>absurd (uB x y.1) hx⟩
theorem CB {l l':List Nat} (hp:l'.Perm l) (hn:l.Nodup) (hs:l'.Pairwise (·≤·)):l'.Pairwise (·<·):=by
 have hn':l'.Nodup:=hp.nodup_iff.2 hn
 exact (hs.and hn').imp (fun {a b} h=>by omega)
def nS (w:World) (A B:List Nat) (rb:Nat) (wr:World) (a b:Value) (left:Lit→Bool) (l1 l2:List Nat):Prop:=ON 22 wr a l1∧ON 22 wr b l2∧qK A B 1 left l1∧qK A B 2 left l2∧ae aj w wr∧(∀ k,a.ownBlock=some k→rb<k)∧(∀ k,b.ownBlock=some k→rb<k)∧(∀ k,a.ownBlock=some k→b.ownBlock≠some k)∧w.heap.size≤rb∧rb≤wr.heap.size
theorem rU {v:Value}{w w':World} (m:ae (fK v) w w'):w.grownBy w' v.ownBlock:=⟨m.os,m.tape,m.output,m.size,fun k hk h=>m.block k hk (fun e=>h (Eq.symm e))⟩
section
variable {w wr w1 w2:World}{A B l1 l2:List Nat}{rb x:Nat}{a b v:Value}{left:Lit→Bool}
theorem nS.next (h:nS w A B rb wr a b left l1 l2) (hg:wr.grownBy w1 (some rb)):nS w A B rb w1 a b left l1 l2:=by
 obtain⟨o1,o2,g1,g2,mm,f1,f2,fd,hw,hr⟩:=h
 have m:=mi hg
 exact⟨dR.keep o1 m (fun k hk e=>by have:=f1 k hk;have:=Option.some.inj e;omega),dR.keep o2 m (fun k hk e=>by have:=f2 k hk;have:=Option.some.inj e;omega),g1,g2,mm.trans m (fun _ _ y=>y) (fun k hk e=>by have:=Option.some.inj e;omega),f1,f2,fd,hw,Nat.le_trans hr m.size⟩
theorem nS.one (h:nS w A B rb wr a b left l1 l2) (hx:x≤18446744073709551615) (hl:left (.int .u64 ((x:Nat):Int))=true) (hq:met A B x=1) (o:aU w1 22 1 v (l1.length+1) (l1.map u64 ++ [.int .u64 ((x:Nat):Int)])) (m:ae (fK a) wr w1) (f:v.ownBlock=a.ownBlock∨aI wr v) (hlt:rb<wr.heap.size):nS w A B rb w1 v b (fun z=>left z && !z.sameKey (.int .u64 ((x:Nat):Int))) (l1 ++ [x]) l2:=by
 obtain⟨o1,o2,g1,g2,mm,f1,f2,fd,hw,hr⟩:=h
 refine⟨?_,dR.keep o2 m (fun k hk e=>fd k e hk),xC g1 hx hl hq,rE g2 (by rw [hq];decide),mm.trans m (fun _ _ y=>y) (fun k hk e=>by have:=f1 k e;omega),fun k hk=>?_,f2,fun k hk e=>?_,hw,Nat.le_trans hr m.size⟩
 ·unfold ON dR
  rw [List.map_append,List.length_append]
  exact o
 ·rcases f with f | f
  ·exact f1 k (f▸hk)
  ·have:=f k hk;omega
 ·rcases f with f | f
  ·exact fd k (f▸hk) e
  ·have:=f k hk;have:=dR.lt o2 k e;omega
theorem nS.two (h:nS w A B rb wr a b left l1 l2) (hx:x≤18446744073709551615) (hl:left (.int .u64 ((x:Nat):Int))=true) (hq:met A B x=2) (o:aU w1 22 1 v (l2.length+1) (l2.map u64 ++ [.int .u64 ((x:Nat):Int)])) (m:ae (fK b) wr w1) (f:v.ownBlock=b.ownBlock∨aI wr v) (hlt:rb<wr.heap.size):nS w A B rb w1 a v (fun z=>left z && !z.sameKey (.int .u64 ((x:Nat):Int))) l1 (l2 ++ [x]):=by
 obtain⟨o1,o2,g1,g2,mm,f1,f2,fd,hw,hr⟩:=h
 refine⟨dR.keep o1 m (fun k hk e=>fd k hk e),?_,rE g1 (by rw [hq];decide),xC g2 hx hl hq,mm.trans m (fun _ _ y=>y) (fun k hk e=>by have:=f2 k e;omega),f1,fun k hk=>?_,fun k hk e=>?_,hw,Nat.le_trans hr m.size⟩
 ·unfold ON dR
  rw [List.map_append,List.length_append]
  exact o
 ·rcases f with f | f
  ·exact f2 k (f▸hk)
  ·have:=f k hk;omega
 ·rcases f with f | f
  ·exact fd k hk (f▸e)
  ·have:=f k e;have:=dR.lt o1 k hk;omega
theorem nS.no (h:nS w A B rb wr a b left l1 l2) (h1:met A B x≠1) (h2:met A B x≠2):nS w A B rb wr a b (fun z=>left z && !z.sameKey (.int .u64 ((x:Nat):Int))) l1 l2:=by
 obtain⟨o1,o2,g1,g2,rest⟩:=h
 exact⟨o1,o2,rE g1 h1,rE g2 h2,rest⟩
end
theorem kz:∀ {a b:List Nat},a.Nodup→(∀ x∈a,x∈b)→a.length≤b.length:=by
  intro a
  induction a with
  | nil=>intro b _ _;simp
  | cons x a ih =>
    intro b hn hs
    have hp:=List.nodup_cons.1 hn
    have hxb:x∈b:=hs x (by simp)
    have:=ih (b:=b.erase x) hp.2 (fun y hy=>by
      have hne:y≠x:=fun e=>hp.1 (e▸hy)
      exact (List.mem_erase_of_ne hne).2 (hs y (List.mem_cons_of_mem _ hy)))
    rw [List.length_erase_of_mem hxb] at this
    have hpos:=List.length_pos_of_mem hxb
    simp only [List.length_cons]
    omega
theorem yj {A B:List Nat}{q:Int}{left:Lit→Bool}{l:List Nat}{na nb:Nat} (h:qK A B q left l) (lA:na≤1000000) (lB:nb≤1000000) (hn:A.length=na∧B.length=nb) (hq:q≠0:=by decide):l.length≤100000000:=by
 have:l.length≤(A ++ B).length:=by
  refine kz h.nd (fun x hx=>?_)
  have h1:=((h.m x (h.u x hx)).1 hx).1
  rw [List.mem_append]
  by_cases a:x∈A
  ·exact .inl a
  ·by_cases b:x∈B
   ·exact .inr b
   ·exact absurd (show (0:Int)=q from by rw [← h1];unfold met;rw [if_neg a,if_neg b];rfl) (Ne.symm hq)
 rw [List.length_append,hn.1,hn.2] at this
 omega
theorem Du {x:Int} (h:(Lit.int .u64 x).wf=true):∃ n:Nat,x=((n:Nat):Int)∧n≤18446744073709551615:=by
 simp [Lit.wf,IntKind.min,IntKind.max,IntKind.signed,IntKind.bits] at h
 obtain⟨n,rfl⟩:=Int.eq_ofNat_of_zero_le (show 0≤x by omega)
 exact⟨n,rfl,by omega⟩
set_option maxHeartbeats 8000000 in
theorem zh {xv yv:Value}{A B:List Nat}{w:World}{N:Nat} (hx:fM u64 w xv A) (hy:fM u64 w yv B) (lA:A.length≤1000000) (lB:B.length≤1000000) (uA:∀ x∈A,x≤18446744073709551615) (uB:∀ x∈B,x≤18446744073709551615) (SO:zq N)
  (h1:∀ l:List Nat,l.Nodup→(∀ x∈l,x∈A∧x∉B)→l.length≤N) (h2:∀ l:List Nat,l.Nodup→(∀ x∈l,x∈B∧x∉A)→l.length≤N) :
  Calls Try.prog 23 #[xv,yv] w fun e w'=>∃ a b l1 l2,e = .returned (.tuple #[a,b])∧ON 22 w' a l1∧ON 22 w' b l2∧l1.Pairwise (·<·)∧(∀ x,x∈l1↔x∈A∧x∉B)∧l2.Pairwise (·<·)∧(∀ x,x∈l2↔x∈B∧x∉A)∧ae aj w w'∧aI w a∧aI w b∧∀ k,a.ownBlock=some k→b.ownBlock≠some k:=by
 obtain⟨a0,c0,rfl,_⟩:=fM.form hx
 obtain⟨a1,c1,rfl,_⟩:=fM.form hy
 have HX:=lh (And.intro hx uA)
 have HY:=lh (And.intro hy uB)
 have HL:=lh (And.intro h1 (And.intro h2 SO))
 clear hx hy uA uB h1 h2 SO
 obtain⟨na,hna⟩:∃ na,A.length=na:=⟨_,rfl⟩
 obtain⟨nb,hnb⟩:∃ nb,B.length=nb:=⟨_,rfl⟩
 have HN:=lh (And.intro hna hnb)
 rw [hna] at lA ⊢
 rw [hnb] at lB ⊢
 clear hna hnb
 have hmm:=@run_makeMap Try.prog
 go_enter Try.func23,Try.ntmps23
 go_wp2
 go_loopw [18] (fun i wr=>∃ k:Nat,k≤na∧i = .int .i64 k∧Hid (∃ D,wr.ownsMap Try.prog 22 (plainElem Try.prog 3) w.heap.size k D∧oL D (A.take k) []∧ae aj w wr)) (fun i _=>na - (intOf i).toNat)
 case atStart=>exact⟨0,Nat.zero_le _,rfl,lh ⟨.map [],World.ownsMap_made _ _ _ _,BD,(ae.refl _ _).alloc _⟩⟩
 case round =>
  obtain⟨k,hk,rfl,hI⟩:=hrel
  by_cases hlt:k<na
  ·obtain⟨D,hown,hD,hm⟩:=hI.out
   have hkA:k<A.length:=by rw [HN.out.1];exact hlt
   obtain⟨g,off,rfl,hg,hc0⟩:=oI HX.out.1 hkA
   have hc:_root_.Go.World.cell? _ ⟨g,off+k,none⟩=some (.int .u64 ((A[k]:Nat):Int)):=(hm.cellAt hg (fun x=>x) _).trans hc0
   have hx64:=HX.out.2 _ (List.getElem_mem hkA)
   have htk:A.take (k+1)=A.take k ++ [A[k]]:=List.take_succ_eq_append_getElem hkA
   obtain⟨x,hxd⟩:∃ x,A[k]=x:=⟨_,rfl⟩
   rw [hxd] at hc hx64 htk
   have HD:=lh (And.intro hD (And.intro hm htk))
   have HO:=lh hown
   have hkey:keyOf Try.prog 22 (.int .u64 ((x:Nat):Int))=some (.int .u64 ((x:Nat):Int)):=keyOf_int_mk Try.underlying22 (wfU hx64)
   clear hxd hc0 hD hm htk hI
   go_wp2_with (first
    | (at_lookup;refine wpList_lookup_own_int _ rfl _ _ 106 rfl 22 3 .i64 sV Try.underlying106 Try.underlying3 (CG _) w.heap.size k _ rfl hown _ _ rfl hkey ?_;intro c hat hwc)
    | (at_mapUpdate;refine wpList_mapUpdate_own _ rfl _ _ _ 106 rfl 22 3 sV Try.underlying106 _ w.heap.size k _ rfl hown (by unfold maxLen;omega) _ _ _ rfl rfl hkey _ [] (plainElem_int Try.underlying3 (by rw [BC HD.out.1 hx64 hat];decide)) ?_;intro w1 hown1 hgrow1)
    | fail)
   go_roundw
   case rel=>exact⟨k+1,by omega,by go_num,lh ⟨_,hown1,by rw [HD.out.2.2];exact uY HD.out.1 ((BC HD.out.1 hx64 hat).trans met_l.symm) (by rw [BC HD.out.1 hx64 hat];decide) (fun y hy=>Eo hy),HD.out.2.1.trans (mi hgrow1) (fun _ _ x=>x) (fun i hi x=>by have:=Option.some.inj x;omega)⟩⟩
   case measure=>simp [intOf];omega
  ·obtain rfl:na=k:=by omega
   obtain⟨D,hown,hD,hm⟩:=hI.out
   rw [List.take_of_length_le (by rw [HN.out.1];exact Nat.le_refl _)] at hD
   have HI:=lh (show ∃ D,wr.ownsMap Try.prog 22 (plainElem Try.prog 3) w.heap.size (na+0) D∧oL D A (B.take 0)∧ae aj w wr from⟨D,hown,hD,hm⟩)
   clear hI hown hD hm
   go_wp2
   go_loopw [29] (fun i wr=>∃ k:Nat,k≤nb∧i = .int .i64 k∧Hid (∃ D,wr.ownsMap Try.prog 22 (plainElem Try.prog 3) w.heap.size (na+k) D∧oL D A (B.take k)∧ae aj w wr)) (fun i _=>nb - (intOf i).toNat)
   case atStart=>exact⟨0,Nat.zero_le _,rfl,HI⟩
   case round =>
    clear HI
    obtain⟨k,hk,rfl,hI⟩:=hrel
    by_cases hlt:k<nb
    ·obtain⟨D,hown,hD,hm⟩:=hI.out
     have hkA:k<B.length:=by rw [HN.out.2];exact hlt
     obtain⟨g,off,rfl,hg,hc0⟩:=oI HY.out.1 hkA
     have hc:_root_.Go.World.cell? _ ⟨g,off+k,none⟩=some (.int .u64 ((B[k]:Nat):Int)):=(hm.cellAt hg (fun x=>x) _).trans hc0
     have hx64:=HY.out.2 _ (List.getElem_mem hkA)
     have htk:B.take (k+1)=B.take k ++ [B[k]]:=List.take_succ_eq_append_getElem hkA
     obtain⟨x,hxd⟩:∃ x,B[k]=x:=⟨_,rfl⟩
     rw [hxd] at hc hx64 htk
     have HD:=lh (And.intro hD (And.intro hm htk))
     have HO:=lh hown
     have hkey:keyOf Try.prog 22 (.int .u64 ((x:Nat):Int))=some (.int .u64 ((x:Nat):Int)):=keyOf_int_mk Try.underlying22 (wfU hx64)
     clear hxd hc0 hD hm htk hI
     go_wp2_with (first
      | (at_lookup;refine wpList_lookup_own_int _ rfl _ _ 106 rfl 22 3 .i64 sV Try.underlying106 Try.underlying3 (CG _) w.heap.size (na+k) _ rfl hown _ _ rfl hkey ?_;intro c hat hwc)
      | (at_mapUpdate;refine wpList_mapUpdate_own _ rfl _ _ _ 106 rfl 22 3 sV Try.underlying106 _ w.heap.size (na+k) _ rfl hown (by unfold maxLen;omega) _ _ _ rfl rfl hkey _ [] (plainElem_int Try.underlying3 (by rw [AB HD.out.1 hx64 hat];split <;> decide)) ?_;intro w1 hown1 hgrow1)
      | fail)
     go_roundw
     case rel=>exact⟨k+1,by omega,by go_num,lh ⟨_,hown1,by rw [HD.out.2.2];exact uY HD.out.1 ((AB HD.out.1 hx64 hat).trans met_r.symm) (by rw [AB HD.out.1 hx64 hat];split <;> decide) (fun y hy=>EE hy),HD.out.2.1.trans (mi hgrow1) (fun _ _ x=>x) (fun i hi x=>by have:=Option.some.inj x;omega)⟩⟩
     case measure=>simp [intOf];omega
    ·obtain rfl:nb=k:=by omega
     obtain⟨D,hown,hD,hm⟩:=hI.out
     rw [List.take_of_length_le (by rw [HN.out.2];exact Nat.le_refl _)] at hD
     have HD:=lh (And.intro hD hm)
     have hbl:=hown.lt
     clear hI hD hm
     go_wp2_with (first
      | (at_range;refine wpList_range_own _ rfl _ 106 rfl 22 3 sV Try.underlying106 _ w.heap.size (na+nb) _ rfl hown ?_;intro w0 hrg0 hg0 hs0)
      | go_in)
     go_frame
     obtain⟨rb,hrb⟩:∃ rb,wr.heap.size=rb:=⟨_,rfl⟩
     rw [hrb] at hrg0 hs0 hbl ⊢
     go_loopw [11,12] (fun vw vc wr=>∃ (a b:Value),a=vw∧b=vc∧∃ (left:Lit→Bool) (cnt:Nat) (l1 l2:List Nat),wr.ranges Try.prog 22 (plainElem Try.prog 3) w.heap.size rb (na+nb) D left cnt∧Hid (nS w A B rb wr a b left l1 l2)) (fun _ _ wr=>wr.rangeLeft w.heap.size rb)
     case atStart=>exact⟨_,_,rfl,rfl,_,_,[],[],hrg0,lh ⟨dR.nil _ _ _,dR.nil _ _ _,Cj HD.out.1 (by decide),Cj HD.out.1 (by decide),HD.out.2.then0 ((mi hg0).mono (fun _ _ x=>by cases x)),fun k hk=>by simp [Value.ownBlock] at hk,fun k hk=>by simp [Value.ownBlock] at hk,fun k hk=>by simp [Value.ownBlock] at hk,by omega,by omega⟩⟩
     case round =>
      clear hrg0 hg0 hs0 hown
      obtain⟨va,vb,rfl,rfl,left,cnt,l1,l2,hrg,hR⟩:=hrel
      go_wp2_with (first
       | (at_next;(refine wpList_next_ranges_ii _ rfl _ rfl 22 3 .u64 .i64 sV Try.underlying22 Try.underlying3 w.heap.size rb (na+nb) _ _ _ rfl hrg ?_ ?_))
       | go_in)
      ·intro hc0 hl0
       obtain⟨o1,o2,g1,g2,mm,f1,f2,fd,hw,hr⟩:=hR.out
       have n1:=HL.out.1 l1 g1.nd (fun x hx=>(CO g1 hl0 HX.out.2 x).1 hx)
       have n2:=HL.out.2.1 l2 g2.nd (fun x hx=>(CE g2 hl0 HY.out.2 x).1 hx)
       have S1:=lh (HL.out.2.2 wr va l1 n1 o1)
       have SS:=lh (HL.out.2.2)
       have T1:=lh (And.intro o2 (And.intro n2 (And.intro mm (And.intro f1 (And.intro f2 (And.intro fd hw))))))
       have T2:=lh (And.intro (CO g1 hl0 HX.out.2) (And.intro g1.nd (And.intro (CE g2 hl0 HY.out.2) g2.nd)))
       clear o1 o2 g1 g2 mm f1 f2 fd hw hr n1 n2 hc0 hl0 hrg hR HX HY HL HD
       go_wp2_with fail
       refine S1.out.mono ?_
       rintro e w1 ⟨rfl,l1',p1,s1,o1',m1⟩
       have S2:=lh (SS.out w1 vb l2 T1.out.2.1 (dR.keep T1.out.1 m1 (fun k hk x=>T1.out.2.2.2.2.2.1 k x hk)))
       have T3:=lh (And.intro p1 (And.intro s1 (And.intro o1' m1)))
       clear p1 s1 o1' m1 S1 SS
       go_wp2_with fail
       refine S2.out.mono ?_
       rintro e w2 ⟨rfl,l2',p2,s2,o2',m2⟩
       have T4:=lh (And.intro p2 (And.intro s2 (And.intro o2' m2)))
       clear p2 s2 o2' m2 S2
       go_wp2
       refine bodyPost_ret (by simp [results,Try.results23,go_sem];try rfl) rfl ?_
       obtain⟨o2,n2,mm,f1,f2,fd,hw⟩:=T1.out
       obtain⟨q1,d1,q2,d2⟩:=T2.out
       obtain⟨p1,s1,o1',m1⟩:=T3.out
       obtain⟨p2,s2,o2',m2⟩:=T4.out
       exact⟨va,vb,l1',l2',rfl,dR.keep o1' m2 (fun k hk x=>fd k hk x),o2',CB p1 d1 s1,fun x=>by rw [p1.mem_iff];exact q1 x,CB p2 d2 s2,fun x=>by rw [p2.mem_iff];exact q2 x,(mm.trans m1 (fun _ _ x=>x) (fun k hk x=>by have:=f1 k x;omega)).trans m2 (fun _ _ x=>x) (fun k hk x=>by have:=f2 k x;omega),fun k hk=>by have:=f1 k hk;omega,fun k hk=>by have:=f2 k hk;omega,fd⟩
      ·intro x c w1 cnt1 hwx hwc hlx hat hrg1 hlt hg1 hs1 hen
       obtain⟨x,rfl,hx64⟩:=Du hwx
       have hc:met A B x=c:=by
        have h1:=(HD.out.1.2 x hx64).1
        rw [hat] at h1
        injection h1 with h1
        injection h1 with _ h1
        exact h1.symm
       have T1:=lh (hR.out.next hg1)
       have HC:=lh hc
       have HX1:=lh (And.intro hx64 hlx)
       have hrl:=hrg1.lt
       clear hR hwx hwc hlx hat hg1 hc hx64 HX HY HL HD
       by_cases c1:c=1
       ·subst c1
        go_upto_region 18 with fail
        refine gJ (d := .region 18 (aJ 18 Try.f23) false) (by kernel_rfl) ?_
        refine RW.wp (pu18 (T1.out.1) (yj T1.out.2.2.1 lA lB HN.out) ?_)
        intros
        rename_i v8 w8 o8 m8 f8
        have T2:=lh (T1.out.one HX1.out.1 HX1.out.2 HC.out o8 m8 f8 hrl)
        have hrg2:=hrg1.kept (rU m8) (fun e=>by have:=T1.out.2.2.2.2.2.1 _ e.symm;omega) (fun e=>by have:=T1.out.2.2.2.2.2.1 _ e.symm;omega)
        clear o8 m8 f8 T1
        go_wp2
        go_roundw
        case rel=>exact⟨v8,vb,rfl,rfl,_,cnt1,l1 ++ [x],l2,hrg2,T2⟩
        case measure=>rw [hrg2.left_eq,hrg.left_eq];exact hlt
       ·by_cases c2:c=2
        ·subst c2
         go_upto_region 20 with fail
         refine gJ (d := .region 20 (aJ 20 Try.f23) false) (by kernel_rfl) ?_
         refine RW.wp (pu20 (T1.out.2.1) (yj T1.out.2.2.2.1 lA lB HN.out) ?_)
         intros
         rename_i v8 w8 o8 m8 f8
         have T2:=lh (T1.out.two HX1.out.1 HX1.out.2 HC.out o8 m8 f8 hrl)
         have hrg2:=hrg1.kept (rU m8) (fun e=>by have:=T1.out.2.2.2.2.2.2.1 _ e.symm;omega) (fun e=>by have:=T1.out.2.2.2.2.2.2.1 _ e.symm;omega)
         clear o8 m8 f8 T1
         go_wp2
         go_roundw
         case rel=>exact⟨va,v8,rfl,rfl,_,cnt1,l1,l2 ++ [x],hrg2,T2⟩
         case measure=>rw [hrg2.left_eq,hrg.left_eq];exact hlt
        ·have T2:=lh (T1.out.no (x:=x) (by rw [HC.out];exact c1) (by rw [HC.out];exact c2))
         have i1:(c == 1)=false:=by simp [c1]
         have i2:(c == 2)=false:=by simp [c2]
         go_wp2
         go_roundw
         case rel=>exact⟨va,vb,rfl,rfl,_,cnt1,l1,l2,hrg1,T2⟩
         case measure=>rw [hrg1.left_eq,hrg.left_eq];exact hlt
end Go.Proofs.Ytglkmaalpammcaa

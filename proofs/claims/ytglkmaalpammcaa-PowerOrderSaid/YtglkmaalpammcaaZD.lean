/- Parts of the proof, one behind the other: IterP, KvI, KvP1, KvV, KvWd, HSpoil, KvD0, KvT, KvD, KvB, KvE, KvX, KvY, KvH, KvL, KvSr, KForm, SpecK, KEight, KFirst, KEq, KMake, RPut, EWr, EWr2. -/
import Derived.Test.YtglkmaalpammcaaZC
import Derived.Shelf.Abstract
import Derived.Test.YtglkmaalpammcaaZB
import Derived.Test.YtglkmaalpammcaaZA
import Derived.Deep.WholeRow
import Derived.KernelRfl
import Derived.Deep.RegionLaw
import Derived.Deep.DrawnRows
set_option maxHeartbeats 64000000
set_option linter.unusedSimpArgs false
set_option linter.unusedVariables false
set_option maxRecDepth 100000
namespace Go.Gl
open Go.RowKit
def ni (P:Program) (gf:FuncId) (lb:Array Value) (n:Nat) (A:Nat→(Nat→Prop)→Array Value→World→Prop) (U0 V:Nat→Prop) (Pre:World→Prop) (w:World):Prop :=
 ∀ (l:Nat) (J Jx:Nat→(Nat→Prop)→World→Prop) (W:World),ae (fun k=>¬ U0 k) w W→Pre W→jY W.heap.size V J→jY W.heap.size V Jx →
  (∀ i U args W1,i<n→J i U W1→A i U args W1→(∀ k,U k→k<W1.heap.size)→W.heap.size≤W1.heap.size→J i (fun k=>U k∨ig args k) W1→(∀ k,ig args k→k<W1.heap.size)→xN P l args W1 fun e W' =>
   (e = .returned (.bool true)∧J (i+1) U W'∧ae (fun k=>¬ U k) W1 W')∨(e = .returned (.bool false)∧Jx (i+1) U W'∧ae (fun k=>¬ U k) W1 W')) →
  J 0 U0 W →
  Calls P gf (#[.func (.yield l) #[] #[]] ++ lb) W fun e W'=>(∃ v,e = .returned v)∧((∃ U,J n U W'∧∀ k,U k→k<W'.heap.size)∨(∃ i U,i<n∧Jx (i+1) U W'∧∀ k,U k→k<W'.heap.size))
theorem ni.at {P:Program}{gf:FuncId}{lb:Array Value}{n:Nat}{A:Nat→(Nat→Prop)→Array Value→World→Prop}{U0 V:Nat→Prop}{w w':World}{Pre:World→Prop} (h:ni P gf lb n A U0 V Pre w) (hm:ae (fun k=>¬ U0 k) w w'):ni P gf lb n A U0 V Pre w':=fun l J Jx W h1 hp=>h l J Jx W (hm.trans h1 (fun _ _ x=>x) (fun _ _ x=>x)) hp
section
variable {P:Program}{r:Option Nat}
theorem uV {g:Operand}{ps:Array Tmp}{assign body:Code}{Q:Exit→Act→World→Prop}{a:Act}{w:World}{gf:FuncId}{lb:Array Value} (hg:a.eval g = .func (.func gf) #[] lb) (eg:∀ args w,(callFunc gf args).run P w = .ok (.enter gf args) w)
  {n:Nat}{A:Nat→(Nat→Prop)→Array Value→World→Prop}{U0 V:Nat→Prop}{Pre:World→Prop}{w0:World} (it:ni P gf lb n A U0 V Pre w0) (hpre:∀ A B,Pre A→ae aj A B→Pre B) (hp0:Pre w) (h0:ae (fun k=>¬ U0 k) w0 w) (hU:∀ k,U0 k→k<w.heap.size) (hA:nP A) (hps:∀ i U args W,A i U args W→args.size=ps.size)
  (I:Nat→(Nat→Prop)→World→Prop) (Ix:Code→Nat→(Nat→Prop)→World→Prop) (hI:jY w.heap.size V I) (hIx:∀ c,jY w.heap.size V (Ix c)) (hs:I 0 U0 w)
  (hround:∀ l i U args W,w.heap.size≤l→U l→i<n→I i U W→A i U args W→(∀ k,U k→k<W.heap.size)→w.heap.size≤W.heap.size→(∃ r,W.heap[l]?=some (.loop r))→I i (fun k=>U k∨ig args k) W→(∀ k,ig args k→k<W.heap.size) →
   assign.wpIn (WF (some l)) 3 P (Exit.then (fun a1 W1=>ae (fun k=>¬ U k) W W1∧∀ W2,ae (fun k=>k=l) W1 W2→(∃ r,W2.heap[l]?=some (.loop r))→body.wpIn (WF (some l)) 3 P (uQ I Ix U i W2) a1 W2) (fun _ _ _=>False))
    { tmps:=iD ps.toList args.toList a.tmps,defers:=[] } W)
  (hdone:∀ D U W,w.heap.size≤D→U D→(∀ k,U k→k<W.heap.size)→I n U W→W.heap[D]?=some (.deferred (some []))→Q .normal { a with defers:={ target := .collected D,args:=#[] } :: a.defers } W)
  (hstop:∀ D c i U W,w.heap.size≤D→U D→(∀ k,U k→k<W.heap.size)→i<n→Ix c (i+1) U W→W.heap[D]?=some (.deferred (some []))→c.wpIn (WF none) 3 P Q { a with defers:={ target := .collected D,args:=#[] } :: a.defers } W) :
  (Code.rangeFunc g ps assign body).wpIn (WF none) 3 P Q a w:=by
 refine wpIn_rangeFunc ?_
 intro fn hfn
 obtain⟨rec,hrec⟩:∃ rec:LoopState→Option Code→Loop,rec=fun st pe=>{ state:=st,pending:=pe,fn,tmps:=a.tmps,params:=ps,assign,body,defers:=w.heap.size }:=⟨_,rfl⟩
 obtain⟨W1,hW1⟩:∃ W1,(w.alloc (.deferred (some []))).alloc (.loop (rec .ready none))=W1:=⟨_,rfl⟩
 have hm1:ae aj w W1:=by rw [← hW1];exact ((ae.refl aj w).alloc _).alloc _
 have hsz:W1.heap.size=w.heap.size+2:=by rw [← hW1];simp
 have hL1:W1.heap[w.heap.size+1]?=some (.loop (rec .ready none)):=by
  rw [← hW1];have:=World.alloc_heap_new (w.alloc (.deferred (some []))) (.loop (rec .ready none));rwa [World.size_alloc] at this
 have hK1:W1.heap[w.heap.size]?=some (.deferred (some [])):=by
  rw [← hW1];exact dS (bC w _) _
 obtain⟨l,hl⟩:∃ l,l=w.heap.size+1:=⟨_,rfl⟩
 obtain⟨D,hD⟩:∃ D,D=w.heap.size:=⟨_,rfl⟩
 rw [← hl] at hL1
 rw [← hD] at hK1
 have hw1:ae (fun k=>¬ U0 k) w0 W1:=h0.trans hm1 (fun _ _ x=>x) (fun _ _ x=>x.elim)
 have hUD:∀ (U:Nat→Prop) k,(U k∨k=l)∨k=D↔U k∨k=l∨k=D:=fun U k=>by rw [or_assoc]
 refine⟨l,[{ target := .collected D,args:=#[] }],W1,{ target := .fn (.func gf) lb,args:=#[.func (.yield l) #[] #[]] },W1,gf,#[.func (.yield l) #[] #[]] ++ lb,W1,?_,?_,?_,?_,fun h=>by simp [Fence.wide] at h,?_⟩
 ·rw [← hW1,hrec,hl,hD];exact run_enterLoop_outer _ _ _ _ _
 ·simp only [resolve,hg]
  simp [go_sem]
 ·intro f' hf';trivial
 ·simp [invoke,go_sem,eg]
 ·refine jW.2 ((it l (fun i U W=>I i (fun k=>(U k∨k=l)∨k=D) W∧¬ U l∧¬ U D∧W.heap[l]?=some (.loop (rec .ready none))∧W.heap[D]?=some (.deferred (some [])))
   (fun i U W=>∃ c,Ix c i (fun k=>(U k∨k=l)∨k=D) W∧¬ U l∧¬ U D∧W.heap[l]?=some (.loop (rec .done (some c)))∧W.heap[D]?=some (.deferred (some [])))
   W1 hw1 (hpre _ _ hp0 hm1) ?_ ?_ ?_ ⟨hI _ _ _ _ _ hs (hm1.mono (fun _ _ x=>x.elim)) hU (fun k hk=>by rcases hk with (h | h) | h;exact .inl h;exact .inr (by omega);exact .inr (by omega)),fun h=>by have:=hU l h;omega,fun h=>by have:=hU D h;omega,hL1,hK1⟩).mono ?_)
  ·rintro i U U' X Y ⟨hi,h1,h2,h3,h4⟩ hm hus hsub
   have hlX:=lt_of_heap h3
   have hDX:=lt_of_heap h4
   refine⟨hI _ _ _ _ _ hi (hm.mono (fun k _ hk=>⟨.inl (.inl hk.1),hk.2.imp id (fun h=>by omega)⟩)) (fun k hk=>by rcases hk with (h | h) | h;exact hus k h;omega;omega) (fun k hk=>by
    rcases hk with (h | h) | h
    ·exact (hsub k h).imp (fun x => .inl (.inl x)) id
    ·exact .inl (.inl (.inr h))
    ·exact .inl (.inr h)),fun h=>by rcases hsub l h with h | h;exact h1 h;omega,fun h=>by rcases hsub D h with h | h;exact h2 h;omega,(hm.block l hlX (fun hk=>h1 hk.1)).trans h3,(hm.block D hDX (fun hk=>h2 hk.1)).trans h4⟩
  ·rintro i U U' X Y ⟨c,hi,h1,h2,h3,h4⟩ hm hus hsub
   have hlX:=lt_of_heap h3
   have hDX:=lt_of_heap h4
   refine⟨c,hIx c _ _ _ _ _ hi (hm.mono (fun k _ hk=>⟨.inl (.inl hk.1),hk.2.imp id (fun h=>by omega)⟩)) (fun k hk=>by rcases hk with (h | h) | h;exact hus k h;omega;omega) (fun k hk=>by
    rcases hk with (h | h) | h
    ·exact (hsub k h).imp (fun x => .inl (.inl x)) id
    ·exact .inl (.inl (.inr h))
    ·exact .inl (.inr h)),fun h=>by rcases hsub l h with h | h;exact h1 h;omega,fun h=>by rcases hsub D h with h | h;exact h2 h;omega,(hm.block l hlX (fun hk=>h1 hk.1)).trans h3,(hm.block D hDX (fun hk=>h2 hk.1)).trans h4⟩
  ·rintro i U args W hin ⟨hi,h1,h2,h3,h4⟩ hargs hus hge ⟨hi',_,_,_,_⟩ hab
   have hlW:=lt_of_heap h3
   have hDW:=lt_of_heap h4
   have hA2:=hA _ _ _ _ D _ (hA _ _ _ _ l _ hargs h3 rfl) h4 rfl
   have hus2:∀ k,((U k∨k=l)∨k=D)→k<W.heap.size:=fun k hk=>by rcases hk with (h | h) | h;exact hus k h;omega;omega
   refine qO (base:=w.heap.size) (V:=V) (U:=fun k=>(U k∨k=l)∨k=D) (i:=i) hrec hI hIx h3 (hps _ _ _ _ hargs) (by omega) (.inl (.inr rfl)) hus2 (hround l i _ args W (by omega) (.inl (.inr rfl)) hin hi hA2 hus2 (by omega) ⟨_,h3⟩
    (hI _ _ _ _ _ hi' (ae.refl _ _) (fun k hk=>by rcases hk with ((h | h) | h) | h;exact hus k h;exact hab k h;omega;omega) (fun k hk=>by rcases hk with ((h | h) | h) | h;exact .inl (.inl (.inl (.inl h)));exact .inl (.inl (.inr h));exact .inl (.inr h);exact .inl (.inl (.inl (.inr h))))) hab) _ ?_ ?_
   ·intro W' hi' hm' hl'
    have hD':W'.heap[D]?=some (.deferred (some [])):=(hm'.block D hDW (fun hk=>by rcases hk with hk | hk;exact hk (.inr rfl);omega)).trans h4
    exact .inl ⟨rfl,⟨hi',h1,h2,hl',hD'⟩,hm'.mono (fun k _ hk hu=>by rcases hk with hk | hk;exact hk (.inl (.inl hu));exact h1 (hk▸hu))⟩
   ·intro c W' hi' hm' hl'
    have hD':W'.heap[D]?=some (.deferred (some [])):=(hm'.block D hDW (fun hk=>by rcases hk with hk | hk;exact hk (.inr rfl);omega)).trans h4
    exact .inr ⟨rfl,⟨c,hi',h1,h2,hl',hD'⟩,hm'.mono (fun k _ hk hu=>by rcases hk with hk | hk;exact hk (.inl (.inl hu));exact h1 (hk▸hu))⟩
  ·rintro e W2 ⟨⟨v,rfl⟩,(⟨U,⟨hi,h1,h2,h3,h4⟩,hus⟩ | ⟨i,U,hin,⟨c,hi,h1,h2,h3,h4⟩,hus⟩)⟩
   ·refine⟨none,_,by have:=run_endLoop (P:=P) h3 (by rw [hrec];simp);rw [hrec] at this;exact this,?_⟩
    have hlW:=lt_of_heap h3
    have hDW:=lt_of_heap h4
    exact hdone D (fun k=>(U k∨k=l)∨k=D) _ (by omega) (.inr rfl) (fun k hk=>by rw [World.putObj_size];rcases hk with (h | h) | h;exact hus k h;omega;omega) (hI _ _ _ _ _ hi ((dB W2 l _).mono (fun k _ hk=>by subst hk;exact⟨.inl (.inr rfl),.inr (by omega)⟩)) (fun k hk=>by rcases hk with (h | h) | h;exact hus k h;omega;omega) (fun k hk => .inl hk)) ((World.putObj_heap_other (by omega)).trans h4)
   ·refine⟨some c,_,by have:=run_endLoop (P:=P) h3 (by rw [hrec];simp);rw [hrec] at this;exact this,?_⟩
    have hlW:=lt_of_heap h3
    have hDW:=lt_of_heap h4
    exact hstop D c i (fun k=>(U k∨k=l)∨k=D) _ (by omega) (.inr rfl) (fun k hk=>by rw [World.putObj_size];rcases hk with (h | h) | h;exact hus k h;omega;omega) hin (hIx c _ _ _ _ _ hi ((dB W2 l _).mono (fun k _ hk=>by subst hk;exact⟨.inl (.inr rfl),.inr (by omega)⟩)) (fun k hk=>by rcases hk with (h | h) | h;exact hus k h;omega;omega) (fun k hk => .inl hk)) ((World.putObj_heap_other (by omega)).trans h4)
end
end Go.Gl
namespace Go.Proofs.Ytglkmaalpammcaa
open Go.Gl Go.RowKit
def tickR (sg:Nat) (A B:World):Prop:=∃ c:Int,A.cell? ⟨sg,2,none⟩=some (.int .i64 c)∧B=A.setCell ⟨sg,2,none⟩ (.int .i64 (c+1))
def vG (sg:Nat) (A:World):Prop:=∃ c:Int,A.cell? ⟨sg,2,none⟩=some (.int .i64 c)∧A.frozen? ⟨sg,2,none⟩=false ∧ -9223372036854775808≤c+1∧c+1≤9223372036854775807
theorem tickR.mods {sg:Nat}{A B:World} (h:tickR sg A B):ae (fun k=>k=sg) A B:=by
 obtain⟨c,_,rfl⟩:=h
 exact (ae.refl (fun k=>k=sg) A).setCell (p:=⟨sg,2,none⟩) (.inl rfl) _
theorem vO {sg:Nat}{A:World} (h:vG sg A):Calls Try.prog 58 #[.pointer (some ⟨sg,2,none⟩),.int .i64 1] A fun e B=>∃ v,e = .returned v∧tickR sg A B:=by
 obtain⟨c,h1,h2,h3,h4⟩:=h
 exact (yf h1 h2 h3 h4).mono (fun e B ⟨a,b⟩=>⟨_,a,c,h1,b⟩)
def qM (bs bw by1:Nat) (U:Nat→Prop) (k:Nat):Prop:=U k∨k=bs∨k=bw∨k=by1
theorem wU {w:World}{sg bs bw gf B:Nat}{lb:Array Value}{L:List EV}{Ui:Nat→Prop}{t1 t2:TypeId}{Pre Ok:World→Prop} (it:ni Try.prog gf lb L.length (pz B L) Ui aj Pre w) (hpm:∀ A B,Pre A→ae aj A B→Pre B) (hOk:∀ A,Ok A→vG sg A) (hPre:∀ A C,Ok A→tickR sg A C→Pre C) (eg:∀ args w,(callFunc gf args).run Try.prog w = .ok (.enter gf args) w)
  (hbs:w.heap[bs]?=some (.cells #[.pointer (some ⟨sg,0,none⟩)] t1 (0,0))) (hbw:w.heap[bw]?=some (.cells #[.func (.func gf) #[] lb] t2 (0,0))) (hUi:∀ k,Ui k→k<w.heap.size) (hsg:sg<w.heap.size) (n1:¬ Ui bs) (n2:¬ Ui bw) (n3:¬ Ui sg) (n4:bs≠sg) (n5:bw≠sg) :
  rW Try.prog 120 #[.pointer (some ⟨bs,0,none⟩),.pointer (some ⟨bw,0,none⟩)] L.length (pz B L) (fun k=>Ui k∨k=bs∨k=bw) (tickR sg) Ok w:=by
 intro l K J Jt Jx W hW hK hJ hJt hJx tk0 tk1 hY h0
 have hwW:w.heap.size≤W.heap.size:=hW.size
 have hbsW:=hW.heap hbs (fun x=>x (.inr (.inl rfl)))
 have hbwW:=hW.heap hbw (fun x=>x (.inr (.inr rfl)))
 have hbsl:=lt_of_heap hbs
 have hbwl:=lt_of_heap hbw
 have hU0:∀ k,(Ui k∨k=bs∨k=bw)→k<W.heap.size:=fun k hk=>by
  rcases hk with hk | rfl | rfl
  ·have:=hUi k hk;omega
  ·omega
  ·omega
 clear hbs hbw
 (refine kG _ Try.func120 rfl ?_;simp only [Try.ntmps120,List.size_toArray,List.length_cons,List.length_nil,Nat.reduceAdd,Nat.reduceSub,Array.replicate_succ,Array.replicate_zero,List.push_toArray,List.append_toArray,List.nil_append,List.cons_append])
 refine wpIn_seq ?_
 refine bP (d := .region 0 (aJ 0 Try.f120) false) (by kernel_rfl) ?_
 refine RW.wpIn (kci0 ?_) (by kernel_rfl)
 intro by1 w1 hby hbO m1
 refine bG ?_
 have hK1:K 0 (qM bs bw by1 Ui) w1:=hK _ _ _ _ _ h0 (m1.mono (fun _ _ x=>x.elim)) hU0 (fun k hk=>by
  rcases hk with hk | rfl | rfl | rfl
  ·exact .inl (.inl hk)
  ·exact .inl (.inr (.inl rfl))
  ·exact .inl (.inr (.inr rfl))
  ·exact .inr (by omega))
 obtain⟨ok0,tj0⟩:=tk0 _ _ hK1
 refine wpIn_seq ?_
 refine bP (d := .region 1 (aJ 1 Try.f120) false) (by kernel_rfl) ?_
 refine RW.wpIn (kc1 (ai (m1.heap hbsW (fun x=>x)) 0) (vO (hOk _ ok0)) ?_) (by kernel_rfl)
 intros
 rename_i w2 hτ0
 refine bG ?_
 have hJ0:=tj0 _ hτ0
 have m2:=hτ0.mods
 have hs1:=m1.size
 have hs2:=m2.size
 have hbs2:=m2.heap (m1.heap hbsW (fun x=>x)) (fun e=>n4 e)
 have hbw2:=m2.heap (m1.heap hbwW (fun x=>x)) (fun e=>n5 e)
 have hby2:=m2.heap hbO (fun e=>by omega)
 have hby2l:=lt_of_heap hby2
 have m02:ae (fun k=>¬ Ui k) w w2:=((hW.mono (fun k _ hk x=>hk (.inl x))).trans m1 (U:=fun k=>¬ Ui k) (fun _ _ x=>x) (fun _ _ x=>x.elim)).trans m2 (fun _ _ x=>x) (fun k _ hk x=>n3 (hk▸x))
 have itW:=it.at m02
 have hpW:=hPre _ _ ok0 hτ0
 clear hK1 ok0 tj0 hbsW hbwW hbO
 refine wpIn_seq ?_
 refine bP (d := .region 2 (aJ 2 Try.f120) false) (by kernel_rfl) ?_
 refine RW.wpIn (kc2 (ai hbw2 0) ?_) (by kernel_rfl)
 intros
 rename_i w2' e2
 subst e2
 refine bG ?_
 have frm:∀ (X:Nat→(Nat→Prop)→World→Prop),jY W.heap.size aj X→∀ i U U' A B,X i (qM bs bw by1 U) A→w2'.heap.size≤A.heap.size→ae (fun k=>U k∧(aj k∨w2'.heap.size≤k)) A B→(∀ k,U k→k<A.heap.size)→(∀ k,U' k→U k∨A.heap.size≤k)→X i (qM bs bw by1 U') B:=fun X hX i U U' A B hx hsz hm hus hsub=>by
  refine hX _ _ _ _ _ hx (hm.mono (fun k _ hk=>⟨.inl hk.1,hk.2.imp id (fun h=>by omega)⟩)) (fun k hk=>?_) (fun k hk=>?_)
  ·rcases hk with hk | rfl | rfl | rfl
   ·exact hus k hk
   ·omega
   ·omega
   ·omega
  ·rcases hk with hk | hk
   ·exact (hsub k hk).imp .inl id
   ·exact .inl (.inr hk)
 have keep2:∀ (U:Nat→Prop) (A B:World),ae (fun k=>U k∧(aj k∨w2'.heap.size≤k)) A B→A.heap[bs]?=some (.cells #[.pointer (some ⟨sg,0,none⟩)] t1 (0,0))∧A.heap[by1]?=some (.cells #[.func (.yield l) #[] #[]] 97 (0,0))→B.heap[bs]?=some (.cells #[.pointer (some ⟨sg,0,none⟩)] t1 (0,0))∧B.heap[by1]?=some (.cells #[.func (.yield l) #[] #[]] 97 (0,0)):=fun U A B hm hp=>by
  refine⟨hm.heap hp.1 (fun hk=>?_),hm.heap hp.2 (fun hk=>?_)⟩
  ·rcases hk.2 with h | h
   ·exact h
   ·omega
  ·rcases hk.2 with h | h
   ·exact h
   ·omega
 refine wpIn_block ?_
 refine uV (by rfl) eg itW hpm hpW (ae.refl _ _) (fun k hk=>by have:=hUi k hk;omega) (nD B L) (fun i U args W1 hA=>by obtain⟨e,kv,vv,_,rfl,_⟩:=hA;rfl)
  (fun i U Wr=>i≤L.length∧J i (qM bs bw by1 U) Wr∧(Wr.heap[bs]?=some (.cells #[.pointer (some ⟨sg,0,none⟩)] t1 (0,0))∧Wr.heap[by1]?=some (.cells #[.func (.yield l) #[] #[]] 97 (0,0)))∧(¬ U bs∧¬ U bw∧¬ U by1∧¬ U sg)∧w2'.heap.size≤Wr.heap.size)
  (fun c i U Wr=>c = .ret∧Jx i (qM bs bw by1 U) Wr∧w2'.heap.size≤Wr.heap.size)
  ?_ ?_ ⟨Nat.zero_le _,hJ0,⟨hbs2,hby2⟩,⟨n1,n2,fun x=>by have:=hUi _ x;omega,n3⟩,Nat.le_refl _⟩ ?_ ?_ ?_
 ·rintro i U U' A B ⟨h1,h2,h3,⟨k1,k2,k3,k4⟩,h4⟩ hm hus hsub
  refine⟨h1,frm J hJ _ _ _ _ _ h2 h4 hm hus hsub,keep2 U _ _ hm h3,⟨fun x=>?_,fun x=>?_,fun x=>?_,fun x=>?_⟩,Nat.le_trans h4 hm.size⟩
  ·rcases hsub _ x with y | y
   ·exact k1 y
   ·omega
  ·rcases hsub _ x with y | y
   ·exact k2 y
   ·omega
  ·rcases hsub _ x with y | y
   ·exact k3 y
   ·omega
  ·rcases hsub _ x with y | y
   ·exact k4 y
   ·omega
 ·rintro c i U U' A B ⟨h1,h2,h4⟩ hm hus hsub
  exact⟨h1,frm Jx hJx _ _ _ _ _ h2 h4 hm hus hsub,Nat.le_trans h4 hm.size⟩
 ·-- one round
  intro lp i U args Wr hlp hUlp hi ⟨hin,hJi,hinv,⟨k1,k2,k3,k4⟩,hszr⟩ hA hUs hszW hloop ⟨_,hJa,_,⟨a1,a2,a3,a4⟩,_⟩ hab
  obtain⟨e,kv,vv,hei,hargs,o1,o2,u1,u2,dd,b1,b2⟩:=hA
  subst hargs
  simp only [iD,List.setIfInBounds_toArray,List.set_cons_succ,List.set_cons_zero]
  refine wpIn_seq ?_
  refine bP (d := .region 3 (aJ 3 Try.f120) false) (by kernel_rfl) ?_
  refine RW.wpIn (kc3 ?_) (by kernel_rfl)
  intro w3 e3
  subst e3
  refine bG ?_
  refine bP (d := .region 4 (aJ 4 Try.f120) false) (by kernel_rfl) ?_
  refine RW.wpIn (kc4 ?_) (by kernel_rfl)
  intro w3 e3
  subst e3
  refine bG ?_
  refine⟨ae.refl _ _,?_⟩
  intro w4 m4 _
  have hkl:ae (fun k=>U k∧(aj k∨w2'.heap.size≤k)) w3 w4:=m4.mono (fun k _ hk=>by subst hk;exact⟨hUlp,.inr hlp⟩)
  have hkl2:ae (fun k=>(U k∨ig #[kv,vv] k)∧(aj k∨w2'.heap.size≤k)) w3 w4:=m4.mono (fun k _ hk=>by subst hk;exact⟨.inl hUlp,.inr hlp⟩)
  obtain⟨hbs4,hby4⟩:=keep2 U _ _ hkl hinv
  have hJ4:=frm J hJ _ _ _ _ _ hJi hszr hkl hUs (fun k hk => .inl hk)
  have hJa4:=frm J hJ _ _ _ _ _ hJa hszr hkl2 (fun k hk=>by rcases hk with hk | hk;exact hUs k hk;exact hab k hk) (fun k hk => .inl hk)
  have hsz4:=Nat.le_trans hszr m4.size
  have hUs4:∀ k,U k→k<w4.heap.size:=fun k hk=>Nat.lt_of_lt_of_le (hUs k hk) m4.size
  have hUo4:∀ k,qM bs bw by1 U k→k<w4.heap.size:=fun k hk=>by
   rcases hk with hk | rfl | rfl | rfl
   ·exact hUs4 k hk
   ·omega
   ·omega
   ·omega
  have akv:∀ k,kv.ownBlock=some k→ig #[kv,vv] k:=fun k hk=>⟨kv,by simp,hk⟩
  have avv:∀ k,vv.ownBlock=some k→ig #[kv,vv] k:=fun k hk=>⟨vv,by simp,hk⟩
  have o14:=o1.keep m4 (fun k hk x=>u1 k hk (x▸hUlp))
  have o24:=o2.keep m4 (fun k hk x=>u2 k hk (x▸hUlp))
  have hab4:∀ k,ig #[kv,vv] k→k<w4.heap.size:=fun k hk=>Nat.lt_of_lt_of_le (hab k hk) m4.size
  have hJb4:J i (fun k=>qM bs bw by1 U k∨ig #[kv,vv] k) w4:=hJ _ _ _ _ _ hJa4 (ae.refl _ _) (fun k hk=>by
   rcases hk with (hk | hk) | hk | hk | hk
   ·exact hUs4 k hk
   ·exact hab4 k hk
   ·subst hk;omega
   ·subst hk;omega
   ·subst hk;omega) (fun k hk=>by
   rcases hk with (hk | hk) | hk
   ·exact .inl (.inl (.inl hk))
   ·exact .inl (.inr hk)
   ·exact .inl (.inl (.inr hk)))
  obtain⟨ok4,tj4⟩:=tk1 i _ _ hi hJ4
  obtain⟨_,tb4⟩:=tk1 i _ _ hi hJb4
  clear hJi hinv hkl hkl2 hJa hJa4
  refine wpIn_block ?_
  refine wpIn_seq ?_
  refine bP (d := .region 5 (aJ 5 Try.f120) false) (by kernel_rfl) ?_
  refine RW.wpIn (kc5 (ai hbs4 0) (vO (hOk _ ok4)) ?_) (by kernel_rfl)
  intros
  rename_i w5 hτ
  refine bG ?_
  have m5:=hτ.mods
  have hby5:=m5.heap hby4 (fun e=>by omega)
  have hbs5:=m5.heap hbs4 (fun e=>n4 e)
  have o15:=o14.keep m5 (fun k hk x=>a4 (.inr (x▸akv k hk)))
  have o25:=o24.keep m5 (fun k hk x=>a4 (.inr (x▸avv k hk)))
  refine wpIn_seq ?_
  refine bP (d := .region 6 (aJ 6 Try.f120) false) (by kernel_rfl) ?_
  refine gW (Q1:=fun _ a' w'=>wpOpsIn _ _ _ _ _ _ a' w') 3 (by kernel_rfl) (kc6 (l:=l) (ai hby5 0) ?_) (fun _ _ h=>h)
  intros
  rename_i w5' e5
  subst e5
  refine jo (some 20) (ki (by kernel_rfl)) (by kernel_rfl) (by kernel_rfl) (hY i (qM bs bw by1 U) #[kv,vv] w5' hi (tj4 _ hτ) ⟨e,kv,vv,hei,rfl,o15,o25,fun k hk x=>?_,fun k hk x=>?_,dd,b1,b2⟩ (fun k hk=>Nat.lt_of_lt_of_le (hUo4 k hk) m5.size) (by have:=m5.size;omega) (tb4 _ hτ) (fun k hk=>Nat.lt_of_lt_of_le (hab4 k hk) m5.size)) ?_
  ·rcases x with x | x | x | x
   ·exact u1 k hk x
   ·exact a1 (.inr (x▸akv k hk))
   ·exact a2 (.inr (x▸akv k hk))
   ·exact a3 (.inr (x▸akv k hk))
  ·rcases x with x | x | x | x
   ·exact u2 k hk x
   ·exact a1 (.inr (x▸avv k hk))
   ·exact a2 (.inr (x▸avv k hk))
   ·exact a3 (.inr (x▸avv k hk))
  rintro r w6 (⟨rfl,k1',k2'⟩ | ⟨rfl,k1',k2'⟩)
  ·have m46:ae (fun k=>¬ U k) w4 w6:=m5.trans k2' (fun k _ hk x=>k4 (hk▸x)) (fun k _ hk x=>hk (.inl x))
   refine⟨_,rfl,?_⟩
   refine eX (.bool false) (some 21) (ki (by kernel_rfl)) (by kernel_rfl) (by kernel_rfl) ?_
   refine bG ?_
   refine wpIn_cond_false rfl ?_
   refine wpIn_skip ?_
   refine iC ?_
   exact⟨m46,hi,k1',⟨k2'.heap hbs5 (fun x=>x (.inr (.inl rfl))),k2'.heap hby5 (fun x=>x (.inr (.inr (.inr rfl))))⟩,⟨k1,k2,k3,k4⟩,Nat.le_trans hsz4 m46.size⟩
  ·have m46:ae (fun k=>¬ U k) w4 w6:=m5.trans k2' (fun k _ hk x=>k4 (hk▸x)) (fun k _ hk x=>hk (.inl x))
   refine⟨_,rfl,?_⟩
   refine eX (.bool true) (some 21) (ki (by kernel_rfl)) (by kernel_rfl) (by kernel_rfl) ?_
   refine bG ?_
   refine wpIn_cond_true rfl ?_
   refine wpIn_ret ?_
   repeat (first | refine lL ?_ | refine jD ?_)
   exact⟨m46,rfl,k1',Nat.le_trans hsz4 m46.size⟩
 ·-- all have come
  rintro D U W5 hD hUD hus ⟨h1,h2,h3,h5,h4⟩ hdef
  refine iC ?_
  refine gQ hdef (results_none rfl _ _ _) ?_
  refine⟨⟨_,rfl⟩,.inl ⟨qM bs bw by1 U,frm J hJ _ _ _ _ _ h2 h4 ((dB W5 D _).mono (fun k _ hk=>by subst hk;exact⟨hUD,.inr hD⟩)) hus (fun k hk => .inl hk),fun k hk=>?_⟩⟩
  rw [World.putObj_size]
  rcases hk with hk | rfl | rfl | rfl
  ·exact hus k hk
  ·omega
  ·omega
  ·omega
 ·-- a round has left
  rintro D c i U W5 hD hUD hus hi ⟨rfl,h2,h4⟩ hdef
  refine wpIn_ret ?_
  refine jD ?_
  refine gQ hdef (results_none rfl _ _ _) ?_
  refine⟨⟨_,rfl⟩,.inr ⟨i,qM bs bw by1 U,hi,frm Jx hJx _ _ _ _ _ h2 h4 ((dB W5 D _).mono (fun k _ hk=>by subst hk;exact⟨hUD,.inr hD⟩)) hus (fun k hk => .inl hk),fun k hk=>?_⟩⟩
  rw [World.putObj_size]
  rcases hk with hk | rfl | rfl | rfl
  ·exact hus k hk
  ·omega
  ·omega
  ·omega
open Go.Gl Go.RowKit
structure kN (w:World) (sg mg:Nat) (vo:Value) (R:List PV) (bs bp:Nat) (pv:Value) (xs:List UInt8):Prop where
 pm:PM w mg vo R
 bs:w.heap[bs]?=some (.cells #[.pointer (some ⟨sg,0,none⟩)] 26 (0,0))
 bp:w.heap[bp]?=some (.cells #[pv] 77 (0,0))
 pv:Gl.Own w pv xs
def UPx (mg:Nat) (vo:Value) (R:List PV) (bs bp:Nat) (pv:Value) (k:Nat):Prop:=MS mg vo R k∨MD R k∨k=bs∨k=bp∨pv.ownBlock=some k
theorem kN.keep {w w':World}{sg mg:Nat}{vo:Value}{R:List PV}{bs bp:Nat}{pv:Value}{xs:List UInt8} (h:kN w sg mg vo R bs bp pv xs) (hm:ae (fun k=>¬ UPx mg vo R bs bp pv k) w w'):kN w' sg mg vo R bs bp pv xs :=
 ⟨h.pm.keep hm (fun k hk x=>x (.inl hk)) (fun k hk x=>x (.inr (.inl hk))),hm.heap h.bs (fun x=>x (.inr (.inr (.inl rfl)))),hm.heap h.bp (fun x=>x (.inr (.inr (.inr (.inl rfl))))),h.pv.keep hm (fun k hk x=>x (.inr (.inr (.inr (.inr hk)))))⟩
theorem kN.lt {w:World}{sg mg:Nat}{vo:Value}{R:List PV}{bs bp:Nat}{pv:Value}{xs:List UInt8} (h:kN w sg mg vo R bs bp pv xs):∀ k,UPx mg vo R bs bp pv k→k<w.heap.size:=by
 rintro k (hk | hk | rfl | rfl | hk)
 ·exact h.pm.lt k hk
 ·exact h.pm.dlt k hk
 ·exact lt_of_heap h.bs
 ·exact lt_of_heap h.bp
 ·exact h.pv.lt k hk
def vk (sg mg:Nat) (W:World):Prop:=W.cell? ⟨sg,0,none⟩=some (.pointer (some ⟨mg,0,none⟩))∧sg<W.heap.size
theorem vk.keep {sg mg:Nat}{A B:World} (h:vk sg mg A) (hm:ae aj A B):vk sg mg B:=⟨(hm.cellAt h.2 (fun x=>x) 0).trans h.1,Nat.lt_of_lt_of_le h.2 hm.size⟩
def lu (R:List PV) (xs:List UInt8):List EV:=(kw R xs []).takeWhile (fun e=>bQ xs e.k)
theorem xn {w:World}{sg mg:Nat}{vo:Value}{R:List PV}{bs bp:Nat}{pv:Value}{xs:List UInt8} (h:kN w sg mg vo R bs bp pv xs) (ok:fH (aB R)) (hn:R.length≤1000000) (lx:xs.length≤1000000) :
  ni Try.prog 81 #[.pointer (some ⟨bs,0,none⟩),.pointer (some ⟨bp,0,none⟩)] (lu R xs).length (pz w.heap.size (lu R xs)) (UPx mg vo R bs bp pv) aj (vk sg mg) w:=by
 intro l J Jx W hW hP hJ hJx hY h0
 have pre:=h.keep hW
 have hwW:w.heap.size≤W.heap.size:=hW.size
 clear h hW
 obtain⟨apv,cpv,hpv,_⟩:=pre.pv.rd.form
 obtain⟨UW,hUW⟩:∃ UW,UPx mg vo R bs bp pv=UW:=⟨_,rfl⟩
 rw [hUW] at h0
 have hUl:∀ k,UW k→k<W.heap.size:=fun k hk=>by rw [← hUW] at hk;exact pre.lt k hk
 have keepP:∀ A B,kN A sg mg vo R bs bp pv xs→ae (fun k=>¬ UW k) A B→kN B sg mg vo R bs bp pv xs:=fun A B hp hm=>hp.keep (by rw [hUW];exact hm)
 have SW:=lh hUW
 (refine kG _ Try.func81 rfl ?_;simp only [Try.ntmps81,List.size_toArray,List.length_cons,List.length_nil,Nat.reduceAdd,Nat.reduceSub,Array.replicate_succ,Array.replicate_zero,List.push_toArray,List.append_toArray,List.nil_append,List.cons_append])
 refine wpIn_seq ?_
 refine bP (d := .region 0 (aJ 0 Try.f81) false) (by kernel_rfl) ?_
 refine RW.wpIn (kp0 ?_) (by kernel_rfl)
 intro by1 w1 hby hbO m1
 refine bG ?_
 have pre1:=keepP _ _ pre (m1.mono (fun _ _ x=>x.elim))
 have hP1:=hP.keep m1
 refine wpIn_seq ?_
 refine bP (d := .region 1 (aJ 1 Try.f81) true) (by kernel_rfl) ?_
 refine RW.wpIn (kp1 (X:=fun m bf bt w'=>∃ fv' tv',∃ b',ae aj w1 b'∧yR b' mg vo R xs [] m bf bt fv' tv' w') pre1.bs pre1.bp hP1.1 hP1.2 (fun b' hm=>(AZ (pre1.pm.keep0 hm) (pre1.pv.rd.keep hm (fun _ _ x=>x)) (Rd.nil b') lx (by simp)).mono (fun e w' ⟨m,bf,bt,fv',tv',he,hr⟩=>⟨m,bf,bt,he,fv',tv',b',hm,hr⟩)) ?_) (by kernel_rfl)
 intros
 rename_i m bf bt w2 hres
 obtain⟨fv,tv,b',mb,wp,mr,s1,s2,s3,f1,f2⟩:=hres
 refine bG ?_
 have m2:=mb.then0 mr
 have m12:=m1.then0 m2
 have pre2:=keepP _ _ pre (m12.mono (fun _ _ x=>x.elim))
 have hbO2:=m2.heap hbO (fun x=>x)
 have hby2:by1<w2.heap.size:=lt_of_heap hbO2
 have hs12:W.heap.size≤w2.heap.size:=m12.size
 have hsb:W.heap.size≤b'.heap.size:=(m1.then0 mb).size
 have hsub0:∀ k,iy UW by1 (xE mg vo R m bf bt fv tv) k→UW k∨W.heap.size≤k:=fun k hk=>by
  rcases hk with hk | hk | rfl
  ·exact .inl hk
  ·rcases hk with (hk | hk | rfl | rfl | hk) | rfl | hk
   ·exact .inl (by rw [← SW.out];exact .inl hk)
   ·exact .inl (by rw [← SW.out];exact .inr (.inl hk))
   ·right;omega
   ·right;omega
   ·right;have:=f1 k hk;omega
   ·right;omega
   ·right;have:=f2 k hk;omega
  ·right;omega
 have h2:J 0 (iy UW by1 (xE mg vo R m bf bt fv tv)) w2:=hJ _ _ _ _ _ h0 (m12.mono (fun _ _ x=>x.elim)) hUl hsub0
 have frm:∀ (X:Nat→(Nat→Prop)→World→Prop),jY W.heap.size aj X→∀ i U U' A B,X i (iy UW by1 U) A→w2.heap.size≤A.heap.size→ae (fun k=>U k∧(aj k∨w2.heap.size≤k)) A B→(∀ k,U k→k<A.heap.size)→(∀ k,U' k→U k∨A.heap.size≤k)→X i (iy UW by1 U') B:=fun X hX i U U' A B hx hsz hm hus hsub=>by
  refine hX _ _ _ _ _ hx (hm.mono (fun k _ hk=>⟨.inr (.inl hk.1),hk.2.imp id (fun h=>by omega)⟩)) (fun k hk=>?_) (fun k hk=>?_)
  ·rcases hk with hk | hk | rfl
   ·have:=hUl k hk;omega
   ·exact hus k hk
   ·omega
  ·rcases hk with hk | hk | hk
   ·exact .inl (.inl hk)
   ·exact (hsub k hk).imp (fun h => .inr (.inl h)) id
   ·exact .inl (.inr (.inr hk))
 have keep2:∀ (U:Nat→Prop) (A B:World),ae (fun k=>U k∧(aj k∨w2.heap.size≤k)) A B→kN A sg mg vo R bs bp pv xs∧A.heap[by1]?=some (.cells #[.func (.yield l) #[] #[]] 97 (0,0))→kN B sg mg vo R bs bp pv xs∧B.heap[by1]?=some (.cells #[.func (.yield l) #[] #[]] 97 (0,0)):=fun U A B hm hp=>by
  refine⟨keepP _ _ hp.1 (hm.mono (fun k _ hk hu=>?_)),hm.heap hp.2 (fun hk=>?_)⟩
  ·rcases hk.2 with h | h
   ·exact h
   ·have:=hUl k hu;omega
  ·rcases hk.2 with h | h
   ·exact h
   ·omega
 refine wpIn_block ?_
 refine qH (by rfl) (enters_of Try.func67 (by kernel_rfl) rfl) (Aj wp ok hn (by simp)) (ae.refl _ _) wp.lt (nD _ _) (fun i U args W1 hA=>by obtain⟨e,kv,vv,_,rfl,_⟩:=hA;rfl)
  (fun i U Wr=>i≤(lu R xs).length∧J i (iy UW by1 U) Wr∧(kN Wr sg mg vo R bs bp pv xs∧Wr.heap[by1]?=some (.cells #[.func (.yield l) #[] #[]] 97 (0,0)))∧w2.heap.size≤Wr.heap.size)
  (fun c i U Wr=>c = .ret∧((i=(lu R xs).length+1∧J (lu R xs).length (iy UW by1 U) Wr)∨(∃ j,i=j+1∧j<(lu R xs).length∧Jx (j+1) (iy UW by1 U) Wr))∧w2.heap.size≤Wr.heap.size)
  ?_ ?_ ⟨Nat.zero_le _,h2,⟨pre2,hbO2⟩,Nat.le_refl _⟩ ?_ ?_ ?_
 ·rintro i U U' A B ⟨h1,h2,h3,h4⟩ hm hus hsub
  exact⟨h1,frm J hJ _ _ _ _ _ h2 h4 hm hus hsub,keep2 U _ _ hm h3,Nat.le_trans h4 hm.size⟩
 ·rintro c i U U' A B ⟨h1,h2,h4⟩ hm hus hsub
  refine⟨h1,h2.imp (fun x=>⟨x.1,frm J hJ _ _ _ _ _ x.2 h4 hm hus hsub⟩) (fun⟨j,x1,x2,x3⟩=>⟨j,x1,x2,frm Jx hJx _ _ _ _ _ x3 h4 hm hus hsub⟩),Nat.le_trans h4 hm.size⟩
 ·-- one round
  intro lp i U args Wr hlp hUlp hi ⟨hin,hJi,hinv,hszr⟩ hA hUs hszW hloop ⟨_,hJa,_,_⟩ hab
  obtain⟨e,kv,vv,hei,hargs,o1,o2,u1,u2,dd,b1,b2⟩:=hA
  subst hargs
  obtain⟨hq1,hq2⟩:=oP (fun e:EV=>bQ xs e.k) (kw R xs []) i e hin hei
  simp only [iD,List.setIfInBounds_toArray,List.set_cons_succ,List.set_cons_zero]
  refine wpIn_seq ?_
  refine bP (d := .region 2 (aJ 2 Try.f81) false) (by kernel_rfl) ?_
  refine RW.wpIn (kp2 ?_) (by kernel_rfl)
  intro w3 e3
  subst e3
  refine bG ?_
  refine bP (d := .region 3 (aJ 3 Try.f81) false) (by kernel_rfl) ?_
  refine RW.wpIn (kp3 ?_) (by kernel_rfl)
  intro w3 e3
  subst e3
  refine bG ?_
  refine⟨ae.refl _ _,?_⟩
  intro w4 m4 _
  have hkl:ae (fun k=>U k∧(aj k∨w2.heap.size≤k)) w3 w4:=m4.mono (fun k _ hk=>by subst hk;exact⟨hUlp,.inr hlp⟩)
  have hkl2:ae (fun k=>(U k∨ig #[kv,vv] k)∧(aj k∨w2.heap.size≤k)) w3 w4:=m4.mono (fun k _ hk=>by subst hk;exact⟨.inl hUlp,.inr hlp⟩)
  obtain⟨hp4,hby4⟩:=keep2 U _ _ hkl hinv
  have hJ4:=frm J hJ _ _ _ _ _ hJi hszr hkl hUs (fun k hk => .inl hk)
  have hJa4:=frm J hJ _ _ _ _ _ hJa hszr hkl2 (fun k hk=>by rcases hk with hk | hk;exact hUs k hk;exact hab k hk) (fun k hk => .inl hk)
  have hsz4:=Nat.le_trans hszr m4.size
  have hUs4:∀ k,U k→k<w4.heap.size:=fun k hk=>Nat.lt_of_lt_of_le (hUs k hk) m4.size
  have hUo4:∀ k,iy UW by1 U k→k<w4.heap.size:=fun k hk=>by
   rcases hk with hk | hk | rfl
   ·have:=hUl k hk;omega
   ·exact hUs4 k hk
   ·omega
  have o14:=o1.keep m4 (fun k hk x=>u1 k hk (x▸hUlp))
  have o24:=o2.keep m4 (fun k hk x=>u2 k hk (x▸hUlp))
  have hab4:∀ k,ig #[kv,vv] k→k<w4.heap.size:=fun k hk=>Nat.lt_of_lt_of_le (hab k hk) m4.size
  have hJb4:J i (fun k=>iy UW by1 U k∨ig #[kv,vv] k) w4:=hJ _ _ _ _ _ hJa4 (ae.refl _ _) (fun k hk=>by
   rcases hk with hk | (hk | hk) | hk
   ·have:=hUl k hk;omega
   ·exact hUs4 k hk
   ·exact hab4 k hk
   ·subst hk;omega) (fun k hk=>by
   rcases hk with (hk | hk | hk) | hk
   ·exact .inl (.inl hk)
   ·exact .inl (.inr (.inl (.inl hk)))
   ·exact .inl (.inr (.inr hk))
   ·exact .inl (.inr (.inl (.inr hk))))
  have HP:=uI o14.rd hp4.pv.rd
  have bp4:=ai hp4.bp 0
  have by4:=ai hby4 0
  clear hJi hinv hkl hkl2 hJa hJa4
  refine wpIn_block ?_
  refine wpIn_seq ?_
  refine bP (d := .region 4 (aJ 4 Try.f81) false) (by kernel_rfl) ?_
  rcases hB:bQ xs e.k with _ | _
  ·rw [hB] at HP
   have hie:i=(lu R xs).length:=by
    have:¬ i<(lu R xs).length:=fun h=>by have:=hq1.2 h;rw [hB] at this;cases this
    omega
   refine RW.wpIn (kp4f (l:=l) bp4 by4 HP ?_) (by kernel_rfl)
   intros
   rename_i w5 e5
   subst e5
   refine bG ?_
   refine wpIn_cond_true rfl ?_
   refine wpIn_ret ?_
   repeat (first | refine lL ?_ | refine jD ?_)
   rw [hie] at hJ4
   exact⟨ae.refl _ _,rfl,.inl ⟨by rw [hie],hJ4⟩,hsz4⟩
  ·rw [hB] at HP
   have hlt:=hq1.1 hB
   refine gW (Q1:=fun _ a' w'=>wpOpsIn _ _ _ _ _ _ a' w') 8 (by kernel_rfl) (kp4t (l:=l) bp4 by4 HP ?_) (fun _ _ h=>h)
   intros
   rename_i w5 e5
   subst e5
   refine jo (some 22) (ki (by kernel_rfl)) (by kernel_rfl) (by kernel_rfl) (hY i (iy UW by1 U) #[kv,vv] w5 hlt hJ4 ⟨e,kv,vv,hq2 hlt,rfl,o14,o24,fun k hk x=>?_,fun k hk x=>?_,dd,fun k hk=>by have:=b1 k hk;omega,fun k hk=>by have:=b2 k hk;omega⟩ hUo4 (by omega) hJb4 hab4) ?_
   ·have hb1:=b1 k hk
    rcases x with x | x | x
    ·have:=hUl k x;omega
    ·exact u1 k hk x
    ·omega
   ·have hb2:=b2 k hk
    rcases x with x | x | x
    ·have:=hUl k x;omega
    ·exact u2 k hk x
    ·omega
   rintro r w6 (⟨rfl,k1',k2'⟩ | ⟨rfl,k1',k2'⟩)
   ·have m46:ae (fun k=>¬ U k) w5 w6:=k2'.mono (fun k _ hk x=>hk (.inr (.inl x)))
    refine⟨_,rfl,?_⟩
    refine eX (.bool false) (some 23) (ki (by kernel_rfl)) (by kernel_rfl) (by kernel_rfl) ?_
    refine eX (.bool false) (some 24) (ki (by kernel_rfl)) (by kernel_rfl) (by kernel_rfl) ?_
    refine bG ?_
    refine wpIn_cond_false rfl ?_
    refine wpIn_skip ?_
    refine iC ?_
    exact⟨m46,hlt,k1',⟨keepP _ _ hp4 (k2'.mono (fun k _ hk hu=>hk (.inl hu))),k2'.heap hby4 (fun hk=>hk (.inr (.inr rfl)))⟩,Nat.le_trans hsz4 m46.size⟩
   ·have m46:ae (fun k=>¬ U k) w5 w6:=k2'.mono (fun k _ hk x=>hk (.inr (.inl x)))
    refine⟨_,rfl,?_⟩
    refine eX (.bool true) (some 23) (ki (by kernel_rfl)) (by kernel_rfl) (by kernel_rfl) ?_
    refine eX (.bool true) (some 24) (ki (by kernel_rfl)) (by kernel_rfl) (by kernel_rfl) ?_
    refine bG ?_
    refine wpIn_cond_true rfl ?_
    refine wpIn_ret ?_
    repeat (first | refine lL ?_ | refine jD ?_)
    exact⟨m46,rfl,.inr ⟨i,rfl,hlt,k1'⟩,Nat.le_trans hsz4 m46.size⟩
 ·-- all have come
  rintro D U W5 hD hUD hus ⟨h1,h2,h3,h4⟩ hdef
  refine iC ?_
  refine gQ hdef (results_none rfl _ _ _) ?_
  have hj:(kw R xs []).length=(lu R xs).length:=by
   have:(lu R xs).length≤(kw R xs []).length:=List.Sublist.length_le (List.takeWhile_sublist _)
   omega
  rw [hj] at h2
  have hD5:=lt_of_heap hdef
  refine⟨⟨_,rfl⟩,.inl ⟨iy UW by1 U,frm J hJ _ _ _ _ _ h2 h4 ((dB W5 D _).mono (fun k _ hk=>by subst hk;exact⟨hUD,.inr hD⟩)) hus (fun k hk => .inl hk),fun k hk=>?_⟩⟩
  rw [World.putObj_size]
  rcases hk with hk | hk | rfl
  ·have:=hUl k hk;omega
  ·exact hus k hk
  ·omega
 ·-- a round has left
  rintro D c i U W5 hD hUD hus hi ⟨rfl,h2,h4⟩ hdef
  have hbd:∀ k,iy UW by1 U k→k<(W5.putObj D (.deferred none)).heap.size:=fun k hk=>by
   rw [World.putObj_size]
   rcases hk with hk | hk | rfl
   ·have:=hUl k hk;omega
   ·exact hus k hk
   ·omega
  have hmD:ae (fun k=>U k∧(aj k∨w2.heap.size≤k)) W5 (W5.putObj D (.deferred none)):=(dB W5 D _).mono (fun k _ hk=>by subst hk;exact⟨hUD,.inr hD⟩)
  refine wpIn_ret ?_
  refine jD ?_
  refine gQ hdef (results_none rfl _ _ _) ?_
  rcases h2 with ⟨_,h2⟩ | ⟨j,hj,hjl,h2⟩
  ·exact⟨⟨_,rfl⟩,.inl ⟨iy UW by1 U,frm J hJ _ _ _ _ _ h2 h4 hmD hus (fun k hk => .inl hk),hbd⟩⟩
  ·exact⟨⟨_,rfl⟩,.inr ⟨j,iy UW by1 U,hjl,frm Jx hJx _ _ _ _ _ h2 h4 hmD hus (fun k hk => .inl hk),hbd⟩⟩
open Go.Gl Go.RowKit
theorem xh (w:World) (sg gf:Nat) (lb:Array Value):Calls Try.prog 80 #[.pointer (some ⟨sg,0,none⟩),.func (.func gf) #[] lb] w fun e w'=>∃ bs bw,e = .returned (.func (.func 120) #[] #[.pointer (some ⟨bs,0,none⟩),.pointer (some ⟨bw,0,none⟩)]) ∧
   w'.heap[bs]?=some (.cells #[.pointer (some ⟨sg,0,none⟩)] 26 (0,0))∧(∃ t,w'.heap[bw]?=some (.cells #[.func (.func gf) #[] lb] t (0,0)))∧ae aj w w'∧w.heap.size≤bs∧w.heap.size≤bw:=by
 go_enter Try.func80,Try.ntmps80
 go_wp2
 go_ret
 refine⟨w.heap.size,w.heap.size+1,rfl,dS (bC w _) _,⟨84,?_⟩,((ae.refl aj w).alloc _).alloc _,Nat.le_refl _,by omega⟩
 ·have:=bC (w.alloc (.cells #[.pointer (some ⟨sg,0,none⟩)] 26)) (.cells #[.func (.func gf) #[] lb] 84)
  rw [World.size_alloc] at this
  exact this
def OkS (sg mg:Nat) (A:World):Prop:=vG sg A∧vk sg mg A
theorem OkS.after {sg mg:Nat}{A C:World} (h:OkS sg mg A) (t:tickR sg A C):vk sg mg C:=by
 obtain⟨h1,h2,h3⟩:=h
 obtain⟨c,hc,rfl⟩:=t
 refine⟨?_,by rw [World.size_setCell];exact h3⟩
 rw [← h2]
 exact World.cell?_setCell_other A (a:=⟨sg,2,none⟩) (b:=⟨sg,0,none⟩) (v := .int .i64 (c+1)) (fun e=>by injection e with _ h _;exact absurd h (by decide))
theorem pz.mono {B B':Nat}{L:List EV}{i:Nat}{U:Nat→Prop}{args:Array Value}{W:World} (h:pz B L i U args W) (hb:B'≤B):pz B' L i U args W:=by
 obtain⟨e,kv,vv,h1,h2,h3,h4,h5,h6,h7,h8,h9⟩:=h
 exact⟨e,kv,vv,h1,h2,h3,h4,h5,h6,h7,fun k hk=>Nat.le_trans hb (h8 k hk),fun k hk=>Nat.le_trans hb (h9 k hk)⟩
theorem tk_of {w0 w:World}{sg mg bs bw gf B:Nat}{vo:Value}{R:List PV}{lb:Array Value}{L:List EV}{Ui:Nat→Prop}{t1 t2:TypeId} (it:∀ W,ae (fun k=>¬ Ui k) w W→ni Try.prog gf lb L.length (pz W.heap.size L) Ui aj (vk sg mg) W) (eg:∀ args w,(callFunc gf args).run Try.prog w = .ok (.enter gf args) w)
  (hbs:w.heap[bs]?=some (.cells #[.pointer (some ⟨sg,0,none⟩)] t1 (0,0))) (hbw:w.heap[bw]?=some (.cells #[.func (.func gf) #[] lb] t2 (0,0))) (hUi:∀ k,Ui k→k<B∧k≠sg∧(MS mg vo R k∨MD R k∨w0.heap.size≤k)) (hB:B≤w.heap.size) (hsg:sg<B) (n1:B≤bs) (n2:B≤bw) (h0:w0.heap.size≤B) :
  ∃ U0,(∀ W,ae (fun k=>¬ U0 k) w W→rW Try.prog 120 #[.pointer (some ⟨bs,0,none⟩),.pointer (some ⟨bw,0,none⟩)] L.length (pz W.heap.size L) U0 (tickR sg) (OkS sg mg) W)∧∀ k,U0 k→k<w.heap.size∧k≠sg∧(MS mg vo R k∨MD R k∨w0.heap.size≤k):=by
 refine⟨fun k=>Ui k∨k=bs∨k=bw,fun W hm=>wU (it W (hm.mono (fun k _ hk x=>hk (.inl x)))) (fun A B h hm=>h.keep hm) (fun A h=>h.1) (fun A C h t=>h.after t) eg (hm.heap hbs (fun x=>x (.inr (.inl rfl)))) (hm.heap hbw (fun x=>x (.inr (.inr rfl)))) (fun k hk=>by have:=(hUi k hk).1;have:=hm.size;omega) (by have:=hm.size;omega) (fun x=>by have:=(hUi _ x).1;omega) (fun x=>by have:=(hUi _ x).1;omega) (fun x=>(hUi _ x).2.1 rfl) (by omega) (by omega),fun k hk=>?_⟩
 rcases hk with hk | rfl | rfl
 ·exact⟨by have:=(hUi k hk).1;omega,(hUi k hk).2⟩
 ·exact⟨lt_of_heap hbs,by omega,.inr (.inr (by omega))⟩
 ·exact⟨lt_of_heap hbw,by omega,.inr (.inr (by omega))⟩
def yO (w w':World) (sg mg:Nat) (vo:Value) (R:List PV) (L:List EV) (lb:Array Value):Prop :=
 ∃ U0,(∀ W,ae (fun k=>¬ U0 k) w' W→rW Try.prog 120 lb L.length (pz W.heap.size L) U0 (tickR sg) (OkS sg mg) W)∧∀ k,U0 k→k<w'.heap.size∧k≠sg∧(MS mg vo R k∨MD R k∨w.heap.size≤k)
theorem yO.keep {w w' w'':World}{sg mg:Nat}{vo:Value}{R:List PV}{L:List EV}{lb:Array Value}{T:Nat→Prop} (h:yO w w' sg mg vo R L lb) (hm:ae T w' w'') (ht:∀ k,T k→k<w.heap.size) (h1:∀ k,T k→k=sg∨(¬ MS mg vo R k∧¬ MD R k)):yO w w'' sg mg vo R L lb:=by
 obtain⟨U0,it,hU⟩:=h
 refine⟨U0,fun W hW=>it W (hm.trans hW (fun k _ hk x=>?_) (fun _ _ x=>x)),fun k hk=>⟨Nat.lt_of_lt_of_le (hU k hk).1 hm.size,(hU k hk).2⟩⟩
 obtain⟨_,a,b⟩:=hU k x
 rcases h1 k hk with y | ⟨y,z⟩
 ·exact a y
 ·rcases b with b | b | b
  ·exact y b
  ·exact z b
  ·have:=ht k hk;omega
def uM (w w':World) (sg mg:Nat) (vo:Value) (R:List PV) (L:List EV) (lb:Array Value):Prop:=ae aj w w'∧yO w w' sg mg vo R L lb
theorem qG {w:World}{sg mg:Nat}{vo jv q:Value}{R:List PV}{J:List JV}{n:Int}{xs:List UInt8} (h:KM w sg mg vo R jv J n) (hq:Rd w q xs) (lx:xs.length≤1000000) (ok:fH (aB R)) (hn:R.length≤1000000) :
  Calls Try.prog 56 #[.pointer (some ⟨sg,0,none⟩),q] w fun e w'=>∃ b1 b2,e = .returned (.func (.func 120) #[] #[.pointer (some ⟨b1,0,none⟩),.pointer (some ⟨b2,0,none⟩)])∧uM w w' sg mg vo R (lu R xs) #[.pointer (some ⟨b1,0,none⟩),.pointer (some ⟨b2,0,none⟩)]:=by
 obtain⟨aq,cq,rfl,_⟩:=hq.form
 have m1:ae aj w ((w.alloc (.cells #[.pointer (some ⟨sg,0,none⟩)] 26)).alloc (.cells #[.slice aq xs.length cq] 77)):=((ae.refl aj w).alloc _).alloc _
 have b1:((w.alloc (.cells #[.pointer (some ⟨sg,0,none⟩)] 26)).alloc (.cells #[.slice aq xs.length cq] 77)).heap[w.heap.size]?=some (.cells #[.pointer (some ⟨sg,0,none⟩)] 26 (0,0)):=dS (bC w _) _
 have b2:((w.alloc (.cells #[.pointer (some ⟨sg,0,none⟩)] 26)).alloc (.cells #[.slice aq xs.length cq] 77)).heap[w.heap.size+1]?=some (.cells #[.slice aq xs.length cq] 77 (0,0)):=by have:=bC (w.alloc (.cells #[.pointer (some ⟨sg,0,none⟩)] 26)) (.cells #[.slice aq xs.length cq] 77);rwa [World.size_alloc] at this
 have hS1:((w.alloc (.cells #[.pointer (some ⟨sg,0,none⟩)] 26)).alloc (.cells #[.slice aq xs.length cq] 77)).heap.size=w.heap.size+2:=by simp
 have d2:=ai b2 0
 have CL:=lh (uC (hq.keep m1 (fun _ _ x=>x)) lx)
 have HM:=lh h
 have sgl:=h.lt sg (.inl rfl)
 have OKH:=lh (And.intro ok (And.intro hn lx))
 have M1:=lh m1
 have B1:=lh b1
 have B2:=lh b2
 have HS1:=lh hS1
 clear h hq ok hn lx m1 b1 b2 hS1
 go_enter Try.func56,Try.ntmps56
 go_wp2_with fail
 refine CL.out.mono ?_
 rintro e w2 ⟨v2,rfl,o2,m2,f2⟩
 have B2a:=m2.heap B2.out (fun x=>x)
 have e2:=ai B2a 0
 have e3:=dw B2a 0
 have hs2:=m2.size
 rw [HS1.out] at hs2
 have n2:∀ k,v2.ownBlock=some k→w.heap.size+2≤k:=fun k hk=>by have:=f2 k hk;have:=HS1.out;omega
 obtain⟨W3,hW3⟩:∃ W3,W3=w2.setCell ⟨w.heap.size+1,0,none⟩ v2:=⟨_,rfl⟩
 have m3:ae (fun k=>k=w.heap.size+1) w2 W3:=by rw [hW3];exact (ae.refl (fun k=>k=w.heap.size+1) w2).setCell (p:=⟨w.heap.size+1,0,none⟩) (.inl rfl) _
 have M3:=lh (show ae aj w W3 from (M1.out.then0 m2).trans m3 (fun _ _ x=>x) (fun i hi x=>by omega))
 have B13:=lh (m3.heap (m2.heap B1.out (fun x=>x)) (show ¬ w.heap.size=w.heap.size+1 by omega))
 have B23:=lh (show W3.heap[w.heap.size+1]?=some (.cells #[v2] 77 (0,0)) by rw [hW3];exact heap_set B2a 0 v2)
 have O3:=lh (o2.keep m3 (fun k hk x=>by have:=n2 k hk;omega))
 have N2:=lh n2
 have S3:=lh (show w.heap.size+2≤W3.heap.size by have:=m3.size;omega)
 obtain⟨a2,cc2,rfl,_⟩:=o2.rd.form
 have d1:=ai B13.out 0
 have HW3:=lh hW3
 clear o2 m2 f2 hs2 n2 m3 M1 B1 B2 CL B2a
 have PP:=lh (show kN W3 sg mg vo R w.heap.size (w.heap.size+1) (.slice a2 xs.length cc2) xs from⟨(HM.out.keep0 M3.out).pm,B13.out,B23.out,O3.out⟩)
 have IT:=lh (fun W (hm:ae (fun k=>¬ UPx mg vo R w.heap.size (w.heap.size+1) (.slice a2 xs.length cc2) k) W3 W)=>xn (PP.out.keep hm) OKH.out.1 OKH.out.2.1 OKH.out.2.2)
 rw [hW3] at d1 IT
 clear hW3
 go_wp2_with fail
 refine (xh _ sg 81 #[.pointer (some ⟨w.heap.size,0,none⟩),.pointer (some ⟨w.heap.size+1,0,none⟩)]).mono ?_
 rintro e w4 ⟨b1,b2,rfl,hb1,⟨t2,hb2⟩,m4,q1,q2⟩
 rw [← HW3.out] at m4 q1 q2 IT
 have FIN:=lh (show uM w w4 sg mg vo R (lu R xs) #[.pointer (some ⟨b1,0,none⟩),.pointer (some ⟨b2,0,none⟩)] from by
  have hs3:=S3.out
  refine⟨M3.out.then0 m4,tk_of (B:=W3.heap.size) (fun W hm=>IT.out W (m4.trans hm (fun _ _ x=>x.elim) (fun _ _ x=>x))) (enters_of Try.func81 (by kernel_rfl) rfl) hb1 hb2 (fun k hk=>?_) m4.size (by omega) q1 q2 (by omega)⟩
  refine⟨PP.out.lt k hk,?_⟩
  rcases hk with hk | hk | rfl | rfl | hk
  ·exact⟨fun x=>HM.out.s1.1 (x▸hk),.inl hk⟩
  ·exact⟨fun x=>HM.out.data k (.inl hk) (.inl x),.inr (.inl hk)⟩
  ·exact⟨by omega,.inr (.inr (Nat.le_refl _))⟩
  ·exact⟨by omega,.inr (.inr (by omega))⟩
  ·have:=N2.out k hk;exact⟨by omega,.inr (.inr (by omega))⟩)
 clear hb1 hb2 m4 q1 q2 IT PP d1 d2 e2 e3
 go_wp2
 go_ret
 exact⟨_,_,rfl,FIN.out⟩
open Go.Gl Go.RowKit
section
variable {Sx X:Nat→Prop}{H:Nat→Obj}
end
open Go.Gl Go.RowKit
open Go.Gl Go.RowKit
open Go.Gl Go.RowKit
theorem KM.tickR {A B:World}{sg mg:Nat}{vo jv:Value}{R:List PV}{J:List JV}{c:Int} (h:KM A sg mg vo R jv J c) (t:tickR sg A B):KM B sg mg vo R jv J (c+1):=by
 obtain⟨c',h1,e⟩:=t
 have:c'=c:=by
  have:=h.cells.2.2.1
  rw [h1] at this
  simpa using this
 subst this
 exact (h.tick e).km
theorem KM.okS {A:World}{sg mg:Nat}{vo jv:Value}{R:List PV}{J:List JV}{c:Int} (h:KM A sg mg vo R jv J c) (h0:0≤c) (h1:c≤4611686018427387904):OkS sg mg A:=⟨⟨c,h.cells.2.2.1,h.cells.2.2.2 2,by omega,by omega⟩,h.cells.1,h.lt sg (.inl rfl)⟩
open Go.Gl Go.RowKit
open Go.Gl Go.RowKit
open Go.Gl Go.RowKit
open Go.Gl Go.RowKit
theorem mF {ps:Pgs} (ok:fH ps):ps.length≤ps.flatten.length:=by
  have key:∀ qs:Pgs,(∀ p∈qs,p≠[])→qs.length≤qs.flatten.length:=fun qs=>by
    induction qs with
    | nil=>intro _;simp
    | cons q qs ih =>
      intro h
      have h1:=ih (fun p hp=>h p (List.mem_cons_of_mem _ hp))
      have h2:=h q (List.mem_cons_self ..)
      have h3:q.length≠0:=fun e=>h2 (List.eq_nil_of_length_eq_zero e)
      rw [List.flatten_cons,List.length_append,List.length_cons]
      omega
  exact key ps ok.ne
theorem BG {l:List aN} (h:fO l) (k v:List UInt8):(insL l k v).length≤l.length+1:=by
 have h3:=congrArg List.length (oZ h k)
 rw [List.length_append,List.length_append] at h3
 have h4:(insL l k v).length=(l.filter (fun e=>aF e.1 k)).length+((l.filter (fun e=>aF k e.1)).length+1):=by unfold insL;rw [List.length_append,List.length_cons]
 rw [h4]
 omega
theorem Bf {l:List aN} (h:fO l) (k:List UInt8):(iG l k).length≤l.length:=by
 have h3:=congrArg List.length (oZ h k)
 rw [List.length_append,List.length_append] at h3
 have h4:(iG l k).length=(l.filter (fun e=>aF e.1 k)).length+(l.filter (fun e=>aF k e.1)).length:=by unfold iG;rw [List.length_append]
 rw [h4]
 omega
open Go.Gl Go.RowKit
theorem KS.made {sg mg:Nat}{vo:Value}{R:List PV}{k:Nat} (h:KS sg mg vo R (.slice none 0 0) [] k):k=sg∨MS mg vo R k:=by
 rcases h with h | h | h | ⟨q,hq,_⟩
 ·exact .inl h
 ·exact .inr h
 ·simp [Value.ownBlock] at h
 ·exact (List.not_mem_nil hq).elim
theorem KD.made {R:List PV}{k:Nat} (h:KD R [] k):MD R k:=by
 rcases h with h | ⟨q,hq,_⟩
 ·exact h
 ·exact (List.not_mem_nil hq).elim
open Go.Gl Go.RowKit
def JU (J:List JV):List (List oV):=(J.map (fun q=>q.us.map (·.u))).reverse
def lZ (J:List JV):Nat:=(J.map (fun q=>q.us.length)).sum
theorem Ap (ls:List (List oV)):∀ F,(lG ls F).length=ls.length:=by
 induction ls with
 | nil=>intro F;rfl
 | cons l ls ih=>intro F;simp [lG,ih]
theorem EL (J:List JV):(JU J).length=J.length:=by simp [JU]
theorem xK (A:List JV) (q:JV):JU (A ++ [q])=q.us.map (·.u) :: JU A:=by simp [JU]
theorem ww (A:List JV) (q:JV):lZ (A ++ [q])=lZ A+q.us.length:=by simp [lZ]
theorem yt {J:List JV}{q:JV} (h:q∈J):q.us.length≤lZ J:=by
  induction J with
  | nil=>cases h
  | cons a J ih =>
    have e:lZ (a :: J)=a.us.length+lZ J:=by simp [lZ]
    rcases List.mem_cons.1 h with rfl | h
    · omega
    · have:=ih h;omega
def KV (w:World) (sg:Nat) (F:List aN) (Ws:List (List aN)) (n p:Nat) (S D:Nat→Prop):Prop :=
 ∃ mg vo R jv J,KM w sg mg vo R jv J (n:Int)∧fH (aB R)∧(aB R).flatten=F∧lG (JU J) F=Ws∧J.length≤16∧F.length+lZ J≤p∧S=KS sg mg vo R jv J∧D=KD R J
theorem KV.ris {w:World}{sg:Nat}{F:List aN}{Ws:List (List aN)}{n p:Nat}{S D:Nat→Prop} (h:KV w sg F Ws n p S D):fO F:=by
 obtain⟨mg,vo,R,jv,J,km,ok,rfl,_⟩:=h
 exact ok.ris
theorem KV.lt {w:World}{sg:Nat}{F:List aN}{Ws:List (List aN)}{n p:Nat}{S D:Nat→Prop} (h:KV w sg F Ws n p S D):(∀ k,S k→k<w.heap.size)∧(∀ k,D k→k<w.heap.size)∧S sg:=by
 obtain⟨mg,vo,R,jv,J,km,ok,hf,hw,hj,hp,rfl,rfl⟩:=h
 exact⟨km.lt,km.dlt,.inl rfl⟩
theorem KV.keep {w w':World}{sg:Nat}{F:List aN}{Ws:List (List aN)}{n p:Nat}{S D T:Nat→Prop} (h:KV w sg F Ws n p S D) (hm:ae T w w') (h1:∀ k,S k→¬ T k) (h2:∀ k,D k→¬ T k):KV w' sg F Ws n p S D:=by
 obtain⟨mg,vo,R,jv,J,km,ok,hf,hw,hj,hp,rfl,rfl⟩:=h
 exact⟨mg,vo,R,jv,J,km.keep hm h1 h2,ok,hf,hw,hj,hp,rfl,rfl⟩
theorem KV.keep0 {w w':World}{sg:Nat}{F:List aN}{Ws:List (List aN)}{n p:Nat}{S D:Nat→Prop} (h:KV w sg F Ws n p S D) (hm:ae aj w w'):KV w' sg F Ws n p S D:=h.keep hm (fun _ _ x=>x) (fun _ _ x=>x)
theorem KV.more {w:World}{sg:Nat}{F:List aN}{Ws:List (List aN)}{n p p':Nat}{S D:Nat→Prop} (h:KV w sg F Ws n p S D) (hp':p≤p'):KV w sg F Ws n p' S D:=by
 obtain⟨mg,vo,R,jv,J,km,ok,hf,hw,hj,hp,hs,hd⟩:=h
 exact⟨mg,vo,R,jv,J,km,ok,hf,hw,hj,by omega,hs,hd⟩
theorem KV.len {w:World}{sg:Nat}{F:List aN}{Ws:List (List aN)}{n p:Nat}{S D:Nat→Prop} (h:KV w sg F Ws n p S D):F.length≤p∧Ws.length≤16:=by
 obtain⟨mg,vo,R,jv,J,km,ok,hf,hw,hj,hp,hs,hd⟩:=h
 exact⟨by omega,by rw [← hw,Ap,EL];exact hj⟩
def xO (w w':World) (sg:Nat) (S D:Nat→Prop) (F':List aN) (Ws':List (List aN)) (n' p':Nat):Prop :=
 ∃ S' D',KV w' sg F' Ws' n' p' S' D'∧ae S w w'∧(∀ k,S' k→S k∨w.heap.size≤k)∧(∀ k,D' k→D k∨w.heap.size≤k)
theorem wM {w w':World}{sg mg:Nat}{vo jv vo' jv':Value}{R R':List PV}{J J':List JV}{n' p':Nat} (t:KT w w' sg mg vo R jv J vo' R' jv' J' (n':Int)) (ok:fH (aB R')) (hj:J'.length≤16) (hp:(aB R').flatten.length+lZ J'≤p') {F':List aN}{Ws':List (List aN)} (hf:(aB R').flatten=F') (hw:lG (JU J') F'=Ws') :
  xO w w' sg (KS sg mg vo R jv J) (KD R J) F' Ws' n' p' :=
 ⟨_,_,⟨mg,vo',R',jv',J',t.km,ok,hf,hw,hj,by rw [← hf];exact hp,rfl,rfl⟩,t.mods,t.ks,t.kd⟩
theorem xQ {w:World}{sg mg:Nat}{vo jv:Value}{R:List PV}{J:List JV}{n:Int} (h:KM w sg mg vo R jv J n) (ok:fH (aB R)) {k v:List UInt8} (hg:jZ (aB R) k=some v):v.length≤1000000:=by
 rw [qh ok] at hg
 have hm:=(nH (aB R).flatten k ok.ris).2 v hg
 obtain⟨l,hl,he⟩:=List.mem_flatten.1 hm
 obtain⟨p,hp,rfl⟩:=List.mem_map.1 hl
 obtain⟨e,hee,hev⟩:=List.mem_map.1 he
 have:=(h.pm.ents p hp e hee).lv
 have h2:e.v=v:=congrArg Prod.snd hev
 rw [← h2]
 exact this
theorem Aq {ps:Pgs} (ok:fH ps) (k:List UInt8):(aK ps k).2.2=(iQ ps.flatten k).isSome:=by
 rw [← qh ok]
 unfold jZ
 cases (aK ps k).2.2 <;> rfl
theorem qE {J J':List JV}{k:List UInt8}{F F':List aN} (old:Option (List UInt8)) (h:rX J J' k old) (hu:nC ⟨k,old⟩ F'=F):lG (JU J') F'=lG (JU J) F∧J'.length=J.length∧lZ J'≤lZ J+1:=by
 rcases h with ⟨rfl,rfl⟩ | ⟨A,q0,v,x,rfl,rfl,hx⟩
 ·exact⟨rfl,rfl,by omega⟩
 ·refine⟨?_,by simp,?_⟩
  ·rw [xK,xK,List.map_append,List.map_singleton,hx]
   exact yL hu _ _
  ·rw [ww,ww,List.length_append,List.length_singleton]
   omega
theorem hNew (w:World):Calls Try.prog 8 #[] w fun e w'=>∃ sg S D,e = .returned (.pointer (some ⟨sg,0,none⟩))∧KV w' sg [] [] 0 0 S D∧ae aj w w'∧(∀ k,S k→w.heap.size≤k)∧(∀ k,¬ D k):=by
 refine (Cc w).mono ?_
 rintro e w' ⟨sg,mg,rfl,km,m,g1,g2⟩
 refine⟨sg,_,_,rfl,⟨mg,_,[],_,[],km,⟨List.Pairwise.nil,fun p hp=>(List.not_mem_nil hp).elim,fun p hp=>(List.not_mem_nil hp).elim⟩,rfl,rfl,by simp,by simp [lZ],rfl,rfl⟩,m,fun k hk=>?_,fun k hk=>?_⟩
 ·rcases hk.made with rfl | hk
  ·exact g1
  ·rcases hk with rfl | hk | ⟨p,hp,_⟩
   ·exact g2
   ·simp [Value.ownBlock] at hk
   ·exact (List.not_mem_nil hp).elim
 ·obtain⟨p,hp,_⟩:=hk.made
  exact (List.not_mem_nil hp).elim
section
variable {w:World}{sg n p:Nat}{F:List aN}{Ws:List (List aN)}{S D:Nat→Prop}
theorem hSet {q u:Value}{ks vs:List UInt8} (h:KV w sg F Ws n p S D) (hq:Rd w q ks) (hu:Rd w u vs) (hqs:Off S q ks) (hus:Off S u vs) (hn:n≤1000000000000) (hp:p≤100000) :
  Calls Try.prog 30 #[.pointer (some ⟨sg,0,none⟩),q,u] w fun e w'=>e = .returned (.int .i64 (ik ks vs:Nat))∧xO w w' sg S D (if ik ks vs=0 then insL F ks vs else F) Ws (n+1) (p+2):=by
 obtain⟨mg,vo,R,jv,J,km,ok,rfl,rfl,hj,hpp,rfl,rfl⟩:=h
 have hb:=mF ok
 rw [dN] at hb
 refine (BZ km hq hu hqs hus (by omega) (by omega) ok (by omega) (by have:cnt (aB R)=(aB R).flatten.length:=rfl;omega) (by omega) (fun q hq=>by have:=yt hq;omega) (fun v hv=>xQ km ok hv)).mono ?_
 rintro e w' ⟨rfl,⟨h0,t⟩ | ⟨h0,vo',R',J',t,e1,nt⟩⟩
 ·refine⟨rfl,?_⟩
  rw [if_neg h0]
  exact wM t ok hj (by omega) rfl rfl
 ·refine⟨rfl,?_⟩
  rw [if_pos h0]
  rw [qh ok] at nt
  obtain⟨s1,s2,s3⟩:=qE _ nt (AO ok.ris ks vs)
  have ef:(aB R').flatten=insL (aB R).flatten ks vs:=by rw [e1];exact uj ok _ _
  refine wM t (by rw [e1];exact Dz ok _ _) (by omega) ?_ ef s1
  rw [ef]
  have:=BG ok.ris ks vs
  omega
theorem Dq {q:Value}{ks:List UInt8} (h:KV w sg F Ws n p S D) (hq:Rd w q ks) (hqs:Off S q ks) (lk:ks.length≤1000000) (hn:n≤1000000000000) (hp:p≤100000) :
  Calls Try.prog 64 #[.pointer (some ⟨sg,0,none⟩),q] w fun e w'=>e = .returned (.bool (iQ F ks).isSome)∧xO w w' sg S D (iG F ks) Ws (n+1) (p+2):=by
 obtain⟨mg,vo,R,jv,J,km,ok,rfl,rfl,hj,hpp,rfl,rfl⟩:=h
 have hb:=mF ok
 rw [dN] at hb
 refine (xw km hq hqs lk (by omega) (by omega) ok (by omega) (by have:cnt (aB R)=(aB R).flatten.length:=rfl;omega) (by omega) (fun q hq=>by have:=yt hq;omega) (fun v hv=>xQ km ok hv)).mono ?_
 rintro e w' ⟨rfl,vo',R',J',t,e1,nt⟩
 rw [Aq ok]
 refine⟨rfl,?_⟩
 rw [qh ok] at nt
 obtain⟨s1,s2,s3⟩:=qE _ nt (BO ok.ris ks)
 have ef:(aB R').flatten=iG (aB R).flatten ks:=by rw [e1];exact tK ok _
 refine wM t (by rw [e1];exact D6 ok _) (by omega) ?_ ef s1
 rw [ef]
 have:=Bf ok.ris ks
 omega
end
theorem xB {R:List PV} (ok:fH (aB R)) (xs:List UInt8):(lu R xs).map EV.ent=(aB R).flatten.filter (fun e=>bQ xs e.1):=by
  have h1:(kw R xs []).map EV.ent=(aB R).flatten.filter (fun e => !aF e.1 xs):=by
    have:=DJ ok xs []
    rw [show (kw R xs []).map EV.ent=ents (kw R xs []) from rfl,this]
    refine List.filter_congr (fun e _=>?_)
    simp [btw]
  have h2:∀ l:List EV,(l.takeWhile (fun e=>bQ xs e.k)).map EV.ent=(l.map EV.ent).takeWhile (fun e=>bQ xs e.1):=fun l=>by
    induction l with
    | nil=>rfl
    | cons a l ih =>
      have ha:(EV.ent a).1=a.k:=rfl
      rw [List.map_cons,List.takeWhile_cons,List.takeWhile_cons,ha]
      cases bQ xs a.k with
      | true=>simp only [if_true,List.map_cons,ih]
      | false=>rfl
  unfold lu
  rw [h2,h1]
  exact wV ok.ris xs
section
variable {w:World}{sg n p:Nat}{F:List aN}{Ws:List (List aN)}{S D:Nat→Prop}
end
open Go.Gl Go.RowKit
def KL (w0 w:World) (sg:Nat) (F:List aN) (Ws:List (List aN)) (n p:Nat) (Q:Nat→Prop):Prop :=
 ∃ S D,KV w sg F Ws n p S D∧(∀ k,Q k→¬ S k∧¬ D k∧k<w.heap.size)∧(∀ k,k<w0.heap.size→Q k)∧ae aj w0 w
def K2 (w0 w:World) (sg:Nat) (F:List aN) (Ws:List (List aN)) (n p:Nat) (sg2:Nat) (F2:List aN) (Ws2:List (List aN)) (n2 p2:Nat) (Q:Nat→Prop):Prop :=
 ∃ S D S2 D2,KV w sg F Ws n p S D∧KV w sg2 F2 Ws2 n2 p2 S2 D2∧(∀ k,Q k→¬ S k∧¬ D k∧¬ S2 k∧¬ D2 k∧k<w.heap.size)∧(∀ k,k<w0.heap.size→Q k)∧(∀ k,S k→¬ S2 k)∧(∀ k,D k→¬ S2 k)∧(∀ k,D2 k→¬ S k)∧ae aj w0 w
theorem xO.refl {w:World}{sg n p:Nat}{F:List aN}{Ws:List (List aN)}{S D:Nat→Prop} (h:KV w sg F Ws n p S D):xO w w sg S D F Ws n p:=⟨S,D,h,ae.refl _ _,fun _ => .inl,fun _ => .inl⟩
def CC (f:FuncId) (args:Array Value) (w:World) (sg:Nat) (F:List aN) (Ws:List (List aN)) (n p:Nat) (Q:Nat→Prop) (r:Value) (F':List aN) (Ws':List (List aN)) (n' p':Nat):Prop :=
 ∀ S D,KV w sg F Ws n p S D→(∀ k,Q k→¬ S k)→Calls Try.prog f args w fun e w'=>e = .returned r∧xO w w' sg S D F' Ws' n' p'
section
variable {w0 w:World}{sg n p n' p':Nat}{F F':List aN}{Ws Ws':List (List aN)}{Q:Nat→Prop}
theorem KL.call {f:FuncId}{args:Array Value}{r:Value} (h:KL w0 w sg F Ws n p Q) (c:CC f args w sg F Ws n p Q r F' Ws' n' p'):Calls Try.prog f args w fun e w'=>e = .returned r∧KL w0 w' sg F' Ws' n' p' Q∧ae (fun k=>¬ Q k) w w':=by
 obtain⟨S,D,kv,hq,h0,m0⟩:=h
 refine (c S D kv (fun k hk=>(hq k hk).1)).mono ?_
 rintro e w' ⟨rfl,S',D',kv',m,hs,hd⟩
 refine⟨rfl,⟨S',D',kv',fun k hk=>⟨fun x=>?_,fun x=>?_,Nat.lt_of_lt_of_le (hq k hk).2.2 m.size⟩,h0,m0.trans m (fun _ _ x=>x) (fun k hk x=>(hq k (h0 k hk)).1 x)⟩,m.mono (fun k _ hk x=>(hq k x).1 hk)⟩
 ·rcases hs k x with y | y
  ·exact (hq k hk).1 y
  ·have:=(hq k hk).2.2;omega
 ·rcases hd k x with y | y
  ·exact (hq k hk).2.1 y
  ·have:=(hq k hk).2.2;omega
theorem KL.keep0 {w':World} (h:KL w0 w sg F Ws n p Q) (m:ae aj w w'):KL w0 w' sg F Ws n p Q:=by
 obtain⟨S,D,kv,hq,h0,m0⟩:=h
 exact⟨S,D,kv.keep0 m,fun k hk=>⟨(hq k hk).1,(hq k hk).2.1,Nat.lt_of_lt_of_le (hq k hk).2.2 m.size⟩,h0,m0.then0 m⟩
theorem KL.grow {w':World}{Q':Nat→Prop} (h:KL w0 w sg F Ws n p Q) (m:ae aj w w') (hq':∀ k,Q' k→Q k∨(w.heap.size≤k∧k<w'.heap.size)) (h1:∀ k,k<w0.heap.size→Q' k):KL w0 w' sg F Ws n p Q':=by
 obtain⟨S,D,kv,hq,h0,m0⟩:=h
 refine⟨S,D,kv.keep0 m,fun k hk=>?_,h1,m0.then0 m⟩
 rcases hq' k hk with x | ⟨x,y⟩
 ·exact⟨(hq k x).1,(hq k x).2.1,Nat.lt_of_lt_of_le (hq k x).2.2 m.size⟩
 ·exact⟨fun z=>by have:=kv.lt.1 k z;omega,fun z=>by have:=kv.lt.2.1 k z;omega,y⟩
theorem KL.more {p2:Nat} (h:KL w0 w sg F Ws n p Q) (hp:p≤p2):KL w0 w sg F Ws n p2 Q:=by
 obtain⟨S,D,kv,r⟩:=h
 exact⟨S,D,kv.more hp,r⟩
theorem KL.less {Q':Nat→Prop} (h:KL w0 w sg F Ws n p Q) (hq:∀ k,Q' k→Q k) (h1:∀ k,k<w0.heap.size→Q' k):KL w0 w sg F Ws n p Q':=by
 obtain⟨S,D,kv,q,h0,m0⟩:=h
 exact⟨S,D,kv,fun k hk=>q k (hq k hk),h1,m0⟩
theorem KL.mods (h:KL w0 w sg F Ws n p Q):ae aj w0 w:=by obtain⟨_,_,_,_,_,m⟩:=h;exact m
theorem KL.ris (h:KL w0 w sg F Ws n p Q):fO F:=by obtain⟨_,_,kv,_⟩:=h;exact kv.ris
theorem KL.len (h:KL w0 w sg F Ws n p Q):F.length≤p∧Ws.length≤16:=by obtain⟨_,_,kv,_⟩:=h;exact kv.len
theorem KL.q0 (h:KL w0 w sg F Ws n p Q):∀ k,k<w0.heap.size→Q k:=by obtain⟨_,_,_,_,a,_⟩:=h;exact a
variable {sg2 n2 p2:Nat}{F2:List aN}{Ws2:List (List aN)}
theorem K2.swap (h:K2 w0 w sg F Ws n p sg2 F2 Ws2 n2 p2 Q):K2 w0 w sg2 F2 Ws2 n2 p2 sg F Ws n p Q:=by
 obtain⟨S,D,S2,D2,kv,kv2,hq,h0,a1,a2,a3,m0⟩:=h
 exact⟨S2,D2,S,D,kv2,kv,fun k hk=>⟨(hq k hk).2.2.1,(hq k hk).2.2.2.1,(hq k hk).1,(hq k hk).2.1,(hq k hk).2.2.2.2⟩,h0,fun k x y=>a1 k y x,a3,a2,m0⟩
theorem K2.one (h:K2 w0 w sg F Ws n p sg2 F2 Ws2 n2 p2 Q):KL w0 w sg F Ws n p Q:=by
 obtain⟨S,D,S2,D2,kv,kv2,hq,h0,a1,a2,a3,m0⟩:=h
 exact⟨S,D,kv,fun k hk=>⟨(hq k hk).1,(hq k hk).2.1,(hq k hk).2.2.2.2⟩,h0,m0⟩
theorem K2.call {f:FuncId}{args:Array Value}{r:Value} (h:K2 w0 w sg F Ws n p sg2 F2 Ws2 n2 p2 Q) (c:CC f args w sg F Ws n p Q r F' Ws' n' p'):Calls Try.prog f args w fun e w'=>e = .returned r∧K2 w0 w' sg F' Ws' n' p' sg2 F2 Ws2 n2 p2 Q∧ae (fun k=>¬ Q k) w w':=by
 obtain⟨S,D,S2,D2,kv,kv2,hq,h0,a1,a2,a3,m0⟩:=h
 refine (c S D kv (fun k hk=>(hq k hk).1)).mono ?_
 rintro e w' ⟨rfl,S',D',kv',m,hs,hd⟩
 have l2:=kv2.lt
 refine⟨rfl,⟨S',D',S2,D2,kv',kv2.keep m (fun k hk x=>a1 k x hk) (fun k hk x=>a3 k hk x),fun k hk=>⟨fun x=>?_,fun x=>?_,(hq k hk).2.2.1,(hq k hk).2.2.2.1,Nat.lt_of_lt_of_le (hq k hk).2.2.2.2 m.size⟩,h0,fun k x y=>?_,fun k x y=>?_,fun k x y=>?_,m0.trans m (fun _ _ x=>x) (fun k hk x=>(hq k (h0 k hk)).1 x)⟩,m.mono (fun k _ hk x=>(hq k x).1 hk)⟩
 ·rcases hs k x with y | y
  ·exact (hq k hk).1 y
  ·have:=(hq k hk).2.2.2.2;omega
 ·rcases hd k x with y | y
  ·exact (hq k hk).2.1 y
  ·have:=(hq k hk).2.2.2.2;omega
 ·rcases hs k x with z | z
  ·exact a1 k z y
  ·have:=l2.1 k y;omega
 ·rcases hd k x with z | z
  ·exact a2 k z y
  ·have:=l2.1 k y;omega
 ·rcases hs k y with z | z
  ·exact a3 k x z
  ·have:=l2.2.1 k x;omega
theorem K2.keep0 {w':World} (h:K2 w0 w sg F Ws n p sg2 F2 Ws2 n2 p2 Q) (m:ae aj w w'):K2 w0 w' sg F Ws n p sg2 F2 Ws2 n2 p2 Q:=by
 obtain⟨S,D,S2,D2,kv,kv2,hq,h0,a1,a2,a3,m0⟩:=h
 exact⟨S,D,S2,D2,kv.keep0 m,kv2.keep0 m,fun k hk=>⟨(hq k hk).1,(hq k hk).2.1,(hq k hk).2.2.1,(hq k hk).2.2.2.1,Nat.lt_of_lt_of_le (hq k hk).2.2.2.2 m.size⟩,h0,a1,a2,a3,m0.then0 m⟩
theorem K2.grow {w':World}{Q':Nat→Prop} (h:K2 w0 w sg F Ws n p sg2 F2 Ws2 n2 p2 Q) (m:ae aj w w') (hq':∀ k,Q' k→Q k∨(w.heap.size≤k∧k<w'.heap.size)) (h1:∀ k,k<w0.heap.size→Q' k):K2 w0 w' sg F Ws n p sg2 F2 Ws2 n2 p2 Q':=by
 obtain⟨S,D,S2,D2,kv,kv2,hq,h0,a1,a2,a3,m0⟩:=h
 refine⟨S,D,S2,D2,kv.keep0 m,kv2.keep0 m,fun k hk=>?_,h1,a1,a2,a3,m0.then0 m⟩
 rcases hq' k hk with x | ⟨x,y⟩
 ·exact⟨(hq k x).1,(hq k x).2.1,(hq k x).2.2.1,(hq k x).2.2.2.1,Nat.lt_of_lt_of_le (hq k x).2.2.2.2 m.size⟩
 ·exact⟨fun z=>by have:=kv.lt.1 k z;omega,fun z=>by have:=kv.lt.2.1 k z;omega,fun z=>by have:=kv2.lt.1 k z;omega,fun z=>by have:=kv2.lt.2.1 k z;omega,y⟩
theorem K2.more {q q2:Nat} (h:K2 w0 w sg F Ws n p sg2 F2 Ws2 n2 p2 Q) (hp:p≤q) (hp2:p2≤q2):K2 w0 w sg F Ws n q sg2 F2 Ws2 n2 q2 Q:=by
 obtain⟨S,D,S2,D2,kv,kv2,r⟩:=h
 exact⟨S,D,S2,D2,kv.more hp,kv2.more hp2,r⟩
theorem Ep {q u:Value}{ks vs:List UInt8} (hq:Rd w q ks) (hu:Rd w u vs) (oq:Off (fun k=>¬ Q k) q ks) (ou:Off (fun k=>¬ Q k) u vs) (hn:n≤1000000000000) (hp:p≤100000):CC 30 #[.pointer (some ⟨sg,0,none⟩),q,u] w sg F Ws n p Q (.int .i64 (ik ks vs:Nat)) (if ik ks vs=0 then insL F ks vs else F) Ws (n+1) (p+2) :=
 fun S D kv hQ=>hSet kv hq hu (oq.mono (fun k hk x=>hQ k x hk)) (ou.mono (fun k hk x=>hQ k x hk)) hn hp
theorem En {q:Value}{ks:List UInt8} (hq:Rd w q ks) (oq:Off (fun k=>¬ Q k) q ks) (lk:ks.length≤1000000) (hn:n≤1000000000000) (hp:p≤100000):CC 64 #[.pointer (some ⟨sg,0,none⟩),q] w sg F Ws n p Q (.bool (iQ F ks).isSome) (iG F ks) Ws (n+1) (p+2) :=
 fun S D kv hQ=>Dq kv hq (oq.mono (fun k hk x=>hQ k x hk)) lk hn hp
end
open Go.Gl Go.RowKit
def lT (sg:Nat) (F:List aN) (Ws:List (List aN)) (n p:Nat):FP:=fun w S D=>KV w sg F Ws n p S D
theorem qi {sg:Nat}{F:List aN}{Ws:List (List aN)}{n p:Nat}:gG (lT sg F Ws n p):=⟨fun h=>⟨KV.lt h |>.1,KV.lt h |>.2.1⟩,fun h m a b=>KV.keep h m a b⟩
def ji (F:List aN) (k v:List UInt8):List aN:=if ik k v=0 then insL F k v else F
section
variable {w:World}{sg g n p:Nat}{F:List aN}{Ws:List (List aN)}{Q:Nat→Prop}
theorem CC.gs {f:FuncId}{args:Array Value}{r:Value}{F':List aN}{Ws':List (List aN)}{n' p':Nat} (c:CC f args w sg F Ws n p Q r F' Ws' n' p'):GS Try.prog f args w (lT sg F Ws n p) Q r (lT sg F' Ws' n' p'):=GS.of c
theorem zX {q u:Value}{ks vs:List UInt8} (hq:Rd w q ks) (hu:Rd w u vs) (oq:Off (fun k=>¬ Q k) q ks) (ou:Off (fun k=>¬ Q k) u vs) (hn:n≤1000000000000) (hp:p≤100000):GS Try.prog 30 #[.pointer (some ⟨sg,0,none⟩),q,u] w (lT sg F Ws n p) Q (.int .i64 (ik ks vs:Nat)) (lT sg (ji F ks vs) Ws (n+1) (p+2)):=CC.gs (Ep hq hu oq ou hn hp)
theorem zA {q:Value}{ks:List UInt8} (hq:Rd w q ks) (oq:Off (fun k=>¬ Q k) q ks) (lk:ks.length≤1000000) (hn:n≤1000000000000) (hp:p≤100000):GS Try.prog 64 #[.pointer (some ⟨sg,0,none⟩),q] w (lT sg F Ws n p) Q (.bool (iQ F ks).isSome) (lT sg (iG F ks) Ws (n+1) (p+2)):=CC.gs (En hq oq lk hn hp)
end
open Go.Gl Go.RowKit
structure fC where
 head:UInt8
 mid:UInt8
 a:Bool
 b:Bool
 turned:Bool
def fU:Nat→Option fC
 | 1=>some ⟨112,0,false,false,false⟩
 | 2=>some ⟨99,0,false,false,false⟩
 | 3=>some ⟨109,0,false,false,false⟩
 | 4=>some ⟨97,0,true,false,false⟩
 | 5=>some ⟨118,48,true,false,false⟩
 | 6=>some ⟨118,100,true,true,false⟩
 | 7=>some ⟨118,104,true,true,false⟩
 | 8=>some ⟨118,115,true,true,false⟩
 | 9=>some ⟨116,0,true,false,false⟩
 | 10=>some ⟨105,0,true,true,true⟩
 | 11=>some ⟨98,0,true,false,false⟩
 | 12=>some ⟨117,0,true,false,false⟩
 | 13=>some ⟨114,0,true,false,false⟩
 | 14=>some ⟨113,0,true,true,false⟩
 | 15=>some ⟨101,0,true,true,false⟩
 | 16=>some ⟨110,0,true,true,false⟩
 | 17=>some ⟨107,0,true,true,false⟩
 | _=>none
def kW (f:fC):List Value:=[.int .u8 f.head.toNat,.int .u8 f.mid.toNat,.bool f.a,.bool f.b,.bool f.turned]
def fv (f:fC):Value := .agg (kW f).toArray
def oQ:Array Value:=((List.range 17).flatMap fun k=>((fU (k+1)).map kW).getD []).toArray
def zt:Array Value:=((List.range 17).flatMap fun _=>kW ⟨0,0,false,false,false⟩).toArray
set_option maxRecDepth 100000 in
theorem Ad (w:World) :
  Calls Try.prog 119 #[] w fun e w'=>e = .returned (.agg oQ)∧w'=w.alloc (.cells oQ 192):=by
 have hz:∀ w:World,(zeroValue 192).run Try.prog w = .ok (.agg zt) w:=fun _=>by kernel_rfl
 go_enter Try.func119,Try.ntmps119
 go_wp2_with (refine wpList_build rfl 192 _ rfl (by as_aux_lemma=>kernel_rfl) (stop ?_))
 unfold Stop
 refine wpList_store_row rfl 192 _ _ rfl w.heap.size oQ rfl (by as_aux_lemma=>kernel_rfl) 192 zt (bC _ _) (by as_aux_lemma=>kernel_rfl) (by as_aux_lemma=>kernel_rfl) (by as_aux_lemma=>kernel_rfl) ?_
 rw [World.setRow_alloc_new]
 go_wp2
 refine bodyPost_ret (results_cell_row rfl _ _ w.heap.size 192 oQ (0,0) _ rfl (bC _ _) Try.underlying192 rfl (by as_aux_lemma=>kernel_rfl)) rfl ⟨rfl,rfl⟩
theorem nG (k:Nat) (h1:1≤k) (h2:k≤17):∃ f,fU k=some f∧∀ w:World,(Instr.index 192 (.agg oQ) (.int .i64 ((k:Int) - 1))).run Try.prog w = .ok (.agg #[.int .u8 f.head.toNat,.int .u8 f.mid.toNat,.bool f.a,.bool f.b,.bool f.turned]) w:=by
 have h17:k=1∨k=2∨k=3∨k=4∨k=5∨k=6∨k=7∨k=8∨k=9∨k=10∨k=11∨k=12∨k=13∨k=14∨k=15∨k=16∨k=17:=by omega
 rcases h17 with rfl | rfl | rfl | rfl | rfl | rfl | rfl | rfl | rfl | rfl | rfl | rfl | rfl | rfl | rfl | rfl | rfl <;> exact⟨_,rfl,fun _=>by kernel_rfl⟩
theorem tY (n:Int) (w:World) (h:n<1∨17<n) :
  Calls Try.prog 78 #[.int .i64 n] w fun e w'=>e = .returned (.tuple #[fv ⟨0,0,false,false,false⟩,.bool false])∧ae aj w w':=by
 rcases h with h | h
 ·go_enter Try.func78,Try.ntmps78
  go_wp2
  go_returns
  exact⟨rfl,(by repeat' (first | (with_reducible first | exact ae.refl _ _ | assumption | refine ae.alloc ?_ _ | refine ae.drew ?_ | refine ae.drewN ?_ _ | refine ae.regrown ?_ _ _ | refine ae.setCell ?_ ?_ _) | (refine .inr ?_;first | (simp;done) | (simp;omega) | omega)))⟩
 ·have h1:¬ n<1:=by omega
  go_enter Try.func78,Try.ntmps78
  go_wp2
  go_returns
  exact⟨rfl,(by repeat' (first | (with_reducible first | exact ae.refl _ _ | assumption | refine ae.alloc ?_ _ | refine ae.drew ?_ | refine ae.drewN ?_ _ | refine ae.regrown ?_ _ _ | refine ae.setCell ?_ ?_ _) | (refine .inr ?_;first | (simp;done) | (simp;omega) | omega)))⟩
theorem l7 (k:Nat) (f:fC) (w:World) (hf:fU k=some f) :
  Calls Try.prog 78 #[.int .i64 k] w fun e w'=>e = .returned (.tuple #[fv f,.bool true])∧ae aj w w':=by
 have hk:1≤k∧k≤17:=by
  rcases Nat.lt_or_ge k 18 with h | h
  ·rcases Nat.eq_zero_or_pos k with rfl | h0
   ·simp [fU] at hf
   ·omega
  ·obtain⟨j,rfl⟩:∃ j,k=j+18:=⟨k - 18,by omega⟩
   simp [fU] at hf
 obtain⟨h1,h2⟩:=hk
 obtain⟨f',hf',hi⟩:=nG k h1 h2
 obtain rfl:f=f':=by rw [hf] at hf';simpa using hf'
 clear hf' hf
 go_enter Try.func78,Try.ntmps78
 go_wp2_with (go_at_call 119;refine (Ad _).mono ?_;rintro e w' ⟨rfl,rfl⟩)
 go_returns
 exact⟨rfl,(by repeat' (first | (with_reducible first | exact ae.refl _ _ | assumption | refine ae.alloc ?_ _ | refine ae.drew ?_ | refine ae.drewN ?_ _ | refine ae.regrown ?_ _ _ | refine ae.setCell ?_ ?_ _) | (refine .inr ?_;first | (simp;done) | (simp;omega) | omega)))⟩
end Go.Proofs.Ytglkmaalpammcaa
namespace Go.Gl
def be:Nat→Nat→List UInt8
 | 0,_=>[]
 | n+1,x=>UInt8.ofNat (x / 256 ^ n) :: be n x
def num (xs:List UInt8):Nat:=xs.foldl (fun a c=>a*256+c.toNat) 0
theorem eY (n x:Nat):(be n x).length=n:=by
 induction n with
 | zero=>rfl
 | succ n ih=>simp [be,ih]
theorem vV (xs:List UInt8) (c:UInt8):num (xs ++ [c])=num xs*256+c.toNat:=by simp [num]
theorem vS (xs:List UInt8):num xs<256 ^ xs.length:=by
  suffices h:∀ ys:List UInt8,num ys.reverse<256 ^ ys.length by
    have:=h xs.reverse
    simpa using this
  intro ys
  induction ys with
  | nil=>simp [num]
  | cons c ys ih =>
    rw [List.reverse_cons,vV,List.length_cons,Nat.pow_succ]
    have:=c.toNat_lt
    omega
theorem zC (xs:List UInt8) (a:Nat):xs.foldl (fun a c=>a*256+c.toNat) a=a*256 ^ xs.length+num xs:=by
  induction xs generalizing a with
  | nil=>simp [num]
  | cons c xs ih =>
    rw [num,List.foldl_cons,List.foldl_cons,List.length_cons,ih,ih (0*256+c.toNat),Nat.pow_succ,Nat.zero_mul,Nat.zero_add,Nat.add_mul,Nat.mul_comm (256 ^ xs.length) 256,← Nat.mul_assoc,Nat.add_assoc]
theorem vF (c:UInt8) (xs:List UInt8):num (c :: xs)=c.toNat*256 ^ xs.length+num xs:=by
 rw [num,List.foldl_cons,zC]
 simp
theorem zW (n x:Nat):num (be n x)=x % 256 ^ n:=by
  induction n with
  | zero=>simp [be,num,Nat.mod_one]
  | succ n ih =>
    rw [be,vF,eY,ih,UInt8.toNat_ofNat']
    have h:=Nat.mod_mul (x:=x) (a:=256 ^ n) (b:=256)
    rw [Nat.pow_succ 256 n,h,show (2 ^ 8:Nat)=256 from rfl,Nat.mul_comm (256 ^ n)]
    omega
theorem Ew (xs:List UInt8):be xs.length (num xs)=xs:=by
  suffices h:∀ (xs:List UInt8) (q:Nat),be xs.length (q*256 ^ xs.length+num xs)=xs by simpa using h xs 0
  intro xs
  induction xs with
  | nil=>intro q;rfl
  | cons c xs ih =>
    intro q
    have hl:=vS xs
    have hp:0<256 ^ xs.length:=Nat.pow_pos (by decide)
    rw [List.length_cons,be,vF]
    have e:q*256 ^ (xs.length+1)+(c.toNat*256 ^ xs.length+num xs)=(q*256+c.toNat)*256 ^ xs.length+num xs:=by
      rw [Nat.pow_succ,Nat.add_mul,Nat.mul_assoc,Nat.mul_comm (256 ^ xs.length) 256];omega
    rw [e,ih]
    congr 1
    rw [Nat.mul_comm,Nat.mul_add_div hp,Nat.div_eq_of_lt hl,Nat.add_zero]
    apply UInt8.toNat_inj.1
    rw [UInt8.toNat_ofNat']
    have:=c.toNat_lt
    omega
theorem yg (x:Nat) (h:x<18446744073709551616):num (be 8 x)=x:=by
 rw [zW]
 exact Nat.mod_eq_of_lt (by simpa using h)
def b8 (x i:Nat):Int:=((x / 256 ^ i % 256:Nat):Int)
end Go.Gl
namespace Go.Proofs.Ytglkmaalpammcaa
open Go.Gl Go.RowKit
theorem Ef (x:Nat):bv (be 8 x)=[.int .u8 (b8 x 7),.int .u8 (b8 x 6),.int .u8 (b8 x 5),.int .u8 (b8 x 4),.int .u8 (b8 x 3),.int .u8 (b8 x 2),.int .u8 (b8 x 1),.int .u8 (b8 x 0)]:=by
 simp only [be,bv,List.map_cons,List.map_nil,UInt8.toNat_ofNat',b8]
theorem agg8 (x:Nat) (hx:x<18446744073709551616) (a0 a1 a2 a3 a4 a5 a6 a7:Int) (h:a0=x / 72057594037927936∧a1=x / 281474976710656 % 256∧a2=x / 1099511627776 % 256∧a3=x / 4294967296 % 256∧a4=x / 16777216 % 256∧a5=x / 65536 % 256∧a6=x / 256 % 256∧a7=x % 256) :
  a0=b8 x 7∧a1=b8 x 6∧a2=b8 x 5∧a3=b8 x 4∧a4=b8 x 3∧a5=b8 x 2∧a6=b8 x 1∧a7=b8 x 0:=by
 obtain⟨rfl,rfl,rfl,rfl,rfl,rfl,rfl,rfl⟩:=h
 simp only [b8]
 omega
def wL (x:Nat):Value := .agg #[.int .u8 (b8 x 7),.int .u8 (b8 x 6),.int .u8 (b8 x 5),.int .u8 (b8 x 4),.int .u8 (b8 x 3),.int .u8 (b8 x 2),.int .u8 (b8 x 1),.int .u8 (b8 x 0)]
theorem zB (x:Nat) (hx:x<18446744073709551616):Value.agg #[.int .u8 (x / 72057594037927936),.int .u8 (x / 281474976710656 % 256),.int .u8 (x / 1099511627776 % 256),.int .u8 (x / 4294967296 % 256),.int .u8 (x / 16777216 % 256),.int .u8 (x / 65536 % 256),.int .u8 (x / 256 % 256),.int .u8 (x % 256)]=wL x:=by
 obtain⟨h0,h1,h2,h3,h4,h5,h6,h7⟩:=agg8 x hx _ _ _ _ _ _ _ _ ⟨rfl,rfl,rfl,rfl,rfl,rfl,rfl,rfl⟩
 unfold wL
 rw [h0,h1,h2,h3,h4,h5,h6,h7]
theorem zZ (x:Nat) (w:World) (hx:x<18446744073709551616) :
  Calls Try.prog 95 #[.int .u64 x] w fun e w'=>e = .returned (wL x)∧ae aj w w':=by
 have H:=lh (zB x hx)
 go_enter Try.func95,Try.ntmps95
 go_wp2
 go_rounds 9
 refine bodyPost_ret (by simp [results,Try.results95,go_sem];exact H.out) rfl ?_
 exact⟨rfl,(by repeat' (first | (with_reducible first | exact ae.refl _ _ | assumption | refine ae.alloc ?_ _ | refine ae.drew ?_ | refine ae.drewN ?_ _ | refine ae.regrown ?_ _ _ | refine ae.setCell ?_ ?_ _) | (refine .inr ?_;first | (simp;done) | (simp;omega) | omega)))⟩
theorem um (n:Int) (w:World) (h0:0≤n) (h1:n≤18446744073709551615) :
  Calls Try.prog 95 #[.int .u64 n] w fun e w'=>e = .returned (.agg #[.int .u8 (b8 n.toNat 7),.int .u8 (b8 n.toNat 6),.int .u8 (b8 n.toNat 5),.int .u8 (b8 n.toNat 4),.int .u8 (b8 n.toNat 3),.int .u8 (b8 n.toNat 2),.int .u8 (b8 n.toNat 1),.int .u8 (b8 n.toNat 0)])∧ae aj w w':=by
 obtain⟨x,rfl⟩:=Int.eq_ofNat_of_zero_le h0
 exact zZ x w (by omega)
theorem rd8 {w:World}{g:Nat}{x:Nat}{e:TypeId}{fr:Nat × Nat} (h:w.heap[g]?=some (.cells #[.int .u8 (b8 x 7),.int .u8 (b8 x 6),.int .u8 (b8 x 5),.int .u8 (b8 x 4),.int .u8 (b8 x 3),.int .u8 (b8 x 2),.int .u8 (b8 x 1),.int .u8 (b8 x 0)] e fr)):Rd w (.slice (some ⟨g,0,none⟩) 8 8) (be 8 x):=by
 refine⟨by rw [eY,jI,eY],.inr ⟨g,0,8,by rw [eY],by rw [eY];omega,by simp [maxLen],.inr (lt_of_heap h),fun j u hj=>?_⟩⟩
 rw [Ef] at hj
 rw [ai h,Nat.zero_add]
 simpa using hj
open Go.Gl Go.RowKit
def gV (f:fC) (a:Nat):Nat:=if f.turned then 18446744073709551615 - a else a
def ku (f:fC) (a:Nat):List UInt8:=[f.head] ++ (if f.a then be 8 (gV f a) else []) ++ (if f.mid.toNat=0 then [] else [f.mid])
theorem first_any (f:fC) (a:Nat) (w:World) (ha:a≤18446744073709551615) :
  Calls Try.prog 94 #[.agg #[.int .u8 f.head.toNat,.int .u8 f.mid.toNat,.bool f.a,.bool f.b,.bool f.turned],.int .u64 a] w fun e w'=>∃ v,e = .returned v∧Gl.Own w' v (ku f a)∧ae aj w w'∧aI w v:=by
 obtain⟨hd,md,fa,fb,ft⟩:=f
 have hfin:Hid (∀ t:Nat,t=gV ⟨hd,md,fa,fb,ft⟩ a→ku ⟨hd,md,fa,fb,ft⟩ a=[hd] ++ (if fa then be 8 t else []) ++ (if md.toNat=0 then [] else [md])):=by
  intro t ht;rw [ht];rfl
 have hmd:md.toNat<256:=md.toNat_lt
 have fin:∀ (W:World) (v:Value) (b:Nat),w.heap.size≤b→(v.ownBlock=some b∨aI W v)→w.heap.size≤W.heap.size→aI w v:=by
  intro W v b hb hv hW k hk
  rcases hv with hv | hv
  ·rw [hv] at hk;simp at hk;omega
  ·have:=hv k hk;omega
 have F:=lh fin
 clear fin
 have M:(((md.toNat:Nat):Int) != 0)=false∧md.toNat=0∨(((md.toNat:Nat):Int) != 0)=true∧md.toNat≠0:=by
  by_cases h:md.toNat=0
  ·exact .inl ⟨by simp [h],h⟩
  ·exact .inr ⟨by simp [h],h⟩
 cases ft
 all_goals
  go_enter Try.func94,Try.ntmps94
  go_wp2_with fail
  try rw [xy _ (by omega) (by omega)]
  refine (um _ _ (by omega) (by omega)).mono ?_
  rintro e w1 ⟨rfl,hm1⟩
  have B0:=ai (hm1.heap (g:=w.heap.size) (dS (bC _ _) _) (fun x=>x))
  have o1:Gl.Own w1 (.slice (some ⟨w.heap.size+1,0,none⟩) 1 1) [hd]:=by
   have h:=fun o=>rQ hd (w:=w.alloc o) (w.heap.size+1) (by simp)
   exact (h _).keep hm1 (fun _ _ x=>x)
  have hz1:w.heap.size+1<w1.heap.size:=by have:=hm1.size;simp at this;omega
  have hz0:w.heap.size<w1.heap.size:=by omega
  have m1:ae aj w w1:=((((ae.refl _ _).alloc _).alloc _).trans hm1 (fun _ _ x=>x) (fun _ _ x=>x))
  rcases M with ⟨hb,hM⟩ | ⟨hb,hM⟩
  all_goals
   have HM:=lh hM
   clear hM hm1
   cases fa
 case inl.false | inr.inl.false =>
  go_wp2_with (at_builtin;refine stop ?_)
  go_ret
  refine⟨_,rfl,?_,m1.alloc _,F.out w1 _ _ (Nat.le_succ _) (.inl rfl) m1.size⟩
  rw [hfin.out _ rfl,if_pos HM.out]
  exact o1.alloc _
 case inr.false | inr.inr.false =>
  go_wp2_with (at_builtin;refine stop ?_)
  unfold Stop
  refine jk rfl rfl [hd] [md] ((o1.alloc _).alloc _) (rQ md _ (by simp)).rd rfl rfl (by simp) ?_
  intro v2 w2 h1 h2 h3
  go_wp2
  go_ret
  refine⟨_,rfl,?_,((m1.alloc _).alloc _).trans h2 (fun _ _ x=>x) (fun i hi x=>by have:=(jh x);omega),F.out _ _ _ (Nat.le_succ _) h3 (by simp;omega)⟩
  rw [hfin.out _ rfl,if_neg HM.out]
  exact h1
 case inl.true | inr.inl.true =>
  go_wp2_with (at_builtin;refine stop ?_)
  unfold Stop
  refine jk rfl rfl [hd] _ (o1.alloc _) (rd8 (bC _ _)) rfl rfl (by simp [eY]) ?_
  intro v2 w2 h1 h2 h3
  have B2:∀ o,w2.cell? ⟨w.heap.size,o,none⟩=_:=fun o=>(h2.cellAt (g:=w.heap.size) (by simp;omega) (fun x=>by have:=jh x;omega) o).trans ((World.cell?_alloc_past _ _ _ hz0).trans (B0 o))
  have F2:=lh (show _∧_∧_ from⟨h1,h2,h3⟩)
  clear h1 h2 h3
  go_wp2_with (at_builtin;refine stop ?_)
  go_ret
  obtain⟨h1,h2,h3⟩:=F2.out
  refine⟨_,rfl,?_,(m1.alloc _).trans h2 (fun _ _ x=>x) (fun i hi x=>by have:=(jh x);omega),F.out _ _ _ (Nat.le_succ _) h3 (by simp;omega)⟩
  rw [hfin.out _ rfl,if_pos HM.out]
  simpa [gV] using h1
 case inr.true | inr.inr.true =>
  go_wp2_with (at_builtin;refine stop ?_)
  unfold Stop
  refine jk rfl rfl [hd] _ (o1.alloc _) (rd8 (bC _ _)) rfl rfl (by simp [eY]) ?_
  intro v2 w2 h1 h2 h3
  have B2:∀ o,w2.cell? ⟨w.heap.size,o,none⟩=_:=fun o=>(h2.cellAt (g:=w.heap.size) (by simp;omega) (fun x=>by have:=jh x;omega) o).trans ((World.cell?_alloc_past _ _ _ hz0).trans (B0 o))
  have F2:=lh (show _∧_∧_ from⟨h1,h2,h3⟩)
  clear h1 h2 h3
  go_wp2_with (at_builtin;refine stop ?_)
  unfold Stop
  obtain⟨h1,h2,h3⟩:=F2.out
  have hs2:=h2.size
  simp only [World.size_alloc] at hs2
  refine jk rfl rfl _ [md] (h1.alloc _) (rQ md _ (by simp)).rd rfl rfl (by simp [eY]) ?_
  intro v3 w3 k1 k2 k3
  go_wp2
  go_ret
  have hv2:aI w v2:=F.out _ _ _ (Nat.le_succ _) h3 (by simp;omega)
  refine⟨_,rfl,?_,(((m1.alloc _).trans h2 (U:=aj) (fun _ _ x=>x) (fun i hi x=>by have:=(jh x);omega)).alloc _).trans k2 (fun _ _ x=>x) (fun i hi x=>by have:=hv2 i x;omega),fun k hk=>?_⟩
  ·rw [hfin.out _ rfl,if_neg HM.out]
   simpa [gV] using k1
  ·rcases k3 with k3 | k3
   ·exact hv2 k (k3.symm.trans hk)
   ·have:=k3 k hk
    simp at this
    omega
open Go.Gl Go.RowKit
theorem vN:(Try.prog.info? 113).map (·.size)=some 3:=by kernel_rfl
theorem Bo (d:Nat) (k a b k' a' b':Int) (w:World):(Op.equalIn (d+2) 113 (.agg #[.int .i64 k,.int .u64 a,.int .u64 b]) (.agg #[.int .i64 k',.int .u64 a',.int .u64 b'])).run Try.prog w = .ok (k == k' && (a == a' && b == b')) w:=by
 simp [go_sem]
 by_cases h1:k=k' <;> by_cases h2:a=a' <;> by_cases h3:b=b' <;> simp [h1,h2,h3]
theorem xP (k a b k' a' b':Int) (w:World):(binOp .neq 113 (.agg #[.int .i64 k,.int .u64 a,.int .u64 b]) (.agg #[.int .i64 k',.int .u64 a',.int .u64 b'])).run Try.prog w = .ok (.bool (!(k == k' && (a == a' && b == b')))) w:=by
 rw [run_neq_struct,Bo 9998]
 rfl
open Go.Gl Go.RowKit
def oG (c:Bool) (a:Nat):Int:=((if c then a else 0:Nat):Int)
theorem ve (f:fC) (k:Int) (a b:Nat) (w:World) :
  Calls Try.prog 93 #[.agg #[.int .u8 f.head.toNat,.int .u8 f.mid.toNat,.bool f.a,.bool f.b,.bool f.turned],.agg #[.int .i64 k,.int .u64 a,.int .u64 b]] w fun e w'=>e = .returned (.agg #[.int .i64 k,.int .u64 (oG f.a a),.int .u64 (oG f.b b)])∧ae aj w w':=by
 obtain⟨hd,md,fa,fb,ft⟩:=f
 cases fa <;> cases fb
 all_goals
  go_enter Try.func93,Try.ntmps93
  go_wp2
  go_returns
  exact⟨rfl,(by repeat' (first | (with_reducible first | exact ae.refl _ _ | assumption | refine ae.alloc ?_ _ | refine ae.drew ?_ | refine ae.drewN ?_ _ | refine ae.regrown ?_ _ _ | refine ae.setCell ?_ ?_ _) | (refine .inr ?_;first | (simp;done) | (simp;omega) | omega)))⟩
theorem Of_no (n:Int) (w:World) (h:n<1∨17<n) :
  Calls Try.prog 55 #[.int .i64 n] w fun e w'=>e = .returned (.tuple #[.slice none 0 0,.int .i64 70])∧ae aj w w':=by
 have H:=lh h
 clear h
 go_enter Try.func55,Try.ntmps55
 go_wp2_with (go_at_call 78;refine (tY _ _ H.out).mono ?_;rintro e w1 ⟨rfl,hm⟩;unfold fv kW)
 go_returns
 exact⟨rfl,(by repeat' (first | (with_reducible first | exact ae.refl _ _ | assumption | refine ae.alloc ?_ _ | refine ae.drew ?_ | refine ae.drewN ?_ _ | refine ae.regrown ?_ _ _ | refine ae.setCell ?_ ?_ _) | (refine .inr ?_;first | (simp;done) | (simp;omega) | omega)))⟩
theorem EI (k:Nat) (f:fC) (w:World) (hf:fU k=some f) :
  Calls Try.prog 55 #[.int .i64 k] w fun e w'=>∃ v,e = .returned (.tuple #[v,.int .i64 0])∧Gl.Own w' v [f.head]∧ae aj w w'∧aI w v:=by
 have H:=lh hf
 clear hf
 go_enter Try.func55,Try.ntmps55
 go_wp2_with (go_at_call 78;refine (l7 _ _ _ H.out).mono ?_;rintro e w1 ⟨rfl,hm⟩;unfold fv kW)
 go_returns
 refine⟨_,rfl,rQ _ _ (by simp),(by repeat' (first | (with_reducible first | exact ae.refl _ _ | assumption | refine ae.alloc ?_ _ | refine ae.drew ?_ | refine ae.drewN ?_ _ | refine ae.regrown ?_ _ _ | refine ae.setCell ?_ ?_ _) | (refine .inr ?_;first | (simp;done) | (simp;omega) | omega))),fun k hk=>?_⟩
 have:=hm.size
 simp [Value.ownBlock] at hk
 omega
def mX (w:World) (xs:List UInt8) (n:Int) (e:Ending) (w':World):Prop:=∃ v,e = .returned (.tuple #[v,.int .i64 n])∧Gl.Own w' v xs∧ae aj w w'∧aI w v
theorem mX.nil {w w':World}{n:Int} (hm:ae aj w w'):mX w [] n (.returned (.tuple #[.slice none 0 0,.int .i64 n])) w':=⟨_,rfl,Gl.Own.nil _,hm,fun k hk=>by simp [Value.ownBlock] at hk⟩
def gy (f:fC) (a b:Nat):List UInt8:=ku f a ++ if f.b then be 8 b else []
def lV (f:fC) (a b:Nat):Bool:=(f.a || decide (a=0)) && (f.b || decide (b=0))
theorem Ce (n:Int) (a b:Nat) (w:World) (h:n<1∨17<n) :
  Calls Try.prog 61 #[.agg #[.int .i64 n,.int .u64 a,.int .u64 b]] w (mX w [] 70):=by
 have H:=lh h
 clear h
 go_enter Try.func61,Try.ntmps61
 go_wp2_with (go_at_call 78;refine (tY _ _ H.out).mono ?_;rintro e w1 ⟨rfl,hm⟩;unfold fv kW)
 refine wp_region_quiet_below (by kernel_rfl) (by kernel_rfl) ?_
 repeat (quiet_step (fail))
 refine wpQuiet_nil ?_
 intro _ hw'
 obtain⟨⟨dq,osq⟩,hw''⟩:=hw'
 subst hw''
 go_wp2
 go_returns
 have m1:=hm.after
 exact mX.nil (by repeat' (first | (with_reducible first | exact ae.refl _ _ | assumption | refine ae.alloc ?_ _ | refine ae.drew ?_ | refine ae.drewN ?_ _ | refine ae.regrown ?_ _ _ | refine ae.setCell ?_ ?_ _) | (refine .inr ?_;first | (simp;done) | (simp;omega) | omega)))
theorem zL (f:fC) (k a b:Nat):(!(((k:Int) == (k:Int)) && (((oG f.a a) == (a:Int)) && ((oG f.b b) == (b:Int))))) = !lV f a b:=by
 obtain⟨hd,md,fa,fb,ft⟩:=f
 cases fa <;> cases fb <;> simp [lV,oG] <;> by_cases h1:a=0 <;> by_cases h2:b=0 <;> simp_all <;> omega
theorem BN (k a b:Nat) (f:fC) (w:World) (hf:fU k=some f) (hn:lV f a b=false) :
  Calls Try.prog 61 #[.agg #[.int .i64 k,.int .u64 a,.int .u64 b]] w (mX w [] 70):=by
 have hne:=fun w=>(xP (k:Int) (oG f.a a) (oG f.b b) (k:Int) (a:Int) (b:Int) w).trans (by rw [zL,hn])
 have H:=lh hf
 clear hf hn
 obtain⟨hd,md,fa,fb,ft⟩:=f
 go_enter Try.func61,Try.ntmps61
 go_wp2_with (go_at_call 78;refine (l7 _ _ _ H.out).mono ?_;rintro e w1 ⟨rfl,hm⟩;unfold fv kW)
 have m1:=hm.after
 have c1:=hm.cellAt (g:=w.heap.size) (by simp) (fun x=>x)
 have hz:w.heap.size<w1.heap.size:=hm.size_of (by simp)
 have c0:∀ o,(w1.alloc (.cells #[.int .u8 hd.toNat,.int .u8 md.toNat,.bool fa,.bool fb,.bool ft] 142)).cell? ⟨w.heap.size,o,none⟩=#[.int .i64 (k:Int),.int .u64 (a:Int),.int .u64 (b:Int)][o]?:=fun o=>(World.cell?_alloc_past _ _ _ hz).trans ((c1 o).trans (by simp))
 have c2:=kM c0 (by simp;omega)
 have c3:=kM (ai (bC w1 (.cells #[.int .u8 hd.toNat,.int .u8 md.toNat,.bool fa,.bool fb,.bool ft] 142))) (by simp)
 clear c0 c1
 refine wp_region_quiet_below (by kernel_rfl) (by kernel_rfl) ?_
 repeat (quiet_step ((go_at_call 93;exact Calls.quiet_mods (ve ⟨hd,md,fa,fb,ft⟩ _ _ _ _))))
 refine wpQuiet_nil ?_
 intro _ hw'
 obtain⟨⟨dq,osq⟩,hw''⟩:=hw'
 subst hw''
 clear c2 c3
 go_wp2
 go_returns
 exact mX.nil (by repeat' (first | (with_reducible first | exact ae.refl _ _ | assumption | refine ae.alloc ?_ _ | refine ae.drew ?_ | refine ae.drewN ?_ _ | refine ae.regrown ?_ _ _ | refine ae.setCell ?_ ?_ _) | (refine .inr ?_;first | (simp;done) | (simp;omega) | omega)))
theorem Bh (k a b:Nat) (f:fC) (w:World) (hf:fU k=some f) (hn:lV f a b=true) (ha:a≤18446744073709551615) (hb:b≤18446744073709551615) :
  Calls Try.prog 61 #[.agg #[.int .i64 k,.int .u64 a,.int .u64 b]] w (mX w (gy f a b) 0):=by
 have hne:=fun w=>(xP (k:Int) (oG f.a a) (oG f.b b) (k:Int) (a:Int) (b:Int) w).trans (by rw [zL,hn])
 have H:=lh hf
 clear hf hn
 obtain⟨hd,md,fa,fb,ft⟩:=f
 go_enter Try.func61,Try.ntmps61
 go_wp2_with (go_at_call 78;refine (l7 _ _ _ H.out).mono ?_;rintro e w1 ⟨rfl,hm⟩;unfold fv kW)
 have m1:=hm.after
 have c1:=hm.cellAt (g:=w.heap.size) (by simp) (fun x=>x)
 have hz:w.heap.size<w1.heap.size:=hm.size_of (by simp)
 have c0:∀ o,(w1.alloc (.cells #[.int .u8 hd.toNat,.int .u8 md.toNat,.bool fa,.bool fb,.bool ft] 142)).cell? ⟨w.heap.size,o,none⟩=#[.int .i64 (k:Int),.int .u64 (a:Int),.int .u64 (b:Int)][o]?:=fun o=>(World.cell?_alloc_past _ _ _ hz).trans ((c1 o).trans (by simp))
 have c2:=kM c0 (by simp;omega)
 have c3:=kM (ai (bC w1 (.cells #[.int .u8 hd.toNat,.int .u8 md.toNat,.bool fa,.bool fb,.bool ft] 142))) (by simp)
 clear c0 c1
 refine wp_region_quiet_below (by kernel_rfl) (by kernel_rfl) ?_
 repeat (quiet_step ((go_at_call 93;exact Calls.quiet_mods (ve ⟨hd,md,fa,fb,ft⟩ _ _ _ _))))
 refine wpQuiet_nil ?_
 intro _ hw'
 obtain⟨⟨dq,osq⟩,hw''⟩:=hw'
 subst hw''
 have d2:=c2 dq osq
 have d3:=c3 dq osq
 have hs2:=(kU (w1.alloc (.cells #[.int .u8 hd.toNat,.int .u8 md.toNat,.bool fa,.bool fb,.bool ft] 142)) dq osq).size
 have m2:=(m1.alloc (.cells #[.int .u8 hd.toNat,.int .u8 md.toNat,.bool fa,.bool fb,.bool ft] 142)).regrown dq osq
 simp only [World.size_alloc] at hs2
 clear c2 c3 hne hm
 generalize Sort.grow _ osq=w2 at *
 go_wp2_with fail
 refine (first_any ⟨hd,md,fa,fb,ft⟩ a _ ha).mono ?_
 rintro e w3 ⟨v,rfl,h1,h2,h3⟩
 have hs3:=h2.size
 have b0:w.heap.size<w2.heap.size:=by omega
 have b1:w1.heap.size<w2.heap.size:=by omega
 have e2:=fun o=>(h2.cellAt b0 (fun x=>x) o).trans (d2 o)
 have e3:=fun o=>(h2.cellAt b1 (fun x=>x) o).trans (d3 o)
 clear d2 d3
 go_wp2_with fail
 refine (um _ _ (by omega) (by omega)).mono ?_
 rintro e w4 ⟨rfl,h4⟩
 have hs4:=h4.size
 have f3:=fun o=>(h4.cellAt (g:=w1.heap.size) (by omega) (fun x=>x) o).trans (e3 o)
 have b4:w1.heap.size<w4.heap.size:=by omega
 have m4:=(m2.then0 h2).then0 h4
 have o4:=h1.keep h4 (fun _ _ x=>x)
 have fr:aI w v:=h3.of (by omega)
 clear e2 e3
 cases fb
 ·go_wp2_with (at_builtin;refine stop ?_)
  go_returns
  refine⟨v,rfl,?_,m4.alloc _,fr⟩
  simpa [gy] using o4.alloc _
 ·go_wp2_with (at_builtin;refine stop ?_)
  unfold Stop
  refine jk rfl rfl _ _ (o4.alloc _) (rd8 (bC _ _)) rfl rfl (by simp [eY,ku];repeat' split <;> simp [eY]) ?_
  intro v5 w5 k1 k2 k3
  go_wp2
  go_returns
  refine⟨v5,rfl,by simpa [gy] using k1,(m4.alloc _).trans k2 (fun _ _ x=>x) (fun i hi x=>by have:=fr i x;omega),fun k hk=>?_⟩
  rcases k3 with k3 | k3
  ·exact fr k (k3.symm.trans hk)
  ·have:=k3 k hk
   simp at this
   omega
theorem qZ {n:Int} (h:n<1∨17<n):fU n.toNat=none:=by
 rcases h with h | h
 ·rw [show n.toNat=0 from by omega];rfl
 ·obtain⟨j,hj⟩:∃ j,n.toNat=j+18:=⟨n.toNat - 18,by omega⟩
  rw [hj];rfl
def fQ (n:Int) (a b:Nat):Option (List UInt8):=match fU n.toNat with
 | none=>none
 | some f=>if lV f a b then some (gy f a b) else none
theorem wQ (n:Int) (a b:Nat) (w:World) (ha:a≤18446744073709551615) (hb:b≤18446744073709551615) :
  Calls Try.prog 61 #[.agg #[.int .i64 n,.int .u64 a,.int .u64 b]] w (mX w ((fQ n a b).getD []) (if (fQ n a b).isSome then 0 else 70)):=by
 by_cases h:n<1∨17<n
 ·have:=Ce n a b w h
  simpa [fQ,qZ h] using this
 ·obtain⟨k,rfl⟩:=Int.eq_ofNat_of_zero_le (a:=n) (by omega)
  obtain⟨f,hf,_⟩:=nG k (by omega) (by omega)
  cases hn:lV f a b
  ·have:=BN k a b f w hf hn
   simpa [fQ,hf,hn] using this
  ·have:=Bh k a b f w hf hn ha hb
   simpa [fQ,hf,hn] using this
def kof (n:Int):Option (List UInt8):=(fU n.toNat).map fun f=>[f.head]
theorem zT (n:Int) (w:World):Calls Try.prog 55 #[.int .i64 n] w (mX w ((kof n).getD []) (if (kof n).isSome then 0 else 70)):=by
 by_cases h:n<1∨17<n
 ·simpa [kof,qZ h] using (Of_no n w h).mono fun e w' ⟨he,hm⟩=>by rw [he];exact mX.nil hm
 ·obtain⟨k,rfl⟩:=Int.eq_ofNat_of_zero_le (a:=n) (by omega)
  obtain⟨f,hf,_⟩:=nG k (by omega) (by omega)
  have h1:Calls Try.prog 55 #[.int .i64 k] w (mX w [f.head] 0):=EI k f w hf
  simpa [kof,hf] using h1
open Go.Gl Go.RowKit
open Go.Gl Go.RowKit
structure Wr (w:World) (g:Nat) (v:Value) (xs:List UInt8) (e:Int):Prop where
 heap:w.heap[g]?=some (.cells #[v,.int .i64 e] 166 (0,0))
 own:Gl.Own w v xs
 apart:v.ownBlock≠some g
def WS (g:Nat) (v:Value):Nat→Prop:=fun k=>k=g∨v.ownBlock=some k
structure kX (w:World) (g:Nat) (v:Value) (xs:List UInt8) (e:Int) (w':World) (v':Value):Prop where
 wr:Wr w' g v' xs e
 mods:ae (WS g v) w w'
 blk:v'.ownBlock=v.ownBlock∨aI w v'
theorem kX.trans {w w1 w2:World}{g:Nat}{v v1 v2:Value}{xs ys:List UInt8}{e e':Int} (h:kX w g v xs e w1 v1) (k:kX w1 g v1 ys e' w2 v2):kX w g v ys e' w2 v2 :=
 ⟨k.wr,h.mods.trans k.mods (fun _ _ x=>x) (fun i hi hx=>by
   rcases hx with hx | hx
   ·exact .inl hx
   ·rcases h.blk with hb | hb
    ·exact .inr (hb.symm.trans hx)
    ·exact absurd hi (Nat.not_lt.2 (hb i hx))),
  by
   rcases k.blk with kb | kb
   ·rcases h.blk with hb | hb
    ·exact .inl (kb.trans hb)
    ·exact .inr (fun i hi=>hb i (kb▸hi))
   ·exact .inr (kb.of h.mods.size)⟩
theorem kX.refl {w:World}{g:Nat}{v:Value}{xs:List UInt8}{e:Int} (h:Wr w g v xs e):kX w g v xs e w v:=⟨h,ae.refl _ _,.inl rfl⟩
theorem Wr.lt {w:World}{g:Nat}{v:Value}{xs:List UInt8}{e:Int} (h:Wr w g v xs e):g<w.heap.size:=lt_of_heap h.heap
theorem Wr.set {w w':World}{g:Nat}{v v':Value}{xs ys:List UInt8}{e:Int} (h:Wr w g v xs e) (ho:Gl.Own w' v' ys) (hm:ae (fK v) w w') (hb:v'.ownBlock=v.ownBlock∨aI w v') :
  kX w g v ys e (w'.setCell ⟨g,0,none⟩ v') v':=by
 have hv':v'.ownBlock≠some g:=by
  rcases hb with hb | hb
  ·rw [hb];exact h.apart
  ·exact hb.not h.lt
 have h1:=hm.heap h.heap (fun x=>h.apart x)
 refine⟨⟨?_,ho.keep ((ae.refl (fun k=>k=g) w').setCell (.inl rfl) v') (fun k hk e=>hv' (by rw [hk,e])),hv'⟩,(hm.mono (T:=WS g v) (fun i _ x => .inr x)).setCell (.inl (.inl rfl)) v',hb⟩
 have:=heap_set h1 0 v'
 simpa using this
open Go.Gl Go.RowKit
attribute [local go_sem ↓] Go.wp_at_zero Go.wp_at_succ
theorem Wr.drewN {w:World}{g:Nat}{v:Value}{xs:List UInt8}{e:Int} (h:Wr w g v xs e) (n:Nat):Wr (w.drewN n) g v xs e:=⟨h.heap,h.own.quiet ⟨n,rfl⟩,h.apart⟩
theorem Wr.alloc {w:World}{g:Nat}{v:Value}{xs:List UInt8}{e:Int} (h:Wr w g v xs e) (o:Obj):Wr (w.alloc o) g v xs e:=⟨dS h.heap o,h.own.alloc o,h.apart⟩
theorem Wr.drew {w:World}{g:Nat}{v:Value}{xs:List UInt8}{e:Int} (h:Wr w g v xs e):Wr w.drew g v xs e:=⟨h.heap,h.own.quiet ⟨1,rfl⟩,h.apart⟩
theorem kX.from {w w1 w2:World}{g:Nat}{v v2:Value}{xs:List UInt8}{e:Int} (h:kX w1 g v xs e w2 v2) (hm:ae aj w w1):kX w g v xs e w2 v2 :=
 ⟨h.wr,hm.trans h.mods (fun _ _ x=>x.elim) (fun _ _ x=>x),h.blk.imp_right (fun k=>k.of hm.size)⟩
end Go.Proofs.Ytglkmaalpammcaa

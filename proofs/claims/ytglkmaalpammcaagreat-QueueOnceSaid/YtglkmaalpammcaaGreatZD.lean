/- Parts of the proof, one behind the other: IterC, IterP, KvI, KvP1, KvV, KvWd, HSpoil, KvD0, KvT, KvD, KvB, KvE, KvX, KvY, KvH, KvL, KvSr, KForm, SpecK, KEight, KFirst, KEq, KMake, RPut, EWr, EWr2, EWr3, Grow, Make, NLib, NPlain, NTrim, Len64, NBits, NBytes, EWrN, NumT, RRdr, ERd, ERd2, NFrom. -/
import Derived.Test.YtglkmaalpammcaaGreatZC
import Derived.Shelf.Abstract
import Derived.Test.YtglkmaalpammcaaGreatZB
import Derived.Test.YtglkmaalpammcaaGreatZA
import Derived.Deep.WholeRow
import Derived.KernelRfl
import Derived.Deep.RegionLaw
import Derived.Deep.DrawnRows
import Derived.Deep.OwnRows
import Derived.Shelf.Strconv.Itoa0
import Derived.Test.YtglkmaalpammcaaGreatProg
import Derived.Lib.ItoaNum
import Derived.LoopN
import Derived.StillTailTactics
set_option maxHeartbeats 64000000
set_option linter.unusedSimpArgs false
set_option linter.unusedVariables false
set_option maxRecDepth 100000
namespace Go.Gl
open Go.RowKit
def xI (P:Program) (gf:FuncId) (lb:Array Value) (n:Nat) (A:Nat→(Nat→Prop)→Array Value→World→Prop) (U0:Nat→Prop) (τ:World→World→Prop) (Ok:World→Prop) (w:World):Prop :=
 ∀ (l:Nat) (K J Jt Jx:Nat→(Nat→Prop)→World→Prop) (W:World),ae (fun k=>¬ U0 k) w W→pO W.heap.size ai K→pO W.heap.size ai J→pO W.heap.size ai Jt→pO W.heap.size ai Jx →
  (∀ U A,K 0 U A→Ok A∧∀ B,τ A B→J 0 U B)→(∀ i U A,i<n→J i U A→Ok A∧∀ B,τ A B→Jt i U B) →
  (∀ i U args W1,i<n→Jt i U W1→A i U args W1→(∀ k,U k→k<W1.heap.size)→W.heap.size≤W1.heap.size→Jt i (fun k=>U k∨iR args k) W1→(∀ k,iR args k→k<W1.heap.size)→JI P l args W1 fun e W' =>
   (e = .returned (.bool true)∧J (i+1) U W'∧ae (fun k=>¬ U k) W1 W')∨(e = .returned (.bool false)∧Jx (i+1) U W'∧ae (fun k=>¬ U k) W1 W')) →
  K 0 U0 W →
  Calls P gf (#[.func (.yield l) #[] #[]] ++ lb) W fun e W'=>(∃ v,e = .returned v)∧((∃ U,J n U W'∧∀ k,U k→k<W'.heap.size)∨(∃ i U,i<n∧Jx (i+1) U W'∧∀ k,U k→k<W'.heap.size))
section
variable {P:Program}{r:Option Nat}
theorem zf {g:Operand}{ps:Array Tmp}{assign body:Code}{Q:Exit→Act→World→Prop}{a:Act}{w:World}{gf:FuncId}{lb:Array Value} (hg:a.eval g = .func (.func gf) #[] lb) (eg:∀ args w,(callFunc gf args).run P w = .ok (.enter gf args) w)
  {n:Nat}{A:Nat→(Nat→Prop)→Array Value→World→Prop}{U0:Nat→Prop}{sg:Nat}{τ:World→World→Prop}{Ok:World→Prop}{w0:World} (it:xI P gf lb n A U0 τ Ok w0) (hτ:∀ A B,τ A B→ae (fun k=>k=sg) A B) (hsg:sg<w.heap.size) (h0:ae (fun k=>¬ U0 k) w0 w) (hU:∀ k,U0 k→k<w.heap.size) (hA:vP A) (hps:∀ i U args W,A i U args W→args.size=ps.size)
  (K I It:Nat→(Nat→Prop)→World→Prop) (Ix:Code→Nat→(Nat→Prop)→World→Prop) (hK:pO w.heap.size ai K) (hI:pO w.heap.size ai I) (hIt:pO w.heap.size ai It) (hIx:∀ c,pO w.heap.size ai (Ix c)) (hs:K 0 U0 w)
  (t0:∀ U A,K 0 U A→Ok A∧∀ B,τ A B→I 0 U B) (t1:∀ i U A,i<n→I i U A→Ok A∧∀ B,τ A B→It i U B)
  (hround:∀ l i U args W,w.heap.size≤l→U l→i<n→It i U W→A i U args W→(∀ k,U k→k<W.heap.size)→w.heap.size≤W.heap.size→(∃ r,W.heap[l]?=some (.loop r))→It i (fun k=>U k∨iR args k) W→(∀ k,iR args k→k<W.heap.size) →
   assign.wpIn (WF (some l)) 3 P (Exit.then (fun a1 W1=>ae (fun k=>¬ U k) W W1∧∀ W2,ae (fun k=>k=l) W1 W2→(∃ r,W2.heap[l]?=some (.loop r))→body.wpIn (WF (some l)) 3 P (EP I Ix U i W2) a1 W2) (fun _ _ _=>False))
    { tmps:=jF ps.toList args.toList a.tmps,defers:=[] } W)
  (hdone:∀ D U W,w.heap.size≤D→U D→(∀ k,U k→k<W.heap.size)→I n U W→W.heap[D]?=some (.deferred (some []))→Q .normal { a with defers:={ target := .collected D,args:=#[] } :: a.defers } W)
  (hstop:∀ D c i U W,w.heap.size≤D→U D→(∀ k,U k→k<W.heap.size)→i<n→Ix c (i+1) U W→W.heap[D]?=some (.deferred (some []))→c.wpIn (WF none) 3 P Q { a with defers:={ target := .collected D,args:=#[] } :: a.defers } W) :
  (Code.rangeFunc g ps assign body).wpIn (WF none) 3 P Q a w:=by
 refine wpIn_rangeFunc ?_
 intro fn hfn
 obtain⟨rec,hrec⟩:∃ rec:LoopState→Option Code→Loop,rec=fun st pe=>{ state:=st,pending:=pe,fn,tmps:=a.tmps,params:=ps,assign,body,defers:=w.heap.size }:=⟨_,rfl⟩
 obtain⟨W1,hW1⟩:∃ W1,(w.alloc (.deferred (some []))).alloc (.loop (rec .ready none))=W1:=⟨_,rfl⟩
 have hm1:ae ai w W1:=by rw [← hW1];exact ((ae.refl ai w).alloc _).alloc _
 have hsz:W1.heap.size=w.heap.size+2:=by rw [← hW1];simp
 have hL1:W1.heap[w.heap.size+1]?=some (.loop (rec .ready none)):=by
  rw [← hW1];have:=World.alloc_heap_new (w.alloc (.deferred (some []))) (.loop (rec .ready none));rwa [World.size_alloc] at this
 have hK1:W1.heap[w.heap.size]?=some (.deferred (some [])):=by
  rw [← hW1];exact dA (aF w _) _
 obtain⟨l,hl⟩:∃ l,l=w.heap.size+1:=⟨_,rfl⟩
 obtain⟨D,hD⟩:∃ D,D=w.heap.size:=⟨_,rfl⟩
 rw [← hl] at hL1
 rw [← hD] at hK1
 have hw1:ae (fun k=>¬ U0 k) w0 W1:=h0.trans hm1 (fun _ _ x=>x) (fun _ _ x=>x.elim)
 have hUD:∀ (U:Nat→Prop) k,(U k∨k=l)∨k=D↔U k∨k=l∨k=D:=fun U k=>by rw [or_assoc]
 refine⟨l,[{ target := .collected D,args:=#[] }],W1,{ target := .fn (.func gf) lb,args:=#[.func (.yield l) #[] #[]] },W1,gf,#[.func (.yield l) #[] #[]] ++ lb,W1,?_,?_,?_,?_,fun h=>by simp [Fence.wide] at h,?_⟩
 ·rw [← hW1,hrec,hl,hD];exact run_enterLoop_outer _ _ _ _ _
 ·simp only [resolve,hg]
  simp [go_sem]
 ·intro f' hf';trivial
 ·simp [invoke,go_sem,eg]
 ·refine qY.2 ((it l (fun i U W=>K i (fun k=>(U k∨k=l)∨k=D) W∧¬ U l∧¬ U D∧W.heap[l]?=some (.loop (rec .ready none))∧W.heap[D]?=some (.deferred (some [])))
   (fun i U W=>I i (fun k=>(U k∨k=l)∨k=D) W∧¬ U l∧¬ U D∧W.heap[l]?=some (.loop (rec .ready none))∧W.heap[D]?=some (.deferred (some [])))
   (fun i U W=>It i (fun k=>(U k∨k=l)∨k=D) W∧¬ U l∧¬ U D∧W.heap[l]?=some (.loop (rec .ready none))∧W.heap[D]?=some (.deferred (some [])))
   (fun i U W=>∃ c,Ix c i (fun k=>(U k∨k=l)∨k=D) W∧¬ U l∧¬ U D∧W.heap[l]?=some (.loop (rec .done (some c)))∧W.heap[D]?=some (.deferred (some [])))
   W1 hw1 ?_ ?_ ?_ ?_ ?_ ?_ ?_ ⟨hK _ _ _ _ _ hs (hm1.mono (fun _ _ x=>x.elim)) hU (fun k hk=>by rcases hk with (h | h) | h;exact .inl h;exact .inr (by omega);exact .inr (by omega)),fun h=>by have:=hU l h;omega,fun h=>by have:=hU D h;omega,hL1,hK1⟩).mono ?_)
  ·rintro i U U' X Y ⟨hi,h1,h2,h3,h4⟩ hm hus hsub
   have hlX:=lt_of_heap h3
   have hDX:=lt_of_heap h4
   refine⟨hK _ _ _ _ _ hi (hm.mono (fun k _ hk=>⟨.inl (.inl hk.1),hk.2.imp id (fun h=>by omega)⟩)) (fun k hk=>by rcases hk with (h | h) | h;exact hus k h;omega;omega) (fun k hk=>by
    rcases hk with (h | h) | h
    ·exact (hsub k h).imp (fun x => .inl (.inl x)) id
    ·exact .inl (.inl (.inr h))
    ·exact .inl (.inr h)),fun h=>by rcases hsub l h with h | h;exact h1 h;omega,fun h=>by rcases hsub D h with h | h;exact h2 h;omega,(hm.block l hlX (fun hk=>h1 hk.1)).trans h3,(hm.block D hDX (fun hk=>h2 hk.1)).trans h4⟩
  ·rintro i U U' X Y ⟨hi,h1,h2,h3,h4⟩ hm hus hsub
   have hlX:=lt_of_heap h3
   have hDX:=lt_of_heap h4
   refine⟨hI _ _ _ _ _ hi (hm.mono (fun k _ hk=>⟨.inl (.inl hk.1),hk.2.imp id (fun h=>by omega)⟩)) (fun k hk=>by rcases hk with (h | h) | h;exact hus k h;omega;omega) (fun k hk=>by
    rcases hk with (h | h) | h
    ·exact (hsub k h).imp (fun x => .inl (.inl x)) id
    ·exact .inl (.inl (.inr h))
    ·exact .inl (.inr h)),fun h=>by rcases hsub l h with h | h;exact h1 h;omega,fun h=>by rcases hsub D h with h | h;exact h2 h;omega,(hm.block l hlX (fun hk=>h1 hk.1)).trans h3,(hm.block D hDX (fun hk=>h2 hk.1)).trans h4⟩
  ·rintro i U U' X Y ⟨hi,h1,h2,h3,h4⟩ hm hus hsub
   have hlX:=lt_of_heap h3
   have hDX:=lt_of_heap h4
   refine⟨hIt _ _ _ _ _ hi (hm.mono (fun k _ hk=>⟨.inl (.inl hk.1),hk.2.imp id (fun h=>by omega)⟩)) (fun k hk=>by rcases hk with (h | h) | h;exact hus k h;omega;omega) (fun k hk=>by
    rcases hk with (h | h) | h
    ·exact (hsub k h).imp (fun x => .inl (.inl x)) id
    ·exact .inl (.inl (.inr h))
    ·exact .inl (.inr h)),fun h=>by rcases hsub l h with h | h;exact h1 h;omega,fun h=>by rcases hsub D h with h | h;exact h2 h;omega,(hm.block l hlX (fun hk=>h1 hk.1)).trans h3,(hm.block D hDX (fun hk=>h2 hk.1)).trans h4⟩
  ·rintro i U U' X Y ⟨c,hi,h1,h2,h3,h4⟩ hm hus hsub
   have hlX:=lt_of_heap h3
   have hDX:=lt_of_heap h4
   refine⟨c,hIx c _ _ _ _ _ hi (hm.mono (fun k _ hk=>⟨.inl (.inl hk.1),hk.2.imp id (fun h=>by omega)⟩)) (fun k hk=>by rcases hk with (h | h) | h;exact hus k h;omega;omega) (fun k hk=>by
    rcases hk with (h | h) | h
    ·exact (hsub k h).imp (fun x => .inl (.inl x)) id
    ·exact .inl (.inl (.inr h))
    ·exact .inl (.inr h)),fun h=>by rcases hsub l h with h | h;exact h1 h;omega,fun h=>by rcases hsub D h with h | h;exact h2 h;omega,(hm.block l hlX (fun hk=>h1 hk.1)).trans h3,(hm.block D hDX (fun hk=>h2 hk.1)).trans h4⟩
  ·rintro U A ⟨hi,h1,h2,h3,h4⟩
   obtain⟨k1,k2⟩:=t0 _ A hi
   exact⟨k1,fun B hB=>⟨k2 B hB,h1,h2,((hτ A B hB).block l (lt_of_heap h3) (fun e=>by omega)).trans h3,((hτ A B hB).block D (lt_of_heap h4) (fun e=>by omega)).trans h4⟩⟩
  ·rintro i U A hin ⟨hi,h1,h2,h3,h4⟩
   obtain⟨k1,k2⟩:=t1 i _ A hin hi
   exact⟨k1,fun B hB=>⟨k2 B hB,h1,h2,((hτ A B hB).block l (lt_of_heap h3) (fun e=>by omega)).trans h3,((hτ A B hB).block D (lt_of_heap h4) (fun e=>by omega)).trans h4⟩⟩
  ·rintro i U args W hin ⟨hi,h1,h2,h3,h4⟩ hargs hus hge ⟨hi',_,_,_,_⟩ hab
   have hlW:=lt_of_heap h3
   have hDW:=lt_of_heap h4
   have hA2:=hA _ _ _ _ D _ (hA _ _ _ _ l _ hargs h3 rfl) h4 rfl
   have hus2:∀ k,((U k∨k=l)∨k=D)→k<W.heap.size:=fun k hk=>by rcases hk with (h | h) | h;exact hus k h;omega;omega
   refine Ak (base:=w.heap.size) (V:=ai) (U:=fun k=>(U k∨k=l)∨k=D) (i:=i) hrec hI hIx h3 (hps _ _ _ _ hargs) (by omega) (.inl (.inr rfl)) hus2 (hround l i _ args W (by omega) (.inl (.inr rfl)) hin hi hA2 hus2 (by omega) ⟨_,h3⟩
    (hIt _ _ _ _ _ hi' (ae.refl _ _) (fun k hk=>by rcases hk with ((h | h) | h) | h;exact hus k h;exact hab k h;omega;omega) (fun k hk=>by rcases hk with ((h | h) | h) | h;exact .inl (.inl (.inl (.inl h)));exact .inl (.inl (.inr h));exact .inl (.inr h);exact .inl (.inl (.inl (.inr h))))) hab) _ ?_ ?_
   ·intro W' hi' hm' hl'
    have hD':W'.heap[D]?=some (.deferred (some [])):=(hm'.block D hDW (fun hk=>by rcases hk with hk | hk;exact hk (.inr rfl);omega)).trans h4
    exact .inl ⟨rfl,⟨hi',h1,h2,hl',hD'⟩,hm'.mono (fun k _ hk hu=>by rcases hk with hk | hk;exact hk (.inl (.inl hu));exact h1 (hk▸hu))⟩
   ·intro c W' hi' hm' hl'
    have hD':W'.heap[D]?=some (.deferred (some [])):=(hm'.block D hDW (fun hk=>by rcases hk with hk | hk;exact hk (.inr rfl);omega)).trans h4
    exact .inr ⟨rfl,⟨c,hi',h1,h2,hl',hD'⟩,hm'.mono (fun k _ hk hu=>by rcases hk with hk | hk;exact hk (.inl (.inl hu));exact h1 (hk▸hu))⟩
  ·rintro e W2 ⟨⟨v,rfl⟩,(⟨U,⟨hi,h1,h2,h3,h4⟩,hus⟩ | ⟨i,U,hin,⟨c,hi,h1,h2,h3,h4⟩,hus⟩)⟩
   ·refine⟨none,_,by have:=run_endLoop (P:=P) h3 (by rw [hrec];simp);rw [hrec] at this;exact this,?_⟩
    have hlW:=lt_of_heap h3
    have hDW:=lt_of_heap h4
    exact hdone D (fun k=>(U k∨k=l)∨k=D) _ (by omega) (.inr rfl) (fun k hk=>by rw [World.putObj_size];rcases hk with (h | h) | h;exact hus k h;omega;omega) (hI _ _ _ _ _ hi ((fA W2 l _).mono (fun k _ hk=>by subst hk;exact⟨.inl (.inr rfl),.inr (by omega)⟩)) (fun k hk=>by rcases hk with (h | h) | h;exact hus k h;omega;omega) (fun k hk => .inl hk)) ((World.putObj_heap_other (by omega)).trans h4)
   ·refine⟨some c,_,by have:=run_endLoop (P:=P) h3 (by rw [hrec];simp);rw [hrec] at this;exact this,?_⟩
    have hlW:=lt_of_heap h3
    have hDW:=lt_of_heap h4
    exact hstop D c i (fun k=>(U k∨k=l)∨k=D) _ (by omega) (.inr rfl) (fun k hk=>by rw [World.putObj_size];rcases hk with (h | h) | h;exact hus k h;omega;omega) hin (hIx c _ _ _ _ _ hi ((fA W2 l _).mono (fun k _ hk=>by subst hk;exact⟨.inl (.inr rfl),.inr (by omega)⟩)) (fun k hk=>by rcases hk with (h | h) | h;exact hus k h;omega;omega) (fun k hk => .inl hk)) ((World.putObj_heap_other (by omega)).trans h4)
end
open Go.RowKit
def wK (P:Program) (gf:FuncId) (lb:Array Value) (n:Nat) (A:Nat→(Nat→Prop)→Array Value→World→Prop) (U0 V:Nat→Prop) (Pre:World→Prop) (w:World):Prop :=
 ∀ (l:Nat) (J Jx:Nat→(Nat→Prop)→World→Prop) (W:World),ae (fun k=>¬ U0 k) w W→Pre W→pO W.heap.size V J→pO W.heap.size V Jx →
  (∀ i U args W1,i<n→J i U W1→A i U args W1→(∀ k,U k→k<W1.heap.size)→W.heap.size≤W1.heap.size→J i (fun k=>U k∨iR args k) W1→(∀ k,iR args k→k<W1.heap.size)→JI P l args W1 fun e W' =>
   (e = .returned (.bool true)∧J (i+1) U W'∧ae (fun k=>¬ U k) W1 W')∨(e = .returned (.bool false)∧Jx (i+1) U W'∧ae (fun k=>¬ U k) W1 W')) →
  J 0 U0 W →
  Calls P gf (#[.func (.yield l) #[] #[]] ++ lb) W fun e W'=>(∃ v,e = .returned v)∧((∃ U,J n U W'∧∀ k,U k→k<W'.heap.size)∨(∃ i U,i<n∧Jx (i+1) U W'∧∀ k,U k→k<W'.heap.size))
theorem wK.at {P:Program}{gf:FuncId}{lb:Array Value}{n:Nat}{A:Nat→(Nat→Prop)→Array Value→World→Prop}{U0 V:Nat→Prop}{w w':World}{Pre:World→Prop} (h:wK P gf lb n A U0 V Pre w) (hm:ae (fun k=>¬ U0 k) w w'):wK P gf lb n A U0 V Pre w':=fun l J Jx W h1 hp=>h l J Jx W (hm.trans h1 (fun _ _ x=>x) (fun _ _ x=>x)) hp
section
variable {P:Program}{r:Option Nat}
theorem FH {g:Operand}{ps:Array Tmp}{assign body:Code}{Q:Exit→Act→World→Prop}{a:Act}{w:World}{gf:FuncId}{lb:Array Value} (hg:a.eval g = .func (.func gf) #[] lb) (eg:∀ args w,(callFunc gf args).run P w = .ok (.enter gf args) w)
  {n:Nat}{A:Nat→(Nat→Prop)→Array Value→World→Prop}{U0 V:Nat→Prop}{Pre:World→Prop}{w0:World} (it:wK P gf lb n A U0 V Pre w0) (hpre:∀ A B,Pre A→ae ai A B→Pre B) (hp0:Pre w) (h0:ae (fun k=>¬ U0 k) w0 w) (hU:∀ k,U0 k→k<w.heap.size) (hA:vP A) (hps:∀ i U args W,A i U args W→args.size=ps.size)
  (I:Nat→(Nat→Prop)→World→Prop) (Ix:Code→Nat→(Nat→Prop)→World→Prop) (hI:pO w.heap.size V I) (hIx:∀ c,pO w.heap.size V (Ix c)) (hs:I 0 U0 w)
  (hround:∀ l i U args W,w.heap.size≤l→U l→i<n→I i U W→A i U args W→(∀ k,U k→k<W.heap.size)→w.heap.size≤W.heap.size→(∃ r,W.heap[l]?=some (.loop r))→I i (fun k=>U k∨iR args k) W→(∀ k,iR args k→k<W.heap.size) →
   assign.wpIn (WF (some l)) 3 P (Exit.then (fun a1 W1=>ae (fun k=>¬ U k) W W1∧∀ W2,ae (fun k=>k=l) W1 W2→(∃ r,W2.heap[l]?=some (.loop r))→body.wpIn (WF (some l)) 3 P (EP I Ix U i W2) a1 W2) (fun _ _ _=>False))
    { tmps:=jF ps.toList args.toList a.tmps,defers:=[] } W)
  (hdone:∀ D U W,w.heap.size≤D→U D→(∀ k,U k→k<W.heap.size)→I n U W→W.heap[D]?=some (.deferred (some []))→Q .normal { a with defers:={ target := .collected D,args:=#[] } :: a.defers } W)
  (hstop:∀ D c i U W,w.heap.size≤D→U D→(∀ k,U k→k<W.heap.size)→i<n→Ix c (i+1) U W→W.heap[D]?=some (.deferred (some []))→c.wpIn (WF none) 3 P Q { a with defers:={ target := .collected D,args:=#[] } :: a.defers } W) :
  (Code.rangeFunc g ps assign body).wpIn (WF none) 3 P Q a w:=by
 refine wpIn_rangeFunc ?_
 intro fn hfn
 obtain⟨rec,hrec⟩:∃ rec:LoopState→Option Code→Loop,rec=fun st pe=>{ state:=st,pending:=pe,fn,tmps:=a.tmps,params:=ps,assign,body,defers:=w.heap.size }:=⟨_,rfl⟩
 obtain⟨W1,hW1⟩:∃ W1,(w.alloc (.deferred (some []))).alloc (.loop (rec .ready none))=W1:=⟨_,rfl⟩
 have hm1:ae ai w W1:=by rw [← hW1];exact ((ae.refl ai w).alloc _).alloc _
 have hsz:W1.heap.size=w.heap.size+2:=by rw [← hW1];simp
 have hL1:W1.heap[w.heap.size+1]?=some (.loop (rec .ready none)):=by
  rw [← hW1];have:=World.alloc_heap_new (w.alloc (.deferred (some []))) (.loop (rec .ready none));rwa [World.size_alloc] at this
 have hK1:W1.heap[w.heap.size]?=some (.deferred (some [])):=by
  rw [← hW1];exact dA (aF w _) _
 obtain⟨l,hl⟩:∃ l,l=w.heap.size+1:=⟨_,rfl⟩
 obtain⟨D,hD⟩:∃ D,D=w.heap.size:=⟨_,rfl⟩
 rw [← hl] at hL1
 rw [← hD] at hK1
 have hw1:ae (fun k=>¬ U0 k) w0 W1:=h0.trans hm1 (fun _ _ x=>x) (fun _ _ x=>x.elim)
 have hUD:∀ (U:Nat→Prop) k,(U k∨k=l)∨k=D↔U k∨k=l∨k=D:=fun U k=>by rw [or_assoc]
 refine⟨l,[{ target := .collected D,args:=#[] }],W1,{ target := .fn (.func gf) lb,args:=#[.func (.yield l) #[] #[]] },W1,gf,#[.func (.yield l) #[] #[]] ++ lb,W1,?_,?_,?_,?_,fun h=>by simp [Fence.wide] at h,?_⟩
 ·rw [← hW1,hrec,hl,hD];exact run_enterLoop_outer _ _ _ _ _
 ·simp only [resolve,hg]
  simp [go_sem]
 ·intro f' hf';trivial
 ·simp [invoke,go_sem,eg]
 ·refine qY.2 ((it l (fun i U W=>I i (fun k=>(U k∨k=l)∨k=D) W∧¬ U l∧¬ U D∧W.heap[l]?=some (.loop (rec .ready none))∧W.heap[D]?=some (.deferred (some [])))
   (fun i U W=>∃ c,Ix c i (fun k=>(U k∨k=l)∨k=D) W∧¬ U l∧¬ U D∧W.heap[l]?=some (.loop (rec .done (some c)))∧W.heap[D]?=some (.deferred (some [])))
   W1 hw1 (hpre _ _ hp0 hm1) ?_ ?_ ?_ ⟨hI _ _ _ _ _ hs (hm1.mono (fun _ _ x=>x.elim)) hU (fun k hk=>by rcases hk with (h | h) | h;exact .inl h;exact .inr (by omega);exact .inr (by omega)),fun h=>by have:=hU l h;omega,fun h=>by have:=hU D h;omega,hL1,hK1⟩).mono ?_)
  ·rintro i U U' X Y ⟨hi,h1,h2,h3,h4⟩ hm hus hsub
   have hlX:=lt_of_heap h3
   have hDX:=lt_of_heap h4
   refine⟨hI _ _ _ _ _ hi (hm.mono (fun k _ hk=>⟨.inl (.inl hk.1),hk.2.imp id (fun h=>by omega)⟩)) (fun k hk=>by rcases hk with (h | h) | h;exact hus k h;omega;omega) (fun k hk=>by
    rcases hk with (h | h) | h
    ·exact (hsub k h).imp (fun x => .inl (.inl x)) id
    ·exact .inl (.inl (.inr h))
    ·exact .inl (.inr h)),fun h=>by rcases hsub l h with h | h;exact h1 h;omega,fun h=>by rcases hsub D h with h | h;exact h2 h;omega,(hm.block l hlX (fun hk=>h1 hk.1)).trans h3,(hm.block D hDX (fun hk=>h2 hk.1)).trans h4⟩
  ·rintro i U U' X Y ⟨c,hi,h1,h2,h3,h4⟩ hm hus hsub
   have hlX:=lt_of_heap h3
   have hDX:=lt_of_heap h4
   refine⟨c,hIx c _ _ _ _ _ hi (hm.mono (fun k _ hk=>⟨.inl (.inl hk.1),hk.2.imp id (fun h=>by omega)⟩)) (fun k hk=>by rcases hk with (h | h) | h;exact hus k h;omega;omega) (fun k hk=>by
    rcases hk with (h | h) | h
    ·exact (hsub k h).imp (fun x => .inl (.inl x)) id
    ·exact .inl (.inl (.inr h))
    ·exact .inl (.inr h)),fun h=>by rcases hsub l h with h | h;exact h1 h;omega,fun h=>by rcases hsub D h with h | h;exact h2 h;omega,(hm.block l hlX (fun hk=>h1 hk.1)).trans h3,(hm.block D hDX (fun hk=>h2 hk.1)).trans h4⟩
  ·rintro i U args W hin ⟨hi,h1,h2,h3,h4⟩ hargs hus hge ⟨hi',_,_,_,_⟩ hab
   have hlW:=lt_of_heap h3
   have hDW:=lt_of_heap h4
   have hA2:=hA _ _ _ _ D _ (hA _ _ _ _ l _ hargs h3 rfl) h4 rfl
   have hus2:∀ k,((U k∨k=l)∨k=D)→k<W.heap.size:=fun k hk=>by rcases hk with (h | h) | h;exact hus k h;omega;omega
   refine Ak (base:=w.heap.size) (V:=V) (U:=fun k=>(U k∨k=l)∨k=D) (i:=i) hrec hI hIx h3 (hps _ _ _ _ hargs) (by omega) (.inl (.inr rfl)) hus2 (hround l i _ args W (by omega) (.inl (.inr rfl)) hin hi hA2 hus2 (by omega) ⟨_,h3⟩
    (hI _ _ _ _ _ hi' (ae.refl _ _) (fun k hk=>by rcases hk with ((h | h) | h) | h;exact hus k h;exact hab k h;omega;omega) (fun k hk=>by rcases hk with ((h | h) | h) | h;exact .inl (.inl (.inl (.inl h)));exact .inl (.inl (.inr h));exact .inl (.inr h);exact .inl (.inl (.inl (.inr h))))) hab) _ ?_ ?_
   ·intro W' hi' hm' hl'
    have hD':W'.heap[D]?=some (.deferred (some [])):=(hm'.block D hDW (fun hk=>by rcases hk with hk | hk;exact hk (.inr rfl);omega)).trans h4
    exact .inl ⟨rfl,⟨hi',h1,h2,hl',hD'⟩,hm'.mono (fun k _ hk hu=>by rcases hk with hk | hk;exact hk (.inl (.inl hu));exact h1 (hk▸hu))⟩
   ·intro c W' hi' hm' hl'
    have hD':W'.heap[D]?=some (.deferred (some [])):=(hm'.block D hDW (fun hk=>by rcases hk with hk | hk;exact hk (.inr rfl);omega)).trans h4
    exact .inr ⟨rfl,⟨c,hi',h1,h2,hl',hD'⟩,hm'.mono (fun k _ hk hu=>by rcases hk with hk | hk;exact hk (.inl (.inl hu));exact h1 (hk▸hu))⟩
  ·rintro e W2 ⟨⟨v,rfl⟩,(⟨U,⟨hi,h1,h2,h3,h4⟩,hus⟩ | ⟨i,U,hin,⟨c,hi,h1,h2,h3,h4⟩,hus⟩)⟩
   ·refine⟨none,_,by have:=run_endLoop (P:=P) h3 (by rw [hrec];simp);rw [hrec] at this;exact this,?_⟩
    have hlW:=lt_of_heap h3
    have hDW:=lt_of_heap h4
    exact hdone D (fun k=>(U k∨k=l)∨k=D) _ (by omega) (.inr rfl) (fun k hk=>by rw [World.putObj_size];rcases hk with (h | h) | h;exact hus k h;omega;omega) (hI _ _ _ _ _ hi ((fA W2 l _).mono (fun k _ hk=>by subst hk;exact⟨.inl (.inr rfl),.inr (by omega)⟩)) (fun k hk=>by rcases hk with (h | h) | h;exact hus k h;omega;omega) (fun k hk => .inl hk)) ((World.putObj_heap_other (by omega)).trans h4)
   ·refine⟨some c,_,by have:=run_endLoop (P:=P) h3 (by rw [hrec];simp);rw [hrec] at this;exact this,?_⟩
    have hlW:=lt_of_heap h3
    have hDW:=lt_of_heap h4
    exact hstop D c i (fun k=>(U k∨k=l)∨k=D) _ (by omega) (.inr rfl) (fun k hk=>by rw [World.putObj_size];rcases hk with (h | h) | h;exact hus k h;omega;omega) hin (hIx c _ _ _ _ _ hi ((fA W2 l _).mono (fun k _ hk=>by subst hk;exact⟨.inl (.inr rfl),.inr (by omega)⟩)) (fun k hk=>by rcases hk with (h | h) | h;exact hus k h;omega;omega) (fun k hk => .inl hk)) ((World.putObj_heap_other (by omega)).trans h4)
end
end Go.Gl
namespace Go.Proofs.YtglkmaalpammcaaGreat
open Go.Gl Go.RowKit
def tickR (sg:Nat) (A B:World):Prop:=∃ c:Int,A.cell? ⟨sg,2,none⟩=some (.int .i64 c)∧B=A.setCell ⟨sg,2,none⟩ (.int .i64 (c+1))
def Hg (sg:Nat) (A:World):Prop:=∃ c:Int,A.cell? ⟨sg,2,none⟩=some (.int .i64 c)∧A.frozen? ⟨sg,2,none⟩=false ∧ -9223372036854775808≤c+1∧c+1≤9223372036854775807
theorem tickR.mods {sg:Nat}{A B:World} (h:tickR sg A B):ae (fun k=>k=sg) A B:=by
 obtain⟨c,_,rfl⟩:=h
 exact (ae.refl (fun k=>k=sg) A).setCell (p:=⟨sg,2,none⟩) (.inl rfl) _
theorem GR {sg:Nat}{A:World} (h:Hg sg A):Calls Tryz.prog 149 #[.pointer (some ⟨sg,2,none⟩),.int .i64 1] A fun e B=>∃ v,e = .returned v∧tickR sg A B:=by
 obtain⟨c,h1,h2,h3,h4⟩:=h
 exact (I8 h1 h2 h3 h4).mono (fun e B ⟨a,b⟩=>⟨_,a,c,h1,b⟩)
def Ah (bs bw by1:Nat) (U:Nat→Prop) (k:Nat):Prop:=U k∨k=bs∨k=bw∨k=by1
theorem FU {w:World}{sg bs bw gf B:Nat}{lb:Array Value}{L:List EV}{Ui:Nat→Prop}{t1 t2:TypeId}{Pre Ok:World→Prop} (it:wK Tryz.prog gf lb L.length (yl B L) Ui ai Pre w) (hpm:∀ A B,Pre A→ae ai A B→Pre B) (hOk:∀ A,Ok A→Hg sg A) (hPre:∀ A C,Ok A→tickR sg A C→Pre C) (eg:∀ args w,(callFunc gf args).run Tryz.prog w = .ok (.enter gf args) w)
  (hbs:w.heap[bs]?=some (.cells #[.pointer (some ⟨sg,0,none⟩)] t1 (0,0))) (hbw:w.heap[bw]?=some (.cells #[.func (.func gf) #[] lb] t2 (0,0))) (hUi:∀ k,Ui k→k<w.heap.size) (hsg:sg<w.heap.size) (n1:¬ Ui bs) (n2:¬ Ui bw) (n3:¬ Ui sg) (n4:bs≠sg) (n5:bw≠sg) :
  xI Tryz.prog 244 #[.pointer (some ⟨bs,0,none⟩),.pointer (some ⟨bw,0,none⟩)] L.length (yl B L) (fun k=>Ui k∨k=bs∨k=bw) (tickR sg) Ok w:=by
 intro l K J Jt Jx W hW hK hJ hJt hJx tk0 tk1 hY h0
 have hwW:w.heap.size≤W.heap.size:=hW.size
 have hbsW:=hW.heap hbs (fun x=>x (.inr (.inl rfl)))
 have hbwW:=hW.heap hbw (fun x=>x (.inr (.inr rfl)))
 have hbsl:=lt_of_heap hbs
 have hbwl:=lt_of_heap hbw
 have hU0:∀ k,(Ui k∨k=bs∨k=bw)→k<W.heap.size:=fun k hk=>by
  rcases hk with hk | rfl | rfl
  ·have:=hUi k hk;omega
  ·omega
  ·omega
 clear hbs hbw
 (refine lG _ Tryz.func244 rfl ?_;simp only [Tryz.ntmps244,List.size_toArray,List.length_cons,List.length_nil,Nat.reduceAdd,Nat.reduceSub,Array.replicate_succ,Array.replicate_zero,List.push_toArray,List.append_toArray,List.nil_append,List.cons_append])
 refine wpIn_seq ?_
 refine bW (d := .region 0 (aH 0 Tryz.f244) false) (by kernel_rfl) ?_
 refine RW.wpIn (kci0 ?_) (by kernel_rfl)
 intro by1 w1 hby hbO m1
 refine bP ?_
 have hK1:K 0 (Ah bs bw by1 Ui) w1:=hK _ _ _ _ _ h0 (m1.mono (fun _ _ x=>x.elim)) hU0 (fun k hk=>by
  rcases hk with hk | rfl | rfl | rfl
  ·exact .inl (.inl hk)
  ·exact .inl (.inr (.inl rfl))
  ·exact .inl (.inr (.inr rfl))
  ·exact .inr (by omega))
 obtain⟨ok0,tj0⟩:=tk0 _ _ hK1
 refine wpIn_seq ?_
 refine bW (d := .region 1 (aH 1 Tryz.f244) false) (by kernel_rfl) ?_
 refine RW.wpIn (zY (af (m1.heap hbsW (fun x=>x)) 0) (GR (hOk _ ok0)) ?_) (by kernel_rfl)
 intros
 rename_i w2 hτ0
 refine bP ?_
 have hJ0:=tj0 _ hτ0
 have m2:=hτ0.mods
 have hs1:=m1.size
 have hs2:=m2.size
 have hbs2:=m2.heap (m1.heap hbsW (fun x=>x)) (fun e=>n4 e)
 have hbw2:=m2.heap (m1.heap hbwW (fun x=>x)) (fun e=>n5 e)
 have hby2:=m2.heap hbO (fun e=>by omega)
 have hby2l:=lt_of_heap hby2
 have m02:ae (fun k=>¬ Ui k) w w2:=((hW.mono (fun k _ hk x=>hk (.inl x))).trans m1 (U:=fun k=>¬ Ui k) (fun _ _ x=>x) (fun _ _ x=>x.elim)).trans m2 (fun _ _ x=>x) (fun k _ hk x=>n3 (hk▸x))
 have itW:=it.at m02
 have hpW:=hPre _ _ ok0 hτ0
 clear hK1 ok0 tj0 hbsW hbwW hbO
 refine wpIn_seq ?_
 refine bW (d := .region 2 (aH 2 Tryz.f244) false) (by kernel_rfl) ?_
 refine RW.wpIn (zZ (af hbw2 0) ?_) (by kernel_rfl)
 intros
 rename_i w2' e2
 subst e2
 refine bP ?_
 have frm:∀ (X:Nat→(Nat→Prop)→World→Prop),pO W.heap.size ai X→∀ i U U' A B,X i (Ah bs bw by1 U) A→w2'.heap.size≤A.heap.size→ae (fun k=>U k∧(ai k∨w2'.heap.size≤k)) A B→(∀ k,U k→k<A.heap.size)→(∀ k,U' k→U k∨A.heap.size≤k)→X i (Ah bs bw by1 U') B:=fun X hX i U U' A B hx hsz hm hus hsub=>by
  refine hX _ _ _ _ _ hx (hm.mono (fun k _ hk=>⟨.inl hk.1,hk.2.imp id (fun h=>by omega)⟩)) (fun k hk=>?_) (fun k hk=>?_)
  ·rcases hk with hk | rfl | rfl | rfl
   ·exact hus k hk
   ·omega
   ·omega
   ·omega
  ·rcases hk with hk | hk
   ·exact (hsub k hk).imp .inl id
   ·exact .inl (.inr hk)
 have keep2:∀ (U:Nat→Prop) (A B:World),ae (fun k=>U k∧(ai k∨w2'.heap.size≤k)) A B→A.heap[bs]?=some (.cells #[.pointer (some ⟨sg,0,none⟩)] t1 (0,0))∧A.heap[by1]?=some (.cells #[.func (.yield l) #[] #[]] 150 (0,0))→B.heap[bs]?=some (.cells #[.pointer (some ⟨sg,0,none⟩)] t1 (0,0))∧B.heap[by1]?=some (.cells #[.func (.yield l) #[] #[]] 150 (0,0)):=fun U A B hm hp=>by
  refine⟨hm.heap hp.1 (fun hk=>?_),hm.heap hp.2 (fun hk=>?_)⟩
  ·rcases hk.2 with h | h
   ·exact h
   ·omega
  ·rcases hk.2 with h | h
   ·exact h
   ·omega
 refine wpIn_block ?_
 refine FH (by rfl) eg itW hpm hpW (ae.refl _ _) (fun k hk=>by have:=hUi k hk;omega) (wR B L) (fun i U args W1 hA=>by obtain⟨e,kv,vv,_,rfl,_⟩:=hA;rfl)
  (fun i U Wr=>i≤L.length∧J i (Ah bs bw by1 U) Wr∧(Wr.heap[bs]?=some (.cells #[.pointer (some ⟨sg,0,none⟩)] t1 (0,0))∧Wr.heap[by1]?=some (.cells #[.func (.yield l) #[] #[]] 150 (0,0)))∧(¬ U bs∧¬ U bw∧¬ U by1∧¬ U sg)∧w2'.heap.size≤Wr.heap.size)
  (fun c i U Wr=>c = .ret∧Jx i (Ah bs bw by1 U) Wr∧w2'.heap.size≤Wr.heap.size)
  ?_ ?_ ⟨Nat.zero_le _,hJ0,⟨hbs2,hby2⟩,⟨n1,n2,fun x=>by have:=hUi _ x;omega,n3⟩,Nat.le_refl _⟩ ?_ ?_ ?_
 ·rintro i U U' A B ⟨h1,h2,h3,⟨k1,k2,k3,k4⟩,h4⟩ hm hus hsub
  refine⟨h1,frm J hJ _ _ _ _ _ h2 h4 hm hus hsub,keep2 U _ _ hm h3,⟨fun x=>?_,fun x=>?_,fun x=>?_,fun x=>?_⟩,Nat.le_trans h4 hm.size⟩
  ·rcases hsub _ x with y | y
   ·exact k1 y
   ·omega
  ·rcases hsub _ x with y | y
   ·exact k2 y
   ·omega
  ·rcases hsub _ x with y | y
   ·exact k3 y
   ·omega
  ·rcases hsub _ x with y | y
   ·exact k4 y
   ·omega
 ·rintro c i U U' A B ⟨h1,h2,h4⟩ hm hus hsub
  exact⟨h1,frm Jx hJx _ _ _ _ _ h2 h4 hm hus hsub,Nat.le_trans h4 hm.size⟩
 ·-- one round
  intro lp i U args Wr hlp hUlp hi ⟨hin,hJi,hinv,⟨k1,k2,k3,k4⟩,hszr⟩ hA hUs hszW hloop ⟨_,hJa,_,⟨a1,a2,a3,a4⟩,_⟩ hab
  obtain⟨e,kv,vv,hei,hargs,o1,o2,u1,u2,dd,b1,b2⟩:=hA
  subst hargs
  simp only [jF,List.setIfInBounds_toArray,List.set_cons_succ,List.set_cons_zero]
  refine wpIn_seq ?_
  refine bW (d := .region 3 (aH 3 Tryz.f244) false) (by kernel_rfl) ?_
  refine RW.wpIn (Fz ?_) (by kernel_rfl)
  intro w3 e3
  subst e3
  refine bP ?_
  refine bW (d := .region 4 (aH 4 Tryz.f244) false) (by kernel_rfl) ?_
  refine RW.wpIn (Il ?_) (by kernel_rfl)
  intro w3 e3
  subst e3
  refine bP ?_
  refine⟨ae.refl _ _,?_⟩
  intro w4 m4 _
  have hkl:ae (fun k=>U k∧(ai k∨w2'.heap.size≤k)) w3 w4:=m4.mono (fun k _ hk=>by subst hk;exact⟨hUlp,.inr hlp⟩)
  have hkl2:ae (fun k=>(U k∨iR #[kv,vv] k)∧(ai k∨w2'.heap.size≤k)) w3 w4:=m4.mono (fun k _ hk=>by subst hk;exact⟨.inl hUlp,.inr hlp⟩)
  obtain⟨hbs4,hby4⟩:=keep2 U _ _ hkl hinv
  have hJ4:=frm J hJ _ _ _ _ _ hJi hszr hkl hUs (fun k hk => .inl hk)
  have hJa4:=frm J hJ _ _ _ _ _ hJa hszr hkl2 (fun k hk=>by rcases hk with hk | hk;exact hUs k hk;exact hab k hk) (fun k hk => .inl hk)
  have hsz4:=Nat.le_trans hszr m4.size
  have hUs4:∀ k,U k→k<w4.heap.size:=fun k hk=>Nat.lt_of_lt_of_le (hUs k hk) m4.size
  have hUo4:∀ k,Ah bs bw by1 U k→k<w4.heap.size:=fun k hk=>by
   rcases hk with hk | rfl | rfl | rfl
   ·exact hUs4 k hk
   ·omega
   ·omega
   ·omega
  have akv:∀ k,kv.ownBlock=some k→iR #[kv,vv] k:=fun k hk=>⟨kv,by simp,hk⟩
  have avv:∀ k,vv.ownBlock=some k→iR #[kv,vv] k:=fun k hk=>⟨vv,by simp,hk⟩
  have o14:=o1.keep m4 (fun k hk x=>u1 k hk (x▸hUlp))
  have o24:=o2.keep m4 (fun k hk x=>u2 k hk (x▸hUlp))
  have hab4:∀ k,iR #[kv,vv] k→k<w4.heap.size:=fun k hk=>Nat.lt_of_lt_of_le (hab k hk) m4.size
  have hJb4:J i (fun k=>Ah bs bw by1 U k∨iR #[kv,vv] k) w4:=hJ _ _ _ _ _ hJa4 (ae.refl _ _) (fun k hk=>by
   rcases hk with (hk | hk) | hk | hk | hk
   ·exact hUs4 k hk
   ·exact hab4 k hk
   ·subst hk;omega
   ·subst hk;omega
   ·subst hk;omega) (fun k hk=>by
   rcases hk with (hk | hk) | hk
   ·exact .inl (.inl (.inl hk))
   ·exact .inl (.inr hk)
   ·exact .inl (.inl (.inr hk)))
  obtain⟨ok4,tj4⟩:=tk1 i _ _ hi hJ4
  obtain⟨_,tb4⟩:=tk1 i _ _ hi hJb4
  clear hJi hinv hkl hkl2 hJa hJa4
  refine wpIn_block ?_
  refine wpIn_seq ?_
  refine bW (d := .region 5 (aH 5 Tryz.f244) false) (by kernel_rfl) ?_
  refine RW.wpIn (Gz (af hbs4 0) (GR (hOk _ ok4)) ?_) (by kernel_rfl)
  intros
  rename_i w5 hτ
  refine bP ?_
  have m5:=hτ.mods
  have hby5:=m5.heap hby4 (fun e=>by omega)
  have hbs5:=m5.heap hbs4 (fun e=>n4 e)
  have o15:=o14.keep m5 (fun k hk x=>a4 (.inr (x▸akv k hk)))
  have o25:=o24.keep m5 (fun k hk x=>a4 (.inr (x▸avv k hk)))
  refine wpIn_seq ?_
  refine bW (d := .region 6 (aH 6 Tryz.f244) false) (by kernel_rfl) ?_
  refine jk (Q1:=fun _ a' w'=>wpOpsIn _ _ _ _ _ _ a' w') 3 (by kernel_rfl) (H7 (l:=l) (af hby5 0) ?_) (fun _ _ h=>h)
  intros
  rename_i w5' e5
  subst e5
  refine kV (some 20) (ki (by kernel_rfl)) (by kernel_rfl) (by kernel_rfl) (hY i (Ah bs bw by1 U) #[kv,vv] w5' hi (tj4 _ hτ) ⟨e,kv,vv,hei,rfl,o15,o25,fun k hk x=>?_,fun k hk x=>?_,dd,b1,b2⟩ (fun k hk=>Nat.lt_of_lt_of_le (hUo4 k hk) m5.size) (by have:=m5.size;omega) (tb4 _ hτ) (fun k hk=>Nat.lt_of_lt_of_le (hab4 k hk) m5.size)) ?_
  ·rcases x with x | x | x | x
   ·exact u1 k hk x
   ·exact a1 (.inr (x▸akv k hk))
   ·exact a2 (.inr (x▸akv k hk))
   ·exact a3 (.inr (x▸akv k hk))
  ·rcases x with x | x | x | x
   ·exact u2 k hk x
   ·exact a1 (.inr (x▸avv k hk))
   ·exact a2 (.inr (x▸avv k hk))
   ·exact a3 (.inr (x▸avv k hk))
  rintro r w6 (⟨rfl,k1',k2'⟩ | ⟨rfl,k1',k2'⟩)
  ·have m46:ae (fun k=>¬ U k) w4 w6:=m5.trans k2' (fun k _ hk x=>k4 (hk▸x)) (fun k _ hk x=>hk (.inl x))
   refine⟨_,rfl,?_⟩
   refine fZ (.bool false) (some 21) (ki (by kernel_rfl)) (by kernel_rfl) (by kernel_rfl) ?_
   refine bP ?_
   refine wpIn_cond_false rfl ?_
   refine wpIn_skip ?_
   refine jh ?_
   exact⟨m46,hi,k1',⟨k2'.heap hbs5 (fun x=>x (.inr (.inl rfl))),k2'.heap hby5 (fun x=>x (.inr (.inr (.inr rfl))))⟩,⟨k1,k2,k3,k4⟩,Nat.le_trans hsz4 m46.size⟩
  ·have m46:ae (fun k=>¬ U k) w4 w6:=m5.trans k2' (fun k _ hk x=>k4 (hk▸x)) (fun k _ hk x=>hk (.inl x))
   refine⟨_,rfl,?_⟩
   refine fZ (.bool true) (some 21) (ki (by kernel_rfl)) (by kernel_rfl) (by kernel_rfl) ?_
   refine bP ?_
   refine wpIn_cond_true rfl ?_
   refine wpIn_ret ?_
   repeat (first | refine sU ?_ | refine kU ?_)
   exact⟨m46,rfl,k1',Nat.le_trans hsz4 m46.size⟩
 ·-- all have come
  rintro D U W5 hD hUD hus ⟨h1,h2,h3,h5,h4⟩ hdef
  refine jh ?_
  refine iF hdef (results_none rfl _ _ _) ?_
  refine⟨⟨_,rfl⟩,.inl ⟨Ah bs bw by1 U,frm J hJ _ _ _ _ _ h2 h4 ((fA W5 D _).mono (fun k _ hk=>by subst hk;exact⟨hUD,.inr hD⟩)) hus (fun k hk => .inl hk),fun k hk=>?_⟩⟩
  rw [World.putObj_size]
  rcases hk with hk | rfl | rfl | rfl
  ·exact hus k hk
  ·omega
  ·omega
  ·omega
 ·-- a round has left
  rintro D c i U W5 hD hUD hus hi ⟨rfl,h2,h4⟩ hdef
  refine wpIn_ret ?_
  refine kU ?_
  refine iF hdef (results_none rfl _ _ _) ?_
  refine⟨⟨_,rfl⟩,.inr ⟨i,Ah bs bw by1 U,hi,frm Jx hJx _ _ _ _ _ h2 h4 ((fA W5 D _).mono (fun k _ hk=>by subst hk;exact⟨hUD,.inr hD⟩)) hus (fun k hk => .inl hk),fun k hk=>?_⟩⟩
  rw [World.putObj_size]
  rcases hk with hk | rfl | rfl | rfl
  ·exact hus k hk
  ·omega
  ·omega
  ·omega
open Go.Gl Go.RowKit
structure rV (w:World) (sg mg:Nat) (vo:Value) (R:List PV) (bs bp:Nat) (pv:Value) (xs:List UInt8):Prop where
 pm:PM w mg vo R
 bs:w.heap[bs]?=some (.cells #[.pointer (some ⟨sg,0,none⟩)] 26 (0,0))
 bp:w.heap[bp]?=some (.cells #[pv] 91 (0,0))
 pv:Gl.Own w pv xs
def UPx (mg:Nat) (vo:Value) (R:List PV) (bs bp:Nat) (pv:Value) (k:Nat):Prop:=MS mg vo R k∨MD R k∨k=bs∨k=bp∨pv.ownBlock=some k
theorem rV.keep {w w':World}{sg mg:Nat}{vo:Value}{R:List PV}{bs bp:Nat}{pv:Value}{xs:List UInt8} (h:rV w sg mg vo R bs bp pv xs) (hm:ae (fun k=>¬ UPx mg vo R bs bp pv k) w w'):rV w' sg mg vo R bs bp pv xs :=
 ⟨h.pm.keep hm (fun k hk x=>x (.inl hk)) (fun k hk x=>x (.inr (.inl hk))),hm.heap h.bs (fun x=>x (.inr (.inr (.inl rfl)))),hm.heap h.bp (fun x=>x (.inr (.inr (.inr (.inl rfl))))),h.pv.keep hm (fun k hk x=>x (.inr (.inr (.inr (.inr hk)))))⟩
theorem rV.lt {w:World}{sg mg:Nat}{vo:Value}{R:List PV}{bs bp:Nat}{pv:Value}{xs:List UInt8} (h:rV w sg mg vo R bs bp pv xs):∀ k,UPx mg vo R bs bp pv k→k<w.heap.size:=by
 rintro k (hk | hk | rfl | rfl | hk)
 ·exact h.pm.lt k hk
 ·exact h.pm.dlt k hk
 ·exact lt_of_heap h.bs
 ·exact lt_of_heap h.bp
 ·exact h.pv.lt k hk
def Ii (sg mg:Nat) (W:World):Prop:=W.cell? ⟨sg,0,none⟩=some (.pointer (some ⟨mg,0,none⟩))∧sg<W.heap.size
theorem Ii.keep {sg mg:Nat}{A B:World} (h:Ii sg mg A) (hm:ae ai A B):Ii sg mg B:=⟨(hm.cellAt h.2 (fun x=>x) 0).trans h.1,Nat.lt_of_lt_of_le h.2 hm.size⟩
def sK (R:List PV) (xs:List UInt8):List EV:=(lU R xs []).takeWhile (fun e=>dh xs e.k)
theorem Iw {w:World}{sg mg:Nat}{vo:Value}{R:List PV}{bs bp:Nat}{pv:Value}{xs:List UInt8} (h:rV w sg mg vo R bs bp pv xs) (ok:gY (aI R)) (hn:R.length≤1000000) (lx:xs.length≤1000000) :
  wK Tryz.prog 193 #[.pointer (some ⟨bs,0,none⟩),.pointer (some ⟨bp,0,none⟩)] (sK R xs).length (yl w.heap.size (sK R xs)) (UPx mg vo R bs bp pv) ai (Ii sg mg) w:=by
 intro l J Jx W hW hP hJ hJx hY h0
 have pre:=h.keep hW
 have hwW:w.heap.size≤W.heap.size:=hW.size
 clear h hW
 obtain⟨apv,cpv,hpv,_⟩:=pre.pv.rd.form
 obtain⟨UW,hUW⟩:∃ UW,UPx mg vo R bs bp pv=UW:=⟨_,rfl⟩
 rw [hUW] at h0
 have hUl:∀ k,UW k→k<W.heap.size:=fun k hk=>by rw [← hUW] at hk;exact pre.lt k hk
 have keepP:∀ A B,rV A sg mg vo R bs bp pv xs→ae (fun k=>¬ UW k) A B→rV B sg mg vo R bs bp pv xs:=fun A B hp hm=>hp.keep (by rw [hUW];exact hm)
 have SW:=lh hUW
 (refine lG _ Tryz.func193 rfl ?_;simp only [Tryz.ntmps193,List.size_toArray,List.length_cons,List.length_nil,Nat.reduceAdd,Nat.reduceSub,Array.replicate_succ,Array.replicate_zero,List.push_toArray,List.append_toArray,List.nil_append,List.cons_append])
 refine wpIn_seq ?_
 refine bW (d := .region 0 (aH 0 Tryz.f193) false) (by kernel_rfl) ?_
 refine RW.wpIn (kp0 ?_) (by kernel_rfl)
 intro by1 w1 hby hbO m1
 refine bP ?_
 have pre1:=keepP _ _ pre (m1.mono (fun _ _ x=>x.elim))
 have hP1:=hP.keep m1
 refine wpIn_seq ?_
 refine bW (d := .region 1 (aH 1 Tryz.f193) true) (by kernel_rfl) ?_
 refine RW.wpIn (kp1 (X:=fun m bf bt w'=>∃ fv' tv',∃ b',ae ai w1 b'∧J3 b' mg vo R xs [] m bf bt fv' tv' w') pre1.bs pre1.bp hP1.1 hP1.2 (fun b' hm=>(F5 (pre1.pm.keep0 hm) (pre1.pv.rd.keep hm (fun _ _ x=>x)) (Rd.nil b') lx (by simp)).mono (fun e w' ⟨m,bf,bt,fv',tv',he,hr⟩=>⟨m,bf,bt,he,fv',tv',b',hm,hr⟩)) ?_) (by kernel_rfl)
 intros
 rename_i m bf bt w2 hres
 obtain⟨fv,tv,b',mb,wp,mr,s1,s2,s3,f1,f2⟩:=hres
 refine bP ?_
 have m2:=mb.then0 mr
 have m12:=m1.then0 m2
 have pre2:=keepP _ _ pre (m12.mono (fun _ _ x=>x.elim))
 have hbO2:=m2.heap hbO (fun x=>x)
 have hby2:by1<w2.heap.size:=lt_of_heap hbO2
 have hs12:W.heap.size≤w2.heap.size:=m12.size
 have hsb:W.heap.size≤b'.heap.size:=(m1.then0 mb).size
 have hsub0:∀ k,iy UW by1 (Eu mg vo R m bf bt fv tv) k→UW k∨W.heap.size≤k:=fun k hk=>by
  rcases hk with hk | hk | rfl
  ·exact .inl hk
  ·rcases hk with (hk | hk | rfl | rfl | hk) | rfl | hk
   ·exact .inl (by rw [← SW.out];exact .inl hk)
   ·exact .inl (by rw [← SW.out];exact .inr (.inl hk))
   ·right;omega
   ·right;omega
   ·right;have:=f1 k hk;omega
   ·right;omega
   ·right;have:=f2 k hk;omega
  ·right;omega
 have h2:J 0 (iy UW by1 (Eu mg vo R m bf bt fv tv)) w2:=hJ _ _ _ _ _ h0 (m12.mono (fun _ _ x=>x.elim)) hUl hsub0
 have frm:∀ (X:Nat→(Nat→Prop)→World→Prop),pO W.heap.size ai X→∀ i U U' A B,X i (iy UW by1 U) A→w2.heap.size≤A.heap.size→ae (fun k=>U k∧(ai k∨w2.heap.size≤k)) A B→(∀ k,U k→k<A.heap.size)→(∀ k,U' k→U k∨A.heap.size≤k)→X i (iy UW by1 U') B:=fun X hX i U U' A B hx hsz hm hus hsub=>by
  refine hX _ _ _ _ _ hx (hm.mono (fun k _ hk=>⟨.inr (.inl hk.1),hk.2.imp id (fun h=>by omega)⟩)) (fun k hk=>?_) (fun k hk=>?_)
  ·rcases hk with hk | hk | rfl
   ·have:=hUl k hk;omega
   ·exact hus k hk
   ·omega
  ·rcases hk with hk | hk | hk
   ·exact .inl (.inl hk)
   ·exact (hsub k hk).imp (fun h => .inr (.inl h)) id
   ·exact .inl (.inr (.inr hk))
 have keep2:∀ (U:Nat→Prop) (A B:World),ae (fun k=>U k∧(ai k∨w2.heap.size≤k)) A B→rV A sg mg vo R bs bp pv xs∧A.heap[by1]?=some (.cells #[.func (.yield l) #[] #[]] 150 (0,0))→rV B sg mg vo R bs bp pv xs∧B.heap[by1]?=some (.cells #[.func (.yield l) #[] #[]] 150 (0,0)):=fun U A B hm hp=>by
  refine⟨keepP _ _ hp.1 (hm.mono (fun k _ hk hu=>?_)),hm.heap hp.2 (fun hk=>?_)⟩
  ·rcases hk.2 with h | h
   ·exact h
   ·have:=hUl k hu;omega
  ·rcases hk.2 with h | h
   ·exact h
   ·omega
 refine wpIn_block ?_
 refine wW (by rfl) (enters_of Tryz.func159 (by kernel_rfl) rfl) (Eb wp ok hn (by simp)) (ae.refl _ _) wp.lt (wR _ _) (fun i U args W1 hA=>by obtain⟨e,kv,vv,_,rfl,_⟩:=hA;rfl)
  (fun i U Wr=>i≤(sK R xs).length∧J i (iy UW by1 U) Wr∧(rV Wr sg mg vo R bs bp pv xs∧Wr.heap[by1]?=some (.cells #[.func (.yield l) #[] #[]] 150 (0,0)))∧w2.heap.size≤Wr.heap.size)
  (fun c i U Wr=>c = .ret∧((i=(sK R xs).length+1∧J (sK R xs).length (iy UW by1 U) Wr)∨(∃ j,i=j+1∧j<(sK R xs).length∧Jx (j+1) (iy UW by1 U) Wr))∧w2.heap.size≤Wr.heap.size)
  ?_ ?_ ⟨Nat.zero_le _,h2,⟨pre2,hbO2⟩,Nat.le_refl _⟩ ?_ ?_ ?_
 ·rintro i U U' A B ⟨h1,h2,h3,h4⟩ hm hus hsub
  exact⟨h1,frm J hJ _ _ _ _ _ h2 h4 hm hus hsub,keep2 U _ _ hm h3,Nat.le_trans h4 hm.size⟩
 ·rintro c i U U' A B ⟨h1,h2,h4⟩ hm hus hsub
  refine⟨h1,h2.imp (fun x=>⟨x.1,frm J hJ _ _ _ _ _ x.2 h4 hm hus hsub⟩) (fun⟨j,x1,x2,x3⟩=>⟨j,x1,x2,frm Jx hJx _ _ _ _ _ x3 h4 hm hus hsub⟩),Nat.le_trans h4 hm.size⟩
 ·-- one round
  intro lp i U args Wr hlp hUlp hi ⟨hin,hJi,hinv,hszr⟩ hA hUs hszW hloop ⟨_,hJa,_,_⟩ hab
  obtain⟨e,kv,vv,hei,hargs,o1,o2,u1,u2,dd,b1,b2⟩:=hA
  subst hargs
  obtain⟨hq1,hq2⟩:=yu (fun e:EV=>dh xs e.k) (lU R xs []) i e hin hei
  simp only [jF,List.setIfInBounds_toArray,List.set_cons_succ,List.set_cons_zero]
  refine wpIn_seq ?_
  refine bW (d := .region 2 (aH 2 Tryz.f193) false) (by kernel_rfl) ?_
  refine RW.wpIn (kp2 ?_) (by kernel_rfl)
  intro w3 e3
  subst e3
  refine bP ?_
  refine bW (d := .region 3 (aH 3 Tryz.f193) false) (by kernel_rfl) ?_
  refine RW.wpIn (kp3 ?_) (by kernel_rfl)
  intro w3 e3
  subst e3
  refine bP ?_
  refine⟨ae.refl _ _,?_⟩
  intro w4 m4 _
  have hkl:ae (fun k=>U k∧(ai k∨w2.heap.size≤k)) w3 w4:=m4.mono (fun k _ hk=>by subst hk;exact⟨hUlp,.inr hlp⟩)
  have hkl2:ae (fun k=>(U k∨iR #[kv,vv] k)∧(ai k∨w2.heap.size≤k)) w3 w4:=m4.mono (fun k _ hk=>by subst hk;exact⟨.inl hUlp,.inr hlp⟩)
  obtain⟨hp4,hby4⟩:=keep2 U _ _ hkl hinv
  have hJ4:=frm J hJ _ _ _ _ _ hJi hszr hkl hUs (fun k hk => .inl hk)
  have hJa4:=frm J hJ _ _ _ _ _ hJa hszr hkl2 (fun k hk=>by rcases hk with hk | hk;exact hUs k hk;exact hab k hk) (fun k hk => .inl hk)
  have hsz4:=Nat.le_trans hszr m4.size
  have hUs4:∀ k,U k→k<w4.heap.size:=fun k hk=>Nat.lt_of_lt_of_le (hUs k hk) m4.size
  have hUo4:∀ k,iy UW by1 U k→k<w4.heap.size:=fun k hk=>by
   rcases hk with hk | hk | rfl
   ·have:=hUl k hk;omega
   ·exact hUs4 k hk
   ·omega
  have o14:=o1.keep m4 (fun k hk x=>u1 k hk (x▸hUlp))
  have o24:=o2.keep m4 (fun k hk x=>u2 k hk (x▸hUlp))
  have hab4:∀ k,iR #[kv,vv] k→k<w4.heap.size:=fun k hk=>Nat.lt_of_lt_of_le (hab k hk) m4.size
  have hJb4:J i (fun k=>iy UW by1 U k∨iR #[kv,vv] k) w4:=hJ _ _ _ _ _ hJa4 (ae.refl _ _) (fun k hk=>by
   rcases hk with hk | (hk | hk) | hk
   ·have:=hUl k hk;omega
   ·exact hUs4 k hk
   ·exact hab4 k hk
   ·subst hk;omega) (fun k hk=>by
   rcases hk with (hk | hk | hk) | hk
   ·exact .inl (.inl hk)
   ·exact .inl (.inr (.inl (.inl hk)))
   ·exact .inl (.inr (.inr hk))
   ·exact .inl (.inr (.inl (.inr hk))))
  have HP:=EJ o14.rd hp4.pv.rd
  have bp4:=af hp4.bp 0
  have by4:=af hby4 0
  clear hJi hinv hkl hkl2 hJa hJa4
  refine wpIn_block ?_
  refine wpIn_seq ?_
  refine bW (d := .region 4 (aH 4 Tryz.f193) false) (by kernel_rfl) ?_
  rcases hB:dh xs e.k with _ | _
  ·rw [hB] at HP
   have hie:i=(sK R xs).length:=by
    have:¬ i<(sK R xs).length:=fun h=>by have:=hq1.2 h;rw [hB] at this;cases this
    omega
   refine RW.wpIn (kp4f (l:=l) bp4 by4 HP ?_) (by kernel_rfl)
   intros
   rename_i w5 e5
   subst e5
   refine bP ?_
   refine wpIn_cond_true rfl ?_
   refine wpIn_ret ?_
   repeat (first | refine sU ?_ | refine kU ?_)
   rw [hie] at hJ4
   exact⟨ae.refl _ _,rfl,.inl ⟨by rw [hie],hJ4⟩,hsz4⟩
  ·rw [hB] at HP
   have hlt:=hq1.1 hB
   refine jk (Q1:=fun _ a' w'=>wpOpsIn _ _ _ _ _ _ a' w') 8 (by kernel_rfl) (kp4t (l:=l) bp4 by4 HP ?_) (fun _ _ h=>h)
   intros
   rename_i w5 e5
   subst e5
   refine kV (some 22) (ki (by kernel_rfl)) (by kernel_rfl) (by kernel_rfl) (hY i (iy UW by1 U) #[kv,vv] w5 hlt hJ4 ⟨e,kv,vv,hq2 hlt,rfl,o14,o24,fun k hk x=>?_,fun k hk x=>?_,dd,fun k hk=>by have:=b1 k hk;omega,fun k hk=>by have:=b2 k hk;omega⟩ hUo4 (by omega) hJb4 hab4) ?_
   ·have hb1:=b1 k hk
    rcases x with x | x | x
    ·have:=hUl k x;omega
    ·exact u1 k hk x
    ·omega
   ·have hb2:=b2 k hk
    rcases x with x | x | x
    ·have:=hUl k x;omega
    ·exact u2 k hk x
    ·omega
   rintro r w6 (⟨rfl,k1',k2'⟩ | ⟨rfl,k1',k2'⟩)
   ·have m46:ae (fun k=>¬ U k) w5 w6:=k2'.mono (fun k _ hk x=>hk (.inr (.inl x)))
    refine⟨_,rfl,?_⟩
    refine fZ (.bool false) (some 23) (ki (by kernel_rfl)) (by kernel_rfl) (by kernel_rfl) ?_
    refine fZ (.bool false) (some 24) (ki (by kernel_rfl)) (by kernel_rfl) (by kernel_rfl) ?_
    refine bP ?_
    refine wpIn_cond_false rfl ?_
    refine wpIn_skip ?_
    refine jh ?_
    exact⟨m46,hlt,k1',⟨keepP _ _ hp4 (k2'.mono (fun k _ hk hu=>hk (.inl hu))),k2'.heap hby4 (fun hk=>hk (.inr (.inr rfl)))⟩,Nat.le_trans hsz4 m46.size⟩
   ·have m46:ae (fun k=>¬ U k) w5 w6:=k2'.mono (fun k _ hk x=>hk (.inr (.inl x)))
    refine⟨_,rfl,?_⟩
    refine fZ (.bool true) (some 23) (ki (by kernel_rfl)) (by kernel_rfl) (by kernel_rfl) ?_
    refine fZ (.bool true) (some 24) (ki (by kernel_rfl)) (by kernel_rfl) (by kernel_rfl) ?_
    refine bP ?_
    refine wpIn_cond_true rfl ?_
    refine wpIn_ret ?_
    repeat (first | refine sU ?_ | refine kU ?_)
    exact⟨m46,rfl,.inr ⟨i,rfl,hlt,k1'⟩,Nat.le_trans hsz4 m46.size⟩
 ·-- all have come
  rintro D U W5 hD hUD hus ⟨h1,h2,h3,h4⟩ hdef
  refine jh ?_
  refine iF hdef (results_none rfl _ _ _) ?_
  have hj:(lU R xs []).length=(sK R xs).length:=by
   have:(sK R xs).length≤(lU R xs []).length:=List.Sublist.length_le (List.takeWhile_sublist _)
   omega
  rw [hj] at h2
  have hD5:=lt_of_heap hdef
  refine⟨⟨_,rfl⟩,.inl ⟨iy UW by1 U,frm J hJ _ _ _ _ _ h2 h4 ((fA W5 D _).mono (fun k _ hk=>by subst hk;exact⟨hUD,.inr hD⟩)) hus (fun k hk => .inl hk),fun k hk=>?_⟩⟩
  rw [World.putObj_size]
  rcases hk with hk | hk | rfl
  ·have:=hUl k hk;omega
  ·exact hus k hk
  ·omega
 ·-- a round has left
  rintro D c i U W5 hD hUD hus hi ⟨rfl,h2,h4⟩ hdef
  have hbd:∀ k,iy UW by1 U k→k<(W5.putObj D (.deferred none)).heap.size:=fun k hk=>by
   rw [World.putObj_size]
   rcases hk with hk | hk | rfl
   ·have:=hUl k hk;omega
   ·exact hus k hk
   ·omega
  have hmD:ae (fun k=>U k∧(ai k∨w2.heap.size≤k)) W5 (W5.putObj D (.deferred none)):=(fA W5 D _).mono (fun k _ hk=>by subst hk;exact⟨hUD,.inr hD⟩)
  refine wpIn_ret ?_
  refine kU ?_
  refine iF hdef (results_none rfl _ _ _) ?_
  rcases h2 with ⟨_,h2⟩ | ⟨j,hj,hjl,h2⟩
  ·exact⟨⟨_,rfl⟩,.inl ⟨iy UW by1 U,frm J hJ _ _ _ _ _ h2 h4 hmD hus (fun k hk => .inl hk),hbd⟩⟩
  ·exact⟨⟨_,rfl⟩,.inr ⟨j,iy UW by1 U,hjl,frm Jx hJx _ _ _ _ _ h2 h4 hmD hus (fun k hk => .inl hk),hbd⟩⟩
open Go.Gl Go.RowKit
theorem IJ (w:World) (sg gf:Nat) (lb:Array Value):Calls Tryz.prog 192 #[.pointer (some ⟨sg,0,none⟩),.func (.func gf) #[] lb] w fun e w'=>∃ bs bw,e = .returned (.func (.func 244) #[] #[.pointer (some ⟨bs,0,none⟩),.pointer (some ⟨bw,0,none⟩)]) ∧
   w'.heap[bs]?=some (.cells #[.pointer (some ⟨sg,0,none⟩)] 26 (0,0))∧(∃ t,w'.heap[bw]?=some (.cells #[.func (.func gf) #[] lb] t (0,0)))∧ae ai w w'∧w.heap.size≤bs∧w.heap.size≤bw:=by
 go_enter Tryz.func192,Tryz.ntmps192
 go_wp2
 go_ret
 refine⟨w.heap.size,w.heap.size+1,rfl,dA (aF w _) _,⟨154,?_⟩,((ae.refl ai w).alloc _).alloc _,Nat.le_refl _,by omega⟩
 ·have:=aF (w.alloc (.cells #[.pointer (some ⟨sg,0,none⟩)] 26)) (.cells #[.func (.func gf) #[] lb] 154)
  rw [World.size_alloc] at this
  exact this
def OkS (sg mg:Nat) (A:World):Prop:=Hg sg A∧Ii sg mg A
theorem OkS.after {sg mg:Nat}{A C:World} (h:OkS sg mg A) (t:tickR sg A C):Ii sg mg C:=by
 obtain⟨h1,h2,h3⟩:=h
 obtain⟨c,hc,rfl⟩:=t
 refine⟨?_,by rw [World.size_setCell];exact h3⟩
 rw [← h2]
 exact World.cell?_setCell_other A (a:=⟨sg,2,none⟩) (b:=⟨sg,0,none⟩) (v := .int .i64 (c+1)) (fun e=>by injection e with _ h _;exact absurd h (by decide))
theorem yl.mono {B B':Nat}{L:List EV}{i:Nat}{U:Nat→Prop}{args:Array Value}{W:World} (h:yl B L i U args W) (hb:B'≤B):yl B' L i U args W:=by
 obtain⟨e,kv,vv,h1,h2,h3,h4,h5,h6,h7,h8,h9⟩:=h
 exact⟨e,kv,vv,h1,h2,h3,h4,h5,h6,h7,fun k hk=>Nat.le_trans hb (h8 k hk),fun k hk=>Nat.le_trans hb (h9 k hk)⟩
theorem tk_of {w0 w:World}{sg mg bs bw gf B:Nat}{vo:Value}{R:List PV}{lb:Array Value}{L:List EV}{Ui:Nat→Prop}{t1 t2:TypeId} (it:∀ W,ae (fun k=>¬ Ui k) w W→wK Tryz.prog gf lb L.length (yl W.heap.size L) Ui ai (Ii sg mg) W) (eg:∀ args w,(callFunc gf args).run Tryz.prog w = .ok (.enter gf args) w)
  (hbs:w.heap[bs]?=some (.cells #[.pointer (some ⟨sg,0,none⟩)] t1 (0,0))) (hbw:w.heap[bw]?=some (.cells #[.func (.func gf) #[] lb] t2 (0,0))) (hUi:∀ k,Ui k→k<B∧k≠sg∧(MS mg vo R k∨MD R k∨w0.heap.size≤k)) (hB:B≤w.heap.size) (hsg:sg<B) (n1:B≤bs) (n2:B≤bw) (h0:w0.heap.size≤B) :
  ∃ U0,(∀ W,ae (fun k=>¬ U0 k) w W→xI Tryz.prog 244 #[.pointer (some ⟨bs,0,none⟩),.pointer (some ⟨bw,0,none⟩)] L.length (yl W.heap.size L) U0 (tickR sg) (OkS sg mg) W)∧∀ k,U0 k→k<w.heap.size∧k≠sg∧(MS mg vo R k∨MD R k∨w0.heap.size≤k):=by
 refine⟨fun k=>Ui k∨k=bs∨k=bw,fun W hm=>FU (it W (hm.mono (fun k _ hk x=>hk (.inl x)))) (fun A B h hm=>h.keep hm) (fun A h=>h.1) (fun A C h t=>h.after t) eg (hm.heap hbs (fun x=>x (.inr (.inl rfl)))) (hm.heap hbw (fun x=>x (.inr (.inr rfl)))) (fun k hk=>by have:=(hUi k hk).1;have:=hm.size;omega) (by have:=hm.size;omega) (fun x=>by have:=(hUi _ x).1;omega) (fun x=>by have:=(hUi _ x).1;omega) (fun x=>(hUi _ x).2.1 rfl) (by omega) (by omega),fun k hk=>?_⟩
 rcases hk with hk | rfl | rfl
 ·exact⟨by have:=(hUi k hk).1;omega,(hUi k hk).2⟩
 ·exact⟨lt_of_heap hbs,by omega,.inr (.inr (by omega))⟩
 ·exact⟨lt_of_heap hbw,by omega,.inr (.inr (by omega))⟩
def KH (w w':World) (sg mg:Nat) (vo:Value) (R:List PV) (L:List EV) (lb:Array Value):Prop :=
 ∃ U0,(∀ W,ae (fun k=>¬ U0 k) w' W→xI Tryz.prog 244 lb L.length (yl W.heap.size L) U0 (tickR sg) (OkS sg mg) W)∧∀ k,U0 k→k<w'.heap.size∧k≠sg∧(MS mg vo R k∨MD R k∨w.heap.size≤k)
theorem KH.keep {w w' w'':World}{sg mg:Nat}{vo:Value}{R:List PV}{L:List EV}{lb:Array Value}{T:Nat→Prop} (h:KH w w' sg mg vo R L lb) (hm:ae T w' w'') (ht:∀ k,T k→k<w.heap.size) (h1:∀ k,T k→k=sg∨(¬ MS mg vo R k∧¬ MD R k)):KH w w'' sg mg vo R L lb:=by
 obtain⟨U0,it,hU⟩:=h
 refine⟨U0,fun W hW=>it W (hm.trans hW (fun k _ hk x=>?_) (fun _ _ x=>x)),fun k hk=>⟨Nat.lt_of_lt_of_le (hU k hk).1 hm.size,(hU k hk).2⟩⟩
 obtain⟨_,a,b⟩:=hU k x
 rcases h1 k hk with y | ⟨y,z⟩
 ·exact a y
 ·rcases b with b | b | b
  ·exact y b
  ·exact z b
  ·have:=ht k hk;omega
def zH (w w':World) (sg mg:Nat) (vo:Value) (R:List PV) (L:List EV) (lb:Array Value):Prop:=ae ai w w'∧KH w w' sg mg vo R L lb
theorem Ac {w:World}{sg mg:Nat}{vo jv q:Value}{R:List PV}{J:List JV}{n:Int}{xs:List UInt8} (h:KM w sg mg vo R jv J n) (hq:Rd w q xs) (lx:xs.length≤1000000) (ok:gY (aI R)) (hn:R.length≤1000000) :
  Calls Tryz.prog 114 #[.pointer (some ⟨sg,0,none⟩),q] w fun e w'=>∃ b1 b2,e = .returned (.func (.func 244) #[] #[.pointer (some ⟨b1,0,none⟩),.pointer (some ⟨b2,0,none⟩)])∧zH w w' sg mg vo R (sK R xs) #[.pointer (some ⟨b1,0,none⟩),.pointer (some ⟨b2,0,none⟩)]:=by
 obtain⟨aq,cq,rfl,_⟩:=hq.form
 have m1:ae ai w ((w.alloc (.cells #[.pointer (some ⟨sg,0,none⟩)] 26)).alloc (.cells #[.slice aq xs.length cq] 91)):=((ae.refl ai w).alloc _).alloc _
 have b1:((w.alloc (.cells #[.pointer (some ⟨sg,0,none⟩)] 26)).alloc (.cells #[.slice aq xs.length cq] 91)).heap[w.heap.size]?=some (.cells #[.pointer (some ⟨sg,0,none⟩)] 26 (0,0)):=dA (aF w _) _
 have b2:((w.alloc (.cells #[.pointer (some ⟨sg,0,none⟩)] 26)).alloc (.cells #[.slice aq xs.length cq] 91)).heap[w.heap.size+1]?=some (.cells #[.slice aq xs.length cq] 91 (0,0)):=by have:=aF (w.alloc (.cells #[.pointer (some ⟨sg,0,none⟩)] 26)) (.cells #[.slice aq xs.length cq] 91);rwa [World.size_alloc] at this
 have hS1:((w.alloc (.cells #[.pointer (some ⟨sg,0,none⟩)] 26)).alloc (.cells #[.slice aq xs.length cq] 91)).heap.size=w.heap.size+2:=by simp
 have d2:=af b2 0
 have CL:=lh (Es (hq.keep m1 (fun _ _ x=>x)) lx)
 have HM:=lh h
 have sgl:=h.lt sg (.inl rfl)
 have OKH:=lh (And.intro ok (And.intro hn lx))
 have M1:=lh m1
 have B1:=lh b1
 have B2:=lh b2
 have HS1:=lh hS1
 clear h hq ok hn lx m1 b1 b2 hS1
 go_enter Tryz.func114,Tryz.ntmps114
 go_wp2_with fail
 refine CL.out.mono ?_
 rintro e w2 ⟨v2,rfl,o2,m2,f2⟩
 have B2a:=m2.heap B2.out (fun x=>x)
 have e2:=af B2a 0
 have e3:=bY B2a 0
 have hs2:=m2.size
 rw [HS1.out] at hs2
 have n2:∀ k,v2.ownBlock=some k→w.heap.size+2≤k:=fun k hk=>by have:=f2 k hk;have:=HS1.out;omega
 obtain⟨W3,hW3⟩:∃ W3,W3=w2.setCell ⟨w.heap.size+1,0,none⟩ v2:=⟨_,rfl⟩
 have m3:ae (fun k=>k=w.heap.size+1) w2 W3:=by rw [hW3];exact (ae.refl (fun k=>k=w.heap.size+1) w2).setCell (p:=⟨w.heap.size+1,0,none⟩) (.inl rfl) _
 have M3:=lh (show ae ai w W3 from (M1.out.then0 m2).trans m3 (fun _ _ x=>x) (fun i hi x=>by omega))
 have B13:=lh (m3.heap (m2.heap B1.out (fun x=>x)) (show ¬ w.heap.size=w.heap.size+1 by omega))
 have B23:=lh (show W3.heap[w.heap.size+1]?=some (.cells #[v2] 91 (0,0)) by rw [hW3];exact heap_set B2a 0 v2)
 have O3:=lh (o2.keep m3 (fun k hk x=>by have:=n2 k hk;omega))
 have N2:=lh n2
 have S3:=lh (show w.heap.size+2≤W3.heap.size by have:=m3.size;omega)
 obtain⟨a2,cc2,rfl,_⟩:=o2.rd.form
 have d1:=af B13.out 0
 have HW3:=lh hW3
 clear o2 m2 f2 hs2 n2 m3 M1 B1 B2 CL B2a
 have PP:=lh (show rV W3 sg mg vo R w.heap.size (w.heap.size+1) (.slice a2 xs.length cc2) xs from⟨(HM.out.keep0 M3.out).pm,B13.out,B23.out,O3.out⟩)
 have IT:=lh (fun W (hm:ae (fun k=>¬ UPx mg vo R w.heap.size (w.heap.size+1) (.slice a2 xs.length cc2) k) W3 W)=>Iw (PP.out.keep hm) OKH.out.1 OKH.out.2.1 OKH.out.2.2)
 rw [hW3] at d1 IT
 clear hW3
 go_wp2_with fail
 refine (IJ _ sg 193 #[.pointer (some ⟨w.heap.size,0,none⟩),.pointer (some ⟨w.heap.size+1,0,none⟩)]).mono ?_
 rintro e w4 ⟨b1,b2,rfl,hb1,⟨t2,hb2⟩,m4,q1,q2⟩
 rw [← HW3.out] at m4 q1 q2 IT
 have FIN:=lh (show zH w w4 sg mg vo R (sK R xs) #[.pointer (some ⟨b1,0,none⟩),.pointer (some ⟨b2,0,none⟩)] from by
  have hs3:=S3.out
  refine⟨M3.out.then0 m4,tk_of (B:=W3.heap.size) (fun W hm=>IT.out W (m4.trans hm (fun _ _ x=>x.elim) (fun _ _ x=>x))) (enters_of Tryz.func193 (by kernel_rfl) rfl) hb1 hb2 (fun k hk=>?_) m4.size (by omega) q1 q2 (by omega)⟩
  refine⟨PP.out.lt k hk,?_⟩
  rcases hk with hk | hk | rfl | rfl | hk
  ·exact⟨fun x=>HM.out.s1.1 (x▸hk),.inl hk⟩
  ·exact⟨fun x=>HM.out.data k (.inl hk) (.inl x),.inr (.inl hk)⟩
  ·exact⟨by omega,.inr (.inr (Nat.le_refl _))⟩
  ·exact⟨by omega,.inr (.inr (by omega))⟩
  ·have:=N2.out k hk;exact⟨by omega,.inr (.inr (by omega))⟩)
 clear hb1 hb2 m4 q1 q2 IT PP d1 d2 e2 e3
 go_wp2
 go_ret
 exact⟨_,_,rfl,FIN.out⟩
open Go.Gl Go.RowKit
structure rJ (Sx X:Nat→Prop) (H:Nat→Obj) (w:World) (LL:List EV) (ob:Nat) (i:Nat) (U:Nat→Prop) (W:World) (v:Value) (L:List EV):Prop where
 hob:W.heap[ob]?=some (.cells #[v] 29 (0,0))
 hx:∀ k,X k→W.heap[k]?=some (H k)
 row:bC W 152 2 v L.length (eX L)
 own:∀ e∈L,Gl.Own W e.kv e.k∧Gl.Own W e.vv e.v
 eq:L.map EV.ent=(LL.take i).map EV.ent
 u1:¬ U ob
 u2:∀ k,X k→¬ U k
 vb:∀ k,v.ownBlock=some k→w.heap.size≤k∧k≠ob∧¬ X k∧¬ U k
 db:∀ k,wS L k→w.heap.size≤k∧k≠ob∧¬ X k∧v.ownBlock≠some k∧¬ U k
 g1:w.heap.size≤ob
 g2:∀ k,X k→w.heap.size≤k
 ne:¬ X ob
 mods:ae Sx w W
 sx:∀ k,Sx k→k<w.heap.size
section
variable {Sx X:Nat→Prop}{H:Nat→Obj}
theorem rJ.dlt {w W:World}{LL L:List EV}{ob i:Nat}{U:Nat→Prop}{v:Value} (h:rJ Sx X H w LL ob i U W v L) {k:Nat} (hk:wS L k):k<W.heap.size:=by
 obtain⟨e,he,hk | hk⟩:=hk
 ·exact (h.own e he).1.lt k hk
 ·exact (h.own e he).2.lt k hk
theorem rJ.keep {w W W':World}{LL L:List EV}{ob i:Nat}{U U' T:Nat→Prop}{v:Value} (h:rJ Sx X H w LL ob i U W v L) (hm:ae T W W') (h1:¬ T ob) (h2:∀ k,X k→¬ T k) (h3:∀ k,v.ownBlock=some k→¬ T k) (h4:∀ k,wS L k→¬ T k) (h5:∀ k,T k→Sx k∨w.heap.size≤k)
  (hU:∀ k,U' k→U k∨W.heap.size≤k):rJ Sx X H w LL ob i U' W' v L:=by
 have hl1:=lt_of_heap h.hob
 refine⟨hm.heap h.hob h1,fun k hk=>hm.heap (h.hx k hk) (h2 k hk),h.row.keep hm h3,fun e he=>⟨(h.own e he).1.keep hm (fun k hk=>h4 k ⟨e,he,.inl hk⟩),(h.own e he).2.keep hm (fun k hk=>h4 k ⟨e,he,.inr hk⟩)⟩,h.eq,fun hu=>?_,fun k hk hu=>?_,fun k hk=>?_,fun k hk=>?_,h.g1,h.g2,h.ne,h.mods.trans hm (fun _ _ x=>x) (fun k hk ht=>by
  rcases h5 k ht with x | x
  ·exact x
  ·omega),h.sx⟩
 ·rcases hU _ hu with x | x
  ·exact h.u1 x
  ·omega
 ·rcases hU _ hu with x | x
  ·exact h.u2 k hk x
  ·have:=lt_of_heap (h.hx k hk);omega
 ·obtain⟨a,b,c,d⟩:=h.vb k hk
  refine⟨a,b,c,fun hu=>?_⟩
  rcases hU _ hu with x | x
  ·exact d x
  ·have:=h.row.lt k hk;omega
 ·obtain⟨a,b,c,d,e⟩:=h.db k hk
  refine⟨a,b,c,d,fun hu=>?_⟩
  rcases hU _ hu with x | x
  ·exact e x
  ·have:=h.dlt hk;omega
theorem rJ.frm {w A B:World}{LL L:List EV}{ob i base:Nat}{U U':Nat→Prop}{v:Value} (h:rJ Sx X H w LL ob i U A v L) (hb:w.heap.size≤base) (hm:ae (fun k=>U k∧(ai k∨base≤k)) A B) (hsub:∀ k,U' k→U k∨A.heap.size≤k):rJ Sx X H w LL ob i U' B v L :=
 h.keep hm (fun x=>h.u1 x.1) (fun k hk x=>h.u2 k hk x.1) (fun k hk x=>(h.vb k hk).2.2.2 x.1) (fun k hk x=>(h.db k hk).2.2.2.2 x.1) (fun k x=>by rcases x.2 with y | y;exact y.elim;exact .inr (by omega)) hsub
theorem rJ.turn {w A B:World}{LL L:List EV}{ob i:Nat}{U:Nat→Prop}{v:Value} (h:rJ Sx X H w LL ob i U A v L) (hm:ae Sx A B):rJ Sx X H w LL ob i U B v L :=
 h.keep hm (fun x=>by have:=h.sx _ x;have:=h.g1;omega) (fun k hk x=>by have:=h.sx k x;have:=h.g2 k hk;omega) (fun k hk x=>by have:=h.sx k x;have:=(h.vb k hk).1;omega) (fun k hk x=>by have:=h.sx k x;have:=(h.db k hk).1;omega) (fun k x => .inl x) (fun k hk => .inl hk)
theorem rJ.step {w W w7 w8 w9 w10 w11:World}{LL L:List EV}{ob i:Nat}{U:Nat→Prop}{v kv vv d1 d2 v8:Value}{e:EV} (h:rJ Sx X H w LL ob i (fun k=>U k∨iR #[kv,vv] k) W v L) (hlen:L.length=i) (hget:LL[i]?=some e) (hus:∀ k,U k→k<W.heap.size) (hws:w.heap.size≤W.heap.size)
  (hk:∀ k,kv.ownBlock=some k→¬ U k) (hv:∀ k,vv.ownBlock=some k→¬ U k) (bk:∀ k,kv.ownBlock=some k→w.heap.size≤k∧k<W.heap.size) (bv:∀ k,vv.ownBlock=some k→w.heap.size≤k∧k<W.heap.size)
  (o1:Gl.Own w7 d1 e.k) (o2:Gl.Own w7 d2 e.v) (f1:aG W d1) (f2:aG W d2) (m7:ae ai W w7) (o8:bC w8 152 2 v8 (L.length+1) (eX L ++ [d1,d2])) (m8:ae (eY v) w7 w8) (f8:v8.ownBlock=v.ownBlock∨aG w7 v8) (h9:w9=w8.setCell ⟨ob,0,none⟩ v8)
  (m10:ae (eY kv) w9 w10) (m11:ae (eY vv) w10 w11):rJ Sx X H w LL ob (i+1) U w11 v8 (L ++ [⟨d1,d2,e.k,e.v⟩])∧ae (fun k=>¬ U k) W w11∧(∀ T:Nat→Prop,(∀ k,T k→k<w.heap.size)→ae (fun k=>¬ T k) W w11):=by
 have m9:ae (fun k=>k=ob) w8 w9:=by rw [h9];exact (ae.refl (fun k=>k=ob) w8).setCell (p:=⟨ob,0,none⟩) (.inl rfl) v8
 have hlo:=lt_of_heap h.hob
 have s7:=m7.size
 have s8:=m8.size
 have aK:∀ k,kv.ownBlock=some k→iR #[kv,vv] k:=fun k hk=>⟨kv,by simp,hk⟩
 have aV:∀ k,vv.ownBlock=some k→iR #[kv,vv] k:=fun k hk=>⟨vv,by simp,hk⟩
 have xl:∀ k,X k→k<W.heap.size:=fun k hk=>lt_of_heap (h.hx k hk)
 have b8:∀ k,v8.ownBlock=some k→w.heap.size≤k∧k≠ob∧¬ X k∧¬ U k∧kv.ownBlock≠some k∧vv.ownBlock≠some k:=fun k hk8=>by
  rcases f8 with f | f
  ·obtain⟨a,b,c,d⟩:=h.vb k (f▸hk8)
   exact⟨a,b,c,fun x=>d (.inl x),fun x=>d (.inr (aK k x)),fun x=>d (.inr (aV k x))⟩
  ·have:=f k hk8
   exact⟨by omega,by omega,fun x=>by have:=xl k x;omega,fun x=>by have:=hus k x;omega,fun x=>by have:=bk k x;omega,fun x=>by have:=bv k x;omega⟩
 have dlt:∀ k,wS (L ++ [⟨d1,d2,e.k,e.v⟩]) k→wS L k∨((d1.ownBlock=some k∨d2.ownBlock=some k)∧W.heap.size≤k∧k<w7.heap.size):=fun k hk=>by
  obtain⟨x,hx,hk⟩:=hk
  rw [List.mem_append,List.mem_singleton] at hx
  rcases hx with hx | rfl
  ·exact .inl ⟨x,hx,hk⟩
  ·rcases hk with hk | hk
   ·exact .inr ⟨.inl hk,f1 k hk,o1.lt k hk⟩
   ·exact .inr ⟨.inr hk,f2 k hk,o2.lt k hk⟩
 have bd:∀ k,wS (L ++ [⟨d1,d2,e.k,e.v⟩]) k→w.heap.size≤k∧k≠ob∧¬ X k∧v.ownBlock≠some k∧v8.ownBlock≠some k∧¬ U k∧kv.ownBlock≠some k∧vv.ownBlock≠some k:=fun k hkd=>by
  rcases dlt k hkd with hm | ⟨_,h1,h2⟩
  ·obtain⟨a,b,c,d,e⟩:=h.db k hm
   have:=h.dlt hm
   refine⟨a,b,c,d,fun x=>?_,fun x=>e (.inl x),fun x=>e (.inr (aK k x)),fun x=>e (.inr (aV k x))⟩
   rcases f8 with f | f
   ·exact d (f▸x)
   ·have:=f k x;omega
  ·refine⟨by omega,by omega,fun x=>by have:=xl k x;omega,fun x=>by have:=h.row.lt k x;omega,fun x=>?_,fun x=>by have:=hus k x;omega,fun x=>by have:=bk k x;omega,fun x=>by have:=bv k x;omega⟩
   rcases f8 with f | f
   ·have:=h.row.lt k (f▸x);omega
   ·have:=f k x;omega
 have tot:ae (fun k=>k=ob∨v.ownBlock=some k∨kv.ownBlock=some k∨vv.ownBlock=some k) W w11 :=
  (((m7.trans m8 (U:=fun k=>k=ob∨v.ownBlock=some k∨kv.ownBlock=some k∨vv.ownBlock=some k) (fun _ _ x=>x.elim) (fun k _ x => .inr (.inl x))).trans m9 (fun _ _ x=>x) (fun k _ x => .inl x)).trans m10 (fun _ _ x=>x) (fun k _ x => .inr (.inr (.inl x)))).trans m11 (fun _ _ x=>x) (fun k _ x => .inr (.inr (.inr x)))
 have nob:¬ eY kv ob:=fun x=>h.u1 (.inr (aK _ x))
 have vob:¬ eY vv ob:=fun x=>h.u1 (.inr (aV _ x))
 refine⟨⟨?_,fun k hk=>?_,?_,?_,?_,fun x=>h.u1 (.inl x),fun k hk x=>h.u2 k hk (.inl x),fun k hk=>?_,fun k hk=>?_,h.g1,h.g2,h.ne,?_,h.sx⟩,tot.mono ?_,fun T hT=>tot.mono ?_⟩
 ·refine m11.heap (m10.heap ?_ nob) vob
  rw [h9]
  exact heap_set (m8.heap (m7.heap h.hob (fun x=>x)) (fun x=>(h.vb ob x).2.1 rfl)) 0 v8
 ·exact m11.heap (m10.heap (m9.heap (m8.heap (m7.heap (h.hx k hk) (fun x=>x)) (fun x=>(h.vb k x).2.2.1 hk)) (fun x=>h.ne (x▸hk))) (fun x=>h.u2 k hk (.inr (aK k x)))) (fun x=>h.u2 k hk (.inr (aV k x)))
 ·rw [List.length_append,List.length_singleton,lM]
  exact ((o8.keep m9 (fun k hk x=>(b8 k hk).2.1 x)).keep m10 (fun k hk x=>(b8 k hk).2.2.2.2.1 x)).keep m11 (fun k hk x=>(b8 k hk).2.2.2.2.2 x)
 ·have m911:ae (fun k=>k=ob∨v.ownBlock=some k∨kv.ownBlock=some k∨vv.ownBlock=some k) w7 w11 :=
   ((m8.trans m9 (U:=fun k=>k=ob∨v.ownBlock=some k∨kv.ownBlock=some k∨vv.ownBlock=some k) (fun k _ x => .inr (.inl x)) (fun k _ x => .inl x)).trans m10 (fun _ _ x=>x) (fun k _ x => .inr (.inr (.inl x)))).trans m11 (fun _ _ x=>x) (fun k _ x => .inr (.inr (.inr x)))
  have nt:∀ k,wS (L ++ [⟨d1,d2,e.k,e.v⟩]) k→¬ (k=ob∨v.ownBlock=some k∨kv.ownBlock=some k∨vv.ownBlock=some k):=fun k hk x=>by
   obtain⟨_,a,_,b,_,_,c,d⟩:=bd k hk
   rcases x with x | x | x | x
   ·exact a x
   ·exact b x
   ·exact c x
   ·exact d x
  intro x hx
  have hx':=hx
  rw [List.mem_append,List.mem_singleton] at hx
  rcases hx with hx | rfl
  ·exact⟨((h.own x hx).1.keep m7 (fun _ _ y=>y)).keep m911 (fun k hk=>nt k ⟨x,hx',.inl hk⟩),((h.own x hx).2.keep m7 (fun _ _ y=>y)).keep m911 (fun k hk=>nt k ⟨x,hx',.inr hk⟩)⟩
  ·exact⟨o1.keep m911 (fun k hk=>nt k ⟨_,hx',.inl hk⟩),o2.keep m911 (fun k hk=>nt k ⟨_,hx',.inr hk⟩)⟩
 ·rw [List.take_add_one,hget,List.map_append,List.map_append,h.eq]
  rfl
 ·obtain⟨a,b,c,d,_⟩:=b8 k hk
  exact⟨a,b,c,d⟩
 ·obtain⟨a,b,c,_,d,e,_⟩:=bd k hk
  exact⟨a,b,c,d,e⟩
 ·refine h.mods.trans tot (fun _ _ x=>x) (fun k hk x=>?_)
  rcases x with rfl | x | x | x
  ·have:=h.g1;omega
  ·have:=(h.vb k x).1;omega
  ·have:=(bk k x).1;omega
  ·have:=(bv k x).1;omega
 ·intro k _ x hu
  rcases x with rfl | x | x | x
  ·exact h.u1 (.inl hu)
  ·exact (h.vb k x).2.2.2 (.inl hu)
  ·exact hk k x hu
  ·exact hv k x hu
 ·intro k _ x hu
  have hk0:=hT k hu
  rcases x with rfl | x | x | x
  ·have:=h.g1;omega
  ·have:=(h.vb k x).1;omega
  ·have:=(bk k x).1;omega
  ·have:=(bv k x).1;omega
theorem rJ.step0 {w W w8 w9:World}{LL L:List EV}{ob i:Nat}{U:Nat→Prop}{v kv vv v8:Value}{e:EV} (h:rJ Sx X H w LL ob i (fun k=>U k∨iR #[kv,vv] k) W v L) (hlen:L.length=i) (hget:LL[i]?=some e) (hus:∀ k,U k→k<W.heap.size) (hws:w.heap.size≤W.heap.size)
  (hk:∀ k,kv.ownBlock=some k→¬ U k) (hv:∀ k,vv.ownBlock=some k→¬ U k) (bk:∀ k,kv.ownBlock=some k→w.heap.size≤k) (bv:∀ k,vv.ownBlock=some k→w.heap.size≤k)
  (o1:Gl.Own W kv e.k) (o2:Gl.Own W vv e.v) (o8:bC w8 152 2 v8 (L.length+1) (eX L ++ [kv,vv])) (m8:ae (eY v) W w8) (f8:v8.ownBlock=v.ownBlock∨aG W v8) (h9:w9=w8.setCell ⟨ob,0,none⟩ v8) :
  rJ Sx X H w LL ob (i+1) U w9 v8 (L ++ [⟨kv,vv,e.k,e.v⟩])∧ae (fun k=>¬ U k) W w9∧(∀ T:Nat→Prop,(∀ k,T k→k<w.heap.size)→ae (fun k=>¬ T k) W w9):=by
 have m9:ae (fun k=>k=ob) w8 w9:=by rw [h9];exact (ae.refl (fun k=>k=ob) w8).setCell (p:=⟨ob,0,none⟩) (.inl rfl) v8
 have hlo:=lt_of_heap h.hob
 have aK:∀ k,kv.ownBlock=some k→iR #[kv,vv] k:=fun k hk=>⟨kv,by simp,hk⟩
 have aV:∀ k,vv.ownBlock=some k→iR #[kv,vv] k:=fun k hk=>⟨vv,by simp,hk⟩
 have xl:∀ k,X k→k<W.heap.size:=fun k hk=>lt_of_heap (h.hx k hk)
 have b8:∀ k,v8.ownBlock=some k→w.heap.size≤k∧k≠ob∧¬ X k∧¬ U k∧kv.ownBlock≠some k∧vv.ownBlock≠some k:=fun k hk8=>by
  rcases f8 with f | f
  ·obtain⟨a,b,c,d⟩:=h.vb k (f▸hk8)
   exact⟨a,b,c,fun x=>d (.inl x),fun x=>d (.inr (aK k x)),fun x=>d (.inr (aV k x))⟩
  ·have:=f k hk8
   exact⟨by omega,by omega,fun x=>by have:=xl k x;omega,fun x=>by have:=hus k x;omega,fun x=>by have:=o1.lt k x;omega,fun x=>by have:=o2.lt k x;omega⟩
 have dc:∀ k,wS (L ++ [⟨kv,vv,e.k,e.v⟩]) k→wS L k∨kv.ownBlock=some k∨vv.ownBlock=some k:=fun k hk=>by
  obtain⟨x,hx,hk⟩:=hk
  rw [List.mem_append,List.mem_singleton] at hx
  rcases hx with hx | rfl
  ·exact .inl ⟨x,hx,hk⟩
  ·exact .inr hk
 have bd:∀ k,wS (L ++ [⟨kv,vv,e.k,e.v⟩]) k→w.heap.size≤k∧k≠ob∧¬ X k∧v.ownBlock≠some k∧v8.ownBlock≠some k∧¬ U k:=fun k hkd=>by
  rcases dc k hkd with hm | hm | hm
  ·obtain⟨a,b,c,d,e⟩:=h.db k hm
   have:=h.dlt hm
   refine⟨a,b,c,d,fun x=>?_,fun x=>e (.inl x)⟩
   rcases f8 with f | f
   ·exact d (f▸x)
   ·have:=f k x;omega
  ·exact⟨bk k hm,fun x=>h.u1 (.inr (x▸aK k hm)),fun x=>h.u2 k x (.inr (aK k hm)),fun x=>(h.vb k x).2.2.2 (.inr (aK k hm)),fun x=>(b8 k x).2.2.2.2.1 hm,hk k hm⟩
  ·exact⟨bv k hm,fun x=>h.u1 (.inr (x▸aV k hm)),fun x=>h.u2 k x (.inr (aV k hm)),fun x=>(h.vb k x).2.2.2 (.inr (aV k hm)),fun x=>(b8 k x).2.2.2.2.2 hm,hv k hm⟩
 have tot:ae (fun k=>k=ob∨v.ownBlock=some k) W w9:=m8.trans m9 (fun _ _ x => .inr x) (fun k _ x => .inl x)
 have nt:∀ k,wS (L ++ [⟨kv,vv,e.k,e.v⟩]) k→¬ (k=ob∨v.ownBlock=some k):=fun k hk x=>by
  obtain⟨_,a,_,b,_,_⟩:=bd k hk
  rcases x with x | x
  ·exact a x
  ·exact b x
 refine⟨⟨?_,fun k hk=>?_,?_,fun x hx=>?_,?_,fun x=>h.u1 (.inl x),fun k hk x=>h.u2 k hk (.inl x),fun k hk=>?_,fun k hk=>?_,h.g1,h.g2,h.ne,?_,h.sx⟩,tot.mono ?_,fun T hT=>tot.mono ?_⟩
 ·rw [h9]
  exact heap_set (m8.heap h.hob (fun x=>(h.vb ob x).2.1 rfl)) 0 v8
 ·exact tot.heap (h.hx k hk) (fun x=>by
   rcases x with x | x
   ·exact h.ne (x▸hk)
   ·exact (h.vb k x).2.2.1 hk)
 ·rw [List.length_append,List.length_singleton,lM]
  exact o8.keep m9 (fun k hk x=>(b8 k hk).2.1 x)
 ·have hx':=hx
  rw [List.mem_append,List.mem_singleton] at hx
  rcases hx with hx | rfl
  ·exact⟨(h.own x hx).1.keep tot (fun k hk=>nt k ⟨x,hx',.inl hk⟩),(h.own x hx).2.keep tot (fun k hk=>nt k ⟨x,hx',.inr hk⟩)⟩
  ·exact⟨o1.keep tot (fun k hk=>nt k ⟨_,hx',.inl hk⟩),o2.keep tot (fun k hk=>nt k ⟨_,hx',.inr hk⟩)⟩
 ·rw [List.take_add_one,hget,List.map_append,List.map_append,h.eq]
  rfl
 ·obtain⟨a,b,c,d,_⟩:=b8 k hk
  exact⟨a,b,c,d⟩
 ·obtain⟨a,b,c,_,d,e⟩:=bd k hk
  exact⟨a,b,c,d,e⟩
 ·refine h.mods.trans tot (fun _ _ x=>x) (fun k hk x=>?_)
  rcases x with rfl | x
  ·have:=h.g1;omega
  ·have:=(h.vb k x).1;omega
 ·intro k _ x hu
  rcases x with rfl | x
  ·exact h.u1 (.inl hu)
  ·exact (h.vb k x).2.2.2 (.inl hu)
 ·intro k _ x hu
  have hk0:=hT k hu
  rcases x with rfl | x
  ·have:=h.g1;omega
  ·have:=(h.vb k x).1;omega
end
structure xH (w w':World) (v:Value) (L:List EV):Prop where
 row:bC w' 152 2 v L.length (eX L)
 own:∀ e∈L,Gl.Own w' e.kv e.k∧Gl.Own w' e.vv e.v
 vf:aG w v
 df:∀ k,wS L k→w.heap.size≤k∧v.ownBlock≠some k
theorem rJ.got {Sx X:Nat→Prop}{H:Nat→Obj}{T:Nat→Prop}{w W:World}{LL L:List EV}{ob i:Nat}{U:Nat→Prop}{v:Value} (h:rJ Sx X H w LL ob i U W v L) {W':World} (hm:ae T W W') (hT:∀ k,T k→U k∧w.heap.size≤k):xH w W' v L∧ae Sx w W' :=
 have h':=h.keep hm (fun x=>h.u1 (hT _ x).1) (fun k hk x=>h.u2 k hk (hT _ x).1) (fun k hk x=>(h.vb k hk).2.2.2 (hT _ x).1) (fun k hk x=>(h.db k hk).2.2.2.2 (hT _ x).1) (fun k x => .inr (hT k x).2) (U':=U) (fun k hk => .inl hk)
 ⟨⟨h'.row,h'.own,fun k hk=>(h'.vb k hk).1,fun k hk=>⟨(h'.db k hk).1,(h'.db k hk).2.2.2.1⟩⟩,h'.mods⟩
theorem xH.prow {w w':World}{v:Value}{L:List EV} (h:xH w w' v L):xK w' v L:=⟨h.row.rd,fun e he=>⟨(h.own e he).1.rd,(h.own e he).2.rd⟩⟩
theorem xH.lt {w w':World}{v:Value}{L:List EV} (h:xH w w' v L):(∀ k,v.ownBlock=some k→k<w'.heap.size)∧∀ k,wS L k→k<w'.heap.size:=⟨h.row.lt,fun k ⟨e,he,hk⟩=>by
 rcases hk with hk | hk
 ·exact (h.own e he).1.lt k hk
 ·exact (h.own e he).2.lt k hk⟩
open Go.Gl Go.RowKit
open Go.Gl Go.RowKit
theorem U2:(Tryz.prog.info? 152).map (fun i=>(i.zero,i.size,i.bytes))=some (some (.agg #[.slice none 0 0,.slice none 0 0]),2,48):=by kernel_rfl
theorem dm0 {w:World}{x0 x1 x2 x3 x4 x5 x6 x7 x8 x9 bg bn bi aY aU aS aT aW aZ aX:Value}{df:List Deferred}{Q:Exit→Act→World→Prop}
  (hK:∀  (w':World),w'=w→Q .normal ⟨#[x0,x1,.slice none 0 0,x3,x4,x5,x6,x7,x8,x9,bg,bn,bi,aY,aU,aS,aT,aW,aZ,aX],df⟩ w'):RW Tryz.prog (aH 0 Tryz.f20) false Q ⟨#[x0,x1,x2,x3,x4,x5,x6,x7,x8,x9,bg,bn,bi,aY,aU,aS,aT,aW,aZ,aX],df⟩ w:=by
 have HQ:=lh hK
 clear hK
 refine bZ [(0,false)] (by kernel_rfl) ?_
 refine aC [0] [(.slice none 0 0)] rfl (by kernel_rfl) (by kernel_rfl) (.inr trivial) ?_
 exact aA (aQ (K:=Q .normal) (by kernel_rfl) (HQ.out  _ rfl))
theorem dm1 {w:World}{x0 x1 x2 x3 x4 x5 x6 x7 x8 x9 bg bn bi aY aU aS aT aW aZ aX:Value}{df:List Deferred}{Q:Exit→Act→World→Prop}
  (hK:∀ (bq:Nat) (w':World),bq=w.heap.size→w'.heap[bq]?=some (.cells #[.slice none 0 0] 29 (0,0))→ae ai w w'→Q .normal ⟨#[x0,x1,x2,.pointer (some ⟨bq,0,none⟩),x4,x5,x6,x7,x8,x9,bg,bn,bi,aY,aU,aS,aT,aW,aZ,aX],df⟩ w'):RW Tryz.prog (aH 1 Tryz.f20) false Q ⟨#[x0,x1,x2,x3,x4,x5,x6,x7,x8,x9,bg,bn,bi,aY,aU,aS,aT,aW,aZ,aX],df⟩ w:=by
 have HQ:=lh hK
 clear hK
 refine bZ [(0,false)] (by kernel_rfl) ?_
 refine fU (.cells #[.slice none 0 0] 29) (some 3) (ki (by kernel_rfl)) (by kernel_rfl) ?_
 intro k1 w_k1 hk_k1 hO_k1 hm_k1 hl_k1
 refine⟨fun _=>trivial,?_⟩
 exact aA (aQ (K:=Q .normal) (by kernel_rfl) (HQ.out  k1 w_k1 hk_k1 hO_k1 hm_k1))
section
variable {x0 x1 x2 x3 x4 x5 x6 x7 x8 x9 bg bn bi aY aU aS aT aW aZ aX:Value}{df:List Deferred}{Q:Exit→Act→World→Prop}
theorem dm2 {w:World}{sg mg:Nat}{X:Nat→Nat→Nat→Value→Value→World→Prop} (c1:w.cell? ⟨sg,0,none⟩=some (.pointer (some ⟨mg,0,none⟩))) (hC:Calls Tryz.prog 91 #[.pointer (some ⟨mg,0,none⟩),.slice none 0 0,.slice none 0 0] w fun e w'=>∃ m bf bt fv' tv',e = .returned (.func (.func 159) #[] #[.pointer (some ⟨m,0,none⟩),.pointer (some ⟨bf,0,none⟩),.pointer (some ⟨bt,0,none⟩)])∧X m bf bt fv' tv' w')
  (hK:∀ (y6 y7 y8 y9:Value) (m bf bt:Nat) (fv' tv':Value) (w':World),X m bf bt fv' tv' w'→Q .normal ⟨#[.pointer (some ⟨sg,0,none⟩),x1,x2,x3,x4,x5,y6,y7,y8,y9,.func (.func 159) #[] #[.pointer (some ⟨m,0,none⟩),.pointer (some ⟨bf,0,none⟩),.pointer (some ⟨bt,0,none⟩)],bn,bi,aY,aU,aS,aT,aW,aZ,aX],df⟩ w'):RW Tryz.prog (aH 2 Tryz.f20) false Q ⟨#[.pointer (some ⟨sg,0,none⟩),x1,x2,x3,x4,x5,x6,x7,x8,x9,bg,bn,bi,aY,aU,aS,aT,aW,aZ,aX],df⟩ w:=by
 have HQ:=lh hK
 clear hK
 refine bZ [(0,false),(1,false),(2,false),(3,false),(4,false)] (by kernel_rfl) ?_
 refine aC [0,1,2] [aj sg 0,aj sg 0,aj sg 0] rfl (by kernel_rfl) (by kernel_rfl) (.inr trivial) ?_
 refine aP (aj mg 0) _ (some 9) (ki (by kernel_rfl)) (aB (x:=(.tmp 8)) (by kernel_rfl) (by kernel_rfl) (aO ((fun _=>c1) (trivial)) Tryz.underlying129 rfl)) (fun _=>trivial) ?_
 refine az (some 10) (ki (by kernel_rfl)) hC (fun _=>by kernel_rfl) ?_
 rintro r w7 ⟨m,bf,bt,fv',tv',rfl,hh⟩
 refine⟨_,rfl,fun _=>trivial,?_⟩
 exact aA (aQ (K:=Q .normal) (by kernel_rfl) (HQ.out (aj sg 0) (aj sg 0) (aj sg 0) (aj mg 0) m bf bt fv' tv' w7 hh))
theorem dm3 {w:World}{v:Value}{x0 x1 x2 x3 x4 x5 x6 x7 x8 x9 bg bi aY aU aS aT aW aZ aX:Value}{df:List Deferred}{Q:Exit→Act→World→Prop}
  (hK:∀  (w':World),w'=w→Q .normal ⟨#[x0,x1,x2,x3,v,x5,x6,x7,x8,x9,bg,v,bi,aY,aU,aS,aT,aW,aZ,aX],df⟩ w'):RW Tryz.prog (aH 3 Tryz.f20) false Q ⟨#[x0,x1,x2,x3,x4,x5,x6,x7,x8,x9,bg,v,bi,aY,aU,aS,aT,aW,aZ,aX],df⟩ w:=by
 have HQ:=lh hK
 clear hK
 refine bZ [(0,false)] (by kernel_rfl) ?_
 refine aC [0] [v] rfl (by kernel_rfl) (by kernel_rfl) (.inr trivial) ?_
 exact aA (aQ (K:=Q .normal) (by kernel_rfl) (HQ.out  _ rfl))
theorem dm4 {w:World}{v:Value}{x0 x1 x2 x3 x4 x5 x6 x7 x8 x9 bg bn aY aU aS aT aW aZ aX:Value}{df:List Deferred}{Q:Exit→Act→World→Prop}
  (hK:∀  (w':World),w'=w→Q .normal ⟨#[x0,x1,x2,x3,x4,v,x6,x7,x8,x9,bg,bn,v,aY,aU,aS,aT,aW,aZ,aX],df⟩ w'):RW Tryz.prog (aH 4 Tryz.f20) false Q ⟨#[x0,x1,x2,x3,x4,x5,x6,x7,x8,x9,bg,bn,v,aY,aU,aS,aT,aW,aZ,aX],df⟩ w:=by
 have HQ:=lh hK
 clear hK
 refine bZ [(0,false)] (by kernel_rfl) ?_
 refine aC [0] [v] rfl (by kernel_rfl) (by kernel_rfl) (.inr trivial) ?_
 exact aA (aQ (K:=Q .normal) (by kernel_rfl) (HQ.out  _ rfl))
theorem dm5 {w:World}{ob n nk ck nv cv:Nat}{ak av:Option Addr}{vo:Value}{pcs:List Value}{t:TypeId} (hg:w.heap[ob]?=some (.cells #[vo] t (0,0))) (hr:bC w 152 2 vo n pcs) (hn:n≤100000000) (hvo:¬ eY vo ob)
  (hK:∀ (kF jV jW jO jC kG:Value) (v8:Value) (w8:World) (w':World),bC w8 152 2 v8 (n+1) (pcs ++ [(.slice ak nk ck),(.slice av nv cv)])→ae (eY vo) w w8→(v8.ownBlock=vo.ownBlock∨aG w v8)→w'=w8.setCell ⟨ob,0,none⟩ v8→Q .normal ⟨#[x0,x1,x2,.pointer (some ⟨ob,0,none⟩),(.slice ak nk ck),(.slice av nv cv),x6,x7,x8,x9,bg,bn,bi,kF,jV,jW,jO,jC,kG,aX],df⟩ w'):RW Tryz.prog (aH 5 Tryz.f20) false Q ⟨#[x0,x1,x2,.pointer (some ⟨ob,0,none⟩),(.slice ak nk ck),(.slice av nv cv),x6,x7,x8,x9,bg,bn,bi,aY,aU,aS,aT,aW,aZ,aX],df⟩ w:=by
 have HQ:=lh hK
 clear hK
 have HR:=lh hr
 have HG:=lh hg
 have q0:w.cell? ⟨ob,0,none⟩=some vo:=af hg 0
 clear hr hg
 have MR:=lh (ae.refl ai w)
 refine bZ [(0,false),(1,false),(2,false),(3,false),(4,false),(5,false),(6,false)] (by kernel_rfl) ?_
 refine aP (vo) _ (some 13) (ki (by kernel_rfl)) (aB (x:=(.tmp 3)) (by kernel_rfl) (by kernel_rfl) (aO ((fun _=>q0) (trivial)) Tryz.underlying29 rfl)) (fun _=>trivial) ?_
 refine aC [1,2,3] [(.slice ak nk ck),(.slice av nv cv),.agg #[(.slice ak nk ck),(.slice av nv cv)]] rfl (by kernel_rfl) (by kernel_rfl) (.inr trivial) ?_
 refine gq (.cells #[(.slice ak nk ck),(.slice av nv cv)] 152) 1 (some 17) (ki (by kernel_rfl)) (by kernel_rfl) ?_
 intro k1 w_k1 hk_k1 hO_k1 hm_k1 hl_k1
 have MZ:=MR.out.size
 replace MR:=lh (MR.out.then0 hm_k1)
 refine⟨fun _=>trivial,?_⟩
 obtain⟨inf,hi,hz,hs,hby⟩:=info_parts U2
 obtain⟨v8,w8,hr8,o8,m8,f8⟩:=wH (P:=Tryz.prog) 29 29 29 152 152 inf (.agg #[.slice none 0 0,.slice none 0 0]) Tryz.underlying29 Tryz.underlying29 hi hz (by rw [hs];rfl) (by rw [hs];exact HR.out.keep MR.out (fun _ _ x=>x)) (m:=1) (ys:=[(.slice ak nk ck),(.slice av nv cv)]) (by rw [hs];exact bC.rd (yX hO_k1).own) (by intro y hy;simp at hy;rcases hy with rfl | rfl <;> rfl) (by unfold maxLen;omega) (by rw [hby];omega)
 rw [hs] at o8
 refine aP v8 w8 (some 18) (ki (by kernel_rfl)) (of_append (x:=(.tmp 13)) (y:=(.tmp 17)) (by kernel_rfl) (by kernel_rfl) (by kernel_rfl) hr8) (fun _=>trivial) ?_
 have m78:=hm_k1.trans m8 (U:=eY vo) (fun _ _ x=>x.elim) (fun _ _ x=>x)
 have f9:=f8.imp id (fun h=>h.of hm_k1.size)
 have hg8:=m78.heap HG.out hvo
 obtain⟨a8,c8,e8,_⟩:=o8.rd.form
 have h18:v8.oneCell'=true:=by rw [e8];rfl
 clear e8
 refine gU (ty:=29) (x:=(.tmp 3)) (y:=(.tmp 18)) (g:=ob) (off:=0) (v:=v8) none (ki (by kernel_rfl)) (by kernel_rfl) (by kernel_rfl) (by kernel_rfl) (by kernel_rfl) (by rw [af hg8];rfl) (bY hg8 _) (h18) ?_
 intro w9 hw9
 refine⟨(fun h=>by first | (cases h;done) | exact trivial),?_⟩
 exact aA (aQ (K:=Q .normal) (by kernel_rfl) (HQ.out (vo) ((.slice ak nk ck)) ((.slice av nv cv)) (.agg #[(.slice ak nk ck),(.slice av nv cv)]) (.slice (some ⟨k1,0,none⟩) 1 1) (v8) v8 w8 w9 o8 m78 f9 hw9))
theorem dm6 {w:World}{ob:Nat}{v:Value} (q0:w.cell? ⟨ob,0,none⟩=some v)
  (hK:∀ (kH:Value)  (w':World),w'=w→Q .normal ⟨#[x0,x1,v,.pointer (some ⟨ob,0,none⟩),x4,x5,x6,x7,x8,x9,bg,bn,bi,aY,aU,aS,aT,aW,aZ,kH],df⟩ w'):RW Tryz.prog (aH 6 Tryz.f20) false Q ⟨#[x0,x1,x2,.pointer (some ⟨ob,0,none⟩),x4,x5,x6,x7,x8,x9,bg,bn,bi,aY,aU,aS,aT,aW,aZ,aX],df⟩ w:=by
 have HQ:=lh hK
 clear hK
 refine bZ [(0,false),(1,false)] (by kernel_rfl) ?_
 refine aP (v) _ (some 19) (ki (by kernel_rfl)) (aB (x:=(.tmp 3)) (by kernel_rfl) (by kernel_rfl) (aO ((fun _=>q0) (trivial)) Tryz.underlying29 rfl)) (fun _=>trivial) ?_
 refine aC [1] [v] rfl (by kernel_rfl) (by kernel_rfl) (.inr trivial) ?_
 exact aA (aQ (K:=Q .normal) (by kernel_rfl) (HQ.out (v) _ rfl))
end
open Go.Gl Go.RowKit
theorem KM.tickR {A B:World}{sg mg:Nat}{vo jv:Value}{R:List PV}{J:List JV}{c:Int} (h:KM A sg mg vo R jv J c) (t:tickR sg A B):KM B sg mg vo R jv J (c+1):=by
 obtain⟨c',h1,e⟩:=t
 have:c'=c:=by
  have:=h.cells.2.2.1
  rw [h1] at this
  simpa using this
 subst this
 exact (h.tick e).km
theorem KM.okS {A:World}{sg mg:Nat}{vo jv:Value}{R:List PV}{J:List JV}{c:Int} (h:KM A sg mg vo R jv J c) (h0:0≤c) (h1:c≤4611686018427387904):OkS sg mg A:=⟨⟨c,h.cells.2.2.1,h.cells.2.2.2 2,by omega,by omega⟩,h.cells.1,h.lt sg (.inl rfl)⟩
open Go.Gl Go.RowKit
theorem Nj {R:List PV} (ok:gY (aI R)):(lU R [] []).map EV.ent=(aI R).flatten:=IL ok
theorem NW {w:World}{sg mg:Nat}{vo jv:Value}{R:List PV}{J:List JV}{n:Int} (h:KM w sg mg vo R jv J n) (ok:gY (aI R)) (hn:R.length≤1000000) (hc:(aI R).flatten.length≤100000000) :
  Calls Tryz.prog 20 #[.pointer (some ⟨sg,0,none⟩)] w fun e w'=>∃ v L,e = .returned v∧xH w w' v L∧ae ai w w'∧L.map EV.ent=(aI R).flatten:=by
 have hLL:(lU R [] []).length≤100000000:=by have:=congrArg List.length (Nj ok);rw [List.length_map] at this;omega
 rw [← Nj ok]
 (refine lG _ Tryz.func20 rfl ?_;simp only [Tryz.ntmps20,List.size_toArray,List.length_cons,List.length_nil,Nat.reduceAdd,Nat.reduceSub,Array.replicate_succ,Array.replicate_zero,List.push_toArray,List.append_toArray,List.nil_append,List.cons_append])
 refine wpIn_seq ?_
 refine bW (d := .region 0 (aH 0 Tryz.f20) false) (by kernel_rfl) ?_
 refine RW.wpIn (dm0 ?_) (by kernel_rfl)
 intro w1 e1
 subst e1
 refine bP ?_
 refine wpIn_seq ?_
 refine bW (d := .region 1 (aH 1 Tryz.f20) false) (by kernel_rfl) ?_
 refine RW.wpIn (dm1 ?_) (by kernel_rfl)
 intros
 rename_i ob w2 e2 h2 m2
 refine bP ?_
 have k2:=h.keep0 m2
 refine wpIn_seq ?_
 refine wpIn_seq ?_
 refine bW (d := .region 2 (aH 2 Tryz.f20) false) (by kernel_rfl) ?_
 refine RW.wpIn (dm2 k2.cells.1 (F5 k2.pm (Rd.nil w2) (Rd.nil w2) (by simp) (by simp)) ?_) (by kernel_rfl)
 intros
 rename_i m bf bt fv tv w3 hr
 refine bP ?_
 obtain⟨wp,m3,g3,g4,g5,f3,f4⟩:=hr
 have hlo:=lt_of_heap h2
 have s2:=m2.size
 have s3:=m3.size
 have hob3:=m3.heap h2 (fun x=>x)
 have nU:¬ Eu mg vo R m bf bt fv tv ob:=fun x=>by
  rcases x with (x | x | x | x | x) | x | x
  ·have:=h.pm.lt ob x;omega
  ·have:=h.pm.dlt ob x;omega
  ·omega
  ·omega
  ·have:=f3 ob x;omega
  ·omega
  ·have:=f4 ob x;omega
 have hI0:rJ ai (fun _=>False) (fun _ => .deferred none) w1 (lU R [] []) ob 0 (Eu mg vo R m bf bt fv tv) w3 (.slice none 0 0) [] :=
  ⟨hob3,fun k x=>x.elim,⟨rfl,.inl ⟨rfl,rfl⟩⟩,fun e he=>(List.not_mem_nil he).elim,rfl,nU,fun k x=>x.elim,fun k hk=>by simp [Value.ownBlock] at hk,fun k ⟨e,he,_⟩=>(List.not_mem_nil he).elim,by omega,fun k x=>x.elim,fun x=>x,m2.then0 m3,fun k x=>x.elim⟩
 refine wpIn_block ?_
 refine wW (by rfl) (enters_of Tryz.func159 (by kernel_rfl) rfl) (Eb wp ok hn (by simp)) (ae.refl _ _) wp.lt (wR _ _) (fun i U args W1 hA=>by obtain⟨e,kv,vv,_,rfl,_⟩:=hA;rfl)
  (fun i U Wr=>i≤(lU R [] []).length∧∃ v L,rJ ai (fun _=>False) (fun _ => .deferred none) w1 (lU R [] []) ob i U Wr v L)
  (fun c i U Wr=>False)
  ?_ ?_ ⟨Nat.zero_le _,_,_,hI0⟩ ?_ ?_ ?_
 ·rintro i U U' A B' ⟨h1,v,L,h3⟩ hm hus hsub
  exact⟨h1,v,L,h3.frm (by omega) hm hsub⟩
 ·rintro c i U U' A B' h1 hm hus hsub
  exact h1
 ·-- one round
  intro lp i U args Wr hlp hUlp hi _ ⟨e,kv,vv,hei,hargs,hok,hov,hkU,hvU,hkv,hkB,hvB⟩ hUs hwr _ ⟨hin,v,L,hI⟩ hab
  subst hargs
  obtain⟨ak,ck,rfl,_⟩:=hok.rd.form
  obtain⟨av,cv,rfl,_⟩:=hov.rd.form
  simp only [jF,List.setIfInBounds_toArray,List.set_cons_succ,List.set_cons_zero]
  refine wpIn_seq ?_
  refine bW (d := .region 3 (aH 3 Tryz.f20) false) (by kernel_rfl) ?_
  refine RW.wpIn (dm3 ?_) (by kernel_rfl)
  intro w4 e4
  subst e4
  refine bP ?_
  refine bW (d := .region 4 (aH 4 Tryz.f20) false) (by kernel_rfl) ?_
  refine RW.wpIn (dm4 ?_) (by kernel_rfl)
  intro w4 e4
  subst e4
  refine bP ?_
  refine⟨ae.refl _ _,?_⟩
  intro W2 m2' _
  have hI2:=hI.frm (by omega) (B:=W2) (base:=w3.heap.size) (U':=fun k=>U k∨iR #[.slice ak e.k.length ck,.slice av e.v.length cv] k) (m2'.mono (fun k _ hk=>by subst hk;exact⟨.inl hUlp,.inr hlp⟩)) (fun k hk => .inl hk)
  have hok2:=hok.keep m2' (fun k hk x=>hkU k hk (x▸hUlp))
  have hov2:=hov.keep m2' (fun k hk x=>hvU k hk (x▸hUlp))
  have hUs2:∀ k,U k→k<W2.heap.size:=fun k hk=>Nat.lt_of_lt_of_le (hUs k hk) m2'.size
  have hlen:L.length=i:=by
   have:=congrArg List.length hI2.eq
   rw [List.length_map,List.length_map,List.length_take] at this
   omega
  have hsz2:w4.heap.size≤W2.heap.size:=m2'.size
  refine wpIn_block ?_
  refine bW (d := .region 5 (aH 5 Tryz.f20) false) (by kernel_rfl) ?_
  refine RW.wpIn (dm5 hI2.hob hI2.row (by omega) (fun x=>(hI2.vb ob x).2.1 rfl) ?_) (by kernel_rfl)
  intros
  rename_i v8 w8 w9 o8 m8 f8 h9
  refine jh ?_
  obtain⟨hS,hM,_⟩:=hI2.step0 hlen hei hUs2 hI2.mods.size hkU hvU (fun k hk=>by have:=hkB k hk;omega) (fun k hk=>by have:=hvB k hk;omega) hok2 hov2 o8 m8 f8 h9
  exact⟨hM,hi,_,_,hS⟩
 ·-- all have come
  rintro D U W5 hD hUD hus ⟨h1,v,L,h3⟩ hdef
  refine jh ?_
  refine bP ?_
  refine wpIn_seq ?_
  refine bW (d := .region 6 (aH 6 Tryz.f20) false) (by kernel_rfl) ?_
  refine RW.wpIn (dm6 (af h3.hob 0) ?_) (by kernel_rfl)
  intros
  rename_i w6 e6
  subst e6
  refine bP ?_
  refine wpIn_ret ?_
  refine iF hdef (results_tmp rfl _ _ _) ?_
  obtain⟨g,gm⟩:=h3.got (fA _ D _) (fun k hk=>by subst hk;exact⟨hUD,by omega⟩)
  refine⟨v,L,rfl,g,gm,?_⟩
  rw [h3.eq,List.take_length]
 ·rintro D c i U W5 hD hUD hus hi h1 hdef
  exact h1.elim
open Go.Gl Go.RowKit
open Go.Gl Go.RowKit
open Go.Gl Go.RowKit
theorem ry {ps:Pgs} (ok:gY ps):ps.length≤ps.flatten.length:=by
  have key:∀ qs:Pgs,(∀ p∈qs,p≠[])→qs.length≤qs.flatten.length:=fun qs=>by
    induction qs with
    | nil=>intro _;simp
    | cons q qs ih =>
      intro h
      have h1:=ih (fun p hp=>h p (List.mem_cons_of_mem _ hp))
      have h2:=h q (List.mem_cons_self ..)
      have h3:q.length≠0:=fun e=>h2 (List.eq_nil_of_length_eq_zero e)
      rw [List.flatten_cons,List.length_append,List.length_cons]
      omega
  exact key ps ok.ne
theorem Qc {l:List aN} (h:iD l) (k v:List UInt8):(insL l k v).length≤l.length+1:=by
 have h3:=congrArg List.length (yD h k)
 rw [List.length_append,List.length_append] at h3
 have h4:(insL l k v).length=(l.filter (fun e=>aJ e.1 k)).length+((l.filter (fun e=>aJ k e.1)).length+1):=by unfold insL;rw [List.length_append,List.length_cons]
 rw [h4]
 omega
theorem Qy {l:List aN} (h:iD l) (k:List UInt8):(iC l k).length≤l.length:=by
 have h3:=congrArg List.length (yD h k)
 rw [List.length_append,List.length_append] at h3
 have h4:(iC l k).length=(l.filter (fun e=>aJ e.1 k)).length+(l.filter (fun e=>aJ k e.1)).length:=by unfold iC;rw [List.length_append]
 rw [h4]
 omega
open Go.Gl Go.RowKit
theorem KS.made {sg mg:Nat}{vo:Value}{R:List PV}{k:Nat} (h:KS sg mg vo R (.slice none 0 0) [] k):k=sg∨MS mg vo R k:=by
 rcases h with h | h | h | ⟨q,hq,_⟩
 ·exact .inl h
 ·exact .inr h
 ·simp [Value.ownBlock] at h
 ·exact (List.not_mem_nil hq).elim
theorem KD.made {R:List PV}{k:Nat} (h:KD R [] k):MD R k:=by
 rcases h with h | ⟨q,hq,_⟩
 ·exact h
 ·exact (List.not_mem_nil hq).elim
open Go.Gl Go.RowKit
def JU (J:List JV):List (List yE):=(J.map (fun q=>q.us.map (·.u))).reverse
def uU (J:List JV):Nat:=(J.map (fun q=>q.us.length)).sum
theorem MP (ls:List (List yE)):∀ F,(uA ls F).length=ls.length:=by
 induction ls with
 | nil=>intro F;rfl
 | cons l ls ih=>intro F;simp [uA,ih]
theorem Vf (J:List JV):(JU J).length=J.length:=by simp [JU]
theorem Jz (A:List JV) (q:JV):JU (A ++ [q])=q.us.map (·.u) :: JU A:=by simp [JU]
theorem Hr (A:List JV) (q:JV):uU (A ++ [q])=uU A+q.us.length:=by simp [uU]
theorem Jb {J:List JV}{q:JV} (h:q∈J):q.us.length≤uU J:=by
  induction J with
  | nil=>cases h
  | cons a J ih =>
    have e:uU (a :: J)=a.us.length+uU J:=by simp [uU]
    rcases List.mem_cons.1 h with rfl | h
    · omega
    · have:=ih h;omega
def KV (w:World) (sg:Nat) (F:List aN) (Ws:List (List aN)) (n p:Nat) (S D:Nat→Prop):Prop :=
 ∃ mg vo R jv J,KM w sg mg vo R jv J (n:Int)∧gY (aI R)∧(aI R).flatten=F∧uA (JU J) F=Ws∧J.length≤16∧F.length+uU J≤p∧S=KS sg mg vo R jv J∧D=KD R J
theorem KV.ris {w:World}{sg:Nat}{F:List aN}{Ws:List (List aN)}{n p:Nat}{S D:Nat→Prop} (h:KV w sg F Ws n p S D):iD F:=by
 obtain⟨mg,vo,R,jv,J,km,ok,rfl,_⟩:=h
 exact ok.ris
theorem KV.lt {w:World}{sg:Nat}{F:List aN}{Ws:List (List aN)}{n p:Nat}{S D:Nat→Prop} (h:KV w sg F Ws n p S D):(∀ k,S k→k<w.heap.size)∧(∀ k,D k→k<w.heap.size)∧S sg:=by
 obtain⟨mg,vo,R,jv,J,km,ok,hf,hw,hj,hp,rfl,rfl⟩:=h
 exact⟨km.lt,km.dlt,.inl rfl⟩
theorem KV.keep {w w':World}{sg:Nat}{F:List aN}{Ws:List (List aN)}{n p:Nat}{S D T:Nat→Prop} (h:KV w sg F Ws n p S D) (hm:ae T w w') (h1:∀ k,S k→¬ T k) (h2:∀ k,D k→¬ T k):KV w' sg F Ws n p S D:=by
 obtain⟨mg,vo,R,jv,J,km,ok,hf,hw,hj,hp,rfl,rfl⟩:=h
 exact⟨mg,vo,R,jv,J,km.keep hm h1 h2,ok,hf,hw,hj,hp,rfl,rfl⟩
theorem KV.keep0 {w w':World}{sg:Nat}{F:List aN}{Ws:List (List aN)}{n p:Nat}{S D:Nat→Prop} (h:KV w sg F Ws n p S D) (hm:ae ai w w'):KV w' sg F Ws n p S D:=h.keep hm (fun _ _ x=>x) (fun _ _ x=>x)
theorem KV.more {w:World}{sg:Nat}{F:List aN}{Ws:List (List aN)}{n p p':Nat}{S D:Nat→Prop} (h:KV w sg F Ws n p S D) (hp':p≤p'):KV w sg F Ws n p' S D:=by
 obtain⟨mg,vo,R,jv,J,km,ok,hf,hw,hj,hp,hs,hd⟩:=h
 exact⟨mg,vo,R,jv,J,km,ok,hf,hw,hj,by omega,hs,hd⟩
theorem KV.len {w:World}{sg:Nat}{F:List aN}{Ws:List (List aN)}{n p:Nat}{S D:Nat→Prop} (h:KV w sg F Ws n p S D):F.length≤p∧Ws.length≤16:=by
 obtain⟨mg,vo,R,jv,J,km,ok,hf,hw,hj,hp,hs,hd⟩:=h
 exact⟨by omega,by rw [← hw,MP,Vf];exact hj⟩
def JQ (w w':World) (sg:Nat) (S D:Nat→Prop) (F':List aN) (Ws':List (List aN)) (n' p':Nat):Prop :=
 ∃ S' D',KV w' sg F' Ws' n' p' S' D'∧ae S w w'∧(∀ k,S' k→S k∨w.heap.size≤k)∧(∀ k,D' k→D k∨w.heap.size≤k)
theorem GK {w w':World}{sg mg:Nat}{vo jv vo' jv':Value}{R R':List PV}{J J':List JV}{n' p':Nat} (t:KT w w' sg mg vo R jv J vo' R' jv' J' (n':Int)) (ok:gY (aI R')) (hj:J'.length≤16) (hp:(aI R').flatten.length+uU J'≤p') {F':List aN}{Ws':List (List aN)} (hf:(aI R').flatten=F') (hw:uA (JU J') F'=Ws') :
  JQ w w' sg (KS sg mg vo R jv J) (KD R J) F' Ws' n' p' :=
 ⟨_,_,⟨mg,vo',R',jv',J',t.km,ok,hf,hw,hj,by rw [← hf];exact hp,rfl,rfl⟩,t.mods,t.ks,t.kd⟩
theorem Dw {w:World}{sg mg:Nat}{vo jv:Value}{R:List PV}{J:List JV}{n:Int} (h:KM w sg mg vo R jv J n) (ok:gY (aI R)) {k v:List UInt8} (hg:qj (aI R) k=some v):v.length≤1000000:=by
 rw [vI ok] at hg
 have hm:=(xg (aI R).flatten k ok.ris).2 v hg
 obtain⟨l,hl,he⟩:=List.mem_flatten.1 hm
 obtain⟨p,hp,rfl⟩:=List.mem_map.1 hl
 obtain⟨e,hee,hev⟩:=List.mem_map.1 he
 have:=(h.pm.ents p hp e hee).lv
 have h2:e.v=v:=congrArg Prod.snd hev
 rw [← h2]
 exact this
theorem MI {ps:Pgs} (ok:gY ps) (k:List UInt8):(bK ps k).2.2=(gz ps.flatten k).isSome:=by
 rw [← vI ok]
 unfold qj
 cases (bK ps k).2.2 <;> rfl
theorem Ai {J J':List JV}{k:List UInt8}{F F':List aN} (old:Option (List UInt8)) (h:Bc J J' k old) (hu:wJ ⟨k,old⟩ F'=F):uA (JU J') F'=uA (JU J) F∧J'.length=J.length∧uU J'≤uU J+1:=by
 rcases h with ⟨rfl,rfl⟩ | ⟨A,q0,v,x,rfl,rfl,hx⟩
 ·exact⟨rfl,rfl,by omega⟩
 ·refine⟨?_,by simp,?_⟩
  ·rw [Jz,Jz,List.map_append,List.map_singleton,hx]
   exact KE hu _ _
  ·rw [Hr,Hr,List.length_append,List.length_singleton]
   omega
theorem hNew (w:World):Calls Tryz.prog 12 #[] w fun e w'=>∃ sg S D,e = .returned (.pointer (some ⟨sg,0,none⟩))∧KV w' sg [] [] 0 0 S D∧ae ai w w'∧(∀ k,S k→w.heap.size≤k)∧(∀ k,¬ D k):=by
 refine (Ru w).mono ?_
 rintro e w' ⟨sg,mg,rfl,km,m,g1,g2⟩
 refine⟨sg,_,_,rfl,⟨mg,_,[],_,[],km,⟨List.Pairwise.nil,fun p hp=>(List.not_mem_nil hp).elim,fun p hp=>(List.not_mem_nil hp).elim⟩,rfl,rfl,by simp,by simp [uU],rfl,rfl⟩,m,fun k hk=>?_,fun k hk=>?_⟩
 ·rcases hk.made with rfl | hk
  ·exact g1
  ·rcases hk with rfl | hk | ⟨p,hp,_⟩
   ·exact g2
   ·simp [Value.ownBlock] at hk
   ·exact (List.not_mem_nil hp).elim
 ·obtain⟨p,hp,_⟩:=hk.made
  exact (List.not_mem_nil hp).elim
section
variable {w:World}{sg n p:Nat}{F:List aN}{Ws:List (List aN)}{S D:Nat→Prop}
theorem hSet {q u:Value}{ks vs:List UInt8} (h:KV w sg F Ws n p S D) (hq:Rd w q ks) (hu:Rd w u vs) (hqs:Off S q ks) (hus:Off S u vs) (hn:n≤1000000000000) (hp:p≤100000) :
  Calls Tryz.prog 74 #[.pointer (some ⟨sg,0,none⟩),q,u] w fun e w'=>e = .returned (.int .i64 (jJ ks vs:Nat))∧JQ w w' sg S D (if jJ ks vs=0 then insL F ks vs else F) Ws (n+1) (p+2):=by
 obtain⟨mg,vo,R,jv,J,km,ok,rfl,rfl,hj,hpp,rfl,rfl⟩:=h
 have hb:=ry ok
 rw [fH] at hb
 refine (OJ km hq hu hqs hus (by omega) (by omega) ok (by omega) (by have:cnt (aI R)=(aI R).flatten.length:=rfl;omega) (by omega) (fun q hq=>by have:=Jb hq;omega) (fun v hv=>Dw km ok hv)).mono ?_
 rintro e w' ⟨rfl,⟨h0,t⟩ | ⟨h0,vo',R',J',t,e1,nt⟩⟩
 ·refine⟨rfl,?_⟩
  rw [if_neg h0]
  exact GK t ok hj (by omega) rfl rfl
 ·refine⟨rfl,?_⟩
  rw [if_pos h0]
  rw [vI ok] at nt
  obtain⟨s1,s2,s3⟩:=Ai _ nt (Qu ok.ris ks vs)
  have ef:(aI R').flatten=insL (aI R).flatten ks vs:=by rw [e1];exact ED ok _ _
  refine GK t (by rw [e1];exact Ub ok _ _) (by omega) ?_ ef s1
  rw [ef]
  have:=Qc ok.ris ks vs
  omega
theorem Tq {q:Value}{ks:List UInt8} (h:KV w sg F Ws n p S D) (hq:Rd w q ks) (hqs:Off S q ks) (lk:ks.length≤1000000) (hn:n≤1000000000000) (hp:p≤100000) :
  Calls Tryz.prog 145 #[.pointer (some ⟨sg,0,none⟩),q] w fun e w'=>e = .returned (.bool (gz F ks).isSome)∧JQ w w' sg S D (iC F ks) Ws (n+1) (p+2):=by
 obtain⟨mg,vo,R,jv,J,km,ok,rfl,rfl,hj,hpp,rfl,rfl⟩:=h
 have hb:=ry ok
 rw [fH] at hb
 refine (IB km hq hqs lk (by omega) (by omega) ok (by omega) (by have:cnt (aI R)=(aI R).flatten.length:=rfl;omega) (by omega) (fun q hq=>by have:=Jb hq;omega) (fun v hv=>Dw km ok hv)).mono ?_
 rintro e w' ⟨rfl,vo',R',J',t,e1,nt⟩
 rw [MI ok]
 refine⟨rfl,?_⟩
 rw [vI ok] at nt
 obtain⟨s1,s2,s3⟩:=Ai _ nt (PH ok.ris ks)
 have ef:(aI R').flatten=iC (aI R).flatten ks:=by rw [e1];exact Et ok _
 refine GK t (by rw [e1];exact SC ok _) (by omega) ?_ ef s1
 rw [ef]
 have:=Qy ok.ris ks
 omega
theorem hGet {q:Value}{ks:List UInt8} (h:KV w sg F Ws n p S D) (hq:Rd w q ks) (hqs:Off S q ks) (hn:n≤1000000000000) (hp:p≤100000) :
  Calls Tryz.prog 93 #[.pointer (some ⟨sg,0,none⟩),q] w fun e w'=>∃ v',e = .returned (.tuple #[v',.bool (gz F ks).isSome])∧Gl.Own w' v' ((gz F ks).getD [])∧KV w' sg F Ws (n+1) p S D∧ae S w w'∧aG w v':=by
 obtain⟨mg,vo,R,jv,J,km,ok,rfl,rfl,hj,hpp,rfl,rfl⟩:=h
 have hb:=ry ok
 rw [fH] at hb
 have:=P7 km hq ok (by omega) (by omega) (by omega) (hqs.mono (fun k e => .inl e))
 rw [vI ok] at this
 refine this.mono ?_
 rintro e w' ⟨v',rfl,o,t,f⟩
 exact⟨v',rfl,o,⟨mg,vo,R,jv,J,t.km,ok,rfl,rfl,hj,hpp,rfl,rfl⟩,t.mods,f⟩
theorem hDump (h:KV w sg F Ws n p S D) (hp:p≤100000):Calls Tryz.prog 20 #[.pointer (some ⟨sg,0,none⟩)] w fun e w'=>∃ v L,e = .returned v∧xH w w' v L∧ae ai w w'∧L.map EV.ent=F:=by
 obtain⟨mg,vo,R,jv,J,km,ok,rfl,rfl,hj,hpp,rfl,rfl⟩:=h
 have hb:=ry ok
 rw [fH] at hb
 exact NW km ok (by omega) (by omega)
end
theorem Jc {R:List PV} (ok:gY (aI R)) (xs:List UInt8):(sK R xs).map EV.ent=(aI R).flatten.filter (fun e=>dh xs e.1):=by
  have h1:(lU R xs []).map EV.ent=(aI R).flatten.filter (fun e => !aJ e.1 xs):=by
    have:=Js ok xs []
    rw [show (lU R xs []).map EV.ent=ents (lU R xs []) from rfl,this]
    refine List.filter_congr (fun e _=>?_)
    simp [btw]
  have h2:∀ l:List EV,(l.takeWhile (fun e=>dh xs e.k)).map EV.ent=(l.map EV.ent).takeWhile (fun e=>dh xs e.1):=fun l=>by
    induction l with
    | nil=>rfl
    | cons a l ih =>
      have ha:(EV.ent a).1=a.k:=rfl
      rw [List.map_cons,List.takeWhile_cons,List.takeWhile_cons,ha]
      cases dh xs a.k with
      | true=>simp only [if_true,List.map_cons,ih]
      | false=>rfl
  unfold sK
  rw [h2,h1]
  exact Io ok.ris xs
section
variable {w:World}{sg n p:Nat}{F:List aN}{Ws:List (List aN)}{S D:Nat→Prop}
end
open Go.Gl Go.RowKit
def KL (w0 w:World) (sg:Nat) (F:List aN) (Ws:List (List aN)) (n p:Nat) (Q:Nat→Prop):Prop :=
 ∃ S D,KV w sg F Ws n p S D∧(∀ k,Q k→¬ S k∧¬ D k∧k<w.heap.size)∧(∀ k,k<w0.heap.size→Q k)∧ae ai w0 w
def K2 (w0 w:World) (sg:Nat) (F:List aN) (Ws:List (List aN)) (n p:Nat) (sg2:Nat) (F2:List aN) (Ws2:List (List aN)) (n2 p2:Nat) (Q:Nat→Prop):Prop :=
 ∃ S D S2 D2,KV w sg F Ws n p S D∧KV w sg2 F2 Ws2 n2 p2 S2 D2∧(∀ k,Q k→¬ S k∧¬ D k∧¬ S2 k∧¬ D2 k∧k<w.heap.size)∧(∀ k,k<w0.heap.size→Q k)∧(∀ k,S k→¬ S2 k)∧(∀ k,D k→¬ S2 k)∧(∀ k,D2 k→¬ S k)∧ae ai w0 w
theorem JQ.refl {w:World}{sg n p:Nat}{F:List aN}{Ws:List (List aN)}{S D:Nat→Prop} (h:KV w sg F Ws n p S D):JQ w w sg S D F Ws n p:=⟨S,D,h,ae.refl _ _,fun _ => .inl,fun _ => .inl⟩
def CC (f:FuncId) (args:Array Value) (w:World) (sg:Nat) (F:List aN) (Ws:List (List aN)) (n p:Nat) (Q:Nat→Prop) (r:Value) (F':List aN) (Ws':List (List aN)) (n' p':Nat):Prop :=
 ∀ S D,KV w sg F Ws n p S D→(∀ k,Q k→¬ S k)→Calls Tryz.prog f args w fun e w'=>e = .returned r∧JQ w w' sg S D F' Ws' n' p'
section
variable {w0 w:World}{sg n p n' p':Nat}{F F':List aN}{Ws Ws':List (List aN)}{Q:Nat→Prop}
theorem KL.call {f:FuncId}{args:Array Value}{r:Value} (h:KL w0 w sg F Ws n p Q) (c:CC f args w sg F Ws n p Q r F' Ws' n' p'):Calls Tryz.prog f args w fun e w'=>e = .returned r∧KL w0 w' sg F' Ws' n' p' Q∧ae (fun k=>¬ Q k) w w':=by
 obtain⟨S,D,kv,hq,h0,m0⟩:=h
 refine (c S D kv (fun k hk=>(hq k hk).1)).mono ?_
 rintro e w' ⟨rfl,S',D',kv',m,hs,hd⟩
 refine⟨rfl,⟨S',D',kv',fun k hk=>⟨fun x=>?_,fun x=>?_,Nat.lt_of_lt_of_le (hq k hk).2.2 m.size⟩,h0,m0.trans m (fun _ _ x=>x) (fun k hk x=>(hq k (h0 k hk)).1 x)⟩,m.mono (fun k _ hk x=>(hq k x).1 hk)⟩
 ·rcases hs k x with y | y
  ·exact (hq k hk).1 y
  ·have:=(hq k hk).2.2;omega
 ·rcases hd k x with y | y
  ·exact (hq k hk).2.1 y
  ·have:=(hq k hk).2.2;omega
theorem KL.keep0 {w':World} (h:KL w0 w sg F Ws n p Q) (m:ae ai w w'):KL w0 w' sg F Ws n p Q:=by
 obtain⟨S,D,kv,hq,h0,m0⟩:=h
 exact⟨S,D,kv.keep0 m,fun k hk=>⟨(hq k hk).1,(hq k hk).2.1,Nat.lt_of_lt_of_le (hq k hk).2.2 m.size⟩,h0,m0.then0 m⟩
theorem KL.grow {w':World}{Q':Nat→Prop} (h:KL w0 w sg F Ws n p Q) (m:ae ai w w') (hq':∀ k,Q' k→Q k∨(w.heap.size≤k∧k<w'.heap.size)) (h1:∀ k,k<w0.heap.size→Q' k):KL w0 w' sg F Ws n p Q':=by
 obtain⟨S,D,kv,hq,h0,m0⟩:=h
 refine⟨S,D,kv.keep0 m,fun k hk=>?_,h1,m0.then0 m⟩
 rcases hq' k hk with x | ⟨x,y⟩
 ·exact⟨(hq k x).1,(hq k x).2.1,Nat.lt_of_lt_of_le (hq k x).2.2 m.size⟩
 ·exact⟨fun z=>by have:=kv.lt.1 k z;omega,fun z=>by have:=kv.lt.2.1 k z;omega,y⟩
theorem KL.turn {w':World}{T:Nat→Prop} (h:KL w0 w sg F Ws n p Q) (m:ae T w w') (ht:∀ k,T k→Q k∧w0.heap.size≤k):KL w0 w' sg F Ws n p Q:=by
 obtain⟨S,D,kv,hq,h0,m0⟩:=h
 exact⟨S,D,kv.keep m (fun k hk x=>(hq k (ht k x).1).1 hk) (fun k hk x=>(hq k (ht k x).1).2.1 hk),fun k hk=>⟨(hq k hk).1,(hq k hk).2.1,Nat.lt_of_lt_of_le (hq k hk).2.2 m.size⟩,h0,m0.trans m (fun _ _ x=>x) (fun k hk x=>by have:=(ht k x).2;omega)⟩
theorem KL.more {p2:Nat} (h:KL w0 w sg F Ws n p Q) (hp:p≤p2):KL w0 w sg F Ws n p2 Q:=by
 obtain⟨S,D,kv,r⟩:=h
 exact⟨S,D,kv.more hp,r⟩
theorem KL.less {Q':Nat→Prop} (h:KL w0 w sg F Ws n p Q) (hq:∀ k,Q' k→Q k) (h1:∀ k,k<w0.heap.size→Q' k):KL w0 w sg F Ws n p Q':=by
 obtain⟨S,D,kv,q,h0,m0⟩:=h
 exact⟨S,D,kv,fun k hk=>q k (hq k hk),h1,m0⟩
theorem KL.mods (h:KL w0 w sg F Ws n p Q):ae ai w0 w:=by obtain⟨_,_,_,_,_,m⟩:=h;exact m
theorem KL.ris (h:KL w0 w sg F Ws n p Q):iD F:=by obtain⟨_,_,kv,_⟩:=h;exact kv.ris
theorem KL.len (h:KL w0 w sg F Ws n p Q):F.length≤p∧Ws.length≤16:=by obtain⟨_,_,kv,_⟩:=h;exact kv.len
theorem KL.q0 (h:KL w0 w sg F Ws n p Q):∀ k,k<w0.heap.size→Q k:=by obtain⟨_,_,_,_,a,_⟩:=h;exact a
variable {sg2 n2 p2:Nat}{F2:List aN}{Ws2:List (List aN)}
theorem K2.swap (h:K2 w0 w sg F Ws n p sg2 F2 Ws2 n2 p2 Q):K2 w0 w sg2 F2 Ws2 n2 p2 sg F Ws n p Q:=by
 obtain⟨S,D,S2,D2,kv,kv2,hq,h0,a1,a2,a3,m0⟩:=h
 exact⟨S2,D2,S,D,kv2,kv,fun k hk=>⟨(hq k hk).2.2.1,(hq k hk).2.2.2.1,(hq k hk).1,(hq k hk).2.1,(hq k hk).2.2.2.2⟩,h0,fun k x y=>a1 k y x,a3,a2,m0⟩
theorem K2.one (h:K2 w0 w sg F Ws n p sg2 F2 Ws2 n2 p2 Q):KL w0 w sg F Ws n p Q:=by
 obtain⟨S,D,S2,D2,kv,kv2,hq,h0,a1,a2,a3,m0⟩:=h
 exact⟨S,D,kv,fun k hk=>⟨(hq k hk).1,(hq k hk).2.1,(hq k hk).2.2.2.2⟩,h0,m0⟩
theorem K2.call {f:FuncId}{args:Array Value}{r:Value} (h:K2 w0 w sg F Ws n p sg2 F2 Ws2 n2 p2 Q) (c:CC f args w sg F Ws n p Q r F' Ws' n' p'):Calls Tryz.prog f args w fun e w'=>e = .returned r∧K2 w0 w' sg F' Ws' n' p' sg2 F2 Ws2 n2 p2 Q∧ae (fun k=>¬ Q k) w w':=by
 obtain⟨S,D,S2,D2,kv,kv2,hq,h0,a1,a2,a3,m0⟩:=h
 refine (c S D kv (fun k hk=>(hq k hk).1)).mono ?_
 rintro e w' ⟨rfl,S',D',kv',m,hs,hd⟩
 have l2:=kv2.lt
 refine⟨rfl,⟨S',D',S2,D2,kv',kv2.keep m (fun k hk x=>a1 k x hk) (fun k hk x=>a3 k hk x),fun k hk=>⟨fun x=>?_,fun x=>?_,(hq k hk).2.2.1,(hq k hk).2.2.2.1,Nat.lt_of_lt_of_le (hq k hk).2.2.2.2 m.size⟩,h0,fun k x y=>?_,fun k x y=>?_,fun k x y=>?_,m0.trans m (fun _ _ x=>x) (fun k hk x=>(hq k (h0 k hk)).1 x)⟩,m.mono (fun k _ hk x=>(hq k x).1 hk)⟩
 ·rcases hs k x with y | y
  ·exact (hq k hk).1 y
  ·have:=(hq k hk).2.2.2.2;omega
 ·rcases hd k x with y | y
  ·exact (hq k hk).2.1 y
  ·have:=(hq k hk).2.2.2.2;omega
 ·rcases hs k x with z | z
  ·exact a1 k z y
  ·have:=l2.1 k y;omega
 ·rcases hd k x with z | z
  ·exact a2 k z y
  ·have:=l2.1 k y;omega
 ·rcases hs k y with z | z
  ·exact a3 k x z
  ·have:=l2.2.1 k x;omega
theorem K2.keep0 {w':World} (h:K2 w0 w sg F Ws n p sg2 F2 Ws2 n2 p2 Q) (m:ae ai w w'):K2 w0 w' sg F Ws n p sg2 F2 Ws2 n2 p2 Q:=by
 obtain⟨S,D,S2,D2,kv,kv2,hq,h0,a1,a2,a3,m0⟩:=h
 exact⟨S,D,S2,D2,kv.keep0 m,kv2.keep0 m,fun k hk=>⟨(hq k hk).1,(hq k hk).2.1,(hq k hk).2.2.1,(hq k hk).2.2.2.1,Nat.lt_of_lt_of_le (hq k hk).2.2.2.2 m.size⟩,h0,a1,a2,a3,m0.then0 m⟩
theorem K2.grow {w':World}{Q':Nat→Prop} (h:K2 w0 w sg F Ws n p sg2 F2 Ws2 n2 p2 Q) (m:ae ai w w') (hq':∀ k,Q' k→Q k∨(w.heap.size≤k∧k<w'.heap.size)) (h1:∀ k,k<w0.heap.size→Q' k):K2 w0 w' sg F Ws n p sg2 F2 Ws2 n2 p2 Q':=by
 obtain⟨S,D,S2,D2,kv,kv2,hq,h0,a1,a2,a3,m0⟩:=h
 refine⟨S,D,S2,D2,kv.keep0 m,kv2.keep0 m,fun k hk=>?_,h1,a1,a2,a3,m0.then0 m⟩
 rcases hq' k hk with x | ⟨x,y⟩
 ·exact⟨(hq k x).1,(hq k x).2.1,(hq k x).2.2.1,(hq k x).2.2.2.1,Nat.lt_of_lt_of_le (hq k x).2.2.2.2 m.size⟩
 ·exact⟨fun z=>by have:=kv.lt.1 k z;omega,fun z=>by have:=kv.lt.2.1 k z;omega,fun z=>by have:=kv2.lt.1 k z;omega,fun z=>by have:=kv2.lt.2.1 k z;omega,y⟩
theorem K2.more {q q2:Nat} (h:K2 w0 w sg F Ws n p sg2 F2 Ws2 n2 p2 Q) (hp:p≤q) (hp2:p2≤q2):K2 w0 w sg F Ws n q sg2 F2 Ws2 n2 q2 Q:=by
 obtain⟨S,D,S2,D2,kv,kv2,r⟩:=h
 exact⟨S,D,S2,D2,kv.more hp,kv2.more hp2,r⟩
theorem Vg {q u:Value}{ks vs:List UInt8} (hq:Rd w q ks) (hu:Rd w u vs) (oq:Off (fun k=>¬ Q k) q ks) (ou:Off (fun k=>¬ Q k) u vs) (hn:n≤1000000000000) (hp:p≤100000):CC 74 #[.pointer (some ⟨sg,0,none⟩),q,u] w sg F Ws n p Q (.int .i64 (jJ ks vs:Nat)) (if jJ ks vs=0 then insL F ks vs else F) Ws (n+1) (p+2) :=
 fun S D kv hQ=>hSet kv hq hu (oq.mono (fun k hk x=>hQ k x hk)) (ou.mono (fun k hk x=>hQ k x hk)) hn hp
theorem UQ {q:Value}{ks:List UInt8} (hq:Rd w q ks) (oq:Off (fun k=>¬ Q k) q ks) (lk:ks.length≤1000000) (hn:n≤1000000000000) (hp:p≤100000):CC 145 #[.pointer (some ⟨sg,0,none⟩),q] w sg F Ws n p Q (.bool (gz F ks).isSome) (iC F ks) Ws (n+1) (p+2) :=
 fun S D kv hQ=>Tq kv hq (oq.mono (fun k hk x=>hQ k x hk)) lk hn hp
end
open Go.Gl Go.RowKit
def BQ (sg:Nat) (F:List aN) (Ws:List (List aN)) (n p:Nat):FP:=fun w S D=>KV w sg F Ws n p S D
theorem RJ {sg:Nat}{F:List aN}{Ws:List (List aN)}{n p:Nat}:gK (BQ sg F Ws n p):=⟨fun h=>⟨KV.lt h |>.1,KV.lt h |>.2.1⟩,fun h m a b=>KV.keep h m a b⟩
def fV (F:List aN) (k v:List UInt8):List aN:=if jJ k v=0 then insL F k v else F
theorem KV.vlen {w:World}{sg:Nat}{F:List aN}{Ws:List (List aN)}{n p:Nat}{S D:Nat→Prop} (h:KV w sg F Ws n p S D) {k v:List UInt8} (hg:gz F k=some v):v.length≤1000000:=by
 obtain⟨mg,vo,R,jv,J,km,ok,rfl,_⟩:=h
 exact Dw km ok (by rw [vI ok];exact hg)
section
variable {w:World}{sg g n p:Nat}{F:List aN}{Ws:List (List aN)}{Q:Nat→Prop}
theorem CC.gs {f:FuncId}{args:Array Value}{r:Value}{F':List aN}{Ws':List (List aN)}{n' p':Nat} (c:CC f args w sg F Ws n p Q r F' Ws' n' p'):GS Tryz.prog f args w (BQ sg F Ws n p) Q r (BQ sg F' Ws' n' p'):=GS.of c
theorem VA {q u:Value}{ks vs:List UInt8} (hq:Rd w q ks) (hu:Rd w u vs) (oq:Off (fun k=>¬ Q k) q ks) (ou:Off (fun k=>¬ Q k) u vs) (hn:n≤1000000000000) (hp:p≤100000):GS Tryz.prog 74 #[.pointer (some ⟨sg,0,none⟩),q,u] w (BQ sg F Ws n p) Q (.int .i64 (jJ ks vs:Nat)) (BQ sg (fV F ks vs) Ws (n+1) (p+2)):=CC.gs (Vg hq hu oq ou hn hp)
theorem Vq {q:Value}{ks:List UInt8} (hq:Rd w q ks) (oq:Off (fun k=>¬ Q k) q ks) (lk:ks.length≤1000000) (hn:n≤1000000000000) (hp:p≤100000):GS Tryz.prog 145 #[.pointer (some ⟨sg,0,none⟩),q] w (BQ sg F Ws n p) Q (.bool (gz F ks).isSome) (BQ sg (iC F ks) Ws (n+1) (p+2)):=CC.gs (UQ hq oq lk hn hp)
theorem Vu {q:Value}{ks:List UInt8} (hq:Rd w q ks) (oq:Off (fun k=>¬ Q k) q ks) (hn:n≤1000000000000) (hp:p≤100000):GO Tryz.prog 93 #[.pointer (some ⟨sg,0,none⟩),q] w (BQ sg F Ws n p) Q (fun v => .tuple #[v,.bool (gz F ks).isSome]) ((gz F ks).getD []) (BQ sg F Ws (n+1) p) :=
 GO.of RJ (fun S D kv hQ=>(hGet kv hq (oq.mono (fun k hk x=>hQ k x hk)) hn hp).mono (fun e w' ⟨v',a,b,c,d,f⟩=>⟨v',a,b,⟨S,D,c,d,fun _ h=>h,fun _ h=>h⟩,f⟩)) RJ
end
open Go.Gl Go.RowKit
structure gW where
 head:UInt8
 mid:UInt8
 a:Bool
 b:Bool
 turned:Bool
def iw:Nat→Option gW
 | 1=>some ⟨112,0,false,false,false⟩
 | 2=>some ⟨99,0,false,false,false⟩
 | 3=>some ⟨109,0,false,false,false⟩
 | 4=>some ⟨97,0,true,false,false⟩
 | 5=>some ⟨118,48,true,false,false⟩
 | 6=>some ⟨118,100,true,true,false⟩
 | 7=>some ⟨118,104,true,true,false⟩
 | 8=>some ⟨118,115,true,true,false⟩
 | 9=>some ⟨116,0,true,false,false⟩
 | 10=>some ⟨105,0,true,true,true⟩
 | 11=>some ⟨98,0,true,false,false⟩
 | 12=>some ⟨117,0,true,false,false⟩
 | 13=>some ⟨114,0,true,false,false⟩
 | 14=>some ⟨113,0,true,true,false⟩
 | 15=>some ⟨101,0,true,true,false⟩
 | 16=>some ⟨110,0,true,true,false⟩
 | 17=>some ⟨107,0,true,true,false⟩
 | _=>none
def pJ (f:gW):List Value:=[.int .u8 f.head.toNat,.int .u8 f.mid.toNat,.bool f.a,.bool f.b,.bool f.turned]
def fv (f:gW):Value := .agg (pJ f).toArray
def yC:Array Value:=((List.range 17).flatMap fun k=>((iw (k+1)).map pJ).getD []).toArray
def LW:Array Value:=((List.range 17).flatMap fun _=>pJ ⟨0,0,false,false,false⟩).toArray
set_option maxRecDepth 100000 in
theorem MJ (w:World) :
  Calls Tryz.prog 234 #[] w fun e w'=>e = .returned (.agg yC)∧w'=w.alloc (.cells yC 329):=by
 have hz:∀ w:World,(zeroValue 329).run Tryz.prog w = .ok (.agg LW) w:=fun _=>by kernel_rfl
 go_enter Tryz.func234,Tryz.ntmps234
 go_wp2_with (refine wpList_build rfl 329 _ rfl (by as_aux_lemma=>kernel_rfl) (stop ?_))
 unfold Stop
 refine wpList_store_row rfl 329 _ _ rfl w.heap.size yC rfl (by as_aux_lemma=>kernel_rfl) 329 LW (aF _ _) (by as_aux_lemma=>kernel_rfl) (by as_aux_lemma=>kernel_rfl) (by as_aux_lemma=>kernel_rfl) ?_
 rw [World.setRow_alloc_new]
 go_wp2
 refine bodyPost_ret (results_cell_row rfl _ _ w.heap.size 329 yC (0,0) _ rfl (aF _ _) Tryz.underlying329 rfl (by as_aux_lemma=>kernel_rfl)) rfl ⟨rfl,rfl⟩
theorem uN (k:Nat) (h1:1≤k) (h2:k≤17):∃ f,iw k=some f∧∀ w:World,(Instr.index 329 (.agg yC) (.int .i64 ((k:Int) - 1))).run Tryz.prog w = .ok (.agg #[.int .u8 f.head.toNat,.int .u8 f.mid.toNat,.bool f.a,.bool f.b,.bool f.turned]) w:=by
 have h17:k=1∨k=2∨k=3∨k=4∨k=5∨k=6∨k=7∨k=8∨k=9∨k=10∨k=11∨k=12∨k=13∨k=14∨k=15∨k=16∨k=17:=by omega
 rcases h17 with rfl | rfl | rfl | rfl | rfl | rfl | rfl | rfl | rfl | rfl | rfl | rfl | rfl | rfl | rfl | rfl | rfl <;> exact⟨_,rfl,fun _=>by kernel_rfl⟩
theorem yZ (n:Int) (w:World) (h:n<1∨17<n) :
  Calls Tryz.prog 175 #[.int .i64 n] w fun e w'=>e = .returned (.tuple #[fv ⟨0,0,false,false,false⟩,.bool false])∧ae ai w w':=by
 rcases h with h | h
 ·go_enter Tryz.func175,Tryz.ntmps175
  go_wp2
  go_returns
  exact⟨rfl,(by repeat' (first | (with_reducible first | exact ae.refl _ _ | assumption | refine ae.alloc ?_ _ | refine ae.drew ?_ | refine ae.drewN ?_ _ | refine ae.regrown ?_ _ _ | refine ae.setCell ?_ ?_ _) | (refine .inr ?_;first | (simp;done) | (simp;omega) | omega)))⟩
 ·have h1:¬ n<1:=by omega
  go_enter Tryz.func175,Tryz.ntmps175
  go_wp2
  go_returns
  exact⟨rfl,(by repeat' (first | (with_reducible first | exact ae.refl _ _ | assumption | refine ae.alloc ?_ _ | refine ae.drew ?_ | refine ae.drewN ?_ _ | refine ae.regrown ?_ _ _ | refine ae.setCell ?_ ?_ _) | (refine .inr ?_;first | (simp;done) | (simp;omega) | omega)))⟩
theorem qX (k:Nat) (f:gW) (w:World) (hf:iw k=some f) :
  Calls Tryz.prog 175 #[.int .i64 k] w fun e w'=>e = .returned (.tuple #[fv f,.bool true])∧ae ai w w':=by
 have hk:1≤k∧k≤17:=by
  rcases Nat.lt_or_ge k 18 with h | h
  ·rcases Nat.eq_zero_or_pos k with rfl | h0
   ·simp [iw] at hf
   ·omega
  ·obtain⟨j,rfl⟩:∃ j,k=j+18:=⟨k - 18,by omega⟩
   simp [iw] at hf
 obtain⟨h1,h2⟩:=hk
 obtain⟨f',hf',hi⟩:=uN k h1 h2
 obtain rfl:f=f':=by rw [hf] at hf';simpa using hf'
 clear hf' hf
 go_enter Tryz.func175,Tryz.ntmps175
 go_wp2_with (go_at_call 234;refine (MJ _).mono ?_;rintro e w' ⟨rfl,rfl⟩)
 go_returns
 exact⟨rfl,(by repeat' (first | (with_reducible first | exact ae.refl _ _ | assumption | refine ae.alloc ?_ _ | refine ae.drew ?_ | refine ae.drewN ?_ _ | refine ae.regrown ?_ _ _ | refine ae.setCell ?_ ?_ _) | (refine .inr ?_;first | (simp;done) | (simp;omega) | omega)))⟩
end Go.Proofs.YtglkmaalpammcaaGreat
namespace Go.Gl
def be:Nat→Nat→List UInt8
 | 0,_=>[]
 | n+1,x=>UInt8.ofNat (x / 256 ^ n) :: be n x
def num (xs:List UInt8):Nat:=xs.foldl (fun a c=>a*256+c.toNat) 0
theorem bU (n x:Nat):(be n x).length=n:=by
 induction n with
 | zero=>rfl
 | succ n ih=>simp [be,ih]
theorem FZ (xs:List UInt8) (c:UInt8):num (xs ++ [c])=num xs*256+c.toNat:=by simp [num]
theorem ww (xs:List UInt8):num xs<256 ^ xs.length:=by
  suffices h:∀ ys:List UInt8,num ys.reverse<256 ^ ys.length by
    have:=h xs.reverse
    simpa using this
  intro ys
  induction ys with
  | nil=>simp [num]
  | cons c ys ih =>
    rw [List.reverse_cons,FZ,List.length_cons,Nat.pow_succ]
    have:=c.toNat_lt
    omega
theorem MC (xs:List UInt8) (a:Nat):xs.foldl (fun a c=>a*256+c.toNat) a=a*256 ^ xs.length+num xs:=by
  induction xs generalizing a with
  | nil=>simp [num]
  | cons c xs ih =>
    rw [num,List.foldl_cons,List.foldl_cons,List.length_cons,ih,ih (0*256+c.toNat),Nat.pow_succ,Nat.zero_mul,Nat.zero_add,Nat.add_mul,Nat.mul_comm (256 ^ xs.length) 256,← Nat.mul_assoc,Nat.add_assoc]
theorem xP (c:UInt8) (xs:List UInt8):num (c :: xs)=c.toNat*256 ^ xs.length+num xs:=by
 rw [num,List.foldl_cons,MC]
 simp
theorem xh (n x:Nat):num (be n x)=x % 256 ^ n:=by
  induction n with
  | zero=>simp [be,num,Nat.mod_one]
  | succ n ih =>
    rw [be,xP,bU,ih,UInt8.toNat_ofNat']
    have h:=Nat.mod_mul (x:=x) (a:=256 ^ n) (b:=256)
    rw [Nat.pow_succ 256 n,h,show (2 ^ 8:Nat)=256 from rfl,Nat.mul_comm (256 ^ n)]
    omega
theorem Ho (xs:List UInt8):be xs.length (num xs)=xs:=by
  suffices h:∀ (xs:List UInt8) (q:Nat),be xs.length (q*256 ^ xs.length+num xs)=xs by simpa using h xs 0
  intro xs
  induction xs with
  | nil=>intro q;rfl
  | cons c xs ih =>
    intro q
    have hl:=ww xs
    have hp:0<256 ^ xs.length:=Nat.pow_pos (by decide)
    rw [List.length_cons,be,xP]
    have e:q*256 ^ (xs.length+1)+(c.toNat*256 ^ xs.length+num xs)=(q*256+c.toNat)*256 ^ xs.length+num xs:=by
      rw [Nat.pow_succ,Nat.add_mul,Nat.mul_assoc,Nat.mul_comm (256 ^ xs.length) 256];omega
    rw [e,ih]
    congr 1
    rw [Nat.mul_comm,Nat.mul_add_div hp,Nat.div_eq_of_lt hl,Nat.add_zero]
    apply UInt8.toNat_inj.1
    rw [UInt8.toNat_ofNat']
    have:=c.toNat_lt
    omega
theorem JA (x:Nat) (h:x<18446744073709551616):num (be 8 x)=x:=by
 rw [xh]
 exact Nat.mod_eq_of_lt (by simpa using h)
theorem UR {n x y:Nat} (hx:x<256 ^ n) (hy:y<256 ^ n) (h:be n x=be n y):x=y:=by
 have:=congrArg num h
 rw [xh,xh,Nat.mod_eq_of_lt hx,Nat.mod_eq_of_lt hy] at this
 exact this
def b8 (x i:Nat):Int:=((x / 256 ^ i % 256:Nat):Int)
end Go.Gl
namespace Go.Proofs.YtglkmaalpammcaaGreat
open Go.Gl Go.RowKit
theorem Vs (x:Nat):bv (be 8 x)=[.int .u8 (b8 x 7),.int .u8 (b8 x 6),.int .u8 (b8 x 5),.int .u8 (b8 x 4),.int .u8 (b8 x 3),.int .u8 (b8 x 2),.int .u8 (b8 x 1),.int .u8 (b8 x 0)]:=by
 simp only [be,bv,List.map_cons,List.map_nil,UInt8.toNat_ofNat',b8]
theorem agg8 (x:Nat) (hx:x<18446744073709551616) (a0 a1 a2 a3 a4 a5 a6 a7:Int) (h:a0=x / 72057594037927936∧a1=x / 281474976710656 % 256∧a2=x / 1099511627776 % 256∧a3=x / 4294967296 % 256∧a4=x / 16777216 % 256∧a5=x / 65536 % 256∧a6=x / 256 % 256∧a7=x % 256) :
  a0=b8 x 7∧a1=b8 x 6∧a2=b8 x 5∧a3=b8 x 4∧a4=b8 x 3∧a5=b8 x 2∧a6=b8 x 1∧a7=b8 x 0:=by
 obtain⟨rfl,rfl,rfl,rfl,rfl,rfl,rfl,rfl⟩:=h
 simp only [b8]
 omega
def F9 (x:Nat):Value := .agg #[.int .u8 (b8 x 7),.int .u8 (b8 x 6),.int .u8 (b8 x 5),.int .u8 (b8 x 4),.int .u8 (b8 x 3),.int .u8 (b8 x 2),.int .u8 (b8 x 1),.int .u8 (b8 x 0)]
theorem NV (x:Nat) (hx:x<18446744073709551616):Value.agg #[.int .u8 (x / 72057594037927936),.int .u8 (x / 281474976710656 % 256),.int .u8 (x / 1099511627776 % 256),.int .u8 (x / 4294967296 % 256),.int .u8 (x / 16777216 % 256),.int .u8 (x / 65536 % 256),.int .u8 (x / 256 % 256),.int .u8 (x % 256)]=F9 x:=by
 obtain⟨h0,h1,h2,h3,h4,h5,h6,h7⟩:=agg8 x hx _ _ _ _ _ _ _ _ ⟨rfl,rfl,rfl,rfl,rfl,rfl,rfl,rfl⟩
 unfold F9
 rw [h0,h1,h2,h3,h4,h5,h6,h7]
theorem NQ (x:Nat) (w:World) (hx:x<18446744073709551616) :
  Calls Tryz.prog 178 #[.int .u64 x] w fun e w'=>e = .returned (F9 x)∧ae ai w w':=by
 have H:=lh (NV x hx)
 go_enter Tryz.func178,Tryz.ntmps178
 go_wp2
 go_rounds 9
 refine bodyPost_ret (by simp [results,Tryz.results178,go_sem];exact H.out) rfl ?_
 exact⟨rfl,(by repeat' (first | (with_reducible first | exact ae.refl _ _ | assumption | refine ae.alloc ?_ _ | refine ae.drew ?_ | refine ae.drewN ?_ _ | refine ae.regrown ?_ _ _ | refine ae.setCell ?_ ?_ _) | (refine .inr ?_;first | (simp;done) | (simp;omega) | omega)))⟩
theorem Ey (n:Int) (w:World) (h0:0≤n) (h1:n≤18446744073709551615) :
  Calls Tryz.prog 178 #[.int .u64 n] w fun e w'=>e = .returned (.agg #[.int .u8 (b8 n.toNat 7),.int .u8 (b8 n.toNat 6),.int .u8 (b8 n.toNat 5),.int .u8 (b8 n.toNat 4),.int .u8 (b8 n.toNat 3),.int .u8 (b8 n.toNat 2),.int .u8 (b8 n.toNat 1),.int .u8 (b8 n.toNat 0)])∧ae ai w w':=by
 obtain⟨x,rfl⟩:=Int.eq_ofNat_of_zero_le h0
 exact NQ x w (by omega)
theorem rd8 {w:World}{g:Nat}{x:Nat}{e:TypeId}{fr:Nat × Nat} (h:w.heap[g]?=some (.cells #[.int .u8 (b8 x 7),.int .u8 (b8 x 6),.int .u8 (b8 x 5),.int .u8 (b8 x 4),.int .u8 (b8 x 3),.int .u8 (b8 x 2),.int .u8 (b8 x 1),.int .u8 (b8 x 0)] e fr)):Rd w (.slice (some ⟨g,0,none⟩) 8 8) (be 8 x):=by
 refine⟨by rw [bU,kW,bU],.inr ⟨g,0,8,by rw [bU],by rw [bU];omega,by simp [maxLen],.inr (lt_of_heap h),fun j u hj=>?_⟩⟩
 rw [Vs] at hj
 rw [af h,Nat.zero_add]
 simpa using hj
open Go.Gl Go.RowKit
def ja (f:gW) (a:Nat):Nat:=if f.turned then 18446744073709551615 - a else a
def jT (f:gW) (a:Nat):List UInt8:=[f.head] ++ (if f.a then be 8 (ja f a) else []) ++ (if f.mid.toNat=0 then [] else [f.mid])
theorem first_any (f:gW) (a:Nat) (w:World) (ha:a≤18446744073709551615) :
  Calls Tryz.prog 177 #[.agg #[.int .u8 f.head.toNat,.int .u8 f.mid.toNat,.bool f.a,.bool f.b,.bool f.turned],.int .u64 a] w fun e w'=>∃ v,e = .returned v∧Gl.Own w' v (jT f a)∧ae ai w w'∧aG w v:=by
 obtain⟨hd,md,fa,fb,ft⟩:=f
 have hfin:Hid (∀ t:Nat,t=ja ⟨hd,md,fa,fb,ft⟩ a→jT ⟨hd,md,fa,fb,ft⟩ a=[hd] ++ (if fa then be 8 t else []) ++ (if md.toNat=0 then [] else [md])):=by
  intro t ht;rw [ht];rfl
 have hmd:md.toNat<256:=md.toNat_lt
 have fin:∀ (W:World) (v:Value) (b:Nat),w.heap.size≤b→(v.ownBlock=some b∨aG W v)→w.heap.size≤W.heap.size→aG w v:=by
  intro W v b hb hv hW k hk
  rcases hv with hv | hv
  ·rw [hv] at hk;simp at hk;omega
  ·have:=hv k hk;omega
 have F:=lh fin
 clear fin
 have M:(((md.toNat:Nat):Int) != 0)=false∧md.toNat=0∨(((md.toNat:Nat):Int) != 0)=true∧md.toNat≠0:=by
  by_cases h:md.toNat=0
  ·exact .inl ⟨by simp [h],h⟩
  ·exact .inr ⟨by simp [h],h⟩
 cases ft
 all_goals
  go_enter Tryz.func177,Tryz.ntmps177
  go_wp2_with fail
  try rw [Jr _ (by omega) (by omega)]
  refine (Ey _ _ (by omega) (by omega)).mono ?_
  rintro e w1 ⟨rfl,hm1⟩
  have B0:=af (hm1.heap (g:=w.heap.size) (dA (aF _ _) _) (fun x=>x))
  have o1:Gl.Own w1 (.slice (some ⟨w.heap.size+1,0,none⟩) 1 1) [hd]:=by
   have h:=fun o=>yJ hd (w:=w.alloc o) (w.heap.size+1) (by simp)
   exact (h _).keep hm1 (fun _ _ x=>x)
  have hz1:w.heap.size+1<w1.heap.size:=by have:=hm1.size;simp at this;omega
  have hz0:w.heap.size<w1.heap.size:=by omega
  have m1:ae ai w w1:=((((ae.refl _ _).alloc _).alloc _).trans hm1 (fun _ _ x=>x) (fun _ _ x=>x))
  rcases M with ⟨hb,hM⟩ | ⟨hb,hM⟩
  all_goals
   have HM:=lh hM
   clear hM hm1
   cases fa
 case inl.false | inr.inl.false =>
  go_wp2_with (at_builtin;refine stop ?_)
  go_ret
  refine⟨_,rfl,?_,m1.alloc _,F.out w1 _ _ (Nat.le_succ _) (.inl rfl) m1.size⟩
  rw [hfin.out _ rfl,if_pos HM.out]
  exact o1.alloc _
 case inr.false | inr.inr.false =>
  go_wp2_with (at_builtin;refine stop ?_)
  unfold Stop
  refine jr rfl rfl [hd] [md] ((o1.alloc _).alloc _) (yJ md _ (by simp)).rd rfl rfl (by simp) ?_
  intro v2 w2 h1 h2 h3
  go_wp2
  go_ret
  refine⟨_,rfl,?_,((m1.alloc _).alloc _).trans h2 (fun _ _ x=>x) (fun i hi x=>by have:=(pG x);omega),F.out _ _ _ (Nat.le_succ _) h3 (by simp;omega)⟩
  rw [hfin.out _ rfl,if_neg HM.out]
  exact h1
 case inl.true | inr.inl.true =>
  go_wp2_with (at_builtin;refine stop ?_)
  unfold Stop
  refine jr rfl rfl [hd] _ (o1.alloc _) (rd8 (aF _ _)) rfl rfl (by simp [bU]) ?_
  intro v2 w2 h1 h2 h3
  have B2:∀ o,w2.cell? ⟨w.heap.size,o,none⟩=_:=fun o=>(h2.cellAt (g:=w.heap.size) (by simp;omega) (fun x=>by have:=pG x;omega) o).trans ((World.cell?_alloc_past _ _ _ hz0).trans (B0 o))
  have F2:=lh (show _∧_∧_ from⟨h1,h2,h3⟩)
  clear h1 h2 h3
  go_wp2_with (at_builtin;refine stop ?_)
  go_ret
  obtain⟨h1,h2,h3⟩:=F2.out
  refine⟨_,rfl,?_,(m1.alloc _).trans h2 (fun _ _ x=>x) (fun i hi x=>by have:=(pG x);omega),F.out _ _ _ (Nat.le_succ _) h3 (by simp;omega)⟩
  rw [hfin.out _ rfl,if_pos HM.out]
  simpa [ja] using h1
 case inr.true | inr.inr.true =>
  go_wp2_with (at_builtin;refine stop ?_)
  unfold Stop
  refine jr rfl rfl [hd] _ (o1.alloc _) (rd8 (aF _ _)) rfl rfl (by simp [bU]) ?_
  intro v2 w2 h1 h2 h3
  have B2:∀ o,w2.cell? ⟨w.heap.size,o,none⟩=_:=fun o=>(h2.cellAt (g:=w.heap.size) (by simp;omega) (fun x=>by have:=pG x;omega) o).trans ((World.cell?_alloc_past _ _ _ hz0).trans (B0 o))
  have F2:=lh (show _∧_∧_ from⟨h1,h2,h3⟩)
  clear h1 h2 h3
  go_wp2_with (at_builtin;refine stop ?_)
  unfold Stop
  obtain⟨h1,h2,h3⟩:=F2.out
  have hs2:=h2.size
  simp only [World.size_alloc] at hs2
  refine jr rfl rfl _ [md] (h1.alloc _) (yJ md _ (by simp)).rd rfl rfl (by simp [bU]) ?_
  intro v3 w3 k1 k2 k3
  go_wp2
  go_ret
  have hv2:aG w v2:=F.out _ _ _ (Nat.le_succ _) h3 (by simp;omega)
  refine⟨_,rfl,?_,(((m1.alloc _).trans h2 (U:=ai) (fun _ _ x=>x) (fun i hi x=>by have:=(pG x);omega)).alloc _).trans k2 (fun _ _ x=>x) (fun i hi x=>by have:=hv2 i x;omega),fun k hk=>?_⟩
  ·rw [hfin.out _ rfl,if_neg HM.out]
   simpa [ja] using k1
  ·rcases k3 with k3 | k3
   ·exact hv2 k (k3.symm.trans hk)
   ·have:=k3 k hk
    simp at this
    omega
open Go.Gl Go.RowKit
theorem Gi:(Tryz.prog.info? 173).map (·.size)=some 3:=by kernel_rfl
theorem OM (d:Nat) (k a b k' a' b':Int) (w:World):(Op.equalIn (d+2) 173 (.agg #[.int .i64 k,.int .u64 a,.int .u64 b]) (.agg #[.int .i64 k',.int .u64 a',.int .u64 b'])).run Tryz.prog w = .ok (k == k' && (a == a' && b == b')) w:=by
 simp [go_sem]
 by_cases h1:k=k' <;> by_cases h2:a=a' <;> by_cases h3:b=b' <;> simp [h1,h2,h3]
theorem JF (k a b k' a' b':Int) (w:World):(binOp .neq 173 (.agg #[.int .i64 k,.int .u64 a,.int .u64 b]) (.agg #[.int .i64 k',.int .u64 a',.int .u64 b'])).run Tryz.prog w = .ok (.bool (!(k == k' && (a == a' && b == b')))) w:=by
 rw [run_neq_struct,OM 9998]
 rfl
open Go.Gl Go.RowKit
def yc (c:Bool) (a:Nat):Int:=((if c then a else 0:Nat):Int)
theorem GH (f:gW) (k:Int) (a b:Nat) (w:World) :
  Calls Tryz.prog 176 #[.agg #[.int .u8 f.head.toNat,.int .u8 f.mid.toNat,.bool f.a,.bool f.b,.bool f.turned],.agg #[.int .i64 k,.int .u64 a,.int .u64 b]] w fun e w'=>e = .returned (.agg #[.int .i64 k,.int .u64 (yc f.a a),.int .u64 (yc f.b b)])∧ae ai w w':=by
 obtain⟨hd,md,fa,fb,ft⟩:=f
 cases fa <;> cases fb
 all_goals
  go_enter Tryz.func176,Tryz.ntmps176
  go_wp2
  go_returns
  exact⟨rfl,(by repeat' (first | (with_reducible first | exact ae.refl _ _ | assumption | refine ae.alloc ?_ _ | refine ae.drew ?_ | refine ae.drewN ?_ _ | refine ae.regrown ?_ _ _ | refine ae.setCell ?_ ?_ _) | (refine .inr ?_;first | (simp;done) | (simp;omega) | omega)))⟩
theorem Of_no (n:Int) (w:World) (h:n<1∨17<n) :
  Calls Tryz.prog 112 #[.int .i64 n] w fun e w'=>e = .returned (.tuple #[.slice none 0 0,.int .i64 70])∧ae ai w w':=by
 have H:=lh h
 clear h
 go_enter Tryz.func112,Tryz.ntmps112
 go_wp2_with (go_at_call 175;refine (yZ _ _ H.out).mono ?_;rintro e w1 ⟨rfl,hm⟩;unfold fv pJ)
 go_returns
 exact⟨rfl,(by repeat' (first | (with_reducible first | exact ae.refl _ _ | assumption | refine ae.alloc ?_ _ | refine ae.drew ?_ | refine ae.drewN ?_ _ | refine ae.regrown ?_ _ _ | refine ae.setCell ?_ ?_ _) | (refine .inr ?_;first | (simp;done) | (simp;omega) | omega)))⟩
theorem Vk (k:Nat) (f:gW) (w:World) (hf:iw k=some f) :
  Calls Tryz.prog 112 #[.int .i64 k] w fun e w'=>∃ v,e = .returned (.tuple #[v,.int .i64 0])∧Gl.Own w' v [f.head]∧ae ai w w'∧aG w v:=by
 have H:=lh hf
 clear hf
 go_enter Tryz.func112,Tryz.ntmps112
 go_wp2_with (go_at_call 175;refine (qX _ _ _ H.out).mono ?_;rintro e w1 ⟨rfl,hm⟩;unfold fv pJ)
 go_returns
 refine⟨_,rfl,yJ _ _ (by simp),(by repeat' (first | (with_reducible first | exact ae.refl _ _ | assumption | refine ae.alloc ?_ _ | refine ae.drew ?_ | refine ae.drewN ?_ _ | refine ae.regrown ?_ _ _ | refine ae.setCell ?_ ?_ _) | (refine .inr ?_;first | (simp;done) | (simp;omega) | omega))),fun k hk=>?_⟩
 have:=hm.size
 simp [Value.ownBlock] at hk
 omega
def qG (w:World) (xs:List UInt8) (n:Int) (e:Ending) (w':World):Prop:=∃ v,e = .returned (.tuple #[v,.int .i64 n])∧Gl.Own w' v xs∧ae ai w w'∧aG w v
theorem qG.nil {w w':World}{n:Int} (hm:ae ai w w'):qG w [] n (.returned (.tuple #[.slice none 0 0,.int .i64 n])) w':=⟨_,rfl,Gl.Own.nil _,hm,fun k hk=>by simp [Value.ownBlock] at hk⟩
theorem Nu (n:Int) (a:Nat) (w:World) (h:n<1∨17<n) :
  Calls Tryz.prog 115 #[.int .i64 n,.int .u64 a] w (qG w [] 70):=by
 have H:=lh h
 clear h
 go_enter Tryz.func115,Tryz.ntmps115
 go_wp2_with (go_at_call 175;refine (yZ _ _ H.out).mono ?_;rintro e w1 ⟨rfl,hm⟩;unfold fv pJ)
 go_returns
 exact qG.nil (by repeat' (first | (with_reducible first | exact ae.refl _ _ | assumption | refine ae.alloc ?_ _ | refine ae.drew ?_ | refine ae.drewN ?_ _ | refine ae.regrown ?_ _ _ | refine ae.setCell ?_ ?_ _) | (refine .inr ?_;first | (simp;done) | (simp;omega) | omega)))
theorem NC (k a:Nat) (f:gW) (w:World) (hf:iw k=some f) (hb:f.b=false) :
  Calls Tryz.prog 115 #[.int .i64 k,.int .u64 a] w (qG w [] 70):=by
 have H:=lh hf
 clear hf
 obtain⟨hd,md,fa,fb,ft⟩:=f
 obtain rfl:fb=false:=hb
 go_enter Tryz.func115,Tryz.ntmps115
 go_wp2_with (go_at_call 175;refine (qX _ _ _ H.out).mono ?_;rintro e w1 ⟨rfl,hm⟩;unfold fv pJ)
 go_returns
 exact qG.nil (by repeat' (first | (with_reducible first | exact ae.refl _ _ | assumption | refine ae.alloc ?_ _ | refine ae.drew ?_ | refine ae.drewN ?_ _ | refine ae.regrown ?_ _ _ | refine ae.setCell ?_ ?_ _) | (refine .inr ?_;first | (simp;done) | (simp;omega) | omega)))
theorem Nz (k a:Nat) (f:gW) (w:World) (hf:iw k=some f) (hb:f.b=true) (ha:a≤18446744073709551615) :
  Calls Tryz.prog 115 #[.int .i64 k,.int .u64 a] w (qG w (jT f a) 0):=by
 have H:=lh hf
 clear hf
 obtain⟨hd,md,fa,fb,ft⟩:=f
 obtain rfl:fb=true:=hb
 go_enter Tryz.func115,Tryz.ntmps115
 go_wp2_with (go_at_call 175;refine (qX _ _ _ H.out).mono ?_;rintro e w1 ⟨rfl,hm⟩;unfold fv pJ)
 refine (first_any ⟨hd,md,fa,true,ft⟩ a _ ha).mono ?_
 rintro e w2 ⟨v,rfl,h1,h2,h3⟩
 go_wp2
 go_returns
 refine⟨v,rfl,h1,(hm.alloc _).trans h2 (fun _ _ x=>x) (fun _ _ x=>x),fun k hk=>?_⟩
 have:=h3 k hk
 have:=hm.size
 simp at *
 omega
def iP (f:gW) (a b:Nat):List UInt8:=jT f a ++ if f.b then be 8 b else []
def sG (f:gW) (a b:Nat):Bool:=(f.a || decide (a=0)) && (f.b || decide (b=0))
theorem OZ (n:Int) (a b:Nat) (w:World) (h:n<1∨17<n) :
  Calls Tryz.prog 106 #[.agg #[.int .i64 n,.int .u64 a,.int .u64 b]] w (qG w [] 70):=by
 have H:=lh h
 clear h
 go_enter Tryz.func106,Tryz.ntmps106
 go_wp2_with (go_at_call 175;refine (yZ _ _ H.out).mono ?_;rintro e w1 ⟨rfl,hm⟩;unfold fv pJ)
 refine wp_region_quiet_below (by kernel_rfl) (by kernel_rfl) ?_
 repeat (quiet_step (fail))
 refine wpQuiet_nil ?_
 intro _ hw'
 obtain⟨⟨dq,osq⟩,hw''⟩:=hw'
 subst hw''
 go_wp2
 go_returns
 have m1:=hm.after
 exact qG.nil (by repeat' (first | (with_reducible first | exact ae.refl _ _ | assumption | refine ae.alloc ?_ _ | refine ae.drew ?_ | refine ae.drewN ?_ _ | refine ae.regrown ?_ _ _ | refine ae.setCell ?_ ?_ _) | (refine .inr ?_;first | (simp;done) | (simp;omega) | omega)))
theorem Ov (f:gW) (k a b:Nat):(!(((k:Int) == (k:Int)) && (((yc f.a a) == (a:Int)) && ((yc f.b b) == (b:Int))))) = !sG f a b:=by
 obtain⟨hd,md,fa,fb,ft⟩:=f
 cases fa <;> cases fb <;> simp [sG,yc] <;> by_cases h1:a=0 <;> by_cases h2:b=0 <;> simp_all <;> omega
theorem Qk (k a b:Nat) (f:gW) (w:World) (hf:iw k=some f) (hn:sG f a b=false) :
  Calls Tryz.prog 106 #[.agg #[.int .i64 k,.int .u64 a,.int .u64 b]] w (qG w [] 70):=by
 have hne:=fun w=>(JF (k:Int) (yc f.a a) (yc f.b b) (k:Int) (a:Int) (b:Int) w).trans (by rw [Ov,hn])
 have H:=lh hf
 clear hf hn
 obtain⟨hd,md,fa,fb,ft⟩:=f
 go_enter Tryz.func106,Tryz.ntmps106
 go_wp2_with (go_at_call 175;refine (qX _ _ _ H.out).mono ?_;rintro e w1 ⟨rfl,hm⟩;unfold fv pJ)
 have m1:=hm.after
 have c1:=hm.cellAt (g:=w.heap.size) (by simp) (fun x=>x)
 have hz:w.heap.size<w1.heap.size:=hm.size_of (by simp)
 have c0:∀ o,(w1.alloc (.cells #[.int .u8 hd.toNat,.int .u8 md.toNat,.bool fa,.bool fb,.bool ft] 261)).cell? ⟨w.heap.size,o,none⟩=#[.int .i64 (k:Int),.int .u64 (a:Int),.int .u64 (b:Int)][o]?:=fun o=>(World.cell?_alloc_past _ _ _ hz).trans ((c1 o).trans (by simp))
 have c2:=rP c0 (by simp;omega)
 have c3:=rP (af (aF w1 (.cells #[.int .u8 hd.toNat,.int .u8 md.toNat,.bool fa,.bool fb,.bool ft] 261))) (by simp)
 clear c0 c1
 refine wp_region_quiet_below (by kernel_rfl) (by kernel_rfl) ?_
 repeat (quiet_step ((go_at_call 176;exact Calls.quiet_mods (GH ⟨hd,md,fa,fb,ft⟩ _ _ _ _))))
 refine wpQuiet_nil ?_
 intro _ hw'
 obtain⟨⟨dq,osq⟩,hw''⟩:=hw'
 subst hw''
 clear c2 c3
 go_wp2
 go_returns
 exact qG.nil (by repeat' (first | (with_reducible first | exact ae.refl _ _ | assumption | refine ae.alloc ?_ _ | refine ae.drew ?_ | refine ae.drewN ?_ _ | refine ae.regrown ?_ _ _ | refine ae.setCell ?_ ?_ _) | (refine .inr ?_;first | (simp;done) | (simp;omega) | omega)))
theorem QL (k a b:Nat) (f:gW) (w:World) (hf:iw k=some f) (hn:sG f a b=true) (ha:a≤18446744073709551615) (hb:b≤18446744073709551615) :
  Calls Tryz.prog 106 #[.agg #[.int .i64 k,.int .u64 a,.int .u64 b]] w (qG w (iP f a b) 0):=by
 have hne:=fun w=>(JF (k:Int) (yc f.a a) (yc f.b b) (k:Int) (a:Int) (b:Int) w).trans (by rw [Ov,hn])
 have H:=lh hf
 clear hf hn
 obtain⟨hd,md,fa,fb,ft⟩:=f
 go_enter Tryz.func106,Tryz.ntmps106
 go_wp2_with (go_at_call 175;refine (qX _ _ _ H.out).mono ?_;rintro e w1 ⟨rfl,hm⟩;unfold fv pJ)
 have m1:=hm.after
 have c1:=hm.cellAt (g:=w.heap.size) (by simp) (fun x=>x)
 have hz:w.heap.size<w1.heap.size:=hm.size_of (by simp)
 have c0:∀ o,(w1.alloc (.cells #[.int .u8 hd.toNat,.int .u8 md.toNat,.bool fa,.bool fb,.bool ft] 261)).cell? ⟨w.heap.size,o,none⟩=#[.int .i64 (k:Int),.int .u64 (a:Int),.int .u64 (b:Int)][o]?:=fun o=>(World.cell?_alloc_past _ _ _ hz).trans ((c1 o).trans (by simp))
 have c2:=rP c0 (by simp;omega)
 have c3:=rP (af (aF w1 (.cells #[.int .u8 hd.toNat,.int .u8 md.toNat,.bool fa,.bool fb,.bool ft] 261))) (by simp)
 clear c0 c1
 refine wp_region_quiet_below (by kernel_rfl) (by kernel_rfl) ?_
 repeat (quiet_step ((go_at_call 176;exact Calls.quiet_mods (GH ⟨hd,md,fa,fb,ft⟩ _ _ _ _))))
 refine wpQuiet_nil ?_
 intro _ hw'
 obtain⟨⟨dq,osq⟩,hw''⟩:=hw'
 subst hw''
 have d2:=c2 dq osq
 have d3:=c3 dq osq
 have hs2:=(sZ (w1.alloc (.cells #[.int .u8 hd.toNat,.int .u8 md.toNat,.bool fa,.bool fb,.bool ft] 261)) dq osq).size
 have m2:=(m1.alloc (.cells #[.int .u8 hd.toNat,.int .u8 md.toNat,.bool fa,.bool fb,.bool ft] 261)).regrown dq osq
 simp only [World.size_alloc] at hs2
 clear c2 c3 hne hm
 generalize Sort.grow _ osq=w2 at *
 go_wp2_with fail
 refine (first_any ⟨hd,md,fa,fb,ft⟩ a _ ha).mono ?_
 rintro e w3 ⟨v,rfl,h1,h2,h3⟩
 have hs3:=h2.size
 have b0:w.heap.size<w2.heap.size:=by omega
 have b1:w1.heap.size<w2.heap.size:=by omega
 have e2:=fun o=>(h2.cellAt b0 (fun x=>x) o).trans (d2 o)
 have e3:=fun o=>(h2.cellAt b1 (fun x=>x) o).trans (d3 o)
 clear d2 d3
 go_wp2_with fail
 refine (Ey _ _ (by omega) (by omega)).mono ?_
 rintro e w4 ⟨rfl,h4⟩
 have hs4:=h4.size
 have f3:=fun o=>(h4.cellAt (g:=w1.heap.size) (by omega) (fun x=>x) o).trans (e3 o)
 have b4:w1.heap.size<w4.heap.size:=by omega
 have m4:=(m2.then0 h2).then0 h4
 have o4:=h1.keep h4 (fun _ _ x=>x)
 have fr:aG w v:=h3.of (by omega)
 clear e2 e3
 cases fb
 ·go_wp2_with (at_builtin;refine stop ?_)
  go_returns
  refine⟨v,rfl,?_,m4.alloc _,fr⟩
  simpa [iP] using o4.alloc _
 ·go_wp2_with (at_builtin;refine stop ?_)
  unfold Stop
  refine jr rfl rfl _ _ (o4.alloc _) (rd8 (aF _ _)) rfl rfl (by simp [bU,jT];repeat' split <;> simp [bU]) ?_
  intro v5 w5 k1 k2 k3
  go_wp2
  go_returns
  refine⟨v5,rfl,by simpa [iP] using k1,(m4.alloc _).trans k2 (fun _ _ x=>x) (fun i hi x=>by have:=fr i x;omega),fun k hk=>?_⟩
  rcases k3 with k3 | k3
  ·exact fr k (k3.symm.trans hk)
  ·have:=k3 k hk
   simp at this
   omega
theorem xO {n:Int} (h:n<1∨17<n):iw n.toNat=none:=by
 rcases h with h | h
 ·rw [show n.toNat=0 from by omega];rfl
 ·obtain⟨j,hj⟩:∃ j,n.toNat=j+18:=⟨n.toNat - 18,by omega⟩
  rw [hj];rfl
def iT (n:Int) (a b:Nat):Option (List UInt8):=match iw n.toNat with
 | none=>none
 | some f=>if sG f a b then some (iP f a b) else none
theorem Az (n:Int) (a b:Nat) (w:World) (ha:a≤18446744073709551615) (hb:b≤18446744073709551615) :
  Calls Tryz.prog 106 #[.agg #[.int .i64 n,.int .u64 a,.int .u64 b]] w (qG w ((iT n a b).getD []) (if (iT n a b).isSome then 0 else 70)):=by
 by_cases h:n<1∨17<n
 ·have:=OZ n a b w h
  simpa [iT,xO h] using this
 ·obtain⟨k,rfl⟩:=Int.eq_ofNat_of_zero_le (a:=n) (by omega)
  obtain⟨f,hf,_⟩:=uN k (by omega) (by omega)
  cases hn:sG f a b
  ·have:=Qk k a b f w hf hn
   simpa [iT,hf,hn] using this
  ·have:=QL k a b f w hf hn ha hb
   simpa [iT,hf,hn] using this
def kof (n:Int):Option (List UInt8):=(iw n.toNat).map fun f=>[f.head]
theorem UZ (n:Int) (w:World):Calls Tryz.prog 112 #[.int .i64 n] w (qG w ((kof n).getD []) (if (kof n).isSome then 0 else 70)):=by
 by_cases h:n<1∨17<n
 ·simpa [kof,xO h] using (Of_no n w h).mono fun e w' ⟨he,hm⟩=>by rw [he];exact qG.nil hm
 ·obtain⟨k,rfl⟩:=Int.eq_ofNat_of_zero_le (a:=n) (by omega)
  obtain⟨f,hf,_⟩:=uN k (by omega) (by omega)
  have h1:Calls Tryz.prog 112 #[.int .i64 k] w (qG w [f.head] 0):=Vk k f w hf
  simpa [kof,hf] using h1
def wG (n:Int) (a:Nat):Option (List UInt8):=match iw n.toNat with
 | none=>none
 | some f=>if f.b then some (jT f a) else none
theorem Na (n:Int) (a:Nat) (w:World) (ha:a≤18446744073709551615):Calls Tryz.prog 115 #[.int .i64 n,.int .u64 a] w (qG w ((wG n a).getD []) (if (wG n a).isSome then 0 else 70)):=by
 by_cases h:n<1∨17<n
 ·simpa [wG,xO h] using Nu n a w h
 ·obtain⟨k,rfl⟩:=Int.eq_ofNat_of_zero_le (a:=n) (by omega)
  obtain⟨f,hf,_⟩:=uN k (by omega) (by omega)
  cases hn:f.b
  ·simpa [wG,hf,hn] using NC k a f w hf hn
  ·simpa [wG,hf,hn] using Nz k a f w hf hn ha
open Go.Gl Go.RowKit
theorem QQ (x j:Nat):(x:Int) / 2 ^ (8*j) % 256=(((UInt8.ofNat (x / 256 ^ j)).toNat:Nat):Int):=by
 rw [UInt8.toNat_ofNat',show (256:Nat)=2 ^ 8 from rfl,← Nat.pow_mul]
 simp
open Go.Gl Go.RowKit
structure Wr (w:World) (g:Nat) (v:Value) (xs:List UInt8) (e:Int):Prop where
 heap:w.heap[g]?=some (.cells #[v,.int .i64 e] 311 (0,0))
 own:Gl.Own w v xs
 apart:v.ownBlock≠some g
def WS (g:Nat) (v:Value):Nat→Prop:=fun k=>k=g∨v.ownBlock=some k
structure fQ (w:World) (g:Nat) (v:Value) (xs:List UInt8) (e:Int) (w':World) (v':Value):Prop where
 wr:Wr w' g v' xs e
 mods:ae (WS g v) w w'
 blk:v'.ownBlock=v.ownBlock∨aG w v'
theorem fQ.trans {w w1 w2:World}{g:Nat}{v v1 v2:Value}{xs ys:List UInt8}{e e':Int} (h:fQ w g v xs e w1 v1) (k:fQ w1 g v1 ys e' w2 v2):fQ w g v ys e' w2 v2 :=
 ⟨k.wr,h.mods.trans k.mods (fun _ _ x=>x) (fun i hi hx=>by
   rcases hx with hx | hx
   ·exact .inl hx
   ·rcases h.blk with hb | hb
    ·exact .inr (hb.symm.trans hx)
    ·exact absurd hi (Nat.not_lt.2 (hb i hx))),
  by
   rcases k.blk with kb | kb
   ·rcases h.blk with hb | hb
    ·exact .inl (kb.trans hb)
    ·exact .inr (fun i hi=>hb i (kb▸hi))
   ·exact .inr (kb.of h.mods.size)⟩
theorem fQ.refl {w:World}{g:Nat}{v:Value}{xs:List UInt8}{e:Int} (h:Wr w g v xs e):fQ w g v xs e w v:=⟨h,ae.refl _ _,.inl rfl⟩
theorem Wr.lt {w:World}{g:Nat}{v:Value}{xs:List UInt8}{e:Int} (h:Wr w g v xs e):g<w.heap.size:=lt_of_heap h.heap
theorem Wr.set {w w':World}{g:Nat}{v v':Value}{xs ys:List UInt8}{e:Int} (h:Wr w g v xs e) (ho:Gl.Own w' v' ys) (hm:ae (eY v) w w') (hb:v'.ownBlock=v.ownBlock∨aG w v') :
  fQ w g v ys e (w'.setCell ⟨g,0,none⟩ v') v':=by
 have hv':v'.ownBlock≠some g:=by
  rcases hb with hb | hb
  ·rw [hb];exact h.apart
  ·exact hb.not h.lt
 have h1:=hm.heap h.heap (fun x=>h.apart x)
 refine⟨⟨?_,ho.keep ((ae.refl (fun k=>k=g) w').setCell (.inl rfl) v') (fun k hk e=>hv' (by rw [hk,e])),hv'⟩,(hm.mono (T:=WS g v) (fun i _ x => .inr x)).setCell (.inl (.inl rfl)) v',hb⟩
 have:=heap_set h1 0 v'
 simpa using this
open Go.Gl Go.RowKit
attribute [local go_sem ↓] Go.wp_at_zero Go.wp_at_succ
theorem Qd {ops:Array Oper}{Q:Exit→Act→World→Prop}{K:Act→World→Prop}{E:Prop}{o:Oper}{a:Act}{w:World}{s x:Operand} (hw:Region.wanted o (yielded ops a.tmps)=true)
  (ho:o.op = .call { callee := .builtin .append,args:=#[s,x],argTypes:=#[91,91] })
  {v u:Value} (xs ys:List UInt8) (hown:Gl.Own w v xs) (hrd:Rd w u ys) (hs:a.eval s=v) (hx:a.eval x=u) (hlen:xs.length+ys.length≤140737488355328)
  (h:∀ v' w',Gl.Own w' v' (xs ++ ys)→ae (eY v) w w'→(v'.ownBlock=v.ownBlock∨aG w v')→K (a.put o.dst v') w') :
  if Region.wanted o (yielded ops a.tmps)=true then Oper.wp Tryz.prog o a w K Q else E:=by
 rw [if_pos hw]
 obtain⟨i,hi,hz,hs1,hb1⟩:=info_parts Tryz.infoU8
 obtain⟨v',w',hr,h2,h3,h4⟩:=wH (P:=Tryz.prog) 91 91 o.type 5 5 i _ Tryz.underlying91 Tryz.underlying91 hi hz (by rw [hs1];rfl) (by rw [hs1];exact hown) (by rw [hs1];exact hrd) (L6 _) (by simp only [maxLen];omega) (by rw [hb1];omega)
 unfold Oper.wp execOp
 simp only [ho,resolve,invoke,builtin,Sem.run_bind,Sem.run_pure,Result.andThen_ok,List.map_toArray,List.map_cons,List.map_nil,hs,hx,hr]
 refine h v' w' ?_ h3 h4
 rw [hs1] at h2
 unfold Gl.Own
 rw [Eg,List.length_append]
 exact h2
theorem SV (c:UInt8) {z:Int} (hz:z=c.toNat) {w:World} (n:Nat) (hn:n=w.heap.size):Gl.Own (w.alloc (.cells #[.int .u8 z] 5)) (.slice (some ⟨n,0,none⟩) 1 1) [c]:=by
 subst hz
 exact yJ c n hn
theorem OU {w:World}{g:Nat}{v:Value}{xs:List UInt8}{e:Int} (n x:Nat) (h:Wr w g v xs e) (he:e≠0) :
  Calls Tryz.prog 288 #[.pointer (some ⟨g,0,none⟩),.int .u64 x,.int .i64 n] w fun r w'=>r = .returned (.tuple #[])∧w'=w:=by
 have c:=af h.heap
 have hb:(e != 0)=true:=by simp [he]
 clear h he
 go_enter Tryz.func288,Tryz.ntmps288
 go_wp2
 first | go_end0 | (refine bodyPost_ret (by simp [results,Tryz.results288,go_sem];try rfl) rfl ?_)
 exact⟨rfl,rfl⟩
theorem Wr.drewN {w:World}{g:Nat}{v:Value}{xs:List UInt8}{e:Int} (h:Wr w g v xs e) (n:Nat):Wr (w.drewN n) g v xs e:=⟨h.heap,h.own.quiet ⟨n,rfl⟩,h.apart⟩
theorem Wr.alloc {w:World}{g:Nat}{v:Value}{xs:List UInt8}{e:Int} (h:Wr w g v xs e) (o:Obj):Wr (w.alloc o) g v xs e:=⟨dA h.heap o,h.own.alloc o,h.apart⟩
theorem Wr.drew {w:World}{g:Nat}{v:Value}{xs:List UInt8}{e:Int} (h:Wr w g v xs e):Wr w.drew g v xs e:=⟨h.heap,h.own.quiet ⟨1,rfl⟩,h.apart⟩
theorem fQ.from {w w1 w2:World}{g:Nat}{v v2:Value}{xs:List UInt8}{e:Int} (h:fQ w1 g v xs e w2 v2) (hm:ae ai w w1):fQ w g v xs e w2 v2 :=
 ⟨h.wr,hm.trans h.mods (fun _ _ x=>x.elim) (fun _ _ x=>x),h.blk.imp_right (fun k=>k.of hm.size)⟩
theorem TQ {w:World}{g:Nat}{v:Value}{xs:List UInt8} (n x:Nat) (h:Wr w g v xs 0) (hn:n≤8) (hx:x≤18446744073709551615) (hl:xs.length≤100000000000000) :
  Calls Tryz.prog 288 #[.pointer (some ⟨g,0,none⟩),.int .u64 x,.int .i64 n] w fun r w'=>r = .returned (.tuple #[])∧∃ v',fQ w g v (xs ++ be n x) 0 w' v':=by
 obtain⟨out,hgo⟩:∃ out,xs ++ be n x=out:=⟨_,rfl⟩
 have R0:Hid (fQ w g v xs 0 w v∧xs ++ be n x=out∧xs.length+n≤100000000000008):=⟨fQ.refl h,hgo,by omega⟩
 rw [hgo]
 have c:=af h.heap
 clear h hgo hl
 go_enter Tryz.func288,Tryz.ntmps288
 go_wp2
 clear c
 go_loopw [6] (fun k wr=>∃ (j:Nat) (b:Value) (ys:List UInt8),j≤8∧k = .int .i64 ((j:Int) - 1)∧Hid (fQ w g v ys 0 wr b∧ys ++ be j x=out∧ys.length+j≤100000000000008)) (fun k _=>(intOf k+1).toNat)
 case atStart=>exact⟨n,v,xs,hn,rfl,R0⟩
 case round =>
  obtain⟨j,b,ys,hj,rfl,hR⟩:=hrel
  clear R0
  rcases j with _ | j
  ·go_wp2
   go_end0
   obtain⟨h1,h2,h3⟩:=hR.out
   simp only [be,List.append_nil] at h2
   subst h2
   exact⟨rfl,_,h1⟩
  ·rw [show (((j+1:Nat):Int) - 1)=((j:Nat):Int) from by omega]
   have h8:j≤7:=by omega
   have c:=af hR.out.1.wr.heap
   have f:=bY hR.out.1.wr.heap
   go_wp2
   have s1:IntKind.i64.wrap (8*(j:Int))=8*(j:Int):=IntWalk.i64_in _ (by omega)
   have s2:(0:Int)≤8*(j:Int):=by omega
   have s3:(8*(j:Int)).toNat=8*j:=by omega
   have hgl:=hR.out.1.wr.lt
   have hgn:wr.heap.size≠g:=by omega
   have hgm:g≠wr.heap.size:=by omega
   go_region_law ((refine Qd (by rfl) (by rfl) ys [UInt8.ofNat (x / 256 ^ j)] ?_ ?_ (by rfl) (by rfl) ?_ ?_;(next=>exact (hR.out.1.wr.own.quiet ⟨1,rfl⟩).alloc _);(next=>exact (SV (UInt8.ofNat (x / 256 ^ j)) (QQ x j) _ rfl).rd);(next=>have:=hR.out.2.2;simp;omega);intro v' w' k1 k2 k3;obtain⟨a',cap',rfl,hm'⟩:=k1.rd.form;have H1:=af (k2.heap (dA (w:=wr.drew) hR.out.1.wr.heap _) hR.out.1.wr.apart);have F1:=bY (k2.heap (dA (w:=wr.drew) hR.out.1.wr.heap _) hR.out.1.wr.apart)))
   all_goals
    have R1:Hid (fQ w g v (ys ++ [UInt8.ofNat (x / 256 ^ j)]) 0 (w'.setCell ⟨g,0,none⟩ (.slice a' (ys.length+1) cap')) (.slice a' (ys.length+1) cap')∧(ys ++ [UInt8.ofNat (x / 256 ^ j)]) ++ be j x=out∧(ys ++ [UInt8.ofNat (x / 256 ^ j)]).length+j≤100000000000008):=by
     have hh:=hR.out
     refine⟨hh.1.trans ((((hh.1.wr.drew.alloc _).set (by simpa using k1) k2 (by first | exact k3 | (rw [List.length_append] at k3;exact k3))).from (((ae.refl ai wr).drew).alloc _))),by rw [← hh.2.1];simp [be],by have:=hh.2.2;simp;omega⟩
    clear hR k1 k2 k3 H1 F1 c f s1 s2 s3
    go_wp2
    go_roundw
    case rel=>exact⟨j,_,_,by omega,rfl,R1⟩
    case measure=>simp [intOf]
def rZ (e:Int) (xs ys:List UInt8):List UInt8:=if e=0 then xs ++ ys else xs
def yY (w:World) (g:Nat) (v:Value) (xs:List UInt8) (e:Int) (r:Ending) (w':World):Prop:=r = .returned (.tuple #[])∧∃ v',fQ w g v xs e w' v'
theorem FK {w:World}{g:Nat}{v:Value}{xs:List UInt8}{e:Int} (n x:Nat) (h:Wr w g v xs e) (hn:n≤8) (hx:x≤18446744073709551615) (hl:xs.length≤100000000000000) :
  Calls Tryz.prog 288 #[.pointer (some ⟨g,0,none⟩),.int .u64 x,.int .i64 n] w (yY w g v (rZ e xs (be n x)) e):=by
 by_cases he:e=0
 ·subst he
  exact TQ n x h hn hx hl
 ·refine (OU n x h he).mono ?_
  rintro r w' ⟨rfl,rfl⟩
  rw [rZ,if_neg he]
  exact⟨rfl,_,fQ.refl h⟩
theorem JE {w:World}{g:Nat}{v:Value}{xs:List UInt8}{e:Int} (x:Nat) (h:Wr w g v xs e) (hx:x≤255) (hl:xs.length≤100000000000000) :
  Calls Tryz.prog 309 #[.pointer (some ⟨g,0,none⟩),.int .u8 x] w (yY w g v (rZ e xs (be 1 x)) e):=by
 have H:=lh h
 clear h
 go_enter Tryz.func309,Tryz.ntmps309
 go_wp2_with (go_at_call 288;refine (FK 1 x H.out (by omega) (by omega) hl).mono ?_;rintro r w' ⟨rfl,hr⟩)
 go_end0
 exact⟨rfl,hr⟩
theorem Gt {w:World}{g:Nat}{v:Value}{xs:List UInt8}{e:Int} (x:Nat) (h:Wr w g v xs e) (hx:x≤18446744073709551615) (hl:xs.length≤100000000000000) :
  Calls Tryz.prog 258 #[.pointer (some ⟨g,0,none⟩),.int .u64 x] w (yY w g v (rZ e xs (be 8 x)) e):=by
 have H:=lh h
 clear h
 go_enter Tryz.func258,Tryz.ntmps258
 go_wp2_with (go_at_call 288;refine (FK 8 x H.out (by omega) (by omega) hl).mono ?_;rintro r w' ⟨rfl,hr⟩)
 go_end0
 exact⟨rfl,hr⟩
open Go.Gl Go.RowKit
theorem zS {w:World}{g:Nat}{cur:Array Value}{t:TypeId} (c:Nat) (h:w.heap[g]?=some (.cells cur t (0,0))) (h1:cur[1]?=some (.int .i64 0)) :
  Calls Tryz.prog 264 #[.pointer (some ⟨g,0,none⟩),.int .i64 c] w fun r w'=>r = .returned (.tuple #[])∧w'=w.setCell ⟨g,1,none⟩ (.int .i64 c):=by
 have c1:=af h 1
 have f1:=bY h 1
 rw [h1] at c1
 clear h h1
 go_enter Tryz.func264,Tryz.ntmps264
 go_wp2
 go_end0
 exact⟨rfl,rfl⟩
theorem Bv {w:World}{g:Nat}{cur:Array Value}{t:TypeId}{e:Int} (c:Nat) (h:w.heap[g]?=some (.cells cur t (0,0))) (h1:cur[1]?=some (.int .i64 e)) (he:e≠0) :
  Calls Tryz.prog 264 #[.pointer (some ⟨g,0,none⟩),.int .i64 c] w fun r w'=>r = .returned (.tuple #[])∧w'=w:=by
 have c1:=af h 1
 rw [h1] at c1
 have hb:(e == 0)=false:=by simp [he]
 clear h h1 he
 go_enter Tryz.func264,Tryz.ntmps264
 go_wp2
 go_end0
 exact⟨rfl,rfl⟩
def wM (e c:Int):Int:=if e=0 then c else e
theorem Wr.fail {w:World}{g:Nat}{v:Value}{xs:List UInt8} (c:Nat) (h:Wr w g v xs 0):fQ w g v xs c (w.setCell ⟨g,1,none⟩ (.int .i64 c)) v :=
 ⟨⟨by have:=heap_set h.heap 1 (.int .i64 c);simpa using this,h.own.keep ((ae.refl (fun k=>k=g) w).setCell (.inl rfl) _) (fun k hk e=>h.apart (by rw [hk,e])),h.apart⟩,(ae.refl (WS g v) w).setCell (.inl (.inl rfl)) _,.inl rfl⟩
theorem LD {w:World}{g:Nat}{v:Value}{xs:List UInt8}{e:Int} (c:Nat) (h:Wr w g v xs e) :
  Calls Tryz.prog 264 #[.pointer (some ⟨g,0,none⟩),.int .i64 c] w (yY w g v xs (wM e c)):=by
 by_cases he:e=0
 ·subst he
  refine (zS c h.heap rfl).mono ?_
  rintro r w' ⟨rfl,rfl⟩
  exact⟨rfl,_,h.fail c⟩
 ·refine (Bv c h.heap rfl he).mono ?_
  rintro r w' ⟨rfl,rfl⟩
  rw [wM,if_neg he]
  exact⟨rfl,_,fQ.refl h⟩
theorem Sr {w:World}{g:Nat}{v u:Value}{xs ys:List UInt8} (h:Wr w g v xs 0) (hu:Rd w u ys) (hl:xs.length+ys.length≤140737488355328) :
  Calls Tryz.prog 310 #[.pointer (some ⟨g,0,none⟩),u] w (yY w g v (xs ++ ys) 0):=by
 have H:=lh h
 have HU:=lh hu
 have c:=af h.heap
 have f:=bY h.heap
 clear h hu
 go_enter Tryz.func310,Tryz.ntmps310
 go_wp2_with (at_builtin;refine stop ?_)
 unfold Stop
 refine jr rfl rfl xs ys H.out.own HU.out rfl rfl hl ?_
 intro v' w' k1 k2 k3
 obtain⟨a',cap',rfl,hm'⟩:=k1.rd.form
 have R:=lh (H.out.set k1 k2 k3)
 rw [List.length_append] at R
 have c':=af (k2.heap H.out.heap H.out.apart)
 have f':=bY (k2.heap H.out.heap H.out.apart)
 clear k1 k2 k3 hm' c f
 go_wp2
 go_end0
 exact⟨rfl,_,R.out⟩
theorem QR {w:World}{g:Nat}{v u:Value}{xs:List UInt8}{e:Int} (h:Wr w g v xs e) (he:e≠0) :
  Calls Tryz.prog 310 #[.pointer (some ⟨g,0,none⟩),u] w fun r w'=>r = .returned (.tuple #[])∧w'=w:=by
 have c:=af h.heap
 have hb:(e == 0)=false:=by simp [he]
 clear h he
 go_enter Tryz.func310,Tryz.ntmps310
 go_wp2
 go_end0
 exact⟨rfl,rfl⟩
theorem Pn {w:World}{g:Nat}{v u:Value}{xs ys:List UInt8}{e:Int} (h:Wr w g v xs e) (hu:Rd w u ys) (hl:xs.length+ys.length≤140737488355328) :
  Calls Tryz.prog 310 #[.pointer (some ⟨g,0,none⟩),u] w (yY w g v (rZ e xs ys) e):=by
 by_cases he:e=0
 ·subst he
  exact Sr h hu hl
 ·refine (QR h he).mono ?_
  rintro r w' ⟨rfl,rfl⟩
  rw [rZ,if_neg he]
  exact⟨rfl,_,fQ.refl h⟩
theorem Td {w:World}{g:Nat}{v:Value}{xs:List UInt8} (h:Wr w g v xs 0) (hl:xs.length≤140737488355328) :
  Calls Tryz.prog 219 #[.pointer (some ⟨g,0,none⟩)] w fun r w'=>∃ u,r = .returned (.tuple #[u,.int .i64 0])∧Gl.Own w' u xs∧ae ai w w'∧aG w u:=by
 have H:=lh h
 have c:=af h.heap
 clear h
 go_enter Tryz.func219,Tryz.ntmps219
 go_wp2_with (at_builtin;refine stop ?_)
 unfold Stop
 refine jr rfl rfl [] xs (Gl.Own.nil _) H.out.own.rd rfl rfl (by simpa using hl) ?_
 intro v' w' k1 k2 k3
 have R:=lh (And.intro k1 (And.intro k2 k3))
 clear k1 k2 k3
 go_wp2
 go_ret2
 obtain⟨k1,k2,k3⟩:=R.out
 exact⟨v',rfl,k1,k2.mono (fun i _ x=>(CV x).elim),by rcases k3 with k3 | k3;exact (fun k hk=>by rw [k3] at hk;simp [Value.ownBlock] at hk);exact k3⟩
theorem Pi {w:World}{g:Nat}{v:Value}{xs:List UInt8}{e:Int} (h:Wr w g v xs e) (he:e≠0) :
  Calls Tryz.prog 219 #[.pointer (some ⟨g,0,none⟩)] w fun r w'=>r = .returned (.tuple #[.slice none 0 0,.int .i64 e])∧Quiet w w':=by
 have c:=af h.heap
 have hb:(e != 0)=true:=by simp [he]
 clear h he
 go_enter Tryz.func219,Tryz.ntmps219
 go_wp2
 go_quiet (fail)
 go_wp2
 go_ret2
 exact⟨rfl,_,rfl⟩
def RP (e:Int) (xs:List UInt8):List UInt8:=if e=0 then xs else []
def Vr (w:World) (xs:List UInt8) (e:Int) (r:Ending) (w':World):Prop:=∃ u,r = .returned (.tuple #[u,.int .i64 e])∧Gl.Own w' u (RP e xs)∧ae ai w w'∧aG w u
theorem rW {w:World}{g:Nat}{v:Value}{xs:List UInt8}{e:Int} (h:Wr w g v xs e) (hl:xs.length≤140737488355328) :
  Calls Tryz.prog 219 #[.pointer (some ⟨g,0,none⟩)] w (Vr w xs e):=by
 by_cases he:e=0
 ·subst he
  exact Td h hl
 ·refine (Pi h he).mono ?_
  rintro r w' ⟨rfl,hq⟩
  exact⟨_,rfl,by rw [RP,if_neg he];exact Gl.Own.nil _,hq.mods _,fun k hk=>by simp [Value.ownBlock] at hk⟩
theorem IG (e:Int) (xs ys zs:List UInt8):rZ e (rZ e xs ys) zs=rZ e xs (ys ++ zs):=by
 unfold rZ
 split <;> simp
theorem IU (e:Int) (xs ys:List UInt8):(rZ e xs ys).length≤xs.length+ys.length:=by
 unfold rZ
 split <;> simp
open Go.Gl Go.RowKit
theorem aG.nil (w:World):aG w (.slice none 0 0):=fun k hk=>by simp [Value.ownBlock] at hk
open Go.Gl Go.RowKit
theorem GU (z:Value) (n j:Nat) (h:j<n):(madeCells #[z] n)[j]?=some z:=by
 unfold madeCells
 simp [h,Nat.mod_one]
theorem P5 {w:World} (n:Nat) (hn:n≤140737488355328):Gl.Own (w.alloc (.cells (madeCells #[.int .u8 0] n) 5)) (.slice (some ⟨w.heap.size,0,none⟩) n n) (List.replicate n 0):=by
 refine VD (by simp) (aF _ _) (Nat.le_refl _) (by simp only [maxLen];omega) (by rw [size_madeCells];omega) (fun i hi=>?_)
 rw [List.length_replicate] at hi
 rw [Nat.zero_add,GU _ _ _ hi]
 simp
theorem Ce {w:World}{ops:Array Oper}{rest:List Oper}{o:Oper}{a:Act}{Q:Exit→Act→World→Prop}
  (hg:o.guard=none) (l c:Operand) (hop:o.op=Op.makeSlice 91 l c) (kl kc:IntKind) (n:Nat) (hl:a.eval l = .int kl (n:Int)) (hc:a.eval c = .int kc (n:Int)) (hn:n≤140737488355328)
  (hK:∀ w',Gl.Own w' (.slice (some ⟨w.heap.size,0,none⟩) n n) (List.replicate n 0)→ae ai w w'→w.heap.size<w'.heap.size→wpList Tryz.prog ops Q rest (a.put o.dst (.slice (some ⟨w.heap.size,0,none⟩) n n)) w') :
  wpList Tryz.prog ops Q (o :: rest) a w:=by
 obtain⟨i,hi,hz,hs1,hb1⟩:=info_parts Tryz.infoU8
 exact wpList_make_row w hg l c 91 hop 5 i _ Tryz.underlying91 hi hz hs1 rfl kl kc n hl hc (by rw [hb1];omega) (by omega) (hK _ (P5 n hn) ((ae.refl _ _).alloc _) (by simp))
end Go.Proofs.YtglkmaalpammcaaGreat
namespace Go.Gl
open Go.RowKit
def dP {α:Type} (f:α→Value) (w:World) (v:Value) (xs:List α):Prop:=jc w 1 v xs.length (xs.map f)
def qx {α:Type} (e:TypeId) (f:α→Value) (w:World) (v:Value) (xs:List α):Prop:=bC w e 1 v xs.length (xs.map f)
theorem qx.rd {α:Type}{e:TypeId}{f:α→Value}{w:World}{v:Value}{xs:List α} (h:qx e f w v xs):dP f w v xs:=bC.rd h
theorem dP.nil {α:Type} (f:α→Value) (w:World):dP f w (.slice none 0 0) []:=⟨rfl,.inl ⟨.nil,rfl⟩⟩
theorem qx.nil {α:Type} (e:TypeId) (f:α→Value) (w:World):qx e f w (.slice none 0 0) []:=⟨rfl,.inl ⟨rfl,rfl⟩⟩
theorem dP.form {α:Type}{f:α→Value}{w:World}{v:Value}{xs:List α} (h:dP f w v xs):∃ a cap,v = .slice a xs.length cap∧xs.length≤maxLen:=jc.form h
theorem dP.keep {α:Type}{f:α→Value}{S:Nat→Prop}{w w':World}{v:Value}{xs:List α} (h:dP f w v xs) (hm:ae S w w') (hs:∀ k,v.ownBlock=some k→¬ S k):dP f w' v xs:=jc.keep h hm hs
theorem qx.keep {α:Type}{e:TypeId}{f:α→Value}{S:Nat→Prop}{w w':World}{v:Value}{xs:List α} (h:qx e f w v xs) (hm:ae S w w') (hs:∀ k,v.ownBlock=some k→¬ S k):qx e f w' v xs:=bC.keep h hm hs
theorem dP.ltn {α:Type}{f:α→Value}{w:World}{v:Value}{xs:List α} (h:dP f w v xs) (hn:xs.length≠0):∀ k,v.ownBlock=some k→k<w.heap.size:=jc.ltn h hn
theorem dP.keepL {α:Type}{f:α→Value}{S:Nat→Prop}{w w':World}{v:Value}{xs:List α} (h:dP f w v xs) (hm:ae S w w') (hs:∀ k,k<w.heap.size→v.ownBlock=some k→¬ S k):dP f w' v xs:=jc.keepL h hm hs
theorem qx.lt {α:Type}{e:TypeId}{f:α→Value}{w:World}{v:Value}{xs:List α} (h:qx e f w v xs):∀ k,v.ownBlock=some k→k<w.heap.size:=bC.lt h
theorem dP.open {α:Type}{f:α→Value}{w:World}{v:Value}{xs:List α} (h:dP f w v xs) :
  (vS v∧xs=[])∨∃ g off cap,v = .slice (some ⟨g,off,none⟩) xs.length cap∧xs.length≤cap∧cap≤maxLen∧(xs.length=0∨g<w.heap.size)∧∀ i (hi:i<xs.length),w.cell? ⟨g,off+i,none⟩=some (f xs[i]):=by
 rcases h.2 with ⟨h0,hn⟩ | ⟨g,off,cap,hv,h1,h2,hg,h3⟩
 ·exact .inl ⟨h0,List.eq_nil_of_length_eq_zero hn⟩
 ·exact .inr ⟨g,off,cap,hv,h1,h2,hg,fun i hi=>h3 i _ (by simp [hi])⟩
theorem BJ {α:Type}{f:α→Value}{w:World}{g off cap n:Nat}{xs:List α} (hn:xs.length=n) (h1:n≤cap) (h2:cap≤maxLen) (h3:n=0∨g<w.heap.size) (h4:∀ i (hi:i<xs.length),w.cell? ⟨g,off+i,none⟩=some (f xs[i])):dP f w (.slice (some ⟨g,off,none⟩) n cap) xs:=by
 subst hn
 refine⟨by simp,.inr ⟨g,off,cap,rfl,h1,h2,h3,fun j u hj=>?_⟩⟩
 have hj':j<xs.length:=by have:=(List.getElem?_eq_some_iff.1 hj).1;simpa using this
 rw [List.getElem?_map,List.getElem?_eq_getElem hj'] at hj
 rw [h4 j hj']
 exact hj
theorem qx.open {α:Type}{e:TypeId}{f:α→Value}{w:World}{v:Value}{xs:List α} (h:qx e f w v xs) :
  (v = .slice none 0 0∧xs=[])∨∃ g off cap cur,v = .slice (some ⟨g,off,none⟩) xs.length cap∧w.heap[g]?=some (.cells cur e (0,0))∧xs.length≤cap∧cap≤maxLen∧off+cap≤cur.size∧∀ i (hi:i<xs.length),cur[off+i]?=some (f xs[i]):=by
 rcases h.2 with ⟨rfl,hn⟩ | ⟨g,off,cap,cur,hv,h1,h2,h3,h4,h5⟩
 ·exact .inl ⟨rfl,List.eq_nil_of_length_eq_zero hn⟩
 ·exact .inr ⟨g,off,cap,cur,hv,h1,h2,h3,by omega,fun i hi=>h5 i _ (by simp [hi])⟩
theorem Jv {α:Type}{e:TypeId}{f:α→Value}{w:World}{g off cap n:Nat}{cur:Array Value}{xs:List α} (hn:xs.length=n) (h1:w.heap[g]?=some (.cells cur e (0,0))) (h2:n≤cap) (h3:cap≤maxLen) (h4:off+cap≤cur.size)
  (h5:∀ i (hi:i<xs.length),cur[off+i]?=some (f xs[i])):qx e f w (.slice (some ⟨g,off,none⟩) n cap) xs:=by
 subst hn
 refine⟨by simp,.inr ⟨g,off,cap,cur,rfl,h1,h2,h3,by omega,fun j u hj=>?_⟩⟩
 have hj':j<xs.length:=by have:=(List.getElem?_eq_some_iff.1 hj).1;simpa using this
 rw [List.getElem?_map,List.getElem?_eq_getElem hj'] at hj
 rw [h5 j hj']
 exact hj
theorem Gg {α:Type}{e:TypeId}{f:α→Value}{w:World}{g off cap n:Nat}{xs:List α} (h:qx e f w (.slice (some ⟨g,off,none⟩) n cap) xs) (hn:xs.length=n) (k:Nat) (hk:k<n) (x:α) :
  qx e f (w.setCell ⟨g,off+k,none⟩ (f x)) (.slice (some ⟨g,off,none⟩) n cap) (xs.set k x):=by
 rcases h.open with ⟨h1,_⟩ | ⟨g',off',cap',cur,h1,h2,h3,h4,h5,h6⟩
 ·cases h1
 ·cases h1
  refine Jv (by simp) (heap_set h2 (off+k) (f x)) (by omega) h4 (by simpa using h5) (fun i hi=>?_)
  rw [List.length_set] at hi
  by_cases hik:k=i
  ·subst hik
   simp only [List.getElem_set_self]
   rw [Array.getElem?_setIfInBounds_self_of_lt (by omega)]
  ·rw [List.getElem_set_ne hik,Array.getElem?_setIfInBounds_ne (by omega)]
   exact h6 i hi
abbrev u64 (n:Nat):Value := .int .u64 n
abbrev RN (w:World) (v:Value) (ls:List Nat):Prop:=dP u64 w v ls
abbrev ON (e:TypeId) (w:World) (v:Value) (ls:List Nat):Prop:=qx e u64 w v ls
def gu (ls:List Nat):Prop:=∀ x∈ls,x≤18446744073709551615
end Go.Gl
namespace Go.Proofs.YtglkmaalpammcaaGreat
open Go.Gl Go.RowKit
theorem Tryz.infoU64:(Tryz.prog.info? 22).map (fun i=>(i.zero,i.size,i.bytes))=some (some (.int .u64 0),1,8):=by kernel_rfl
theorem NG {w:World} (n:Nat) (hn:n≤17592186044416):ON 22 (w.alloc (.cells (madeCells #[.int .u64 0] n) 22)) (.slice (some ⟨w.heap.size,0,none⟩) n n) (List.replicate n 0):=by
 refine Jv (by simp) (aF _ _) (Nat.le_refl _) (by simp only [maxLen];omega) (by rw [size_madeCells];omega) (fun i hi=>?_)
 rw [List.length_replicate] at hi
 rw [Nat.zero_add,GU _ _ _ hi]
 simp
theorem Cc (t:TypeId) (ht:Tryz.prog.underlying t=some (.slice 22)) {w:World}{ops:Array Oper}{rest:List Oper}{o:Oper}{a:Act}{Q:Exit→Act→World→Prop}
  (hg:o.guard=none) (l c:Operand) (hop:o.op=Op.makeSlice t l c) (kl kc:IntKind) (n:Nat) (hl:a.eval l = .int kl (n:Int)) (hc:a.eval c = .int kc (n:Int)) (hn:n≤17592186044416)
  (hK:∀ w',ON 22 w' (.slice (some ⟨w.heap.size,0,none⟩) n n) (List.replicate n 0)→ae ai w w'→w.heap.size<w'.heap.size→wpList Tryz.prog ops Q rest (a.put o.dst (.slice (some ⟨w.heap.size,0,none⟩) n n)) w') :
  wpList Tryz.prog ops Q (o :: rest) a w:=by
 obtain⟨i,hi,hz,hs1,hb1⟩:=info_parts Tryz.infoU64
 exact wpList_make_row w hg l c t hop 22 i _ ht hi hz hs1 rfl kl kc n hl hc (by rw [hb1];omega) (by omega) (hK _ (NG n hn) ((ae.refl _ _).alloc _) (by simp))
end Go.Proofs.YtglkmaalpammcaaGreat
namespace Go.Gl
def dB (B:Nat):List Nat→Nat
 | []=>0
 | d :: ds=>d+B*dB B ds
def strip:List Nat→List Nat
 | []=>[]
 | d :: ds=>if d=0∧strip ds=[] then [] else d :: strip ds
theorem rH (ds:List Nat):strip (strip ds)=strip ds:=by
  induction ds with
  | nil=>rfl
  | cons d ds ih =>
    by_cases h:d=0∧strip ds=[]
    · rw [strip,if_pos h];rfl
    · rw [strip,if_neg h,strip,ih,if_neg h]
theorem qm (ds:List Nat):(strip ds).length≤ds.length:=by
  induction ds with
  | nil=>exact Nat.le_refl _
  | cons d ds ih =>
    unfold strip
    split
    · simp
    · simp only [List.length_cons]
      omega
theorem qW (B:Nat) (ds:List Nat):dB B (strip ds)=dB B ds:=by
  induction ds with
  | nil=>rfl
  | cons d ds ih =>
    unfold strip
    split
    · rename_i h
      have:=ih
      rw [h.2] at this
      simp only [dB] at this ⊢
      rw [h.1,← this]
      rfl
    · simp only [dB,ih]
theorem wU {ds:List Nat}{x:Nat} (h:x∈strip ds):x∈ds:=by
  induction ds with
  | nil=>exact h
  | cons d ds ih =>
    unfold strip at h
    split at h
    · cases h
    · rcases List.mem_cons.1 h with h | h
      · exact h▸List.mem_cons_self
      · exact List.mem_cons_of_mem _ (ih h)
theorem BF {ds:List Nat} (h:∀ x∈ds,x=0):strip ds=[]:=by
  induction ds with
  | nil=>rfl
  | cons d ds ih =>
    unfold strip
    rw [if_pos ⟨h d List.mem_cons_self,ih (fun x hx=>h x (List.mem_cons_of_mem _ hx))⟩]
theorem Gw {B:Nat} (hB:0<B) {ds:List Nat} (h:strip ds≠[]):0<dB B ds:=by
  induction ds with
  | nil=>exact absurd rfl h
  | cons d ds ih =>
    unfold strip at h
    simp only [dB]
    by_cases hd:d=0
    · have:strip ds≠[]:=fun e=>h (by rw [if_pos ⟨hd,e⟩])
      have:=Nat.mul_pos hB (ih this)
      omega
    · omega
theorem KJ {B:Nat} (hB:1<B):∀ (ds es:List Nat),(∀ x∈ds,x<B)→(∀ x∈es,x<B)→strip ds=ds→strip es=es→dB B ds=dB B es→ds=es:=by
  intro ds
  induction ds with
  | nil =>
    intro es _ _ _ h4 h5
    rcases es with _ | ⟨e,es⟩
    · rfl
    · exfalso
      have:=Gw (B:=B) (by omega) (ds:=e :: es) (by rw [h4];simp)
      simp only [dB] at h5 this
      omega
  | cons d ds ih =>
    intro es h1 h2 h3 h4 h5
    rcases es with _ | ⟨e,es⟩
    · exfalso
      have:=Gw (B:=B) (by omega) (ds:=d :: ds) (by rw [h3];simp)
      simp only [dB] at h5 this
      omega
    · have hd:=h1 d List.mem_cons_self
      have he:=h2 e List.mem_cons_self
      simp only [dB] at h5
      have e1:d=e:=by
        have:=congrArg (· % B) h5
        simpa [Nat.add_mul_mod_self_left,Nat.mod_eq_of_lt hd,Nat.mod_eq_of_lt he] using this
      subst e1
      have e2:dB B ds=dB B es:=Nat.eq_of_mul_eq_mul_left (by omega) (Nat.add_left_cancel h5)
      have n1:strip ds=ds:=by
        unfold strip at h3
        split at h3
        · cases h3
        · exact (List.cons.inj h3).2
      have n2:strip es=es:=by
        unfold strip at h4
        split at h4
        · cases h4
        · exact (List.cons.inj h4).2
      rw [ih es (fun x hx=>h1 x (List.mem_cons_of_mem _ hx)) (fun x hx=>h2 x (List.mem_cons_of_mem _ hx)) n1 n2 e2]
theorem LX {B:Nat} (hB:1<B) {ds es:List Nat} (h1:∀ x∈ds,x<B) (h2:∀ x∈es,x<B) (h:dB B ds=dB B es):strip ds=strip es :=
 KJ hB _ _ (fun x hx=>h1 x (wU hx)) (fun x hx=>h2 x (wU hx)) (rH _) (rH _) (by rw [qW,qW,h])
theorem IR (B:Nat) (ds es:List Nat):dB B (ds ++ es)=dB B ds+B ^ ds.length*dB B es:=by
  induction ds with
  | nil=>simp [dB]
  | cons d ds ih =>
    simp only [List.cons_append,dB,ih,List.length_cons,Nat.pow_succ,Nat.mul_add]
    rw [← Nat.mul_assoc,Nat.mul_comm B (B ^ ds.length),Nat.add_assoc]
theorem Df {B:Nat}{ds:List Nat} (h:∀ x∈ds,x<B):dB B ds<B ^ ds.length:=by
  induction ds with
  | nil=>simp [dB]
  | cons d ds ih =>
    have h1:=h d List.mem_cons_self
    have h2:=ih (fun x hx=>h x (List.mem_cons_of_mem _ hx))
    simp only [dB,List.length_cons,Nat.pow_succ]
    have h3:B*(dB B ds+1)≤B*B ^ ds.length:=Nat.mul_le_mul_left _ h2
    rw [Nat.mul_add,Nat.mul_one] at h3
    rw [Nat.mul_comm (B ^ ds.length)]
    omega
def rY (B:Nat):Nat→Nat→List Nat
 | 0,_=>[]
 | n+1,x=>x % B :: rY B n (x / B)
theorem xe (B n x:Nat):(rY B n x).length=n:=by
 induction n generalizing x with
 | zero=>rfl
 | succ n ih=>simp [rY,ih]
theorem I7 {B:Nat} (hB:0<B) (n x:Nat):∀ d∈rY B n x,d<B:=by
  induction n generalizing x with
  | zero=>intro d hd;cases hd
  | succ n ih =>
    intro d hd
    rcases List.mem_cons.1 hd with hd | hd
    · exact hd▸Nat.mod_lt _ hB
    · exact ih _ d hd
theorem Ew {B:Nat} (n x:Nat):dB B (rY B n x)=x % B ^ n:=by
  induction n generalizing x with
  | zero=>simp [rY,dB,Nat.mod_one]
  | succ n ih =>
    rw [rY,dB,ih,Nat.pow_succ,Nat.mul_comm (B ^ n) B,Nat.mod_mul]
theorem Py (B n x i:Nat) (h:i<n):(rY B n x)[i]?=some (x / B ^ i % B):=by
  induction n generalizing x i with
  | zero=>omega
  | succ n ih =>
    rcases i with _ | i
    · simp [rY]
    · rw [rY,List.getElem?_cons_succ,ih _ _ (by omega),Nat.pow_succ,Nat.mul_comm (B ^ i) B,Nat.div_div_eq_div_mul]
def tY (B x:Nat):List Nat:=strip (rY B x x)
theorem lt_pow_self {B:Nat} (hB:1<B) (x:Nat):x<B ^ x:=Nat.lt_pow_self hB
theorem xJ {B:Nat} (hB:1<B) (x:Nat):dB B (tY B x)=x:=by
 unfold tY
 rw [qW,Ew,Nat.mod_eq_of_lt (lt_pow_self hB x)]
theorem CE {B:Nat} (hB:1<B) (x:Nat):∀ d∈tY B x,d<B:=fun d hd=>I7 (by omega) _ _ d (wU hd)
theorem Ea {B:Nat} (hB:1<B) {ds:List Nat} (h:∀ x∈ds,x<B):strip ds=tY B (dB B ds):=by
 rw [show tY B (dB B ds)=strip (tY B (dB B ds)) from (rH _).symm]
 exact LX hB h (CE hB _) (xJ hB _).symm
theorem Hq {B:Nat} (hB:1<B) {n x:Nat} (h:x<B ^ n):tY B x=strip (rY B n x):=by
 rw [Ea hB (I7 (by omega) n x),Ew,Nat.mod_eq_of_lt h]
theorem A8 {ds:List Nat}{d:Nat} (h:d≠0):strip (ds ++ [d])=ds ++ [d]:=by
  induction ds with
  | nil=>simp [strip,h]
  | cons e ds ih =>
    rw [List.cons_append,strip,ih,if_neg (by simp)]
theorem rE (ds es:List Nat) (h:∀ x∈es,x=0):strip (ds ++ es)=strip ds:=by
 induction ds with
 | nil=>exact BF h
 | cons d ds ih=>rw [List.cons_append,strip,ih,strip]
theorem yz {ls:List Nat}{k:Nat} (hk:k≤ls.length) (h0:∀ i (hi:i<ls.length),k≤i→ls[i]=0) (h1:k=0∨∃ hk:k - 1<ls.length,ls[k - 1]≠0):strip ls=ls.take k:=by
 have e:ls=ls.take k ++ ls.drop k:=(List.take_append_drop k ls).symm
 have hz:∀ x∈ls.drop k,x=0:=by
  intro x hx
  obtain⟨i,hi,rfl⟩:=List.getElem_of_mem hx
  rw [List.getElem_drop]
  exact h0 _ _ (by omega)
 have e1:strip ls=strip (ls.take k):=by
  conv=>lhs;rw [e]
  exact rE _ _ hz
 rw [e1]
 rcases h1 with rfl | ⟨hk2,h2⟩
 ·rfl
 ·rcases k with _ | k
  ·rfl
  ·simp only [Nat.add_sub_cancel] at hk2 h2
   rw [List.take_succ_eq_append_getElem hk2]
   exact A8 h2
end Go.Gl
namespace Go.Proofs.YtglkmaalpammcaaGreat
open Go.Gl Go.RowKit
theorem MB (ax:Option Addr) (nx cx:Nat) (ls:List Nat) (w:World) (hx:ls.length=nx) (hnc:nx≤cx) (hcm:cx≤9223372036854775807) (kx:nx=0∨∃ g off,ax=some ⟨g,off,none⟩∧∀ i (hi:i<ls.length),w.cell? ⟨g,off+i,none⟩=some (u64 ls[i])) :
  Calls Tryz.prog 168 #[.slice ax nx cx] w fun e w'=>(∃ k,k≤nx∧strip ls=ls.take k∧e = .returned (.slice ax k k))∧w'=w:=by
 have HX:=lh hx
 have KX:=lh kx
 clear hx kx
 go_enter Tryz.func168,Tryz.ntmps168
 go_wp2
 go_loop [3] (fun n=>∃ k:Nat,k≤nx∧n = .int .i64 k∧Hid (∀ i (hi:i<ls.length),k≤i→ls[i]=0)) (fun n=>(intOf n).toNat)
 case atStart=>exact⟨nx,Nat.le_refl _,rfl,fun i hi h=>by have:=HX.out;omega⟩
 case round =>
  obtain⟨k,hk,rfl,hR⟩:=hrel
  rcases k with _ | j
  ·go_wp2
   go_ret
   exact⟨⟨0,Nat.zero_le _,yz (Nat.zero_le _) hR.out (.inl rfl),rfl⟩,rfl⟩
  ·have lj:j<ls.length:=by rw [HX.out];omega
   obtain⟨g',off,hax,c1⟩:=KX.out.resolve_left (by omega)
   have c2:=c1 j lj
   clear c1 KX
   subst hax
   by_cases hz:ls[j]=0
   ·rw [hz] at c2
    have HZ:=lh hz
    clear hz
    go_wp2
    go_round
    case rel =>
     refine⟨j,by omega,by go_num,fun i hi h=>?_⟩
     by_cases he:i=j
     ·subst he;exact HZ.out
     ·exact hR.out i hi (by omega)
    case measure=>simp [intOf]
   ·have hb:(((ls[j]:Nat):Int) == 0)=false:=by simp;omega
    have HZ:=lh hz
    generalize hx:ls[j]=x at *
    have HX2:=lh hx
    clear hz hx
    go_wp2
    go_ret
    exact⟨⟨j+1,hk,yz (by rw [HX.out];omega) hR.out (.inr ⟨by simpa using lj,by simpa [HX2.out] using HZ.out⟩),rfl⟩,rfl⟩
theorem RN.cells {w:World}{a:Option Addr}{n c:Nat}{ls:List Nat} (h:RN w (.slice a n c) ls):ls.length=n∧n≤c∧c≤9223372036854775807∧(n=0∨∃ g off,a=some ⟨g,off,none⟩∧∀ i (hi:i<ls.length),w.cell? ⟨g,off+i,none⟩=some (u64 ls[i])):=by
 rcases dP.open h with ⟨h1,rfl⟩ | ⟨g,off,cap,h1,h2,h3,h4,h5⟩
 ·obtain⟨rfl,rfl⟩:=h1.none
  exact⟨rfl,Nat.le_refl _,by omega,.inl rfl⟩
 ·cases h1
  exact⟨rfl,h2,by simp only [maxLen] at h3;omega,.inr ⟨g,off,rfl,h5⟩⟩
theorem RN.take {w:World}{a:Option Addr}{n c:Nat}{ls:List Nat} (h:RN w (.slice a n c) ls) (k c':Nat) (hk:k≤n) (hc:k≤c') (hc':c'≤maxLen) (hnil:n=0→c=0→c'=0):RN w (.slice a k c') (ls.take k):=by
 rcases dP.open h with ⟨h1,rfl⟩ | ⟨g,off,cap,h1,h2,h3,h4,h5⟩
 ·obtain⟨rfl,rfl⟩:=h1.none
  obtain rfl:k=0:=by omega
  rw [hnil rfl rfl]
  exact⟨rfl,.inl ⟨h1,rfl⟩⟩
 ·cases h1
  refine BJ (by rw [List.length_take];omega) hc hc' (h4.imp (fun x=>by omega) id) (fun i hi=>?_)
  rw [List.getElem_take]
  exact h5 i (by rw [List.length_take] at hi;omega)
def JW (ls:List Nat) (w:World) (v:Value) (e:Ending) (w':World):Prop:=(∃ v',e = .returned v'∧RN w v' (strip ls)∧∀ k,v'.ownBlock=some k→v.ownBlock=some k)∧w'=w
theorem Dc {a:Option Addr}{n c n' c' k:Nat} (h:(Value.slice a n c).ownBlock=some k):(Value.slice a n' c').ownBlock=some k:=by cases a <;> exact h
theorem Aw {w:World}{v:Value}{ls:List Nat} (h:RN w v ls):Calls Tryz.prog 168 #[v] w (JW ls w v):=by
 obtain⟨a,c,rfl,_⟩:=dP.form h
 obtain⟨h1,h2,h3,h4⟩:=RN.cells h
 refine (MB a _ c ls w h1 h2 h3 h4).mono ?_
 rintro e w' ⟨⟨k,hk,hs,rfl⟩,rfl⟩
 rw [JW,hs]
 refine⟨⟨_,rfl,RN.take h k k hk (Nat.le_refl _) (by simp only [maxLen];omega) (fun _ _=>by omega),fun i hi=>Dc hi⟩,rfl⟩
open Go.Shelf
def Tryz.lays129_ren:Go.Shelf.Ren:=⟨fun | 129=>284 | n=>n,fun | 53=>22 | 3=>3 | 4=>4 | 46=>89 | 5=>5 | 9=>9 | n=>n,fun | n=>n⟩
theorem Tryz.lays129:Go.Proofs.Lays.n129 Tryz.prog Tryz.lays129_ren:={
 mixed:=by kernel_rfl
 f129:=Tryz.func284.trans (congrArg some (by kernel_rfl))
 t3:=Tryz.underlying3
 a3:=Tryz.isAgg3
 z3:=Tryz.sizeOf3
 v3:=Tryz.zeroValue3
 t4:=Tryz.underlying4
 a4:=Tryz.isAgg4
 z4:=Tryz.sizeOf4
 v4:=Tryz.zeroValue4
 t5:=Tryz.underlying5
 a5:=Tryz.isAgg5
 z5:=Tryz.sizeOf5
 v5:=Tryz.zeroValue5
 t9:=Tryz.underlying9
 a9:=Tryz.isAgg9
 z9:=Tryz.sizeOf9
 v9:=Tryz.zeroValue9
 t46:=Tryz.underlying89
 a46:=Tryz.isAgg89
 z46:=Tryz.sizeOf89
 v46:=Tryz.zeroValue89
 t53:=Tryz.underlying22
 a53:=Tryz.isAgg22
 z53:=Tryz.sizeOf22
 v53:=Tryz.zeroValue22 }
theorem Tryz.bits_Len64 (x:Int) (w:World) (h0:0≤x) (h1:x≤18446744073709551615) :
  Calls Tryz.prog 284 #[.int .u64 x] w fun e w'=>e = .returned (.int .i64 (Lib.bitLen x.toNat))∧w'=w:=Any.bits_Len64 Tryz.lays129 x w h0 h1
end Go.Proofs.YtglkmaalpammcaaGreat
namespace Go.Gl
theorem Ec (B:Nat) (ds:List Nat) (d:Nat):dB B (ds ++ [d])=dB B ds+B ^ ds.length*d:=by
 rw [IR];simp [dB]
def jA (N:Nat):Nat:=(tY 256 N).length
def qi (N:Nat):List UInt8:=be (jA N) N
theorem Jw {B n N:Nat} (hB:1<B) (h1:N<B ^ (n+1)) (h2:B ^ n≤N):(tY B N).length=n+1:=by
 have hp:0<B ^ n:=Nat.pow_pos (by omega)
 have hq:N / B ^ n % B≠0:=by
  have h3:1≤N / B ^ n:=(Nat.one_le_div_iff hp).2 h2
  have h4:N / B ^ n<B:=Nat.div_lt_of_lt_mul (by rw [Nat.pow_succ] at h1;exact h1)
  rw [Nat.mod_eq_of_lt h4]
  omega
 have h5:rY B (n+1) N=(rY B (n+1) N).take n ++ [N / B ^ n % B]:=by
  have hl:=xe B (n+1) N
  have hg:=Py B (n+1) N n (by omega)
  have hlt:n<(rY B (n+1) N).length:=by omega
  rw [List.getElem?_eq_getElem hlt] at hg
  have:=List.take_succ_eq_append_getElem hlt
  rw [List.take_of_length_le (by omega),Option.some.inj hg] at this
  exact this
 rw [Hq hB h1,h5,A8 hq]
 simp [xe]
theorem yx {x:Nat} (h:x≤18446744073709551615) (h0:x≠0):1≤Lib.bitLen x∧Lib.bitLen x≤64∧2 ^ (Lib.bitLen x - 1)≤x∧x<2 ^ Lib.bitLen x:=by
 have e:(2:Nat) ^ 64=18446744073709551616:=by decide
 obtain⟨h1,h2,h3⟩:=Lib.bitLenAux_bounds 64 x (by omega) h0
 exact⟨h1,Lib.bitLenAux_le 64 x 64 (by omega),h2,h3⟩
theorem EM {ds:List Nat}{d:Nat} (hl:gu (ds ++ [d])) (hd:d≠0):(64*ds.length+Lib.bitLen d+7) / 8=jA (dB 18446744073709551616 (ds ++ [d])):=by
 have hdl:d≤18446744073709551615:=hl d (by simp)
 obtain⟨h1,h2,h3,h4⟩:=yx hdl hd
 have hs:dB 18446744073709551616 ds<18446744073709551616 ^ ds.length:=Df (fun x hx=>by have:=hl x (by simp [hx]);omega)
 have e64:(18446744073709551616:Nat)=2 ^ 64:=by decide
 generalize hm:ds.length=m at *
 generalize hb:Lib.bitLen d=b at *
 have hN:=Ec 18446744073709551616 ds d
 rw [hm] at hN
 generalize dB 18446744073709551616 (ds ++ [d])=N at *
 generalize dB 18446744073709551616 ds=R at *
 rw [e64,← Nat.pow_mul] at hN hs
 have lo:2 ^ (64*m+(b - 1))≤N:=by
  rw [hN,Nat.pow_add]
  have:=Nat.mul_le_mul_left (2 ^ (64*m)) h3
  omega
 have hi:N<2 ^ (64*m+b):=by
  rw [hN,Nat.pow_add]
  have h5:2 ^ (64*m)*(d+1)≤2 ^ (64*m)*2 ^ b:=Nat.mul_le_mul_left _ h4
  rw [Nat.mul_add,Nat.mul_one] at h5
  omega
 obtain⟨n,hn⟩:∃ n,(64*m+b+7) / 8=n+1:=⟨(64*m+b+7) / 8 - 1,by omega⟩
 rw [hn]
 have e256:(256:Nat)=2 ^ 8:=by decide
 refine (Jw (B:=256) (by decide) ?_ ?_).symm
 ·rw [e256,← Nat.pow_mul]
  exact Nat.lt_of_lt_of_le hi (Nat.pow_le_pow_right (by decide) (by omega))
 ·rw [e256,← Nat.pow_mul]
  exact Nat.le_trans (Nat.pow_le_pow_right (by decide) (by omega)) lo
end Go.Gl
namespace Go.Proofs.YtglkmaalpammcaaGreat
open Go.Gl Go.RowKit
def UJ (ls:List Nat) (b:Nat):Prop:=(b+7) / 8=jA (dB 18446744073709551616 ls)∧b≤64*ls.length
theorem Hl {w:World}{v:Value}{ls:List Nat} (h:RN w v ls) (hL:gu ls) (hl:ls.length≤17592186044416):Calls Tryz.prog 313 #[v] w fun e w'=>(∃ b:Nat,UJ ls b∧e = .returned (.int .i64 b))∧w'=w:=by
 have H:=lh h
 have HL:=lh hL
 have hsl:=qm ls
 clear h hL
 go_enter Tryz.func313,Tryz.ntmps313
 go_wp2_with fail
 refine (Aw H.out).mono ?_
 rintro e w' ⟨⟨v1,rfl,hr,hb⟩,rfl⟩
 obtain⟨a,c,rfl,_⟩:=dP.form hr
 obtain⟨h1,h2,h3,h4⟩:=RN.cells hr
 rcases List.eq_nil_or_concat (strip ls) with hs | ⟨ds,d,hs⟩
 ·have HS:=lh hs
  rw [hs] at h4 ⊢
  simp only [List.length_nil]
  clear hr hb h1 h2 h4 hs hsl
  go_wp2
  go_ret
  refine⟨⟨0,⟨?_,by omega⟩,rfl⟩,rfl⟩
  have:dB 18446744073709551616 ls=0:=by rw [← qW,HS.out];rfl
  rw [this]
  rfl
 ·rw [List.concat_eq_append] at hs
  have HS:=lh hs
  have hd:d≠0:=by
   intro hd
   have h5:=rH ls
   rw [hs,hd,rE ds [0] (by simp)] at h5
   have h6:=qm ds
   have h7:=congrArg List.length h5
   rw [List.length_append,List.length_singleton] at h7
   omega
  have hlim:gu (ds ++ [d]):=fun x hx=>HL.out x (wU (hs▸hx))
  have hdl:d≤18446744073709551615:=hlim d (by simp)
  have hB:=lh (EM hlim hd)
  obtain⟨hb1,hb2,_,_⟩:=yx hdl hd
  have hll:(strip ls).length=ds.length+1:=by rw [hs];simp
  obtain⟨g,off,rfl,hc⟩:=h4.resolve_left (by omega)
  have c1:=hc ds.length (by omega)
  have hget:(strip ls)[ds.length]'(by omega)=d:=by simp [hs]
  rw [hget] at c1
  rw [hll] at hsl ⊢
  have hk:=lh (Tryz.bits_Len64 (d:Int))
  clear hr hb h1 h2 hc hs hget hll hlim hd h3
  generalize ds.length=m at *
  go_wp2_with (go_at_call 284;refine (hk.out _ (by omega) (by omega)).mono ?_;rw [Int.toNat_natCast];rintro e w' ⟨rfl,rfl⟩)
  go_ret
  refine⟨⟨64*m+Lib.bitLen d,⟨?_,by omega⟩,?_⟩,rfl⟩
  ·rw [hB.out,← qW _ ls,HS.out]
  ·simp
end Go.Proofs.YtglkmaalpammcaaGreat
namespace Go.Gl
theorem Gf {B:Nat}:∀ (ds:List Nat),(∀ x∈ds,x<B)→∀ (i:Nat) (hi:i<ds.length),dB B ds / B ^ i % B=ds[i]:=by
  intro ds
  induction ds with
  | nil=>intro _ i hi;simp at hi
  | cons d ds ih =>
    intro h i hi
    have hd:=h d List.mem_cons_self
    have hB:0<B:=by omega
    rcases i with _ | i
    · simp only [dB,Nat.pow_zero,Nat.div_one,List.getElem_cons_zero]
      rw [Nat.add_mul_mod_self_left,Nat.mod_eq_of_lt hd]
    · simp only [dB,List.getElem_cons_succ]
      rw [Nat.pow_succ,Nat.mul_comm (B ^ i) B,← Nat.div_div_eq_div_mul,Nat.add_mul_div_left _ _ hB,Nat.div_eq_of_lt hd,Nat.zero_add]
      exact ih (fun x hx=>h x (List.mem_cons_of_mem _ hx)) i (by simpa using hi)
theorem FI {ls:List Nat} (h:gu ls) (k:Nat) (hk:k / 8<ls.length):dB 18446744073709551616 ls / 256 ^ k % 256=ls[k / 8] / 2 ^ (8*(k % 8)) % 256:=by
 rw [← Gf (B:=18446744073709551616) ls (fun x hx=>by have:=h x hx;omega) (k / 8) hk]
 generalize dB 18446744073709551616 ls=N
 have e1:(18446744073709551616:Nat)=256 ^ 8:=by decide
 have e2:(2:Nat) ^ (8*(k % 8))=256 ^ (k % 8):=by rw [show (256:Nat)=2 ^ 8 from rfl,← Nat.pow_mul]
 rw [e1,e2,← Nat.pow_mul]
 have hr:k % 8<8:=Nat.mod_lt _ (by decide)
 have h8:(256:Nat) ^ 8=256 ^ (k % 8)*256 ^ (8 - k % 8):=by rw [← Nat.pow_add];congr 1;omega
 rw [h8,Nat.mod_mul_right_div_self,Nat.div_div_eq_div_mul,← Nat.pow_add,show 8*(k / 8)+k % 8=k from Nat.div_add_mod k 8]
 rw [Nat.mod_mod_of_dvd]
 exact Nat.dvd_trans (by simp) (Nat.pow_dvd_pow 256 (show 1≤8 - k % 8 by omega))
def laid (n k N:Nat):List UInt8:=List.replicate (n - k) 0 ++ be k N
theorem wZ {n k N:Nat} (h:k≤n):(laid n k N).length=n:=by
 simp [laid,bU]
 omega
theorem NK {n k N:Nat} (h:k<n):(laid n k N).set (n - 1 - k) (UInt8.ofNat (N / 256 ^ k))=laid n (k+1) N:=by
 unfold laid
 rw [List.set_append_left _ _ (by simp;omega)]
 have e:n - k=n - (k+1)+1:=by omega
 have e2:n - 1 - k=n - (k+1):=by omega
 rw [e,e2,List.replicate_succ',List.set_append_right _ _ (by simp)]
 simp [be]
theorem O9 (n N:Nat):laid n n N=be n N:=by simp [laid]
end Go.Gl
namespace Go.Proofs.YtglkmaalpammcaaGreat
open Go.Gl Go.RowKit
theorem SE {w:World}{g off cap n:Nat}{xs:List UInt8} (h:Gl.Own w (.slice (some ⟨g,off,none⟩) n cap) xs) (hn:xs.length=n) (k:Nat) (hk:k<n) (x:UInt8) :
  Gl.Own (w.setCell ⟨g,off+k,none⟩ (.int .u8 x.toNat)) (.slice (some ⟨g,off,none⟩) n cap) (xs.set k x) :=
 Gg (f:=fun b:UInt8 => .int .u8 b.toNat) h hn k hk x
def GRes (w:World) (xs:List UInt8) (e:Ending) (w':World):Prop:=∃ v,e = .returned v∧Gl.Own w' v xs∧ae ai w w'∧aG w v
theorem KI {w:World}{ga off n0 c0:Nat}{ls:List Nat} (h:RN w (.slice (some ⟨ga,off,none⟩) n0 c0) ls) (hL:gu ls) (hl:ls.length≤10000000000):Calls Tryz.prog 308 #[.slice (some ⟨ga,off,none⟩) n0 c0] w (GRes w (qi (dB 18446744073709551616 ls))):=by
 obtain⟨h1,h2,h3,h4⟩:=RN.cells h
 obtain⟨N,hN⟩:∃ N,dB 18446744073709551616 ls=N:=⟨_,rfl⟩
 have HN:=lh hN
 have H:=lh h
 have HL:=lh hL
 have H1:=lh h1
 have HB:=lh (Hl h hL (by omega))
 rw [hN]
 clear h hL h4 hN h1
 go_enter Tryz.func308,Tryz.ntmps308
 go_wp2_with fail
 refine HB.out.mono ?_
 rintro e w' ⟨⟨b,⟨hb1,hb2⟩,rfl⟩,rfl⟩
 obtain⟨n,hn⟩:∃ n,(b+7) / 8=n:=⟨_,rfl⟩
 rw [HN.out] at hb1
 have HB1:=lh hb1
 have hn8:n≤8*ls.length:=by omega
 have HNN:=lh hn
 clear hb1
 have hq:((b:Int)+7) / 8=(n:Int):=by omega
 have hn2:n≤80000000000:=by omega
 go_wp2_with (refine Ce rfl (.tmp 10) (.tmp 10) (by rfl) .i64 .i64 n (congrArg (Value.int .i64) hq) (congrArg (Value.int .i64) hq) (by omega) ?_;intro w2 o2 m2 z2;have R0:Hid (Gl.Own w2 (.slice (some ⟨w'.heap.size,0,none⟩) n n) (laid n 0 N)∧ae ai w' w2):=⟨by rw [show laid n 0 N=List.replicate n 0 from by simp [laid,be]];exact o2,m2⟩;clear o2 m2 z2)
 clear hq
 go_loopw [13] (fun i wr=>∃ k:Nat,k≤n∧i = .int .i64 k∧Hid (Gl.Own wr (.slice (some ⟨w'.heap.size,0,none⟩) n n) (laid n k N)∧ae ai w' wr)) (fun i _=>n - (intOf i).toNat)
 case atStart=>exact⟨0,Nat.zero_le _,rfl,R0⟩
 case round =>
  obtain⟨k,hk,rfl,hR⟩:=hrel
  clear R0
  by_cases hlt:k<n
  ·have hk8:k / 8<ls.length:=by omega
   have hro:=H.out.keep hR.out.2 (fun _ _ x=>x)
   obtain⟨_,_,_,hcc⟩:=RN.cells hro
   obtain⟨g',off',hax,hcc⟩:=hcc.resolve_left (by have:=H1.out;omega)
   cases hax
   have c1:=hcc (k / 8) hk8
   obtain⟨gg,oo,cc,cur,hv,hg,_,_,hsz,hcu⟩:=(Gl.Own.open hR.out.1).resolve_left (by rintro⟨hh,_⟩;cases hh)
   have hb2:ls[k / 8]≤18446744073709551615:=HL.out _ (List.getElem_mem hk8)
   have hby:=lh (FI HL.out k hk8)
   rw [wZ (Nat.le_of_lt hlt)] at hv
   cases hv
   have kcell:=hcu (n - 1 - k) (by rw [wZ (Nat.le_of_lt hlt)];omega)
   have c2:=(af hg (0+(n - 1 - k))).trans kcell
   have f2:=bY hg (0+(n - 1 - k))
   simp only [Nat.zero_add] at c2 f2
   clear hcu hg hsz kcell hro hcc
   generalize hlx:ls[k / 8]=x at *
   have HLX:=lh hlx
   clear hlx
   have hval:((x:Int) / 2 ^ (8*(k % 8)) % 256)=(((UInt8.ofNat (N / 256 ^ k)).toNat:Nat):Int):=by
    have h9:=hby.out
    rw [HN.out] at h9
    rw [UInt8.toNat_ofNat',show (2 ^ 8:Nat)=256 from rfl,h9]
    simp
   have ho:=SE hR.out.1 (wZ (Nat.le_of_lt hlt)) (n - 1 - k) (by omega) (UInt8.ofNat (N / 256 ^ k))
   rw [NK hlt,← hval,Nat.zero_add] at ho
   have R1:=lh (And.intro ho (hR.out.2.setCell (p:=⟨w'.heap.size,n - 1 - k,none⟩) (.inr (Nat.le_refl _)) (.int .u8 ((x:Int) / 2 ^ (8*(k % 8)) % 256))))
   clear hval ho hby
   go_wp2
   go_roundw
   case rel=>exact⟨k+1,by omega,by go_num,R1⟩
   case measure=>simp [intOf];omega
  ·obtain rfl:k=n:=by omega
   go_wp2
   go_ret
   obtain⟨r1,r2⟩:=hR.out
   rw [O9] at r1
   have e:k=jA N:=HNN.out.symm.trans HB1.out
   unfold qi
   rw [← e]
   exact⟨_,rfl,r1,r2,fun i hi=>by simp [Value.ownBlock] at hi;omega⟩
theorem Lr {w:World}{v:Value}{ls:List Nat} (h:RN w v ls) (hL:gu ls) (hl:ls.length≤10000000000):Calls Tryz.prog 308 #[v] w (GRes w (qi (dB 18446744073709551616 ls))):=by
 rcases dP.open h with ⟨h0,rfl⟩ | ⟨g,off,cap,rfl,_⟩
 ·obtain⟨a0,rfl⟩:=h0.form
  have HB:=lh (Hl h hL (by omega))
  clear h hL
  go_enter Tryz.func308,Tryz.ntmps308
  go_wp2_with fail
  refine HB.out.mono ?_
  rintro e w' ⟨⟨b,⟨hb1,hb2⟩,rfl⟩,rfl⟩
  obtain rfl:b=0:=by simpa using hb2
  clear HB hb1 hb2
  go_wp2_with (refine Ce rfl (.tmp 10) (.tmp 10) (by rfl) .i64 .i64 0 (by rfl) (by rfl) (by omega) ?_;intro w2 o2 m2 z2;have R0:=lh (And.intro o2 m2);clear o2 m2 z2)
  refine wp_loop_rounds 1 ?_
  rw [rounds_succ]
  go_wp2
  go_ret
  exact⟨_,rfl,R0.out.1,R0.out.2,fun i hi=>by simp [Value.ownBlock] at hi;omega⟩
 ·exact KI h hL hl
open Go.Gl Go.RowKit
def qh (N:Nat):List UInt8:=be 1 (jA N) ++ qi N
def xR (e:Int) (xs:List UInt8) (N:Nat):List UInt8:=if jA N≤255 then rZ e xs (qh N) else xs
def wI (e:Int) (N:Nat):Int:=if jA N≤255 then e else wM e 42
theorem kw (N:Nat):(qi N).length=jA N:=bU _ _
theorem Wr.then0 {w wy:World}{g:Nat}{v:Value}{xs:List UInt8}{e:Int} (h:Wr w g v xs e) (hm:ae ai w wy):Wr wy g v xs e :=
 ⟨hm.heap h.heap (fun x=>x),h.own.keep hm (fun _ _ x=>x),h.apart⟩
theorem Qb {w:World}{g:Nat}{v u:Value}{xs:List UInt8}{e:Int}{ls:List Nat} (h:Wr w g v xs e) (hu:RN w u ls) (hL:gu ls) (hl:ls.length≤1000000) (hx:xs.length≤10000000000000) :
  Calls Tryz.prog 305 #[.pointer (some ⟨g,0,none⟩),u] w (yY w g v (xR e xs (dB 18446744073709551616 ls)) (wI e (dB 18446744073709551616 ls))):=by
 have HB:=lh (Lr hu hL (by omega))
 have H:=lh h
 have hg:=h.lt
 have hv:=h.own.lt
 generalize dB 18446744073709551616 ls=N at *
 clear h hu hL
 go_enter Tryz.func305,Tryz.ntmps305
 go_wp2_with fail
 refine HB.out.mono ?_
 rintro r w1 ⟨b,rfl,ho,hm,hf⟩
 obtain⟨a,c,rfl,hlm⟩:=ho.rd.form
 rw [kw] at *
 have HO:=lh ho
 have HM:=lh hm
 have HW:=lh (H.out.then0 hm)
 have HF:=lh hf
 have HV:=lh hv
 unfold maxLen at hlm
 clear ho hm hf hv HB
 by_cases hb:jA N≤255
 ·have e1:xR e xs N=rZ e xs (qh N):=if_pos hb
  have e2:wI e N=e:=if_pos hb
  have E1:=lh e1
  have E2:=lh e2
  have HNL:=lh (show qh N=be 1 (jA N) ++ qi N from rfl)
  have HLN:=lh (kw N)
  generalize qh N=nl at *
  generalize qi N=nb at *
  generalize jA N=k at *
  clear e1 e2
  go_wp2_with fail
  refine (JE k HW.out hb (by omega)).mono ?_
  rintro r w2 ⟨rfl,v2,h2⟩
  have HO2:=lh (HO.out.rd.keep h2.mods (fun i hi x=>by
   have h5:=HF.out i hi
   rcases x with x | x
   ·omega
   ·have:=HV.out i x;omega))
  have H2:=lh h2
  clear h2
  go_wp2_with fail
  refine (Pn H2.out.wr HO2.out (by have:=IU e xs (be 1 k);rw [bU] at this;have:=HLN.out;omega)).mono ?_
  rintro r w3 ⟨rfl,v3,h3⟩
  have H3:=lh (H2.out.trans h3)
  clear h3
  go_wp2_with fail
  go_end0
  refine⟨rfl,v3,?_⟩
  rw [E1.out,E2.out]
  have h4:=H3.out.from HM.out
  rw [IG,← HNL.out] at h4
  exact h4
 ·have e1:xR e xs N=xs:=if_neg hb
  have e2:wI e N=wM e 42:=if_neg hb
  have E1:=lh e1
  have E2:=lh e2
  generalize jA N=k at *
  clear e1 e2
  go_wp2_with fail
  refine (LD 42 HW.out).mono ?_
  rintro r w2 ⟨rfl,v2,h2⟩
  have H2:=lh (h2.from HM.out)
  clear h2
  go_wp2_with fail
  go_end0
  rw [E1.out,E2.out]
  exact⟨rfl,v2,H2.out⟩
theorem Fj {w:World}{g:Nat}{v u:Value}{xs:List UInt8}{e:Int}{ls:List Nat} (h:Wr w g v xs e) (hu:RN w u ls) (hL:gu ls) (hl:ls.length≤1000000) (hx:xs.length≤10000000000000) :
  Calls Tryz.prog 291 #[.pointer (some ⟨g,0,none⟩),.agg #[u]] w (yY w g v (xR e xs (dB 18446744073709551616 ls)) (wI e (dB 18446744073709551616 ls))):=by
 obtain⟨a,c,rfl,_⟩:=dP.form hu
 have H:=lh h
 have HU:=lh hu
 have HL:=lh hL
 clear h hu hL
 go_enter Tryz.func291,Tryz.ntmps291
 go_wp2_with fail
 refine (Qb (H.out.alloc _) (HU.out.keep ((ae.refl ai w).alloc _) (fun _ _ x=>x)) HL.out hl hx).mono ?_
 rintro r w1 ⟨rfl,v1,h1⟩
 have H1:=lh (h1.from ((ae.refl ai w).alloc _))
 clear h1
 go_wp2_with fail
 go_end0
 exact⟨rfl,v1,H1.out⟩
open Go.Gl Go.RowKit
theorem Fq (xs:List UInt8) (k:Nat) (h:k<xs.length):num (xs.take (k+1))=num (xs.take k)*256+(xs[k]).toNat:=by
 rw [List.take_succ_eq_append_getElem h,FZ]
theorem zT (xs:List UInt8) (k:Nat) (hx:xs.length≤8) (h:k<xs.length):num (xs.take k)<72057594037927936:=by
 have:=ww (xs.take k)
 have h1:(xs.take k).length≤7:=by rw [List.length_take];omega
 have h2:256 ^ (xs.take k).length≤256 ^ 7:=Nat.pow_le_pow_right (by decide) h1
 have h3:(256:Nat) ^ 7=72057594037927936:=by decide
 omega
theorem TV {a b:Int} (h:a=b):Ending.returned (.int .u64 a) = .returned (.int .u64 b):=by rw [h]
open Go.Gl Go.RowKit
theorem ae.one (w:World) (g o:Nat) (u:Value):ae (fun k=>k=g) w (w.setCell ⟨g,o,none⟩ u):=(ae.refl (fun k=>k=g) w).setCell (.inl (by rfl)) u
theorem Rd.drop {w:World}{g off n cap:Nat}{xs:List UInt8} (h:Rd w (.slice (some ⟨g,off,none⟩) xs.length cap) xs) (hn:n≤xs.length):Rd w (.slice (if cap=n then some ⟨g,off,none⟩ else some ⟨g,off+n,none⟩) (xs.length - n) (cap - n)) (xs.drop n):=by
 rcases h.open with ⟨h1,_⟩ | ⟨g',off',cap',h1,h2,h3,h4,h5⟩
 ·exact h1.no.elim
 ·cases h1
  by_cases hc:cap=n
  ·rw [if_pos hc]
   obtain rfl:n=xs.length:=by omega
   rw [List.drop_length,Nat.sub_self]
   exact⟨rfl,.inr ⟨g,off,_,rfl,Nat.zero_le _,by omega,.inl rfl,fun j u hj=>by simp [bv] at hj⟩⟩
  ·rw [if_neg hc]
   refine⟨by rw [kW,Nat.mul_one],.inr ⟨_,_,_,by rw [List.length_drop],by rw [List.length_drop];omega,by omega,h4.imp (fun x=>by rw [List.length_drop];omega) id,fun j u hj=>?_⟩⟩
   have hj':j<(xs.drop n).length:=by have:=(List.getElem?_eq_some_iff.1 hj).1;simpa [kW] using this
   rw [xB _ j hj'] at hj
   rw [← hj,Nat.add_assoc,h5 (n+j) (by rw [List.length_drop] at hj';omega)]
   simp
open Go.Gl Go.RowKit
structure Rr (w:World) (g:Nat) (v:Value) (xs:List UInt8) (e:Int):Prop where
 heap:w.heap[g]?=some (.cells #[v,.int .i64 e] 357 (0,0))
 rd:Rd w v xs
 apart:v.ownBlock≠some g
 blt:∀ k,v.ownBlock=some k→k<w.heap.size
structure jK (w:World) (g:Nat) (v:Value) (xs:List UInt8) (e:Int) (w':World) (v':Value):Prop where
 rr:Rr w' g v' xs e
 mods:ae (fun k=>k=g) w w'
 blk:∀ k,v'.ownBlock=some k→v.ownBlock=some k
theorem Rr.lt {w:World}{g:Nat}{v:Value}{xs:List UInt8}{e:Int} (h:Rr w g v xs e):g<w.heap.size:=lt_of_heap h.heap
theorem Rr.keep {S:Nat→Prop}{w w':World}{g:Nat}{v:Value}{xs:List UInt8}{e:Int} (h:Rr w g v xs e) (hm:ae S w w') (hg:¬ S g) (hv:∀ k,v.ownBlock=some k→¬ S k):Rr w' g v xs e :=
 ⟨hm.heap h.heap hg,h.rd.keep hm hv,h.apart,fun k hk=>Nat.lt_of_lt_of_le (h.blt k hk) hm.size⟩
theorem jK.refl {w:World}{g:Nat}{v:Value}{xs:List UInt8}{e:Int} (h:Rr w g v xs e):jK w g v xs e w v:=⟨h,ae.refl _ _,fun _ x=>x⟩
theorem jK.trans {w w1 w2:World}{g:Nat}{v v1 v2:Value}{xs ys:List UInt8}{e e':Int} (h:jK w g v xs e w1 v1) (k:jK w1 g v1 ys e' w2 v2):jK w g v ys e' w2 v2 :=
 ⟨k.rr,h.mods.trans k.mods (fun _ _ x=>x) (fun _ _ x=>x),fun i hi=>h.blk i (k.blk i hi)⟩
theorem Rr.fail {w:World}{g:Nat}{v:Value}{xs:List UInt8} (c:Nat) (h:Rr w g v xs 0):jK w g v xs c (w.setCell ⟨g,1,none⟩ (.int .i64 c)) v :=
 ⟨⟨by have:=heap_set h.heap 1 (.int .i64 c);simpa using this,h.rd.keep (ae.one _ _ _ _) (fun k hk e=>h.apart (by rw [hk,e])),h.apart,fun k hk=>by have:=h.blt k hk;simpa [World.setCell] using this⟩,ae.one _ _ _ _,fun _ x=>x⟩
theorem Rr.set {w:World}{g gb off off' ca ca' n m:Nat}{xs ys:List UInt8}{e:Int} (h:Rr w g (.slice (some ⟨gb,off,none⟩) n ca) xs e) (hr:Rd w (.slice (some ⟨gb,off',none⟩) m ca') ys) :
  jK w g (.slice (some ⟨gb,off,none⟩) n ca) ys e (w.setCell ⟨g,0,none⟩ (.slice (some ⟨gb,off',none⟩) m ca')) (.slice (some ⟨gb,off',none⟩) m ca'):=by
 have hne:gb≠g:=fun e=>h.apart (by rw [e];rfl)
 refine⟨⟨?_,hr.keep (ae.one _ _ _ _) (fun k hk e=>?_),fun e=>?_,fun k hk=>by have:=h.blt k hk;simpa [World.setCell] using this⟩,ae.one _ _ _ _,fun k hk=>by simpa [Value.ownBlock] using hk⟩
 ·have:=heap_set h.heap 0 (.slice (some ⟨gb,off',none⟩) m ca')
  simpa using this
 ·simp [Value.ownBlock] at hk;omega
 ·simp [Value.ownBlock] at e;omega
def vV (u:Value) (w:World) (g:Nat) (v:Value) (xs:List UInt8) (e:Int) (r:Ending) (w':World):Prop:=r = .returned u∧∃ v',jK w g v xs e w' v'
theorem vz {w:World}{g:Nat}{v:Value}{xs:List UInt8}{e:Int} (c:Nat) (h:Rr w g v xs e) :
  Calls Tryz.prog 264 #[.pointer (some ⟨g,0,none⟩),.int .i64 c] w (vV (.tuple #[]) w g v xs (wM e c)):=by
 by_cases he:e=0
 ·subst he
  refine (zS c h.heap rfl).mono ?_
  rintro r w' ⟨rfl,rfl⟩
  exact⟨rfl,_,h.fail c⟩
 ·refine (Bv c h.heap rfl he).mono ?_
  rintro r w' ⟨rfl,rfl⟩
  rw [wM,if_neg he]
  exact⟨rfl,_,jK.refl h⟩
theorem rM {w:World}{u:Value}{xs:List UInt8} (hu:Rd w u xs) (hl:xs.length≤140737488355328) :
  Calls Tryz.prog 228 #[u] w fun r w'=>∃ g v,r = .returned (.pointer (some ⟨g,0,none⟩))∧Rr w' g v xs 0∧ae ai w w'∧w.heap.size≤g∧aG w v:=by
 have H:=lh hu
 clear hu
 go_enter Tryz.func228,Tryz.ntmps228
 go_wp2_with (at_builtin;refine stop ?_)
 unfold Stop
 refine jr rfl rfl [] xs (Gl.Own.nil _) H.out rfl rfl (by simpa using hl) ?_
 intro v' w' k1 k2 k3
 have hm:ae ai w w':=k2.mono (fun i _ x=>(CV x).elim)
 have hf:aG w v':=by rcases k3 with k3 | k3;exact (fun k hk=>by rw [k3] at hk;simp [Value.ownBlock] at hk);exact k3
 obtain⟨a',c',rfl,hc'⟩:=k1.rd.form
 have R:=lh (And.intro k1 (And.intro hm hf))
 clear k1 k2 k3 hm hf
 go_wp2
 go_ret
 obtain⟨k1,k2,k3⟩:=R.out
 refine⟨_,_,rfl,⟨aF _ _,k1.rd.alloc _,fun e=>?_,fun k hk=>by have:=k1.lt k hk;simp;omega⟩,k2.alloc _,k2.size,k3⟩
 have:=k1.lt _ e
 omega
def jZ (n:Nat) (xs:List UInt8) (e:Int):Nat:=if e=0 then (if n≤xs.length then num (xs.take n) else 0) else 0
def ve (n:Nat) (xs:List UInt8) (e:Int):Bool:=decide (e=0) && decide (n≤xs.length)
def oZ (n:Nat) (xs:List UInt8) (e:Int):Int:=if e=0 then (if n≤xs.length then 0 else 40) else e
def um (n:Nat) (xs:List UInt8) (e:Int):List UInt8:=if e=0 then (if n≤xs.length then xs.drop n else xs) else xs
theorem Qr {w:World}{g:Nat}{v:Value}{xs:List UInt8}{e:Int} (n:Nat) (h:Rr w g v xs e) (he:e≠0) :
  Calls Tryz.prog 304 #[.pointer (some ⟨g,0,none⟩),.int .i64 n] w fun r w'=>r = .returned (.tuple #[.int .u64 0,.bool false])∧w'=w:=by
 have c:=af h.heap
 have hb:(e == 0)=false:=by simp [he]
 have hb2:(e != 0)=true:=by simp [he]
 clear h he
 go_enter Tryz.func304,Tryz.ntmps304
 go_wp2
 go_ret2
 exact⟨rfl,rfl⟩
theorem J8 {w:World}{g:Nat}{v:Value}{xs:List UInt8} (n:Nat) (h:Rr w g v xs 0) (hn:xs.length<n) (hm:n≤9223372036854775807) :
  Calls Tryz.prog 304 #[.pointer (some ⟨g,0,none⟩),.int .i64 n] w (vV (.tuple #[.int .u64 0,.bool false]) w g v xs 40):=by
 obtain⟨a,ca,rfl,h1⟩:=h.rd.form
 have c:=af h.heap
 have f:=bY h.heap
 have R:=lh h
 clear h
 generalize hx:xs.length=len at *
 have HX:=lh hx
 clear hx h1
 go_enter Tryz.func304,Tryz.ntmps304
 go_wp2_with fail
 refine (vz 40 R.out).mono ?_
 rintro r w1 ⟨rfl,v1,hs⟩
 have c':=af hs.rr.heap
 have HS:=lh hs
 clear hs
 go_wp2
 go_ret2
 exact⟨rfl,_,HS.out⟩
open Go.Gl Go.RowKit
theorem Ot {w:World}{g gb off ca len:Nat}{xs:List UInt8} (n:Nat) (h:Rr w g (.slice (some ⟨gb,off,none⟩) len ca) xs 0) (hlen:xs.length=len) (hn1:1≤n) (hn:n≤len) (hm:n≤8) (hca:len≤ca) (hcm:ca≤9223372036854775807) :
  Calls Tryz.prog 304 #[.pointer (some ⟨g,0,none⟩),.int .i64 n] w fun r w'=>r = .returned (.tuple #[.int .u64 (num (xs.take n)),.bool true])∧w'=w:=by
 have c:=af h.heap
 have cc:∀ k,(hk:k<(xs.take n).length)→w.cell? ⟨gb,off+k,none⟩=some (.int .u8 ((xs.take n)[k]).toNat):=by
  intro k hk
  rw [List.length_take] at hk
  rcases h.rd.open with ⟨h1,_⟩ | ⟨g',off',cap',h1,_,_,_,h5⟩
  ·exact h1.no.elim
  ·cases h1
   rw [List.getElem_take]
   exact h5 k (by omega)
 have hy8:(xs.take n).length=n:=by rw [List.length_take];omega
 generalize xs.take n=ys at *
 have HX:=lh hy8
 have KX:=lh cc
 clear h cc hlen hy8
 go_enter Tryz.func304,Tryz.ntmps304
 go_wp2
 go_loop [6,43] (fun x i=>∃ k:Nat,k≤n∧i = .int .i64 k∧x = .int .u64 (num (ys.take k))) (fun _ i=>n - (intOf i).toNat)
 case atStart=>exact⟨0,Nat.zero_le _,rfl,rfl⟩
 case round =>
  obtain⟨k,hk,rfl,rfl⟩:=hrel
  by_cases hlt:k<n
  ·have lx:k<ys.length:=by rw [HX.out];exact hlt
   have c2:=KX.out k lx
   have hb:=(ys[k]).toNat_lt
   have hb0:(0:Int)≤((ys[k]).toNat:Int):=by omega
   have hnl:=zT ys k (by rw [HX.out];exact hm) lx
   have ht:=lh (Fq ys k lx)
   clear KX
   generalize hz:num (ys.take k)=z at *
   have HZ:=lh hz
   clear hz
   have hz1:((z:Nat):Int)<72057594037927936:=by omega
   go_wp2
   go_round
   case rel =>
    refine⟨k+1,by omega,by go_num,?_⟩
    rw [Bl _ _ (by omega) hz1 hb0 (by omega),ht.out]
    simp
   case measure=>simp [intOf];omega
  ·obtain rfl:k=n:=by omega
   go_wp2
   go_ret2
   have e:num (ys.take k)=num ys:=by rw [List.take_of_length_le (by rw [HX.out];omega)]
   exact⟨congrArg (fun z:Nat=>Ending.returned (.tuple #[.int .u64 z,.bool true])) e,rfl⟩
theorem JS {w:World}{g:Nat}{v:Value}{xs:List UInt8} (n:Nat) (h:Rr w g v xs 0) (hn1:1≤n) (hn:n≤xs.length) (hm:n≤8) :
  Calls Tryz.prog 304 #[.pointer (some ⟨g,0,none⟩),.int .i64 n] w fun r w'=>r = .returned (.tuple #[.int .u64 (num (xs.take n)),.bool true])∧w'=w:=by
 rcases h.rd.open with ⟨_,rfl⟩ | ⟨gb,off,ca,rfl,h1,h2,h3,_⟩
 ·simp at hn;omega
 ·exact Ot n h rfl hn1 hn hm h1 (by simp only [maxLen] at h2;omega)
theorem Am {w:World}{g:Nat}{v:Value}{xs:List UInt8}{e:Int} (n:Nat) (h:Rr w g v xs e) (hn1:1≤n) (hm:n≤8) :
  Calls Tryz.prog 304 #[.pointer (some ⟨g,0,none⟩),.int .i64 n] w (vV (.tuple #[.int .u64 (jZ n xs e),.bool (ve n xs e)]) w g v xs (oZ n xs e)):=by
 by_cases he:e=0
 ·subst he
  by_cases hn:n≤xs.length
  ·refine (JS n h hn1 hn hm).mono ?_
   rintro r w' ⟨rfl,rfl⟩
   simp only [jZ,ve,oZ,hn,if_true]
   exact⟨rfl,_,jK.refl h⟩
  ·refine (J8 n h (by omega) (by omega)).mono ?_
   rintro r w' hr
   simp only [jZ,ve,oZ,hn,if_true,if_false]
   exact hr
 ·refine (Qr n h he).mono ?_
  rintro r w' ⟨rfl,rfl⟩
  simp only [jZ,ve,oZ,he,if_false]
  exact⟨rfl,_,jK.refl h⟩
theorem Tz {w:World}{g:Nat}{v:Value}{xs:List UInt8}{e:Int} (n:Nat) (h:Rr w g v xs e) (hn1:1≤n) (hm:n≤8) (hk:ve n xs e=false) :
  Calls Tryz.prog 289 #[.pointer (some ⟨g,0,none⟩),.int .i64 n] w (vV (.int .u64 (jZ n xs e)) w g v xs (oZ n xs e)):=by
 have H:=lh h
 have HK:=lh hk
 clear h hk
 go_enter Tryz.func289,Tryz.ntmps289
 go_wp2_with fail
 refine (Am n H.out hn1 hm).mono ?_
 rw [HK.out]
 rintro r w1 ⟨rfl,v1,h1⟩
 have H1:=lh h1
 clear h1
 go_wp2
 go_ret
 exact⟨rfl,v1,H1.out⟩
theorem Uj {w:World}{g:Nat}{v:Value}{xs:List UInt8} (n:Nat) (h:Rr w g v xs 0) (hn1:1≤n) (hm:n≤8) (hn:n≤xs.length) :
  Calls Tryz.prog 289 #[.pointer (some ⟨g,0,none⟩),.int .i64 n] w (vV (.int .u64 (num (xs.take n))) w g v (xs.drop n) 0):=by
 rcases h.rd.open with ⟨_,rfl⟩ | ⟨gb,off,ca,rfl,h1,h2,h3,_⟩
 ·simp at hn;omega
 have hm:ca≤9223372036854775807:=by simp only [maxLen] at h2;omega
 have r2:=Rd.drop h.rd hn
 obtain⟨len,hlen⟩:∃ len,xs.length=len:=⟨_,rfl⟩
 have HP:=lh (JS n h hn1 hn (by assumption))
 have c:=af h.heap
 have f:=bY h.heap
 have H:=lh h
 rw [hlen] at h1 hn r2 H c ⊢
 have HL:=lh hlen
 clear h hlen h2 h3
 by_cases hcn:ca=n
 ·subst hcn
  rw [if_pos rfl,Nat.sub_self,show len - ca=0 from by omega] at r2
  have R:=lh (H.out.set r2)
  clear r2 H
  go_enter Tryz.func289,Tryz.ntmps289
  go_wp2_with fail
  refine HP.out.mono ?_
  rintro r w1 ⟨rfl,rfl⟩
  clear HP
  go_wp2
  go_ret
  exact⟨rfl,_,R.out⟩
 ·rw [if_neg hcn] at r2
  have R:=lh (H.out.set r2)
  clear r2 H
  go_enter Tryz.func289,Tryz.ntmps289
  go_wp2_with fail
  refine HP.out.mono ?_
  rintro r w1 ⟨rfl,rfl⟩
  clear HP
  go_wp2
  go_ret
  exact⟨rfl,_,R.out⟩
theorem Ql {w:World}{g:Nat}{v:Value}{xs:List UInt8}{e:Int} (n:Nat) (h:Rr w g v xs e) (hn1:1≤n) (hm:n≤8) :
  Calls Tryz.prog 289 #[.pointer (some ⟨g,0,none⟩),.int .i64 n] w (vV (.int .u64 (jZ n xs e)) w g v (um n xs e) (oZ n xs e)):=by
 by_cases hk:ve n xs e=true
 ·simp only [ve,Bool.and_eq_true,decide_eq_true_eq] at hk
  obtain⟨rfl,hn⟩:=hk
  simp only [jZ,um,oZ,hn,if_true]
  exact Uj n h hn1 hm hn
 ·have hk2:ve n xs e=false:=by simpa using hk
  have:um n xs e=xs:=by
   simp only [ve,Bool.and_eq_false_iff,decide_eq_false_iff_not] at hk2
   unfold um
   split
   ·split
    ·exfalso;rcases hk2 with h | h <;> exact h (by assumption)
    ·rfl
   ·rfl
  rw [this]
  exact Tz n h hn1 hm hk2
theorem yh (n:Nat) (xs:List UInt8) (e:Int):jZ n xs e<256 ^ n:=by
 have hp:0<256 ^ n:=Nat.pow_pos (by decide)
 unfold jZ
 split
 ·split
  ·have h1:=ww (xs.take n)
   have h2:256 ^ (xs.take n).length≤256 ^ n:=Nat.pow_le_pow_right (by decide) (List.length_take_le _ _)
   omega
  ·exact hp
 ·exact hp
theorem Qe {w:World}{g:Nat}{v:Value}{xs:List UInt8}{e:Int} (h:Rr w g v xs e) :
  Calls Tryz.prog 259 #[.pointer (some ⟨g,0,none⟩)] w (vV (.int .u64 (jZ 8 xs e)) w g v (um 8 xs e) (oZ 8 xs e)):=by
 have H:=lh h
 clear h
 go_enter Tryz.func259,Tryz.ntmps259
 go_wp2_with fail
 refine (Ql 8 H.out (by omega) (by omega)).mono ?_
 rintro r w1 ⟨rfl,hr⟩
 go_wp2
 go_ret
 exact⟨rfl,hr⟩
end Go.Proofs.YtglkmaalpammcaaGreat
namespace Go.Gl
theorem Rj {B:Nat} (c:Nat):∀ (ds:List Nat) (i:Nat) (hi:i<ds.length),dB B (ds.set i (ds[i]+c))=dB B ds+c*B ^ i:=by
  intro ds
  induction ds with
  | nil=>intro i hi;simp at hi
  | cons d ds ih =>
    intro i hi
    rcases i with _ | i
    · simp [dB];omega
    · have:=ih i (by simpa using hi)
      simp only [List.set_cons_succ,List.getElem_cons_succ,dB,this,Nat.mul_add,Nat.pow_succ]
      rw [Nat.add_assoc,Nat.mul_comm B (c*B ^ i),Nat.mul_assoc]
theorem TL {ls:List Nat} (h:gu ls) (i x:Nat) (hx:x≤18446744073709551615):gu (ls.set i x):=by
 intro y hy
 rcases List.mem_or_eq_of_mem_set hy with hy | hy
 ·exact h y hy
 ·omega
theorem Qh (xs:List UInt8) (k:Nat) (h:k<xs.length):num (xs.drop (xs.length - (k+1)))=num (xs.drop (xs.length - k))+(xs[xs.length - 1 - k]'(by omega)).toNat*256 ^ k:=by
 have e:xs.length - (k+1)<xs.length:=by omega
 rw [List.drop_eq_getElem_cons e,xP]
 have e2:xs.length - (k+1)+1=xs.length - k:=by omega
 have e3:xs.length - 1 - k=xs.length - (k+1):=by omega
 rw [e2,List.length_drop]
 have e4:xs.length - (xs.length - k)=k:=by omega
 rw [e4]
 simp only [e3]
 omega
theorem Kt {ls:List Nat} (h:gu ls) (k:Nat) (hk:k / 8<ls.length) (hd:dB 18446744073709551616 ls<256 ^ k):ls[k / 8]<256 ^ (k % 8):=by
 have h1:=Gf (B:=18446744073709551616) ls (fun x hx=>by have:=h x hx;omega) (k / 8) hk
 rw [← h1]
 refine Nat.lt_of_le_of_lt (Nat.mod_le _ _) ?_
 refine Nat.div_lt_of_lt_mul ?_
 rw [show (18446744073709551616:Nat)=256 ^ 8 from by decide,← Nat.pow_mul,← Nat.pow_add,show 8*(k / 8)+k % 8=k from Nat.div_add_mod k 8]
 exact hd
theorem LH (x c s:Nat) (h:x<2 ^ s):x ||| (c*2 ^ s)=x+c*2 ^ s:=by
 have:=Nat.shiftLeft_add_eq_or_of_lt (b:=x) (i:=s) h c
 rw [Nat.shiftLeft_eq] at this
 rw [Nat.or_comm,← this,Nat.add_comm]
end Go.Gl
namespace Go.Proofs.YtglkmaalpammcaaGreat
open Go.Gl Go.RowKit
theorem Vh (x y:Nat) (hx:x≤18446744073709551615) (hy:y≤18446744073709551615):bits .or .u64 (x:Int) (y:Int)=((x ||| y:Nat):Int):=by
 unfold bits
 have e1:(BitVec.ofInt 64 ((x:Nat):Int))=BitVec.ofNat 64 x:=BitVec.ofInt_natCast ..
 have e2:(BitVec.ofInt 64 ((y:Nat):Int))=BitVec.ofNat 64 y:=BitVec.ofInt_natCast ..
 show IntKind.u64.wrap (((BitVec.ofInt 64 ((x:Nat):Int)) ||| (BitVec.ofInt 64 ((y:Nat):Int))).toNat:Int)=_
 have h2:x ||| y<2 ^ 64:=Nat.or_lt_two_pow (by omega) (by omega)
 rw [e1,e2,BitVec.toNat_or,BitVec.toNat_ofNat,BitVec.toNat_ofNat,Nat.mod_eq_of_lt (by omega),Nat.mod_eq_of_lt (by omega),IntKind.wrap_u64]
 omega
theorem OI (x y r:Nat) (hy:y<2 ^ 8) (hr:r<8) (hx:x<256 ^ r):bits .or .u64 (x:Int) (IntKind.u64.wrap ((y:Int)*2 ^ (8*r)))=((x+y*256 ^ r:Nat):Int):=by
 have e:(256:Nat) ^ r=2 ^ (8*r):=by rw [show (256:Nat)=2 ^ 8 from rfl,← Nat.pow_mul]
 rw [e] at hx ⊢
 have h1:2 ^ (8*r)≤2 ^ 56:=Nat.pow_le_pow_right (by decide) (by omega)
 have h2:y*2 ^ (8*r)≤255*2 ^ 56:=Nat.mul_le_mul (by omega) h1
 have h3:IntKind.u64.wrap ((y:Int)*2 ^ (8*r))=((y*2 ^ (8*r):Nat):Int):=by
  have h4:((y:Int)*2 ^ (8*r))=((y*2 ^ (8*r):Nat):Int):=by simp
  rw [h4,IntKind.wrap_u64]
  omega
 rw [h3,Vh _ _ (by omega) (by omega),LH _ _ _ hx]
theorem from_new (x y k:Nat) (hy:y<2 ^ 8) (hx:x<256 ^ (k % 8)):x+y*256 ^ (k % 8)≤18446744073709551615:=by
 have h1:256 ^ (k % 8)≤256 ^ 7:=Nat.pow_le_pow_right (by decide) (by omega)
 have h2:y*256 ^ (k % 8)≤255*256 ^ (k % 8):=Nat.mul_le_mul_right _ (by omega)
 have e:(256:Nat) ^ 7=72057594037927936:=by decide
 omega
theorem MF {w:World}{ga off n c0:Nat}{bs:List UInt8} (h:Rd w (.slice (some ⟨ga,off,none⟩) n c0) bs) (hn:bs.length=n) (hl:n≤10000000000) (hpos:0<n) (h0:bs[0]?≠some 0) :
  Calls Tryz.prog 312 #[.slice (some ⟨ga,off,none⟩) n c0] w fun e w'=>∃ v,e = .returned (.tuple #[v,.int .i64 0])∧RN w' v (tY 18446744073709551616 (num bs))∧ae ai w w'∧aG w v:=by
 have cc:∀ i (hi:i<bs.length),w.cell? ⟨ga,off+i,none⟩=some (.int .u8 (bs[i]).toNat):=by
  rcases h.open with ⟨h1,_⟩ | ⟨g',off',cap',h1,_,_,_,h5⟩
  ·exact h1.no.elim
  ·cases h1;exact h5
 obtain⟨c,ct0,hcb⟩:∃ c:Int,w.cell? ⟨ga,off,none⟩=some (.int .u8 c)∧(c == 0)=false:=by
  refine⟨_,cc 0 (by omega),?_⟩
  have h1:=h0
  rw [List.getElem?_eq_getElem (by omega)] at h1
  simp only [beq_eq_false_iff_ne]
  intro h2
  exact h1 (by rw [show bs[0]=0 from UInt8.toNat_inj.1 (by simpa using h2)])
 have HC:=lh cc
 have HN:=lh hn
 have H:=lh h
 have hq:((n:Int)+7) / 8=(((n+7) / 8:Nat):Int):=by omega
 obtain⟨m,hm⟩:∃ m,(n+7) / 8=m:=⟨_,rfl⟩
 rw [hm] at hq
 clear cc h h0 hn
 have hnpos:(0:Int)<(n:Int):=by omega
 go_enter Tryz.func312,Tryz.ntmps312
 go_wp2_with (refine Cc 64 Tryz.underlying64 rfl (.tmp 18) (.tmp 18) (by rfl) .i64 .i64 m (congrArg (Value.int .i64) hq) (congrArg (Value.int .i64) hq) (by omega) ?_;intro w2 o2 m2 z2;have R0:Hid (∃ ls:List Nat,ls.length=m∧gu ls∧dB 18446744073709551616 ls=num (bs.drop (n - 0))∧ON 22 w2 (.slice (some ⟨w.heap.size,0,none⟩) m m) ls∧ae ai w w2):=⟨List.replicate m 0,by simp,fun x hx=>by rw [List.eq_of_mem_replicate hx];omega,by rw [Nat.sub_zero,List.drop_of_length_le (by rw [HN.out];omega),← qW,BF (fun x hx=>List.eq_of_mem_replicate hx)];rfl,o2,m2⟩;clear o2 m2 z2)
 clear hq ct0 hcb
 go_loopw [22] (fun i wr=>∃ k:Nat,k≤n∧i = .int .i64 k∧Hid (∃ ls:List Nat,ls.length=m∧gu ls∧dB 18446744073709551616 ls=num (bs.drop (n - k))∧ON 22 wr (.slice (some ⟨w.heap.size,0,none⟩) m m) ls∧ae ai w wr)) (fun i _=>n - (intOf i).toNat)
 case atStart=>exact⟨0,Nat.zero_le _,rfl,R0⟩
 case round =>
  obtain⟨k,hk,rfl,hR⟩:=hrel
  clear R0
  obtain⟨ls,l1,l2,l3,l4,l5⟩:=hR.out
  by_cases hlt:k<n
  ·have hk8:k / 8<m:=by omega
   have lb:n - 1 - k<bs.length:=by rw [HN.out];omega
   have c1:=(l5.cellAt (H.out.ltn (by rw [HN.out];omega) ga rfl) (fun x=>x) (off+(n - 1 - k))).trans (HC.out (n - 1 - k) lb)
   have hlq:k / 8<ls.length:=by omega
   obtain⟨gg,oo,cc,cur,hv,hg,_,_,hsz,hcu⟩:=(qx.open l4).resolve_left (by rintro⟨hh,_⟩;cases hh)
   rw [l1] at hv
   cases hv
   have c2:=(af hg (0+k / 8)).trans (hcu (k / 8) hlq)
   have f2:=bY hg (0+k / 8)
   simp only [Nat.zero_add] at c2 f2
   have hxl:ls[k / 8]≤18446744073709551615:=l2 _ (List.getElem_mem hlq)
   have hnk:n - 1 - k<n:=by omega
   have hdp:=lh (Qh bs k (by rw [HN.out];exact hlt))
   have hsm:=lh (Kt l2 k hlq (by rw [l3];have:=ww (bs.drop (n - k));rw [List.length_drop,HN.out,show n - (n - k)=k from by omega] at this;exact this))
   have hb:=(bs[n - 1 - k]).toNat_lt
   have L:=lh (And.intro l2 (And.intro l3 (And.intro l4 l5)))
   have L1:=lh l1
   clear hcu hg hsz l2 l3 l4 l5 l1 hR
   have HBx:=lh (show (bs[n - 1 - k]).toNat=(bs[n - 1 - k]).toNat from rfl)
   generalize hlx:ls[k / 8]=x at *
   generalize hby:(bs[n - 1 - k]).toNat=y at *
   have HX:=lh hlx
   have HY:=lh hby
   clear hlx hby HBx
   go_wp2
   have t1:((k:Int) / 8).toNat=k / 8:=by omega
   have t2:((n:Int) - 1 - (k:Int)).toNat=n - 1 - k:=by omega
   have t3:(8*((k:Int) % 8)).toNat=8*(k % 8):=by omega
   have b1:(0:Int)≤(k:Int) / 8:=by omega
   have b2:(k:Int) / 8<(m:Int):=by omega
   have b3:(0:Int)≤(n:Int) - 1 - (k:Int):=by omega
   have b4:(n:Int) - 1 - (k:Int)<(n:Int):=by omega
   have b6:(k:Int)≤(n:Int) - 1:=by omega
   have b5:(0:Int)≤8*((k:Int) % 8):=by omega
   have w1:IntKind.i64.wrap ((k:Int) / 8)=(k:Int) / 8:=IntWalk.i64_in _ (by omega)
   have w2':IntKind.i64.wrap ((n:Int) - 1)=(n:Int) - 1:=IntWalk.i64_in _ (by omega)
   have w3:IntKind.i64.wrap ((n:Int) - 1 - (k:Int))=(n:Int) - 1 - (k:Int):=IntWalk.i64_in _ (by omega)
   have w4:IntKind.i64.wrap ((k:Int) % 8)=(k:Int) % 8:=IntWalk.i64_in _ (by omega)
   have w5:IntKind.i64.wrap (8*((k:Int) % 8))=8*((k:Int) % 8):=IntWalk.i64_in _ (by omega)
   have w6:((k:Int)).tmod 8=(k:Int) % 8:=Int.tmod_eq_emod_of_nonneg (by omega)
   have w7:IntKind.u64.wrap (y:Int)=(y:Int):=by rw [IntKind.wrap_u64];omega
   go_still_tail 20,(by kernel_rfl)
   change wpList _ _ _ _ _ wr.drew
   clear t1 t2 t3 b1 b2 b3 b4 b5 b6 w1 w2' w3 w4 w5 w6 w7
   have hval:bits .or .u64 (x:Int) (IntKind.u64.wrap ((y:Int)*2 ^ (8*(k % 8))))=((x+y*256 ^ (k % 8):Nat):Int):=OI x y (k % 8) hb (Nat.mod_lt _ (by decide)) hsm.out
   have hnew:=from_new x y k hb hsm.out
   rw [hval]
   obtain⟨l2,l3,l4,l5⟩:=L.out
   have R1:Hid (∃ ls':List Nat,ls'.length=m∧gu ls'∧dB 18446744073709551616 ls'=num (bs.drop (n - (k+1)))∧ON 22 (wr.drew.setCell ⟨w.heap.size,k / 8,none⟩ (.int .u64 ((x+y*256 ^ (k % 8):Nat):Int))) (.slice (some ⟨w.heap.size,0,none⟩) m m) ls'∧ae ai w (wr.drew.setCell ⟨w.heap.size,k / 8,none⟩ (.int .u64 ((x+y*256 ^ (k % 8):Nat):Int)))):=by
    refine⟨ls.set (k / 8) (x+y*256 ^ (k % 8)),by rw [List.length_set,L1.out],TL l2 _ _ hnew,?_,?_,(l5.drew).setCell (.inr (Nat.le_refl _)) _⟩
    ·have h1:=Rj (B:=18446744073709551616) (y*256 ^ (k % 8)) ls (k / 8) hlq
     rw [HX.out] at h1
     have h2:=hdp.out
     simp only [HN.out] at h2
     rw [HY.out] at h2
     rw [h1,l3,h2,Nat.mul_assoc]
     congr 2
     rw [show (18446744073709551616:Nat)=256 ^ 8 from by decide,← Nat.pow_mul,← Nat.pow_add,Nat.add_comm,show 8*(k / 8)+k % 8=k from Nat.div_add_mod k 8]
    ·have h1:=Gg (f:=u64) (qx.keep l4 ((ae.refl ai wr).drew) (fun _ _ x=>x)) L1.out (k / 8) hk8 (x+y*256 ^ (k % 8))
     rw [Nat.zero_add] at h1
     exact h1
   have c3:wr.drew.cell? ⟨w.heap.size,k / 8,none⟩=some (u64 x):=c2
   have f3:wr.drew.frozen? ⟨w.heap.size,k / 8,none⟩=false:=f2
   clear hval hnew l2 l3 l4 l5 c2 f2 c1
   generalize ((x+y*256 ^ (k % 8):Nat):Int)=nv at *
   generalize wr.drew=wd at *
   go_wp2
   go_roundw
   case rel=>exact⟨k+1,by omega,by go_num,R1⟩
   case measure=>simp [intOf];omega
  ·obtain rfl:k=n:=by omega
   have R:=lh (And.intro l2 (And.intro l3 (And.intro l4 l5)))
   clear hR l1 l2 l3 l4 l5
   go_wp2_with fail
   refine (Aw R.out.2.2.1.rd).mono ?_
   rintro e w9 ⟨⟨v9,rfl,hr9,hb9⟩,rfl⟩
   have R9:=lh (And.intro hr9 hb9)
   clear hr9 hb9
   go_wp2
   go_ret2
   obtain⟨l2,l3,l4,l5⟩:=R.out
   obtain⟨r1,r2⟩:=R9.out
   refine⟨v9,rfl,?_,l5,fun i hi=>?_⟩
   ·rw [Ea (B:=18446744073709551616) (by decide) (fun x hx=>by have:=l2 x hx;omega),l3,Nat.sub_self,List.drop_zero] at r1
    exact r1
   ·have:=r2 i hi
    simp [Value.ownBlock] at this
    omega
def SL (bs:List UInt8) (w:World) (e:Ending) (w':World):Prop :=
 (bs[0]?=some 0∧e = .returned (.tuple #[.slice none 0 0,.int .i64 13])∧w'=w) ∨
 (bs[0]?≠some 0∧∃ v,e = .returned (.tuple #[v,.int .i64 0])∧RN w' v (tY 18446744073709551616 (num bs))∧ae ai w w'∧aG w v)
theorem NI {w:World}{ga off n c0:Nat}{bs:List UInt8} (h:Rd w (.slice (some ⟨ga,off,none⟩) n c0) bs) (hn:bs.length=n) (hl:n≤10000000000) (h0:bs[0]?=some 0) :
  Calls Tryz.prog 312 #[.slice (some ⟨ga,off,none⟩) n c0] w fun e w'=>e = .returned (.tuple #[.slice none 0 0,.int .i64 13])∧w'=w:=by
 have hpos:0<n:=by
  rcases Nat.eq_zero_or_pos n with hz | hz
  ·rw [List.eq_nil_of_length_eq_zero (hn.trans hz)] at h0
   cases h0
  ·exact hz
 have cc:w.cell? ⟨ga,off,none⟩=some (.int .u8 0):=by
  rcases h.open with ⟨h1,_⟩ | ⟨g',off',cap',h1,_,_,_,h5⟩
  ·exact h1.no.elim
  ·cases h1
   have h2:=h5 0 (by omega)
   rw [List.getElem?_eq_getElem (by omega)] at h0
   rw [Option.some.inj h0] at h2
   exact h2
 have hnpos:(0:Int)<(n:Int):=by omega
 clear h h0
 go_enter Tryz.func312,Tryz.ntmps312
 go_wp2
 go_ret2
 exact⟨rfl,rfl⟩
theorem Qj {w:World}{a:Option Addr}{c0:Nat} :
  Calls Tryz.prog 312 #[.slice a 0 c0] w fun e w'=>∃ v,e = .returned (.tuple #[v,.int .i64 0])∧RN w' v []∧ae ai w w'∧aG w v:=by
 go_enter Tryz.func312,Tryz.ntmps312
 go_wp2_with (refine Cc 64 Tryz.underlying64 rfl (.tmp 18) (.tmp 18) (by rfl) .i64 .i64 0 (by rfl) (by rfl) (by omega) ?_;intro w2 o2 m2 z2;have R:=lh (And.intro o2 m2);clear o2 m2 z2)
 refine wp_loop_rounds 1 ?_
 rw [rounds_succ]
 go_wp2_with fail
 refine (Aw R.out.1.rd).mono ?_
 rintro e w9 ⟨⟨v9,rfl,hr9,hb9⟩,rfl⟩
 have R9:=lh (And.intro hr9 hb9)
 clear hr9 hb9
 go_wp2
 go_ret2
 refine⟨v9,rfl,R9.out.1,R.out.2,fun i hi=>?_⟩
 have:=R9.out.2 i hi
 simp [Value.ownBlock] at this
 omega
theorem Rl {w:World}{v:Value}{bs:List UInt8} (h:Rd w v bs) (hl:bs.length≤10000000000):Calls Tryz.prog 312 #[v] w (SL bs w):=by
 rcases Nat.eq_zero_or_pos bs.length with hz | hz
 ·obtain⟨a,c,rfl,_⟩:=h.form
  rw [hz]
  have e:=List.eq_nil_of_length_eq_zero hz
  subst e
  exact Qj.mono fun e w' he => .inr ⟨by simp,he⟩
 ·rcases h.open with ⟨_,rfl⟩ | ⟨g,off,cap,rfl,_⟩
  ·simp at hz
  ·by_cases h0:bs[0]?=some 0
   ·exact (NI h rfl hl h0).mono fun e w' he => .inl ⟨h0,he⟩
   ·exact (MF h rfl hl hz h0).mono fun e w' he => .inr ⟨h0,he⟩
end Go.Proofs.YtglkmaalpammcaaGreat

/- Parts of the proof, one behind the other: In, PgR, PgW, Cat, Del1, Del2, PgD, PgJ, PgE, PgG, KvPr, R6S, PgL, PgN. -/
import Derived.Test.YtglkmaalpammcaaGreatZA
import Derived.OrdersIn
import Derived.RangeFuncSeq
import Derived.Lib.Overlaps
import Derived.Laws.Externs
import Derived.StillTailTactics
import Derived.Outline
set_option maxHeartbeats 64000000
set_option linter.unusedSimpArgs false
set_option linter.unusedVariables false
set_option maxRecDepth 100000
namespace Go.Gl
open Go.RowKit
abbrev WF (r:Option Nat):Fence:={ Fence.wide with round:=r }
theorem WF.room (r:Option Nat) (k:Nat):(WF r).room k:=fun _ h=>by simp [Fence.wide] at h
theorem lM {r:Option Nat}{n:Nat}{P:Program}{f:FuncId}{args:Array Value}{w:World}{R:Ending→World→Prop}:CallsIn (WF r) n P f args w R↔Calls P f args w R:=callsIn_wide (n:=n)
theorem EP {r:Option Nat}{n:Nat}{P:Program}{row:String}{args:Array Value}{w:World}{R:Value→World→Prop} (h:Rows P row args w R):RowsIn (WF r) n P row args w R:=fun c cs _ =>
 let ⟨v,w',hr,hs⟩:=h c cs;⟨v,w',hr,stepsIn_wide.2 hs⟩
theorem RoundIn.room {r r':Option Nat}{n m:Nat}{P:Program}{l:Nat}{f:FuncId}{tmps:Array Value}{assign body:Code}{w:World}{R:Ending→World→Prop} (h:RoundIn (WF r) n P l f tmps assign body w R):RoundIn (WF r') m P l f tmps assign body w R :=
 ⟨trivial,fun c cs _=>h.2 c cs (WF.room _ _)⟩
def Calm (Q:Exit→Act→World→Prop):Exit→Act→World→Prop
 | .panic _,_,_=>False
 | .outgrown,_,_=>False
 | e,a,w=>Q e a w
theorem Calm.imp {Q:Exit→Act→World→Prop} (e:Exit) (a:Act) (w:World) (h:Calm Q e a w):Q e a w:=by cases e <;> first | exact h | exact h.elim
theorem Calm.letsOut {Q:Exit→Act→World→Prop} (h:LetsOut (Calm Q)):False:=by obtain⟨a,w,h⟩:=h;exact h
theorem Calm.dead {Q:Exit→Act→World→Prop} (c:List PanicEntry) (a:Act) (d:Option Tmp) (v:Value) (w:World) (h:Calm Q (.panic c) (a.put d v) w):Calm Q (.panic c) a w:=h
def jL (ops:Array Oper):Bool:=ops.all fun o=>match o.op with | .defer _=>false | _=>true
theorem lq {ops:Array Oper} (h:jL ops=true) {i:Nat}{o:Oper} (hi:ops[i]?=some o) (c:Call):o.op ≠ .defer c:=fun e=>by
 have:=Array.all_eq_true_iff_forall_mem.1 h o (Array.mem_of_getElem? hi)
 rw [e] at this
 cases this
section
variable {P:Program}{ops:Array Oper}{Q:Exit→Act→World→Prop}{r:Option Nat}{n:Nat}
theorem qZ {Q1:Exit→Act→World→Prop}{o:Oper}{a:Act}{w:World}{K:Act→World→Prop} (hd:∀ c,o.op ≠ .defer c) (h:o.wp P a w K (Calm Q1)):o.wpIn (WF r) n P a w K Q:=by
  refine⟨fun _ _=>trivial,?_⟩
  rw [Oper.semAt_eq _ _ _ hd]
  unfold Oper.wp at h
  generalize (execOp a.eval o).run P w=res at *
  cases res with
  | ok x w' =>
    cases x with
    | value v=>exact h
    | skip=>exact h
    | defer d=>exact h
    | enter f args =>
      refine⟨fun h0=>(by simp [Fence.wide] at h0),lM.2 (Calls.mono h (fun e w'' he=>?_))⟩
      cases e with
      | returned v=>exact he
      | panicked ch=>exact he.elim
      | outgrown=>exact (Calm.letsOut he).elim
    | row row args=>exact⟨fun h0=>(by simp [Fence.wide] at h0),EP h⟩
    | _=>exact h.elim
  | halt x w' =>
    cases x <;> exact h.elim
theorem xA {i:Nat}{K:Act→World→Prop}{a:Act}{w:World} (hd:jL ops=true) (h:wpOp P ops (Calm Q) i K a w):wpOpIn (WF r) n P ops Q i K a w:=by
  unfold wpOp at h
  unfold wpOpIn
  cases ho:ops[i]? with
  | none=>simpa [ho] using h
  | some o =>
    simp only [ho] at h ⊢
    by_cases hw:Region.wanted o (yielded ops a.tmps)=true
    · simp only [hw,if_true] at h ⊢
      rcases h with h | ⟨_,h⟩
      · exact qZ (lq hd ho) h
      · exact (Calm.letsOut h).elim
    · rw [Bool.not_eq_true] at hw
      simp only [hw,Bool.false_eq_true,if_false] at h ⊢
      exact⟨fun _ _=>trivial,h⟩
theorem vP {md:Region.Mode} (hd:jL ops=true):∀ (fuel:Nat) (L:Array Bool) (a:Act) (w:World),wpAny P md ops (Calm Q) fuel L a w→wpAnyIn (WF r) n P md ops Q fuel L a w
 | 0,_,_,_,h=>h
 | fuel+1,L,a,w,h=>⟨h.1,fun i hi=>wpOpIn_mono (fun a' w' h'=>vP hd fuel _ a' w' h') (xA hd (h.2 i hi))⟩
theorem uT (hd:jL ops=true):∀ (l:List Nat) (a:Act) (w:World),wpOps P ops (Calm Q) l a w→wpOpsIn (WF r) n P ops Q l a w
  | [],_,_,h=>h
  | i :: l, a, w, h => by
    rw [wpOps_cons] at h
    rw [wpOpsIn_cons]
    exact wpOpIn_mono (fun a' w' h'=>uT hd l a' w' h') (xA hd h)
structure RW (P:Program) (ops:Array Oper) (draws:Bool) (Q:Exit→Act→World→Prop) (a:Act) (w:World):Prop where
 out:if draws then P.follows .mixedOrders=true∧wpAny P .any ops (Calm Q) ops.size (Array.replicate ops.size false) a w.drew else wpOps P ops (Calm Q) (List.range ops.size) a w
theorem RW.wp {draws:Bool}{a:Act}{w:World}{id:Nat} (h:RW P ops draws Q a w):(Code.region id ops draws).wp P Q a w:=by
 have h:=h.out
 cases draws with
 | true=>exact Code.wp_mono Calm.imp (wp_region_any h.1 h.2)
 | false=>exact Code.wp_mono Calm.imp (wp_region h)
theorem RW.wpIn {draws:Bool}{a:Act}{w:World}{id:Nat} (h:RW P ops draws Q a w) (hd:jL ops=true):(Code.region id ops draws).wpIn (WF r) n P Q a w:=by
 have h:=h.out
 cases draws with
 | true=>exact wpIn_region_any h.1 (vP hd _ _ _ _ h.2)
 | false=>exact wpIn_region (uT hd _ _ _ h)
theorem lS {a:Act}{w:World}{S:World→Prop} (l:List (Nat × Bool)) (T:List Nat) (hm:P.follows .mixedOrders=true) (hs:Region.noSelect ops=true) (hl:l.length=ops.size)
  (ok:mX .any ops T l (Array.replicate ops.size false)=true) (hS:S w.drew) (h:dG P ops (Calm Q) T S l a w.drew):RW P ops true Q a w:=by
 refine⟨⟨hm,nH (T:=T) (S:=S) _ _ _ _ ?_⟩⟩
 rw [← hl]
 rw [← hl] at ok
 refine pW hs Calm.dead l _ _ _ ok ?_ (by simpa using hl) (fun _=>hS) h.out
 intro j oj _ hl
 simp at hl
 exact absurd hl (by
  rcases Nat.lt_or_ge j l.length with h' | h'
  ·simp [h']
  ·simp [h'])
theorem kR {a:Act}{w:World}{S:World→Prop} (l:List (Nat × Bool)) (T:List Nat) (sm:List (Nat × Nat × Nat)) (hm:P.follows .mixedOrders=true) (hs:Region.noSelect ops=true) (hl:l.length=ops.size)
  (hsm:sums ops=sm) (ok:(qP sm.length sm && sN sm T l 0)=true) (hS:S w.drew) (h:dG P ops (Calm Q) T S l a w.drew):RW P ops true Q a w:=by
 subst hsm
 rw [Bool.and_eq_true] at ok
 have hlen:(sums ops).length=ops.size:=by simp [sums]
 rw [hlen] at ok
 refine⟨⟨hm,nH (T:=T) (S:=S) _ _ _ _ ?_⟩⟩
 rw [← hl]
 refine BK hs Calm.dead ok.1 l _ 0 _ _ ok.2 (fun j hj=>?_) ?_ (by simpa using hl) (fun _=>hS) h.out
 ·simp at hj
  simp [hj]
 ·intro j oj _ hl
  simp at hl
  exact absurd hl (by
   rcases Nat.lt_or_ge j l.length with h' | h'
   ·simp [h']
   ·simp [h'])
theorem bU {a:Act}{w:World} (l:List (Nat × Bool)) (hl:l=(List.range ops.size).map (fun i=>(i,false))) (h:dG P ops (Calm Q) [] (fun _=>True) l a w):RW P ops false Q a w :=
 ⟨by have:=Bq _ a w (hl▸h.out);simpa using this⟩
theorem aA {T:List Nat}{S:World→Prop}{a:Act}{w:World} (h:Q .normal a w):dG P ops (Calm Q) T S [] a w:=⟨h⟩
theorem sO {md:Region.Mode}:∀ (f:Nat) (L:Array Bool) (a:Act) (w:World),wpAnyIn (WF r) n P md ops Q f L a w→wpAnyIn (WF r) n P md ops Q (f+1) L a w
 | 0,L,a,w,h=>⟨fun _=>h.2,fun i hi=>by rw [h.1] at hi;cases hi⟩
 | f+1,L,a,w,h=>⟨h.1,fun i hi=>wpOpIn_mono (fun a' w' h'=>sO f _ a' w' h') (h.2 i hi)⟩
theorem Ac {md:Region.Mode} (g f:Nat) (L:Array Bool) (a:Act) (w:World) (h:wpAnyIn (WF r) n P md ops Q g L a w):wpAnyIn (WF r) n P md ops Q (f+g) L a w:=by
 induction f with
 | zero=>rw [Nat.zero_add];exact h
 | succ f ih=>rw [show f+1+g=(f+g)+1 from by omega];exact sO _ _ _ _ ih
theorem IL {md:Region.Mode}{m g:Nat}{opsT:Array Oper}{Q1:Exit→Act→World→Prop} (hd:jL ops=true) (hs:Region.sinkB md ops m=true) (ha:yt md ops m=true) (hb:qy ops=true) (hm:m<ops.size)
    (hG:∀ a w,Q1 .normal a w→wpAnyIn (WF r) n P md ops Q g (rJ ops.size m) a w) :
    ∀ (f:Nat) (LT L:Array Bool) (a:Act) (w:World),Trunc m opsT ops LT L→HeadInv md ops m L→wpAny P md opsT (Calm Q1) f LT a w→wpAnyIn (WF r) n P md ops Q (f+g) L a w:=by
  have done:∀ (f:Nat) (LT L:Array Bool) (a:Act) (w:World),Trunc m opsT ops LT L→HeadInv md ops m L→Region.ready md opsT LT=[]→Q1 .normal a w→wpAnyIn (WF r) n P md ops Q (f+g) L a w:=by
    intro f LT L a w ht inv hr hg
    have hall:=ht.all hb (Nat.le_of_lt hm) hr
    have e:L=rJ ops.size m:=by
      apply Array.ext_getElem?
      intro j
      by_cases hj:j<ops.size
      · rw [Iz _ _ _ hj]
        by_cases hjn:j<m
        · have h1:=hall j hjn
          have h2:=ht.get j hjn
          have h3:j<LT.size:=by rw [ht.lsz];exact hjn
          simp [h3] at h1
          rw [← h2,Array.getElem?_eq_getElem h3,h1]
          simp [hjn]
        · have h1:=inv.tail j (by omega) hj
          have h3:j<L.size:=by rw [inv.size];exact hj
          simp [h3] at h1
          rw [Array.getElem?_eq_getElem h3,h1]
          simp [hjn]
      · rw [Array.getElem?_eq_none (by rw [inv.size];omega),Array.getElem?_eq_none (by rw [yC];omega)]
    subst e
    exact Ac _ _ _ _ _ (hG a w hg)
  intro f
  induction f with
  | zero =>
    intro LT L a w ht inv h
    exact done 0 LT L a w ht inv h.1 h.2
  | succ f ih =>
    intro LT L a w ht inv h
    by_cases hr:Region.ready md opsT LT=[]
    · exact done (f+1) LT L a w ht inv hr (h.1 hr)
    · obtain⟨i0,hi0⟩:=List.exists_mem_of_ne_nil _ hr
      have hi0n:i0<m:=by
        obtain⟨_,o,ho,_⟩:=mem_ready.1 hi0
        have:=(Array.getElem?_eq_some_iff.1 ho).1
        rw [ht.size] at this
        exact this
      have hi0r:=(ht.ready (md:=md) hb hi0n).1 hi0
      have hun:=(mem_ready.1 hi0r).1
      rw [show f+1+g=(f+g)+1 from by omega]
      refine⟨fun h0=>(by rw [h0] at hi0r;cases hi0r),fun i hi=>?_⟩
      have hin:i<m:=by
        rcases Nat.lt_or_ge i m with h1 | h1
        · exact h1
        · exact absurd hi (I8 hs ha inv hi0n hm hun i h1)
      have h1:=h.2 i ((ht.ready (md:=md) hb hin).2 hi)
      have ho:ops[i]?=some ops[i]:=Array.getElem?_eq_getElem (by omega)
      have h2:wpOpIn (WF r) n P ops Q i (wpAny P md opsT (Calm Q1) f (LT.setIfInBounds i true)) a w:=by
        unfold wpOp at h1
        unfold wpOpIn
        rw [ht.ops i hin,ho] at h1
        rw [ho]
        simp only [ht.wanted hb hin ho] at h1
        simp only
        by_cases hw:Region.wanted ops[i] (yielded ops a.tmps)=true
        · simp only [hw,if_true] at h1 ⊢
          rcases h1 with h1 | ⟨_,h1⟩
          · exact qZ (lq hd ho) h1
          · exact (Calm.letsOut h1).elim
        · rw [Bool.not_eq_true] at hw
          simp only [hw,Bool.false_eq_true,if_false] at h1 ⊢
          exact⟨fun _ _=>trivial,h1⟩
      exact wpOpIn_mono (fun a' w' hK=>ih _ _ a' w' (ht.set hin) (inv.set hi hin) hK) h2
def chainB (md:Region.Mode) (ops:Array Oper):Nat→Nat→Bool
 | 0,k=>Region.ready md ops (rJ ops.size k) == []
 | f+1,k=>Region.ready md ops (rJ ops.size k) == [k] && chainB md ops f (k+1)
theorem zQ {md:Region.Mode}:∀ (f k:Nat) (a:Act) (w:World),chainB md ops f k=true→wpOpsIn (WF r) n P ops Q (List.range' k f) a w→wpAnyIn (WF r) n P md ops Q f (rJ ops.size k) a w
  | 0,k,a,w,hc,h=>⟨by simpa [chainB] using hc,by simpa [wpOpsIn] using h⟩
  | f + 1, k, a, w, hc, h => by
    simp only [chainB,Bool.and_eq_true,beq_iff_eq] at hc
    rw [List.range'_succ,wpOpsIn_cons] at h
    refine⟨fun h0=>(by rw [h0] at hc;cases hc.1),fun i hi=>?_⟩
    rw [hc.1] at hi
    obtain rfl:i=k:=by simpa using hi
    exact wpOpIn_mono (fun a' w' h'=>zQ f (i+1) a' w' hc.2 h') h
def Fa (l:List Oper) (m:Nat):Bool :=
 decide (m<l.length) && Region.sinkB .any l.toArray m && yt .any l.toArray m && qy l.toArray && jL l.toArray && chainB .any l.toArray (l.length - m) m
theorem uf {id:Nat}{a:Act}{w:World}{l:List Oper}{Q1:Exit→Act→World→Prop} (m:Nat) (hB:Fa l m=true) (h:RW P (l.take m).toArray true Q1 a w)
  (hG:∀ a w,Q1 .normal a w→wpOpsIn (WF r) n P l.toArray Q (List.range' m (l.length - m)) a w):(Code.region id l.toArray true).wpIn (WF r) n P Q a w:=by
 simp only [Fa,Bool.and_eq_true,decide_eq_true_eq] at hB
 obtain⟨⟨⟨⟨⟨hm,hs⟩,ha⟩,hb⟩,hd⟩,hc⟩:=hB
 have h:=h.out
 simp only [if_true] at h
 refine wpIn_region_any h.1 ?_
 have hm':m<l.toArray.size:=by simpa using hm
 have htl:(l.take m).length=m:=by simp;omega
 have T:Trunc m (l.take m).toArray l.toArray (Array.replicate m false) (Array.replicate l.toArray.size false) :=
  ⟨fun i hi=>by simp [hi],by simpa using htl,by simp,fun i hi=>by simp [hi,show i<l.length from by omega]⟩
 have inv0:HeadInv .any l.toArray m (Array.replicate l.toArray.size false) :=
  ⟨by simp,fun j oj _ hl=>(by rw [getD_replicate_false] at hl;cases hl),fun t _ ht=>getD_in (by simpa using ht) (getD_replicate_false _ _)⟩
 have h2:=h.2
 have hsz:(l.take m).toArray.size=m:=by simpa using htl
 rw [hsz] at h2
 have HH:=IL (P:=P) (Q:=Q) (n:=n) (r:=r) (g:=l.length - m) hd hs ha hb hm' (fun a' w' hq=>zQ _ _ _ _ hc (hG a' w' hq)) m _ _ a w.drew T inv0 h2
 rw [show m+(l.length - m)=l.toArray.size from by simp;omega] at HH
 exact HH
theorem rW {id:Nat}{a:Act}{w:World}{l:List Oper}{Q1:Exit→Act→World→Prop} (m:Nat) (hB:(decide (m<l.length) && qy l.toArray && jL l.toArray)=true) (h:RW P (l.take m).toArray false Q1 a w)
    (hG:∀ a w,Q1 .normal a w→wpOpsIn (WF r) n P l.toArray Q (List.range' m (l.length - m)) a w):(Code.region id l.toArray false).wpIn (WF r) n P Q a w:=by
  simp only [Bool.and_eq_true,decide_eq_true_eq] at hB
  obtain⟨⟨hm,hb⟩,hd⟩:=hB
  have h:=h.out
  simp only [Bool.false_eq_true,if_false] at h
  refine wpIn_region ?_
  have htl:(l.take m).length=m:=by simp;omega
  have hsz:(l.take m).toArray.size=m:=by simpa using htl
  have T:Trunc m (l.take m).toArray l.toArray (Array.replicate m false) (Array.replicate l.toArray.size false) :=
    ⟨fun i hi=>by simp [hi],by simpa using htl,by simp,fun i hi=>by simp [hi,show i<l.length from by omega]⟩
  rw [hsz,List.range_eq_range'] at h
  rw [List.range_eq_range',show l.toArray.size=m+(l.length - m) from by simp;omega]
  have key:∀ (f k:Nat) (a:Act) (w:World),k+f=m→wpOps P (l.take m).toArray (Calm Q1) (List.range' k f) a w→wpOpsIn (WF r) n P l.toArray Q (List.range' k (f+(l.length - m))) a w:=by
    intro f
    induction f with
    | zero =>
      intro k a w hk h
      obtain rfl:k=m:=by omega
      rw [Nat.zero_add]
      exact hG a w h
    | succ f ih =>
      intro k a w hk h
      rw [List.range'_succ,wpOps_cons] at h
      rw [show f+1+(l.length - m)=(f+(l.length - m))+1 from by omega,List.range'_succ,wpOpsIn_cons]
      have hin:k<m:=by omega
      have ho:l.toArray[k]?=some (l.toArray[k]'(by simp;omega)):=Array.getElem?_eq_getElem (by simp;omega)
      refine wpOpIn_mono (fun a' w' h'=>ih (k+1) a' w' (by omega) h') ?_
      unfold wpOp at h
      unfold wpOpIn
      rw [T.ops k hin,ho] at h
      rw [ho]
      simp only [T.wanted hb hin ho] at h
      simp only
      by_cases hw:Region.wanted (l.toArray[k]'(by simp;omega)) (yielded l.toArray a.tmps)=true
      · simp only [hw,if_true] at h ⊢
        rcases h with h | ⟨_,h⟩
        · exact qZ (lq hd ho) h
        · exact (Calm.letsOut h).elim
      · rw [Bool.not_eq_true] at hw
        simp only [hw,Bool.false_eq_true,if_false] at h ⊢
        exact⟨fun _ _=>trivial,h⟩
  exact key m 0 a w (by omega) h
end
end Go.Gl
namespace Go.Proofs.YtglkmaalpammcaaGreat
open Go.Gl Go.RowKit
theorem rY {w:World}{k:Nat}{u v:Value}{e:TypeId} (h:w.heap[k]?=some (.cells #[u,v] e (0,0))):OB w e 2 k 0 1 1 [u,v] :=
 ⟨rfl,Nat.le_refl _,by simp [maxLen],_,h,by simp,fun j x hj=>by rw [Nat.zero_add];simpa using hj⟩
theorem Bh {w:World}{k:Nat}{u:Value}{e:TypeId} (h:w.heap[k]?=some (.cells #[u] e (0,0))):OB w e 1 k 0 1 1 [u] :=
 ⟨rfl,Nat.le_refl _,by simp [maxLen],_,h,by simp,fun j x hj=>by rw [Nat.zero_add];simpa using hj⟩
theorem Jz {w:World}{e:TypeId}{s g off n cap m:Nat}{xs:List Value} (h:OB w e s g off n cap xs) (hm:m≤n):OB w e s g off m cap (xs.take (m*s)):=by
 obtain⟨cur,h1,h2,h3⟩:=h.row
 refine⟨by rw [List.length_take,h.hl];exact Nat.min_eq_left (Nat.mul_le_mul_right _ hm),Nat.le_trans hm h.hn,h.hc,cur,h1,h2,fun j u hj=>h3 j u ?_⟩
 have hlt:=(List.getElem?_eq_some_iff.1 hj).1
 rw [List.length_take] at hlt
 rwa [List.getElem?_take_of_lt (by omega)] at hj
theorem IM {w:World}{e:TypeId}{s g off n cap m:Nat}{xs:List Value} (h:OB w e s g off n cap xs) (hm:m≤n):OB w e s g (off+m*s) (n - m) (cap - m) (xs.drop (m*s)):=by
 obtain⟨cur,h1,h2,h3⟩:=h.row
 have hn:=h.hn
 refine⟨by rw [List.length_drop,h.hl,Nat.sub_mul],by omega,by have:=h.hc;omega,cur,h1,?_,fun j u hj=>?_⟩
 ·rw [Nat.sub_mul]
  have:m*s≤cap*s:=Nat.mul_le_mul_right _ (by omega)
  omega
 ·rw [List.getElem?_drop] at hj
  rw [Nat.add_assoc]
  exact h3 _ u hj
section
variable {x0 x1 x2 x3 x4 x5 x6 x7 x8 x9 aW bn bi aZ aP aQ aS aT aX aY bD bC bG bH bJ bQ bP bM bK bV bW cZ dh dn dw di dm dK dE dF dL dM dN dP dQ dR dS dO eF eG fA ed dX dY eH eP eQ fB eU fD fC eX iG iH jg jG jH jI jA kw kz kC kD x73 x74 x75 x76 x77 x78 x79 x80 x81 x82 x83 x84 x85 x86 x87 x88 x89 x90 x91 x92 x93 x94 x95 x96 x97 x98 x99 x100:Value}{df:List Deferred}{Q:Exit→Act→World→Prop}
theorem set10 {w:World}{g b off n cap p:Nat}{vn:Value}{pvs:List Value} (hg:w.heap[g]?=some (.cells #[.slice (some ⟨b,off,none⟩) n cap,vn] 230 (0,0))) (hr:OB w 258 1 b off n cap pvs) (hp:p<n) {E i pb po m pc:Nat}{u v:Value}{xs:List Value} (hP:pvs[p]?=some (.slice (some ⟨pb,po,none⟩) m pc)) (hl:OB w 244 2 pb po m pc xs) (h0:∀ y∈xs,y.oneCell'=true) (he:w.heap[E]?=some (.cells #[u,v] 244 (0,0))) (hu:u.oneCell'=true) (hv:v.oneCell'=true) (hi:i≤m) (hL:m≤1000000)
  (hK:∀ (y57 y58 y59 y60 y61 y62 y63 y64 y65 y66 y67:Value) (v7:Value) (w':World),aO w' 244 2 v7 (m+1) (xs.take (i*2) ++ [u,v] ++ xs.drop (i*2))→ae (fun k=>k=pb) w w'→(v7.ownBlock=some pb∨aF w v7)→Q .normal ⟨#[.pointer (some ⟨g,0,none⟩),x1,x2,x3,x4,x5,x6,.pointer (some ⟨E,0,none⟩),.int .i64 ((p:Nat):Int),.int .i64 ((i:Nat):Int),aW,v7,bi,aZ,aP,aQ,aS,aT,aX,aY,bD,bC,bG,bH,bJ,bQ,bP,bM,bK,bV,bW,cZ,dh,dn,dw,di,dm,dK,dE,dF,dL,dM,dN,dP,dQ,dR,dS,dO,eF,eG,fA,ed,dX,dY,eH,eP,eQ,y57,y58,y59,y60,y61,y62,y63,y64,y65,y66,y67,jA,kw,kz,kC,kD,x73,x74,x75,x76,x77,x78,x79,x80,x81,x82,x83,x84,x85,x86,x87,x88,x89,x90,x91,x92,x93,x94,x95,x96,x97,x98,x99,x100],df⟩ w'):RW Tryz.prog (aJ 10 Tryz.f151) true Q ⟨#[.pointer (some ⟨g,0,none⟩),x1,x2,x3,x4,x5,x6,.pointer (some ⟨E,0,none⟩),.int .i64 ((p:Nat):Int),.int .i64 ((i:Nat):Int),aW,bn,bi,aZ,aP,aQ,aS,aT,aX,aY,bD,bC,bG,bH,bJ,bQ,bP,bM,bK,bV,bW,cZ,dh,dn,dw,di,dm,dK,dE,dF,dL,dM,dN,dP,dQ,dR,dS,dO,eF,eG,fA,ed,dX,dY,eH,eP,eQ,fB,eU,fD,fC,eX,iG,iH,jg,jG,jH,jI,jA,kw,kz,kC,kD,x73,x74,x75,x76,x77,x78,x79,x80,x81,x82,x83,x84,x85,x86,x87,x88,x89,x90,x91,x92,x93,x94,x95,x96,x97,x98,x99,x100],df⟩ w:=by
 have HQ:=lh hK
 clear hK
 have Q2:=lh (fun b' (hm:ae ai w b')=>show b'.cell? ⟨g,0,none⟩=some (.slice (some ⟨b,off,none⟩) n cap) from ag (hm.heap hg (fun x=>x)) 0)
 have Q3:=lh (fun b' (hm:ae ai w b')=>show b'.cell? ⟨b,off+p,none⟩=some (.slice (some ⟨pb,po,none⟩) m pc) from (hr.keep hm (fun x=>x)).cell hP)
 have Q0:=lh (fun b' (hm:ae ai w b')=>qx (off:=0) (ag (hm.heap he (fun x=>x)) 0) (ag (hm.heap he (fun x=>x)) 1))
 have HL:=lh hl
 have H0:=lh h0
 have H1:=lh (show ∀ y∈[u,v],y.oneCell'=true from fun y hy=>by simp at hy;rcases hy with rfl | rfl <;> assumption)
 clear hg hr hP hl h0 he hu hv
 have MR:=lh ((ae.refl ai w).drew)
 refine lS (S:=fun b'=>ae ai w b') [(0,true),(1,true),(2,true),(3,true),(4,true),(5,true),(6,true),(7,true),(8,true),(9,false),(10,false),(11,false)] [10,11] (by kernel_rfl) (by kernel_rfl) (by kernel_rfl) (by kernel_rfl) MR.out ?_
 refine aj [0,1,2] [af g 0,af g 0,af g 0] rfl (by kernel_rfl) (fun _=>by kernel_rfl) ?_
 refine ah (.slice (some ⟨b,off,none⟩) n cap) (some 60) (ki (by kernel_rfl)) (fun bb hb=>aG (x:=(.tmp 59)) (by kernel_rfl) (by kernel_rfl) (aI (Q2.out _ hb) Tryz.underlying228 rfl)) ?_
 refine aj [4] [.int .i64 ((p:Nat):Int)] rfl (by kernel_rfl) (fun _=>by kernel_rfl) ?_
 refine ah (af b (off+p)) (some 62) (ki (by kernel_rfl)) (fun bb hb=>fQ (s:=1) (e:=258) (g:=b) (off:=off) (n:=n) (c:=cap) (i:=((p:Nat):Int)) (x:=(.tmp 60)) (y:=(.tmp 61)) (off+p) (by kernel_rfl) (by kernel_rfl) (by kernel_rfl) Tryz.underlying228 (by kernel_rfl) (by omega) (by omega) (by omega)) ?_
 refine ah (.slice (some ⟨pb,po,none⟩) m pc) (some 63) (ki (by kernel_rfl)) (fun bb hb=>aG (x:=(.tmp 62)) (by kernel_rfl) (by kernel_rfl) (aI (Q3.out _ hb) Tryz.underlying258 rfl)) ?_
 refine aj [7] [.int .i64 ((i:Nat):Int)] rfl (by kernel_rfl) (fun _=>by kernel_rfl) ?_
 refine ah (.agg #[u,v]) (some 65) (ki (by kernel_rfl)) (fun bb hb=>aG (x:=(.tmp 7)) (by kernel_rfl) (by kernel_rfl) (su [u,v] (Q0.out _ hb) Tryz.underlying244 rfl (by kernel_rfl))) ?_
 refine gK (.cells #[u,v] 244) 1 (some 66) (ki (by kernel_rfl)) (by kernel_rfl) ?_
 intro k1 w_k1 hk_k1 hO_k1 hm_k1 hl_k1
 have MZ:=MR.out.size
 replace MR:=lh (MR.out.then0 hm_k1)
 refine⟨fun _=>MR.out,?_⟩
 have MO:=lh (show pb≠k1 from by have:=HL.out.lt;have h:w.heap.size≤w.drew.heap.size:=Nat.le_refl _;omega)
 refine bu (some 67) (ki (by kernel_rfl)) (FT (xs:=xs) (ys:=[u,v]) (ug:=k1) (uo:=0) (uc:=1) (HL.out.keep MR.out (fun x=>x)).own (rY hO_k1) (by intro h;have:=MO.out;simp [Value.ownBlock] at h;omega) H0.out H1.out hi hL) (fun _=>by kernel_rfl) ?_
 rintro r w7 ⟨v7,rfl,o7,m7,f7⟩
 refine⟨_,rfl,(fun h=>by cases h),?_⟩
 refine az [11] [v7] rfl (by kernel_rfl) (by kernel_rfl) (.inl (by kernel_rfl)) ?_
 exact aA (bg (K:=Q .normal) (by kernel_rfl) (HQ.out (af g 0) (af g 0) (af g 0) (.slice (some ⟨b,off,none⟩) n cap) (.int .i64 ((p:Nat):Int)) (af b (off+p)) (.slice (some ⟨pb,po,none⟩) m pc) (.int .i64 ((i:Nat):Int)) (.agg #[u,v]) (.slice (some ⟨k1,0,none⟩) 1 1) (v7) v7 w7 o7 (MR.out.trans m7 (fun _ _ x=>x.elim) (fun k _ hk=>by have:=jW hk;omega)) (f7.imp id (fun h=>h.of MR.out.size))))
theorem set13 {w:World}{g b off n cap p:Nat}{vn:Value}{pvs:List Value} (hg:w.heap[g]?=some (.cells #[.slice (some ⟨b,off,none⟩) n cap,vn] 230 (0,0))) (hr:OB w 258 1 b off n cap pvs) (hp:p<n) {lg lo m lc:Nat}{xs:List Value} (hl:OB w 244 2 lg lo m lc xs) (h0:∀ y∈xs,y.oneCell'=true) (hm16:16≤m) (hL:m≤1000000)
  (hK:∀ (y78 y79 y80 y81 y82 y83 y84 y85 y86:Value) (v7:Value) (w7:World) (w':World),aO w7 244 2 v7 16 (xs.take (16*2))→ae ai w w7→aF w v7→w'=w7.setCell ⟨b,off+p,none⟩ v7→Q .normal ⟨#[.pointer (some ⟨g,0,none⟩),x1,x2,x3,x4,x5,x6,x7,.int .i64 ((p:Nat):Int),x9,aW,.slice (some ⟨lg,lo,none⟩) m lc,bi,aZ,aP,aQ,aS,aT,aX,aY,bD,bC,bG,bH,bJ,bQ,bP,bM,bK,bV,bW,cZ,dh,dn,dw,di,dm,dK,dE,dF,dL,dM,dN,dP,dQ,dR,dS,dO,eF,eG,fA,ed,dX,dY,eH,eP,eQ,fB,eU,fD,fC,eX,iG,iH,jg,jG,jH,jI,jA,kw,kz,kC,kD,x73,x74,x75,x76,x77,y78,y79,y80,y81,y82,y83,y84,y85,y86,x87,x88,x89,x90,x91,x92,x93,x94,x95,x96,x97,x98,x99,x100],df⟩ w'):RW Tryz.prog (aJ 13 Tryz.f151) true Q ⟨#[.pointer (some ⟨g,0,none⟩),x1,x2,x3,x4,x5,x6,x7,.int .i64 ((p:Nat):Int),x9,aW,.slice (some ⟨lg,lo,none⟩) m lc,bi,aZ,aP,aQ,aS,aT,aX,aY,bD,bC,bG,bH,bJ,bQ,bP,bM,bK,bV,bW,cZ,dh,dn,dw,di,dm,dK,dE,dF,dL,dM,dN,dP,dQ,dR,dS,dO,eF,eG,fA,ed,dX,dY,eH,eP,eQ,fB,eU,fD,fC,eX,iG,iH,jg,jG,jH,jI,jA,kw,kz,kC,kD,x73,x74,x75,x76,x77,x78,x79,x80,x81,x82,x83,x84,x85,x86,x87,x88,x89,x90,x91,x92,x93,x94,x95,x96,x97,x98,x99,x100],df⟩ w:=by
 have HQ:=lh hK
 clear hK
 have Q2:=lh (fun b' (hm:ae ai w b')=>show b'.cell? ⟨g,0,none⟩=some (.slice (some ⟨b,off,none⟩) n cap) from ag (hm.heap hg (fun x=>x)) 0)
 have HL:=lh hl
 have HR:=lh hr
 have H0:=lh h0
 have hlc:=hl.hn
 clear hg hr hl h0
 have MR:=lh ((ae.refl ai w).drew)
 refine lS (S:=fun b'=>ae ai w b') [(0,true),(1,true),(2,true),(3,true),(4,true),(5,true),(6,true),(7,false),(8,true),(9,false)] [9] (by kernel_rfl) (by kernel_rfl) (by kernel_rfl) (by kernel_rfl) MR.out ?_
 refine aj [0,1,2] [af g 0,af g 0,af g 0] rfl (by kernel_rfl) (fun _=>by kernel_rfl) ?_
 refine ah (.slice (some ⟨b,off,none⟩) n cap) (some 81) (ki (by kernel_rfl)) (fun bb hb=>aG (x:=(.tmp 80)) (by kernel_rfl) (by kernel_rfl) (aI (Q2.out _ hb) Tryz.underlying228 rfl)) ?_
 refine aj [4,5] [.int .i64 ((p:Nat):Int),.slice (some ⟨lg,lo,none⟩) m lc] rfl (by kernel_rfl) (fun _=>by kernel_rfl) ?_
 refine ah (.slice (some ⟨lg,lo,none⟩) 16 lc) (some 84) (ki (by kernel_rfl)) (fun bb hb=>Dk (s:=2) (e:=244) (g:=lg) (off:=lo) (n:=m) (c:=lc) (i:=(16:Int)) (x:=(.tmp 83)) (y:=(.const (.int .i64 16))) (16) (by kernel_rfl) (by kernel_rfl) (by kernel_rfl) Tryz.underlying258 (by kernel_rfl) (by omega) (by omega)) ?_
 refine bu (some 85) (ki (by kernel_rfl)) (AL ((Jz HL.out (by omega:16≤m)).keep MR.out (fun x=>x)) (fun y hy=>H0.out y (List.mem_of_mem_take hy)) (by omega)) (fun _=>by kernel_rfl) ?_
 rintro r w7 ⟨v7,rfl,o7,m7,f7⟩
 replace MR:=lh (MR.out.then0 m7)
 have O7:=lh o7
 have F7:=lh (f7.of (show w.heap.size≤_ from Nat.le_refl _))
 obtain⟨a7,c7,e7,_⟩:=o7.rd.form
 have h17:v7.oneCell'=true:=by rw [e7];rfl
 clear o7 m7 f7 e7
 refine⟨_,rfl,fun _=>MR.out,?_⟩
 refine ah (af b (off+p)) (some 86) (ki (by kernel_rfl)) (fun bb hb=>fQ (s:=1) (e:=258) (g:=b) (off:=off) (n:=n) (c:=cap) (i:=((p:Nat):Int)) (x:=(.tmp 81)) (y:=(.tmp 82)) (off+p) (by kernel_rfl) (by kernel_rfl) (by kernel_rfl) Tryz.underlying228 (by kernel_rfl) (by omega) (by omega) (by omega)) ?_
 refine fH (ty:=258) (x:=(.tmp 86)) (y:=(.tmp 85)) (g:=b) (off:=off+p) (v:=v7) none (ki (by kernel_rfl)) (by kernel_rfl) (by kernel_rfl) (by kernel_rfl) (by kernel_rfl) ((HR.out.keep MR.out (fun x=>x)).there (by have:=HR.out.hn;omega)) ((HR.out.keep MR.out (fun x=>x)).free _) (h17) ?_
 intro w9 hw9
 refine⟨(fun h=>by first | (cases h;done) | exact trivial),?_⟩
 exact aA (bg (K:=Q .normal) (by kernel_rfl) (HQ.out (af g 0) (af g 0) (af g 0) (.slice (some ⟨b,off,none⟩) n cap) (.int .i64 ((p:Nat):Int)) (.slice (some ⟨lg,lo,none⟩) m lc) (.slice (some ⟨lg,lo,none⟩) 16 lc) (v7) (af b (off+p)) v7 w7 w9 O7.out MR.out F7.out hw9))
theorem set14 {w:World}{g b off n cap p:Nat}{vn:Value}{pvs:List Value} (hg:w.heap[g]?=some (.cells #[.slice (some ⟨b,off,none⟩) n cap,vn] 230 (0,0))) (hr:OB w 258 1 b off n cap pvs) (hp:p<n) {lg lo m lc:Nat}{xs:List Value} (hl:OB w 244 2 lg lo m lc xs) (h0:∀ y∈xs,y.oneCell'=true) (h2:∀ y∈pvs,y.oneCell'=true) (hm16:16<m) (hL:m≤1000000) (hn:n≤1000000) (hbg:¬ g=b)
  (hK:∀ (y87 y88 y89 y90 y91 y92 y93 y94 y95 y96 y97 y98 y99 y100:Value) (v7 v8:Value) (w7 w8:World) (w':World),aO w7 244 2 v7 (m - 16) (xs.drop (16*2))→ae ai w w7→aF w v7→v7.oneCell'=true→aO w8 258 1 v8 (n+1) (pvs.take ((p+1)*1) ++ [v7] ++ pvs.drop ((p+1)*1))→ae (fun k=>k=b) w7 w8→(v8.ownBlock=some b∨aF w7 v8)→w'=w8.setCell ⟨g,0,none⟩ v8→Q .normal ⟨#[.pointer (some ⟨g,0,none⟩),x1,x2,x3,x4,x5,x6,x7,.int .i64 ((p:Nat):Int),x9,aW,.slice (some ⟨lg,lo,none⟩) m lc,bi,aZ,aP,aQ,aS,aT,aX,aY,bD,bC,bG,bH,bJ,bQ,bP,bM,bK,bV,bW,cZ,dh,dn,dw,di,dm,dK,dE,dF,dL,dM,dN,dP,dQ,dR,dS,dO,eF,eG,fA,ed,dX,dY,eH,eP,eQ,fB,eU,fD,fC,eX,iG,iH,jg,jG,jH,jI,jA,kw,kz,kC,kD,x73,x74,x75,x76,x77,x78,x79,x80,x81,x82,x83,x84,x85,x86,y87,y88,y89,y90,y91,y92,y93,y94,y95,y96,y97,y98,y99,y100],df⟩ w'):RW Tryz.prog (aJ 14 Tryz.f151) true Q ⟨#[.pointer (some ⟨g,0,none⟩),x1,x2,x3,x4,x5,x6,x7,.int .i64 ((p:Nat):Int),x9,aW,.slice (some ⟨lg,lo,none⟩) m lc,bi,aZ,aP,aQ,aS,aT,aX,aY,bD,bC,bG,bH,bJ,bQ,bP,bM,bK,bV,bW,cZ,dh,dn,dw,di,dm,dK,dE,dF,dL,dM,dN,dP,dQ,dR,dS,dO,eF,eG,fA,ed,dX,dY,eH,eP,eQ,fB,eU,fD,fC,eX,iG,iH,jg,jG,jH,jI,jA,kw,kz,kC,kD,x73,x74,x75,x76,x77,x78,x79,x80,x81,x82,x83,x84,x85,x86,x87,x88,x89,x90,x91,x92,x93,x94,x95,x96,x97,x98,x99,x100],df⟩ w:=by
 have HQ:=lh hK
 clear hK
 have Q2:=lh (fun b' (hm:ae (fun k=>k=b) w b')=>show b'.cell? ⟨g,0,none⟩=some (.slice (some ⟨b,off,none⟩) n cap) from ag (hm.heap hg hbg) 0)
 have HL:=lh hl
 have HR:=lh hr
 have HG:=lh hg
 have H0:=lh h0
 have H2:=lh h2
 have hlc:=hl.hn
 clear hg hr hl h0 h2
 have MR:=lh ((ae.refl ai w).drew)
 refine lS (S:=fun b'=>ae (fun k=>k=b) w b') [(0,true),(1,true),(2,true),(3,true),(4,true),(5,true),(6,true),(7,true),(8,true),(9,false),(10,false),(11,false),(12,false),(13,false),(14,false)] [12,13,14] (by kernel_rfl) (by kernel_rfl) (by kernel_rfl) (by kernel_rfl) (MR.out.mono (fun _ _ x=>x.elim)) ?_
 refine aj [0,1,2,3] [af g 0,af g 0,af g 0,af g 0] rfl (by kernel_rfl) (fun _=>by kernel_rfl) ?_
 refine ah (.slice (some ⟨b,off,none⟩) n cap) (some 91) (ki (by kernel_rfl)) (fun bb hb=>aG (x:=(.tmp 90)) (by kernel_rfl) (by kernel_rfl) (aI (Q2.out _ hb) Tryz.underlying228 rfl)) ?_
 refine aj [5] [.int .i64 ((p:Nat):Int)] rfl (by kernel_rfl) (fun _=>by kernel_rfl) ?_
 refine ah (.int .i64 (((p+1):Nat):Int)) (some 93) (ki (by kernel_rfl)) (fun bb hb=>cO (t:=3) (t':=3) (xv := .int .i64 ((p:Nat):Int)) (yv := .int .i64 1) (x:=(.tmp 92)) (y:=(.const (.int .i64 1))) (by kernel_rfl) (by kernel_rfl) (by kernel_rfl) (fun _=>by kernel_rfl) (gG _ (by omega) (by omega) (by omega))) ?_
 refine aj [7] [.slice (some ⟨lg,lo,none⟩) m lc] rfl (by kernel_rfl) (fun _=>by kernel_rfl) ?_
 refine ah (.slice (some ⟨lg,lo+16*2,none⟩) (m - 16) (lc - 16)) (some 95) (ki (by kernel_rfl)) (fun bb hb=>DZ (s:=2) (e:=244) (g:=lg) (off:=lo) (n:=m) (c:=lc) (i:=(16:Int)) (x:=(.tmp 94)) (y:=(.const (.int .i64 16))) (16) (lo+16*2) (by kernel_rfl) (by kernel_rfl) (by kernel_rfl) Tryz.underlying258 (by kernel_rfl) (by omega) (by omega) (by omega) (by omega)) ?_
 refine bu (some 96) (ki (by kernel_rfl)) (AL ((IM HL.out (by omega:16≤m)).keep MR.out (fun x=>x)) (fun y hy=>H0.out y (List.mem_of_mem_drop hy)) (by omega)) (fun _=>by kernel_rfl) ?_
 rintro r w7 ⟨v7,rfl,o7,m7,f7⟩
 replace MR:=lh (MR.out.then0 m7)
 have O7:=lh o7
 have F7:=lh (f7.of (show w.heap.size≤_ from Nat.le_refl _))
 obtain⟨a7,c7,rfl,_⟩:=o7.rd.form
 have h17:(Value.slice a7 (m - 16) c7).oneCell'=true:=rfl
 have M7:=lh (And.intro MR.out f7)
 have z7:=m7.size
 clear o7 m7 f7
 refine⟨_,rfl,fun _=>MR.out.mono (fun _ _ x=>x.elim),?_⟩
 refine gK (.cells #[(.slice a7 (m - 16) c7)] 258) 1 (some 97) (ki (by kernel_rfl)) (by kernel_rfl) ?_
 intro k1 w_k1 hk_k1 hO_k1 hm_k1 hl_k1
 have MZ:=MR.out.size
 replace MR:=lh (MR.out.then0 hm_k1)
 refine⟨fun _=>(MR.out.mono (fun _ _ x=>x.elim)),?_⟩
 have MO:=lh (show b≠k1 from by have:=HR.out.lt;have h:=MR.out.size;have h2:=hk_k1;have h3:=MZ;omega)
 refine bu (some 98) (ki (by kernel_rfl)) (GU (xs:=pvs) (ys:=[.slice a7 (m - 16) c7]) (ug:=k1) (uo:=0) (uc:=1) (HR.out.keep MR.out (fun x=>x)).own (Bh hO_k1) (by intro h;have:=MO.out;simp [Value.ownBlock] at h;omega) H2.out (by intro y hy;rw [List.mem_singleton.1 hy];exact h17) (i:=p+1) (by omega) hn) (fun _=>by kernel_rfl) ?_
 rintro r w8 ⟨v8,rfl,o8,m8,f8⟩
 have m78:=hm_k1.trans m8 (U:=fun k=>k=b) (fun _ _ x=>x.elim) (fun k _ hk=>by have:=jW hk;omega)
 replace m8:=MR.out.trans m8 (U:=fun k=>k=b) (fun _ _ x=>x.elim) (fun k _ hk=>by have:=jW hk;omega)
 have O8:=lh (And.intro o8 (And.intro m8 (And.intro m78 (f8.imp id (fun h=>h.of hm_k1.size)))))
 have hg8:=m8.heap HG.out hbg
 obtain⟨a8,c8,e8,_⟩:=o8.rd.form
 have h18:v8.oneCell'=true:=by rw [e8];rfl
 clear o8 m8 f8 e8 m78
 refine⟨_,rfl,fun _=>O8.out.2.1,?_⟩
 refine az [12,13] [af g 0,af g 0] rfl (by kernel_rfl) (by kernel_rfl) (.inl (by kernel_rfl)) ?_
 refine fH (ty:=228) (x:=(.tmp 100)) (y:=(.tmp 98)) (g:=g) (off:=0) (v:=v8) none (ki (by kernel_rfl)) (by kernel_rfl) (by kernel_rfl) (by kernel_rfl) (by kernel_rfl) (by rw [ag hg8];rfl) (bY hg8 _) (h18) ?_
 intro w9 hw9
 refine⟨(fun h=>by first | (cases h;done) | exact trivial),?_⟩
 exact aA (bg (K:=Q .normal) (by kernel_rfl) (HQ.out (af g 0) (af g 0) (af g 0) (af g 0) (.slice (some ⟨b,off,none⟩) n cap) (.int .i64 ((p:Nat):Int)) (.int .i64 (((p+1):Nat):Int)) (.slice (some ⟨lg,lo,none⟩) m lc) (.slice (some ⟨lg,lo+16*2,none⟩) (m - 16) (lc - 16)) ((.slice a7 (m - 16) c7)) (.slice (some ⟨k1,0,none⟩) 1 1) (v8) (af g 0) (af g 0) (.slice a7 (m - 16) c7) v8 w7 w8 w9 O7.out M7.out.1 F7.out h17 O8.out.1 O8.out.2.2.1 O8.out.2.2.2 hw9))
end
open Go.Gl Go.RowKit
theorem tV {w:World}{e:TypeId}{b off n cap p:Nat}{pvs:List Value} (h:OB w e 1 b off n cap pvs) (hp:p<n) (v:Value):OB (w.setCell ⟨b,off+p,none⟩ v) e 1 b off n cap (pvs.set p v):=by
 have hl:=h.hl
 refine h.set p [v] (by have:=h.hn;simp;omega) n (pvs.set p v) h.hn (by rw [List.length_set,hl]) (fun j u hj=>?_)
 by_cases hjp:j=p
 ·subst hjp
  rw [if_pos (by simp),Nat.sub_self]
  rw [List.getElem?_set_self (by omega)] at hj
  exact hj
 ·rw [if_neg (by simp;omega)]
  rwa [List.getElem?_set_ne (by omega)] at hj
theorem vY (es:List EV) (i:Nat) (x:EV) (hi:i≤es.length):(es.take i ++ x :: es.drop i).length=es.length+1:=by
 rw [List.length_append,List.length_cons,List.length_take,List.length_drop];omega
theorem ww {es:List EV}{i:Nat}{x e:EV} (h:e∈es.take i ++ x :: es.drop i):e=x∨e∈es:=by
 rw [List.mem_append,List.mem_cons] at h
 rcases h with h | h | h
 ·exact .inr (List.mem_of_mem_take h)
 ·exact .inl h
 ·exact .inr (List.mem_of_mem_drop h)
theorem Gh {w w':World}{g b off n cap lg lo lc i:Nat}{A C:List PV}{q:PV}{x:EV} (hm:PM w g (.slice (some ⟨b,off,none⟩) n cap) (A ++ [q] ++ C)) (hn:n=(A ++ [q] ++ C).length) (hi:i≤q.es.length) (hx:E1 w x)
  (hb:∀ k,(x.kv.ownBlock=some k∨x.vv.ownBlock=some k)→k<w.heap.size∧¬ MS g (.slice (some ⟨b,off,none⟩) n cap) (A ++ [q] ++ C) k)
  (hT:ae (fun k=>k=g∨k=b∨q.pv.ownBlock=some k) w w')
  (hg:w'.heap[g]?=some (.cells #[.slice (some ⟨b,off,none⟩) n cap,.int .i64 ((cnt (aH (A ++ [q] ++ C)):Nat)+1)] 230 (0,0)))
  (hr:OB w' 258 1 b off n cap (((A ++ [q] ++ C).map (·.pv)).set A.length (.slice (some ⟨lg,lo,none⟩) (q.es.length+1) lc)))
  (hp:OB w' 244 2 lg lo (q.es.length+1) lc (bZ (q.es.take i ++ x :: q.es.drop i))) (hlg:q.pv.ownBlock=some lg∨w.heap.size≤lg) (hlb:lg≠b) :
  ∃ vo' R',PM w' g vo' R'∧ae (MS g (.slice (some ⟨b,off,none⟩) n cap) (A ++ [q] ++ C)) w w'∧(∀ k,MS g vo' R' k→MS g (.slice (some ⟨b,off,none⟩) n cap) (A ++ [q] ++ C) k∨w.heap.size≤k) ∧
   (∀ k,MD R' k→MD (A ++ [q] ++ C) k∨(x.kv.ownBlock=some k∨x.vv.ownBlock=some k))∧aH R'=(aH (A ++ [q] ++ C)).set A.length (jV (ents q.es) i x.ent):=by
 subst hn
 have hin:q∈A ++ [q] ++ C:=by simp
 have mods:ae (fun k=>k=g∨(Value.slice (some ⟨b,off,none⟩) (A ++ [q] ++ C).length cap).ownBlock=some k∨∃ r∈[q],r.pv.ownBlock=some k) w w':=hT.mono (fun k _ hk=>by
  rcases hk with h | h | h
  ·exact .inl h
  ·exact .inr (.inl (by rw [h];rfl))
  ·exact .inr (.inr ⟨q,List.mem_singleton.2 rfl,h⟩))
 have up:=PM.upd (vo' := .slice (some ⟨b,off,none⟩) (A ++ [q] ++ C).length cap) (A:=A) (B:=[q]) (C:=C) (N:=[⟨.slice (some ⟨lg,lo,none⟩) (q.es.length+1) lc,q.es.take i ++ x :: q.es.drop i⟩]) (X:=fun k=>x.kv.ownBlock=some k∨x.vv.ownBlock=some k) hm mods
  (by
   rw [gZ,kN,vY _ _ _ hi,hg,gZ,kN]
   congr 4
   simp
   omega)
  (by
   have e1:(A ++ [(⟨.slice (some ⟨lg,lo,none⟩) (q.es.length+1) lc,q.es.take i ++ x :: q.es.drop i⟩:PV)] ++ C).length=(A ++ [q] ++ C).length:=by simp
   have e2:(A ++ [(⟨.slice (some ⟨lg,lo,none⟩) (q.es.length+1) lc,q.es.take i ++ x :: q.es.drop i⟩:PV)] ++ C).map (·.pv)=((A ++ [q] ++ C).map (·.pv)).set A.length (.slice (some ⟨lg,lo,none⟩) (q.es.length+1) lc):=by
    rw [← List.map_set (f:=(·.pv)) (l:=A ++ [q] ++ C) (i:=A.length) (a:=⟨.slice (some ⟨lg,lo,none⟩) (q.es.length+1) lc,q.es.take i ++ x :: q.es.drop i⟩),jr]
   rw [e1,e2]
   exact hr.own)
  (.inl rfl)
  (by
   intro r hr
   rw [List.mem_singleton.1 hr]
   refine⟨?_,?_⟩
   ·show aO _ _ 2 _ (q.es.take i ++ x :: q.es.drop i).length _
    rw [vY _ _ _ hi]
    exact hp.own
   ·rcases hlg with h | h
    ·exact .inl ⟨q,List.mem_singleton.2 rfl,h.symm⟩
    ·exact .inr (fun k hk=>by simp [Value.ownBlock] at hk;omega))
  (by
   intro r hr k hk
   rw [List.mem_singleton.1 hr] at hk
   simp [Value.ownBlock] at hk ⊢
   omega)
  (List.pairwise_singleton _ _)
  (by
   intro r hr e he
   rw [List.mem_singleton.1 hr] at he
   rcases ww he with rfl | he
   ·exact .inr ⟨hx,fun k hk=>⟨hk,hb k hk⟩⟩
   ·exact .inl ⟨q,List.mem_singleton.2 rfl,he⟩)
 refine⟨_,_,up.1,mods.mono (fun k _ hk=>by
  rcases hk with h | h | ⟨b,hb,h⟩
  ·exact .inl h
  ·exact .inr (.inl h)
  ·exact .inr (.inr ⟨q,hin,by rw [List.mem_singleton.1 hb] at h;exact h⟩)),up.2.1,up.2.2,?_⟩
 have hlen:A.length=(aH A).length:=(dW A).symm
 rw [dB,dB,dB,dB,hlen,jc q,jr,jc,yQ]
theorem Fp {w w':World}{g b off n cap i:Nat}{A C:List PV}{q:PV}{x:EV}{va vb vo':Value} (hm:PM w g (.slice (some ⟨b,off,none⟩) n cap) (A ++ [q] ++ C)) (hn:n=(A ++ [q] ++ C).length) (hi:i≤q.es.length) (hx:E1 w x)
    (hb:∀ k,(x.kv.ownBlock=some k∨x.vv.ownBlock=some k)→k<w.heap.size∧¬ MS g (.slice (some ⟨b,off,none⟩) n cap) (A ++ [q] ++ C) k)
    (hT:ae (fun k=>k=g∨k=b∨q.pv.ownBlock=some k) w w') (h16:16≤q.es.length)
    (hg:w'.heap[g]?=some (.cells #[vo',.int .i64 ((cnt (aH (A ++ [q] ++ C)):Nat)+1)] 230 (0,0)))
    (hr:aO w' 258 1 vo' (n+1) (A.map (·.pv) ++ [va,vb] ++ C.map (·.pv))) (hvo:vo'.ownBlock=some b∨aF w vo')
    (ha:aO w' 244 2 va 16 (bZ ((q.es.take i ++ x :: q.es.drop i).take 16))) (hvb:aO w' 244 2 vb (q.es.length+1 - 16) (bZ ((q.es.take i ++ x :: q.es.drop i).drop 16)))
    (fa:aF w va) (fb:aF w vb) (dab:∀ k,va.ownBlock=some k→vb.ownBlock≠some k) (dav:∀ k,va.ownBlock=some k→vo'.ownBlock≠some k) (dbv:∀ k,vb.ownBlock=some k→vo'.ownBlock≠some k) :
    ∃ R',PM w' g vo' R'∧ae (MS g (.slice (some ⟨b,off,none⟩) n cap) (A ++ [q] ++ C)) w w'∧(∀ k,MS g vo' R' k→MS g (.slice (some ⟨b,off,none⟩) n cap) (A ++ [q] ++ C) k∨w.heap.size≤k) ∧
      (∀ k,MD R' k→MD (A ++ [q] ++ C) k∨(x.kv.ownBlock=some k∨x.vv.ownBlock=some k))∧aH R'=(aH (A ++ [q] ++ C)).take A.length ++ [(jV (ents q.es) i x.ent).take 16,(jV (ents q.es) i x.ent).drop 16] ++ (aH (A ++ [q] ++ C)).drop (A.length+1):=by
  subst hn
  have hin:q∈A ++ [q] ++ C:=by simp
  have hl:=vY _ _ x hi
  have mods:ae (fun k=>k=g∨(Value.slice (some ⟨b,off,none⟩) (A ++ [q] ++ C).length cap).ownBlock=some k∨∃ r∈[q],r.pv.ownBlock=some k) w w':=hT.mono (fun k _ hk=>by
    rcases hk with h | h | h
    · exact .inl h
    · exact .inr (.inl (by rw [h];rfl))
    · exact .inr (.inr ⟨q,List.mem_singleton.2 rfl,h⟩))
  obtain⟨ns,hns⟩:∃ ns,q.es.take i ++ x :: q.es.drop i=ns:=⟨_,rfl⟩
  have hmem:∀ e∈ns,e=x∨e∈q.es:=fun e he=>by rw [← hns] at he;exact ww he
  have hins:ents ns=jV (ents q.es) i x.ent:=by rw [← hns,yQ]
  rw [hns] at hl ha hvb
  have l1:(ns.take 16).length=16:=by rw [List.length_take];omega
  have l2:(ns.drop 16).length=q.es.length+1 - 16:=by rw [List.length_drop,hl]
  have up:=PM.upd (vo':=vo') (A:=A) (B:=[q]) (C:=C) (N:=[⟨va,ns.take 16⟩,⟨vb,ns.drop 16⟩]) (X:=fun k=>x.kv.ownBlock=some k∨x.vv.ownBlock=some k) hm mods
    (by
      rw [hg,gZ,kN,gZ]
      have:cnt (aH [(⟨va,ns.take 16⟩:PV),⟨vb,ns.drop 16⟩])=q.es.length+1:=by
        rw [zq,jc,qU,qU,Ba,dI,dI,l1,l2];omega
      rw [this]
      congr 4
      simp
      omega)
    (by
      have e1:(A ++ [(⟨va,ns.take 16⟩:PV),⟨vb,ns.drop 16⟩] ++ C).length=(A ++ [q] ++ C).length+1:=by simp;omega
      rw [e1,List.map_append,List.map_append]
      exact hr)
    (by rcases hvo with h | h
        · exact .inl h
        · exact .inr h)
    (by
      intro r hr
      simp only [List.mem_cons,List.not_mem_nil,or_false] at hr
      rcases hr with rfl | rfl
      · exact⟨by show aO _ _ 2 va (ns.take 16).length _;rw [l1];exact ha,.inr fa⟩
      · exact⟨by show aO _ _ 2 vb (ns.drop 16).length _;rw [l2];exact hvb,.inr fb⟩)
    (by
      intro r hr k hk
      simp only [List.mem_cons,List.not_mem_nil,or_false] at hr
      rcases hr with rfl | rfl
      · exact dav k hk
      · exact dbv k hk)
    (List.pairwise_pair.2 dab)
    (by
      intro r hr e he
      have hes:e∈ns:=by
        simp only [List.mem_cons,List.not_mem_nil,or_false] at hr
        rcases hr with rfl | rfl
        · exact List.mem_of_mem_take he
        · exact List.mem_of_mem_drop he
      rcases hmem e hes with rfl | he
      · exact .inr ⟨hx,fun k hk=>⟨hk,hb k hk⟩⟩
      · exact .inl ⟨q,List.mem_singleton.2 rfl,he⟩)
  refine⟨_,up.1,mods.mono (fun k _ hk=>by
    rcases hk with h | h | ⟨b,hb,h⟩
    · exact .inl h
    · exact .inr (.inl h)
    · exact .inr (.inr ⟨q,hin,by rw [List.mem_singleton.1 hb] at h;exact h⟩)),up.2.1,up.2.2,?_⟩
  have hlen:A.length=(aH A).length:=(dW A).symm
  rw [dB,dB,dB,dB,hlen,List.append_assoc (aH A) (aH [q]) (aH C),List.take_left',← List.append_assoc,jc q,← hins,← sH,← sG]
  · rw [List.drop_left' (by simp)]
    rfl
  · rfl
theorem Aw {R:List PV}{ys:List UInt8} (hne:R≠[]):∃ (hp:(bz (aH R) ys).1<R.length),(bz (aH R) ys).2.1≤(R[(bz (aH R) ys).1]).es.length:=by
 have hne':aH R≠[]:=fun h=>hne (by cases R with | nil=>rfl | cons a b=>simp [aH] at h)
 have hlt:=wC hne' ys
 rw [rF hne']
 simp only
 generalize ik (aH R) ys=p at *
 have hlt':p<R.length:=by rw [← dW];exact hlt
 refine⟨hlt',?_⟩
 rw [ji hlt']
 have:=wE (ents (R[p]).es) ys
 rw [dI] at this
 exact this
theorem Ih {w:World}{g:Nat}{vo kv vv:Value}{R:List PV}{xs ys:List UInt8} (hm:PM w g vo R) (hk:Rd w kv xs) (hv:Rd w vv ys) (lx:xs.length≤1000000) (ly:ys.length≤1000000) (ok:gu (aH R)) (hn:R.length≤1000000)
  (hc:cnt (aH R)≤1000000000) (hne:R≠[]) (hf:(bz (aH R) xs).2.2=false) :
  Calls Tryz.prog 151 #[.pointer (some ⟨g,0,none⟩),kv,vv] w fun e w'=>∃ vo' R',e = .returned (.bool true)∧PT w w' g vo R vo' R'∧aH R'=pq (aH R) xs ys:=by
 obtain⟨hp,hi⟩:=Aw (ys:=xs) hne
 have FD:=lh (fun (w':World) (m:ae ai w w') (q:Value) (hq:Rd w' q xs)=>rq (hm.keep0 m) hq ok hn)
 have hge:(aH R).getD (bz (aH R) xs).1 []=ents (R[(bz (aH R) xs).1]).es:=ji hp
 have hne':aH R≠[]:=fun h=>hne (by cases R with | nil=>rfl | cons a b=>simp [aH] at h)
 have hset:pq (aH R) xs ys=if 32<(R[(bz (aH R) xs).1]).es.length+1 then
   (aH R).take (bz (aH R) xs).1 ++ [(jV (ents (R[(bz (aH R) xs).1]).es) (bz (aH R) xs).2.1 (xs,ys)).take 16,(jV (ents (R[(bz (aH R) xs).1]).es) (bz (aH R) xs).2.1 (xs,ys)).drop 16] ++ (aH R).drop ((bz (aH R) xs).1+1)
   else (aH R).set (bz (aH R) xs).1 (jV (ents (R[(bz (aH R) xs).1]).es) (bz (aH R) xs).2.1 (xs,ys)):=by
  unfold pq
  rw [if_neg hne',if_neg (by rw [hf];simp),hge]
  have hl:(jV (ents (R[(bz (aH R) xs).1]).es) (bz (aH R) xs).2.1 (xs,ys)).length=(R[(bz (aH R) xs).1]).es.length+1:=by
   unfold jV
   rw [List.length_append,List.length_cons,List.length_take,List.length_drop,dI]
   omega
  rw [hl]
 have hmost:=ok.most (ents (R[(bz (aH R) xs).1]).es) (List.mem_map_of_mem (f:=fun p=>ents p.es) (List.getElem_mem hp))
 rw [dI] at hmost
 have HSET:=lh hset
 clear hset
 generalize bz (aH R) xs=F at *
 obtain⟨p,i,B⟩:=F
 simp only at hf hp hi FD hge hmost HSET ⊢
 subst hf
 have hl0:((R.length:Int) == 0)=false:=by rw [beq_eq_false_iff_ne];omega
 have hpos:0<(R[p]).es.length:=by
  have h:=ok.ne (ents (R[p]).es) (List.mem_map_of_mem (f:=fun p=>ents p.es) (List.getElem_mem hp))
  exact List.length_pos_iff.2 (fun e=>h (by rw [e];rfl))
 obtain⟨b,off,cap,pb,po,pc,hvo,hpv,ob2,ob1⟩:=hm.way hp hpos
 subst hvo
 have hbg:b≠g:=fun e=>hm.sep1 (by rw [e];rfl)
 have hpg:pb≠g:=fun e=>(hm.sep2 _ (List.getElem_mem hp)).1 (by rw [hpv,e];rfl)
 have hbp:b≠pb:=fun e=>(hm.sep2 _ (List.getElem_mem hp)).2 pb (by rw [hpv];rfl) (by rw [e];rfl)
 have HPV:=lh hpv
 have OB2:=lh ob2
 have HM:=lh hm
 have OB1:=lh ob1
 have OK:=lh (gY hk (by omega))
 have HK:=lh hk
 have HV:=lh hv
 obtain⟨ak,ck,rfl,_⟩:=hk.form
 obtain⟨av,cv,rfl,_⟩:=hv.form
 obtain⟨N,hN⟩:∃ N,cnt (aH R)=N:=⟨_,rfl⟩
 have HN:=lh hN
 rw [hN] at hc
 clear hm hk hv ob1 ob2 hpv hge ok hne' hne hN
 go_enter Tryz.func151,Tryz.ntmps151
 go_wp2_with fail
 refine OK.out.mono ?_
 rintro e w1 ⟨u,rfl,o1,m1,f1⟩
 have OV:=lh (gY (HV.out.keep m1 (fun _ _ x=>x)) (by omega))
 have O1:=lh (And.intro o1 (And.intro m1 f1))
 obtain⟨a1,c1,rfl,_⟩:=o1.rd.form
 clear o1 m1 f1
 go_wp2_with fail
 refine OV.out.mono ?_
 rintro e w2 ⟨v,rfl,o2,m2,f2⟩
 obtain⟨nE,nB⟩:=Fe O1.out.1 O1.out.2.2 O1.out.2.1 o2 f2 m2 lx ly
 have M2:=lh (O1.out.2.1.then0 m2)
 have NE:=lh (And.intro nE nB)
 obtain⟨a2,c2,rfl,_⟩:=o2.rd.form
 clear o2 m2 f2 nE nB
 have hbE:=aU w2 (.cells #[.slice a1 xs.length c1,.slice a2 ys.length c2] 244)
 have mE:=(ae.refl ai w2).alloc (.cells #[.slice a1 xs.length c1,.slice a2 ys.length c2] 244)
 go_upto_region 2 with fail
 generalize hw3:World.alloc w2 _=w3 at *
 have M3:=lh (M2.out.then0 mE)
 have e00:w3.cell? ⟨g,0,none⟩=some (.slice (some ⟨b,off,none⟩) R.length cap):=ag (M3.out.heap HM.out.hg (fun x=>x)) 0
 have FW:=lh (FD.out w3 M3.out _ (HK.out.keep M3.out (fun _ _ x=>x)))
 go_wp2_with fail
 refine FW.out.mono ?_
 rintro e w4 ⟨rfl,m4⟩
 have M4:=lh (M3.out.then0 m4)
 have PM4:=lh (HM.out.keep0 M4.out)
 have NE4:=lh (And.intro (NE.out.1.keep (mE.then0 m4) (fun _ _ x=>x)) (fun k (hk:(Value.slice a1 xs.length c1).ownBlock=some k∨(Value.slice a2 ys.length c2).ownBlock=some k)=>And.intro (NE.out.2 k hk).1 (Nat.lt_of_lt_of_le (NE.out.2 k hk).2 (mE.then0 m4).size)))
 have b0:w4.cell? ⟨w2.heap.size,0,none⟩=some (.slice a1 xs.length c1):=ag (m4.heap hbE (fun x=>x)) 0
 have b1:w4.cell? ⟨w2.heap.size,1,none⟩=some (.slice a2 ys.length c2):=ag (m4.heap hbE (fun x=>x)) 1
 have e1:w4.cell? ⟨g,1,none⟩=some (.int .i64 (N:Nat)):=by rw [← HN.out];exact ag PM4.out.hg 1
 have ef1:w4.frozen? ⟨g,1,none⟩=false:=bY PM4.out.hg 1
 have hg2:g≠w2.heap.size:=by have:=lt_of_heap HM.out.hg;have:=M2.out.size;omega
 clear e00
 go_upto_region 10 with fail
 have hg5:(w4.setCell ⟨g,1,none⟩ (.int .i64 ((N:Int)+1))).heap[g]?=some (.cells #[.slice (some ⟨b,off,none⟩) R.length cap,.int .i64 ((N:Int)+1)] 230 (0,0)):=heap_set PM4.out.hg 1 _
 have m5:ae (fun k=>k=g) w4 (w4.setCell ⟨g,1,none⟩ (.int .i64 ((N:Int)+1))):=(ae.refl (fun k=>k=g) w4).setCell (p:=⟨g,1,none⟩) (.inl rfl) _
 generalize World.setCell w4 _ _=w5 at *
 have M5:=lh m5
 have hgE5:=M5.out.heap (m4.heap hbE (fun x=>x)) (Ne.symm hg2)
 have ob15:=(OB1.out.keep M4.out (fun x=>x)).keep M5.out hbg
 have ob25:=(OB2.out.keep M4.out (fun x=>x)).keep M5.out hpg
 have D5:=lh (And.intro hg5 (And.intro ob15 ob25))
 have hPV:(R.map (·.pv))[p]?=some (.slice (some ⟨pb,po,none⟩) (R[p]).es.length pc):=by rw [← HPV.out];simp [hp]
 have h1:=oO (w:=w5) (es:=(R[p]).es) (fun e he=>((HM.out.ents _ (List.getElem_mem hp)) e he).keep (M4.out.trans M5.out (U:=fun k=>k=g) (fun _ _ x=>x.elim) (fun _ _ x=>x)) (fun k hk e=>HM.out.data k ⟨_,List.getElem_mem hp,_,he,hk⟩ (.inl e)))
 have h2:=lh (ve HM.out)
 refine gy (d := .region 10 (aJ 10 Tryz.f151) true) (by kernel_rfl) ?_
 refine RW.wp (set10 hg5 ob15 hp hPV ob25 h1 hgE5 rfl rfl hi (by omega) ?_)
 intro y57 y58 y59 y60 y61 y62 y63 y64 y65 y66 y67 v7 w7 o7 m7 f7
 clear hgE5 h1 hPV ob15 ob25 hg5
 obtain⟨es,hEs⟩:∃ es,(R[p]).es=es:=⟨_,rfl⟩
 rw [hEs] at hi hmost hpos o7 D5 HPV OB2
 have HEs:=lh hEs
 obtain⟨nl,hL⟩:∃ nl,es.length+1=nl:=⟨_,rfl⟩
 rw [← Ei es i ⟨.slice a1 xs.length c1,.slice a2 ys.length c2,xs,ys⟩,hL] at o7
 rcases o7.ob with ⟨_,h7,_⟩ | ⟨lg,lo,lc,rfl,ob7⟩
 ·omega
 have hlg:lg=pb∨w5.heap.size≤lg:=by
  rcases f7 with f7 | f7
  ·left;simpa [Value.ownBlock] using f7
  ·right;exact f7 lg rfl
 have hbl:b<w5.heap.size:=D5.out.2.1.lt
 have hgl:g<w5.heap.size:=lt_of_heap D5.out.1
 have hlb:lg≠b:=by rcases hlg with h | h <;> omega
 have hlg':lg≠g:=by rcases hlg with h | h <;> omega
 have hg7:w7.heap[g]?=some (.cells #[.slice (some ⟨b,off,none⟩) R.length cap,.int .i64 ((N:Int)+1)] 230 (0,0)):=m7.heap D5.out.1 (Ne.symm hpg)
 have ob17:=D5.out.2.1.keep m7 hbp
 have hb7:=ob7
 have M7:=lh m7
 have c0:w7.cell? ⟨g,0,none⟩=some (.slice (some ⟨b,off,none⟩) R.length cap):=ag hg7 0
 have c1':w7.cell? ⟨b,off+p,none⟩=some (.slice (some ⟨pb,po,none⟩) es.length pc):=ob17.cell (by rw [← HPV.out];simp [hp])
 have c1'':w7.frozen? ⟨b,off+p,none⟩=false:=ob17.free _
 have D7:=lh (And.intro hg7 (And.intro ob17 ob7))
 clear o7 m7 f7 hg7 ob17 ob7 hb7
 have hpi:(p:Int)<(R.length:Int):=by omega
 go_upto_region 12 with fail
 have w8m:=(ae.refl (fun k=>k=b) w7).setCell (p:=⟨b,off+p,none⟩) (.inl rfl) (.slice (some ⟨lg,lo,none⟩) nl lc)
 have ob18:=tV D7.out.2.1 hp (.slice (some ⟨lg,lo,none⟩) nl lc)
 generalize World.setCell w7 _ _=w8 at *
 have hg8:=w8m.heap D7.out.1 (Ne.symm hbg)
 have ob78:=D7.out.2.2.keep w8m hlb
 have D8:=lh (And.intro hg8 (And.intro ob18 (And.intro ob78 w8m)))
 clear hg8 ob18 ob78 w8m c0 c1' c1''
 by_cases hbig:nl≤32
 ·have hcmp:¬ ((32:Int)<(nl:Int)):=by omega
  go_wp2
  go_ret
  have hT:=(M5.out.trans M7.out (U:=fun k=>k=g∨k=b∨k=pb) (fun _ _ h => .inl h) (fun _ _ h => .inr (.inr h))).trans D8.out.2.2.2 (U:=fun k=>k=g∨k=b∨k=pb) (fun _ _ h=>h) (fun _ _ h => .inr (.inl h))
  have hsz:w.heap.size≤w4.heap.size:=M4.out.size
  have h45:=M5.out.size
  obtain⟨A,q,C,rfl,rfl,hq⟩:=parts R p hp
  have hes:=HEs.out
  have hpv:=HPV.out
  have hN:=HN.out
  rw [hq] at hes hpv
  subst hes hL hN
  obtain⟨vo',R',p1,p2,p3,p4,p5⟩:=Gh (x:=⟨.slice a1 xs.length c1,.slice a2 ys.length c2,xs,ys⟩) PM4.out rfl hi NE4.out.1 (fun k hk=>⟨(NE4.out.2 k hk).2,fun h=>by
   have h2:=HM.out.lt k h
   have:=(NE4.out.2 k hk).1
   omega⟩) (hT.mono (fun k _ hk=>by
    rcases hk with h | h | h
    ·exact .inl h
    ·exact .inr (.inl h)
    ·exact .inr (.inr (by rw [hpv,h];rfl)))) D8.out.1 D8.out.2.1 D8.out.2.2.1 (by
     rcases hlg with h | h
     ·left;rw [hpv,h];rfl
     ·right;omega) hlb
  have hset:=HSET.out
  rw [hq,if_neg (by omega)] at hset
  rw [hset]
  exact⟨rfl,vo',R',⟨p1,M4.out.trans p2 (fun _ _ x=>x.elim) (fun _ _ x=>x),fun k hk=>(p3 k hk).imp id (Nat.le_trans hsz),fun k hk=>(p4 k hk).imp id (fun h=>(NE4.out.2 k h).1)⟩,p5⟩
 ·have hcmp:(32:Int)<(nl:Int):=by omega
  go_upto_region 13 with fail
  have h1:=fun y (hy:y∈bZ (es.take i ++ (⟨.slice a1 xs.length c1,.slice a2 ys.length c2,xs,ys⟩:EV) :: es.drop i))=>oO (w:=w4) (es:=es.take i ++ (⟨.slice a1 xs.length c1,.slice a2 ys.length c2,xs,ys⟩:EV) :: es.drop i) (fun e he=>by
   rcases ww he with rfl | he
   ·exact NE4.out.1
   ·rw [← HEs.out] at he
    exact PM4.out.ents _ (List.getElem_mem hp) e he) y hy
  refine gy (d := .region 13 (aJ 13 Tryz.f151) true) (by kernel_rfl) ?_
  refine RW.wp (set13 D8.out.1 D8.out.2.1 hp D8.out.2.2.1 h1 (by omega) (by omega) ?_)
  intro y78 y79 y80 y81 y82 y83 y84 y85 y86 va w9 w10 oa m9 fa hw10
  have m10:ae (fun k=>k=b) w9 w10:=by rw [hw10];exact (ae.refl (fun k=>k=b) w9).setCell (p:=⟨b,off+p,none⟩) (.inl rfl) va
  have hga:=m10.heap (m9.heap D8.out.1 (fun x=>x)) (Ne.symm hbg)
  have hra:OB w10 258 1 b off R.length cap (((R.map (·.pv)).set p (.slice (some ⟨lg,lo,none⟩) nl lc)).set p va):=by rw [hw10];exact tV (D8.out.2.1.keep m9 (fun x=>x)) hp va
  have hla:=(D8.out.2.2.1.keep m9 (fun x=>x)).keep m10 hlb
  have hbs8:b<w8.heap.size:=D8.out.2.1.lt
  have oa10:=oa.keep m10 (fun k hk e=>by have:=fa k hk;omega)
  have A10:=lh (And.intro hga (And.intro hra (And.intro oa10 (And.intro fa (m9.trans m10 (U:=fun k=>k=b) (fun _ _ x=>x.elim) (fun _ _ x=>x))))))
  have h2:∀ y∈(((R.map (·.pv)).set p (.slice (some ⟨lg,lo,none⟩) nl lc)).set p va),y.oneCell'=true:=by
   obtain⟨a7,c7,e7,_⟩:=oa.rd.form
   intro y hy
   rcases List.mem_or_eq_of_mem_set hy with hy | rfl
   ·rcases List.mem_or_eq_of_mem_set hy with hy | rfl
    ·exact ve HM.out y hy
    ·rfl
   ·rw [e7];rfl
  clear hga oa m9 fa hw10 m10 oa10
  go_upto_region 14 with fail
  refine gy (d := .region 14 (aJ 14 Tryz.f151) true) (by kernel_rfl) ?_
  refine RW.wp (set14 A10.out.1 hra hp hla h1 h2 (by omega) (by omega) hn (Ne.symm hbg) ?_)
  intro y87 y88 y89 y90 y91 y92 y93 y94 y95 y96 y97 y98 y99 y100 vb vr w11 w12 w13 ob m11 fb ob1 or m12 fr hw13
  have m1012:=m11.trans m12 (U:=fun k=>k=b) (fun _ _ x=>x.elim) (fun _ _ x=>x)
  have hg12:=m1012.heap A10.out.1 (Ne.symm hbg)
  have m13:ae (fun k=>k=g) w12 w13:=by rw [hw13];exact (ae.refl (fun k=>k=g) w12).setCell (p:=⟨g,0,none⟩) (.inl rfl) vr
  have hg13:w13.heap[g]?=some (.cells #[vr,.int .i64 ((N:Int)+1)] 230 (0,0)):=by rw [hw13];exact heap_set hg12 0 vr
  have hw8s:w8.heap.size≤w10.heap.size:=A10.out.2.2.2.2.size
  have hg8s:g<w8.heap.size:=lt_of_heap D8.out.1
  have a13:=((A10.out.2.2.1.keep m11 (fun _ _ x=>x)).keep m12 (fun k hk e=>by have:=A10.out.2.2.2.1 k hk;omega)).keep m13 (fun k hk e=>by have:=A10.out.2.2.2.1 k hk;omega)
  have b13:=(ob.keep m12 (fun k hk e=>by have:=fb k hk;omega)).keep m13 (fun k hk e=>by have:=fb k hk;omega)
  have r13:=or.keep m13 (fun k hk e=>by
   rcases fr with fr | fr
   ·rw [fr] at hk;cases hk;exact hbg e
   ·have:=fr k hk;have:=m11.size;omega)
  have hT:=(M5.out.trans M7.out (U:=fun k=>k=g∨k=b∨k=pb) (fun _ _ h => .inl h) (fun _ _ h => .inr (.inr h))).trans D8.out.2.2.2 (U:=fun k=>k=g∨k=b∨k=pb) (fun _ _ h=>h) (fun _ _ h => .inr (.inl h))
  have hT2:=((hT.trans A10.out.2.2.2.2 (U:=fun k=>k=g∨k=b∨k=pb) (fun _ _ h=>h) (fun _ _ h => .inr (.inl h))).trans m1012 (U:=fun k=>k=g∨k=b∨k=pb) (fun _ _ h=>h) (fun _ _ h => .inr (.inl h))).trans m13 (U:=fun k=>k=g∨k=b∨k=pb) (fun _ _ h=>h) (fun _ _ h => .inl h)
  have hsz:w.heap.size≤w4.heap.size:=M4.out.size
  have hs48:w4.heap.size≤w8.heap.size:=hT.size
  have hA10:∀ k,va.ownBlock=some k→w8.heap.size≤k∧k<w10.heap.size:=fun k hk=>⟨A10.out.2.2.2.1 k hk,A10.out.2.2.1.lt k hk⟩
  have hB11:∀ k,vb.ownBlock=some k→w10.heap.size≤k∧k<w11.heap.size:=fun k hk=>⟨fb k hk,ob.lt k hk⟩
  have m11s:=m11.size
  clear A10 D8 D7 hg12 m13 hw13 m1012 ob or m12 m11 h1 h2 hra hla hT M5 M7
  go_wp2
  go_ret
  obtain⟨A,q,C,rfl,rfl,hq⟩:=parts R p hp
  have hes:=HEs.out
  have hpv:=HPV.out
  have hN:=HN.out
  rw [hq] at hes hpv
  subst hes hL hN
  obtain⟨R',p1,p2,p3,p4,p5⟩:=Fp (va:=va) (vb:=vb) (x:=⟨.slice a1 xs.length c1,.slice a2 ys.length c2,xs,ys⟩) PM4.out rfl hi NE4.out.1 (fun k hk=>⟨(NE4.out.2 k hk).2,fun h=>by
   have h2:=HM.out.lt k h
   have:=(NE4.out.2 k hk).1
   omega⟩) (hT2.mono (fun k _ hk=>by
    rcases hk with h | h | h
    ·exact .inl h
    ·exact .inr (.inl h)
    ·exact .inr (.inr (by rw [hpv,h];rfl)))) (by omega) hg13 (by
     have e:(((A ++ [q] ++ C).map (·.pv)).set A.length (.slice (some ⟨lg,lo,none⟩) (q.es.length+1) lc)).set A.length va=A.map (·.pv) ++ [va] ++ C.map (·.pv):=by
      have hl:A.length=(A.map (·.pv)).length:=by simp
      rw [List.map_append,List.map_append,hl,List.map_cons,List.map_nil,jr,jr]
     have hl:(A.map (·.pv) ++ [va]).length=(A.length+1)*1:=by simp
     rw [e,List.take_left' hl,List.drop_left' hl] at r13
     have e2:A.map (·.pv) ++ [va,vb] ++ C.map (·.pv)=A.map (·.pv) ++ [va] ++ [vb] ++ C.map (·.pv):=by simp
     rw [e2]
     exact r13) (fr.imp id (fun h=>h.of (by omega))) (by rw [lN];exact a13) (by rw [lK];exact b13)
    (fun k hk=>by have:=hA10 k hk;omega) (fun k hk=>by have:=hB11 k hk;omega)
    (fun k hk hk2=>by have:=hA10 k hk;have:=hB11 k hk2;omega)
    (fun k hk hk2=>by
     have:=hA10 k hk
     rcases fr with fr | fr
     ·rw [fr] at hk2;cases hk2;omega
     ·have:=fr k hk2;omega)
    (fun k hk hk2=>by
     have:=hB11 k hk
     rcases fr with fr | fr
     ·rw [fr] at hk2;cases hk2;omega
     ·have:=fr k hk2;omega)
  have hset:=HSET.out
  rw [hq,if_pos (by omega)] at hset
  rw [hset]
  exact⟨vr,R',rfl,⟨p1,M4.out.trans p2 (fun _ _ x=>x.elim) (fun _ _ x=>x),fun k hk=>(p3 k hk).imp id (Nat.le_trans hsz),fun k hk=>(p4 k hk).imp id (fun h=>(NE4.out.2 k h).1)⟩,p5⟩
theorem IC {w:World}{g:Nat}{vo kv vv:Value}{R:List PV}{xs ys:List UInt8} (hm:PM w g vo R) (hk:Rd w kv xs) (hv:Rd w vv ys) (lx:xs.length≤1000000) (ly:ys.length≤1000000) (ok:gu (aH R)) (hn:R.length≤1000000)
    (hc:cnt (aH R)≤1000000000) :
    Calls Tryz.prog 151 #[.pointer (some ⟨g,0,none⟩),kv,vv] w fun e w'=>∃ vo' R',e = .returned (.bool (newP (aH R) xs))∧PT w w' g vo R vo' R'∧aH R'=pq (aH R) xs ys:=by
  by_cases h0:R=[]
  · subst h0
    exact DL hm hk hv lx ly
  have hne':aH R≠[]:=fun h=>h0 (by cases R with | nil=>rfl | cons a b=>simp [aH] at h)
  unfold newP
  cases hf:(bz (aH R) xs).2.2 with
  | true =>
    refine (EH hm hk hv lx ly ok hn hf).mono ?_
    rintro e w' ⟨vo',R',h1,h2,h3⟩
    refine⟨vo',R',h1,h2,?_⟩
    rw [h3]
    unfold pq
    rw [if_neg hne',if_pos hf]
  | false=>exact Ih hm hk hv lx ly ok hn hc h0 hf
open Go.Gl Go.RowKit
theorem F9 {w:World}{n:Nat} (h0:0<n) (hn:n≤1000000) :
  Calls Tryz.prog 301 #[.slice none 0 0,.int .i64 n] w fun r w'=>∃ g cap,r = .returned (.slice (some ⟨g,0,none⟩) 0 cap)∧OB w' 244 2 g 0 0 cap []∧n≤cap∧ae ai w w'∧w.heap.size≤g:=by
 obtain⟨inf,hi,hz,hs,hb⟩:=info_parts tC
 have hge:=grownCap_ge w n 0 244
 have hlm:=grownCap_le_maxLen w n 0 244 (by unfold maxLen;omega)
 obtain⟨cap,W2,hr,hob,hm,hc⟩:∃ (cap:Nat) (W2:World),(∀ ty,(Builtin.append_ #[258,3] ty #[.slice none 0 0,.int .i64 (n:Nat)]).run Tryz.prog w = .ok (.slice (some ⟨w.heap.size,0,none⟩) n cap) W2)∧OB W2 244 2 w.heap.size 0 0 cap []∧ae ai w W2∧n≤cap:=by
  have hr:=fun ty=>Lib.run_append_nil_zeros (P:=Tryz.prog) w 258 3 ty 244 inf _ .i64 .i64 Tryz.underlying258 Tryz.underlying3 hi hz n h0 (by rw [hs];omega) (by omega) (by rw [hb];omega)
  have hzc:∀ k,(Builtin.zeroCells (Value.cells (.agg #[.slice none 0 0,.slice none 0 0])) k).size=k*2:=fun k=>by rw [size_zeroCells];rfl
  refine⟨_,_,hr,⟨rfl,Nat.zero_le _,hlm,_,aU w.drew _,?_,fun j u hj=>by simp at hj⟩,((ae.refl ai w).drew).alloc _,hge⟩
  simp only [Array.size_append,hzc]
  omega
 have AP:=lh hr
 have HB:=lh (And.intro hob hm)
 have hc63:cap≤9223372036854775807:=by simpa [maxLen] using hob.hc
 clear hr hob hm hi hz hs hb hge hlm
 go_enter Tryz.func301,Tryz.ntmps301
 go_wp2_with (at_builtin;refine stop ?_)
 unfold Stop
 refine Lib.wpList_append_run _ rfl _ _ _ _ rfl _ _ rfl rfl _ _ (AP.out _) ?_
 go_wp2
 go_ret
 exact⟨_,_,rfl,HB.out.1,hc,HB.out.2,Nat.le_refl _⟩
theorem apE {w:World}{v:Value}{n m ug uo uc:Nat}{xs ys:List Value} (hv:aO w 244 2 v n xs) (hu:OB w 244 2 ug uo m uc ys) (h1:∀ y∈ys,y.oneCell'=true) (hn:n+m≤1000000)
  (ops:Array Oper) (Q:Exit→Act→World→Prop) (rest:List Oper) (o:Oper) (a:Act) (s x:Operand) (hgd:o.guard=none) (ho:o.op = .call { callee := .builtin .append,args:=#[s,x],argTypes:=#[258,258] }) (h2:a.eval s=v) (h3:a.eval x = .slice (some ⟨ug,uo,none⟩) m uc)
  (h:∀ v' w',aO w' 244 2 v' (n+m) (xs ++ ys)→ae (dC v) w w'→(v'.ownBlock=v.ownBlock∨aF w v')→wpList Tryz.prog ops Q rest (a.put o.dst v') w'):wpList Tryz.prog ops Q (o :: rest) a w:=by
 obtain⟨inf,hi,hz,hs,hb⟩:=info_parts tC
 refine oP (P:=Tryz.prog) hgd ho Tryz.underlying258 Tryz.underlying258 hi hz (by rw [hs];rfl) h2 (by rw [hs];exact hv) h3 (by rw [hs];exact aO.rd hu.own) h1 (by unfold maxLen;omega) (by rw [hb];omega) ?_
 intro v' w' k1 k2 k3
 rw [hs] at k1
 exact h v' w' k1 k2 k3
def vH (w:World) (xs ys:List Value) (n m k:Nat) (v:Value) (wx:World):Prop :=
 (if k=0 then aO wx 244 2 v 0 [] else if k=1 then aO wx 244 2 v n xs else aO wx 244 2 v (n+m) (xs ++ ys))∧ae ai w wx∧aF w v
theorem IJ {w:World}{vg pg po pc qg qo qc n m:Nat}{xs ys:List Value} (hrow:w.heap[vg]?=some (.cells #[.slice (some ⟨pg,po,none⟩) n pc,.slice (some ⟨qg,qo,none⟩) m qc] 258 (0,0)))
  (hp:OB w 244 2 pg po n pc xs) (hq:OB w 244 2 qg qo m qc ys) (h1:∀ y∈xs,y.oneCell'=true) (h2:∀ y∈ys,y.oneCell'=true) (hn0:0<n) (hn:n+m≤1000000) :
  Calls Tryz.prog 285 #[.slice (some ⟨vg,0,none⟩) 2 2] w fun r w'=>∃ v',r = .returned v'∧aO w' 244 2 v' (n+m) (xs ++ ys)∧ae ai w w'∧aF w v':=by
 have HR:=lh hrow
 have HP:=lh hp
 have HQ:=lh hq
 have H1:=lh h1
 have H2:=lh h2
 have c0:w.cell? ⟨vg,0,none⟩=some (.slice (some ⟨pg,po,none⟩) n pc):=ag hrow 0
 have c1:w.cell? ⟨vg,1,none⟩=some (.slice (some ⟨qg,qo,none⟩) m qc):=ag hrow 1
 clear hrow hp hq h1 h2
 go_enter Tryz.func285,Tryz.ntmps285
 go_wp2
 go_loopw [3,11] (fun sz i wr=>∃ k:Nat,k≤2∧i = .int .i64 k∧sz = .int .i64 (if k=0 then 0 else if k=1 then (n:Int) else (n:Int)+m)∧wr=w) (fun _ i _=>2 - (intOf i).toNat)
 case atStart=>exact⟨0,by omega,rfl,by simp,rfl⟩
 case round =>
  obtain⟨k,hk,rfl,rfl,rfl⟩:=hrel
  rcases (by omega:k=0∨k=1∨k=2) with rfl | rfl | rfl
  ·go_wp2
   go_roundw
   case rel=>exact⟨1,by omega,by simp,by simp,trivial⟩
   case measure=>simp [intOf]
  ·go_wp2
   go_roundw
   case rel=>exact⟨2,by omega,by simp,by simp,trivial⟩
   case measure=>simp [intOf]
  ·obtain⟨wo,rfl⟩:∃ wo:World,wo=wr:=⟨_,rfl⟩
   go_wp2_with fail
   rw [show ((n:Int)+(m:Int))=((n+m:Nat):Int) from by omega]
   refine (F9 (by omega) hn).mono ?_
   rintro r w1 ⟨g,cap,rfl,ob,hcap,hm,hg⟩
   have OB1:=lh (show vH wo xs ys n m 0 (.slice (some ⟨g,0,none⟩) 0 cap) w1 from⟨by rw [if_pos rfl];exact ob.own,hm,fun k hk=>by simp [Value.ownBlock] at hk;omega⟩)
   clear ob hm c0 c1
   go_wp2
   go_loopw [6,27] (fun v i wx=>∃ k:Nat,k≤2∧i = .int .i64 k∧Hid (vH wo xs ys n m k v wx)) (fun _ i _=>2 - (intOf i).toNat)
   case atStart=>exact⟨0,by omega,rfl,OB1⟩
   case round =>
    obtain⟨k,hk,rfl,hR⟩:=hrel
    have MX:=lh hR.out.2.1
    have c0:wr.cell? ⟨vg,0,none⟩=some (.slice (some ⟨pg,po,none⟩) n pc):=ag (MX.out.heap HR.out (fun x=>x)) 0
    have c1:wr.cell? ⟨vg,1,none⟩=some (.slice (some ⟨qg,qo,none⟩) m qc):=ag (MX.out.heap HR.out (fun x=>x)) 1
    rcases (by omega:k=0∨k=1∨k=2) with rfl | rfl | rfl
    ·have o:=hR.out.1
     rw [if_pos rfl] at o
     have AP:=lh (apE o (HP.out.keep MX.out (fun x=>x)) H1.out (by omega))
     obtain⟨av,cv,hav,_⟩:=(aO.rd o).form
     subst hav
     clear o
     go_wp2_with (at_builtin;refine stop ?_)
     unfold Stop
     refine AP.out _ _ _ _ _ _ _ rfl rfl rfl rfl ?_
     intro v' w' o1 m1 f1
     rw [Nat.zero_add,List.nil_append] at o1
     obtain⟨a1,c1',rfl,_⟩:=(aO.rd o1).form
     have R2:=lh (show vH wo xs ys n m 1 (.slice a1 n c1') w' from⟨by rw [if_neg (by omega),if_pos rfl];exact o1,MX.out.trans m1 (U:=ai) (fun _ _ x=>x) (fun b hb e=>by have:=hR.out.2.2 b e;omega),f1.elim (fun h=>by intro b hb;exact hR.out.2.2 b (h▸hb)) (fun h=>h.of MX.out.size)⟩)
     clear o1 m1 f1 c0 c1
     go_wp2
     go_roundw
     case rel=>exact⟨1,by omega,by simp,R2⟩
     case measure=>simp [intOf]
    ·have o:=hR.out.1
     rw [if_neg (by omega),if_pos rfl] at o
     have AP:=lh (apE o (HQ.out.keep MX.out (fun x=>x)) H2.out (by omega))
     obtain⟨av,cv,hav,_⟩:=(aO.rd o).form
     subst hav
     clear o
     go_wp2_with (at_builtin;refine stop ?_)
     unfold Stop
     refine AP.out _ _ _ _ _ _ _ rfl rfl rfl rfl ?_
     intro v' w' o1 m1 f1
     obtain⟨a1,c1',rfl,_⟩:=(aO.rd o1).form
     have R2:=lh (show vH wo xs ys n m 2 (.slice a1 (n+m) c1') w' from⟨by rw [if_neg (by omega),if_neg (by omega)];exact o1,MX.out.trans m1 (U:=ai) (fun _ _ x=>x) (fun b hb e=>by have:=hR.out.2.2 b e;omega),f1.elim (fun h=>by intro b hb;exact hR.out.2.2 b (h▸hb)) (fun h=>h.of MX.out.size)⟩)
     clear o1 m1 f1 c0 c1
     go_wp2
     go_roundw
     case rel=>exact⟨2,by omega,by simp,R2⟩
     case measure=>simp [intOf]
    ·have o:=hR.out.1
     rw [if_neg (by omega),if_neg (by omega)] at o
     obtain⟨av,cv,hav,_⟩:=(aO.rd o).form
     subst hav
     have R2:=lh (And.intro o hR.out.2)
     clear o c0 c1
     go_wp2
     go_ret
     exact⟨_,rfl,R2.out.1,R2.out.2.1,R2.out.2.2⟩
open Go.Gl Go.RowKit
theorem Jr:(Tryz.prog.info? 258).map (fun i=>(i.zero,i.size,i.bytes))=some (some (.slice none 0 0),1,24):=by kernel_rfl
theorem IW {w w2:World}{g off n c i:Nat}{xs zs:List Value} (h:OB w 258 1 g off n c xs) (hi:i<n) (hz:zs.length=1) (w1:World) (h1:w1=w.setCells g (off+i*1) (xs.drop ((i+1)*1))) (hw2:w2=w1.setCells g (off+(n - 1)*1) zs) :
  OB w1 258 1 g off (n - 1) c (xs.take (i*1) ++ xs.drop ((i+1)*1))∧OB w2 258 1 g off (n - 1) c (xs.take (i*1) ++ xs.drop ((i+1)*1)):=by
 have hl:=h.hl
 have hn:=h.hn
 have ht:(xs.take (i*1)).length=i*1:=by rw [List.length_take];omega
 have hd:(xs.drop ((i+1)*1)).length=(n - 1 - i)*1:=by rw [List.length_drop];omega
 have hlen:(xs.take (i*1) ++ xs.drop ((i+1)*1)).length=(n - 1)*1:=by rw [List.length_append,ht,hd];omega
 have k1:OB w1 258 1 g off (n - 1) c (xs.take (i*1) ++ xs.drop ((i+1)*1)):=by
  rw [h1]
  refine h.set (i*1) _ (by omega) (n - 1) _ (by omega) hlen (fun j u hj=>?_)
  by_cases c1:j<i*1
  ·rw [if_neg (by omega)]
   rw [List.getElem?_append_left (by omega),List.getElem?_take_of_lt c1] at hj
   exact hj
  ·have:=(List.getElem?_eq_some_iff.1 hj).1
   rw [hlen] at this
   rw [List.getElem?_append_right (by omega),ht] at hj
   rw [if_pos (by omega)]
   exact hj
 refine⟨k1,?_⟩
 rw [hw2]
 refine k1.set ((n - 1)*1) zs (by omega) (n - 1) _ (by omega) hlen (fun j u hj=>?_)
 have:=(List.getElem?_eq_some_iff.1 hj).1
 rw [hlen] at this
 rw [if_neg (by omega)]
 exact hj
theorem vO {a:Option Addr}{n m c:Nat} (h:n=m):Ending.returned (.slice a n c) = .returned (.slice a m c):=by rw [h]
theorem zI {w:World}{g off n c i:Nat}{xs:List Value} (hv:OB w 258 1 g off n c xs) (h0:∀ y∈xs,y.oneCell'=true) (hi:i<n) (hn:n≤1000000) :
  Calls Tryz.prog 252 #[.slice (some ⟨g,off,none⟩) n c,.int .i64 i,.int .i64 ((i:Int)+1)] w fun r w'=>r = .returned (.slice (some ⟨g,off,none⟩) (n - 1:Nat) c)∧OB w' 258 1 g off (n - 1) c (xs.take (i*1) ++ xs.drop ((i+1)*1))∧ae (fun k=>k=g) w w':=by
 obtain⟨inf,hinf,hz0,hsz,hby⟩:=info_parts Jr
 have hnc:=hv.hn
 have hc63:c≤9223372036854775807:=by simpa [maxLen] using hv.hc
 obtain⟨zs,hzs⟩:∃ zs,(Builtin.zeroCells (Value.cells (.slice none 0 0)) 1).toList=zs:=⟨_,rfl⟩
 have hzl:zs.length=1:=by rw [← hzs,Array.length_toList,size_zeroCells];rfl
 have hz1:∀ v∈zs,v.oneCell'=true:=by rw [← hzs];intro v hv;simp [Builtin.zeroCells,Value.cells] at hv;first | (rcases hv with rfl | rfl <;> rfl) | (rw [hv];rfl) | (obtain⟨a,_,rfl⟩:=hv;rcases (by omega:a=0∨a=1) with rfl | rfl <;> rfl) | (obtain⟨a,_,rfl⟩:=hv;rfl)
 obtain⟨w3,hw3⟩:∃ w3,(w.drewN 1).setCells g (off+i*1) (xs.drop ((i+1)*1))=w3:=⟨_,rfl⟩
 obtain⟨w4,hw4⟩:∃ w4,w3.setCells g (off+(n - 1)*1) zs=w4:=⟨_,rfl⟩
 have hvd:=hv.keep ((ae.refl ai w).drewN 1) (fun x=>x)
 obtain⟨ob3,ob4⟩:=IW hvd hi hzl w3 hw3.symm hw4.symm
 have AP:=lh (fun (ty:TypeId) (o3 ln c3:Nat) (ho:o3=off+(i+1)*1∨n=i+1) (hln:ln=n - (i+1))=>show (Builtin.append_ #[228,228] ty #[.slice (some ⟨g,off,none⟩) i c,.slice (some ⟨g,o3,none⟩) ln c3]).run Tryz.prog (w.drewN 1) = .ok (.slice (some ⟨g,off,none⟩) (i+(n - (i+1))) c) w3 from by
  subst hln
  have hdl:(xs.drop ((i+1)*1)).length=(n - (i+1))*1:=by rw [List.length_drop,hv.hl];omega
  have hsrc:Src Tryz.prog inf.size 228 (.slice (some ⟨g,o3,none⟩) (n - (i+1)) c3) (n - (i+1)) (xs.drop ((i+1)*1)) (w.drewN 1):=by
   rw [hsz]
   refine Src.ofSlice (w.drewN 1) Tryz.underlying228 ⟨g,o3,none⟩ (n - (i+1)) c3 _ hdl (fun j u hj=>?_) (fun v hv=>h0 v (List.mem_of_mem_drop hv))
   have hjl:=(List.getElem?_eq_some_iff.1 hj).1
   rw [hdl] at hjl
   rcases ho with rfl | ho
   ·rw [Addr.add_lit,show off+(i+1)*1+j=off+((i+1)*1+j) from by omega]
    rw [List.getElem?_drop] at hj
    exact hvd.cell hj
   ·omega
  have:=run_append_room_src (P:=Tryz.prog) (w:=w.drewN 1) 228 228 ty 258 inf Tryz.underlying228 hinf g off i c _ _ _ hsrc (by omega) (fun j hj=>by rw [hsz,show off+i*1+j=off+(i*1+j) from by omega];exact hvd.there (by omega)) (fun j hj=>hvd.free _)
  rw [this,hsz,hw3])
 have CL:=lh (fun (ty:TypeId) (o3 ln c3:Nat) (ho:o3=off+(n - 1)*1) (hln:ln=1)=>show (Builtin.clear_ #[228] ty #[.slice (some ⟨g,o3,none⟩) ln c3]).run Tryz.prog w3 = .ok (.tuple #[]) w4 from by
  subst ho hln
  rw [← hw4]
  exact qL (P:=Tryz.prog) w3 228 258 ty (.slice none 0 0) Tryz.underlying228 (fun w=>Tryz.zeroValue258 w) g (off+(n - 1)*1) 1 c3 (by omega) zs hzs hz1 (fun j hj=>by rw [show off+(n - 1)*1+j=off+((n - 1)*1+j) from by omega];exact ob3.there (by omega)) (fun j hj=>ob3.free _))
 have M:=lh (show ae (fun k=>k=g) w w4 from (((ae.refl (fun k=>k=g) w).drewN 1).trans (hw3▸eu (w.drewN 1) g (off+i*1) (xs.drop ((i+1)*1))) (fun _ _ x=>x) (fun _ _ x=>x)).trans (hw4▸eu w3 g (off+(n - 1)*1) zs) (fun _ _ x=>x) (fun _ _ x=>x))
 have OB4:=lh ob4
 clear hv h0 hinf hz0 hsz hby hzs hzl hz1 hw3 hw4 hvd ob3 ob4
 have hne:((i:Int) == (i:Int)+1)=false:=by simp;omega
 have w1:IntKind.i64.wrap ((i:Int)+1)=(i:Int)+1:=IntWalk.i64_in _ (by omega)
 have b1:(0:Int)≤(i:Int)+1:=by omega
 have b3:((i:Int)+1).toNat=i+1:=by omega
 have b5:(0:Int)≤(i:Int):=by omega
 have b7:i≤n:=by omega
 have b13:i+1≤n:=by omega
 have b14:(i:Int)+1≤(n:Int):=by omega
 have b16:(i:Int)≤(n:Int):=by omega
 have b17:i≤c:=by omega
 have b18:(i:Int)≤(c:Int):=by omega
 by_cases hci:c=i+1
 ·obtain rfl:n=i+1:=by omega
  subst hci
  have b19:(i:Int)≤(i:Int)+1:=by omega
  go_enter Tryz.func252,Tryz.ntmps252
  go_wp2
  go_still_tail 6,(by kernel_rfl)
  change wpList _ _ _ _ _ (w.drewN 1)
  clear w1 b1 b3 b5 b7 b13 b14 b16 b17 b18 b19
  refine Lib.wpList_append_run _ rfl _ _ _ _ rfl _ _ rfl rfl _ _ (AP.out _ _ _ _ (by first | omega | simp) (by first | omega | simp)) ?_
  go_wp2_with fail
  rw [CL.out _ _ _ _ (by first | omega | simp) (by first | omega | simp)]
  simp only [Result.andThen]
  rw [Oper.upon_value]
  go_wp2
  go_ret
  exact⟨vO (by omega),OB4.out,M.out⟩
 ·have b8:¬ (i+1=c):=by omega
  go_enter Tryz.func252,Tryz.ntmps252
  go_wp2
  go_still_tail 6,(by kernel_rfl)
  change wpList _ _ _ _ _ (w.drewN 1)
  clear w1 b1 b3 b5 b7 b13 b14 b16 b17 b18 b8 hci
  refine Lib.wpList_append_run _ rfl _ _ _ _ rfl _ _ rfl rfl _ _ (AP.out _ _ _ _ (by omega) (by omega)) ?_
  go_wp2_with fail
  rw [CL.out _ _ _ _ (by first | omega | simp) (by first | omega | simp)]
  simp only [Result.andThen]
  rw [Oper.upon_value]
  go_wp2
  go_ret
  exact⟨vO (by omega),OB4.out,M.out⟩
open Go.Gl Go.RowKit
theorem JK:(Tryz.prog.info? 244).map (fun i=>(i.zero,i.size,i.bytes))=some (some (.agg #[.slice none 0 0,.slice none 0 0]),2,48):=by kernel_rfl
theorem Iw {w w2:World}{g off n c i:Nat}{xs zs:List Value} (h:OB w 244 2 g off n c xs) (hi:i<n) (hz:zs.length=2) (w1:World) (h1:w1=w.setCells g (off+i*2) (xs.drop ((i+1)*2))) (hw2:w2=w1.setCells g (off+(n - 1)*2) zs) :
  OB w1 244 2 g off (n - 1) c (xs.take (i*2) ++ xs.drop ((i+1)*2))∧OB w2 244 2 g off (n - 1) c (xs.take (i*2) ++ xs.drop ((i+1)*2)):=by
 have hl:=h.hl
 have hn:=h.hn
 have ht:(xs.take (i*2)).length=i*2:=by rw [List.length_take];omega
 have hd:(xs.drop ((i+1)*2)).length=(n - 1 - i)*2:=by rw [List.length_drop];omega
 have hlen:(xs.take (i*2) ++ xs.drop ((i+1)*2)).length=(n - 1)*2:=by rw [List.length_append,ht,hd];omega
 have k1:OB w1 244 2 g off (n - 1) c (xs.take (i*2) ++ xs.drop ((i+1)*2)):=by
  rw [h1]
  refine h.set (i*2) _ (by omega) (n - 1) _ (by omega) hlen (fun j u hj=>?_)
  by_cases c1:j<i*2
  ·rw [if_neg (by omega)]
   rw [List.getElem?_append_left (by omega),List.getElem?_take_of_lt c1] at hj
   exact hj
  ·have:=(List.getElem?_eq_some_iff.1 hj).1
   rw [hlen] at this
   rw [List.getElem?_append_right (by omega),ht] at hj
   rw [if_pos (by omega)]
   exact hj
 refine⟨k1,?_⟩
 rw [hw2]
 refine k1.set ((n - 1)*2) zs (by omega) (n - 1) _ (by omega) hlen (fun j u hj=>?_)
 have:=(List.getElem?_eq_some_iff.1 hj).1
 rw [hlen] at this
 rw [if_neg (by omega)]
 exact hj
theorem uZ {a:Option Addr}{n m c:Nat} (h:n=m):Ending.returned (.slice a n c) = .returned (.slice a m c):=by rw [h]
theorem FH {w:World}{g off n c i:Nat}{xs:List Value} (hv:OB w 244 2 g off n c xs) (h0:∀ y∈xs,y.oneCell'=true) (hi:i<n) (hn:n≤1000000) :
  Calls Tryz.prog 251 #[.slice (some ⟨g,off,none⟩) n c,.int .i64 i,.int .i64 ((i:Int)+1)] w fun r w'=>r = .returned (.slice (some ⟨g,off,none⟩) (n - 1:Nat) c)∧OB w' 244 2 g off (n - 1) c (xs.take (i*2) ++ xs.drop ((i+1)*2))∧ae (fun k=>k=g) w w':=by
 obtain⟨inf,hinf,hz0,hsz,hby⟩:=info_parts JK
 have hnc:=hv.hn
 have hc63:c≤9223372036854775807:=by simpa [maxLen] using hv.hc
 obtain⟨zs,hzs⟩:∃ zs,(Builtin.zeroCells (Value.cells (.agg #[.slice none 0 0,.slice none 0 0])) 1).toList=zs:=⟨_,rfl⟩
 have hzl:zs.length=2:=by rw [← hzs,Array.length_toList,size_zeroCells];rfl
 have hz1:∀ v∈zs,v.oneCell'=true:=by rw [← hzs];intro v hv;simp [Builtin.zeroCells,Value.cells] at hv;first | (rcases hv with rfl | rfl <;> rfl) | (rw [hv];rfl) | (obtain⟨a,_,rfl⟩:=hv;rcases (by omega:a=0∨a=1) with rfl | rfl <;> rfl) | (obtain⟨a,_,rfl⟩:=hv;rfl)
 obtain⟨w3,hw3⟩:∃ w3,(w.drewN 1).setCells g (off+i*2) (xs.drop ((i+1)*2))=w3:=⟨_,rfl⟩
 obtain⟨w4,hw4⟩:∃ w4,w3.setCells g (off+(n - 1)*2) zs=w4:=⟨_,rfl⟩
 have hvd:=hv.keep ((ae.refl ai w).drewN 1) (fun x=>x)
 obtain⟨ob3,ob4⟩:=Iw hvd hi hzl w3 hw3.symm hw4.symm
 have AP:=lh (fun (ty:TypeId) (o3 ln c3:Nat) (ho:o3=off+(i+1)*2∨n=i+1) (hln:ln=n - (i+1))=>show (Builtin.append_ #[258,258] ty #[.slice (some ⟨g,off,none⟩) i c,.slice (some ⟨g,o3,none⟩) ln c3]).run Tryz.prog (w.drewN 1) = .ok (.slice (some ⟨g,off,none⟩) (i+(n - (i+1))) c) w3 from by
  subst hln
  have hdl:(xs.drop ((i+1)*2)).length=(n - (i+1))*2:=by rw [List.length_drop,hv.hl];omega
  have hsrc:Src Tryz.prog inf.size 258 (.slice (some ⟨g,o3,none⟩) (n - (i+1)) c3) (n - (i+1)) (xs.drop ((i+1)*2)) (w.drewN 1):=by
   rw [hsz]
   refine Src.ofSlice (w.drewN 1) Tryz.underlying258 ⟨g,o3,none⟩ (n - (i+1)) c3 _ hdl (fun j u hj=>?_) (fun v hv=>h0 v (List.mem_of_mem_drop hv))
   have hjl:=(List.getElem?_eq_some_iff.1 hj).1
   rw [hdl] at hjl
   rcases ho with rfl | ho
   ·rw [Addr.add_lit,show off+(i+1)*2+j=off+((i+1)*2+j) from by omega]
    rw [List.getElem?_drop] at hj
    exact hvd.cell hj
   ·omega
  have:=run_append_room_src (P:=Tryz.prog) (w:=w.drewN 1) 258 258 ty 244 inf Tryz.underlying258 hinf g off i c _ _ _ hsrc (by omega) (fun j hj=>by rw [hsz,show off+i*2+j=off+(i*2+j) from by omega];exact hvd.there (by omega)) (fun j hj=>hvd.free _)
  rw [this,hsz,hw3])
 have CL:=lh (fun (ty:TypeId) (o3 ln c3:Nat) (ho:o3=off+(n - 1)*2) (hln:ln=1)=>show (Builtin.clear_ #[258] ty #[.slice (some ⟨g,o3,none⟩) ln c3]).run Tryz.prog w3 = .ok (.tuple #[]) w4 from by
  subst ho hln
  rw [← hw4]
  exact qL (P:=Tryz.prog) w3 258 244 ty (.agg #[.slice none 0 0,.slice none 0 0]) Tryz.underlying258 (fun w=>Tryz.zeroValue244 w) g (off+(n - 1)*2) 1 c3 (by omega) zs hzs hz1 (fun j hj=>by rw [show off+(n - 1)*2+j=off+((n - 1)*2+j) from by omega];exact ob3.there (by omega)) (fun j hj=>ob3.free _))
 have M:=lh (show ae (fun k=>k=g) w w4 from (((ae.refl (fun k=>k=g) w).drewN 1).trans (hw3▸eu (w.drewN 1) g (off+i*2) (xs.drop ((i+1)*2))) (fun _ _ x=>x) (fun _ _ x=>x)).trans (hw4▸eu w3 g (off+(n - 1)*2) zs) (fun _ _ x=>x) (fun _ _ x=>x))
 have OB4:=lh ob4
 clear hv h0 hinf hz0 hsz hby hzs hzl hz1 hw3 hw4 hvd ob3 ob4
 have hne:((i:Int) == (i:Int)+1)=false:=by simp;omega
 have w1:IntKind.i64.wrap ((i:Int)+1)=(i:Int)+1:=IntWalk.i64_in _ (by omega)
 have b1:(0:Int)≤(i:Int)+1:=by omega
 have b3:((i:Int)+1).toNat=i+1:=by omega
 have b5:(0:Int)≤(i:Int):=by omega
 have b7:i≤n:=by omega
 have b13:i+1≤n:=by omega
 have b14:(i:Int)+1≤(n:Int):=by omega
 have b16:(i:Int)≤(n:Int):=by omega
 have b17:i≤c:=by omega
 have b18:(i:Int)≤(c:Int):=by omega
 by_cases hci:c=i+1
 ·obtain rfl:n=i+1:=by omega
  subst hci
  have b19:(i:Int)≤(i:Int)+1:=by omega
  go_enter Tryz.func251,Tryz.ntmps251
  go_wp2
  go_still_tail 6,(by kernel_rfl)
  change wpList _ _ _ _ _ (w.drewN 1)
  clear w1 b1 b3 b5 b7 b13 b14 b16 b17 b18 b19
  refine Lib.wpList_append_run _ rfl _ _ _ _ rfl _ _ rfl rfl _ _ (AP.out _ _ _ _ (by first | omega | simp) (by first | omega | simp)) ?_
  go_wp2_with fail
  rw [CL.out _ _ _ _ (by first | omega | simp) (by first | omega | simp)]
  simp only [Result.andThen]
  rw [Oper.upon_value]
  go_wp2
  go_ret
  exact⟨uZ (by omega),OB4.out,M.out⟩
 ·have b8:¬ (i+1=c):=by omega
  go_enter Tryz.func251,Tryz.ntmps251
  go_wp2
  go_still_tail 6,(by kernel_rfl)
  change wpList _ _ _ _ _ (w.drewN 1)
  clear w1 b1 b3 b5 b7 b13 b14 b16 b17 b18 b8 hci
  refine Lib.wpList_append_run _ rfl _ _ _ _ rfl _ _ rfl rfl _ _ (AP.out _ _ _ _ (by omega) (by omega)) ?_
  go_wp2_with fail
  rw [CL.out _ _ _ _ (by first | omega | simp) (by first | omega | simp)]
  simp only [Result.andThen]
  rw [Oper.upon_value]
  go_wp2
  go_ret
  exact⟨uZ (by omega),OB4.out,M.out⟩
open Go.Gl Go.RowKit
section
variable {x0 x1 x2 x3 x4 x5 x6 x7 x8 x9 aW bn bi aZ aP aQ aS aT aX aY bD bC bG bH bJ bQ bP bM bK bV bW cZ dh dn dw di dm dK dE dF dL dM dN dP dQ dR dS dO eF eG fA ed dX dY eH eP eQ fB eU fD fC eX iG iH jg jG jH jI jA kw kz kC kD:Value}{df:List Deferred}{Q:Exit→Act→World→Prop}
theorem Jw {w:World}{g:Nat}{p:Int} (hp:p<0)
  (hK:∀ (y5 y6 y7 y8 y9 jQ lD y12 kF jB jR jS jk jl jC lF kG jm iY jD iZ jo kH jT jU kJ lG lH kK mi mF lI:Value)  (w':World),ae ai w w'→Q .normal ⟨#[.pointer (some ⟨g,0,none⟩),.int .i64 (p),x2,x3,x4,y5,y6,y7,y8,y9,jQ,lD,y12,kF,jB,jR,jS,jk,jl,jC,lF,kG,jm,iY,jD,iZ,jo,kH,jT,jU,kJ,lG,lH,kK,mi,mF,lI,.bool true,dE,dF,dL,dM,dN,dP,dQ,dR,dS,dO,eF,eG,fA,ed,dX,dY,eH,eP,eQ,fB,eU,fD,fC,eX,iG,iH,jg,jG,jH,jI,jA,kw,kz,kC,kD],df⟩ w'):RW Tryz.prog (aJ 1 Tryz.f253) true Q ⟨#[.pointer (some ⟨g,0,none⟩),.int .i64 (p),x2,x3,x4,x5,x6,x7,x8,x9,aW,bn,bi,aZ,aP,aQ,aS,aT,aX,aY,bD,bC,bG,bH,bJ,bQ,bP,bM,bK,bV,bW,cZ,dh,dn,dw,di,dm,dK,dE,dF,dL,dM,dN,dP,dQ,dR,dS,dO,eF,eG,fA,ed,dX,dY,eH,eP,eQ,fB,eU,fD,fC,eX,iG,iH,jg,jG,jH,jI,jA,kw,kz,kC,kD],df⟩ w:=by
 have HQ:=lh hK
 clear hK
 have MR:=lh ((ae.refl ai w).drew)
 refine kR (S:=fun b'=>ae ai w b') [(0,true),(1,true),(2,true),(3,true),(4,true),(5,true),(6,true),(7,true),(8,true),(9,true),(10,true),(11,true),(12,true),(13,true),(14,true),(15,true),(16,true),(17,true),(18,true),(19,true),(20,true),(21,true),(22,true),(23,true),(24,true),(25,true),(26,true),(27,true),(28,true),(29,true),(30,true),(31,true),(32,true)] [] [(0,2,32),(1,32,64),(2,64,128),(4,130,256),(12,384,512),(4,129,1024),(36,1152,2048),(68,2176,4096),(132,4224,8192),(260,8320,16384),(532,17024,32768),(1028,32896,65536),(2052,65536,131072),(4096,131073,262144),(12288,393216,524288),(20480,655360,1048576),(36864,1179648,2097152),(4096,131074,4194304),(200704,6422528,8388608),(266240,8519680,16777216),(528384,16908288,33554432),(4096,131073,67108864),(2101248,67239936,134217728),(4198400,134348800,268435456),(8392704,268566528,536870912),(4096,131074,1073741824),(33558528,1073872896,2147483648),(83890176,2684485632,4294967296),(134221824,4295098368,8589934592),(268439552,8590065664,17179869184),(537923584,17213554688,34359738368),(1073745920,34359869440,68719476736),(2147487744,68719607808,137438953472)] (by kernel_rfl) (by kernel_rfl) (by kernel_rfl) (by kernel_rfl) (by kernel_rfl) MR.out ?_
 refine aj [0] [.int .i64 (p)] rfl (by kernel_rfl) (fun _=>by kernel_rfl) ?_
 refine ah (.bool true) (some 6) (ki (by kernel_rfl)) (fun bb hb=>cO (t:=3) (t':=3) (xv := .int .i64 (p)) (yv := .int .i64 0) (x:=(.tmp 5)) (y:=(.const (.int .i64 0))) (by kernel_rfl) (by kernel_rfl) (by kernel_rfl) (fun _=>by kernel_rfl) (kP _ (decide_eq_true (by omega)))) ?_
 refine aj [2,3,4,5,6,7,8,9,10,11,12,13,14,15,16,17,18,19,20,21,22,23,24,25,26,27,28,29,30,31,32] [.bool true,undef,undef,undef,undef,undef,undef,undef,undef,.bool true,.bool true,undef,undef,undef,undef,undef,undef,undef,undef,undef,undef,undef,undef,undef,undef,undef,undef,undef,undef,undef,.bool true] rfl (by kernel_rfl) (fun _=>by kernel_rfl) ?_
 exact aA (bg (K:=Q .normal) (by kernel_rfl) (HQ.out (.int .i64 (p)) (.bool true) (.bool true) (undef) (undef) (undef) (undef) (undef) (undef) (undef) (undef) (.bool true) (.bool true) (undef) (undef) (undef) (undef) (undef) (undef) (undef) (undef) (undef) (undef) (undef) (undef) (undef) (undef) (undef) (undef) (undef) (undef) (undef) _ MR.out))
theorem JL {w:World}{g b off n cap p:Nat}{vn:Value} (hg:w.heap[g]?=some (.cells #[.slice (some ⟨b,off,none⟩) n cap,vn] 230 (0,0))) (hp:n≤p+1) (hb:p≤1000000000)
  (hK:∀ (y5 y6 y7 y8 y9 jQ lD y12 kF jB jR jS jk jl jC lF kG jm iY jD iZ jo kH jT jU kJ lG lH kK mi mF lI:Value)  (w':World),ae ai w w'→Q .normal ⟨#[.pointer (some ⟨g,0,none⟩),.int .i64 ((p:Nat):Int),x2,x3,x4,y5,y6,y7,y8,y9,jQ,lD,y12,kF,jB,jR,jS,jk,jl,jC,lF,kG,jm,iY,jD,iZ,jo,kH,jT,jU,kJ,lG,lH,kK,mi,mF,lI,.bool true,dE,dF,dL,dM,dN,dP,dQ,dR,dS,dO,eF,eG,fA,ed,dX,dY,eH,eP,eQ,fB,eU,fD,fC,eX,iG,iH,jg,jG,jH,jI,jA,kw,kz,kC,kD],df⟩ w'):RW Tryz.prog (aJ 1 Tryz.f253) true Q ⟨#[.pointer (some ⟨g,0,none⟩),.int .i64 ((p:Nat):Int),x2,x3,x4,x5,x6,x7,x8,x9,aW,bn,bi,aZ,aP,aQ,aS,aT,aX,aY,bD,bC,bG,bH,bJ,bQ,bP,bM,bK,bV,bW,cZ,dh,dn,dw,di,dm,dK,dE,dF,dL,dM,dN,dP,dQ,dR,dS,dO,eF,eG,fA,ed,dX,dY,eH,eP,eQ,fB,eU,fD,fC,eX,iG,iH,jg,jG,jH,jI,jA,kw,kz,kC,kD],df⟩ w:=by
 have HQ:=lh hK
 clear hK
 have Q2:=lh (fun b' (hm:ae ai w b')=>show b'.cell? ⟨g,0,none⟩=some (.slice (some ⟨b,off,none⟩) n cap) from ag (hm.heap hg (fun x=>x)) 0)
 clear hg
 have MR:=lh ((ae.refl ai w).drew)
 refine kR (S:=fun b'=>ae ai w b') [(0,true),(1,true),(2,true),(3,true),(4,true),(5,true),(6,true),(7,true),(8,true),(9,true),(10,true),(11,true),(12,true),(13,true),(14,true),(15,true),(16,true),(17,true),(18,true),(19,true),(20,true),(21,true),(22,true),(23,true),(24,true),(25,true),(26,true),(27,true),(28,true),(29,true),(30,true),(31,true),(32,true)] [] [(0,2,32),(1,32,64),(2,64,128),(4,130,256),(12,384,512),(4,129,1024),(36,1152,2048),(68,2176,4096),(132,4224,8192),(260,8320,16384),(532,17024,32768),(1028,32896,65536),(2052,65536,131072),(4096,131073,262144),(12288,393216,524288),(20480,655360,1048576),(36864,1179648,2097152),(4096,131074,4194304),(200704,6422528,8388608),(266240,8519680,16777216),(528384,16908288,33554432),(4096,131073,67108864),(2101248,67239936,134217728),(4198400,134348800,268435456),(8392704,268566528,536870912),(4096,131074,1073741824),(33558528,1073872896,2147483648),(83890176,2684485632,4294967296),(134221824,4295098368,8589934592),(268439552,8590065664,17179869184),(537923584,17213554688,34359738368),(1073745920,34359869440,68719476736),(2147487744,68719607808,137438953472)] (by kernel_rfl) (by kernel_rfl) (by kernel_rfl) (by kernel_rfl) (by kernel_rfl) MR.out ?_
 refine aj [0] [.int .i64 ((p:Nat):Int)] rfl (by kernel_rfl) (fun _=>by kernel_rfl) ?_
 refine ah (.bool false) (some 6) (ki (by kernel_rfl)) (fun bb hb=>cO (t:=3) (t':=3) (xv := .int .i64 ((p:Nat):Int)) (yv := .int .i64 0) (x:=(.tmp 5)) (y:=(.const (.int .i64 0))) (by kernel_rfl) (by kernel_rfl) (by kernel_rfl) (fun _=>by kernel_rfl) (kP _ (decide_eq_false (by omega)))) ?_
 refine aj [2,3] [.bool false,.int .i64 ((p:Nat):Int)] rfl (by kernel_rfl) (fun _=>by kernel_rfl) ?_
 refine ah (.int .i64 (((p+1):Nat):Int)) (some 9) (ki (by kernel_rfl)) (fun bb hb=>cO (t:=3) (t':=3) (xv := .int .i64 ((p:Nat):Int)) (yv := .int .i64 1) (x:=(.tmp 8)) (y:=(.const (.int .i64 1))) (by kernel_rfl) (by kernel_rfl) (by kernel_rfl) (fun _=>by kernel_rfl) (gG _ (by omega) (by omega) (by omega))) ?_
 refine aj [5,6,7] [af g 0,af g 0,af g 0] rfl (by kernel_rfl) (fun _=>by kernel_rfl) ?_
 refine ah (.slice (some ⟨b,off,none⟩) n cap) (some 13) (ki (by kernel_rfl)) (fun bb hb=>aG (x:=(.tmp 12)) (by kernel_rfl) (by kernel_rfl) (aI (Q2.out _ hb) Tryz.underlying228 rfl)) ?_
 refine aj [9] [.int .i64 ((n:Nat):Int)] rfl (by kernel_rfl) (fun _=>by kernel_rfl) ?_
 refine ah (.bool true) (some 15) (ki (by kernel_rfl)) (fun bb hb=>cO (t:=3) (t':=3) (xv := .int .i64 (((p+1):Nat):Int)) (yv := .int .i64 ((n:Nat):Int)) (x:=(.tmp 9)) (y:=(.tmp 14)) (by kernel_rfl) (by kernel_rfl) (by kernel_rfl) (fun _=>by kernel_rfl) (pO _ (decide_eq_true (by omega)))) ?_
 refine aj [11,12,13,14,15,16,17,18,19,20,21,22,23,24,25,26,27,28,29,30,31,32] [.bool true,.bool true,undef,undef,undef,undef,undef,undef,undef,undef,undef,undef,undef,undef,undef,undef,undef,undef,undef,undef,undef,.bool true] rfl (by kernel_rfl) (fun _=>by kernel_rfl) ?_
 exact aA (bg (K:=Q .normal) (by kernel_rfl) (HQ.out (.int .i64 ((p:Nat):Int)) (.bool false) (.bool false) (.int .i64 ((p:Nat):Int)) (.int .i64 (((p+1):Nat):Int)) (af g 0) (af g 0) (af g 0) (.slice (some ⟨b,off,none⟩) n cap) (.int .i64 ((n:Nat):Int)) (.bool true) (.bool true) (.bool true) (undef) (undef) (undef) (undef) (undef) (undef) (undef) (undef) (undef) (undef) (undef) (undef) (undef) (undef) (undef) (undef) (undef) (undef) (undef) _ MR.out))
theorem JC {w:World}{g p:Nat}{vn:Value} (hg:w.heap[g]?=some (.cells #[.slice none 0 0,vn] 230 (0,0))) (hb:p≤1000000000)
  (hK:∀ (y5 y6 y7 y8 y9 jQ lD y12 kF jB jR jS jk jl jC lF kG jm iY jD iZ jo kH jT jU kJ lG lH kK mi mF lI:Value)  (w':World),ae ai w w'→Q .normal ⟨#[.pointer (some ⟨g,0,none⟩),.int .i64 ((p:Nat):Int),x2,x3,x4,y5,y6,y7,y8,y9,jQ,lD,y12,kF,jB,jR,jS,jk,jl,jC,lF,kG,jm,iY,jD,iZ,jo,kH,jT,jU,kJ,lG,lH,kK,mi,mF,lI,.bool true,dE,dF,dL,dM,dN,dP,dQ,dR,dS,dO,eF,eG,fA,ed,dX,dY,eH,eP,eQ,fB,eU,fD,fC,eX,iG,iH,jg,jG,jH,jI,jA,kw,kz,kC,kD],df⟩ w'):RW Tryz.prog (aJ 1 Tryz.f253) true Q ⟨#[.pointer (some ⟨g,0,none⟩),.int .i64 ((p:Nat):Int),x2,x3,x4,x5,x6,x7,x8,x9,aW,bn,bi,aZ,aP,aQ,aS,aT,aX,aY,bD,bC,bG,bH,bJ,bQ,bP,bM,bK,bV,bW,cZ,dh,dn,dw,di,dm,dK,dE,dF,dL,dM,dN,dP,dQ,dR,dS,dO,eF,eG,fA,ed,dX,dY,eH,eP,eQ,fB,eU,fD,fC,eX,iG,iH,jg,jG,jH,jI,jA,kw,kz,kC,kD],df⟩ w:=by
 have HQ:=lh hK
 clear hK
 have Q2:=lh (fun b' (hm:ae ai w b')=>show b'.cell? ⟨g,0,none⟩=some (.slice none 0 0) from ag (hm.heap hg (fun x=>x)) 0)
 clear hg
 have MR:=lh ((ae.refl ai w).drew)
 refine kR (S:=fun b'=>ae ai w b') [(0,true),(1,true),(2,true),(3,true),(4,true),(5,true),(6,true),(7,true),(8,true),(9,true),(10,true),(11,true),(12,true),(13,true),(14,true),(15,true),(16,true),(17,true),(18,true),(19,true),(20,true),(21,true),(22,true),(23,true),(24,true),(25,true),(26,true),(27,true),(28,true),(29,true),(30,true),(31,true),(32,true)] [] [(0,2,32),(1,32,64),(2,64,128),(4,130,256),(12,384,512),(4,129,1024),(36,1152,2048),(68,2176,4096),(132,4224,8192),(260,8320,16384),(532,17024,32768),(1028,32896,65536),(2052,65536,131072),(4096,131073,262144),(12288,393216,524288),(20480,655360,1048576),(36864,1179648,2097152),(4096,131074,4194304),(200704,6422528,8388608),(266240,8519680,16777216),(528384,16908288,33554432),(4096,131073,67108864),(2101248,67239936,134217728),(4198400,134348800,268435456),(8392704,268566528,536870912),(4096,131074,1073741824),(33558528,1073872896,2147483648),(83890176,2684485632,4294967296),(134221824,4295098368,8589934592),(268439552,8590065664,17179869184),(537923584,17213554688,34359738368),(1073745920,34359869440,68719476736),(2147487744,68719607808,137438953472)] (by kernel_rfl) (by kernel_rfl) (by kernel_rfl) (by kernel_rfl) (by kernel_rfl) MR.out ?_
 refine aj [0] [.int .i64 ((p:Nat):Int)] rfl (by kernel_rfl) (fun _=>by kernel_rfl) ?_
 refine ah (.bool false) (some 6) (ki (by kernel_rfl)) (fun bb hb=>cO (t:=3) (t':=3) (xv := .int .i64 ((p:Nat):Int)) (yv := .int .i64 0) (x:=(.tmp 5)) (y:=(.const (.int .i64 0))) (by kernel_rfl) (by kernel_rfl) (by kernel_rfl) (fun _=>by kernel_rfl) (kP _ (decide_eq_false (by omega)))) ?_
 refine aj [2,3] [.bool false,.int .i64 ((p:Nat):Int)] rfl (by kernel_rfl) (fun _=>by kernel_rfl) ?_
 refine ah (.int .i64 (((p+1):Nat):Int)) (some 9) (ki (by kernel_rfl)) (fun bb hb=>cO (t:=3) (t':=3) (xv := .int .i64 ((p:Nat):Int)) (yv := .int .i64 1) (x:=(.tmp 8)) (y:=(.const (.int .i64 1))) (by kernel_rfl) (by kernel_rfl) (by kernel_rfl) (fun _=>by kernel_rfl) (gG _ (by omega) (by omega) (by omega))) ?_
 refine aj [5,6,7] [af g 0,af g 0,af g 0] rfl (by kernel_rfl) (fun _=>by kernel_rfl) ?_
 refine ah (.slice none 0 0) (some 13) (ki (by kernel_rfl)) (fun bb hb=>aG (x:=(.tmp 12)) (by kernel_rfl) (by kernel_rfl) (aI (Q2.out _ hb) Tryz.underlying228 rfl)) ?_
 refine aj [9] [.int .i64 0] rfl (by kernel_rfl) (fun _=>by kernel_rfl) ?_
 refine ah (.bool true) (some 15) (ki (by kernel_rfl)) (fun bb hb=>cO (t:=3) (t':=3) (xv := .int .i64 (((p+1):Nat):Int)) (yv := .int .i64 0) (x:=(.tmp 9)) (y:=(.tmp 14)) (by kernel_rfl) (by kernel_rfl) (by kernel_rfl) (fun _=>by kernel_rfl) (pO _ (decide_eq_true (by omega)))) ?_
 refine aj [11,12,13,14,15,16,17,18,19,20,21,22,23,24,25,26,27,28,29,30,31,32] [.bool true,.bool true,undef,undef,undef,undef,undef,undef,undef,undef,undef,undef,undef,undef,undef,undef,undef,undef,undef,undef,undef,.bool true] rfl (by kernel_rfl) (fun _=>by kernel_rfl) ?_
 exact aA (bg (K:=Q .normal) (by kernel_rfl) (HQ.out (.int .i64 ((p:Nat):Int)) (.bool false) (.bool false) (.int .i64 ((p:Nat):Int)) (.int .i64 (((p+1):Nat):Int)) (af g 0) (af g 0) (af g 0) (.slice none 0 0) (.int .i64 0) (.bool true) (.bool true) (.bool true) (undef) (undef) (undef) (undef) (undef) (undef) (undef) (undef) (undef) (undef) (undef) (undef) (undef) (undef) (undef) (undef) (undef) (undef) (undef) _ MR.out))
theorem Jp {w:World}{g b off n cap p:Nat}{vn:Value}{pvs:List Value} (hg:w.heap[g]?=some (.cells #[.slice (some ⟨b,off,none⟩) n cap,vn] 230 (0,0))) (hr:OB w 258 1 b off n cap pvs) (hp:p+1<n) (hn:n≤1000000) {pb po m1 pc qb qo m2 qc:Nat} (h1:pvs[p]?=some (.slice (some ⟨pb,po,none⟩) m1 pc)) (h2:pvs[p+1]?=some (.slice (some ⟨qb,qo,none⟩) m2 qc)) (h3:m1≤100) (h4:m2≤100) (h5:¬ m1+m2≤16)
  (hK:∀ (y5 y6 y7 y8 y9 jQ lD y12 kF jB jR jS jk jl jC lF kG jm iY jD iZ jo kH jT jU kJ lG lH kK mi mF lI:Value)  (w':World),ae ai w w'→Q .normal ⟨#[.pointer (some ⟨g,0,none⟩),.int .i64 ((p:Nat):Int),x2,x3,x4,y5,y6,y7,y8,y9,jQ,lD,y12,kF,jB,jR,jS,jk,jl,jC,lF,kG,jm,iY,jD,iZ,jo,kH,jT,jU,kJ,lG,lH,kK,mi,mF,lI,.bool true,dE,dF,dL,dM,dN,dP,dQ,dR,dS,dO,eF,eG,fA,ed,dX,dY,eH,eP,eQ,fB,eU,fD,fC,eX,iG,iH,jg,jG,jH,jI,jA,kw,kz,kC,kD],df⟩ w'):RW Tryz.prog (aJ 1 Tryz.f253) true Q ⟨#[.pointer (some ⟨g,0,none⟩),.int .i64 ((p:Nat):Int),x2,x3,x4,x5,x6,x7,x8,x9,aW,bn,bi,aZ,aP,aQ,aS,aT,aX,aY,bD,bC,bG,bH,bJ,bQ,bP,bM,bK,bV,bW,cZ,dh,dn,dw,di,dm,dK,dE,dF,dL,dM,dN,dP,dQ,dR,dS,dO,eF,eG,fA,ed,dX,dY,eH,eP,eQ,fB,eU,fD,fC,eX,iG,iH,jg,jG,jH,jI,jA,kw,kz,kC,kD],df⟩ w:=by
 have HQ:=lh hK
 clear hK
 have Q2:=lh (fun b' (hm:ae ai w b')=>show b'.cell? ⟨g,0,none⟩=some (.slice (some ⟨b,off,none⟩) n cap) from ag (hm.heap hg (fun x=>x)) 0)
 have Q3:=lh (fun b' (hm:ae ai w b')=>show b'.cell? ⟨b,off+p,none⟩=some (.slice (some ⟨pb,po,none⟩) m1 pc) from (hr.keep hm (fun x=>x)).cell h1)
 have Q4:=lh (fun b' (hm:ae ai w b')=>show b'.cell? ⟨b,off+(p+1),none⟩=some (.slice (some ⟨qb,qo,none⟩) m2 qc) from (hr.keep hm (fun x=>x)).cell h2)
 clear hg hr h1 h2
 have MR:=lh ((ae.refl ai w).drew)
 refine kR (S:=fun b'=>ae ai w b') [(0,true),(1,true),(2,true),(3,true),(4,true),(5,true),(6,true),(7,true),(8,true),(9,true),(10,true),(11,true),(12,true),(13,true),(14,true),(15,true),(16,true),(17,true),(18,true),(19,true),(20,true),(21,true),(22,true),(23,true),(24,true),(25,true),(26,true),(27,true),(28,true),(29,true),(30,true),(31,true),(32,true)] [] [(0,2,32),(1,32,64),(2,64,128),(4,130,256),(12,384,512),(4,129,1024),(36,1152,2048),(68,2176,4096),(132,4224,8192),(260,8320,16384),(532,17024,32768),(1028,32896,65536),(2052,65536,131072),(4096,131073,262144),(12288,393216,524288),(20480,655360,1048576),(36864,1179648,2097152),(4096,131074,4194304),(200704,6422528,8388608),(266240,8519680,16777216),(528384,16908288,33554432),(4096,131073,67108864),(2101248,67239936,134217728),(4198400,134348800,268435456),(8392704,268566528,536870912),(4096,131074,1073741824),(33558528,1073872896,2147483648),(83890176,2684485632,4294967296),(134221824,4295098368,8589934592),(268439552,8590065664,17179869184),(537923584,17213554688,34359738368),(1073745920,34359869440,68719476736),(2147487744,68719607808,137438953472)] (by kernel_rfl) (by kernel_rfl) (by kernel_rfl) (by kernel_rfl) (by kernel_rfl) MR.out ?_
 refine aj [0] [.int .i64 ((p:Nat):Int)] rfl (by kernel_rfl) (fun _=>by kernel_rfl) ?_
 refine ah (.bool false) (some 6) (ki (by kernel_rfl)) (fun bb hb=>cO (t:=3) (t':=3) (xv := .int .i64 ((p:Nat):Int)) (yv := .int .i64 0) (x:=(.tmp 5)) (y:=(.const (.int .i64 0))) (by kernel_rfl) (by kernel_rfl) (by kernel_rfl) (fun _=>by kernel_rfl) (kP _ (decide_eq_false (by omega)))) ?_
 refine aj [2,3] [.bool false,.int .i64 ((p:Nat):Int)] rfl (by kernel_rfl) (fun _=>by kernel_rfl) ?_
 refine ah (.int .i64 (((p+1):Nat):Int)) (some 9) (ki (by kernel_rfl)) (fun bb hb=>cO (t:=3) (t':=3) (xv := .int .i64 ((p:Nat):Int)) (yv := .int .i64 1) (x:=(.tmp 8)) (y:=(.const (.int .i64 1))) (by kernel_rfl) (by kernel_rfl) (by kernel_rfl) (fun _=>by kernel_rfl) (gG _ (by omega) (by omega) (by omega))) ?_
 refine aj [5,6,7] [af g 0,af g 0,af g 0] rfl (by kernel_rfl) (fun _=>by kernel_rfl) ?_
 refine ah (.slice (some ⟨b,off,none⟩) n cap) (some 13) (ki (by kernel_rfl)) (fun bb hb=>aG (x:=(.tmp 12)) (by kernel_rfl) (by kernel_rfl) (aI (Q2.out _ hb) Tryz.underlying228 rfl)) ?_
 refine aj [9] [.int .i64 ((n:Nat):Int)] rfl (by kernel_rfl) (fun _=>by kernel_rfl) ?_
 refine ah (.bool false) (some 15) (ki (by kernel_rfl)) (fun bb hb=>cO (t:=3) (t':=3) (xv := .int .i64 (((p+1):Nat):Int)) (yv := .int .i64 ((n:Nat):Int)) (x:=(.tmp 9)) (y:=(.tmp 14)) (by kernel_rfl) (by kernel_rfl) (by kernel_rfl) (fun _=>by kernel_rfl) (pO _ (decide_eq_false (by omega)))) ?_
 refine aj [11,12,13,14,15] [.bool false,.bool false,af g 0,af g 0,af g 0] rfl (by kernel_rfl) (fun _=>by kernel_rfl) ?_
 refine ah (.slice (some ⟨b,off,none⟩) n cap) (some 21) (ki (by kernel_rfl)) (fun bb hb=>aG (x:=(.tmp 20)) (by kernel_rfl) (by kernel_rfl) (aI (Q2.out _ hb) Tryz.underlying228 rfl)) ?_
 refine aj [17] [.int .i64 ((p:Nat):Int)] rfl (by kernel_rfl) (fun _=>by kernel_rfl) ?_
 refine ah (af b (off+p)) (some 23) (ki (by kernel_rfl)) (fun bb hb=>fQ (s:=1) (e:=258) (g:=b) (off:=off) (n:=n) (c:=cap) (i:=((p:Nat):Int)) (x:=(.tmp 21)) (y:=(.tmp 22)) (off+p) (by kernel_rfl) (by kernel_rfl) (by kernel_rfl) Tryz.underlying228 (by kernel_rfl) (by omega) (by omega) (by omega)) ?_
 refine ah (.slice (some ⟨pb,po,none⟩) m1 pc) (some 24) (ki (by kernel_rfl)) (fun bb hb=>aG (x:=(.tmp 23)) (by kernel_rfl) (by kernel_rfl) (aI (Q3.out _ hb) Tryz.underlying258 rfl)) ?_
 refine aj [20,21,22,23] [.int .i64 ((m1:Nat):Int),af g 0,af g 0,af g 0] rfl (by kernel_rfl) (fun _=>by kernel_rfl) ?_
 refine ah (.slice (some ⟨b,off,none⟩) n cap) (some 29) (ki (by kernel_rfl)) (fun bb hb=>aG (x:=(.tmp 28)) (by kernel_rfl) (by kernel_rfl) (aI (Q2.out _ hb) Tryz.underlying228 rfl)) ?_
 refine aj [25] [.int .i64 ((p:Nat):Int)] rfl (by kernel_rfl) (fun _=>by kernel_rfl) ?_
 refine ah (.int .i64 (((p+1):Nat):Int)) (some 31) (ki (by kernel_rfl)) (fun bb hb=>cO (t:=3) (t':=3) (xv := .int .i64 ((p:Nat):Int)) (yv := .int .i64 1) (x:=(.tmp 30)) (y:=(.const (.int .i64 1))) (by kernel_rfl) (by kernel_rfl) (by kernel_rfl) (fun _=>by kernel_rfl) (gG _ (by omega) (by omega) (by omega))) ?_
 refine ah (af b (off+(p+1))) (some 32) (ki (by kernel_rfl)) (fun bb hb=>fQ (s:=1) (e:=258) (g:=b) (off:=off) (n:=n) (c:=cap) (i:=(((p+1):Nat):Int)) (x:=(.tmp 29)) (y:=(.tmp 31)) (off+(p+1)) (by kernel_rfl) (by kernel_rfl) (by kernel_rfl) Tryz.underlying228 (by kernel_rfl) (by omega) (by omega) (by omega)) ?_
 refine ah (.slice (some ⟨qb,qo,none⟩) m2 qc) (some 33) (ki (by kernel_rfl)) (fun bb hb=>aG (x:=(.tmp 32)) (by kernel_rfl) (by kernel_rfl) (aI (Q4.out _ hb) Tryz.underlying258 rfl)) ?_
 refine aj [29] [.int .i64 ((m2:Nat):Int)] rfl (by kernel_rfl) (fun _=>by kernel_rfl) ?_
 refine ah (.int .i64 (((m1+m2):Nat):Int)) (some 35) (ki (by kernel_rfl)) (fun bb hb=>cO (t:=3) (t':=3) (xv := .int .i64 ((m1:Nat):Int)) (yv := .int .i64 ((m2:Nat):Int)) (x:=(.tmp 25)) (y:=(.tmp 34)) (by kernel_rfl) (by kernel_rfl) (by kernel_rfl) (fun _=>by kernel_rfl) (gG _ (by omega) (by omega) (by omega))) ?_
 refine ah (.bool true) (some 36) (ki (by kernel_rfl)) (fun bb hb=>cO (t:=3) (t':=3) (xv := .int .i64 (((m1+m2):Nat):Int)) (yv := .int .i64 16) (x:=(.tmp 35)) (y:=(.const (.int .i64 16))) (by kernel_rfl) (by kernel_rfl) (by kernel_rfl) (fun _=>by kernel_rfl) (qH _ (decide_eq_true (by omega)))) ?_
 refine aj [32] [.bool true] rfl (by kernel_rfl) (fun _=>by kernel_rfl) ?_
 exact aA (bg (K:=Q .normal) (by kernel_rfl) (HQ.out (.int .i64 ((p:Nat):Int)) (.bool false) (.bool false) (.int .i64 ((p:Nat):Int)) (.int .i64 (((p+1):Nat):Int)) (af g 0) (af g 0) (af g 0) (.slice (some ⟨b,off,none⟩) n cap) (.int .i64 ((n:Nat):Int)) (.bool false) (.bool false) (.bool false) (af g 0) (af g 0) (af g 0) (.slice (some ⟨b,off,none⟩) n cap) (.int .i64 ((p:Nat):Int)) (af b (off+p)) (.slice (some ⟨pb,po,none⟩) m1 pc) (.int .i64 ((m1:Nat):Int)) (af g 0) (af g 0) (af g 0) (.slice (some ⟨b,off,none⟩) n cap) (.int .i64 ((p:Nat):Int)) (.int .i64 (((p+1):Nat):Int)) (af b (off+(p+1))) (.slice (some ⟨qb,qo,none⟩) m2 qc) (.int .i64 ((m2:Nat):Int)) (.int .i64 (((m1+m2):Nat):Int)) (.bool true) _ MR.out))
theorem JF {w:World}{g b off n cap p:Nat}{vn:Value}{pvs:List Value} (hg:w.heap[g]?=some (.cells #[.slice (some ⟨b,off,none⟩) n cap,vn] 230 (0,0))) (hr:OB w 258 1 b off n cap pvs) (hp:p+1<n) (hn:n≤1000000) {pb po m1 pc qb qo m2 qc:Nat} (h1:pvs[p]?=some (.slice (some ⟨pb,po,none⟩) m1 pc)) (h2:pvs[p+1]?=some (.slice (some ⟨qb,qo,none⟩) m2 qc)) (h3:m1≤100) (h4:m2≤100) (h5:m1+m2≤16)
  (hK:∀ (y5 y6 y7 y8 y9 jQ lD y12 kF jB jR jS jk jl jC lF kG jm iY jD iZ jo kH jT jU kJ lG lH kK mi mF lI:Value)  (w':World),ae ai w w'→Q .normal ⟨#[.pointer (some ⟨g,0,none⟩),.int .i64 ((p:Nat):Int),x2,x3,x4,y5,y6,y7,y8,y9,jQ,lD,y12,kF,jB,jR,jS,jk,jl,jC,lF,kG,jm,iY,jD,iZ,jo,kH,jT,jU,kJ,lG,lH,kK,mi,mF,lI,.bool false,dE,dF,dL,dM,dN,dP,dQ,dR,dS,dO,eF,eG,fA,ed,dX,dY,eH,eP,eQ,fB,eU,fD,fC,eX,iG,iH,jg,jG,jH,jI,jA,kw,kz,kC,kD],df⟩ w'):RW Tryz.prog (aJ 1 Tryz.f253) true Q ⟨#[.pointer (some ⟨g,0,none⟩),.int .i64 ((p:Nat):Int),x2,x3,x4,x5,x6,x7,x8,x9,aW,bn,bi,aZ,aP,aQ,aS,aT,aX,aY,bD,bC,bG,bH,bJ,bQ,bP,bM,bK,bV,bW,cZ,dh,dn,dw,di,dm,dK,dE,dF,dL,dM,dN,dP,dQ,dR,dS,dO,eF,eG,fA,ed,dX,dY,eH,eP,eQ,fB,eU,fD,fC,eX,iG,iH,jg,jG,jH,jI,jA,kw,kz,kC,kD],df⟩ w:=by
 have HQ:=lh hK
 clear hK
 have Q2:=lh (fun b' (hm:ae ai w b')=>show b'.cell? ⟨g,0,none⟩=some (.slice (some ⟨b,off,none⟩) n cap) from ag (hm.heap hg (fun x=>x)) 0)
 have Q3:=lh (fun b' (hm:ae ai w b')=>show b'.cell? ⟨b,off+p,none⟩=some (.slice (some ⟨pb,po,none⟩) m1 pc) from (hr.keep hm (fun x=>x)).cell h1)
 have Q4:=lh (fun b' (hm:ae ai w b')=>show b'.cell? ⟨b,off+(p+1),none⟩=some (.slice (some ⟨qb,qo,none⟩) m2 qc) from (hr.keep hm (fun x=>x)).cell h2)
 clear hg hr h1 h2
 have MR:=lh ((ae.refl ai w).drew)
 refine kR (S:=fun b'=>ae ai w b') [(0,true),(1,true),(2,true),(3,true),(4,true),(5,true),(6,true),(7,true),(8,true),(9,true),(10,true),(11,true),(12,true),(13,true),(14,true),(15,true),(16,true),(17,true),(18,true),(19,true),(20,true),(21,true),(22,true),(23,true),(24,true),(25,true),(26,true),(27,true),(28,true),(29,true),(30,true),(31,true),(32,true)] [] [(0,2,32),(1,32,64),(2,64,128),(4,130,256),(12,384,512),(4,129,1024),(36,1152,2048),(68,2176,4096),(132,4224,8192),(260,8320,16384),(532,17024,32768),(1028,32896,65536),(2052,65536,131072),(4096,131073,262144),(12288,393216,524288),(20480,655360,1048576),(36864,1179648,2097152),(4096,131074,4194304),(200704,6422528,8388608),(266240,8519680,16777216),(528384,16908288,33554432),(4096,131073,67108864),(2101248,67239936,134217728),(4198400,134348800,268435456),(8392704,268566528,536870912),(4096,131074,1073741824),(33558528,1073872896,2147483648),(83890176,2684485632,4294967296),(134221824,4295098368,8589934592),(268439552,8590065664,17179869184),(537923584,17213554688,34359738368),(1073745920,34359869440,68719476736),(2147487744,68719607808,137438953472)] (by kernel_rfl) (by kernel_rfl) (by kernel_rfl) (by kernel_rfl) (by kernel_rfl) MR.out ?_
 refine aj [0] [.int .i64 ((p:Nat):Int)] rfl (by kernel_rfl) (fun _=>by kernel_rfl) ?_
 refine ah (.bool false) (some 6) (ki (by kernel_rfl)) (fun bb hb=>cO (t:=3) (t':=3) (xv := .int .i64 ((p:Nat):Int)) (yv := .int .i64 0) (x:=(.tmp 5)) (y:=(.const (.int .i64 0))) (by kernel_rfl) (by kernel_rfl) (by kernel_rfl) (fun _=>by kernel_rfl) (kP _ (decide_eq_false (by omega)))) ?_
 refine aj [2,3] [.bool false,.int .i64 ((p:Nat):Int)] rfl (by kernel_rfl) (fun _=>by kernel_rfl) ?_
 refine ah (.int .i64 (((p+1):Nat):Int)) (some 9) (ki (by kernel_rfl)) (fun bb hb=>cO (t:=3) (t':=3) (xv := .int .i64 ((p:Nat):Int)) (yv := .int .i64 1) (x:=(.tmp 8)) (y:=(.const (.int .i64 1))) (by kernel_rfl) (by kernel_rfl) (by kernel_rfl) (fun _=>by kernel_rfl) (gG _ (by omega) (by omega) (by omega))) ?_
 refine aj [5,6,7] [af g 0,af g 0,af g 0] rfl (by kernel_rfl) (fun _=>by kernel_rfl) ?_
 refine ah (.slice (some ⟨b,off,none⟩) n cap) (some 13) (ki (by kernel_rfl)) (fun bb hb=>aG (x:=(.tmp 12)) (by kernel_rfl) (by kernel_rfl) (aI (Q2.out _ hb) Tryz.underlying228 rfl)) ?_
 refine aj [9] [.int .i64 ((n:Nat):Int)] rfl (by kernel_rfl) (fun _=>by kernel_rfl) ?_
 refine ah (.bool false) (some 15) (ki (by kernel_rfl)) (fun bb hb=>cO (t:=3) (t':=3) (xv := .int .i64 (((p+1):Nat):Int)) (yv := .int .i64 ((n:Nat):Int)) (x:=(.tmp 9)) (y:=(.tmp 14)) (by kernel_rfl) (by kernel_rfl) (by kernel_rfl) (fun _=>by kernel_rfl) (pO _ (decide_eq_false (by omega)))) ?_
 refine aj [11,12,13,14,15] [.bool false,.bool false,af g 0,af g 0,af g 0] rfl (by kernel_rfl) (fun _=>by kernel_rfl) ?_
 refine ah (.slice (some ⟨b,off,none⟩) n cap) (some 21) (ki (by kernel_rfl)) (fun bb hb=>aG (x:=(.tmp 20)) (by kernel_rfl) (by kernel_rfl) (aI (Q2.out _ hb) Tryz.underlying228 rfl)) ?_
 refine aj [17] [.int .i64 ((p:Nat):Int)] rfl (by kernel_rfl) (fun _=>by kernel_rfl) ?_
 refine ah (af b (off+p)) (some 23) (ki (by kernel_rfl)) (fun bb hb=>fQ (s:=1) (e:=258) (g:=b) (off:=off) (n:=n) (c:=cap) (i:=((p:Nat):Int)) (x:=(.tmp 21)) (y:=(.tmp 22)) (off+p) (by kernel_rfl) (by kernel_rfl) (by kernel_rfl) Tryz.underlying228 (by kernel_rfl) (by omega) (by omega) (by omega)) ?_
 refine ah (.slice (some ⟨pb,po,none⟩) m1 pc) (some 24) (ki (by kernel_rfl)) (fun bb hb=>aG (x:=(.tmp 23)) (by kernel_rfl) (by kernel_rfl) (aI (Q3.out _ hb) Tryz.underlying258 rfl)) ?_
 refine aj [20,21,22,23] [.int .i64 ((m1:Nat):Int),af g 0,af g 0,af g 0] rfl (by kernel_rfl) (fun _=>by kernel_rfl) ?_
 refine ah (.slice (some ⟨b,off,none⟩) n cap) (some 29) (ki (by kernel_rfl)) (fun bb hb=>aG (x:=(.tmp 28)) (by kernel_rfl) (by kernel_rfl) (aI (Q2.out _ hb) Tryz.underlying228 rfl)) ?_
 refine aj [25] [.int .i64 ((p:Nat):Int)] rfl (by kernel_rfl) (fun _=>by kernel_rfl) ?_
 refine ah (.int .i64 (((p+1):Nat):Int)) (some 31) (ki (by kernel_rfl)) (fun bb hb=>cO (t:=3) (t':=3) (xv := .int .i64 ((p:Nat):Int)) (yv := .int .i64 1) (x:=(.tmp 30)) (y:=(.const (.int .i64 1))) (by kernel_rfl) (by kernel_rfl) (by kernel_rfl) (fun _=>by kernel_rfl) (gG _ (by omega) (by omega) (by omega))) ?_
 refine ah (af b (off+(p+1))) (some 32) (ki (by kernel_rfl)) (fun bb hb=>fQ (s:=1) (e:=258) (g:=b) (off:=off) (n:=n) (c:=cap) (i:=(((p+1):Nat):Int)) (x:=(.tmp 29)) (y:=(.tmp 31)) (off+(p+1)) (by kernel_rfl) (by kernel_rfl) (by kernel_rfl) Tryz.underlying228 (by kernel_rfl) (by omega) (by omega) (by omega)) ?_
 refine ah (.slice (some ⟨qb,qo,none⟩) m2 qc) (some 33) (ki (by kernel_rfl)) (fun bb hb=>aG (x:=(.tmp 32)) (by kernel_rfl) (by kernel_rfl) (aI (Q4.out _ hb) Tryz.underlying258 rfl)) ?_
 refine aj [29] [.int .i64 ((m2:Nat):Int)] rfl (by kernel_rfl) (fun _=>by kernel_rfl) ?_
 refine ah (.int .i64 (((m1+m2):Nat):Int)) (some 35) (ki (by kernel_rfl)) (fun bb hb=>cO (t:=3) (t':=3) (xv := .int .i64 ((m1:Nat):Int)) (yv := .int .i64 ((m2:Nat):Int)) (x:=(.tmp 25)) (y:=(.tmp 34)) (by kernel_rfl) (by kernel_rfl) (by kernel_rfl) (fun _=>by kernel_rfl) (gG _ (by omega) (by omega) (by omega))) ?_
 refine ah (.bool false) (some 36) (ki (by kernel_rfl)) (fun bb hb=>cO (t:=3) (t':=3) (xv := .int .i64 (((m1+m2):Nat):Int)) (yv := .int .i64 16) (x:=(.tmp 35)) (y:=(.const (.int .i64 16))) (by kernel_rfl) (by kernel_rfl) (by kernel_rfl) (fun _=>by kernel_rfl) (qH _ (decide_eq_false (by omega)))) ?_
 refine aj [32] [.bool false] rfl (by kernel_rfl) (fun _=>by kernel_rfl) ?_
 exact aA (bg (K:=Q .normal) (by kernel_rfl) (HQ.out (.int .i64 ((p:Nat):Int)) (.bool false) (.bool false) (.int .i64 ((p:Nat):Int)) (.int .i64 (((p+1):Nat):Int)) (af g 0) (af g 0) (af g 0) (.slice (some ⟨b,off,none⟩) n cap) (.int .i64 ((n:Nat):Int)) (.bool false) (.bool false) (.bool false) (af g 0) (af g 0) (af g 0) (.slice (some ⟨b,off,none⟩) n cap) (.int .i64 ((p:Nat):Int)) (af b (off+p)) (.slice (some ⟨pb,po,none⟩) m1 pc) (.int .i64 ((m1:Nat):Int)) (af g 0) (af g 0) (af g 0) (.slice (some ⟨b,off,none⟩) n cap) (.int .i64 ((p:Nat):Int)) (.int .i64 (((p+1):Nat):Int)) (af b (off+(p+1))) (.slice (some ⟨qb,qo,none⟩) m2 qc) (.int .i64 ((m2:Nat):Int)) (.int .i64 (((m1+m2):Nat):Int)) (.bool false) _ MR.out))
theorem join3 {w:World}{g b off n cap p:Nat}{vn:Value}{pvs:List Value} (hg:w.heap[g]?=some (.cells #[.slice (some ⟨b,off,none⟩) n cap,vn] 230 (0,0))) (hr:OB w 258 1 b off n cap pvs) (hp:p+1<n) (hn:n≤1000000) {pb po m1 pc qb qo m2 qc:Nat} (h1:pvs[p]?=some (.slice (some ⟨pb,po,none⟩) m1 pc)) (h2:pvs[p+1]?=some (.slice (some ⟨qb,qo,none⟩) m2 qc)) {xs ys:List Value} (ha:OB w 244 2 pb po m1 pc xs) (hb:OB w 244 2 qb qo m2 qc ys) (h3:∀ y∈xs,y.oneCell'=true) (h4:∀ y∈ys,y.oneCell'=true) (hm0:0<m1) (hm:m1+m2≤1000000)
  (hK:∀ (y38 y39 y40 y41 y42 y43 y44 y45 y46 y47 y48 y49 y50 y51 y52 y53 y54 y55 y56 y57 y58 y59 y60:Value) (v7:Value) (w7:World) (w':World),aO w7 244 2 v7 (m1+m2) (xs ++ ys)→ae ai w w7→aF w v7→v7.oneCell'=true→w'=w7.setCell ⟨b,off+p,none⟩ v7→Q .normal ⟨#[.pointer (some ⟨g,0,none⟩),.int .i64 ((p:Nat):Int),x2,x3,x4,x5,x6,x7,x8,x9,aW,bn,bi,aZ,aP,aQ,aS,aT,aX,aY,bD,bC,bG,bH,bJ,bQ,bP,bM,bK,bV,bW,cZ,dh,dn,dw,di,dm,dK,y38,y39,y40,y41,y42,y43,y44,y45,y46,y47,y48,y49,y50,y51,y52,y53,y54,y55,y56,y57,y58,y59,y60,eX,iG,iH,jg,jG,jH,jI,jA,kw,kz,kC,kD],df⟩ w'):RW Tryz.prog (aJ 3 Tryz.f253) true Q ⟨#[.pointer (some ⟨g,0,none⟩),.int .i64 ((p:Nat):Int),x2,x3,x4,x5,x6,x7,x8,x9,aW,bn,bi,aZ,aP,aQ,aS,aT,aX,aY,bD,bC,bG,bH,bJ,bQ,bP,bM,bK,bV,bW,cZ,dh,dn,dw,di,dm,dK,dE,dF,dL,dM,dN,dP,dQ,dR,dS,dO,eF,eG,fA,ed,dX,dY,eH,eP,eQ,fB,eU,fD,fC,eX,iG,iH,jg,jG,jH,jI,jA,kw,kz,kC,kD],df⟩ w:=by
 have HQ:=lh hK
 clear hK
 have Q2:=lh (fun b' (hm:ae ai w b')=>show b'.cell? ⟨g,0,none⟩=some (.slice (some ⟨b,off,none⟩) n cap) from ag (hm.heap hg (fun x=>x)) 0)
 have Q3:=lh (fun b' (hm:ae ai w b')=>show b'.cell? ⟨b,off+p,none⟩=some (.slice (some ⟨pb,po,none⟩) m1 pc) from (hr.keep hm (fun x=>x)).cell h1)
 have Q4:=lh (fun b' (hm:ae ai w b')=>show b'.cell? ⟨b,off+(p+1),none⟩=some (.slice (some ⟨qb,qo,none⟩) m2 qc) from (hr.keep hm (fun x=>x)).cell h2)
 have HA:=lh ha
 have HB:=lh hb
 have H0:=lh h3
 have H1:=lh h4
 have HR:=lh hr
 clear hg hr h1 h2 ha hb h3 h4
 have MR:=lh ((ae.refl ai w).drew)
 refine lS (S:=fun b'=>ae ai w b') [(0,true),(1,true),(2,true),(3,true),(4,true),(5,true),(6,true),(7,true),(8,true),(9,true),(10,true),(11,true),(12,true),(13,true),(14,true),(15,true),(16,true),(17,true),(18,true),(19,true),(20,false),(21,false),(22,true),(23,false)] [23] (by kernel_rfl) (by kernel_rfl) (by kernel_rfl) (by kernel_rfl) MR.out ?_
 refine aj [0,1,2] [af g 0,af g 0,af g 0] rfl (by kernel_rfl) (fun _=>by kernel_rfl) ?_
 refine ah (.slice (some ⟨b,off,none⟩) n cap) (some 41) (ki (by kernel_rfl)) (fun bb hb=>aG (x:=(.tmp 40)) (by kernel_rfl) (by kernel_rfl) (aI (Q2.out _ hb) Tryz.underlying228 rfl)) ?_
 refine aj [4,5,6,7] [.int .i64 ((p:Nat):Int),af g 0,af g 0,af g 0] rfl (by kernel_rfl) (fun _=>by kernel_rfl) ?_
 refine ah (.slice (some ⟨b,off,none⟩) n cap) (some 46) (ki (by kernel_rfl)) (fun bb hb=>aG (x:=(.tmp 45)) (by kernel_rfl) (by kernel_rfl) (aI (Q2.out _ hb) Tryz.underlying228 rfl)) ?_
 refine aj [9] [.int .i64 ((p:Nat):Int)] rfl (by kernel_rfl) (fun _=>by kernel_rfl) ?_
 refine ah (af b (off+p)) (some 48) (ki (by kernel_rfl)) (fun bb hb=>fQ (s:=1) (e:=258) (g:=b) (off:=off) (n:=n) (c:=cap) (i:=((p:Nat):Int)) (x:=(.tmp 46)) (y:=(.tmp 47)) (off+p) (by kernel_rfl) (by kernel_rfl) (by kernel_rfl) Tryz.underlying228 (by kernel_rfl) (by omega) (by omega) (by omega)) ?_
 refine ah (.slice (some ⟨pb,po,none⟩) m1 pc) (some 49) (ki (by kernel_rfl)) (fun bb hb=>aG (x:=(.tmp 48)) (by kernel_rfl) (by kernel_rfl) (aI (Q3.out _ hb) Tryz.underlying258 rfl)) ?_
 refine aj [12,13,14] [af g 0,af g 0,af g 0] rfl (by kernel_rfl) (fun _=>by kernel_rfl) ?_
 refine ah (.slice (some ⟨b,off,none⟩) n cap) (some 53) (ki (by kernel_rfl)) (fun bb hb=>aG (x:=(.tmp 52)) (by kernel_rfl) (by kernel_rfl) (aI (Q2.out _ hb) Tryz.underlying228 rfl)) ?_
 refine aj [16] [.int .i64 ((p:Nat):Int)] rfl (by kernel_rfl) (fun _=>by kernel_rfl) ?_
 refine ah (.int .i64 (((p+1):Nat):Int)) (some 55) (ki (by kernel_rfl)) (fun bb hb=>cO (t:=3) (t':=3) (xv := .int .i64 ((p:Nat):Int)) (yv := .int .i64 1) (x:=(.tmp 54)) (y:=(.const (.int .i64 1))) (by kernel_rfl) (by kernel_rfl) (by kernel_rfl) (fun _=>by kernel_rfl) (gG _ (by omega) (by omega) (by omega))) ?_
 refine ah (af b (off+(p+1))) (some 56) (ki (by kernel_rfl)) (fun bb hb=>fQ (s:=1) (e:=258) (g:=b) (off:=off) (n:=n) (c:=cap) (i:=(((p+1):Nat):Int)) (x:=(.tmp 53)) (y:=(.tmp 55)) (off+(p+1)) (by kernel_rfl) (by kernel_rfl) (by kernel_rfl) Tryz.underlying228 (by kernel_rfl) (by omega) (by omega) (by omega)) ?_
 refine ah (.slice (some ⟨qb,qo,none⟩) m2 qc) (some 57) (ki (by kernel_rfl)) (fun bb hb=>aG (x:=(.tmp 56)) (by kernel_rfl) (by kernel_rfl) (aI (Q4.out _ hb) Tryz.underlying258 rfl)) ?_
 refine gK (.cells #[.slice (some ⟨pb,po,none⟩) m1 pc,.slice (some ⟨qb,qo,none⟩) m2 qc] 258) 2 (some 58) (ki (by kernel_rfl)) (by kernel_rfl) ?_
 intro k1 w_k1 hk_k1 hO_k1 hm_k1 hl_k1
 have MZ:=MR.out.size
 replace MR:=lh (MR.out.then0 hm_k1)
 refine⟨fun _=>MR.out,?_⟩
 refine bu (some 59) (ki (by kernel_rfl)) (IJ (xs:=xs) (ys:=ys) hO_k1 (HA.out.keep MR.out (fun x=>x)) (HB.out.keep MR.out (fun x=>x)) H0.out H1.out hm0 (by omega)) (fun _=>by kernel_rfl) ?_
 rintro r w7 ⟨v7,rfl,o7,m7,f7⟩
 have f8:=f7.of MR.out.size
 replace MR:=lh (MR.out.then0 m7)
 have O7:=lh (And.intro o7 f8)
 obtain⟨a7,c7,e7,_⟩:=o7.rd.form
 have h17:v7.oneCell'=true:=by rw [e7];rfl
 clear o7 m7 f7 f8 e7
 refine⟨_,rfl,fun _=>MR.out,?_⟩
 refine ah (af b (off+p)) (some 60) (ki (by kernel_rfl)) (fun bb hb=>fQ (s:=1) (e:=258) (g:=b) (off:=off) (n:=n) (c:=cap) (i:=((p:Nat):Int)) (x:=(.tmp 41)) (y:=(.tmp 42)) (off+p) (by kernel_rfl) (by kernel_rfl) (by kernel_rfl) Tryz.underlying228 (by kernel_rfl) (by omega) (by omega) (by omega)) ?_
 refine fH (ty:=258) (x:=(.tmp 60)) (y:=(.tmp 59)) (g:=b) (off:=off+p) (v:=v7) none (ki (by kernel_rfl)) (by kernel_rfl) (by kernel_rfl) (by kernel_rfl) (by kernel_rfl) ((HR.out.keep MR.out (fun x=>x)).there (by have:=HR.out.hn;omega)) ((HR.out.keep MR.out (fun x=>x)).free _) (h17) ?_
 intro w9 hw9
 refine⟨(fun h=>by first | (cases h;done) | exact trivial),?_⟩
 exact aA (bg (K:=Q .normal) (by kernel_rfl) (HQ.out (af g 0) (af g 0) (af g 0) (.slice (some ⟨b,off,none⟩) n cap) (.int .i64 ((p:Nat):Int)) (af g 0) (af g 0) (af g 0) (.slice (some ⟨b,off,none⟩) n cap) (.int .i64 ((p:Nat):Int)) (af b (off+p)) (.slice (some ⟨pb,po,none⟩) m1 pc) (af g 0) (af g 0) (af g 0) (.slice (some ⟨b,off,none⟩) n cap) (.int .i64 ((p:Nat):Int)) (.int .i64 (((p+1):Nat):Int)) (af b (off+(p+1))) (.slice (some ⟨qb,qo,none⟩) m2 qc) (.slice (some ⟨k1,0,none⟩) 2 2) (v7) (af b (off+p)) v7 w7 w9 O7.out.1 MR.out O7.out.2 h17 hw9))
theorem join4 {w:World}{g b off n cap p:Nat}{vn:Value}{pvs:List Value} (hg:w.heap[g]?=some (.cells #[.slice (some ⟨b,off,none⟩) n cap,vn] 230 (0,0))) (hr:OB w 258 1 b off n cap pvs) (hp:p+1<n) (hn:n≤1000000) (h0:∀ y∈pvs,y.oneCell'=true) (hbg:¬ g=b)
  (hK:∀ (y61 y62 y63 y64 y65 y66 y67 y68 y69 y70 y71 y72:Value) (w7:World) (w':World),OB w7 258 1 b off (n - 1) cap (pvs.take ((p+1)*1) ++ pvs.drop ((p+1+1)*1))→ae (fun k=>k=b) w w7→w'=w7.setCell ⟨g,0,none⟩ (.slice (some ⟨b,off,none⟩) (n - 1:Nat) cap)→Q .normal ⟨#[.pointer (some ⟨g,0,none⟩),.int .i64 ((p:Nat):Int),x2,x3,x4,x5,x6,x7,x8,x9,aW,bn,bi,aZ,aP,aQ,aS,aT,aX,aY,bD,bC,bG,bH,bJ,bQ,bP,bM,bK,bV,bW,cZ,dh,dn,dw,di,dm,dK,dE,dF,dL,dM,dN,dP,dQ,dR,dS,dO,eF,eG,fA,ed,dX,dY,eH,eP,eQ,fB,eU,fD,fC,y61,y62,y63,y64,y65,y66,y67,y68,y69,y70,y71,y72],df⟩ w'):RW Tryz.prog (aJ 4 Tryz.f253) false Q ⟨#[.pointer (some ⟨g,0,none⟩),.int .i64 ((p:Nat):Int),x2,x3,x4,x5,x6,x7,x8,x9,aW,bn,bi,aZ,aP,aQ,aS,aT,aX,aY,bD,bC,bG,bH,bJ,bQ,bP,bM,bK,bV,bW,cZ,dh,dn,dw,di,dm,dK,dE,dF,dL,dM,dN,dP,dQ,dR,dS,dO,eF,eG,fA,ed,dX,dY,eH,eP,eQ,fB,eU,fD,fC,eX,iG,iH,jg,jG,jH,jI,jA,kw,kz,kC,kD],df⟩ w:=by
 have HQ:=lh hK
 clear hK
 have Q2:=lh (show w.cell? ⟨g,0,none⟩=some (.slice (some ⟨b,off,none⟩) n cap) from ag hg 0)
 have HR:=lh hr
 have HG:=lh hg
 have H0:=lh h0
 clear hg hr h0
 refine bU [(0,false),(1,false),(2,false),(3,false),(4,false),(5,false),(6,false),(7,false),(8,false),(9,false),(10,false),(11,false),(12,false)] (by kernel_rfl) ?_
 refine az [0,1,2,3] [af g 0,af g 0,af g 0,af g 0] rfl (by kernel_rfl) (by kernel_rfl) (.inr trivial) ?_
 refine aC (.slice (some ⟨b,off,none⟩) n cap) _ (some 65) (ki (by kernel_rfl)) (aG (x:=(.tmp 64)) (by kernel_rfl) (by kernel_rfl) (aI ((fun _=>Q2.out) (trivial)) Tryz.underlying228 rfl)) (fun _=>trivial) ?_
 refine az [5] [.int .i64 ((p:Nat):Int)] rfl (by kernel_rfl) (by kernel_rfl) (.inr trivial) ?_
 refine aC (.int .i64 (((p+1):Nat):Int)) _ (some 67) (ki (by kernel_rfl)) (cO (t:=3) (t':=3) (xv := .int .i64 ((p:Nat):Int)) (yv := .int .i64 1) (x:=(.tmp 66)) (y:=(.const (.int .i64 1))) (by kernel_rfl) (by kernel_rfl) (by kernel_rfl) (fun _=>by kernel_rfl) (gG _ (by omega) (by omega) (by omega))) (fun _=>trivial) ?_
 refine az [7] [.int .i64 ((p:Nat):Int)] rfl (by kernel_rfl) (by kernel_rfl) (.inr trivial) ?_
 refine aC (.int .i64 (((p+2):Nat):Int)) _ (some 69) (ki (by kernel_rfl)) (cO (t:=3) (t':=3) (xv := .int .i64 ((p:Nat):Int)) (yv := .int .i64 2) (x:=(.tmp 68)) (y:=(.const (.int .i64 2))) (by kernel_rfl) (by kernel_rfl) (by kernel_rfl) (fun _=>by kernel_rfl) (gG _ (by omega) (by omega) (by omega))) (fun _=>trivial) ?_
 refine bu (some 70) (ki (by kernel_rfl)) (by have h:=zI (i:=p+1) HR.out H0.out hp (by omega);exact (show ((p+1:Nat):Int)+1=((p+2:Nat):Int) from by omega)▸h) (fun _=>by kernel_rfl) ?_
 rintro r w7 ⟨rfl,o7,m7⟩
 refine⟨_,rfl,fun _=>trivial,?_⟩
 have hg7:=m7.heap HG.out hbg
 refine az [10,11] [af g 0,af g 0] rfl (by kernel_rfl) (by kernel_rfl) (.inr trivial) ?_
 refine fH (ty:=228) (x:=(.tmp 72)) (y:=(.tmp 70)) (g:=g) (off:=0) (v := .slice (some ⟨b,off,none⟩) (n - 1) cap) none (ki (by kernel_rfl)) (by kernel_rfl) (by kernel_rfl) (by kernel_rfl) (by kernel_rfl) (by rw [ag hg7];rfl) (bY hg7 _) (rfl) ?_
 intro w9 hw9
 refine⟨(fun h=>by first | (cases h;done) | exact trivial),?_⟩
 exact aA (bg (K:=Q .normal) (by kernel_rfl) (HQ.out (af g 0) (af g 0) (af g 0) (af g 0) (.slice (some ⟨b,off,none⟩) n cap) (.int .i64 ((p:Nat):Int)) (.int .i64 (((p+1):Nat):Int)) (.int .i64 ((p:Nat):Int)) (.int .i64 (((p+2):Nat):Int)) (.slice (some ⟨b,off,none⟩) (n - 1) cap) (af g 0) (af g 0) w7 w9 o7 m7 hw9))
theorem del5 {w:World}{g b off n cap p:Nat}{vn:Value}{pvs:List Value} (hg:w.heap[g]?=some (.cells #[.slice (some ⟨b,off,none⟩) n cap,vn] 230 (0,0))) (hr:OB w 258 1 b off n cap pvs) (hp:p<n) {i pb po m pc:Nat}{xs:List Value} (hP:pvs[p]?=some (.slice (some ⟨pb,po,none⟩) m pc)) (hl:OB w 244 2 pb po m pc xs) (h0:∀ y∈xs,y.oneCell'=true) (hi:i<m) (hL:m≤1000000) (hgp:¬ g=pb) (hbp:¬ b=pb) (hp6:p≤1000000)
  (hK:∀ (jD iZ jo kH jT jU kJ lG lH kK mi mF lI y37 y38 y39 y40:Value) (w7:World) (w':World),OB w7 244 2 pb po (m - 1) pc (xs.take (i*2) ++ xs.drop ((i+1)*2))→ae (fun k=>k=pb) w w7→w'=w7.setCell ⟨b,off+p,none⟩ (.slice (some ⟨pb,po,none⟩) (m - 1:Nat) pc)→Q .normal ⟨#[.pointer (some ⟨g,0,none⟩),x1,x2,x3,x4,.int .i64 ((p:Nat):Int),.int .i64 ((i:Nat):Int),x7,x8,x9,aW,bn,bi,aZ,aP,aQ,aS,aT,aX,aY,bD,bC,bG,bH,jD,iZ,jo,kH,jT,jU,kJ,lG,lH,kK,mi,mF,lI,y37,y38,y39,y40,dM,dN,dP,dQ,dR,dS,dO,eF,eG,fA,ed,dX,dY,eH,eP,eQ,fB,eU,fD,fC,eX,iG,iH,jg,jG,jH,jI,jA],df⟩ w'):RW Tryz.prog (aJ 5 Tryz.f208) true Q ⟨#[.pointer (some ⟨g,0,none⟩),x1,x2,x3,x4,.int .i64 ((p:Nat):Int),.int .i64 ((i:Nat):Int),x7,x8,x9,aW,bn,bi,aZ,aP,aQ,aS,aT,aX,aY,bD,bC,bG,bH,bJ,bQ,bP,bM,bK,bV,bW,cZ,dh,dn,dw,di,dm,dK,dE,dF,dL,dM,dN,dP,dQ,dR,dS,dO,eF,eG,fA,ed,dX,dY,eH,eP,eQ,fB,eU,fD,fC,eX,iG,iH,jg,jG,jH,jI,jA],df⟩ w:=by
 have HQ:=lh hK
 clear hK
 have Q2:=lh (fun b' (hm:ae (fun k=>k=pb) w b')=>show b'.cell? ⟨g,0,none⟩=some (.slice (some ⟨b,off,none⟩) n cap) from ag (hm.heap hg (hgp)) 0)
 have Q3:=lh (fun b' (hm:ae (fun k=>k=pb) w b')=>show b'.cell? ⟨b,off+p,none⟩=some (.slice (some ⟨pb,po,none⟩) m pc) from (hr.keep hm hbp).cell hP)
 have HA:=lh hl
 have HR:=lh hr
 have H0:=lh h0
 clear hg hr hl h0 hP
 have MR:=lh ((ae.refl ai w).drew)
 refine lS (S:=fun b'=>ae (fun k=>k=pb) w b') [(0,true),(1,true),(2,true),(3,true),(4,true),(5,true),(6,true),(7,true),(8,true),(9,true),(10,true),(11,true),(12,true),(13,true),(14,true),(15,false),(16,true),(17,false)] [17] (by kernel_rfl) (by kernel_rfl) (by kernel_rfl) (by kernel_rfl) (MR.out.mono (fun _ _ x=>x.elim)) ?_
 refine aj [0,1,2] [af g 0,af g 0,af g 0] rfl (by kernel_rfl) (fun _=>by kernel_rfl) ?_
 refine ah (.slice (some ⟨b,off,none⟩) n cap) (some 27) (ki (by kernel_rfl)) (fun bb hb=>aG (x:=(.tmp 26)) (by kernel_rfl) (by kernel_rfl) (aI (Q2.out _ hb) Tryz.underlying228 rfl)) ?_
 refine aj [4,5,6,7] [.int .i64 ((p:Nat):Int),af g 0,af g 0,af g 0] rfl (by kernel_rfl) (fun _=>by kernel_rfl) ?_
 refine ah (.slice (some ⟨b,off,none⟩) n cap) (some 32) (ki (by kernel_rfl)) (fun bb hb=>aG (x:=(.tmp 31)) (by kernel_rfl) (by kernel_rfl) (aI (Q2.out _ hb) Tryz.underlying228 rfl)) ?_
 refine aj [9] [.int .i64 ((p:Nat):Int)] rfl (by kernel_rfl) (fun _=>by kernel_rfl) ?_
 refine ah (af b (off+p)) (some 34) (ki (by kernel_rfl)) (fun bb hb=>fQ (s:=1) (e:=258) (g:=b) (off:=off) (n:=n) (c:=cap) (i:=((p:Nat):Int)) (x:=(.tmp 32)) (y:=(.tmp 33)) (off+p) (by kernel_rfl) (by kernel_rfl) (by kernel_rfl) Tryz.underlying228 (by kernel_rfl) (by omega) (by omega) (by omega)) ?_
 refine ah (.slice (some ⟨pb,po,none⟩) m pc) (some 35) (ki (by kernel_rfl)) (fun bb hb=>aG (x:=(.tmp 34)) (by kernel_rfl) (by kernel_rfl) (aI (Q3.out _ hb) Tryz.underlying258 rfl)) ?_
 refine aj [12,13] [.int .i64 ((i:Nat):Int),.int .i64 ((i:Nat):Int)] rfl (by kernel_rfl) (fun _=>by kernel_rfl) ?_
 refine ah (.int .i64 (((i+1):Nat):Int)) (some 38) (ki (by kernel_rfl)) (fun bb hb=>cO (t:=3) (t':=3) (xv := .int .i64 ((i:Nat):Int)) (yv := .int .i64 1) (x:=(.tmp 37)) (y:=(.const (.int .i64 1))) (by kernel_rfl) (by kernel_rfl) (by kernel_rfl) (fun _=>by kernel_rfl) (gG _ (by omega) (by omega) (by omega))) ?_
 refine bu (some 39) (ki (by kernel_rfl)) (by have h:=FH (i:=i) (HA.out.keep MR.out (fun x=>x)) H0.out hi hL;exact (show (i:Int)+1=((i+1:Nat):Int) from by omega)▸h) (fun _=>by kernel_rfl) ?_
 rintro r w7 ⟨rfl,o7,m7⟩
 replace MR:=lh (MR.out.trans m7 (U:=fun k=>k=pb) (fun _ _ x=>x.elim) (fun _ _ x=>x))
 have O7:=lh o7
 clear o7 m7
 refine⟨_,rfl,fun _=>MR.out,?_⟩
 refine ah (af b (off+p)) (some 40) (ki (by kernel_rfl)) (fun bb hb=>fQ (s:=1) (e:=258) (g:=b) (off:=off) (n:=n) (c:=cap) (i:=((p:Nat):Int)) (x:=(.tmp 27)) (y:=(.tmp 28)) (off+p) (by kernel_rfl) (by kernel_rfl) (by kernel_rfl) Tryz.underlying228 (by kernel_rfl) (by omega) (by omega) (by omega)) ?_
 refine fH (ty:=258) (x:=(.tmp 40)) (y:=(.tmp 39)) (g:=b) (off:=off+p) (v := .slice (some ⟨pb,po,none⟩) (m - 1) pc) none (ki (by kernel_rfl)) (by kernel_rfl) (by kernel_rfl) (by kernel_rfl) (by kernel_rfl) ((HR.out.keep MR.out hbp).there (by have:=HR.out.hn;omega)) ((HR.out.keep MR.out hbp).free _) (rfl) ?_
 intro w9 hw9
 refine⟨(fun h=>by first | (cases h;done) | exact trivial),?_⟩
 exact aA (bg (K:=Q .normal) (by kernel_rfl) (HQ.out (af g 0) (af g 0) (af g 0) (.slice (some ⟨b,off,none⟩) n cap) (.int .i64 ((p:Nat):Int)) (af g 0) (af g 0) (af g 0) (.slice (some ⟨b,off,none⟩) n cap) (.int .i64 ((p:Nat):Int)) (af b (off+p)) (.slice (some ⟨pb,po,none⟩) m pc) (.int .i64 ((i:Nat):Int)) (.int .i64 ((i:Nat):Int)) (.int .i64 (((i+1):Nat):Int)) (.slice (some ⟨pb,po,none⟩) (m - 1) pc) (af b (off+p)) w7 w9 O7.out MR.out hw9))
theorem del7 {w:World}{g b off n cap p:Nat}{vn:Value}{pvs:List Value} (hg:w.heap[g]?=some (.cells #[.slice (some ⟨b,off,none⟩) n cap,vn] 230 (0,0))) (hr:OB w 258 1 b off n cap pvs) (hp:p<n) (hn:n≤1000000) (h0:∀ y∈pvs,y.oneCell'=true) (hbg:¬ g=b)
  (hK:∀ (y50 y51 y52 y53 y54 y55 y56 y57 y58 y59 y60:Value) (w7:World) (w':World),OB w7 258 1 b off (n - 1) cap (pvs.take (p*1) ++ pvs.drop ((p+1)*1))→ae (fun k=>k=b) w w7→w'=w7.setCell ⟨g,0,none⟩ (.slice (some ⟨b,off,none⟩) (n - 1:Nat) cap)→Q .normal ⟨#[.pointer (some ⟨g,0,none⟩),x1,x2,x3,x4,.int .i64 ((p:Nat):Int),x6,x7,x8,x9,aW,bn,bi,aZ,aP,aQ,aS,aT,aX,aY,bD,bC,bG,bH,bJ,bQ,bP,bM,bK,bV,bW,cZ,dh,dn,dw,di,dm,dK,dE,dF,dL,dM,dN,dP,dQ,dR,dS,dO,eF,eG,y50,y51,y52,y53,y54,y55,y56,y57,y58,y59,y60,eX,iG,iH,jg,jG,jH,jI,jA],df⟩ w'):RW Tryz.prog (aJ 7 Tryz.f208) false Q ⟨#[.pointer (some ⟨g,0,none⟩),x1,x2,x3,x4,.int .i64 ((p:Nat):Int),x6,x7,x8,x9,aW,bn,bi,aZ,aP,aQ,aS,aT,aX,aY,bD,bC,bG,bH,bJ,bQ,bP,bM,bK,bV,bW,cZ,dh,dn,dw,di,dm,dK,dE,dF,dL,dM,dN,dP,dQ,dR,dS,dO,eF,eG,fA,ed,dX,dY,eH,eP,eQ,fB,eU,fD,fC,eX,iG,iH,jg,jG,jH,jI,jA],df⟩ w:=by
 have HQ:=lh hK
 clear hK
 have Q2:=lh (show w.cell? ⟨g,0,none⟩=some (.slice (some ⟨b,off,none⟩) n cap) from ag hg 0)
 have HR:=lh hr
 have HG:=lh hg
 have H0:=lh h0
 clear hg hr h0
 refine bU [(0,false),(1,false),(2,false),(3,false),(4,false),(5,false),(6,false),(7,false),(8,false),(9,false),(10,false),(11,false)] (by kernel_rfl) ?_
 refine az [0,1,2,3] [af g 0,af g 0,af g 0,af g 0] rfl (by kernel_rfl) (by kernel_rfl) (.inr trivial) ?_
 refine aC (.slice (some ⟨b,off,none⟩) n cap) _ (some 54) (ki (by kernel_rfl)) (aG (x:=(.tmp 53)) (by kernel_rfl) (by kernel_rfl) (aI ((fun _=>Q2.out) (trivial)) Tryz.underlying228 rfl)) (fun _=>trivial) ?_
 refine az [5,6] [.int .i64 ((p:Nat):Int),.int .i64 ((p:Nat):Int)] rfl (by kernel_rfl) (by kernel_rfl) (.inr trivial) ?_
 refine aC (.int .i64 (((p+1):Nat):Int)) _ (some 57) (ki (by kernel_rfl)) (cO (t:=3) (t':=3) (xv := .int .i64 ((p:Nat):Int)) (yv := .int .i64 1) (x:=(.tmp 56)) (y:=(.const (.int .i64 1))) (by kernel_rfl) (by kernel_rfl) (by kernel_rfl) (fun _=>by kernel_rfl) (gG _ (by omega) (by omega) (by omega))) (fun _=>trivial) ?_
 refine bu (some 58) (ki (by kernel_rfl)) (by have h:=zI (i:=p) HR.out H0.out hp (by omega);exact (show (p:Int)+1=((p+1:Nat):Int) from by omega)▸h) (fun _=>by kernel_rfl) ?_
 rintro r w7 ⟨rfl,o7,m7⟩
 refine⟨_,rfl,fun _=>trivial,?_⟩
 have hg7:=m7.heap HG.out hbg
 refine az [9,10] [af g 0,af g 0] rfl (by kernel_rfl) (by kernel_rfl) (.inr trivial) ?_
 refine fH (ty:=228) (x:=(.tmp 60)) (y:=(.tmp 58)) (g:=g) (off:=0) (v := .slice (some ⟨b,off,none⟩) (n - 1) cap) none (ki (by kernel_rfl)) (by kernel_rfl) (by kernel_rfl) (by kernel_rfl) (by kernel_rfl) (by rw [ag hg7];rfl) (bY hg7 _) (rfl) ?_
 intro w9 hw9
 refine⟨(fun h=>by first | (cases h;done) | exact trivial),?_⟩
 exact aA (bg (K:=Q .normal) (by kernel_rfl) (HQ.out (af g 0) (af g 0) (af g 0) (af g 0) (.slice (some ⟨b,off,none⟩) n cap) (.int .i64 ((p:Nat):Int)) (.int .i64 ((p:Nat):Int)) (.int .i64 (((p+1):Nat):Int)) (.slice (some ⟨b,off,none⟩) (n - 1) cap) (af g 0) (af g 0) w7 w9 o7 m7 hw9))
end
open Go.Gl Go.RowKit
theorem PM.rowOB {w:World}{g:Nat}{vo:Value}{R:List PV} (h:PM w g vo R) (hne:R≠[]):∃ b off cap,vo = .slice (some ⟨b,off,none⟩) R.length cap∧OB w 258 1 b off R.length cap (R.map (·.pv)):=by
 rcases h.row.ob with ⟨_,h2,_⟩ | ⟨b,off,cap,hv,ob⟩
 ·exact absurd (List.length_eq_zero_iff.1 h2) hne
 ·exact⟨b,off,cap,hv,ob⟩
theorem PM.pageOB {w:World}{g:Nat}{vo:Value}{R:List PV} (h:PM w g vo R) {q:PV} (hq:q∈R) (hne:q.es≠[]):∃ pb po pc,q.pv = .slice (some ⟨pb,po,none⟩) q.es.length pc∧OB w 244 2 pb po q.es.length pc (bZ q.es):=by
 rcases (h.pg q hq).ob with ⟨_,h2,_⟩ | ⟨b,off,cap,hv,ob⟩
 ·exact absurd (List.length_eq_zero_iff.1 h2) hne
 ·exact⟨b,off,cap,hv,ob⟩
theorem zh {w:World}{g:Nat}{vo:Value}{R:List PV} (hm:PM w g vo R) {p:Int} (hb:p≤1000000) (hn:R.length≤1000000) (ne:∀ q∈R,q.es≠[]) (hl:∀ q∈R,q.es.length≤32) (hj:p<0∨iM (aH R) p.toNat=false) :
  Calls Tryz.prog 253 #[.pointer (some ⟨g,0,none⟩),.int .i64 p] w fun e w'=>e = .returned (.bool false)∧ae ai w w':=by
 by_cases h0:p<0
 ·clear hm ne hl hj
  go_enter Tryz.func253,Tryz.ntmps253
  go_upto_region 1 with fail
  refine gy (d := .region 1 (aJ 1 Tryz.f253) true) (by kernel_rfl) ?_
  refine RW.wp (Jw h0 ?_)
  intros
  rename_i m
  go_wp2
  go_ret
  exact⟨rfl,m⟩
 have hj:=hj.resolve_left h0
 obtain⟨p,rfl⟩:=Int.eq_ofNat_of_zero_le (show 0≤p by omega)
 rw [Int.toNat_natCast] at hj
 by_cases h1:p+1<R.length
 ·obtain⟨b,off,cap,rfl,ob⟩:=hm.rowOB (fun e=>by rw [e] at h1;simp at h1)
  have hp:p<R.length:=by omega
  obtain⟨pb,po,pc,e1,ob1⟩:=hm.pageOB (List.getElem_mem hp) (ne _ (List.getElem_mem hp))
  obtain⟨qb,qo,qc,e2,ob2⟩:=hm.pageOB (List.getElem_mem h1) (ne _ (List.getElem_mem h1))
  have l1:=hl _ (List.getElem_mem hp)
  have l2:=hl _ (List.getElem_mem h1)
  have k1:(R.map (·.pv))[p]?=some (.slice (some ⟨pb,po,none⟩) (R[p]).es.length pc):=by rw [← e1];simp [hp]
  have k2:(R.map (·.pv))[p+1]?=some (.slice (some ⟨qb,qo,none⟩) (R[p+1]).es.length qc):=by rw [← e2];simp [h1]
  have hs:¬ (R[p]).es.length+(R[p+1]).es.length≤16:=by
   unfold iM at hj
   rw [dW,ji hp,ji h1,dI,dI,decide_eq_true h1,Bool.true_and] at hj
   exact of_decide_eq_false hj
  have hg:=hm.hg
  clear hm hl hj ne ob1 ob2 e1 e2
  generalize (R[p]).es.length=m1 at *
  generalize (R[p+1]).es.length=m2 at *
  go_enter Tryz.func253,Tryz.ntmps253
  go_upto_region 1 with fail
  refine gy (d := .region 1 (aJ 1 Tryz.f253) true) (by kernel_rfl) ?_
  refine RW.wp (Jp hg ob h1 hn k1 k2 (by omega) (by omega) hs ?_)
  intros
  rename_i m
  go_wp2
  go_ret
  exact⟨rfl,m⟩
 ·rcases hm.row.ob with ⟨h2,h3,_⟩ | ⟨b,off,cap,rfl,ob⟩
  ·have hR:R=[]:=List.length_eq_zero_iff.1 h3
   subst hR h2
   have hg:=hm.hg
   clear hm
   go_enter Tryz.func253,Tryz.ntmps253
   go_upto_region 1 with fail
   refine gy (d := .region 1 (aJ 1 Tryz.f253) true) (by kernel_rfl) ?_
   refine RW.wp (JC hg (by omega) ?_)
   intros
   rename_i m
   go_wp2
   go_ret
   exact⟨rfl,m⟩
  have hg:=hm.hg
  clear hm
  go_enter Tryz.func253,Tryz.ntmps253
  go_upto_region 1 with fail
  refine gy (d := .region 1 (aJ 1 Tryz.f253) true) (by kernel_rfl) ?_
  refine RW.wp (JL hg (by omega) (by omega) ?_)
  intros
  rename_i m
  go_wp2
  go_ret
  exact⟨rfl,m⟩
theorem Jj {α:Type} (R:List α) (p:Nat) (hp:p+1<R.length):∃ A q r C,R=A ++ [q,r] ++ C∧A.length=p∧R[p]=q∧R[p+1]=r:=by
 obtain⟨A,q,C,rfl,rfl,hq⟩:=parts R p (by omega)
 cases C with
 | nil=>simp at hp
 | cons r C=>exact⟨A,q,r,C,by simp,rfl,hq,by simp⟩
theorem GK {w w3 w7 w8 w':World}{g b off n cap:Nat}{A C:List PV}{q r:PV}{v7:Value} (hm:PM w g (.slice (some ⟨b,off,none⟩) n cap) (A ++ [q,r] ++ C)) (hn:n=(A ++ [q,r] ++ C).length)
  (o7:aO w7 244 2 v7 (q.es.length+r.es.length) (bZ q.es ++ bZ r.es)) (m7:ae ai w w7) (f7:aF w v7) (h3:w3=w7.setCell ⟨b,off+A.length,none⟩ v7)
  (o8:OB w8 258 1 b off (n - 1) cap ((((A ++ [q,r] ++ C).map (·.pv)).set A.length v7).take ((A.length+1)*1) ++ (((A ++ [q,r] ++ C).map (·.pv)).set A.length v7).drop ((A.length+1+1)*1))) (m8:ae (fun k=>k=b) w3 w8)
  (h':w'=w8.setCell ⟨g,0,none⟩ (.slice (some ⟨b,off,none⟩) (n - 1:Nat) cap)) :
  PT w w' g (.slice (some ⟨b,off,none⟩) n cap) (A ++ [q,r] ++ C) (.slice (some ⟨b,off,none⟩) (n - 1:Nat) cap) (A ++ [⟨v7,q.es ++ r.es⟩] ++ C)∧aH (A ++ [⟨v7,q.es ++ r.es⟩] ++ C)=lL (aH (A ++ [q,r] ++ C)) A.length:=by
 subst hn
 have inq:q∈A ++ [q,r] ++ C:=by simp
 have hgl:g<w.heap.size:=lt_of_heap hm.hg
 have hbg:b≠g:=fun e=>hm.sep1 (by rw [e];rfl)
 have hbl:b<w.heap.size:=hm.row.lt b rfl
 have m3:ae (fun k=>k=b) w7 w3:=by rw [h3];exact (ae.refl (fun k=>k=b) w7).setCell (p:=⟨b,off+A.length,none⟩) (.inl rfl) v7
 have m38:=m3.trans m8 (U:=fun k=>k=b) (fun _ _ x=>x) (fun _ _ x=>x)
 have hg8:=m38.heap (m7.heap hm.hg (fun x=>x)) (Ne.symm hbg)
 have m':ae (fun k=>k=g) w8 w':=by rw [h'];exact (ae.refl (fun k=>k=g) w8).setCell (p:=⟨g,0,none⟩) (.inl rfl) _
 have hg':w'.heap[g]?=some (.cells #[.slice (some ⟨b,off,none⟩) ((A ++ [q,r] ++ C).length - 1:Nat) cap,.int .i64 (cnt (aH (A ++ [q,r] ++ C)):Nat)] 230 (0,0)):=by rw [h'];exact heap_set hg8 0 _
 have o':=o8.keep m' hbg
 have p7:=(o7.keep m38 (fun k hk e=>by have:=f7 k hk;omega)).keep m' (fun k hk e=>by have:=f7 k hk;omega)
 have hT:ae (fun k=>k=g∨(Value.slice (some ⟨b,off,none⟩) (A ++ [q,r] ++ C).length cap).ownBlock=some k∨∃ s∈[q,r],s.pv.ownBlock=some k) w w' :=
  (m7.trans m38 (U:=fun k=>k=b) (fun _ _ x=>x.elim) (fun _ _ x=>x)).trans m' (fun k _ hk => .inr (.inl (by rw [hk];rfl))) (fun k _ hk => .inl hk)
 have hl:A.length=(A.map (·.pv)).length:=by simp
 have eR:(((A ++ [q,r] ++ C).map (·.pv)).set A.length v7)=A.map (·.pv) ++ [v7] ++ ([r.pv] ++ C.map (·.pv)):=by
  rw [show A ++ [q,r] ++ C=A ++ [q] ++ ([r] ++ C) from by simp,List.map_append,List.map_append,hl]
  rw [List.map_cons,List.map_nil,jr]
  simp
 have eT:(A.map (·.pv) ++ [v7]).length=(A.length+1)*1:=by simp
 have eT2:(A.map (·.pv) ++ [v7] ++ [r.pv]).length=(A.length+1+1)*1:=by simp
 have eD:(A.map (·.pv) ++ [v7] ++ ([r.pv] ++ C.map (·.pv))).drop ((A.length+1+1)*1)=C.map (·.pv):=by
  rw [← List.append_assoc]
  exact List.drop_left' eT2
 rw [eR,List.take_left' eT,eD] at o'
 have up:=PM.upd (vo' := .slice (some ⟨b,off,none⟩) ((A ++ [q,r] ++ C).length - 1:Nat) cap) (A:=A) (B:=[q,r]) (C:=C) (N:=[⟨v7,q.es ++ r.es⟩]) (X:=fun _=>False) hm hT
  (by
   rw [hg',gZ,gZ,kN]
   have:cnt (aH [q,r])=(q.es ++ r.es).length:=by rw [zq,jc,qU,qU,Ba,dI,dI,List.length_append,Nat.add_zero]
   rw [this])
  (by
   have e1:(A ++ [(⟨v7,q.es ++ r.es⟩:PV)] ++ C).length=(A ++ [q,r] ++ C).length - 1:=by simp
   rw [e1,List.map_append,List.map_append]
   exact o'.own)
  (.inl rfl)
  (by
   intro s hs
   rw [List.mem_singleton.1 hs]
   refine⟨?_,.inr f7⟩
   show aO _ _ 2 v7 (q.es ++ r.es).length _
   rw [List.length_append,iw]
   exact p7)
  (by
   intro s hs k hk hk2
   rw [List.mem_singleton.1 hs] at hk
   have:=f7 k hk
   simp [Value.ownBlock] at hk2
   omega)
  (List.pairwise_singleton _ _)
  (by
   intro s hs e he
   rw [List.mem_singleton.1 hs] at he
   rcases List.mem_append.1 he with he | he
   ·exact .inl ⟨q,by simp,he⟩
   ·exact .inl ⟨r,by simp,he⟩)
 refine⟨⟨up.1,hT.mono (fun k _ hk=>?_),up.2.1,fun k hk=>(up.2.2 k hk).imp id (fun x=>x.elim)⟩,?_⟩
 ·rcases hk with h | h | ⟨s,hs,h⟩
  ·exact .inl h
  ·exact .inr (.inl h)
  ·exact .inr (.inr ⟨s,List.mem_append_left _ (List.mem_append_right _ hs),h⟩)
 ·have hlen:A.length=(aH A).length:=(dW A).symm
  unfold lL
  have h1:(aH (A ++ [q,r] ++ C)).getD A.length []=ents q.es:=by rw [ji (by simp)];simp
  have h2:(aH (A ++ [q,r] ++ C)).getD (A.length+1) []=ents r.es:=by rw [ji (by simp)];simp
  rw [h1,h2,dB,dB,dB,dB,hlen,List.append_assoc (aH A) (aH [q,r]) (aH C),List.take_left',← List.append_assoc,jc,qB]
  ·rw [List.drop_left' (by simp [aH])]
  ·rfl
theorem xO {w:World}{g:Nat}{vo:Value}{R:List PV} (hm:PM w g vo R) {p:Nat} (hn:R.length≤1000000) (ne:∀ q∈R,q.es≠[]) (hj:iM (aH R) p=true) :
  Calls Tryz.prog 253 #[.pointer (some ⟨g,0,none⟩),.int .i64 p] w fun e w'=>e = .returned (.bool true)∧∃ vo' R',PT w w' g vo R vo' R'∧aH R'=lL (aH R) p:=by
 unfold iM at hj
 rw [Bool.and_eq_true,decide_eq_true_eq,decide_eq_true_eq,dW] at hj
 obtain⟨h1,hs⟩:=hj
 obtain⟨b,off,cap,rfl,ob⟩:=hm.rowOB (fun e=>by rw [e] at h1;simp at h1)
 have hp:p<R.length:=by omega
 rw [ji hp,ji h1,dI,dI] at hs
 obtain⟨pb,po,pc,e1,ob1⟩:=hm.pageOB (List.getElem_mem hp) (ne _ (List.getElem_mem hp))
 obtain⟨qb,qo,qc,e2,ob2⟩:=hm.pageOB (List.getElem_mem h1) (ne _ (List.getElem_mem h1))
 have k1:(R.map (·.pv))[p]?=some (.slice (some ⟨pb,po,none⟩) (R[p]).es.length pc):=by rw [← e1];simp [hp]
 have k2:(R.map (·.pv))[p+1]?=some (.slice (some ⟨qb,qo,none⟩) (R[p+1]).es.length qc):=by rw [← e2];simp [h1]
 have hg:=hm.hg
 have c1:=oO (hm.ents _ (List.getElem_mem hp))
 have c2:=oO (hm.ents _ (List.getElem_mem h1))
 have c3:=ve hm
 have hbg:b≠g:=fun e=>hm.sep1 (by rw [e];rfl)
 have hm0:0<(R[p]).es.length:=List.length_pos_iff.2 (ne _ (List.getElem_mem hp))
 have HM:=lh hm
 clear hm ne
 go_enter Tryz.func253,Tryz.ntmps253
 go_upto_region 1 with fail
 refine gy (d := .region 1 (aJ 1 Tryz.f253) true) (by kernel_rfl) ?_
 refine RW.wp (JF hg ob h1 hn k1 k2 (by omega) (by omega) hs ?_)
 intros
 rename_i w1 m1
 go_upto_region 3 with fail
 refine gy (d := .region 3 (aJ 3 Tryz.f253) true) (by kernel_rfl) ?_
 refine RW.wp (join3 (m1.heap hg (fun x=>x)) (ob.keep m1 (fun x=>x)) h1 hn k1 k2 (ob1.keep m1 (fun x=>x)) (ob2.keep m1 (fun x=>x)) c1 c2 hm0 (by omega) ?_)
 intros
 rename_i v7 w7 w3 o7 m7 f7 v71 h3
 have hbl:b<w.heap.size:=ob.lt
 have hs1:=m1.size
 have mb:ae (fun k=>k=b) w7 w3:=by rw [h3];exact (ae.refl (fun k=>k=b) w7).setCell (p:=⟨b,off+p,none⟩) (.inl rfl) v7
 have hg3:=mb.heap (m7.heap (m1.heap hg (fun x=>x)) (fun x=>x)) (Ne.symm hbg)
 have ob3:OB w3 258 1 b off R.length cap ((R.map (·.pv)).set p v7):=by rw [h3];exact tV ((ob.keep m1 (fun x=>x)).keep m7 (fun x=>x)) hp v7
 go_upto_region 4 with fail
 refine gy (d := .region 4 (aJ 4 Tryz.f253) false) (by kernel_rfl) ?_
 refine RW.wp (join4 hg3 ob3 h1 hn (fun y hy=>by
  rcases List.mem_or_eq_of_mem_set hy with hy | rfl
  ·exact c3 y hy
  ·exact v71) (Ne.symm hbg) ?_)
 intros
 rename_i w8 w9 o8 m8 h9
 have H9:=lh h9
 clear hg3 ob3 c1 c2 c3 hg k1 k2 ob ob1 ob2 e1 e2 hs hbg h9
 go_wp2
 go_ret
 obtain⟨A,q,r,C,rfl,rfl,hq,hr⟩:=Jj R p h1
 rw [hq,hr] at o7
 obtain⟨p1,p2⟩:=GK (HM.out.keep0 m1) rfl o7 m7 f7 h3 o8 m8 H9.out
 exact⟨rfl,_,_,p1.first m1,p2⟩
open Go.Gl Go.RowKit
theorem PT.trans {a b c:World}{g:Nat}{vo vo1 vo2:Value}{R R1 R2:List PV} (h:PT a b g vo R vo1 R1) (k:PT b c g vo1 R1 vo2 R2):PT a c g vo R vo2 R2:=by
 refine⟨k.pm,h.mods.trans k.mods (fun _ _ x=>x) (fun i hi x=>?_),fun i hi=>?_,fun i hi=>?_⟩
 ·rcases h.ms i x with h1 | h1
  ·exact h1
  ·omega
 ·rcases k.ms i hi with h1 | h1
  ·exact h.ms i h1
  ·exact .inr (Nat.le_trans h.mods.size h1)
 ·rcases k.md i hi with h1 | h1
  ·exact h.md i h1
  ·exact .inr (Nat.le_trans h.mods.size h1)
theorem GZ {w w':World}{g b off n cap pb po pc i:Nat}{A C:List PV}{q:PV} (hm:PM w g (.slice (some ⟨b,off,none⟩) n cap) (A ++ [q] ++ C)) (hn:n=(A ++ [q] ++ C).length) (hq:q.pv = .slice (some ⟨pb,po,none⟩) q.es.length pc) (hi:i<q.es.length)
  (hT:ae (fun k=>k=g∨k=b∨k=pb) w w')
  (hg:w'.heap[g]?=some (.cells #[.slice (some ⟨b,off,none⟩) n cap,.int .i64 ((cnt (aH (A ++ [q] ++ C)) - 1:Nat))] 230 (0,0)))
  (hr:OB w' 258 1 b off n cap (((A ++ [q] ++ C).map (·.pv)).set A.length (.slice (some ⟨pb,po,none⟩) (q.es.length - 1) pc)))
  (hp:OB w' 244 2 pb po (q.es.length - 1) pc (bZ (q.es.eraseIdx i))) :
  PT w w' g (.slice (some ⟨b,off,none⟩) n cap) (A ++ [q] ++ C) (.slice (some ⟨b,off,none⟩) n cap) (A ++ [⟨.slice (some ⟨pb,po,none⟩) (q.es.length - 1) pc,q.es.eraseIdx i⟩] ++ C) ∧
   aH (A ++ [⟨.slice (some ⟨pb,po,none⟩) (q.es.length - 1) pc,q.es.eraseIdx i⟩] ++ C)=(aH (A ++ [q] ++ C)).set A.length ((ents q.es).eraseIdx i):=by
 subst hn
 have hin:q∈A ++ [q] ++ C:=by simp
 have hel:(q.es.eraseIdx i).length=q.es.length - 1:=by rw [List.length_eraseIdx,if_pos hi]
 have mods:ae (fun k=>k=g∨(Value.slice (some ⟨b,off,none⟩) (A ++ [q] ++ C).length cap).ownBlock=some k∨∃ r∈[q],r.pv.ownBlock=some k) w w':=hT.mono (fun k _ hk=>by
  rcases hk with h | h | h
  ·exact .inl h
  ·exact .inr (.inl (by rw [h];rfl))
  ·exact .inr (.inr ⟨q,List.mem_singleton.2 rfl,by rw [hq,h];rfl⟩))
 have hpb:pb≠b:=fun e=>(hm.sep2 q hin).2 pb (by rw [hq];rfl) (by rw [e];rfl)
 have up:=PM.upd (vo' := .slice (some ⟨b,off,none⟩) (A ++ [q] ++ C).length cap) (A:=A) (B:=[q]) (C:=C) (N:=[⟨.slice (some ⟨pb,po,none⟩) (q.es.length - 1) pc,q.es.eraseIdx i⟩]) (X:=fun _=>False) hm mods
  (by
   have e:cnt (aH (A ++ [(⟨.slice (some ⟨pb,po,none⟩) (q.es.length - 1) pc,q.es.eraseIdx i⟩:PV)] ++ C))=cnt (aH (A ++ [q] ++ C)) - 1:=by
    rw [gZ,gZ,kN,kN,hel];omega
   rw [e]
   exact hg)
  (by
   have e1:(A ++ [(⟨.slice (some ⟨pb,po,none⟩) (q.es.length - 1) pc,q.es.eraseIdx i⟩:PV)] ++ C).length=(A ++ [q] ++ C).length:=by simp
   have e2:(A ++ [(⟨.slice (some ⟨pb,po,none⟩) (q.es.length - 1) pc,q.es.eraseIdx i⟩:PV)] ++ C).map (·.pv)=((A ++ [q] ++ C).map (·.pv)).set A.length (.slice (some ⟨pb,po,none⟩) (q.es.length - 1) pc):=by
    rw [← List.map_set (f:=(·.pv)) (l:=A ++ [q] ++ C) (i:=A.length) (a:=⟨.slice (some ⟨pb,po,none⟩) (q.es.length - 1) pc,q.es.eraseIdx i⟩),jr]
   rw [e1,e2]
   exact hr.own)
  (.inl rfl)
  (by
   intro r hr
   rw [List.mem_singleton.1 hr]
   refine⟨?_,.inl ⟨q,List.mem_singleton.2 rfl,by rw [hq];rfl⟩⟩
   show aO _ _ 2 _ (q.es.eraseIdx i).length _
   rw [hel]
   exact hp.own)
  (by
   intro r hr k hk
   rw [List.mem_singleton.1 hr] at hk
   simp [Value.ownBlock] at hk ⊢
   omega)
  (List.pairwise_singleton _ _)
  (by
   intro r hr e he
   rw [List.mem_singleton.1 hr] at he
   exact .inl ⟨q,List.mem_singleton.2 rfl,List.mem_of_mem_eraseIdx he⟩)
 refine⟨⟨up.1,mods.mono (fun k _ hk=>?_),up.2.1,fun k hk=>(up.2.2 k hk).imp id (fun x=>x.elim)⟩,?_⟩
 ·rcases hk with h | h | ⟨r,hr,h⟩
  ·exact .inl h
  ·exact .inr (.inl h)
  ·exact .inr (.inr ⟨q,hin,by rw [List.mem_singleton.1 hr] at h;exact h⟩)
 ·have hlen:A.length=(aH A).length:=(dW A).symm
  rw [dB,dB,dB,dB,hlen,jc q,jr,jc,Cc]
theorem FM {w w7 w':World}{g b off n cap:Nat}{A C:List PV}{q:PV} (hm:PM w g (.slice (some ⟨b,off,none⟩) n cap) (A ++ [q] ++ C)) (hn:n=(A ++ [q] ++ C).length) (hq:q.es=[])
  (hr:OB w7 258 1 b off (n - 1) cap (((A ++ [q] ++ C).map (·.pv)).take (A.length*1) ++ ((A ++ [q] ++ C).map (·.pv)).drop ((A.length+1)*1))) (m7:ae (fun k=>k=b) w w7)
  (h':w'=w7.setCell ⟨g,0,none⟩ (.slice (some ⟨b,off,none⟩) (n - 1:Nat) cap)) :
  PT w w' g (.slice (some ⟨b,off,none⟩) n cap) (A ++ [q] ++ C) (.slice (some ⟨b,off,none⟩) (n - 1:Nat) cap) (A ++ [] ++ C)∧aH (A ++ [] ++ C)=(aH (A ++ [q] ++ C)).eraseIdx A.length:=by
 subst hn
 have hin:q∈A ++ [q] ++ C:=by simp
 have hbg:b≠g:=fun e=>hm.sep1 (by rw [e];rfl)
 have hg7:=m7.heap hm.hg (Ne.symm hbg)
 have m':ae (fun k=>k=g) w7 w':=by rw [h'];exact (ae.refl (fun k=>k=g) w7).setCell (p:=⟨g,0,none⟩) (.inl rfl) _
 have hg':w'.heap[g]?=some (.cells #[.slice (some ⟨b,off,none⟩) ((A ++ [q] ++ C).length - 1:Nat) cap,.int .i64 (cnt (aH (A ++ [q] ++ C)):Nat)] 230 (0,0)):=by rw [h'];exact heap_set hg7 0 _
 have o':=hr.keep m' hbg
 have hT:ae (fun k=>k=g∨(Value.slice (some ⟨b,off,none⟩) (A ++ [q] ++ C).length cap).ownBlock=some k∨∃ r∈[q],r.pv.ownBlock=some k) w w' :=
  m7.trans m' (fun k _ hk => .inr (.inl (by rw [hk];rfl))) (fun k _ hk => .inl hk)
 have eT:(A.map (·.pv)).length=A.length*1:=by simp
 have eT2:(A.map (·.pv) ++ [q.pv]).length=(A.length+1)*1:=by simp
 have eM:(A ++ [q] ++ C).map (·.pv)=A.map (·.pv) ++ [q.pv] ++ C.map (·.pv):=by simp
 rw [eM,List.drop_left' eT2,List.append_assoc (A.map (·.pv)),List.take_left' eT] at o'
 have up:=PM.upd (vo' := .slice (some ⟨b,off,none⟩) ((A ++ [q] ++ C).length - 1:Nat) cap) (A:=A) (B:=[q]) (C:=C) (N:=[]) (X:=fun _=>False) hm hT
  (by
   rw [hg',gZ,gZ,kN,hq]
   rfl)
  (by
   have e1:(A ++ ([]:List PV) ++ C).length=(A ++ [q] ++ C).length - 1:=by simp
   have e2:(A ++ ([]:List PV) ++ C).map (·.pv)=A.map (·.pv) ++ C.map (·.pv):=by simp
   rw [e1,e2]
   exact o'.own)
  (.inl rfl) (fun r hr=>by cases hr) (fun r hr=>by cases hr) List.Pairwise.nil (fun r hr=>by cases hr)
 refine⟨⟨up.1,hT.mono (fun k _ hk=>?_),up.2.1,fun k hk=>(up.2.2 k hk).imp id (fun x=>x.elim)⟩,?_⟩
 ·rcases hk with h | h | ⟨r,hr,h⟩
  ·exact .inl h
  ·exact .inr (.inl h)
  ·exact .inr (.inr ⟨q,hin,by rw [List.mem_singleton.1 hr] at h;exact h⟩)
 ·have hlen:A.length=(aH A).length:=(dW A).symm
  rw [dB,dB,dB,dB,hlen,List.eraseIdx_eq_take_drop_succ,List.append_assoc (aH A) (aH [q]) (aH C),List.take_left',← List.append_assoc,List.drop_left' (by simp [aH])]
  ·simp [aH]
  ·rfl
theorem He {ps:Pgs}{k:List UInt8}{p i:Nat}{B:Bool} (hf:bz ps k=(p,i,B)) (hB:B=true):jM ps k=if (ps.getD p []).length=1 then ps.eraseIdx p else
  if iM (ps.set p ((ps.getD p []).eraseIdx i)) p then lL (ps.set p ((ps.getD p []).eraseIdx i)) p
  else if p≠0∧iM (ps.set p ((ps.getD p []).eraseIdx i)) (p - 1)=true then lL (ps.set p ((ps.getD p []).eraseIdx i)) (p - 1) else ps.set p ((ps.getD p []).eraseIdx i):=by
 unfold jM
 simp only [hf,hB,if_true]
theorem CO {w:World}{g:Nat}{vo kv:Value}{R:List PV}{xs:List UInt8} (hm:PM w g vo R) (hk:Rd w kv xs) (ok:gu (aH R)) (hn:R.length≤1000000) (hc:cnt (aH R)≤1000000000) :
    Calls Tryz.prog 208 #[.pointer (some ⟨g,0,none⟩),kv] w fun e w'=>∃ vo' R',e = .returned (.bool (bz (aH R) xs).2.2)∧PT w w' g vo R vo' R'∧aH R'=jM (aH R) xs:=by
  have FD:=lh (rq hm hk ok hn)
  obtain⟨aq,cq,hqv,_⟩:=hk.form
  subst hqv
  have hfi:=uC (R:=R) (ys:=xs)
  have hdel:∀ p i B,bz (aH R) xs=(p,i,B)→B=true→_:=fun p i B hf hB=>He hf hB
  have hno:(bz (aH R) xs).2.2=false→jM (aH R) xs=aH R:=fun h=>by unfold jM;rw [h];rfl
  generalize bz (aH R) xs=F at *
  obtain⟨p,i,B⟩:=F
  simp only at hfi FD hno ⊢
  cases B with
  | false =>
    rw [hno rfl]
    have HM:=lh hm
    clear hm hk ok hfi hdel hno
    go_enter Tryz.func208,Tryz.ntmps208
    go_wp2_with fail
    refine FD.out.mono ?_
    rintro e w1 ⟨rfl,m1⟩
    go_wp2
    go_ret
    exact⟨_,_,rfl,(PT.refl HM.out).then0 m1,rfl⟩
  | true =>
    have hdel:=hdel p i true rfl rfl
    obtain⟨hp,hi,_⟩:=hfi rfl
    rw [ji hp,dI] at hdel
    have HD:=lh hdel
    obtain⟨b,off,cap,pb,po,pc,rfl,hpv,ob2,ob1⟩:=hm.way hp hi
    have hbg:b≠g:=fun e=>hm.sep1 (by rw [e];rfl)
    have hpg:pb≠g:=fun e=>(hm.sep2 _ (List.getElem_mem hp)).1 (by rw [hpv,e];rfl)
    have hbp:b≠pb:=fun e=>(hm.sep2 _ (List.getElem_mem hp)).2 pb (by rw [hpv];rfl) (by rw [e];rfl)
    have hPV:(R.map (·.pv))[p]?=some (.slice (some ⟨pb,po,none⟩) (R[p]).es.length pc):=by rw [← hpv];simp [hp]
    have h1:=oO (hm.ents _ (List.getElem_mem hp))
    have h2:=ve hm
    have hmost:=ok.most (ents (R[p]).es) (List.mem_map_of_mem (f:=fun p=>ents p.es) (List.getElem_mem hp))
    rw [dI] at hmost
    have HM:=lh hm
    have HPV:=lh hpv
    have HOK:=lh ok
    have hN1:1≤cnt (aH R):=by
      obtain⟨A,q,C,rfl,rfl,hq⟩:=parts R p hp
      rw [hq] at hi
      rw [gZ,kN]
      omega
    obtain⟨N,hN⟩:∃ N,cnt (aH R)=N:=⟨_,rfl⟩
    have HN:=lh hN
    rw [hN] at hc hN1
    have hsub:(N:Int) - 1=((N - 1:Nat):Int):=by omega
    clear hm hk ok hfi hdel hno hN hpv
    go_enter Tryz.func208,Tryz.ntmps208
    go_wp2_with fail
    refine FD.out.mono ?_
    rintro e w1 ⟨rfl,m1⟩
    have M1:=lh m1
    have hg1:w1.heap[g]?=some (.cells #[.slice (some ⟨b,off,none⟩) R.length cap,.int .i64 (N:Nat)] 230 (0,0)):=by rw [← HN.out];exact m1.heap HM.out.hg (fun x=>x)
    have e1:w1.cell? ⟨g,1,none⟩=some (.int .i64 (N:Nat)):=ag hg1 1
    have ef1:w1.frozen? ⟨g,1,none⟩=false:=bY hg1 1
    go_upto_region 5 with fail
    have hg2:(w1.setCell ⟨g,1,none⟩ (.int .i64 ((N - 1:Nat):Int))).heap[g]?=some (.cells #[.slice (some ⟨b,off,none⟩) R.length cap,.int .i64 ((N - 1:Nat):Int)] 230 (0,0)):=heap_set hg1 1 _
    have m2:ae (fun k=>k=g) w1 (w1.setCell ⟨g,1,none⟩ (.int .i64 ((N - 1:Nat):Int))):=(ae.refl (fun k=>k=g) w1).setCell (p:=⟨g,1,none⟩) (.inl rfl) _
    generalize World.setCell w1 _ _=w2 at *
    have ob12:=(ob1.keep m1 (fun x=>x)).keep m2 hbg
    have ob22:=(ob2.keep m1 (fun x=>x)).keep m2 hpg
    refine gy (d := .region 5 (aJ 5 Tryz.f208) true) (by kernel_rfl) ?_
    refine RW.wp (del5 hg2 ob12 hp hPV ob22 h1 hi (by omega) (Ne.symm hpg) hbp (by omega) ?_)
    intros
    rename_i w3 w4 o3 m3 h4
    have m4:ae (fun k=>k=b) w3 w4:=by rw [h4];exact (ae.refl (fun k=>k=b) w3).setCell (p:=⟨b,off+p,none⟩) (.inl rfl) _
    have hg4:=m4.heap (m3.heap hg2 (Ne.symm hpg)) (Ne.symm hbg)
    have ob14:OB w4 258 1 b off R.length cap ((R.map (·.pv)).set p (.slice (some ⟨pb,po,none⟩) ((R[p]).es.length - 1) pc)):=by rw [h4];exact tV (ob12.keep m3 hbp) hp _
    have ob24:=o3.keep m4 (Ne.symm hbp)
    rw [← DJ] at ob24
    have hT:=(m2.trans m3 (U:=fun k=>k=g∨k=b∨k=pb) (fun _ _ h => .inl h) (fun _ _ h => .inr (.inr h))).trans m4 (U:=fun k=>k=g∨k=b∨k=pb) (fun _ _ h=>h) (fun _ _ h => .inr (.inl h))
    have KEY:∃ R1,PT w1 w4 g (.slice (some ⟨b,off,none⟩) R.length cap) R (.slice (some ⟨b,off,none⟩) R.length cap) R1∧aH R1=(aH R).set p ((ents (R[p]).es).eraseIdx i)∧R1.length=R.length∧∃ (hp1:p<R1.length),(R1[p]).es=(R[p]).es.eraseIdx i∧R1.map (·.pv)=(R.map (·.pv)).set p (.slice (some ⟨pb,po,none⟩) ((R[p]).es.length - 1) pc)∧(∀ q∈R1,q∈R∨q.es=(R[p]).es.eraseIdx i):=by
      have hpv:=HPV.out
      have hm1:=HM.out.keep0 m1
      have hN:=HN.out
      rw [← hN] at hg4
      clear HM HPV HN HOK HD FD hmost hPV h2 h1 e1 ef1 hg1 hg2 ob12 ob22 h4 o3 hN1 hsub hc
      obtain⟨A,q,C,rfl,rfl,hq⟩:=parts R p hp
      rw [hq] at hpv hi ob24 ob14 ⊢
      obtain⟨k1,k2⟩:=GZ hm1 rfl hpv hi hT hg4 ob14 ob24
      refine⟨_,k1,k2,by simp,by simp,by simp,by rw [← List.map_set (f:=(·.pv)) (l:=A ++ [q] ++ C) (i:=A.length) (a:=⟨.slice (some ⟨pb,po,none⟩) (q.es.length - 1) pc,q.es.eraseIdx i⟩),jr],fun r hr=>?_⟩
      simp only [List.append_assoc,List.mem_append,List.mem_cons,List.not_mem_nil,or_false] at hr ⊢
      rcases hr with hr | rfl | hr
      · exact .inl (.inl hr)
      · exact .inr rfl
      · exact .inl (.inr (.inr hr))
    obtain⟨R1,K1,K2,K3,hp1,K4,K5,K6⟩:=KEY
    have c0:w4.cell? ⟨g,0,none⟩=some (.slice (some ⟨b,off,none⟩) R.length cap):=ag hg4 0
    have c1:w4.cell? ⟨b,off+p,none⟩=some (.slice (some ⟨pb,po,none⟩) ((R[p]).es.length - 1:Nat) pc):=ob14.cell (by rw [List.getElem?_set_self (by simp;exact hp)])
    have hpi:(p:Int)<(R.length:Int):=by omega
    have KK:=lh (And.intro K1 (And.intro K2 (And.intro K4 (And.intro K5 K6))))
    have h2':∀ y∈((R.map (·.pv)).set p (.slice (some ⟨pb,po,none⟩) ((R[p]).es.length - 1) pc)),y.oneCell'=true:=fun y hy=>by
      rcases List.mem_or_eq_of_mem_set hy with hy | rfl
      · exact h2 y hy
      · rfl
    clear K1 K2 K4 K5 K6 hT h4 o3 ob12 ob22 hg2 hg1 e1 ef1 h1 h2 hPV
    by_cases hlen:(R[p]).es.length=1
    · have hz:(((R[p]).es.length - 1:Nat):Int) == 0:=by rw [hlen];rfl
      have hD:=HD.out
      rw [if_pos hlen] at hD
      have HD2:=lh hD
      clear hD
      rw [hlen] at c1
      go_upto_region 7 with fail
      refine gy (d := .region 7 (aJ 7 Tryz.f208) false) (by kernel_rfl) ?_
      refine RW.wp (del7 hg4 ob14 hp hn h2' (Ne.symm hbg) ?_)
      intros
      rename_i w5 w6 o5 m5 h6
      have H6:=lh h6
      have O5:=lh (And.intro o5 m5)
      clear h6 o5 m5 c0 c1
      go_wp2
      go_ret
      have k4:(R1[p]).es=[]:=by
        rw [KK.out.2.2.1]
        exact List.length_eq_zero_iff.1 (by rw [List.length_eraseIdx,if_pos hi];omega)
      have o5:=O5.out.1
      rw [← KK.out.2.2.2.1,← K3] at o5
      have k1:=KK.out.1
      have k2:=KK.out.2.1
      have h6:=H6.out
      have hr:(ents (R[p]).es).eraseIdx i=[]:=List.length_eq_zero_iff.1 (by rw [List.length_eraseIdx,dI,if_pos hi];omega)
      rw [← K3] at k1 h6
      obtain⟨A,q,C,rfl,rfl,hq⟩:=parts R1 p hp1
      rw [hq] at k4
      obtain⟨d1,d2⟩:=FM k1.pm rfl k4 o5 O5.out.2 h6
      rw [K3] at k1 d1
      first | refine⟨_,_,rfl,(k1.trans d1).first M1.out,?_⟩ | refine⟨rfl,_,_,(k1.trans d1).first M1.out,?_⟩
      rw [HD2.out,d2,k2,hr,List.eraseIdx_set_eq]
    · have hz:(((((R[p]).es.length - 1:Nat):Int)) == 0)=false:=by rw [beq_eq_false_iff_ne];omega
      have hD:=HD.out
      rw [if_neg hlen,← KK.out.2.1] at hD
      have ne1:∀ q∈R1,q.es≠[]:=fun q hq=>by
        rcases KK.out.2.2.2.2 q hq with h | h
        · have:=HOK.out.ne (ents q.es) (List.mem_map_of_mem (f:=fun p=>ents p.es) h)
          intro e
          rw [e] at this
          exact this rfl
        · intro e
          rw [e] at h
          have:=congrArg List.length h
          rw [List.length_eraseIdx,if_pos hi] at this
          simp at this
          omega
      have le1:∀ q∈R1,q.es.length≤32:=fun q hq=>by
        rcases KK.out.2.2.2.2 q hq with h | h
        · have:=HOK.out.most (ents q.es) (List.mem_map_of_mem (f:=fun p=>ents p.es) h)
          rwa [dI] at this
        · rw [h,List.length_eraseIdx,if_pos hi];omega
      have hn1:R1.length≤1000000:=by omega
      have hsubp:p≠0→(p:Int) - 1=((p - 1:Nat):Int):=fun h=>by omega
      clear HD ob14 ob24 hg4 h2'
      by_cases hj:iM (aH R1) p=true
      · rw [if_pos hj] at hD
        have HD2:=lh hD
        clear hD
        have JY:=lh (xO KK.out.1.pm hn1 ne1 hj)
        clear ne1 le1
        go_wp2_with fail
        refine JY.out.mono ?_
        rintro e w5 ⟨rfl,vo2,R2,j1,j2⟩
        have J:=lh (And.intro j1 j2)
        clear j1 j2 c0 c1
        go_wp2
        go_ret
        exact⟨vo2,R2,rfl,(KK.out.1.trans J.out.1).first M1.out,J.out.2.trans HD2.out.symm⟩
      · rw [if_neg hj] at hD
        have JN:=lh (zh KK.out.1.pm (p:=(p:Int)) (by omega) hn1 ne1 le1 (.inr (by rw [Int.toNat_natCast];simpa using hj)))
        by_cases hk:p≠0∧iM (aH R1) (p - 1)=true
        · rw [if_pos hk] at hD
          have HD2:=lh hD
          clear hD
          have hs:=hsubp hk.1
          have JY:=lh (fun (w':World) (m:ae ai w4 w')=>xO (KK.out.1.pm.keep0 m) hn1 ne1 hk.2)
          clear ne1 le1 hsubp
          go_wp2_with fail
          refine JN.out.mono ?_
          rintro e w5 ⟨rfl,m5⟩
          have J2:=lh (JY.out w5 m5)
          have M5:=lh m5
          clear m5 c0 c1
          go_wp2_with fail
          refine J2.out.mono ?_
          rintro e w6 ⟨rfl,vo2,R2,j1,j2⟩
          have J:=lh (And.intro j1 j2)
          clear j1 j2
          go_wp2
          go_ret
          exact⟨_,_,rfl,(KK.out.1.trans (J.out.1.first M5.out)).first M1.out,J.out.2.trans HD2.out.symm⟩
        · rw [if_neg hk] at hD
          have HD2:=lh hD
          clear hD
          have JY:=lh (fun (w':World) (m:ae ai w4 w')=>zh (KK.out.1.pm.keep0 m) (p:=(p:Int) - 1) (by omega) hn1 ne1 le1 (by
            by_cases h0:p=0
            · left;omega
            · right
              rw [hsubp h0,Int.toNat_natCast]
              have:=fun h=>hk ⟨h0,h⟩
              simpa using this))
          have hs:IntKind.i64.wrap ((p:Int) - 1)=(p:Int) - 1:=IntWalk.i64_in _ (by omega)
          clear ne1 le1 hsubp
          go_wp2_with fail
          refine JN.out.mono ?_
          rintro e w5 ⟨rfl,m5⟩
          have J2:=lh (JY.out w5 m5)
          have M5:=lh m5
          clear m5 c0 c1
          go_wp2_with fail
          refine J2.out.mono ?_
          rintro e w6 ⟨rfl,m6⟩
          have M6:=lh m6
          clear m6
          go_wp2
          go_ret
          exact⟨_,_,rfl,((KK.out.1.then0 M5.out).then0 M6.out).first M1.out,HD2.out.symm⟩
open Go.Gl Go.RowKit
theorem PM.rowcell {w w':World}{g b off n cap:Nat}{R:List PV} (h:PM w g (.slice (some ⟨b,off,none⟩) n cap) R) (hm:ae ai w w') {i:Nat} (hi:i<R.length):w'.cell? ⟨b,off+i,none⟩=some (R[i]).pv:=by
 have:=(h.keep0 hm).open
 rcases this with ⟨h1,_⟩ | ⟨b',off',cap',hv,_,_,hc⟩
 ·rw [h1] at hi;simp at hi
 ·cases hv
  exact hc i hi
open Go.Gl Go.RowKit
theorem ut {x y:Value}{xs:List UInt8}{w:World} (hx:Rd w x xs) (hy:Rd w y xs):Calls Tryz.prog 90 #[x,y] w fun e w'=>e = .returned (.bool true)∧ae ai w w' :=
 (qj hx hy).mono fun e w' ⟨he,hq⟩=>⟨by rw [he];simp,hq.mods _⟩
def kV (L:List EV) (k:Nat):Prop:=∃ e∈L,e.kv.ownBlock=some k∨e.vv.ownBlock=some k
structure iU (w:World) (v:Value) (L:List EV):Prop where
 row:fZ w 2 v L.length (bZ L)
 own:∀ e∈L,Rd w e.kv e.k∧Rd w e.vv e.v
theorem iU.keep {w w':World}{v:Value}{L:List EV}{T:Nat→Prop} (h:iU w v L) (hm:ae T w w') (h1:∀ k,v.ownBlock=some k→¬ T k) (h2:∀ k,kV L k→¬ T k):iU w' v L :=
 ⟨fZ.keep h.row hm h1,fun e he=>⟨(h.own e he).1.keep hm (fun k hk=>h2 k ⟨e,he,.inl hk⟩),(h.own e he).2.keep hm (fun k hk=>h2 k ⟨e,he,.inr hk⟩)⟩⟩
theorem iU.keep0 {w w':World}{v:Value}{L:List EV} (h:iU w v L) (hm:ae ai w w'):iU w' v L:=h.keep hm (fun _ _ x=>x) (fun _ _ x=>x)
theorem iU.at {w:World}{v:Value}{L:List EV} (h:iU w v L):∃ a cap,v = .slice a L.length cap∧∀ i (hi:i<L.length),∃ b off,a=some ⟨b,off,none⟩∧b<w.heap.size∧w.cell? ⟨b,off+i*2,none⟩=some (L[i]).kv∧w.cell? ⟨b,off+i*2+1,none⟩=some (L[i]).vv:=by
 rcases h.row.2 with ⟨h0,hn⟩ | ⟨g,off,cap,hv,h1,h2,hg,hc⟩
 ·obtain⟨a0,rfl⟩:=h0.form
  refine⟨a0,0,by rw [hn],fun i hi=>by omega⟩
 ·refine⟨_,cap,hv,fun i hi=>⟨g,off,rfl,by rcases hg with h | h <;> omega,hc _ _ (qm L i hi).1,?_⟩⟩
  have:=hc _ _ (qm L i hi).2
  rw [Nat.add_assoc]
  exact this
theorem prs6 {w:World}{a oa ca b ob cb n i:Nat}{u v x y:Value}{xs ys:List UInt8} (c1:w.cell? ⟨a,oa+i*2,none⟩=some u) (c2:w.cell? ⟨b,ob+i*2,none⟩=some v) (c3:w.cell? ⟨a,oa+i*2+1,none⟩=some x) (c4:w.cell? ⟨b,ob+i*2+1,none⟩=some y) (ha:a<w.heap.size) (hb:b<w.heap.size) (hi:i<n) (hn:n≤1000000000) (hu:Rd w u xs) (hv:Rd w v xs) (hx:Rd w x ys) (hy:Rd w y ys) {x2 x3 x4 x6 x7 x8 x9 aW bn bi aZ aP aQ aS aT aX aY bD bC bG bH bJ bQ bP bM bK bV bW cZ dh dn dw di dm dK dE dF dL dM dN:Value}{df:List Deferred}{Q:Exit→Act→World→Prop}
  (hK:∀ (jk jl jC lF kG jm iY jD iZ jo kH jT jU kJ lG lH kK mi mF lI y37 y38 y39 y40 y41:Value)  (w':World),ae ai w w'→Q .normal ⟨#[.slice (some ⟨a,oa,none⟩) n ca,.slice (some ⟨b,ob,none⟩) n cb,x2,x3,x4,.int .i64 ((i:Nat):Int),x6,x7,x8,x9,aW,bn,bi,aZ,aP,aQ,aS,jk,jl,jC,lF,kG,jm,iY,jD,iZ,jo,kH,jT,jU,kJ,lG,lH,kK,mi,mF,lI,y37,y38,y39,y40,y41,.bool false],df⟩ w'):RW Tryz.prog (aJ 6 Tryz.f19) true Q ⟨#[.slice (some ⟨a,oa,none⟩) n ca,.slice (some ⟨b,ob,none⟩) n cb,x2,x3,x4,.int .i64 ((i:Nat):Int),x6,x7,x8,x9,aW,bn,bi,aZ,aP,aQ,aS,aT,aX,aY,bD,bC,bG,bH,bJ,bQ,bP,bM,bK,bV,bW,cZ,dh,dn,dw,di,dm,dK,dE,dF,dL,dM,dN],df⟩ w:=by
 have HQ:=lh hK
 clear hK
 have HU:=lh hu
 have HV:=lh hv
 have HX:=lh hx
 have HY:=lh hy
 have Q1:=lh (fun b' (hm:ae ai w b')=>(hm.cellAt ha (fun x=>x) _).trans c1)
 have Q2:=lh (fun b' (hm:ae ai w b')=>(hm.cellAt hb (fun x=>x) _).trans c2)
 have Q3:=lh (fun b' (hm:ae ai w b')=>(hm.cellAt ha (fun x=>x) _).trans c3)
 have Q4:=lh (fun b' (hm:ae ai w b')=>(hm.cellAt hb (fun x=>x) _).trans c4)
 clear hu hv hx hy c1 c2 c3 c4
 have MR:=lh ((ae.refl ai w).drew)
 refine kR (S:=fun b'=>ae ai w b') [(0,true),(1,true),(2,true),(3,true),(4,true),(5,true),(6,true),(7,true),(8,true),(9,true),(10,false),(11,true),(12,true),(13,true),(14,true),(15,true),(16,true),(17,true),(18,true),(19,true),(20,true),(21,true),(22,true),(23,false),(24,true),(25,true)] [] [(0,1,131072),(0,32,262144),(3,393216,524288),(4,524288,1048576),(8,1048576,2097152),(0,2,4194304),(0,32,8388608),(96,12582912,16777216),(128,16777216,33554432),(256,33554432,67108864),(528,69206016,134217728),(1024,134217728,268435456),(3072,268435456,536870912),(4096,536870913,1073741824),(4096,536870944,2147483648),(28672,3758096384,4294967296),(36864,4831838208,8589934592),(69632,9126805504,17179869184),(4096,536870914,34359738368),(4096,536870944,68719476736),(790528,103616086016,137438953472),(1052672,137975824384,274877906944),(2101248,275414777856,549755813888),(4329472,567472553984,1099511627776),(8392704,1100048498688,2199023255552),(16781312,2199560126464,4398046511104)] (by kernel_rfl) (by kernel_rfl) (by kernel_rfl) (by kernel_rfl) (by kernel_rfl) MR.out ?_
 refine aj [0,1] [.slice (some ⟨a,oa,none⟩) n ca,.int .i64 ((i:Nat):Int)] rfl (by kernel_rfl) (fun _=>by kernel_rfl) ?_
 refine ah (af a (oa+i*2)) (some 19) (ki (by kernel_rfl)) (fun bb hb=>fQ (s:=2) (e:=152) (g:=a) (off:=oa) (n:=n) (c:=ca) (i:=((i:Nat):Int)) (x:=(.tmp 17)) (y:=(.tmp 18)) (oa+i*2) (by kernel_rfl) (by kernel_rfl) (by kernel_rfl) Tryz.underlying29 (by kernel_rfl) (by omega) (by omega) (by omega)) ?_
 refine aj [3] [af a (oa+i*2)] rfl (by kernel_rfl) (fun _=>by kernel_rfl) ?_
 refine ah (u) (some 21) (ki (by kernel_rfl)) (fun bb hb=>aG (x:=(.tmp 20)) (by kernel_rfl) (by kernel_rfl) (aI (Q1.out _ hb) Tryz.underlying91 rfl)) ?_
 refine aj [5,6] [.slice (some ⟨b,ob,none⟩) n cb,.int .i64 ((i:Nat):Int)] rfl (by kernel_rfl) (fun _=>by kernel_rfl) ?_
 refine ah (af b (ob+i*2)) (some 24) (ki (by kernel_rfl)) (fun bb hb=>fQ (s:=2) (e:=152) (g:=b) (off:=ob) (n:=n) (c:=cb) (i:=((i:Nat):Int)) (x:=(.tmp 22)) (y:=(.tmp 23)) (ob+i*2) (by kernel_rfl) (by kernel_rfl) (by kernel_rfl) Tryz.underlying29 (by kernel_rfl) (by omega) (by omega) (by omega)) ?_
 refine aj [8] [af b (ob+i*2)] rfl (by kernel_rfl) (fun _=>by kernel_rfl) ?_
 refine ah (v) (some 26) (ki (by kernel_rfl)) (fun bb hb=>aG (x:=(.tmp 25)) (by kernel_rfl) (by kernel_rfl) (aI (Q2.out _ hb) Tryz.underlying91 rfl)) ?_
 refine bu (some 27) (ki (by kernel_rfl)) (ut (HU.out.keep MR.out (fun _ _ x=>x)) (HV.out.keep MR.out (fun _ _ x=>x))) (fun _=>by kernel_rfl) ?_
 rintro r w7 ⟨rfl,q7⟩
 replace MR:=lh (MR.out.then0 q7)
 refine⟨_,rfl,fun _=>MR.out,?_⟩
 refine aj [11,12,13,14] [.bool false,.bool false,.slice (some ⟨a,oa,none⟩) n ca,.int .i64 ((i:Nat):Int)] rfl (by kernel_rfl) (fun _=>by kernel_rfl) ?_
 refine ah (af a (oa+i*2)) (some 32) (ki (by kernel_rfl)) (fun bb hb=>fQ (s:=2) (e:=152) (g:=a) (off:=oa) (n:=n) (c:=ca) (i:=((i:Nat):Int)) (x:=(.tmp 30)) (y:=(.tmp 31)) (oa+i*2) (by kernel_rfl) (by kernel_rfl) (by kernel_rfl) Tryz.underlying29 (by kernel_rfl) (by omega) (by omega) (by omega)) ?_
 refine aj [16] [af a (oa+i*2+1)] rfl (by kernel_rfl) (fun _=>by kernel_rfl) ?_
 refine ah (x) (some 34) (ki (by kernel_rfl)) (fun bb hb=>aG (x:=(.tmp 33)) (by kernel_rfl) (by kernel_rfl) (aI (Q3.out _ hb) Tryz.underlying91 rfl)) ?_
 refine aj [18,19] [.slice (some ⟨b,ob,none⟩) n cb,.int .i64 ((i:Nat):Int)] rfl (by kernel_rfl) (fun _=>by kernel_rfl) ?_
 refine ah (af b (ob+i*2)) (some 37) (ki (by kernel_rfl)) (fun bb hb=>fQ (s:=2) (e:=152) (g:=b) (off:=ob) (n:=n) (c:=cb) (i:=((i:Nat):Int)) (x:=(.tmp 35)) (y:=(.tmp 36)) (ob+i*2) (by kernel_rfl) (by kernel_rfl) (by kernel_rfl) Tryz.underlying29 (by kernel_rfl) (by omega) (by omega) (by omega)) ?_
 refine aj [21] [af b (ob+i*2+1)] rfl (by kernel_rfl) (fun _=>by kernel_rfl) ?_
 refine ah (y) (some 39) (ki (by kernel_rfl)) (fun bb hb=>aG (x:=(.tmp 38)) (by kernel_rfl) (by kernel_rfl) (aI (Q4.out _ hb) Tryz.underlying91 rfl)) ?_
 refine bu (some 40) (ki (by kernel_rfl)) (ut (HX.out.keep MR.out (fun _ _ x=>x)) (HY.out.keep MR.out (fun _ _ x=>x))) (fun _=>by kernel_rfl) ?_
 rintro r w7 ⟨rfl,q7⟩
 replace MR:=lh (MR.out.then0 q7)
 refine⟨_,rfl,fun _=>MR.out,?_⟩
 refine aj [24,25] [.bool false,.bool false] rfl (by kernel_rfl) (fun _=>by kernel_rfl) ?_
 exact aA (bg (K:=Q .normal) (by kernel_rfl) (HQ.out (.slice (some ⟨a,oa,none⟩) n ca) (.int .i64 ((i:Nat):Int)) (af a (oa+i*2)) (af a (oa+i*2)) (u) (.slice (some ⟨b,ob,none⟩) n cb) (.int .i64 ((i:Nat):Int)) (af b (ob+i*2)) (af b (ob+i*2)) (v) (.bool true) (.bool false) (.bool false) (.slice (some ⟨a,oa,none⟩) n ca) (.int .i64 ((i:Nat):Int)) (af a (oa+i*2)) (af a (oa+i*2+1)) (x) (.slice (some ⟨b,ob,none⟩) n cb) (.int .i64 ((i:Nat):Int)) (af b (ob+i*2)) (af b (ob+i*2+1)) (y) (.bool true) (.bool false) _ MR.out))
theorem Bv {w:World}{x y:Value}{L M:List EV} (hx:iU w x L) (hy:iU w y M) (h:L.map EV.ent=M.map EV.ent) (hn:L.length≤1000000) :
  Calls Tryz.prog 19 #[x,y] w fun e w'=>e = .returned (.bool true)∧ae ai w w':=by
 obtain⟨a,ca,rfl,ha⟩:=hx.at
 obtain⟨b,cb,rfl,hb⟩:=hy.at
 have hl:M.length=L.length:=by have:=congrArg List.length h;simpa using this.symm
 obtain⟨n,hL⟩:∃ n,L.length=n:=⟨_,rfl⟩
 have he:∀ i (h1:i<L.length) (h2:i<M.length),(L[i]).k=(M[i]).k∧(L[i]).v=(M[i]).v:=fun i h1 h2=>by
  have h3:(L.map EV.ent)[i]'(by simpa using h1)=(M.map EV.ent)[i]'(by simpa using h2):=by simp only [h]
  rw [List.getElem_map,List.getElem_map] at h3
  exact⟨congrArg Prod.fst h3,congrArg Prod.snd h3⟩
 have HX:=lh hx
 have HY:=lh hy
 have HE:=lh he
 have HA:=lh ha
 have HB:=lh hb
 rw [hL] at hl hn
 rw [hL,hl]
 have HL:=lh hL
 have HM:=lh hl
 clear hx hy h hL hl he ha hb
 go_enter Tryz.func19,Tryz.ntmps19
 go_wp2
 go_loopw [5] (fun i wr=>∃ k:Nat,k≤n∧i = .int .i64 k∧Hid (ae ai w wr)) (fun i _=>n - (intOf i).toNat)
 case atStart=>exact⟨0,Nat.zero_le _,rfl,lh (ae.refl _ _)⟩
 case round =>
  obtain⟨k,hk,rfl,hM⟩:=hrel
  by_cases hlt:k<n
  ·have lx:k<L.length:=by rw [HL.out];exact hlt
   have ly:k<M.length:=by rw [HM.out];exact hlt
   obtain⟨ga,oa,rfl,h1,h2,h3⟩:=HA.out k lx
   obtain⟨gb,ob,rfl,h4,h5,h6⟩:=HB.out k ly
   obtain⟨e1,e2⟩:=HE.out k lx ly
   obtain⟨p1,p2⟩:=(HX.out.keep0 hM.out).own _ (List.getElem_mem lx)
   obtain⟨p3,p4⟩:=(HY.out.keep0 hM.out).own _ (List.getElem_mem ly)
   rw [← e1] at p3
   rw [← e2] at p4
   have c1:=(hM.out.cellAt h1 (fun x=>x) _).trans h2
   have c3:=(hM.out.cellAt h1 (fun x=>x) _).trans h3
   have c2:=(hM.out.cellAt h4 (fun x=>x) _).trans h5
   have c4:=(hM.out.cellAt h4 (fun x=>x) _).trans h6
   have s1:=hM.out.size
   have hki:(k:Int)<(n:Int):=by omega
   clear h2 h3 h5 h6
   go_upto_region 6 with fail
   refine gy (d := .region 6 (aJ 6 Tryz.f19) true) (by kernel_rfl) ?_
   refine RW.wp (prs6 c1 c2 c3 c4 (by omega) (by omega) hlt (by omega) p1 p3 p2 p4 ?_)
   intros
   rename_i w2 m2
   have M2:=lh (hM.out.then0 m2)
   clear c1 c2 c3 c4 p1 p2 p3 p4 e1 e2 m2 hM
   go_wp2
   go_roundw
   case rel=>exact⟨k+1,by omega,by go_num,M2⟩
   case measure=>simp [intOf];omega
  ·go_wp2
   go_ret
   exact⟨rfl,hM.out⟩
theorem uK {w:World}{v:Value}{L:List EV} (h:iU w v L):∀ e∈L,e.kv.oneCell'=true∧e.vv.oneCell'=true:=fun e he=>by
 obtain⟨a1,c1,h1,_⟩:=(h.own e he).1.form
 obtain⟨a2,c2,h2,_⟩:=(h.own e he).2.form
 exact⟨by rw [h1];rfl,by rw [h2];rfl⟩
end Go.Proofs.YtglkmaalpammcaaGreat
namespace Go.Gl
theorem fZ.add0 {w:World}{s n c:Nat}{q:Option Addr}{xs:List Value} (h:fZ w s (.slice q n c) n xs) (hc:¬ c=0) (p:Addr) (hp:q=some p):p.add 0=p:=by
 rcases h.2 with ⟨h0,rfl⟩ | ⟨g,off,cap,hv,h1,_⟩
 ·exact absurd h0.none.2 hc
 ·injection hv with e _ _
  rw [hp] at e
  cases e
  exact Addr.add_mid ..
section
variable {P:Program}{a:Act}{o:Oper}
theorem zy {t e:TypeId}{x y:Operand}{q:Option Addr}{n c s:Nat}{i:Int}{b:World} (m:Nat) (ho:o.op = .slice t x none (some y) none) (hx:a.eval x = .slice q n c) (hy:a.eval y = .int .i64 i)
  (hu:P.underlying t=some (.slice e)) (hs:(P.info? e).map (·.size)=some s) (hm:i=m) (h1:m≤c) {w:World}{s':Nat}{xs:List Value} (hr:fZ w s' (.slice q n c) n xs):(execOp a.eval o).run P b = .ok (.value (.slice q m c)) b:=by
 subst hm
 have he:P.elem t=e:=by simp [Program.elem,hu]
 have hu':P.underlying t=some (.slice (P.elem t)):=by rw [he];exact hu
 unfold execOp
 simp only [ho,Option.map_some,Option.map_none,hx,hy,Sem.run_bind]
 rw [run_sliceAt_slice (h:=hu'),run_slice_h (ht:=hu') (h0:=by omega) (h2:=by omega)]
 ·cases q with
  | none=>simp [he,Go.Gl.run_sizeOf hs,sliced]
  | some q=>simp [he,Go.Gl.run_sizeOf hs,sliced];exact fun hc=>hr.add0 hc q rfl
def pM (q:Option Addr) (m c s:Nat):Option Addr:=if c=m then q else q.map (fun p=>p.add (m*s))
theorem zM {t e:TypeId}{x y:Operand}{q:Option Addr}{n c s:Nat}{i:Int}{b:World} (m:Nat) (ho:o.op = .slice t x (some y) none none) (hx:a.eval x = .slice q n c) (hy:a.eval y = .int .i64 i)
  (hu:P.underlying t=some (.slice e)) (hs:(P.info? e).map (·.size)=some s) (hm:i=m) (h1:m≤n):(execOp a.eval o).run P b = .ok (.value (.slice (pM q m c s) (n - m) (c - m))) b:=by
 subst hm
 have he:P.elem t=e:=by simp [Program.elem,hu]
 have hu':P.underlying t=some (.slice (P.elem t)):=by rw [he];exact hu
 unfold execOp
 simp only [ho,Option.map_some,Option.map_none,hx,hy,Sem.run_bind]
 rw [run_sliceAt_slice (h:=hu'),run_slice_l (ht:=hu') (h0:=by omega) (h1:=by omega)]
 unfold pM
 ·by_cases hc:c=m
  ·cases q <;> simp [he,Go.Gl.run_sizeOf hs,sliced,hc]
  ·cases q <;> simp [he,Go.Gl.run_sizeOf hs,sliced,hc]
end
theorem fZ.cap {w:World}{s n c:Nat}{q:Option Addr}{xs:List Value} (h:fZ w s (.slice q n c) n xs):n≤c:=by
 rcases h.2 with ⟨h0,rfl⟩ | ⟨g,off,cap,hv,h1,_⟩
 ·omega
 ·injection hv with _ _ e;subst e;exact h1
theorem fZ.hi {w:World}{s n m c:Nat}{q:Option Addr}{xs:List Value} (h:fZ w s (.slice q n c) n xs) (hm:m≤n):fZ w s (.slice q m c) m (xs.take (m*s)):=by
 have hl:(xs.take (m*s)).length=m*s:=by rw [List.length_take,h.1];exact Nat.min_eq_left (Nat.mul_le_mul_right _ hm)
 refine⟨hl,?_⟩
 rcases h.2 with ⟨h0,rfl⟩ | ⟨g,off,cap,hv,h1,h2,h3,h4⟩
 ·obtain rfl:m=0:=by omega
  exact .inl ⟨h0,rfl⟩
 ·injection hv with e1 _ e3
  subst e1 e3
  refine .inr ⟨g,off,c,rfl,by omega,h2,?_,fun j u hj=>?_⟩
  ·rcases h3 with h3 | h3
   ·exact .inl (by omega)
   ·exact .inr h3
  ·refine h4 j u ?_
   have hj':=(List.getElem?_eq_some_iff.1 hj).1
   rw [hl] at hj'
   rw [List.getElem?_take_of_lt hj'] at hj
   exact hj
theorem fZ.lo {w:World}{s n m c:Nat}{q:Option Addr}{xs:List Value} (h:fZ w s (.slice q n c) n xs) (hm:m≤n):fZ w s (.slice (pM q m c s) (n - m) (c - m)) (n - m) (xs.drop (m*s)):=by
 have hl:(xs.drop (m*s)).length=(n - m)*s:=by rw [List.length_drop,h.1,Nat.sub_mul]
 refine⟨hl,?_⟩
 rcases h.2 with ⟨h0,rfl⟩ | ⟨g,off,cap,hv,h1,h2,h3,h4⟩
 ·obtain rfl:m=0:=by omega
  obtain⟨a0,e0⟩:=h0.form
  injection e0 with e1 _ e3
  subst e1 e3
  unfold pM
  rw [if_pos rfl]
  exact .inl ⟨h0,by omega⟩
 ·injection hv with e1 _ e3
  subst e1 e3
  unfold pM
  by_cases hc:c=m
  ·rw [if_pos hc]
   refine .inr ⟨g,off,c - m,rfl,by omega,by omega,.inl (by omega),fun j u hj=>?_⟩
   have hj':=(List.getElem?_eq_some_iff.1 hj).1
   have h0:n - m=0:=by omega
   rw [hl,h0,Nat.zero_mul] at hj'
   omega
  ·rw [if_neg hc]
   refine .inr ⟨g,off+m*s,c - m,by rw [Option.map_some,Addr.add_lit],by omega,by omega,?_,fun j u hj=>?_⟩
   ·rcases h3 with h3 | h3
    ·exact .inl (by omega)
    ·exact .inr h3
   ·rw [List.getElem?_drop] at hj
    have:=h4 _ _ hj
    rwa [show off+m*s+j=off+(m*s+j) from by omega]
end Go.Gl
namespace Go.Proofs.YtglkmaalpammcaaGreat
open Go.Gl
def insL (l:List aN) (k v:List UInt8):List aN:=l.filter (fun e=>aB e.1 k) ++ (k,v) :: l.filter (fun e=>aB k e.1)
def gJ (l:List aN) (k:List UInt8):List aN:=l.filter (fun e=>aB e.1 k) ++ l.filter (fun e=>aB k e.1)
theorem filter_all {p:aN→Bool}{l:List aN} (h:∀ e∈l,p e=true):l.filter p=l:=List.filter_eq_self.2 h
theorem gI {p:aN→Bool}{l:List aN} (h:∀ e∈l,p e=false):l.filter p=[]:=List.filter_eq_nil_iff.2 (fun e he=>by rw [h e he];simp)
theorem pV {a b:List UInt8} (h:aB a b=true):aB b a=false:=jY h
theorem fM.parts {a b:List aN} (h:fM (a ++ b)):fM a∧fM b∧∀ x∈a,∀ y∈b,aB x.1 y.1=true:=List.pairwise_append.1 h
theorem F5 {a b c:List UInt8} (h:aB a b=true) (k:aB c b=false):aB a c=true:=by
  cases hb:aB a c with
  | true=>rfl
  | false =>
    cases hc:aB c a with
    | true=>have:=fP hc h;rw [k] at this;cases this
    | false=>have:=mQ hb hc;subst this;rw [h] at k;cases k
theorem Jd {α:Type} (R:List α) (p:Nat) (hp:p<R.length):∃ A q C,R=A ++ [q] ++ C∧A.length=p∧R[p]=q :=
 ⟨R.take p,R[p],R.drop (p+1),by rw [List.append_assoc,List.singleton_append,← List.drop_eq_getElem_cons hp,List.take_append_drop],by rw [List.length_take];omega,rfl⟩
theorem kQ {α:Type} (A C:List α) (q r:α):(A ++ [q] ++ C).set A.length r=A ++ [r] ++ C:=by
 rw [List.append_assoc,List.set_append_right _ _ (Nat.le_refl _),Nat.sub_self];simp
structure Lies (ps:Pgs) (k:List UInt8) (A:Pgs) (l:List aN) (C:Pgs) (i:Nat):Prop where
 eq:ps=A ++ [l] ++ C
 fst:(bz ps k).1=A.length
 snd:(bz ps k).2.1=i
 at_:(bz ps k).2.2=ja l i k
 il:i≤l.length
 lo:∀ e∈A.flatten,aB e.1 k=true
 hi:∀ e∈C.flatten,aB k e.1=true
 plo:∀ e∈l.take i,aB e.1 k=true
 phi:∀ e∈l.drop i,aB e.1 k=false
 ris:fM l
theorem lies {ps:Pgs} (ok:gu ps) (hne:ps≠[]) (k:List UInt8):∃ A l C i,Lies ps k A l C i:=by
  have h0:0<ps.length:=List.length_pos_iff.2 hne
  have htl:=CU ps k
  have hp:ik ps k<ps.length:=by rw [qN];omega
  have hf:bz ps k=(ik ps k,gX (ps.getD (ik ps k) []) k,ja (ps.getD (ik ps k) []) (gX (ps.getD (ik ps k) []) k) k):=if_neg hne
  obtain⟨A,l,C,he,hA,hl⟩:=Jd ps (ik ps k) hp
  have hg:ps.getD (ik ps k) []=l:=by simp [hp,hl]
  rw [hg] at hf
  have hris:=ok.ris
  rw [he,List.flatten_append,List.flatten_append] at hris
  obtain⟨r1,r2,r3⟩:=hris.parts
  obtain⟨r4,r5,r6⟩:=r1.parts
  have hr:fM l:=by simpa using r5
  refine⟨A,l,C,gX l k,he,by rw [hf];exact hA.symm,by rw [hf],by rw [hf],wE l k,?_,?_,?_,?_,hr⟩
  · intro e hea
    have hA0:A≠[]:=fun h=>by rw [h] at hea;simp at hea
    have hpos:0<ik ps k:=by rw [← hA];exact List.length_pos_iff.2 hA0
    have h1:=wI ok.ris ok.ne k (ik ps k) hp
    have h2:ik ps k<tw ps k:=by rw [qN] at hpos ⊢;omega
    rw [hl,decide_eq_true h2] at h1
    have hln:l≠[]:=ok.ne l (by rw [he];simp)
    cases l with
    | nil=>exact absurd rfl hln
    | cons x l =>
      have h3:aB k x.1=false:=by simpa [jq] using h1
      exact F5 (r6 e hea x (by simp)) h3
  · intro e hec
    obtain⟨c,hc,hce⟩:=List.mem_flatten.1 hec
    cases C with
    | nil=>simp at hc
    | cons c0 C =>
      have hlen:ik ps k+1<ps.length:=by have hL:=congrArg List.length he;simp at hL;omega
      have h1:=wI ok.ris ok.ne k (ik ps k+1) hlen
      have h2:¬ ik ps k+1<tw ps k:=by rw [qN];omega
      have hget:ps[ik ps k+1]=c0:=by
        have:ps[ik ps k+1]?=some c0:=by rw [← hA,he];simp
        rw [List.getElem?_eq_getElem hlen] at this
        exact Option.some.inj this
      rw [hget,decide_eq_false h2] at h1
      have hc0n:c0≠[]:=ok.ne c0 (by rw [he];simp)
      cases c0 with
      | nil=>exact absurd rfl hc0n
      | cons x c0 =>
        have h3:aB k x.1=true:=by simpa [jq] using h1
        rw [List.flatten_cons] at r2 hec
        rcases List.mem_append.1 hec with h | h
        · rcases List.mem_cons.1 h with rfl | h
          · exact h3
          · exact fP h3 ((List.pairwise_cons.1 r2.parts.1).1 e h)
        · exact fP h3 (r2.parts.2.2 x (by simp) e h)
  · intro e hx
    rw [tq,(hr.split k).1] at hx
    exact (List.mem_filter.1 hx).2
  · intro e hx
    rw [wR,(hr.split k).2] at hx
    simpa using (List.mem_filter.1 hx).2
theorem Lies.there {ps:Pgs}{k:List UInt8}{A C:Pgs}{l:List aN}{i:Nat} (h:Lies ps k A l C i) (ht:ja l i k=true):∃ (hi:i<l.length),(l[i]).1=k∧∀ e∈l.drop (i+1),aB k e.1=true:=by
  unfold ja at ht
  cases hx:l[i]? with
  | none=>rw [hx] at ht;cases ht
  | some e =>
    obtain⟨hi,he⟩:=List.getElem?_eq_some_iff.1 hx
    rw [hx] at ht
    have hk:e.1=k:=of_decide_eq_true ht
    refine⟨hi,by rw [he];exact hk,fun y hy=>?_⟩
    have hr:=h.ris
    rw [← List.take_append_drop i l,List.drop_eq_getElem_cons hi] at hr
    have:=(List.pairwise_cons.1 hr.parts.2.1).1 y hy
    rw [he,hk] at this
    exact this
theorem Lies.not {ps:Pgs}{k:List UInt8}{A C:Pgs}{l:List aN}{i:Nat} (h:Lies ps k A l C i) (ht:ja l i k=false):∀ e∈l.drop i,aB k e.1=true:=by
 intro e he
 rcases Nat.lt_or_ge i l.length with hi | hi
 ·rw [List.drop_eq_getElem_cons hi] at he
  have h1:=h.phi l[i] (by rw [List.drop_eq_getElem_cons hi];exact List.mem_cons_self)
  have h2:(l[i]).1≠k:=fun e=>by
   unfold ja at ht
   rw [List.getElem?_eq_getElem hi] at ht
   have:=of_decide_eq_false ht
   exact this e
  have h3:aB k (l[i]).1=true:=by
   cases hb:aB k (l[i]).1 with
   | true=>rfl
   | false=>exact absurd (mQ h1 hb) h2
  rcases List.mem_cons.1 he with rfl | he
  ·exact h3
  ·have hr:=h.ris
   rw [← List.take_append_drop i l,List.drop_eq_getElem_cons hi] at hr
   exact fP h3 ((List.pairwise_cons.1 hr.parts.2.1).1 e he)
 ·rw [List.drop_of_length_le hi] at he;cases he
theorem Lies.flat {ps:Pgs}{k:List UInt8}{A C:Pgs}{l:List aN}{i:Nat} (h:Lies ps k A l C i):ps.flatten=A.flatten ++ l.take i ++ (l.drop i ++ C.flatten):=by
 rw [h.eq,List.flatten_append,List.flatten_append,List.flatten_singleton]
 rw [List.append_assoc A.flatten (l.take i),← List.append_assoc (l.take i),List.take_append_drop,← List.append_assoc]
theorem Lies.below {ps:Pgs}{k:List UInt8}{A C:Pgs}{l:List aN}{i:Nat} (h:Lies ps k A l C i):ps.flatten.filter (fun e=>aB e.1 k)=A.flatten ++ l.take i:=by
 rw [h.flat,List.filter_append,filter_all (l:=A.flatten ++ l.take i) (fun e he=>by rcases List.mem_append.1 he with he | he;exact h.lo e he;exact h.plo e he),
  gI (l:=l.drop i ++ C.flatten) (fun e he=>by rcases List.mem_append.1 he with he | he;exact h.phi e he;exact pV (h.hi e he)),List.append_nil]
theorem Lies.aboveT {ps:Pgs}{k:List UInt8}{A C:Pgs}{l:List aN}{i:Nat} (h:Lies ps k A l C i) (ht:ja l i k=true):ps.flatten.filter (fun e=>aB k e.1)=l.drop (i+1) ++ C.flatten:=by
 obtain⟨hi,hk,hab⟩:=h.there ht
 rw [h.flat,List.filter_append,gI (l:=A.flatten ++ l.take i) (fun e he=>by rcases List.mem_append.1 he with he | he;exact pV (h.lo e he);exact pV (h.plo e he)),List.nil_append,List.drop_eq_getElem_cons hi,List.cons_append,List.filter_cons,hk,fO]
 simp only [Bool.false_eq_true,if_false]
 exact filter_all (fun e he=>by rcases List.mem_append.1 he with he | he;exact hab e he;exact h.hi e he)
theorem Lies.aboveF {ps:Pgs}{k:List UInt8}{A C:Pgs}{l:List aN}{i:Nat} (h:Lies ps k A l C i) (ht:ja l i k=false):ps.flatten.filter (fun e=>aB k e.1)=l.drop i ++ C.flatten:=by
 rw [h.flat,List.filter_append,gI (l:=A.flatten ++ l.take i) (fun e he=>by rcases List.mem_append.1 he with he | he;exact pV (h.lo e he);exact pV (h.plo e he)),List.nil_append]
 exact filter_all (fun e he=>by rcases List.mem_append.1 he with he | he;exact h.not ht e he;exact h.hi e he)
theorem Eg (k:List UInt8):bz [] k=(0,0,false):=rfl
theorem EC {ps:Pgs} (ok:gu ps) (k:List UInt8):(bz ps k).2.2=true↔∃ e∈ps.flatten,e.1=k:=by
  by_cases hne:ps=[]
  · subst hne
    simp [Eg]
  obtain⟨A,l,C,i,h⟩:=lies ok hne k
  rw [h.at_]
  constructor
  · intro ht
    obtain⟨hi,hk,_⟩:=h.there ht
    refine⟨l[i],?_,hk⟩
    rw [h.eq,List.flatten_append,List.flatten_append]
    exact List.mem_append_left _ (List.mem_append_right _ (by simp))
  · rintro⟨e,he,rfl⟩
    cases ht:ja l i e.1 with
    | true=>rfl
    | false =>
      rw [h.flat] at he
      rcases List.mem_append.1 he with he | he
      · have:aB e.1 e.1=true:=by rcases List.mem_append.1 he with he | he;exact h.lo e he;exact h.plo e he
        rw [fO] at this;cases this
      · have:aB e.1 e.1=true:=by rcases List.mem_append.1 he with he | he;exact h.not ht e he;exact h.hi e he
        rw [fO] at this;cases this
def iy (l:List aN) (k:List UInt8):Option (List UInt8):=(l.find? (fun e=>decide (e.1=k))).map (·.2)
theorem fM.find {l:List aN} (h:fM l) {e:aN} (he:e∈l):l.find? (fun x=>decide (x.1=e.1))=some e:=by
  induction l with
  | nil=>cases he
  | cons a l ih =>
    have hp:=List.pairwise_cons.1 h
    rcases List.mem_cons.1 he with rfl | he
    · simp
    · have hne:¬ a.1=e.1:=fun x=>by have:=hp.1 e he;rw [x,fO] at this;cases this
      rw [List.find?_cons,decide_eq_false hne]
      exact ih hp.2 he
theorem tu {ps:Pgs} (ok:gu ps) (k:List UInt8):lX ps k=iy ps.flatten k:=by
  by_cases hne:ps=[]
  · subst hne
    rfl
  obtain⟨A,l,C,i,h⟩:=lies ok hne k
  unfold lX
  cases ht:ja l i k with
  | false =>
    rw [h.at_,ht]
    simp only [Bool.false_eq_true,if_false]
    unfold iy
    have:ps.flatten.find? (fun e=>decide (e.1=k))=none:=by
      rw [List.find?_eq_none]
      intro e he hk
      have:=(EC ok k).2 ⟨e,he,of_decide_eq_true hk⟩
      rw [h.at_,ht] at this;cases this
    rw [this];rfl
  | true =>
    rw [h.at_,ht]
    obtain⟨hi,hk,_⟩:=h.there ht
    have hg:ps.getD (bz ps k).1 []=l:=by rw [h.fst,h.eq];simp
    rw [hg,h.snd]
    have hm:l[i]∈ps.flatten:=by
      rw [h.eq,List.flatten_append,List.flatten_append]
      exact List.mem_append_left _ (List.mem_append_right _ (by simp))
    unfold iy
    have:=ok.ris.find hm
    rw [hk] at this
    rw [this]
    simp [hi]
theorem xK {ps:Pgs} (ok:gu ps) (k v:List UInt8):(pq ps k v).flatten=insL ps.flatten k v:=by
  by_cases hne:ps=[]
  · subst hne
    rfl
  obtain⟨A,l,C,i,h⟩:=lies ok hne k
  have hg:ps.getD A.length []=l:=by rw [h.eq];simp
  unfold pq insL
  rw [if_neg hne,h.below,h.fst,h.snd,h.at_,hg]
  cases ht:ja l i k with
  | true =>
    obtain⟨hi,hk,_⟩:=h.there ht
    rw [h.aboveT ht,if_pos rfl,h.eq,kQ,List.flatten_append,List.flatten_append,List.flatten_singleton,List.set_eq_take_append_cons_drop,if_pos hi]
    simp
  | false =>
    rw [h.aboveF ht,if_neg (by simp)]
    split
    · rw [h.eq,List.append_assoc A [l] C,List.take_left' rfl,← List.append_assoc A [l] C,List.drop_left' (by simp),List.flatten_append,List.flatten_append,List.flatten_cons,List.flatten_singleton,List.take_append_drop]
      unfold jV
      simp
    · rw [h.eq,kQ,List.flatten_append,List.flatten_append,List.flatten_singleton]
      unfold jV
      simp
theorem uX {ps:Pgs}{p:Nat} (h:iM ps p=true):(lL ps p).flatten=ps.flatten:=by
 unfold iM at h
 rw [Bool.and_eq_true,decide_eq_true_eq] at h
 have h1:=h.1
 unfold lL
 have e1:ps.getD p []=ps[p]'(by omega):=by simp [show p<ps.length from by omega]
 have e2:ps.getD (p+1) []=ps[p+1]:=by simp [h1]
 rw [e1,e2]
 have e:ps.take p ++ (ps[p]'(by omega) :: ps[p+1] :: ps.drop (p+2))=ps:=by rw [← List.drop_eq_getElem_cons h1,← List.drop_eq_getElem_cons (show p<ps.length by omega),List.take_append_drop]
 have e3:=congrArg List.flatten e
 rw [List.flatten_append,List.flatten_cons,List.flatten_cons] at e3
 rw [← e3,List.flatten_append,List.flatten_append,List.flatten_singleton]
 simp only [List.append_assoc]
theorem xq {ps:Pgs} (ok:gu ps) (k:List UInt8):(jM ps k).flatten=gJ ps.flatten k:=by
  by_cases hne:ps=[]
  · subst hne
    rfl
  obtain⟨A,l,C,i,h⟩:=lies ok hne k
  have hg:ps.getD A.length []=l:=by rw [h.eq];simp
  unfold jM gJ
  rw [h.below,h.fst,h.snd,h.at_,hg]
  cases ht:ja l i k with
  | false =>
    rw [h.aboveF ht,if_neg (by simp),h.flat]
  | true =>
    obtain⟨hi,hk,_⟩:=h.there ht
    rw [h.aboveT ht,if_pos rfl]
    have hset:(ps.set A.length (l.eraseIdx i)).flatten=A.flatten ++ l.take i ++ (l.drop (i+1) ++ C.flatten):=by
      rw [h.eq,kQ,List.flatten_append,List.flatten_append,List.flatten_singleton,List.eraseIdx_eq_take_drop_succ]
      simp
    split
    · rename_i h1
      have hi0:i=0:=by omega
      subst hi0
      have hd:l.drop 1=[]:=List.drop_of_length_le (by omega)
      rw [h.eq,List.eraseIdx_eq_take_drop_succ,List.append_assoc A [l] C,List.take_left' rfl,← List.append_assoc A [l] C,List.drop_left' (by simp),List.flatten_append,hd]
      simp
    · simp only []
      split
      · rename_i hj
        rw [uX hj,hset]
      · split
        · rename_i hj
          rw [uX hj.2,hset]
        · rw [hset]
theorem uH {l:List aN} (h:fM l) (k v:List UInt8):fM (insL l k v):=by
 unfold insL
 refine List.pairwise_append.2 ⟨h.filter _,List.pairwise_cons.2 ⟨fun e he=>(List.mem_filter.1 he).2,h.filter _⟩,fun a ha b hb=>?_⟩
 have h1:aB a.1 k=true:=(List.mem_filter.1 ha).2
 rcases List.mem_cons.1 hb with rfl | hb
 ·exact h1
 ·exact fP h1 (List.mem_filter.1 hb).2
theorem uN {l:List aN} (h:fM l) (k:List UInt8):fM (gJ l k):=by
 unfold gJ
 refine List.pairwise_append.2 ⟨h.filter _,h.filter _,fun a ha b hb=>?_⟩
 have h1:aB a.1 k=true:=(List.mem_filter.1 ha).2
 exact fP h1 (List.mem_filter.1 hb).2
theorem BG (l:List aN) (i:Nat) (x:aN) (hi:i≤l.length):(jV l i x).length=l.length+1:=by
 unfold jV
 rw [List.length_append,List.length_cons,List.length_take,List.length_drop];omega
theorem Ig {ps:Pgs} (ok:gu ps) (k v:List UInt8):gu (pq ps k v):=by
 refine⟨by rw [xK ok];exact uH ok.ris k v,?_,?_⟩
 all_goals
  by_cases hne:ps=[]
  ·subst hne
   intro q hq
   have:q=[(k,v)]:=by simpa [pq] using hq
   subst this
   simp
  obtain⟨A,l,C,i,h⟩:=lies ok hne k
  have hg:ps.getD A.length []=l:=by rw [h.eq];simp
  have hmem:∀ q,q∈A∨q∈C→q∈ps:=fun q hq=>by rw [h.eq];rcases hq with hq | hq <;> simp [hq]
  have hl:l∈ps:=by rw [h.eq];simp
  have hlen:=BG l i (k,v) h.il
  unfold pq
  rw [if_neg hne,h.fst,h.snd,hg]
  intro q hq
  split at hq
  ·rw [h.eq,kQ] at hq
   simp only [List.append_assoc,List.mem_append,List.mem_cons,List.not_mem_nil,or_false] at hq
   rcases hq with hq | rfl | hq
   ·first | exact ok.ne q (hmem q (.inl hq)) | exact ok.most q (hmem q (.inl hq))
   ·first
     | (intro e;have:=congrArg List.length e;rw [List.length_set] at this;exact ok.ne l hl (List.length_eq_zero_iff.1 this))
     | (rw [List.length_set];exact ok.most l hl)
   ·first | exact ok.ne q (hmem q (.inr hq)) | exact ok.most q (hmem q (.inr hq))
  ·split at hq
   ·rename_i hbig
    rw [h.eq,List.append_assoc A [l] C,List.take_left' rfl,← List.append_assoc A [l] C,List.drop_left' (by simp)] at hq
    have hm:=ok.most l hl
    simp only [List.append_assoc,List.mem_append,List.mem_cons,List.not_mem_nil,or_false] at hq
    rcases hq with hq | (rfl | rfl) | hq
    ·first | exact ok.ne q (hmem q (.inl hq)) | exact ok.most q (hmem q (.inl hq))
    ·first
      | (intro e;have h9:=congrArg List.length e;rw [List.length_take,hlen,List.length_nil] at h9;omega)
      | (rw [List.length_take];omega)
    ·first
      | (intro e;have h9:=congrArg List.length e;rw [List.length_drop,hlen,List.length_nil] at h9;omega)
      | (rw [List.length_drop,hlen];omega)
    ·first | exact ok.ne q (hmem q (.inr hq)) | exact ok.most q (hmem q (.inr hq))
   ·rename_i hbig
    rw [h.eq,kQ] at hq
    simp only [List.append_assoc,List.mem_append,List.mem_cons,List.not_mem_nil,or_false] at hq
    rcases hq with hq | rfl | hq
    ·first | exact ok.ne q (hmem q (.inl hq)) | exact ok.most q (hmem q (.inl hq))
    ·first
      | (intro e;have h9:=congrArg List.length e;rw [hlen,List.length_nil] at h9;omega)
      | omega
    ·first | exact ok.ne q (hmem q (.inr hq)) | exact ok.most q (hmem q (.inr hq))
open Go.Gl
theorem getD_at {α:Type} (A C:List α) (q d:α):(A ++ [q] ++ C).getD A.length d=q:=by simp
theorem BR {ps:Pgs}{k:List UInt8}{A C:Pgs}{l:List aN}{i:Nat} (h:Lies ps k A l C i) (ht:ja l i k=true) :
    (l.length=1∧jM ps k=A ++ C) ∨
    (l.length≠1∧∃ c C2,C=c :: C2∧l.length - 1+c.length≤16∧jM ps k=A ++ [l.eraseIdx i ++ c] ++ C2) ∨
    (l.length≠1∧(∀ c∈C.head?,17≤l.length - 1+c.length)∧∃ A2 a,A=A2 ++ [a]∧a.length+(l.length - 1)≤16∧jM ps k=A2 ++ [a ++ l.eraseIdx i] ++ C) ∨
    (l.length≠1∧(∀ c∈C.head?,17≤l.length - 1+c.length)∧(∀ a∈A.getLast?,17≤a.length+(l.length - 1))∧jM ps k=A ++ [l.eraseIdx i] ++ C):=by
  obtain⟨hi,hk,_⟩:=h.there ht
  have hg:ps.getD A.length []=l:=by rw [h.eq];simp
  have hel:(l.eraseIdx i).length=l.length - 1:=by rw [List.length_eraseIdx,if_pos hi]
  have hdel:jM ps k=if l.length=1 then ps.eraseIdx A.length else
      if iM (A ++ [l.eraseIdx i] ++ C) A.length then lL (A ++ [l.eraseIdx i] ++ C) A.length
      else if A.length≠0∧iM (A ++ [l.eraseIdx i] ++ C) (A.length - 1)=true then lL (A ++ [l.eraseIdx i] ++ C) (A.length - 1) else A ++ [l.eraseIdx i] ++ C:=by
    unfold jM
    rw [h.fst,h.snd,h.at_,ht,hg,if_pos rfl]
    have:ps.set A.length (l.eraseIdx i)=A ++ [l.eraseIdx i] ++ C:=by rw [h.eq,kQ]
    simp only [this]
  by_cases h1:l.length=1
  · left
    refine⟨h1,?_⟩
    rw [hdel,if_pos h1,h.eq,List.eraseIdx_eq_take_drop_succ,List.append_assoc A [l] C,List.take_left' rfl,← List.append_assoc A [l] C,List.drop_left' (by simp)]
  right
  rw [if_neg h1] at hdel
  by_cases hj:iM (A ++ [l.eraseIdx i] ++ C) A.length=true
  · left
    rw [if_pos hj] at hdel
    unfold iM at hj
    rw [Bool.and_eq_true,decide_eq_true_eq,decide_eq_true_eq,getD_at] at hj
    cases C with
    | nil=>simp at hj
    | cons c C2 =>
      have hc:(A ++ [l.eraseIdx i] ++ c :: C2).getD (A.length+1) []=c:=by simp
      rw [hc,hel] at hj
      refine⟨h1,c,C2,rfl,hj.2,?_⟩
      rw [hdel]
      unfold lL
      rw [getD_at,hc,List.append_assoc A,List.take_left' rfl,show A ++ ([l.eraseIdx i] ++ c :: C2)=(A ++ [l.eraseIdx i,c]) ++ C2 from by simp,List.drop_left' (by simp)]
  · right
    rw [if_neg hj] at hdel
    have hC:∀ c∈C.head?,17≤l.length - 1+c.length:=by
      intro c hc
      cases C with
      | nil=>simp at hc
      | cons c' C2 =>
        obtain rfl:c'=c:=by simpa using hc
        unfold iM at hj
        have hc:(A ++ [l.eraseIdx i] ++ c' :: C2).getD (A.length+1) []=c':=by simp
        rw [Bool.and_eq_true,decide_eq_true_eq,decide_eq_true_eq,getD_at,hc,hel] at hj
        have:A.length+1<(A ++ [l.eraseIdx i] ++ c' :: C2).length:=by simp
        omega
    by_cases hk2:A.length≠0∧iM (A ++ [l.eraseIdx i] ++ C) (A.length - 1)=true
    · left
      rw [if_pos hk2] at hdel
      obtain⟨A2,a,rfl⟩:∃ A2 a,A=A2 ++ [a]:=⟨A.dropLast,A.getLast (fun e=>hk2.1 (by rw [e];rfl)),(List.dropLast_concat_getLast _).symm⟩
      have hl2:(A2 ++ [a]).length - 1=A2.length:=by simp
      rw [hl2] at hk2 hdel
      have hj2:=hk2.2
      have e1:A2 ++ [a] ++ [l.eraseIdx i] ++ C=A2 ++ [a] ++ ([l.eraseIdx i] ++ C):=by simp
      have g1:(A2 ++ [a] ++ [l.eraseIdx i] ++ C).getD A2.length []=a:=by rw [e1,getD_at]
      have g2:(A2 ++ [a] ++ [l.eraseIdx i] ++ C).getD (A2.length+1) []=l.eraseIdx i:=by
        rw [show A2.length+1=(A2 ++ [a]).length from by simp,getD_at]
      unfold iM at hj2
      rw [Bool.and_eq_true,decide_eq_true_eq,decide_eq_true_eq,g1,g2,hel] at hj2
      refine⟨h1,hC,A2,a,rfl,hj2.2,?_⟩
      rw [hdel]
      unfold lL
      rw [g1,g2]
      have e2:A2 ++ [a] ++ [l.eraseIdx i] ++ C=A2 ++ ([a,l.eraseIdx i] ++ C):=by simp
      have e3:A2 ++ ([a,l.eraseIdx i] ++ C)=(A2 ++ [a,l.eraseIdx i]) ++ C:=by simp
      rw [e2,List.take_left' rfl,e3,List.drop_left' (by simp)]
    · right
      rw [if_neg hk2] at hdel
      refine⟨h1,hC,fun a ha=>?_,hdel⟩
      have hA:A≠[]:=fun e=>by rw [e] at ha;simp at ha
      obtain⟨A2,a',rfl⟩:∃ A2 a,A=A2 ++ [a]:=⟨A.dropLast,A.getLast hA,(List.dropLast_concat_getLast _).symm⟩
      obtain rfl:a'=a:=by simpa using ha
      have hl2:(A2 ++ [a']).length - 1=A2.length:=by simp
      have hk3:¬ iM (A2 ++ [a'] ++ [l.eraseIdx i] ++ C) A2.length=true:=fun hh=>hk2 ⟨by simp,by rw [hl2];exact hh⟩
      have e1:A2 ++ [a'] ++ [l.eraseIdx i] ++ C=A2 ++ [a'] ++ ([l.eraseIdx i] ++ C):=by simp
      have g1:(A2 ++ [a'] ++ [l.eraseIdx i] ++ C).getD A2.length []=a':=by rw [e1,getD_at]
      have g2:(A2 ++ [a'] ++ [l.eraseIdx i] ++ C).getD (A2.length+1) []=l.eraseIdx i:=by
        rw [show A2.length+1=(A2 ++ [a']).length from by simp,getD_at]
      unfold iM at hk3
      rw [Bool.and_eq_true,decide_eq_true_eq,decide_eq_true_eq,g1,g2,hel] at hk3
      have:A2.length+1<(A2 ++ [a'] ++ [l.eraseIdx i] ++ C).length:=by simp
      omega
theorem Ak {ps:Pgs}{k:List UInt8} (h:(bz ps k).2.2=false):jM ps k=ps:=by unfold jM;rw [h];rfl
theorem IP {ps:Pgs} (ok:gu ps) (k:List UInt8):gu (jM ps k):=by
  suffices fin2:(∀ q∈jM ps k,q≠[])∧(∀ q∈jM ps k,q.length≤32) from⟨by rw [xq ok];exact uN ok.ris k,fin2.1,fin2.2⟩
  by_cases hne:ps=[]
  · subst hne
    rw [Ak (ps:=[]) (k:=k) rfl]
    exact⟨fun q hq=>(List.not_mem_nil hq).elim,fun q hq=>(List.not_mem_nil hq).elim⟩
  obtain⟨A,l,C,i,h⟩:=lies ok hne k
  cases ht:ja l i k with
  | false=>rw [Ak (by rw [h.at_,ht])];exact⟨ok.ne,ok.most⟩
  | true =>
    obtain⟨hi,hk,_⟩:=h.there ht
    have hmem:∀ q,q∈A∨q∈C→q∈ps:=fun q hq=>by rw [h.eq];rcases hq with hq | hq <;> simp [hq]
    have hl:l∈ps:=by rw [h.eq];simp
    have hel:(l.eraseIdx i).length=l.length - 1:=by rw [List.length_eraseIdx,if_pos hi]
    have hm:=ok.most l hl
    have okq:∀ q,q∈A∨q∈C→q≠[]∧q.length≤32:=fun q hq=>⟨ok.ne q (hmem q hq),ok.most q (hmem q hq)⟩
    have fin:∀ q∈jM ps k,q≠[]∧q.length≤32:=by
      intro q hq
      rcases BR h ht with ⟨h1,he⟩ | ⟨h1,c,C2,rfl,hs,he⟩ | ⟨h1,hC,A2,a,rfl,hs,he⟩ | ⟨h1,hC,hA,he⟩
      · rw [he] at hq
        rcases List.mem_append.1 hq with hq | hq
        · exact okq q (.inl hq)
        · exact okq q (.inr hq)
      · rw [he] at hq
        simp only [List.append_assoc,List.mem_append,List.mem_cons,List.not_mem_nil,or_false] at hq
        rcases hq with hq | rfl | hq
        · exact okq q (.inl hq)
        · have hc:=(okq c (.inr (by simp))).1
          refine⟨fun e=>hc (List.append_eq_nil_iff.1 e).2,by rw [List.length_append,hel];omega⟩
        · exact okq q (.inr (by simp [hq]))
      · rw [he] at hq
        simp only [List.append_assoc,List.mem_append,List.mem_cons,List.not_mem_nil,or_false] at hq
        rcases hq with hq | rfl | hq
        · exact okq q (.inl (by simp [hq]))
        · have hc:=(okq a (.inl (by simp))).1
          refine⟨fun e=>hc (List.append_eq_nil_iff.1 e).1,by rw [List.length_append,hel];omega⟩
        · exact okq q (.inr hq)
      · rw [he] at hq
        simp only [List.append_assoc,List.mem_append,List.mem_cons,List.not_mem_nil,or_false] at hq
        rcases hq with hq | rfl | hq
        · exact okq q (.inl hq)
        · refine⟨fun e=>?_,by rw [hel];omega⟩
          have h9:=congrArg List.length e
          rw [hel,List.length_nil] at h9
          omega
        · exact okq q (.inr hq)
    exact⟨fun q hq=>(fin q hq).1,fun q hq=>(fin q hq).2⟩
end Go.Proofs.YtglkmaalpammcaaGreat

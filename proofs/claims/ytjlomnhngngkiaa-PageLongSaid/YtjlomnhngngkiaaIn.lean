/- Regions that are walked once and serve in a round of a range over a function too; a region that calls yield. -/
import Derived.Test.YtjlomnhngngkiaaZB
import Derived.Test.YtjlomnhngngkiaaBar
import Derived.OrdersIn
import Derived.RangeFuncSeq
namespace Go.Gl
open Go.RowKit
set_option linter.unusedVariables false

/-- the wide fence, of a plain activation or of a round -/
abbrev WF (r : Option Nat) : Fence := { Fence.wide with round := r }

theorem WF.room (r : Option Nat) (k : Nat) : (WF r).room k := fun _ h => by simp [Fence.wide] at h
theorem callsIn_WF {r : Option Nat} {n : Nat} {P : Program} {f : FuncId} {args : Array Value} {w : World} {R : Ending → World → Prop} : CallsIn (WF r) n P f args w R ↔ Calls P f args w R := callsIn_wide (n := n)
theorem rowsIn_WF {r : Option Nat} {n : Nat} {P : Program} {row : String} {args : Array Value} {w : World} {R : Value → World → Prop} (h : Rows P row args w R) : RowsIn (WF r) n P row args w R := fun c cs _ =>
  let ⟨v, w', hr, hs⟩ := h c cs; ⟨v, w', hr, stepsIn_wide.2 hs⟩
theorem RoundIn.room {r r' : Option Nat} {n m : Nat} {P : Program} {l : Nat} {f : FuncId} {tmps : Array Value} {assign body : Code} {w : World} {R : Ending → World → Prop} (h : RoundIn (WF r) n P l f tmps assign body w R) : RoundIn (WF r') m P l f tmps assign body w R :=
  ⟨trivial, fun c cs _ => h.2 c cs (WF.room _ _)⟩

/-- Q, but False at a panic and where memory ends -/
def Calm (Q : Exit → Act → World → Prop) : Exit → Act → World → Prop
  | .panic _, _, _ => False
  | .outgrown, _, _ => False
  | e, a, w => Q e a w
theorem Calm.imp {Q : Exit → Act → World → Prop} (e : Exit) (a : Act) (w : World) (h : Calm Q e a w) : Q e a w := by cases e <;> first | exact h | exact h.elim
theorem Calm.letsOut {Q : Exit → Act → World → Prop} (h : LetsOut (Calm Q)) : False := by obtain ⟨a, w, h⟩ := h; exact h
theorem Calm.dead {Q : Exit → Act → World → Prop} (c : List PanicEntry) (a : Act) (d : Option Tmp) (v : Value) (w : World) (h : Calm Q (.panic c) (a.put d v) w) : Calm Q (.panic c) a w := h

def noDefer (ops : Array Oper) : Bool := ops.all fun o => match o.op with | .defer _ => false | _ => true
theorem noDefer_spec {ops : Array Oper} (h : noDefer ops = true) {i : Nat} {o : Oper} (hi : ops[i]? = some o) (c : Call) : o.op ≠ .defer c := fun e => by
  have := Array.all_eq_true_iff_forall_mem.1 h o (Array.mem_of_getElem? hi)
  rw [e] at this
  cases this

section
variable {P : Program} {ops : Array Oper} {Q : Exit → Act → World → Prop} {r : Option Nat} {n : Nat}

theorem wpIn_of_wp {Q1 : Exit → Act → World → Prop} {o : Oper} {a : Act} {w : World} {K : Act → World → Prop} (hd : ∀ c, o.op ≠ .defer c) (h : o.wp P a w K (Calm Q1)) : o.wpIn (WF r) n P a w K Q := by
  refine ⟨fun _ _ => trivial, ?_⟩
  rw [Oper.semAt_eq _ _ _ hd]
  unfold Oper.wp at h
  generalize (execOp a.eval o).run P w = res at *
  cases res with
  | ok x w' =>
    cases x with
    | value v => exact h
    | skip => exact h
    | defer d => exact h
    | enter f args =>
      refine ⟨fun h0 => (by simp [Fence.wide] at h0), callsIn_WF.2 (Calls.mono h (fun e w'' he => ?_))⟩
      cases e with
      | returned v => exact he
      | panicked ch => exact he.elim
      | outgrown => exact (Calm.letsOut he).elim
    | row row args => exact ⟨fun h0 => (by simp [Fence.wide] at h0), rowsIn_WF h⟩
    | _ => exact h.elim
  | halt x w' =>
    cases x <;> exact h.elim

theorem wpOpIn_of {i : Nat} {K : Act → World → Prop} {a : Act} {w : World} (hd : noDefer ops = true) (h : wpOp P ops (Calm Q) i K a w) : wpOpIn (WF r) n P ops Q i K a w := by
  unfold wpOp at h
  unfold wpOpIn
  cases ho : ops[i]? with
  | none => simpa [ho] using h
  | some o =>
    simp only [ho] at h ⊢
    by_cases hw : Region.wanted o (yielded ops a.tmps) = true
    · simp only [hw, if_true] at h ⊢
      rcases h with h | ⟨_, h⟩
      · exact wpIn_of_wp (noDefer_spec hd ho) h
      · exact (Calm.letsOut h).elim
    · rw [Bool.not_eq_true] at hw
      simp only [hw, Bool.false_eq_true, if_false] at h ⊢
      exact ⟨fun _ _ => trivial, h⟩

theorem wpAnyIn_of {md : Region.Mode} (hd : noDefer ops = true) : ∀ (fuel : Nat) (L : Array Bool) (a : Act) (w : World), wpAny P md ops (Calm Q) fuel L a w → wpAnyIn (WF r) n P md ops Q fuel L a w
  | 0, _, _, _, h => h
  | fuel + 1, L, a, w, h => ⟨h.1, fun i hi => wpOpIn_mono (fun a' w' h' => wpAnyIn_of hd fuel _ a' w' h') (wpOpIn_of hd (h.2 i hi))⟩
theorem wpOpsIn_of (hd : noDefer ops = true) : ∀ (l : List Nat) (a : Act) (w : World), wpOps P ops (Calm Q) l a w → wpOpsIn (WF r) n P ops Q l a w
  | [], _, _, h => h
  | i :: l, a, w, h => by
    rw [wpOps_cons] at h
    rw [wpOpsIn_cons]
    exact wpOpIn_mono (fun a' w' h' => wpOpsIn_of hd l a' w' h') (wpOpIn_of hd h)

/-- a region walked, whichever frame it stands in -/
structure RW (P : Program) (ops : Array Oper) (draws : Bool) (Q : Exit → Act → World → Prop) (a : Act) (w : World) : Prop where
  out : if draws then P.follows .mixedOrders = true ∧ wpAny P .any ops (Calm Q) ops.size (Array.replicate ops.size false) a w.drew else wpOps P ops (Calm Q) (List.range ops.size) a w

theorem RW.wp {draws : Bool} {a : Act} {w : World} {id : Nat} (h : RW P ops draws Q a w) : (Code.region id ops draws).wp P Q a w := by
  have h := h.out
  cases draws with
  | true => exact Code.wp_mono Calm.imp (wp_region_any h.1 h.2)
  | false => exact Code.wp_mono Calm.imp (wp_region h)
theorem RW.wpIn {draws : Bool} {a : Act} {w : World} {id : Nat} (h : RW P ops draws Q a w) (hd : noDefer ops = true) : (Code.region id ops draws).wpIn (WF r) n P Q a w := by
  have h := h.out
  cases draws with
  | true => exact wpIn_region_any h.1 (wpAnyIn_of hd _ _ _ _ h.2)
  | false => exact wpIn_region (wpOpsIn_of hd _ _ _ h)

theorem rw_ordT {a : Act} {w : World} {S : World → Prop} (l : List (Nat × Bool)) (T : List Nat) (hm : P.follows .mixedOrders = true) (hs : Region.noSelect ops = true) (hl : l.length = ops.size)
    (ok : ordOkT .any ops T l (Array.replicate ops.size false) = true) (hS : S w.drew) (h : wpOrdT P ops (Calm Q) T S l a w.drew) : RW P ops true Q a w := by
  refine ⟨⟨hm, wpAny_of_T (T := T) (S := S) _ _ _ _ ?_⟩⟩
  rw [← hl]
  rw [← hl] at ok
  refine wpOrd0_sound hs Calm.dead l _ _ _ ok ?_ (by simpa using hl) (fun _ => hS) h.out
  intro j oj _ hl
  simp at hl
  exact absurd hl (by
    rcases Nat.lt_or_ge j l.length with h' | h'
    · simp [h']
    · simp [h'])

theorem rw_ordF {a : Act} {w : World} {S : World → Prop} (l : List (Nat × Bool)) (T : List Nat) (sm : List (Nat × Nat × Nat)) (hm : P.follows .mixedOrders = true) (hs : Region.noSelect ops = true) (hl : l.length = ops.size)
    (hsm : sums ops = sm) (ok : (edgesIn sm.length sm && fastGo sm T l 0) = true) (hS : S w.drew) (h : wpOrdT P ops (Calm Q) T S l a w.drew) : RW P ops true Q a w := by
  subst hsm
  rw [Bool.and_eq_true] at ok
  have hlen : (sums ops).length = ops.size := by simp [sums]
  rw [hlen] at ok
  refine ⟨⟨hm, wpAny_of_T (T := T) (S := S) _ _ _ _ ?_⟩⟩
  rw [← hl]
  refine fast_sound hs Calm.dead ok.1 l _ 0 _ _ ok.2 (fun j hj => ?_) ?_ (by simpa using hl) (fun _ => hS) h.out
  · simp at hj
    simp [hj]
  · intro j oj _ hl
    simp at hl
    exact absurd hl (by
      rcases Nat.lt_or_ge j l.length with h' | h'
      · simp [h']
      · simp [h'])
theorem rw_lin {a : Act} {w : World} (l : List (Nat × Bool)) (hl : l = (List.range ops.size).map (fun i => (i, false))) (h : wpOrdT P ops (Calm Q) [] (fun _ => True) l a w) : RW P ops false Q a w :=
  ⟨by have := wpOrd0_lin _ a w (hl ▸ h.out); simpa using this⟩
theorem wpOrdT_doneC {T : List Nat} {S : World → Prop} {a : Act} {w : World} (h : Q .normal a w) : wpOrdT P ops (Calm Q) T S [] a w := ⟨h⟩

/-! ### a region that calls yield -/
theorem wpAnyIn_more {md : Region.Mode} : ∀ (f : Nat) (L : Array Bool) (a : Act) (w : World), wpAnyIn (WF r) n P md ops Q f L a w → wpAnyIn (WF r) n P md ops Q (f + 1) L a w
  | 0, L, a, w, h => ⟨fun _ => h.2, fun i hi => by rw [h.1] at hi; cases hi⟩
  | f + 1, L, a, w, h => ⟨h.1, fun i hi => wpOpIn_mono (fun a' w' h' => wpAnyIn_more f _ a' w' h') (h.2 i hi)⟩
theorem wpAnyIn_add {md : Region.Mode} (g f : Nat) (L : Array Bool) (a : Act) (w : World) (h : wpAnyIn (WF r) n P md ops Q g L a w) : wpAnyIn (WF r) n P md ops Q (f + g) L a w := by
  induction f with
  | zero => rw [Nat.zero_add]; exact h
  | succ f ih => rw [show f + 1 + g = (f + g) + 1 from by omega]; exact wpAnyIn_more _ _ _ _ ih

theorem head_in {md : Region.Mode} {m g : Nat} {opsT : Array Oper} {Q1 : Exit → Act → World → Prop} (hd : noDefer ops = true) (hs : Region.sinkB md ops m = true) (ha : afterB md ops m = true) (hb : backB ops = true) (hm : m < ops.size)
    (hG : ∀ a w, Q1 .normal a w → wpAnyIn (WF r) n P md ops Q g (stK ops.size m) a w) :
    ∀ (f : Nat) (LT L : Array Bool) (a : Act) (w : World), Trunc m opsT ops LT L → HeadInv md ops m L → wpAny P md opsT (Calm Q1) f LT a w → wpAnyIn (WF r) n P md ops Q (f + g) L a w := by
  have done : ∀ (f : Nat) (LT L : Array Bool) (a : Act) (w : World), Trunc m opsT ops LT L → HeadInv md ops m L → Region.ready md opsT LT = [] → Q1 .normal a w → wpAnyIn (WF r) n P md ops Q (f + g) L a w := by
    intro f LT L a w ht inv hr hg
    have hall := ht.all hb (Nat.le_of_lt hm) hr
    have e : L = stK ops.size m := by
      apply Array.ext_getElem?
      intro j
      by_cases hj : j < ops.size
      · rw [stK_get _ _ _ hj]
        by_cases hjn : j < m
        · have h1 := hall j hjn
          have h2 := ht.get j hjn
          have h3 : j < LT.size := by rw [ht.lsz]; exact hjn
          simp [h3] at h1
          rw [← h2, Array.getElem?_eq_getElem h3, h1]
          simp [hjn]
        · have h1 := inv.tail j (by omega) hj
          have h3 : j < L.size := by rw [inv.size]; exact hj
          simp [h3] at h1
          rw [Array.getElem?_eq_getElem h3, h1]
          simp [hjn]
      · rw [Array.getElem?_eq_none (by rw [inv.size]; omega), Array.getElem?_eq_none (by rw [stK_size]; omega)]
    subst e
    exact wpAnyIn_add _ _ _ _ _ (hG a w hg)
  intro f
  induction f with
  | zero =>
    intro LT L a w ht inv h
    exact done 0 LT L a w ht inv h.1 h.2
  | succ f ih =>
    intro LT L a w ht inv h
    by_cases hr : Region.ready md opsT LT = []
    · exact done (f + 1) LT L a w ht inv hr (h.1 hr)
    · obtain ⟨i0, hi0⟩ := List.exists_mem_of_ne_nil _ hr
      have hi0n : i0 < m := by
        obtain ⟨_, o, ho, _⟩ := mem_ready.1 hi0
        have := (Array.getElem?_eq_some_iff.1 ho).1
        rw [ht.size] at this
        exact this
      have hi0r := (ht.ready (md := md) hb hi0n).1 hi0
      have hun := (mem_ready.1 hi0r).1
      rw [show f + 1 + g = (f + g) + 1 from by omega]
      refine ⟨fun h0 => (by rw [h0] at hi0r; cases hi0r), fun i hi => ?_⟩
      have hin : i < m := by
        rcases Nat.lt_or_ge i m with h1 | h1
        · exact h1
        · exact absurd hi (no_tail hs ha inv hi0n hm hun i h1)
      have h1 := h.2 i ((ht.ready (md := md) hb hin).2 hi)
      have ho : ops[i]? = some ops[i] := Array.getElem?_eq_getElem (by omega)
      have h2 : wpOpIn (WF r) n P ops Q i (wpAny P md opsT (Calm Q1) f (LT.setIfInBounds i true)) a w := by
        unfold wpOp at h1
        unfold wpOpIn
        rw [ht.ops i hin, ho] at h1
        rw [ho]
        simp only [ht.wanted hb hin ho] at h1
        simp only
        by_cases hw : Region.wanted ops[i] (yielded ops a.tmps) = true
        · simp only [hw, if_true] at h1 ⊢
          rcases h1 with h1 | ⟨_, h1⟩
          · exact wpIn_of_wp (noDefer_spec hd ho) h1
          · exact (Calm.letsOut h1).elim
        · rw [Bool.not_eq_true] at hw
          simp only [hw, Bool.false_eq_true, if_false] at h1 ⊢
          exact ⟨fun _ _ => trivial, h1⟩
      exact wpOpIn_mono (fun a' w' hK => ih _ _ a' w' (ht.set hin) (inv.set hi hin) hK) h2

/-- from k on one after the other -/
def chainB (md : Region.Mode) (ops : Array Oper) : Nat → Nat → Bool
  | 0, k => Region.ready md ops (stK ops.size k) == []
  | f + 1, k => Region.ready md ops (stK ops.size k) == [k] && chainB md ops f (k + 1)
theorem chain_in {md : Region.Mode} : ∀ (f k : Nat) (a : Act) (w : World), chainB md ops f k = true → wpOpsIn (WF r) n P ops Q (List.range' k f) a w → wpAnyIn (WF r) n P md ops Q f (stK ops.size k) a w
  | 0, k, a, w, hc, h => ⟨by simpa [chainB] using hc, by simpa [wpOpsIn] using h⟩
  | f + 1, k, a, w, hc, h => by
    simp only [chainB, Bool.and_eq_true, beq_iff_eq] at hc
    rw [List.range'_succ, wpOpsIn_cons] at h
    refine ⟨fun h0 => (by rw [h0] at hc; cases hc.1), fun i hi => ?_⟩
    rw [hc.1] at hi
    obtain rfl : i = k := by simpa using hi
    exact wpOpIn_mono (fun a' w' h' => chain_in f (i + 1) a' w' hc.2 h') h

def barY (l : List Oper) (m : Nat) : Bool :=
  decide (m < l.length) && Region.sinkB .any l.toArray m && afterB .any l.toArray m && backB l.toArray && noDefer l.toArray && chainB .any l.toArray (l.length - m) m

/-- a drawn region: all that stands ahead of the m-th operation, walked as a region of its own; then the rest, one after the other -/
theorem wpIn_region_yield {id : Nat} {a : Act} {w : World} {l : List Oper} {Q1 : Exit → Act → World → Prop} (m : Nat) (hB : barY l m = true) (h : RW P (l.take m).toArray true Q1 a w)
    (hG : ∀ a w, Q1 .normal a w → wpOpsIn (WF r) n P l.toArray Q (List.range' m (l.length - m)) a w) : (Code.region id l.toArray true).wpIn (WF r) n P Q a w := by
  simp only [barY, Bool.and_eq_true, decide_eq_true_eq] at hB
  obtain ⟨⟨⟨⟨⟨hm, hs⟩, ha⟩, hb⟩, hd⟩, hc⟩ := hB
  have h := h.out
  simp only [if_true] at h
  refine wpIn_region_any h.1 ?_
  have hm' : m < l.toArray.size := by simpa using hm
  have htl : (l.take m).length = m := by simp; omega
  have T : Trunc m (l.take m).toArray l.toArray (Array.replicate m false) (Array.replicate l.toArray.size false) :=
    ⟨fun i hi => by simp [hi], by simpa using htl, by simp, fun i hi => by simp [hi, show i < l.length from by omega]⟩
  have inv0 : HeadInv .any l.toArray m (Array.replicate l.toArray.size false) :=
    ⟨by simp, fun j oj _ hl => (by rw [getD_replicate_false] at hl; cases hl), fun t _ ht => getD_in (by simpa using ht) (getD_replicate_false _ _)⟩
  have h2 := h.2
  have hsz : (l.take m).toArray.size = m := by simpa using htl
  rw [hsz] at h2
  have HH := head_in (P := P) (Q := Q) (n := n) (r := r) (g := l.length - m) hd hs ha hb hm' (fun a' w' hq => chain_in _ _ _ _ hc (hG a' w' hq)) m _ _ a w.drew T inv0 h2
  rw [show m + (l.length - m) = l.toArray.size from by simp; omega] at HH
  exact HH
theorem wpIn_region_yieldL {id : Nat} {a : Act} {w : World} {l : List Oper} {Q1 : Exit → Act → World → Prop} (m : Nat) (hB : (decide (m < l.length) && backB l.toArray && noDefer l.toArray) = true) (h : RW P (l.take m).toArray false Q1 a w)
    (hG : ∀ a w, Q1 .normal a w → wpOpsIn (WF r) n P l.toArray Q (List.range' m (l.length - m)) a w) : (Code.region id l.toArray false).wpIn (WF r) n P Q a w := by
  simp only [Bool.and_eq_true, decide_eq_true_eq] at hB
  obtain ⟨⟨hm, hb⟩, hd⟩ := hB
  have h := h.out
  simp only [Bool.false_eq_true, if_false] at h
  refine wpIn_region ?_
  have htl : (l.take m).length = m := by simp; omega
  have hsz : (l.take m).toArray.size = m := by simpa using htl
  have T : Trunc m (l.take m).toArray l.toArray (Array.replicate m false) (Array.replicate l.toArray.size false) :=
    ⟨fun i hi => by simp [hi], by simpa using htl, by simp, fun i hi => by simp [hi, show i < l.length from by omega]⟩
  rw [hsz, List.range_eq_range'] at h
  rw [List.range_eq_range', show l.toArray.size = m + (l.length - m) from by simp; omega]
  have key : ∀ (f k : Nat) (a : Act) (w : World), k + f = m → wpOps P (l.take m).toArray (Calm Q1) (List.range' k f) a w → wpOpsIn (WF r) n P l.toArray Q (List.range' k (f + (l.length - m))) a w := by
    intro f
    induction f with
    | zero =>
      intro k a w hk h
      obtain rfl : k = m := by omega
      rw [Nat.zero_add]
      exact hG a w h
    | succ f ih =>
      intro k a w hk h
      rw [List.range'_succ, wpOps_cons] at h
      rw [show f + 1 + (l.length - m) = (f + (l.length - m)) + 1 from by omega, List.range'_succ, wpOpsIn_cons]
      have hin : k < m := by omega
      have ho : l.toArray[k]? = some (l.toArray[k]'(by simp; omega)) := Array.getElem?_eq_getElem (by simp; omega)
      refine wpOpIn_mono (fun a' w' h' => ih (k + 1) a' w' (by omega) h') ?_
      unfold wpOp at h
      unfold wpOpIn
      rw [T.ops k hin, ho] at h
      rw [ho]
      simp only [T.wanted hb hin ho] at h
      simp only
      by_cases hw : Region.wanted (l.toArray[k]'(by simp; omega)) (yielded l.toArray a.tmps) = true
      · simp only [hw, if_true] at h ⊢
        rcases h with h | ⟨_, h⟩
        · exact wpIn_of_wp (noDefer_spec hd ho) h
        · exact (Calm.letsOut h).elim
      · rw [Bool.not_eq_true] at hw
        simp only [hw, Bool.false_eq_true, if_false] at h ⊢
        exact ⟨fun _ _ => trivial, h⟩
  exact key m 0 a w (by omega) h
end
end Go.Gl

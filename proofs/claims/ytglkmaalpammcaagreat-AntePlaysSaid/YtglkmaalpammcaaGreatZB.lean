/- Parts of the proof, one behind the other: Bar, In, PgR, PgW, Cat, Del1, Del2, PgD, PgJ, PgE, PgG, KvPr, R6S. -/
import Derived.StillTail
import Derived.Deep.QuietTactic
import Derived.WalkKit
import Derived.Test.YtglkmaalpammcaaGreatZA
import Derived.OrdersIn
import Derived.RangeFuncSeq
import Derived.Lib.Overlaps
import Derived.Laws.Externs
import Derived.StillTailTactics
import Derived.Outline
set_option linter.unusedSimpArgs false
set_option linter.unusedVariables false
set_option maxRecDepth 100000
namespace Go.Gl
open Go.RowKit
section
variable {P : Program} {ops : Array Oper} {md : Region.Mode}
theorem wpAny_more {Q : Exit → Act → World → Prop} : ∀ (f : Nat) (listed : Array Bool) (a : Act) (w : World), wpAny P md ops Q f listed a w → wpAny P md ops Q (f + 1) listed a w
 | 0, listed, a, w, h => ⟨fun _ => h.2, fun i hi => by rw [h.1] at hi; cases hi⟩
 | f + 1, listed, a, w, h => ⟨h.1, fun i hi => wpOp_mono (fun a' w' h' => wpAny_more f _ a' w' h') (h.2 i hi)⟩
theorem wpAny_add {Q : Exit → Act → World → Prop} (g f : Nat) (listed : Array Bool) (a : Act) (w : World) (h : wpAny P md ops Q g listed a w) : wpAny P md ops Q (f + g) listed a w := by
 induction f with
 | zero => rw [Nat.zero_add]; exact h
 | succ f ih => rw [show f + 1 + g = (f + g) + 1 from by omega]; exact wpAny_more _ _ _ _ ih
def stK (N : Nat) : Nat → Array Bool
 | 0 => Array.replicate N false
 | k + 1 => (stK N k).setIfInBounds k true
theorem stK_size (N k : Nat) : (stK N k).size = N := by
 induction k with
 | zero => simp [stK]
 | succ k ih => simp [stK, ih]
theorem stK_get (N k j : Nat) (hj : j < N) : (stK N k)[j]? = some (decide (j < k)) := by
  induction k with
  | zero => simp [stK, hj]
  | succ k ih =>
    rw [stK]
    by_cases h : k = j
    · subst h
      rw [Array.getElem?_setIfInBounds_self_of_lt (by rw [stK_size]; exact hj)]
      simp
    · rw [Array.getElem?_setIfInBounds_ne h, ih]
      congr 1
      exact decide_eq_decide.2 (by omega)
def afterB (md : Region.Mode) (ops : Array Oper) (n : Nat) : Bool :=
 (List.range ops.size).all fun t => decide (t ≤ n) || (List.range t).any fun j => decide (n ≤ j) && Region.waitsFor md ops t j
def backB (ops : Array Oper) : Bool :=
 (List.range ops.size).all fun i => match ops[i]? with
  | none => true
  | some o => o.after.all (fun e => decide (e.on < i)) && (match o.guard with | none => true | some (g, _) => decide (g < i))
def barB (md : Region.Mode) (l : List Oper) (n : Nat) : Bool :=
 decide (n < l.length) && Region.noSelect l.toArray && Region.sinkB md l.toArray n && afterB md l.toArray n && backB l.toArray &&
 Region.lexFrom md (l.take n).toArray n 0 (Array.replicate n false) && decide (Region.ready md l.toArray (stK l.length n) = [n]) && Region.lexFrom md l.toArray (l.length - (n + 1)) (n + 1) (stK l.length (n + 1))
theorem no_tail {n : Nat} {L : Array Bool} (hs : Region.sinkB md ops n = true) (ha : afterB md ops n = true) (inv : HeadInv md ops n L) {i : Nat} (hi : i < n) (hn : n < ops.size) (hun : L.getD i true = false) : ∀ t, n ≤ t → t ∉ Region.ready md ops L := by
  intro t ht hr
  obtain ⟨_, ot, hot, hall⟩ := mem_ready.1 hr
  have htlt : t < ops.size := (Array.getElem?_eq_some_iff.1 hot).1
  by_cases htn : t = n
  · subst htn
    have key : ∀ (d k : Nat), t - k = d → k < t → L.getD k false = true := by
      intro d
      induction d using Nat.strongRecOn with
      | _ d ih =>
        intro k hd hk
        obtain ⟨j, hj, hj2⟩ := List.any_eq_true.1 (List.all_eq_true.1 hs k (List.mem_range.2 hk))
        simp only [Bool.and_eq_true, decide_eq_true_eq] at hj2
        obtain ⟨oj, hoj, e, he, hb, hon⟩ := Region.waitsFor_spec hj2.2
        have hjle := List.mem_range.1 hj
        by_cases hjt : j = t
        · subst hjt
          obtain rfl : oj = ot := Option.some.inj (hoj.symm.trans hot)
          have := hall e he hb
          rwa [hon] at this
        · have := inv.closed j oj hoj (ih (t - j) (by omega) j rfl (by omega)) e he hb
          rwa [hon] at this
    have := key _ i rfl hi
    have hil : i < L.size := by rw [inv.size]; omega
    simp [hil] at this hun
    rw [hun] at this
    cases this
  · have h1 := List.all_eq_true.1 ha t (List.mem_range.2 htlt)
    simp only [Bool.or_eq_true, decide_eq_true_eq] at h1
    obtain ⟨j, hj, hj2⟩ := List.any_eq_true.1 (h1.resolve_left (by omega))
    simp only [Bool.and_eq_true, decide_eq_true_eq] at hj2
    obtain ⟨oj, hoj, e, he, hb, hon⟩ := Region.waitsFor_spec hj2.2
    obtain rfl : oj = ot := Option.some.inj (hoj.symm.trans hot)
    have h2 := hall e he hb
    have hjt := List.mem_range.1 hj
    have h3 := inv.tail j hj2.1 (by omega)
    have hjl : j < L.size := by rw [inv.size]; omega
    rw [hon] at h2
    simp [hjl] at h2 h3
    rw [h3] at h2
    cases h2
theorem backB_spec (h : backB ops = true) {i : Nat} {o : Oper} (hi : ops[i]? = some o) : (∀ e ∈ o.after, e.on < i) ∧ ∀ g b, o.guard = some (g, b) → g < i := by
 have hlt : i < ops.size := (Array.getElem?_eq_some_iff.1 hi).1
 have h1 := List.all_eq_true.1 h i (List.mem_range.2 hlt)
 simp only [hi, Bool.and_eq_true] at h1
 refine ⟨fun e he => by simpa using Array.all_eq_true_iff_forall_mem.1 h1.1 e he, fun g b hg => ?_⟩
 have h2 := h1.2
 rw [hg] at h2
 simpa using h2
structure Trunc (n : Nat) (opsT ops : Array Oper) (LT L : Array Bool) : Prop where
 ops : ∀ i, i < n → opsT[i]? = ops[i]?
 size : opsT.size = n
 lsz : LT.size = n
 get : ∀ i, i < n → LT[i]? = L[i]?
theorem Trunc.set {n i : Nat} {opsT ops : Array Oper} {LT L : Array Bool} (h : Trunc n opsT ops LT L) (hi : i < n) : Trunc n opsT ops (LT.setIfInBounds i true) (L.setIfInBounds i true) := by
 refine ⟨h.ops, h.size, by simpa using h.lsz, fun j hj => ?_⟩
 have hL : i < L.size := by
  have h1 := h.get i hi
  have h2 : i < LT.size := by rw [h.lsz]; exact hi
  rw [Array.getElem?_eq_getElem h2] at h1
  exact (Array.getElem?_eq_some_iff.1 h1.symm).1
 by_cases hij : i = j
 ·subst hij
  rw [Array.getElem?_setIfInBounds_self_of_lt (by rw [h.lsz]; exact hi), Array.getElem?_setIfInBounds_self_of_lt hL]
 ·rw [Array.getElem?_setIfInBounds_ne hij, Array.getElem?_setIfInBounds_ne hij]
  exact h.get j hj
theorem Trunc.ready {n : Nat} {opsT ops : Array Oper} {LT L : Array Bool} (h : Trunc n opsT ops LT L) (hb : backB ops = true) {i : Nat} (hi : i < n) : i ∈ Region.ready md opsT LT ↔ i ∈ Region.ready md ops L := by
 have g : ∀ j, j < n → ∀ d, LT.getD j d = L.getD j d := fun j hj d => by
  have h1 := h.get j hj
  have h2 : j < LT.size := by rw [h.lsz]; exact hj
  rw [Array.getElem?_eq_getElem h2] at h1
  have h3 := (Array.getElem?_eq_some_iff.1 h1.symm)
  obtain ⟨h4, h5⟩ := h3
  simp [h2, h4, h5]
 rw [mem_ready, mem_ready, g i hi, h.ops i hi]
 constructor
 ·rintro ⟨h1, o, ho, h2⟩
  exact ⟨h1, o, ho, fun e he hbd => by rw [← g e.on (by have := (backB_spec hb ho).1 e he; omega)]; exact h2 e he hbd⟩
 ·rintro ⟨h1, o, ho, h2⟩
  exact ⟨h1, o, ho, fun e he hbd => by rw [g e.on (by have := (backB_spec hb ho).1 e he; omega)]; exact h2 e he hbd⟩
theorem Trunc.wanted {n i : Nat} {opsT ops : Array Oper} {LT L : Array Bool} (h : Trunc n opsT ops LT L) (hb : backB ops = true) (hi : i < n) {o : Oper} (ho : ops[i]? = some o) (tm : Array Value) : Region.wanted o (yielded opsT tm) = Region.wanted o (yielded ops tm) := by
  unfold Region.wanted
  cases hg : o.guard with
  | none => rfl
  | some p =>
    obtain ⟨g, b⟩ := p
    have hgi := (backB_spec hb ho).2 g b hg
    simp only [yielded, h.ops g (by omega)]
theorem Trunc.all {n : Nat} {opsT ops : Array Oper} {LT L : Array Bool} (h : Trunc n opsT ops LT L) (hb : backB ops = true) (hn : n ≤ ops.size) (hr : Region.ready md opsT LT = []) : ∀ i, i < n → LT.getD i false = true := by
  intro i
  induction i using Nat.strongRecOn with
  | _ i ih =>
    intro hi
    cases hl : LT.getD i false with
    | true => rfl
    | false =>
      have hsz : i < LT.size := by rw [h.lsz]; exact hi
      have hl' : LT.getD i true = false := by simp [hsz] at hl ⊢; exact hl
      have hlt : i < ops.size := by omega
      have ho : ops[i]? = some ops[i] := Array.getElem?_eq_getElem hlt
      have : i ∈ Region.ready md opsT LT := mem_ready.2 ⟨hl', ops[i], by rw [h.ops i hi, ho], fun e he _ => ih e.on ((backB_spec hb ho).1 e he) (by have := (backB_spec hb ho).1 e he; omega)⟩
      rw [hr] at this
      cases this
theorem head_any {n g : Nat} {opsT : Array Oper} {C : World → Prop} {G : Act → Prop} {Q : Exit → Act → World → Prop} (hs : Region.sinkB md ops n = true) (ha : afterB md ops n = true) (hb : backB ops = true) (hn : n < ops.size)
    (hG : ∀ a w, C w → G a → wpAny P md ops Q g (stK ops.size n) a w) :
    ∀ (f : Nat) (LT L : Array Bool) (a : Act) (w : World), Trunc n opsT ops LT L → HeadInv md ops n L → C w → wpAnyQ P md opsT C G f LT a → wpAny P md ops Q (f + g) L a w := by
  have done : ∀ (f : Nat) (LT L : Array Bool) (a : Act) (w : World), Trunc n opsT ops LT L → HeadInv md ops n L → C w → Region.ready md opsT LT = [] → G a → wpAny P md ops Q (f + g) L a w := by
    intro f LT L a w ht inv hC hr hg
    have hall := ht.all hb (Nat.le_of_lt hn) hr
    have e : L = stK ops.size n := by
      apply Array.ext_getElem?
      intro j
      by_cases hj : j < ops.size
      · rw [stK_get _ _ _ hj]
        by_cases hjn : j < n
        · have h1 := hall j hjn
          have h2 := ht.get j hjn
          have h3 : j < LT.size := by rw [ht.lsz]; exact hjn
          simp [h3] at h1
          rw [← h2, Array.getElem?_eq_getElem h3, h1]
          simp [hjn]
        · have h1 := inv.tail j (by omega) hj
          have h3 : j < L.size := by rw [inv.size]; exact hj
          simp [h3] at h1
          rw [Array.getElem?_eq_getElem h3, h1]
          simp [hjn]
      · rw [Array.getElem?_eq_none (by rw [inv.size]; omega), Array.getElem?_eq_none (by rw [stK_size]; omega)]
    subst e
    exact wpAny_add _ _ _ _ _ (hG a w hC hg)
  intro f
  induction f with
  | zero =>
    intro LT L a w ht inv hC h
    exact done 0 LT L a w ht inv hC h.1 h.2
  | succ f ih =>
    intro LT L a w ht inv hC h
    by_cases hr : Region.ready md opsT LT = []
    · exact done (f + 1) LT L a w ht inv hC hr (h.1 hr)
    · obtain ⟨i0, hi0⟩ := List.exists_mem_of_ne_nil _ hr
      have hi0n : i0 < n := by
        obtain ⟨_, o, ho, _⟩ := mem_ready.1 hi0
        have := (Array.getElem?_eq_some_iff.1 ho).1
        rw [ht.size] at this
        exact this
      have hi0r := (ht.ready (md := md) hb hi0n).1 hi0
      have hun := (mem_ready.1 hi0r).1
      rw [show f + 1 + g = (f + g) + 1 from by omega]
      refine ⟨fun h0 => (by rw [h0] at hi0r; cases hi0r), fun i hi => ?_⟩
      have hin : i < n := by
        rcases Nat.lt_or_ge i n with h1 | h1
        · exact h1
        · exact absurd hi (no_tail hs ha inv hi0n hn hun i h1)
      have h1 := h.2 i ((ht.ready (md := md) hb hin).2 hi)
      have ho : ops[i]? = some ops[i] := Array.getElem?_eq_getElem (by omega)
      have h2 : qOp P ops C i (wpAnyQ P md opsT C G f (LT.setIfInBounds i true)) a := by
        unfold qOp at h1 ⊢
        rw [ht.ops i hin, ho] at h1
        rw [ho]
        simp only [ht.wanted hb hin ho] at h1
        exact h1
      exact wpOp_of_qOp hC (fun a' w' hC' hK => ih _ _ a' w' (ht.set hin) (inv.set hi hin) hC' hK) h2
def Bar (Q : Exit → Act → World → Prop) (K : Act → World → Prop) : Exit → Act → World → Prop
 | .normal, a, w => K a w
 | e, a, w => Q e a w
theorem wp_region_bar {id : Nat} {Q : Exit → Act → World → Prop} {a : Act} {w : World} {l : List Oper} (n : Nat) (hm : P.follows .mixedOrders = true) (hB : barB .any l n = true)
  (h : wpQuiet P (l.take n).toArray (fun w' => ∃ q, w' = w.drewN q) (fun a' => ∀ w', (∃ q, w' = w.drewN q) → wpOp P l.toArray Q n (fun a2 w2 =>
   wpQuiet P l.toArray (fun w' => ∃ q, w' = w2.drewN q) (fun a3 => ∀ w', (∃ q, w' = w2.drewN q) → Q .normal a3 w') (l.drop (n + 1)) a2) a' w') (l.take n) a) : (Code.region id l.toArray true).wp P Q a w := by
 simp only [barB, Bool.and_eq_true, decide_eq_true_eq] at hB
 obtain ⟨⟨⟨⟨⟨⟨⟨hn, hsel⟩, hs⟩, ha⟩, hb⟩, hl1⟩, hr⟩, hl2⟩ := hB
 refine wp_region_any hm ?_
 have hn' : n < l.toArray.size := by simpa using hn
 have htl : (l.take n).length = n := by simp; omega
 have hselT : Region.noSelect (l.take n).toArray = true := by
  unfold Region.noSelect at hsel ⊢
  rw [Array.all_eq_true_iff_forall_mem] at hsel ⊢
  intro o ho
  exact hsel o (by simpa using List.mem_of_mem_take (by simpa using ho))
 have H := wpAnyQ_lex (P := P) (md := .any) (C := fun w' => ∃ q, w' = w.drewN q) (ops := (l.take n).toArray) hselT (l.take n) 0 (Array.replicate n false) a (by simp) (by rw [htl]; exact hl1) h
 have T : Trunc n (l.take n).toArray l.toArray (Array.replicate n false) (Array.replicate l.toArray.size false) :=
  ⟨fun i hi => by simp [hi], by simpa using htl, by simp, fun i hi => by simp [hi, show i < l.length from by omega]⟩
 have inv0 : HeadInv .any l.toArray n (Array.replicate l.toArray.size false) :=
  ⟨by simp, fun j oj _ hl => (by rw [getD_replicate_false] at hl; cases hl), fun t _ ht => getD_in (by simpa using ht) (getD_replicate_false _ _)⟩
 have HH := head_any (P := P) (Q := Q) (g := l.length - n) hs ha hb hn' (fun a' w' hC hG => by
  rw [show l.length - n = (l.length - (n + 1)) + 1 from by omega]
  have hsz : l.toArray.size = l.length := by simp
  rw [hsz]
  refine ⟨fun h0 => (by rw [h0] at hr; cases hr), fun i hi => ?_⟩
  rw [hr] at hi
  obtain rfl : i = n := by simpa using hi
  refine wpOp_mono (fun a2 w2 h2 => ?_) (hG w' hC)
  have H2 := wpAnyQ_lex (P := P) (md := .any) (C := fun w' => ∃ q, w' = w2.drewN q) (ops := l.toArray) hsel (l.drop (i + 1)) (i + 1) (stK l.length (i + 1)) a2 (fun j => by simp [List.getElem?_drop]) (by rw [List.length_drop]; exact hl2) h2
  rw [List.length_drop] at H2
  exact wpAny_of_quiet (fun a3 w3 hw3 hq => hq w3 hw3) _ _ a2 w2 ⟨0, rfl⟩ H2)
  (l.take n).length (Array.replicate n false) (Array.replicate l.toArray.size false) a { w with drawn := w.drawn + 1 } T inv0 ⟨1, rfl⟩ H
 rw [htl, show n + (l.length - n) = l.toArray.size from by simp; omega] at HH
 exact HH
theorem upon_bar {o : Oper} {a : Act} {Q : Exit → Act → World → Prop} {K : Act → World → Prop} (r : Result Next) (h : o.upon P a (fun a w => Bar Q K .normal a w) (Bar Q K) r) : o.upon P a K Q r := by
 cases r with
 | ok n w' => cases n <;> exact h
 | halt x w' => cases x <;> exact h
theorem wpOp_bar {Q : Exit → Act → World → Prop} {K : Act → World → Prop} {n : Nat} {o : Oper} {a : Act} {w : World} (hi : ops[n]? = some o) (h : wpList P ops (Bar Q K) [o] a w) : wpOp P ops Q n K a w := by
 unfold wpOp
 rw [hi]
 simp only [wpList] at h ⊢
 split at h
 ·rename_i hw
  rw [if_pos hw]
  exact h.imp (fun h1 => upon_bar _ h1) id
 ·rename_i hw
  rw [if_neg hw]
  exact h
theorem bar_normal {Q : Exit → Act → World → Prop} {K : Act → World → Prop} {a : Act} {w : World} (h : K a w) : Bar Q K .normal a w := h
end
open Go.RowKit
abbrev WF (r : Option Nat) : Fence := { Fence.wide with round := r }
theorem WF.room (r : Option Nat) (k : Nat) : (WF r).room k := fun _ h => by simp [Fence.wide] at h
theorem callsIn_WF {r : Option Nat} {n : Nat} {P : Program} {f : FuncId} {args : Array Value} {w : World} {R : Ending → World → Prop} : CallsIn (WF r) n P f args w R ↔ Calls P f args w R := callsIn_wide (n := n)
theorem rowsIn_WF {r : Option Nat} {n : Nat} {P : Program} {row : String} {args : Array Value} {w : World} {R : Value → World → Prop} (h : Rows P row args w R) : RowsIn (WF r) n P row args w R := fun c cs _ =>
 let ⟨v, w', hr, hs⟩ := h c cs; ⟨v, w', hr, stepsIn_wide.2 hs⟩
theorem RoundIn.room {r r' : Option Nat} {n m : Nat} {P : Program} {l : Nat} {f : FuncId} {tmps : Array Value} {assign body : Code} {w : World} {R : Ending → World → Prop} (h : RoundIn (WF r) n P l f tmps assign body w R) : RoundIn (WF r') m P l f tmps assign body w R :=
 ⟨trivial, fun c cs _ => h.2 c cs (WF.room _ _)⟩
def Calm (Q : Exit → Act → World → Prop) : Exit → Act → World → Prop
 | .panic _, _, _ => False
 | .outgrown, _, _ => False
 | e, a, w => Q e a w
theorem Calm.imp {Q : Exit → Act → World → Prop} (e : Exit) (a : Act) (w : World) (h : Calm Q e a w) : Q e a w := by cases e <;> first | exact h | exact h.elim
theorem Calm.letsOut {Q : Exit → Act → World → Prop} (h : LetsOut (Calm Q)) : False := by obtain ⟨a, w, h⟩ := h; exact h
theorem Calm.dead {Q : Exit → Act → World → Prop} (c : List PanicEntry) (a : Act) (d : Option Tmp) (v : Value) (w : World) (h : Calm Q (.panic c) (a.put d v) w) : Calm Q (.panic c) a w := h
def noDefer (ops : Array Oper) : Bool := ops.all fun o => match o.op with | .defer _ => false | _ => true
theorem noDefer_spec {ops : Array Oper} (h : noDefer ops = true) {i : Nat} {o : Oper} (hi : ops[i]? = some o) (c : Call) : o.op ≠ .defer c := fun e => by
 have := Array.all_eq_true_iff_forall_mem.1 h o (Array.mem_of_getElem? hi)
 rw [e] at this
 cases this
section
variable {P : Program} {ops : Array Oper} {Q : Exit → Act → World → Prop} {r : Option Nat} {n : Nat}
theorem wpIn_of_wp {Q1 : Exit → Act → World → Prop} {o : Oper} {a : Act} {w : World} {K : Act → World → Prop} (hd : ∀ c, o.op ≠ .defer c) (h : o.wp P a w K (Calm Q1)) : o.wpIn (WF r) n P a w K Q := by
  refine ⟨fun _ _ => trivial, ?_⟩
  rw [Oper.semAt_eq _ _ _ hd]
  unfold Oper.wp at h
  generalize (execOp a.eval o).run P w = res at *
  cases res with
  | ok x w' =>
    cases x with
    | value v => exact h
    | skip => exact h
    | defer d => exact h
    | enter f args =>
      refine ⟨fun h0 => (by simp [Fence.wide] at h0), callsIn_WF.2 (Calls.mono h (fun e w'' he => ?_))⟩
      cases e with
      | returned v => exact he
      | panicked ch => exact he.elim
      | outgrown => exact (Calm.letsOut he).elim
    | row row args => exact ⟨fun h0 => (by simp [Fence.wide] at h0), rowsIn_WF h⟩
    | _ => exact h.elim
  | halt x w' =>
    cases x <;> exact h.elim
theorem wpOpIn_of {i : Nat} {K : Act → World → Prop} {a : Act} {w : World} (hd : noDefer ops = true) (h : wpOp P ops (Calm Q) i K a w) : wpOpIn (WF r) n P ops Q i K a w := by
  unfold wpOp at h
  unfold wpOpIn
  cases ho : ops[i]? with
  | none => simpa [ho] using h
  | some o =>
    simp only [ho] at h ⊢
    by_cases hw : Region.wanted o (yielded ops a.tmps) = true
    · simp only [hw, if_true] at h ⊢
      rcases h with h | ⟨_, h⟩
      · exact wpIn_of_wp (noDefer_spec hd ho) h
      · exact (Calm.letsOut h).elim
    · rw [Bool.not_eq_true] at hw
      simp only [hw, Bool.false_eq_true, if_false] at h ⊢
      exact ⟨fun _ _ => trivial, h⟩
theorem wpAnyIn_of {md : Region.Mode} (hd : noDefer ops = true) : ∀ (fuel : Nat) (L : Array Bool) (a : Act) (w : World), wpAny P md ops (Calm Q) fuel L a w → wpAnyIn (WF r) n P md ops Q fuel L a w
 | 0, _, _, _, h => h
 | fuel + 1, L, a, w, h => ⟨h.1, fun i hi => wpOpIn_mono (fun a' w' h' => wpAnyIn_of hd fuel _ a' w' h') (wpOpIn_of hd (h.2 i hi))⟩
theorem wpOpsIn_of (hd : noDefer ops = true) : ∀ (l : List Nat) (a : Act) (w : World), wpOps P ops (Calm Q) l a w → wpOpsIn (WF r) n P ops Q l a w
  | [], _, _, h => h
  | i :: l, a, w, h => by
    rw [wpOps_cons] at h
    rw [wpOpsIn_cons]
    exact wpOpIn_mono (fun a' w' h' => wpOpsIn_of hd l a' w' h') (wpOpIn_of hd h)
structure RW (P : Program) (ops : Array Oper) (draws : Bool) (Q : Exit → Act → World → Prop) (a : Act) (w : World) : Prop where
 out : if draws then P.follows .mixedOrders = true ∧ wpAny P .any ops (Calm Q) ops.size (Array.replicate ops.size false) a w.drew else wpOps P ops (Calm Q) (List.range ops.size) a w
theorem RW.wp {draws : Bool} {a : Act} {w : World} {id : Nat} (h : RW P ops draws Q a w) : (Code.region id ops draws).wp P Q a w := by
 have h := h.out
 cases draws with
 | true => exact Code.wp_mono Calm.imp (wp_region_any h.1 h.2)
 | false => exact Code.wp_mono Calm.imp (wp_region h)
theorem RW.wpIn {draws : Bool} {a : Act} {w : World} {id : Nat} (h : RW P ops draws Q a w) (hd : noDefer ops = true) : (Code.region id ops draws).wpIn (WF r) n P Q a w := by
 have h := h.out
 cases draws with
 | true => exact wpIn_region_any h.1 (wpAnyIn_of hd _ _ _ _ h.2)
 | false => exact wpIn_region (wpOpsIn_of hd _ _ _ h)
theorem rw_ordT {a : Act} {w : World} {S : World → Prop} (l : List (Nat × Bool)) (T : List Nat) (hm : P.follows .mixedOrders = true) (hs : Region.noSelect ops = true) (hl : l.length = ops.size)
  (ok : ordOkT .any ops T l (Array.replicate ops.size false) = true) (hS : S w.drew) (h : wpOrdT P ops (Calm Q) T S l a w.drew) : RW P ops true Q a w := by
 refine ⟨⟨hm, wpAny_of_T (T := T) (S := S) _ _ _ _ ?_⟩⟩
 rw [← hl]
 rw [← hl] at ok
 refine wpOrd0_sound hs Calm.dead l _ _ _ ok ?_ (by simpa using hl) (fun _ => hS) h.out
 intro j oj _ hl
 simp at hl
 exact absurd hl (by
  rcases Nat.lt_or_ge j l.length with h' | h'
  ·simp [h']
  ·simp [h'])
theorem rw_ordF {a : Act} {w : World} {S : World → Prop} (l : List (Nat × Bool)) (T : List Nat) (sm : List (Nat × Nat × Nat)) (hm : P.follows .mixedOrders = true) (hs : Region.noSelect ops = true) (hl : l.length = ops.size)
  (hsm : sums ops = sm) (ok : (edgesIn sm.length sm && fastGo sm T l 0) = true) (hS : S w.drew) (h : wpOrdT P ops (Calm Q) T S l a w.drew) : RW P ops true Q a w := by
 subst hsm
 rw [Bool.and_eq_true] at ok
 have hlen : (sums ops).length = ops.size := by simp [sums]
 rw [hlen] at ok
 refine ⟨⟨hm, wpAny_of_T (T := T) (S := S) _ _ _ _ ?_⟩⟩
 rw [← hl]
 refine fast_sound hs Calm.dead ok.1 l _ 0 _ _ ok.2 (fun j hj => ?_) ?_ (by simpa using hl) (fun _ => hS) h.out
 ·simp at hj
  simp [hj]
 ·intro j oj _ hl
  simp at hl
  exact absurd hl (by
   rcases Nat.lt_or_ge j l.length with h' | h'
   ·simp [h']
   ·simp [h'])
theorem rw_lin {a : Act} {w : World} (l : List (Nat × Bool)) (hl : l = (List.range ops.size).map (fun i => (i, false))) (h : wpOrdT P ops (Calm Q) [] (fun _ => True) l a w) : RW P ops false Q a w :=
 ⟨by have := wpOrd0_lin _ a w (hl ▸ h.out); simpa using this⟩
theorem wpOrdT_doneC {T : List Nat} {S : World → Prop} {a : Act} {w : World} (h : Q .normal a w) : wpOrdT P ops (Calm Q) T S [] a w := ⟨h⟩
/-! ### a region that calls yield -/
theorem wpAnyIn_more {md : Region.Mode} : ∀ (f : Nat) (L : Array Bool) (a : Act) (w : World), wpAnyIn (WF r) n P md ops Q f L a w → wpAnyIn (WF r) n P md ops Q (f + 1) L a w
 | 0, L, a, w, h => ⟨fun _ => h.2, fun i hi => by rw [h.1] at hi; cases hi⟩
 | f + 1, L, a, w, h => ⟨h.1, fun i hi => wpOpIn_mono (fun a' w' h' => wpAnyIn_more f _ a' w' h') (h.2 i hi)⟩
theorem wpAnyIn_add {md : Region.Mode} (g f : Nat) (L : Array Bool) (a : Act) (w : World) (h : wpAnyIn (WF r) n P md ops Q g L a w) : wpAnyIn (WF r) n P md ops Q (f + g) L a w := by
 induction f with
 | zero => rw [Nat.zero_add]; exact h
 | succ f ih => rw [show f + 1 + g = (f + g) + 1 from by omega]; exact wpAnyIn_more _ _ _ _ ih
theorem head_in {md : Region.Mode} {m g : Nat} {opsT : Array Oper} {Q1 : Exit → Act → World → Prop} (hd : noDefer ops = true) (hs : Region.sinkB md ops m = true) (ha : afterB md ops m = true) (hb : backB ops = true) (hm : m < ops.size)
    (hG : ∀ a w, Q1 .normal a w → wpAnyIn (WF r) n P md ops Q g (stK ops.size m) a w) :
    ∀ (f : Nat) (LT L : Array Bool) (a : Act) (w : World), Trunc m opsT ops LT L → HeadInv md ops m L → wpAny P md opsT (Calm Q1) f LT a w → wpAnyIn (WF r) n P md ops Q (f + g) L a w := by
  have done : ∀ (f : Nat) (LT L : Array Bool) (a : Act) (w : World), Trunc m opsT ops LT L → HeadInv md ops m L → Region.ready md opsT LT = [] → Q1 .normal a w → wpAnyIn (WF r) n P md ops Q (f + g) L a w := by
    intro f LT L a w ht inv hr hg
    have hall := ht.all hb (Nat.le_of_lt hm) hr
    have e : L = stK ops.size m := by
      apply Array.ext_getElem?
      intro j
      by_cases hj : j < ops.size
      · rw [stK_get _ _ _ hj]
        by_cases hjn : j < m
        · have h1 := hall j hjn
          have h2 := ht.get j hjn
          have h3 : j < LT.size := by rw [ht.lsz]; exact hjn
          simp [h3] at h1
          rw [← h2, Array.getElem?_eq_getElem h3, h1]
          simp [hjn]
        · have h1 := inv.tail j (by omega) hj
          have h3 : j < L.size := by rw [inv.size]; exact hj
          simp [h3] at h1
          rw [Array.getElem?_eq_getElem h3, h1]
          simp [hjn]
      · rw [Array.getElem?_eq_none (by rw [inv.size]; omega), Array.getElem?_eq_none (by rw [stK_size]; omega)]
    subst e
    exact wpAnyIn_add _ _ _ _ _ (hG a w hg)
  intro f
  induction f with
  | zero =>
    intro LT L a w ht inv h
    exact done 0 LT L a w ht inv h.1 h.2
  | succ f ih =>
    intro LT L a w ht inv h
    by_cases hr : Region.ready md opsT LT = []
    · exact done (f + 1) LT L a w ht inv hr (h.1 hr)
    · obtain ⟨i0, hi0⟩ := List.exists_mem_of_ne_nil _ hr
      have hi0n : i0 < m := by
        obtain ⟨_, o, ho, _⟩ := mem_ready.1 hi0
        have := (Array.getElem?_eq_some_iff.1 ho).1
        rw [ht.size] at this
        exact this
      have hi0r := (ht.ready (md := md) hb hi0n).1 hi0
      have hun := (mem_ready.1 hi0r).1
      rw [show f + 1 + g = (f + g) + 1 from by omega]
      refine ⟨fun h0 => (by rw [h0] at hi0r; cases hi0r), fun i hi => ?_⟩
      have hin : i < m := by
        rcases Nat.lt_or_ge i m with h1 | h1
        · exact h1
        · exact absurd hi (no_tail hs ha inv hi0n hm hun i h1)
      have h1 := h.2 i ((ht.ready (md := md) hb hin).2 hi)
      have ho : ops[i]? = some ops[i] := Array.getElem?_eq_getElem (by omega)
      have h2 : wpOpIn (WF r) n P ops Q i (wpAny P md opsT (Calm Q1) f (LT.setIfInBounds i true)) a w := by
        unfold wpOp at h1
        unfold wpOpIn
        rw [ht.ops i hin, ho] at h1
        rw [ho]
        simp only [ht.wanted hb hin ho] at h1
        simp only
        by_cases hw : Region.wanted ops[i] (yielded ops a.tmps) = true
        · simp only [hw, if_true] at h1 ⊢
          rcases h1 with h1 | ⟨_, h1⟩
          · exact wpIn_of_wp (noDefer_spec hd ho) h1
          · exact (Calm.letsOut h1).elim
        · rw [Bool.not_eq_true] at hw
          simp only [hw, Bool.false_eq_true, if_false] at h1 ⊢
          exact ⟨fun _ _ => trivial, h1⟩
      exact wpOpIn_mono (fun a' w' hK => ih _ _ a' w' (ht.set hin) (inv.set hi hin) hK) h2
def chainB (md : Region.Mode) (ops : Array Oper) : Nat → Nat → Bool
 | 0, k => Region.ready md ops (stK ops.size k) == []
 | f + 1, k => Region.ready md ops (stK ops.size k) == [k] && chainB md ops f (k + 1)
theorem chain_in {md : Region.Mode} : ∀ (f k : Nat) (a : Act) (w : World), chainB md ops f k = true → wpOpsIn (WF r) n P ops Q (List.range' k f) a w → wpAnyIn (WF r) n P md ops Q f (stK ops.size k) a w
  | 0, k, a, w, hc, h => ⟨by simpa [chainB] using hc, by simpa [wpOpsIn] using h⟩
  | f + 1, k, a, w, hc, h => by
    simp only [chainB, Bool.and_eq_true, beq_iff_eq] at hc
    rw [List.range'_succ, wpOpsIn_cons] at h
    refine ⟨fun h0 => (by rw [h0] at hc; cases hc.1), fun i hi => ?_⟩
    rw [hc.1] at hi
    obtain rfl : i = k := by simpa using hi
    exact wpOpIn_mono (fun a' w' h' => chain_in f (i + 1) a' w' hc.2 h') h
def barY (l : List Oper) (m : Nat) : Bool :=
 decide (m < l.length) && Region.sinkB .any l.toArray m && afterB .any l.toArray m && backB l.toArray && noDefer l.toArray && chainB .any l.toArray (l.length - m) m
theorem wpIn_region_yield {id : Nat} {a : Act} {w : World} {l : List Oper} {Q1 : Exit → Act → World → Prop} (m : Nat) (hB : barY l m = true) (h : RW P (l.take m).toArray true Q1 a w)
  (hG : ∀ a w, Q1 .normal a w → wpOpsIn (WF r) n P l.toArray Q (List.range' m (l.length - m)) a w) : (Code.region id l.toArray true).wpIn (WF r) n P Q a w := by
 simp only [barY, Bool.and_eq_true, decide_eq_true_eq] at hB
 obtain ⟨⟨⟨⟨⟨hm, hs⟩, ha⟩, hb⟩, hd⟩, hc⟩ := hB
 have h := h.out
 simp only [if_true] at h
 refine wpIn_region_any h.1 ?_
 have hm' : m < l.toArray.size := by simpa using hm
 have htl : (l.take m).length = m := by simp; omega
 have T : Trunc m (l.take m).toArray l.toArray (Array.replicate m false) (Array.replicate l.toArray.size false) :=
  ⟨fun i hi => by simp [hi], by simpa using htl, by simp, fun i hi => by simp [hi, show i < l.length from by omega]⟩
 have inv0 : HeadInv .any l.toArray m (Array.replicate l.toArray.size false) :=
  ⟨by simp, fun j oj _ hl => (by rw [getD_replicate_false] at hl; cases hl), fun t _ ht => getD_in (by simpa using ht) (getD_replicate_false _ _)⟩
 have h2 := h.2
 have hsz : (l.take m).toArray.size = m := by simpa using htl
 rw [hsz] at h2
 have HH := head_in (P := P) (Q := Q) (n := n) (r := r) (g := l.length - m) hd hs ha hb hm' (fun a' w' hq => chain_in _ _ _ _ hc (hG a' w' hq)) m _ _ a w.drew T inv0 h2
 rw [show m + (l.length - m) = l.toArray.size from by simp; omega] at HH
 exact HH
theorem wpIn_region_yieldL {id : Nat} {a : Act} {w : World} {l : List Oper} {Q1 : Exit → Act → World → Prop} (m : Nat) (hB : (decide (m < l.length) && backB l.toArray && noDefer l.toArray) = true) (h : RW P (l.take m).toArray false Q1 a w)
    (hG : ∀ a w, Q1 .normal a w → wpOpsIn (WF r) n P l.toArray Q (List.range' m (l.length - m)) a w) : (Code.region id l.toArray false).wpIn (WF r) n P Q a w := by
  simp only [Bool.and_eq_true, decide_eq_true_eq] at hB
  obtain ⟨⟨hm, hb⟩, hd⟩ := hB
  have h := h.out
  simp only [Bool.false_eq_true, if_false] at h
  refine wpIn_region ?_
  have htl : (l.take m).length = m := by simp; omega
  have hsz : (l.take m).toArray.size = m := by simpa using htl
  have T : Trunc m (l.take m).toArray l.toArray (Array.replicate m false) (Array.replicate l.toArray.size false) :=
    ⟨fun i hi => by simp [hi], by simpa using htl, by simp, fun i hi => by simp [hi, show i < l.length from by omega]⟩
  rw [hsz, List.range_eq_range'] at h
  rw [List.range_eq_range', show l.toArray.size = m + (l.length - m) from by simp; omega]
  have key : ∀ (f k : Nat) (a : Act) (w : World), k + f = m → wpOps P (l.take m).toArray (Calm Q1) (List.range' k f) a w → wpOpsIn (WF r) n P l.toArray Q (List.range' k (f + (l.length - m))) a w := by
    intro f
    induction f with
    | zero =>
      intro k a w hk h
      obtain rfl : k = m := by omega
      rw [Nat.zero_add]
      exact hG a w h
    | succ f ih =>
      intro k a w hk h
      rw [List.range'_succ, wpOps_cons] at h
      rw [show f + 1 + (l.length - m) = (f + (l.length - m)) + 1 from by omega, List.range'_succ, wpOpsIn_cons]
      have hin : k < m := by omega
      have ho : l.toArray[k]? = some (l.toArray[k]'(by simp; omega)) := Array.getElem?_eq_getElem (by simp; omega)
      refine wpOpIn_mono (fun a' w' h' => ih (k + 1) a' w' (by omega) h') ?_
      unfold wpOp at h
      unfold wpOpIn
      rw [T.ops k hin, ho] at h
      rw [ho]
      simp only [T.wanted hb hin ho] at h
      simp only
      by_cases hw : Region.wanted (l.toArray[k]'(by simp; omega)) (yielded l.toArray a.tmps) = true
      · simp only [hw, if_true] at h ⊢
        rcases h with h | ⟨_, h⟩
        · exact wpIn_of_wp (noDefer_spec hd ho) h
        · exact (Calm.letsOut h).elim
      · rw [Bool.not_eq_true] at hw
        simp only [hw, Bool.false_eq_true, if_false] at h ⊢
        exact ⟨fun _ _ => trivial, h⟩
  exact key m 0 a w (by omega) h
end
end Go.Gl
namespace Go.Proofs.YtglkmaalpammcaaGreat
open Go.Gl Go.RowKit
theorem ob_new {w : World} {k : Nat} {u v : Value} {e : TypeId} (h : w.heap[k]? = some (.cells #[u, v] e (0, 0))) : OB w e 2 k 0 1 1 [u, v] :=
 ⟨rfl, Nat.le_refl _, by simp [maxLen], _, h, by simp, fun j x hj => by rw [Nat.zero_add]; simpa using hj⟩
theorem ob_new1 {w : World} {k : Nat} {u : Value} {e : TypeId} (h : w.heap[k]? = some (.cells #[u] e (0, 0))) : OB w e 1 k 0 1 1 [u] :=
 ⟨rfl, Nat.le_refl _, by simp [maxLen], _, h, by simp, fun j x hj => by rw [Nat.zero_add]; simpa using hj⟩
theorem ob_cut {w : World} {e : TypeId} {s g off n cap m : Nat} {xs : List Value} (h : OB w e s g off n cap xs) (hm : m ≤ n) : OB w e s g off m cap (xs.take (m * s)) := by
 obtain ⟨cur, h1, h2, h3⟩ := h.row
 refine ⟨by rw [List.length_take, h.hl]; exact Nat.min_eq_left (Nat.mul_le_mul_right _ hm), Nat.le_trans hm h.hn, h.hc, cur, h1, h2, fun j u hj => h3 j u ?_⟩
 have hlt := (List.getElem?_eq_some_iff.1 hj).1
 rw [List.length_take] at hlt
 rwa [List.getElem?_take_of_lt (by omega)] at hj
theorem ob_rest {w : World} {e : TypeId} {s g off n cap m : Nat} {xs : List Value} (h : OB w e s g off n cap xs) (hm : m ≤ n) : OB w e s g (off + m * s) (n - m) (cap - m) (xs.drop (m * s)) := by
 obtain ⟨cur, h1, h2, h3⟩ := h.row
 have hn := h.hn
 refine ⟨by rw [List.length_drop, h.hl, Nat.sub_mul], by omega, by have := h.hc; omega, cur, h1, ?_, fun j u hj => ?_⟩
 ·rw [Nat.sub_mul]
  have : m * s ≤ cap * s := Nat.mul_le_mul_right _ (by omega)
  omega
 ·rw [List.getElem?_drop] at hj
  rw [Nat.add_assoc]
  exact h3 _ u hj
set_option maxHeartbeats 1000000 in
theorem set10 {w : World} {g b off n cap p : Nat} {vn : Value} {pvs : List Value} (hg : w.heap[g]? = some (.cells #[.slice (some ⟨b, off, none⟩) n cap, vn] 230 (0, 0))) (hr : OB w 258 1 b off n cap pvs) (hp : p < n) {E i pb po m pc : Nat} {u v : Value} {xs : List Value} (hP : pvs[p]? = some (.slice (some ⟨pb, po, none⟩) m pc)) (hl : OB w 244 2 pb po m pc xs) (h0 : ∀ y ∈ xs, y.oneCell' = true) (he : w.heap[E]? = some (.cells #[u, v] 244 (0, 0))) (hu : u.oneCell' = true) (hv : v.oneCell' = true) (hi : i ≤ m) (hL : m ≤ 1000000) {x1 x2 x3 x4 x5 x6 x10 x11 x12 x13 x14 x15 x16 x17 x18 x19 x20 x21 x22 x23 x24 x25 x26 x27 x28 x29 x30 x31 x32 x33 x34 x35 x36 x37 x38 x39 x40 x41 x42 x43 x44 x45 x46 x47 x48 x49 x50 x51 x52 x53 x54 x55 x56 x57 x58 x59 x60 x61 x62 x63 x64 x65 x66 x67 x68 x69 x70 x71 x72 x73 x74 x75 x76 x77 x78 x79 x80 x81 x82 x83 x84 x85 x86 x87 x88 x89 x90 x91 x92 x93 x94 x95 x96 x97 x98 x99 x100 : Value} {df : List Deferred} {Q : Exit → Act → World → Prop}
  (hK : ∀ (y57 y58 y59 y60 y61 y62 y63 y64 y65 y66 y67 : Value) (v7 : Value) (w' : World), OwnG w' 244 2 v7 (m + 1) (xs.take (i * 2) ++ [u, v] ++ xs.drop (i * 2)) → Mods (fun k => k = pb) w w' → (v7.ownBlock = some pb ∨ freshIn w v7) → Q .normal ⟨#[.pointer (some ⟨g, 0, none⟩), x1, x2, x3, x4, x5, x6, .pointer (some ⟨E, 0, none⟩), .int .i64 ((p : Nat) : Int), .int .i64 ((i : Nat) : Int), x10, v7, x12, x13, x14, x15, x16, x17, x18, x19, x20, x21, x22, x23, x24, x25, x26, x27, x28, x29, x30, x31, x32, x33, x34, x35, x36, x37, x38, x39, x40, x41, x42, x43, x44, x45, x46, x47, x48, x49, x50, x51, x52, x53, x54, x55, x56, y57, y58, y59, y60, y61, y62, y63, y64, y65, y66, y67, x68, x69, x70, x71, x72, x73, x74, x75, x76, x77, x78, x79, x80, x81, x82, x83, x84, x85, x86, x87, x88, x89, x90, x91, x92, x93, x94, x95, x96, x97, x98, x99, x100], df⟩ w') : RW Tryz.prog (opsC 10 Tryz.f151) true Q ⟨#[.pointer (some ⟨g, 0, none⟩), x1, x2, x3, x4, x5, x6, .pointer (some ⟨E, 0, none⟩), .int .i64 ((p : Nat) : Int), .int .i64 ((i : Nat) : Int), x10, x11, x12, x13, x14, x15, x16, x17, x18, x19, x20, x21, x22, x23, x24, x25, x26, x27, x28, x29, x30, x31, x32, x33, x34, x35, x36, x37, x38, x39, x40, x41, x42, x43, x44, x45, x46, x47, x48, x49, x50, x51, x52, x53, x54, x55, x56, x57, x58, x59, x60, x61, x62, x63, x64, x65, x66, x67, x68, x69, x70, x71, x72, x73, x74, x75, x76, x77, x78, x79, x80, x81, x82, x83, x84, x85, x86, x87, x88, x89, x90, x91, x92, x93, x94, x95, x96, x97, x98, x99, x100], df⟩ w := by
 have HQ := Lib.hid hK
 clear hK
 have Q2 := Lib.hid (fun b' (hm : Mods noB w b') => show b'.cell? ⟨g, 0, none⟩ = some (.slice (some ⟨b, off, none⟩) n cap) from cells_of (hm.heap hg (fun x => x)) 0)
 have Q3 := Lib.hid (fun b' (hm : Mods noB w b') => show b'.cell? ⟨b, off + p, none⟩ = some (.slice (some ⟨pb, po, none⟩) m pc) from (hr.keep hm (fun x => x)).cell hP)
 have Q0 := Lib.hid (fun b' (hm : Mods noB w b') => two_cells (off := 0) (cells_of (hm.heap he (fun x => x)) 0) (cells_of (hm.heap he (fun x => x)) 1))
 have HL := Lib.hid hl
 have H0 := Lib.hid h0
 have H1 := Lib.hid (show ∀ y ∈ [u, v], y.oneCell' = true from fun y hy => by simp at hy; rcases hy with rfl | rfl <;> assumption)
 clear hg hr hP hl h0 he hu hv
 have MR := Lib.hid ((Mods.refl noB w).drew)
 refine rw_ordT (S := fun b' => Mods noB w b') [(0, true), (1, true), (2, true), (3, true), (4, true), (5, true), (6, true), (7, true), (8, true), (9, false), (10, false), (11, false)] [10, 11] (by kernel_rfl) (by kernel_rfl) (by kernel_rfl) (by kernel_rfl) MR.out ?_
 refine wpOrdT_frees [0, 1, 2] [.pointer (some ⟨g, 0, none⟩), .pointer (some ⟨g, 0, none⟩), .pointer (some ⟨g, 0, none⟩)] (rest := [(3, true), (4, true), (5, true), (6, true), (7, true), (8, true), (9, false), (10, false), (11, false)]) (by kernel_rfl) (by kernel_rfl) (fun _ => by kernel_rfl) ?_
 refine wpOrdT_free (.slice (some ⟨b, off, none⟩) n cap) (some 60) ⟨by kernel_rfl, by kernel_rfl, by kernel_rfl⟩ (fun bb hb => of_load (x := (.tmp 59)) (by kernel_rfl) (by kernel_rfl) (load_c (Q2.out _ hb) Tryz.underlying228 rfl)) ?_
 refine wpOrdT_frees [4] [.int .i64 ((p : Nat) : Int)] (rest := [(5, true), (6, true), (7, true), (8, true), (9, false), (10, false), (11, false)]) (by kernel_rfl) (by kernel_rfl) (fun _ => by kernel_rfl) ?_
 refine wpOrdT_free (.pointer (some ⟨b, off + p, none⟩)) (some 62) ⟨by kernel_rfl, by kernel_rfl, by kernel_rfl⟩ (fun bb hb => run_idx (s := 1) (e := 258) (g := b) (off := off) (n := n) (c := cap) (i := ((p : Nat) : Int)) (x := (.tmp 60)) (y := (.tmp 61)) (off + p) (by kernel_rfl) (by kernel_rfl) (by kernel_rfl) Tryz.underlying228 (by kernel_rfl) (by omega) (by omega) (by omega)) ?_
 refine wpOrdT_free (.slice (some ⟨pb, po, none⟩) m pc) (some 63) ⟨by kernel_rfl, by kernel_rfl, by kernel_rfl⟩ (fun bb hb => of_load (x := (.tmp 62)) (by kernel_rfl) (by kernel_rfl) (load_c (Q3.out _ hb) Tryz.underlying258 rfl)) ?_
 refine wpOrdT_frees [7] [.int .i64 ((i : Nat) : Int)] (rest := [(8, true), (9, false), (10, false), (11, false)]) (by kernel_rfl) (by kernel_rfl) (fun _ => by kernel_rfl) ?_
 refine wpOrdT_free (.agg #[u, v]) (some 65) ⟨by kernel_rfl, by kernel_rfl, by kernel_rfl⟩ (fun bb hb => of_load (x := (.tmp 7)) (by kernel_rfl) (by kernel_rfl) (load_a [u, v] (Q0.out _ hb) Tryz.underlying244 rfl (by kernel_rfl))) ?_
 refine wpOrdT_bs (.cells #[u, v] 244) 1 (some 66) ⟨by kernel_rfl, by kernel_rfl, by kernel_rfl⟩ (by kernel_rfl) ?_
 intro k1 w_k1 hk_k1 hO_k1 hm_k1 hl_k1
 have MZ := MR.out.size
 replace MR := Lib.hid (MR.out.then0 hm_k1)
 refine ⟨fun _ => MR.out, ?_⟩
 have MO := Lib.hid (show pb ≠ k1 from by have := HL.out.lt; have h : w.heap.size ≤ w.drew.heap.size := Nat.le_refl _; omega)
 refine wpOrdT_call (some 67) ⟨by kernel_rfl, by kernel_rfl, by kernel_rfl⟩ (Ins2_any (xs := xs) (ys := [u, v]) (ug := k1) (uo := 0) (uc := 1) (HL.out.keep MR.out (fun x => x)).own (ob_new hO_k1) (by intro h; have := MO.out; simp [Value.ownBlock] at h; omega) H0.out H1.out hi hL) (fun _ => by kernel_rfl) ?_
 rintro r w7 ⟨v7, rfl, o7, m7, f7⟩
 refine ⟨_, rfl, (fun h => by cases h), ?_⟩
 refine wpOrdT_freesB [11] [v7] (rest := []) (by kernel_rfl) (by kernel_rfl) (by kernel_rfl) (.inl (by kernel_rfl)) ?_
 exact wpOrdT_doneC (act_is (K := Q .normal) (by kernel_rfl) (HQ.out (.pointer (some ⟨g, 0, none⟩)) (.pointer (some ⟨g, 0, none⟩)) (.pointer (some ⟨g, 0, none⟩)) (.slice (some ⟨b, off, none⟩) n cap) (.int .i64 ((p : Nat) : Int)) (.pointer (some ⟨b, off + p, none⟩)) (.slice (some ⟨pb, po, none⟩) m pc) (.int .i64 ((i : Nat) : Int)) (.agg #[u, v]) (.slice (some ⟨k1, 0, none⟩) 1 1) (v7) v7 w7 o7 (MR.out.trans m7 (fun _ _ x => x.elim) (fun k _ hk => by have := ofV_some hk; omega)) (f7.imp id (fun h => h.of MR.out.size))))
set_option maxHeartbeats 1000000 in
theorem set13 {w : World} {g b off n cap p : Nat} {vn : Value} {pvs : List Value} (hg : w.heap[g]? = some (.cells #[.slice (some ⟨b, off, none⟩) n cap, vn] 230 (0, 0))) (hr : OB w 258 1 b off n cap pvs) (hp : p < n) {lg lo m lc : Nat} {xs : List Value} (hl : OB w 244 2 lg lo m lc xs) (h0 : ∀ y ∈ xs, y.oneCell' = true) (hm16 : 16 ≤ m) (hL : m ≤ 1000000) {x1 x2 x3 x4 x5 x6 x7 x9 x10 x12 x13 x14 x15 x16 x17 x18 x19 x20 x21 x22 x23 x24 x25 x26 x27 x28 x29 x30 x31 x32 x33 x34 x35 x36 x37 x38 x39 x40 x41 x42 x43 x44 x45 x46 x47 x48 x49 x50 x51 x52 x53 x54 x55 x56 x57 x58 x59 x60 x61 x62 x63 x64 x65 x66 x67 x68 x69 x70 x71 x72 x73 x74 x75 x76 x77 x78 x79 x80 x81 x82 x83 x84 x85 x86 x87 x88 x89 x90 x91 x92 x93 x94 x95 x96 x97 x98 x99 x100 : Value} {df : List Deferred} {Q : Exit → Act → World → Prop}
  (hK : ∀ (y78 y79 y80 y81 y82 y83 y84 y85 y86 : Value) (v7 : Value) (w7 : World) (w' : World), OwnG w7 244 2 v7 16 (xs.take (16 * 2)) → Mods noB w w7 → freshIn w v7 → w' = w7.setCell ⟨b, off + p, none⟩ v7 → Q .normal ⟨#[.pointer (some ⟨g, 0, none⟩), x1, x2, x3, x4, x5, x6, x7, .int .i64 ((p : Nat) : Int), x9, x10, .slice (some ⟨lg, lo, none⟩) m lc, x12, x13, x14, x15, x16, x17, x18, x19, x20, x21, x22, x23, x24, x25, x26, x27, x28, x29, x30, x31, x32, x33, x34, x35, x36, x37, x38, x39, x40, x41, x42, x43, x44, x45, x46, x47, x48, x49, x50, x51, x52, x53, x54, x55, x56, x57, x58, x59, x60, x61, x62, x63, x64, x65, x66, x67, x68, x69, x70, x71, x72, x73, x74, x75, x76, x77, y78, y79, y80, y81, y82, y83, y84, y85, y86, x87, x88, x89, x90, x91, x92, x93, x94, x95, x96, x97, x98, x99, x100], df⟩ w') : RW Tryz.prog (opsC 13 Tryz.f151) true Q ⟨#[.pointer (some ⟨g, 0, none⟩), x1, x2, x3, x4, x5, x6, x7, .int .i64 ((p : Nat) : Int), x9, x10, .slice (some ⟨lg, lo, none⟩) m lc, x12, x13, x14, x15, x16, x17, x18, x19, x20, x21, x22, x23, x24, x25, x26, x27, x28, x29, x30, x31, x32, x33, x34, x35, x36, x37, x38, x39, x40, x41, x42, x43, x44, x45, x46, x47, x48, x49, x50, x51, x52, x53, x54, x55, x56, x57, x58, x59, x60, x61, x62, x63, x64, x65, x66, x67, x68, x69, x70, x71, x72, x73, x74, x75, x76, x77, x78, x79, x80, x81, x82, x83, x84, x85, x86, x87, x88, x89, x90, x91, x92, x93, x94, x95, x96, x97, x98, x99, x100], df⟩ w := by
 have HQ := Lib.hid hK
 clear hK
 have Q2 := Lib.hid (fun b' (hm : Mods noB w b') => show b'.cell? ⟨g, 0, none⟩ = some (.slice (some ⟨b, off, none⟩) n cap) from cells_of (hm.heap hg (fun x => x)) 0)
 have HL := Lib.hid hl
 have HR := Lib.hid hr
 have H0 := Lib.hid h0
 have hlc := hl.hn
 clear hg hr hl h0
 have MR := Lib.hid ((Mods.refl noB w).drew)
 refine rw_ordT (S := fun b' => Mods noB w b') [(0, true), (1, true), (2, true), (3, true), (4, true), (5, true), (6, true), (7, false), (8, true), (9, false)] [9] (by kernel_rfl) (by kernel_rfl) (by kernel_rfl) (by kernel_rfl) MR.out ?_
 refine wpOrdT_frees [0, 1, 2] [.pointer (some ⟨g, 0, none⟩), .pointer (some ⟨g, 0, none⟩), .pointer (some ⟨g, 0, none⟩)] (rest := [(3, true), (4, true), (5, true), (6, true), (7, false), (8, true), (9, false)]) (by kernel_rfl) (by kernel_rfl) (fun _ => by kernel_rfl) ?_
 refine wpOrdT_free (.slice (some ⟨b, off, none⟩) n cap) (some 81) ⟨by kernel_rfl, by kernel_rfl, by kernel_rfl⟩ (fun bb hb => of_load (x := (.tmp 80)) (by kernel_rfl) (by kernel_rfl) (load_c (Q2.out _ hb) Tryz.underlying228 rfl)) ?_
 refine wpOrdT_frees [4, 5] [.int .i64 ((p : Nat) : Int), .slice (some ⟨lg, lo, none⟩) m lc] (rest := [(6, true), (7, false), (8, true), (9, false)]) (by kernel_rfl) (by kernel_rfl) (fun _ => by kernel_rfl) ?_
 refine wpOrdT_free (.slice (some ⟨lg, lo, none⟩) 16 lc) (some 84) ⟨by kernel_rfl, by kernel_rfl, by kernel_rfl⟩ (fun bb hb => run_slc_h (s := 2) (e := 244) (g := lg) (off := lo) (n := m) (c := lc) (i := (16 : Int)) (x := (.tmp 83)) (y := (.const (.int .i64 16))) (16) (by kernel_rfl) (by kernel_rfl) (by kernel_rfl) Tryz.underlying258 (by kernel_rfl) (by omega) (by omega)) ?_
 refine wpOrdT_call (some 85) ⟨by kernel_rfl, by kernel_rfl, by kernel_rfl⟩ (Cln_any ((ob_cut HL.out (by omega : 16 ≤ m)).keep MR.out (fun x => x)) (fun y hy => H0.out y (List.mem_of_mem_take hy)) (by omega)) (fun _ => by kernel_rfl) ?_
 rintro r w7 ⟨v7, rfl, o7, m7, f7⟩
 replace MR := Lib.hid (MR.out.then0 m7)
 have O7 := Lib.hid o7
 have F7 := Lib.hid (f7.of (show w.heap.size ≤ _ from Nat.le_refl _))
 obtain ⟨a7, c7, e7, _⟩ := o7.rd.form
 have h17 : v7.oneCell' = true := by rw [e7]; rfl
 clear o7 m7 f7 e7
 refine ⟨_, rfl, fun _ => MR.out, ?_⟩
 refine wpOrdT_free (.pointer (some ⟨b, off + p, none⟩)) (some 86) ⟨by kernel_rfl, by kernel_rfl, by kernel_rfl⟩ (fun bb hb => run_idx (s := 1) (e := 258) (g := b) (off := off) (n := n) (c := cap) (i := ((p : Nat) : Int)) (x := (.tmp 81)) (y := (.tmp 82)) (off + p) (by kernel_rfl) (by kernel_rfl) (by kernel_rfl) Tryz.underlying228 (by kernel_rfl) (by omega) (by omega) (by omega)) ?_
 refine wpOrdT_st1 (ty := 258) (x := (.tmp 86)) (y := (.tmp 85)) (g := b) (off := off + p) (v := v7) none ⟨by kernel_rfl, by kernel_rfl, by kernel_rfl⟩ (by kernel_rfl) (by kernel_rfl) (by kernel_rfl) (by kernel_rfl) ((HR.out.keep MR.out (fun x => x)).there (by have := HR.out.hn; omega)) ((HR.out.keep MR.out (fun x => x)).free _) (h17) ?_
 intro w9 hw9
 refine ⟨(fun h => by first | (cases h; done) | exact trivial), ?_⟩
 exact wpOrdT_doneC (act_is (K := Q .normal) (by kernel_rfl) (HQ.out (.pointer (some ⟨g, 0, none⟩)) (.pointer (some ⟨g, 0, none⟩)) (.pointer (some ⟨g, 0, none⟩)) (.slice (some ⟨b, off, none⟩) n cap) (.int .i64 ((p : Nat) : Int)) (.slice (some ⟨lg, lo, none⟩) m lc) (.slice (some ⟨lg, lo, none⟩) 16 lc) (v7) (.pointer (some ⟨b, off + p, none⟩)) v7 w7 w9 O7.out MR.out F7.out hw9))
set_option maxHeartbeats 1000000 in
theorem set14 {w : World} {g b off n cap p : Nat} {vn : Value} {pvs : List Value} (hg : w.heap[g]? = some (.cells #[.slice (some ⟨b, off, none⟩) n cap, vn] 230 (0, 0))) (hr : OB w 258 1 b off n cap pvs) (hp : p < n) {lg lo m lc : Nat} {xs : List Value} (hl : OB w 244 2 lg lo m lc xs) (h0 : ∀ y ∈ xs, y.oneCell' = true) (h2 : ∀ y ∈ pvs, y.oneCell' = true) (hm16 : 16 < m) (hL : m ≤ 1000000) (hn : n ≤ 1000000) (hbg : ¬ g = b) {x1 x2 x3 x4 x5 x6 x7 x9 x10 x12 x13 x14 x15 x16 x17 x18 x19 x20 x21 x22 x23 x24 x25 x26 x27 x28 x29 x30 x31 x32 x33 x34 x35 x36 x37 x38 x39 x40 x41 x42 x43 x44 x45 x46 x47 x48 x49 x50 x51 x52 x53 x54 x55 x56 x57 x58 x59 x60 x61 x62 x63 x64 x65 x66 x67 x68 x69 x70 x71 x72 x73 x74 x75 x76 x77 x78 x79 x80 x81 x82 x83 x84 x85 x86 x87 x88 x89 x90 x91 x92 x93 x94 x95 x96 x97 x98 x99 x100 : Value} {df : List Deferred} {Q : Exit → Act → World → Prop}
  (hK : ∀ (y87 y88 y89 y90 y91 y92 y93 y94 y95 y96 y97 y98 y99 y100 : Value) (v7 v8 : Value) (w7 w8 : World) (w' : World), OwnG w7 244 2 v7 (m - 16) (xs.drop (16 * 2)) → Mods noB w w7 → freshIn w v7 → v7.oneCell' = true → OwnG w8 258 1 v8 (n + 1) (pvs.take ((p + 1) * 1) ++ [v7] ++ pvs.drop ((p + 1) * 1)) → Mods (fun k => k = b) w7 w8 → (v8.ownBlock = some b ∨ freshIn w7 v8) → w' = w8.setCell ⟨g, 0, none⟩ v8 → Q .normal ⟨#[.pointer (some ⟨g, 0, none⟩), x1, x2, x3, x4, x5, x6, x7, .int .i64 ((p : Nat) : Int), x9, x10, .slice (some ⟨lg, lo, none⟩) m lc, x12, x13, x14, x15, x16, x17, x18, x19, x20, x21, x22, x23, x24, x25, x26, x27, x28, x29, x30, x31, x32, x33, x34, x35, x36, x37, x38, x39, x40, x41, x42, x43, x44, x45, x46, x47, x48, x49, x50, x51, x52, x53, x54, x55, x56, x57, x58, x59, x60, x61, x62, x63, x64, x65, x66, x67, x68, x69, x70, x71, x72, x73, x74, x75, x76, x77, x78, x79, x80, x81, x82, x83, x84, x85, x86, y87, y88, y89, y90, y91, y92, y93, y94, y95, y96, y97, y98, y99, y100], df⟩ w') : RW Tryz.prog (opsC 14 Tryz.f151) true Q ⟨#[.pointer (some ⟨g, 0, none⟩), x1, x2, x3, x4, x5, x6, x7, .int .i64 ((p : Nat) : Int), x9, x10, .slice (some ⟨lg, lo, none⟩) m lc, x12, x13, x14, x15, x16, x17, x18, x19, x20, x21, x22, x23, x24, x25, x26, x27, x28, x29, x30, x31, x32, x33, x34, x35, x36, x37, x38, x39, x40, x41, x42, x43, x44, x45, x46, x47, x48, x49, x50, x51, x52, x53, x54, x55, x56, x57, x58, x59, x60, x61, x62, x63, x64, x65, x66, x67, x68, x69, x70, x71, x72, x73, x74, x75, x76, x77, x78, x79, x80, x81, x82, x83, x84, x85, x86, x87, x88, x89, x90, x91, x92, x93, x94, x95, x96, x97, x98, x99, x100], df⟩ w := by
 have HQ := Lib.hid hK
 clear hK
 have Q2 := Lib.hid (fun b' (hm : Mods (fun k => k = b) w b') => show b'.cell? ⟨g, 0, none⟩ = some (.slice (some ⟨b, off, none⟩) n cap) from cells_of (hm.heap hg hbg) 0)
 have HL := Lib.hid hl
 have HR := Lib.hid hr
 have HG := Lib.hid hg
 have H0 := Lib.hid h0
 have H2 := Lib.hid h2
 have hlc := hl.hn
 clear hg hr hl h0 h2
 have MR := Lib.hid ((Mods.refl noB w).drew)
 refine rw_ordT (S := fun b' => Mods (fun k => k = b) w b') [(0, true), (1, true), (2, true), (3, true), (4, true), (5, true), (6, true), (7, true), (8, true), (9, false), (10, false), (11, false), (12, false), (13, false), (14, false)] [12, 13, 14] (by kernel_rfl) (by kernel_rfl) (by kernel_rfl) (by kernel_rfl) (MR.out.mono (fun _ _ x => x.elim)) ?_
 refine wpOrdT_frees [0, 1, 2, 3] [.pointer (some ⟨g, 0, none⟩), .pointer (some ⟨g, 0, none⟩), .pointer (some ⟨g, 0, none⟩), .pointer (some ⟨g, 0, none⟩)] (rest := [(4, true), (5, true), (6, true), (7, true), (8, true), (9, false), (10, false), (11, false), (12, false), (13, false), (14, false)]) (by kernel_rfl) (by kernel_rfl) (fun _ => by kernel_rfl) ?_
 refine wpOrdT_free (.slice (some ⟨b, off, none⟩) n cap) (some 91) ⟨by kernel_rfl, by kernel_rfl, by kernel_rfl⟩ (fun bb hb => of_load (x := (.tmp 90)) (by kernel_rfl) (by kernel_rfl) (load_c (Q2.out _ hb) Tryz.underlying228 rfl)) ?_
 refine wpOrdT_frees [5] [.int .i64 ((p : Nat) : Int)] (rest := [(6, true), (7, true), (8, true), (9, false), (10, false), (11, false), (12, false), (13, false), (14, false)]) (by kernel_rfl) (by kernel_rfl) (fun _ => by kernel_rfl) ?_
 refine wpOrdT_free (.int .i64 (((p + 1) : Nat) : Int)) (some 93) ⟨by kernel_rfl, by kernel_rfl, by kernel_rfl⟩ (fun bb hb => run_bin (t := 3) (t' := 3) (xv := .int .i64 ((p : Nat) : Int)) (yv := .int .i64 1) (x := (.tmp 92)) (y := (.const (.int .i64 1))) (by kernel_rfl) (by kernel_rfl) (by kernel_rfl) (fun _ => by kernel_rfl) (run_addI _ (by omega) (by omega) (by omega))) ?_
 refine wpOrdT_frees [7] [.slice (some ⟨lg, lo, none⟩) m lc] (rest := [(8, true), (9, false), (10, false), (11, false), (12, false), (13, false), (14, false)]) (by kernel_rfl) (by kernel_rfl) (fun _ => by kernel_rfl) ?_
 refine wpOrdT_free (.slice (some ⟨lg, lo + 16 * 2, none⟩) (m - 16) (lc - 16)) (some 95) ⟨by kernel_rfl, by kernel_rfl, by kernel_rfl⟩ (fun bb hb => run_slc_l (s := 2) (e := 244) (g := lg) (off := lo) (n := m) (c := lc) (i := (16 : Int)) (x := (.tmp 94)) (y := (.const (.int .i64 16))) (16) (lo + 16 * 2) (by kernel_rfl) (by kernel_rfl) (by kernel_rfl) Tryz.underlying258 (by kernel_rfl) (by omega) (by omega) (by omega) (by omega)) ?_
 refine wpOrdT_call (some 96) ⟨by kernel_rfl, by kernel_rfl, by kernel_rfl⟩ (Cln_any ((ob_rest HL.out (by omega : 16 ≤ m)).keep MR.out (fun x => x)) (fun y hy => H0.out y (List.mem_of_mem_drop hy)) (by omega)) (fun _ => by kernel_rfl) ?_
 rintro r w7 ⟨v7, rfl, o7, m7, f7⟩
 replace MR := Lib.hid (MR.out.then0 m7)
 have O7 := Lib.hid o7
 have F7 := Lib.hid (f7.of (show w.heap.size ≤ _ from Nat.le_refl _))
 obtain ⟨a7, c7, rfl, _⟩ := o7.rd.form
 have h17 : (Value.slice a7 (m - 16) c7).oneCell' = true := rfl
 have M7 := Lib.hid (And.intro MR.out f7)
 have z7 := m7.size
 clear o7 m7 f7
 refine ⟨_, rfl, fun _ => MR.out.mono (fun _ _ x => x.elim), ?_⟩
 refine wpOrdT_bs (.cells #[(.slice a7 (m - 16) c7)] 258) 1 (some 97) ⟨by kernel_rfl, by kernel_rfl, by kernel_rfl⟩ (by kernel_rfl) ?_
 intro k1 w_k1 hk_k1 hO_k1 hm_k1 hl_k1
 have MZ := MR.out.size
 replace MR := Lib.hid (MR.out.then0 hm_k1)
 refine ⟨fun _ => (MR.out.mono (fun _ _ x => x.elim)), ?_⟩
 have MO := Lib.hid (show b ≠ k1 from by have := HR.out.lt; have h := MR.out.size; have h2 := hk_k1; have h3 := MZ; omega)
 refine wpOrdT_call (some 98) ⟨by kernel_rfl, by kernel_rfl, by kernel_rfl⟩ (Ins1_any (xs := pvs) (ys := [.slice a7 (m - 16) c7]) (ug := k1) (uo := 0) (uc := 1) (HR.out.keep MR.out (fun x => x)).own (ob_new1 hO_k1) (by intro h; have := MO.out; simp [Value.ownBlock] at h; omega) H2.out (by intro y hy; rw [List.mem_singleton.1 hy]; exact h17) (i := p + 1) (by omega) hn) (fun _ => by kernel_rfl) ?_
 rintro r w8 ⟨v8, rfl, o8, m8, f8⟩
 have m78 := hm_k1.trans m8 (U := fun k => k = b) (fun _ _ x => x.elim) (fun k _ hk => by have := ofV_some hk; omega)
 replace m8 := MR.out.trans m8 (U := fun k => k = b) (fun _ _ x => x.elim) (fun k _ hk => by have := ofV_some hk; omega)
 have O8 := Lib.hid (And.intro o8 (And.intro m8 (And.intro m78 (f8.imp id (fun h => h.of hm_k1.size)))))
 have hg8 := m8.heap HG.out hbg
 obtain ⟨a8, c8, e8, _⟩ := o8.rd.form
 have h18 : v8.oneCell' = true := by rw [e8]; rfl
 clear o8 m8 f8 e8 m78
 refine ⟨_, rfl, fun _ => O8.out.2.1, ?_⟩
 refine wpOrdT_freesB [12, 13] [.pointer (some ⟨g, 0, none⟩), .pointer (some ⟨g, 0, none⟩)] (rest := [(14, false)]) (by kernel_rfl) (by kernel_rfl) (by kernel_rfl) (.inl (by kernel_rfl)) ?_
 refine wpOrdT_st1 (ty := 228) (x := (.tmp 100)) (y := (.tmp 98)) (g := g) (off := 0) (v := v8) none ⟨by kernel_rfl, by kernel_rfl, by kernel_rfl⟩ (by kernel_rfl) (by kernel_rfl) (by kernel_rfl) (by kernel_rfl) (by rw [cells_of hg8]; rfl) (free_of hg8 _) (h18) ?_
 intro w9 hw9
 refine ⟨(fun h => by first | (cases h; done) | exact trivial), ?_⟩
 exact wpOrdT_doneC (act_is (K := Q .normal) (by kernel_rfl) (HQ.out (.pointer (some ⟨g, 0, none⟩)) (.pointer (some ⟨g, 0, none⟩)) (.pointer (some ⟨g, 0, none⟩)) (.pointer (some ⟨g, 0, none⟩)) (.slice (some ⟨b, off, none⟩) n cap) (.int .i64 ((p : Nat) : Int)) (.int .i64 (((p + 1) : Nat) : Int)) (.slice (some ⟨lg, lo, none⟩) m lc) (.slice (some ⟨lg, lo + 16 * 2, none⟩) (m - 16) (lc - 16)) ((.slice a7 (m - 16) c7)) (.slice (some ⟨k1, 0, none⟩) 1 1) (v8) (.pointer (some ⟨g, 0, none⟩)) (.pointer (some ⟨g, 0, none⟩)) (.slice a7 (m - 16) c7) v8 w7 w8 w9 O7.out M7.out.1 F7.out h17 O8.out.1 O8.out.2.2.1 O8.out.2.2.2 hw9))
open Go.Gl Go.RowKit
theorem ob_set1 {w : World} {e : TypeId} {b off n cap p : Nat} {pvs : List Value} (h : OB w e 1 b off n cap pvs) (hp : p < n) (v : Value) : OB (w.setCell ⟨b, off + p, none⟩ v) e 1 b off n cap (pvs.set p v) := by
 have hl := h.hl
 refine h.set p [v] (by have := h.hn; simp; omega) n (pvs.set p v) h.hn (by rw [List.length_set, hl]) (fun j u hj => ?_)
 by_cases hjp : j = p
 ·subst hjp
  rw [if_pos (by simp), Nat.sub_self]
  rw [List.getElem?_set_self (by omega)] at hj
  exact hj
 ·rw [if_neg (by simp; omega)]
  rwa [List.getElem?_set_ne (by omega)] at hj
theorem ins_len (es : List EV) (i : Nat) (x : EV) (hi : i ≤ es.length) : (es.take i ++ x :: es.drop i).length = es.length + 1 := by
 rw [List.length_append, List.length_cons, List.length_take, List.length_drop]; omega
theorem mem_ins {es : List EV} {i : Nat} {x e : EV} (h : e ∈ es.take i ++ x :: es.drop i) : e = x ∨ e ∈ es := by
 rw [List.mem_append, List.mem_cons] at h
 rcases h with h | h | h
 ·exact .inr (List.mem_of_mem_take h)
 ·exact .inl h
 ·exact .inr (List.mem_of_mem_drop h)
theorem new_end1 {w w' : World} {g b off n cap lg lo lc i : Nat} {A C : List PV} {q : PV} {x : EV} (hm : PM w g (.slice (some ⟨b, off, none⟩) n cap) (A ++ [q] ++ C)) (hn : n = (A ++ [q] ++ C).length) (hi : i ≤ q.es.length) (hx : E1 w x)
  (hb : ∀ k, (x.kv.ownBlock = some k ∨ x.vv.ownBlock = some k) → k < w.heap.size ∧ ¬ MS g (.slice (some ⟨b, off, none⟩) n cap) (A ++ [q] ++ C) k)
  (hT : Mods (fun k => k = g ∨ k = b ∨ q.pv.ownBlock = some k) w w')
  (hg : w'.heap[g]? = some (.cells #[.slice (some ⟨b, off, none⟩) n cap, .int .i64 ((cnt (pgs (A ++ [q] ++ C)) : Nat) + 1)] 230 (0, 0)))
  (hr : OB w' 258 1 b off n cap (((A ++ [q] ++ C).map (·.pv)).set A.length (.slice (some ⟨lg, lo, none⟩) (q.es.length + 1) lc)))
  (hp : OB w' 244 2 lg lo (q.es.length + 1) lc (ecell (q.es.take i ++ x :: q.es.drop i))) (hlg : q.pv.ownBlock = some lg ∨ w.heap.size ≤ lg) (hlb : lg ≠ b) :
  ∃ vo' R', PM w' g vo' R' ∧ Mods (MS g (.slice (some ⟨b, off, none⟩) n cap) (A ++ [q] ++ C)) w w' ∧ (∀ k, MS g vo' R' k → MS g (.slice (some ⟨b, off, none⟩) n cap) (A ++ [q] ++ C) k ∨ w.heap.size ≤ k) ∧
   (∀ k, MD R' k → MD (A ++ [q] ++ C) k ∨ (x.kv.ownBlock = some k ∨ x.vv.ownBlock = some k)) ∧ pgs R' = (pgs (A ++ [q] ++ C)).set A.length (insP (ents q.es) i x.ent) := by
 subst hn
 have hin : q ∈ A ++ [q] ++ C := by simp
 have mods : Mods (fun k => k = g ∨ (Value.slice (some ⟨b, off, none⟩) (A ++ [q] ++ C).length cap).ownBlock = some k ∨ ∃ r ∈ [q], r.pv.ownBlock = some k) w w' := hT.mono (fun k _ hk => by
  rcases hk with h | h | h
  ·exact .inl h
  ·exact .inr (.inl (by rw [h]; rfl))
  ·exact .inr (.inr ⟨q, List.mem_singleton.2 rfl, h⟩))
 have up := PM.upd (vo' := .slice (some ⟨b, off, none⟩) (A ++ [q] ++ C).length cap) (A := A) (B := [q]) (C := C) (N := [⟨.slice (some ⟨lg, lo, none⟩) (q.es.length + 1) lc, q.es.take i ++ x :: q.es.drop i⟩]) (X := fun k => x.kv.ownBlock = some k ∨ x.vv.ownBlock = some k) hm mods
  (by
   rw [cnt_parts, cnt_one, ins_len _ _ _ hi, hg, cnt_parts, cnt_one]
   congr 4
   simp
   omega)
  (by
   have e1 : (A ++ [(⟨.slice (some ⟨lg, lo, none⟩) (q.es.length + 1) lc, q.es.take i ++ x :: q.es.drop i⟩ : PV)] ++ C).length = (A ++ [q] ++ C).length := by simp
   have e2 : (A ++ [(⟨.slice (some ⟨lg, lo, none⟩) (q.es.length + 1) lc, q.es.take i ++ x :: q.es.drop i⟩ : PV)] ++ C).map (·.pv) = ((A ++ [q] ++ C).map (·.pv)).set A.length (.slice (some ⟨lg, lo, none⟩) (q.es.length + 1) lc) := by
    rw [← List.map_set (f := (·.pv)) (l := A ++ [q] ++ C) (i := A.length) (a := ⟨.slice (some ⟨lg, lo, none⟩) (q.es.length + 1) lc, q.es.take i ++ x :: q.es.drop i⟩), set_parts]
   rw [e1, e2]
   exact hr.own)
  (.inl rfl)
  (by
   intro r hr
   rw [List.mem_singleton.1 hr]
   refine ⟨?_, ?_⟩
   ·show OwnG _ _ 2 _ (q.es.take i ++ x :: q.es.drop i).length _
    rw [ins_len _ _ _ hi]
    exact hp.own
   ·rcases hlg with h | h
    ·exact .inl ⟨q, List.mem_singleton.2 rfl, h.symm⟩
    ·exact .inr (fun k hk => by simp [Value.ownBlock] at hk; omega))
  (by
   intro r hr k hk
   rw [List.mem_singleton.1 hr] at hk
   simp [Value.ownBlock] at hk ⊢
   omega)
  (List.pairwise_singleton _ _)
  (by
   intro r hr e he
   rw [List.mem_singleton.1 hr] at he
   rcases mem_ins he with rfl | he
   ·exact .inr ⟨hx, fun k hk => ⟨hk, hb k hk⟩⟩
   ·exact .inl ⟨q, List.mem_singleton.2 rfl, he⟩)
 refine ⟨_, _, up.1, mods.mono (fun k _ hk => by
  rcases hk with h | h | ⟨b, hb, h⟩
  ·exact .inl h
  ·exact .inr (.inl h)
  ·exact .inr (.inr ⟨q, hin, by rw [List.mem_singleton.1 hb] at h; exact h⟩)), up.2.1, up.2.2, ?_⟩
 have hlen : A.length = (pgs A).length := (pgs_length A).symm
 rw [pgs_append, pgs_append, pgs_append, pgs_append, hlen, pgs_single q, set_parts, pgs_single, ents_ins]
theorem new_end2 {w w' : World} {g b off n cap i : Nat} {A C : List PV} {q : PV} {x : EV} {va vb vo' : Value} (hm : PM w g (.slice (some ⟨b, off, none⟩) n cap) (A ++ [q] ++ C)) (hn : n = (A ++ [q] ++ C).length) (hi : i ≤ q.es.length) (hx : E1 w x)
    (hb : ∀ k, (x.kv.ownBlock = some k ∨ x.vv.ownBlock = some k) → k < w.heap.size ∧ ¬ MS g (.slice (some ⟨b, off, none⟩) n cap) (A ++ [q] ++ C) k)
    (hT : Mods (fun k => k = g ∨ k = b ∨ q.pv.ownBlock = some k) w w') (h16 : 16 ≤ q.es.length)
    (hg : w'.heap[g]? = some (.cells #[vo', .int .i64 ((cnt (pgs (A ++ [q] ++ C)) : Nat) + 1)] 230 (0, 0)))
    (hr : OwnG w' 258 1 vo' (n + 1) (A.map (·.pv) ++ [va, vb] ++ C.map (·.pv))) (hvo : vo'.ownBlock = some b ∨ freshIn w vo')
    (ha : OwnG w' 244 2 va 16 (ecell ((q.es.take i ++ x :: q.es.drop i).take 16))) (hvb : OwnG w' 244 2 vb (q.es.length + 1 - 16) (ecell ((q.es.take i ++ x :: q.es.drop i).drop 16)))
    (fa : freshIn w va) (fb : freshIn w vb) (dab : ∀ k, va.ownBlock = some k → vb.ownBlock ≠ some k) (dav : ∀ k, va.ownBlock = some k → vo'.ownBlock ≠ some k) (dbv : ∀ k, vb.ownBlock = some k → vo'.ownBlock ≠ some k) :
    ∃ R', PM w' g vo' R' ∧ Mods (MS g (.slice (some ⟨b, off, none⟩) n cap) (A ++ [q] ++ C)) w w' ∧ (∀ k, MS g vo' R' k → MS g (.slice (some ⟨b, off, none⟩) n cap) (A ++ [q] ++ C) k ∨ w.heap.size ≤ k) ∧
      (∀ k, MD R' k → MD (A ++ [q] ++ C) k ∨ (x.kv.ownBlock = some k ∨ x.vv.ownBlock = some k)) ∧ pgs R' = (pgs (A ++ [q] ++ C)).take A.length ++ [(insP (ents q.es) i x.ent).take 16, (insP (ents q.es) i x.ent).drop 16] ++ (pgs (A ++ [q] ++ C)).drop (A.length + 1) := by
  subst hn
  have hin : q ∈ A ++ [q] ++ C := by simp
  have hl := ins_len _ _ x hi
  have mods : Mods (fun k => k = g ∨ (Value.slice (some ⟨b, off, none⟩) (A ++ [q] ++ C).length cap).ownBlock = some k ∨ ∃ r ∈ [q], r.pv.ownBlock = some k) w w' := hT.mono (fun k _ hk => by
    rcases hk with h | h | h
    · exact .inl h
    · exact .inr (.inl (by rw [h]; rfl))
    · exact .inr (.inr ⟨q, List.mem_singleton.2 rfl, h⟩))
  obtain ⟨ns, hns⟩ : ∃ ns, q.es.take i ++ x :: q.es.drop i = ns := ⟨_, rfl⟩
  have hmem : ∀ e ∈ ns, e = x ∨ e ∈ q.es := fun e he => by rw [← hns] at he; exact mem_ins he
  have hins : ents ns = insP (ents q.es) i x.ent := by rw [← hns, ents_ins]
  rw [hns] at hl ha hvb
  have l1 : (ns.take 16).length = 16 := by rw [List.length_take]; omega
  have l2 : (ns.drop 16).length = q.es.length + 1 - 16 := by rw [List.length_drop, hl]
  have up := PM.upd (vo' := vo') (A := A) (B := [q]) (C := C) (N := [⟨va, ns.take 16⟩, ⟨vb, ns.drop 16⟩]) (X := fun k => x.kv.ownBlock = some k ∨ x.vv.ownBlock = some k) hm mods
    (by
      rw [hg, cnt_parts, cnt_one, cnt_parts]
      have : cnt (pgs [(⟨va, ns.take 16⟩ : PV), ⟨vb, ns.drop 16⟩]) = q.es.length + 1 := by
        rw [pgs_cons, pgs_single, cnt_cons, cnt_cons, cnt_nil, ents_length, ents_length, l1, l2]; omega
      rw [this]
      congr 4
      simp
      omega)
    (by
      have e1 : (A ++ [(⟨va, ns.take 16⟩ : PV), ⟨vb, ns.drop 16⟩] ++ C).length = (A ++ [q] ++ C).length + 1 := by simp; omega
      rw [e1, List.map_append, List.map_append]
      exact hr)
    (by rcases hvo with h | h
        · exact .inl h
        · exact .inr h)
    (by
      intro r hr
      simp only [List.mem_cons, List.not_mem_nil, or_false] at hr
      rcases hr with rfl | rfl
      · exact ⟨by show OwnG _ _ 2 va (ns.take 16).length _; rw [l1]; exact ha, .inr fa⟩
      · exact ⟨by show OwnG _ _ 2 vb (ns.drop 16).length _; rw [l2]; exact hvb, .inr fb⟩)
    (by
      intro r hr k hk
      simp only [List.mem_cons, List.not_mem_nil, or_false] at hr
      rcases hr with rfl | rfl
      · exact dav k hk
      · exact dbv k hk)
    (List.pairwise_pair.2 dab)
    (by
      intro r hr e he
      have hes : e ∈ ns := by
        simp only [List.mem_cons, List.not_mem_nil, or_false] at hr
        rcases hr with rfl | rfl
        · exact List.mem_of_mem_take he
        · exact List.mem_of_mem_drop he
      rcases hmem e hes with rfl | he
      · exact .inr ⟨hx, fun k hk => ⟨hk, hb k hk⟩⟩
      · exact .inl ⟨q, List.mem_singleton.2 rfl, he⟩)
  refine ⟨_, up.1, mods.mono (fun k _ hk => by
    rcases hk with h | h | ⟨b, hb, h⟩
    · exact .inl h
    · exact .inr (.inl h)
    · exact .inr (.inr ⟨q, hin, by rw [List.mem_singleton.1 hb] at h; exact h⟩)), up.2.1, up.2.2, ?_⟩
  have hlen : A.length = (pgs A).length := (pgs_length A).symm
  rw [pgs_append, pgs_append, pgs_append, pgs_append, hlen, List.append_assoc (pgs A) (pgs [q]) (pgs C), List.take_left', ← List.append_assoc, pgs_single q, ← hins, ← ents_take, ← ents_drop]
  · rw [List.drop_left' (by simp)]
    rfl
  · rfl
theorem lies_at {R : List PV} {ys : List UInt8} (hne : R ≠ []) : ∃ (hp : (findP (pgs R) ys).1 < R.length), (findP (pgs R) ys).2.1 ≤ (R[(findP (pgs R) ys).1]).es.length := by
 have hne' : pgs R ≠ [] := fun h => hne (by cases R with | nil => rfl | cons a b => simp [pgs] at h)
 have hlt := pgOf_lt hne' ys
 rw [findP_ne hne']
 simp only
 generalize pgOf (pgs R) ys = p at *
 have hlt' : p < R.length := by rw [← pgs_length]; exact hlt
 refine ⟨hlt', ?_⟩
 rw [pgs_getD hlt']
 have := plOf_le (ents (R[p]).es) ys
 rw [ents_length] at this
 exact this
set_option maxHeartbeats 2000000 in
theorem Set_new {w : World} {g : Nat} {vo kv vv : Value} {R : List PV} {xs ys : List UInt8} (hm : PM w g vo R) (hk : Rd w kv xs) (hv : Rd w vv ys) (lx : xs.length ≤ 1000000) (ly : ys.length ≤ 1000000) (ok : PgOk (pgs R)) (hn : R.length ≤ 1000000)
  (hc : cnt (pgs R) ≤ 1000000000) (hne : R ≠ []) (hf : (findP (pgs R) xs).2.2 = false) :
  Calls Tryz.prog 151 #[.pointer (some ⟨g, 0, none⟩), kv, vv] w fun e w' => ∃ vo' R', e = .returned (.bool true) ∧ PT w w' g vo R vo' R' ∧ pgs R' = setP (pgs R) xs ys := by
 obtain ⟨hp, hi⟩ := lies_at (ys := xs) hne
 have FD := Lib.hid (fun (w' : World) (m : Mods noB w w') (q : Value) (hq : Rd w' q xs) => find_any (hm.keep0 m) hq ok hn)
 have hge : (pgs R).getD (findP (pgs R) xs).1 [] = ents (R[(findP (pgs R) xs).1]).es := pgs_getD hp
 have hne' : pgs R ≠ [] := fun h => hne (by cases R with | nil => rfl | cons a b => simp [pgs] at h)
 have hset : setP (pgs R) xs ys = if 32 < (R[(findP (pgs R) xs).1]).es.length + 1 then
   (pgs R).take (findP (pgs R) xs).1 ++ [(insP (ents (R[(findP (pgs R) xs).1]).es) (findP (pgs R) xs).2.1 (xs, ys)).take 16, (insP (ents (R[(findP (pgs R) xs).1]).es) (findP (pgs R) xs).2.1 (xs, ys)).drop 16] ++ (pgs R).drop ((findP (pgs R) xs).1 + 1)
   else (pgs R).set (findP (pgs R) xs).1 (insP (ents (R[(findP (pgs R) xs).1]).es) (findP (pgs R) xs).2.1 (xs, ys)) := by
  unfold setP
  rw [if_neg hne', if_neg (by rw [hf]; simp), hge]
  have hl : (insP (ents (R[(findP (pgs R) xs).1]).es) (findP (pgs R) xs).2.1 (xs, ys)).length = (R[(findP (pgs R) xs).1]).es.length + 1 := by
   unfold insP
   rw [List.length_append, List.length_cons, List.length_take, List.length_drop, ents_length]
   omega
  rw [hl]
 have hmost := ok.most (ents (R[(findP (pgs R) xs).1]).es) (List.mem_map_of_mem (f := fun p => ents p.es) (List.getElem_mem hp))
 rw [ents_length] at hmost
 have HSET := Lib.hid hset
 clear hset
 generalize findP (pgs R) xs = F at *
 obtain ⟨p, i, B⟩ := F
 simp only at hf hp hi FD hge hmost HSET ⊢
 subst hf
 have hl0 : ((R.length : Int) == 0) = false := by rw [beq_eq_false_iff_ne]; omega
 have hpos : 0 < (R[p]).es.length := by
  have h := ok.ne (ents (R[p]).es) (List.mem_map_of_mem (f := fun p => ents p.es) (List.getElem_mem hp))
  exact List.length_pos_iff.2 (fun e => h (by rw [e]; rfl))
 obtain ⟨b, off, cap, pb, po, pc, hvo, hpv, ob2, ob1⟩ := hm.way hp hpos
 subst hvo
 have hbg : b ≠ g := fun e => hm.sep1 (by rw [e]; rfl)
 have hpg : pb ≠ g := fun e => (hm.sep2 _ (List.getElem_mem hp)).1 (by rw [hpv, e]; rfl)
 have hbp : b ≠ pb := fun e => (hm.sep2 _ (List.getElem_mem hp)).2 pb (by rw [hpv]; rfl) (by rw [e]; rfl)
 have HPV := Lib.hid hpv
 have OB2 := Lib.hid ob2
 have HM := Lib.hid hm
 have OB1 := Lib.hid ob1
 have OK := Lib.hid (owned_any hk (by omega))
 have HK := Lib.hid hk
 have HV := Lib.hid hv
 obtain ⟨ak, ck, rfl, _⟩ := hk.form
 obtain ⟨av, cv, rfl, _⟩ := hv.form
 obtain ⟨N, hN⟩ : ∃ N, cnt (pgs R) = N := ⟨_, rfl⟩
 have HN := Lib.hid hN
 rw [hN] at hc
 clear hm hk hv ob1 ob2 hpv hge ok hne' hne hN
 go_enter Tryz.func151, Tryz.ntmps151
 go_wp2_with fail
 refine OK.out.mono ?_
 rintro e w1 ⟨u, rfl, o1, m1, f1⟩
 have OV := Lib.hid (owned_any (HV.out.keep m1 (fun _ _ x => x)) (by omega))
 have O1 := Lib.hid (And.intro o1 (And.intro m1 f1))
 obtain ⟨a1, c1, rfl, _⟩ := o1.rd.form
 clear o1 m1 f1
 go_wp2_with fail
 refine OV.out.mono ?_
 rintro e w2 ⟨v, rfl, o2, m2, f2⟩
 obtain ⟨nE, nB⟩ := newE O1.out.1 O1.out.2.2 O1.out.2.1 o2 f2 m2 lx ly
 have M2 := Lib.hid (O1.out.2.1.then0 m2)
 have NE := Lib.hid (And.intro nE nB)
 obtain ⟨a2, c2, rfl, _⟩ := o2.rd.form
 clear o2 m2 f2 nE nB
 have hbE := heap_new w2 (.cells #[.slice a1 xs.length c1, .slice a2 ys.length c2] 244)
 have mE := (Mods.refl noB w2).alloc (.cells #[.slice a1 xs.length c1, .slice a2 ys.length c2] 244)
 go_upto_region 2 with fail
 generalize hw3 : World.alloc w2 _ = w3 at *
 have M3 := Lib.hid (M2.out.then0 mE)
 have e00 : w3.cell? ⟨g, 0, none⟩ = some (.slice (some ⟨b, off, none⟩) R.length cap) := cells_of (M3.out.heap HM.out.hg (fun x => x)) 0
 have FW := Lib.hid (FD.out w3 M3.out _ (HK.out.keep M3.out (fun _ _ x => x)))
 go_wp2_with fail
 refine FW.out.mono ?_
 rintro e w4 ⟨rfl, m4⟩
 have M4 := Lib.hid (M3.out.then0 m4)
 have PM4 := Lib.hid (HM.out.keep0 M4.out)
 have NE4 := Lib.hid (And.intro (NE.out.1.keep (mE.then0 m4) (fun _ _ x => x)) (fun k (hk : (Value.slice a1 xs.length c1).ownBlock = some k ∨ (Value.slice a2 ys.length c2).ownBlock = some k) => And.intro (NE.out.2 k hk).1 (Nat.lt_of_lt_of_le (NE.out.2 k hk).2 (mE.then0 m4).size)))
 have b0 : w4.cell? ⟨w2.heap.size, 0, none⟩ = some (.slice a1 xs.length c1) := cells_of (m4.heap hbE (fun x => x)) 0
 have b1 : w4.cell? ⟨w2.heap.size, 1, none⟩ = some (.slice a2 ys.length c2) := cells_of (m4.heap hbE (fun x => x)) 1
 have e1 : w4.cell? ⟨g, 1, none⟩ = some (.int .i64 (N : Nat)) := by rw [← HN.out]; exact cells_of PM4.out.hg 1
 have ef1 : w4.frozen? ⟨g, 1, none⟩ = false := free_of PM4.out.hg 1
 have hg2 : g ≠ w2.heap.size := by have := lt_of_heap HM.out.hg; have := M2.out.size; omega
 clear e00
 go_upto_region 10 with fail
 have hg5 : (w4.setCell ⟨g, 1, none⟩ (.int .i64 ((N : Int) + 1))).heap[g]? = some (.cells #[.slice (some ⟨b, off, none⟩) R.length cap, .int .i64 ((N : Int) + 1)] 230 (0, 0)) := heap_set PM4.out.hg 1 _
 have m5 : Mods (fun k => k = g) w4 (w4.setCell ⟨g, 1, none⟩ (.int .i64 ((N : Int) + 1))) := (Mods.refl (fun k => k = g) w4).setCell (p := ⟨g, 1, none⟩) (.inl rfl) _
 generalize World.setCell w4 _ _ = w5 at *
 have M5 := Lib.hid m5
 have hgE5 := M5.out.heap (m4.heap hbE (fun x => x)) (Ne.symm hg2)
 have ob15 := (OB1.out.keep M4.out (fun x => x)).keep M5.out hbg
 have ob25 := (OB2.out.keep M4.out (fun x => x)).keep M5.out hpg
 have D5 := Lib.hid (And.intro hg5 (And.intro ob15 ob25))
 have hPV : (R.map (·.pv))[p]? = some (.slice (some ⟨pb, po, none⟩) (R[p]).es.length pc) := by rw [← HPV.out]; simp [hp]
 have h1 := ecell_one (w := w5) (es := (R[p]).es) (fun e he => ((HM.out.ents _ (List.getElem_mem hp)) e he).keep (M4.out.trans M5.out (U := fun k => k = g) (fun _ _ x => x.elim) (fun _ _ x => x)) (fun k hk e => HM.out.data k ⟨_, List.getElem_mem hp, _, he, hk⟩ (.inl e)))
 have h2 := Lib.hid (pv_one HM.out)
 refine wp_tl (d := .region 10 (opsC 10 Tryz.f151) true) (by kernel_rfl) ?_
 refine RW.wp (set10 hg5 ob15 hp hPV ob25 h1 hgE5 rfl rfl hi (by omega) ?_)
 intro y57 y58 y59 y60 y61 y62 y63 y64 y65 y66 y67 v7 w7 o7 m7 f7
 clear hgE5 h1 hPV ob15 ob25 hg5
 obtain ⟨es, hEs⟩ : ∃ es, (R[p]).es = es := ⟨_, rfl⟩
 rw [hEs] at hi hmost hpos o7 D5 HPV OB2
 have HEs := Lib.hid hEs
 obtain ⟨nl, hL⟩ : ∃ nl, es.length + 1 = nl := ⟨_, rfl⟩
 rw [← ecell_ins es i ⟨.slice a1 xs.length c1, .slice a2 ys.length c2, xs, ys⟩, hL] at o7
 rcases o7.ob with ⟨_, h7, _⟩ | ⟨lg, lo, lc, rfl, ob7⟩
 ·omega
 have hlg : lg = pb ∨ w5.heap.size ≤ lg := by
  rcases f7 with f7 | f7
  ·left; simpa [Value.ownBlock] using f7
  ·right; exact f7 lg rfl
 have hbl : b < w5.heap.size := D5.out.2.1.lt
 have hgl : g < w5.heap.size := lt_of_heap D5.out.1
 have hlb : lg ≠ b := by rcases hlg with h | h <;> omega
 have hlg' : lg ≠ g := by rcases hlg with h | h <;> omega
 have hg7 : w7.heap[g]? = some (.cells #[.slice (some ⟨b, off, none⟩) R.length cap, .int .i64 ((N : Int) + 1)] 230 (0, 0)) := m7.heap D5.out.1 (Ne.symm hpg)
 have ob17 := D5.out.2.1.keep m7 hbp
 have hb7 := ob7
 have M7 := Lib.hid m7
 have c0 : w7.cell? ⟨g, 0, none⟩ = some (.slice (some ⟨b, off, none⟩) R.length cap) := cells_of hg7 0
 have c1' : w7.cell? ⟨b, off + p, none⟩ = some (.slice (some ⟨pb, po, none⟩) es.length pc) := ob17.cell (by rw [← HPV.out]; simp [hp])
 have c1'' : w7.frozen? ⟨b, off + p, none⟩ = false := ob17.free _
 have D7 := Lib.hid (And.intro hg7 (And.intro ob17 ob7))
 clear o7 m7 f7 hg7 ob17 ob7 hb7
 have hpi : (p : Int) < (R.length : Int) := by omega
 go_upto_region 12 with fail
 have w8m := (Mods.refl (fun k => k = b) w7).setCell (p := ⟨b, off + p, none⟩) (.inl rfl) (.slice (some ⟨lg, lo, none⟩) nl lc)
 have ob18 := ob_set1 D7.out.2.1 hp (.slice (some ⟨lg, lo, none⟩) nl lc)
 generalize World.setCell w7 _ _ = w8 at *
 have hg8 := w8m.heap D7.out.1 (Ne.symm hbg)
 have ob78 := D7.out.2.2.keep w8m hlb
 have D8 := Lib.hid (And.intro hg8 (And.intro ob18 (And.intro ob78 w8m)))
 clear hg8 ob18 ob78 w8m c0 c1' c1''
 by_cases hbig : nl ≤ 32
 ·have hcmp : ¬ ((32 : Int) < (nl : Int)) := by omega
  go_wp2
  go_ret
  have hT := (M5.out.trans M7.out (U := fun k => k = g ∨ k = b ∨ k = pb) (fun _ _ h => .inl h) (fun _ _ h => .inr (.inr h))).trans D8.out.2.2.2 (U := fun k => k = g ∨ k = b ∨ k = pb) (fun _ _ h => h) (fun _ _ h => .inr (.inl h))
  have hsz : w.heap.size ≤ w4.heap.size := M4.out.size
  have h45 := M5.out.size
  obtain ⟨A, q, C, rfl, rfl, hq⟩ := parts R p hp
  have hes := HEs.out
  have hpv := HPV.out
  have hN := HN.out
  rw [hq] at hes hpv
  subst hes hL hN
  obtain ⟨vo', R', p1, p2, p3, p4, p5⟩ := new_end1 (x := ⟨.slice a1 xs.length c1, .slice a2 ys.length c2, xs, ys⟩) PM4.out rfl hi NE4.out.1 (fun k hk => ⟨(NE4.out.2 k hk).2, fun h => by
   have h2 := HM.out.lt k h
   have := (NE4.out.2 k hk).1
   omega⟩) (hT.mono (fun k _ hk => by
    rcases hk with h | h | h
    ·exact .inl h
    ·exact .inr (.inl h)
    ·exact .inr (.inr (by rw [hpv, h]; rfl)))) D8.out.1 D8.out.2.1 D8.out.2.2.1 (by
     rcases hlg with h | h
     ·left; rw [hpv, h]; rfl
     ·right; omega) hlb
  have hset := HSET.out
  rw [hq, if_neg (by omega)] at hset
  rw [hset]
  exact ⟨rfl, vo', R', ⟨p1, M4.out.trans p2 (fun _ _ x => x.elim) (fun _ _ x => x), fun k hk => (p3 k hk).imp id (Nat.le_trans hsz), fun k hk => (p4 k hk).imp id (fun h => (NE4.out.2 k h).1)⟩, p5⟩
 ·have hcmp : (32 : Int) < (nl : Int) := by omega
  go_upto_region 13 with fail
  have h1 := fun y (hy : y ∈ ecell (es.take i ++ (⟨.slice a1 xs.length c1, .slice a2 ys.length c2, xs, ys⟩ : EV) :: es.drop i)) => ecell_one (w := w4) (es := es.take i ++ (⟨.slice a1 xs.length c1, .slice a2 ys.length c2, xs, ys⟩ : EV) :: es.drop i) (fun e he => by
   rcases mem_ins he with rfl | he
   ·exact NE4.out.1
   ·rw [← HEs.out] at he
    exact PM4.out.ents _ (List.getElem_mem hp) e he) y hy
  refine wp_tl (d := .region 13 (opsC 13 Tryz.f151) true) (by kernel_rfl) ?_
  refine RW.wp (set13 D8.out.1 D8.out.2.1 hp D8.out.2.2.1 h1 (by omega) (by omega) ?_)
  intro y78 y79 y80 y81 y82 y83 y84 y85 y86 va w9 w10 oa m9 fa hw10
  have m10 : Mods (fun k => k = b) w9 w10 := by rw [hw10]; exact (Mods.refl (fun k => k = b) w9).setCell (p := ⟨b, off + p, none⟩) (.inl rfl) va
  have hga := m10.heap (m9.heap D8.out.1 (fun x => x)) (Ne.symm hbg)
  have hra : OB w10 258 1 b off R.length cap (((R.map (·.pv)).set p (.slice (some ⟨lg, lo, none⟩) nl lc)).set p va) := by rw [hw10]; exact ob_set1 (D8.out.2.1.keep m9 (fun x => x)) hp va
  have hla := (D8.out.2.2.1.keep m9 (fun x => x)).keep m10 hlb
  have hbs8 : b < w8.heap.size := D8.out.2.1.lt
  have oa10 := oa.keep m10 (fun k hk e => by have := fa k hk; omega)
  have A10 := Lib.hid (And.intro hga (And.intro hra (And.intro oa10 (And.intro fa (m9.trans m10 (U := fun k => k = b) (fun _ _ x => x.elim) (fun _ _ x => x))))))
  have h2 : ∀ y ∈ (((R.map (·.pv)).set p (.slice (some ⟨lg, lo, none⟩) nl lc)).set p va), y.oneCell' = true := by
   obtain ⟨a7, c7, e7, _⟩ := oa.rd.form
   intro y hy
   rcases List.mem_or_eq_of_mem_set hy with hy | rfl
   ·rcases List.mem_or_eq_of_mem_set hy with hy | rfl
    ·exact pv_one HM.out y hy
    ·rfl
   ·rw [e7]; rfl
  clear hga oa m9 fa hw10 m10 oa10
  go_upto_region 14 with fail
  refine wp_tl (d := .region 14 (opsC 14 Tryz.f151) true) (by kernel_rfl) ?_
  refine RW.wp (set14 A10.out.1 hra hp hla h1 h2 (by omega) (by omega) hn (Ne.symm hbg) ?_)
  intro y87 y88 y89 y90 y91 y92 y93 y94 y95 y96 y97 y98 y99 y100 vb vr w11 w12 w13 ob m11 fb ob1 or m12 fr hw13
  have m1012 := m11.trans m12 (U := fun k => k = b) (fun _ _ x => x.elim) (fun _ _ x => x)
  have hg12 := m1012.heap A10.out.1 (Ne.symm hbg)
  have m13 : Mods (fun k => k = g) w12 w13 := by rw [hw13]; exact (Mods.refl (fun k => k = g) w12).setCell (p := ⟨g, 0, none⟩) (.inl rfl) vr
  have hg13 : w13.heap[g]? = some (.cells #[vr, .int .i64 ((N : Int) + 1)] 230 (0, 0)) := by rw [hw13]; exact heap_set hg12 0 vr
  have hw8s : w8.heap.size ≤ w10.heap.size := A10.out.2.2.2.2.size
  have hg8s : g < w8.heap.size := lt_of_heap D8.out.1
  have a13 := ((A10.out.2.2.1.keep m11 (fun _ _ x => x)).keep m12 (fun k hk e => by have := A10.out.2.2.2.1 k hk; omega)).keep m13 (fun k hk e => by have := A10.out.2.2.2.1 k hk; omega)
  have b13 := (ob.keep m12 (fun k hk e => by have := fb k hk; omega)).keep m13 (fun k hk e => by have := fb k hk; omega)
  have r13 := or.keep m13 (fun k hk e => by
   rcases fr with fr | fr
   ·rw [fr] at hk; cases hk; exact hbg e
   ·have := fr k hk; have := m11.size; omega)
  have hT := (M5.out.trans M7.out (U := fun k => k = g ∨ k = b ∨ k = pb) (fun _ _ h => .inl h) (fun _ _ h => .inr (.inr h))).trans D8.out.2.2.2 (U := fun k => k = g ∨ k = b ∨ k = pb) (fun _ _ h => h) (fun _ _ h => .inr (.inl h))
  have hT2 := ((hT.trans A10.out.2.2.2.2 (U := fun k => k = g ∨ k = b ∨ k = pb) (fun _ _ h => h) (fun _ _ h => .inr (.inl h))).trans m1012 (U := fun k => k = g ∨ k = b ∨ k = pb) (fun _ _ h => h) (fun _ _ h => .inr (.inl h))).trans m13 (U := fun k => k = g ∨ k = b ∨ k = pb) (fun _ _ h => h) (fun _ _ h => .inl h)
  have hsz : w.heap.size ≤ w4.heap.size := M4.out.size
  have hs48 : w4.heap.size ≤ w8.heap.size := hT.size
  have hA10 : ∀ k, va.ownBlock = some k → w8.heap.size ≤ k ∧ k < w10.heap.size := fun k hk => ⟨A10.out.2.2.2.1 k hk, A10.out.2.2.1.lt k hk⟩
  have hB11 : ∀ k, vb.ownBlock = some k → w10.heap.size ≤ k ∧ k < w11.heap.size := fun k hk => ⟨fb k hk, ob.lt k hk⟩
  have m11s := m11.size
  clear A10 D8 D7 hg12 m13 hw13 m1012 ob or m12 m11 h1 h2 hra hla hT M5 M7
  go_wp2
  go_ret
  obtain ⟨A, q, C, rfl, rfl, hq⟩ := parts R p hp
  have hes := HEs.out
  have hpv := HPV.out
  have hN := HN.out
  rw [hq] at hes hpv
  subst hes hL hN
  obtain ⟨R', p1, p2, p3, p4, p5⟩ := new_end2 (va := va) (vb := vb) (x := ⟨.slice a1 xs.length c1, .slice a2 ys.length c2, xs, ys⟩) PM4.out rfl hi NE4.out.1 (fun k hk => ⟨(NE4.out.2 k hk).2, fun h => by
   have h2 := HM.out.lt k h
   have := (NE4.out.2 k hk).1
   omega⟩) (hT2.mono (fun k _ hk => by
    rcases hk with h | h | h
    ·exact .inl h
    ·exact .inr (.inl h)
    ·exact .inr (.inr (by rw [hpv, h]; rfl)))) (by omega) hg13 (by
     have e : (((A ++ [q] ++ C).map (·.pv)).set A.length (.slice (some ⟨lg, lo, none⟩) (q.es.length + 1) lc)).set A.length va = A.map (·.pv) ++ [va] ++ C.map (·.pv) := by
      have hl : A.length = (A.map (·.pv)).length := by simp
      rw [List.map_append, List.map_append, hl, List.map_cons, List.map_nil, set_parts, set_parts]
     have hl : (A.map (·.pv) ++ [va]).length = (A.length + 1) * 1 := by simp
     rw [e, List.take_left' hl, List.drop_left' hl] at r13
     have e2 : A.map (·.pv) ++ [va, vb] ++ C.map (·.pv) = A.map (·.pv) ++ [va] ++ [vb] ++ C.map (·.pv) := by simp
     rw [e2]
     exact r13) (fr.imp id (fun h => h.of (by omega))) (by rw [ecell_take]; exact a13) (by rw [ecell_drop]; exact b13)
    (fun k hk => by have := hA10 k hk; omega) (fun k hk => by have := hB11 k hk; omega)
    (fun k hk hk2 => by have := hA10 k hk; have := hB11 k hk2; omega)
    (fun k hk hk2 => by
     have := hA10 k hk
     rcases fr with fr | fr
     ·rw [fr] at hk2; cases hk2; omega
     ·have := fr k hk2; omega)
    (fun k hk hk2 => by
     have := hB11 k hk
     rcases fr with fr | fr
     ·rw [fr] at hk2; cases hk2; omega
     ·have := fr k hk2; omega)
  have hset := HSET.out
  rw [hq, if_pos (by omega)] at hset
  rw [hset]
  exact ⟨vr, R', rfl, ⟨p1, M4.out.trans p2 (fun _ _ x => x.elim) (fun _ _ x => x), fun k hk => (p3 k hk).imp id (Nat.le_trans hsz), fun k hk => (p4 k hk).imp id (fun h => (NE4.out.2 k h).1)⟩, p5⟩
theorem Set_any {w : World} {g : Nat} {vo kv vv : Value} {R : List PV} {xs ys : List UInt8} (hm : PM w g vo R) (hk : Rd w kv xs) (hv : Rd w vv ys) (lx : xs.length ≤ 1000000) (ly : ys.length ≤ 1000000) (ok : PgOk (pgs R)) (hn : R.length ≤ 1000000)
    (hc : cnt (pgs R) ≤ 1000000000) :
    Calls Tryz.prog 151 #[.pointer (some ⟨g, 0, none⟩), kv, vv] w fun e w' => ∃ vo' R', e = .returned (.bool (newP (pgs R) xs)) ∧ PT w w' g vo R vo' R' ∧ pgs R' = setP (pgs R) xs ys := by
  by_cases h0 : R = []
  · subst h0
    exact Set_empty hm hk hv lx ly
  have hne' : pgs R ≠ [] := fun h => h0 (by cases R with | nil => rfl | cons a b => simp [pgs] at h)
  unfold newP
  cases hf : (findP (pgs R) xs).2.2 with
  | true =>
    refine (Set_there hm hk hv lx ly ok hn hf).mono ?_
    rintro e w' ⟨vo', R', h1, h2, h3⟩
    refine ⟨vo', R', h1, h2, ?_⟩
    rw [h3]
    unfold setP
    rw [if_neg hne', if_pos hf]
  | false => exact Set_new hm hk hv lx ly ok hn hc h0 hf
open Go.Gl Go.RowKit
set_option maxHeartbeats 1000000 in
theorem Grow_any {w : World} {n : Nat} (h0 : 0 < n) (hn : n ≤ 1000000) :
  Calls Tryz.prog 301 #[.slice none 0 0, .int .i64 n] w fun r w' => ∃ g cap, r = .returned (.slice (some ⟨g, 0, none⟩) 0 cap) ∧ OB w' 244 2 g 0 0 cap [] ∧ n ≤ cap ∧ Mods noB w w' ∧ w.heap.size ≤ g := by
 obtain ⟨inf, hi, hz, hs, hb⟩ := info_parts info2
 have hge := grownCap_ge w n 0 244
 have hlm := grownCap_le_maxLen w n 0 244 (by unfold maxLen; omega)
 obtain ⟨cap, W2, hr, hob, hm, hc⟩ : ∃ (cap : Nat) (W2 : World), (∀ ty, (Builtin.append_ #[258, 3] ty #[.slice none 0 0, .int .i64 (n : Nat)]).run Tryz.prog w = .ok (.slice (some ⟨w.heap.size, 0, none⟩) n cap) W2) ∧ OB W2 244 2 w.heap.size 0 0 cap [] ∧ Mods noB w W2 ∧ n ≤ cap := by
  have hr := fun ty => Lib.run_append_nil_zeros (P := Tryz.prog) w 258 3 ty 244 inf _ .i64 .i64 Tryz.underlying258 Tryz.underlying3 hi hz n h0 (by rw [hs]; omega) (by omega) (by rw [hb]; omega)
  have hzc : ∀ k, (Builtin.zeroCells (Value.cells (.agg #[.slice none 0 0, .slice none 0 0])) k).size = k * 2 := fun k => by rw [size_zeroCells]; rfl
  refine ⟨_, _, hr, ⟨rfl, Nat.zero_le _, hlm, _, heap_new w.drew _, ?_, fun j u hj => by simp at hj⟩, ((Mods.refl noB w).drew).alloc _, hge⟩
  simp only [Array.size_append, hzc]
  omega
 have AP := Lib.hid hr
 have HB := Lib.hid (And.intro hob hm)
 have hc63 : cap ≤ 9223372036854775807 := by simpa [maxLen] using hob.hc
 clear hr hob hm hi hz hs hb hge hlm
 go_enter Tryz.func301, Tryz.ntmps301
 go_wp2_with (at_builtin; refine stop ?_)
 unfold Stop
 refine Lib.wpList_append_run _ rfl _ _ _ _ rfl _ _ rfl rfl _ _ (AP.out _) ?_
 go_wp2
 go_ret
 exact ⟨_, _, rfl, HB.out.1, hc, HB.out.2, Nat.le_refl _⟩
theorem apE {w : World} {v : Value} {n m ug uo uc : Nat} {xs ys : List Value} (hv : OwnG w 244 2 v n xs) (hu : OB w 244 2 ug uo m uc ys) (h1 : ∀ y ∈ ys, y.oneCell' = true) (hn : n + m ≤ 1000000)
  (ops : Array Oper) (Q : Exit → Act → World → Prop) (rest : List Oper) (o : Oper) (a : Act) (s x : Operand) (hgd : o.guard = none) (ho : o.op = .call { callee := .builtin .append, args := #[s, x], argTypes := #[258, 258] }) (h2 : a.eval s = v) (h3 : a.eval x = .slice (some ⟨ug, uo, none⟩) m uc)
  (h : ∀ v' w', OwnG w' 244 2 v' (n + m) (xs ++ ys) → Mods (ofV v) w w' → (v'.ownBlock = v.ownBlock ∨ freshIn w v') → wpList Tryz.prog ops Q rest (a.put o.dst v') w') : wpList Tryz.prog ops Q (o :: rest) a w := by
 obtain ⟨inf, hi, hz, hs, hb⟩ := info_parts info2
 refine wpList_ap (P := Tryz.prog) hgd ho Tryz.underlying258 Tryz.underlying258 hi hz (by rw [hs]; rfl) h2 (by rw [hs]; exact hv) h3 (by rw [hs]; exact OwnG.rd hu.own) h1 (by unfold maxLen; omega) (by rw [hb]; omega) ?_
 intro v' w' k1 k2 k3
 rw [hs] at k1
 exact h v' w' k1 k2 k3
def CatRel (w : World) (xs ys : List Value) (n m k : Nat) (v : Value) (wx : World) : Prop :=
 (if k = 0 then OwnG wx 244 2 v 0 [] else if k = 1 then OwnG wx 244 2 v n xs else OwnG wx 244 2 v (n + m) (xs ++ ys)) ∧ Mods noB w wx ∧ freshIn w v
set_option maxHeartbeats 2000000 in
theorem Cat_any {w : World} {vg pg po pc qg qo qc n m : Nat} {xs ys : List Value} (hrow : w.heap[vg]? = some (.cells #[.slice (some ⟨pg, po, none⟩) n pc, .slice (some ⟨qg, qo, none⟩) m qc] 258 (0, 0)))
  (hp : OB w 244 2 pg po n pc xs) (hq : OB w 244 2 qg qo m qc ys) (h1 : ∀ y ∈ xs, y.oneCell' = true) (h2 : ∀ y ∈ ys, y.oneCell' = true) (hn0 : 0 < n) (hn : n + m ≤ 1000000) :
  Calls Tryz.prog 285 #[.slice (some ⟨vg, 0, none⟩) 2 2] w fun r w' => ∃ v', r = .returned v' ∧ OwnG w' 244 2 v' (n + m) (xs ++ ys) ∧ Mods noB w w' ∧ freshIn w v' := by
 have HR := Lib.hid hrow
 have HP := Lib.hid hp
 have HQ := Lib.hid hq
 have H1 := Lib.hid h1
 have H2 := Lib.hid h2
 have c0 : w.cell? ⟨vg, 0, none⟩ = some (.slice (some ⟨pg, po, none⟩) n pc) := cells_of hrow 0
 have c1 : w.cell? ⟨vg, 1, none⟩ = some (.slice (some ⟨qg, qo, none⟩) m qc) := cells_of hrow 1
 clear hrow hp hq h1 h2
 go_enter Tryz.func285, Tryz.ntmps285
 go_wp2
 go_loopw [3, 11] (fun sz i wr => ∃ k : Nat, k ≤ 2 ∧ i = .int .i64 k ∧ sz = .int .i64 (if k = 0 then 0 else if k = 1 then (n : Int) else (n : Int) + m) ∧ wr = w) (fun _ i _ => 2 - (intOf i).toNat)
 case atStart => exact ⟨0, by omega, rfl, by simp, rfl⟩
 case round =>
  obtain ⟨k, hk, rfl, rfl, rfl⟩ := hrel
  rcases (by omega : k = 0 ∨ k = 1 ∨ k = 2) with rfl | rfl | rfl
  ·go_wp2
   go_roundw
   case rel => exact ⟨1, by omega, by simp, by simp, trivial⟩
   case measure => simp [intOf]
  ·go_wp2
   go_roundw
   case rel => exact ⟨2, by omega, by simp, by simp, trivial⟩
   case measure => simp [intOf]
  ·obtain ⟨wo, rfl⟩ : ∃ wo : World, wo = wr := ⟨_, rfl⟩
   go_wp2_with fail
   rw [show ((n : Int) + (m : Int)) = ((n + m : Nat) : Int) from by omega]
   refine (Grow_any (by omega) hn).mono ?_
   rintro r w1 ⟨g, cap, rfl, ob, hcap, hm, hg⟩
   have OB1 := Lib.hid (show CatRel wo xs ys n m 0 (.slice (some ⟨g, 0, none⟩) 0 cap) w1 from ⟨by rw [if_pos rfl]; exact ob.own, hm, fun k hk => by simp [Value.ownBlock] at hk; omega⟩)
   clear ob hm c0 c1
   go_wp2
   go_loopw [6, 27] (fun v i wx => ∃ k : Nat, k ≤ 2 ∧ i = .int .i64 k ∧ Hid (CatRel wo xs ys n m k v wx)) (fun _ i _ => 2 - (intOf i).toNat)
   case atStart => exact ⟨0, by omega, rfl, OB1⟩
   case round =>
    obtain ⟨k, hk, rfl, hR⟩ := hrel
    have MX := Lib.hid hR.out.2.1
    have c0 : wr.cell? ⟨vg, 0, none⟩ = some (.slice (some ⟨pg, po, none⟩) n pc) := cells_of (MX.out.heap HR.out (fun x => x)) 0
    have c1 : wr.cell? ⟨vg, 1, none⟩ = some (.slice (some ⟨qg, qo, none⟩) m qc) := cells_of (MX.out.heap HR.out (fun x => x)) 1
    rcases (by omega : k = 0 ∨ k = 1 ∨ k = 2) with rfl | rfl | rfl
    ·have o := hR.out.1
     rw [if_pos rfl] at o
     have AP := Lib.hid (apE o (HP.out.keep MX.out (fun x => x)) H1.out (by omega))
     obtain ⟨av, cv, hav, _⟩ := (OwnG.rd o).form
     subst hav
     clear o
     go_wp2_with (at_builtin; refine stop ?_)
     unfold Stop
     refine AP.out _ _ _ _ _ _ _ rfl rfl rfl rfl ?_
     intro v' w' o1 m1 f1
     rw [Nat.zero_add, List.nil_append] at o1
     obtain ⟨a1, c1', rfl, _⟩ := (OwnG.rd o1).form
     have R2 := Lib.hid (show CatRel wo xs ys n m 1 (.slice a1 n c1') w' from ⟨by rw [if_neg (by omega), if_pos rfl]; exact o1, MX.out.trans m1 (U := noB) (fun _ _ x => x) (fun b hb e => by have := hR.out.2.2 b e; omega), f1.elim (fun h => by intro b hb; exact hR.out.2.2 b (h ▸ hb)) (fun h => h.of MX.out.size)⟩)
     clear o1 m1 f1 c0 c1
     go_wp2
     go_roundw
     case rel => exact ⟨1, by omega, by simp, R2⟩
     case measure => simp [intOf]
    ·have o := hR.out.1
     rw [if_neg (by omega), if_pos rfl] at o
     have AP := Lib.hid (apE o (HQ.out.keep MX.out (fun x => x)) H2.out (by omega))
     obtain ⟨av, cv, hav, _⟩ := (OwnG.rd o).form
     subst hav
     clear o
     go_wp2_with (at_builtin; refine stop ?_)
     unfold Stop
     refine AP.out _ _ _ _ _ _ _ rfl rfl rfl rfl ?_
     intro v' w' o1 m1 f1
     obtain ⟨a1, c1', rfl, _⟩ := (OwnG.rd o1).form
     have R2 := Lib.hid (show CatRel wo xs ys n m 2 (.slice a1 (n + m) c1') w' from ⟨by rw [if_neg (by omega), if_neg (by omega)]; exact o1, MX.out.trans m1 (U := noB) (fun _ _ x => x) (fun b hb e => by have := hR.out.2.2 b e; omega), f1.elim (fun h => by intro b hb; exact hR.out.2.2 b (h ▸ hb)) (fun h => h.of MX.out.size)⟩)
     clear o1 m1 f1 c0 c1
     go_wp2
     go_roundw
     case rel => exact ⟨2, by omega, by simp, R2⟩
     case measure => simp [intOf]
    ·have o := hR.out.1
     rw [if_neg (by omega), if_neg (by omega)] at o
     obtain ⟨av, cv, hav, _⟩ := (OwnG.rd o).form
     subst hav
     have R2 := Lib.hid (And.intro o hR.out.2)
     clear o c0 c1
     go_wp2
     go_ret
     exact ⟨_, rfl, R2.out.1, R2.out.2.1, R2.out.2.2⟩
open Go.Gl Go.RowKit
theorem infod1 : (Tryz.prog.info? 258).map (fun i => (i.zero, i.size, i.bytes)) = some (some (.slice none 0 0), 1, 24) := by kernel_rfl
theorem del1_ob {w w2 : World} {g off n c i : Nat} {xs zs : List Value} (h : OB w 258 1 g off n c xs) (hi : i < n) (hz : zs.length = 1) (w1 : World) (h1 : w1 = w.setCells g (off + i * 1) (xs.drop ((i + 1) * 1))) (hw2 : w2 = w1.setCells g (off + (n - 1) * 1) zs) :
  OB w1 258 1 g off (n - 1) c (xs.take (i * 1) ++ xs.drop ((i + 1) * 1)) ∧ OB w2 258 1 g off (n - 1) c (xs.take (i * 1) ++ xs.drop ((i + 1) * 1)) := by
 have hl := h.hl
 have hn := h.hn
 have ht : (xs.take (i * 1)).length = i * 1 := by rw [List.length_take]; omega
 have hd : (xs.drop ((i + 1) * 1)).length = (n - 1 - i) * 1 := by rw [List.length_drop]; omega
 have hlen : (xs.take (i * 1) ++ xs.drop ((i + 1) * 1)).length = (n - 1) * 1 := by rw [List.length_append, ht, hd]; omega
 have k1 : OB w1 258 1 g off (n - 1) c (xs.take (i * 1) ++ xs.drop ((i + 1) * 1)) := by
  rw [h1]
  refine h.set (i * 1) _ (by omega) (n - 1) _ (by omega) hlen (fun j u hj => ?_)
  by_cases c1 : j < i * 1
  ·rw [if_neg (by omega)]
   rw [List.getElem?_append_left (by omega), List.getElem?_take_of_lt c1] at hj
   exact hj
  ·have := (List.getElem?_eq_some_iff.1 hj).1
   rw [hlen] at this
   rw [List.getElem?_append_right (by omega), ht] at hj
   rw [if_pos (by omega)]
   exact hj
 refine ⟨k1, ?_⟩
 rw [hw2]
 refine k1.set ((n - 1) * 1) zs (by omega) (n - 1) _ (by omega) hlen (fun j u hj => ?_)
 have := (List.getElem?_eq_some_iff.1 hj).1
 rw [hlen] at this
 rw [if_neg (by omega)]
 exact hj
theorem ret_slice1 {a : Option Addr} {n m c : Nat} (h : n = m) : Ending.returned (.slice a n c) = .returned (.slice a m c) := by rw [h]
set_option maxHeartbeats 1000000 in
theorem Del1_any {w : World} {g off n c i : Nat} {xs : List Value} (hv : OB w 258 1 g off n c xs) (h0 : ∀ y ∈ xs, y.oneCell' = true) (hi : i < n) (hn : n ≤ 1000000) :
  Calls Tryz.prog 252 #[.slice (some ⟨g, off, none⟩) n c, .int .i64 i, .int .i64 ((i : Int) + 1)] w fun r w' => r = .returned (.slice (some ⟨g, off, none⟩) (n - 1 : Nat) c) ∧ OB w' 258 1 g off (n - 1) c (xs.take (i * 1) ++ xs.drop ((i + 1) * 1)) ∧ Mods (fun k => k = g) w w' := by
 obtain ⟨inf, hinf, hz0, hsz, hby⟩ := info_parts infod1
 have hnc := hv.hn
 have hc63 : c ≤ 9223372036854775807 := by simpa [maxLen] using hv.hc
 obtain ⟨zs, hzs⟩ : ∃ zs, (Builtin.zeroCells (Value.cells (.slice none 0 0)) 1).toList = zs := ⟨_, rfl⟩
 have hzl : zs.length = 1 := by rw [← hzs, Array.length_toList, size_zeroCells]; rfl
 have hz1 : ∀ v ∈ zs, v.oneCell' = true := by rw [← hzs]; intro v hv; simp [Builtin.zeroCells, Value.cells] at hv; first | (rcases hv with rfl | rfl <;> rfl) | (rw [hv]; rfl) | (obtain ⟨a, _, rfl⟩ := hv; rcases (by omega : a = 0 ∨ a = 1) with rfl | rfl <;> rfl) | (obtain ⟨a, _, rfl⟩ := hv; rfl)
 obtain ⟨w3, hw3⟩ : ∃ w3, (w.drewN 1).setCells g (off + i * 1) (xs.drop ((i + 1) * 1)) = w3 := ⟨_, rfl⟩
 obtain ⟨w4, hw4⟩ : ∃ w4, w3.setCells g (off + (n - 1) * 1) zs = w4 := ⟨_, rfl⟩
 have hvd := hv.keep ((Mods.refl noB w).drewN 1) (fun x => x)
 obtain ⟨ob3, ob4⟩ := del1_ob hvd hi hzl w3 hw3.symm hw4.symm
 have AP := Lib.hid (fun (ty : TypeId) (o3 ln c3 : Nat) (ho : o3 = off + (i + 1) * 1 ∨ n = i + 1) (hln : ln = n - (i + 1)) => show (Builtin.append_ #[228, 228] ty #[.slice (some ⟨g, off, none⟩) i c, .slice (some ⟨g, o3, none⟩) ln c3]).run Tryz.prog (w.drewN 1) = .ok (.slice (some ⟨g, off, none⟩) (i + (n - (i + 1))) c) w3 from by
  subst hln
  have hdl : (xs.drop ((i + 1) * 1)).length = (n - (i + 1)) * 1 := by rw [List.length_drop, hv.hl]; omega
  have hsrc : Src Tryz.prog inf.size 228 (.slice (some ⟨g, o3, none⟩) (n - (i + 1)) c3) (n - (i + 1)) (xs.drop ((i + 1) * 1)) (w.drewN 1) := by
   rw [hsz]
   refine Src.ofSlice (w.drewN 1) Tryz.underlying228 ⟨g, o3, none⟩ (n - (i + 1)) c3 _ hdl (fun j u hj => ?_) (fun v hv => h0 v (List.mem_of_mem_drop hv))
   have hjl := (List.getElem?_eq_some_iff.1 hj).1
   rw [hdl] at hjl
   rcases ho with rfl | ho
   ·rw [Addr.add_lit, show off + (i + 1) * 1 + j = off + ((i + 1) * 1 + j) from by omega]
    rw [List.getElem?_drop] at hj
    exact hvd.cell hj
   ·omega
  have := run_append_room_src (P := Tryz.prog) (w := w.drewN 1) 228 228 ty 258 inf Tryz.underlying228 hinf g off i c _ _ _ hsrc (by omega) (fun j hj => by rw [hsz, show off + i * 1 + j = off + (i * 1 + j) from by omega]; exact hvd.there (by omega)) (fun j hj => hvd.free _)
  rw [this, hsz, hw3])
 have CL := Lib.hid (fun (ty : TypeId) (o3 ln c3 : Nat) (ho : o3 = off + (n - 1) * 1) (hln : ln = 1) => show (Builtin.clear_ #[228] ty #[.slice (some ⟨g, o3, none⟩) ln c3]).run Tryz.prog w3 = .ok (.tuple #[]) w4 from by
  subst ho hln
  rw [← hw4]
  exact run_clear_many (P := Tryz.prog) w3 228 258 ty (.slice none 0 0) Tryz.underlying228 (fun w => Tryz.zeroValue258 w) g (off + (n - 1) * 1) 1 c3 (by omega) zs hzs hz1 (fun j hj => by rw [show off + (n - 1) * 1 + j = off + ((n - 1) * 1 + j) from by omega]; exact ob3.there (by omega)) (fun j hj => ob3.free _))
 have M := Lib.hid (show Mods (fun k => k = g) w w4 from (((Mods.refl (fun k => k = g) w).drewN 1).trans (hw3 ▸ setCells_mods (w.drewN 1) g (off + i * 1) (xs.drop ((i + 1) * 1))) (fun _ _ x => x) (fun _ _ x => x)).trans (hw4 ▸ setCells_mods w3 g (off + (n - 1) * 1) zs) (fun _ _ x => x) (fun _ _ x => x))
 have OB4 := Lib.hid ob4
 clear hv h0 hinf hz0 hsz hby hzs hzl hz1 hw3 hw4 hvd ob3 ob4
 have hne : ((i : Int) == (i : Int) + 1) = false := by simp; omega
 have w1 : IntKind.i64.wrap ((i : Int) + 1) = (i : Int) + 1 := IntWalk.i64_in _ (by omega)
 have b1 : (0 : Int) ≤ (i : Int) + 1 := by omega
 have b3 : ((i : Int) + 1).toNat = i + 1 := by omega
 have b5 : (0 : Int) ≤ (i : Int) := by omega
 have b7 : i ≤ n := by omega
 have b13 : i + 1 ≤ n := by omega
 have b14 : (i : Int) + 1 ≤ (n : Int) := by omega
 have b16 : (i : Int) ≤ (n : Int) := by omega
 have b17 : i ≤ c := by omega
 have b18 : (i : Int) ≤ (c : Int) := by omega
 by_cases hci : c = i + 1
 ·obtain rfl : n = i + 1 := by omega
  subst hci
  have b19 : (i : Int) ≤ (i : Int) + 1 := by omega
  go_enter Tryz.func252, Tryz.ntmps252
  go_wp2
  go_still_tail 6, (by kernel_rfl)
  change wpList _ _ _ _ _ (w.drewN 1)
  clear w1 b1 b3 b5 b7 b13 b14 b16 b17 b18 b19
  refine Lib.wpList_append_run _ rfl _ _ _ _ rfl _ _ rfl rfl _ _ (AP.out _ _ _ _ (by first | omega | simp) (by first | omega | simp)) ?_
  go_wp2_with fail
  rw [CL.out _ _ _ _ (by first | omega | simp) (by first | omega | simp)]
  simp only [Result.andThen]
  rw [Oper.upon_value]
  go_wp2
  go_ret
  exact ⟨ret_slice1 (by omega), OB4.out, M.out⟩
 ·have b8 : ¬ (i + 1 = c) := by omega
  go_enter Tryz.func252, Tryz.ntmps252
  go_wp2
  go_still_tail 6, (by kernel_rfl)
  change wpList _ _ _ _ _ (w.drewN 1)
  clear w1 b1 b3 b5 b7 b13 b14 b16 b17 b18 b8 hci
  refine Lib.wpList_append_run _ rfl _ _ _ _ rfl _ _ rfl rfl _ _ (AP.out _ _ _ _ (by omega) (by omega)) ?_
  go_wp2_with fail
  rw [CL.out _ _ _ _ (by first | omega | simp) (by first | omega | simp)]
  simp only [Result.andThen]
  rw [Oper.upon_value]
  go_wp2
  go_ret
  exact ⟨ret_slice1 (by omega), OB4.out, M.out⟩
open Go.Gl Go.RowKit
theorem infod2 : (Tryz.prog.info? 244).map (fun i => (i.zero, i.size, i.bytes)) = some (some (.agg #[.slice none 0 0, .slice none 0 0]), 2, 48) := by kernel_rfl
theorem del2_ob {w w2 : World} {g off n c i : Nat} {xs zs : List Value} (h : OB w 244 2 g off n c xs) (hi : i < n) (hz : zs.length = 2) (w1 : World) (h1 : w1 = w.setCells g (off + i * 2) (xs.drop ((i + 1) * 2))) (hw2 : w2 = w1.setCells g (off + (n - 1) * 2) zs) :
  OB w1 244 2 g off (n - 1) c (xs.take (i * 2) ++ xs.drop ((i + 1) * 2)) ∧ OB w2 244 2 g off (n - 1) c (xs.take (i * 2) ++ xs.drop ((i + 1) * 2)) := by
 have hl := h.hl
 have hn := h.hn
 have ht : (xs.take (i * 2)).length = i * 2 := by rw [List.length_take]; omega
 have hd : (xs.drop ((i + 1) * 2)).length = (n - 1 - i) * 2 := by rw [List.length_drop]; omega
 have hlen : (xs.take (i * 2) ++ xs.drop ((i + 1) * 2)).length = (n - 1) * 2 := by rw [List.length_append, ht, hd]; omega
 have k1 : OB w1 244 2 g off (n - 1) c (xs.take (i * 2) ++ xs.drop ((i + 1) * 2)) := by
  rw [h1]
  refine h.set (i * 2) _ (by omega) (n - 1) _ (by omega) hlen (fun j u hj => ?_)
  by_cases c1 : j < i * 2
  ·rw [if_neg (by omega)]
   rw [List.getElem?_append_left (by omega), List.getElem?_take_of_lt c1] at hj
   exact hj
  ·have := (List.getElem?_eq_some_iff.1 hj).1
   rw [hlen] at this
   rw [List.getElem?_append_right (by omega), ht] at hj
   rw [if_pos (by omega)]
   exact hj
 refine ⟨k1, ?_⟩
 rw [hw2]
 refine k1.set ((n - 1) * 2) zs (by omega) (n - 1) _ (by omega) hlen (fun j u hj => ?_)
 have := (List.getElem?_eq_some_iff.1 hj).1
 rw [hlen] at this
 rw [if_neg (by omega)]
 exact hj
theorem ret_slice2 {a : Option Addr} {n m c : Nat} (h : n = m) : Ending.returned (.slice a n c) = .returned (.slice a m c) := by rw [h]
set_option maxHeartbeats 1000000 in
theorem Del2_any {w : World} {g off n c i : Nat} {xs : List Value} (hv : OB w 244 2 g off n c xs) (h0 : ∀ y ∈ xs, y.oneCell' = true) (hi : i < n) (hn : n ≤ 1000000) :
  Calls Tryz.prog 251 #[.slice (some ⟨g, off, none⟩) n c, .int .i64 i, .int .i64 ((i : Int) + 1)] w fun r w' => r = .returned (.slice (some ⟨g, off, none⟩) (n - 1 : Nat) c) ∧ OB w' 244 2 g off (n - 1) c (xs.take (i * 2) ++ xs.drop ((i + 1) * 2)) ∧ Mods (fun k => k = g) w w' := by
 obtain ⟨inf, hinf, hz0, hsz, hby⟩ := info_parts infod2
 have hnc := hv.hn
 have hc63 : c ≤ 9223372036854775807 := by simpa [maxLen] using hv.hc
 obtain ⟨zs, hzs⟩ : ∃ zs, (Builtin.zeroCells (Value.cells (.agg #[.slice none 0 0, .slice none 0 0])) 1).toList = zs := ⟨_, rfl⟩
 have hzl : zs.length = 2 := by rw [← hzs, Array.length_toList, size_zeroCells]; rfl
 have hz1 : ∀ v ∈ zs, v.oneCell' = true := by rw [← hzs]; intro v hv; simp [Builtin.zeroCells, Value.cells] at hv; first | (rcases hv with rfl | rfl <;> rfl) | (rw [hv]; rfl) | (obtain ⟨a, _, rfl⟩ := hv; rcases (by omega : a = 0 ∨ a = 1) with rfl | rfl <;> rfl) | (obtain ⟨a, _, rfl⟩ := hv; rfl)
 obtain ⟨w3, hw3⟩ : ∃ w3, (w.drewN 1).setCells g (off + i * 2) (xs.drop ((i + 1) * 2)) = w3 := ⟨_, rfl⟩
 obtain ⟨w4, hw4⟩ : ∃ w4, w3.setCells g (off + (n - 1) * 2) zs = w4 := ⟨_, rfl⟩
 have hvd := hv.keep ((Mods.refl noB w).drewN 1) (fun x => x)
 obtain ⟨ob3, ob4⟩ := del2_ob hvd hi hzl w3 hw3.symm hw4.symm
 have AP := Lib.hid (fun (ty : TypeId) (o3 ln c3 : Nat) (ho : o3 = off + (i + 1) * 2 ∨ n = i + 1) (hln : ln = n - (i + 1)) => show (Builtin.append_ #[258, 258] ty #[.slice (some ⟨g, off, none⟩) i c, .slice (some ⟨g, o3, none⟩) ln c3]).run Tryz.prog (w.drewN 1) = .ok (.slice (some ⟨g, off, none⟩) (i + (n - (i + 1))) c) w3 from by
  subst hln
  have hdl : (xs.drop ((i + 1) * 2)).length = (n - (i + 1)) * 2 := by rw [List.length_drop, hv.hl]; omega
  have hsrc : Src Tryz.prog inf.size 258 (.slice (some ⟨g, o3, none⟩) (n - (i + 1)) c3) (n - (i + 1)) (xs.drop ((i + 1) * 2)) (w.drewN 1) := by
   rw [hsz]
   refine Src.ofSlice (w.drewN 1) Tryz.underlying258 ⟨g, o3, none⟩ (n - (i + 1)) c3 _ hdl (fun j u hj => ?_) (fun v hv => h0 v (List.mem_of_mem_drop hv))
   have hjl := (List.getElem?_eq_some_iff.1 hj).1
   rw [hdl] at hjl
   rcases ho with rfl | ho
   ·rw [Addr.add_lit, show off + (i + 1) * 2 + j = off + ((i + 1) * 2 + j) from by omega]
    rw [List.getElem?_drop] at hj
    exact hvd.cell hj
   ·omega
  have := run_append_room_src (P := Tryz.prog) (w := w.drewN 1) 258 258 ty 244 inf Tryz.underlying258 hinf g off i c _ _ _ hsrc (by omega) (fun j hj => by rw [hsz, show off + i * 2 + j = off + (i * 2 + j) from by omega]; exact hvd.there (by omega)) (fun j hj => hvd.free _)
  rw [this, hsz, hw3])
 have CL := Lib.hid (fun (ty : TypeId) (o3 ln c3 : Nat) (ho : o3 = off + (n - 1) * 2) (hln : ln = 1) => show (Builtin.clear_ #[258] ty #[.slice (some ⟨g, o3, none⟩) ln c3]).run Tryz.prog w3 = .ok (.tuple #[]) w4 from by
  subst ho hln
  rw [← hw4]
  exact run_clear_many (P := Tryz.prog) w3 258 244 ty (.agg #[.slice none 0 0, .slice none 0 0]) Tryz.underlying258 (fun w => Tryz.zeroValue244 w) g (off + (n - 1) * 2) 1 c3 (by omega) zs hzs hz1 (fun j hj => by rw [show off + (n - 1) * 2 + j = off + ((n - 1) * 2 + j) from by omega]; exact ob3.there (by omega)) (fun j hj => ob3.free _))
 have M := Lib.hid (show Mods (fun k => k = g) w w4 from (((Mods.refl (fun k => k = g) w).drewN 1).trans (hw3 ▸ setCells_mods (w.drewN 1) g (off + i * 2) (xs.drop ((i + 1) * 2))) (fun _ _ x => x) (fun _ _ x => x)).trans (hw4 ▸ setCells_mods w3 g (off + (n - 1) * 2) zs) (fun _ _ x => x) (fun _ _ x => x))
 have OB4 := Lib.hid ob4
 clear hv h0 hinf hz0 hsz hby hzs hzl hz1 hw3 hw4 hvd ob3 ob4
 have hne : ((i : Int) == (i : Int) + 1) = false := by simp; omega
 have w1 : IntKind.i64.wrap ((i : Int) + 1) = (i : Int) + 1 := IntWalk.i64_in _ (by omega)
 have b1 : (0 : Int) ≤ (i : Int) + 1 := by omega
 have b3 : ((i : Int) + 1).toNat = i + 1 := by omega
 have b5 : (0 : Int) ≤ (i : Int) := by omega
 have b7 : i ≤ n := by omega
 have b13 : i + 1 ≤ n := by omega
 have b14 : (i : Int) + 1 ≤ (n : Int) := by omega
 have b16 : (i : Int) ≤ (n : Int) := by omega
 have b17 : i ≤ c := by omega
 have b18 : (i : Int) ≤ (c : Int) := by omega
 by_cases hci : c = i + 1
 ·obtain rfl : n = i + 1 := by omega
  subst hci
  have b19 : (i : Int) ≤ (i : Int) + 1 := by omega
  go_enter Tryz.func251, Tryz.ntmps251
  go_wp2
  go_still_tail 6, (by kernel_rfl)
  change wpList _ _ _ _ _ (w.drewN 1)
  clear w1 b1 b3 b5 b7 b13 b14 b16 b17 b18 b19
  refine Lib.wpList_append_run _ rfl _ _ _ _ rfl _ _ rfl rfl _ _ (AP.out _ _ _ _ (by first | omega | simp) (by first | omega | simp)) ?_
  go_wp2_with fail
  rw [CL.out _ _ _ _ (by first | omega | simp) (by first | omega | simp)]
  simp only [Result.andThen]
  rw [Oper.upon_value]
  go_wp2
  go_ret
  exact ⟨ret_slice2 (by omega), OB4.out, M.out⟩
 ·have b8 : ¬ (i + 1 = c) := by omega
  go_enter Tryz.func251, Tryz.ntmps251
  go_wp2
  go_still_tail 6, (by kernel_rfl)
  change wpList _ _ _ _ _ (w.drewN 1)
  clear w1 b1 b3 b5 b7 b13 b14 b16 b17 b18 b8 hci
  refine Lib.wpList_append_run _ rfl _ _ _ _ rfl _ _ rfl rfl _ _ (AP.out _ _ _ _ (by omega) (by omega)) ?_
  go_wp2_with fail
  rw [CL.out _ _ _ _ (by first | omega | simp) (by first | omega | simp)]
  simp only [Result.andThen]
  rw [Oper.upon_value]
  go_wp2
  go_ret
  exact ⟨ret_slice2 (by omega), OB4.out, M.out⟩
open Go.Gl Go.RowKit
set_option maxHeartbeats 1000000 in
theorem join1n {w : World} {g : Nat} {p : Int} (hp : p < 0) {x2 x3 x4 x5 x6 x7 x8 x9 x10 x11 x12 x13 x14 x15 x16 x17 x18 x19 x20 x21 x22 x23 x24 x25 x26 x27 x28 x29 x30 x31 x32 x33 x34 x35 x36 x37 x38 x39 x40 x41 x42 x43 x44 x45 x46 x47 x48 x49 x50 x51 x52 x53 x54 x55 x56 x57 x58 x59 x60 x61 x62 x63 x64 x65 x66 x67 x68 x69 x70 x71 x72 : Value} {df : List Deferred} {Q : Exit → Act → World → Prop}
  (hK : ∀ (y5 y6 y7 y8 y9 y10 y11 y12 y13 y14 y15 y16 y17 y18 y19 y20 y21 y22 y23 y24 y25 y26 y27 y28 y29 y30 y31 y32 y33 y34 y35 y36 : Value)  (w' : World), Mods noB w w' → Q .normal ⟨#[.pointer (some ⟨g, 0, none⟩), .int .i64 (p), x2, x3, x4, y5, y6, y7, y8, y9, y10, y11, y12, y13, y14, y15, y16, y17, y18, y19, y20, y21, y22, y23, y24, y25, y26, y27, y28, y29, y30, y31, y32, y33, y34, y35, y36, .bool true, x38, x39, x40, x41, x42, x43, x44, x45, x46, x47, x48, x49, x50, x51, x52, x53, x54, x55, x56, x57, x58, x59, x60, x61, x62, x63, x64, x65, x66, x67, x68, x69, x70, x71, x72], df⟩ w') : RW Tryz.prog (opsC 1 Tryz.f253) true Q ⟨#[.pointer (some ⟨g, 0, none⟩), .int .i64 (p), x2, x3, x4, x5, x6, x7, x8, x9, x10, x11, x12, x13, x14, x15, x16, x17, x18, x19, x20, x21, x22, x23, x24, x25, x26, x27, x28, x29, x30, x31, x32, x33, x34, x35, x36, x37, x38, x39, x40, x41, x42, x43, x44, x45, x46, x47, x48, x49, x50, x51, x52, x53, x54, x55, x56, x57, x58, x59, x60, x61, x62, x63, x64, x65, x66, x67, x68, x69, x70, x71, x72], df⟩ w := by
 have HQ := Lib.hid hK
 clear hK
 have MR := Lib.hid ((Mods.refl noB w).drew)
 refine rw_ordF (S := fun b' => Mods noB w b') [(0, true), (1, true), (2, true), (3, true), (4, true), (5, true), (6, true), (7, true), (8, true), (9, true), (10, true), (11, true), (12, true), (13, true), (14, true), (15, true), (16, true), (17, true), (18, true), (19, true), (20, true), (21, true), (22, true), (23, true), (24, true), (25, true), (26, true), (27, true), (28, true), (29, true), (30, true), (31, true), (32, true)] [] [(0, 2, 32), (1, 32, 64), (2, 64, 128), (4, 130, 256), (12, 384, 512), (4, 129, 1024), (36, 1152, 2048), (68, 2176, 4096), (132, 4224, 8192), (260, 8320, 16384), (532, 17024, 32768), (1028, 32896, 65536), (2052, 65536, 131072), (4096, 131073, 262144), (12288, 393216, 524288), (20480, 655360, 1048576), (36864, 1179648, 2097152), (4096, 131074, 4194304), (200704, 6422528, 8388608), (266240, 8519680, 16777216), (528384, 16908288, 33554432), (4096, 131073, 67108864), (2101248, 67239936, 134217728), (4198400, 134348800, 268435456), (8392704, 268566528, 536870912), (4096, 131074, 1073741824), (33558528, 1073872896, 2147483648), (83890176, 2684485632, 4294967296), (134221824, 4295098368, 8589934592), (268439552, 8590065664, 17179869184), (537923584, 17213554688, 34359738368), (1073745920, 34359869440, 68719476736), (2147487744, 68719607808, 137438953472)] (by kernel_rfl) (by kernel_rfl) (by kernel_rfl) (by kernel_rfl) (by kernel_rfl) MR.out ?_
 refine wpOrdT_frees [0] [.int .i64 (p)] (rest := [(1, true), (2, true), (3, true), (4, true), (5, true), (6, true), (7, true), (8, true), (9, true), (10, true), (11, true), (12, true), (13, true), (14, true), (15, true), (16, true), (17, true), (18, true), (19, true), (20, true), (21, true), (22, true), (23, true), (24, true), (25, true), (26, true), (27, true), (28, true), (29, true), (30, true), (31, true), (32, true)]) (by kernel_rfl) (by kernel_rfl) (fun _ => by kernel_rfl) ?_
 refine wpOrdT_free (.bool true) (some 6) ⟨by kernel_rfl, by kernel_rfl, by kernel_rfl⟩ (fun bb hb => run_bin (t := 3) (t' := 3) (xv := .int .i64 (p)) (yv := .int .i64 0) (x := (.tmp 5)) (y := (.const (.int .i64 0))) (by kernel_rfl) (by kernel_rfl) (by kernel_rfl) (fun _ => by kernel_rfl) (run_lss _ (decide_eq_true (by omega)))) ?_
 refine wpOrdT_frees [2, 3, 4, 5, 6, 7, 8, 9, 10, 11, 12, 13, 14, 15, 16, 17, 18, 19, 20, 21, 22, 23, 24, 25, 26, 27, 28, 29, 30, 31, 32] [.bool true, undef, undef, undef, undef, undef, undef, undef, undef, .bool true, .bool true, undef, undef, undef, undef, undef, undef, undef, undef, undef, undef, undef, undef, undef, undef, undef, undef, undef, undef, undef, .bool true] (rest := []) (by kernel_rfl) (by kernel_rfl) (fun _ => by kernel_rfl) ?_
 exact wpOrdT_doneC (act_is (K := Q .normal) (by kernel_rfl) (HQ.out (.int .i64 (p)) (.bool true) (.bool true) (undef) (undef) (undef) (undef) (undef) (undef) (undef) (undef) (.bool true) (.bool true) (undef) (undef) (undef) (undef) (undef) (undef) (undef) (undef) (undef) (undef) (undef) (undef) (undef) (undef) (undef) (undef) (undef) (undef) (undef) _ MR.out))
set_option maxHeartbeats 1000000 in
theorem join1l {w : World} {g b off n cap p : Nat} {vn : Value} (hg : w.heap[g]? = some (.cells #[.slice (some ⟨b, off, none⟩) n cap, vn] 230 (0, 0))) (hp : n ≤ p + 1) (hb : p ≤ 1000000000) {x2 x3 x4 x5 x6 x7 x8 x9 x10 x11 x12 x13 x14 x15 x16 x17 x18 x19 x20 x21 x22 x23 x24 x25 x26 x27 x28 x29 x30 x31 x32 x33 x34 x35 x36 x37 x38 x39 x40 x41 x42 x43 x44 x45 x46 x47 x48 x49 x50 x51 x52 x53 x54 x55 x56 x57 x58 x59 x60 x61 x62 x63 x64 x65 x66 x67 x68 x69 x70 x71 x72 : Value} {df : List Deferred} {Q : Exit → Act → World → Prop}
  (hK : ∀ (y5 y6 y7 y8 y9 y10 y11 y12 y13 y14 y15 y16 y17 y18 y19 y20 y21 y22 y23 y24 y25 y26 y27 y28 y29 y30 y31 y32 y33 y34 y35 y36 : Value)  (w' : World), Mods noB w w' → Q .normal ⟨#[.pointer (some ⟨g, 0, none⟩), .int .i64 ((p : Nat) : Int), x2, x3, x4, y5, y6, y7, y8, y9, y10, y11, y12, y13, y14, y15, y16, y17, y18, y19, y20, y21, y22, y23, y24, y25, y26, y27, y28, y29, y30, y31, y32, y33, y34, y35, y36, .bool true, x38, x39, x40, x41, x42, x43, x44, x45, x46, x47, x48, x49, x50, x51, x52, x53, x54, x55, x56, x57, x58, x59, x60, x61, x62, x63, x64, x65, x66, x67, x68, x69, x70, x71, x72], df⟩ w') : RW Tryz.prog (opsC 1 Tryz.f253) true Q ⟨#[.pointer (some ⟨g, 0, none⟩), .int .i64 ((p : Nat) : Int), x2, x3, x4, x5, x6, x7, x8, x9, x10, x11, x12, x13, x14, x15, x16, x17, x18, x19, x20, x21, x22, x23, x24, x25, x26, x27, x28, x29, x30, x31, x32, x33, x34, x35, x36, x37, x38, x39, x40, x41, x42, x43, x44, x45, x46, x47, x48, x49, x50, x51, x52, x53, x54, x55, x56, x57, x58, x59, x60, x61, x62, x63, x64, x65, x66, x67, x68, x69, x70, x71, x72], df⟩ w := by
 have HQ := Lib.hid hK
 clear hK
 have Q2 := Lib.hid (fun b' (hm : Mods noB w b') => show b'.cell? ⟨g, 0, none⟩ = some (.slice (some ⟨b, off, none⟩) n cap) from cells_of (hm.heap hg (fun x => x)) 0)
 clear hg
 have MR := Lib.hid ((Mods.refl noB w).drew)
 refine rw_ordF (S := fun b' => Mods noB w b') [(0, true), (1, true), (2, true), (3, true), (4, true), (5, true), (6, true), (7, true), (8, true), (9, true), (10, true), (11, true), (12, true), (13, true), (14, true), (15, true), (16, true), (17, true), (18, true), (19, true), (20, true), (21, true), (22, true), (23, true), (24, true), (25, true), (26, true), (27, true), (28, true), (29, true), (30, true), (31, true), (32, true)] [] [(0, 2, 32), (1, 32, 64), (2, 64, 128), (4, 130, 256), (12, 384, 512), (4, 129, 1024), (36, 1152, 2048), (68, 2176, 4096), (132, 4224, 8192), (260, 8320, 16384), (532, 17024, 32768), (1028, 32896, 65536), (2052, 65536, 131072), (4096, 131073, 262144), (12288, 393216, 524288), (20480, 655360, 1048576), (36864, 1179648, 2097152), (4096, 131074, 4194304), (200704, 6422528, 8388608), (266240, 8519680, 16777216), (528384, 16908288, 33554432), (4096, 131073, 67108864), (2101248, 67239936, 134217728), (4198400, 134348800, 268435456), (8392704, 268566528, 536870912), (4096, 131074, 1073741824), (33558528, 1073872896, 2147483648), (83890176, 2684485632, 4294967296), (134221824, 4295098368, 8589934592), (268439552, 8590065664, 17179869184), (537923584, 17213554688, 34359738368), (1073745920, 34359869440, 68719476736), (2147487744, 68719607808, 137438953472)] (by kernel_rfl) (by kernel_rfl) (by kernel_rfl) (by kernel_rfl) (by kernel_rfl) MR.out ?_
 refine wpOrdT_frees [0] [.int .i64 ((p : Nat) : Int)] (rest := [(1, true), (2, true), (3, true), (4, true), (5, true), (6, true), (7, true), (8, true), (9, true), (10, true), (11, true), (12, true), (13, true), (14, true), (15, true), (16, true), (17, true), (18, true), (19, true), (20, true), (21, true), (22, true), (23, true), (24, true), (25, true), (26, true), (27, true), (28, true), (29, true), (30, true), (31, true), (32, true)]) (by kernel_rfl) (by kernel_rfl) (fun _ => by kernel_rfl) ?_
 refine wpOrdT_free (.bool false) (some 6) ⟨by kernel_rfl, by kernel_rfl, by kernel_rfl⟩ (fun bb hb => run_bin (t := 3) (t' := 3) (xv := .int .i64 ((p : Nat) : Int)) (yv := .int .i64 0) (x := (.tmp 5)) (y := (.const (.int .i64 0))) (by kernel_rfl) (by kernel_rfl) (by kernel_rfl) (fun _ => by kernel_rfl) (run_lss _ (decide_eq_false (by omega)))) ?_
 refine wpOrdT_frees [2, 3] [.bool false, .int .i64 ((p : Nat) : Int)] (rest := [(4, true), (5, true), (6, true), (7, true), (8, true), (9, true), (10, true), (11, true), (12, true), (13, true), (14, true), (15, true), (16, true), (17, true), (18, true), (19, true), (20, true), (21, true), (22, true), (23, true), (24, true), (25, true), (26, true), (27, true), (28, true), (29, true), (30, true), (31, true), (32, true)]) (by kernel_rfl) (by kernel_rfl) (fun _ => by kernel_rfl) ?_
 refine wpOrdT_free (.int .i64 (((p + 1) : Nat) : Int)) (some 9) ⟨by kernel_rfl, by kernel_rfl, by kernel_rfl⟩ (fun bb hb => run_bin (t := 3) (t' := 3) (xv := .int .i64 ((p : Nat) : Int)) (yv := .int .i64 1) (x := (.tmp 8)) (y := (.const (.int .i64 1))) (by kernel_rfl) (by kernel_rfl) (by kernel_rfl) (fun _ => by kernel_rfl) (run_addI _ (by omega) (by omega) (by omega))) ?_
 refine wpOrdT_frees [5, 6, 7] [.pointer (some ⟨g, 0, none⟩), .pointer (some ⟨g, 0, none⟩), .pointer (some ⟨g, 0, none⟩)] (rest := [(8, true), (9, true), (10, true), (11, true), (12, true), (13, true), (14, true), (15, true), (16, true), (17, true), (18, true), (19, true), (20, true), (21, true), (22, true), (23, true), (24, true), (25, true), (26, true), (27, true), (28, true), (29, true), (30, true), (31, true), (32, true)]) (by kernel_rfl) (by kernel_rfl) (fun _ => by kernel_rfl) ?_
 refine wpOrdT_free (.slice (some ⟨b, off, none⟩) n cap) (some 13) ⟨by kernel_rfl, by kernel_rfl, by kernel_rfl⟩ (fun bb hb => of_load (x := (.tmp 12)) (by kernel_rfl) (by kernel_rfl) (load_c (Q2.out _ hb) Tryz.underlying228 rfl)) ?_
 refine wpOrdT_frees [9] [.int .i64 ((n : Nat) : Int)] (rest := [(10, true), (11, true), (12, true), (13, true), (14, true), (15, true), (16, true), (17, true), (18, true), (19, true), (20, true), (21, true), (22, true), (23, true), (24, true), (25, true), (26, true), (27, true), (28, true), (29, true), (30, true), (31, true), (32, true)]) (by kernel_rfl) (by kernel_rfl) (fun _ => by kernel_rfl) ?_
 refine wpOrdT_free (.bool true) (some 15) ⟨by kernel_rfl, by kernel_rfl, by kernel_rfl⟩ (fun bb hb => run_bin (t := 3) (t' := 3) (xv := .int .i64 (((p + 1) : Nat) : Int)) (yv := .int .i64 ((n : Nat) : Int)) (x := (.tmp 9)) (y := (.tmp 14)) (by kernel_rfl) (by kernel_rfl) (by kernel_rfl) (fun _ => by kernel_rfl) (run_geq _ (decide_eq_true (by omega)))) ?_
 refine wpOrdT_frees [11, 12, 13, 14, 15, 16, 17, 18, 19, 20, 21, 22, 23, 24, 25, 26, 27, 28, 29, 30, 31, 32] [.bool true, .bool true, undef, undef, undef, undef, undef, undef, undef, undef, undef, undef, undef, undef, undef, undef, undef, undef, undef, undef, undef, .bool true] (rest := []) (by kernel_rfl) (by kernel_rfl) (fun _ => by kernel_rfl) ?_
 exact wpOrdT_doneC (act_is (K := Q .normal) (by kernel_rfl) (HQ.out (.int .i64 ((p : Nat) : Int)) (.bool false) (.bool false) (.int .i64 ((p : Nat) : Int)) (.int .i64 (((p + 1) : Nat) : Int)) (.pointer (some ⟨g, 0, none⟩)) (.pointer (some ⟨g, 0, none⟩)) (.pointer (some ⟨g, 0, none⟩)) (.slice (some ⟨b, off, none⟩) n cap) (.int .i64 ((n : Nat) : Int)) (.bool true) (.bool true) (.bool true) (undef) (undef) (undef) (undef) (undef) (undef) (undef) (undef) (undef) (undef) (undef) (undef) (undef) (undef) (undef) (undef) (undef) (undef) (undef) _ MR.out))
set_option maxHeartbeats 1000000 in
theorem join1e {w : World} {g p : Nat} {vn : Value} (hg : w.heap[g]? = some (.cells #[.slice none 0 0, vn] 230 (0, 0))) (hb : p ≤ 1000000000) {x2 x3 x4 x5 x6 x7 x8 x9 x10 x11 x12 x13 x14 x15 x16 x17 x18 x19 x20 x21 x22 x23 x24 x25 x26 x27 x28 x29 x30 x31 x32 x33 x34 x35 x36 x37 x38 x39 x40 x41 x42 x43 x44 x45 x46 x47 x48 x49 x50 x51 x52 x53 x54 x55 x56 x57 x58 x59 x60 x61 x62 x63 x64 x65 x66 x67 x68 x69 x70 x71 x72 : Value} {df : List Deferred} {Q : Exit → Act → World → Prop}
  (hK : ∀ (y5 y6 y7 y8 y9 y10 y11 y12 y13 y14 y15 y16 y17 y18 y19 y20 y21 y22 y23 y24 y25 y26 y27 y28 y29 y30 y31 y32 y33 y34 y35 y36 : Value)  (w' : World), Mods noB w w' → Q .normal ⟨#[.pointer (some ⟨g, 0, none⟩), .int .i64 ((p : Nat) : Int), x2, x3, x4, y5, y6, y7, y8, y9, y10, y11, y12, y13, y14, y15, y16, y17, y18, y19, y20, y21, y22, y23, y24, y25, y26, y27, y28, y29, y30, y31, y32, y33, y34, y35, y36, .bool true, x38, x39, x40, x41, x42, x43, x44, x45, x46, x47, x48, x49, x50, x51, x52, x53, x54, x55, x56, x57, x58, x59, x60, x61, x62, x63, x64, x65, x66, x67, x68, x69, x70, x71, x72], df⟩ w') : RW Tryz.prog (opsC 1 Tryz.f253) true Q ⟨#[.pointer (some ⟨g, 0, none⟩), .int .i64 ((p : Nat) : Int), x2, x3, x4, x5, x6, x7, x8, x9, x10, x11, x12, x13, x14, x15, x16, x17, x18, x19, x20, x21, x22, x23, x24, x25, x26, x27, x28, x29, x30, x31, x32, x33, x34, x35, x36, x37, x38, x39, x40, x41, x42, x43, x44, x45, x46, x47, x48, x49, x50, x51, x52, x53, x54, x55, x56, x57, x58, x59, x60, x61, x62, x63, x64, x65, x66, x67, x68, x69, x70, x71, x72], df⟩ w := by
 have HQ := Lib.hid hK
 clear hK
 have Q2 := Lib.hid (fun b' (hm : Mods noB w b') => show b'.cell? ⟨g, 0, none⟩ = some (.slice none 0 0) from cells_of (hm.heap hg (fun x => x)) 0)
 clear hg
 have MR := Lib.hid ((Mods.refl noB w).drew)
 refine rw_ordF (S := fun b' => Mods noB w b') [(0, true), (1, true), (2, true), (3, true), (4, true), (5, true), (6, true), (7, true), (8, true), (9, true), (10, true), (11, true), (12, true), (13, true), (14, true), (15, true), (16, true), (17, true), (18, true), (19, true), (20, true), (21, true), (22, true), (23, true), (24, true), (25, true), (26, true), (27, true), (28, true), (29, true), (30, true), (31, true), (32, true)] [] [(0, 2, 32), (1, 32, 64), (2, 64, 128), (4, 130, 256), (12, 384, 512), (4, 129, 1024), (36, 1152, 2048), (68, 2176, 4096), (132, 4224, 8192), (260, 8320, 16384), (532, 17024, 32768), (1028, 32896, 65536), (2052, 65536, 131072), (4096, 131073, 262144), (12288, 393216, 524288), (20480, 655360, 1048576), (36864, 1179648, 2097152), (4096, 131074, 4194304), (200704, 6422528, 8388608), (266240, 8519680, 16777216), (528384, 16908288, 33554432), (4096, 131073, 67108864), (2101248, 67239936, 134217728), (4198400, 134348800, 268435456), (8392704, 268566528, 536870912), (4096, 131074, 1073741824), (33558528, 1073872896, 2147483648), (83890176, 2684485632, 4294967296), (134221824, 4295098368, 8589934592), (268439552, 8590065664, 17179869184), (537923584, 17213554688, 34359738368), (1073745920, 34359869440, 68719476736), (2147487744, 68719607808, 137438953472)] (by kernel_rfl) (by kernel_rfl) (by kernel_rfl) (by kernel_rfl) (by kernel_rfl) MR.out ?_
 refine wpOrdT_frees [0] [.int .i64 ((p : Nat) : Int)] (rest := [(1, true), (2, true), (3, true), (4, true), (5, true), (6, true), (7, true), (8, true), (9, true), (10, true), (11, true), (12, true), (13, true), (14, true), (15, true), (16, true), (17, true), (18, true), (19, true), (20, true), (21, true), (22, true), (23, true), (24, true), (25, true), (26, true), (27, true), (28, true), (29, true), (30, true), (31, true), (32, true)]) (by kernel_rfl) (by kernel_rfl) (fun _ => by kernel_rfl) ?_
 refine wpOrdT_free (.bool false) (some 6) ⟨by kernel_rfl, by kernel_rfl, by kernel_rfl⟩ (fun bb hb => run_bin (t := 3) (t' := 3) (xv := .int .i64 ((p : Nat) : Int)) (yv := .int .i64 0) (x := (.tmp 5)) (y := (.const (.int .i64 0))) (by kernel_rfl) (by kernel_rfl) (by kernel_rfl) (fun _ => by kernel_rfl) (run_lss _ (decide_eq_false (by omega)))) ?_
 refine wpOrdT_frees [2, 3] [.bool false, .int .i64 ((p : Nat) : Int)] (rest := [(4, true), (5, true), (6, true), (7, true), (8, true), (9, true), (10, true), (11, true), (12, true), (13, true), (14, true), (15, true), (16, true), (17, true), (18, true), (19, true), (20, true), (21, true), (22, true), (23, true), (24, true), (25, true), (26, true), (27, true), (28, true), (29, true), (30, true), (31, true), (32, true)]) (by kernel_rfl) (by kernel_rfl) (fun _ => by kernel_rfl) ?_
 refine wpOrdT_free (.int .i64 (((p + 1) : Nat) : Int)) (some 9) ⟨by kernel_rfl, by kernel_rfl, by kernel_rfl⟩ (fun bb hb => run_bin (t := 3) (t' := 3) (xv := .int .i64 ((p : Nat) : Int)) (yv := .int .i64 1) (x := (.tmp 8)) (y := (.const (.int .i64 1))) (by kernel_rfl) (by kernel_rfl) (by kernel_rfl) (fun _ => by kernel_rfl) (run_addI _ (by omega) (by omega) (by omega))) ?_
 refine wpOrdT_frees [5, 6, 7] [.pointer (some ⟨g, 0, none⟩), .pointer (some ⟨g, 0, none⟩), .pointer (some ⟨g, 0, none⟩)] (rest := [(8, true), (9, true), (10, true), (11, true), (12, true), (13, true), (14, true), (15, true), (16, true), (17, true), (18, true), (19, true), (20, true), (21, true), (22, true), (23, true), (24, true), (25, true), (26, true), (27, true), (28, true), (29, true), (30, true), (31, true), (32, true)]) (by kernel_rfl) (by kernel_rfl) (fun _ => by kernel_rfl) ?_
 refine wpOrdT_free (.slice none 0 0) (some 13) ⟨by kernel_rfl, by kernel_rfl, by kernel_rfl⟩ (fun bb hb => of_load (x := (.tmp 12)) (by kernel_rfl) (by kernel_rfl) (load_c (Q2.out _ hb) Tryz.underlying228 rfl)) ?_
 refine wpOrdT_frees [9] [.int .i64 0] (rest := [(10, true), (11, true), (12, true), (13, true), (14, true), (15, true), (16, true), (17, true), (18, true), (19, true), (20, true), (21, true), (22, true), (23, true), (24, true), (25, true), (26, true), (27, true), (28, true), (29, true), (30, true), (31, true), (32, true)]) (by kernel_rfl) (by kernel_rfl) (fun _ => by kernel_rfl) ?_
 refine wpOrdT_free (.bool true) (some 15) ⟨by kernel_rfl, by kernel_rfl, by kernel_rfl⟩ (fun bb hb => run_bin (t := 3) (t' := 3) (xv := .int .i64 (((p + 1) : Nat) : Int)) (yv := .int .i64 0) (x := (.tmp 9)) (y := (.tmp 14)) (by kernel_rfl) (by kernel_rfl) (by kernel_rfl) (fun _ => by kernel_rfl) (run_geq _ (decide_eq_true (by omega)))) ?_
 refine wpOrdT_frees [11, 12, 13, 14, 15, 16, 17, 18, 19, 20, 21, 22, 23, 24, 25, 26, 27, 28, 29, 30, 31, 32] [.bool true, .bool true, undef, undef, undef, undef, undef, undef, undef, undef, undef, undef, undef, undef, undef, undef, undef, undef, undef, undef, undef, .bool true] (rest := []) (by kernel_rfl) (by kernel_rfl) (fun _ => by kernel_rfl) ?_
 exact wpOrdT_doneC (act_is (K := Q .normal) (by kernel_rfl) (HQ.out (.int .i64 ((p : Nat) : Int)) (.bool false) (.bool false) (.int .i64 ((p : Nat) : Int)) (.int .i64 (((p + 1) : Nat) : Int)) (.pointer (some ⟨g, 0, none⟩)) (.pointer (some ⟨g, 0, none⟩)) (.pointer (some ⟨g, 0, none⟩)) (.slice none 0 0) (.int .i64 0) (.bool true) (.bool true) (.bool true) (undef) (undef) (undef) (undef) (undef) (undef) (undef) (undef) (undef) (undef) (undef) (undef) (undef) (undef) (undef) (undef) (undef) (undef) (undef) _ MR.out))
set_option maxHeartbeats 1000000 in
theorem join1f {w : World} {g b off n cap p : Nat} {vn : Value} {pvs : List Value} (hg : w.heap[g]? = some (.cells #[.slice (some ⟨b, off, none⟩) n cap, vn] 230 (0, 0))) (hr : OB w 258 1 b off n cap pvs) (hp : p + 1 < n) (hn : n ≤ 1000000) {pb po m1 pc qb qo m2 qc : Nat} (h1 : pvs[p]? = some (.slice (some ⟨pb, po, none⟩) m1 pc)) (h2 : pvs[p + 1]? = some (.slice (some ⟨qb, qo, none⟩) m2 qc)) (h3 : m1 ≤ 100) (h4 : m2 ≤ 100) (h5 : ¬ m1 + m2 ≤ 16) {x2 x3 x4 x5 x6 x7 x8 x9 x10 x11 x12 x13 x14 x15 x16 x17 x18 x19 x20 x21 x22 x23 x24 x25 x26 x27 x28 x29 x30 x31 x32 x33 x34 x35 x36 x37 x38 x39 x40 x41 x42 x43 x44 x45 x46 x47 x48 x49 x50 x51 x52 x53 x54 x55 x56 x57 x58 x59 x60 x61 x62 x63 x64 x65 x66 x67 x68 x69 x70 x71 x72 : Value} {df : List Deferred} {Q : Exit → Act → World → Prop}
  (hK : ∀ (y5 y6 y7 y8 y9 y10 y11 y12 y13 y14 y15 y16 y17 y18 y19 y20 y21 y22 y23 y24 y25 y26 y27 y28 y29 y30 y31 y32 y33 y34 y35 y36 : Value)  (w' : World), Mods noB w w' → Q .normal ⟨#[.pointer (some ⟨g, 0, none⟩), .int .i64 ((p : Nat) : Int), x2, x3, x4, y5, y6, y7, y8, y9, y10, y11, y12, y13, y14, y15, y16, y17, y18, y19, y20, y21, y22, y23, y24, y25, y26, y27, y28, y29, y30, y31, y32, y33, y34, y35, y36, .bool true, x38, x39, x40, x41, x42, x43, x44, x45, x46, x47, x48, x49, x50, x51, x52, x53, x54, x55, x56, x57, x58, x59, x60, x61, x62, x63, x64, x65, x66, x67, x68, x69, x70, x71, x72], df⟩ w') : RW Tryz.prog (opsC 1 Tryz.f253) true Q ⟨#[.pointer (some ⟨g, 0, none⟩), .int .i64 ((p : Nat) : Int), x2, x3, x4, x5, x6, x7, x8, x9, x10, x11, x12, x13, x14, x15, x16, x17, x18, x19, x20, x21, x22, x23, x24, x25, x26, x27, x28, x29, x30, x31, x32, x33, x34, x35, x36, x37, x38, x39, x40, x41, x42, x43, x44, x45, x46, x47, x48, x49, x50, x51, x52, x53, x54, x55, x56, x57, x58, x59, x60, x61, x62, x63, x64, x65, x66, x67, x68, x69, x70, x71, x72], df⟩ w := by
 have HQ := Lib.hid hK
 clear hK
 have Q2 := Lib.hid (fun b' (hm : Mods noB w b') => show b'.cell? ⟨g, 0, none⟩ = some (.slice (some ⟨b, off, none⟩) n cap) from cells_of (hm.heap hg (fun x => x)) 0)
 have Q3 := Lib.hid (fun b' (hm : Mods noB w b') => show b'.cell? ⟨b, off + p, none⟩ = some (.slice (some ⟨pb, po, none⟩) m1 pc) from (hr.keep hm (fun x => x)).cell h1)
 have Q4 := Lib.hid (fun b' (hm : Mods noB w b') => show b'.cell? ⟨b, off + (p + 1), none⟩ = some (.slice (some ⟨qb, qo, none⟩) m2 qc) from (hr.keep hm (fun x => x)).cell h2)
 clear hg hr h1 h2
 have MR := Lib.hid ((Mods.refl noB w).drew)
 refine rw_ordF (S := fun b' => Mods noB w b') [(0, true), (1, true), (2, true), (3, true), (4, true), (5, true), (6, true), (7, true), (8, true), (9, true), (10, true), (11, true), (12, true), (13, true), (14, true), (15, true), (16, true), (17, true), (18, true), (19, true), (20, true), (21, true), (22, true), (23, true), (24, true), (25, true), (26, true), (27, true), (28, true), (29, true), (30, true), (31, true), (32, true)] [] [(0, 2, 32), (1, 32, 64), (2, 64, 128), (4, 130, 256), (12, 384, 512), (4, 129, 1024), (36, 1152, 2048), (68, 2176, 4096), (132, 4224, 8192), (260, 8320, 16384), (532, 17024, 32768), (1028, 32896, 65536), (2052, 65536, 131072), (4096, 131073, 262144), (12288, 393216, 524288), (20480, 655360, 1048576), (36864, 1179648, 2097152), (4096, 131074, 4194304), (200704, 6422528, 8388608), (266240, 8519680, 16777216), (528384, 16908288, 33554432), (4096, 131073, 67108864), (2101248, 67239936, 134217728), (4198400, 134348800, 268435456), (8392704, 268566528, 536870912), (4096, 131074, 1073741824), (33558528, 1073872896, 2147483648), (83890176, 2684485632, 4294967296), (134221824, 4295098368, 8589934592), (268439552, 8590065664, 17179869184), (537923584, 17213554688, 34359738368), (1073745920, 34359869440, 68719476736), (2147487744, 68719607808, 137438953472)] (by kernel_rfl) (by kernel_rfl) (by kernel_rfl) (by kernel_rfl) (by kernel_rfl) MR.out ?_
 refine wpOrdT_frees [0] [.int .i64 ((p : Nat) : Int)] (rest := [(1, true), (2, true), (3, true), (4, true), (5, true), (6, true), (7, true), (8, true), (9, true), (10, true), (11, true), (12, true), (13, true), (14, true), (15, true), (16, true), (17, true), (18, true), (19, true), (20, true), (21, true), (22, true), (23, true), (24, true), (25, true), (26, true), (27, true), (28, true), (29, true), (30, true), (31, true), (32, true)]) (by kernel_rfl) (by kernel_rfl) (fun _ => by kernel_rfl) ?_
 refine wpOrdT_free (.bool false) (some 6) ⟨by kernel_rfl, by kernel_rfl, by kernel_rfl⟩ (fun bb hb => run_bin (t := 3) (t' := 3) (xv := .int .i64 ((p : Nat) : Int)) (yv := .int .i64 0) (x := (.tmp 5)) (y := (.const (.int .i64 0))) (by kernel_rfl) (by kernel_rfl) (by kernel_rfl) (fun _ => by kernel_rfl) (run_lss _ (decide_eq_false (by omega)))) ?_
 refine wpOrdT_frees [2, 3] [.bool false, .int .i64 ((p : Nat) : Int)] (rest := [(4, true), (5, true), (6, true), (7, true), (8, true), (9, true), (10, true), (11, true), (12, true), (13, true), (14, true), (15, true), (16, true), (17, true), (18, true), (19, true), (20, true), (21, true), (22, true), (23, true), (24, true), (25, true), (26, true), (27, true), (28, true), (29, true), (30, true), (31, true), (32, true)]) (by kernel_rfl) (by kernel_rfl) (fun _ => by kernel_rfl) ?_
 refine wpOrdT_free (.int .i64 (((p + 1) : Nat) : Int)) (some 9) ⟨by kernel_rfl, by kernel_rfl, by kernel_rfl⟩ (fun bb hb => run_bin (t := 3) (t' := 3) (xv := .int .i64 ((p : Nat) : Int)) (yv := .int .i64 1) (x := (.tmp 8)) (y := (.const (.int .i64 1))) (by kernel_rfl) (by kernel_rfl) (by kernel_rfl) (fun _ => by kernel_rfl) (run_addI _ (by omega) (by omega) (by omega))) ?_
 refine wpOrdT_frees [5, 6, 7] [.pointer (some ⟨g, 0, none⟩), .pointer (some ⟨g, 0, none⟩), .pointer (some ⟨g, 0, none⟩)] (rest := [(8, true), (9, true), (10, true), (11, true), (12, true), (13, true), (14, true), (15, true), (16, true), (17, true), (18, true), (19, true), (20, true), (21, true), (22, true), (23, true), (24, true), (25, true), (26, true), (27, true), (28, true), (29, true), (30, true), (31, true), (32, true)]) (by kernel_rfl) (by kernel_rfl) (fun _ => by kernel_rfl) ?_
 refine wpOrdT_free (.slice (some ⟨b, off, none⟩) n cap) (some 13) ⟨by kernel_rfl, by kernel_rfl, by kernel_rfl⟩ (fun bb hb => of_load (x := (.tmp 12)) (by kernel_rfl) (by kernel_rfl) (load_c (Q2.out _ hb) Tryz.underlying228 rfl)) ?_
 refine wpOrdT_frees [9] [.int .i64 ((n : Nat) : Int)] (rest := [(10, true), (11, true), (12, true), (13, true), (14, true), (15, true), (16, true), (17, true), (18, true), (19, true), (20, true), (21, true), (22, true), (23, true), (24, true), (25, true), (26, true), (27, true), (28, true), (29, true), (30, true), (31, true), (32, true)]) (by kernel_rfl) (by kernel_rfl) (fun _ => by kernel_rfl) ?_
 refine wpOrdT_free (.bool false) (some 15) ⟨by kernel_rfl, by kernel_rfl, by kernel_rfl⟩ (fun bb hb => run_bin (t := 3) (t' := 3) (xv := .int .i64 (((p + 1) : Nat) : Int)) (yv := .int .i64 ((n : Nat) : Int)) (x := (.tmp 9)) (y := (.tmp 14)) (by kernel_rfl) (by kernel_rfl) (by kernel_rfl) (fun _ => by kernel_rfl) (run_geq _ (decide_eq_false (by omega)))) ?_
 refine wpOrdT_frees [11, 12, 13, 14, 15] [.bool false, .bool false, .pointer (some ⟨g, 0, none⟩), .pointer (some ⟨g, 0, none⟩), .pointer (some ⟨g, 0, none⟩)] (rest := [(16, true), (17, true), (18, true), (19, true), (20, true), (21, true), (22, true), (23, true), (24, true), (25, true), (26, true), (27, true), (28, true), (29, true), (30, true), (31, true), (32, true)]) (by kernel_rfl) (by kernel_rfl) (fun _ => by kernel_rfl) ?_
 refine wpOrdT_free (.slice (some ⟨b, off, none⟩) n cap) (some 21) ⟨by kernel_rfl, by kernel_rfl, by kernel_rfl⟩ (fun bb hb => of_load (x := (.tmp 20)) (by kernel_rfl) (by kernel_rfl) (load_c (Q2.out _ hb) Tryz.underlying228 rfl)) ?_
 refine wpOrdT_frees [17] [.int .i64 ((p : Nat) : Int)] (rest := [(18, true), (19, true), (20, true), (21, true), (22, true), (23, true), (24, true), (25, true), (26, true), (27, true), (28, true), (29, true), (30, true), (31, true), (32, true)]) (by kernel_rfl) (by kernel_rfl) (fun _ => by kernel_rfl) ?_
 refine wpOrdT_free (.pointer (some ⟨b, off + p, none⟩)) (some 23) ⟨by kernel_rfl, by kernel_rfl, by kernel_rfl⟩ (fun bb hb => run_idx (s := 1) (e := 258) (g := b) (off := off) (n := n) (c := cap) (i := ((p : Nat) : Int)) (x := (.tmp 21)) (y := (.tmp 22)) (off + p) (by kernel_rfl) (by kernel_rfl) (by kernel_rfl) Tryz.underlying228 (by kernel_rfl) (by omega) (by omega) (by omega)) ?_
 refine wpOrdT_free (.slice (some ⟨pb, po, none⟩) m1 pc) (some 24) ⟨by kernel_rfl, by kernel_rfl, by kernel_rfl⟩ (fun bb hb => of_load (x := (.tmp 23)) (by kernel_rfl) (by kernel_rfl) (load_c (Q3.out _ hb) Tryz.underlying258 rfl)) ?_
 refine wpOrdT_frees [20, 21, 22, 23] [.int .i64 ((m1 : Nat) : Int), .pointer (some ⟨g, 0, none⟩), .pointer (some ⟨g, 0, none⟩), .pointer (some ⟨g, 0, none⟩)] (rest := [(24, true), (25, true), (26, true), (27, true), (28, true), (29, true), (30, true), (31, true), (32, true)]) (by kernel_rfl) (by kernel_rfl) (fun _ => by kernel_rfl) ?_
 refine wpOrdT_free (.slice (some ⟨b, off, none⟩) n cap) (some 29) ⟨by kernel_rfl, by kernel_rfl, by kernel_rfl⟩ (fun bb hb => of_load (x := (.tmp 28)) (by kernel_rfl) (by kernel_rfl) (load_c (Q2.out _ hb) Tryz.underlying228 rfl)) ?_
 refine wpOrdT_frees [25] [.int .i64 ((p : Nat) : Int)] (rest := [(26, true), (27, true), (28, true), (29, true), (30, true), (31, true), (32, true)]) (by kernel_rfl) (by kernel_rfl) (fun _ => by kernel_rfl) ?_
 refine wpOrdT_free (.int .i64 (((p + 1) : Nat) : Int)) (some 31) ⟨by kernel_rfl, by kernel_rfl, by kernel_rfl⟩ (fun bb hb => run_bin (t := 3) (t' := 3) (xv := .int .i64 ((p : Nat) : Int)) (yv := .int .i64 1) (x := (.tmp 30)) (y := (.const (.int .i64 1))) (by kernel_rfl) (by kernel_rfl) (by kernel_rfl) (fun _ => by kernel_rfl) (run_addI _ (by omega) (by omega) (by omega))) ?_
 refine wpOrdT_free (.pointer (some ⟨b, off + (p + 1), none⟩)) (some 32) ⟨by kernel_rfl, by kernel_rfl, by kernel_rfl⟩ (fun bb hb => run_idx (s := 1) (e := 258) (g := b) (off := off) (n := n) (c := cap) (i := (((p + 1) : Nat) : Int)) (x := (.tmp 29)) (y := (.tmp 31)) (off + (p + 1)) (by kernel_rfl) (by kernel_rfl) (by kernel_rfl) Tryz.underlying228 (by kernel_rfl) (by omega) (by omega) (by omega)) ?_
 refine wpOrdT_free (.slice (some ⟨qb, qo, none⟩) m2 qc) (some 33) ⟨by kernel_rfl, by kernel_rfl, by kernel_rfl⟩ (fun bb hb => of_load (x := (.tmp 32)) (by kernel_rfl) (by kernel_rfl) (load_c (Q4.out _ hb) Tryz.underlying258 rfl)) ?_
 refine wpOrdT_frees [29] [.int .i64 ((m2 : Nat) : Int)] (rest := [(30, true), (31, true), (32, true)]) (by kernel_rfl) (by kernel_rfl) (fun _ => by kernel_rfl) ?_
 refine wpOrdT_free (.int .i64 (((m1 + m2) : Nat) : Int)) (some 35) ⟨by kernel_rfl, by kernel_rfl, by kernel_rfl⟩ (fun bb hb => run_bin (t := 3) (t' := 3) (xv := .int .i64 ((m1 : Nat) : Int)) (yv := .int .i64 ((m2 : Nat) : Int)) (x := (.tmp 25)) (y := (.tmp 34)) (by kernel_rfl) (by kernel_rfl) (by kernel_rfl) (fun _ => by kernel_rfl) (run_addI _ (by omega) (by omega) (by omega))) ?_
 refine wpOrdT_free (.bool true) (some 36) ⟨by kernel_rfl, by kernel_rfl, by kernel_rfl⟩ (fun bb hb => run_bin (t := 3) (t' := 3) (xv := .int .i64 (((m1 + m2) : Nat) : Int)) (yv := .int .i64 16) (x := (.tmp 35)) (y := (.const (.int .i64 16))) (by kernel_rfl) (by kernel_rfl) (by kernel_rfl) (fun _ => by kernel_rfl) (run_gtr _ (decide_eq_true (by omega)))) ?_
 refine wpOrdT_frees [32] [.bool true] (rest := []) (by kernel_rfl) (by kernel_rfl) (fun _ => by kernel_rfl) ?_
 exact wpOrdT_doneC (act_is (K := Q .normal) (by kernel_rfl) (HQ.out (.int .i64 ((p : Nat) : Int)) (.bool false) (.bool false) (.int .i64 ((p : Nat) : Int)) (.int .i64 (((p + 1) : Nat) : Int)) (.pointer (some ⟨g, 0, none⟩)) (.pointer (some ⟨g, 0, none⟩)) (.pointer (some ⟨g, 0, none⟩)) (.slice (some ⟨b, off, none⟩) n cap) (.int .i64 ((n : Nat) : Int)) (.bool false) (.bool false) (.bool false) (.pointer (some ⟨g, 0, none⟩)) (.pointer (some ⟨g, 0, none⟩)) (.pointer (some ⟨g, 0, none⟩)) (.slice (some ⟨b, off, none⟩) n cap) (.int .i64 ((p : Nat) : Int)) (.pointer (some ⟨b, off + p, none⟩)) (.slice (some ⟨pb, po, none⟩) m1 pc) (.int .i64 ((m1 : Nat) : Int)) (.pointer (some ⟨g, 0, none⟩)) (.pointer (some ⟨g, 0, none⟩)) (.pointer (some ⟨g, 0, none⟩)) (.slice (some ⟨b, off, none⟩) n cap) (.int .i64 ((p : Nat) : Int)) (.int .i64 (((p + 1) : Nat) : Int)) (.pointer (some ⟨b, off + (p + 1), none⟩)) (.slice (some ⟨qb, qo, none⟩) m2 qc) (.int .i64 ((m2 : Nat) : Int)) (.int .i64 (((m1 + m2) : Nat) : Int)) (.bool true) _ MR.out))
set_option maxHeartbeats 1000000 in
theorem join1y {w : World} {g b off n cap p : Nat} {vn : Value} {pvs : List Value} (hg : w.heap[g]? = some (.cells #[.slice (some ⟨b, off, none⟩) n cap, vn] 230 (0, 0))) (hr : OB w 258 1 b off n cap pvs) (hp : p + 1 < n) (hn : n ≤ 1000000) {pb po m1 pc qb qo m2 qc : Nat} (h1 : pvs[p]? = some (.slice (some ⟨pb, po, none⟩) m1 pc)) (h2 : pvs[p + 1]? = some (.slice (some ⟨qb, qo, none⟩) m2 qc)) (h3 : m1 ≤ 100) (h4 : m2 ≤ 100) (h5 : m1 + m2 ≤ 16) {x2 x3 x4 x5 x6 x7 x8 x9 x10 x11 x12 x13 x14 x15 x16 x17 x18 x19 x20 x21 x22 x23 x24 x25 x26 x27 x28 x29 x30 x31 x32 x33 x34 x35 x36 x37 x38 x39 x40 x41 x42 x43 x44 x45 x46 x47 x48 x49 x50 x51 x52 x53 x54 x55 x56 x57 x58 x59 x60 x61 x62 x63 x64 x65 x66 x67 x68 x69 x70 x71 x72 : Value} {df : List Deferred} {Q : Exit → Act → World → Prop}
  (hK : ∀ (y5 y6 y7 y8 y9 y10 y11 y12 y13 y14 y15 y16 y17 y18 y19 y20 y21 y22 y23 y24 y25 y26 y27 y28 y29 y30 y31 y32 y33 y34 y35 y36 : Value)  (w' : World), Mods noB w w' → Q .normal ⟨#[.pointer (some ⟨g, 0, none⟩), .int .i64 ((p : Nat) : Int), x2, x3, x4, y5, y6, y7, y8, y9, y10, y11, y12, y13, y14, y15, y16, y17, y18, y19, y20, y21, y22, y23, y24, y25, y26, y27, y28, y29, y30, y31, y32, y33, y34, y35, y36, .bool false, x38, x39, x40, x41, x42, x43, x44, x45, x46, x47, x48, x49, x50, x51, x52, x53, x54, x55, x56, x57, x58, x59, x60, x61, x62, x63, x64, x65, x66, x67, x68, x69, x70, x71, x72], df⟩ w') : RW Tryz.prog (opsC 1 Tryz.f253) true Q ⟨#[.pointer (some ⟨g, 0, none⟩), .int .i64 ((p : Nat) : Int), x2, x3, x4, x5, x6, x7, x8, x9, x10, x11, x12, x13, x14, x15, x16, x17, x18, x19, x20, x21, x22, x23, x24, x25, x26, x27, x28, x29, x30, x31, x32, x33, x34, x35, x36, x37, x38, x39, x40, x41, x42, x43, x44, x45, x46, x47, x48, x49, x50, x51, x52, x53, x54, x55, x56, x57, x58, x59, x60, x61, x62, x63, x64, x65, x66, x67, x68, x69, x70, x71, x72], df⟩ w := by
 have HQ := Lib.hid hK
 clear hK
 have Q2 := Lib.hid (fun b' (hm : Mods noB w b') => show b'.cell? ⟨g, 0, none⟩ = some (.slice (some ⟨b, off, none⟩) n cap) from cells_of (hm.heap hg (fun x => x)) 0)
 have Q3 := Lib.hid (fun b' (hm : Mods noB w b') => show b'.cell? ⟨b, off + p, none⟩ = some (.slice (some ⟨pb, po, none⟩) m1 pc) from (hr.keep hm (fun x => x)).cell h1)
 have Q4 := Lib.hid (fun b' (hm : Mods noB w b') => show b'.cell? ⟨b, off + (p + 1), none⟩ = some (.slice (some ⟨qb, qo, none⟩) m2 qc) from (hr.keep hm (fun x => x)).cell h2)
 clear hg hr h1 h2
 have MR := Lib.hid ((Mods.refl noB w).drew)
 refine rw_ordF (S := fun b' => Mods noB w b') [(0, true), (1, true), (2, true), (3, true), (4, true), (5, true), (6, true), (7, true), (8, true), (9, true), (10, true), (11, true), (12, true), (13, true), (14, true), (15, true), (16, true), (17, true), (18, true), (19, true), (20, true), (21, true), (22, true), (23, true), (24, true), (25, true), (26, true), (27, true), (28, true), (29, true), (30, true), (31, true), (32, true)] [] [(0, 2, 32), (1, 32, 64), (2, 64, 128), (4, 130, 256), (12, 384, 512), (4, 129, 1024), (36, 1152, 2048), (68, 2176, 4096), (132, 4224, 8192), (260, 8320, 16384), (532, 17024, 32768), (1028, 32896, 65536), (2052, 65536, 131072), (4096, 131073, 262144), (12288, 393216, 524288), (20480, 655360, 1048576), (36864, 1179648, 2097152), (4096, 131074, 4194304), (200704, 6422528, 8388608), (266240, 8519680, 16777216), (528384, 16908288, 33554432), (4096, 131073, 67108864), (2101248, 67239936, 134217728), (4198400, 134348800, 268435456), (8392704, 268566528, 536870912), (4096, 131074, 1073741824), (33558528, 1073872896, 2147483648), (83890176, 2684485632, 4294967296), (134221824, 4295098368, 8589934592), (268439552, 8590065664, 17179869184), (537923584, 17213554688, 34359738368), (1073745920, 34359869440, 68719476736), (2147487744, 68719607808, 137438953472)] (by kernel_rfl) (by kernel_rfl) (by kernel_rfl) (by kernel_rfl) (by kernel_rfl) MR.out ?_
 refine wpOrdT_frees [0] [.int .i64 ((p : Nat) : Int)] (rest := [(1, true), (2, true), (3, true), (4, true), (5, true), (6, true), (7, true), (8, true), (9, true), (10, true), (11, true), (12, true), (13, true), (14, true), (15, true), (16, true), (17, true), (18, true), (19, true), (20, true), (21, true), (22, true), (23, true), (24, true), (25, true), (26, true), (27, true), (28, true), (29, true), (30, true), (31, true), (32, true)]) (by kernel_rfl) (by kernel_rfl) (fun _ => by kernel_rfl) ?_
 refine wpOrdT_free (.bool false) (some 6) ⟨by kernel_rfl, by kernel_rfl, by kernel_rfl⟩ (fun bb hb => run_bin (t := 3) (t' := 3) (xv := .int .i64 ((p : Nat) : Int)) (yv := .int .i64 0) (x := (.tmp 5)) (y := (.const (.int .i64 0))) (by kernel_rfl) (by kernel_rfl) (by kernel_rfl) (fun _ => by kernel_rfl) (run_lss _ (decide_eq_false (by omega)))) ?_
 refine wpOrdT_frees [2, 3] [.bool false, .int .i64 ((p : Nat) : Int)] (rest := [(4, true), (5, true), (6, true), (7, true), (8, true), (9, true), (10, true), (11, true), (12, true), (13, true), (14, true), (15, true), (16, true), (17, true), (18, true), (19, true), (20, true), (21, true), (22, true), (23, true), (24, true), (25, true), (26, true), (27, true), (28, true), (29, true), (30, true), (31, true), (32, true)]) (by kernel_rfl) (by kernel_rfl) (fun _ => by kernel_rfl) ?_
 refine wpOrdT_free (.int .i64 (((p + 1) : Nat) : Int)) (some 9) ⟨by kernel_rfl, by kernel_rfl, by kernel_rfl⟩ (fun bb hb => run_bin (t := 3) (t' := 3) (xv := .int .i64 ((p : Nat) : Int)) (yv := .int .i64 1) (x := (.tmp 8)) (y := (.const (.int .i64 1))) (by kernel_rfl) (by kernel_rfl) (by kernel_rfl) (fun _ => by kernel_rfl) (run_addI _ (by omega) (by omega) (by omega))) ?_
 refine wpOrdT_frees [5, 6, 7] [.pointer (some ⟨g, 0, none⟩), .pointer (some ⟨g, 0, none⟩), .pointer (some ⟨g, 0, none⟩)] (rest := [(8, true), (9, true), (10, true), (11, true), (12, true), (13, true), (14, true), (15, true), (16, true), (17, true), (18, true), (19, true), (20, true), (21, true), (22, true), (23, true), (24, true), (25, true), (26, true), (27, true), (28, true), (29, true), (30, true), (31, true), (32, true)]) (by kernel_rfl) (by kernel_rfl) (fun _ => by kernel_rfl) ?_
 refine wpOrdT_free (.slice (some ⟨b, off, none⟩) n cap) (some 13) ⟨by kernel_rfl, by kernel_rfl, by kernel_rfl⟩ (fun bb hb => of_load (x := (.tmp 12)) (by kernel_rfl) (by kernel_rfl) (load_c (Q2.out _ hb) Tryz.underlying228 rfl)) ?_
 refine wpOrdT_frees [9] [.int .i64 ((n : Nat) : Int)] (rest := [(10, true), (11, true), (12, true), (13, true), (14, true), (15, true), (16, true), (17, true), (18, true), (19, true), (20, true), (21, true), (22, true), (23, true), (24, true), (25, true), (26, true), (27, true), (28, true), (29, true), (30, true), (31, true), (32, true)]) (by kernel_rfl) (by kernel_rfl) (fun _ => by kernel_rfl) ?_
 refine wpOrdT_free (.bool false) (some 15) ⟨by kernel_rfl, by kernel_rfl, by kernel_rfl⟩ (fun bb hb => run_bin (t := 3) (t' := 3) (xv := .int .i64 (((p + 1) : Nat) : Int)) (yv := .int .i64 ((n : Nat) : Int)) (x := (.tmp 9)) (y := (.tmp 14)) (by kernel_rfl) (by kernel_rfl) (by kernel_rfl) (fun _ => by kernel_rfl) (run_geq _ (decide_eq_false (by omega)))) ?_
 refine wpOrdT_frees [11, 12, 13, 14, 15] [.bool false, .bool false, .pointer (some ⟨g, 0, none⟩), .pointer (some ⟨g, 0, none⟩), .pointer (some ⟨g, 0, none⟩)] (rest := [(16, true), (17, true), (18, true), (19, true), (20, true), (21, true), (22, true), (23, true), (24, true), (25, true), (26, true), (27, true), (28, true), (29, true), (30, true), (31, true), (32, true)]) (by kernel_rfl) (by kernel_rfl) (fun _ => by kernel_rfl) ?_
 refine wpOrdT_free (.slice (some ⟨b, off, none⟩) n cap) (some 21) ⟨by kernel_rfl, by kernel_rfl, by kernel_rfl⟩ (fun bb hb => of_load (x := (.tmp 20)) (by kernel_rfl) (by kernel_rfl) (load_c (Q2.out _ hb) Tryz.underlying228 rfl)) ?_
 refine wpOrdT_frees [17] [.int .i64 ((p : Nat) : Int)] (rest := [(18, true), (19, true), (20, true), (21, true), (22, true), (23, true), (24, true), (25, true), (26, true), (27, true), (28, true), (29, true), (30, true), (31, true), (32, true)]) (by kernel_rfl) (by kernel_rfl) (fun _ => by kernel_rfl) ?_
 refine wpOrdT_free (.pointer (some ⟨b, off + p, none⟩)) (some 23) ⟨by kernel_rfl, by kernel_rfl, by kernel_rfl⟩ (fun bb hb => run_idx (s := 1) (e := 258) (g := b) (off := off) (n := n) (c := cap) (i := ((p : Nat) : Int)) (x := (.tmp 21)) (y := (.tmp 22)) (off + p) (by kernel_rfl) (by kernel_rfl) (by kernel_rfl) Tryz.underlying228 (by kernel_rfl) (by omega) (by omega) (by omega)) ?_
 refine wpOrdT_free (.slice (some ⟨pb, po, none⟩) m1 pc) (some 24) ⟨by kernel_rfl, by kernel_rfl, by kernel_rfl⟩ (fun bb hb => of_load (x := (.tmp 23)) (by kernel_rfl) (by kernel_rfl) (load_c (Q3.out _ hb) Tryz.underlying258 rfl)) ?_
 refine wpOrdT_frees [20, 21, 22, 23] [.int .i64 ((m1 : Nat) : Int), .pointer (some ⟨g, 0, none⟩), .pointer (some ⟨g, 0, none⟩), .pointer (some ⟨g, 0, none⟩)] (rest := [(24, true), (25, true), (26, true), (27, true), (28, true), (29, true), (30, true), (31, true), (32, true)]) (by kernel_rfl) (by kernel_rfl) (fun _ => by kernel_rfl) ?_
 refine wpOrdT_free (.slice (some ⟨b, off, none⟩) n cap) (some 29) ⟨by kernel_rfl, by kernel_rfl, by kernel_rfl⟩ (fun bb hb => of_load (x := (.tmp 28)) (by kernel_rfl) (by kernel_rfl) (load_c (Q2.out _ hb) Tryz.underlying228 rfl)) ?_
 refine wpOrdT_frees [25] [.int .i64 ((p : Nat) : Int)] (rest := [(26, true), (27, true), (28, true), (29, true), (30, true), (31, true), (32, true)]) (by kernel_rfl) (by kernel_rfl) (fun _ => by kernel_rfl) ?_
 refine wpOrdT_free (.int .i64 (((p + 1) : Nat) : Int)) (some 31) ⟨by kernel_rfl, by kernel_rfl, by kernel_rfl⟩ (fun bb hb => run_bin (t := 3) (t' := 3) (xv := .int .i64 ((p : Nat) : Int)) (yv := .int .i64 1) (x := (.tmp 30)) (y := (.const (.int .i64 1))) (by kernel_rfl) (by kernel_rfl) (by kernel_rfl) (fun _ => by kernel_rfl) (run_addI _ (by omega) (by omega) (by omega))) ?_
 refine wpOrdT_free (.pointer (some ⟨b, off + (p + 1), none⟩)) (some 32) ⟨by kernel_rfl, by kernel_rfl, by kernel_rfl⟩ (fun bb hb => run_idx (s := 1) (e := 258) (g := b) (off := off) (n := n) (c := cap) (i := (((p + 1) : Nat) : Int)) (x := (.tmp 29)) (y := (.tmp 31)) (off + (p + 1)) (by kernel_rfl) (by kernel_rfl) (by kernel_rfl) Tryz.underlying228 (by kernel_rfl) (by omega) (by omega) (by omega)) ?_
 refine wpOrdT_free (.slice (some ⟨qb, qo, none⟩) m2 qc) (some 33) ⟨by kernel_rfl, by kernel_rfl, by kernel_rfl⟩ (fun bb hb => of_load (x := (.tmp 32)) (by kernel_rfl) (by kernel_rfl) (load_c (Q4.out _ hb) Tryz.underlying258 rfl)) ?_
 refine wpOrdT_frees [29] [.int .i64 ((m2 : Nat) : Int)] (rest := [(30, true), (31, true), (32, true)]) (by kernel_rfl) (by kernel_rfl) (fun _ => by kernel_rfl) ?_
 refine wpOrdT_free (.int .i64 (((m1 + m2) : Nat) : Int)) (some 35) ⟨by kernel_rfl, by kernel_rfl, by kernel_rfl⟩ (fun bb hb => run_bin (t := 3) (t' := 3) (xv := .int .i64 ((m1 : Nat) : Int)) (yv := .int .i64 ((m2 : Nat) : Int)) (x := (.tmp 25)) (y := (.tmp 34)) (by kernel_rfl) (by kernel_rfl) (by kernel_rfl) (fun _ => by kernel_rfl) (run_addI _ (by omega) (by omega) (by omega))) ?_
 refine wpOrdT_free (.bool false) (some 36) ⟨by kernel_rfl, by kernel_rfl, by kernel_rfl⟩ (fun bb hb => run_bin (t := 3) (t' := 3) (xv := .int .i64 (((m1 + m2) : Nat) : Int)) (yv := .int .i64 16) (x := (.tmp 35)) (y := (.const (.int .i64 16))) (by kernel_rfl) (by kernel_rfl) (by kernel_rfl) (fun _ => by kernel_rfl) (run_gtr _ (decide_eq_false (by omega)))) ?_
 refine wpOrdT_frees [32] [.bool false] (rest := []) (by kernel_rfl) (by kernel_rfl) (fun _ => by kernel_rfl) ?_
 exact wpOrdT_doneC (act_is (K := Q .normal) (by kernel_rfl) (HQ.out (.int .i64 ((p : Nat) : Int)) (.bool false) (.bool false) (.int .i64 ((p : Nat) : Int)) (.int .i64 (((p + 1) : Nat) : Int)) (.pointer (some ⟨g, 0, none⟩)) (.pointer (some ⟨g, 0, none⟩)) (.pointer (some ⟨g, 0, none⟩)) (.slice (some ⟨b, off, none⟩) n cap) (.int .i64 ((n : Nat) : Int)) (.bool false) (.bool false) (.bool false) (.pointer (some ⟨g, 0, none⟩)) (.pointer (some ⟨g, 0, none⟩)) (.pointer (some ⟨g, 0, none⟩)) (.slice (some ⟨b, off, none⟩) n cap) (.int .i64 ((p : Nat) : Int)) (.pointer (some ⟨b, off + p, none⟩)) (.slice (some ⟨pb, po, none⟩) m1 pc) (.int .i64 ((m1 : Nat) : Int)) (.pointer (some ⟨g, 0, none⟩)) (.pointer (some ⟨g, 0, none⟩)) (.pointer (some ⟨g, 0, none⟩)) (.slice (some ⟨b, off, none⟩) n cap) (.int .i64 ((p : Nat) : Int)) (.int .i64 (((p + 1) : Nat) : Int)) (.pointer (some ⟨b, off + (p + 1), none⟩)) (.slice (some ⟨qb, qo, none⟩) m2 qc) (.int .i64 ((m2 : Nat) : Int)) (.int .i64 (((m1 + m2) : Nat) : Int)) (.bool false) _ MR.out))
set_option maxHeartbeats 1000000 in
theorem join3 {w : World} {g b off n cap p : Nat} {vn : Value} {pvs : List Value} (hg : w.heap[g]? = some (.cells #[.slice (some ⟨b, off, none⟩) n cap, vn] 230 (0, 0))) (hr : OB w 258 1 b off n cap pvs) (hp : p + 1 < n) (hn : n ≤ 1000000) {pb po m1 pc qb qo m2 qc : Nat} (h1 : pvs[p]? = some (.slice (some ⟨pb, po, none⟩) m1 pc)) (h2 : pvs[p + 1]? = some (.slice (some ⟨qb, qo, none⟩) m2 qc)) {xs ys : List Value} (ha : OB w 244 2 pb po m1 pc xs) (hb : OB w 244 2 qb qo m2 qc ys) (h3 : ∀ y ∈ xs, y.oneCell' = true) (h4 : ∀ y ∈ ys, y.oneCell' = true) (hm0 : 0 < m1) (hm : m1 + m2 ≤ 1000000) {x2 x3 x4 x5 x6 x7 x8 x9 x10 x11 x12 x13 x14 x15 x16 x17 x18 x19 x20 x21 x22 x23 x24 x25 x26 x27 x28 x29 x30 x31 x32 x33 x34 x35 x36 x37 x38 x39 x40 x41 x42 x43 x44 x45 x46 x47 x48 x49 x50 x51 x52 x53 x54 x55 x56 x57 x58 x59 x60 x61 x62 x63 x64 x65 x66 x67 x68 x69 x70 x71 x72 : Value} {df : List Deferred} {Q : Exit → Act → World → Prop}
  (hK : ∀ (y38 y39 y40 y41 y42 y43 y44 y45 y46 y47 y48 y49 y50 y51 y52 y53 y54 y55 y56 y57 y58 y59 y60 : Value) (v7 : Value) (w7 : World) (w' : World), OwnG w7 244 2 v7 (m1 + m2) (xs ++ ys) → Mods noB w w7 → freshIn w v7 → v7.oneCell' = true → w' = w7.setCell ⟨b, off + p, none⟩ v7 → Q .normal ⟨#[.pointer (some ⟨g, 0, none⟩), .int .i64 ((p : Nat) : Int), x2, x3, x4, x5, x6, x7, x8, x9, x10, x11, x12, x13, x14, x15, x16, x17, x18, x19, x20, x21, x22, x23, x24, x25, x26, x27, x28, x29, x30, x31, x32, x33, x34, x35, x36, x37, y38, y39, y40, y41, y42, y43, y44, y45, y46, y47, y48, y49, y50, y51, y52, y53, y54, y55, y56, y57, y58, y59, y60, x61, x62, x63, x64, x65, x66, x67, x68, x69, x70, x71, x72], df⟩ w') : RW Tryz.prog (opsC 3 Tryz.f253) true Q ⟨#[.pointer (some ⟨g, 0, none⟩), .int .i64 ((p : Nat) : Int), x2, x3, x4, x5, x6, x7, x8, x9, x10, x11, x12, x13, x14, x15, x16, x17, x18, x19, x20, x21, x22, x23, x24, x25, x26, x27, x28, x29, x30, x31, x32, x33, x34, x35, x36, x37, x38, x39, x40, x41, x42, x43, x44, x45, x46, x47, x48, x49, x50, x51, x52, x53, x54, x55, x56, x57, x58, x59, x60, x61, x62, x63, x64, x65, x66, x67, x68, x69, x70, x71, x72], df⟩ w := by
 have HQ := Lib.hid hK
 clear hK
 have Q2 := Lib.hid (fun b' (hm : Mods noB w b') => show b'.cell? ⟨g, 0, none⟩ = some (.slice (some ⟨b, off, none⟩) n cap) from cells_of (hm.heap hg (fun x => x)) 0)
 have Q3 := Lib.hid (fun b' (hm : Mods noB w b') => show b'.cell? ⟨b, off + p, none⟩ = some (.slice (some ⟨pb, po, none⟩) m1 pc) from (hr.keep hm (fun x => x)).cell h1)
 have Q4 := Lib.hid (fun b' (hm : Mods noB w b') => show b'.cell? ⟨b, off + (p + 1), none⟩ = some (.slice (some ⟨qb, qo, none⟩) m2 qc) from (hr.keep hm (fun x => x)).cell h2)
 have HA := Lib.hid ha
 have HB := Lib.hid hb
 have H0 := Lib.hid h3
 have H1 := Lib.hid h4
 have HR := Lib.hid hr
 clear hg hr h1 h2 ha hb h3 h4
 have MR := Lib.hid ((Mods.refl noB w).drew)
 refine rw_ordT (S := fun b' => Mods noB w b') [(0, true), (1, true), (2, true), (3, true), (4, true), (5, true), (6, true), (7, true), (8, true), (9, true), (10, true), (11, true), (12, true), (13, true), (14, true), (15, true), (16, true), (17, true), (18, true), (19, true), (20, false), (21, false), (22, true), (23, false)] [23] (by kernel_rfl) (by kernel_rfl) (by kernel_rfl) (by kernel_rfl) MR.out ?_
 refine wpOrdT_frees [0, 1, 2] [.pointer (some ⟨g, 0, none⟩), .pointer (some ⟨g, 0, none⟩), .pointer (some ⟨g, 0, none⟩)] (rest := [(3, true), (4, true), (5, true), (6, true), (7, true), (8, true), (9, true), (10, true), (11, true), (12, true), (13, true), (14, true), (15, true), (16, true), (17, true), (18, true), (19, true), (20, false), (21, false), (22, true), (23, false)]) (by kernel_rfl) (by kernel_rfl) (fun _ => by kernel_rfl) ?_
 refine wpOrdT_free (.slice (some ⟨b, off, none⟩) n cap) (some 41) ⟨by kernel_rfl, by kernel_rfl, by kernel_rfl⟩ (fun bb hb => of_load (x := (.tmp 40)) (by kernel_rfl) (by kernel_rfl) (load_c (Q2.out _ hb) Tryz.underlying228 rfl)) ?_
 refine wpOrdT_frees [4, 5, 6, 7] [.int .i64 ((p : Nat) : Int), .pointer (some ⟨g, 0, none⟩), .pointer (some ⟨g, 0, none⟩), .pointer (some ⟨g, 0, none⟩)] (rest := [(8, true), (9, true), (10, true), (11, true), (12, true), (13, true), (14, true), (15, true), (16, true), (17, true), (18, true), (19, true), (20, false), (21, false), (22, true), (23, false)]) (by kernel_rfl) (by kernel_rfl) (fun _ => by kernel_rfl) ?_
 refine wpOrdT_free (.slice (some ⟨b, off, none⟩) n cap) (some 46) ⟨by kernel_rfl, by kernel_rfl, by kernel_rfl⟩ (fun bb hb => of_load (x := (.tmp 45)) (by kernel_rfl) (by kernel_rfl) (load_c (Q2.out _ hb) Tryz.underlying228 rfl)) ?_
 refine wpOrdT_frees [9] [.int .i64 ((p : Nat) : Int)] (rest := [(10, true), (11, true), (12, true), (13, true), (14, true), (15, true), (16, true), (17, true), (18, true), (19, true), (20, false), (21, false), (22, true), (23, false)]) (by kernel_rfl) (by kernel_rfl) (fun _ => by kernel_rfl) ?_
 refine wpOrdT_free (.pointer (some ⟨b, off + p, none⟩)) (some 48) ⟨by kernel_rfl, by kernel_rfl, by kernel_rfl⟩ (fun bb hb => run_idx (s := 1) (e := 258) (g := b) (off := off) (n := n) (c := cap) (i := ((p : Nat) : Int)) (x := (.tmp 46)) (y := (.tmp 47)) (off + p) (by kernel_rfl) (by kernel_rfl) (by kernel_rfl) Tryz.underlying228 (by kernel_rfl) (by omega) (by omega) (by omega)) ?_
 refine wpOrdT_free (.slice (some ⟨pb, po, none⟩) m1 pc) (some 49) ⟨by kernel_rfl, by kernel_rfl, by kernel_rfl⟩ (fun bb hb => of_load (x := (.tmp 48)) (by kernel_rfl) (by kernel_rfl) (load_c (Q3.out _ hb) Tryz.underlying258 rfl)) ?_
 refine wpOrdT_frees [12, 13, 14] [.pointer (some ⟨g, 0, none⟩), .pointer (some ⟨g, 0, none⟩), .pointer (some ⟨g, 0, none⟩)] (rest := [(15, true), (16, true), (17, true), (18, true), (19, true), (20, false), (21, false), (22, true), (23, false)]) (by kernel_rfl) (by kernel_rfl) (fun _ => by kernel_rfl) ?_
 refine wpOrdT_free (.slice (some ⟨b, off, none⟩) n cap) (some 53) ⟨by kernel_rfl, by kernel_rfl, by kernel_rfl⟩ (fun bb hb => of_load (x := (.tmp 52)) (by kernel_rfl) (by kernel_rfl) (load_c (Q2.out _ hb) Tryz.underlying228 rfl)) ?_
 refine wpOrdT_frees [16] [.int .i64 ((p : Nat) : Int)] (rest := [(17, true), (18, true), (19, true), (20, false), (21, false), (22, true), (23, false)]) (by kernel_rfl) (by kernel_rfl) (fun _ => by kernel_rfl) ?_
 refine wpOrdT_free (.int .i64 (((p + 1) : Nat) : Int)) (some 55) ⟨by kernel_rfl, by kernel_rfl, by kernel_rfl⟩ (fun bb hb => run_bin (t := 3) (t' := 3) (xv := .int .i64 ((p : Nat) : Int)) (yv := .int .i64 1) (x := (.tmp 54)) (y := (.const (.int .i64 1))) (by kernel_rfl) (by kernel_rfl) (by kernel_rfl) (fun _ => by kernel_rfl) (run_addI _ (by omega) (by omega) (by omega))) ?_
 refine wpOrdT_free (.pointer (some ⟨b, off + (p + 1), none⟩)) (some 56) ⟨by kernel_rfl, by kernel_rfl, by kernel_rfl⟩ (fun bb hb => run_idx (s := 1) (e := 258) (g := b) (off := off) (n := n) (c := cap) (i := (((p + 1) : Nat) : Int)) (x := (.tmp 53)) (y := (.tmp 55)) (off + (p + 1)) (by kernel_rfl) (by kernel_rfl) (by kernel_rfl) Tryz.underlying228 (by kernel_rfl) (by omega) (by omega) (by omega)) ?_
 refine wpOrdT_free (.slice (some ⟨qb, qo, none⟩) m2 qc) (some 57) ⟨by kernel_rfl, by kernel_rfl, by kernel_rfl⟩ (fun bb hb => of_load (x := (.tmp 56)) (by kernel_rfl) (by kernel_rfl) (load_c (Q4.out _ hb) Tryz.underlying258 rfl)) ?_
 refine wpOrdT_bs (.cells #[.slice (some ⟨pb, po, none⟩) m1 pc, .slice (some ⟨qb, qo, none⟩) m2 qc] 258) 2 (some 58) ⟨by kernel_rfl, by kernel_rfl, by kernel_rfl⟩ (by kernel_rfl) ?_
 intro k1 w_k1 hk_k1 hO_k1 hm_k1 hl_k1
 have MZ := MR.out.size
 replace MR := Lib.hid (MR.out.then0 hm_k1)
 refine ⟨fun _ => MR.out, ?_⟩
 refine wpOrdT_call (some 59) ⟨by kernel_rfl, by kernel_rfl, by kernel_rfl⟩ (Cat_any (xs := xs) (ys := ys) hO_k1 (HA.out.keep MR.out (fun x => x)) (HB.out.keep MR.out (fun x => x)) H0.out H1.out hm0 (by omega)) (fun _ => by kernel_rfl) ?_
 rintro r w7 ⟨v7, rfl, o7, m7, f7⟩
 have f8 := f7.of MR.out.size
 replace MR := Lib.hid (MR.out.then0 m7)
 have O7 := Lib.hid (And.intro o7 f8)
 obtain ⟨a7, c7, e7, _⟩ := o7.rd.form
 have h17 : v7.oneCell' = true := by rw [e7]; rfl
 clear o7 m7 f7 f8 e7
 refine ⟨_, rfl, fun _ => MR.out, ?_⟩
 refine wpOrdT_free (.pointer (some ⟨b, off + p, none⟩)) (some 60) ⟨by kernel_rfl, by kernel_rfl, by kernel_rfl⟩ (fun bb hb => run_idx (s := 1) (e := 258) (g := b) (off := off) (n := n) (c := cap) (i := ((p : Nat) : Int)) (x := (.tmp 41)) (y := (.tmp 42)) (off + p) (by kernel_rfl) (by kernel_rfl) (by kernel_rfl) Tryz.underlying228 (by kernel_rfl) (by omega) (by omega) (by omega)) ?_
 refine wpOrdT_st1 (ty := 258) (x := (.tmp 60)) (y := (.tmp 59)) (g := b) (off := off + p) (v := v7) none ⟨by kernel_rfl, by kernel_rfl, by kernel_rfl⟩ (by kernel_rfl) (by kernel_rfl) (by kernel_rfl) (by kernel_rfl) ((HR.out.keep MR.out (fun x => x)).there (by have := HR.out.hn; omega)) ((HR.out.keep MR.out (fun x => x)).free _) (h17) ?_
 intro w9 hw9
 refine ⟨(fun h => by first | (cases h; done) | exact trivial), ?_⟩
 exact wpOrdT_doneC (act_is (K := Q .normal) (by kernel_rfl) (HQ.out (.pointer (some ⟨g, 0, none⟩)) (.pointer (some ⟨g, 0, none⟩)) (.pointer (some ⟨g, 0, none⟩)) (.slice (some ⟨b, off, none⟩) n cap) (.int .i64 ((p : Nat) : Int)) (.pointer (some ⟨g, 0, none⟩)) (.pointer (some ⟨g, 0, none⟩)) (.pointer (some ⟨g, 0, none⟩)) (.slice (some ⟨b, off, none⟩) n cap) (.int .i64 ((p : Nat) : Int)) (.pointer (some ⟨b, off + p, none⟩)) (.slice (some ⟨pb, po, none⟩) m1 pc) (.pointer (some ⟨g, 0, none⟩)) (.pointer (some ⟨g, 0, none⟩)) (.pointer (some ⟨g, 0, none⟩)) (.slice (some ⟨b, off, none⟩) n cap) (.int .i64 ((p : Nat) : Int)) (.int .i64 (((p + 1) : Nat) : Int)) (.pointer (some ⟨b, off + (p + 1), none⟩)) (.slice (some ⟨qb, qo, none⟩) m2 qc) (.slice (some ⟨k1, 0, none⟩) 2 2) (v7) (.pointer (some ⟨b, off + p, none⟩)) v7 w7 w9 O7.out.1 MR.out O7.out.2 h17 hw9))
set_option maxHeartbeats 1000000 in
theorem join4 {w : World} {g b off n cap p : Nat} {vn : Value} {pvs : List Value} (hg : w.heap[g]? = some (.cells #[.slice (some ⟨b, off, none⟩) n cap, vn] 230 (0, 0))) (hr : OB w 258 1 b off n cap pvs) (hp : p + 1 < n) (hn : n ≤ 1000000) (h0 : ∀ y ∈ pvs, y.oneCell' = true) (hbg : ¬ g = b) {x2 x3 x4 x5 x6 x7 x8 x9 x10 x11 x12 x13 x14 x15 x16 x17 x18 x19 x20 x21 x22 x23 x24 x25 x26 x27 x28 x29 x30 x31 x32 x33 x34 x35 x36 x37 x38 x39 x40 x41 x42 x43 x44 x45 x46 x47 x48 x49 x50 x51 x52 x53 x54 x55 x56 x57 x58 x59 x60 x61 x62 x63 x64 x65 x66 x67 x68 x69 x70 x71 x72 : Value} {df : List Deferred} {Q : Exit → Act → World → Prop}
  (hK : ∀ (y61 y62 y63 y64 y65 y66 y67 y68 y69 y70 y71 y72 : Value) (w7 : World) (w' : World), OB w7 258 1 b off (n - 1) cap (pvs.take ((p + 1) * 1) ++ pvs.drop ((p + 1 + 1) * 1)) → Mods (fun k => k = b) w w7 → w' = w7.setCell ⟨g, 0, none⟩ (.slice (some ⟨b, off, none⟩) (n - 1 : Nat) cap) → Q .normal ⟨#[.pointer (some ⟨g, 0, none⟩), .int .i64 ((p : Nat) : Int), x2, x3, x4, x5, x6, x7, x8, x9, x10, x11, x12, x13, x14, x15, x16, x17, x18, x19, x20, x21, x22, x23, x24, x25, x26, x27, x28, x29, x30, x31, x32, x33, x34, x35, x36, x37, x38, x39, x40, x41, x42, x43, x44, x45, x46, x47, x48, x49, x50, x51, x52, x53, x54, x55, x56, x57, x58, x59, x60, y61, y62, y63, y64, y65, y66, y67, y68, y69, y70, y71, y72], df⟩ w') : RW Tryz.prog (opsC 4 Tryz.f253) false Q ⟨#[.pointer (some ⟨g, 0, none⟩), .int .i64 ((p : Nat) : Int), x2, x3, x4, x5, x6, x7, x8, x9, x10, x11, x12, x13, x14, x15, x16, x17, x18, x19, x20, x21, x22, x23, x24, x25, x26, x27, x28, x29, x30, x31, x32, x33, x34, x35, x36, x37, x38, x39, x40, x41, x42, x43, x44, x45, x46, x47, x48, x49, x50, x51, x52, x53, x54, x55, x56, x57, x58, x59, x60, x61, x62, x63, x64, x65, x66, x67, x68, x69, x70, x71, x72], df⟩ w := by
 have HQ := Lib.hid hK
 clear hK
 have Q2 := Lib.hid (show w.cell? ⟨g, 0, none⟩ = some (.slice (some ⟨b, off, none⟩) n cap) from cells_of hg 0)
 have HR := Lib.hid hr
 have HG := Lib.hid hg
 have H0 := Lib.hid h0
 clear hg hr h0
 refine rw_lin [(0, false), (1, false), (2, false), (3, false), (4, false), (5, false), (6, false), (7, false), (8, false), (9, false), (10, false), (11, false), (12, false)] (by kernel_rfl) ?_
 refine wpOrdT_freesB [0, 1, 2, 3] [.pointer (some ⟨g, 0, none⟩), .pointer (some ⟨g, 0, none⟩), .pointer (some ⟨g, 0, none⟩), .pointer (some ⟨g, 0, none⟩)] (rest := [(4, false), (5, false), (6, false), (7, false), (8, false), (9, false), (10, false), (11, false), (12, false)]) (by kernel_rfl) (by kernel_rfl) (by kernel_rfl) (.inr trivial) ?_
 refine wpOrdT_run (.slice (some ⟨b, off, none⟩) n cap) _ (some 65) ⟨by kernel_rfl, by kernel_rfl, by kernel_rfl⟩ (of_load (x := (.tmp 64)) (by kernel_rfl) (by kernel_rfl) (load_c ((fun _ => Q2.out) (trivial)) Tryz.underlying228 rfl)) (fun _ => trivial) ?_
 refine wpOrdT_freesB [5] [.int .i64 ((p : Nat) : Int)] (rest := [(6, false), (7, false), (8, false), (9, false), (10, false), (11, false), (12, false)]) (by kernel_rfl) (by kernel_rfl) (by kernel_rfl) (.inr trivial) ?_
 refine wpOrdT_run (.int .i64 (((p + 1) : Nat) : Int)) _ (some 67) ⟨by kernel_rfl, by kernel_rfl, by kernel_rfl⟩ (run_bin (t := 3) (t' := 3) (xv := .int .i64 ((p : Nat) : Int)) (yv := .int .i64 1) (x := (.tmp 66)) (y := (.const (.int .i64 1))) (by kernel_rfl) (by kernel_rfl) (by kernel_rfl) (fun _ => by kernel_rfl) (run_addI _ (by omega) (by omega) (by omega))) (fun _ => trivial) ?_
 refine wpOrdT_freesB [7] [.int .i64 ((p : Nat) : Int)] (rest := [(8, false), (9, false), (10, false), (11, false), (12, false)]) (by kernel_rfl) (by kernel_rfl) (by kernel_rfl) (.inr trivial) ?_
 refine wpOrdT_run (.int .i64 (((p + 2) : Nat) : Int)) _ (some 69) ⟨by kernel_rfl, by kernel_rfl, by kernel_rfl⟩ (run_bin (t := 3) (t' := 3) (xv := .int .i64 ((p : Nat) : Int)) (yv := .int .i64 2) (x := (.tmp 68)) (y := (.const (.int .i64 2))) (by kernel_rfl) (by kernel_rfl) (by kernel_rfl) (fun _ => by kernel_rfl) (run_addI _ (by omega) (by omega) (by omega))) (fun _ => trivial) ?_
 refine wpOrdT_call (some 70) ⟨by kernel_rfl, by kernel_rfl, by kernel_rfl⟩ (by have h := Del1_any (i := p + 1) HR.out H0.out hp (by omega); exact (show ((p + 1 : Nat) : Int) + 1 = ((p + 2 : Nat) : Int) from by omega) ▸ h) (fun _ => by kernel_rfl) ?_
 rintro r w7 ⟨rfl, o7, m7⟩
 refine ⟨_, rfl, fun _ => trivial, ?_⟩
 have hg7 := m7.heap HG.out hbg
 refine wpOrdT_freesB [10, 11] [.pointer (some ⟨g, 0, none⟩), .pointer (some ⟨g, 0, none⟩)] (rest := [(12, false)]) (by kernel_rfl) (by kernel_rfl) (by kernel_rfl) (.inr trivial) ?_
 refine wpOrdT_st1 (ty := 228) (x := (.tmp 72)) (y := (.tmp 70)) (g := g) (off := 0) (v := .slice (some ⟨b, off, none⟩) (n - 1) cap) none ⟨by kernel_rfl, by kernel_rfl, by kernel_rfl⟩ (by kernel_rfl) (by kernel_rfl) (by kernel_rfl) (by kernel_rfl) (by rw [cells_of hg7]; rfl) (free_of hg7 _) (rfl) ?_
 intro w9 hw9
 refine ⟨(fun h => by first | (cases h; done) | exact trivial), ?_⟩
 exact wpOrdT_doneC (act_is (K := Q .normal) (by kernel_rfl) (HQ.out (.pointer (some ⟨g, 0, none⟩)) (.pointer (some ⟨g, 0, none⟩)) (.pointer (some ⟨g, 0, none⟩)) (.pointer (some ⟨g, 0, none⟩)) (.slice (some ⟨b, off, none⟩) n cap) (.int .i64 ((p : Nat) : Int)) (.int .i64 (((p + 1) : Nat) : Int)) (.int .i64 ((p : Nat) : Int)) (.int .i64 (((p + 2) : Nat) : Int)) (.slice (some ⟨b, off, none⟩) (n - 1) cap) (.pointer (some ⟨g, 0, none⟩)) (.pointer (some ⟨g, 0, none⟩)) w7 w9 o7 m7 hw9))
set_option maxHeartbeats 1000000 in
theorem del5 {w : World} {g b off n cap p : Nat} {vn : Value} {pvs : List Value} (hg : w.heap[g]? = some (.cells #[.slice (some ⟨b, off, none⟩) n cap, vn] 230 (0, 0))) (hr : OB w 258 1 b off n cap pvs) (hp : p < n) {i pb po m pc : Nat} {xs : List Value} (hP : pvs[p]? = some (.slice (some ⟨pb, po, none⟩) m pc)) (hl : OB w 244 2 pb po m pc xs) (h0 : ∀ y ∈ xs, y.oneCell' = true) (hi : i < m) (hL : m ≤ 1000000) (hgp : ¬ g = pb) (hbp : ¬ b = pb) (hp6 : p ≤ 1000000) {x1 x2 x3 x4 x7 x8 x9 x10 x11 x12 x13 x14 x15 x16 x17 x18 x19 x20 x21 x22 x23 x24 x25 x26 x27 x28 x29 x30 x31 x32 x33 x34 x35 x36 x37 x38 x39 x40 x41 x42 x43 x44 x45 x46 x47 x48 x49 x50 x51 x52 x53 x54 x55 x56 x57 x58 x59 x60 x61 x62 x63 x64 x65 x66 x67 x68 : Value} {df : List Deferred} {Q : Exit → Act → World → Prop}
  (hK : ∀ (y24 y25 y26 y27 y28 y29 y30 y31 y32 y33 y34 y35 y36 y37 y38 y39 y40 : Value) (w7 : World) (w' : World), OB w7 244 2 pb po (m - 1) pc (xs.take (i * 2) ++ xs.drop ((i + 1) * 2)) → Mods (fun k => k = pb) w w7 → w' = w7.setCell ⟨b, off + p, none⟩ (.slice (some ⟨pb, po, none⟩) (m - 1 : Nat) pc) → Q .normal ⟨#[.pointer (some ⟨g, 0, none⟩), x1, x2, x3, x4, .int .i64 ((p : Nat) : Int), .int .i64 ((i : Nat) : Int), x7, x8, x9, x10, x11, x12, x13, x14, x15, x16, x17, x18, x19, x20, x21, x22, x23, y24, y25, y26, y27, y28, y29, y30, y31, y32, y33, y34, y35, y36, y37, y38, y39, y40, x41, x42, x43, x44, x45, x46, x47, x48, x49, x50, x51, x52, x53, x54, x55, x56, x57, x58, x59, x60, x61, x62, x63, x64, x65, x66, x67, x68], df⟩ w') : RW Tryz.prog (opsC 5 Tryz.f208) true Q ⟨#[.pointer (some ⟨g, 0, none⟩), x1, x2, x3, x4, .int .i64 ((p : Nat) : Int), .int .i64 ((i : Nat) : Int), x7, x8, x9, x10, x11, x12, x13, x14, x15, x16, x17, x18, x19, x20, x21, x22, x23, x24, x25, x26, x27, x28, x29, x30, x31, x32, x33, x34, x35, x36, x37, x38, x39, x40, x41, x42, x43, x44, x45, x46, x47, x48, x49, x50, x51, x52, x53, x54, x55, x56, x57, x58, x59, x60, x61, x62, x63, x64, x65, x66, x67, x68], df⟩ w := by
 have HQ := Lib.hid hK
 clear hK
 have Q2 := Lib.hid (fun b' (hm : Mods (fun k => k = pb) w b') => show b'.cell? ⟨g, 0, none⟩ = some (.slice (some ⟨b, off, none⟩) n cap) from cells_of (hm.heap hg (hgp)) 0)
 have Q3 := Lib.hid (fun b' (hm : Mods (fun k => k = pb) w b') => show b'.cell? ⟨b, off + p, none⟩ = some (.slice (some ⟨pb, po, none⟩) m pc) from (hr.keep hm hbp).cell hP)
 have HA := Lib.hid hl
 have HR := Lib.hid hr
 have H0 := Lib.hid h0
 clear hg hr hl h0 hP
 have MR := Lib.hid ((Mods.refl noB w).drew)
 refine rw_ordT (S := fun b' => Mods (fun k => k = pb) w b') [(0, true), (1, true), (2, true), (3, true), (4, true), (5, true), (6, true), (7, true), (8, true), (9, true), (10, true), (11, true), (12, true), (13, true), (14, true), (15, false), (16, true), (17, false)] [17] (by kernel_rfl) (by kernel_rfl) (by kernel_rfl) (by kernel_rfl) (MR.out.mono (fun _ _ x => x.elim)) ?_
 refine wpOrdT_frees [0, 1, 2] [.pointer (some ⟨g, 0, none⟩), .pointer (some ⟨g, 0, none⟩), .pointer (some ⟨g, 0, none⟩)] (rest := [(3, true), (4, true), (5, true), (6, true), (7, true), (8, true), (9, true), (10, true), (11, true), (12, true), (13, true), (14, true), (15, false), (16, true), (17, false)]) (by kernel_rfl) (by kernel_rfl) (fun _ => by kernel_rfl) ?_
 refine wpOrdT_free (.slice (some ⟨b, off, none⟩) n cap) (some 27) ⟨by kernel_rfl, by kernel_rfl, by kernel_rfl⟩ (fun bb hb => of_load (x := (.tmp 26)) (by kernel_rfl) (by kernel_rfl) (load_c (Q2.out _ hb) Tryz.underlying228 rfl)) ?_
 refine wpOrdT_frees [4, 5, 6, 7] [.int .i64 ((p : Nat) : Int), .pointer (some ⟨g, 0, none⟩), .pointer (some ⟨g, 0, none⟩), .pointer (some ⟨g, 0, none⟩)] (rest := [(8, true), (9, true), (10, true), (11, true), (12, true), (13, true), (14, true), (15, false), (16, true), (17, false)]) (by kernel_rfl) (by kernel_rfl) (fun _ => by kernel_rfl) ?_
 refine wpOrdT_free (.slice (some ⟨b, off, none⟩) n cap) (some 32) ⟨by kernel_rfl, by kernel_rfl, by kernel_rfl⟩ (fun bb hb => of_load (x := (.tmp 31)) (by kernel_rfl) (by kernel_rfl) (load_c (Q2.out _ hb) Tryz.underlying228 rfl)) ?_
 refine wpOrdT_frees [9] [.int .i64 ((p : Nat) : Int)] (rest := [(10, true), (11, true), (12, true), (13, true), (14, true), (15, false), (16, true), (17, false)]) (by kernel_rfl) (by kernel_rfl) (fun _ => by kernel_rfl) ?_
 refine wpOrdT_free (.pointer (some ⟨b, off + p, none⟩)) (some 34) ⟨by kernel_rfl, by kernel_rfl, by kernel_rfl⟩ (fun bb hb => run_idx (s := 1) (e := 258) (g := b) (off := off) (n := n) (c := cap) (i := ((p : Nat) : Int)) (x := (.tmp 32)) (y := (.tmp 33)) (off + p) (by kernel_rfl) (by kernel_rfl) (by kernel_rfl) Tryz.underlying228 (by kernel_rfl) (by omega) (by omega) (by omega)) ?_
 refine wpOrdT_free (.slice (some ⟨pb, po, none⟩) m pc) (some 35) ⟨by kernel_rfl, by kernel_rfl, by kernel_rfl⟩ (fun bb hb => of_load (x := (.tmp 34)) (by kernel_rfl) (by kernel_rfl) (load_c (Q3.out _ hb) Tryz.underlying258 rfl)) ?_
 refine wpOrdT_frees [12, 13] [.int .i64 ((i : Nat) : Int), .int .i64 ((i : Nat) : Int)] (rest := [(14, true), (15, false), (16, true), (17, false)]) (by kernel_rfl) (by kernel_rfl) (fun _ => by kernel_rfl) ?_
 refine wpOrdT_free (.int .i64 (((i + 1) : Nat) : Int)) (some 38) ⟨by kernel_rfl, by kernel_rfl, by kernel_rfl⟩ (fun bb hb => run_bin (t := 3) (t' := 3) (xv := .int .i64 ((i : Nat) : Int)) (yv := .int .i64 1) (x := (.tmp 37)) (y := (.const (.int .i64 1))) (by kernel_rfl) (by kernel_rfl) (by kernel_rfl) (fun _ => by kernel_rfl) (run_addI _ (by omega) (by omega) (by omega))) ?_
 refine wpOrdT_call (some 39) ⟨by kernel_rfl, by kernel_rfl, by kernel_rfl⟩ (by have h := Del2_any (i := i) (HA.out.keep MR.out (fun x => x)) H0.out hi hL; exact (show (i : Int) + 1 = ((i + 1 : Nat) : Int) from by omega) ▸ h) (fun _ => by kernel_rfl) ?_
 rintro r w7 ⟨rfl, o7, m7⟩
 replace MR := Lib.hid (MR.out.trans m7 (U := fun k => k = pb) (fun _ _ x => x.elim) (fun _ _ x => x))
 have O7 := Lib.hid o7
 clear o7 m7
 refine ⟨_, rfl, fun _ => MR.out, ?_⟩
 refine wpOrdT_free (.pointer (some ⟨b, off + p, none⟩)) (some 40) ⟨by kernel_rfl, by kernel_rfl, by kernel_rfl⟩ (fun bb hb => run_idx (s := 1) (e := 258) (g := b) (off := off) (n := n) (c := cap) (i := ((p : Nat) : Int)) (x := (.tmp 27)) (y := (.tmp 28)) (off + p) (by kernel_rfl) (by kernel_rfl) (by kernel_rfl) Tryz.underlying228 (by kernel_rfl) (by omega) (by omega) (by omega)) ?_
 refine wpOrdT_st1 (ty := 258) (x := (.tmp 40)) (y := (.tmp 39)) (g := b) (off := off + p) (v := .slice (some ⟨pb, po, none⟩) (m - 1) pc) none ⟨by kernel_rfl, by kernel_rfl, by kernel_rfl⟩ (by kernel_rfl) (by kernel_rfl) (by kernel_rfl) (by kernel_rfl) ((HR.out.keep MR.out hbp).there (by have := HR.out.hn; omega)) ((HR.out.keep MR.out hbp).free _) (rfl) ?_
 intro w9 hw9
 refine ⟨(fun h => by first | (cases h; done) | exact trivial), ?_⟩
 exact wpOrdT_doneC (act_is (K := Q .normal) (by kernel_rfl) (HQ.out (.pointer (some ⟨g, 0, none⟩)) (.pointer (some ⟨g, 0, none⟩)) (.pointer (some ⟨g, 0, none⟩)) (.slice (some ⟨b, off, none⟩) n cap) (.int .i64 ((p : Nat) : Int)) (.pointer (some ⟨g, 0, none⟩)) (.pointer (some ⟨g, 0, none⟩)) (.pointer (some ⟨g, 0, none⟩)) (.slice (some ⟨b, off, none⟩) n cap) (.int .i64 ((p : Nat) : Int)) (.pointer (some ⟨b, off + p, none⟩)) (.slice (some ⟨pb, po, none⟩) m pc) (.int .i64 ((i : Nat) : Int)) (.int .i64 ((i : Nat) : Int)) (.int .i64 (((i + 1) : Nat) : Int)) (.slice (some ⟨pb, po, none⟩) (m - 1) pc) (.pointer (some ⟨b, off + p, none⟩)) w7 w9 O7.out MR.out hw9))
set_option maxHeartbeats 1000000 in
theorem del7 {w : World} {g b off n cap p : Nat} {vn : Value} {pvs : List Value} (hg : w.heap[g]? = some (.cells #[.slice (some ⟨b, off, none⟩) n cap, vn] 230 (0, 0))) (hr : OB w 258 1 b off n cap pvs) (hp : p < n) (hn : n ≤ 1000000) (h0 : ∀ y ∈ pvs, y.oneCell' = true) (hbg : ¬ g = b) {x1 x2 x3 x4 x6 x7 x8 x9 x10 x11 x12 x13 x14 x15 x16 x17 x18 x19 x20 x21 x22 x23 x24 x25 x26 x27 x28 x29 x30 x31 x32 x33 x34 x35 x36 x37 x38 x39 x40 x41 x42 x43 x44 x45 x46 x47 x48 x49 x50 x51 x52 x53 x54 x55 x56 x57 x58 x59 x60 x61 x62 x63 x64 x65 x66 x67 x68 : Value} {df : List Deferred} {Q : Exit → Act → World → Prop}
  (hK : ∀ (y50 y51 y52 y53 y54 y55 y56 y57 y58 y59 y60 : Value) (w7 : World) (w' : World), OB w7 258 1 b off (n - 1) cap (pvs.take (p * 1) ++ pvs.drop ((p + 1) * 1)) → Mods (fun k => k = b) w w7 → w' = w7.setCell ⟨g, 0, none⟩ (.slice (some ⟨b, off, none⟩) (n - 1 : Nat) cap) → Q .normal ⟨#[.pointer (some ⟨g, 0, none⟩), x1, x2, x3, x4, .int .i64 ((p : Nat) : Int), x6, x7, x8, x9, x10, x11, x12, x13, x14, x15, x16, x17, x18, x19, x20, x21, x22, x23, x24, x25, x26, x27, x28, x29, x30, x31, x32, x33, x34, x35, x36, x37, x38, x39, x40, x41, x42, x43, x44, x45, x46, x47, x48, x49, y50, y51, y52, y53, y54, y55, y56, y57, y58, y59, y60, x61, x62, x63, x64, x65, x66, x67, x68], df⟩ w') : RW Tryz.prog (opsC 7 Tryz.f208) false Q ⟨#[.pointer (some ⟨g, 0, none⟩), x1, x2, x3, x4, .int .i64 ((p : Nat) : Int), x6, x7, x8, x9, x10, x11, x12, x13, x14, x15, x16, x17, x18, x19, x20, x21, x22, x23, x24, x25, x26, x27, x28, x29, x30, x31, x32, x33, x34, x35, x36, x37, x38, x39, x40, x41, x42, x43, x44, x45, x46, x47, x48, x49, x50, x51, x52, x53, x54, x55, x56, x57, x58, x59, x60, x61, x62, x63, x64, x65, x66, x67, x68], df⟩ w := by
 have HQ := Lib.hid hK
 clear hK
 have Q2 := Lib.hid (show w.cell? ⟨g, 0, none⟩ = some (.slice (some ⟨b, off, none⟩) n cap) from cells_of hg 0)
 have HR := Lib.hid hr
 have HG := Lib.hid hg
 have H0 := Lib.hid h0
 clear hg hr h0
 refine rw_lin [(0, false), (1, false), (2, false), (3, false), (4, false), (5, false), (6, false), (7, false), (8, false), (9, false), (10, false), (11, false)] (by kernel_rfl) ?_
 refine wpOrdT_freesB [0, 1, 2, 3] [.pointer (some ⟨g, 0, none⟩), .pointer (some ⟨g, 0, none⟩), .pointer (some ⟨g, 0, none⟩), .pointer (some ⟨g, 0, none⟩)] (rest := [(4, false), (5, false), (6, false), (7, false), (8, false), (9, false), (10, false), (11, false)]) (by kernel_rfl) (by kernel_rfl) (by kernel_rfl) (.inr trivial) ?_
 refine wpOrdT_run (.slice (some ⟨b, off, none⟩) n cap) _ (some 54) ⟨by kernel_rfl, by kernel_rfl, by kernel_rfl⟩ (of_load (x := (.tmp 53)) (by kernel_rfl) (by kernel_rfl) (load_c ((fun _ => Q2.out) (trivial)) Tryz.underlying228 rfl)) (fun _ => trivial) ?_
 refine wpOrdT_freesB [5, 6] [.int .i64 ((p : Nat) : Int), .int .i64 ((p : Nat) : Int)] (rest := [(7, false), (8, false), (9, false), (10, false), (11, false)]) (by kernel_rfl) (by kernel_rfl) (by kernel_rfl) (.inr trivial) ?_
 refine wpOrdT_run (.int .i64 (((p + 1) : Nat) : Int)) _ (some 57) ⟨by kernel_rfl, by kernel_rfl, by kernel_rfl⟩ (run_bin (t := 3) (t' := 3) (xv := .int .i64 ((p : Nat) : Int)) (yv := .int .i64 1) (x := (.tmp 56)) (y := (.const (.int .i64 1))) (by kernel_rfl) (by kernel_rfl) (by kernel_rfl) (fun _ => by kernel_rfl) (run_addI _ (by omega) (by omega) (by omega))) (fun _ => trivial) ?_
 refine wpOrdT_call (some 58) ⟨by kernel_rfl, by kernel_rfl, by kernel_rfl⟩ (by have h := Del1_any (i := p) HR.out H0.out hp (by omega); exact (show (p : Int) + 1 = ((p + 1 : Nat) : Int) from by omega) ▸ h) (fun _ => by kernel_rfl) ?_
 rintro r w7 ⟨rfl, o7, m7⟩
 refine ⟨_, rfl, fun _ => trivial, ?_⟩
 have hg7 := m7.heap HG.out hbg
 refine wpOrdT_freesB [9, 10] [.pointer (some ⟨g, 0, none⟩), .pointer (some ⟨g, 0, none⟩)] (rest := [(11, false)]) (by kernel_rfl) (by kernel_rfl) (by kernel_rfl) (.inr trivial) ?_
 refine wpOrdT_st1 (ty := 228) (x := (.tmp 60)) (y := (.tmp 58)) (g := g) (off := 0) (v := .slice (some ⟨b, off, none⟩) (n - 1) cap) none ⟨by kernel_rfl, by kernel_rfl, by kernel_rfl⟩ (by kernel_rfl) (by kernel_rfl) (by kernel_rfl) (by kernel_rfl) (by rw [cells_of hg7]; rfl) (free_of hg7 _) (rfl) ?_
 intro w9 hw9
 refine ⟨(fun h => by first | (cases h; done) | exact trivial), ?_⟩
 exact wpOrdT_doneC (act_is (K := Q .normal) (by kernel_rfl) (HQ.out (.pointer (some ⟨g, 0, none⟩)) (.pointer (some ⟨g, 0, none⟩)) (.pointer (some ⟨g, 0, none⟩)) (.pointer (some ⟨g, 0, none⟩)) (.slice (some ⟨b, off, none⟩) n cap) (.int .i64 ((p : Nat) : Int)) (.int .i64 ((p : Nat) : Int)) (.int .i64 (((p + 1) : Nat) : Int)) (.slice (some ⟨b, off, none⟩) (n - 1) cap) (.pointer (some ⟨g, 0, none⟩)) (.pointer (some ⟨g, 0, none⟩)) w7 w9 o7 m7 hw9))
open Go.Gl Go.RowKit
theorem PM.rowOB {w : World} {g : Nat} {vo : Value} {R : List PV} (h : PM w g vo R) (hne : R ≠ []) : ∃ b off cap, vo = .slice (some ⟨b, off, none⟩) R.length cap ∧ OB w 258 1 b off R.length cap (R.map (·.pv)) := by
 rcases h.row.ob with ⟨_, h2, _⟩ | ⟨b, off, cap, hv, ob⟩
 ·exact absurd (List.length_eq_zero_iff.1 h2) hne
 ·exact ⟨b, off, cap, hv, ob⟩
theorem PM.pageOB {w : World} {g : Nat} {vo : Value} {R : List PV} (h : PM w g vo R) {q : PV} (hq : q ∈ R) (hne : q.es ≠ []) : ∃ pb po pc, q.pv = .slice (some ⟨pb, po, none⟩) q.es.length pc ∧ OB w 244 2 pb po q.es.length pc (ecell q.es) := by
 rcases (h.pg q hq).ob with ⟨_, h2, _⟩ | ⟨b, off, cap, hv, ob⟩
 ·exact absurd (List.length_eq_zero_iff.1 h2) hne
 ·exact ⟨b, off, cap, hv, ob⟩
theorem joins_no {w : World} {g : Nat} {vo : Value} {R : List PV} (hm : PM w g vo R) {p : Int} (hb : p ≤ 1000000) (hn : R.length ≤ 1000000) (ne : ∀ q ∈ R, q.es ≠ []) (hl : ∀ q ∈ R, q.es.length ≤ 32) (hj : p < 0 ∨ joinB (pgs R) p.toNat = false) :
  Calls Tryz.prog 253 #[.pointer (some ⟨g, 0, none⟩), .int .i64 p] w fun e w' => e = .returned (.bool false) ∧ Mods noB w w' := by
 by_cases h0 : p < 0
 ·clear hm ne hl hj
  go_enter Tryz.func253, Tryz.ntmps253
  go_upto_region 1 with fail
  refine wp_tl (d := .region 1 (opsC 1 Tryz.f253) true) (by kernel_rfl) ?_
  refine RW.wp (join1n h0 ?_)
  intros
  rename_i m
  go_wp2
  go_ret
  exact ⟨rfl, m⟩
 have hj := hj.resolve_left h0
 obtain ⟨p, rfl⟩ := Int.eq_ofNat_of_zero_le (show 0 ≤ p by omega)
 rw [Int.toNat_natCast] at hj
 by_cases h1 : p + 1 < R.length
 ·obtain ⟨b, off, cap, rfl, ob⟩ := hm.rowOB (fun e => by rw [e] at h1; simp at h1)
  have hp : p < R.length := by omega
  obtain ⟨pb, po, pc, e1, ob1⟩ := hm.pageOB (List.getElem_mem hp) (ne _ (List.getElem_mem hp))
  obtain ⟨qb, qo, qc, e2, ob2⟩ := hm.pageOB (List.getElem_mem h1) (ne _ (List.getElem_mem h1))
  have l1 := hl _ (List.getElem_mem hp)
  have l2 := hl _ (List.getElem_mem h1)
  have k1 : (R.map (·.pv))[p]? = some (.slice (some ⟨pb, po, none⟩) (R[p]).es.length pc) := by rw [← e1]; simp [hp]
  have k2 : (R.map (·.pv))[p + 1]? = some (.slice (some ⟨qb, qo, none⟩) (R[p + 1]).es.length qc) := by rw [← e2]; simp [h1]
  have hs : ¬ (R[p]).es.length + (R[p + 1]).es.length ≤ 16 := by
   unfold joinB at hj
   rw [pgs_length, pgs_getD hp, pgs_getD h1, ents_length, ents_length, decide_eq_true h1, Bool.true_and] at hj
   exact of_decide_eq_false hj
  have hg := hm.hg
  clear hm hl hj ne ob1 ob2 e1 e2
  generalize (R[p]).es.length = m1 at *
  generalize (R[p + 1]).es.length = m2 at *
  go_enter Tryz.func253, Tryz.ntmps253
  go_upto_region 1 with fail
  refine wp_tl (d := .region 1 (opsC 1 Tryz.f253) true) (by kernel_rfl) ?_
  refine RW.wp (join1f hg ob h1 hn k1 k2 (by omega) (by omega) hs ?_)
  intros
  rename_i m
  go_wp2
  go_ret
  exact ⟨rfl, m⟩
 ·rcases hm.row.ob with ⟨h2, h3, _⟩ | ⟨b, off, cap, rfl, ob⟩
  ·have hR : R = [] := List.length_eq_zero_iff.1 h3
   subst hR h2
   have hg := hm.hg
   clear hm
   go_enter Tryz.func253, Tryz.ntmps253
   go_upto_region 1 with fail
   refine wp_tl (d := .region 1 (opsC 1 Tryz.f253) true) (by kernel_rfl) ?_
   refine RW.wp (join1e hg (by omega) ?_)
   intros
   rename_i m
   go_wp2
   go_ret
   exact ⟨rfl, m⟩
  have hg := hm.hg
  clear hm
  go_enter Tryz.func253, Tryz.ntmps253
  go_upto_region 1 with fail
  refine wp_tl (d := .region 1 (opsC 1 Tryz.f253) true) (by kernel_rfl) ?_
  refine RW.wp (join1l hg (by omega) (by omega) ?_)
  intros
  rename_i m
  go_wp2
  go_ret
  exact ⟨rfl, m⟩
theorem parts2 {α : Type} (R : List α) (p : Nat) (hp : p + 1 < R.length) : ∃ A q r C, R = A ++ [q, r] ++ C ∧ A.length = p ∧ R[p] = q ∧ R[p + 1] = r := by
 obtain ⟨A, q, C, rfl, rfl, hq⟩ := parts R p (by omega)
 cases C with
 | nil => simp at hp
 | cons r C => exact ⟨A, q, r, C, by simp, rfl, hq, by simp⟩
theorem join_end {w w3 w7 w8 w' : World} {g b off n cap : Nat} {A C : List PV} {q r : PV} {v7 : Value} (hm : PM w g (.slice (some ⟨b, off, none⟩) n cap) (A ++ [q, r] ++ C)) (hn : n = (A ++ [q, r] ++ C).length)
  (o7 : OwnG w7 244 2 v7 (q.es.length + r.es.length) (ecell q.es ++ ecell r.es)) (m7 : Mods noB w w7) (f7 : freshIn w v7) (h3 : w3 = w7.setCell ⟨b, off + A.length, none⟩ v7)
  (o8 : OB w8 258 1 b off (n - 1) cap ((((A ++ [q, r] ++ C).map (·.pv)).set A.length v7).take ((A.length + 1) * 1) ++ (((A ++ [q, r] ++ C).map (·.pv)).set A.length v7).drop ((A.length + 1 + 1) * 1))) (m8 : Mods (fun k => k = b) w3 w8)
  (h' : w' = w8.setCell ⟨g, 0, none⟩ (.slice (some ⟨b, off, none⟩) (n - 1 : Nat) cap)) :
  PT w w' g (.slice (some ⟨b, off, none⟩) n cap) (A ++ [q, r] ++ C) (.slice (some ⟨b, off, none⟩) (n - 1 : Nat) cap) (A ++ [⟨v7, q.es ++ r.es⟩] ++ C) ∧ pgs (A ++ [⟨v7, q.es ++ r.es⟩] ++ C) = joinP (pgs (A ++ [q, r] ++ C)) A.length := by
 subst hn
 have inq : q ∈ A ++ [q, r] ++ C := by simp
 have hgl : g < w.heap.size := lt_of_heap hm.hg
 have hbg : b ≠ g := fun e => hm.sep1 (by rw [e]; rfl)
 have hbl : b < w.heap.size := hm.row.lt b rfl
 have m3 : Mods (fun k => k = b) w7 w3 := by rw [h3]; exact (Mods.refl (fun k => k = b) w7).setCell (p := ⟨b, off + A.length, none⟩) (.inl rfl) v7
 have m38 := m3.trans m8 (U := fun k => k = b) (fun _ _ x => x) (fun _ _ x => x)
 have hg8 := m38.heap (m7.heap hm.hg (fun x => x)) (Ne.symm hbg)
 have m' : Mods (fun k => k = g) w8 w' := by rw [h']; exact (Mods.refl (fun k => k = g) w8).setCell (p := ⟨g, 0, none⟩) (.inl rfl) _
 have hg' : w'.heap[g]? = some (.cells #[.slice (some ⟨b, off, none⟩) ((A ++ [q, r] ++ C).length - 1 : Nat) cap, .int .i64 (cnt (pgs (A ++ [q, r] ++ C)) : Nat)] 230 (0, 0)) := by rw [h']; exact heap_set hg8 0 _
 have o' := o8.keep m' hbg
 have p7 := (o7.keep m38 (fun k hk e => by have := f7 k hk; omega)).keep m' (fun k hk e => by have := f7 k hk; omega)
 have hT : Mods (fun k => k = g ∨ (Value.slice (some ⟨b, off, none⟩) (A ++ [q, r] ++ C).length cap).ownBlock = some k ∨ ∃ s ∈ [q, r], s.pv.ownBlock = some k) w w' :=
  (m7.trans m38 (U := fun k => k = b) (fun _ _ x => x.elim) (fun _ _ x => x)).trans m' (fun k _ hk => .inr (.inl (by rw [hk]; rfl))) (fun k _ hk => .inl hk)
 have hl : A.length = (A.map (·.pv)).length := by simp
 have eR : (((A ++ [q, r] ++ C).map (·.pv)).set A.length v7) = A.map (·.pv) ++ [v7] ++ ([r.pv] ++ C.map (·.pv)) := by
  rw [show A ++ [q, r] ++ C = A ++ [q] ++ ([r] ++ C) from by simp, List.map_append, List.map_append, hl]
  rw [List.map_cons, List.map_nil, set_parts]
  simp
 have eT : (A.map (·.pv) ++ [v7]).length = (A.length + 1) * 1 := by simp
 have eT2 : (A.map (·.pv) ++ [v7] ++ [r.pv]).length = (A.length + 1 + 1) * 1 := by simp
 have eD : (A.map (·.pv) ++ [v7] ++ ([r.pv] ++ C.map (·.pv))).drop ((A.length + 1 + 1) * 1) = C.map (·.pv) := by
  rw [← List.append_assoc]
  exact List.drop_left' eT2
 rw [eR, List.take_left' eT, eD] at o'
 have up := PM.upd (vo' := .slice (some ⟨b, off, none⟩) ((A ++ [q, r] ++ C).length - 1 : Nat) cap) (A := A) (B := [q, r]) (C := C) (N := [⟨v7, q.es ++ r.es⟩]) (X := fun _ => False) hm hT
  (by
   rw [hg', cnt_parts, cnt_parts, cnt_one]
   have : cnt (pgs [q, r]) = (q.es ++ r.es).length := by rw [pgs_cons, pgs_single, cnt_cons, cnt_cons, cnt_nil, ents_length, ents_length, List.length_append, Nat.add_zero]
   rw [this])
  (by
   have e1 : (A ++ [(⟨v7, q.es ++ r.es⟩ : PV)] ++ C).length = (A ++ [q, r] ++ C).length - 1 := by simp
   rw [e1, List.map_append, List.map_append]
   exact o'.own)
  (.inl rfl)
  (by
   intro s hs
   rw [List.mem_singleton.1 hs]
   refine ⟨?_, .inr f7⟩
   show OwnG _ _ 2 v7 (q.es ++ r.es).length _
   rw [List.length_append, ecell_append]
   exact p7)
  (by
   intro s hs k hk hk2
   rw [List.mem_singleton.1 hs] at hk
   have := f7 k hk
   simp [Value.ownBlock] at hk2
   omega)
  (List.pairwise_singleton _ _)
  (by
   intro s hs e he
   rw [List.mem_singleton.1 hs] at he
   rcases List.mem_append.1 he with he | he
   ·exact .inl ⟨q, by simp, he⟩
   ·exact .inl ⟨r, by simp, he⟩)
 refine ⟨⟨up.1, hT.mono (fun k _ hk => ?_), up.2.1, fun k hk => (up.2.2 k hk).imp id (fun x => x.elim)⟩, ?_⟩
 ·rcases hk with h | h | ⟨s, hs, h⟩
  ·exact .inl h
  ·exact .inr (.inl h)
  ·exact .inr (.inr ⟨s, List.mem_append_left _ (List.mem_append_right _ hs), h⟩)
 ·have hlen : A.length = (pgs A).length := (pgs_length A).symm
  unfold joinP
  have h1 : (pgs (A ++ [q, r] ++ C)).getD A.length [] = ents q.es := by rw [pgs_getD (by simp)]; simp
  have h2 : (pgs (A ++ [q, r] ++ C)).getD (A.length + 1) [] = ents r.es := by rw [pgs_getD (by simp)]; simp
  rw [h1, h2, pgs_append, pgs_append, pgs_append, pgs_append, hlen, List.append_assoc (pgs A) (pgs [q, r]) (pgs C), List.take_left', ← List.append_assoc, pgs_single, ents_append]
  ·rw [List.drop_left' (by simp [pgs])]
  ·rfl
theorem joins_yes {w : World} {g : Nat} {vo : Value} {R : List PV} (hm : PM w g vo R) {p : Nat} (hn : R.length ≤ 1000000) (ne : ∀ q ∈ R, q.es ≠ []) (hj : joinB (pgs R) p = true) :
  Calls Tryz.prog 253 #[.pointer (some ⟨g, 0, none⟩), .int .i64 p] w fun e w' => e = .returned (.bool true) ∧ ∃ vo' R', PT w w' g vo R vo' R' ∧ pgs R' = joinP (pgs R) p := by
 unfold joinB at hj
 rw [Bool.and_eq_true, decide_eq_true_eq, decide_eq_true_eq, pgs_length] at hj
 obtain ⟨h1, hs⟩ := hj
 obtain ⟨b, off, cap, rfl, ob⟩ := hm.rowOB (fun e => by rw [e] at h1; simp at h1)
 have hp : p < R.length := by omega
 rw [pgs_getD hp, pgs_getD h1, ents_length, ents_length] at hs
 obtain ⟨pb, po, pc, e1, ob1⟩ := hm.pageOB (List.getElem_mem hp) (ne _ (List.getElem_mem hp))
 obtain ⟨qb, qo, qc, e2, ob2⟩ := hm.pageOB (List.getElem_mem h1) (ne _ (List.getElem_mem h1))
 have k1 : (R.map (·.pv))[p]? = some (.slice (some ⟨pb, po, none⟩) (R[p]).es.length pc) := by rw [← e1]; simp [hp]
 have k2 : (R.map (·.pv))[p + 1]? = some (.slice (some ⟨qb, qo, none⟩) (R[p + 1]).es.length qc) := by rw [← e2]; simp [h1]
 have hg := hm.hg
 have c1 := ecell_one (hm.ents _ (List.getElem_mem hp))
 have c2 := ecell_one (hm.ents _ (List.getElem_mem h1))
 have c3 := pv_one hm
 have hbg : b ≠ g := fun e => hm.sep1 (by rw [e]; rfl)
 have hm0 : 0 < (R[p]).es.length := List.length_pos_iff.2 (ne _ (List.getElem_mem hp))
 have HM := Lib.hid hm
 clear hm ne
 go_enter Tryz.func253, Tryz.ntmps253
 go_upto_region 1 with fail
 refine wp_tl (d := .region 1 (opsC 1 Tryz.f253) true) (by kernel_rfl) ?_
 refine RW.wp (join1y hg ob h1 hn k1 k2 (by omega) (by omega) hs ?_)
 intros
 rename_i w1 m1
 go_upto_region 3 with fail
 refine wp_tl (d := .region 3 (opsC 3 Tryz.f253) true) (by kernel_rfl) ?_
 refine RW.wp (join3 (m1.heap hg (fun x => x)) (ob.keep m1 (fun x => x)) h1 hn k1 k2 (ob1.keep m1 (fun x => x)) (ob2.keep m1 (fun x => x)) c1 c2 hm0 (by omega) ?_)
 intros
 rename_i v7 w7 w3 o7 m7 f7 v71 h3
 have hbl : b < w.heap.size := ob.lt
 have hs1 := m1.size
 have mb : Mods (fun k => k = b) w7 w3 := by rw [h3]; exact (Mods.refl (fun k => k = b) w7).setCell (p := ⟨b, off + p, none⟩) (.inl rfl) v7
 have hg3 := mb.heap (m7.heap (m1.heap hg (fun x => x)) (fun x => x)) (Ne.symm hbg)
 have ob3 : OB w3 258 1 b off R.length cap ((R.map (·.pv)).set p v7) := by rw [h3]; exact ob_set1 ((ob.keep m1 (fun x => x)).keep m7 (fun x => x)) hp v7
 go_upto_region 4 with fail
 refine wp_tl (d := .region 4 (opsC 4 Tryz.f253) false) (by kernel_rfl) ?_
 refine RW.wp (join4 hg3 ob3 h1 hn (fun y hy => by
  rcases List.mem_or_eq_of_mem_set hy with hy | rfl
  ·exact c3 y hy
  ·exact v71) (Ne.symm hbg) ?_)
 intros
 rename_i w8 w9 o8 m8 h9
 have H9 := Lib.hid h9
 clear hg3 ob3 c1 c2 c3 hg k1 k2 ob ob1 ob2 e1 e2 hs hbg h9
 go_wp2
 go_ret
 obtain ⟨A, q, r, C, rfl, rfl, hq, hr⟩ := parts2 R p h1
 rw [hq, hr] at o7
 obtain ⟨p1, p2⟩ := join_end (HM.out.keep0 m1) rfl o7 m7 f7 h3 o8 m8 H9.out
 exact ⟨rfl, _, _, p1.first m1, p2⟩
open Go.Gl Go.RowKit
theorem PT.trans {a b c : World} {g : Nat} {vo vo1 vo2 : Value} {R R1 R2 : List PV} (h : PT a b g vo R vo1 R1) (k : PT b c g vo1 R1 vo2 R2) : PT a c g vo R vo2 R2 := by
 refine ⟨k.pm, h.mods.trans k.mods (fun _ _ x => x) (fun i hi x => ?_), fun i hi => ?_, fun i hi => ?_⟩
 ·rcases h.ms i x with h1 | h1
  ·exact h1
  ·omega
 ·rcases k.ms i hi with h1 | h1
  ·exact h.ms i h1
  ·exact .inr (Nat.le_trans h.mods.size h1)
 ·rcases k.md i hi with h1 | h1
  ·exact h.md i h1
  ·exact .inr (Nat.le_trans h.mods.size h1)
theorem del_end1 {w w' : World} {g b off n cap pb po pc i : Nat} {A C : List PV} {q : PV} (hm : PM w g (.slice (some ⟨b, off, none⟩) n cap) (A ++ [q] ++ C)) (hn : n = (A ++ [q] ++ C).length) (hq : q.pv = .slice (some ⟨pb, po, none⟩) q.es.length pc) (hi : i < q.es.length)
  (hT : Mods (fun k => k = g ∨ k = b ∨ k = pb) w w')
  (hg : w'.heap[g]? = some (.cells #[.slice (some ⟨b, off, none⟩) n cap, .int .i64 ((cnt (pgs (A ++ [q] ++ C)) - 1 : Nat))] 230 (0, 0)))
  (hr : OB w' 258 1 b off n cap (((A ++ [q] ++ C).map (·.pv)).set A.length (.slice (some ⟨pb, po, none⟩) (q.es.length - 1) pc)))
  (hp : OB w' 244 2 pb po (q.es.length - 1) pc (ecell (q.es.eraseIdx i))) :
  PT w w' g (.slice (some ⟨b, off, none⟩) n cap) (A ++ [q] ++ C) (.slice (some ⟨b, off, none⟩) n cap) (A ++ [⟨.slice (some ⟨pb, po, none⟩) (q.es.length - 1) pc, q.es.eraseIdx i⟩] ++ C) ∧
   pgs (A ++ [⟨.slice (some ⟨pb, po, none⟩) (q.es.length - 1) pc, q.es.eraseIdx i⟩] ++ C) = (pgs (A ++ [q] ++ C)).set A.length ((ents q.es).eraseIdx i) := by
 subst hn
 have hin : q ∈ A ++ [q] ++ C := by simp
 have hel : (q.es.eraseIdx i).length = q.es.length - 1 := by rw [List.length_eraseIdx, if_pos hi]
 have mods : Mods (fun k => k = g ∨ (Value.slice (some ⟨b, off, none⟩) (A ++ [q] ++ C).length cap).ownBlock = some k ∨ ∃ r ∈ [q], r.pv.ownBlock = some k) w w' := hT.mono (fun k _ hk => by
  rcases hk with h | h | h
  ·exact .inl h
  ·exact .inr (.inl (by rw [h]; rfl))
  ·exact .inr (.inr ⟨q, List.mem_singleton.2 rfl, by rw [hq, h]; rfl⟩))
 have hpb : pb ≠ b := fun e => (hm.sep2 q hin).2 pb (by rw [hq]; rfl) (by rw [e]; rfl)
 have up := PM.upd (vo' := .slice (some ⟨b, off, none⟩) (A ++ [q] ++ C).length cap) (A := A) (B := [q]) (C := C) (N := [⟨.slice (some ⟨pb, po, none⟩) (q.es.length - 1) pc, q.es.eraseIdx i⟩]) (X := fun _ => False) hm mods
  (by
   have e : cnt (pgs (A ++ [(⟨.slice (some ⟨pb, po, none⟩) (q.es.length - 1) pc, q.es.eraseIdx i⟩ : PV)] ++ C)) = cnt (pgs (A ++ [q] ++ C)) - 1 := by
    rw [cnt_parts, cnt_parts, cnt_one, cnt_one, hel]; omega
   rw [e]
   exact hg)
  (by
   have e1 : (A ++ [(⟨.slice (some ⟨pb, po, none⟩) (q.es.length - 1) pc, q.es.eraseIdx i⟩ : PV)] ++ C).length = (A ++ [q] ++ C).length := by simp
   have e2 : (A ++ [(⟨.slice (some ⟨pb, po, none⟩) (q.es.length - 1) pc, q.es.eraseIdx i⟩ : PV)] ++ C).map (·.pv) = ((A ++ [q] ++ C).map (·.pv)).set A.length (.slice (some ⟨pb, po, none⟩) (q.es.length - 1) pc) := by
    rw [← List.map_set (f := (·.pv)) (l := A ++ [q] ++ C) (i := A.length) (a := ⟨.slice (some ⟨pb, po, none⟩) (q.es.length - 1) pc, q.es.eraseIdx i⟩), set_parts]
   rw [e1, e2]
   exact hr.own)
  (.inl rfl)
  (by
   intro r hr
   rw [List.mem_singleton.1 hr]
   refine ⟨?_, .inl ⟨q, List.mem_singleton.2 rfl, by rw [hq]; rfl⟩⟩
   show OwnG _ _ 2 _ (q.es.eraseIdx i).length _
   rw [hel]
   exact hp.own)
  (by
   intro r hr k hk
   rw [List.mem_singleton.1 hr] at hk
   simp [Value.ownBlock] at hk ⊢
   omega)
  (List.pairwise_singleton _ _)
  (by
   intro r hr e he
   rw [List.mem_singleton.1 hr] at he
   exact .inl ⟨q, List.mem_singleton.2 rfl, List.mem_of_mem_eraseIdx he⟩)
 refine ⟨⟨up.1, mods.mono (fun k _ hk => ?_), up.2.1, fun k hk => (up.2.2 k hk).imp id (fun x => x.elim)⟩, ?_⟩
 ·rcases hk with h | h | ⟨r, hr, h⟩
  ·exact .inl h
  ·exact .inr (.inl h)
  ·exact .inr (.inr ⟨q, hin, by rw [List.mem_singleton.1 hr] at h; exact h⟩)
 ·have hlen : A.length = (pgs A).length := (pgs_length A).symm
  rw [pgs_append, pgs_append, pgs_append, pgs_append, hlen, pgs_single q, set_parts, pgs_single, ents_erase]
theorem del_end2 {w w7 w' : World} {g b off n cap : Nat} {A C : List PV} {q : PV} (hm : PM w g (.slice (some ⟨b, off, none⟩) n cap) (A ++ [q] ++ C)) (hn : n = (A ++ [q] ++ C).length) (hq : q.es = [])
  (hr : OB w7 258 1 b off (n - 1) cap (((A ++ [q] ++ C).map (·.pv)).take (A.length * 1) ++ ((A ++ [q] ++ C).map (·.pv)).drop ((A.length + 1) * 1))) (m7 : Mods (fun k => k = b) w w7)
  (h' : w' = w7.setCell ⟨g, 0, none⟩ (.slice (some ⟨b, off, none⟩) (n - 1 : Nat) cap)) :
  PT w w' g (.slice (some ⟨b, off, none⟩) n cap) (A ++ [q] ++ C) (.slice (some ⟨b, off, none⟩) (n - 1 : Nat) cap) (A ++ [] ++ C) ∧ pgs (A ++ [] ++ C) = (pgs (A ++ [q] ++ C)).eraseIdx A.length := by
 subst hn
 have hin : q ∈ A ++ [q] ++ C := by simp
 have hbg : b ≠ g := fun e => hm.sep1 (by rw [e]; rfl)
 have hg7 := m7.heap hm.hg (Ne.symm hbg)
 have m' : Mods (fun k => k = g) w7 w' := by rw [h']; exact (Mods.refl (fun k => k = g) w7).setCell (p := ⟨g, 0, none⟩) (.inl rfl) _
 have hg' : w'.heap[g]? = some (.cells #[.slice (some ⟨b, off, none⟩) ((A ++ [q] ++ C).length - 1 : Nat) cap, .int .i64 (cnt (pgs (A ++ [q] ++ C)) : Nat)] 230 (0, 0)) := by rw [h']; exact heap_set hg7 0 _
 have o' := hr.keep m' hbg
 have hT : Mods (fun k => k = g ∨ (Value.slice (some ⟨b, off, none⟩) (A ++ [q] ++ C).length cap).ownBlock = some k ∨ ∃ r ∈ [q], r.pv.ownBlock = some k) w w' :=
  m7.trans m' (fun k _ hk => .inr (.inl (by rw [hk]; rfl))) (fun k _ hk => .inl hk)
 have eT : (A.map (·.pv)).length = A.length * 1 := by simp
 have eT2 : (A.map (·.pv) ++ [q.pv]).length = (A.length + 1) * 1 := by simp
 have eM : (A ++ [q] ++ C).map (·.pv) = A.map (·.pv) ++ [q.pv] ++ C.map (·.pv) := by simp
 rw [eM, List.drop_left' eT2, List.append_assoc (A.map (·.pv)), List.take_left' eT] at o'
 have up := PM.upd (vo' := .slice (some ⟨b, off, none⟩) ((A ++ [q] ++ C).length - 1 : Nat) cap) (A := A) (B := [q]) (C := C) (N := []) (X := fun _ => False) hm hT
  (by
   rw [hg', cnt_parts, cnt_parts, cnt_one, hq]
   rfl)
  (by
   have e1 : (A ++ ([] : List PV) ++ C).length = (A ++ [q] ++ C).length - 1 := by simp
   have e2 : (A ++ ([] : List PV) ++ C).map (·.pv) = A.map (·.pv) ++ C.map (·.pv) := by simp
   rw [e1, e2]
   exact o'.own)
  (.inl rfl) (fun r hr => by cases hr) (fun r hr => by cases hr) List.Pairwise.nil (fun r hr => by cases hr)
 refine ⟨⟨up.1, hT.mono (fun k _ hk => ?_), up.2.1, fun k hk => (up.2.2 k hk).imp id (fun x => x.elim)⟩, ?_⟩
 ·rcases hk with h | h | ⟨r, hr, h⟩
  ·exact .inl h
  ·exact .inr (.inl h)
  ·exact .inr (.inr ⟨q, hin, by rw [List.mem_singleton.1 hr] at h; exact h⟩)
 ·have hlen : A.length = (pgs A).length := (pgs_length A).symm
  rw [pgs_append, pgs_append, pgs_append, pgs_append, hlen, List.eraseIdx_eq_take_drop_succ, List.append_assoc (pgs A) (pgs [q]) (pgs C), List.take_left', ← List.append_assoc, List.drop_left' (by simp [pgs])]
  ·simp [pgs]
  ·rfl
theorem delP_yes {ps : Pgs} {k : List UInt8} {p i : Nat} {B : Bool} (hf : findP ps k = (p, i, B)) (hB : B = true) : delP ps k = if (ps.getD p []).length = 1 then ps.eraseIdx p else
  if joinB (ps.set p ((ps.getD p []).eraseIdx i)) p then joinP (ps.set p ((ps.getD p []).eraseIdx i)) p
  else if p ≠ 0 ∧ joinB (ps.set p ((ps.getD p []).eraseIdx i)) (p - 1) = true then joinP (ps.set p ((ps.getD p []).eraseIdx i)) (p - 1) else ps.set p ((ps.getD p []).eraseIdx i) := by
 unfold delP
 simp only [hf, hB, if_true]
set_option maxHeartbeats 4000000 in
theorem Delete_any {w : World} {g : Nat} {vo kv : Value} {R : List PV} {xs : List UInt8} (hm : PM w g vo R) (hk : Rd w kv xs) (ok : PgOk (pgs R)) (hn : R.length ≤ 1000000) (hc : cnt (pgs R) ≤ 1000000000) :
    Calls Tryz.prog 208 #[.pointer (some ⟨g, 0, none⟩), kv] w fun e w' => ∃ vo' R', e = .returned (.bool (findP (pgs R) xs).2.2) ∧ PT w w' g vo R vo' R' ∧ pgs R' = delP (pgs R) xs := by
  have FD := Lib.hid (find_any hm hk ok hn)
  obtain ⟨aq, cq, hqv, _⟩ := hk.form
  subst hqv
  have hfi := found_is (R := R) (ys := xs)
  have hdel : ∀ p i B, findP (pgs R) xs = (p, i, B) → B = true → _ := fun p i B hf hB => delP_yes hf hB
  have hno : (findP (pgs R) xs).2.2 = false → delP (pgs R) xs = pgs R := fun h => by unfold delP; rw [h]; rfl
  generalize findP (pgs R) xs = F at *
  obtain ⟨p, i, B⟩ := F
  simp only at hfi FD hno ⊢
  cases B with
  | false =>
    rw [hno rfl]
    have HM := Lib.hid hm
    clear hm hk ok hfi hdel hno
    go_enter Tryz.func208, Tryz.ntmps208
    go_wp2_with fail
    refine FD.out.mono ?_
    rintro e w1 ⟨rfl, m1⟩
    go_wp2
    go_ret
    exact ⟨_, _, rfl, (PT.refl HM.out).then0 m1, rfl⟩
  | true =>
    have hdel := hdel p i true rfl rfl
    obtain ⟨hp, hi, _⟩ := hfi rfl
    rw [pgs_getD hp, ents_length] at hdel
    have HD := Lib.hid hdel
    obtain ⟨b, off, cap, pb, po, pc, rfl, hpv, ob2, ob1⟩ := hm.way hp hi
    have hbg : b ≠ g := fun e => hm.sep1 (by rw [e]; rfl)
    have hpg : pb ≠ g := fun e => (hm.sep2 _ (List.getElem_mem hp)).1 (by rw [hpv, e]; rfl)
    have hbp : b ≠ pb := fun e => (hm.sep2 _ (List.getElem_mem hp)).2 pb (by rw [hpv]; rfl) (by rw [e]; rfl)
    have hPV : (R.map (·.pv))[p]? = some (.slice (some ⟨pb, po, none⟩) (R[p]).es.length pc) := by rw [← hpv]; simp [hp]
    have h1 := ecell_one (hm.ents _ (List.getElem_mem hp))
    have h2 := pv_one hm
    have hmost := ok.most (ents (R[p]).es) (List.mem_map_of_mem (f := fun p => ents p.es) (List.getElem_mem hp))
    rw [ents_length] at hmost
    have HM := Lib.hid hm
    have HPV := Lib.hid hpv
    have HOK := Lib.hid ok
    have hN1 : 1 ≤ cnt (pgs R) := by
      obtain ⟨A, q, C, rfl, rfl, hq⟩ := parts R p hp
      rw [hq] at hi
      rw [cnt_parts, cnt_one]
      omega
    obtain ⟨N, hN⟩ : ∃ N, cnt (pgs R) = N := ⟨_, rfl⟩
    have HN := Lib.hid hN
    rw [hN] at hc hN1
    have hsub : (N : Int) - 1 = ((N - 1 : Nat) : Int) := by omega
    clear hm hk ok hfi hdel hno hN hpv
    go_enter Tryz.func208, Tryz.ntmps208
    go_wp2_with fail
    refine FD.out.mono ?_
    rintro e w1 ⟨rfl, m1⟩
    have M1 := Lib.hid m1
    have hg1 : w1.heap[g]? = some (.cells #[.slice (some ⟨b, off, none⟩) R.length cap, .int .i64 (N : Nat)] 230 (0, 0)) := by rw [← HN.out]; exact m1.heap HM.out.hg (fun x => x)
    have e1 : w1.cell? ⟨g, 1, none⟩ = some (.int .i64 (N : Nat)) := cells_of hg1 1
    have ef1 : w1.frozen? ⟨g, 1, none⟩ = false := free_of hg1 1
    go_upto_region 5 with fail
    have hg2 : (w1.setCell ⟨g, 1, none⟩ (.int .i64 ((N - 1 : Nat) : Int))).heap[g]? = some (.cells #[.slice (some ⟨b, off, none⟩) R.length cap, .int .i64 ((N - 1 : Nat) : Int)] 230 (0, 0)) := heap_set hg1 1 _
    have m2 : Mods (fun k => k = g) w1 (w1.setCell ⟨g, 1, none⟩ (.int .i64 ((N - 1 : Nat) : Int))) := (Mods.refl (fun k => k = g) w1).setCell (p := ⟨g, 1, none⟩) (.inl rfl) _
    generalize World.setCell w1 _ _ = w2 at *
    have ob12 := (ob1.keep m1 (fun x => x)).keep m2 hbg
    have ob22 := (ob2.keep m1 (fun x => x)).keep m2 hpg
    refine wp_tl (d := .region 5 (opsC 5 Tryz.f208) true) (by kernel_rfl) ?_
    refine RW.wp (del5 hg2 ob12 hp hPV ob22 h1 hi (by omega) (Ne.symm hpg) hbp (by omega) ?_)
    intros
    rename_i w3 w4 o3 m3 h4
    have m4 : Mods (fun k => k = b) w3 w4 := by rw [h4]; exact (Mods.refl (fun k => k = b) w3).setCell (p := ⟨b, off + p, none⟩) (.inl rfl) _
    have hg4 := m4.heap (m3.heap hg2 (Ne.symm hpg)) (Ne.symm hbg)
    have ob14 : OB w4 258 1 b off R.length cap ((R.map (·.pv)).set p (.slice (some ⟨pb, po, none⟩) ((R[p]).es.length - 1) pc)) := by rw [h4]; exact ob_set1 (ob12.keep m3 hbp) hp _
    have ob24 := o3.keep m4 (Ne.symm hbp)
    rw [← ecell_del] at ob24
    have hT := (m2.trans m3 (U := fun k => k = g ∨ k = b ∨ k = pb) (fun _ _ h => .inl h) (fun _ _ h => .inr (.inr h))).trans m4 (U := fun k => k = g ∨ k = b ∨ k = pb) (fun _ _ h => h) (fun _ _ h => .inr (.inl h))
    have KEY : ∃ R1, PT w1 w4 g (.slice (some ⟨b, off, none⟩) R.length cap) R (.slice (some ⟨b, off, none⟩) R.length cap) R1 ∧ pgs R1 = (pgs R).set p ((ents (R[p]).es).eraseIdx i) ∧ R1.length = R.length ∧ ∃ (hp1 : p < R1.length), (R1[p]).es = (R[p]).es.eraseIdx i ∧ R1.map (·.pv) = (R.map (·.pv)).set p (.slice (some ⟨pb, po, none⟩) ((R[p]).es.length - 1) pc) ∧ (∀ q ∈ R1, q ∈ R ∨ q.es = (R[p]).es.eraseIdx i) := by
      have hpv := HPV.out
      have hm1 := HM.out.keep0 m1
      have hN := HN.out
      rw [← hN] at hg4
      clear HM HPV HN HOK HD FD hmost hPV h2 h1 e1 ef1 hg1 hg2 ob12 ob22 h4 o3 hN1 hsub hc
      obtain ⟨A, q, C, rfl, rfl, hq⟩ := parts R p hp
      rw [hq] at hpv hi ob24 ob14 ⊢
      obtain ⟨k1, k2⟩ := del_end1 hm1 rfl hpv hi hT hg4 ob14 ob24
      refine ⟨_, k1, k2, by simp, by simp, by simp, by rw [← List.map_set (f := (·.pv)) (l := A ++ [q] ++ C) (i := A.length) (a := ⟨.slice (some ⟨pb, po, none⟩) (q.es.length - 1) pc, q.es.eraseIdx i⟩), set_parts], fun r hr => ?_⟩
      simp only [List.append_assoc, List.mem_append, List.mem_cons, List.not_mem_nil, or_false] at hr ⊢
      rcases hr with hr | rfl | hr
      · exact .inl (.inl hr)
      · exact .inr rfl
      · exact .inl (.inr (.inr hr))
    obtain ⟨R1, K1, K2, K3, hp1, K4, K5, K6⟩ := KEY
    have c0 : w4.cell? ⟨g, 0, none⟩ = some (.slice (some ⟨b, off, none⟩) R.length cap) := cells_of hg4 0
    have c1 : w4.cell? ⟨b, off + p, none⟩ = some (.slice (some ⟨pb, po, none⟩) ((R[p]).es.length - 1 : Nat) pc) := ob14.cell (by rw [List.getElem?_set_self (by simp; exact hp)])
    have hpi : (p : Int) < (R.length : Int) := by omega
    have KK := Lib.hid (And.intro K1 (And.intro K2 (And.intro K4 (And.intro K5 K6))))
    have h2' : ∀ y ∈ ((R.map (·.pv)).set p (.slice (some ⟨pb, po, none⟩) ((R[p]).es.length - 1) pc)), y.oneCell' = true := fun y hy => by
      rcases List.mem_or_eq_of_mem_set hy with hy | rfl
      · exact h2 y hy
      · rfl
    clear K1 K2 K4 K5 K6 hT h4 o3 ob12 ob22 hg2 hg1 e1 ef1 h1 h2 hPV
    by_cases hlen : (R[p]).es.length = 1
    · have hz : (((R[p]).es.length - 1 : Nat) : Int) == 0 := by rw [hlen]; rfl
      have hD := HD.out
      rw [if_pos hlen] at hD
      have HD2 := Lib.hid hD
      clear hD
      rw [hlen] at c1
      go_upto_region 7 with fail
      refine wp_tl (d := .region 7 (opsC 7 Tryz.f208) false) (by kernel_rfl) ?_
      refine RW.wp (del7 hg4 ob14 hp hn h2' (Ne.symm hbg) ?_)
      intros
      rename_i w5 w6 o5 m5 h6
      have H6 := Lib.hid h6
      have O5 := Lib.hid (And.intro o5 m5)
      clear h6 o5 m5 c0 c1
      go_wp2
      go_ret
      have k4 : (R1[p]).es = [] := by
        rw [KK.out.2.2.1]
        exact List.length_eq_zero_iff.1 (by rw [List.length_eraseIdx, if_pos hi]; omega)
      have o5 := O5.out.1
      rw [← KK.out.2.2.2.1, ← K3] at o5
      have k1 := KK.out.1
      have k2 := KK.out.2.1
      have h6 := H6.out
      have hr : (ents (R[p]).es).eraseIdx i = [] := List.length_eq_zero_iff.1 (by rw [List.length_eraseIdx, ents_length, if_pos hi]; omega)
      rw [← K3] at k1 h6
      obtain ⟨A, q, C, rfl, rfl, hq⟩ := parts R1 p hp1
      rw [hq] at k4
      obtain ⟨d1, d2⟩ := del_end2 k1.pm rfl k4 o5 O5.out.2 h6
      rw [K3] at k1 d1
      first | refine ⟨_, _, rfl, (k1.trans d1).first M1.out, ?_⟩ | refine ⟨rfl, _, _, (k1.trans d1).first M1.out, ?_⟩
      rw [HD2.out, d2, k2, hr, List.eraseIdx_set_eq]
    · have hz : (((((R[p]).es.length - 1 : Nat) : Int)) == 0) = false := by rw [beq_eq_false_iff_ne]; omega
      have hD := HD.out
      rw [if_neg hlen, ← KK.out.2.1] at hD
      have ne1 : ∀ q ∈ R1, q.es ≠ [] := fun q hq => by
        rcases KK.out.2.2.2.2 q hq with h | h
        · have := HOK.out.ne (ents q.es) (List.mem_map_of_mem (f := fun p => ents p.es) h)
          intro e
          rw [e] at this
          exact this rfl
        · intro e
          rw [e] at h
          have := congrArg List.length h
          rw [List.length_eraseIdx, if_pos hi] at this
          simp at this
          omega
      have le1 : ∀ q ∈ R1, q.es.length ≤ 32 := fun q hq => by
        rcases KK.out.2.2.2.2 q hq with h | h
        · have := HOK.out.most (ents q.es) (List.mem_map_of_mem (f := fun p => ents p.es) h)
          rwa [ents_length] at this
        · rw [h, List.length_eraseIdx, if_pos hi]; omega
      have hn1 : R1.length ≤ 1000000 := by omega
      have hsubp : p ≠ 0 → (p : Int) - 1 = ((p - 1 : Nat) : Int) := fun h => by omega
      clear HD ob14 ob24 hg4 h2'
      by_cases hj : joinB (pgs R1) p = true
      · rw [if_pos hj] at hD
        have HD2 := Lib.hid hD
        clear hD
        have JY := Lib.hid (joins_yes KK.out.1.pm hn1 ne1 hj)
        clear ne1 le1
        go_wp2_with fail
        refine JY.out.mono ?_
        rintro e w5 ⟨rfl, vo2, R2, j1, j2⟩
        have J := Lib.hid (And.intro j1 j2)
        clear j1 j2 c0 c1
        go_wp2
        go_ret
        exact ⟨vo2, R2, rfl, (KK.out.1.trans J.out.1).first M1.out, J.out.2.trans HD2.out.symm⟩
      · rw [if_neg hj] at hD
        have JN := Lib.hid (joins_no KK.out.1.pm (p := (p : Int)) (by omega) hn1 ne1 le1 (.inr (by rw [Int.toNat_natCast]; simpa using hj)))
        by_cases hk : p ≠ 0 ∧ joinB (pgs R1) (p - 1) = true
        · rw [if_pos hk] at hD
          have HD2 := Lib.hid hD
          clear hD
          have hs := hsubp hk.1
          have JY := Lib.hid (fun (w' : World) (m : Mods noB w4 w') => joins_yes (KK.out.1.pm.keep0 m) hn1 ne1 hk.2)
          clear ne1 le1 hsubp
          go_wp2_with fail
          refine JN.out.mono ?_
          rintro e w5 ⟨rfl, m5⟩
          have J2 := Lib.hid (JY.out w5 m5)
          have M5 := Lib.hid m5
          clear m5 c0 c1
          go_wp2_with fail
          refine J2.out.mono ?_
          rintro e w6 ⟨rfl, vo2, R2, j1, j2⟩
          have J := Lib.hid (And.intro j1 j2)
          clear j1 j2
          go_wp2
          go_ret
          exact ⟨_, _, rfl, (KK.out.1.trans (J.out.1.first M5.out)).first M1.out, J.out.2.trans HD2.out.symm⟩
        · rw [if_neg hk] at hD
          have HD2 := Lib.hid hD
          clear hD
          have JY := Lib.hid (fun (w' : World) (m : Mods noB w4 w') => joins_no (KK.out.1.pm.keep0 m) (p := (p : Int) - 1) (by omega) hn1 ne1 le1 (by
            by_cases h0 : p = 0
            · left; omega
            · right
              rw [hsubp h0, Int.toNat_natCast]
              have := fun h => hk ⟨h0, h⟩
              simpa using this))
          have hs : IntKind.i64.wrap ((p : Int) - 1) = (p : Int) - 1 := IntWalk.i64_in _ (by omega)
          clear ne1 le1 hsubp
          go_wp2_with fail
          refine JN.out.mono ?_
          rintro e w5 ⟨rfl, m5⟩
          have J2 := Lib.hid (JY.out w5 m5)
          have M5 := Lib.hid m5
          clear m5 c0 c1
          go_wp2_with fail
          refine J2.out.mono ?_
          rintro e w6 ⟨rfl, m6⟩
          have M6 := Lib.hid m6
          clear m6
          go_wp2
          go_ret
          exact ⟨_, _, rfl, ((KK.out.1.then0 M5.out).then0 M6.out).first M1.out, HD2.out.symm⟩
open Go.Gl Go.RowKit
theorem PM.rowcell {w w' : World} {g b off n cap : Nat} {R : List PV} (h : PM w g (.slice (some ⟨b, off, none⟩) n cap) R) (hm : Mods noB w w') {i : Nat} (hi : i < R.length) : w'.cell? ⟨b, off + i, none⟩ = some (R[i]).pv := by
 have := (h.keep0 hm).open
 rcases this with ⟨h1, _⟩ | ⟨b', off', cap', hv, _, _, hc⟩
 ·rw [h1] at hi; simp at hi
 ·cases hv
  exact hc i hi
open Go.Gl Go.RowKit
theorem PBytes_true {x y : Value} {xs : List UInt8} {w : World} (hx : Rd w x xs) (hy : Rd w y xs) : Calls Tryz.prog 90 #[x, y] w fun e w' => e = .returned (.bool true) ∧ Mods noB w w' :=
 (Bytes_any hx hy).mono fun e w' ⟨he, hq⟩ => ⟨by rw [he]; simp, hq.mods _⟩
def MDL (L : List EV) (k : Nat) : Prop := ∃ e ∈ L, e.kv.ownBlock = some k ∨ e.vv.ownBlock = some k
structure PRow (w : World) (v : Value) (L : List EV) : Prop where
 row : RdG w 2 v L.length (ecell L)
 own : ∀ e ∈ L, Rd w e.kv e.k ∧ Rd w e.vv e.v
theorem PRow.keep {w w' : World} {v : Value} {L : List EV} {T : Nat → Prop} (h : PRow w v L) (hm : Mods T w w') (h1 : ∀ k, v.ownBlock = some k → ¬ T k) (h2 : ∀ k, MDL L k → ¬ T k) : PRow w' v L :=
 ⟨RdG.keep h.row hm h1, fun e he => ⟨(h.own e he).1.keep hm (fun k hk => h2 k ⟨e, he, .inl hk⟩), (h.own e he).2.keep hm (fun k hk => h2 k ⟨e, he, .inr hk⟩)⟩⟩
theorem PRow.keep0 {w w' : World} {v : Value} {L : List EV} (h : PRow w v L) (hm : Mods noB w w') : PRow w' v L := h.keep hm (fun _ _ x => x) (fun _ _ x => x)
theorem PRow.at {w : World} {v : Value} {L : List EV} (h : PRow w v L) : ∃ a cap, v = .slice a L.length cap ∧ ∀ i (hi : i < L.length), ∃ b off, a = some ⟨b, off, none⟩ ∧ b < w.heap.size ∧ w.cell? ⟨b, off + i * 2, none⟩ = some (L[i]).kv ∧ w.cell? ⟨b, off + i * 2 + 1, none⟩ = some (L[i]).vv := by
 rcases h.row.2 with ⟨h0, hn⟩ | ⟨g, off, cap, hv, h1, h2, hg, hc⟩
 ·obtain ⟨a0, rfl⟩ := h0.form
  refine ⟨a0, 0, by rw [hn], fun i hi => by omega⟩
 ·refine ⟨_, cap, hv, fun i hi => ⟨g, off, rfl, by rcases hg with h | h <;> omega, hc _ _ (ecell_get L i hi).1, ?_⟩⟩
  have := hc _ _ (ecell_get L i hi).2
  rw [Nat.add_assoc]
  exact this
set_option maxHeartbeats 1000000 in
theorem prs6 {w : World} {a oa ca b ob cb n i : Nat} {u v x y : Value} {xs ys : List UInt8} (c1 : w.cell? ⟨a, oa + i * 2, none⟩ = some u) (c2 : w.cell? ⟨b, ob + i * 2, none⟩ = some v) (c3 : w.cell? ⟨a, oa + i * 2 + 1, none⟩ = some x) (c4 : w.cell? ⟨b, ob + i * 2 + 1, none⟩ = some y) (ha : a < w.heap.size) (hb : b < w.heap.size) (hi : i < n) (hn : n ≤ 1000000000) (hu : Rd w u xs) (hv : Rd w v xs) (hx : Rd w x ys) (hy : Rd w y ys) {x2 x3 x4 x6 x7 x8 x9 x10 x11 x12 x13 x14 x15 x16 x17 x18 x19 x20 x21 x22 x23 x24 x25 x26 x27 x28 x29 x30 x31 x32 x33 x34 x35 x36 x37 x38 x39 x40 x41 x42 : Value} {df : List Deferred} {Q : Exit → Act → World → Prop}
  (hK : ∀ (y17 y18 y19 y20 y21 y22 y23 y24 y25 y26 y27 y28 y29 y30 y31 y32 y33 y34 y35 y36 y37 y38 y39 y40 y41 : Value)  (w' : World), Mods noB w w' → Q .normal ⟨#[.slice (some ⟨a, oa, none⟩) n ca, .slice (some ⟨b, ob, none⟩) n cb, x2, x3, x4, .int .i64 ((i : Nat) : Int), x6, x7, x8, x9, x10, x11, x12, x13, x14, x15, x16, y17, y18, y19, y20, y21, y22, y23, y24, y25, y26, y27, y28, y29, y30, y31, y32, y33, y34, y35, y36, y37, y38, y39, y40, y41, .bool false], df⟩ w') : RW Tryz.prog (opsC 6 Tryz.f19) true Q ⟨#[.slice (some ⟨a, oa, none⟩) n ca, .slice (some ⟨b, ob, none⟩) n cb, x2, x3, x4, .int .i64 ((i : Nat) : Int), x6, x7, x8, x9, x10, x11, x12, x13, x14, x15, x16, x17, x18, x19, x20, x21, x22, x23, x24, x25, x26, x27, x28, x29, x30, x31, x32, x33, x34, x35, x36, x37, x38, x39, x40, x41, x42], df⟩ w := by
 have HQ := Lib.hid hK
 clear hK
 have HU := Lib.hid hu
 have HV := Lib.hid hv
 have HX := Lib.hid hx
 have HY := Lib.hid hy
 have Q1 := Lib.hid (fun b' (hm : Mods noB w b') => (hm.cellAt ha (fun x => x) _).trans c1)
 have Q2 := Lib.hid (fun b' (hm : Mods noB w b') => (hm.cellAt hb (fun x => x) _).trans c2)
 have Q3 := Lib.hid (fun b' (hm : Mods noB w b') => (hm.cellAt ha (fun x => x) _).trans c3)
 have Q4 := Lib.hid (fun b' (hm : Mods noB w b') => (hm.cellAt hb (fun x => x) _).trans c4)
 clear hu hv hx hy c1 c2 c3 c4
 have MR := Lib.hid ((Mods.refl noB w).drew)
 refine rw_ordF (S := fun b' => Mods noB w b') [(0, true), (1, true), (2, true), (3, true), (4, true), (5, true), (6, true), (7, true), (8, true), (9, true), (10, false), (11, true), (12, true), (13, true), (14, true), (15, true), (16, true), (17, true), (18, true), (19, true), (20, true), (21, true), (22, true), (23, false), (24, true), (25, true)] [] [(0, 1, 131072), (0, 32, 262144), (3, 393216, 524288), (4, 524288, 1048576), (8, 1048576, 2097152), (0, 2, 4194304), (0, 32, 8388608), (96, 12582912, 16777216), (128, 16777216, 33554432), (256, 33554432, 67108864), (528, 69206016, 134217728), (1024, 134217728, 268435456), (3072, 268435456, 536870912), (4096, 536870913, 1073741824), (4096, 536870944, 2147483648), (28672, 3758096384, 4294967296), (36864, 4831838208, 8589934592), (69632, 9126805504, 17179869184), (4096, 536870914, 34359738368), (4096, 536870944, 68719476736), (790528, 103616086016, 137438953472), (1052672, 137975824384, 274877906944), (2101248, 275414777856, 549755813888), (4329472, 567472553984, 1099511627776), (8392704, 1100048498688, 2199023255552), (16781312, 2199560126464, 4398046511104)] (by kernel_rfl) (by kernel_rfl) (by kernel_rfl) (by kernel_rfl) (by kernel_rfl) MR.out ?_
 refine wpOrdT_frees [0, 1] [.slice (some ⟨a, oa, none⟩) n ca, .int .i64 ((i : Nat) : Int)] (rest := [(2, true), (3, true), (4, true), (5, true), (6, true), (7, true), (8, true), (9, true), (10, false), (11, true), (12, true), (13, true), (14, true), (15, true), (16, true), (17, true), (18, true), (19, true), (20, true), (21, true), (22, true), (23, false), (24, true), (25, true)]) (by kernel_rfl) (by kernel_rfl) (fun _ => by kernel_rfl) ?_
 refine wpOrdT_free (.pointer (some ⟨a, oa + i * 2, none⟩)) (some 19) ⟨by kernel_rfl, by kernel_rfl, by kernel_rfl⟩ (fun bb hb => run_idx (s := 2) (e := 152) (g := a) (off := oa) (n := n) (c := ca) (i := ((i : Nat) : Int)) (x := (.tmp 17)) (y := (.tmp 18)) (oa + i * 2) (by kernel_rfl) (by kernel_rfl) (by kernel_rfl) Tryz.underlying29 (by kernel_rfl) (by omega) (by omega) (by omega)) ?_
 refine wpOrdT_frees [3] [.pointer (some ⟨a, oa + i * 2, none⟩)] (rest := [(4, true), (5, true), (6, true), (7, true), (8, true), (9, true), (10, false), (11, true), (12, true), (13, true), (14, true), (15, true), (16, true), (17, true), (18, true), (19, true), (20, true), (21, true), (22, true), (23, false), (24, true), (25, true)]) (by kernel_rfl) (by kernel_rfl) (fun _ => by kernel_rfl) ?_
 refine wpOrdT_free (u) (some 21) ⟨by kernel_rfl, by kernel_rfl, by kernel_rfl⟩ (fun bb hb => of_load (x := (.tmp 20)) (by kernel_rfl) (by kernel_rfl) (load_c (Q1.out _ hb) Tryz.underlying91 rfl)) ?_
 refine wpOrdT_frees [5, 6] [.slice (some ⟨b, ob, none⟩) n cb, .int .i64 ((i : Nat) : Int)] (rest := [(7, true), (8, true), (9, true), (10, false), (11, true), (12, true), (13, true), (14, true), (15, true), (16, true), (17, true), (18, true), (19, true), (20, true), (21, true), (22, true), (23, false), (24, true), (25, true)]) (by kernel_rfl) (by kernel_rfl) (fun _ => by kernel_rfl) ?_
 refine wpOrdT_free (.pointer (some ⟨b, ob + i * 2, none⟩)) (some 24) ⟨by kernel_rfl, by kernel_rfl, by kernel_rfl⟩ (fun bb hb => run_idx (s := 2) (e := 152) (g := b) (off := ob) (n := n) (c := cb) (i := ((i : Nat) : Int)) (x := (.tmp 22)) (y := (.tmp 23)) (ob + i * 2) (by kernel_rfl) (by kernel_rfl) (by kernel_rfl) Tryz.underlying29 (by kernel_rfl) (by omega) (by omega) (by omega)) ?_
 refine wpOrdT_frees [8] [.pointer (some ⟨b, ob + i * 2, none⟩)] (rest := [(9, true), (10, false), (11, true), (12, true), (13, true), (14, true), (15, true), (16, true), (17, true), (18, true), (19, true), (20, true), (21, true), (22, true), (23, false), (24, true), (25, true)]) (by kernel_rfl) (by kernel_rfl) (fun _ => by kernel_rfl) ?_
 refine wpOrdT_free (v) (some 26) ⟨by kernel_rfl, by kernel_rfl, by kernel_rfl⟩ (fun bb hb => of_load (x := (.tmp 25)) (by kernel_rfl) (by kernel_rfl) (load_c (Q2.out _ hb) Tryz.underlying91 rfl)) ?_
 refine wpOrdT_call (some 27) ⟨by kernel_rfl, by kernel_rfl, by kernel_rfl⟩ (PBytes_true (HU.out.keep MR.out (fun _ _ x => x)) (HV.out.keep MR.out (fun _ _ x => x))) (fun _ => by kernel_rfl) ?_
 rintro r w7 ⟨rfl, q7⟩
 replace MR := Lib.hid (MR.out.then0 q7)
 refine ⟨_, rfl, fun _ => MR.out, ?_⟩
 refine wpOrdT_frees [11, 12, 13, 14] [.bool false, .bool false, .slice (some ⟨a, oa, none⟩) n ca, .int .i64 ((i : Nat) : Int)] (rest := [(15, true), (16, true), (17, true), (18, true), (19, true), (20, true), (21, true), (22, true), (23, false), (24, true), (25, true)]) (by kernel_rfl) (by kernel_rfl) (fun _ => by kernel_rfl) ?_
 refine wpOrdT_free (.pointer (some ⟨a, oa + i * 2, none⟩)) (some 32) ⟨by kernel_rfl, by kernel_rfl, by kernel_rfl⟩ (fun bb hb => run_idx (s := 2) (e := 152) (g := a) (off := oa) (n := n) (c := ca) (i := ((i : Nat) : Int)) (x := (.tmp 30)) (y := (.tmp 31)) (oa + i * 2) (by kernel_rfl) (by kernel_rfl) (by kernel_rfl) Tryz.underlying29 (by kernel_rfl) (by omega) (by omega) (by omega)) ?_
 refine wpOrdT_frees [16] [.pointer (some ⟨a, oa + i * 2 + 1, none⟩)] (rest := [(17, true), (18, true), (19, true), (20, true), (21, true), (22, true), (23, false), (24, true), (25, true)]) (by kernel_rfl) (by kernel_rfl) (fun _ => by kernel_rfl) ?_
 refine wpOrdT_free (x) (some 34) ⟨by kernel_rfl, by kernel_rfl, by kernel_rfl⟩ (fun bb hb => of_load (x := (.tmp 33)) (by kernel_rfl) (by kernel_rfl) (load_c (Q3.out _ hb) Tryz.underlying91 rfl)) ?_
 refine wpOrdT_frees [18, 19] [.slice (some ⟨b, ob, none⟩) n cb, .int .i64 ((i : Nat) : Int)] (rest := [(20, true), (21, true), (22, true), (23, false), (24, true), (25, true)]) (by kernel_rfl) (by kernel_rfl) (fun _ => by kernel_rfl) ?_
 refine wpOrdT_free (.pointer (some ⟨b, ob + i * 2, none⟩)) (some 37) ⟨by kernel_rfl, by kernel_rfl, by kernel_rfl⟩ (fun bb hb => run_idx (s := 2) (e := 152) (g := b) (off := ob) (n := n) (c := cb) (i := ((i : Nat) : Int)) (x := (.tmp 35)) (y := (.tmp 36)) (ob + i * 2) (by kernel_rfl) (by kernel_rfl) (by kernel_rfl) Tryz.underlying29 (by kernel_rfl) (by omega) (by omega) (by omega)) ?_
 refine wpOrdT_frees [21] [.pointer (some ⟨b, ob + i * 2 + 1, none⟩)] (rest := [(22, true), (23, false), (24, true), (25, true)]) (by kernel_rfl) (by kernel_rfl) (fun _ => by kernel_rfl) ?_
 refine wpOrdT_free (y) (some 39) ⟨by kernel_rfl, by kernel_rfl, by kernel_rfl⟩ (fun bb hb => of_load (x := (.tmp 38)) (by kernel_rfl) (by kernel_rfl) (load_c (Q4.out _ hb) Tryz.underlying91 rfl)) ?_
 refine wpOrdT_call (some 40) ⟨by kernel_rfl, by kernel_rfl, by kernel_rfl⟩ (PBytes_true (HX.out.keep MR.out (fun _ _ x => x)) (HY.out.keep MR.out (fun _ _ x => x))) (fun _ => by kernel_rfl) ?_
 rintro r w7 ⟨rfl, q7⟩
 replace MR := Lib.hid (MR.out.then0 q7)
 refine ⟨_, rfl, fun _ => MR.out, ?_⟩
 refine wpOrdT_frees [24, 25] [.bool false, .bool false] (rest := []) (by kernel_rfl) (by kernel_rfl) (fun _ => by kernel_rfl) ?_
 exact wpOrdT_doneC (act_is (K := Q .normal) (by kernel_rfl) (HQ.out (.slice (some ⟨a, oa, none⟩) n ca) (.int .i64 ((i : Nat) : Int)) (.pointer (some ⟨a, oa + i * 2, none⟩)) (.pointer (some ⟨a, oa + i * 2, none⟩)) (u) (.slice (some ⟨b, ob, none⟩) n cb) (.int .i64 ((i : Nat) : Int)) (.pointer (some ⟨b, ob + i * 2, none⟩)) (.pointer (some ⟨b, ob + i * 2, none⟩)) (v) (.bool true) (.bool false) (.bool false) (.slice (some ⟨a, oa, none⟩) n ca) (.int .i64 ((i : Nat) : Int)) (.pointer (some ⟨a, oa + i * 2, none⟩)) (.pointer (some ⟨a, oa + i * 2 + 1, none⟩)) (x) (.slice (some ⟨b, ob, none⟩) n cb) (.int .i64 ((i : Nat) : Int)) (.pointer (some ⟨b, ob + i * 2, none⟩)) (.pointer (some ⟨b, ob + i * 2 + 1, none⟩)) (y) (.bool true) (.bool false) _ MR.out))
set_option maxHeartbeats 2000000 in
theorem Pairs_true {w : World} {x y : Value} {L M : List EV} (hx : PRow w x L) (hy : PRow w y M) (h : L.map EV.ent = M.map EV.ent) (hn : L.length ≤ 1000000) :
  Calls Tryz.prog 19 #[x, y] w fun e w' => e = .returned (.bool true) ∧ Mods noB w w' := by
 obtain ⟨a, ca, rfl, ha⟩ := hx.at
 obtain ⟨b, cb, rfl, hb⟩ := hy.at
 have hl : M.length = L.length := by have := congrArg List.length h; simpa using this.symm
 obtain ⟨n, hL⟩ : ∃ n, L.length = n := ⟨_, rfl⟩
 have he : ∀ i (h1 : i < L.length) (h2 : i < M.length), (L[i]).k = (M[i]).k ∧ (L[i]).v = (M[i]).v := fun i h1 h2 => by
  have h3 : (L.map EV.ent)[i]'(by simpa using h1) = (M.map EV.ent)[i]'(by simpa using h2) := by simp only [h]
  rw [List.getElem_map, List.getElem_map] at h3
  exact ⟨congrArg Prod.fst h3, congrArg Prod.snd h3⟩
 have HX := Lib.hid hx
 have HY := Lib.hid hy
 have HE := Lib.hid he
 have HA := Lib.hid ha
 have HB := Lib.hid hb
 rw [hL] at hl hn
 rw [hL, hl]
 have HL := Lib.hid hL
 have HM := Lib.hid hl
 clear hx hy h hL hl he ha hb
 go_enter Tryz.func19, Tryz.ntmps19
 go_wp2
 go_loopw [5] (fun i wr => ∃ k : Nat, k ≤ n ∧ i = .int .i64 k ∧ Hid (Mods noB w wr)) (fun i _ => n - (intOf i).toNat)
 case atStart => exact ⟨0, Nat.zero_le _, rfl, Lib.hid (Mods.refl _ _)⟩
 case round =>
  obtain ⟨k, hk, rfl, hM⟩ := hrel
  by_cases hlt : k < n
  ·have lx : k < L.length := by rw [HL.out]; exact hlt
   have ly : k < M.length := by rw [HM.out]; exact hlt
   obtain ⟨ga, oa, rfl, h1, h2, h3⟩ := HA.out k lx
   obtain ⟨gb, ob, rfl, h4, h5, h6⟩ := HB.out k ly
   obtain ⟨e1, e2⟩ := HE.out k lx ly
   obtain ⟨p1, p2⟩ := (HX.out.keep0 hM.out).own _ (List.getElem_mem lx)
   obtain ⟨p3, p4⟩ := (HY.out.keep0 hM.out).own _ (List.getElem_mem ly)
   rw [← e1] at p3
   rw [← e2] at p4
   have c1 := (hM.out.cellAt h1 (fun x => x) _).trans h2
   have c3 := (hM.out.cellAt h1 (fun x => x) _).trans h3
   have c2 := (hM.out.cellAt h4 (fun x => x) _).trans h5
   have c4 := (hM.out.cellAt h4 (fun x => x) _).trans h6
   have s1 := hM.out.size
   have hki : (k : Int) < (n : Int) := by omega
   clear h2 h3 h5 h6
   go_upto_region 6 with fail
   refine wp_tl (d := .region 6 (opsC 6 Tryz.f19) true) (by kernel_rfl) ?_
   refine RW.wp (prs6 c1 c2 c3 c4 (by omega) (by omega) hlt (by omega) p1 p3 p2 p4 ?_)
   intros
   rename_i w2 m2
   have M2 := Lib.hid (hM.out.then0 m2)
   clear c1 c2 c3 c4 p1 p2 p3 p4 e1 e2 m2 hM
   go_wp2
   go_roundw
   case rel => exact ⟨k + 1, by omega, by go_num, M2⟩
   case measure => simp [intOf]; omega
  ·go_wp2
   go_ret
   exact ⟨rfl, hM.out⟩
theorem prow_one {w : World} {v : Value} {L : List EV} (h : PRow w v L) : ∀ e ∈ L, e.kv.oneCell' = true ∧ e.vv.oneCell' = true := fun e he => by
 obtain ⟨a1, c1, h1, _⟩ := (h.own e he).1.form
 obtain ⟨a2, c2, h2, _⟩ := (h.own e he).2.form
 exact ⟨by rw [h1]; rfl, by rw [h2]; rfl⟩
end Go.Proofs.YtglkmaalpammcaaGreat
namespace Go.Gl
theorem RdG.add0 {w : World} {s n c : Nat} {q : Option Addr} {xs : List Value} (h : RdG w s (.slice q n c) n xs) (hc : ¬ c = 0) (p : Addr) (hp : q = some p) : p.add 0 = p := by
 rcases h.2 with ⟨h0, rfl⟩ | ⟨g, off, cap, hv, h1, _⟩
 ·exact absurd h0.none.2 hc
 ·injection hv with e _ _
  rw [hp] at e
  cases e
  exact Addr.add_mid ..
section
variable {P : Program} {a : Act} {o : Oper}
theorem run_slcH {t e : TypeId} {x y : Operand} {q : Option Addr} {n c s : Nat} {i : Int} {b : World} (m : Nat) (ho : o.op = .slice t x none (some y) none) (hx : a.eval x = .slice q n c) (hy : a.eval y = .int .i64 i)
  (hu : P.underlying t = some (.slice e)) (hs : (P.info? e).map (·.size) = some s) (hm : i = m) (h1 : m ≤ c) {w : World} {s' : Nat} {xs : List Value} (hr : RdG w s' (.slice q n c) n xs) : (execOp a.eval o).run P b = .ok (.value (.slice q m c)) b := by
 subst hm
 have he : P.elem t = e := by simp [Program.elem, hu]
 have hu' : P.underlying t = some (.slice (P.elem t)) := by rw [he]; exact hu
 unfold execOp
 simp only [ho, Option.map_some, Option.map_none, hx, hy, Sem.run_bind]
 rw [run_sliceAt_slice (h := hu'), run_slice_h (ht := hu') (h0 := by omega) (h2 := by omega)]
 ·cases q with
  | none => simp [he, Go.Gl.run_sizeOf hs, sliced]
  | some q => simp [he, Go.Gl.run_sizeOf hs, sliced]; exact fun hc => hr.add0 hc q rfl
def lowAt (q : Option Addr) (m c s : Nat) : Option Addr := if c = m then q else q.map (fun p => p.add (m * s))
theorem run_slcL {t e : TypeId} {x y : Operand} {q : Option Addr} {n c s : Nat} {i : Int} {b : World} (m : Nat) (ho : o.op = .slice t x (some y) none none) (hx : a.eval x = .slice q n c) (hy : a.eval y = .int .i64 i)
  (hu : P.underlying t = some (.slice e)) (hs : (P.info? e).map (·.size) = some s) (hm : i = m) (h1 : m ≤ n) : (execOp a.eval o).run P b = .ok (.value (.slice (lowAt q m c s) (n - m) (c - m))) b := by
 subst hm
 have he : P.elem t = e := by simp [Program.elem, hu]
 have hu' : P.underlying t = some (.slice (P.elem t)) := by rw [he]; exact hu
 unfold execOp
 simp only [ho, Option.map_some, Option.map_none, hx, hy, Sem.run_bind]
 rw [run_sliceAt_slice (h := hu'), run_slice_l (ht := hu') (h0 := by omega) (h1 := by omega)]
 unfold lowAt
 ·by_cases hc : c = m
  ·cases q <;> simp [he, Go.Gl.run_sizeOf hs, sliced, hc]
  ·cases q <;> simp [he, Go.Gl.run_sizeOf hs, sliced, hc]
end
theorem RdG.cap {w : World} {s n c : Nat} {q : Option Addr} {xs : List Value} (h : RdG w s (.slice q n c) n xs) : n ≤ c := by
 rcases h.2 with ⟨h0, rfl⟩ | ⟨g, off, cap, hv, h1, _⟩
 ·omega
 ·injection hv with _ _ e; subst e; exact h1
theorem RdG.hi {w : World} {s n m c : Nat} {q : Option Addr} {xs : List Value} (h : RdG w s (.slice q n c) n xs) (hm : m ≤ n) : RdG w s (.slice q m c) m (xs.take (m * s)) := by
 have hl : (xs.take (m * s)).length = m * s := by rw [List.length_take, h.1]; exact Nat.min_eq_left (Nat.mul_le_mul_right _ hm)
 refine ⟨hl, ?_⟩
 rcases h.2 with ⟨h0, rfl⟩ | ⟨g, off, cap, hv, h1, h2, h3, h4⟩
 ·obtain rfl : m = 0 := by omega
  exact .inl ⟨h0, rfl⟩
 ·injection hv with e1 _ e3
  subst e1 e3
  refine .inr ⟨g, off, c, rfl, by omega, h2, ?_, fun j u hj => ?_⟩
  ·rcases h3 with h3 | h3
   ·exact .inl (by omega)
   ·exact .inr h3
  ·refine h4 j u ?_
   have hj' := (List.getElem?_eq_some_iff.1 hj).1
   rw [hl] at hj'
   rw [List.getElem?_take_of_lt hj'] at hj
   exact hj
theorem RdG.lo {w : World} {s n m c : Nat} {q : Option Addr} {xs : List Value} (h : RdG w s (.slice q n c) n xs) (hm : m ≤ n) : RdG w s (.slice (lowAt q m c s) (n - m) (c - m)) (n - m) (xs.drop (m * s)) := by
 have hl : (xs.drop (m * s)).length = (n - m) * s := by rw [List.length_drop, h.1, Nat.sub_mul]
 refine ⟨hl, ?_⟩
 rcases h.2 with ⟨h0, rfl⟩ | ⟨g, off, cap, hv, h1, h2, h3, h4⟩
 ·obtain rfl : m = 0 := by omega
  obtain ⟨a0, e0⟩ := h0.form
  injection e0 with e1 _ e3
  subst e1 e3
  unfold lowAt
  rw [if_pos rfl]
  exact .inl ⟨h0, by omega⟩
 ·injection hv with e1 _ e3
  subst e1 e3
  unfold lowAt
  by_cases hc : c = m
  ·rw [if_pos hc]
   refine .inr ⟨g, off, c - m, rfl, by omega, by omega, .inl (by omega), fun j u hj => ?_⟩
   have hj' := (List.getElem?_eq_some_iff.1 hj).1
   have h0 : n - m = 0 := by omega
   rw [hl, h0, Nat.zero_mul] at hj'
   omega
  ·rw [if_neg hc]
   refine .inr ⟨g, off + m * s, c - m, by rw [Option.map_some, Addr.add_lit], by omega, by omega, ?_, fun j u hj => ?_⟩
   ·rcases h3 with h3 | h3
    ·exact .inl (by omega)
    ·exact .inr h3
   ·rw [List.getElem?_drop] at hj
    have := h4 _ _ hj
    rwa [show off + m * s + j = off + (m * s + j) from by omega]
end Go.Gl

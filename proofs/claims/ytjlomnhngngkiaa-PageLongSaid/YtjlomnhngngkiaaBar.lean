/- A region that draws its order: operations that only read, one operation that everything before it is waited for by and everything behind it waits for, operations that only read. -/
import Derived.StillTail
import Derived.Deep.QuietTactic
import Derived.WalkKit
namespace Go.Gl
open Go.RowKit

section
variable {P : Program} {ops : Array Oper} {md : Region.Mode}

theorem wpAny_more {Q : Exit → Act → World → Prop} : ∀ (f : Nat) (listed : Array Bool) (a : Act) (w : World), wpAny P md ops Q f listed a w → wpAny P md ops Q (f + 1) listed a w
  | 0, listed, a, w, h => ⟨fun _ => h.2, fun i hi => by rw [h.1] at hi; cases hi⟩
  | f + 1, listed, a, w, h => ⟨h.1, fun i hi => wpOp_mono (fun a' w' h' => wpAny_more f _ a' w' h') (h.2 i hi)⟩
theorem wpAny_add {Q : Exit → Act → World → Prop} (g f : Nat) (listed : Array Bool) (a : Act) (w : World) (h : wpAny P md ops Q g listed a w) : wpAny P md ops Q (f + g) listed a w := by
  induction f with
  | zero => rw [Nat.zero_add]; exact h
  | succ f ih => rw [show f + 1 + g = (f + g) + 1 from by omega]; exact wpAny_more _ _ _ _ ih

/-- the first k operations have come up -/
def stK (N : Nat) : Nat → Array Bool
  | 0 => Array.replicate N false
  | k + 1 => (stK N k).setIfInBounds k true

theorem stK_size (N k : Nat) : (stK N k).size = N := by
  induction k with
  | zero => simp [stK]
  | succ k ih => simp [stK, ih]
theorem stK_get (N k j : Nat) (hj : j < N) : (stK N k)[j]? = some (decide (j < k)) := by
  induction k with
  | zero => simp [stK, hj]
  | succ k ih =>
    rw [stK]
    by_cases h : k = j
    · subst h
      rw [Array.getElem?_setIfInBounds_self_of_lt (by rw [stK_size]; exact hj)]
      simp
    · rw [Array.getElem?_setIfInBounds_ne h, ih]
      congr 1
      exact decide_eq_decide.2 (by omega)

/-- what lies behind n waits for it, by and by; the first n have their guards and edges before themselves -/
def afterB (md : Region.Mode) (ops : Array Oper) (n : Nat) : Bool :=
  (List.range ops.size).all fun t => decide (t ≤ n) || (List.range t).any fun j => decide (n ≤ j) && Region.waitsFor md ops t j
def backB (ops : Array Oper) : Bool :=
  (List.range ops.size).all fun i => match ops[i]? with
    | none => true
    | some o => o.after.all (fun e => decide (e.on < i)) && (match o.guard with | none => true | some (g, _) => decide (g < i))
def barB (md : Region.Mode) (l : List Oper) (n : Nat) : Bool :=
  decide (n < l.length) && Region.noSelect l.toArray && Region.sinkB md l.toArray n && afterB md l.toArray n && backB l.toArray &&
  Region.lexFrom md (l.take n).toArray n 0 (Array.replicate n false) && decide (Region.ready md l.toArray (stK l.length n) = [n]) && Region.lexFrom md l.toArray (l.length - (n + 1)) (n + 1) (stK l.length (n + 1))

theorem getD_of {L : Array Bool} {j : Nat} {b d : Bool} (h : L[j]? = some b) : L.getD j d = b := by
  simp [h]

/-- While one of the first n has not come up, none from n on may. -/
theorem no_tail {n : Nat} {L : Array Bool} (hs : Region.sinkB md ops n = true) (ha : afterB md ops n = true) (inv : HeadInv md ops n L) {i : Nat} (hi : i < n) (hn : n < ops.size) (hun : L.getD i true = false) : ∀ t, n ≤ t → t ∉ Region.ready md ops L := by
  intro t ht hr
  obtain ⟨_, ot, hot, hall⟩ := mem_ready.1 hr
  have htlt : t < ops.size := (Array.getElem?_eq_some_iff.1 hot).1
  by_cases htn : t = n
  · subst htn
    have key : ∀ (d k : Nat), t - k = d → k < t → L.getD k false = true := by
      intro d
      induction d using Nat.strongRecOn with
      | _ d ih =>
        intro k hd hk
        obtain ⟨j, hj, hj2⟩ := List.any_eq_true.1 (List.all_eq_true.1 hs k (List.mem_range.2 hk))
        simp only [Bool.and_eq_true, decide_eq_true_eq] at hj2
        obtain ⟨oj, hoj, e, he, hb, hon⟩ := Region.waitsFor_spec hj2.2
        have hjle := List.mem_range.1 hj
        by_cases hjt : j = t
        · subst hjt
          obtain rfl : oj = ot := Option.some.inj (hoj.symm.trans hot)
          have := hall e he hb
          rwa [hon] at this
        · have := inv.closed j oj hoj (ih (t - j) (by omega) j rfl (by omega)) e he hb
          rwa [hon] at this
    have := key _ i rfl hi
    have hil : i < L.size := by rw [inv.size]; omega
    simp [hil] at this hun
    rw [hun] at this
    cases this
  · have h1 := List.all_eq_true.1 ha t (List.mem_range.2 htlt)
    simp only [Bool.or_eq_true, decide_eq_true_eq] at h1
    obtain ⟨j, hj, hj2⟩ := List.any_eq_true.1 (h1.resolve_left (by omega))
    simp only [Bool.and_eq_true, decide_eq_true_eq] at hj2
    obtain ⟨oj, hoj, e, he, hb, hon⟩ := Region.waitsFor_spec hj2.2
    obtain rfl : oj = ot := Option.some.inj (hoj.symm.trans hot)
    have h2 := hall e he hb
    have hjt := List.mem_range.1 hj
    have h3 := inv.tail j hj2.1 (by omega)
    have hjl : j < L.size := by rw [inv.size]; omega
    rw [hon] at h2
    simp [hjl] at h2 h3
    rw [h3] at h2
    cases h2

theorem backB_spec (h : backB ops = true) {i : Nat} {o : Oper} (hi : ops[i]? = some o) : (∀ e ∈ o.after, e.on < i) ∧ ∀ g b, o.guard = some (g, b) → g < i := by
  have hlt : i < ops.size := (Array.getElem?_eq_some_iff.1 hi).1
  have h1 := List.all_eq_true.1 h i (List.mem_range.2 hlt)
  simp only [hi, Bool.and_eq_true] at h1
  refine ⟨fun e he => by simpa using Array.all_eq_true_iff_forall_mem.1 h1.1 e he, fun g b hg => ?_⟩
  have h2 := h1.2
  rw [hg] at h2
  simpa using h2

/-- The first n operations, as a region of their own. -/
structure Trunc (n : Nat) (opsT ops : Array Oper) (LT L : Array Bool) : Prop where
  ops : ∀ i, i < n → opsT[i]? = ops[i]?
  size : opsT.size = n
  lsz : LT.size = n
  get : ∀ i, i < n → LT[i]? = L[i]?

theorem Trunc.set {n i : Nat} {opsT ops : Array Oper} {LT L : Array Bool} (h : Trunc n opsT ops LT L) (hi : i < n) : Trunc n opsT ops (LT.setIfInBounds i true) (L.setIfInBounds i true) := by
  refine ⟨h.ops, h.size, by simpa using h.lsz, fun j hj => ?_⟩
  have hL : i < L.size := by
    have h1 := h.get i hi
    have h2 : i < LT.size := by rw [h.lsz]; exact hi
    rw [Array.getElem?_eq_getElem h2] at h1
    exact (Array.getElem?_eq_some_iff.1 h1.symm).1
  by_cases hij : i = j
  · subst hij
    rw [Array.getElem?_setIfInBounds_self_of_lt (by rw [h.lsz]; exact hi), Array.getElem?_setIfInBounds_self_of_lt hL]
  · rw [Array.getElem?_setIfInBounds_ne hij, Array.getElem?_setIfInBounds_ne hij]
    exact h.get j hj

theorem Trunc.ready {n : Nat} {opsT ops : Array Oper} {LT L : Array Bool} (h : Trunc n opsT ops LT L) (hb : backB ops = true) {i : Nat} (hi : i < n) : i ∈ Region.ready md opsT LT ↔ i ∈ Region.ready md ops L := by
  have g : ∀ j, j < n → ∀ d, LT.getD j d = L.getD j d := fun j hj d => by
    have h1 := h.get j hj
    have h2 : j < LT.size := by rw [h.lsz]; exact hj
    rw [Array.getElem?_eq_getElem h2] at h1
    have h3 := (Array.getElem?_eq_some_iff.1 h1.symm)
    obtain ⟨h4, h5⟩ := h3
    simp [h2, h4, h5]
  rw [mem_ready, mem_ready, g i hi, h.ops i hi]
  constructor
  · rintro ⟨h1, o, ho, h2⟩
    exact ⟨h1, o, ho, fun e he hbd => by rw [← g e.on (by have := (backB_spec hb ho).1 e he; omega)]; exact h2 e he hbd⟩
  · rintro ⟨h1, o, ho, h2⟩
    exact ⟨h1, o, ho, fun e he hbd => by rw [g e.on (by have := (backB_spec hb ho).1 e he; omega)]; exact h2 e he hbd⟩

theorem Trunc.wanted {n i : Nat} {opsT ops : Array Oper} {LT L : Array Bool} (h : Trunc n opsT ops LT L) (hb : backB ops = true) (hi : i < n) {o : Oper} (ho : ops[i]? = some o) (tm : Array Value) : Region.wanted o (yielded opsT tm) = Region.wanted o (yielded ops tm) := by
  unfold Region.wanted
  cases hg : o.guard with
  | none => rfl
  | some p =>
    obtain ⟨g, b⟩ := p
    have hgi := (backB_spec hb ho).2 g b hg
    simp only [yielded, h.ops g (by omega)]

/-- If none of the first n is ready, all have come up. -/
theorem Trunc.all {n : Nat} {opsT ops : Array Oper} {LT L : Array Bool} (h : Trunc n opsT ops LT L) (hb : backB ops = true) (hn : n ≤ ops.size) (hr : Region.ready md opsT LT = []) : ∀ i, i < n → LT.getD i false = true := by
  intro i
  induction i using Nat.strongRecOn with
  | _ i ih =>
    intro hi
    cases hl : LT.getD i false with
    | true => rfl
    | false =>
      have hsz : i < LT.size := by rw [h.lsz]; exact hi
      have hl' : LT.getD i true = false := by simp [hsz] at hl ⊢; exact hl
      have hlt : i < ops.size := by omega
      have ho : ops[i]? = some ops[i] := Array.getElem?_eq_getElem hlt
      have : i ∈ Region.ready md opsT LT := mem_ready.2 ⟨hl', ops[i], by rw [h.ops i hi, ho], fun e he _ => ih e.on ((backB_spec hb ho).1 e he) (by have := (backB_spec hb ho).1 e he; omega)⟩
      rw [hr] at this
      cases this

theorem head_any {n g : Nat} {opsT : Array Oper} {C : World → Prop} {G : Act → Prop} {Q : Exit → Act → World → Prop} (hs : Region.sinkB md ops n = true) (ha : afterB md ops n = true) (hb : backB ops = true) (hn : n < ops.size)
    (hG : ∀ a w, C w → G a → wpAny P md ops Q g (stK ops.size n) a w) :
    ∀ (f : Nat) (LT L : Array Bool) (a : Act) (w : World), Trunc n opsT ops LT L → HeadInv md ops n L → C w → wpAnyQ P md opsT C G f LT a → wpAny P md ops Q (f + g) L a w := by
  have done : ∀ (f : Nat) (LT L : Array Bool) (a : Act) (w : World), Trunc n opsT ops LT L → HeadInv md ops n L → C w → Region.ready md opsT LT = [] → G a → wpAny P md ops Q (f + g) L a w := by
    intro f LT L a w ht inv hC hr hg
    have hall := ht.all hb (Nat.le_of_lt hn) hr
    have e : L = stK ops.size n := by
      apply Array.ext_getElem?
      intro j
      by_cases hj : j < ops.size
      · rw [stK_get _ _ _ hj]
        by_cases hjn : j < n
        · have h1 := hall j hjn
          have h2 := ht.get j hjn
          have h3 : j < LT.size := by rw [ht.lsz]; exact hjn
          simp [h3] at h1
          rw [← h2, Array.getElem?_eq_getElem h3, h1]
          simp [hjn]
        · have h1 := inv.tail j (by omega) hj
          have h3 : j < L.size := by rw [inv.size]; exact hj
          simp [h3] at h1
          rw [Array.getElem?_eq_getElem h3, h1]
          simp [hjn]
      · rw [Array.getElem?_eq_none (by rw [inv.size]; omega), Array.getElem?_eq_none (by rw [stK_size]; omega)]
    subst e
    exact wpAny_add _ _ _ _ _ (hG a w hC hg)
  intro f
  induction f with
  | zero =>
    intro LT L a w ht inv hC h
    exact done 0 LT L a w ht inv hC h.1 h.2
  | succ f ih =>
    intro LT L a w ht inv hC h
    by_cases hr : Region.ready md opsT LT = []
    · exact done (f + 1) LT L a w ht inv hC hr (h.1 hr)
    · obtain ⟨i0, hi0⟩ := List.exists_mem_of_ne_nil _ hr
      have hi0n : i0 < n := by
        obtain ⟨_, o, ho, _⟩ := mem_ready.1 hi0
        have := (Array.getElem?_eq_some_iff.1 ho).1
        rw [ht.size] at this
        exact this
      have hi0r := (ht.ready (md := md) hb hi0n).1 hi0
      have hun := (mem_ready.1 hi0r).1
      rw [show f + 1 + g = (f + g) + 1 from by omega]
      refine ⟨fun h0 => (by rw [h0] at hi0r; cases hi0r), fun i hi => ?_⟩
      have hin : i < n := by
        rcases Nat.lt_or_ge i n with h1 | h1
        · exact h1
        · exact absurd hi (no_tail hs ha inv hi0n hn hun i h1)
      have h1 := h.2 i ((ht.ready (md := md) hb hin).2 hi)
      have ho : ops[i]? = some ops[i] := Array.getElem?_eq_getElem (by omega)
      have h2 : qOp P ops C i (wpAnyQ P md opsT C G f (LT.setIfInBounds i true)) a := by
        unfold qOp at h1 ⊢
        rw [ht.ops i hin, ho] at h1
        rw [ho]
        simp only [ht.wanted hb hin ho] at h1
        exact h1
      exact wpOp_of_qOp hC (fun a' w' hC' hK => ih _ _ a' w' (ht.set hin) (inv.set hi hin) hC' hK) h2

/-- What stands behind the one operation: K where it ends well. -/
def Bar (Q : Exit → Act → World → Prop) (K : Act → World → Prop) : Exit → Act → World → Prop
  | .normal, a, w => K a w
  | e, a, w => Q e a w

theorem wp_region_bar {id : Nat} {Q : Exit → Act → World → Prop} {a : Act} {w : World} {l : List Oper} (n : Nat) (hm : P.follows .mixedOrders = true) (hB : barB .any l n = true)
    (h : wpQuiet P (l.take n).toArray (fun w' => ∃ q, w' = w.drewN q) (fun a' => ∀ w', (∃ q, w' = w.drewN q) → wpOp P l.toArray Q n (fun a2 w2 =>
      wpQuiet P l.toArray (fun w' => ∃ q, w' = w2.drewN q) (fun a3 => ∀ w', (∃ q, w' = w2.drewN q) → Q .normal a3 w') (l.drop (n + 1)) a2) a' w') (l.take n) a) : (Code.region id l.toArray true).wp P Q a w := by
  simp only [barB, Bool.and_eq_true, decide_eq_true_eq] at hB
  obtain ⟨⟨⟨⟨⟨⟨⟨hn, hsel⟩, hs⟩, ha⟩, hb⟩, hl1⟩, hr⟩, hl2⟩ := hB
  refine wp_region_any hm ?_
  have hn' : n < l.toArray.size := by simpa using hn
  have htl : (l.take n).length = n := by simp; omega
  have hselT : Region.noSelect (l.take n).toArray = true := by
    unfold Region.noSelect at hsel ⊢
    rw [Array.all_eq_true_iff_forall_mem] at hsel ⊢
    intro o ho
    exact hsel o (by simpa using List.mem_of_mem_take (by simpa using ho))
  have H := wpAnyQ_lex (P := P) (md := .any) (C := fun w' => ∃ q, w' = w.drewN q) (ops := (l.take n).toArray) hselT (l.take n) 0 (Array.replicate n false) a (by simp) (by rw [htl]; exact hl1) h
  have T : Trunc n (l.take n).toArray l.toArray (Array.replicate n false) (Array.replicate l.toArray.size false) :=
    ⟨fun i hi => by simp [hi], by simpa using htl, by simp, fun i hi => by simp [hi, show i < l.length from by omega]⟩
  have inv0 : HeadInv .any l.toArray n (Array.replicate l.toArray.size false) :=
    ⟨by simp, fun j oj _ hl => (by rw [getD_replicate_false] at hl; cases hl), fun t _ ht => getD_in (by simpa using ht) (getD_replicate_false _ _)⟩
  have HH := head_any (P := P) (Q := Q) (g := l.length - n) hs ha hb hn' (fun a' w' hC hG => by
    rw [show l.length - n = (l.length - (n + 1)) + 1 from by omega]
    have hsz : l.toArray.size = l.length := by simp
    rw [hsz]
    refine ⟨fun h0 => (by rw [h0] at hr; cases hr), fun i hi => ?_⟩
    rw [hr] at hi
    obtain rfl : i = n := by simpa using hi
    refine wpOp_mono (fun a2 w2 h2 => ?_) (hG w' hC)
    have H2 := wpAnyQ_lex (P := P) (md := .any) (C := fun w' => ∃ q, w' = w2.drewN q) (ops := l.toArray) hsel (l.drop (i + 1)) (i + 1) (stK l.length (i + 1)) a2 (fun j => by simp [List.getElem?_drop]) (by rw [List.length_drop]; exact hl2) h2
    rw [List.length_drop] at H2
    exact wpAny_of_quiet (fun a3 w3 hw3 hq => hq w3 hw3) _ _ a2 w2 ⟨0, rfl⟩ H2)
    (l.take n).length (Array.replicate n false) (Array.replicate l.toArray.size false) a { w with drawn := w.drawn + 1 } T inv0 ⟨1, rfl⟩ H
  rw [htl, show n + (l.length - n) = l.toArray.size from by simp; omega] at HH
  exact HH

theorem upon_bar {o : Oper} {a : Act} {Q : Exit → Act → World → Prop} {K : Act → World → Prop} (r : Result Next) (h : o.upon P a (fun a w => Bar Q K .normal a w) (Bar Q K) r) : o.upon P a K Q r := by
  cases r with
  | ok n w' => cases n <;> exact h
  | halt x w' => cases x <;> exact h

/-- The one operation, walked. -/
theorem wpOp_bar {Q : Exit → Act → World → Prop} {K : Act → World → Prop} {n : Nat} {o : Oper} {a : Act} {w : World} (hi : ops[n]? = some o) (h : wpList P ops (Bar Q K) [o] a w) : wpOp P ops Q n K a w := by
  unfold wpOp
  rw [hi]
  simp only [wpList] at h ⊢
  split at h
  · rename_i hw
    rw [if_pos hw]
    exact h.imp (fun h1 => upon_bar _ h1) id
  · rename_i hw
    rw [if_neg hw]
    exact h

theorem bar_normal {Q : Exit → Act → World → Prop} {K : Act → World → Prop} {a : Act} {w : World} (h : K a w) : Bar Q K .normal a w := h

end
end Go.Gl

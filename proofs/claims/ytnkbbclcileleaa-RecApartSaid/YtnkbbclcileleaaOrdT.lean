/- A drawn region told in one order, in two stages: while nothing of the tail T has come up the world meets S; every operation that is taken first is waited for by all of T. -/
import Derived.Test.YtnkbbclcileleaaOrd
import Derived.Deep.MidRow
namespace Go.Gl
open Go.RowKit
set_option linter.unusedVariables false

section
variable {P : Program} {ops : Array Oper} {Q : Exit → Act → World → Prop} {S : World → Prop} {md : Region.Mode} {T : List Nat}

/-- k waits for i, by and by -/
def reach (md : Region.Mode) (ops : Array Oper) (i : Nat) : Nat → Nat → Bool
  | 0, _ => false
  | f + 1, k => match ops[k]? with
    | some o => o.after.any (fun e => Region.binds md e && (e.on == i || reach md ops i f e.on))
    | none => false

def ClosedL (md : Region.Mode) (ops : Array Oper) (L : Array Bool) : Prop := ∀ j oj, ops[j]? = some oj → L.getD j false = true → ∀ e ∈ oj.after, Region.binds md e = true → L.getD e.on false = true

theorem ClosedL.set {L : Array Bool} {j : Nat} (h : ClosedL md ops L) (hj : j ∈ Region.ready md ops L) : ClosedL md ops (L.setIfInBounds j true) := by
  intro k ok hk hl e he hb
  by_cases hjk : j = k
  · subst hjk
    obtain ⟨_, o, ho, hall⟩ := mem_ready.1 hj
    obtain rfl : o = ok := Option.some.inj (ho.symm.trans hk)
    exact getD_set_true (hall e he hb)
  · rw [getD_set_ne false hjk] at hl
    exact getD_set_true (h k ok hk hl e he hb)

theorem reach_spec {L : Array Bool} (h : ClosedL md ops L) {i : Nat} : ∀ (f k : Nat), reach md ops i f k = true → (∀ ok, ops[k]? = some ok → ∀ e ∈ ok.after, Region.binds md e = true → L.getD e.on false = true) → L.getD i false = true := by
  intro f
  induction f with
  | zero => intro k hr; simp [reach] at hr
  | succ f ih =>
    intro k hr hk
    simp only [reach] at hr
    cases ho : ops[k]? with
    | none => simp [ho] at hr
    | some o =>
      simp only [ho] at hr
      obtain ⟨e, he, hb⟩ := Array.any_eq_true'.1 hr
      simp only [Bool.and_eq_true, Bool.or_eq_true, beq_iff_eq] at hb
      have hl := hk o ho e he hb.1
      rcases hb.2 with h1 | h1
      · rw [← h1]; exact hl
      · exact ih e.on h1 (fun ok hok e' he' hb' => h e.on ok hok hl e' he' hb')

/-- nothing of T has come up -/
def none0 (T : List Nat) (L : Array Bool) : Bool := T.all (fun t => !L.getD t false)
def ST (T : List Nat) (S : World → Prop) (L : Array Bool) (w : World) : Prop := none0 T L = true → S w

theorem none0_of {L : Array Bool} (h : ClosedL md ops L) {i f : Nat} (hi : L.getD i false = false) (hT : T.all (fun t => reach md ops i f t) = true) : none0 T L = true := by
  unfold none0
  rw [List.all_eq_true] at hT ⊢
  intro t ht
  cases hl : L.getD t false with
  | false => rfl
  | true =>
    have := reach_spec h f t (hT t ht) (fun ok hok e he hb => h t ok hok hl e he hb)
    rw [hi] at this
    cases this

theorem not_tail {L : Array Bool} (h : ClosedL md ops L) {i f j : Nat} (hi : L.getD i false = false) (hT : T.all (fun t => reach md ops i f t) = true) (hj : j ∈ Region.ready md ops L) : j ∉ T := by
  intro ht
  obtain ⟨_, o, ho, hall⟩ := mem_ready.1 hj
  have := reach_spec h f j (List.all_eq_true.1 hT j ht) (fun ok hok e he hb => by
    obtain rfl : o = ok := Option.some.inj (ho.symm.trans hok)
    exact hall e he hb)
  rw [hi] at this
  cases this

theorem none0_set {L : Array Bool} {j : Nat} (hj : j ∉ T) : none0 T (L.setIfInBounds j true) = none0 T L := by
  unfold none0
  rw [Bool.eq_iff_iff, List.all_eq_true, List.all_eq_true]
  constructor
  · intro h t ht
    have := h t ht
    rwa [getD_set_ne false (fun e => by subst e; exact hj ht)] at this
  · intro h t ht
    have := h t ht
    rwa [getD_set_ne false (fun e => by subst e; exact hj ht)]

def wpAnyT (P : Program) (md : Region.Mode) (ops : Array Oper) (Q : Exit → Act → World → Prop) (T : List Nat) (S : World → Prop) : Nat → Array Bool → Act → World → Prop
  | 0, listed, a, w => Region.ready md ops listed = [] ∧ Q .normal a w
  | fuel + 1, listed, a, w =>
    (Region.ready md ops listed = [] → Q .normal a w) ∧
    ∀ i ∈ Region.ready md ops listed, wpOp P ops Q i (fun a' w' => ST T S (listed.setIfInBounds i true) w' ∧ wpAnyT P md ops Q T S fuel (listed.setIfInBounds i true) a' w') a w

theorem wpAny_of_T : ∀ (fuel : Nat) (listed : Array Bool) (a : Act) (w : World), wpAnyT P md ops Q T S fuel listed a w → wpAny P md ops Q fuel listed a w
  | 0, _, _, _, h => h
  | fuel + 1, _, _, _, h => ⟨h.1, fun i hi => wpOp_mono (fun a' w' h' => wpAny_of_T fuel _ a' w' h'.2) (h.2 i hi)⟩

theorem getD_false_of {L : Array Bool} {i : Nat} (h : L.getD i true = false) : L.getD i false = false := by
  rcases Nat.lt_or_ge i L.size with h' | h'
  · simp [h'] at h ⊢; exact h
  · simp [Array.getElem?_eq_none h'] at h

theorem wpAnyT_first {i f : Nat} {oi : Oper} {v : Value} (hi : ops[i]? = some oi) (hiT : i ∉ T) (hT : T.all (fun t => reach md ops i f t) = true) (hsel : ∀ (j : Nat) (o : Oper) cs b, ops[j]? = some o → o.op ≠ .select cs b)
    (hQ : ∀ c a w, Q (.panic c) (a.put oi.dst v) w → Q (.panic c) a w) :
    ∀ (fuel : Nat) (listed : Array Bool) (a : Act) (w : World),
      (∀ j oj, ops[j]? = some oj → j ≠ i → listed.getD j true = false → (∀ e ∈ oj.after, Region.binds md e = true → e.on ≠ i) → oi.apart ops oj = true) →
      i ∈ Region.ready md ops listed → ClosedL md ops listed → YieldsIf P ops S oi v a → ST T S listed w →
      wpAnyT P md ops Q T S fuel (listed.setIfInBounds i true) (a.put oi.dst v) w → wpAnyT P md ops Q T S (fuel + 1) listed a w := by
  intro fuel
  induction fuel with
  | zero =>
    intro listed a w _ hr hcl hy hS H
    have hun := getD_false_of (mem_ready.1 hr).1
    have hSw := hS (none0_of hcl hun hT)
    refine ⟨fun h => (by rw [h] at hr; cases hr), fun j hj => ?_⟩
    by_cases hji : j = i
    · subst hji; exact hy.wpOp hi hSw ⟨fun _ => hSw, H⟩
    · have := ready_mono hj hji
      rw [H.1] at this
      cases this
  | succ fuel ih =>
    intro listed a w hfree hr hcl hy hS H
    have hun := getD_false_of (mem_ready.1 hr).1
    have hSw := hS (none0_of hcl hun hT)
    refine ⟨fun h => (by rw [h] at hr; cases hr), fun j hj => ?_⟩
    by_cases hji : j = i
    · subst hji; exact hy.wpOp hi hSw ⟨fun _ => hSw, H⟩
    · have h1 := H.2 j (ready_mono hj hji)
      obtain ⟨hjun, oj, hoj, hall⟩ := mem_ready.1 hj
      have hnot : ∀ e ∈ oj.after, Region.binds md e = true → e.on ≠ i := fun e he hb heq => by
        have h1 := hall e he hb
        have h0 := (mem_ready.1 hr).1
        rw [heq] at h1
        rcases Nat.lt_or_ge i listed.size with h' | h'
        · simp [h'] at h0 h1; rw [h0] at h1; cases h1
        · simp [Array.getElem?_eq_none h'] at h1
      have h2 := wpOp_putIf hoj (hfree j oj hoj hji hjun hnot) (fun cs b => hsel i oi cs b hi) (fun cs b => hsel j oj cs b hoj) hQ hy h1
      have hfree' : ∀ k ok, ops[k]? = some ok → k ≠ i → (listed.setIfInBounds j true).getD k true = false →
          (∀ e ∈ ok.after, Region.binds md e = true → e.on ≠ i) → oi.apart ops ok = true := fun k ok hk hki hun hno => by
        refine hfree k ok hk hki ?_ hno
        by_cases hjk : j = k
        · subst hjk; exact hjun
        · rw [getD_set_ne true hjk] at hun; exact hun
      have hjT := not_tail hcl hun hT hj
      have hn0 := none0_of (T := T) hcl hun hT
      refine wpOp_mono (fun a' w' h3 => ?_) h2
      have hS' : S w' := h3.2.1 (by rw [none0_set hjT, none0_set hiT]; exact hn0)
      refine ⟨fun _ => hS', ih (listed.setIfInBounds j true) a' w' hfree' (ready_mono hr (Ne.symm hji)) (hcl.set hj) h3.1 (fun _ => hS') ?_⟩
      rw [Array.setIfInBounds_comm _ _ hji]
      exact h3.2.2

def ordOkT (md : Region.Mode) (ops : Array Oper) (T : List Nat) : List (Nat × Bool) → Array Bool → Bool
  | [], listed => (Region.ready md ops listed).isEmpty
  | (i, b) :: l, listed => (if b then Region.free md ops listed i && (Region.ready md ops listed).contains i && !T.contains i && T.all (fun t => reach md ops i 8 t) else (Region.ready md ops listed) == [i]) && ordOkT md ops T l (listed.setIfInBounds i true)

def wpOrd0 (P : Program) (ops : Array Oper) (Q : Exit → Act → World → Prop) (T : List Nat) (S : World → Prop) : List (Nat × Bool) → Act → World → Prop
  | [], a, w => Q .normal a w
  | (i, true) :: l, a, w => ∃ o v, ops[i]? = some o ∧ YieldsIf P ops S o v a ∧ wpOrd0 P ops Q T S l (a.put o.dst v) w
  | (i, false) :: l, a, w => wpOp P ops Q i (fun a' w' => (T.contains i = false → S w') ∧ wpOrd0 P ops Q T S l a' w') a w

theorem wpOrd0_sound (hs : Region.noSelect ops = true) (hQ : ∀ c a d v w, Q (.panic c) (Act.put a d v) w → Q (.panic c) a w) (l : List (Nat × Bool)) :
    ∀ (listed : Array Bool) (a : Act) (w : World), ordOkT md ops T l listed = true → ClosedL md ops listed → listed.size = ops.size → ST T S listed w → wpOrd0 P ops Q T S l a w → wpAnyT P md ops Q T S l.length listed a w := by
  induction l with
  | nil =>
    intro listed a w h _ _ _ hw
    simp only [ordOkT, List.isEmpty_iff] at h
    exact ⟨h, hw⟩
  | cons x l ih =>
    obtain ⟨i, b⟩ := x
    intro listed a w h hcl hsz hS hw
    simp only [ordOkT, Bool.and_eq_true] at h
    rcases b with _ | _
    · simp only [Bool.false_eq_true, if_false] at h
      have hr := eq_of_beq h.1
      refine ⟨fun h0 => (by rw [h0] at hr; cases hr), fun j hj => ?_⟩
      rw [hr] at hj
      obtain rfl := List.mem_singleton.1 hj
      have hjr : j ∈ Region.ready md ops listed := by rw [hr]; exact List.mem_singleton.2 rfl
      refine wpOp_mono (fun a' w' h' => ?_) hw
      have hS' : ST T S (listed.setIfInBounds j true) w' := by
        intro hn
        refine h'.1 ?_
        cases ht : T.contains j with
        | false => rfl
        | true =>
          have hm := List.all_eq_true.1 hn j (by simpa using ht)
          have hlt : j < listed.size := by
            obtain ⟨_, o, ho, _⟩ := mem_ready.1 hjr
            rw [hsz]
            exact (Array.getElem?_eq_some_iff.1 ho).1
          simp [hlt] at hm
      exact ⟨hS', ih _ _ _ h.2 (hcl.set hjr) (by simpa using hsz) hS' h'.2⟩
    · simp only [if_true, Bool.and_eq_true, Bool.not_eq_true'] at h
      obtain ⟨o, v, ho, hy, hr⟩ := hw
      have hir : i ∈ Region.ready md ops listed := by simpa using h.1.1.1.2
      have hiT : i ∉ T := by simpa using h.1.1.2
      refine wpAnyT_first ho hiT h.1.2 (Region.noSelect_spec hs) (fun c a w => hQ c a _ _ w) _ _ _ _ (Region.free_spec ho h.1.1.1.1) hir hcl hy hS ?_
      exact ih _ _ _ h.2 (hcl.set hir) (by simpa using hsz) (fun hn => hS (by rwa [none0_set hiT] at hn)) hr

/-- closed: no tactic looks into it -/
structure wpOrdT (P : Program) (ops : Array Oper) (Q : Exit → Act → World → Prop) (T : List Nat) (S : World → Prop) (l : List (Nat × Bool)) (a : Act) (w : World) : Prop where
  out : wpOrd0 P ops Q T S l a w

/-- the beginning -/
theorem wp_region_ordT {id : Nat} {a : Act} {w : World} (l : List (Nat × Bool)) (T : List Nat) (S : World → Prop) (hm : P.follows .mixedOrders = true) (hs : Region.noSelect ops = true) (hl : l.length = ops.size)
    (ok : ordOkT .any ops T l (Array.replicate ops.size false) = true) (hS : S w.drew) (h : wpOrdT P ops (NoPanic Q) T S l a w.drew) : (Code.region id ops true).wp P Q a w := by
  refine wp_region_noPanic (wp_region_any hm (wpAny_of_T (T := T) (S := S) _ _ _ _ ?_))
  rw [← hl]
  rw [← hl] at ok
  refine wpOrd0_sound hs NoPanic.dead l _ _ _ ok ?_ (by simpa using hl) (fun _ => hS) h.out
  intro j oj _ hl
  simp at hl
  exact absurd hl (by
    rcases Nat.lt_or_ge j l.length with h' | h'
    · simp [h']
    · simp [h'])

theorem wpOrdT_done {a : Act} {w : World} {Q : Exit → Act → World → Prop} (h : Q .normal a w) : wpOrdT P ops (NoPanic Q) T S [] a w := ⟨h⟩

theorem wpOrdT_doneL {a : Act} {w : World} (h : Q .normal a w) : wpOrdT P ops Q T S [] a w := ⟨h⟩

theorem wpOrdT_act {l : List (Nat × Bool)} {a : Act} {w : World} (b : Act) (e : a = b) (h : wpOrdT P ops Q T S l b w) : wpOrdT P ops Q T S l a w := e ▸ h

theorem wpOrdT_free {i : Nat} {l : List (Nat × Bool)} {a : Act} {w : World} (v : Value) (d : Option Tmp) (h : OpIs ops i a d true)
    (hv : ∀ b, S b → (execOp a.eval (opN ops i)).run P b = .ok (.value v) b) (hr : wpOrdT P ops Q T S l (a.put d v) w) : wpOrdT P ops Q T S ((i, true) :: l) a w := by
  obtain ⟨h1, rfl, h2⟩ := h
  exact ⟨_, v, opN_get h1, .inl ⟨h2, hv⟩, hr.out⟩
theorem wpOrdT_load {i : Nat} {l : List (Nat × Bool)} {a : Act} {w : World} {p v : Value} {ty : TypeId} (x : Operand) (d : Option Tmp) (h : OpIs ops i a d true)
    (hv : ∀ b, S b → (Instr.loadAt ty p).run P b = .ok v b) (hx : (opN ops i).op = .load ty x) (hp : a.eval x = p) (hr : wpOrdT P ops Q T S l (a.put d v) w) : wpOrdT P ops Q T S ((i, true) :: l) a w := by
  refine wpOrdT_free v d h (fun b hb => ?_) hr
  unfold execOp
  simp only [hx, hp, Sem.run_bind, hv b hb, Sem.run_pure, Result.andThen_ok]
theorem wpOrdT_not {i : Nat} {l : List (Nat × Bool)} {a : Act} {w : World} (d : Option Tmp) (h : OpIs ops i a d false)
    (hr : wpOrdT P ops Q T S l (a.put d undef) w) : wpOrdT P ops Q T S ((i, true) :: l) a w := by
  obtain ⟨h1, rfl, h2⟩ := h
  exact ⟨_, undef, opN_get h1, .inr ⟨h2, rfl⟩, hr.out⟩
theorem wpOrdT_notB {i : Nat} {l : List (Nat × Bool)} {a : Act} {w : World} (d : Option Tmp) (h : OpIs ops i a d false) (hS : T.contains i = false → S w)
    (hr : wpOrdT P ops Q T S l (a.put d undef) w) : wpOrdT P ops Q T S ((i, false) :: l) a w := by
  obtain ⟨h1, rfl, h2⟩ := h
  constructor
  unfold wpOrd0 wpOp
  simp only [opN_get h1, h2, Bool.false_eq_true, if_false]
  exact ⟨hS, hr.out⟩
theorem wpOrdT_call {i : Nat} {l : List (Nat × Bool)} {a : Act} {w : World} {n : FuncId} {vs : Array Value} {R : Ending → World → Prop} (d : Option Tmp) (h : OpIs ops i a d true)
    (hc : Calls P n vs w R) (hx : ∀ b, (execOp a.eval (opN ops i)).run P b = .ok (.enter n vs) b) (hr : ∀ r w', R r w' → ∃ v, r = .returned v ∧ (T.contains i = false → S w') ∧ wpOrdT P ops Q T S l (a.put d v) w') : wpOrdT P ops Q T S ((i, false) :: l) a w := by
  obtain ⟨h1, rfl, h2⟩ := h
  constructor
  unfold wpOrd0 wpOp
  simp only [opN_get h1, h2, if_true]
  refine .inl ?_
  unfold Oper.wp
  rw [hx w, Oper.upon_enter]
  refine hc.mono (fun r w' hr' => ?_)
  obtain ⟨v, rfl, k1, k2⟩ := hr r w' hr'
  exact ⟨k1, k2.out⟩
theorem wpOrdT_run {i : Nat} {l : List (Nat × Bool)} {a : Act} {w : World} (v : Value) (w' : World) (d : Option Tmp) (h : OpIs ops i a d true)
    (hx : (execOp a.eval (opN ops i)).run P w = .ok (.value v) w') (hS : T.contains i = false → S w') (hr : wpOrdT P ops Q T S l (a.put d v) w') : wpOrdT P ops Q T S ((i, false) :: l) a w := by
  obtain ⟨h1, rfl, h2⟩ := h
  constructor
  unfold wpOrd0 wpOp
  simp only [opN_get h1, h2, if_true]
  refine .inl ?_
  unfold Oper.wp
  rw [hx, Oper.upon_value]
  exact ⟨hS, hr.out⟩
theorem wpOrdT_loadB {i : Nat} {l : List (Nat × Bool)} {a : Act} {w : World} {p v : Value} {ty : TypeId} (x : Operand) (d : Option Tmp) (h : OpIs ops i a d true)
    (hv : (Instr.loadAt ty p).run P w = .ok v w) (hx : (opN ops i).op = .load ty x) (hp : a.eval x = p) (hS : T.contains i = false → S w) (hr : wpOrdT P ops Q T S l (a.put d v) w) : wpOrdT P ops Q T S ((i, false) :: l) a w := by
  refine wpOrdT_run v w d h ?_ hS hr
  unfold execOp
  simp only [hx, hp, Sem.run_bind, hv, Sem.run_pure, Result.andThen_ok]

theorem wpOrdT_skip {i : Nat} {l : List (Nat × Bool)} {a : Act} {w : World} (w' : World) (d : Option Tmp) (h : OpIs ops i a d true)
    (hx : (execOp a.eval (opN ops i)).run P w = .ok .skip w') (hS : T.contains i = false → S w') (hr : wpOrdT P ops Q T S l (a.put d undef) w') : wpOrdT P ops Q T S ((i, false) :: l) a w := by
  obtain ⟨h1, rfl, h2⟩ := h
  constructor
  unfold wpOrd0 wpOp
  simp only [opN_get h1, h2, if_true]
  refine .inl ?_
  unfold Oper.wp
  rw [hx]
  simp only [Oper.upon]
  exact ⟨hS, hr.out⟩
/-- operations that look into no memory, many at once, run by the kernel -/
def stepR (P : Program) (ops : Array Oper) (i : Nat) (a : Act) (b : World) : Result Next :=
  if Region.wanted (opN ops i) (yielded ops a.tmps) then (execOp a.eval (opN ops i)).run P b else .ok (.value undef) b
def freesR (P : Program) (ops : Array Oper) : List Nat → List Value → Act → World → List (Result Next)
  | i :: l, v :: vs, a, b => stepR P ops i a b :: freesR P ops l vs (a.put (opN ops i).dst v) b
  | _, _, _, _ => []
def putsR (ops : Array Oper) : List Nat → List Value → Act → Act
  | i :: l, v :: vs, a => putsR ops l vs (a.put (opN ops i).dst v)
  | _, _, a => a
theorem wpOrdT_frees (l : List Nat) (vs : List Value) {L rest : List (Nat × Bool)} {a : Act} {w : World} (hL : L = l.map (fun i => (i, true)) ++ rest) (hlen : (l.all (fun i => decide (i < ops.size)) && decide (l.length = vs.length)) = true)
    (hv : ∀ b, freesR P ops l vs a b = vs.map (fun v => .ok (.value v) b)) (hr : wpOrdT P ops Q T S rest (putsR ops l vs a) w) : wpOrdT P ops Q T S L a w := by
  subst hL
  induction l generalizing vs a with
  | nil =>
    cases vs with
    | nil => exact hr
    | cons v vs => simp at hlen
  | cons i l ih =>
    cases vs with
    | nil => simp at hlen
    | cons v vs =>
      simp only [List.all_cons, List.length_cons, Bool.and_eq_true, decide_eq_true_eq] at hlen
      have hh : ∀ b, stepR P ops i a b = .ok (.value v) b := fun b => by
        have := hv b
        simp only [freesR, List.map_cons, List.cons.injEq] at this
        exact this.1
      refine ⟨opN ops i, v, opN_get (decide_eq_true hlen.1.1), ?_, (ih vs (by simp only [Bool.and_eq_true, decide_eq_true_eq]; exact ⟨hlen.1.2, by omega⟩) (fun b => by
        have := hv b
        simp only [freesR, List.map_cons, List.cons.injEq] at this
        exact this.2) hr).out⟩
      unfold stepR at hh
      by_cases hw : Region.wanted (opN ops i) (yielded ops a.tmps) = true
      · simp only [hw, if_true] at hh
        exact .inl ⟨hw, fun b _ => hh b⟩
      · rw [Bool.not_eq_true] at hw
        simp only [hw, Bool.false_eq_true, if_false] at hh
        exact .inr ⟨hw, by have := hh (default); simpa using this.symm⟩
/-- .. the rest told by a drop -/
theorem wpOrdT_freesD (l : List Nat) (vs : List Value) {L : List (Nat × Bool)} {a : Act} {w : World} (hL : L.take l.length = l.map (fun i => (i, true))) (hlen : (l.all (fun i => decide (i < ops.size)) && decide (l.length = vs.length)) = true)
    (hv : ∀ b, freesR P ops l vs a b = vs.map (fun v => .ok (.value v) b)) (hr : wpOrdT P ops Q T S (L.drop l.length) (putsR ops l vs a) w) : wpOrdT P ops Q T S L a w :=
  wpOrdT_frees l vs (by rw [← hL, List.take_append_drop]) hlen hv hr
theorem wpOrdT_freesB (l : List Nat) (vs : List Value) {L rest : List (Nat × Bool)} {a : Act} {w : World} (hL : L = l.map (fun i => (i, false)) ++ rest) (hlen : (l.all (fun i => decide (i < ops.size)) && decide (l.length = vs.length)) = true)
    (hv : freesR P ops l vs a w = vs.map (fun v => .ok (.value v) w)) (hS : l.all (fun i => T.contains i) = true ∨ S w) (hr : wpOrdT P ops Q T S rest (putsR ops l vs a) w) : wpOrdT P ops Q T S L a w := by
  subst hL
  induction l generalizing vs a with
  | nil =>
    cases vs with
    | nil => exact hr
    | cons v vs => simp at hlen
  | cons i l ih =>
    cases vs with
    | nil => simp at hlen
    | cons v vs =>
      simp only [List.all_cons, List.length_cons, Bool.and_eq_true, decide_eq_true_eq] at hlen
      simp only [freesR, List.map_cons, List.cons.injEq] at hv
      have hS1 : T.contains i = false → S w := fun hf => by
        rcases hS with hS | hS
        · simp only [List.all_cons, Bool.and_eq_true] at hS
          rw [hf] at hS
          exact absurd hS.1 (by decide)
        · exact hS
      have hS2 : l.all (fun i => T.contains i) = true ∨ S w := hS.imp (fun h => by simp only [List.all_cons, Bool.and_eq_true] at h; exact h.2) id
      have hi := ih vs (by simp only [Bool.and_eq_true, decide_eq_true_eq]; exact ⟨hlen.1.2, by omega⟩) hv.2 hS2 hr
      have h1 := hv.1
      unfold stepR at h1
      by_cases hw : Region.wanted (opN ops i) (yielded ops a.tmps) = true
      · simp only [hw, if_true] at h1
        exact wpOrdT_run v w _ ⟨decide_eq_true hlen.1.1, rfl, hw⟩ h1 hS1 hi
      · rw [Bool.not_eq_true] at hw
        simp only [hw, Bool.false_eq_true, if_false] at h1
        have e : v = undef := by simpa using h1.symm
        subst e
        exact wpOrdT_notB _ ⟨decide_eq_true hlen.1.1, rfl, hw⟩ hS1 hi
theorem wpOrdT_freesBD (l : List Nat) (vs : List Value) {L : List (Nat × Bool)} {a : Act} {w : World} (hL : L.take l.length = l.map (fun i => (i, false))) (hlen : (l.all (fun i => decide (i < ops.size)) && decide (l.length = vs.length)) = true)
    (hv : freesR P ops l vs a w = vs.map (fun v => .ok (.value v) w)) (hS : l.all (fun i => T.contains i) = true ∨ S w) (hr : wpOrdT P ops Q T S (L.drop l.length) (putsR ops l vs a) w) : wpOrdT P ops Q T S L a w :=
  wpOrdT_freesB l vs (by rw [← hL, List.take_append_drop]) hlen hv hS hr
/-- a comparison, or arithmetic -/
theorem wpOrdT_bin {i : Nat} {l : List (Nat × Bool)} {a : Act} {w : World} {xv yv : Value} (bo : BinOp) (t : TypeId) (x y : Operand) (t' : TypeId) (v : Value) (d : Option Tmp) (h : OpIs ops i a d true)
    (ho : (opN ops i).op = .binOp bo t x y t') (hx : a.eval x = xv) (hy : a.eval y = yv) (hg : ∀ b, (eqGuard bo t x y xv yv).run P b = .ok () b) (hv : ∀ b, (binOp bo t xv yv).run P b = .ok v b)
    (hr : wpOrdT P ops Q T S l (a.put d v) w) : wpOrdT P ops Q T S ((i, true) :: l) a w := by
  refine wpOrdT_free v d h (fun b _ => ?_) hr
  unfold execOp
  simp only [ho, hx, hy, Sem.run_bind, hg, hv, Sem.run_pure, Result.andThen_ok]
/-- new memory, its block told by a letter -/
theorem wpOrdT_alloc {i : Nat} {l : List (Nat × Bool)} {a : Act} {w : World} (O : Obj) (d : Option Tmp) (h : OpIs ops i a d true)
    (hx : (execOp a.eval (opN ops i)).run P w = .ok (.value (.pointer (some ⟨w.heap.size, 0, none⟩))) (w.alloc O))
    (hr : ∀ k w', k = w.heap.size → w'.heap[k]? = some O → Mods noB w w' → k < w'.heap.size → (T.contains i = false → S w') ∧ wpOrdT P ops Q T S l (a.put d (.pointer (some ⟨k, 0, none⟩))) w') : wpOrdT P ops Q T S ((i, false) :: l) a w := by
  obtain ⟨h1, h2⟩ := hr _ _ rfl (heap_new w O) ((Mods.refl noB w).alloc O) (by simp)
  exact wpOrdT_run _ _ d h hx h1 h2

/-- what lies in a block behind a store of several cells -/
def spl : Array Value → Nat → List Value → Array Value
  | c, _, [] => c
  | c, o, u :: l => spl (c.setIfInBounds o u) (o + 1) l
theorem heap_spl {g : Nat} {e : TypeId} (l : List Value) : ∀ (c : Array Value) (o : Nat) (w : World), w.heap[g]? = some (.cells c e (0, 0)) → (w.setCells g o l).heap[g]? = some (.cells (spl c o l) e (0, 0)) ∧ (w.setCells g o l).heap.size = w.heap.size := by
  induction l with
  | nil => intro c o w h; exact ⟨h, rfl⟩
  | cons u l ih =>
    intro c o w h
    obtain ⟨h1, h2⟩ := ih (c.setIfInBounds o u) (o + 1) (w.setCell ⟨g, o, none⟩ u) (heap_set h o u)
    exact ⟨h1, h2.trans (by simp [World.setCell])⟩
theorem wpOrdT_store {i : Nat} {l : List (Nat × Bool)} {a : Act} {w : World} {ty t : TypeId} {x y : Operand} {g off : Nat} {cur cells : Array Value} (new : Array Value) (d : Option Tmp) (h : OpIs ops i a d true) (ho : (opN ops i).op = .store ty x y)
    (hp : a.eval x = .pointer (some ⟨g, off, none⟩)) (hy : a.eval y = .agg cells) (hg : w.heap[g]? = some (.cells cur t (0, 0))) (hb : Nat.ble (off + cells.size) cur.size = true) (hi : (P.info? ty).map (·.size) = some cells.size) (h1 : cells.all (·.oneCell') = true)
    (hn : spl cur off cells.toList = new) (hr : ∀ w', w'.heap[g]? = some (.cells new t (0, 0)) → Mods (fun k => k = g) w w' → w'.heap.size = w.heap.size → (T.contains i = false → S w') ∧ wpOrdT P ops Q T S l (a.put d undef) w') : wpOrdT P ops Q T S ((i, false) :: l) a w := by
  have hle := Nat.le_of_ble_eq_true hb
  obtain ⟨k1, k2⟩ := heap_spl (g := g) (e := t) cells.toList cur off w hg
  obtain ⟨h2, h3⟩ := hr _ (hn ▸ k1) ((Mods.refl (fun k => k = g) w).setCells (.inl rfl) cells.toList) k2
  refine wpOrdT_skip _ d h ?_ h2 h3
  have ht : w.there g off cells.size := fun j hj => ⟨by rw [cells_of hg]; simp; omega, free_of hg _⟩
  have hs := run_storeAt_mid (P := P) w g off ty cells ht hi h1
  unfold execOp
  simp only [ho, hp, hy, Sem.run_bind, hs, Sem.run_pure, Result.andThen_ok]
theorem wpOrd0_lin (l : List Nat) : ∀ a w, wpOrd0 P ops Q [] (fun _ => True) (l.map (fun i => (i, false))) a w → wpOps P ops Q l a w := by
  induction l with
  | nil => exact fun a w h => h
  | cons i l ih =>
    intro a w h
    rw [wpOps_cons]
    exact wpOp_mono (fun a' w' h' => ih a' w' h'.2) h
/-- a region that doesn't draw -/
theorem wp_region_linT {id : Nat} {a : Act} {w : World} (l : List (Nat × Bool)) (hl : l = (List.range ops.size).map (fun i => (i, false))) (h : wpOrdT P ops Q [] (fun _ => True) l a w) : (Code.region id ops false).wp P Q a w :=
  wp_region (wpOrd0_lin _ a w (hl ▸ h.out))

end
end Go.Gl

/- A drawn region told in one order: a list of its operations' numbers, each marked 'only yields' (true) or 'the only one that may come up' (false). -/
import Derived.Test.YtnkbbclcileleaaZA
import Derived.Test.YtnkbbclcileleaaTail
import Derived.Deep.RegionHeld3
import Derived.Laws.Rows
namespace Go.Gl
open Go.RowKit
set_option linter.unusedVariables false

section
variable {P : Program} {ops : Array Oper} {Q : Exit → Act → World → Prop} {S : World → Prop}

def ordOk (md : Region.Mode) (ops : Array Oper) : List (Nat × Bool) → Array Bool → Bool
  | [], listed => (Region.ready md ops listed).isEmpty
  | (i, b) :: l, listed => (if b then Region.free md ops listed i && (Region.ready md ops listed).contains i else (Region.ready md ops listed) == [i]) && ordOk md ops l (listed.setIfInBounds i true)

def wpOrd (P : Program) (ops : Array Oper) (Q : Exit → Act → World → Prop) (S : World → Prop) : List (Nat × Bool) → Act → World → Prop
  | [], a, w => Q .normal a w
  | (i, true) :: l, a, w => ∃ o v, ops[i]? = some o ∧ YieldsIf P ops S o v a ∧ wpOrd P ops Q S l (a.put o.dst v) w
  | (i, false) :: l, a, w => wpOp P ops Q i (fun a' w' => S w' ∧ wpOrd P ops Q S l a' w') a w

theorem wpOrd_sound {md : Region.Mode} (hs : Region.noSelect ops = true) (hQ : ∀ c a d v w, Q (.panic c) (Act.put a d v) w → Q (.panic c) a w) (l : List (Nat × Bool)) :
    ∀ (listed : Array Bool) (a : Act) (w : World), ordOk md ops l listed = true → S w → wpOrd P ops Q S l a w → wpAnyH P md ops Q S l.length listed a w := by
  induction l with
  | nil =>
    intro listed a w h _ hw
    simp only [ordOk, List.isEmpty_iff] at h
    exact ⟨h, hw⟩
  | cons x l ih =>
    obtain ⟨i, b⟩ := x
    intro listed a w h hS hw
    simp only [ordOk, Bool.and_eq_true] at h
    rcases b with _ | _
    · simp only [Bool.false_eq_true, if_false] at h
      refine wpAnyH_all (eq_of_beq h.1) (by simp) (fun j hj => ?_)
      obtain rfl := List.mem_singleton.1 hj
      exact wpOp_mono (fun a' w' h' => ⟨h'.1, ih _ _ _ h.2 h'.1 h'.2⟩) hw
    · simp only [if_true, Bool.and_eq_true] at h
      obtain ⟨o, v, ho, hy, hr⟩ := hw
      exact wpAnyH_take ho hs h.1.1 h.1.2 (fun c a w => hQ c a _ _ w) hy hS (ih _ _ _ h.2 hS hr)

theorem NoPanic.dead {Q : Exit → Act → World → Prop} : ∀ c a d v w, NoPanic Q (.panic c) (Act.put a d v) w → NoPanic Q (.panic c) a w := fun _ _ _ _ _ h => h

/-- the beginning -/
theorem wp_region_ord {id : Nat} {a : Act} {w : World} (l : List (Nat × Bool)) (S : World → Prop) (hm : P.follows .mixedOrders = true) (hs : Region.noSelect ops = true) (hl : l.length = ops.size)
    (ok : ordOk .any ops l (Array.replicate ops.size false) = true) (hS : S w.drew) (h : wpOrd P ops (NoPanic Q) S l a w.drew) : (Code.region id ops true).wp P Q a w := by
  refine wp_region_noPanic (wp_region_held_drew (S := S) hm hS (fun _ => ?_))
  rw [← hl]
  rw [← hl] at ok
  exact wpOrd_sound hs NoPanic.dead l _ _ _ ok hS h

theorem wpOrd_done {a : Act} {w : World} {Q : Exit → Act → World → Prop} (h : Q .normal a w) : wpOrd P ops (NoPanic Q) S [] a w := h

abbrev opN (ops : Array Oper) (i : Nat) : Oper := ops.getD i default
theorem opN_get {i : Nat} (h : decide (i < ops.size) = true) : ops[i]? = some (opN ops i) := by
  have h1 := of_decide_eq_true h
  unfold opN
  rw [Array.getElem?_eq_getElem h1, Array.getD_eq_getD_getElem?, Array.getElem?_eq_getElem h1]
  rfl
/-- the operation is there, writes d, and is wanted (or isn't) -/
structure OpIs (ops : Array Oper) (i : Nat) (a : Act) (d : Option Tmp) (b : Bool) : Prop where
  lt : decide (i < ops.size) = true
  dst : (opN ops i).dst = d
  want : Region.wanted (opN ops i) (yielded ops a.tmps) = b

/-- an operation that only yields -/
theorem wpOrd_free {i : Nat} {l : List (Nat × Bool)} {a : Act} {w : World} (v : Value) (d : Option Tmp) (h : OpIs ops i a d true)
    (hv : ∀ b, S b → (execOp a.eval (opN ops i)).run P b = .ok (.value v) b) (hr : wpOrd P ops Q S l (a.put d v) w) : wpOrd P ops Q S ((i, true) :: l) a w := by
  obtain ⟨h1, rfl, h2⟩ := h
  exact ⟨_, v, opN_get h1, .inl ⟨h2, hv⟩, hr⟩
/-- .. a load -/
theorem wpOrd_load {i : Nat} {l : List (Nat × Bool)} {a : Act} {w : World} {p v : Value} {ty : TypeId} (x : Operand) (d : Option Tmp) (h : OpIs ops i a d true)
    (hv : ∀ b, S b → (Instr.loadAt ty p).run P b = .ok v b) (hx : (opN ops i).op = .load ty x) (hp : a.eval x = p) (hr : wpOrd P ops Q S l (a.put d v) w) : wpOrd P ops Q S ((i, true) :: l) a w := by
  refine wpOrd_free v d h (fun b hb => ?_) hr
  unfold execOp
  simp only [hx, hp, Sem.run_bind, hv b hb, Sem.run_pure, Result.andThen_ok]
/-- an operation that isn't wanted -/
theorem wpOrd_not {i : Nat} {l : List (Nat × Bool)} {a : Act} {w : World} (d : Option Tmp) (h : OpIs ops i a d false)
    (hr : wpOrd P ops Q S l (a.put d undef) w) : wpOrd P ops Q S ((i, true) :: l) a w := by
  obtain ⟨h1, rfl, h2⟩ := h
  exact ⟨_, undef, opN_get h1, .inr ⟨h2, rfl⟩, hr⟩
theorem wpOrd_notB {i : Nat} {l : List (Nat × Bool)} {a : Act} {w : World} (d : Option Tmp) (h : OpIs ops i a d false) (hS : S w)
    (hr : wpOrd P ops Q S l (a.put d undef) w) : wpOrd P ops Q S ((i, false) :: l) a w := by
  obtain ⟨h1, rfl, h2⟩ := h
  unfold wpOrd wpOp
  simp only [opN_get h1, h2, Bool.false_eq_true, if_false]
  exact ⟨hS, hr⟩
/-- a call -/
theorem wpOrd_call {i : Nat} {l : List (Nat × Bool)} {a : Act} {w : World} {n : FuncId} {vs : Array Value} {R : Ending → World → Prop} (d : Option Tmp) (h : OpIs ops i a d true)
    (hc : Calls P n vs w R) (hx : ∀ b, (execOp a.eval (opN ops i)).run P b = .ok (.enter n vs) b) (hr : ∀ r w', R r w' → ∃ v, r = .returned v ∧ S w' ∧ wpOrd P ops Q S l (a.put d v) w') : wpOrd P ops Q S ((i, false) :: l) a w := by
  obtain ⟨h1, rfl, h2⟩ := h
  unfold wpOrd wpOp
  simp only [opN_get h1, h2, if_true]
  refine .inl ?_
  unfold Oper.wp
  rw [hx w, Oper.upon_enter]
  refine hc.mono (fun r w' hr' => ?_)
  obtain ⟨v, rfl, k1, k2⟩ := hr r w' hr'
  exact ⟨k1, k2⟩
/-- any other operation, run -/
theorem wpOrd_run {i : Nat} {l : List (Nat × Bool)} {a : Act} {w : World} (v : Value) (w' : World) (d : Option Tmp) (h : OpIs ops i a d true)
    (hx : (execOp a.eval (opN ops i)).run P w = .ok (.value v) w') (hS : S w') (hr : wpOrd P ops Q S l (a.put d v) w') : wpOrd P ops Q S ((i, false) :: l) a w := by
  obtain ⟨h1, rfl, h2⟩ := h
  unfold wpOrd wpOp
  simp only [opN_get h1, h2, if_true]
  refine .inl ?_
  unfold Oper.wp
  rw [hx, Oper.upon_value]
  exact ⟨hS, hr⟩
theorem wpOrd_loadB {i : Nat} {l : List (Nat × Bool)} {a : Act} {w : World} {p v : Value} {ty : TypeId} (x : Operand) (d : Option Tmp) (h : OpIs ops i a d true)
    (hv : (Instr.loadAt ty p).run P w = .ok v w) (hx : (opN ops i).op = .load ty x) (hp : a.eval x = p) (hS : S w) (hr : wpOrd P ops Q S l (a.put d v) w) : wpOrd P ops Q S ((i, false) :: l) a w := by
  refine wpOrd_run v w d h ?_ hS hr
  unfold execOp
  simp only [hx, hp, Sem.run_bind, hv, Sem.run_pure, Result.andThen_ok]
theorem wpOrd_lin (l : List Nat) : ∀ a w, wpOrd P ops Q (fun _ => True) (l.map (fun i => (i, false))) a w → wpOps P ops Q l a w := by
  induction l with
  | nil => exact fun a w h => h
  | cons i l ih =>
    intro a w h
    rw [wpOps_cons]
    exact wpOp_mono (fun a' w' h' => ih a' w' h'.2) h
/-- a region that doesn't draw -/
theorem wp_region_lin {id : Nat} {a : Act} {w : World} (l : List (Nat × Bool)) (hl : l = (List.range ops.size).map (fun i => (i, false))) (h : wpOrd P ops Q (fun _ => True) l a w) : (Code.region id ops false).wp P Q a w :=
  wp_region (wpOrd_lin _ a w (hl ▸ h))
theorem act_is {K : Act → World → Prop} {a b : Act} {w : World} (e : a = b) (h : K b w) : K a w := e ▸ h

/-- the code of a region -/
def findR (i : Nat) : Code → Option Code
  | .region j ops d => if i = j then some (.region j ops d) else none
  | .seq a b => (findR i a).or (findR i b)
  | .cond _ a b => (findR i a).or (findR i b)
  | .block _ a => findR i a
  | .loop a => findR i a
  | .scope a => findR i a
  | _ => none
def regC (i : Nat) (f : Func) : Code := (findR i (bodyOf f)).getD .skip
def opsC (i : Nat) (f : Func) : Array Oper := match regC i f with
  | .region _ ops _ => ops
  | _ => #[]
end

section
variable {P : Program} {w : World}
/-- a part of a block -/
theorem load_part {g off : Nat} {cs : Array Value} {t ty : TypeId} {fr : Nat × Nat} {d : TypeDesc} (ys : List Value) (hg : w.heap[g]? = some (.cells cs t fr)) (hu : P.underlying ty = some d) (hd : (match d with | .struct _ | .array _ _ => true | _ => false) = true)
    (hi : (P.info? ty).map (·.size) = some ys.length) (hc : (cs.toList.drop off).take ys.length = ys) : (Instr.loadAt ty (.pointer (some ⟨g, off, none⟩))).run P w = .ok (.agg ys.toArray) w := by
  have hl : (loadCells ⟨g, off, none⟩ ys.length).run P w = .ok ys.toArray w :=
    run_loadCells_list (P := P) w ⟨g, off, none⟩ ys (fun j v hv => by
      have hadd : (⟨g, off, none⟩ : Addr).add j = ⟨g, off + j, none⟩ := by unfold Addr.add; split <;> simp_all
      rw [hadd, cells_of hg, ← Array.getElem?_toList]
      have hj := (List.getElem?_eq_some_iff.1 hv).1
      rw [← hc, List.getElem?_take_of_lt hj, List.getElem?_drop] at hv
      exact hv)
  cases hq : P.info? ty with
  | none => simp [hq] at hi
  | some i =>
    have hs : i.size = ys.length := by simpa [hq] using hi
    have hagg : (isAgg ty).run P w = .ok true w := by
      unfold isAgg
      rw [Sem.run_bind, run_underlying hu w]
      cases d <;> simp_all
    simp [Instr.loadAt, Instr.sureAddr, loadVar, Sem.run_bind, hagg, sizeOf, typeInfo, hq, hs, hl]
/-- one cell -/
theorem load_one {g off : Nat} {cs : Array Value} {t ty : TypeId} {fr : Nat × Nat} {d : TypeDesc} {v : Value} (hg : w.heap[g]? = some (.cells cs t fr)) (hu : P.underlying ty = some d) (hd : (match d with | .struct _ | .array _ _ => true | _ => false) = false)
    (hc : cs[off]? = some v) : (Instr.loadAt ty (.pointer (some ⟨g, off, none⟩))).run P w = .ok v w := by
  have hagg : (isAgg ty).run P w = .ok false w := by
    unfold isAgg
    rw [Sem.run_bind, run_underlying hu w]
    cases d <;> simp_all
  have h1 : w.cell? ⟨g, off, none⟩ = some v := by rw [cells_of hg, hc]
  simp [Instr.loadAt, Instr.sureAddr, loadVar, Sem.run_bind, hagg, h1]
end
end Go.Gl

/- msg: can there be such an item. -/
import Derived.Test.YtebknplbghcemaaMUsed
import Derived.LoopN
namespace Go.Proofs.Ytebknplbghcemaa
open Go.Gl Go.RowKit
set_option linter.unusedVariables false
set_option maxRecDepth 100000

theorem eq_u64 (d : Nat) (x y : Int) (w : World) : (Op.equalIn (d + 1) 22 (.int .u64 x) (.int .u64 y)).run Try.prog w = .ok (x == y) w := by
  simp [Op.equalIn, run_underlying Try.underlying22]

set_option linter.unusedSimpArgs false in
theorem eq3 (x1 x2 x3 y1 y2 y3 : Int) (w : World) : (Op.equalIn 10000 92 (.agg #[.int .u64 x1, .int .u64 x2, .int .u64 x3]) (.agg #[.int .u64 y1, .int .u64 y2, .int .u64 y3])).run Try.prog w = .ok (decide (x1 = y1 ∧ x2 = y2 ∧ x3 = y3)) w := by
  have hs : ∀ w, (sizeOf 22).run Try.prog w = .ok 1 w := fun _ => by kernel_rfl
  have p1 : ∀ (c : Array Value) (i : Nat) v w, c[i]? = some v → (part 22 c i).run Try.prog w = .ok v w := by
    intro c i v w h
    have ha : ∀ w, (isAgg 22).run Try.prog w = .ok false w := fun _ => by kernel_rfl
    simp [part, ha, h]
  rw [show (10000 : Nat) = 9999 + 1 from rfl]
  unfold Op.equalIn
  simp only [run_underlying Try.underlying92, Sem.run_bind, Result.andThen_ok, hs]
  simp only [Result.andThen_ok, Std.Legacy.Range.forIn_eq_forIn_range', Std.Legacy.Range.size, Nat.sub_zero, Nat.add_sub_cancel, Nat.div_one, Nat.mul_one, List.range', List.forIn_cons, List.forIn_nil, Sem.run_bind]
  have q0 : ∀ w, (part 22 #[.int .u64 x1, .int .u64 x2, .int .u64 x3] 0).run Try.prog w = .ok (.int .u64 x1) w := fun w => p1 _ 0 _ w rfl
  have q1 : ∀ w, (part 22 #[.int .u64 x1, .int .u64 x2, .int .u64 x3] 1).run Try.prog w = .ok (.int .u64 x2) w := fun w => p1 _ 1 _ w rfl
  have q2 : ∀ w, (part 22 #[.int .u64 x1, .int .u64 x2, .int .u64 x3] 2).run Try.prog w = .ok (.int .u64 x3) w := fun w => p1 _ 2 _ w rfl
  have r0 : ∀ w, (part 22 #[.int .u64 y1, .int .u64 y2, .int .u64 y3] 0).run Try.prog w = .ok (.int .u64 y1) w := fun w => p1 _ 0 _ w rfl
  have r1 : ∀ w, (part 22 #[.int .u64 y1, .int .u64 y2, .int .u64 y3] 1).run Try.prog w = .ok (.int .u64 y2) w := fun w => p1 _ 1 _ w rfl
  have r2 : ∀ w, (part 22 #[.int .u64 y1, .int .u64 y2, .int .u64 y3] 2).run Try.prog w = .ok (.int .u64 y3) w := fun w => p1 _ 2 _ w rfl
  simp only [q0, q1, q2, r0, r1, r2, eq_u64 9998, Result.andThen_ok, Nat.zero_add, Nat.reduceAdd]
  cases h1 : x1 == y1 <;> cases h2 : x2 == y2 <;> cases h3 : x3 == y3 <;> simp_all [q0, q1, q2, r0, r1, r2, eq_u64 9998]

/-- An item's numbers. -/
structure Itm where
  kind : Int
  s : Nat
  q : Nat
  f : Nat
  m : Int
  a : Nat
  b : Nat
  n : Nat
  fk : Int
  fv : Nat
  fh : Nat

def Itm.cells (i : Itm) : Array Value := #[.int .i64 i.kind, .int .u64 i.s, .int .u64 i.q, .int .u64 i.f, .int .i64 i.m, .int .u64 i.a, .int .u64 i.b, .int .u64 i.n, .int .i64 i.fk, .int .u64 i.fv, .int .u64 i.fh]

def Itm.txZero (i : Itm) : Prop := i.s = 0 ∧ i.q = 0 ∧ i.f = 0 ∧ i.m = 0 ∧ i.a = 0 ∧ i.b = 0 ∧ i.n = 0
def Itm.ftZero (i : Itm) : Prop := i.fk = 0 ∧ i.fv = 0 ∧ i.fh = 0
def Itm.mayF (i : Itm) : Prop := i.txZero ∧ 0 ≤ i.fk ∧ i.fk ≤ 255
def Itm.mayT (i : Itm) : Prop := (1 ≤ i.m ∧ i.m ≤ 10) ∧ ((usA i.m = false → i.a = 0) ∧ (usB i.m = false → i.b = 0) ∧ (usN i.m = false → i.n = 0)) ∧ i.ftZero
instance (i : Itm) : Decidable i.txZero := by unfold Itm.txZero; infer_instance
instance (i : Itm) : Decidable i.ftZero := by unfold Itm.ftZero; infer_instance
instance (i : Itm) : Decidable i.mayF := by unfold Itm.mayF; infer_instance
instance (i : Itm) : Decidable i.mayT := by unfold Itm.mayT; infer_instance

def mayB (i : Itm) : Bool := if i.kind = 1 then decide i.mayT else if i.kind = 2 then decide i.mayF else false

def MayRes (b : Bool) (w : World) (e : Ending) (w' : World) : Prop := e = .returned (.bool b) ∧ Mods noB w w'

theorem may_other (i : Itm) (w : World) (h1 : i.kind ≠ 1) (h2 : i.kind ≠ 2) : Calls Try.prog 48 #[.agg i.cells] w (MayRes false w) := by
  unfold Itm.cells
  obtain ⟨kind, s, q, f, mk, a, b, n, fk, fv, fh⟩ := i
  simp only at h1 h2 ⊢
  have b1 : (kind == 1) = false := by simp [h1]
  have b2 : (kind == 2) = false := by simp [h2]
  clear h1 h2
  go_enter Try.func48, Try.ntmps48
  go_wp2
  go_ret
  exact ⟨rfl, (by repeat' (first | (with_reducible exact Mods.refl _ _) | (with_reducible assumption) | (with_reducible refine Mods.alloc ?_ _) | (with_reducible refine Mods.drew ?_) | (with_reducible refine Mods.drewN ?_ _) | (with_reducible refine Mods.regrown ?_ _ _) | (with_reducible refine Mods.setCell ?_ ?_ _) | (refine .inr ?_; first | (simp; done) | (simp; omega) | omega)))⟩

theorem may_fault (i : Itm) (w : World) (h1 : i.kind = 2) : Calls Try.prog 48 #[.agg i.cells] w (MayRes (decide i.mayF) w) := by
  obtain ⟨d, hd⟩ : ∃ d, decide i.mayF = d := ⟨_, rfl⟩
  rw [hd]
  unfold Itm.cells
  unfold Itm.mayF Itm.txZero at hd
  obtain ⟨kind, s, q, f, m, a, b, n, fk, fv, fh⟩ := i
  simp only at h1 hd ⊢
  subst h1
  have HD := Lib.hid hd
  clear hd
  go_enter Try.func48, Try.ntmps48
  go_wp2
  all_goals
    go_ret
    refine ⟨congrArg (fun x => Ending.returned (.bool x)) ?_, (by repeat' (first | (with_reducible exact Mods.refl _ _) | (with_reducible assumption) | (with_reducible refine Mods.alloc ?_ _) | (with_reducible refine Mods.drew ?_) | (with_reducible refine Mods.drewN ?_ _) | (with_reducible refine Mods.regrown ?_ _ _) | (with_reducible refine Mods.setCell ?_ ?_ _) | (refine .inr ?_; first | (simp; done) | (simp; omega) | omega)))⟩
    rw [← HD.out]
    simp only [*]
    simp
  all_goals omega

theorem used_is {k : Int} {a b n o : Bool} (ha : usA k = a) (hb : usB k = b) (hn : usN k = n) (ho : usK k = o) (w : World) : Calls Try.prog 49 #[.int .i64 k] w fun e w' => e = .returned (.tuple #[.agg #[.bool a, .bool b, .bool n], .bool o]) ∧ Mods noB w w' := by
  subst ha hb hn ho
  exact used_any k w

theorem heap_at {w : World} (o : Obj) (n : Nat) (h : n = w.heap.size) : (w.alloc o).heap[n]? = some o := by subst h; exact heap_new w o

/-- the blocks of may ahead of the call of used -/
theorem may_blocks {w w1 : World} {o1 o2 o3 o4 : Obj} (hm : Mods noB ((((w.alloc o1).alloc o2).alloc o3).alloc o4) w1) :
    w1.heap[w.heap.size]? = some o1 ∧ w1.heap[w.heap.size + 2]? = some o3 ∧ w1.heap[w.heap.size + 3]? = some o4 ∧ w.heap.size + 4 ≤ w1.heap.size ∧ Mods noB w w1 := by
  refine ⟨hm.heap (heap_old (heap_old (heap_old (heap_new _ _) _) _) _) (fun x => x), hm.heap (heap_old (heap_at o3 _ (by simp)) _) (fun x => x), hm.heap (heap_at o4 _ (by simp)) (fun x => x), by have := hm.size; simp at this; omega, (((((Mods.refl noB w).alloc _).alloc _).alloc _).alloc _).then0 hm⟩

set_option maxHeartbeats 4000000 in
theorem may_tx (ua ub un ok : Bool) (i : Itm) (w : World) (h1 : i.kind = 1) (hA : usA i.m = ua) (hB : usB i.m = ub) (hN : usN i.m = un) (hK : usK i.m = ok)
    (hc : (ua = true ∧ ub = false ∧ un = true ∧ ok = true) ∨ (ua = true ∧ ub = true ∧ un = true ∧ ok = true) ∨ (ua = true ∧ ub = false ∧ un = false ∧ ok = true) ∨ (ua = false ∧ ub = false ∧ un = true ∧ ok = true) ∨ (ua = false ∧ ub = false ∧ un = false ∧ ok = true) ∨ (ua = false ∧ ub = false ∧ un = false ∧ ok = false)) :
    Calls Try.prog 48 #[.agg i.cells] w (MayRes (decide (ok = true ∧ ((ua = false → i.a = 0) ∧ (ub = false → i.b = 0) ∧ (un = false → i.n = 0)) ∧ i.ftZero)) w) := by
  obtain ⟨d, hd⟩ : ∃ d, decide (ok = true ∧ ((ua = false → i.a = 0) ∧ (ub = false → i.b = 0) ∧ (un = false → i.n = 0)) ∧ i.ftZero) = d := ⟨_, rfl⟩
  rw [hd]
  unfold Itm.cells
  unfold Itm.ftZero at hd
  obtain ⟨kind, s, q, f, m, a, b, n, fk, fv, fh⟩ := i
  simp only at h1 hA hB hN hK hd ⊢
  subst h1
  have HD := Lib.hid hd
  have HU := Lib.hid (used_is hA hB hN hK)
  clear hd hA hB hN hK
  go_enter Try.func48, Try.ntmps48
  go_wp2_with fail
  refine (HU.out _).mono ?_
  rintro e w1 ⟨rfl, hm⟩
  obtain ⟨g1, g2, g3, g4, g5⟩ := may_blocks hm
  have c1 := cells_of g1
  have c2 := cells_of g2
  have c3 := cells_of g3
  have f3 := free_of g3
  clear hm g1 g2 g3
  have z1 : w.heap.size < w1.heap.size := by omega
  have z2 : w.heap.size + 2 < w1.heap.size := by omega
  have z3 : w.heap.size + 3 < w1.heap.size := by omega
  clear g4
  generalize hg : w.heap.size = g at *
  have hgl : w.heap.size ≤ g := by omega
  clear hg
  have HE := eq3
  rcases hc with ⟨rfl, rfl, rfl, rfl⟩ | ⟨rfl, rfl, rfl, rfl⟩ | ⟨rfl, rfl, rfl, rfl⟩ | ⟨rfl, rfl, rfl, rfl⟩ | ⟨rfl, rfl, rfl, rfl⟩ | ⟨rfl, rfl, rfl, rfl⟩
  all_goals
    go_wp2
    refine wp_loop_rounds 4 ?_
    iterate 4 (rw [rounds_succ]; go_wp2)
  all_goals
    go_ret
    refine ⟨congrArg (fun x => Ending.returned (.bool x)) ?_, (by repeat' (first | (with_reducible exact Mods.refl _ _) | (with_reducible assumption) | (with_reducible refine Mods.alloc ?_ _) | (with_reducible refine Mods.drew ?_) | (with_reducible refine Mods.drewN ?_ _) | (with_reducible refine Mods.regrown ?_ _ _) | (with_reducible refine Mods.setCell ?_ ?_ _) | (refine .inr ?_; first | (simp; done) | (simp; omega) | omega)))⟩
    rw [← HD.out]
    clear c1 c2 c3 f3 z1 z2 z3 HE HU HD
    first | (simp; done) | (simp; omega) | (rw [Bool.eq_iff_iff]; simp; omega)

theorem us_ways (k : Int) : (usA k = true ∧ usB k = false ∧ usN k = true ∧ usK k = true) ∨ (usA k = true ∧ usB k = true ∧ usN k = true ∧ usK k = true) ∨ (usA k = true ∧ usB k = false ∧ usN k = false ∧ usK k = true) ∨ (usA k = false ∧ usB k = false ∧ usN k = true ∧ usK k = true) ∨ (usA k = false ∧ usB k = false ∧ usN k = false ∧ usK k = true) ∨ (usA k = false ∧ usB k = false ∧ usN k = false ∧ usK k = false) := by
  by_cases h : 1 ≤ k ∧ k ≤ 10
  · have hk : k = 1 ∨ k = 2 ∨ k = 3 ∨ k = 4 ∨ k = 5 ∨ k = 6 ∨ k = 7 ∨ k = 8 ∨ k = 9 ∨ k = 10 := by omega
    rcases hk with rfl | rfl | rfl | rfl | rfl | rfl | rfl | rfl | rfl | rfl <;> decide
  · simp only [usA, usB, usN, usK, Bool.or_eq_false_iff, Bool.and_eq_false_iff, beq_eq_false_iff_ne, decide_eq_false_iff_not]
    omega

theorem may_any (i : Itm) (w : World) : Calls Try.prog 48 #[.agg i.cells] w (MayRes (mayB i) w) := by
  unfold mayB
  by_cases h1 : i.kind = 1
  · rw [if_pos h1]
    have h := may_tx (usA i.m) (usB i.m) (usN i.m) (usK i.m) i w h1 rfl rfl rfl rfl (us_ways i.m)
    have e : decide i.mayT = decide (usK i.m = true ∧ ((usA i.m = false → i.a = 0) ∧ (usB i.m = false → i.b = 0) ∧ (usN i.m = false → i.n = 0)) ∧ i.ftZero) := by
      apply decide_eq_decide.2
      unfold Itm.mayT usK
      simp
    rw [e]
    exact h
  · rw [if_neg h1]
    by_cases h2 : i.kind = 2
    · rw [if_pos h2]
      exact may_fault i w h2
    · rw [if_neg h2]
      exact may_other i w h1 h2

end Go.Proofs.Ytebknplbghcemaa

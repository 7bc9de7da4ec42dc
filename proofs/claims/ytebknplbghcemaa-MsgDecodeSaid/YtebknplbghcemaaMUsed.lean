/- msg: which numbers a kind uses; used, Uses; the document's Uses. -/
import Derived.Test.YtebknplbghcemaaBase2
import Derived.LoopN
namespace Go.Proofs.Ytebknplbghcemaa
open Go.Gl Go.RowKit
set_option linter.unusedVariables false
set_option maxRecDepth 100000

/-- does a kind use A, B, N -/
def usA (k : Int) : Bool := k == 1 || k == 2 || k == 3 || k == 4 || k == 5 || k == 6 || k == 10
def usB (k : Int) : Bool := k == 5
def usN (k : Int) : Bool := k == 1 || k == 2 || k == 3 || k == 4 || k == 5 || k == 9 || k == 10
/-- is there such a kind -/
def usK (k : Int) : Bool := decide (1 ≤ k) && decide (k ≤ 10)

def UsedRes (k : Int) (w : World) (e : Ending) (w' : World) : Prop := e = .returned (.tuple #[.agg #[.bool (usA k), .bool (usB k), .bool (usN k)], .bool (usK k)]) ∧ Mods noB w w'

theorem used_out (k : Int) (w : World) (h : k < 1 ∨ 10 < k) : Calls Try.prog 49 #[.int .i64 k] w (UsedRes k w) := by
  have h0 : usA k = false ∧ usB k = false ∧ usN k = false ∧ usK k = false := by
    simp only [usA, usB, usN, usK, Bool.or_eq_false_iff, Bool.and_eq_false_iff, beq_eq_false_iff_ne, decide_eq_false_iff_not]
    omega
  have H0 := Lib.hid h0
  clear h0
  rcases h with h | h
  · go_enter Try.func49, Try.ntmps49
    go_wp2
    go_returns
    exact ⟨by rw [H0.out.1, H0.out.2.1, H0.out.2.2.1, H0.out.2.2.2], (by repeat' (first | (with_reducible exact Mods.refl _ _) | (with_reducible assumption) | (with_reducible refine Mods.alloc ?_ _) | (with_reducible refine Mods.drew ?_) | (with_reducible refine Mods.drewN ?_ _) | (with_reducible refine Mods.regrown ?_ _ _) | (with_reducible refine Mods.setCell ?_ ?_ _) | (exact .inr (by simp)) | (exact .inr (by simp; omega))))⟩
  · have h' : ¬ k < 1 := by omega
    go_enter Try.func49, Try.ntmps49
    go_wp2
    go_returns
    exact ⟨by rw [H0.out.1, H0.out.2.1, H0.out.2.2.1, H0.out.2.2.2], (by repeat' (first | (with_reducible exact Mods.refl _ _) | (with_reducible assumption) | (with_reducible refine Mods.alloc ?_ _) | (with_reducible refine Mods.drew ?_) | (with_reducible refine Mods.drewN ?_ _) | (with_reducible refine Mods.regrown ?_ _ _) | (with_reducible refine Mods.setCell ?_ ?_ _) | (exact .inr (by simp)) | (exact .inr (by simp; omega))))⟩

theorem used_in (k : Int) (w : World) (h1 : 1 ≤ k) (h2 : k ≤ 10) : Calls Try.prog 49 #[.int .i64 k] w (UsedRes k w) := by
  have hk : k = 1 ∨ k = 2 ∨ k = 3 ∨ k = 4 ∨ k = 5 ∨ k = 6 ∨ k = 7 ∨ k = 8 ∨ k = 9 ∨ k = 10 := by omega
  have i0 : ∀ w, (Instr.index 112 (.agg #[.bool true, .bool false, .bool true, .bool true, .bool false, .bool true, .bool true, .bool false, .bool true, .bool true, .bool false, .bool true, .bool true, .bool true, .bool true, .bool true, .bool false, .bool false, .bool false, .bool false, .bool false, .bool false, .bool false, .bool false, .bool false, .bool false, .bool true, .bool true, .bool false, .bool true]) (.int .i64 (k - 1))).run Try.prog w = .ok (.agg #[.bool (usA k), .bool (usB k), .bool (usN k)]) w := by
    intro w
    rcases hk with rfl | rfl | rfl | rfl | rfl | rfl | rfl | rfl | rfl | rfl <;> kernel_rfl
  have hu : usK k = true := by simp [usK, h1, h2]
  unfold UsedRes
  rw [hu]
  clear hk hu
  generalize usA k = ua at *
  generalize usB k = ub at *
  generalize usN k = un at *
  go_enter Try.func49, Try.ntmps49
  go_wp2
  go_returns
  exact ⟨rfl, (by repeat' (first | (with_reducible exact Mods.refl _ _) | (with_reducible assumption) | (with_reducible refine Mods.alloc ?_ _) | (with_reducible refine Mods.drew ?_) | (with_reducible refine Mods.drewN ?_ _) | (with_reducible refine Mods.regrown ?_ _ _) | (with_reducible refine Mods.setCell ?_ ?_ _) | (exact .inr (by simp)) | (exact .inr (by simp; omega))))⟩

theorem used_any (k : Int) (w : World) : Calls Try.prog 49 #[.int .i64 k] w (UsedRes k w) := by
  by_cases h : k < 1 ∨ 10 < k
  · exact used_out k w h
  · exact used_in k w (by omega) (by omega)

def UsesRes (k : Int) (w : World) (e : Ending) (w' : World) : Prop := e = .returned (.tuple #[.bool (usA k), .bool (usB k), .bool (usN k)]) ∧ Mods noB w w'

theorem Uses_any (k : Int) (w : World) : Calls Try.prog 15 #[.int .i64 k] w (UsesRes k w) := by
  go_enter Try.func15, Try.ntmps15
  go_wp2_with (go_at_call 49; refine (used_any k _).mono ?_; rintro e w1 ⟨rfl, hm⟩)
  go_quiet (fail)
  go_wp2
  go_ret3
  exact ⟨rfl, (by repeat' (first | (with_reducible exact Mods.refl _ _) | (with_reducible assumption) | (with_reducible refine Mods.alloc ?_ _) | (with_reducible refine Mods.drew ?_) | (with_reducible refine Mods.drewN ?_ _) | (with_reducible refine Mods.regrown ?_ _ _) | (with_reducible refine Mods.setCell ?_ ?_ _) | (exact .inr (by simp)) | (exact .inr (by simp; omega))))⟩

theorem RUses_out (k : Int) (w : World) (h : k < 1 ∨ 10 < k) : Calls Try.prog 16 #[.int .i64 k] w fun e w' => e = .returned (.tuple #[.bool (usA k), .bool (usB k), .bool (usN k)]) ∧ w' = w := by
  have h0 : usA k = false ∧ usB k = false ∧ usN k = false := by
    simp only [usA, usB, usN, Bool.or_eq_false_iff, beq_eq_false_iff_ne]
    omega
  rw [h0.1, h0.2.1, h0.2.2]
  have b1 : (k == 1) = false := by simp; omega
  have b2 : (k == 2) = false := by simp; omega
  have b3 : (k == 3) = false := by simp; omega
  have b4 : (k == 4) = false := by simp; omega
  have b5 : (k == 5) = false := by simp; omega
  have b6 : (k == 6) = false := by simp; omega
  have b9 : (k == 9) = false := by simp; omega
  have b10 : (k == 10) = false := by simp; omega
  clear h0 h
  go_enter Try.func16, Try.ntmps16
  go_wp2
  go_ret3
  exact ⟨rfl, rfl⟩

theorem RUses_in (k : Int) (w : World) (h1 : 1 ≤ k) (h2 : k ≤ 10) : Calls Try.prog 16 #[.int .i64 k] w fun e w' => e = .returned (.tuple #[.bool (usA k), .bool (usB k), .bool (usN k)]) ∧ w' = w := by
  have hk : k = 1 ∨ k = 2 ∨ k = 3 ∨ k = 4 ∨ k = 5 ∨ k = 6 ∨ k = 7 ∨ k = 8 ∨ k = 9 ∨ k = 10 := by omega
  rcases hk with rfl | rfl | rfl | rfl | rfl | rfl | rfl | rfl | rfl | rfl
  all_goals
    clear h1 h2
    go_enter Try.func16, Try.ntmps16
    go_wp2
    go_ret3
    exact ⟨rfl, rfl⟩

theorem RUses_any (k : Int) (w : World) : Calls Try.prog 16 #[.int .i64 k] w fun e w' => e = .returned (.tuple #[.bool (usA k), .bool (usB k), .bool (usN k)]) ∧ w' = w := by
  by_cases h : k < 1 ∨ 10 < k
  · exact RUses_out k w h
  · exact RUses_in k w (by omega) (by omega)

end Go.Proofs.Ytebknplbghcemaa

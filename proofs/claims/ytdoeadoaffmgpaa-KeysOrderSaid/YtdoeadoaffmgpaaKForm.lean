/- keys.forms and keys.formOf: the table of the kinds' forms. -/
import Derived.Test.YtdoeadoaffmgpaaBase
import Derived.Deep.WholeRow
namespace Go.Proofs.Ytdoeadoaffmgpaa
open Go.Gl Go.RowKit
set_option linter.unusedVariables false

structure KForm where
  head : UInt8
  mid : UInt8
  a : Bool
  b : Bool
  turned : Bool

/-- The form of a kind (none: there is no such kind). -/
def kform : Nat → Option KForm
  | 1 => some ⟨112, 0, false, false, false⟩
  | 2 => some ⟨99, 0, false, false, false⟩
  | 3 => some ⟨109, 0, false, false, false⟩
  | 4 => some ⟨97, 0, true, false, false⟩
  | 5 => some ⟨118, 48, true, false, false⟩
  | 6 => some ⟨118, 100, true, true, false⟩
  | 7 => some ⟨118, 104, true, true, false⟩
  | 8 => some ⟨118, 115, true, true, false⟩
  | 9 => some ⟨116, 0, true, false, false⟩
  | 10 => some ⟨105, 0, true, true, true⟩
  | 11 => some ⟨98, 0, true, false, false⟩
  | 12 => some ⟨117, 0, true, false, false⟩
  | 13 => some ⟨114, 0, true, false, false⟩
  | 14 => some ⟨113, 0, true, true, false⟩
  | 15 => some ⟨101, 0, true, true, false⟩
  | 16 => some ⟨110, 0, true, true, false⟩
  | 17 => some ⟨107, 0, true, true, false⟩
  | _ => none

def fcells (f : KForm) : List Value := [.int .u8 f.head.toNat, .int .u8 f.mid.toNat, .bool f.a, .bool f.b, .bool f.turned]
def fv (f : KForm) : Value := .agg (fcells f).toArray

def formsV : Array Value := ((List.range 17).flatMap fun k => ((kform (k + 1)).map fcells).getD []).toArray
def formsZ : Array Value := ((List.range 17).flatMap fun _ => fcells ⟨0, 0, false, false, false⟩).toArray

set_option maxRecDepth 100000 in
set_option maxHeartbeats 1000000 in
theorem forms_any (w : World) :
    Calls Try.prog 37 #[] w fun e w' => e = .returned (.agg formsV) ∧ w' = w.alloc (.cells formsV 64) := by
  have hz : ∀ w : World, (zeroValue 64).run Try.prog w = .ok (.agg formsZ) w := fun _ => by kernel_rfl
  go_enter Try.func37, Try.ntmps37
  go_wp2_with (refine wpList_build rfl 64 _ rfl (by as_aux_lemma => kernel_rfl) (stop ?_))
  unfold Stop
  refine wpList_store_row rfl 64 _ _ rfl w.heap.size formsV rfl (by as_aux_lemma => kernel_rfl) 64 formsZ (heap_new _ _) (by as_aux_lemma => kernel_rfl) (by as_aux_lemma => kernel_rfl) (by as_aux_lemma => kernel_rfl) ?_
  rw [World.setRow_alloc_new]
  go_wp2
  refine bodyPost_ret (results_cell_row rfl _ _ w.heap.size 64 formsV (0, 0) _ rfl (heap_new _ _) Try.underlying64 rfl (by as_aux_lemma => kernel_rfl)) rfl ⟨rfl, rfl⟩

theorem formsV_at (k : Nat) (h1 : 1 ≤ k) (h2 : k ≤ 17) : ∃ f, kform k = some f ∧ ∀ w : World, (Instr.index 64 (.agg formsV) (.int .i64 ((k : Int) - 1))).run Try.prog w = .ok (.agg #[.int .u8 f.head.toNat, .int .u8 f.mid.toNat, .bool f.a, .bool f.b, .bool f.turned]) w := by
  have h17 : k = 1 ∨ k = 2 ∨ k = 3 ∨ k = 4 ∨ k = 5 ∨ k = 6 ∨ k = 7 ∨ k = 8 ∨ k = 9 ∨ k = 10 ∨ k = 11 ∨ k = 12 ∨ k = 13 ∨ k = 14 ∨ k = 15 ∨ k = 16 ∨ k = 17 := by omega
  rcases h17 with rfl | rfl | rfl | rfl | rfl | rfl | rfl | rfl | rfl | rfl | rfl | rfl | rfl | rfl | rfl | rfl | rfl <;> exact ⟨_, rfl, fun _ => by kernel_rfl⟩

set_option maxHeartbeats 400000 in
theorem formOf_no (n : Int) (w : World) (h : n < 1 ∨ 17 < n) :
    Calls Try.prog 29 #[.int .i64 n] w fun e w' => e = .returned (.tuple #[fv ⟨0, 0, false, false, false⟩, .bool false]) ∧ Mods noB w w' := by
  rcases h with h | h
  · go_enter Try.func29, Try.ntmps29
    go_wp2
    go_returns
    exact ⟨rfl, (by repeat' (first | (with_reducible exact Mods.refl _ _) | (with_reducible assumption) | (with_reducible refine Mods.alloc ?_ _) | (with_reducible refine Mods.drew ?_) | (with_reducible refine Mods.drewN ?_ _) | (with_reducible refine Mods.regrown ?_ _ _) | (with_reducible refine Mods.setCell ?_ ?_ _) | (exact .inr (by simp)) | (exact .inr (by simp; omega))))⟩
  · have h1 : ¬ n < 1 := by omega
    go_enter Try.func29, Try.ntmps29
    go_wp2
    go_returns
    exact ⟨rfl, (by repeat' (first | (with_reducible exact Mods.refl _ _) | (with_reducible assumption) | (with_reducible refine Mods.alloc ?_ _) | (with_reducible refine Mods.drew ?_) | (with_reducible refine Mods.drewN ?_ _) | (with_reducible refine Mods.regrown ?_ _ _) | (with_reducible refine Mods.setCell ?_ ?_ _) | (exact .inr (by simp)) | (exact .inr (by simp; omega))))⟩

set_option maxHeartbeats 400000 in
theorem formOf_yes (k : Nat) (f : KForm) (w : World) (hf : kform k = some f) :
    Calls Try.prog 29 #[.int .i64 k] w fun e w' => e = .returned (.tuple #[fv f, .bool true]) ∧ Mods noB w w' := by
  have hk : 1 ≤ k ∧ k ≤ 17 := by
    rcases Nat.lt_or_ge k 18 with h | h
    · rcases Nat.eq_zero_or_pos k with rfl | h0
      · simp [kform] at hf
      · omega
    · obtain ⟨j, rfl⟩ : ∃ j, k = j + 18 := ⟨k - 18, by omega⟩
      simp [kform] at hf
  obtain ⟨h1, h2⟩ := hk
  obtain ⟨f', hf', hi⟩ := formsV_at k h1 h2
  obtain rfl : f = f' := by rw [hf] at hf'; simpa using hf'
  clear hf' hf
  go_enter Try.func29, Try.ntmps29
  go_wp2_with (go_at_call 37; refine (forms_any _).mono ?_; rintro e w' ⟨rfl, rfl⟩)
  go_returns
  exact ⟨rfl, (by repeat' (first | (with_reducible exact Mods.refl _ _) | (with_reducible assumption) | (with_reducible refine Mods.alloc ?_ _) | (with_reducible refine Mods.drew ?_) | (with_reducible refine Mods.drewN ?_ _) | (with_reducible refine Mods.regrown ?_ _ _) | (with_reducible refine Mods.setCell ?_ ?_ _) | (exact .inr (by simp)) | (exact .inr (by simp; omega))))⟩

end Go.Proofs.Ytdoeadoaffmgpaa

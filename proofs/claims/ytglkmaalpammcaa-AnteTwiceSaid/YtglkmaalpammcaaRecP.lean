/- Records: what their fields lay, what is read of them. Plain. -/
import Derived.Test.YtglkmaalpammcaaRStp
namespace Go.Proofs.Ytglkmaalpammcaa
open Go.Gl Go.RowKit
set_option linter.unusedVariables false
set_option maxRecDepth 100000
structure Fld where
  k : Nat
  n : Nat
  ls : List Nat
def shortN (N : Nat) : Nat := if blen N ≤ 255 then N else 0
theorem shortN_blen (N : Nat) : blen (shortN N) ≤ 255 := by
  unfold shortN
  split
  · assumption
  · decide
theorem shortN_short (N : Nat) (h : blen N ≤ 255) : shortN N = N := if_pos h
def Fld.N (f : Fld) : Nat := dval 18446744073709551616 f.ls
def Fld.lay (f : Fld) : List UInt8 := if f.k = 0 then be 8 f.n else if f.k = 1 then be 1 (if decide (f.n = 1) = true then 1 else 0) else natL (shortN f.N)
def recLay (fs : List Fld) : List UInt8 := fs.flatMap Fld.lay
def rdF (k : Nat) (s : ESt) : Fld × ESt :=
  if k = 0 then (⟨0, evl 8 s, []⟩, est 8 s) else if k = 1 then (⟨1, if decide (evl 1 s = 1) = true then 1 else 0, []⟩, boolS s) else (⟨2, 0, natV s⟩, natT s)
def rdAll : List Nat → ESt → List Fld × ESt
  | [], s => ([], s)
  | k :: ks, s => ((rdF k s).1 :: (rdAll ks (rdF k s).2).1, (rdAll ks (rdF k s).2).2)
structure Fld.Ok (f : Fld) : Prop where
  k : f.k ≤ 2
  n : f.n ≤ 18446744073709551615
  b : f.k = 1 → f.n ≤ 1
  ls : Lim f.ls
def Fld.norm (f : Fld) : Fld := if f.k = 0 then ⟨0, f.n, []⟩ else if f.k = 1 then ⟨1, f.n, []⟩ else ⟨2, 0, dig 18446744073709551616 (shortN f.N)⟩
theorem dig_lim (N : Nat) : Lim (dig 18446744073709551616 N) := fun x hx => by
  have := dig_lt (B := 18446744073709551616) (by omega) N x hx
  omega
theorem rdF_back (f : Fld) (h : f.Ok) (ys : List UInt8) : rdF f.k (f.lay ++ ys, 0) = (f.norm, (ys, 0)) := by
  have hn := h.n
  have hb := h.b
  unfold rdF Fld.lay Fld.norm
  by_cases h0 : f.k = 0
  · simp only [if_pos h0]
    obtain ⟨h1, h2⟩ := est_back 8 f.n ys (by omega)
    rw [h1, h2]
  by_cases h1 : f.k = 1
  · simp only [if_neg h0, if_pos h1]
    obtain ⟨h2, h3⟩ := bool_back (decide (f.n = 1)) ys
    rw [h2, h3]
    have := hb h1
    rcases (by omega : f.n = 0 ∨ f.n = 1) with h4 | h4
    · simp [h4]
    · simp [h4]
  · simp only [if_neg h0, if_neg h1]
    obtain ⟨h2, h3⟩ := nat_back (shortN f.N) ys (shortN_blen _)
    rw [h2, h3]
theorem rdAll_back (fs : List Fld) (h : ∀ f ∈ fs, f.Ok) (ys : List UInt8) : rdAll (fs.map (·.k)) (recLay fs ++ ys, 0) = (fs.map Fld.norm, (ys, 0)) := by
  induction fs with
  | nil => rfl
  | cons f fs ih =>
    have h1 := rdF_back f (h f (List.mem_cons_self ..)) (recLay fs ++ ys)
    have e : recLay (f :: fs) ++ ys = f.lay ++ (recLay fs ++ ys) := by simp [recLay]
    rw [e, List.map_cons]
    simp only [rdAll, h1, ih (fun g hg => h g (List.mem_cons_of_mem _ hg)), List.map_cons]
theorem rdF_err (k : Nat) (s : ESt) (h : s.2 ≠ 0) : (rdF k s).2 = s := by
  unfold rdF
  split
  · exact ((est_stops 8 s).1 h).2
  split
  · exact ((bool_stops s).1 h).2
  · exact ((nat_stops s).1 h).2
theorem rdAll_err (ks : List Nat) (s : ESt) (h : s.2 ≠ 0) : (rdAll ks s).2 = s := by
  induction ks generalizing s with
  | nil => rfl
  | cons k ks ih =>
    simp only [rdAll]
    have h1 := rdF_err k s h
    rw [h1]
    exact ih s h
theorem rdF_one (k : Nat) (xs : List UInt8) (h : (rdF k (xs, 0)).2.2 = 0) : xs = (rdF k (xs, 0)).1.lay ++ (rdF k (xs, 0)).2.1 := by
  unfold rdF at *
  by_cases h0 : k = 0
  · simp only [if_pos h0] at h ⊢
    exact est_one 8 xs h
  by_cases h1 : k = 1
  · simp only [if_neg h0, if_pos h1] at h ⊢
    have := bool_one xs h
    unfold Fld.lay
    simp only [show ¬ (1 : Nat) = 0 from by omega, if_false, if_true]
    by_cases hb : evl 1 (xs, 0) = 1
    · simp only [hb, decide_true, if_true] at this ⊢
      exact this
    · simp only [hb, decide_false] at this ⊢
      simpa using this
  · simp only [if_neg h0, if_neg h1] at h ⊢
    obtain ⟨h2, h3⟩ := nat_one xs h
    unfold Fld.lay Fld.N
    simp only [show ¬ (2 : Nat) = 0 from by omega, show ¬ (2 : Nat) = 1 from by omega, if_false]
    rw [shortN_short _ h3]
    exact h2
theorem rdAll_one (ks : List Nat) (xs : List UInt8) (h : (rdAll ks (xs, 0)).2.2 = 0) : xs = recLay (rdAll ks (xs, 0)).1 ++ (rdAll ks (xs, 0)).2.1 := by
  induction ks generalizing xs with
  | nil => rfl
  | cons k ks ih =>
    simp only [rdAll] at h ⊢
    have h1 : (rdF k (xs, 0)).2.2 = 0 := by
      by_cases he : (rdF k (xs, 0)).2.2 = 0
      · exact he
      · rw [rdAll_err ks _ he] at h
        exact h
    have h2 := rdF_one k xs h1
    have e : (rdF k (xs, 0)).2 = ((rdF k (xs, 0)).2.1, 0) := Prod.ext rfl h1
    rw [e] at h
    have h3 := ih _ h
    rw [e]
    show xs = ((rdF k (xs, 0)).1.lay ++ recLay _) ++ _
    rw [List.append_assoc, ← h3]
    exact h2
theorem rdF_ok (k : Nat) (s : ESt) (hk : k ≤ 2) : (rdF k s).1.Ok ∧ (rdF k s).1.k = k := by
  unfold rdF
  split
  · have := rtake_lt 8 s.1 s.2
    refine ⟨⟨by simp, ?_, fun x => by simp at x, fun x hx => by cases hx⟩, by simp; omega⟩
    simp only [evl]
    simp at this
    omega
  split
  · exact ⟨⟨by simp, by simp only; split <;> omega, fun _ => by simp only; split <;> omega, fun x hx => by cases hx⟩, by simp; omega⟩
  · refine ⟨⟨by simp, by simp, fun x => by simp at x, ?_⟩, by simp only; omega⟩
    unfold natV
    split
    · exact dig_lim _
    · intro x hx
      cases hx
theorem rdAll_ok (ks : List Nat) (s : ESt) (hk : ∀ k ∈ ks, k ≤ 2) : (∀ f ∈ (rdAll ks s).1, f.Ok) ∧ (rdAll ks s).1.map (·.k) = ks := by
  induction ks generalizing s with
  | nil => exact ⟨fun f hf => (by cases hf), rfl⟩
  | cons k ks ih =>
    obtain ⟨h1, h2⟩ := rdF_ok k s (hk k (List.mem_cons_self ..))
    obtain ⟨h3, h4⟩ := ih (rdF k s).2 (fun j hj => hk j (List.mem_cons_of_mem _ hj))
    refine ⟨fun f hf => ?_, by simp only [rdAll, List.map_cons, h2, h4]⟩
    rcases List.mem_cons.1 hf with rfl | hf
    · exact h1
    · exact h3 f hf
end Go.Proofs.Ytglkmaalpammcaa

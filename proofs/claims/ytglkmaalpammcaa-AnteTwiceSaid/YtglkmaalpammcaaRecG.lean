/- Records: what a reader of a whole record tells. Plain. -/
import Derived.Test.YtglkmaalpammcaaRecP
namespace Go.Proofs.Ytglkmaalpammcaa
open Go.Gl Go.RowKit
set_option linter.unusedVariables false
set_option maxRecDepth 100000
def zeroF (k : Nat) : Fld := ⟨k, 0, []⟩
def recGet (ks : List Nat) (xs : List UInt8) : List Fld × Nat :=
  if (rdAll ks (xs, 0)).2 = ([], 0) then ((rdAll ks (xs, 0)).1, 0) else (ks.map zeroF, 80)
theorem endS_zero (s : ESt) : endS s.1 s.2 = 0 ↔ s = ([], 0) := by
  obtain ⟨xs, e⟩ := s
  unfold endS
  constructor
  · intro h
    by_cases h0 : e = 0 ∧ xs.length ≠ 0
    · rw [if_pos h0] at h
      omega
    · rw [if_neg h0] at h
      simp only at h
      subst h
      have : xs = [] := List.eq_nil_of_length_eq_zero (by omega)
      rw [this]
  · intro h
    cases h
    simp
theorem recGet_yes {ks : List Nat} {xs : List UInt8} {fs : List Fld} (h : rdAll ks (xs, 0) = (fs, ([], 0))) : recGet ks xs = (fs, 0) := by
  unfold recGet
  rw [h, if_pos rfl]
theorem recGet_no {ks : List Nat} {xs : List UInt8} {fs : List Fld} {s : ESt} (h : rdAll ks (xs, 0) = (fs, s)) (hs : s ≠ ([], 0)) : recGet ks xs = (ks.map zeroF, 80) := by
  unfold recGet
  rw [h, if_neg hs]
theorem rdAll_whole {ks : List Nat} {xs : List UInt8} {fs : List Fld} (h : rdAll ks (xs, 0) = (fs, ([], 0))) : recLay fs = xs := by
  have := rdAll_one ks xs (by rw [h])
  rw [h] at this
  simpa using this.symm
theorem recGet_back (fs : List Fld) (h : ∀ f ∈ fs, f.Ok) {ks : List Nat} (hk : fs.map (·.k) = ks) : recGet ks (recLay fs) = (fs.map Fld.norm, 0) := by
  subst hk
  have := rdAll_back fs h []
  rw [List.append_nil] at this
  exact recGet_yes this
theorem recGet_ok {ks : List Nat} {xs : List UInt8} {fs : List Fld} {e : Nat} (hk : ∀ k ∈ ks, k ≤ 2) (h : recGet ks xs = (fs, e)) : (∀ f ∈ fs, f.Ok) ∧ fs.map (·.k) = ks := by
  unfold recGet at h
  split at h <;> cases h
  · exact rdAll_ok ks _ hk
  · constructor
    · intro f hf
      obtain ⟨k, hk', rfl⟩ := List.mem_map.1 hf
      exact ⟨hk k hk', by simp [zeroF], by simp [zeroF], fun x hx => by cases hx⟩
    · rw [List.map_map]
      exact List.map_id _
end Go.Proofs.Ytglkmaalpammcaa

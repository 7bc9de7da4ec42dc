/- Records: what a reader of a whole record tells. Plain. -/
import Derived.Test.YtnkbbclcileleaaRecP
namespace Go.Proofs.Ytnkbbclcileleaa
open Go.Gl Go.RowKit
set_option linter.unusedVariables false
set_option maxRecDepth 100000

def zeroF (k : Nat) : Fld := ⟨k, 0, []⟩
/-- the fields, and 0; or noughts, and 80 -/
def recGet (ks : List Nat) (xs : List UInt8) : List Fld × Nat :=
  if (rdAll ks (xs, 0)).2 = ([], 0) then ((rdAll ks (xs, 0)).1, 0) else (ks.map zeroF, 80)

theorem endS_zero (s : ESt) : endS s.1 s.2 = 0 ↔ s = ([], 0) := by
  obtain ⟨xs, e⟩ := s
  unfold endS
  constructor
  · intro h
    by_cases h0 : e = 0 ∧ xs.length ≠ 0
    · rw [if_pos h0] at h
      omega
    · rw [if_neg h0] at h
      simp only at h
      subst h
      have : xs = [] := List.eq_nil_of_length_eq_zero (by omega)
      rw [this]
  · intro h
    cases h
    simp

theorem recGet_yes {ks : List Nat} {xs : List UInt8} {fs : List Fld} (h : rdAll ks (xs, 0) = (fs, ([], 0))) : recGet ks xs = (fs, 0) := by
  unfold recGet
  rw [h, if_pos rfl]
theorem recGet_no {ks : List Nat} {xs : List UInt8} {fs : List Fld} {s : ESt} (h : rdAll ks (xs, 0) = (fs, s)) (hs : s ≠ ([], 0)) : recGet ks xs = (ks.map zeroF, 80) := by
  unfold recGet
  rw [h, if_neg hs]

theorem rdAll_whole {ks : List Nat} {xs : List UInt8} {fs : List Fld} (h : rdAll ks (xs, 0) = (fs, ([], 0))) : recLay fs = xs := by
  have := rdAll_one ks xs (by rw [h])
  rw [h] at this
  simpa using this.symm

theorem recGet_back (fs : List Fld) (h : ∀ f ∈ fs, f.Ok) {ks : List Nat} (hk : fs.map (·.k) = ks) : recGet ks (recLay fs) = (fs.map Fld.norm, 0) := by
  subst hk
  have := rdAll_back fs h []
  rw [List.append_nil] at this
  exact recGet_yes this

theorem recGet_one {ks : List Nat} {xs : List UInt8} {fs : List Fld} (h : recGet ks xs = (fs, 0)) : recLay fs = xs := by
  unfold recGet at h
  split at h
  · rename_i h1
    cases h
    exact rdAll_whole (Prod.ext rfl h1)
  · cases h

theorem recGet_err {ks : List Nat} {xs : List UInt8} {fs : List Fld} {e : Nat} (h : recGet ks xs = (fs, e)) : e = 0 ∨ e = 80 := by
  unfold recGet at h
  split at h <;> cases h
  · exact .inl rfl
  · exact .inr rfl

theorem recGet_ok {ks : List Nat} {xs : List UInt8} {fs : List Fld} {e : Nat} (hk : ∀ k ∈ ks, k ≤ 2) (h : recGet ks xs = (fs, e)) : (∀ f ∈ fs, f.Ok) ∧ fs.map (·.k) = ks := by
  unfold recGet at h
  split at h <;> cases h
  · exact rdAll_ok ks _ hk
  · constructor
    · intro f hf
      obtain ⟨k, hk', rfl⟩ := List.mem_map.1 hf
      exact ⟨hk k hk', by simp [zeroF], by simp [zeroF], fun x hx => by cases hx⟩
    · rw [List.map_map]
      exact List.map_id _

theorem natV_len' (p : ESt) : (natV p).length ≤ 255 := by
  unfold natV
  split
  · rename_i h
    have h1 : (nbody p).length ≤ 255 := by
      unfold nbody
      rw [List.length_take]
      have : evl 1 p < 256 := by have := rtake_lt 1 p.1 p.2; simpa [evl] using this
      omega
    have h2 := num_lt (nbody p)
    have h3 : 256 ^ (nbody p).length ≤ 256 ^ 255 := Nat.pow_le_pow_right (by omega) h1
    have h4 : 256 ^ 255 ≤ 18446744073709551616 ^ 255 := Nat.pow_le_pow_left (by omega) 255
    have e := dig_ldig (B := 18446744073709551616) (n := 255) (x := num (nbody p)) (by omega) (Nat.lt_of_lt_of_le h2 (Nat.le_trans h3 h4))
    rw [e]
    exact Nat.le_trans (strip_length_le _) (Nat.le_of_eq (ldig_length _ _ _))
  · simp

theorem rdF_ls (k : Nat) (s : ESt) : (rdF k s).1.ls.length ≤ 255 := by
  unfold rdF
  split
  · simp
  split
  · simp
  · exact natV_len' s
theorem rdAll_ls (ks : List Nat) (s : ESt) : ∀ f ∈ (rdAll ks s).1, f.ls.length ≤ 255 := by
  induction ks generalizing s with
  | nil => exact fun f hf => by cases hf
  | cons k ks ih =>
    intro f hf
    rcases List.mem_cons.1 hf with rfl | hf
    · exact rdF_ls k s
    · exact ih _ f hf
theorem recGet_ls {ks : List Nat} {xs : List UInt8} {fs : List Fld} {e : Nat} (h : recGet ks xs = (fs, e)) : ∀ f ∈ fs, f.ls.length ≤ 255 := by
  unfold recGet at h
  split at h <;> cases h
  · exact rdAll_ls _ _
  · intro f hf
    obtain ⟨k, hk', rfl⟩ := List.mem_map.1 hf
    simp [zeroF]

end Go.Proofs.Ytnkbbclcileleaa

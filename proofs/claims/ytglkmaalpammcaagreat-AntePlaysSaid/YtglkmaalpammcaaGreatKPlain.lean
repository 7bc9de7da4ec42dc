/- Keys, plainly: what is read out of bytes is what they were made of; no key is another one's beginning; their order. -/
import Derived.Test.YtglkmaalpammcaaGreatZD
namespace Go.Proofs.YtglkmaalpammcaaGreat
open Go.Gl Go.RowKit
set_option linter.unusedVariables false
def maxU : Nat := 18446744073709551615
def candA (f : KForm) (b : List UInt8) : Nat := kturn f (if f.a = true ∧ 9 ≤ b.length then num ((b.drop 1).take 8) else 0)
def candB (f : KForm) (b : List UInt8) : Nat := if f.b = true ∧ 8 ≤ b.length then num (b.drop (b.length - 8)) else 0
theorem kform_range' {k : Nat} {f : KForm} (hf : kform k = some f) : 1 ≤ k ∧ k ≤ 17 := by
 rcases Nat.lt_or_ge k 18 with h | h
 ·rcases Nat.eq_zero_or_pos k with rfl | h0
  ·simp [kform] at hf
  ·omega
 ·obtain ⟨j, rfl⟩ : ∃ j, k = j + 18 := ⟨k - 18, by omega⟩
  simp [kform] at hf
theorem kform_turn {k : Nat} {f : KForm} (hf : kform k = some f) : (f.turned = true → f.a = true) ∧ (f.b = true → f.a = true) := by
 obtain ⟨h1, h2⟩ := kform_range' hf
 have : k = 1 ∨ k = 2 ∨ k = 3 ∨ k = 4 ∨ k = 5 ∨ k = 6 ∨ k = 7 ∨ k = 8 ∨ k = 9 ∨ k = 10 ∨ k = 11 ∨ k = 12 ∨ k = 13 ∨ k = 14 ∨ k = 15 ∨ k = 16 ∨ k = 17 := by omega
 rcases this with rfl | rfl | rfl | rfl | rfl | rfl | rfl | rfl | rfl | rfl | rfl | rfl | rfl | rfl | rfl | rfl | rfl <;> cases hf <;> decide
theorem kturn_turn (f : KForm) (a : Nat) (h : a ≤ 18446744073709551615) : kturn f (kturn f a) = a := by
 unfold kturn
 split <;> omega
theorem kturn_le (f : KForm) (a : Nat) (h : a ≤ 18446744073709551615) : kturn f a ≤ 18446744073709551615 := by
 unfold kturn
 split <;> omega
theorem cand_of {k a b : Nat} {f : KForm} (hf : kform k = some f) (hn : kfit f a b = true) (ha : a ≤ 18446744073709551615) (hb : b ≤ 18446744073709551615) : candA f (kbytes f a b) = a ∧ candB f (kbytes f a b) = b := by
 obtain ⟨ht, hba⟩ := kform_turn hf
 have hA : kturn f a < 18446744073709551616 := by have := kturn_le f a ha; omega
 have h2 := kturn_turn f a ha
 obtain ⟨hd, md, fa, fb, ft⟩ := f
 simp only [kfit, Bool.and_eq_true, Bool.or_eq_true, decide_eq_true_eq] at hn
 cases fa
 ·have hbf : fb = false := by cases fb; rfl; exact absurd (hba rfl) (by simp)
  have htf : ft = false := by cases ft; rfl; exact absurd (ht rfl) (by simp)
  subst hbf htf
  simp at hn
  simp [candA, candB, kturn, hn.1, hn.2]
 ·have e1 : (((kbytes ⟨hd, md, true, fb, ft⟩ a b).drop 1).take 8) = be 8 (kturn ⟨hd, md, true, fb, ft⟩ a) := by
   simp only [kbytes, kfirst, if_true, List.append_assoc, List.cons_append, List.nil_append, List.drop_succ_cons, List.drop_zero]
   rw [List.take_append_of_le_length (by rw [be_length]; omega), List.take_of_length_le (by rw [be_length]; omega)]
  have l1 : 9 ≤ (kbytes ⟨hd, md, true, fb, ft⟩ a b).length := by
   simp [kbytes, kfirst, be_length]
  refine ⟨?_, ?_⟩
  ·unfold candA
   rw [if_pos ⟨rfl, l1⟩, e1, num_be8 _ hA, h2]
  ·cases fb
   ·simp at hn
    simp [candB, hn]
   ·unfold candB
    rw [if_pos ⟨rfl, by omega⟩]
    have e2 : (kbytes ⟨hd, md, true, true, ft⟩ a b).drop ((kbytes ⟨hd, md, true, true, ft⟩ a b).length - 8) = be 8 b := by
     simp only [kbytes, if_true]
     rw [List.length_append, be_length, Nat.add_sub_cancel, List.drop_left]
    rw [e2, num_be8 b (by omega)]
theorem cand_make {k : Nat} {f : KForm} {A B : Nat} {b : List UInt8} (hf : kform k = some f) (h : kmake k A B = some b) (hA : A ≤ maxU) (hB : B ≤ maxU) : candA f b = A ∧ candB f b = B := by
 simp only [kmake, Int.toNat_natCast, hf] at h
 split at h
 ·rename_i hn
  cases h
  exact cand_of hf hn hA hB
 ·cases h
theorem kmake_form {k : Int} {A B : Nat} {b : List UInt8} (h : kmake k A B = some b) : ∃ f, kform k.toNat = some f ∧ kfit f A B = true ∧ b = kbytes f A B := by
 unfold kmake at h
 split at h
 ·cases h
 ·rename_i f hf
  split at h
  ·rename_i hn; cases h; exact ⟨f, hf, hn, rfl⟩
  ·cases h
theorem kmake_range {k : Int} {A B : Nat} {b : List UInt8} (h : kmake k A B = some b) : 1 ≤ k ∧ k ≤ 17 := by
 obtain ⟨f, hf, _⟩ := kmake_form h
 have := kform_range' hf
 omega
def ktag (b : List UInt8) : Nat × Nat × Nat := ((b.getD 0 0).toNat, (if (b.getD 0 0).toNat = 118 then (b.getD 9 0).toNat else 0), b.length)
theorem kmake_tag {k : Nat} {A B : Nat} {b : List UInt8} {f : KForm} (hf : kform k = some f) (h : kmake k A B = some b) : ktag b = (f.head.toNat, (if f.head.toNat = 118 then f.mid.toNat else 0), b.length) := by
 simp only [kmake, Int.toNat_natCast, hf] at h
 split at h
 ·cases h
  obtain ⟨h1, h2⟩ := kform_range' hf
  have : k = 1 ∨ k = 2 ∨ k = 3 ∨ k = 4 ∨ k = 5 ∨ k = 6 ∨ k = 7 ∨ k = 8 ∨ k = 9 ∨ k = 10 ∨ k = 11 ∨ k = 12 ∨ k = 13 ∨ k = 14 ∨ k = 15 ∨ k = 16 ∨ k = 17 := by omega
  rcases this with rfl | rfl | rfl | rfl | rfl | rfl | rfl | rfl | rfl | rfl | rfl | rfl | rfl | rfl | rfl | rfl | rfl <;> cases hf <;> simp [ktag, kbytes, kfirst, be, kturn]
 ·cases h
def ktagOf (k : Nat) : Option (Nat × Nat) := (kform k).map fun g => (g.head.toNat, if g.head.toNat = 118 then g.mid.toNat else 0)
theorem kform_tag {k k' : Nat} {f f' : KForm} (hf : kform k = some f) (hf' : kform k' = some f') (h1 : f.head.toNat = f'.head.toNat) (h2 : (if f.head.toNat = 118 then f.mid.toNat else 0) = (if f'.head.toNat = 118 then f'.mid.toNat else 0)) : k = k' := by
 have r1 := kform_range' hf
 have r2 := kform_range' hf'
 have t : ∀ j : Fin 18, ∀ j' : Fin 18, ktagOf j.1 = ktagOf j'.1 → ktagOf j.1 ≠ none → j = j' := by decide
 have e1 : ktagOf k = some (f.head.toNat, if f.head.toNat = 118 then f.mid.toNat else 0) := by simp [ktagOf, hf]
 have e2 : ktagOf k' = some (f'.head.toNat, if f'.head.toNat = 118 then f'.mid.toNat else 0) := by simp [ktagOf, hf']
 have := t ⟨k, by omega⟩ ⟨k', by omega⟩ (by rw [e1, e2, h2, h1]) (by rw [e1]; simp)
 exact congrArg Fin.val this
theorem kmake_inj {k k' : Int} {A B A' B' : Nat} {b : List UInt8} (h : kmake k A B = some b) (h' : kmake k' A' B' = some b) (hA : A ≤ maxU) (hB : B ≤ maxU) (hA' : A' ≤ maxU) (hB' : B' ≤ maxU) : k = k' ∧ A = A' ∧ B = B' := by
 have r := kmake_range h
 have r' := kmake_range h'
 obtain ⟨n, rfl⟩ := Int.eq_ofNat_of_zero_le (a := k) (by omega)
 obtain ⟨n', rfl⟩ := Int.eq_ofNat_of_zero_le (a := k') (by omega)
 obtain ⟨f, hf, _, _⟩ := kmake_form h
 obtain ⟨f', hf', _, _⟩ := kmake_form h'
 rw [Int.toNat_natCast] at hf hf'
 have t := kmake_tag hf h
 have t' := kmake_tag hf' h'
 rw [t] at t'
 simp only [Prod.mk.injEq] at t'
 obtain rfl := kform_tag hf hf' t'.1 t'.2.1
 obtain rfl : f = f' := by rw [hf] at hf'; exact Option.some.inj hf'
 obtain ⟨c1, c2⟩ := cand_make hf h hA hB
 obtain ⟨c3, c4⟩ := cand_make hf h' hA' hB'
 exact ⟨rfl, c1.symm.trans c3, c2.symm.trans c4⟩
end Go.Proofs.YtglkmaalpammcaaGreat

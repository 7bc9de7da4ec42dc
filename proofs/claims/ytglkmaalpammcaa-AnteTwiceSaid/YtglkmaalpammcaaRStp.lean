/- Steps of a reader: the plain laws of what they leave and what they tell. -/
import Derived.Test.YtglkmaalpammcaaZD
import Derived.Test.YtglkmaalpammcaaERdS
namespace Go.Proofs.Ytglkmaalpammcaa
open Go.Gl Go.RowKit
set_option linter.unusedVariables false
set_option maxRecDepth 100000
def StopsOk (p q : ESt) (z : Bool) : Prop := (p.2 ≠ 0 → z = true ∧ q = p) ∧ (p.2 = 0 → q.2 ≠ 0 → z = true ∧ q.1 = p.1) ∧ q.1.length ≤ p.1.length
theorem StopsOk.id (p : ESt) : StopsOk p p true := ⟨fun _ => ⟨rfl, rfl⟩, fun h k => absurd h k, Nat.le_refl _⟩
theorem est_err (n : Nat) (p : ESt) (h : p.2 ≠ 0) : est n p = p ∧ evl n p = 0 := by
  obtain ⟨xs, e⟩ := p
  simp only at h
  simp [est, evl, rleft, rerr, rtake, h]
theorem est_ok (n : Nat) (xs : List UInt8) (h : n ≤ xs.length) : est n (xs, 0) = (xs.drop n, 0) ∧ evl n (xs, 0) = num (xs.take n) := by
  simp [est, evl, rleft, rerr, rtake, h]
theorem est_short (n : Nat) (xs : List UInt8) (h : ¬ n ≤ xs.length) : est n (xs, 0) = (xs, 40) ∧ evl n (xs, 0) = 0 := by
  simp [est, evl, rleft, rerr, rtake, h]
theorem est_stops (n : Nat) (p : ESt) : StopsOk p (est n p) (decide (evl n p = 0)) := by
  obtain ⟨xs, e⟩ := p
  by_cases he : e = 0
  · subst he
    by_cases hl : n ≤ xs.length
    · obtain ⟨h1, h2⟩ := est_ok n xs hl
      rw [h1]
      exact ⟨fun x => absurd rfl x, fun _ x => absurd rfl x, by simp⟩
    · obtain ⟨h1, h2⟩ := est_short n xs hl
      rw [h1, h2]
      exact ⟨fun x => absurd rfl x, fun _ _ => ⟨rfl, rfl⟩, Nat.le_refl _⟩
  · obtain ⟨h1, h2⟩ := est_err n (xs, e) he
    rw [h1, h2]
    exact ⟨fun _ => ⟨rfl, rfl⟩, fun x => absurd x he, Nat.le_refl _⟩
theorem bool_stops (p : ESt) : StopsOk p (boolS p) (!decide (evl 1 p = 1)) := by
  obtain ⟨xs, e⟩ := p
  by_cases he : e = 0
  · subst he
    by_cases hl : 1 ≤ xs.length
    · obtain ⟨h1, h2⟩ := est_ok 1 xs hl
      unfold boolS
      by_cases hb : 1 < evl 1 (xs, 0)
      · rw [if_pos ⟨rfl, hb⟩]
        exact ⟨fun x => absurd rfl x, fun _ _ => ⟨by simp; omega, rfl⟩, Nat.le_refl _⟩
      · rw [if_neg (fun x => hb x.2), h1]
        exact ⟨fun x => absurd rfl x, fun _ x => absurd rfl x, by simp⟩
    · obtain ⟨h1, h2⟩ := est_short 1 xs hl
      unfold boolS
      rw [h2, if_neg (fun x => by omega), h1]
      exact ⟨fun x => absurd rfl x, fun _ _ => ⟨rfl, rfl⟩, Nat.le_refl _⟩
  · obtain ⟨h1, h2⟩ := est_err 1 (xs, e) he
    unfold boolS
    rw [h2, if_neg (fun x => he x.1), h1]
    exact ⟨fun _ => ⟨rfl, rfl⟩, fun x => absurd x he, Nat.le_refl _⟩
theorem nat_stops (p : ESt) : StopsOk p (natT p) (decide ((natV p).length = 0)) := by
  obtain ⟨xs, e⟩ := p
  unfold natT natV
  by_cases he : e = 0
  · subst he
    rw [if_pos rfl]
    by_cases hl : 1 ≤ xs.length ∧ 1 + evl 1 (xs, 0) ≤ xs.length
    · rw [if_pos hl]
      by_cases hb : (nbody (xs, 0))[0]? = some 0
      · rw [if_pos hb, if_neg (fun x => x.2.2.2 hb)]
        exact ⟨fun x => absurd rfl x, fun _ _ => ⟨rfl, rfl⟩, Nat.le_refl _⟩
      · rw [if_neg hb]
        exact ⟨fun x => absurd rfl x, fun _ x => absurd rfl x, by simp⟩
    · rw [if_neg hl, if_neg (fun x => hl ⟨x.2.1, x.2.2.1⟩)]
      exact ⟨fun x => absurd rfl x, fun _ _ => ⟨rfl, rfl⟩, Nat.le_refl _⟩
  · rw [if_neg he, if_neg (fun x => he x.1)]
    exact ⟨fun _ => ⟨rfl, rfl⟩, fun x => absurd x he, Nat.le_refl _⟩
theorem est_one (n : Nat) (xs : List UInt8) (h : (est n (xs, 0)).2 = 0) : xs = be n (evl n (xs, 0)) ++ (est n (xs, 0)).1 := by
  by_cases hl : n ≤ xs.length
  · obtain ⟨h1, h2⟩ := est_ok n xs hl
    rw [h1, h2]
    have := be_num (xs.take n)
    rw [List.length_take, Nat.min_eq_left hl] at this
    rw [this, List.take_append_drop]
  · obtain ⟨h1, h2⟩ := est_short n xs hl
    rw [h1] at h
    cases h
theorem bool_one (xs : List UInt8) (h : (boolS (xs, 0)).2 = 0) : xs = be 1 (if decide (evl 1 (xs, 0) = 1) then 1 else 0) ++ (boolS (xs, 0)).1 := by
  by_cases hb : 1 < evl 1 (xs, 0)
  · unfold boolS at h
    rw [if_pos ⟨rfl, hb⟩] at h
    cases h
  · have hS : boolS (xs, 0) = est 1 (xs, 0) := by
      unfold boolS
      rw [if_neg (fun x => hb x.2)]
    rw [hS] at h ⊢
    have := est_one 1 xs h
    have e : (if decide (evl 1 (xs, 0) = 1) = true then 1 else 0) = evl 1 (xs, 0) := by
      by_cases h1 : evl 1 (xs, 0) = 1
      · simp [h1]
      · simp [h1]; omega
    rw [e]
    exact this
theorem blen_num (bs : List UInt8) (h : bs[0]? ≠ some 0) : blen (num bs) = bs.length := by
  cases bs with
  | nil => rfl
  | cons c cs =>
    have hc : c.toNat ≠ 0 := fun e => h (by
      have : c = 0 := UInt8.toNat_inj.1 (by simpa using e)
      simp [this])
    have h1 : num (c :: cs) < 256 ^ (cs.length + 1) := num_lt (c :: cs)
    have h2 : 256 ^ cs.length ≤ num (c :: cs) := by
      rw [num_cons]
      have : 1 * 256 ^ cs.length ≤ c.toNat * 256 ^ cs.length := Nat.mul_le_mul_right _ (by omega)
      omega
    exact dig_len (by omega) h1 h2
theorem natB_num (bs : List UInt8) (h : bs[0]? ≠ some 0) : natB (num bs) = bs := by
  unfold natB
  rw [blen_num bs h, be_num]
theorem nbody_len (xs : List UInt8) (h : 1 + evl 1 (xs, 0) ≤ xs.length) : (nbody (xs, 0)).length = evl 1 (xs, 0) := by
  unfold nbody
  rw [List.length_take, List.length_drop]
  simp only
  omega
theorem nat_one (xs : List UInt8) (h : (natT (xs, 0)).2 = 0) : xs = natL (dval 18446744073709551616 (natV (xs, 0))) ++ (natT (xs, 0)).1 ∧ blen (dval 18446744073709551616 (natV (xs, 0))) ≤ 255 := by
  unfold natT natV at *
  rw [if_pos rfl] at h ⊢
  by_cases hl : 1 ≤ xs.length ∧ 1 + evl 1 (xs, 0) ≤ xs.length
  · rw [if_pos hl] at h ⊢
    by_cases hb : (nbody (xs, 0))[0]? = some 0
    · rw [if_pos hb] at h; cases h
    · rw [if_neg hb, if_pos ⟨rfl, hl.1, hl.2, hb⟩, dval_dig (by omega)]
      have hn := nbody_len xs hl.2
      have hlt : evl 1 (xs, 0) < 256 := by have := rtake_lt 1 xs 0; simpa [evl] using this
      have hbl := blen_num _ hb
      refine ⟨?_, by rw [hbl, hn]; omega⟩
      unfold natL
      rw [hbl, hn, natB_num _ hb]
      have h1 := est_one 1 xs (by rw [(est_ok 1 xs hl.1).1])
      rw [(est_ok 1 xs hl.1).1] at h1
      have h2 : xs.drop 1 = nbody (xs, 0) ++ xs.drop (1 + evl 1 (xs, 0)) := by
        unfold nbody
        rw [← List.drop_drop, List.take_append_drop]
      rw [List.append_assoc, ← h2]
      exact h1
  · rw [if_neg hl] at h; cases h
theorem est_back (n x : Nat) (ys : List UInt8) (hx : x < 256 ^ n) : est n (be n x ++ ys, 0) = (ys, 0) ∧ evl n (be n x ++ ys, 0) = x := by
  obtain ⟨h1, h2⟩ := est_ok n (be n x ++ ys) (by rw [List.length_append, be_length]; omega)
  rw [h1, h2, List.drop_left' (be_length n x), List.take_left' (be_length n x), num_be, Nat.mod_eq_of_lt hx]
  exact ⟨rfl, rfl⟩
theorem bool_back (b : Bool) (ys : List UInt8) : boolS (be 1 (if b = true then 1 else 0) ++ ys, 0) = (ys, 0) ∧ decide (evl 1 (be 1 (if b = true then 1 else 0) ++ ys, 0) = 1) = b := by
  obtain ⟨h1, h2⟩ := est_back 1 (if b = true then 1 else 0) ys (by split <;> simp)
  unfold boolS
  rw [h2, if_neg (fun x => by have := x.2; split at this <;> omega), h1]
  exact ⟨rfl, by cases b <;> simp⟩
theorem blen_first (N : Nat) : (natB N)[0]? ≠ some 0 := by
  intro h
  unfold natB blen at h
  have hlt := dig_lt (B := 256) (by omega) N
  have hv := dval_dig (B := 256) (by omega) N
  generalize hds : dig 256 N = ds at *
  have hs : strip ds = ds := by rw [← hds]; exact strip_strip _
  rcases List.eq_nil_or_concat ds with rfl | ⟨es, d, rfl⟩
  · simp [be] at h
  · have hd : d ≠ 0 := by
      rintro rfl
      have : strip (es ++ [0]) = strip es := strip_append_zero es [0] (fun x hx => by simpa using hx)
      have hl := strip_length_le es
      simp only [List.concat_eq_append] at hs
      rw [this] at hs
      rw [hs] at hl
      simp at hl
      omega
    simp only [List.concat_eq_append, List.length_append, List.length_singleton, be, List.getElem?_cons_zero, Option.some.injEq] at h
    have h2 := congrArg UInt8.toNat h
    rw [UInt8.toNat_ofNat'] at h2
    simp only [List.concat_eq_append, dval_snoc] at hv
    have h3 := dval_lt (B := 256) (ds := es) (fun x hx => hlt x (by simp [hx]))
    have h4 := hlt d (by simp)
    have h5 : N / 256 ^ es.length = d := by
      rw [← hv, Nat.add_mul_div_left _ _ (Nat.pow_pos (by omega)), Nat.div_eq_of_lt h3, Nat.zero_add]
    rw [h5, Nat.mod_eq_of_lt h4] at h2
    exact hd (by simpa using h2)
theorem num_natB (N : Nat) : num (natB N) = N := by
  unfold natB blen
  rw [num_be]
  have h := dval_lt (B := 256) (ds := dig 256 N) (dig_lt (by omega) N)
  rw [dval_dig (by omega)] at h
  exact Nat.mod_eq_of_lt h
theorem nat_back (N : Nat) (ys : List UInt8) (h : blen N ≤ 255) : natT (natL N ++ ys, 0) = (ys, 0) ∧ natV (natL N ++ ys, 0) = dig 18446744073709551616 N := by
  obtain ⟨h1, h2⟩ := est_back 1 (blen N) (natB N ++ ys) (by omega)
  have e : natL N ++ ys = be 1 (blen N) ++ (natB N ++ ys) := by simp [natL]
  rw [e]
  have hb : nbody (be 1 (blen N) ++ (natB N ++ ys), 0) = natB N := by
    unfold nbody
    rw [h2]
    simp only
    rw [List.drop_left' (be_length _ _), List.take_left' (natB_length N)]
  have hl : (be 1 (blen N) ++ (natB N ++ ys)).length = 1 + (blen N + ys.length) := by
    rw [List.length_append, List.length_append, be_length, natB_length]
  unfold natT natV
  rw [h2, hb, num_natB]
  simp only [hl]
  rw [if_pos trivial, if_pos (by omega), if_neg (blen_first N), if_pos ⟨trivial, by omega, by omega, blen_first N⟩]
  refine ⟨?_, rfl⟩
  rw [← List.drop_drop, List.drop_left' (be_length _ _), List.drop_left' (natB_length N)]
end Go.Proofs.Ytglkmaalpammcaa

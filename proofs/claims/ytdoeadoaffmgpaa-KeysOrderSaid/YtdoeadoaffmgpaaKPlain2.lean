/- Plain laws of the order of byte lists: numbers laid highest byte first stand in their order; what Next tells; keys of one kind. -/
import Derived.Test.YtdoeadoaffmgpaaKPlain
import Derived.Test.YtdoeadoaffmgpaaKNum
import Derived.Test.YtdoeadoaffmgpaaHLess
namespace Go.Proofs.Ytdoeadoaffmgpaa
open Go.Gl Go.RowKit
set_option linter.unusedVariables false

theorem lessB_same (p xs ys : List UInt8) : lessB (p ++ xs) (p ++ ys) = lessB xs ys := by
  induction p with
  | nil => rfl
  | cons c p ih => simpa [lessB] using ih

theorem lessB_self (xs : List UInt8) : lessB xs xs = false := by
  induction xs with
  | nil => rfl
  | cons c p ih => simpa [lessB] using ih

theorem be_split (n a b : Nat) (ha : a < 256 ^ (n + 1)) (hb : b < 256 ^ (n + 1)) : a / 256 ^ n < 256 ∧ b / 256 ^ n < 256 := by
  rw [Nat.pow_succ] at ha hb
  exact ⟨Nat.div_lt_of_lt_mul (by rw [Nat.mul_comm]; exact ha |> fun h => by rwa [Nat.mul_comm] at h ⊢), Nat.div_lt_of_lt_mul (by rwa [Nat.mul_comm] at hb ⊢)⟩

theorem be_mod (n a : Nat) : be n (a % 256 ^ n) = be n a := by
  have h := be_num (be n a)
  rw [be_length, num_be] at h
  exact h

theorem lessB_be (n a b : Nat) (xs ys : List UInt8) (ha : a < 256 ^ n) (hb : b < 256 ^ n) : lessB (be n a ++ xs) (be n b ++ ys) = if a = b then lessB xs ys else decide (a < b) := by
  induction n generalizing a b with
  | zero =>
    simp at ha hb
    subst ha hb
    simp [be]
  | succ n ih =>
    obtain ⟨h1, h2⟩ := be_split n a b ha hb
    have hp : 0 < 256 ^ n := Nat.pow_pos (by decide)
    have da := Nat.div_add_mod a (256 ^ n)
    have db := Nat.div_add_mod b (256 ^ n)
    have ma := Nat.mod_lt a hp
    have mb := Nat.mod_lt b hp
    simp only [be, List.cons_append, lessB, ← UInt8.toNat_inj, UInt8.toNat_ofNat']
    rw [show a / 256 ^ n % 2 ^ 8 = a / 256 ^ n from Nat.mod_eq_of_lt h1, show b / 256 ^ n % 2 ^ 8 = b / 256 ^ n from Nat.mod_eq_of_lt h2]
    by_cases he : a / 256 ^ n = b / 256 ^ n
    · rw [if_pos he, ← be_mod n a, ← be_mod n b, ih _ _ ma mb]
      rw [he] at da
      by_cases hm : a % 256 ^ n = b % 256 ^ n
      · rw [if_pos hm, if_pos (by omega)]
      · rw [if_neg hm, if_neg (by intro h; exact hm (by rw [h]))]
        exact decide_eq_decide.2 (by omega)
    · rw [if_neg he, if_neg (by intro h; exact he (by rw [h]))]
      have key : ∀ x y : Nat, x / 256 ^ n < y / 256 ^ n → x < y := fun x y h => by
        rcases Nat.lt_or_ge x y with h1 | h1
        · exact h1
        · have := Nat.div_le_div_right (c := 256 ^ n) h1; omega
      refine decide_eq_decide.2 ⟨fun h => key a b h, fun h => ?_⟩
      rcases Nat.lt_or_ge (a / 256 ^ n) (b / 256 ^ n) with h3 | h3
      · exact h3
      · exact absurd (key b a (by omega)) (by omega)

/-- Keys of one kind stand in the order of A, then B; of the index the greater A first. -/
def kless (k : Int) (a b c d : Nat) : Bool := if k = 10 then decide (a > c) || (decide (a = c) && decide (b < d)) else decide (a < c) || (decide (a = c) && decide (b < d))

theorem kless_ok {k : Int} {a b c d : Nat} {x y : List UInt8} (hx : kmake k a b = some x) (hy : kmake k c d = some y) (ha : a ≤ maxU) (hb : b ≤ maxU) (hc : c ≤ maxU) (hd : d ≤ maxU) : lessB x y = kless k a b c d := by
  obtain ⟨f, hf, h1, rfl⟩ := kmake_form hx
  obtain ⟨f', hf', h2, rfl⟩ := kmake_form hy
  rw [hf] at hf'
  cases hf'
  have hk := kmake_range hx
  obtain ⟨n, rfl⟩ := Int.eq_ofNat_of_zero_le (a := k) (by omega)
  rw [Int.toNat_natCast] at hf
  have ht : (n = 10 ↔ f.turned = true) := by
    obtain ⟨r1, r2⟩ := kform_range' hf
    have : n = 1 ∨ n = 2 ∨ n = 3 ∨ n = 4 ∨ n = 5 ∨ n = 6 ∨ n = 7 ∨ n = 8 ∨ n = 9 ∨ n = 10 ∨ n = 11 ∨ n = 12 ∨ n = 13 ∨ n = 14 ∨ n = 15 ∨ n = 16 ∨ n = 17 := by omega
    rcases this with rfl | rfl | rfl | rfl | rfl | rfl | rfl | rfl | rfl | rfl | rfl | rfl | rfl | rfl | rfl | rfl | rfl <;> cases hf <;> decide
  obtain ⟨hta, hba⟩ := kform_turn hf
  have pw : (256 : Nat) ^ 8 = 18446744073709551616 := by decide
  unfold maxU at ha hb hc hd
  obtain ⟨hdd, md, fa, fb, ft⟩ := f
  simp only [kfit, Bool.and_eq_true, Bool.or_eq_true, decide_eq_true_eq] at h1 h2
  unfold kless
  simp only [show ((n : Int) = 10 ↔ n = 10) from by omega]
  cases fa
  · have hbf : fb = false := by cases fb; rfl; exact absurd (hba rfl) (by simp)
    have htf : ft = false := by cases ft; rfl; exact absurd (hta rfl) (by simp)
    subst hbf htf
    simp at h1 h2
    obtain ⟨rfl, rfl⟩ := h1
    obtain ⟨rfl, rfl⟩ := h2
    rw [lessB_self]
    simp
  · have hA : lessB (kbytes ⟨hdd, md, true, fb, ft⟩ a b) (kbytes ⟨hdd, md, true, fb, ft⟩ c d) = if kturn ⟨hdd, md, true, fb, ft⟩ a = kturn ⟨hdd, md, true, fb, ft⟩ c then lessB (if fb = true then be 8 b else []) (if fb = true then be 8 d else []) else decide (kturn ⟨hdd, md, true, fb, ft⟩ a < kturn ⟨hdd, md, true, fb, ft⟩ c) := by
      have h1 := kturn_le ⟨hdd, md, true, fb, ft⟩ a ha
      have h2 := kturn_le ⟨hdd, md, true, fb, ft⟩ c hc
      simp only [kbytes, kfirst, if_true, List.append_assoc]
      rw [lessB_same, lessB_be 8 _ _ _ _ (by omega) (by omega)]
      split
      · rw [lessB_same]
      · rfl
    rw [hA]
    have hB : lessB (if fb = true then be 8 b else []) (if fb = true then be 8 d else []) = decide (b < d) := by
      cases fb
      · simp at h1 h2
        subst h1 h2
        simp [lessB]
      · have := lessB_be 8 b d [] [] (by omega) (by omega)
        simp only [List.append_nil] at this
        simp only [if_true]
        rw [this]
        split
        · simp [lessB, *]
        · rfl
    rw [hB]
    cases ft
    · have hn : ¬ n = 10 := fun h => by have := ht.1 h; cases this
      simp only [hn, if_false, kturn]
      by_cases hac : a = c
      · subst hac; simp
      · simp [hac]
    · have hn : n = 10 := ht.2 rfl
      simp only [hn, if_true, kturn]
      by_cases hac : a = c
      · subst hac; simp
      · rw [if_neg (by omega)]
        simp only [hac, decide_false, Bool.false_and, Bool.or_false]
        exact decide_eq_decide.2 (by omega)

/-- No key is another one's beginning. -/
theorem kmake_prefix {k k' : Int} {a b c d : Nat} {x y : List UInt8} (hx : kmake k a b = some x) (hy : kmake k' c d = some y) (h : y <+: x) : x = y := by
  have r := kmake_range hx
  have r' := kmake_range hy
  obtain ⟨n, rfl⟩ := Int.eq_ofNat_of_zero_le (a := k) (by omega)
  obtain ⟨n', rfl⟩ := Int.eq_ofNat_of_zero_le (a := k') (by omega)
  obtain ⟨f, hf, _, _⟩ := kmake_form hx
  obtain ⟨f', hf', _, _⟩ := kmake_form hy
  rw [Int.toNat_natCast] at hf hf'
  have t := kmake_tag hf hx
  have t' := kmake_tag hf' hy
  obtain ⟨z, rfl⟩ := h
  have l1 : ∀ {m : Nat} {g : KForm} {A B : Nat} {w : List UInt8}, kform m = some g → kmake (m : Int) A B = some w → w.length = (kbytes g 0 0).length ∧ 1 ≤ w.length ∧ (g.head.toNat = 118 → 10 ≤ w.length) := by
    intro m g A B w hg hw
    obtain ⟨g', hg', _, rfl⟩ := kmake_form hw
    rw [Int.toNat_natCast, hg] at hg'
    cases hg'
    obtain ⟨r1, r2⟩ := kform_range' hg
    have : m = 1 ∨ m = 2 ∨ m = 3 ∨ m = 4 ∨ m = 5 ∨ m = 6 ∨ m = 7 ∨ m = 8 ∨ m = 9 ∨ m = 10 ∨ m = 11 ∨ m = 12 ∨ m = 13 ∨ m = 14 ∨ m = 15 ∨ m = 16 ∨ m = 17 := by omega
    rcases this with rfl | rfl | rfl | rfl | rfl | rfl | rfl | rfl | rfl | rfl | rfl | rfl | rfl | rfl | rfl | rfl | rfl <;> cases hg <;> simp [kbytes, kfirst, be_length]
  obtain ⟨e1, p1, q1⟩ := l1 hf hx
  obtain ⟨e2, p2, q2⟩ := l1 hf' hy
  have hh : (y ++ z).getD 0 0 = y.getD 0 0 := by
    simp only [List.getD]
    rw [List.getElem?_append_left (by omega)]
  simp only [ktag, Prod.mk.injEq, and_true] at t t'
  rw [hh] at t
  have hk : n = n' := by
    refine kform_tag hf hf' (t.1.symm.trans t'.1) ?_
    rw [← t.2, ← t'.2]
    by_cases h118 : (y.getD 0 0).toNat = 118
    · have h10 : 10 ≤ y.length := q2 (by rw [← t'.1]; exact h118)
      simp only [List.getD]
      rw [List.getElem?_append_left (by omega)]
    · rw [if_neg h118, if_neg h118]
  subst hk
  rw [hf] at hf'
  cases hf'
  have : z.length = 0 := by
    have := e1.trans e2.symm
    rw [List.length_append] at this
    omega
  rw [List.eq_nil_of_length_eq_zero this, List.append_nil]

/-- What Next tells of bytes: it stands above all that begin with them, and not above anything else that is above them. -/
theorem knext_nil {b : List UInt8} (h : knext b = []) : ∀ i (hi : i < b.length), (b[i]).toNat = 255 := by
  have h0 : kcut b b.length = 0 := by
    unfold knext at h
    split at h
    · assumption
    · simp at h
  have key : ∀ n, n ≤ b.length → kcut b n = 0 → ∀ i (hi : i < n) (hb : i < b.length), (b[i]).toNat = 255 := by
    intro n
    induction n with
    | zero => intro _ _ i hi; omega
    | succ n ih =>
      intro hn hz i hi hb
      rw [kcut] at hz
      split at hz
      · rename_i he
        by_cases hin : i = n
        · subst hin
          rw [List.getElem?_eq_getElem hb] at he
          rw [Option.some.inj he]
          rfl
        · exact ih (by omega) hz i (by omega) hb
      · omega
  exact fun i hi => key b.length (Nat.le_refl _) h0 i hi hi

theorem knext_some {b : List UInt8} (h : knext b ≠ []) : ∃ p c q, b = p ++ c :: q ∧ c.toNat < 255 ∧ (∀ x ∈ q, x.toNat = 255) ∧ knext b = p ++ [c + 1] := by
  have hc : ∃ m, kcut b b.length = m + 1 := by
    cases hk : kcut b b.length with
    | zero => exact absurd (by unfold knext; rw [hk]) h
    | succ m => exact ⟨m, rfl⟩
  obtain ⟨m, hm⟩ := hc
  obtain ⟨hml, hne⟩ := kcut_at b b.length m hm (Nat.le_refl _)
  refine ⟨b.take m, b[m], b.drop (m + 1), ?_, ?_, ?_, ?_⟩
  · rw [← List.drop_eq_getElem_cons hml, List.take_append_drop]
  · have := (b[m]).toNat_lt
    have h2 : (b[m]).toNat ≠ 255 := fun e => hne (UInt8.toNat_inj.1 e)
    omega
  · have key : ∀ n, n ≤ b.length → kcut b n = m + 1 → ∀ i (hi : m < i) (hin : i < n) (hb : i < b.length), (b[i]).toNat = 255 := by
      intro n
      induction n with
      | zero => intro _ _ i _ hi; omega
      | succ n ih =>
        intro hn hz i hmi hi hb
        rw [kcut] at hz
        split at hz
        · rename_i he
          by_cases hin : i = n
          · subst hin
            rw [List.getElem?_eq_getElem hb] at he
            rw [Option.some.inj he]
            rfl
          · exact ih (by omega) hz i hmi (by omega) hb
        · omega
    intro x hx
    obtain ⟨j, hj, rfl⟩ := List.getElem_of_mem hx
    rw [List.getElem_drop]
    rw [List.length_drop] at hj
    exact key b.length (Nat.le_refl _) hm (m + 1 + j) (by omega) (by omega) (by omega)
  · unfold knext
    rw [hm]
    simp [List.getD, List.getElem?_eq_getElem hml]

theorem add_one_toNat {c : UInt8} (h : c.toNat < 255) : (c + 1).toNat = c.toNat + 1 := by
  simp
  omega

theorem knext_above {b : List UInt8} (h : knext b ≠ []) : lessB b (knext b) = true ∧ ¬ b <+: knext b := by
  obtain ⟨p, c, q, hb, hc, hq, hn⟩ := knext_some h
  have h1 := add_one_toNat hc
  rw [hn]
  subst hb
  refine ⟨?_, ?_⟩
  · rw [lessB_same]
    simp only [lessB, ← UInt8.toNat_inj, h1]
    rw [if_neg (by omega)]
    simp
  · rw [List.prefix_append_right_inj]
    intro hp
    rw [List.cons_prefix_cons] at hp
    have := congrArg UInt8.toNat hp.1
    omega

theorem lessB_trans_prefix {b c : List UInt8} (h : b <+: c) (hn : knext b ≠ []) : lessB c (knext b) = true := by
  obtain ⟨p, x, q, hb, hx, hq, hk⟩ := knext_some hn
  have h1 := add_one_toNat hx
  obtain ⟨z, rfl⟩ := h
  rw [hk]
  subst hb
  rw [List.append_assoc, lessB_same]
  simp only [List.cons_append, lessB, ← UInt8.toNat_inj, h1]
  rw [if_neg (by omega)]
  simp

theorem all255 : ∀ (q c : List UInt8), (∀ x ∈ q, x.toNat = 255) → lessB c q = false → q <+: c
  | [], c, _, _ => List.nil_prefix
  | x :: q, [], _, h => by simp [lessB] at h
  | x :: q, y :: c, hq, h => by
    simp only [lessB] at h
    have hx : x.toNat = 255 := hq x (by simp)
    split at h
    · rename_i he
      subst he
      exact List.cons_prefix_cons.2 ⟨rfl, all255 q c (fun z hz => hq z (by simp [hz])) h⟩
    · rename_i hne
      have := y.toNat_lt
      have h2 : y.toNat ≠ 255 := fun e => hne (UInt8.toNat_inj.1 (e.trans hx.symm))
      simp at h
      omega

theorem knext_least {b c : List UInt8} (hn : knext b ≠ []) (h1 : ¬ b <+: c) (h2 : lessB c b = false) : lessB c (knext b) = false := by
  obtain ⟨p, x, q, hb, hx, hq, hk⟩ := knext_some hn
  have hx1 := add_one_toNat hx
  rw [hk]
  subst hb
  clear hn hk
  induction p generalizing c with
  | nil =>
    simp only [List.nil_append] at h1 h2 ⊢
    cases c with
    | nil => simp [lessB] at h2
    | cons y c =>
      simp only [lessB] at h2 ⊢
      split at h2
      · rename_i he
        subst he
        exact absurd (List.cons_prefix_cons.2 ⟨rfl, all255 q c hq h2⟩) h1
      · rename_i hne
        simp at h2
        have h3 : y.toNat ≠ x.toNat := fun e => hne (UInt8.toNat_inj.1 e)
        split
        · cases c <;> rfl
        · simp only [hx1, decide_eq_false_iff_not]
          omega
  | cons z p ih =>
    cases c with
    | nil => simp [lessB] at h2
    | cons y c =>
      simp only [List.cons_append, lessB] at h2 ⊢
      split at h2
      · rename_i he
        subst he
        rw [if_pos rfl]
        exact ih (fun hp => h1 (List.cons_prefix_cons.2 ⟨rfl, hp⟩)) h2
      · rename_i hne
        rw [if_neg hne]
        exact h2

end Go.Proofs.Ytdoeadoaffmgpaa

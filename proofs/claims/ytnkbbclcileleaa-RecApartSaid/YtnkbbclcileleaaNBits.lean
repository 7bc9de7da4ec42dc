/- How many bits and bytes a number has; nat.Bits. -/
import Derived.Test.YtnkbbclcileleaaNTrim
import Derived.Test.YtnkbbclcileleaaLen64
import Derived.Lib.ItoaNum
namespace Go.Gl

theorem dval_snoc (B : Nat) (ds : List Nat) (d : Nat) : dval B (ds ++ [d]) = dval B ds + B ^ ds.length * d := by
  rw [dval_append]; simp [dval]

/-- how many bytes a number has -/
def blen (N : Nat) : Nat := (dig 256 N).length
/-- its bytes, the highest first -/
def natB (N : Nat) : List UInt8 := be (blen N) N

theorem dig_len {B n N : Nat} (hB : 1 < B) (h1 : N < B ^ (n + 1)) (h2 : B ^ n ≤ N) : (dig B N).length = n + 1 := by
  have hp : 0 < B ^ n := Nat.pow_pos (by omega)
  have hq : N / B ^ n % B ≠ 0 := by
    have h3 : 1 ≤ N / B ^ n := (Nat.one_le_div_iff hp).2 h2
    have h4 : N / B ^ n < B := Nat.div_lt_of_lt_mul (by rw [Nat.pow_succ] at h1; exact h1)
    rw [Nat.mod_eq_of_lt h4]
    omega
  have h5 : ldig B (n + 1) N = (ldig B (n + 1) N).take n ++ [N / B ^ n % B] := by
    have hl := ldig_length B (n + 1) N
    have hg := ldig_get B (n + 1) N n (by omega)
    have hlt : n < (ldig B (n + 1) N).length := by omega
    rw [List.getElem?_eq_getElem hlt] at hg
    have := List.take_succ_eq_append_getElem hlt
    rw [List.take_of_length_le (by omega), Option.some.inj hg] at this
    exact this
  rw [dig_ldig hB h1, h5, strip_last hq]
  simp [ldig_length]

theorem dig_zero (B : Nat) : dig B 0 = [] := rfl

theorem bitLen_bounds {x : Nat} (h : x ≤ 18446744073709551615) (h0 : x ≠ 0) : 1 ≤ Lib.bitLen x ∧ Lib.bitLen x ≤ 64 ∧ 2 ^ (Lib.bitLen x - 1) ≤ x ∧ x < 2 ^ Lib.bitLen x := by
  have e : (2 : Nat) ^ 64 = 18446744073709551616 := by decide
  obtain ⟨h1, h2, h3⟩ := Lib.bitLenAux_bounds 64 x (by omega) h0
  exact ⟨h1, Lib.bitLenAux_le 64 x 64 (by omega), h2, h3⟩

/-- the bits of limbs without noughts at the top: their bytes are as many as the number's -/
theorem bytes_of_bits {ds : List Nat} {d : Nat} (hl : Lim (ds ++ [d])) (hd : d ≠ 0) : (64 * ds.length + Lib.bitLen d + 7) / 8 = blen (dval 18446744073709551616 (ds ++ [d])) := by
  have hdl : d ≤ 18446744073709551615 := hl d (by simp)
  obtain ⟨h1, h2, h3, h4⟩ := bitLen_bounds hdl hd
  have hs : dval 18446744073709551616 ds < 18446744073709551616 ^ ds.length := dval_lt (fun x hx => by have := hl x (by simp [hx]); omega)
  have e64 : (18446744073709551616 : Nat) = 2 ^ 64 := by decide
  generalize hm : ds.length = m at *
  generalize hb : Lib.bitLen d = b at *
  have hN := dval_snoc 18446744073709551616 ds d
  rw [hm] at hN
  generalize dval 18446744073709551616 (ds ++ [d]) = N at *
  generalize dval 18446744073709551616 ds = R at *
  rw [e64, ← Nat.pow_mul] at hN hs
  -- 2 ^ (64 m + b - 1) ≤ N < 2 ^ (64 m + b)
  have lo : 2 ^ (64 * m + (b - 1)) ≤ N := by
    rw [hN, Nat.pow_add]
    have := Nat.mul_le_mul_left (2 ^ (64 * m)) h3
    omega
  have hi : N < 2 ^ (64 * m + b) := by
    rw [hN, Nat.pow_add]
    have h5 : 2 ^ (64 * m) * (d + 1) ≤ 2 ^ (64 * m) * 2 ^ b := Nat.mul_le_mul_left _ h4
    rw [Nat.mul_add, Nat.mul_one] at h5
    omega
  obtain ⟨n, hn⟩ : ∃ n, (64 * m + b + 7) / 8 = n + 1 := ⟨(64 * m + b + 7) / 8 - 1, by omega⟩
  rw [hn]
  have e256 : (256 : Nat) = 2 ^ 8 := by decide
  refine (dig_len (B := 256) (by decide) ?_ ?_).symm
  · rw [e256, ← Nat.pow_mul]
    exact Nat.lt_of_lt_of_le hi (Nat.pow_le_pow_right (by decide) (by omega))
  · rw [e256, ← Nat.pow_mul]
    exact Nat.le_trans (Nat.pow_le_pow_right (by decide) (by omega)) lo

end Go.Gl
namespace Go.Proofs.Ytnkbbclcileleaa
open Go.Gl Go.RowKit
set_option linter.unusedVariables false
set_option maxRecDepth 100000

/-- what Bits tells, but for its round to bytes: told by the number of bytes -/
def BitsOf (ls : List Nat) (b : Nat) : Prop := (b + 7) / 8 = blen (dval 18446744073709551616 ls) ∧ b ≤ 64 * ls.length

theorem Bits_any {w : World} {v : Value} {ls : List Nat} (h : RN w v ls) (hL : Lim ls) (hl : ls.length ≤ 17592186044416) : Calls Try.prog 59 #[v] w fun e w' => (∃ b : Nat, BitsOf ls b ∧ e = .returned (.int .i64 b)) ∧ w' = w := by
  have H := Lib.hid h
  have HL := Lib.hid hL
  have hsl := strip_length_le ls
  clear h hL
  go_enter Try.func59, Try.ntmps59
  go_wp2_with fail
  refine (trim_any H.out).mono ?_
  rintro e w' ⟨⟨v1, rfl, hr, hb⟩, rfl⟩
  obtain ⟨a, c, rfl, _⟩ := RdM.form hr
  obtain ⟨h1, h2, h3, h4⟩ := RN.cells hr
  rcases List.eq_nil_or_concat (strip ls) with hs | ⟨ds, d, hs⟩
  · have HS := Lib.hid hs
    rw [hs] at h4 ⊢
    simp only [List.length_nil]
    clear hr hb h1 h2 h4 hs hsl
    go_wp2
    go_ret
    refine ⟨⟨0, ⟨?_, by omega⟩, rfl⟩, rfl⟩
    have : dval 18446744073709551616 ls = 0 := by rw [← dval_strip, HS.out]; rfl
    rw [this]
    rfl
  · rw [List.concat_eq_append] at hs
    have HS := Lib.hid hs
    have hd : d ≠ 0 := by
      intro hd
      have h5 := strip_strip ls
      rw [hs, hd, strip_append_zero ds [0] (by simp)] at h5
      have h6 := strip_length_le ds
      have h7 := congrArg List.length h5
      rw [List.length_append, List.length_singleton] at h7
      omega
    have hlim : Lim (ds ++ [d]) := fun x hx => HL.out x (strip_mem (hs ▸ hx))
    have hdl : d ≤ 18446744073709551615 := hlim d (by simp)
    have hB := Lib.hid (bytes_of_bits hlim hd)
    obtain ⟨hb1, hb2, _, _⟩ := bitLen_bounds hdl hd
    have hll : (strip ls).length = ds.length + 1 := by rw [hs]; simp
    obtain ⟨g, off, rfl, hc⟩ := h4.resolve_left (by omega)
    have c1 := hc ds.length (by omega)
    have hget : (strip ls)[ds.length]'(by omega) = d := by simp [hs]
    rw [hget] at c1
    rw [hll] at hsl ⊢
    have hk := Lib.hid (Try.bits_Len64 (d : Int))
    clear hr hb h1 h2 hc hs hget hll hlim hd h3
    generalize ds.length = m at *
    go_wp2_with (go_at_call 80; refine (hk.out _ (by omega) (by omega)).mono ?_; rw [Int.toNat_natCast]; rintro e w' ⟨rfl, rfl⟩)
    go_ret
    refine ⟨⟨64 * m + Lib.bitLen d, ⟨?_, by omega⟩, ?_⟩, rfl⟩
    · rw [hB.out, ← dval_strip _ ls, HS.out]
    · simp

end Go.Proofs.Ytnkbbclcileleaa

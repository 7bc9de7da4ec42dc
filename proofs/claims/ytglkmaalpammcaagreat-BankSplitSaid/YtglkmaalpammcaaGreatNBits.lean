/- How many bits and bytes a number has; nat.Bits. -/
import Derived.Test.YtglkmaalpammcaaGreatNTrim
import Derived.Test.YtglkmaalpammcaaGreatLen64
import Derived.Lib.ItoaNum
namespace Go.Gl
theorem dval_snoc (B : Nat) (ds : List Nat) (d : Nat) : dval B (ds ++ [d]) = dval B ds + B ^ ds.length * d := by
  rw [dval_append]; simp [dval]
def blen (N : Nat) : Nat := (dig 256 N).length
def natB (N : Nat) : List UInt8 := be (blen N) N
theorem dig_len {B n N : Nat} (hB : 1 < B) (h1 : N < B ^ (n + 1)) (h2 : B ^ n ≤ N) : (dig B N).length = n + 1 := by
  have hp : 0 < B ^ n := Nat.pow_pos (by omega)
  have hq : N / B ^ n % B ≠ 0 := by
    have h3 : 1 ≤ N / B ^ n := (Nat.one_le_div_iff hp).2 h2
    have h4 : N / B ^ n < B := Nat.div_lt_of_lt_mul (by rw [Nat.pow_succ] at h1; exact h1)
    rw [Nat.mod_eq_of_lt h4]
    omega
  have h5 : ldig B (n + 1) N = (ldig B (n + 1) N).take n ++ [N / B ^ n % B] := by
    have hl := ldig_length B (n + 1) N
    have hg := ldig_get B (n + 1) N n (by omega)
    have hlt : n < (ldig B (n + 1) N).length := by omega
    rw [List.getElem?_eq_getElem hlt] at hg
    have := List.take_succ_eq_append_getElem hlt
    rw [List.take_of_length_le (by omega), Option.some.inj hg] at this
    exact this
  rw [dig_ldig hB h1, h5, strip_last hq]
  simp [ldig_length]
end Go.Gl
namespace Go.Proofs.YtglkmaalpammcaaGreat
open Go.Gl Go.RowKit
set_option linter.unusedVariables false
set_option maxRecDepth 100000
end Go.Proofs.YtglkmaalpammcaaGreat

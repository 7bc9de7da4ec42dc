/- gleanref7.Make at every key; gleanref7.Of, Under, Val. -/
import Derived.Test.YtglkmaalpammcaaGreatRMake
namespace Go.Proofs.YtglkmaalpammcaaGreat
open Go.Gl Go.RowKit
set_option linter.unusedVariables false
set_option maxHeartbeats 1000000 in
theorem RMake_no2 (k a b : Nat) (f : KForm) (w : World) (hf : kform k = some f) (hh : f.head.toNat ≠ 0) (hba : f.b = true → f.a = true) (hn : kfit f a b = false) :
  Calls Tryz.prog 120 #[.agg #[.int .i64 k, .int .u64 a, .int .u64 b]] w (KRes w [] 70) := by
 obtain ⟨hd, md, fa, fb, ft⟩ := f
 have HF := Lib.hid hf
 have hh2 : (((hd.toNat : Nat) : Int) == 0) = false := by simpa using hh
 clear hf hh
 cases fa <;> cases fb <;> simp [kfit] at hn hba
 ·by_cases ha : a = 0
  ·have hb := hn ha
   subst ha
   have hb2 : (((b : Nat) : Int) != 0) = true := by simp [hb]
   clear hn hb
   go_enter Tryz.func120, Tryz.ntmps120
   go_wp2_with (first | (go_at_call 198; refine (rform_yes _ _ _ HF.out).mono ?_; rintro e w1 ⟨rfl, rfl⟩; simp only [kcount]))
   go_returns
   exact KRes.nil (by repeat' (first | (with_reducible exact Mods.refl _ _) | (with_reducible assumption) | (with_reducible refine Mods.alloc ?_ _) | (with_reducible refine Mods.drew ?_) | (with_reducible refine Mods.drewN ?_ _) | (with_reducible refine Mods.regrown ?_ _ _) | (with_reducible refine Mods.setCell ?_ ?_ _) | (refine .inr ?_; first | (simp; done) | (simp; omega) | omega)))
  ·have ha2 : (((a : Nat) : Int) != 0) = true := by simp [ha]
   clear hn ha
   go_enter Tryz.func120, Tryz.ntmps120
   go_wp2_with (first | (go_at_call 198; refine (rform_yes _ _ _ HF.out).mono ?_; rintro e w1 ⟨rfl, rfl⟩; simp only [kcount]))
   go_returns
   exact KRes.nil (by repeat' (first | (with_reducible exact Mods.refl _ _) | (with_reducible assumption) | (with_reducible refine Mods.alloc ?_ _) | (with_reducible refine Mods.drew ?_) | (with_reducible refine Mods.drewN ?_ _) | (with_reducible refine Mods.regrown ?_ _ _) | (with_reducible refine Mods.setCell ?_ ?_ _) | (refine .inr ?_; first | (simp; done) | (simp; omega) | omega)))
 ·have hb2 : (((b : Nat) : Int) != 0) = true := by simp [hn]
  clear hn
  go_enter Tryz.func120, Tryz.ntmps120
  go_wp2_with (first | (go_at_call 198; refine (rform_yes _ _ _ HF.out).mono ?_; rintro e w1 ⟨rfl, rfl⟩; simp only [kcount]))
  go_returns
  exact KRes.nil (by repeat' (first | (with_reducible exact Mods.refl _ _) | (with_reducible assumption) | (with_reducible refine Mods.alloc ?_ _) | (with_reducible refine Mods.drew ?_) | (with_reducible refine Mods.drewN ?_ _) | (with_reducible refine Mods.regrown ?_ _ _) | (with_reducible refine Mods.setCell ?_ ?_ _) | (refine .inr ?_; first | (simp; done) | (simp; omega) | omega)))
theorem kform_head {k : Nat} {f : KForm} (hf : kform k = some f) : f.head.toNat ≠ 0 ∧ (f.b = true → f.a = true) := by
 obtain ⟨h1, h2⟩ := kform_range hf
 rcases kinds k h1 h2 with rfl | rfl | rfl | rfl | rfl | rfl | rfl | rfl | rfl | rfl | rfl | rfl | rfl | rfl | rfl | rfl | rfl <;> cases hf <;> decide
theorem RMake_yes (k a b : Nat) (f : KForm) (w : World) (hf : kform k = some f) (hn : kfit f a b = true) (ha : a ≤ 18446744073709551615) (hb : b ≤ 18446744073709551615) :
  Calls Tryz.prog 120 #[.agg #[.int .i64 k, .int .u64 a, .int .u64 b]] w (KRes w (kbytes f a b) 0) := by
 obtain ⟨h1, h2⟩ := kform_range hf
 have hf' := hf
 rcases kinds k h1 h2 with rfl | rfl | rfl | rfl | rfl | rfl | rfl | rfl | rfl | rfl | rfl | rfl | rfl | rfl | rfl | rfl | rfl <;> cases hf <;> simp only [kfit, Bool.false_or, Bool.true_or, Bool.and_true, Bool.true_and, Bool.and_eq_true, decide_eq_true_eq] at hn
 ·exact RMake_0010 _ a b _ _ w hf' (by decide) (by decide) (by decide) hn.1 hn.2 ha hb
 ·exact RMake_0010 _ a b _ _ w hf' (by decide) (by decide) (by decide) hn.1 hn.2 ha hb
 ·exact RMake_0010 _ a b _ _ w hf' (by decide) (by decide) (by decide) hn.1 hn.2 ha hb
 ·exact RMake_1010 _ a b _ _ w hf' (by decide) (by decide) (by decide) hn ha hb
 ·exact RMake_1000 _ a b _ _ w hf' (by decide) (by decide) (by decide) hn ha hb
 ·exact RMake_1100 _ a b _ _ w hf' (by decide) (by decide) (by decide) ha hb
 ·exact RMake_1100 _ a b _ _ w hf' (by decide) (by decide) (by decide) ha hb
 ·exact RMake_1100 _ a b _ _ w hf' (by decide) (by decide) (by decide) ha hb
 ·exact RMake_1010 _ a b _ _ w hf' (by decide) (by decide) (by decide) hn ha hb
 ·exact RMake_1111 _ a b _ _ w hf' (by decide) (by decide) (by decide) ha hb
 ·exact RMake_1010 _ a b _ _ w hf' (by decide) (by decide) (by decide) hn ha hb
 ·exact RMake_1010 _ a b _ _ w hf' (by decide) (by decide) (by decide) hn ha hb
 ·exact RMake_1010 _ a b _ _ w hf' (by decide) (by decide) (by decide) hn ha hb
 ·exact RMake_1110 _ a b _ _ w hf' (by decide) (by decide) (by decide) ha hb
 ·exact RMake_1110 _ a b _ _ w hf' (by decide) (by decide) (by decide) ha hb
 ·exact RMake_1110 _ a b _ _ w hf' (by decide) (by decide) (by decide) ha hb
 ·exact RMake_1110 _ a b _ _ w hf' (by decide) (by decide) (by decide) ha hb
theorem RMake_any (n : Int) (a b : Nat) (w : World) (ha : a ≤ 18446744073709551615) (hb : b ≤ 18446744073709551615) :
  Calls Tryz.prog 120 #[.agg #[.int .i64 n, .int .u64 a, .int .u64 b]] w (KRes w ((kmake n a b).getD []) (if (kmake n a b).isSome then 0 else 70)) := by
 by_cases h : n < 1 ∨ 17 < n
 ·have := RMake_no1 n a b w h
  simpa [kmake, kform_none h] using this
 ·obtain ⟨k, rfl⟩ := Int.eq_ofNat_of_zero_le (a := n) (by omega)
  obtain ⟨f, hf, _⟩ := formsV_at k (by omega) (by omega)
  obtain ⟨hh, hba⟩ := kform_head hf
  cases hn : kfit f a b
  ·have := RMake_no2 k a b f w hf hh hba hn
   simpa [kmake, hf, hn] using this
  ·have := RMake_yes k a b f w hf hn ha hb
   simpa [kmake, hf, hn] using this
end Go.Proofs.YtglkmaalpammcaaGreat

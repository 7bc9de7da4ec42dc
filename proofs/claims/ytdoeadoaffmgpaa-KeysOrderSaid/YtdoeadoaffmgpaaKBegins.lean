/- gleanlaw7.begins and gleanhelp.Place. -/
import Derived.Test.YtdoeadoaffmgpaaHBytes
import Derived.Test.YtdoeadoaffmgpaaLib2
namespace Go.Proofs.Ytdoeadoaffmgpaa
open Go.Gl Go.RowKit
set_option linter.unusedVariables false

theorem begins_short (a b : Option Addr) (la ca lb cb : Nat) (w : World) (h : la < lb) (ha : lb ≤ 9223372036854775807) :
    Calls Try.prog 19 #[.slice a la ca, .slice b lb cb] w fun e w' => e = .returned (.bool false) ∧ w' = w := by
  go_enter Try.func19, Try.ntmps19
  go_wp2_with fail
  go_ret
  exact ⟨rfl, rfl⟩

set_option maxHeartbeats 400000 in
theorem begins_any {x y : Value} {xs ys : List UInt8} {w : World} (hx : Rd w x xs) (hy : Rd w y ys) :
    Calls Try.prog 19 #[x, y] w fun e w' => e = .returned (.bool (decide (xs.take ys.length = ys))) ∧ Quiet w w' := by
  by_cases hl : xs.length < ys.length
  · obtain ⟨a, ca, rfl, h1⟩ := hx.form
    obtain ⟨b, cb, rfl, h2⟩ := hy.form
    refine (begins_short a b _ ca _ cb w hl (by simp only [maxLen] at h2; omega)).mono fun e w' ⟨he, hw⟩ => ⟨?_, ⟨0, hw⟩⟩
    rw [he]
    refine ret_bool ?_
    symm
    rw [decide_eq_false_iff_not]
    intro e
    have := congrArg List.length e
    rw [List.length_take] at this
    omega
  · rcases hx.open with ⟨rfl, rfl⟩ | ⟨g, off, ca, rfl, h1, h2, _, _⟩
    · obtain ⟨b, cb, rfl, h2⟩ := hy.form
      have hy0 : ys.length = 0 := by simpa using hl
      have HY := Lib.hid hy
      have H0 := Lib.hid hy0
      rw [hy0] at hy ⊢
      clear hl hy0 hy hx
      go_enter Try.func19, Try.ntmps19
      go_wp2_with fail
      refine (Bytes_any (xs := []) (ys := ys) (Rd.nil _) (by rw [← H0.out]; exact HY.out)).mono ?_
      rintro e w1 ⟨rfl, hq⟩
      have HQ := Lib.hid hq
      clear hq
      go_wp2_with fail
      go_ret
      refine ⟨ret_bool ?_, HQ.out⟩
      simp
    · obtain ⟨b, cb, rfl, h3⟩ := hy.form
      have hr := Rd.take (n := ys.length) hx (by omega)
      have HX := Lib.hid hr
      have HY := Lib.hid hy
      have hm : ca ≤ 9223372036854775807 := by simp only [maxLen] at h2; omega
      clear h2 h3 hr hx hy
      go_enter Try.func19, Try.ntmps19
      go_wp2_with fail
      refine (Bytes_any HX.out HY.out).mono ?_
      rintro e w1 ⟨rfl, hq⟩
      have HQ := Lib.hid hq
      clear hq
      go_wp2_with fail
      go_ret
      exact ⟨rfl, HQ.out⟩

theorem Place_any (k n : Int) (w : World) (h1 : -9223372036854775808 ≤ k) (h2 : k ≤ 9223372036854775807) (hn : 0 < n) (hn2 : n ≤ 1000000) :
    Calls Try.prog 17 #[.int .i64 k, .int .i64 n] w fun e w' => ∃ r : Int, e = .returned (.int .i64 r) ∧ 0 ≤ r ∧ r < n ∧ w = w' := by
  have ht1 : k.tmod n < n := Int.tmod_lt_of_pos k hn
  have ht2 : -n < k.tmod n := by
    have := Int.tmod_lt_of_pos (-k) hn
    rw [Int.neg_tmod] at this
    omega
  have hn0 : ¬ n = 0 := by omega
  by_cases hk : 0 ≤ k
  · have h3 : k.tmod n = k % n := Int.tmod_eq_emod_of_nonneg hk
    have h4 : 0 ≤ k % n := Int.emod_nonneg _ hn0
    rw [h3] at ht1
    clear ht2 h3
    go_enter Try.func17, Try.ntmps17
    go_wp2_with fail
    go_ret
    exact ⟨k % n, rfl, h4, ht1, rfl⟩
  · obtain ⟨r, hr⟩ : ∃ r, r = k.tmod n := ⟨_, rfl⟩
    by_cases hneg : k.tmod n < 0
    · go_enter Try.func17, Try.ntmps17
      go_wp2_with fail
      go_ret
      exact ⟨k.tmod n + n, rfl, by omega, by omega, rfl⟩
    · have hneg2 : 0 ≤ k.tmod n := by omega
      go_enter Try.func17, Try.ntmps17
      go_wp2_with fail
      go_ret
      exact ⟨k.tmod n, rfl, hneg2, ht1, rfl⟩

end Go.Proofs.Ytdoeadoaffmgpaa

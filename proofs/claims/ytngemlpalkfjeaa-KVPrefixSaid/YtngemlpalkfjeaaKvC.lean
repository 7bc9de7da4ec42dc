/- bytes.Clone, bytes.HasPrefix. -/
import Derived.Test.YtngemlpalkfjeaaZA
import Derived.Test.YtngemlpalkfjeaaKvN
import Derived.Lib.BufferMore
namespace Go.Proofs.Ytngemlpalkfjeaa
open Go.Gl Go.RowKit
set_option linter.unusedVariables false
set_option maxRecDepth 100000
theorem rd_none0 {w : World} {n c : Nat} {xs : List UInt8} (h : Rd w (.slice none n c) xs) : xs = [] ∧ n = 0 ∧ c = 0 := by
  rcases h.open with ⟨h0, rfl⟩ | ⟨g, off, cap, hv, _⟩
  · exact ⟨rfl, h0.none⟩
  · simp at hv
theorem HasPrefix_any {w : World} {x y : Value} {xs ys : List UInt8} (hx : Rd w x xs) (hy : Rd w y ys) : Calls Try.prog 53 #[x, y] w fun e w' => e = .returned (.bool (beginsB ys xs)) ∧ w' = w := by
  obtain ⟨a2, c2, rfl, l2⟩ := hy.form
  obtain ⟨a1, c1, hv, l1⟩ := hx.form
  by_cases hl : ys.length ≤ xs.length
  · have hc : xs.length ≤ c1 := by
      rcases hx.open with ⟨h0, rfl⟩ | ⟨g, off, cap, hv', h1, _⟩
      · simp
      · rw [hv] at hv'; injection hv' with _ _ h3; omega
    subst hv
    cases a1 with
    | none =>
      obtain ⟨rfl, _, rfl⟩ := rd_none0 hx
      obtain rfl : ys = [] := List.eq_nil_of_length_eq_zero (by simpa using hl)
      have HE := Lib.hid (Equal_any (Rd.nil w) hy)
      simp only [List.length_nil] at HE ⊢
      clear hx hy
      go_enter Try.func53, Try.ntmps53
      go_wp2_with fail
      refine HE.out.mono ?_
      rintro e w2 ⟨rfl, rfl⟩
      go_wp2
      go_ret
      exact ⟨rfl, rfl⟩
    | some a1 =>
      rcases hx.open with ⟨h, rfl⟩ | ⟨g, off, cap, hv, hrest⟩
      · clear hc l1
        rcases h with h | ⟨g, off, s, h⟩
        · simp at h
        · simp only [List.length_nil, Value.slice.injEq, Option.some.injEq, true_and] at h
          obtain ⟨rfl, rfl⟩ := h
          obtain rfl : ys = [] := List.eq_nil_of_length_eq_zero (by simpa using hl)
          have HE := Lib.hid (Equal_any hx hy)
          simp only [List.length_nil] at HE ⊢
          clear hx hy
          go_enter Try.func53, Try.ntmps53
          go_wp2_with fail
          refine HE.out.mono ?_
          rintro e w2 ⟨rfl, rfl⟩
          go_wp2
          go_ret
          exact ⟨rfl, rfl⟩
      obtain rfl : a1 = ⟨g, off, none⟩ := by simp at hv; exact hv.1
      have ht := hx.take hl
      have HE := Lib.hid (Equal_any ht hy)
      have hb : beginsB ys xs = decide (xs.take ys.length = ys) := rfl
      rw [hb]
      clear hx hy ht hb hrest hv
      generalize decide (xs.take ys.length = ys) = b at *
      generalize ys.length = m at *
      generalize xs.length = n at *
      go_enter Try.func53, Try.ntmps53
      go_wp2_with fail
      refine HE.out.mono ?_
      rintro e w2 ⟨rfl, rfl⟩
      go_wp2
      go_ret
      exact ⟨rfl, rfl⟩
  · have : beginsB ys xs = false := by
      unfold beginsB
      refine decide_eq_false (fun e => ?_)
      have := congrArg List.length e
      rw [List.length_take] at this
      omega
    rw [this]
    subst hv
    clear hx hy this
    generalize ys.length = m at *
    generalize xs.length = n at *
    go_enter Try.func53, Try.ntmps53
    go_wp2
    go_ret
    exact ⟨rfl, rfl⟩
theorem Clone_any {w : World} {q : Value} {xs : List UInt8} (hq : Rd w q xs) (hl : xs.length ≤ 1000000) : Calls Try.prog 50 #[q] w fun e w' => ∃ v', e = .returned v' ∧ Gl.Own w' v' xs ∧ Mods noB w w' ∧ freshIn w v' := by
  obtain ⟨a, c, rfl, _⟩ := hq.form
  cases a with
  | none =>
    obtain ⟨rfl, _, rfl⟩ := rd_none0 hq
    have hnil : ∀ W, (binOp .eql 32 (.slice none 0 0) (.slice none 0 0)).run Try.prog W = .ok (.bool true) W := fun W => Lib.run_eql_slice_nil_nil W _ _ Try.underlying32
    simp only [List.length_nil]
    clear hq
    go_enter Try.func50, Try.ntmps50
    go_wp2
    go_ret
    exact ⟨_, rfl, Own.nil _, Mods.refl _ _, fun k hk => by simp [Value.ownBlock] at hk⟩
  | some a =>
    have hnil : ∀ W, (binOp .eql 32 (.slice (some a) xs.length c) (.slice none 0 0)).run Try.prog W = .ok (.bool false) W := fun W => Lib.run_eql_slice_some_nil W _ _ _ Try.underlying32
    have HQ := Lib.hid hq
    clear hq
    have HL := Lib.hid hl
    clear hl
    go_enter Try.func50, Try.ntmps50
    go_wp2_with (at_builtin; refine stop ?_)
    unfold Stop
    have m1 := (Mods.refl noB w).alloc (.cells #[] 5)
    have ob := heap_new w (.cells #[] 5)
    refine wpList_apb rfl rfl [] xs (v := .slice (some ⟨w.heap.size, 0, none⟩) 0 0) ⟨rfl, .inr ⟨_, _, _, _, rfl, ob, Nat.le_refl _, by simp [maxLen], by simp, fun j u hj => by simp [bv] at hj⟩⟩ (HQ.out.keep m1 (fun _ _ x => x)) rfl rfl (by have := HL.out; simp; omega) ?_
    intro v' w' h1 h2 h3
    have h1 := Lib.hid h1
    have h2 := Lib.hid (show Mods noB w w' from m1.trans h2 (fun _ _ x => x) (fun i hi h => by simp [ofV, Value.ownBlock] at h; omega))
    have h3 : Hid (freshIn w v') := Lib.hid (by
      rcases h3 with h3 | h3
      · intro k hk; rw [h3] at hk; simp [Value.ownBlock] at hk; omega
      · exact h3.of (by simp))
    clear HQ m1 ob
    go_wp2
    go_ret
    exact ⟨_, rfl, h1.out, h2.out, h3.out⟩
end Go.Proofs.Ytngemlpalkfjeaa

/- nat.trim, nat.Norm; the reference's trim. -/
import Derived.Test.YtglkmaalpammcaaGreatZD
import Derived.Test.YtglkmaalpammcaaGreatNPlain
namespace Go.Gl
theorem strip_append_zero (ds es : List Nat) (h : ∀ x ∈ es, x = 0) : strip (ds ++ es) = strip ds := by
  induction ds with
  | nil => exact strip_zero h
  | cons d ds ih => rw [List.cons_append, strip, ih, strip]
theorem strip_at_end {ls : List Nat} {k : Nat} (hk : k ≤ ls.length) (h0 : ∀ i (hi : i < ls.length), k ≤ i → ls[i] = 0) (h1 : k = 0 ∨ ∃ hk : k - 1 < ls.length, ls[k - 1] ≠ 0) : strip ls = ls.take k := by
  have e : ls = ls.take k ++ ls.drop k := (List.take_append_drop k ls).symm
  have hz : ∀ x ∈ ls.drop k, x = 0 := by
    intro x hx
    obtain ⟨i, hi, rfl⟩ := List.getElem_of_mem hx
    rw [List.getElem_drop]
    exact h0 _ _ (by omega)
  have e1 : strip ls = strip (ls.take k) := by
    conv => lhs; rw [e]
    exact strip_append_zero _ _ hz
  rw [e1]
  rcases h1 with rfl | ⟨hk2, h2⟩
  · rfl
  · rcases k with _ | k
    · rfl
    · simp only [Nat.add_sub_cancel] at hk2 h2
      rw [List.take_succ_eq_append_getElem hk2]
      exact strip_last h2
end Go.Gl
namespace Go.Proofs.YtglkmaalpammcaaGreat
open Go.Gl Go.RowKit
set_option linter.unusedVariables false
set_option maxRecDepth 100000
theorem trim_walk (ax : Option Addr) (nx cx : Nat) (ls : List Nat) (w : World) (hx : ls.length = nx) (hnc : nx ≤ cx) (hcm : cx ≤ 9223372036854775807) (kx : nx = 0 ∨ ∃ g off, ax = some ⟨g, off, none⟩ ∧ ∀ i (hi : i < ls.length), w.cell? ⟨g, off + i, none⟩ = some (u64 ls[i])) :
    Calls Tryz.prog 168 #[.slice ax nx cx] w fun e w' => (∃ k, k ≤ nx ∧ strip ls = ls.take k ∧ e = .returned (.slice ax k k)) ∧ w' = w := by
  have HX := Lib.hid hx
  have KX := Lib.hid kx
  clear hx kx
  go_enter Tryz.func168, Tryz.ntmps168
  go_wp2
  go_loop [3] (fun n => ∃ k : Nat, k ≤ nx ∧ n = .int .i64 k ∧ Hid (∀ i (hi : i < ls.length), k ≤ i → ls[i] = 0)) (fun n => (intOf n).toNat)
  case atStart => exact ⟨nx, Nat.le_refl _, rfl, fun i hi h => by have := HX.out; omega⟩
  case round =>
    obtain ⟨k, hk, rfl, hR⟩ := hrel
    rcases k with _ | j
    · go_wp2
      go_ret
      exact ⟨⟨0, Nat.zero_le _, strip_at_end (Nat.zero_le _) hR.out (.inl rfl), rfl⟩, rfl⟩
    · have lj : j < ls.length := by rw [HX.out]; omega
      obtain ⟨g', off, hax, c1⟩ := KX.out.resolve_left (by omega)
      have c2 := c1 j lj
      clear c1 KX
      subst hax
      by_cases hz : ls[j] = 0
      · rw [hz] at c2
        have HZ := Lib.hid hz
        clear hz
        go_wp2
        go_round
        case rel =>
          refine ⟨j, by omega, by go_num, fun i hi h => ?_⟩
          by_cases he : i = j
          · subst he; exact HZ.out
          · exact hR.out i hi (by omega)
        case measure => simp [intOf]
      · have hb : (((ls[j] : Nat) : Int) == 0) = false := by simp; omega
        have HZ := Lib.hid hz
        generalize hx : ls[j] = x at *
        have HX2 := Lib.hid hx
        clear hz hx
        go_wp2
        go_ret
        exact ⟨⟨j + 1, hk, strip_at_end (by rw [HX.out]; omega) hR.out (.inr ⟨by simpa using lj, by simpa [HX2.out] using HZ.out⟩), rfl⟩, rfl⟩
theorem RN.cells {w : World} {a : Option Addr} {n c : Nat} {ls : List Nat} (h : RN w (.slice a n c) ls) : ls.length = n ∧ n ≤ c ∧ c ≤ 9223372036854775807 ∧ (n = 0 ∨ ∃ g off, a = some ⟨g, off, none⟩ ∧ ∀ i (hi : i < ls.length), w.cell? ⟨g, off + i, none⟩ = some (u64 ls[i])) := by
  rcases RdM.open h with ⟨h1, rfl⟩ | ⟨g, off, cap, h1, h2, h3, h4, h5⟩
  · obtain ⟨rfl, rfl⟩ := h1.none
    exact ⟨rfl, Nat.le_refl _, by omega, .inl rfl⟩
  · cases h1
    exact ⟨rfl, h2, by simp only [maxLen] at h3; omega, .inr ⟨g, off, rfl, h5⟩⟩
theorem RN.take {w : World} {a : Option Addr} {n c : Nat} {ls : List Nat} (h : RN w (.slice a n c) ls) (k c' : Nat) (hk : k ≤ n) (hc : k ≤ c') (hc' : c' ≤ maxLen) (hnil : n = 0 → c = 0 → c' = 0) : RN w (.slice a k c') (ls.take k) := by
  rcases RdM.open h with ⟨h1, rfl⟩ | ⟨g, off, cap, h1, h2, h3, h4, h5⟩
  · obtain ⟨rfl, rfl⟩ := h1.none
    obtain rfl : k = 0 := by omega
    rw [hnil rfl rfl]
    exact ⟨rfl, .inl ⟨h1, rfl⟩⟩
  · cases h1
    refine rdM_of (by rw [List.length_take]; omega) hc hc' (h4.imp (fun x => by omega) id) (fun i hi => ?_)
    rw [List.getElem_take]
    exact h5 i (by rw [List.length_take] at hi; omega)
def TrimRes (ls : List Nat) (w : World) (v : Value) (e : Ending) (w' : World) : Prop := (∃ v', e = .returned v' ∧ RN w v' (strip ls) ∧ ∀ k, v'.ownBlock = some k → v.ownBlock = some k) ∧ w' = w
theorem ownBlock_slice {a : Option Addr} {n c n' c' k : Nat} (h : (Value.slice a n c).ownBlock = some k) : (Value.slice a n' c').ownBlock = some k := by cases a <;> exact h
theorem trim_any {w : World} {v : Value} {ls : List Nat} (h : RN w v ls) : Calls Tryz.prog 168 #[v] w (TrimRes ls w v) := by
  obtain ⟨a, c, rfl, _⟩ := RdM.form h
  obtain ⟨h1, h2, h3, h4⟩ := RN.cells h
  refine (trim_walk a _ c ls w h1 h2 h3 h4).mono ?_
  rintro e w' ⟨⟨k, hk, hs, rfl⟩, rfl⟩
  rw [TrimRes, hs]
  refine ⟨⟨_, rfl, RN.take h k k hk (Nat.le_refl _) (by simp only [maxLen]; omega) (fun _ _ => by omega), fun i hi => ownBlock_slice hi⟩, rfl⟩
end Go.Proofs.YtglkmaalpammcaaGreat

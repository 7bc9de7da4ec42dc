/- gleanref4.Reader: End, Bool, Nat, Dec. -/
import Derived.Test.YtebknplbghcemaaRRdr
import Derived.Test.YtebknplbghcemaaERdS
import Derived.Test.YtebknplbghcemaaRFrom
import Derived.Test.YtebknplbghcemaaHBytes
namespace Go.Proofs.Ytebknplbghcemaa
open Go.Gl Go.RowKit
set_option linter.unusedVariables false
set_option maxRecDepth 100000

theorem rtakeYnum (n : Nat) (xs : List UInt8) (e : Int) : num (rtakeY n xs e) = rtake n xs e := by
  unfold rtakeY rtake
  split
  · split <;> rfl
  · rfl

/-- The reference's reader behind a step: its state. -/
def RS (w : World) (g : Nat) (vB : Value) (s : ESt) (w' : World) : Prop := RStep w g vB s.1 s.2 w'
theorem RS.refl {w : World} {g : Nat} {vB : Value} {s : ESt} (h : RR w g vB s.1 s.2) : RS w g vB s w := ⟨⟨vB, h, fun _ x => x⟩, Mods.refl _ _⟩
theorem RR.fail {w : World} {g : Nat} {vB : Value} {xs : List UInt8} {e : Int} (n : Int) (h : RR w g vB xs e) : RR (w.setCell ⟨g, 1, none⟩ (.int .i64 n)) g vB xs n :=
  ⟨h.setE n, h.rd.keep (Mods.one _ _ _ _) (fun k hk e => h.apart (by rw [hk, e])), h.apart⟩
theorem RS.fail {w : World} {g : Nat} {vB : Value} {xs : List UInt8} {e : Int} (n : Int) (h : RR w g vB xs e) : RS w g vB (xs, n) (w.setCell ⟨g, 1, none⟩ (.int .i64 n)) := ⟨⟨vB, h.fail n, fun _ x => x⟩, Mods.one _ _ _ _⟩

theorem rU_st {w : World} {g : Nat} {vB : Value} {s : ESt} (n : Nat) (h : RR w g vB s.1 s.2) (hm : n ≤ 8) :
    Calls Try.prog 53 #[.pointer (some ⟨g, 0, none⟩), .int .i64 n] w fun e w' => e = .returned (.int .u64 (evl n s)) ∧ RS w g vB (est n s) w' := by
  refine (rU_any n h hm).mono ?_
  rintro r w' ⟨rfl, hs⟩
  rw [rtakeYnum]
  exact ⟨rfl, hs⟩

theorem rEndE {w : World} {g : Nat} {vB : Value} {s : ESt} (h : RR w g vB s.1 s.2) :
    Calls Try.prog 54 #[.pointer (some ⟨g, 0, none⟩)] w fun r w' => r = .returned (.int .i64 (endS s.1 s.2)) ∧ RS w g vB (s.1, endS s.1 s.2) w' := by
  obtain ⟨xs, e⟩ := s
  simp only at h ⊢
  obtain ⟨a, ca, rfl, h1⟩ := h.rd.form
  have c := cells_of h.heap
  have f := free_of h.heap
  by_cases he : e = 0
  · subst he
    by_cases hl : xs.length = 0
    · have e2 : endS xs 0 = 0 := by simp [endS, hl]
      rw [e2]
      have H := Lib.hid h
      rw [hl] at c
      clear h h1 hl e2
      go_enter Try.func54, Try.ntmps54
      go_wp2
      go_ret
      exact ⟨rfl, ⟨_, H.out, fun _ x => x⟩, Mods.refl _ _⟩
    · have e2 : endS xs 0 = 43 := by unfold endS; rw [if_pos ⟨rfl, hl⟩]
      rw [e2]
      have H := Lib.hid (RS.fail 43 h)
      have hp : (0 : Int) < (xs.length : Int) := by omega
      generalize xs.length = len at *
      clear h h1 hl e2
      go_enter Try.func54, Try.ntmps54
      go_wp2
      go_ret
      exact ⟨rfl, H.out⟩
  · have e2 : endS xs e = e := if_neg (fun x => he x.1)
    rw [e2]
    have hb : (e == 0) = false := by simpa using he
    have H := Lib.hid h
    clear h h1 he e2
    go_enter Try.func54, Try.ntmps54
    go_wp2
    go_ret
    exact ⟨rfl, ⟨_, H.out, fun _ x => x⟩, Mods.refl _ _⟩

/-- the first byte, as the walk loads it -/
theorem RR.first {w : World} {g : Nat} {vB : Value} {xs : List UInt8} {e : Int} (h : RR w g vB xs e) (hl : 1 ≤ xs.length) : ∃ gb off ca, vB = .slice (some ⟨gb, off, none⟩) xs.length ca ∧ xs.length ≤ ca ∧ ca ≤ 9223372036854775807 ∧ gb ≠ g ∧ ∀ i (hi : i < xs.length), w.cell? ⟨gb, off + i, none⟩ = some (.int .u8 (xs[i]).toNat) := by
  rcases h.rd.open with ⟨_, rfl⟩ | ⟨gb, off, ca, rfl, h1, h2, h3, h4⟩
  · simp at hl
  · exact ⟨gb, off, ca, rfl, h1, by simpa [maxLen] using h2, fun e => h.apart (by rw [e]; rfl), h4⟩

theorem evl_first {xs : List UInt8} (hl : 1 ≤ xs.length) : evl 1 (xs, 0) = (xs[0]'(by omega)).toNat := by
  cases xs with
  | nil => simp at hl
  | cons c cs => simp [evl, rtake, num]

theorem rBool_st {w : World} {g : Nat} {vB : Value} {s : ESt} (h : RR w g vB s.1 s.2) :
    Calls Try.prog 57 #[.pointer (some ⟨g, 0, none⟩)] w fun r w' => r = .returned (.bool (decide (evl 1 s = 1))) ∧ RS w g vB (boolS s) w' := by
  have HU := Lib.hid (fun (w1 : World) (t : ESt) (k : RR w1 g vB t.1 t.2) => rU_st 1 k (by omega))
  obtain ⟨xs, e⟩ := s
  simp only at h
  have c := cells_of h.heap
  have f := free_of h.heap
  by_cases he : e = 0
  · subst he
    by_cases hl : 1 ≤ xs.length
    · obtain ⟨gb, off, ca, rfl, h1, h2, h3, h4⟩ := h.first hl
      have c0 := h4 0 (by omega)
      have hx := evl_first hl
      have hb8 := (xs[0]'(by omega)).toNat_lt
      generalize (xs[0]'(by omega)).toNat = b at *
      rw [Nat.add_zero] at c0
      have hlp : (0 : Int) < (xs.length : Int) := by omega
      by_cases hb : 1 < b
      · have e1 : boolS (xs, 0) = (xs, 41) := if_pos ⟨rfl, by rw [hx]; exact hb⟩
        have e2 : decide (evl 1 (xs, 0) = 1) = false := by rw [hx]; simp; omega
        rw [e1, e2]
        have H := Lib.hid (h.fail 41)
        have hs : est 1 (xs, (41 : Int)) = (xs, 41) ∧ evl 1 (xs, (41 : Int)) = 0 := by simp [est, evl, rleft, rerr, rtake]
        have HS := Lib.hid hs
        clear h h4 hx e1 e2 hs
        generalize hlen : xs.length = len at *
        clear hl h1 hlen
        go_enter Try.func57, Try.ntmps57
        go_wp2_with fail
        refine (HU.out _ (xs, 41) H.out).mono ?_
        rw [HS.out.1, HS.out.2]
        rintro r w1 ⟨rfl, h1⟩
        have H1 := Lib.hid (show RS w g (.slice (some ⟨gb, off, none⟩) len ca) (xs, 41) w1 from ⟨h1.st, (Mods.one w g 1 _).trans h1.mods (fun _ _ x => x) (fun _ _ x => x)⟩)
        clear h1
        go_wp2
        go_ret
        exact ⟨rfl, H1.out⟩
      · have e1 : boolS (xs, 0) = est 1 (xs, 0) := if_neg (fun x => by have := x.2; rw [hx] at this; exact hb this)
        rw [e1, hx]
        have H := Lib.hid h
        have HX := Lib.hid hx
        clear h h4 hx e1
        generalize hlen : xs.length = len at *
        clear hl h1 hlen
        go_enter Try.func57, Try.ntmps57
        go_wp2_with fail
        refine (HU.out _ (xs, 0) H.out).mono ?_
        rw [HX.out]
        rintro r w1 ⟨rfl, h1⟩
        have H1 := Lib.hid h1
        clear h1
        go_wp2
        go_ret
        exact ⟨ret_bool (by rw [Bool.eq_iff_iff]; simp; omega), H1.out⟩
    · obtain ⟨a, ca, rfl, h1⟩ := h.rd.form
      obtain rfl : xs = [] := List.eq_nil_of_length_eq_zero (by omega)
      have e1 : boolS ([], 0) = est 1 ([], 0) ∧ decide (evl 1 ([], 0) = 1) = false ∧ evl 1 ([], 0) = 0 := by decide
      have E1 := Lib.hid e1
      rw [e1.1, e1.2.1]
      have H := Lib.hid h
      simp only [List.length_nil] at *
      clear h h1 e1
      go_enter Try.func57, Try.ntmps57
      go_wp2_with fail
      refine (HU.out _ ([], 0) H.out).mono ?_
      rw [E1.out.2.2]
      rintro r w1 ⟨rfl, h1⟩
      have H1 := Lib.hid h1
      clear h1
      go_wp2
      go_ret
      exact ⟨rfl, H1.out⟩
  · have hb : (e == 0) = false := by simpa using he
    have e1 : boolS (xs, e) = est 1 (xs, e) := if_neg (fun x => he x.1)
    have e2 : evl 1 (xs, e) = 0 := by simp [evl, rtake, he]
    rw [e1, e2]
    have H := Lib.hid h
    have E2 := Lib.hid e2
    clear h he e1 e2
    go_enter Try.func57, Try.ntmps57
    go_wp2_with fail
    refine (HU.out _ (xs, e) H.out).mono ?_
    rw [E2.out]
    rintro r w1 ⟨rfl, h1⟩
    have H1 := Lib.hid h1
    clear h1
    go_wp2
    go_ret
    exact ⟨rfl, H1.out⟩

end Go.Proofs.Ytebknplbghcemaa

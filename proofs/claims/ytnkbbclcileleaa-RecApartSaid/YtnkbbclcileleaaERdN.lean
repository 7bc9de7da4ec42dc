/- enc.Reader: Bool, Left, Err, End, Nat, Dec, Raw. -/
import Derived.Test.YtnkbbclcileleaaERd2
import Derived.Test.YtnkbbclcileleaaNFrom
namespace Go.Proofs.Ytnkbbclcileleaa
open Go.Gl Go.RowKit
set_option linter.unusedVariables false
set_option maxRecDepth 100000

/-- a reader's state: what is left, its error -/
abbrev ESt := List UInt8 × Int
def est (n : Nat) (s : ESt) : ESt := (rleft n s.1 s.2, rerr n s.1 s.2)
def evl (n : Nat) (s : ESt) : Nat := rtake n s.1 s.2

def efail (c : Int) (s : ESt) : ESt := (s.1, wfail s.2 c)

/-- Bool's answer, and the state behind it -/
def boolS (s : ESt) : ESt := if s.2 = 0 ∧ 1 < evl 1 s then (s.1, 41) else est 1 s

/-- A method of a reader with one result that is told by values alone. -/
def RRes1 (u : Value) (w : World) (g : Nat) (v : Value) (s : ESt) : Ending → World → Prop := RRes u w g v s.1 s.2



/-- the error behind End -/
def endS (xs : List UInt8) (e : Int) : Int := if e = 0 ∧ xs.length ≠ 0 then 43 else e

theorem End_any {w : World} {g : Nat} {v : Value} {xs : List UInt8} {e : Int} (h : Rr w g v xs e) :
    Calls Try.prog 67 #[.pointer (some ⟨g, 0, none⟩)] w (RRes (.int .i64 (endS xs e)) w g v xs (endS xs e)) := by
  obtain ⟨a, c, rfl, _⟩ := h.rd.form
  have c := cells_of h.heap
  have H := Lib.hid h
  by_cases hz : xs.length = 0
  · have he : endS xs e = e := if_neg (fun x => x.2 hz)
    rw [he]
    rw [hz] at c H ⊢
    clear h he hz
    go_enter Try.func67, Try.ntmps67
    go_wp2
    go_ret
    exact ⟨rfl, _, RStp.refl H.out⟩
  · have he : endS xs e = wfail e 43 := by
      unfold endS wfail
      by_cases h0 : e = 0
      · rw [if_pos ⟨h0, hz⟩, if_pos h0]
      · rw [if_neg (fun x => h0 x.1), if_neg h0]
    rw [he]
    have hpos : (0 : Int) < (xs.length : Int) := by omega
    generalize xs.length = n at *
    clear h he hz
    go_enter Try.func67, Try.ntmps67
    go_wp2_with fail
    refine (rfails_any 43 H.out).mono ?_
    rintro r w1 ⟨rfl, v1, h1⟩
    have c1 := cells_of h1.rr.heap
    have H1 := Lib.hid h1
    clear h1
    go_wp2
    go_ret
    exact ⟨rfl, v1, H1.out⟩

theorem Bool_any {w : World} {g : Nat} {v : Value} {s : ESt} (h : Rr w g v s.1 s.2) :
    Calls Try.prog 82 #[.pointer (some ⟨g, 0, none⟩)] w (RRes (.bool (decide (evl 1 s = 1))) w g v (boolS s).1 (boolS s).2) := by
  obtain ⟨xs, e⟩ := s
  simp only at h
  have H := Lib.hid h
  clear h
  by_cases hb : e = 0 ∧ 1 < evl 1 (xs, e)
  · have e1 : boolS (xs, e) = (xs, 41) := if_pos hb
    have e2 : decide (evl 1 (xs, e) = 1) = false := by simp; omega
    rw [e1, e2]
    obtain ⟨rfl, hb⟩ := hb
    have hlen : 1 ≤ xs.length := by
      rcases Nat.eq_zero_or_pos xs.length with h0 | h0
      · simp [evl, rtake, h0] at hb
      · exact h0
    have hk : rok 1 xs 0 = true := by simp [rok, hlen]
    have hr : rerr 1 xs 0 = 0 := by simp [rerr, hlen]
    have hb2 : (1 : Int) < ((rtake 1 xs 0 : Nat) : Int) := by have : 1 < rtake 1 xs 0 := hb; omega
    have HK := Lib.hid hk
    have HR := Lib.hid hr
    clear e1 e2 hb hlen hk hr
    go_enter Try.func82, Try.ntmps82
    go_wp2_with fail
    refine (peek_any 1 H.out (by omega) (by omega)).mono ?_
    rw [HK.out, HR.out]
    rintro r w1 ⟨rfl, v1, h1⟩
    have H1 := Lib.hid h1
    clear h1
    go_wp2_with fail
    refine (rfails_any 41 H1.out.rr).mono ?_
    rintro r w2 ⟨rfl, v2, h2⟩
    have H2 := Lib.hid (H1.out.trans h2)
    clear h2
    go_wp2
    go_ret
    exact ⟨rfl, v2, H2.out⟩
  · have e1 : boolS (xs, e) = est 1 (xs, e) := if_neg hb
    rw [e1]
    have hlt := rtake_lt 1 xs e
    simp at hlt
    have hq : (rok 1 xs e = false) ∨ ¬ (1 : Int) < ((rtake 1 xs e : Nat) : Int) := by
      by_cases hk : rok 1 xs e = true
      · right
        intro h2
        simp only [rok, Bool.and_eq_true, decide_eq_true_eq] at hk
        exact hb ⟨hk.1, by show 1 < rtake 1 xs e; omega⟩
      · left; simpa using hk
    have key : ∀ w1 v1, RStp w g v xs (rerr 1 xs e) w1 v1 → Calls Try.prog 90 #[.pointer (some ⟨g, 0, none⟩)] w1 (fun r w' => r = .returned (.int .u8 (rtake 1 xs e)) ∧ ∃ v', RStp w g v (est 1 (xs, e)).1 (est 1 (xs, e)).2 w' v') := by
      intro w1 v1 h1
      refine (RU8_any h1.rr).mono ?_
      rintro r w2 ⟨rfl, v2, h2⟩
      have q1 : rtake 1 xs (rerr 1 xs e) = rtake 1 xs e ∧ rleft 1 xs (rerr 1 xs e) = rleft 1 xs e ∧ rerr 1 xs (rerr 1 xs e) = rerr 1 xs e := by
        unfold rtake rleft rerr
        by_cases he : e = 0
        · by_cases hl : 1 ≤ xs.length <;> simp [he, hl]
        · simp [he]
      rw [q1.1]
      rw [q1.2.1, q1.2.2] at h2
      exact ⟨rfl, v2, h1.trans h2⟩
    have HKey := Lib.hid key
    generalize hz : rtake 1 xs e = z at *
    have hzz : evl 1 (xs, e) = z := hz
    rw [hzz]
    have HB : Hid (decide (z = 1) = (((z : Nat) : Int) == 1)) := by
      show decide (z = 1) = decide ((z : Int) = 1)
      exact decide_eq_decide.2 (by omega)
    have HZ := Lib.hid hz
    clear hb e1 key hz hzz
    rcases hq with hq | hq
    · have HQ := Lib.hid hq
      clear hq
      go_enter Try.func82, Try.ntmps82
      go_wp2_with fail
      refine (peek_any 1 H.out (by omega) (by omega)).mono ?_
      rw [HQ.out]
      rintro r w1 ⟨rfl, v1, h1⟩
      have H1 := Lib.hid h1
      clear h1
      go_wp2_with (go_at_call 90; refine (HKey.out _ _ H1.out).mono ?_; rintro r w2 ⟨rfl, v2, h2⟩)
      go_ret
      exact ⟨by rw [HB.out]; rfl, v2, h2⟩
    · generalize hkk : rok 1 xs e = kk at *
      have HKK := Lib.hid hkk
      clear hkk
      go_enter Try.func82, Try.ntmps82
      go_wp2_with fail
      refine (peek_any 1 H.out (by omega) (by omega)).mono ?_
      rw [HZ.out, HKK.out]
      rintro r w1 ⟨rfl, v1, h1⟩
      have H1 := Lib.hid h1
      clear h1
      cases kk
      all_goals
        go_wp2_with (go_at_call 90; refine (HKey.out _ _ H1.out).mono ?_; rintro r w2 ⟨rfl, v2, h2⟩)
        go_ret
        exact ⟨by rw [HB.out]; rfl, v2, h2⟩

end Go.Proofs.Ytnkbbclcileleaa

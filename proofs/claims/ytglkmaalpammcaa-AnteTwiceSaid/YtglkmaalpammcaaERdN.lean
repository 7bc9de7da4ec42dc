/- enc.Reader: Bool, Left, Err, End, Nat, Dec, Raw. -/
import Derived.Test.YtglkmaalpammcaaERd2
import Derived.Test.YtglkmaalpammcaaNFrom
namespace Go.Proofs.Ytglkmaalpammcaa
open Go.Gl Go.RowKit
set_option linter.unusedVariables false
set_option maxRecDepth 100000
abbrev ESt := List UInt8 × Int
def est (n : Nat) (s : ESt) : ESt := (rleft n s.1 s.2, rerr n s.1 s.2)
def evl (n : Nat) (s : ESt) : Nat := rtake n s.1 s.2
def boolS (s : ESt) : ESt := if s.2 = 0 ∧ 1 < evl 1 s then (s.1, 41) else est 1 s
def endS (xs : List UInt8) (e : Int) : Int := if e = 0 ∧ xs.length ≠ 0 then 43 else e
theorem End_any {w : World} {g : Nat} {v : Value} {xs : List UInt8} {e : Int} (h : Rr w g v xs e) :
    Calls Try.prog 106 #[.pointer (some ⟨g, 0, none⟩)] w (RRes (.int .i64 (endS xs e)) w g v xs (endS xs e)) := by
  obtain ⟨a, c, rfl, _⟩ := h.rd.form
  have c := cells_of h.heap
  have H := Lib.hid h
  by_cases hz : xs.length = 0
  · have he : endS xs e = e := if_neg (fun x => x.2 hz)
    rw [he]
    rw [hz] at c H ⊢
    clear h he hz
    go_enter Try.func106, Try.ntmps106
    go_wp2
    go_ret
    exact ⟨rfl, _, RStp.refl H.out⟩
  · have he : endS xs e = wfail e 43 := by
      unfold endS wfail
      by_cases h0 : e = 0
      · rw [if_pos ⟨h0, hz⟩, if_pos h0]
      · rw [if_neg (fun x => h0 x.1), if_neg h0]
    rw [he]
    have hpos : (0 : Int) < (xs.length : Int) := by omega
    generalize xs.length = n at *
    clear h he hz
    go_enter Try.func106, Try.ntmps106
    go_wp2_with fail
    refine (rfails_any 43 H.out).mono ?_
    rintro r w1 ⟨rfl, v1, h1⟩
    have c1 := cells_of h1.rr.heap
    have H1 := Lib.hid h1
    clear h1
    go_wp2
    go_ret
    exact ⟨rfl, v1, H1.out⟩
end Go.Proofs.Ytglkmaalpammcaa

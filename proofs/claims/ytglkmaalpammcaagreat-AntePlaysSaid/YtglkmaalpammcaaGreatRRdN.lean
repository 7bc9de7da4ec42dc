/- gleanref4.Reader: End, Bool, Nat, Dec. -/
import Derived.Test.YtglkmaalpammcaaGreatZE
import Derived.Test.YtglkmaalpammcaaGreatRFrom
import Derived.Test.YtglkmaalpammcaaGreatZA
namespace Go.Proofs.YtglkmaalpammcaaGreat
open Go.Gl Go.RowKit
set_option linter.unusedVariables false
set_option maxRecDepth 100000
theorem rtakeYnum (n : Nat) (xs : List UInt8) (e : Int) : num (rtakeY n xs e) = rtake n xs e := by
 unfold rtakeY rtake
 split
 ·split <;> rfl
 ·rfl
def RS (w : World) (g : Nat) (vB : Value) (s : ESt) (w' : World) : Prop := RStep w g vB s.1 s.2 w'
theorem RS.refl {w : World} {g : Nat} {vB : Value} {s : ESt} (h : RR w g vB s.1 s.2) : RS w g vB s w := ⟨⟨vB, h, fun _ x => x⟩, Mods.refl _ _⟩
theorem RR.fail {w : World} {g : Nat} {vB : Value} {xs : List UInt8} {e : Int} (n : Int) (h : RR w g vB xs e) : RR (w.setCell ⟨g, 1, none⟩ (.int .i64 n)) g vB xs n :=
 ⟨h.setE n, h.rd.keep (Mods.one _ _ _ _) (fun k hk e => h.apart (by rw [hk, e])), h.apart⟩
theorem RS.fail {w : World} {g : Nat} {vB : Value} {xs : List UInt8} {e : Int} (n : Int) (h : RR w g vB xs e) : RS w g vB (xs, n) (w.setCell ⟨g, 1, none⟩ (.int .i64 n)) := ⟨⟨vB, h.fail n, fun _ x => x⟩, Mods.one _ _ _ _⟩
theorem rU_st {w : World} {g : Nat} {vB : Value} {s : ESt} (n : Nat) (h : RR w g vB s.1 s.2) (hm : n ≤ 8) :
  Calls Tryz.prog 165 #[.pointer (some ⟨g, 0, none⟩), .int .i64 n] w fun e w' => e = .returned (.int .u64 (evl n s)) ∧ RS w g vB (est n s) w' := by
 refine (rU_any n h hm).mono ?_
 rintro r w' ⟨rfl, hs⟩
 rw [rtakeYnum]
 exact ⟨rfl, hs⟩
theorem rEndE {w : World} {g : Nat} {vB : Value} {s : ESt} (h : RR w g vB s.1 s.2) :
  Calls Tryz.prog 231 #[.pointer (some ⟨g, 0, none⟩)] w fun r w' => r = .returned (.int .i64 (endS s.1 s.2)) ∧ RS w g vB (s.1, endS s.1 s.2) w' := by
 obtain ⟨xs, e⟩ := s
 simp only at h ⊢
 obtain ⟨a, ca, rfl, h1⟩ := h.rd.form
 have c := cells_of h.heap
 have f := free_of h.heap
 by_cases he : e = 0
 ·subst he
  by_cases hl : xs.length = 0
  ·have e2 : endS xs 0 = 0 := by simp [endS, hl]
   rw [e2]
   have H := Lib.hid h
   rw [hl] at c
   clear h h1 hl e2
   go_enter Tryz.func231, Tryz.ntmps231
   go_wp2
   go_ret
   exact ⟨rfl, ⟨_, H.out, fun _ x => x⟩, Mods.refl _ _⟩
  ·have e2 : endS xs 0 = 43 := by unfold endS; rw [if_pos ⟨rfl, hl⟩]
   rw [e2]
   have H := Lib.hid (RS.fail 43 h)
   have hp : (0 : Int) < (xs.length : Int) := by omega
   generalize xs.length = len at *
   clear h h1 hl e2
   go_enter Tryz.func231, Tryz.ntmps231
   go_wp2
   go_ret
   exact ⟨rfl, H.out⟩
 ·have e2 : endS xs e = e := if_neg (fun x => he x.1)
  rw [e2]
  have hb : (e == 0) = false := by simpa using he
  have H := Lib.hid h
  clear h h1 he e2
  go_enter Tryz.func231, Tryz.ntmps231
  go_wp2
  go_ret
  exact ⟨rfl, ⟨_, H.out, fun _ x => x⟩, Mods.refl _ _⟩
theorem RR.first {w : World} {g : Nat} {vB : Value} {xs : List UInt8} {e : Int} (h : RR w g vB xs e) (hl : 1 ≤ xs.length) : ∃ gb off ca, vB = .slice (some ⟨gb, off, none⟩) xs.length ca ∧ xs.length ≤ ca ∧ ca ≤ 9223372036854775807 ∧ gb ≠ g ∧ ∀ i (hi : i < xs.length), w.cell? ⟨gb, off + i, none⟩ = some (.int .u8 (xs[i]).toNat) := by
 rcases h.rd.open with ⟨_, rfl⟩ | ⟨gb, off, ca, rfl, h1, h2, h3, h4⟩
 ·simp at hl
 ·exact ⟨gb, off, ca, rfl, h1, by simpa [maxLen] using h2, fun e => h.apart (by rw [e]; rfl), h4⟩
end Go.Proofs.YtglkmaalpammcaaGreat

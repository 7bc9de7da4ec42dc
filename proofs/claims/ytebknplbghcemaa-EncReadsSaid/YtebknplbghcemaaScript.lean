/- gleanlaw4.light and write. -/
import Derived.Test.YtebknplbghcemaaSteps
import Derived.Test.YtebknplbghcemaaEWrN
import Derived.Test.YtebknplbghcemaaHBytes
namespace Go.Proofs.Ytebknplbghcemaa
open Go.Gl Go.RowKit
set_option linter.unusedVariables false
set_option maxRecDepth 100000

/-- what a step weighs -/
def EStp.wt (s : EStp) : Nat := s.b.length + 8 * s.nat.length
def wts : List EStp → Nat
  | [] => 0
  | s :: ss => s.wt + wts ss
/-- what light counts from n on: it stops behind the first that is too much -/
def lightN : Nat → List EStp → Nat
  | n, [] => n
  | n, s :: ss => if n ≤ 3000 then lightN (n + s.wt) ss else n

theorem lightN_ge (n : Nat) (ss : List EStp) (h : ¬ n ≤ 3000) : lightN n ss = n := by
  cases ss <;> simp [lightN, h]
theorem lightN_le (n : Nat) (ss : List EStp) : decide (lightN n ss ≤ 3000) = decide (n + wts ss ≤ 3000) := by
  induction ss generalizing n with
  | nil => rfl
  | cons s ss ih =>
    by_cases h : n ≤ 3000
    · rw [lightN, if_pos h, ih]
      simp only [wts, Nat.add_assoc]
      rfl
    · rw [lightN_ge _ _ h]
      have : ¬ (n + wts (s :: ss) ≤ 3000) := by omega
      simp [h, this]
theorem wts_get {ss : List EStp} {i : Nat} (hi : i < ss.length) : ss[i].wt ≤ wts ss := by
  induction ss generalizing i with
  | nil => simp at hi
  | cons s ss ih =>
    cases i with
    | zero => simp [wts]
    | succ i =>
      have := ih (i := i) (by simpa using hi)
      simp only [List.getElem_cons_succ, wts]
      omega

/-- a script that is looked at -/
def lightB (ss : List EStp) : Bool := decide (ss.length + wts ss ≤ 3000)

set_option maxHeartbeats 1000000 in
theorem light_any {w : World} {v : Value} {ss : List EStp} (h : RdSteps w v ss) :
    Calls Try.prog 22 #[v] w fun e w' => e = .returned (.bool (lightB ss)) ∧ Quiet w w' := by
  obtain ⟨a, n, c, rfl, hn, h1, h2, h3⟩ := h.form
  have H3 := Lib.hid h3
  have HN := Lib.hid hn
  clear h h3 hn
  go_enter Try.func22, Try.ntmps22
  go_wp2
  go_loopw [3, 4] (fun x y wr => ∃ (i m : Nat), i ≤ n ∧ m ≤ 9223372036854775807 ∧ x = .int .i64 m ∧ y = .int .i64 i ∧ (∃ q, wr = w.drewN q) ∧ Hid (lightN m (ss.drop i) = lightN ss.length ss)) (fun _ y _ => n - (intOf y).toNat)
  case atStart => exact ⟨0, n, Nat.zero_le _, by omega, rfl, rfl, ⟨0, rfl⟩, by rw [← HN.out]; rfl⟩
  case round =>
    obtain ⟨i, m, hi, hm, rfl, rfl, ⟨q, rfl⟩, hR⟩ := hrel
    by_cases hlt : i < n
    · by_cases hm3 : m ≤ 3000
      · have hil : i < ss.length := by rw [HN.out]; exact hlt
        obtain ⟨g, off, rfl, hcc⟩ := H3.out.resolve_left (by omega)
        obtain ⟨hc, hat⟩ := hcc i hil
        clear hcc
        obtain ⟨a2, k2, f2, l2⟩ := RdM.form hat.nat
        obtain ⟨a3, k3, f3, l3⟩ := hat.b.form
        have c2 := hc 2 (by omega)
        have c3 := hc 3 (by omega)
        rw [show EStp.cell _ 2 = ss[i].nv from rfl, f2] at c2
        rw [show EStp.cell _ 3 = ss[i].bw from rfl, f3] at c3
        have HS := Lib.hid (show lightN (m + ss[i].wt) (ss.drop (i + 1)) = lightN ss.length ss from by
          have := hR.out
          rw [List.drop_eq_getElem_cons hil, lightN, if_pos hm3] at this
          exact this)
        have bl := hat.bl
        have nl := hat.nl
        have hw : ss[i].wt = ss[i].b.length + 8 * ss[i].nat.length := rfl
        generalize ss[i].wt = wt at *
        generalize ss[i].b.length = lb at *
        generalize ss[i].nat.length = ln at *
        subst hw
        clear hc hat f2 f3 hR
        go_wp2
        go_quiet (fail)
        go_wp2
        go_roundw
        case rel =>
          exact ⟨i + 1, m + (lb + 8 * ln), by omega, by omega, by go_num, by go_num, ⟨_, rfl⟩, HS.out⟩
        case measure => simp [intOf]; omega
      · have hR' := hR.out
        rw [lightN_ge _ _ hm3] at hR'
        have HL := Lib.hid (show lightB ss = false from by
          have := lightN_le ss.length ss
          rw [← hR'] at this
          rw [lightB, ← this]
          simpa using hm3)
        have hb : decide ((m : Int) ≤ 3000) = false := by simp; omega
        clear hR hR'
        go_wp2
        go_ret
        exact ⟨ret_bool HL.out.symm, ⟨_, rfl⟩⟩
    · have hR' := hR.out
      rw [List.drop_of_length_le (by rw [HN.out]; omega)] at hR'
      have HL := Lib.hid (show lightB ss = decide ((m : Int) ≤ 3000) from by
        have := lightN_le ss.length ss
        rw [← hR'] at this
        rw [lightB, ← this]
        exact decide_eq_decide.2 (by simp only [lightN]; omega))
      clear hR hR'
      go_wp2
      go_ret
      exact ⟨ret_bool HL.out.symm, ⟨_, rfl⟩⟩

end Go.Proofs.Ytebknplbghcemaa

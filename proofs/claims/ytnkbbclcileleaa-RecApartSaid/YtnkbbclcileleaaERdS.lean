/- enc.Reader: Nat, Dec, Raw, told by the reader's state. -/
import Derived.Test.YtnkbbclcileleaaERdP
namespace Go.Proofs.Ytnkbbclcileleaa
open Go.Gl Go.RowKit
set_option linter.unusedVariables false
set_option maxRecDepth 100000

/-- a Nat's bytes at the front -/
def nbody (s : ESt) : List UInt8 := (s.1.drop 1).take (evl 1 s)
def natV (s : ESt) : List Nat := if s.2 = 0 ∧ 1 ≤ s.1.length ∧ 1 + evl 1 s ≤ s.1.length ∧ (nbody s)[0]? ≠ some 0 then dig 18446744073709551616 (num (nbody s)) else []
def natT (s : ESt) : ESt := if s.2 = 0 then (if 1 ≤ s.1.length ∧ 1 + evl 1 s ≤ s.1.length then (if (nbody s)[0]? = some 0 then (s.1, 41) else (s.1.drop (1 + evl 1 s), 0)) else (s.1, 40)) else s

/-- a number read, as a call hands it back -/
def RNRes (ls : List Nat) (w : World) (g : Nat) (v : Value) (s : ESt) (r : Ending) (w' : World) : Prop := ∃ u v', r = .returned u ∧ RN w' u ls ∧ freshIn w u ∧ RStp w g v s.1 s.2 w' v'

theorem RNat_any {w : World} {g : Nat} {v : Value} {s : ESt} (h : Rr w g v s.1 s.2) (hll : s.1.length ≤ 10000000000) :
    Calls Try.prog 87 #[.pointer (some ⟨g, 0, none⟩)] w (RNRes (natV s) w g v (natT s)) := by
  obtain ⟨xs, e⟩ := s
  simp only at h hll
  unfold natV natT nbody evl
  simp only
  by_cases hk : rok 1 xs e = true
  · have hk2 := hk
    simp only [rok, Bool.and_eq_true, decide_eq_true_eq] at hk2
    obtain ⟨rfl, hl⟩ := hk2
    refine (RNat_yes h hl hll).mono ?_
    rintro r w' (⟨h1, rfl, v', h2⟩ | ⟨h1, ⟨h2, rfl, v', h3⟩ | ⟨h2, u, v', rfl, h4, h5, h6⟩⟩)
    · rw [if_neg (fun x => by omega), if_pos rfl, if_neg (fun x => by omega)]
      exact ⟨_, v', rfl, RdM.nil _ _, freshIn.nil _, h2⟩
    · rw [if_neg (fun x => x.2.2.2 h2), if_pos rfl, if_pos ⟨hl, h1⟩, if_pos h2]
      exact ⟨_, v', rfl, RdM.nil _ _, freshIn.nil _, h3⟩
    · rw [if_pos ⟨rfl, hl, h1, h2⟩, if_pos rfl, if_pos ⟨hl, h1⟩, if_neg h2]
      exact ⟨u, v', rfl, h4, h5, h6⟩
  · have hk2 : rok 1 xs e = false := by simpa using hk
    refine (RNat_no h hk2).mono ?_
    rintro r w' ⟨rfl, v', h2⟩
    simp only [rok, Bool.and_eq_true, decide_eq_true_eq] at hk
    rw [if_neg (fun x => hk ⟨x.1, x.2.1⟩)]
    by_cases he : e = 0
    · have hl : ¬ 1 ≤ xs.length := fun x => hk ⟨he, x⟩
      rw [if_pos he, if_neg (fun x => hl x.1)]
      have h3 : rerr 1 xs e = 40 := by simp [rerr, he, hl]
      rw [h3] at h2
      exact ⟨_, v', rfl, RdM.nil _ _, freshIn.nil _, h2⟩
    · rw [if_neg he]
      have h3 : rerr 1 xs e = e := by simp [rerr, he]
      rw [h3] at h2
      exact ⟨_, v', rfl, RdM.nil _ _, freshIn.nil _, h2⟩

/-- a number with places read, as a call hands it back -/
def RDRes (ls : List Nat) (w : World) (g : Nat) (v : Value) (s : ESt) (r : Ending) (w' : World) : Prop := ∃ u v', r = .returned (.agg #[u]) ∧ RN w' u ls ∧ freshIn w u ∧ RStp w g v s.1 s.2 w' v'

theorem RDec_any {w : World} {g : Nat} {v : Value} {s : ESt} (h : Rr w g v s.1 s.2) (hll : s.1.length ≤ 10000000000) :
    Calls Try.prog 79 #[.pointer (some ⟨g, 0, none⟩)] w (RDRes (natV s) w g v (natT s)) := by
  have h0 : Rr (w.alloc (.cells #[.slice none 0 0] 30)) g v s.1 s.2 := h.keep ((Mods.refl noB w).alloc _) (fun x => x) (fun _ _ x => x)
  have hg := h.lt
  have H := Lib.hid h0
  clear h0
  have HV := Lib.hid h.blt
  clear h
  go_enter Try.func79, Try.ntmps79
  go_wp2_with fail
  refine (RNat_any H.out hll).mono ?_
  rintro r w1 ⟨u, v1, rfl, hr, hf, hs⟩
  have g1 := hs.mods.heap (heap_new w (.cells #[.slice none 0 0] 30)) (by omega)
  have c1 := cells_of g1
  have f1 := free_of g1
  obtain ⟨a, c, rfl, _⟩ := RdM.form hr
  have R := Lib.hid (And.intro hr (And.intro hf hs))
  clear hr hf hs g1
  go_wp2
  refine bodyPost_ret (by simp [results, Try.results79, go_sem, c1]; try rfl) rfl ?_
  obtain ⟨hr, hf, hs⟩ := R.out
  have hf' : freshIn w (Value.slice a (natV s).length c) := hf.of (by simp)
  refine ⟨_, v1, rfl, RdM.keep hr (Mods.one w1 w.heap.size 0 _) (fun k hk e => ?_), hf', ?_⟩
  · have := hf k hk
    simp at this
    omega
  · have h5 := hs.from ((Mods.refl noB w).alloc (.cells #[.slice none 0 0] 30))
    exact ⟨h5.rr.keep (Mods.one w1 w.heap.size 0 _) (by omega) (fun k hk e => by have := HV.out k (h5.blk k hk); omega), h5.mods.setCell (.inr (Nat.le_refl _)) _, h5.blk⟩

def bbody (s : ESt) : List UInt8 := (s.1.drop 4).take (evl 4 s)
def rawV (most : Int) (s : ESt) : List UInt8 := if s.2 = 0 ∧ 4 ≤ s.1.length ∧ (evl 4 s : Int) ≤ most ∧ 4 + evl 4 s ≤ s.1.length then bbody s else []
def rawT (most : Int) (s : ESt) : ESt := if s.2 = 0 then (if 4 ≤ s.1.length then (if (evl 4 s : Int) ≤ most then (if 4 + evl 4 s ≤ s.1.length then (s.1.drop (4 + evl 4 s), 0) else (s.1, 40)) else (s.1, 42)) else (s.1, 40)) else s

/-- bytes read, as a call hands them back -/
def RBRes (bs : List UInt8) (w : World) (g : Nat) (v : Value) (s : ESt) (r : Ending) (w' : World) : Prop := ∃ u v', r = .returned u ∧ Own w' u bs ∧ freshIn w u ∧ RStp w g v s.1 s.2 w' v'



def PRaw (w : World) (g : Nat) (v : Value) (xs : List UInt8) (z : Nat) (r : Ending) (w' : World) : Prop := (xs.length < 4 + z ∧ RRes (.slice none 0 0) w g v xs 40 r w') ∨ (4 + z ≤ xs.length ∧ PieceB w g v xs z r w')



end Go.Proofs.Ytnkbbclcileleaa

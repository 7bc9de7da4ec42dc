/- gleanlaw4.known: the chapter's examples hold: the writer's half. -/
import Derived.Test.YtnkbbclcileleaaEWrN
import Derived.Test.YtnkbbclcileleaaERdS
import Derived.Test.YtnkbbclcileleaaZA
import Derived.Test.YtnkbbclcileleaaHBytes
namespace Go.Proofs.Ytnkbbclcileleaa
open Go.Gl Go.RowKit
set_option linter.unusedVariables false
set_option maxRecDepth 100000

def kb0 : List UInt8 := [7, 0, 0, 1, 2, 1, 2, 1, 0, 0, 0, 0, 2, 97, 98]
theorem kb0_is : be 1 7 ++ be 4 258 ++ be 1 1 ++ natL 256 ++ rawB [97, 98] = kb0 := by decide +kernel
def kc0 : List UInt8 := [0, 0, 0, 0, 0, 0, 0, 1, 0]
theorem kc0_is : be 8 1 ++ natL 0 = kc0 := by decide +kernel
theorem kv256 : dval 18446744073709551616 [256] = 256 := by decide
theorem kblen : blen 256 ≤ 255 := by decide +kernel
theorem kblen0 : blen 0 ≤ 255 := by decide

/-- A writer that the call itself has made. -/
def KW (w : World) (g : Nat) (xs : List UInt8) (wx : World) : Prop := ∃ v, Wr wx g v xs 0 ∧ (∀ k, v.ownBlock = some k → w.heap.size ≤ k) ∧ Mods noB w wx ∧ w.heap.size ≤ g

theorem KW.start (w wx : World) (hm : Mods noB w wx) : KW w wx.heap.size [] (wx.alloc (.cells #[.slice none 0 0, .int .i64 0] 108)) :=
  ⟨.slice none 0 0, ⟨heap_new _ _, Own.nil _, by simp [Value.ownBlock]⟩, fun k hk => by simp [Value.ownBlock] at hk, hm.alloc _, hm.size⟩

theorem KW.step {w wx wy : World} {g : Nat} {xs ys : List UInt8} {v v' : Value} (hf : ∀ k, v.ownBlock = some k → w.heap.size ≤ k) (hm : Mods noB w wx) (hg : w.heap.size ≤ g) (h : WStep wx g v ys 0 wy v') : KW w g ys wy := by
  refine ⟨v', h.wr, ?_, hm.trans h.mods (fun _ _ x => x) (fun i hi x => ?_), hg⟩
  · intro k hk
    rcases h.blk with hb | hb
    · exact hf k (hb ▸ hk)
    · exact Nat.le_trans hm.size (hb k hk)
  · rcases x with x | x
    · omega
    · exact absurd hi (Nat.not_lt.2 (hf i x))
theorem KW.then0 {w wx wy : World} {g : Nat} {xs : List UInt8} (h : KW w g xs wx) (hm : Mods noB wx wy) : KW w g xs wy := by
  obtain ⟨v, h1, h2, h3, h4⟩ := h
  exact ⟨v, h1.then0 hm, h2, h3.then0 hm, h4⟩
theorem KW.mods {w wx : World} {g : Nat} {xs : List UInt8} (h : KW w g xs wx) : Mods noB w wx := by
  obtain ⟨v, h1, h2, h3, h4⟩ := h
  exact h3

theorem KW.u8 {w wx : World} {g : Nat} {xs : List UInt8} (h : KW w g xs wx) (x : Nat) (hx : x ≤ 255) (hl : xs.length ≤ 1000) :
    Calls Try.prog 88 #[.pointer (some ⟨g, 0, none⟩), .int .u8 x] wx fun r w' => r = .returned (.tuple #[]) ∧ KW w g (xs ++ be 1 x) w' := by
  obtain ⟨v, h1, h2, h3, h4⟩ := h
  exact (WU8_any x h1 hx (by omega)).mono fun r w' ⟨hr, v', hs⟩ => ⟨hr, KW.step (xs := xs) h2 h3 h4 hs⟩

theorem KW.u64 {w wx : World} {g : Nat} {xs : List UInt8} (h : KW w g xs wx) (x : Nat) (hx : x ≤ 18446744073709551615) (hl : xs.length ≤ 1000) :
    Calls Try.prog 75 #[.pointer (some ⟨g, 0, none⟩), .int .u64 x] wx fun r w' => r = .returned (.tuple #[]) ∧ KW w g (xs ++ be 8 x) w' := by
  obtain ⟨v, h1, h2, h3, h4⟩ := h
  exact (WU64_any x h1 hx (by omega)).mono fun r w' ⟨hr, v', hs⟩ => ⟨hr, KW.step (xs := xs) h2 h3 h4 hs⟩
theorem KW.bool {w wx : World} {g : Nat} {xs : List UInt8} (h : KW w g xs wx) (hl : xs.length ≤ 1000) :
    Calls Try.prog 81 #[.pointer (some ⟨g, 0, none⟩), .bool true] wx fun r w' => r = .returned (.tuple #[]) ∧ KW w g (xs ++ be 1 1) w' := by
  obtain ⟨v, h1, h2, h3, h4⟩ := h
  exact (WBool_any true h1 (by omega)).mono fun r w' ⟨hr, v', hs⟩ => ⟨hr, KW.step (xs := xs) h2 h3 h4 hs⟩
theorem KW.nat {w wx : World} {g : Nat} {xs : List UInt8} {u : Value} {ls : List Nat} (h : KW w g xs wx) (hu : RN wx u ls) (hL : Lim ls) (hll : ls.length ≤ 1000000) (hb : blen (dval 18446744073709551616 ls) ≤ 255) (hl : xs.length ≤ 1000) :
    Calls Try.prog 86 #[.pointer (some ⟨g, 0, none⟩), u] wx fun r w' => r = .returned (.tuple #[]) ∧ KW w g (xs ++ natL (dval 18446744073709551616 ls)) w' := by
  obtain ⟨v, h1, h2, h3, h4⟩ := h
  refine (WNat_any h1 hu hL hll (by omega)).mono ?_
  rintro r w' ⟨hr, v', hs⟩
  rw [show wnatX 0 xs (dval 18446744073709551616 ls) = xs ++ natL (dval 18446744073709551616 ls) from if_pos hb, show wnatE 0 (dval 18446744073709551616 ls) = 0 from if_pos hb] at hs
  exact ⟨hr, KW.step (xs := xs) h2 h3 h4 hs⟩
theorem KW.dec {w wx : World} {g : Nat} {xs : List UInt8} {u : Value} {ls : List Nat} (h : KW w g xs wx) (hu : RN wx u ls) (hL : Lim ls) (hll : ls.length ≤ 1000000) (hb : blen (dval 18446744073709551616 ls) ≤ 255) (hl : xs.length ≤ 1000) :
    Calls Try.prog 77 #[.pointer (some ⟨g, 0, none⟩), .agg #[u]] wx fun r w' => r = .returned (.tuple #[]) ∧ KW w g (xs ++ natL (dval 18446744073709551616 ls)) w' := by
  obtain ⟨v, h1, h2, h3, h4⟩ := h
  refine (WDec_any h1 hu hL hll (by omega)).mono ?_
  rintro r w' ⟨hr, v', hs⟩
  rw [show wnatX 0 xs (dval 18446744073709551616 ls) = xs ++ natL (dval 18446744073709551616 ls) from if_pos hb, show wnatE 0 (dval 18446744073709551616 ls) = 0 from if_pos hb] at hs
  exact ⟨hr, KW.step (xs := xs) h2 h3 h4 hs⟩

theorem KW.out {w wx : World} {g : Nat} {xs : List UInt8} (h : KW w g xs wx) (hl : xs.length ≤ 1000) :
    Calls Try.prog 53 #[.pointer (some ⟨g, 0, none⟩)] wx fun r w' => ∃ u, r = .returned (.tuple #[u, .int .i64 0]) ∧ Own w' u xs ∧ Mods noB w w' ∧ freshIn w u := by
  obtain ⟨v, h1, h2, h3, h4⟩ := h
  refine (WOut_any h1 (by omega)).mono ?_
  rintro r w' ⟨u, rfl, ho, hm, hf⟩
  exact ⟨u, rfl, ho, h3.then0 hm, hf.of h3.size⟩

/-- A reader that the call itself has made. -/
def KR (w : World) (g : Nat) (s : ESt) (wx : World) : Prop := ∃ v, Rr wx g v s.1 s.2 ∧ Mods noB w wx ∧ w.heap.size ≤ g

theorem KR.step {w wx wy : World} {g : Nat} {s s' : ESt} {v v' : Value} (hm : Mods noB w wx) (hg : w.heap.size ≤ g) (h : RStp wx g v s'.1 s'.2 wy v') : KR w g s' wy :=
  ⟨v', h.rr, hm.trans h.mods (fun _ _ x => x) (fun i hi x => by omega), hg⟩
theorem KR.then0 {w wx wy : World} {g : Nat} {s : ESt} (h : KR w g s wx) (hm : Mods noB wx wy) : KR w g s wy := by
  obtain ⟨v, h1, h2, h3⟩ := h
  exact ⟨v, h1.keep hm (fun x => x) (fun _ _ x => x), h2.then0 hm, h3⟩
theorem KR.mods {w wx : World} {g : Nat} {s : ESt} (h : KR w g s wx) : Mods noB w wx := by
  obtain ⟨v, h1, h2, h3⟩ := h
  exact h2
theorem KR.lt {w wx : World} {g : Nat} {s : ESt} (h : KR w g s wx) : g < wx.heap.size := by
  obtain ⟨v, h1, h2, h3⟩ := h
  exact h1.lt

theorem KR.u8 {w wx : World} {g : Nat} {s s' : ESt} {n : Nat} (h : KR w g s wx) (e1 : evl 1 s = n) (e2 : est 1 s = s') :
    Calls Try.prog 90 #[.pointer (some ⟨g, 0, none⟩)] wx fun r w' => r = .returned (.int .u8 n) ∧ KR w g s' w' := by
  subst e1 e2
  obtain ⟨v, h1, h2, h3⟩ := h
  exact (RU8_any h1).mono fun r w' ⟨hr, v', hs⟩ => ⟨hr, KR.step (s := s) h2 h3 hs⟩

theorem KR.bool {w wx : World} {g : Nat} {s s' : ESt} {b : Bool} (h : KR w g s wx) (e1 : decide (evl 1 s = 1) = b) (e2 : boolS s = s') :
    Calls Try.prog 82 #[.pointer (some ⟨g, 0, none⟩)] wx fun r w' => r = .returned (.bool b) ∧ KR w g s' w' := by
  subst e1 e2
  obtain ⟨v, h1, h2, h3⟩ := h
  exact (Bool_any h1).mono fun r w' ⟨hr, v', hs⟩ => ⟨hr, KR.step (s := s) h2 h3 hs⟩
theorem KR.nat {w wx : World} {g : Nat} {s s' : ESt} {ls : List Nat} (h : KR w g s wx) (hl : s.1.length ≤ 1000) (e1 : natV s = ls) (e2 : natT s = s') :
    Calls Try.prog 87 #[.pointer (some ⟨g, 0, none⟩)] wx fun r w' => ∃ u, r = .returned u ∧ RN w' u ls ∧ KR w g s' w' := by
  subst e1 e2
  obtain ⟨v, h1, h2, h3⟩ := h
  exact (RNat_any h1 (by omega)).mono fun r w' ⟨u, v', hr, hn, _, hs⟩ => ⟨u, hr, hn, KR.step (s := s) h2 h3 hs⟩



theorem KR.end {w wx : World} {g : Nat} {s : ESt} {n : Int} (h : KR w g s wx) (e : endS s.1 s.2 = n) :
    Calls Try.prog 67 #[.pointer (some ⟨g, 0, none⟩)] wx fun r w' => r = .returned (.int .i64 n) ∧ Mods noB w w' := by
  subst e
  obtain ⟨v, h1, h2, h3⟩ := h
  exact (End_any h1).mono fun r w' ⟨hr, v', hs⟩ => ⟨hr, h2.trans hs.mods (fun _ _ x => x) (fun i hi x => by omega)⟩

theorem KR.new {w wx : World} {u : Value} {xs : List UInt8} (hm : Mods noB w wx) (hu : Rd wx u xs) (hl : xs.length ≤ 1000) :
    Calls Try.prog 66 #[u] wx fun r w' => ∃ g, r = .returned (.pointer (some ⟨g, 0, none⟩)) ∧ KR w g (xs, 0) w' ∧ KR wx g (xs, 0) w' :=
  (NewReader_any hu (by omega)).mono fun r w' ⟨g, v, hr, h1, h2, h3, h4⟩ => ⟨g, hr, ⟨v, h1, hm.then0 h2, Nat.le_trans hm.size h3⟩, ⟨v, h1, h2, h3⟩⟩

end Go.Proofs.Ytnkbbclcileleaa

/- gleanlaw4.known: the chapter's examples hold: the writer's half. -/
import Derived.Test.YtglkmaalpammcaaZD
import Derived.Test.YtglkmaalpammcaaERdS
import Derived.Test.YtglkmaalpammcaaZA
namespace Go.Proofs.Ytglkmaalpammcaa
open Go.Gl Go.RowKit
set_option linter.unusedVariables false
set_option maxRecDepth 100000
def KW (w : World) (g : Nat) (xs : List UInt8) (wx : World) : Prop := ∃ v, Wr wx g v xs 0 ∧ (∀ k, v.ownBlock = some k → w.heap.size ≤ k) ∧ Mods noB w wx ∧ w.heap.size ≤ g
theorem KW.start (w wx : World) (hm : Mods noB w wx) : KW w wx.heap.size [] (wx.alloc (.cells #[.slice none 0 0, .int .i64 0] 166)) :=
  ⟨.slice none 0 0, ⟨heap_new _ _, Gl.Own.nil _, by simp [Value.ownBlock]⟩, fun k hk => by simp [Value.ownBlock] at hk, hm.alloc _, hm.size⟩
theorem KW.step {w wx wy : World} {g : Nat} {xs ys : List UInt8} {v v' : Value} (hf : ∀ k, v.ownBlock = some k → w.heap.size ≤ k) (hm : Mods noB w wx) (hg : w.heap.size ≤ g) (h : WStep wx g v ys 0 wy v') : KW w g ys wy := by
  refine ⟨v', h.wr, ?_, hm.trans h.mods (fun _ _ x => x) (fun i hi x => ?_), hg⟩
  · intro k hk
    rcases h.blk with hb | hb
    · exact hf k (hb ▸ hk)
    · exact Nat.le_trans hm.size (hb k hk)
  · rcases x with x | x
    · omega
    · exact absurd hi (Nat.not_lt.2 (hf i x))
theorem KW.then0 {w wx wy : World} {g : Nat} {xs : List UInt8} (h : KW w g xs wx) (hm : Mods noB wx wy) : KW w g xs wy := by
  obtain ⟨v, h1, h2, h3, h4⟩ := h
  exact ⟨v, h1.then0 hm, h2, h3.then0 hm, h4⟩
theorem KW.mods {w wx : World} {g : Nat} {xs : List UInt8} (h : KW w g xs wx) : Mods noB w wx := by
  obtain ⟨v, h1, h2, h3, h4⟩ := h
  exact h3
theorem KW.u64 {w wx : World} {g : Nat} {xs : List UInt8} (h : KW w g xs wx) (x : Nat) (hx : x ≤ 18446744073709551615) (hl : xs.length ≤ 1000) :
    Calls Try.prog 128 #[.pointer (some ⟨g, 0, none⟩), .int .u64 x] wx fun r w' => r = .returned (.tuple #[]) ∧ KW w g (xs ++ be 8 x) w' := by
  obtain ⟨v, h1, h2, h3, h4⟩ := h
  exact (WU64_any x h1 hx (by omega)).mono fun r w' ⟨hr, v', hs⟩ => ⟨hr, KW.step (xs := xs) h2 h3 h4 hs⟩
theorem KW.out {w wx : World} {g : Nat} {xs : List UInt8} (h : KW w g xs wx) (hl : xs.length ≤ 1000) :
    Calls Try.prog 97 #[.pointer (some ⟨g, 0, none⟩)] wx fun r w' => ∃ u, r = .returned (.tuple #[u, .int .i64 0]) ∧ Gl.Own w' u xs ∧ Mods noB w w' ∧ freshIn w u := by
  obtain ⟨v, h1, h2, h3, h4⟩ := h
  refine (WOut_any h1 (by omega)).mono ?_
  rintro r w' ⟨u, rfl, ho, hm, hf⟩
  exact ⟨u, rfl, ho, h3.then0 hm, hf.of h3.size⟩
end Go.Proofs.Ytglkmaalpammcaa

/- gleanref4.Put: n bytes of a number appended, the highest first. -/
import Derived.Test.YtjlomnhngngkiaaZA
import Derived.Test.YtjlomnhngngkiaaSpecK
namespace Go.Proofs.Ytjlomnhngngkiaa
open Go.Gl Go.RowKit
set_option linter.unusedVariables false

/-- bytes appended to an owned slice -/
structure Appended (w : World) (v : Value) (xs : List UInt8) (w' : World) (v' : Value) : Prop where
  own : Own w' v' xs
  mods : Mods (ofV v) w w'
  blk : v'.ownBlock = v.ownBlock ∨ freshIn w v'

theorem Appended.trans {w w1 w2 : World} {v v1 v2 : Value} {xs ys : List UInt8} (h : Appended w v xs w1 v1) (k : Appended w1 v1 ys w2 v2) : Appended w v ys w2 v2 :=
  ⟨k.own, h.mods.trans k.mods (fun _ _ x => x) (fun i hi hx => by
      rcases h.blk with hb | hb
      · exact hb.symm.trans hx
      · exact absurd hi (Nat.not_lt.2 (hb i hx))),
    by
      rcases k.blk with kb | kb
      · rcases h.blk with hb | hb
        · exact .inl (kb.trans hb)
        · exact .inr (fun i hi => hb i (kb ▸ hi))
      · exact .inr (kb.of h.mods.size)⟩

theorem Appended.fresh {w w1 : World} {v v1 : Value} {xs : List UInt8} (h : Appended w v xs w1 v1) {w0 : World} (hs : w0.heap.size ≤ w.heap.size) (hv : freshIn w0 v) : freshIn w0 v1 := by
  rcases h.blk with hb | hb
  · exact fun i hi => hv i (hb ▸ hi)
  · exact hb.of hs

theorem Appended.mods0 {w w1 : World} {v v1 : Value} {xs : List UInt8} (h : Appended w v xs w1 v1) {w0 : World} (hm : Mods noB w0 w) (hv : freshIn w0 v) : Mods noB w0 w1 :=
  hm.trans h.mods (fun _ _ x => x) (fun i hi hx => absurd hi (Nat.not_lt.2 (hv i hx)))

theorem shr_byte (x j : Nat) : (x : Int) / 2 ^ (8 * j) % 256 = (((UInt8.ofNat (x / 256 ^ j)).toNat : Nat) : Int) := by
  rw [UInt8.toNat_ofNat', show (256 : Nat) = 2 ^ 8 from rfl, ← Nat.pow_mul]
  simp


end Go.Proofs.Ytjlomnhngngkiaa

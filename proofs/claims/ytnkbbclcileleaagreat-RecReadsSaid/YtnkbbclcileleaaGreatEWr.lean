/- enc.Writer: what its block holds; number, U8, U32, U64, Bool, all, Raw, Out. -/
import Derived.Test.YtnkbbclcileleaaGreatBase
import Derived.Test.YtnkbbclcileleaaGreatLib2
import Derived.Test.YtnkbbclcileleaaGreatSpecK
import Derived.Test.YtnkbbclcileleaaGreatRPut
namespace Go.Proofs.YtnkbbclcileleaaGreat
open Go.Gl Go.RowKit
set_option linter.unusedVariables false
set_option maxRecDepth 100000

/-- A writer's block: its bytes, its first error. -/
structure Wr (w : World) (g : Nat) (v : Value) (xs : List UInt8) (e : Int) : Prop where
  heap : w.heap[g]? = some (.cells #[v, .int .i64 e] 163 (0, 0))
  own : Own w v xs
  apart : v.ownBlock ≠ some g

/-- what a step of a writer may turn: its block, its bytes' block -/
def WS (g : Nat) (v : Value) : Nat → Prop := fun k => k = g ∨ v.ownBlock = some k

/-- A step of a writer. -/
structure WStep (w : World) (g : Nat) (v : Value) (xs : List UInt8) (e : Int) (w' : World) (v' : Value) : Prop where
  wr : Wr w' g v' xs e
  mods : Mods (WS g v) w w'
  blk : v'.ownBlock = v.ownBlock ∨ freshIn w v'

theorem WStep.trans {w w1 w2 : World} {g : Nat} {v v1 v2 : Value} {xs ys : List UInt8} {e e' : Int} (h : WStep w g v xs e w1 v1) (k : WStep w1 g v1 ys e' w2 v2) : WStep w g v ys e' w2 v2 :=
  ⟨k.wr, h.mods.trans k.mods (fun _ _ x => x) (fun i hi hx => by
      rcases hx with hx | hx
      · exact .inl hx
      · rcases h.blk with hb | hb
        · exact .inr (hb.symm.trans hx)
        · exact absurd hi (Nat.not_lt.2 (hb i hx))),
    by
      rcases k.blk with kb | kb
      · rcases h.blk with hb | hb
        · exact .inl (kb.trans hb)
        · exact .inr (fun i hi => hb i (kb ▸ hi))
      · exact .inr (kb.of h.mods.size)⟩

theorem WStep.refl {w : World} {g : Nat} {v : Value} {xs : List UInt8} {e : Int} (h : Wr w g v xs e) : WStep w g v xs e w v := ⟨h, Mods.refl _ _, .inl rfl⟩

theorem Wr.lt {w : World} {g : Nat} {v : Value} {xs : List UInt8} {e : Int} (h : Wr w g v xs e) : g < w.heap.size := lt_of_heap h.heap

/-- the bytes' field stored: what the block holds behind it -/
theorem Wr.set {w w' : World} {g : Nat} {v v' : Value} {xs ys : List UInt8} {e : Int} (h : Wr w g v xs e) (ho : Own w' v' ys) (hm : Mods (ofV v) w w') (hb : v'.ownBlock = v.ownBlock ∨ freshIn w v') :
    WStep w g v ys e (w'.setCell ⟨g, 0, none⟩ v') v' := by
  have hv' : v'.ownBlock ≠ some g := by
    rcases hb with hb | hb
    · rw [hb]; exact h.apart
    · exact hb.not h.lt
  have h1 := hm.heap h.heap (fun x => h.apart x)
  refine ⟨⟨?_, ho.keep ((Mods.refl (fun k => k = g) w').setCell (.inl rfl) v') (fun k hk e => hv' (by rw [hk, e])), hv'⟩, (hm.mono (T := WS g v) (fun i _ x => .inr x)).setCell (.inl (.inl rfl)) v', hb⟩
  have := heap_set h1 0 v'
  simpa using this

end Go.Proofs.YtnkbbclcileleaaGreat

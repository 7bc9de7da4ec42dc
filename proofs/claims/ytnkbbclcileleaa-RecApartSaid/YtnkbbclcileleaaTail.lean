/- A function's statements, one theorem each: the code that is left behind the first k of a sequence. -/
import Derived.Test.YtnkbbclcileleaaZA
import Derived.WalkKit
namespace Go.Gl
open Go.RowKit

/-- what is left behind the first k statements -/
def tl : Nat → Code → Code
  | 0, c => c
  | k + 1, .seq _ b => tl k b
  | _, c => c
/-- a function's body -/
def bodyOf (f : Func) : Code := f.body.getD .skip

theorem wp_seq_h {P : Program} {Q : Exit → Act → World → Prop} {a : Act} {w : World} {x y : Code} (h : ∀ K : Act → World → Prop, Hid (∀ a w, y.wp P Q a w → K a w) → x.wp P (Exit.then K Q) a w) : (Code.seq x y).wp P Q a w :=
  wp_seq (h _ (Lib.hid fun _ _ h => h))
/-- the code is told by its place -/
theorem wp_tl {P : Program} {Q : Exit → Act → World → Prop} {a : Act} {w : World} {c d : Code} (e : c = d) (h : d.wp P Q a w) : c.wp P Q a w := e ▸ h

end Go.Gl

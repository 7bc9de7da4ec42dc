/- Arguments of a law, opened: a byte slice that came in. -/
import Derived.Test.YtglkmaalpammcaaGreatZA
import Derived.ProofKit
import Derived.ChangeOld
namespace Go.Proofs.YtglkmaalpammcaaGreat
open Go.Gl Go.RowKit Go.ChangeShapes Go.WideShapes Go.ChangeAt
set_option linter.unusedVariables false
set_option maxRecDepth 100000
theorem zU {w:World}{r:Nat}{x:TypeId × Nat} (h:w.shape? r=some x):r<w.heap.size:=by
 rcases Nat.lt_or_ge r w.heap.size with hlt | hge
 ·exact hlt
 ·simp [World.shape?,Array.getElem?_eq_none hge] at h
theorem laidOut:laidOutB Tryz.prog=true:=by kernel_rfl
theorem own:ownKnob Tryz.prog.godebug=none:=by kernel_rfl
end Go.Proofs.YtglkmaalpammcaaGreat

/- gleanref1: number, Norm. -/
import Derived.Test.YtglkmaalpammcaaRDig
import Derived.StillTailTactics
namespace Go.Gl
theorem dval_take_succ (B : Nat) (ds : List Nat) (k : Nat) (hk : k < ds.length) : dval B (ds.take (k + 1)) = dval B (ds.take k) + ds[k] * B ^ k := by
  rw [List.take_succ_eq_append_getElem hk, dval_snoc, List.length_take, Nat.min_eq_left (by omega), Nat.mul_comm (B ^ k)]
end Go.Gl
namespace Go.Proofs.Ytglkmaalpammcaa
open Go.Gl Go.RowKit
set_option linter.unusedVariables false
set_option maxRecDepth 100000
end Go.Proofs.Ytglkmaalpammcaa

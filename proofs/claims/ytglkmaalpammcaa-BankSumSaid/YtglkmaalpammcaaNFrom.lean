/- nat.FromBytes: the number that bytes say. -/
import Derived.Test.YtglkmaalpammcaaNBytes
import Derived.Test.YtglkmaalpammcaaNumT
import Derived.StillTailTactics
namespace Go.Gl
theorem lim_set {ls : List Nat} (h : Lim ls) (i x : Nat) (hx : x ≤ 18446744073709551615) : Lim (ls.set i x) := by
  intro y hy
  rcases List.mem_or_eq_of_mem_set hy with hy | hy
  · exact h y hy
  · omega
end Go.Gl
namespace Go.Proofs.Ytglkmaalpammcaa
open Go.Gl Go.RowKit
set_option linter.unusedVariables false
set_option maxRecDepth 100000
end Go.Proofs.Ytglkmaalpammcaa

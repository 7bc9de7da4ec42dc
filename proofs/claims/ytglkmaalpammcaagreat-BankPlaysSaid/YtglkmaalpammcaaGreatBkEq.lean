/- Two accounts held against each other; a number and one. -/
import Derived.Test.YtglkmaalpammcaaGreatBkM
namespace Go.Proofs.YtglkmaalpammcaaGreat
open Go.Gl Go.RowKit
set_option linter.unusedVariables false
theorem acc_eqIn (d : Nat) (a b a' b' : Int) (w : World) : (Op.equalIn (d + 2) 59 (.agg #[.int .u64 a, .int .u64 b]) (.agg #[.int .u64 a', .int .u64 b'])).run Tryz.prog w = .ok (a == a' && b == b') w := by
 simp [go_sem]
 by_cases h2 : a = a' <;> by_cases h3 : b = b' <;> simp [h2, h3]
theorem acc_neq (a b a' b' : Int) (w : World) : (binOp .neq 59 (.agg #[.int .u64 a, .int .u64 b]) (.agg #[.int .u64 a', .int .u64 b'])).run Tryz.prog w = .ok (.bool (!(a == a' && b == b'))) w := by
 rw [run_neq_struct, acc_eqIn 9998]
 rfl
theorem acc_same {a b : Int} (w : World) : (binOp .neq 59 (.agg #[.int .u64 a, .int .u64 b]) (.agg #[.int .u64 a, .int .u64 b])).run Tryz.prog w = .ok (.bool false) w := by
 rw [acc_neq]
 simp
end Go.Proofs.YtglkmaalpammcaaGreat

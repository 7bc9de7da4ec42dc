/- Two accounts held against each other; a number and one. -/
import Derived.Test.YtglkmaalpammcaaBkM
namespace Go.Proofs.Ytglkmaalpammcaa
open Go.Gl Go.RowKit
set_option linter.unusedVariables false
theorem acc_eqIn (d : Nat) (a b a' b' : Int) (w : World) : (Op.equalIn (d + 2) 38 (.agg #[.int .u64 a, .int .u64 b]) (.agg #[.int .u64 a', .int .u64 b'])).run Try.prog w = .ok (a == a' && b == b') w := by
  simp [go_sem]
  by_cases h2 : a = a' <;> by_cases h3 : b = b' <;> simp [h2, h3]
theorem acc_neq (a b a' b' : Int) (w : World) : (binOp .neq 38 (.agg #[.int .u64 a, .int .u64 b]) (.agg #[.int .u64 a', .int .u64 b'])).run Try.prog w = .ok (.bool (!(a == a' && b == b'))) w := by
  rw [run_neq_struct, acc_eqIn 9998]
  rfl
theorem acc_same {a b : Int} (w : World) : (binOp .neq 38 (.agg #[.int .u64 a, .int .u64 b]) (.agg #[.int .u64 a, .int .u64 b])).run Try.prog w = .ok (.bool false) w := by
  rw [acc_neq]
  simp
theorem u64_inc {q q1 : Nat} (t : TypeId) (h : (q + 1) % 18446744073709551616 = q1) (w : World) : (binOp .add t (.int .u64 ((q : Nat) : Int)) (.int .u64 1)).run Try.prog w = .ok (.int .u64 ((q1 : Nat) : Int)) w := by
  have e : IntKind.u64.wrap ((q : Int) + 1) = (q1 : Int) := by rw [wrap_u64]; omega
  simp [binOp, go_sem, e]
end Go.Proofs.Ytglkmaalpammcaa

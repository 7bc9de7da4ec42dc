/- Two keys held against each other. -/
import Derived.Test.YtdoeadoaffmgpaaBase
namespace Go.Proofs.Ytdoeadoaffmgpaa
open Go.Gl Go.RowKit
set_option linter.unusedVariables false

theorem key_size : (Try.prog.info? 30).map (·.size) = some 3 := by kernel_rfl

theorem key_eqIn (d : Nat) (k a b k' a' b' : Int) (w : World) : (Op.equalIn (d + 2) 30 (.agg #[.int .i64 k, .int .u64 a, .int .u64 b]) (.agg #[.int .i64 k', .int .u64 a', .int .u64 b'])).run Try.prog w = .ok (k == k' && (a == a' && b == b')) w := by
  simp [go_sem]
  by_cases h1 : k = k' <;> by_cases h2 : a = a' <;> by_cases h3 : b = b' <;> simp [h1, h2, h3]

theorem key_neq (k a b k' a' b' : Int) (w : World) : (binOp .neq 30 (.agg #[.int .i64 k, .int .u64 a, .int .u64 b]) (.agg #[.int .i64 k', .int .u64 a', .int .u64 b'])).run Try.prog w = .ok (.bool (!(k == k' && (a == a' && b == b')))) w := by
  rw [run_neq_struct, key_eqIn 9998]
  rfl

theorem key_eql (k a b k' a' b' : Int) (w : World) : (binOp .eql 30 (.agg #[.int .i64 k, .int .u64 a, .int .u64 b]) (.agg #[.int .i64 k', .int .u64 a', .int .u64 b'])).run Try.prog w = .ok (.bool (k == k' && (a == a' && b == b'))) w := by
  rw [run_eql_struct, key_eqIn 9998]
  rfl

end Go.Proofs.Ytdoeadoaffmgpaa

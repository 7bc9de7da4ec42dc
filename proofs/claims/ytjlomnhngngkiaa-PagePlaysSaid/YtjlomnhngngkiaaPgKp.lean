/- gleanlaw5.known, plain: what the examples' pages are. -/
import Derived.Test.YtjlomnhngngkiaaPgO
namespace Go.Proofs.Ytjlomnhngngkiaa
open Go.Gl
set_option linter.unusedVariables false
set_option maxRecDepth 100000

def bt (n : Nat) : List UInt8 := [UInt8.ofNat n]
def kset : Nat → Pgs
  | 0 => []
  | i + 1 => setP (kset i) (bt i) (bt (2 * i))
def kdel : Nat → Pgs
  | 0 => setP (kset 33) (bt 7) []
  | j + 1 => delP (kdel j) (bt (32 - j))

theorem kF1 : (List.range 33).all (fun i => newP (kset i) (bt i) && decide ((kset i).length ≤ 100) && decide (cnt (kset i) ≤ 100)) = true := by kernel_rfl
theorem kA1 : (kset 33).map List.length = [16, 17] := by kernel_rfl
theorem kA2 : getP (kset 33) (bt 7) = some (bt 14) := by kernel_rfl
theorem kA3 : newP (kset 33) (bt 7) = false := by kernel_rfl
theorem kA4 : cnt (kdel 0) = 33 := by kernel_rfl
theorem kA5 : cnt (kset 33) = 33 := by kernel_rfl
theorem kA6 : (kset 33).length = 2 := by kernel_rfl
theorem kF3 : (List.range 17).all (fun j => (findP (kdel j) (bt (32 - j))).2.2 && decide ((kdel j).length ≤ 100) && decide (cnt (kdel j) ≤ 100)) = true := by kernel_rfl
theorem kB1 : (kdel 17).map List.length = [16] := by kernel_rfl
theorem kB2 : getP (kdel 17) (bt 20) = none := by kernel_rfl
theorem kB3 : (findP (kdel 17) (bt 20)).2.2 = false := by kernel_rfl
theorem kB4 : (findP (kdel 17) (bt 0)).2.2 = true := by kernel_rfl
theorem kB5 : cnt (kdel 17) = 16 := by kernel_rfl
theorem kB6 : (kdel 17).length = 1 := by kernel_rfl
theorem kF5 : (wlk (kdel 17) (bt 2) (bt 4) false).take 9 = [(bt 2, bt 4), (bt 3, bt 6)] := by kernel_rfl
theorem kF6 : (wlk (kdel 17) (bt 2) (bt 4) true).take 9 = [(bt 3, bt 6), (bt 2, bt 4)] := by kernel_rfl

theorem kset_succ (k : Nat) : kset (k + 1) = setP (kset k) (bt k) (bt (2 * k)) := rfl
theorem kdel_zero : kdel 0 = setP (kset 33) (bt 7) [] := rfl
theorem kdel_succ (k : Nat) : kdel (k + 1) = delP (kdel k) (bt (32 - k)) := rfl
theorem kset_ok : ∀ k, PgOk (kset k)
  | 0 => ⟨List.Pairwise.nil, fun p hp => (List.not_mem_nil hp).elim, fun p hp => (List.not_mem_nil hp).elim⟩
  | k + 1 => setP_ok (kset_ok k) _ _
theorem kdel_ok : ∀ k, PgOk (kdel k)
  | 0 => setP_ok (kset_ok 33) _ _
  | k + 1 => delP_ok (kdel_ok k) _
theorem kset_zero : kset 0 = [] := rfl
attribute [irreducible] kset kdel

end Go.Proofs.Ytjlomnhngngkiaa

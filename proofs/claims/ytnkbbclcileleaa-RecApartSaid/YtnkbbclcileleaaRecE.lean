/- Records held against one another: '==' of their structs, and when their bytes are the same. -/
import Derived.Test.YtnkbbclcileleaaRLgt
import Derived.Test.YtnkbbclcileleaaRecG
import Derived.Laws.StructEq
namespace Go.Proofs.Ytnkbbclcileleaa
open Go.Gl Go.RowKit
set_option linter.unusedVariables false
set_option maxRecDepth 100000

theorem okN {n : Nat} (h : n ≤ 18446744073709551615) : Fld.Ok ⟨0, n, []⟩ := ⟨by simp, h, fun x => by simp at x, limN⟩
theorem okB (b : Bool) : Fld.Ok ⟨1, if b then 1 else 0, []⟩ := ⟨by simp, by simp only; split <;> omega, fun _ => by simp only; split <;> omega, limN⟩
theorem okD {l : List Nat} (h : Lim l) : Fld.Ok ⟨2, 0, l⟩ := ⟨by simp, by simp, fun x => by simp at x, h⟩
theorem okC {f : Fld} {fs : List Fld} (h : f.Ok) (k : ∀ g ∈ fs, g.Ok) : ∀ g ∈ f :: fs, g.Ok := fun g hg => by
  rcases List.mem_cons.1 hg with rfl | hg
  · exact h
  · exact k g hg
theorem okZ : ∀ g ∈ ([] : List Fld), g.Ok := fun g hg => by cases hg

theorem normN (n : Nat) : Fld.norm ⟨0, n, []⟩ = ⟨0, n, []⟩ := rfl
theorem normB (n : Nat) : Fld.norm ⟨1, n, []⟩ = ⟨1, n, []⟩ := rfl
theorem normD (l : List Nat) : Fld.norm ⟨2, 0, l⟩ = ⟨2, 0, normL l⟩ := rfl

theorem lay_same {fs gs : List Fld} (hf : ∀ f ∈ fs, f.Ok) (hg : ∀ f ∈ gs, f.Ok) (hk : fs.map (·.k) = gs.map (·.k)) {p : Bool} (h : fs.map Fld.norm = gs.map Fld.norm ↔ p = true) : decide (recLay fs = recLay gs) = p := by
  rw [Bool.eq_iff_iff, decide_eq_true_iff, recLay_inj hf hg hk, h]

theorem boolN {a b : Bool} : ((if a then 1 else 0 : Nat) = if b then 1 else 0) ↔ a = b := by cases a <;> cases b <;> simp

theorem eqU (b : Bool) {n z : Nat} (h : decide (n = z) = b) (t : TypeId) (w : World) : (binOp .eql t (.int .u64 n) (.int .u64 z)).run Try.prog w = .ok (.bool b) w := by
  have e : ((n : Int) == (z : Int)) = b := by rw [← h, Bool.eq_iff_iff]; simp; omega
  simp [binOp, Op.intCmp, e]
theorem neU (n : Nat) (t : TypeId) (w : World) : (binOp .neq t (.int .u64 n) (.int .u64 n)).run Try.prog w = .ok (.bool false) w := by
  simp [binOp, Op.intCmp]
theorem eqBl (b : Bool) {x y : Bool} (h : (x == y) = b) (w : World) : (binOp .eql 4 (.bool x) (.bool y)).run Try.prog w = .ok (.bool b) w := by
  simp only [binOp]
  simp [run_equal_bool w 4 x y Try.underlying4, h]
theorem neBl (b : Bool) {x y : Bool} (h : (x != y) = b) (w : World) : (binOp .neq 4 (.bool x) (.bool y)).run Try.prog w = .ok (.bool b) w := by
  simp only [binOp]
  simp [run_equal_bool w 4 x y Try.underlying4]
  cases x <;> cases y <;> simp at h ⊢ <;> exact h

-- printed by gen_rece.py
set_option maxHeartbeats 2000000 in
theorem params_in (a0 a1 a2 a3 a4 a5 a6 a7 a8 a9 b0 b1 b2 b3 b4 b5 b6 b7 b8 b9 : Int) (w : World) : (Op.equalIn 10000 24 (.agg #[.int .u64 a0, .int .u64 a1, .int .u64 a2, .int .u64 a3, .int .u64 a4, .int .u64 a5, .int .u64 a6, .int .u64 a7, .int .u64 a8, .int .u64 a9]) (.agg #[.int .u64 b0, .int .u64 b1, .int .u64 b2, .int .u64 b3, .int .u64 b4, .int .u64 b5, .int .u64 b6, .int .u64 b7, .int .u64 b8, .int .u64 b9])).run Try.prog w = .ok (((a0 == b0) && ((a1 == b1) && ((a2 == b2) && ((a3 == b3) && ((a4 == b4) && ((a5 == b5) && ((a6 == b6) && ((a7 == b7) && ((a8 == b8) && (a9 == b9))))))))))) w := by
  have u3 := Try.underlying22
  have ha := Try.isAgg22
  have hz := Try.sizeOf22
  have hS : Try.prog.underlying 24 = some (.struct (Try.prog.fieldsOf 24)) := by kernel_rfl
  have hp : Try.prog.stoodInHeld 24 = false := by kernel_rfl
  rw [show (10000 : Nat) = 9999 + 1 from rfl, run_equalIn_agg w 9999 24 _ _ hS hp]
  simp only [Program.fieldsOf, Try.underlying24]
  go_simp
  by_cases h0 : a0 = b0
  case neg => simp [h0]
  subst h0
  by_cases h1 : a1 = b1
  case neg => simp [h1]
  subst h1
  by_cases h2 : a2 = b2
  case neg => simp [h2]
  subst h2
  by_cases h3 : a3 = b3
  case neg => simp [h3]
  subst h3
  by_cases h4 : a4 = b4
  case neg => simp [h4]
  subst h4
  by_cases h5 : a5 = b5
  case neg => simp [h5]
  subst h5
  by_cases h6 : a6 = b6
  case neg => simp [h6]
  subst h6
  by_cases h7 : a7 = b7
  case neg => simp [h7]
  subst h7
  by_cases h8 : a8 = b8
  case neg => simp [h8]
  subst h8
  by_cases h9 : a9 = b9
  case neg => simp [h9]
  subst h9
  simp
theorem params_eql {b : Bool} {n0 n1 n2 n3 n4 n5 n6 n7 n8 n9 m0 m1 m2 m3 m4 m5 m6 m7 m8 m9 : Nat} (h : decide ([n0, n1, n2, n3, n4, n5, n6, n7, n8, n9] = [m0, m1, m2, m3, m4, m5, m6, m7, m8, m9]) = b) (w : World) : (binOp .eql 24 (.agg #[.int .u64 (n0 : Nat), .int .u64 (n1 : Nat), .int .u64 (n2 : Nat), .int .u64 (n3 : Nat), .int .u64 (n4 : Nat), .int .u64 (n5 : Nat), .int .u64 (n6 : Nat), .int .u64 (n7 : Nat), .int .u64 (n8 : Nat), .int .u64 (n9 : Nat)]) (.agg #[.int .u64 (m0 : Nat), .int .u64 (m1 : Nat), .int .u64 (m2 : Nat), .int .u64 (m3 : Nat), .int .u64 (m4 : Nat), .int .u64 (m5 : Nat), .int .u64 (m6 : Nat), .int .u64 (m7 : Nat), .int .u64 (m8 : Nat), .int .u64 (m9 : Nat)])).run Try.prog w = .ok (.bool b) w := by
  rw [run_eql_struct, params_in, Result.andThen_ok]
  congr 2
  rw [← h, Bool.eq_iff_iff]
  simp
  omega
theorem params_neq {n0 n1 n2 n3 n4 n5 n6 n7 n8 n9 : Nat} (w : World) : (binOp .neq 24 (.agg #[.int .u64 (n0 : Nat), .int .u64 (n1 : Nat), .int .u64 (n2 : Nat), .int .u64 (n3 : Nat), .int .u64 (n4 : Nat), .int .u64 (n5 : Nat), .int .u64 (n6 : Nat), .int .u64 (n7 : Nat), .int .u64 (n8 : Nat), .int .u64 (n9 : Nat)]) (.agg #[.int .u64 (n0 : Nat), .int .u64 (n1 : Nat), .int .u64 (n2 : Nat), .int .u64 (n3 : Nat), .int .u64 (n4 : Nat), .int .u64 (n5 : Nat), .int .u64 (n6 : Nat), .int .u64 (n7 : Nat), .int .u64 (n8 : Nat), .int .u64 (n9 : Nat)])).run Try.prog w = .ok (.bool false) w := by
  rw [run_neq_struct, params_in, Result.andThen_ok]
  simp

set_option maxHeartbeats 2000000 in
theorem chain_in (a0 a1 b0 b1 : Int) (w : World) : (Op.equalIn 10000 26 (.agg #[.int .u64 a0, .int .u64 a1]) (.agg #[.int .u64 b0, .int .u64 b1])).run Try.prog w = .ok (((a0 == b0) && (a1 == b1))) w := by
  have u3 := Try.underlying22
  have ha := Try.isAgg22
  have hz := Try.sizeOf22
  have hS : Try.prog.underlying 26 = some (.struct (Try.prog.fieldsOf 26)) := by kernel_rfl
  have hp : Try.prog.stoodInHeld 26 = false := by kernel_rfl
  rw [show (10000 : Nat) = 9999 + 1 from rfl, run_equalIn_agg w 9999 26 _ _ hS hp]
  simp only [Program.fieldsOf, Try.underlying26]
  go_simp
  by_cases h0 : a0 = b0
  case neg => simp [h0]
  subst h0
  by_cases h1 : a1 = b1
  case neg => simp [h1]
  subst h1
  simp
theorem chain_eql {b : Bool} {n0 n1 m0 m1 : Nat} (h : decide ([n0, n1] = [m0, m1]) = b) (w : World) : (binOp .eql 26 (.agg #[.int .u64 (n0 : Nat), .int .u64 (n1 : Nat)]) (.agg #[.int .u64 (m0 : Nat), .int .u64 (m1 : Nat)])).run Try.prog w = .ok (.bool b) w := by
  rw [run_eql_struct, chain_in, Result.andThen_ok]
  congr 2
  rw [← h, Bool.eq_iff_iff]
  simp
  omega
theorem chain_neq {n0 n1 : Nat} (w : World) : (binOp .neq 26 (.agg #[.int .u64 (n0 : Nat), .int .u64 (n1 : Nat)]) (.agg #[.int .u64 (n0 : Nat), .int .u64 (n1 : Nat)])).run Try.prog w = .ok (.bool false) w := by
  rw [run_neq_struct, chain_in, Result.andThen_ok]
  simp

set_option maxHeartbeats 2000000 in
theorem account_in (a0 a1 b0 b1 : Int) (w : World) : (Op.equalIn 10000 32 (.agg #[.int .u64 a0, .int .u64 a1]) (.agg #[.int .u64 b0, .int .u64 b1])).run Try.prog w = .ok (((a0 == b0) && (a1 == b1))) w := by
  have u3 := Try.underlying22
  have ha := Try.isAgg22
  have hz := Try.sizeOf22
  have hS : Try.prog.underlying 32 = some (.struct (Try.prog.fieldsOf 32)) := by kernel_rfl
  have hp : Try.prog.stoodInHeld 32 = false := by kernel_rfl
  rw [show (10000 : Nat) = 9999 + 1 from rfl, run_equalIn_agg w 9999 32 _ _ hS hp]
  simp only [Program.fieldsOf, Try.underlying32]
  go_simp
  by_cases h0 : a0 = b0
  case neg => simp [h0]
  subst h0
  by_cases h1 : a1 = b1
  case neg => simp [h1]
  subst h1
  simp
theorem account_eql {b : Bool} {n0 n1 m0 m1 : Nat} (h : decide ([n0, n1] = [m0, m1]) = b) (w : World) : (binOp .eql 32 (.agg #[.int .u64 (n0 : Nat), .int .u64 (n1 : Nat)]) (.agg #[.int .u64 (m0 : Nat), .int .u64 (m1 : Nat)])).run Try.prog w = .ok (.bool b) w := by
  rw [run_eql_struct, account_in, Result.andThen_ok]
  congr 2
  rw [← h, Bool.eq_iff_iff]
  simp
  omega
theorem account_neq {n0 n1 : Nat} (w : World) : (binOp .neq 32 (.agg #[.int .u64 (n0 : Nat), .int .u64 (n1 : Nat)]) (.agg #[.int .u64 (n0 : Nat), .int .u64 (n1 : Nat)])).run Try.prog w = .ok (.bool false) w := by
  rw [run_neq_struct, account_in, Result.andThen_ok]
  simp

set_option maxHeartbeats 2000000 in
theorem cut_in (a0 a1 b0 b1 : Int) (w : World) : (Op.equalIn 10000 40 (.agg #[.int .u64 a0, .int .u64 a1]) (.agg #[.int .u64 b0, .int .u64 b1])).run Try.prog w = .ok (((a0 == b0) && (a1 == b1))) w := by
  have u3 := Try.underlying22
  have ha := Try.isAgg22
  have hz := Try.sizeOf22
  have hS : Try.prog.underlying 40 = some (.struct (Try.prog.fieldsOf 40)) := by kernel_rfl
  have hp : Try.prog.stoodInHeld 40 = false := by kernel_rfl
  rw [show (10000 : Nat) = 9999 + 1 from rfl, run_equalIn_agg w 9999 40 _ _ hS hp]
  simp only [Program.fieldsOf, Try.underlying40]
  go_simp
  by_cases h0 : a0 = b0
  case neg => simp [h0]
  subst h0
  by_cases h1 : a1 = b1
  case neg => simp [h1]
  subst h1
  simp
theorem cut_eql {b : Bool} {n0 n1 m0 m1 : Nat} (h : decide ([n0, n1] = [m0, m1]) = b) (w : World) : (binOp .eql 40 (.agg #[.int .u64 (n0 : Nat), .int .u64 (n1 : Nat)]) (.agg #[.int .u64 (m0 : Nat), .int .u64 (m1 : Nat)])).run Try.prog w = .ok (.bool b) w := by
  rw [run_eql_struct, cut_in, Result.andThen_ok]
  congr 2
  rw [← h, Bool.eq_iff_iff]
  simp
  omega
theorem cut_neq {n0 n1 : Nat} (w : World) : (binOp .neq 40 (.agg #[.int .u64 (n0 : Nat), .int .u64 (n1 : Nat)]) (.agg #[.int .u64 (n0 : Nat), .int .u64 (n1 : Nat)])).run Try.prog w = .ok (.bool false) w := by
  rw [run_neq_struct, cut_in, Result.andThen_ok]
  simp

set_option maxHeartbeats 2000000 in
theorem unbonding_in (a0 a1 a2 a3 a4 a5 b0 b1 b2 b3 b4 b5 : Int) (w : World) : (Op.equalIn 10000 42 (.agg #[.int .u64 a0, .int .u64 a1, .int .u64 a2, .int .u64 a3, .int .u64 a4, .int .u64 a5]) (.agg #[.int .u64 b0, .int .u64 b1, .int .u64 b2, .int .u64 b3, .int .u64 b4, .int .u64 b5])).run Try.prog w = .ok (((a0 == b0) && ((a1 == b1) && ((a2 == b2) && ((a3 == b3) && ((a4 == b4) && (a5 == b5))))))) w := by
  have u3 := Try.underlying22
  have ha := Try.isAgg22
  have hz := Try.sizeOf22
  have hS : Try.prog.underlying 42 = some (.struct (Try.prog.fieldsOf 42)) := by kernel_rfl
  have hp : Try.prog.stoodInHeld 42 = false := by kernel_rfl
  rw [show (10000 : Nat) = 9999 + 1 from rfl, run_equalIn_agg w 9999 42 _ _ hS hp]
  simp only [Program.fieldsOf, Try.underlying42]
  go_simp
  by_cases h0 : a0 = b0
  case neg => simp [h0]
  subst h0
  by_cases h1 : a1 = b1
  case neg => simp [h1]
  subst h1
  by_cases h2 : a2 = b2
  case neg => simp [h2]
  subst h2
  by_cases h3 : a3 = b3
  case neg => simp [h3]
  subst h3
  by_cases h4 : a4 = b4
  case neg => simp [h4]
  subst h4
  by_cases h5 : a5 = b5
  case neg => simp [h5]
  subst h5
  simp
theorem unbonding_eql {b : Bool} {n0 n1 n2 n3 n4 n5 m0 m1 m2 m3 m4 m5 : Nat} (h : decide ([n0, n1, n2, n3, n4, n5] = [m0, m1, m2, m3, m4, m5]) = b) (w : World) : (binOp .eql 42 (.agg #[.int .u64 (n0 : Nat), .int .u64 (n1 : Nat), .int .u64 (n2 : Nat), .int .u64 (n3 : Nat), .int .u64 (n4 : Nat), .int .u64 (n5 : Nat)]) (.agg #[.int .u64 (m0 : Nat), .int .u64 (m1 : Nat), .int .u64 (m2 : Nat), .int .u64 (m3 : Nat), .int .u64 (m4 : Nat), .int .u64 (m5 : Nat)])).run Try.prog w = .ok (.bool b) w := by
  rw [run_eql_struct, unbonding_in, Result.andThen_ok]
  congr 2
  rw [← h, Bool.eq_iff_iff]
  simp
  omega
theorem unbonding_neq {n0 n1 n2 n3 n4 n5 : Nat} (w : World) : (binOp .neq 42 (.agg #[.int .u64 (n0 : Nat), .int .u64 (n1 : Nat), .int .u64 (n2 : Nat), .int .u64 (n3 : Nat), .int .u64 (n4 : Nat), .int .u64 (n5 : Nat)]) (.agg #[.int .u64 (n0 : Nat), .int .u64 (n1 : Nat), .int .u64 (n2 : Nat), .int .u64 (n3 : Nat), .int .u64 (n4 : Nat), .int .u64 (n5 : Nat)])).run Try.prog w = .ok (.bool false) w := by
  rw [run_neq_struct, unbonding_in, Result.andThen_ok]
  simp

end Go.Proofs.Ytnkbbclcileleaa

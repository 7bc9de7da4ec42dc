/- Admission, plain: what is admitted changes two accounts, and isn't admitted again. -/
import Derived.Test.YtglkmaalpammcaaAnA
namespace Go.Proofs.Ytglkmaalpammcaa
open Go.Gl Go.RowKit
set_option linter.unusedVariables false
set_option maxRecDepth 100000
theorem akey_pkey (id : Nat) : ¬ akey id = pkey := by
  rw [akey_form, pkey_is]
  intro h
  have := (List.cons.inj h).1
  exact absurd this (by decide)
theorem get_lay_p (F : List Ent) (id : Nat) (a : Nat × Nat) : getL (layF F id a) pkey = getL F pkey := by
  unfold layF
  split
  · rw [get_del, if_neg (akey_pkey id)]
  · rw [setFF_lay, get_ins, if_neg (akey_pkey id)]
theorem fee_lay (F : List Ent) (id : Nat) (a : Nat × Nat) : feeF (layF F id a) = feeF F := by unfold feeF prmF; rw [get_lay_p]
theorem fee_mint (F : List Ent) (id n : Nat) : feeF (mintF F id n) = feeF F := by
  unfold mintF
  split
  · exact fee_lay ..
  · rfl
theorem fee_move (F : List Ent) (a b n : Nat) : feeF (moveF F a b n) = feeF F := by
  unfold moveF
  split
  · rw [fee_lay, fee_lay]
  · rfl
theorem fee_bump (F : List Ent) (id : Nat) : feeF (bumpF F id) = feeF F := by
  unfold bumpF
  split
  · rfl
  · exact fee_lay ..
theorem fee_adm (F : List Ent) (s q f : Nat) : feeF (admF F s q f) = feeF F := by
  unfold admF
  split
  · rw [fee_bump, fee_move]
  · rfl
theorem fee_set {fee : Nat} (h : U64 fee) : feeF (setFF [] pkey (prmLay 0 0 0 0 0 0 0 0 fee 0)) = fee := by
  unfold feeF prmF
  have hl : (prmLay 0 0 0 0 0 0 0 0 fee 0).length = 80 := by simp [prmLay, recLay, Fld.lay, be_length]
  have he : setErr pkey (prmLay 0 0 0 0 0 0 0 0 fee 0) = 0 := by unfold setErr; rw [pkey_len, hl]; simp
  unfold setFF
  rw [if_pos he, get_ins, if_pos rfl]
  show (prmL (prmLay 0 0 0 0 0 0 0 0 fee 0)).getD 8 0 = fee
  rw [prm_back (fun x hx => by
    simp only [List.mem_cons, List.not_mem_nil, or_false] at hx
    unfold U64 at h
    omega)]
  rfl
theorem adm_zero {F : List Ent} {s q f : Nat} (h : admE F s q f = 0) : 16 ≤ s ∧ feeF F ≤ f ∧ f ≤ (acF F s).1 ∧ (acF F s).2 = q ∧ moveE F s 1 f = 0 := by
  unfold admE at h
  split at h
  · omega
  rename_i h1
  split at h
  · omega
  rename_i h2
  split at h
  · omega
  rename_i h3
  split at h
  · omega
  rename_i h4
  exact ⟨by omega, by omega, by omega, Classical.byContradiction h4, h⟩
theorem adm_law {F : List Ent} {s q f : Nat} (hs : U64 s) (hq : U64 q) (hf : U64 f) (h : admE F s q f = 0) :
    acF (admF F s q f) s = ((acF F s).1 - f, (q + 1) % 18446744073709551616) ∧ acF (admF F s q f) 1 = ((acF F 1).1 + f, (acF F 1).2) ∧ (acF F 1).1 + f ≤ 1000000000000000000 ∧ admE (admF F s q f) s q f ≠ 0 := by
  obtain ⟨h1, h2, h3, h4, h5⟩ := adm_zero h
  obtain ⟨b1, b2, m1, m2⟩ := moveE_zero h5
  have hne : s ≠ 1 := by omega
  have m2 := m2 hne
  have u1 : U64 1 := by unfold U64; omega
  have l1 := acF_lt F s
  have l2 := acF_lt F 1
  have ua : U64 ((acF F s).1 - f) := by have := l1.1; unfold U64 at *; omega
  have ub : U64 ((acF F 1).1 + f) := by unfold U64; omega
  have e0 : ∀ id, U64 id → acF (moveF F s 1 f) id = if 1 = id then ((acF F 1).1 + f, (acF F 1).2) else if s = id then ((acF F s).1 - f, (acF F s).2) else acF F id := fun id hi => by
    unfold moveF
    rw [if_pos ⟨h5, hne⟩, ac_lay _ (a := ((acF F 1).1 + f, (acF F 1).2)) u1 hi ub l2.2, ac_lay _ (a := ((acF F s).1 - f, (acF F s).2)) hs hi ua l1.2]
  have es := e0 s hs
  rw [if_neg (fun x => hne x.symm), if_pos rfl, h4] at es
  have e1 := e0 1 u1
  rw [if_pos rfl] at e1
  have uq : U64 ((q + 1) % 18446744073709551616) := by unfold U64; omega
  have hF : admF F s q f = layF (moveF F s 1 f) s ((acF F s).1 - f, (q + 1) % 18446744073709551616) := by
    unfold admF bumpF
    rw [if_pos h, b1, if_neg (by simp), es]
  have r1 : acF (admF F s q f) s = ((acF F s).1 - f, (q + 1) % 18446744073709551616) := by
    rw [hF, ac_lay _ (a := ((acF F s).1 - f, (q + 1) % 18446744073709551616)) hs hs ua uq, if_pos rfl]
  have r2 : acF (admF F s q f) 1 = ((acF F 1).1 + f, (acF F 1).2) := by
    rw [hF, ac_lay _ (a := ((acF F s).1 - f, (q + 1) % 18446744073709551616)) hs u1 ua uq, if_neg hne, e1]
  refine ⟨r1, r2, m2, fun hz => ?_⟩
  have := (adm_zero hz).2.2.2.1
  rw [r1] at this
  simp only at this
  unfold U64 at hq
  omega
theorem adm_no {F : List Ent} {s q f : Nat} (h : admE F s q f ≠ 0) : admF F s q f = F := by unfold admF; rw [if_neg h]
theorem adm_le (F : List Ent) (s q f : Nat) : admE F s q f ≤ 183 := by
  unfold admE
  split
  · omega
  split
  · omega
  split
  · omega
  split
  · omega
  exact Nat.le_trans (moveE_leB ..) (by omega)
theorem u64_sub {x f t : Nat} (ty : TypeId) (h : f + t = x) (w : World) (hx : U64 x) : (binOp .sub ty (.int .u64 ((x : Nat) : Int)) (.int .u64 ((f : Nat) : Int))).run Try.prog w = .ok (.int .u64 ((t : Nat) : Int)) w := by
  have e : IntKind.u64.wrap ((x : Int) - (f : Int)) = (t : Int) := by rw [wrap_u64]; unfold U64 at hx; omega
  simp [binOp, go_sem, e]
theorem u64_addn {y f v : Nat} (ty : TypeId) (h : y + f = v) (w : World) (hv : U64 v) : (binOp .add ty (.int .u64 ((y : Nat) : Int)) (.int .u64 ((f : Nat) : Int))).run Try.prog w = .ok (.int .u64 ((v : Nat) : Int)) w := by
  have e : IntKind.u64.wrap ((y : Int) + (f : Int)) = (v : Int) := by rw [wrap_u64]; unfold U64 at hv; omega
  simp [binOp, go_sem, e]
end Go.Proofs.Ytglkmaalpammcaa

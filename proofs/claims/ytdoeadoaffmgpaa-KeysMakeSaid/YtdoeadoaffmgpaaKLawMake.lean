/- KeysMake: for every kind and every two numbers the law of keys' Make, Of, Under and Val answers true: P7.1, P7.3. No conditions. -/
import Derived.Test.YtdoeadoaffmgpaaKKnown
import Derived.ProofKit
import Derived.ChangeOld
namespace Go.Proofs.Ytdoeadoaffmgpaa.keysMake
open Go.Gl Go.RowKit Go.ChangeShapes Go.WideShapes Go.ChangeAt
open Go.ChangeMaps (open_string shut_string)
set_option linter.unusedVariables false

theorem made_int (n a b : Int) (w : World) (h0 : 0 ≤ a) (h1 : a ≤ 18446744073709551615) (h2 : 0 ≤ b) (h3 : b ≤ 18446744073709551615) : Calls Try.prog 8 #[.int .i64 n, .int .u64 a, .int .u64 b] w (TrueM w) := by
  obtain ⟨x, rfl⟩ := Int.eq_ofNat_of_zero_le h0
  obtain ⟨y, rfl⟩ := Int.eq_ofNat_of_zero_le h2
  exact made_any n x y w (by omega) (by omega)

set_option maxHeartbeats 1000000 in
theorem walk (a0 a1 a2 : Int) (w0 : (Lit.int .i64 a0).wf = true) (w1 : (Lit.int .u64 a1).wf = true) (w2 : (Lit.int .u64 a2).wf = true) (w : World) :
    Calls Try.prog 3 #[.int .i64 a0, .int .u64 a1, .int .u64 a2] w fun e w' => e = .returned (.bool true) ∧ Below w.heap.size w w' := by
  have b1 := bounds_u64 w1
  have b2 := bounds_u64 w2
  obtain ⟨b1l, b1u⟩ := b1
  obtain ⟨b2l, b2u⟩ := b2
  clear w0 w1 w2
  go_enter Try.func3, Try.ntmps3
  go_wp2_with fail
  refine (known_any _).mono ?_
  rintro e w1 ⟨rfl, m1⟩
  have M1 := Lib.hid m1
  clear m1
  go_wp2_with fail
  go_loopg [7] 19 (fun gk i wr => ∃ k : Nat, k + gk = 19 ∧ i = .int .i64 k ∧ Hid (Mods noB w wr))
  case atStart => exact ⟨0, by omega, rfl, M1⟩
  case round =>
    obtain ⟨k, hk1, rfl, hR⟩ := hrel
    by_cases hlt : k < 19
    · go_wp2_with fail
      refine (made_int _ _ _ _ b1l b1u b2l b2u).mono ?_
      rintro e w2 ⟨rfl, m2⟩
      go_wp2_with fail
      refine (made_int _ _ _ _ b1l b1u (by omega) (by omega)).mono ?_
      rintro e w3 ⟨rfl, m3⟩
      go_wp2_with fail
      refine (made_int _ _ _ _ (by omega) (by omega) (by omega) (by omega)).mono ?_
      rintro e w4 ⟨rfl, m4⟩
      go_wp2_with fail
      go_roundg (gk - 1)
      case measure => omega
      case rel => exact ⟨k + 1, by omega, by go_num, ((hR.out.then0 m2).then0 m3).then0 m4⟩
    · go_wp2_with fail
      refine (made_int _ _ _ _ b1l b1u b2l b2u).mono ?_
      rintro e w2 ⟨rfl, m2⟩
      obtain ⟨x, rfl⟩ := Int.eq_ofNat_of_zero_le b1l
      go_wp2_with fail
      refine (Val_any x _ (by omega)).mono ?_
      rintro e w3 ⟨v3, rfl, o3, m3, f3⟩
      go_wp2_with fail
      refine (RVal_any x _ (by omega)).mono ?_
      rintro e w4 ⟨v4, rfl, o4, m4, f4⟩
      go_wp2_with fail
      refine (Bytes_same (o3.keep m4 (fun _ _ x => x)).rd o4.rd).mono ?_
      rintro e w5 ⟨rfl, q5⟩
      go_wp2_with fail
      go_ret
      exact ⟨rfl, ((((hR.out.then0 m2).then0 m3).then0 m4).then0 (q5.mods _)).below⟩

theorem own : ownKnob Try.prog.godebug = none := by kernel_rfl

set_option maxRecDepth 100000 in
theorem lifted (os : Os) (started : os.Started) (H : Type) (enc : TypeId × Value → H) :
    ReturnsInHanded {} Try.checked os 3 .any (Rows.keysMakeSpec.pre6 enc Try.prog Try.f3 Rows.keysMakeRow.domain false) (Rows.keysMakeSpec.post enc Try.prog Try.f3 false true false false) := by
  refine returnsInHanded_of_change (C := Try.checked) own started (by kernel_rfl) Try.func3
    (ChangeSpec.witness6 (enc := enc) (C := Try.checked) false ⟨#[], #[.int .i64 0, .int .u64 0, .int .u64 0], []⟩ 8 (by kernel_rfl) (by kernel_rfl) (by kernel_rfl) (by kernel_rfl)) ?_
  intro W base args ds gs before hval0 hW hcnd _
  have hval : ∀ (j : Nat) t v, Try.f3.params[j]? = some t → args[j]? = some v → Value.okWide Try.prog W .any base t v := hval0
  have hW' := hW
  obtain ⟨p, q, hA0, hV, rfl, hfz, hnd⟩ := hW
  have hA : DataW.TrodAll enc Try.prog W 0 (fun _ => true) true Try.f3.params.toList args.toList ds p := hA0
  rw [Try.params3] at hA hval
  obtain ⟨v0, vs0, d0, ds0, p0, q0, hargs, rfl, rfl, h0, r0⟩ := trodAll_cons hA
  obtain ⟨v1, vs1, d1, ds1, p1, q1, rfl, rfl, rfl, h1, r1⟩ := trodAll_cons r0
  obtain ⟨v2, vs2, d2, ds2, p2, q2, rfl, rfl, rfl, h2, r2⟩ := trodAll_cons r1
  obtain ⟨rfl, rfl, rfl⟩ := trodAll_nil r2
  obtain rfl : args = #[v0, v1, v2] := by cases args; simp_all
  obtain ⟨rfl, rfl⟩ := trodVars_none hV
  obtain ⟨a0, rfl, rfl, rfl, w0⟩ := open_int Try.underlying3 (hval 0 3 v0 rfl rfl) h0
  obtain ⟨a1, rfl, rfl, rfl, w1⟩ := open_int Try.underlying22 (hval 1 22 v1 rfl rfl) h1
  obtain ⟨a2, rfl, rfl, rfl, w2⟩ := open_int Try.underlying22 (hval 2 22 v2 rfl rfl) h2
  clear hA0 hval0
  refine (walk a0 a1 a2 w0 w1 w2 W).mono fun e W' ⟨he, bel⟩ => ?_
  subst he
  exact ⟨_, rfl, _, _, _, [], _, [], hW', trodAll_mk1 (shut_bool Try.underlying4 _), (trodAll_cons_mk (shut_int Try.underlying3 w0) (trodAll_cons_mk (shut_int Try.underlying22 w1) (trodAll_cons_mk (shut_int Try.underlying22 w2) trodAll_mk0))), rfl, bel.frame _, fun h => by cases h⟩

theorem over : Rows.keysMakeRow.holds Try.pinned (OpenSpec.ofChange Rows.keysMakeSpec) :=
  OpenClaim.holds_of_wide 3 Try.f3 rfl rfl rfl rfl rfl rfl rfl ⟨rfl, rfl, rfl, rfl, rfl⟩ rfl rfl rfl rfl rfl (by kernel_rfl) Try.func3 (by kernel_rfl)
    (of_decide_eq_true (by kernel_rfl)) (by unfold Func.isWrapper; first | (rw [if_pos (by decide +kernel)]; kernel_rfl) | (rw [if_neg (by decide +kernel)]; exact ⟨rfl, rfl⟩))
    (fun os started H enc _ => lifted os started H enc)

theorem proved : Rows.KeysMakeSaid := over
#print axioms proved
end Go.Proofs.Ytdoeadoaffmgpaa.keysMake

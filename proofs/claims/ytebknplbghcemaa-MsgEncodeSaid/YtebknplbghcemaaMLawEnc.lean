/- MsgEncode: for every item msg.Encode tells the bytes and the error of the document's Encode, and Uses agrees: P17.1, P17.2. No conditions. -/
import Derived.Test.YtebknplbghcemaaMKnown
import Derived.Test.YtebknplbghcemaaMREnc
import Derived.Test.YtebknplbghcemaaMArgs
namespace Go.Proofs.Ytebknplbghcemaa.msgEncode
open Go.Gl Go.RowKit Go.ChangeShapes Go.WideShapes Go.ChangeAt
set_option linter.unusedVariables false
set_option maxRecDepth 100000

set_option maxHeartbeats 4000000 in
theorem walk (i : Itm) (w : World) (hi : i.Fits) :
    Calls Try.prog 3 #[.agg i.cells] w fun e w' => e = .returned (.bool true) ∧ Below w.heap.size w w' := by
  have HE := Lib.hid (fun w => mEnc_any i w hi)
  have HR := Lib.hid (fun w => rEnc_any i w hi)
  generalize (if mayB i then i.bytes else []) = bs at *
  generalize (if mayB i then (0 : Int) else 170) = er at *
  have HU := Lib.hid (Uses_any i.m)
  have HV := Lib.hid (RUses_any i.m)
  unfold UsesRes at HU
  generalize hua : usA i.m = ua at *
  generalize hub : usB i.m = ub at *
  generalize hun : usN i.m = un at *
  clear hi hua hub hun
  obtain ⟨kd, s, q, f, m, a, b, n, fk, fv, fh⟩ := i
  unfold Itm.cells at *
  simp only at HE HR HU HV ⊢
  go_enter Try.func3, Try.ntmps3
  go_wp2_with fail
  refine (mknown_any _).mono ?_
  rintro e w1 ⟨rfl, m1⟩
  have g1 := m1.heap (heap_new w (.cells #[.int .i64 kd, .int .u64 s, .int .u64 q, .int .u64 f, .int .i64 m, .int .u64 a, .int .u64 b, .int .u64 n, .int .i64 fk, .int .u64 fv, .int .u64 fh] 30)) (fun x => x)
  have c1 := cells_of g1
  have G1 := Lib.hid g1
  have M1 := Lib.hid m1.after
  clear m1 g1
  go_wp2_with fail
  refine (HE.out _).mono ?_
  rintro e w2 ⟨v2, rfl, o2, m2, f2⟩
  have G2 := Lib.hid (m2.heap G1.out (fun x => x))
  have M2 := Lib.hid (M1.out.then0 m2)
  have O2 := Lib.hid o2
  clear o2 m2 f2 c1
  have c2 := cells_of G2.out
  go_wp2_with fail
  refine (HR.out _).mono ?_
  rintro e w3 ⟨v3, rfl, o3, m3, f3⟩
  have G3 := Lib.hid (m3.heap G2.out (fun x => x))
  have M3 := Lib.hid (M2.out.then0 m3)
  have P2 := Lib.hid (O2.out.keep m3 (fun _ _ x => x))
  have O3 := Lib.hid o3
  clear o3 m3 f3 c2
  have c3 := cells_of G3.out
  go_wp2_with fail
  refine (HU.out _).mono ?_
  rintro e w4 ⟨rfl, m4⟩
  have G4 := Lib.hid (m4.heap G3.out (fun x => x))
  have M4 := Lib.hid (M3.out.then0 m4)
  have Q2 := Lib.hid (P2.out.keep m4 (fun _ _ x => x))
  have Q3 := Lib.hid (O3.out.keep m4 (fun _ _ x => x))
  clear m4 c3
  have c4 := cells_of G4.out
  go_wp2_with (first
    | (go_at_call 16; refine (HV.out _).mono ?_; rintro r w' ⟨rfl, rfl⟩)
    | (go_at_call 17; refine (Bytes_any Q2.out.rd Q3.out.rd).mono ?_; rw [decide_eq_true rfl]; rintro r w5 ⟨rfl, nq, rfl⟩))
  go_ret
  exact ⟨rfl, (M4.out.drewN _).below⟩

theorem lifted (os : Os) (started : os.Started) (H : Type) (enc : TypeId × Value → H) :
    ReturnsInHanded {} Try.checked os 3 .any (Rows.msgEncodeSpec.pre6 enc Try.prog Try.f3 Rows.msgEncodeRow.domain false) (Rows.msgEncodeSpec.post enc Try.prog Try.f3 false true false false) := by
  refine returnsInHanded_of_change (C := Try.checked) own started (by kernel_rfl) Try.func3
    (ChangeSpec.witness6 (enc := enc) (C := Try.checked) false ⟨#[], #[.agg #[.int .i64 0, .int .u64 0, .int .u64 0, .int .u64 0, .int .i64 0, .int .u64 0, .int .u64 0, .int .u64 0, .int .i64 0, .int .u64 0, .int .u64 0]], []⟩ 8 (by kernel_rfl) (by kernel_rfl) (by kernel_rfl) (by kernel_rfl)) ?_
  intro W base args ds gs before hval0 hW hcnd _
  have hval : ∀ (j : Nat) t v, Try.f3.params[j]? = some t → args[j]? = some v → Value.okWide Try.prog W .any base t v := hval0
  have hW' := hW
  obtain ⟨p, q, hA0, hV, rfl, hfz, hnd⟩ := hW
  have hA : DataW.TrodAll enc Try.prog W 0 (fun _ => true) true Try.f3.params.toList args.toList ds p := hA0
  rw [Try.params3] at hA hval
  obtain ⟨v0, vs0, d0, ds0, p0, q0, hargs, rfl, rfl, h0, r0⟩ := trodAll_cons hA
  obtain ⟨rfl, rfl, rfl⟩ := trodAll_nil r0
  obtain rfl : args = #[v0] := by cases args; simp_all
  obtain ⟨rfl, rfl⟩ := trodVars_none hV
  obtain ⟨i, rfl, hi⟩ := item_of_arg (hval 0 30 v0 rfl rfl)
  have k0 := h0
  have lt0 : ∀ x ∈ p0, x.block < W.heap.size := by obtain ⟨m, hm⟩ := k0; exact DataW.trod_lt m _ _ _ hm
  clear hA0 hval0
  refine (walk i W hi).mono fun e W' ⟨he, bel⟩ => ?_
  subst he
  exact ⟨_, rfl, _, _, _, [], _, [], hW', trodAll_mk1 (shut_bool Try.underlying4 _), (trodAll_cons_mk (Below.trod laidOut (by kernel_rfl) (of_decide_eq_true (by kernel_rfl)) k0 bel lt0) trodAll_mk0), rfl, bel.frame _, fun h => by cases h⟩

theorem over : Rows.msgEncodeRow.holds Try.pinned (OpenSpec.ofChange Rows.msgEncodeSpec) :=
  OpenClaim.holds_of_wide 3 Try.f3 rfl rfl rfl rfl rfl rfl rfl ⟨rfl, rfl, rfl, rfl, rfl⟩ rfl rfl rfl rfl rfl (by kernel_rfl) Try.func3 (by kernel_rfl)
    (of_decide_eq_true (by kernel_rfl)) (by unfold Func.isWrapper; first | (rw [if_pos (by decide +kernel)]; kernel_rfl) | (rw [if_neg (by decide +kernel)]; exact ⟨rfl, rfl⟩))
    (fun os started H enc _ => lifted os started H enc)

theorem proved : Rows.MsgEncodeSaid := over
#print axioms proved
end Go.Proofs.Ytebknplbghcemaa.msgEncode

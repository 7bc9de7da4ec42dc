/- EncStops: behind its first error a reader reads nothing, and tells that error; ahead of it as many bytes are gone as were read: P4.2, P4.3. No conditions. -/
import Derived.Test.YtebknplbghcemaaRW
import Derived.Test.YtebknplbghcemaaEKnown2
import Derived.Deep.CutBlock
import Derived.Deep.DeepCutAuto
import Derived.Outline
namespace Go.Proofs.Ytebknplbghcemaa.encStops
open Go.Gl Go.RowKit Go.ChangeShapes Go.WideShapes Go.ChangeAt
set_option linter.unusedVariables false
set_option maxRecDepth 100000

theorem z0 (x : Nat) : ((x : Int) == 0) = decide (x = 0) := by
  rw [Bool.eq_iff_iff]
  simp

set_option maxHeartbeats 8000000 in
theorem walk (x y : Value) (bs : List UInt8) (l : List EStp) (w : World) (hx : Rd w x bs) (hy : RdSteps w y l) :
    Calls Try.prog 10 #[x, y] w fun e w' => e = .returned (.bool true) ∧ Below w.heap.size w w' := by
  obtain ⟨b, k, d, rfl, hk, hd1, hd2, _⟩ := hy.form
  obtain ⟨a, c, rfl, hbl⟩ := hx.form
  obtain ⟨n, hn⟩ : ∃ n, bs.length = n := ⟨_, rfl⟩
  rw [hn] at hx hbl ⊢
  unfold maxLen at hbl
  have HX := Lib.hid hx
  have HY := Lib.hid hy
  have HN := Lib.hid hn
  have HK := Lib.hid hk
  clear hx hy hn hk
  have hfd : ∀ (w : World) (v : Value), (Instr.field 87 (.agg #[v]) 0).run Try.prog w = .ok v w := fun _ _ => by kernel_rfl
  go_enter Try.func10, Try.ntmps10
  go_wp2_with fail
  refine (eknown_any _).mono ?_
  rintro e w1 ⟨rfl, m1⟩
  have M1 := Lib.hid m1
  clear m1
  go_wp2_with fail
  refine (light_any (HY.out.keep M1.out)).mono ?_
  rintro e w2 ⟨rfl, q2⟩
  have M2 := Lib.hid (M1.out.then0 (q2.mods noB))
  clear q2 M1
  cases hL : lightB l with
  | false =>
    go_wp2_with fail
    go_ret
    exact ⟨rfl, M2.out.below⟩
  | true =>
    have PL := Lib.hid (light_parts hL)
    clear hL
    by_cases h3 : 3000 < n
    · go_wp2_with fail
      go_ret
      exact ⟨rfl, M2.out.below⟩
    go_wp2_with fail
    refine (KR.newa M2.out (HX.out.keep M2.out (fun _ _ x => x)) (by rw [HN.out]; omega)).mono ?_
    rintro e w3 ⟨g, rfl, hk3⟩
    have K3 := Lib.hid hk3
    clear hk3 M2
    go_wp2
    go_loopw [6, 7, 8] (fun s6 s7 i wr => ∃ (j m : Nat) (e : Int), i = .int .i64 j ∧ j ≤ k ∧ s6 = .int .i64 e ∧ s7 = .int .i64 m ∧ m ≤ 3000 ∧ Hid (∃ ys : List UInt8, ys.length = m ∧ KR w g (ys, e) wr)) (fun _ _ i _ => k - (intOf i).toNat)
    case atStart => exact ⟨0, n, 0, rfl, by omega, rfl, rfl, by omega, bs, HN.out, K3.out⟩
    case round =>
      clear K3
      obtain ⟨j, m, e, rfl, hj, rfl, rfl, hm, hR⟩ := hrel
      obtain ⟨ys, hys, hr⟩ := hR.out
      have HL := Lib.hid hys
      have R := Lib.hid hr
      clear hR hys hr
      by_cases h1 : j < k
      · obtain ⟨gs, off, jl, rfl, at1, c0, c1, c2, c3, c4⟩ := HY.out.get R.out.mods h1
        have hmo := at1.most
        obtain ⟨a2, k2, f2, l2⟩ := RdM.form at1.nat
        obtain ⟨a3, k3, f3, l3⟩ := at1.b.form
        rw [f2] at c2
        rw [f3] at c3
        have HA := Lib.hid at1
        clear at1 l2 l3 f2 f3
        generalize hsw : l[j].what = what at *
        generalize hsm : l[j].most = most at *
        generalize l[j].n = nn at *
        generalize l[j].nat.length = nl at *
        generalize l[j].b.length = bl at *
        clear hsw hsm
        go_upto_block 2 with fail
        have R0 := Lib.hid (R.out.then0 ((Mods.refl noB wr).alloc (.cells #[.int .i64 what, .int .u64 nn, .slice a2 nl k2, .slice a3 bl k3, .int .i64 most] 60)))
        go_cut [10] (fun z wx => ∃ (b : Bool), z = .bool b ∧ Hid (∃ q, StopsOk (ys, e) q b ∧ KR w g q wx))
        case first =>
          by_cases e0 : what = 0
          · subst e0
            go_wp2_with fail
            refine (R0.out.u8a).mono ?_
            rintro r w5 ⟨rfl, hr⟩
            have S := Lib.hid (And.intro (est_stops 1 (ys, e)) hr)
            clear hr
            go_wp2
            go_meet
            refine ⟨_, rfl, ?_⟩
            rw [z0]
            exact Lib.hid ⟨_, S.out.1, S.out.2⟩
          have f0 : (what == 0) = false := by simpa using e0
          by_cases e1 : what = 1
          · subst e1
            go_wp2_with fail
            refine (R0.out.u32a).mono ?_
            rintro r w5 ⟨rfl, hr⟩
            have S := Lib.hid (And.intro (est_stops 4 (ys, e)) hr)
            clear hr
            go_wp2
            go_meet
            refine ⟨_, rfl, ?_⟩
            rw [z0]
            exact Lib.hid ⟨_, S.out.1, S.out.2⟩
          have f1 : (what == 1) = false := by simpa using e1
          by_cases e2 : what = 2
          · subst e2
            go_wp2_with fail
            refine (R0.out.u64a).mono ?_
            rintro r w5 ⟨rfl, hr⟩
            have S := Lib.hid (And.intro (est_stops 8 (ys, e)) hr)
            clear hr
            go_wp2
            go_meet
            refine ⟨_, rfl, ?_⟩
            rw [z0]
            exact Lib.hid ⟨_, S.out.1, S.out.2⟩
          have f2 : (what == 2) = false := by simpa using e2
          by_cases e3 : what = 3
          · subst e3
            go_wp2_with fail
            refine (R0.out.boola).mono ?_
            rintro r w5 ⟨rfl, hr⟩
            have S := Lib.hid (And.intro (bool_stops (ys, e)) hr)
            clear hr
            generalize decide (evl 1 (ys, e) = 1) = zb at *
            go_wp2
            go_meet
            exact ⟨_, rfl, Lib.hid ⟨_, S.out.1, S.out.2⟩⟩
          have f3 : (what == 3) = false := by simpa using e3
          by_cases e4 : what = 4
          · subst e4
            go_wp2_with fail
            refine (R0.out.nata (by simp only; rw [HL.out]; omega)).mono ?_
            rintro r w5 ⟨u, rfl, hu, hr⟩
            have S := Lib.hid (And.intro (nat_stops (ys, e)) hr)
            obtain ⟨a5, c5, rfl, h5⟩ := RdM.form hu
            clear hr hu
            generalize (natV (ys, e)).length = ln at *
            unfold maxLen at h5
            go_wp2
            go_meet
            refine ⟨_, rfl, ?_⟩
            rw [z0]
            exact Lib.hid ⟨_, S.out.1, S.out.2⟩
          have f4 : (what == 4) = false := by simpa using e4
          by_cases e5 : what = 5
          · subst e5
            go_wp2_with fail
            refine (R0.out.deca (by simp only; rw [HL.out]; omega)).mono ?_
            rintro r w5 ⟨u, rfl, hu, hr⟩
            have S := Lib.hid (And.intro (nat_stops (ys, e)) hr)
            obtain ⟨a5, c5, rfl, h5⟩ := RdM.form hu
            clear hr hu
            generalize (natV (ys, e)).length = ln at *
            unfold maxLen at h5
            go_wp2
            go_wp2
            go_meet
            refine ⟨_, rfl, ?_⟩
            rw [z0]
            exact Lib.hid ⟨_, S.out.1, S.out.2⟩
          have f5 : (what == 5) = false := by simpa using e5
          by_cases e6 : what = 6
          · subst e6
            go_wp2_with fail
            refine (R0.out.rawa most hmo (by simp only; rw [HL.out]; omega)).mono ?_
            rintro r w5 ⟨u, rfl, hu, hr⟩
            have S := Lib.hid (And.intro (raw_stops most (ys, e)) hr)
            obtain ⟨a5, c5, rfl, h5⟩ := hu.rd.form
            clear hr hu
            generalize (rawV most (ys, e)).length = ln at *
            unfold maxLen at h5
            go_wp2
            go_meet
            refine ⟨_, rfl, ?_⟩
            rw [z0]
            exact Lib.hid ⟨_, S.out.1, S.out.2⟩
          have f6 : (what == 6) = false := by simpa using e6
          by_cases e8 : what = 8
          · subst e8
            go_wp2_with fail
            refine (R0.out.enda).mono ?_
            rintro r w5 ⟨rfl, hr⟩
            have S := Lib.hid (And.intro (end_stops (ys, e)) hr)
            clear hr
            go_wp2
            go_meet
            exact ⟨_, rfl, Lib.hid ⟨_, S.out.1, S.out.2⟩⟩
          have f8 : (what == 8) = false := by simpa using e8
          clear e0 e1 e2 e3 e4 e5 e6 e8
          go_wp2
          go_meet
          exact ⟨_, rfl, Lib.hid ⟨_, StopsOk.id (ys, e), R0.out⟩⟩
        case rest =>
          clear R0 R c0 c1 c2 c3 c4 HA
          obtain ⟨z, rfl, hS⟩ := hcut
          obtain ⟨⟨zs, f⟩, ⟨hs1, hs2, hs3⟩, hr⟩ := hS.out
          have R1 := Lib.hid hr
          simp only [HL.out] at hs1 hs2 hs3
          clear hr hS
          by_cases he : e = 0
          · subst he
            clear hs1
            by_cases hf : f = 0
            · subst hf
              clear hs2
              obtain ⟨m2, hm2⟩ : ∃ m2, zs.length = m2 := ⟨_, rfl⟩
              rw [hm2] at hs3
              have HZ := Lib.hid hm2
              clear hm2
              go_wp2_with (first | (go_at_call 30; refine (R1.out.err rfl).mono ?_; rintro r w6 ⟨rfl, rfl⟩) | (go_at_call 29; refine (R1.out.left HZ.out).mono ?_; rintro r w6 ⟨rfl, rfl⟩))
              go_roundw
              case rel => exact ⟨j + 1, m2, 0, by go_num, by omega, rfl, rfl, by omega, Lib.hid ⟨_, HZ.out, R1.out⟩⟩
              case measure => simp [intOf]; omega
            · obtain ⟨rfl, rfl⟩ := hs2 rfl hf
              have f1 : (f == 0) = false := by simpa using hf
              have f2 : (f != 0) = true := by simpa using hf
              have HZ := HL
              clear hs3 hf
              go_wp2_with (first | (go_at_call 30; refine (R1.out.err rfl).mono ?_; rintro r w6 ⟨rfl, rfl⟩) | (go_at_call 29; refine (R1.out.left HZ.out).mono ?_; rintro r w6 ⟨rfl, rfl⟩))
              go_roundw
              case rel => exact ⟨j + 1, m, f, by go_num, by omega, rfl, rfl, by omega, Lib.hid ⟨_, HZ.out, R1.out⟩⟩
              case measure => simp [intOf]; omega
          · obtain ⟨rfl, hq⟩ := hs1 he
            cases hq
            have f1 : (e == 0) = false := by simpa using he
            have f2 : (e != 0) = true := by simpa using he
            have HZ := HL
            clear hs2 hs3 he
            go_wp2_with (first | (go_at_call 30; refine (R1.out.err rfl).mono ?_; rintro r w6 ⟨rfl, rfl⟩) | (go_at_call 29; refine (R1.out.left HZ.out).mono ?_; rintro r w6 ⟨rfl, rfl⟩))
            go_roundw
            case rel => exact ⟨j + 1, m, e, by go_num, by omega, rfl, rfl, by omega, Lib.hid ⟨ys, HZ.out, R1.out⟩⟩
            case measure => simp [intOf]; omega
      · by_cases he : e = 0
        · subst he
          go_wp2_with fail
          go_ret
          exact ⟨rfl, R.out.mods.below⟩
        · have f1 : (e == 0) = false := by simpa using he
          have HE : Hid (endS ys e = e) := Lib.hid (if_neg (fun x => he x.1))
          clear he
          go_wp2_with fail
          refine (R.out.enda).mono ?_
          simp only [HE.out]
          rintro r w5 ⟨rfl, hr⟩
          have R1 := Lib.hid hr
          clear hr
          go_wp2_with fail
          go_ret
          exact ⟨rfl, R1.out.mods.below⟩

theorem lifted (os : Os) (started : os.Started) (H : Type) (enc : TypeId × Value → H) :
    ReturnsInHanded {} Try.checked os 10 .any (Rows.encStopsSpec.pre6 enc Try.prog Try.f10 Rows.encStopsRow.domain false) (Rows.encStopsSpec.post enc Try.prog Try.f10 false true false false) := by
  refine returnsInHanded_of_change_sized (C := Try.checked) own started (by kernel_rfl) Try.func10
    (ChangeSpec.witness6 (enc := enc) (C := Try.checked) false ⟨#[], #[.slice none 0 0, .slice none 0 0], []⟩ 8 (by kernel_rfl) (by kernel_rfl) (by kernel_rfl) (by kernel_rfl)) ?_
  intro W base args ds gs before hval0 hW hcnd hsz _
  have hval : ∀ (j : Nat) t v, Try.f10.params[j]? = some t → args[j]? = some v → Value.okWide Try.prog W .any base t v := hval0
  have hW' := hW
  obtain ⟨p, q, hA0, hV, rfl, hfz, hnd⟩ := hW
  have hA : DataW.TrodAll enc Try.prog W 0 (fun _ => true) true Try.f10.params.toList args.toList ds p := hA0
  replace hsz : (DataW.weightsEach Try.prog (Try.f10.params.toList ++ Rows.encStopsSpec.plain.varTypes Try.prog) (ds ++ gs)).all (· ≤ reachBytes) = true := hsz
  rw [Try.params10] at hA hval hsz
  obtain ⟨v0, vs0, d0, ds0, p0, q0, hargs, rfl, rfl, h0, r0⟩ := trodAll_cons hA
  obtain ⟨v1, vs1, d1, ds1, p1, q1, rfl, rfl, rfl, h1, r1⟩ := trodAll_cons r0
  obtain ⟨rfl, rfl, rfl⟩ := trodAll_nil r1
  obtain rfl : args = #[v0, v1] := by cases args; simp_all
  obtain ⟨rfl, rfl⟩ := trodVars_none hV
  have sz : ∀ (j : Nat) t (d : DataW H), ([32, 49] ++ Rows.encStopsSpec.plain.varTypes Try.prog)[j]? = some t → ([d0, d1] ++ ([] : List (DataW H)))[j]? = some d → ∀ q ∈ d.weights Try.prog t, q ≤ reachBytes := by
    intro j t d ht hd q hq
    have := List.all_eq_true.1 hsz q (DataW.weights_mem_each ht hd q hq)
    simpa using this
  obtain ⟨ad0, ln0, cp0, rfl⟩ := okWide_slice Try.underlying32 (hval 0 32 v0 rfl rfl)
  obtain ⟨x0, k0⟩ := rd_of_arg (hval 0 32 _ rfl rfl) h0
  obtain ⟨x1, k1⟩ := steps_of_arg (hval 1 49 v1 rfl rfl) h1 (sz 1 _ d1 rfl rfl)
  have j0 := h0
  have j1 := h1
  have lt0 : ∀ x ∈ p0, x.block < W.heap.size := by obtain ⟨m, hm⟩ := j0; exact DataW.trod_lt m _ _ _ hm
  have lt1 : ∀ x ∈ p1, x.block < W.heap.size := by obtain ⟨m, hm⟩ := j1; exact DataW.trod_lt m _ _ _ hm
  clear hA0 hval0
  refine (walk _ v1 x0 x1 W k0 k1).mono fun e W' ⟨he, bel⟩ => ?_
  subst he
  exact ⟨_, rfl, _, _, _, [], _, [], hW', trodAll_mk1 (shut_bool Try.underlying4 _), (trodAll_cons_mk (Below.trod laidOut (by kernel_rfl) (of_decide_eq_true (by kernel_rfl)) j0 bel lt0) (trodAll_cons_mk (Below.trod laidOut (by kernel_rfl) (of_decide_eq_true (by kernel_rfl)) j1 bel lt1) trodAll_mk0)), rfl, bel.frame _, fun h => by cases h⟩

theorem over : Rows.encStopsRow.holds Try.pinned (OpenSpec.ofChange Rows.encStopsSpec) :=
  OpenClaim.holds_of_wide 10 Try.f10 rfl rfl rfl rfl rfl rfl rfl ⟨rfl, rfl, rfl, rfl, rfl⟩ rfl rfl rfl rfl rfl (by kernel_rfl) Try.func10 (by kernel_rfl)
    (of_decide_eq_true (by kernel_rfl)) (by unfold Func.isWrapper; first | (rw [if_pos (by decide +kernel)]; kernel_rfl) | (rw [if_neg (by decide +kernel)]; exact ⟨rfl, rfl⟩))
    (fun os started H enc _ => lifted os started H enc)

theorem proved : Rows.EncStopsSaid := over
#print axioms proved
end Go.Proofs.Ytebknplbghcemaa.encStops

/- EncJoin: two scripts laid by one writer are the bytes of both; two writers don't touch one another: P4.1, P4.5. No conditions. -/
import Derived.Test.YtebknplbghcemaaRun
import Derived.Test.YtebknplbghcemaaEKnown2
import Derived.Test.YtebknplbghcemaaHCopy
namespace Go.Proofs.Ytebknplbghcemaa.encJoin
open Go.Gl Go.RowKit Go.ChangeShapes Go.WideShapes Go.ChangeAt
set_option linter.unusedVariables false
set_option maxRecDepth 100000

set_option maxHeartbeats 8000000 in
theorem walk (x y : Value) (l m : List EStp) (w : World) (hx : RdSteps w x l) (hy : RdSteps w y m) :
    Calls Try.prog 7 #[x, y] w fun e w' => e = .returned (.bool true) ∧ Below w.heap.size w w' := by
  obtain ⟨a, n, c, rfl, hn, hc1, hc2, _⟩ := hx.form
  obtain ⟨b, k, d, rfl, hk, hd1, hd2, _⟩ := hy.form
  have HX := Lib.hid hx
  have HY := Lib.hid hy
  have HN := Lib.hid hn
  have HK := Lib.hid hk
  clear hx hy hn hk
  go_enter Try.func7, Try.ntmps7
  go_wp2_with fail
  refine (eknown_any _).mono ?_
  rintro e w1 ⟨rfl, m1⟩
  have M1 := Lib.hid m1
  clear m1
  go_wp2_with fail
  refine (light_any (HX.out.keep M1.out)).mono ?_
  rintro e w2 ⟨rfl, q2⟩
  have M2 := Lib.hid (M1.out.then0 (q2.mods noB))
  clear q2
  cases hL : lightB l with
  | false =>
    go_wp2_with fail
    go_ret
    exact ⟨rfl, M2.out.below⟩
  | true =>
    have HL := Lib.hid hL
    clear hL
    go_wp2_with fail
    refine (light_any (HY.out.keep M2.out)).mono ?_
    rintro e w3 ⟨rfl, q3⟩
    have M3 := Lib.hid (M2.out.then0 (q3.mods noB))
    clear q3
    cases hM : lightB m with
    | false =>
      go_wp2_with fail
      go_ret
      exact ⟨rfl, M3.out.below⟩
    | true =>
      have HM := Lib.hid hM
      clear hM
      have W0 := Lib.hid (show E3 w w3.heap.size (w3.heap.size + 1) (w3.heap.size + 1 + 1) ([], 0) ([], 0) ([], 0) _ from ⟨_, _, _, W3.start M3.out _ rfl (by simp) (by simp)⟩)
      clear M1 M2 M3
      have LL := Lib.hid (light_len HL.out)
      have LM := Lib.hid (light_len HM.out)
      have PL := Lib.hid (light_parts HL.out)
      have PM := Lib.hid (light_parts HM.out)
      go_wp2
      generalize w3.heap.size + 1 + 1 = gc at *
      generalize w3.heap.size + 1 = gb at *
      generalize w3.heap.size = ga at *
      generalize World.alloc _ _ = w4 at *
      go_loopw [8] (fun i wr => ∃ j : Nat, i = .int .i64 j ∧ (j ≤ n ∨ j ≤ k) ∧ Hid (E3 w ga gb gc (wrun ([], 0) (l.take j)) (wrun ([], 0) (m.take j)) (wrun ([], 0) (l.take j)) wr)) (fun i _ => n + k - (intOf i).toNat)
      case atStart => exact ⟨0, rfl, by omega, W0⟩
      case round =>
        obtain ⟨j, rfl, hj, hR⟩ := hrel
        by_cases h1 : j < n
        · obtain ⟨g, off, jl, rfl, at1, c0, c1, c2, c3, c4⟩ := HX.out.get hR.out.mods h1
          have AT := Lib.hid at1
          have JL := Lib.hid jl
          go_wp2_with fail
          refine (hR.out.writeA AT.out (by have := LL.out j ([], 0); simp only [List.length_nil] at this; omega) (PL.out.2 j JL.out)).mono ?_
          rintro e w5 ⟨rfl, r5⟩
          have R5 := Lib.hid r5
          clear r5 c0 c1 c2 c3 c4 at1
          obtain ⟨g', off', jl', hgo, _, c0, c1, c2, c3, c4⟩ := HX.out.get R5.out.mods h1
          cases hgo
          go_wp2_with fail
          refine (R5.out.writeC AT.out (by have := LL.out j ([], 0); simp only [List.length_nil] at this; omega) (PL.out.2 j JL.out)).mono ?_
          rintro e w6 ⟨rfl, r6⟩
          rw [← wrun_take _ _ _ JL.out] at r6
          have R6 := Lib.hid r6
          clear r6 c0 c1 c2 c3 c4 R5 hR
          by_cases h2 : j < k
          · obtain ⟨g', off', jk, rfl, at1, c0, c1, c2, c3, c4⟩ := HY.out.get R6.out.mods h2
            have AK := Lib.hid at1
            have JK := Lib.hid jk
            clear at1
            go_wp2_with fail
            refine (R6.out.writeB AK.out (by have := LM.out j ([], 0); simp only [List.length_nil] at this; omega) (PM.out.2 j JK.out)).mono ?_
            rintro e w7 ⟨rfl, r7⟩
            rw [← wrun_take _ _ _ JK.out] at r7
            have R7 := Lib.hid r7
            clear r7 c0 c1 c2 c3 c4 R6
            go_wp2
            go_roundw
            case rel => exact ⟨j + 1, by go_num, by omega, R7.out⟩
            case measure => simp [intOf]; omega
          · have hk : m.take j = m.take (j + 1) := by rw [List.take_of_length_le (by rw [HK.out]; omega), List.take_of_length_le (by rw [HK.out]; omega)]
            have R7 := Lib.hid (show E3 w ga gb gc (wrun ([], 0) (l.take (j + 1))) (wrun ([], 0) (m.take (j + 1))) (wrun ([], 0) (l.take (j + 1))) w6 from hk ▸ R6.out)
            clear R6 hk
            go_wp2
            go_roundw
            case rel => exact ⟨j + 1, by go_num, by omega, R7.out⟩
            case measure => simp [intOf]; omega
        · by_cases h2 : j < k
          · obtain ⟨g', off', jk, rfl, at1, c0, c1, c2, c3, c4⟩ := HY.out.get hR.out.mods h2
            have AK := Lib.hid at1
            have JK := Lib.hid jk
            clear at1
            go_wp2_with fail
            refine (hR.out.writeB AK.out (by have := LM.out j ([], 0); simp only [List.length_nil] at this; omega) (PM.out.2 j JK.out)).mono ?_
            rintro e w7 ⟨rfl, r7⟩
            rw [← wrun_take _ _ _ JK.out, show l.take j = l.take (j + 1) from by rw [List.take_of_length_le (by rw [HN.out]; omega), List.take_of_length_le (by rw [HN.out]; omega)]] at r7
            have R7 := Lib.hid r7
            clear r7 c0 c1 c2 c3 c4 hR
            go_wp2
            go_roundw
            case rel => exact ⟨j + 1, by go_num, by omega, R7.out⟩
            case measure => simp [intOf]; omega
          · have hR' := hR.out
            rw [List.take_of_length_le (by rw [HN.out]; omega), List.take_of_length_le (by rw [HK.out]; omega)] at hR'
            have R5 := Lib.hid hR'
            clear hR hR'
            clear W0
            go_wp2
            go_loopw [9] (fun i wr => ∃ j : Nat, i = .int .i64 j ∧ j ≤ k ∧ Hid (E3 w ga gb gc (wrun ([], 0) l) (wrun ([], 0) m) (wrun (wrun ([], 0) l) (m.take j)) wr)) (fun i _ => k - (intOf i).toNat)
            case atStart => exact ⟨0, rfl, by omega, R5⟩
            case round =>
              obtain ⟨i, rfl, hi, hR⟩ := hrel
              by_cases h3 : i < k
              · obtain ⟨g', off', jk, rfl, at1, c0, c1, c2, c3, c4⟩ := HY.out.get hR.out.mods h3
                have AK := Lib.hid at1
                have JK := Lib.hid jk
                clear at1
                go_wp2_with fail
                refine (hR.out.writeC AK.out (by have h5 := LL.out l.length ([], 0); have h6 := LM.out i (wrun ([], 0) l); rw [List.take_of_length_le (Nat.le_refl _)] at h5; simp only [List.length_nil] at h5; omega) (PM.out.2 i JK.out)).mono ?_
                rintro e w7 ⟨rfl, r7⟩
                rw [← wrun_take _ _ _ JK.out] at r7
                have R7 := Lib.hid r7
                clear r7 c0 c1 c2 c3 c4 hR R5
                go_wp2
                go_roundw
                case rel => exact ⟨i + 1, by go_num, by omega, R7⟩
                case measure => simp [intOf]; omega
              · have h5 := LL.out l.length ([], 0)
                have h6 := LM.out m.length (wrun ([], 0) l)
                have h7 := LM.out m.length ([], 0)
                rw [List.take_of_length_le (Nat.le_refl _)] at h5 h6 h7
                simp only [List.length_nil] at h5 h7
                have hR' := hR.out
                rw [List.take_of_length_le (by rw [HK.out]; omega)] at hR'
                have law := wrun_join l m
                rw [wrun_append] at law
                generalize wrun (wrun ([], 0) l) m = pc at *
                generalize wrun ([], 0) l = pa at *
                generalize wrun ([], 0) m = pb at *
                obtain ⟨xa, ea⟩ := pa
                obtain ⟨xb, eb⟩ := pb
                obtain ⟨xc, ec⟩ := pc
                simp only at h5 h6 h7 law
                have hc8 : xc.length ≤ 30000000 := by omega
                have R := Lib.hid hR'
                clear hR hR' R5 HX HY HL HM LL LM PL PM
                go_wp2_with fail
                refine (R.out.outA (by simp only; omega)).mono ?_
                rintro e wa ⟨ua, rfl, oa, ma, fa⟩
                have RA := Lib.hid (R.out.then0 ma)
                have OA := Lib.hid oa
                clear oa ma fa R
                go_wp2_with fail
                refine (RA.out.outB (by simp only; omega)).mono ?_
                rintro e wb ⟨ub, rfl, ob, mb, fb⟩
                have RB := Lib.hid (RA.out.then0 mb)
                have OA2 := Lib.hid (OA.out.keep mb (fun _ _ x => x))
                have OB := Lib.hid ob
                clear ob mb fb RA OA
                go_wp2_with fail
                refine (RB.out.outC (by simp only; omega)).mono ?_
                rintro e wc ⟨uc, rfl, oc, mc, fc⟩
                have MC := Lib.hid (RB.out.then0 mc).mods
                have OA := Lib.hid (OA2.out.keep mc (fun _ _ x => x))
                have OB2 := Lib.hid (OB.out.keep mc (fun _ _ x => x))
                have OC := Lib.hid oc
                clear oc mc fc RB OA2 OB
                obtain ⟨la, ca, rfl, _⟩ := OA.out.rd.form
                obtain ⟨lb, cb, rfl, _⟩ := OB2.out.rd.form
                obtain ⟨lc, cc, rfl, _⟩ := OC.out.rd.form
                rcases law with ⟨rfl, rfl, hp⟩ | ⟨hp, rfl⟩
                · cases hp
                  have LA := Lib.hid h5
                  have LB := Lib.hid h7
                  clear h5 h6 h7
                  unfold woutB at *
                  simp only [if_true] at OA OB2 OC
                  rw [List.length_append] at OC
                  go_wp2_with fail
                  refine (CopyBytes_any OA.out.rd (by have := LA.out; omega)).mono ?_
                  rintro e wd ⟨ud, rfl, od, md, fd⟩
                  have MD := Lib.hid (MC.out.then0 md)
                  have OB := Lib.hid (OB2.out.keep md (fun _ _ x => x))
                  have OZ := Lib.hid (OC.out.keep md (fun k _ x => x))
                  have OD := Lib.hid od
                  have FD := Lib.hid (fd.of MC.out.size)
                  have F2 := Lib.hid fd
                  have LZ := Lib.hid OC.out.lt
                  clear md fd od OA OB2 OC MC
                  go_wp2_with (at_builtin; refine stop ?_)
                  unfold Stop
                  refine wpList_step fun K hKK => step_apb (by rfl) (by rfl) xa xb OD.out OB.out.rd (by rfl) (by rfl) (by have := LA.out; have := LB.out; omega) ?_
                  intro v' w' k1 k2 k3
                  refine hKK _ _ ?_
                  clear hKK K
                  have MZ := Lib.hid (MD.out.trans (T := ofV ud) (U := noB) k2 (fun _ _ x => x) (fun i hi x => by have := FD.out i x; omega))
                  have OY := Lib.hid (OZ.out.keep k2 (fun k hk x => by have := LZ.out k hk; have := F2.out k x; omega))
                  obtain ⟨az, cz, rfl, _⟩ := k1.rd.form
                  have OW := Lib.hid k1
                  rw [List.length_append] at OW
                  clear k1 k2 k3 OZ MD FD F2 LZ OD OB
                  go_wp2_with (go_at_call 17; refine (Bytes_true OY.out.rd OW.out.rd).mono ?_; rintro e wz ⟨rfl, mz⟩)
                  go_ret
                  exact ⟨rfl, (MZ.out.then0 mz).below⟩
                · have hz : (woutB 42 xc).length = 0 := rfl
                  clear h5 h6 h7 OA OB2 OC
                  generalize (woutB 42 xc).length = q at *
                  subst hz
                  generalize (woutB ea xa).length = qa at *
                  generalize (woutB eb xb).length = qb at *
                  rcases hp with rfl | ⟨rfl, rfl⟩
                  · go_wp2_with fail
                    go_ret
                    exact ⟨rfl, MC.out.below⟩
                  · go_wp2_with fail
                    go_ret
                    exact ⟨rfl, MC.out.below⟩

theorem lifted (os : Os) (started : os.Started) (H : Type) (enc : TypeId × Value → H) :
    ReturnsInHanded {} Try.checked os 7 .any (Rows.encJoinSpec.pre6 enc Try.prog Try.f7 Rows.encJoinRow.domain false) (Rows.encJoinSpec.post enc Try.prog Try.f7 false true false false) := by
  refine returnsInHanded_of_change_sized (C := Try.checked) own started (by kernel_rfl) Try.func7
    (ChangeSpec.witness6 (enc := enc) (C := Try.checked) false ⟨#[], #[.slice none 0 0, .slice none 0 0], []⟩ 8 (by kernel_rfl) (by kernel_rfl) (by kernel_rfl) (by kernel_rfl)) ?_
  intro W base args ds gs before hval0 hW hcnd hsz _
  have hval : ∀ (j : Nat) t v, Try.f7.params[j]? = some t → args[j]? = some v → Value.okWide Try.prog W .any base t v := hval0
  have hW' := hW
  obtain ⟨p, q, hA0, hV, rfl, hfz, hnd⟩ := hW
  have hA : DataW.TrodAll enc Try.prog W 0 (fun _ => true) true Try.f7.params.toList args.toList ds p := hA0
  replace hsz : (DataW.weightsEach Try.prog (Try.f7.params.toList ++ Rows.encJoinSpec.plain.varTypes Try.prog) (ds ++ gs)).all (· ≤ reachBytes) = true := hsz
  rw [Try.params7] at hA hval hsz
  obtain ⟨v0, vs0, d0, ds0, p0, q0, hargs, rfl, rfl, h0, r0⟩ := trodAll_cons hA
  obtain ⟨v1, vs1, d1, ds1, p1, q1, rfl, rfl, rfl, h1, r1⟩ := trodAll_cons r0
  obtain ⟨rfl, rfl, rfl⟩ := trodAll_nil r1
  obtain rfl : args = #[v0, v1] := by cases args; simp_all
  obtain ⟨rfl, rfl⟩ := trodVars_none hV
  have sz : ∀ (j : Nat) t (d : DataW H), ([49, 49] ++ Rows.encJoinSpec.plain.varTypes Try.prog)[j]? = some t → ([d0, d1] ++ ([] : List (DataW H)))[j]? = some d → ∀ q ∈ d.weights Try.prog t, q ≤ reachBytes := by
    intro j t d ht hd q hq
    have := List.all_eq_true.1 hsz q (DataW.weights_mem_each ht hd q hq)
    simpa using this
  obtain ⟨l, hl⟩ := steps_of_arg (hval 0 49 v0 rfl rfl) h0 (sz 0 _ d0 rfl rfl)
  obtain ⟨m, hm⟩ := steps_of_arg (hval 1 49 v1 rfl rfl) h1 (sz 1 _ d1 rfl rfl)
  have k0 := h0
  have k1 := h1
  have lt1 : ∀ x ∈ p1, x.block < W.heap.size := by obtain ⟨m, hm⟩ := k1; exact DataW.trod_lt m _ _ _ hm
  have lt0 : ∀ x ∈ p0, x.block < W.heap.size := by obtain ⟨m, hm⟩ := k0; exact DataW.trod_lt m _ _ _ hm
  clear hA0 hval0
  refine (walk v0 v1 l m W hl hm).mono fun e W' ⟨he, bel⟩ => ?_
  subst he
  exact ⟨_, rfl, _, _, _, [], _, [], hW', trodAll_mk1 (shut_bool Try.underlying4 _), (trodAll_cons_mk (Below.trod laidOut (by kernel_rfl) (of_decide_eq_true (by kernel_rfl)) k0 bel lt0) (trodAll_cons_mk (Below.trod laidOut (by kernel_rfl) (of_decide_eq_true (by kernel_rfl)) k1 bel lt1) trodAll_mk0)), rfl, bel.frame _, fun h => by cases h⟩

theorem over : Rows.encJoinRow.holds Try.pinned (OpenSpec.ofChange Rows.encJoinSpec) :=
  OpenClaim.holds_of_wide 7 Try.f7 rfl rfl rfl rfl rfl rfl rfl ⟨rfl, rfl, rfl, rfl, rfl⟩ rfl rfl rfl rfl rfl (by kernel_rfl) Try.func7 (by kernel_rfl)
    (of_decide_eq_true (by kernel_rfl)) (by unfold Func.isWrapper; first | (rw [if_pos (by decide +kernel)]; kernel_rfl) | (rw [if_neg (by decide +kernel)]; exact ⟨rfl, rfl⟩))
    (fun os started H enc _ => lifted os started H enc)

theorem proved : Rows.EncJoinSaid := over
#print axioms proved
end Go.Proofs.Ytebknplbghcemaa.encJoin

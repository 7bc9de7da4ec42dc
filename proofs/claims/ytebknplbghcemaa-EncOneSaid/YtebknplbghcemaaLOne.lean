/- EncOne: what was read without an error, laid again, are the bytes that were taken: P4.4. No conditions. -/
import Derived.Test.YtebknplbghcemaaRW
import Derived.Test.YtebknplbghcemaaEKnown2
import Derived.Deep.CutBlock
import Derived.Deep.DeepCutAuto
import Derived.Outline
namespace Go.Proofs.Ytebknplbghcemaa.encOne
open Go.Gl Go.RowKit Go.ChangeShapes Go.WideShapes Go.ChangeAt
set_option linter.unusedVariables false
set_option maxRecDepth 100000

/-- behind a step: what was taken was laid; or an error stands, and nothing was taken -/
def OneOk (bs ys : List UInt8) (q : ESt) (ws : WSt) : Prop := (q.2 = 0 ∧ ws.2 = 0 ∧ bs = ws.1 ++ q.1) ∨ (q.2 ≠ 0 ∧ q.1 = ys)

theorem oneOk {bs xs ys lay : List UInt8} {q : ESt} {z : Bool} (hs : StopsOk (ys, 0) q z) (ho : q.2 = 0 → ys = lay ++ q.1) (hb : bs = xs ++ ys) : OneOk bs ys q (wput 0 xs lay, 0) := by
  by_cases hq : q.2 = 0
  · refine .inl ⟨hq, rfl, ?_⟩
    simp only
    rw [wput0, hb, List.append_assoc, ← ho hq]
  · exact .inr ⟨hq, (hs.2.1 rfl hq).2⟩

theorem natV_len (p : ESt) : (natV p).length ≤ 255 := by
  unfold natV
  split
  · rename_i h
    have h1 : (nbody p).length ≤ 255 := by
      unfold nbody
      rw [List.length_take]
      have : evl 1 p < 256 := by have := rtake_lt 1 p.1 p.2; simpa [evl] using this
      omega
    have h2 := num_lt (nbody p)
    have h3 : 256 ^ (nbody p).length ≤ 256 ^ 255 := Nat.pow_le_pow_right (by omega) h1
    have h4 : 256 ^ 255 ≤ 18446744073709551616 ^ 255 := Nat.pow_le_pow_left (by omega) 255
    have e := dig_ldig (B := 18446744073709551616) (n := 255) (x := num (nbody p)) (by omega) (Nat.lt_of_lt_of_le h2 (Nat.le_trans h3 h4))
    rw [e]
    exact Nat.le_trans (strip_length_le _) (Nat.le_of_eq (ldig_length _ _ _))
  · simp

theorem natV_blen (ys : List UInt8) : blen (dval 18446744073709551616 (natV (ys, 0))) ≤ 255 := by
  by_cases hq : (natT (ys, 0)).2 = 0
  · exact (nat_one ys hq).2
  · have h := ((nat_stops (ys, 0)).2.1 rfl hq).1
    have h0 : natV (ys, 0) = [] := List.eq_nil_of_length_eq_zero (by simpa using h)
    rw [h0]
    decide

theorem rawV_len (most : Int) (p : ESt) : (rawV most p).length ≤ p.1.length := by
  unfold rawV
  split
  · unfold bbody
    rw [List.length_take, List.length_drop]
    omega
  · simp

theorem takeA {w : World} {a : Option Addr} {n c : Nat} {xs : List UInt8} (h : Rd w (.slice a n c) xs) (hn : xs.length = n) (k : Nat) (hk : k ≤ n) : Rd w (.slice a k c) (xs.take k) := by
  rcases h.open with ⟨h0, rfl⟩ | ⟨g, off, cap, hv, _⟩
  · have h1 := h0.none
    obtain rfl : k = 0 := by simp at hn; omega
    obtain rfl : n = 0 := h1.1
    exact h
  · cases hv
    exact h.take' hn hk

set_option maxHeartbeats 8000000 in
theorem walk (x y : Value) (bs : List UInt8) (l : List EStp) (w : World) (hx : Rd w x bs) (hy : RdSteps w y l) :
    Calls Try.prog 9 #[x, y] w fun e w' => e = .returned (.bool true) ∧ Below w.heap.size w w' := by
  obtain ⟨b, k, d, rfl, hk, hd1, hd2, _⟩ := hy.form
  obtain ⟨a, c, rfl, hnc, hcm, _⟩ := hx.at'
  obtain ⟨n, hn⟩ : ∃ n, bs.length = n := ⟨_, rfl⟩
  rw [hn] at hx hnc ⊢
  unfold maxLen at hcm
  have HX := Lib.hid hx
  have HY := Lib.hid hy
  have HN := Lib.hid hn
  have HK := Lib.hid hk
  clear hx hy hn hk
  go_enter Try.func9, Try.ntmps9
  go_wp2_with fail
  refine (eknown_any _).mono ?_
  rintro e w1 ⟨rfl, m1⟩
  have M1 := Lib.hid m1
  clear m1
  go_wp2_with fail
  refine (light_any (HY.out.keep M1.out)).mono ?_
  rintro e w2 ⟨rfl, q2⟩
  have M2 := Lib.hid (M1.out.then0 (q2.mods noB))
  clear q2 M1
  cases hL : lightB l with
  | false =>
    go_wp2_with fail
    go_ret
    exact ⟨rfl, M2.out.below⟩
  | true =>
    clear hL
    by_cases h3 : 3000 < n
    · go_wp2_with fail
      go_ret
      exact ⟨rfl, M2.out.below⟩
    go_wp2_with fail
    refine (NewReader_any (HX.out.keep M2.out (fun _ _ x => x)) (by rw [HN.out]; omega)).mono ?_
    rintro e w3 ⟨g, v, rfl, hr1, hr2, hr3, _⟩
    have K0 := Lib.hid (RWE.nil hr1 (M2.out.then0 hr2) (Nat.le_trans M2.out.size hr3))
    clear hr1 hr2 hr3 M2
    go_wp2
    generalize World.alloc w3 _ = w4 at *
    generalize w3.heap.size = gw at *
    go_loopw [7] (fun i wr => ∃ (j : Nat), i = .int .i64 j ∧ j ≤ k ∧ Hid (∃ ys xs, bs = xs ++ ys ∧ RWE w g (ys, 0) gw (xs, 0) (.slice none 0 0) wr)) (fun i _ => k - (intOf i).toNat)
    case atStart => exact ⟨0, rfl, by omega, Lib.hid ⟨bs, [], rfl, K0.out⟩⟩
    case round =>
      clear K0
      obtain ⟨j, rfl, hj, hR⟩ := hrel
      obtain ⟨ys, xs, hb, hr⟩ := hR.out
      have HB := Lib.hid hb
      have R := Lib.hid hr
      obtain ⟨m, hm⟩ : ∃ m, ys.length = m := ⟨_, rfl⟩
      obtain ⟨mx, hmx⟩ : ∃ m, xs.length = m := ⟨_, rfl⟩
      have hsum : mx + m = n := by rw [← HN.out, hb, List.length_append, hmx, hm]
      have HM := Lib.hid hm
      have HMX := Lib.hid hmx
      clear hR hb hr hm hmx
      by_cases h1 : j < k
      · obtain ⟨gs, off, jl, rfl, at1, c0, c1, c2, c3, c4⟩ := HY.out.get R.out.mods h1
        clear at1 c1 c2 c3 c4
        generalize l[j].what = what at *
        go_upto_block 2 with (go_at_call 29; refine (R.out.left).mono ?_; simp only [HM.out]; rintro r w6 ⟨rfl, rfl⟩)
        have R0 := R
        go_cut [] (fun wx => Hid (∃ q ws, OneOk bs ys q ws ∧ RWE w g q gw ws (.slice none 0 0) wx))
        case first =>
          by_cases e0 : what = 0
          · subst e0
            go_wp2_with fail
            refine (R0.out.u8).mono ?_
            rintro r w5 ⟨rfl, hr⟩
            have S := Lib.hid hr
            have hlt : evl 1 (ys, 0) ≤ 255 := by have := rtake_lt 1 ys 0; simp [evl] at this ⊢; omega
            clear hr
            go_wp2_with fail
            refine (S.out.wu8 _ hlt (by simp only; rw [HMX.out]; omega)).mono ?_
            rintro r w7 ⟨rfl, hr⟩
            have T := Lib.hid hr
            clear hr S
            go_wp2
            go_meet
            exact Lib.hid ⟨_, _, oneOk (est_stops 1 (ys, 0)) (est_one 1 ys) HB.out, T.out⟩
          have f0 : (what == 0) = false := by simpa using e0
          by_cases e1 : what = 1
          · subst e1
            go_wp2_with fail
            refine (R0.out.u32).mono ?_
            rintro r w5 ⟨rfl, hr⟩
            have S := Lib.hid hr
            have hlt : evl 4 (ys, 0) ≤ 4294967295 := by have := rtake_lt 4 ys 0; simp [evl] at this ⊢; omega
            clear hr
            go_wp2_with fail
            refine (S.out.wu32 _ hlt (by simp only; rw [HMX.out]; omega)).mono ?_
            rintro r w7 ⟨rfl, hr⟩
            have T := Lib.hid hr
            clear hr S
            go_wp2
            go_meet
            exact Lib.hid ⟨_, _, oneOk (est_stops 4 (ys, 0)) (est_one 4 ys) HB.out, T.out⟩
          have f1 : (what == 1) = false := by simpa using e1
          by_cases e2 : what = 2
          · subst e2
            go_wp2_with fail
            refine (R0.out.u64).mono ?_
            rintro r w5 ⟨rfl, hr⟩
            have S := Lib.hid hr
            have hlt : evl 8 (ys, 0) ≤ 18446744073709551615 := by have := rtake_lt 8 ys 0; simp [evl] at this ⊢; omega
            clear hr
            go_wp2_with fail
            refine (S.out.wu64 _ hlt (by simp only; rw [HMX.out]; omega)).mono ?_
            rintro r w7 ⟨rfl, hr⟩
            have T := Lib.hid hr
            clear hr S
            go_wp2
            go_meet
            exact Lib.hid ⟨_, _, oneOk (est_stops 8 (ys, 0)) (est_one 8 ys) HB.out, T.out⟩
          have f2 : (what == 2) = false := by simpa using e2
          by_cases e3 : what = 3
          · subst e3
            go_wp2_with fail
            refine (R0.out.bool).mono ?_
            rintro r w5 ⟨rfl, hr⟩
            have S := Lib.hid hr
            clear hr
            go_wp2_with fail
            refine (S.out.wbool _ (by simp only; rw [HMX.out]; omega)).mono ?_
            rintro r w7 ⟨rfl, hr⟩
            have T := Lib.hid hr
            clear hr S
            go_wp2
            go_meet
            exact Lib.hid ⟨_, _, oneOk (bool_stops (ys, 0)) (bool_one ys) HB.out, T.out⟩
          have f3 : (what == 3) = false := by simpa using e3
          by_cases e4 : what = 4
          · subst e4
            go_wp2_with fail
            refine (R0.out.nat (by simp only; rw [HM.out]; omega)).mono ?_
            rintro r w5 ⟨u, rfl, hu, hr⟩
            have S := Lib.hid hr
            have U := Lib.hid hu
            clear hr hu
            go_wp2_with fail
            refine (S.out.wnat U.out (natV_lim _) (by have := natV_len (ys, 0); omega) (by simp only; rw [HMX.out]; omega)).mono ?_
            rintro r w7 ⟨rfl, hr⟩
            simp only [wnatX, wnatE, if_pos (natV_blen ys)] at hr
            have T := Lib.hid hr
            clear hr S U
            go_wp2
            go_meet
            exact Lib.hid ⟨_, _, oneOk (nat_stops (ys, 0)) (fun h => (nat_one ys h).1) HB.out, T.out⟩
          have f4 : (what == 4) = false := by simpa using e4
          by_cases e5 : what = 5
          · subst e5
            go_wp2_with fail
            refine (R0.out.dec (by simp only; rw [HM.out]; omega)).mono ?_
            rintro r w5 ⟨u, rfl, hu, hr⟩
            have S := Lib.hid hr
            have U := Lib.hid hu
            clear hr hu
            go_wp2_with fail
            refine (S.out.wdec U.out (natV_lim _) (by have := natV_len (ys, 0); omega) (by simp only; rw [HMX.out]; omega)).mono ?_
            rintro r w7 ⟨rfl, hr⟩
            simp only [wnatX, wnatE, if_pos (natV_blen ys)] at hr
            have T := Lib.hid hr
            clear hr S U
            go_wp2
            go_meet
            exact Lib.hid ⟨_, _, oneOk (nat_stops (ys, 0)) (fun h => (nat_one ys h).1) HB.out, T.out⟩
          have f5 : (what == 5) = false := by simpa using e5
          by_cases e6 : what = 6
          · subst e6
            go_wp2_with fail
            refine (R0.out.raw n (by omega) (by simp only; rw [HM.out]; omega)).mono ?_
            rintro r w5 ⟨u, rfl, hu, hr⟩
            have S := Lib.hid hr
            have U := Lib.hid hu
            clear hr hu
            go_wp2_with fail
            refine (S.out.wraw U.out.rd (by have := rawV_len n (ys, 0); simp only at this; rw [HM.out] at this; omega) (by simp only; rw [HMX.out]; omega)).mono ?_
            rintro r w7 ⟨rfl, hr⟩
            have T := Lib.hid hr
            clear hr S U
            go_wp2
            go_meet
            exact Lib.hid ⟨_, _, oneOk (raw_stops n (ys, 0)) (raw_one n ys) HB.out, T.out⟩
          have f6 : (what == 6) = false := by simpa using e6
          clear e0 e1 e2 e3 e4 e5 e6
          go_wp2
          go_meet
          exact Lib.hid ⟨_, _, .inl ⟨rfl, rfl, HB.out⟩, R0.out⟩
        case rest =>
          clear R0 R c0
          obtain ⟨⟨zs, f⟩, ⟨ws, h⟩, hq, hr⟩ := hcut.out
          have R1 := Lib.hid hr
          unfold OneOk at hq
          simp only at hq
          clear hr hcut
          by_cases hf : f = 0
          · have hq' := hq.resolve_right (fun x => x.1 hf)
            obtain ⟨_, rfl, hbb⟩ := hq'
            have HB1 := Lib.hid hbb
            subst hf
            clear hq hbb
            go_wp2_with (go_at_call 30; refine (R1.out.err).mono ?_; rintro r w6 ⟨rfl, rfl⟩)
            go_roundw
            case rel => exact ⟨j + 1, by go_num, by omega, Lib.hid ⟨zs, ws, HB1.out, R1.out⟩⟩
            case measure => simp [intOf]; omega
          · have hq' := hq.resolve_left (fun x => hf x.1)
            obtain ⟨_, rfl⟩ := hq'
            have f1 : (f == 0) = false := by simpa using hf
            have f2 : (f != 0) = true := by simpa using hf
            clear hq hf
            go_wp2_with (first | (go_at_call 30; refine (R1.out.err).mono ?_; rintro r w6 ⟨rfl, rfl⟩) | (go_at_call 29; refine (R1.out.left).mono ?_; simp only [HM.out]; rintro r w6 ⟨rfl, rfl⟩))
            go_ret
            exact ⟨rfl, R1.out.mods.below⟩
      · go_wp2_with fail
        refine (R.out.out (by simp only; rw [HMX.out]; omega)).mono ?_
        rintro e w6 ⟨u, rfl, ou, mu, fu⟩
        have R1 := Lib.hid (R.out.then0 mu)
        have OU := Lib.hid ou
        clear R ou mu fu
        obtain ⟨au, cu, rfl, hcu⟩ := OU.out.rd.form
        have HU := Lib.hid (show (woutB 0 xs).length = mx from HMX.out)
        simp only [HU.out] at OU hcu ⊢
        have RB := Lib.hid (HX.out.keep R1.out.mods (fun _ _ x => x))
        have RT := Lib.hid (show Rd w6 (.slice a (n - m) c) xs from by
          have h := takeA RB.out HN.out (n - m) (by omega)
          rw [HB.out, List.take_append_of_le_length (by rw [HMX.out]; omega), List.take_of_length_le (by rw [HMX.out]; omega)] at h
          exact h)
        unfold maxLen at hcu
        have hmn : m ≤ n := by omega
        clear RB
        go_wp2_with (first | (go_at_call 29; refine (R1.out.left).mono ?_; simp only [HM.out]; rintro r w7 ⟨rfl, rfl⟩) | (go_at_call 17; refine (Bytes_true OU.out.rd RT.out).mono ?_; rintro r w7 ⟨rfl, m7⟩))
        go_ret
        exact ⟨rfl, (R1.out.mods.then0 m7).below⟩

theorem lifted (os : Os) (started : os.Started) (H : Type) (enc : TypeId × Value → H) :
    ReturnsInHanded {} Try.checked os 9 .any (Rows.encOneSpec.pre6 enc Try.prog Try.f9 Rows.encOneRow.domain false) (Rows.encOneSpec.post enc Try.prog Try.f9 false true false false) := by
  refine returnsInHanded_of_change_sized (C := Try.checked) own started (by kernel_rfl) Try.func9
    (ChangeSpec.witness6 (enc := enc) (C := Try.checked) false ⟨#[], #[.slice none 0 0, .slice none 0 0], []⟩ 8 (by kernel_rfl) (by kernel_rfl) (by kernel_rfl) (by kernel_rfl)) ?_
  intro W base args ds gs before hval0 hW hcnd hsz _
  have hval : ∀ (j : Nat) t v, Try.f9.params[j]? = some t → args[j]? = some v → Value.okWide Try.prog W .any base t v := hval0
  have hW' := hW
  obtain ⟨p, q, hA0, hV, rfl, hfz, hnd⟩ := hW
  have hA : DataW.TrodAll enc Try.prog W 0 (fun _ => true) true Try.f9.params.toList args.toList ds p := hA0
  replace hsz : (DataW.weightsEach Try.prog (Try.f9.params.toList ++ Rows.encOneSpec.plain.varTypes Try.prog) (ds ++ gs)).all (· ≤ reachBytes) = true := hsz
  rw [Try.params9] at hA hval hsz
  obtain ⟨v0, vs0, d0, ds0, p0, q0, hargs, rfl, rfl, h0, r0⟩ := trodAll_cons hA
  obtain ⟨v1, vs1, d1, ds1, p1, q1, rfl, rfl, rfl, h1, r1⟩ := trodAll_cons r0
  obtain ⟨rfl, rfl, rfl⟩ := trodAll_nil r1
  obtain rfl : args = #[v0, v1] := by cases args; simp_all
  obtain ⟨rfl, rfl⟩ := trodVars_none hV
  have sz : ∀ (j : Nat) t (d : DataW H), ([32, 49] ++ Rows.encOneSpec.plain.varTypes Try.prog)[j]? = some t → ([d0, d1] ++ ([] : List (DataW H)))[j]? = some d → ∀ q ∈ d.weights Try.prog t, q ≤ reachBytes := by
    intro j t d ht hd q hq
    have := List.all_eq_true.1 hsz q (DataW.weights_mem_each ht hd q hq)
    simpa using this
  obtain ⟨ad0, ln0, cp0, rfl⟩ := okWide_slice Try.underlying32 (hval 0 32 v0 rfl rfl)
  obtain ⟨x0, k0⟩ := rd_of_arg (hval 0 32 _ rfl rfl) h0
  obtain ⟨x1, k1⟩ := steps_of_arg (hval 1 49 v1 rfl rfl) h1 (sz 1 _ d1 rfl rfl)
  have j0 := h0
  have j1 := h1
  have lt0 : ∀ x ∈ p0, x.block < W.heap.size := by obtain ⟨m, hm⟩ := j0; exact DataW.trod_lt m _ _ _ hm
  have lt1 : ∀ x ∈ p1, x.block < W.heap.size := by obtain ⟨m, hm⟩ := j1; exact DataW.trod_lt m _ _ _ hm
  clear hA0 hval0
  refine (walk _ v1 x0 x1 W k0 k1).mono fun e W' ⟨he, bel⟩ => ?_
  subst he
  exact ⟨_, rfl, _, _, _, [], _, [], hW', trodAll_mk1 (shut_bool Try.underlying4 _), (trodAll_cons_mk (Below.trod laidOut (by kernel_rfl) (of_decide_eq_true (by kernel_rfl)) j0 bel lt0) (trodAll_cons_mk (Below.trod laidOut (by kernel_rfl) (of_decide_eq_true (by kernel_rfl)) j1 bel lt1) trodAll_mk0)), rfl, bel.frame _, fun h => by cases h⟩

theorem over : Rows.encOneRow.holds Try.pinned (OpenSpec.ofChange Rows.encOneSpec) :=
  OpenClaim.holds_of_wide 9 Try.f9 rfl rfl rfl rfl rfl rfl rfl ⟨rfl, rfl, rfl, rfl, rfl⟩ rfl rfl rfl rfl rfl (by kernel_rfl) Try.func9 (by kernel_rfl)
    (of_decide_eq_true (by kernel_rfl)) (by unfold Func.isWrapper; first | (rw [if_pos (by decide +kernel)]; kernel_rfl) | (rw [if_neg (by decide +kernel)]; exact ⟨rfl, rfl⟩))
    (fun os started H enc _ => lifted os started H enc)

theorem proved : Rows.EncOneSaid := over
#print axioms proved
end Go.Proofs.Ytebknplbghcemaa.encOne

/- EncReads: every script of a reader over all bytes: P4.2, P4.3. No conditions. -/
import Derived.Test.YtebknplbghcemaaRead2
import Derived.Test.YtebknplbghcemaaRStp
import Derived.Test.YtebknplbghcemaaHCopy
import Derived.Deep.RegionWith
import Derived.Test.YtebknplbghcemaaBar
namespace Go.Proofs.Ytebknplbghcemaa.encReads
open Go.Gl Go.RowKit Go.ChangeShapes Go.WideShapes Go.ChangeAt
set_option linter.unusedVariables false
set_option maxRecDepth 100000

theorem rstep_len (s : EStp) (p : ESt) : (rstep s p).1.length ≤ p.1.length := by
  unfold rstep
  split
  · exact (est_stops 1 p).2.2
  split
  · exact (est_stops 4 p).2.2
  split
  · exact (est_stops 8 p).2.2
  split
  · exact (bool_stops p).2.2
  split
  · exact (nat_stops p).2.2
  split
  · exact (nat_stops p).2.2
  split
  · exact (raw_stops _ p).2.2
  split
  · exact Nat.le_refl _
  · exact Nat.le_refl _

theorem R2.start {w w4 w5 w6 w8 w9 : World} {g : Nat} {v u1 u2 : Value} {bs : List UInt8} (m4 : Mods noB w w4) (o1 : Own w4 u1 bs) (f1 : freshIn w u1) (rr : Rr w5 g v bs 0) (m5 : Mods noB w4 w5) (hg : w4.heap.size ≤ g) (fv : freshIn w4 v) (o2 : Own w6 u2 bs) (m6 : Mods noB w5 w6) (f2 : freshIn w5 u2)
    (m8 : Mods noB (w6.alloc (.cells #[u2, .int .i64 0] 70)) w8) (m9 : Mods (ofV u1) w8 w9) : E2 w g w6.heap.size (bs, 0) (bs, 0) w9 := by
  have hu : ∀ k, ofV u1 k → k < w4.heap.size := fun k hk => o1.lt k hk
  have s45 := m5.size
  have s56 := m6.size
  have s04 := m4.size
  have hgl := rr.lt
  have M6 := (Mods.refl noB w6).alloc (.cells #[u2, .int .i64 0] 70)
  have r6 := ((rr.keep m6 (fun x => x) (fun _ _ x => x)).keep M6 (fun x => x) (fun _ _ x => x)).keep m8 (fun x => x) (fun _ _ x => x)
  have x7 : RR (w6.alloc (.cells #[u2, .int .i64 0] 70)) w6.heap.size u2 bs 0 := ⟨heap_new _ _, (o2.rd.alloc _), fun e => by have := o2.lt _ e; omega⟩
  have x8 := x7.keep m8 (fun x => x) (fun _ _ x => x)
  have msz := m9.size
  have m8s := m8.size
  simp at m8s
  refine ⟨v, u2, r6.keep m9 (fun x => by have := hu _ x; omega) (fun k hk x => by have := hu _ x; have := fv k hk; omega), x8.keep m9 (fun x => by have := hu _ x; omega) (fun k hk x => by have := hu _ x; have := f2 k hk; omega), fun k hk => ?_, ?_, by omega, by omega, by omega, fun e => ?_, fun e => ?_⟩
  · have := o2.lt k hk; omega
  · exact (((m4.then0 m5).then0 m6).then0 (M6.then0 m8)).trans m9 (fun _ _ x => x) (fun i hi x => by have := f1 i x; omega)
  · have := rr.blt _ e; omega
  · have := f2 _ e; omega

set_option maxHeartbeats 8000000 in
theorem walk (x y : Value) (bs : List UInt8) (l : List EStp) (w : World) (hx : Rd w x bs) (hy : RdSteps w y l) :
    Calls Try.prog 8 #[x, y] w fun e w' => e = .returned (.bool true) ∧ Below w.heap.size w w' := by
  obtain ⟨b, k, d, rfl, hk, hd1, hd2, _⟩ := hy.form
  obtain ⟨a, c, rfl, hnc, hcm, _⟩ := hx.at'
  obtain ⟨n, hn⟩ : ∃ n, bs.length = n := ⟨_, rfl⟩
  rw [hn] at hx hnc ⊢
  unfold maxLen at hcm
  have HX := Lib.hid hx
  have HY := Lib.hid hy
  have HN := Lib.hid hn
  have HK := Lib.hid hk
  clear hx hy hn hk
  go_enter Try.func8, Try.ntmps8
  go_wp2_with fail
  refine (eknown_any _).mono ?_
  rintro e w1 ⟨rfl, m1⟩
  have M1 := Lib.hid m1
  clear m1
  go_wp2_with fail
  refine (light_any (HY.out.keep M1.out)).mono ?_
  rintro e w2 ⟨rfl, q2⟩
  have M2 := Lib.hid (M1.out.then0 (q2.mods noB))
  clear q2 M1
  cases hL : lightB l with
  | false =>
    go_wp2_with fail
    go_ret
    exact ⟨rfl, M2.out.below⟩
  | true =>
    clear hL
    by_cases h3 : 3000 < n
    · go_wp2_with fail
      go_ret
      exact ⟨rfl, M2.out.below⟩
    go_wp2_with fail
    refine (CopyBytes_any (HX.out.keep M2.out (fun _ _ x => x)) (by rw [HN.out]; omega)).mono ?_
    rintro e w4 ⟨u1, rfl, o1, m4, f4⟩
    obtain ⟨a1, c1, rfl, _⟩ := o1.rd.form
    rw [HN.out] at o1 f4 ⊢
    have M4 := Lib.hid (M2.out.then0 m4)
    have O1 := Lib.hid o1
    have F4 := Lib.hid (f4.of M2.out.size)
    clear m4 o1 f4 M2
    go_wp2_with fail
    refine (NewReader_any O1.out.rd (by rw [HN.out]; omega)).mono ?_
    rintro e w5 ⟨g, v, rfl, r1, r2, r3, r4⟩
    have R5 := Lib.hid (And.intro r1 (And.intro r2 (And.intro r3 r4)))
    clear r1 r2 r3 r4
    go_wp2_with fail
    refine (CopyBytes_any (HX.out.keep (M4.out.then0 R5.out.2.1) (fun _ _ x => x)) (by rw [HN.out]; omega)).mono ?_
    rintro e w6 ⟨u2, rfl, o2, m6, f6⟩
    obtain ⟨a2, c2, rfl, _⟩ := o2.rd.form
    rw [HN.out] at o2 f6 ⊢
    have O2 := Lib.hid (And.intro o2 (And.intro m6 f6))
    clear o2 m6 f6
    go_wp2_with fail
    have M7 := Lib.hid (R5.out.2.1.then0 (O2.out.2.1.then0 ((Mods.refl noB w6).alloc (.cells #[.slice a2 n c2, .int .i64 0] 70))))
    refine (Bytes_true (O1.out.rd.keep M7.out (fun _ _ x => x)) (HX.out.keep (M4.out.then0 M7.out) (fun _ _ x => x))).mono ?_
    rintro e w8 ⟨rfl, m8⟩
    have M8 := Lib.hid m8
    clear m8
    go_wp2_with fail
    refine (Spoil_any (O1.out.keep (M7.out.then0 M8.out) (fun _ _ x => x))).mono ?_
    rintro e w9 ⟨rfl, m9⟩
    have K := Lib.hid (R2.start M4.out O1.out F4.out R5.out.1 R5.out.2.1 R5.out.2.2.1 R5.out.2.2.2 O2.out.1 O2.out.2.1 O2.out.2.2 M8.out m9)
    clear m9 M8 M7 O2 R5 O1 F4 M4
    generalize w6.heap.size = gx at *
    go_wp2
    go_loopw [8] (fun i wr => ∃ (j : Nat), i = .int .i64 j ∧ j ≤ k ∧ Hid (∃ p : ESt, p.1.length ≤ 3000 ∧ E2 w g gx p p wr)) (fun i _ => k - (intOf i).toNat)
    case atStart => exact ⟨0, rfl, by omega, Lib.hid ⟨(bs, 0), by simp only; rw [HN.out]; omega, K.out⟩⟩
    case round =>
      clear K
      obtain ⟨j, rfl, hj, hR⟩ := hrel
      obtain ⟨p, hp, hr⟩ := hR.out
      have R := Lib.hid hr
      have HP := Lib.hid hp
      clear hR hr hp
      by_cases h1 : j < k
      · obtain ⟨gs, off, jl, rfl, at1, c0, c1, c2, c3, c4⟩ := HY.out.get R.out.mods h1
        obtain ⟨p2, hp2⟩ : ∃ p2, rstep l[j] p = p2 := ⟨_, rfl⟩
        have hlen : p2.1.length ≤ 3000 := by rw [← hp2]; exact Nat.le_trans (rstep_len l[j] p) HP.out
        have HC := Lib.hid (fun (wy : World) (hq : Quiet wr wy) => show Calls Try.prog 28 #[.pointer (some ⟨g, 0, none⟩), .pointer (some ⟨gx, 0, none⟩), l[j].val] wy (fun r w' => r = .returned (.bool true) ∧ E2 w g gx p2 p2 w') from by
          rw [← hp2]
          exact read_any (R.out.then0 (hq.mods noB)) at1 HP.out)
        obtain ⟨zs, ez⟩ := p2
        simp only at hlen
        obtain ⟨m, hm⟩ : ∃ m, zs.length = m := ⟨_, rfl⟩
        rw [hm] at hlen
        have HM := Lib.hid hm
        have HLF := Lib.hid (fun (w7 wy : World) (h : E2 w g gx (zs, ez) (zs, ez) w7) (hq : Quiet w7 wy) => show Calls Try.prog 29 #[.pointer (some ⟨g, 0, none⟩)] wy (fun r w' => r = .returned (.int .i64 m) ∧ w' = wy) from by
          rw [← hm]
          exact (h.then0 (hq.mods noB)).left)
        have HEF := Lib.hid (fun (w7 wy : World) (h : E2 w g gx (zs, ez) (zs, ez) w7) (hq : Quiet w7 wy) => show Calls Try.prog 30 #[.pointer (some ⟨g, 0, none⟩)] wy (fun r w' => r = .returned (.int .i64 ez) ∧ w' = wy) from (h.then0 (hq.mods noB)).err)
        have jb1 : (0 : Int) ≤ (j : Int) := by omega
        have jb2 : (j : Int) < (k : Int) := by omega
        clear hp2 hm at1 HP R
        go_wp2
        refine wp_region_bar 6 (by kernel_rfl) (by kernel_rfl) ?_
        simp only [List.take_succ_cons, List.take_zero, List.drop_succ_cons, List.drop_zero]
        repeat (quiet_step (fail))
        refine wpQuiet_nil ?_
        intro w6' hq6
        obtain ⟨q6, hq6⟩ := hq6
        subst hq6
        refine wpOp_bar (by rfl) ?_
        go_wp2_with (go_at_call 28; refine (HC.out _ ?_).mono ?_; (next => (repeat' (first | exact Quiet.refl _ | refine Quiet.more1 ?_ | refine Quiet.more ?_))); rintro r w7 ⟨rfl, hr7⟩; have R7 := Lib.hid hr7; obtain ⟨v7, x7, hr7⟩ := hr7; obtain ⟨ax7, cx7, rfl, _⟩ := hr7.rx.rd.form; have d0 := cells_of hr7.rx.heap 0; have d1 := cells_of hr7.rx.heap 1; simp only [HM.out] at d0 d1; clear hr7)
        refine bar_normal ?_
        clear c0 c1 c2 c3 c4
        repeat (quiet_step ((first
          | (go_at_call 29; exact Calls.quiet_of_same (HLF.out _ _ R7.out ⟨_, rfl⟩))
          | (go_at_call 30; exact Calls.quiet_of_same (HEF.out _ _ R7.out ⟨_, rfl⟩)))))
        refine wpQuiet_nil ?_
        intro w8 hq8
        obtain ⟨q8, hq8⟩ := hq8
        subst hq8
        go_wp2
        go_roundw
        case rel => exact ⟨j + 1, by go_num, by omega, Lib.hid ⟨(zs, ez), by simp only; rw [HM.out]; omega, R7.out.then0 ((Mods.refl noB w7).drewN q8)⟩⟩
        case measure => simp [intOf]; omega
      · go_wp2_with fail
        go_ret
        exact ⟨rfl, R.out.mods.below⟩

theorem lifted (os : Os) (started : os.Started) (H : Type) (enc : TypeId × Value → H) :
    ReturnsInHanded {} Try.checked os 8 .any (Rows.encReadsSpec.pre6 enc Try.prog Try.f8 Rows.encReadsRow.domain false) (Rows.encReadsSpec.post enc Try.prog Try.f8 false true false false) := by
  refine returnsInHanded_of_change_sized (C := Try.checked) own started (by kernel_rfl) Try.func8
    (ChangeSpec.witness6 (enc := enc) (C := Try.checked) false ⟨#[], #[.slice none 0 0, .slice none 0 0], []⟩ 8 (by kernel_rfl) (by kernel_rfl) (by kernel_rfl) (by kernel_rfl)) ?_
  intro W base args ds gs before hval0 hW hcnd hsz _
  have hval : ∀ (j : Nat) t v, Try.f8.params[j]? = some t → args[j]? = some v → Value.okWide Try.prog W .any base t v := hval0
  have hW' := hW
  obtain ⟨p, q, hA0, hV, rfl, hfz, hnd⟩ := hW
  have hA : DataW.TrodAll enc Try.prog W 0 (fun _ => true) true Try.f8.params.toList args.toList ds p := hA0
  replace hsz : (DataW.weightsEach Try.prog (Try.f8.params.toList ++ Rows.encReadsSpec.plain.varTypes Try.prog) (ds ++ gs)).all (· ≤ reachBytes) = true := hsz
  rw [Try.params8] at hA hval hsz
  obtain ⟨v0, vs0, d0, ds0, p0, q0, hargs, rfl, rfl, h0, r0⟩ := trodAll_cons hA
  obtain ⟨v1, vs1, d1, ds1, p1, q1, rfl, rfl, rfl, h1, r1⟩ := trodAll_cons r0
  obtain ⟨rfl, rfl, rfl⟩ := trodAll_nil r1
  obtain rfl : args = #[v0, v1] := by cases args; simp_all
  obtain ⟨rfl, rfl⟩ := trodVars_none hV
  have sz : ∀ (j : Nat) t (d : DataW H), ([32, 49] ++ Rows.encReadsSpec.plain.varTypes Try.prog)[j]? = some t → ([d0, d1] ++ ([] : List (DataW H)))[j]? = some d → ∀ q ∈ d.weights Try.prog t, q ≤ reachBytes := by
    intro j t d ht hd q hq
    have := List.all_eq_true.1 hsz q (DataW.weights_mem_each ht hd q hq)
    simpa using this
  obtain ⟨ad0, ln0, cp0, rfl⟩ := okWide_slice Try.underlying32 (hval 0 32 v0 rfl rfl)
  obtain ⟨x0, k0⟩ := rd_of_arg (hval 0 32 _ rfl rfl) h0
  obtain ⟨x1, k1⟩ := steps_of_arg (hval 1 49 v1 rfl rfl) h1 (sz 1 _ d1 rfl rfl)
  have j0 := h0
  have j1 := h1
  have lt0 : ∀ x ∈ p0, x.block < W.heap.size := by obtain ⟨m, hm⟩ := j0; exact DataW.trod_lt m _ _ _ hm
  have lt1 : ∀ x ∈ p1, x.block < W.heap.size := by obtain ⟨m, hm⟩ := j1; exact DataW.trod_lt m _ _ _ hm
  clear hA0 hval0
  refine (walk _ v1 x0 x1 W k0 k1).mono fun e W' ⟨he, bel⟩ => ?_
  subst he
  exact ⟨_, rfl, _, _, _, [], _, [], hW', trodAll_mk1 (shut_bool Try.underlying4 _), (trodAll_cons_mk (Below.trod laidOut (by kernel_rfl) (of_decide_eq_true (by kernel_rfl)) j0 bel lt0) (trodAll_cons_mk (Below.trod laidOut (by kernel_rfl) (of_decide_eq_true (by kernel_rfl)) j1 bel lt1) trodAll_mk0)), rfl, bel.frame _, fun h => by cases h⟩

theorem over : Rows.encReadsRow.holds Try.pinned (OpenSpec.ofChange Rows.encReadsSpec) :=
  OpenClaim.holds_of_wide 8 Try.f8 rfl rfl rfl rfl rfl rfl rfl ⟨rfl, rfl, rfl, rfl, rfl⟩ rfl rfl rfl rfl rfl (by kernel_rfl) Try.func8 (by kernel_rfl)
    (of_decide_eq_true (by kernel_rfl)) (by unfold Func.isWrapper; first | (rw [if_pos (by decide +kernel)]; kernel_rfl) | (rw [if_neg (by decide +kernel)]; exact ⟨rfl, rfl⟩))
    (fun os started H enc _ => lifted os started H enc)

theorem proved : Rows.EncReadsSaid := over
#print axioms proved
end Go.Proofs.Ytebknplbghcemaa.encReads

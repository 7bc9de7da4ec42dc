/- EncWrites: every script of a writer: its bytes, its first error: P4.1. No conditions. -/
import Derived.Test.YtebknplbghcemaaLay
import Derived.Test.YtebknplbghcemaaEKnown2
import Derived.Test.YtebknplbghcemaaHSpoil
namespace Go.Proofs.Ytebknplbghcemaa.encWrites
open Go.Gl Go.RowKit Go.ChangeShapes Go.WideShapes Go.ChangeAt
set_option linter.unusedVariables false
set_option maxRecDepth 100000

/-- a writer, and the reference's bytes beside it -/
def EX (w : World) (gw : Nat) (p : WSt) (u : Value) (xs : List UInt8) (wr : World) : Prop := ∃ v, WB w gw v p wr ∧ Mods noB w wr ∧ Own wr u xs ∧ freshIn w u ∧ ∀ k, WS gw v k → u.ownBlock ≠ some k

section
variable {w wr : World} {gw : Nat} {p : WSt} {u : Value} {xs : List UInt8}
theorem EX.write (h : EX w gw p u xs wr) {s : EStp} (hs : s.At w) (hl : p.1.length ≤ 100000000) (hb : s.b.length ≤ 3000 ∧ s.nat.length ≤ 3000) :
    Calls Try.prog 23 #[.pointer (some ⟨gw, 0, none⟩), s.val] wr fun r w' => r = .returned (.tuple #[]) ∧ EX w gw (wstep s p) u xs w' := by
  obtain ⟨v, h1, h2, h3, h4, h5⟩ := h
  refine (h1.write h2 hs hl hb).mono ?_
  rintro r w' ⟨hr, v', k⟩
  refine ⟨hr, v', h1.step k h2.size, h1.mods k h2, h3.keep k.mods (fun i hi x => h5 i x hi), h4, fun i hi e => ?_⟩
  rcases hi with hi | hi
  · exact h5 i (.inl hi) e
  · rcases k.blk with hb | hb
    · exact h5 i (.inr (hb ▸ hi)) e
    · have := hb i hi
      have := h3.lt i e
      omega
theorem EX.lay (h : EX w gw p u xs wr) {s : EStp} (hs : s.At w) (hl : xs.length ≤ 1000000000) (hb : s.b.length ≤ 3000 ∧ s.nat.length ≤ 3000) :
    Calls Try.prog 24 #[u, s.val] wr fun r w' => ∃ u', r = .returned (.tuple #[u', .bool (!s.long)]) ∧ EX w gw p u' (layX s xs) w' := by
  obtain ⟨v, h1, h2, h3, h4, h5⟩ := h
  refine (lay_any h3 (hs.keep h2) ?_ hl hb.2 hb.1).mono ?_
  · by_cases hb0 : s.b = []
    · exact .inl hb0
    · refine .inr (fun k _ hk e => ?_)
      have := hs.b.ltn (fun h0 => hb0 (List.eq_nil_of_length_eq_zero h0)) k hk
      have := h4 k e
      omega
  · rintro r w' ⟨u', hr, k⟩
    have hk : ∀ i, WS gw v i → ¬ ofV u i := fun i hi x => h5 i hi x
    refine ⟨u', hr, v, ⟨⟨k.mods.heap h1.wr.heap (hk gw (.inl rfl)), h1.wr.own.keep k.mods (fun i hi => hk i (.inr hi)), h1.wr.apart⟩, h1.new⟩, h2.trans k.mods (fun _ _ x => x) (fun i hi x => absurd hi (Nat.not_lt.2 (h4 i x))), k.own, k.fresh h2.size h4, fun i hi e => ?_⟩
    rcases k.blk with hb | hb
    · exact h5 i hi (hb ▸ e)
    · have := hb i e
      have := h1.wr.below hi
      omega
theorem EX.out (h : EX w gw p u xs wr) (hl : p.1.length ≤ 100000000) : Calls Try.prog 25 #[.pointer (some ⟨gw, 0, none⟩)] wr (OutRes wr p.1 p.2) := by
  obtain ⟨v, h1, h2, h3, h4, h5⟩ := h
  exact WOut_any h1.wr (by omega)
theorem EX.then0 {wy : World} (h : EX w gw p u xs wr) (hm : Mods noB wr wy) : EX w gw p u xs wy := by
  obtain ⟨v, h1, h2, h3, h4, h5⟩ := h
  exact ⟨v, h1.then0 hm, h2.then0 hm, h3.keep hm (fun _ _ x => x), h4, h5⟩
theorem EX.spoil {wy wz : World} {b : Value} (h : EX w gw p u xs wr) (hm : Mods noB wr wy) (hf : freshIn wr b) (hs : Mods (ofV b) wy wz) : EX w gw p u xs wz :=
  h.then0 (hm.trans hs (fun _ _ x => x) (fun i hi x => absurd hi (Nat.not_lt.2 (hf i x))))
end

/-- how the reference stands behind j steps -/
def okB (l : List EStp) (j : Nat) : Bool := !(l.take j).any EStp.long
theorem okB_next {l : List EStp} {j : Nat} (hj : j < l.length) : okB l (j + 1) = (okB l j && !l[j].long) := by
  unfold okB
  rw [List.take_succ_eq_append_getElem hj, List.any_append]
  simp
theorem run_ok {l : List EStp} {j : Nat} (h : okB l j = true) : wrun ([], 0) (l.take j) = ((l.take j).flatMap EStp.lay, 0) := by
  rcases wrun_is (l.take j) [] with ⟨_, h2⟩ | ⟨h1, _⟩
  · simpa using h2
  · unfold okB at h
    rw [h1] at h
    cases h
theorem run_bad {l : List EStp} {j : Nat} (h : okB l j = false) : (wrun ([], 0) (l.take j)).2 = 42 := by
  rcases wrun_is (l.take j) [] with ⟨h1, _⟩ | ⟨_, h2⟩
  · unfold okB at h
    rw [h1] at h
    cases h
  · exact h2
theorem lay_next {l : List EStp} {j : Nat} (hj : j < l.length) (h : l[j].long = false) : layX l[j] ((l.take j).flatMap EStp.lay) = (l.take (j + 1)).flatMap EStp.lay := by
  unfold layX
  rw [h, List.take_succ_eq_append_getElem hj, List.flatMap_append]
  simp

set_option maxHeartbeats 8000000 in
theorem walk (y : Value) (l : List EStp) (w : World) (hy : RdSteps w y l) :
    Calls Try.prog 6 #[y] w fun e w' => e = .returned (.bool true) ∧ Below w.heap.size w w' := by
  obtain ⟨b, k, d, rfl, hk, hd1, hd2, _⟩ := hy.form
  have HY := Lib.hid hy
  have HK := Lib.hid hk
  clear hy hk
  go_enter Try.func6, Try.ntmps6
  go_wp2_with fail
  refine (eknown_any _).mono ?_
  rintro e w1 ⟨rfl, m1⟩
  have M1 := Lib.hid m1
  clear m1
  go_wp2_with fail
  refine (light_any (HY.out.keep M1.out)).mono ?_
  rintro e w2 ⟨rfl, q2⟩
  have M2 := Lib.hid (M1.out.then0 (q2.mods noB))
  clear q2 M1
  cases hL : lightB l with
  | false =>
    go_wp2_with fail
    go_ret
    exact ⟨rfl, M2.out.below⟩
  | true =>
    have LL := Lib.hid (light_len hL)
    have PL := Lib.hid (light_parts hL)
    clear hL
    have W0 := Lib.hid (show EX w w2.heap.size ([], 0) (.slice none 0 0) [] (w2.alloc (.cells #[.slice none 0 0, .int .i64 0] 54)) from
      ⟨_, WB.start M2.out, M2.out.alloc _, Own.nil _, freshIn.nil _, fun i _ e => by simp [Value.ownBlock] at e⟩)
    clear M2
    go_wp2
    generalize World.alloc w2 _ = w4 at *
    generalize w2.heap.size = gw at *
    go_loopw [4, 5, 6] (fun u o i wr => ∃ (j : Nat) (ob : Bool), i = .int .i64 j ∧ o = .bool ob ∧ j ≤ k ∧ Hid (okB l j = ob ∧ ∃ xs, EX w gw (wrun ([], 0) (l.take j)) u xs wr ∧ (okB l j = true → xs = (l.take j).flatMap EStp.lay))) (fun _ _ i _ => k - (intOf i).toNat)
    case atStart => exact ⟨0, true, rfl, rfl, by omega, Lib.hid ⟨rfl, [], W0.out, fun _ => rfl⟩⟩
    case round =>
      clear W0
      obtain ⟨j, ob, rfl, rfl, hj, hR⟩ := hrel
      obtain ⟨hob, xs, hx, hxs⟩ := hR.out
      have HO := Lib.hid hob
      have HXS := Lib.hid hxs
      have R := Lib.hid hx
      clear hR hx hxs hob
      by_cases h1 : j < k
      · obtain ⟨g, off, jl, rfl, at1, c0, c1, c2, c3, c4⟩ := HY.out.get (show Mods noB w wr from by obtain ⟨_, _, h2, _⟩ := R.out; exact h2) h1
        have AT := Lib.hid at1
        have JL := Lib.hid jl
        have PJ := Lib.hid (PL.out.2 j jl)
        have N1 := Lib.hid (okB_next jl)
        clear at1
        go_wp2_with fail
        refine (R.out.write AT.out (by have := LL.out j ([], 0); simp only [List.length_nil] at this; omega) PJ.out).mono ?_
        rintro e w5 ⟨rfl, hr⟩
        rw [← wrun_take _ _ _ JL.out] at hr
        have R5 := Lib.hid hr
        have hlen := LL.out (j + 1) ([], 0)
        simp only [List.length_nil] at hlen
        clear hr R c0 c1 c2 c3 c4
        obtain ⟨_, _, _, hgo, _, c0, c1, c2, c3, c4⟩ := HY.out.get (show Mods noB w w5 from by obtain ⟨_, _, h2, _⟩ := R5.out; exact h2) h1
        cases hgo
        cases ob with
        | false =>
          have hb2 : okB l (j + 1) = false := by rw [N1.out, HO.out]; rfl
          have HB2 := Lib.hid hb2
          have HE := Lib.hid (run_bad hb2)
          clear hb2
          generalize hp : wrun ([], 0) (l.take (j + 1)) = P at *
          obtain ⟨ps, pe⟩ := P
          have HP := Lib.hid hp
          have he := HE.out
          simp only at he hlen
          subst he
          clear hp HE
          go_wp2_with fail
          refine (R5.out.out (by simp only; omega)).mono ?_
          rintro e w6 ⟨ub, rfl, ou, mu, fu⟩
          have OU := Lib.hid ou
          have hz : (woutB 42 ps).length = 0 := rfl
          obtain ⟨au, cu, rfl, _⟩ := ou.rd.form
          have MU := Lib.hid mu
          have FU := Lib.hid fu
          simp only [hz] at OU FU ⊢
          clear ou mu fu hz
          go_wp2_with fail
          refine (Spoil_any OU.out).mono ?_
          rintro e w7 ⟨rfl, ms⟩
          have R7 := Lib.hid (R5.out.spoil MU.out FU.out ms)
          clear ms R5 MU FU OU
          go_wp2
          go_roundw
          case rel => exact ⟨j + 1, false, by go_num, rfl, by omega, Lib.hid ⟨HB2.out, xs, by rw [HP.out]; exact R7.out, fun h => by rw [HB2.out] at h; cases h⟩⟩
          case measure => simp [intOf]; omega
        | true =>
          have hx2 := HXS.out HO.out
          subst hx2
          have hxl : ((l.take j).flatMap EStp.lay).length ≤ 12000000 := by
            have := LL.out j ([], 0)
            rw [run_ok HO.out] at this
            simpa using this
          go_wp2_with fail
          refine (R5.out.lay AT.out (by omega) PJ.out).mono ?_
          rintro e w6 ⟨u6, rfl, hr⟩
          have R6 := Lib.hid hr
          clear hr R5 hxl
          cases hlo : l[j].long with
          | true =>
            have hb2 : okB l (j + 1) = false := by rw [N1.out, HO.out, hlo]; rfl
            have HB2 := Lib.hid hb2
            have HE := Lib.hid (run_bad hb2)
            clear hb2 hlo
            generalize hp : wrun ([], 0) (l.take (j + 1)) = P at *
            obtain ⟨ps, pe⟩ := P
            have HP := Lib.hid hp
            have he := HE.out
            simp only at he hlen
            subst he
            clear hp HE
            go_wp2_with fail
            refine (R6.out.out (by simp only; omega)).mono ?_
            rintro e w7 ⟨ub, rfl, ou, mu, fu⟩
            have OU := Lib.hid ou
            have hz : (woutB 42 ps).length = 0 := rfl
            obtain ⟨au, cu, rfl, _⟩ := ou.rd.form
            have MU := Lib.hid mu
            have FU := Lib.hid fu
            simp only [hz] at OU FU ⊢
            clear ou mu fu hz
            go_wp2_with fail
            refine (Spoil_any OU.out).mono ?_
            rintro e w8 ⟨rfl, ms⟩
            have R8 := Lib.hid (R6.out.spoil MU.out FU.out ms)
            clear ms R6 MU FU OU
            go_wp2
            go_roundw
            case rel => exact ⟨j + 1, false, by go_num, rfl, by omega, Lib.hid ⟨HB2.out, _, by rw [HP.out]; exact R8.out, fun h => by rw [HB2.out] at h; cases h⟩⟩
            case measure => simp [intOf]; omega
          | false =>
            have hb2 : okB l (j + 1) = true := by rw [N1.out, HO.out, hlo]; rfl
            have HB2 := Lib.hid hb2
            have hr6 := R6.out
            rw [lay_next JL.out hlo, run_ok hb2] at hr6
            rw [run_ok hb2] at hlen
            have HP := Lib.hid (run_ok hb2)
            clear hb2 hlo R6
            simp only at hlen
            obtain ⟨n, hn⟩ : ∃ n, ((l.take (j + 1)).flatMap EStp.lay).length = n := ⟨_, rfl⟩
            have HN := Lib.hid hn
            rw [hn] at hlen
            have R6 := Lib.hid hr6
            clear hr6 hn
            go_wp2_with fail
            refine (R6.out.out (by simp only; rw [HN.out]; omega)).mono ?_
            rintro e w7 ⟨ub, rfl, ou, mu, fu⟩
            have OU := Lib.hid (show Own w7 ub ((l.take (j + 1)).flatMap EStp.lay) from ou)
            obtain ⟨au, cu, rfl, _⟩ := OU.out.rd.form
            have MU := Lib.hid mu
            have FU := Lib.hid fu
            simp only [HN.out] at OU FU ⊢
            clear ou mu fu
            have RW := Lib.hid (show Rd w7 u6 ((l.take (j + 1)).flatMap EStp.lay) from by obtain ⟨_, _, _, h3, _⟩ := R6.out.then0 MU.out; exact h3.rd)
            go_wp2_with (go_at_call 17; refine (Bytes_true OU.out.rd RW.out).mono ?_; rintro e w8 ⟨rfl, m8⟩)
            have R8 := Lib.hid (R6.out.then0 (MU.out.then0 m8))
            refine (Spoil_any (OU.out.keep m8 (fun _ _ x => x))).mono ?_
            rintro e w9 ⟨rfl, ms⟩
            have R9 := Lib.hid (R6.out.spoil (MU.out.then0 m8) FU.out ms)
            clear ms m8 R6 R8 MU FU OU RW
            go_wp2
            go_roundw
            case rel => exact ⟨j + 1, true, by go_num, rfl, by omega, Lib.hid ⟨HB2.out, _, by rw [HP.out]; exact R9.out, fun _ => rfl⟩⟩
            case measure => simp [intOf]; omega
      · have M := Lib.hid (show Mods noB w wr from by obtain ⟨_, _, h2, _⟩ := R.out; exact h2)
        go_wp2_with fail
        go_ret
        exact ⟨rfl, M.out.below⟩

theorem lifted (os : Os) (started : os.Started) (H : Type) (enc : TypeId × Value → H) :
    ReturnsInHanded {} Try.checked os 6 .any (Rows.encWritesSpec.pre6 enc Try.prog Try.f6 Rows.encWritesRow.domain false) (Rows.encWritesSpec.post enc Try.prog Try.f6 false true false false) := by
  refine returnsInHanded_of_change_sized (C := Try.checked) own started (by kernel_rfl) Try.func6
    (ChangeSpec.witness6 (enc := enc) (C := Try.checked) false ⟨#[], #[.slice none 0 0], []⟩ 8 (by kernel_rfl) (by kernel_rfl) (by kernel_rfl) (by kernel_rfl)) ?_
  intro W base args ds gs before hval0 hW hcnd hsz _
  have hval : ∀ (j : Nat) t v, Try.f6.params[j]? = some t → args[j]? = some v → Value.okWide Try.prog W .any base t v := hval0
  have hW' := hW
  obtain ⟨p, q, hA0, hV, rfl, hfz, hnd⟩ := hW
  have hA : DataW.TrodAll enc Try.prog W 0 (fun _ => true) true Try.f6.params.toList args.toList ds p := hA0
  replace hsz : (DataW.weightsEach Try.prog (Try.f6.params.toList ++ Rows.encWritesSpec.plain.varTypes Try.prog) (ds ++ gs)).all (· ≤ reachBytes) = true := hsz
  rw [Try.params6] at hA hval hsz
  obtain ⟨v0, vs0, d0, ds0, p0, q0, hargs, rfl, rfl, h0, r0⟩ := trodAll_cons hA
  obtain ⟨rfl, rfl, rfl⟩ := trodAll_nil r0
  obtain rfl : args = #[v0] := by cases args; simp_all
  obtain ⟨rfl, rfl⟩ := trodVars_none hV
  have sz : ∀ (j : Nat) t (d : DataW H), ([49] ++ Rows.encWritesSpec.plain.varTypes Try.prog)[j]? = some t → ([d0] ++ ([] : List (DataW H)))[j]? = some d → ∀ q ∈ d.weights Try.prog t, q ≤ reachBytes := by
    intro j t d ht hd q hq
    have := List.all_eq_true.1 hsz q (DataW.weights_mem_each ht hd q hq)
    simpa using this
  obtain ⟨x0, k0⟩ := steps_of_arg (hval 0 49 v0 rfl rfl) h0 (sz 0 _ d0 rfl rfl)
  have j0 := h0
  have lt0 : ∀ x ∈ p0, x.block < W.heap.size := by obtain ⟨m, hm⟩ := j0; exact DataW.trod_lt m _ _ _ hm
  clear hA0 hval0
  refine (walk v0 x0 W k0).mono fun e W' ⟨he, bel⟩ => ?_
  subst he
  exact ⟨_, rfl, _, _, _, [], _, [], hW', trodAll_mk1 (shut_bool Try.underlying4 _), (trodAll_cons_mk (Below.trod laidOut (by kernel_rfl) (of_decide_eq_true (by kernel_rfl)) j0 bel lt0) trodAll_mk0), rfl, bel.frame _, fun h => by cases h⟩

theorem over : Rows.encWritesRow.holds Try.pinned (OpenSpec.ofChange Rows.encWritesSpec) :=
  OpenClaim.holds_of_wide 6 Try.f6 rfl rfl rfl rfl rfl rfl rfl ⟨rfl, rfl, rfl, rfl, rfl⟩ rfl rfl rfl rfl rfl (by kernel_rfl) Try.func6 (by kernel_rfl)
    (of_decide_eq_true (by kernel_rfl)) (by unfold Func.isWrapper; first | (rw [if_pos (by decide +kernel)]; kernel_rfl) | (rw [if_neg (by decide +kernel)]; exact ⟨rfl, rfl⟩))
    (fun os started H enc _ => lifted os started H enc)

theorem proved : Rows.EncWritesSaid := over
#print axioms proved
end Go.Proofs.Ytebknplbghcemaa.encWrites

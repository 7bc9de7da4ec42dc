/- gleanref5.Map: find, Get. -/
import Derived.Test.YtjlomnhngngkiaaPgQm
import Derived.Test.YtjlomnhngngkiaaZA
import Derived.Test.YtjlomnhngngkiaaHCopy
import Derived.Deep.DeepCutAuto
import Derived.Deep.CutBlock
namespace Go.Proofs.Ytjlomnhngngkiaa
open Go.Gl Go.RowKit
set_option linter.unusedVariables false
set_option maxRecDepth 100000

theorem isAt_dif (es : List EV) (I : Nat) (ys : List UInt8) : isAt (ents es) I ys = if h : I < es.length then decide ((es[I]).k = ys) else false := by
  unfold isAt ents
  by_cases h : I < es.length
  · rw [dif_pos h]
    simp [h, EV.ent]
  · rw [dif_neg h, List.getElem?_eq_none (by simpa using h)]

/-- what a world above shows of the row of pages and of one page -/
structure QAt (w : World) (g b off n cap : Nat) (p : Nat) (pv : Value) : Prop where
  c0 : w.cell? ⟨g, 0, none⟩ = some (.slice (some ⟨b, off, none⟩) n cap)
  c1 : w.cell? ⟨b, off + p, none⟩ = some pv
theorem QM.at {w w' : World} {g b off n cap : Nat} {R : List PV} (h : QM w g (.slice (some ⟨b, off, none⟩) n cap) R) (m : Mods noB w w') {p : Nat} (hp : p < R.length) : QAt w' g b off n cap p (R[p]).pv := by
  have k := h.keep0 m
  refine ⟨cells_of k.hg 0, ?_⟩
  rcases k.open with ⟨h1, _⟩ | ⟨b', off', cap', hv, _, _, hc⟩
  · rw [h1] at hp; simp at hp
  · cases hv
    exact hc p hp

set_option maxHeartbeats 4000000 in
theorem rfind_any {w : World} {g : Nat} {vo q : Value} {R : List PV} {ys : List UInt8} (hm : QM w g vo R) (hq : Rd w q ys) (ok : PgOk (pgs R)) (hn : R.length ≤ 1000000) :
    Calls Try.prog 37 #[.pointer (some ⟨g, 0, none⟩), q] w fun e w' => e = .returned (.tuple #[.int .i64 ((findP (pgs R) ys).1 : Nat), .int .i64 ((findP (pgs R) ys).2.1 : Nat), .bool (findP (pgs R) ys).2.2]) ∧ Mods noB w w' := by
  obtain ⟨vo', cap, hvo, _⟩ := (OwnG.rd hm.row).form
  obtain ⟨aq, cq, hqv, _⟩ := hq.form
  subst hqv
  by_cases h0 : R = []
  · subst h0
    have c0 := cells_of hm.hg 0
    rw [hvo] at c0
    rw [show findP (pgs []) ys = (0, 0, false) from rfl]
    clear hm hq
    go_enter Try.func37, Try.ntmps37
    go_wp2
    go_loopw [7] (fun i wr => i = .int .i64 0 ∧ wr = w) (fun _ _ => 0)
    case atStart => exact ⟨rfl, rfl⟩
    case round =>
      obtain ⟨rfl, rfl⟩ := hrel
      go_wp2
      go_ret3
      exact ⟨rfl, Mods.refl _ _⟩
  · have hne : pgs R ≠ [] := fun h => h0 (by cases R with | nil => rfl | cons a b => simp [pgs] at h)
    have hlt := pgOf_lt hne ys
    have hok := ok.page hlt
    have hmost := ok.most _ (List.getElem_mem hlt)
    rw [findP_ne hne]
    have hb : ∀ i (hi : i < R.length), firstLe ys (ents (R[i]).es) = decide (i < tw (pgs R) ys) := fun i hi => by
      have := tw_spec ok.ris ok.ne ys i (by rw [pgs_length]; exact hi)
      simpa [pgs] using this
    have hP : pgOf (pgs R) ys = tw (pgs R) ys - 1 := pgOf_tw _ _
    have hnes : ∀ i (hi : i < R.length), (R[i]).es ≠ [] := fun i hi => by
      have := ok.ne (ents (R[i]).es) (List.mem_map_of_mem (f := fun p => ents p.es) (List.getElem_mem hi))
      intro h
      rw [h] at this
      exact this rfl
    generalize tw (pgs R) ys = T at *
    generalize pgOf (pgs R) ys = p at *
    have hlt' : p < R.length := by rw [← pgs_length]; exact hlt
    have hge : (pgs R).getD p [] = ents (R[p]).es := by simp [pgs, hlt']
    have hge2 : (pgs R)[p] = ents (R[p]).es := by simp [pgs]
    rw [hge]
    rw [hge2] at hok hmost
    rw [ents_length] at hmost
    have hbl : ∀ i (hi : i < (R[p]).es.length), lessB ((R[p]).es[i]).k ys = decide (i < plOf (ents (R[p]).es) ys) := fun i hi => by
      have := hok.below ys i (by rw [ents_length]; exact hi)
      simpa [ents, EV.ent] using this
    have hIle := plOf_le (ents (R[p]).es) ys
    have hat := isAt_dif (R[p]).es (plOf (ents (R[p]).es) ys) ys
    rw [ents_length] at hIle
    rcases hm.open with ⟨h1, _⟩ | ⟨b, off, cp, hv, k1, k2, hc⟩
    · exact absurd h1 h0
    subst hv
    obtain ⟨rfl, rfl⟩ : vo' = some ⟨b, off, none⟩ ∧ cap = cp := by simpa using hvo.symm
    clear hvo hc
    have HPT := Lib.hid hP
    clear hP
    have HM := Lib.hid hm
    have HQ := Lib.hid hq
    have HN := Lib.hid hnes
    have HB := Lib.hid hb
    obtain ⟨n, hN⟩ : ∃ n, R.length = n := ⟨_, rfl⟩
    have HL := Lib.hid hN
    have HBL := Lib.hid hbl
    have HAT := Lib.hid hat
    generalize plOf (ents (R[p]).es) ys = I at *
    generalize isAt (ents (R[p]).es) I ys = B at *
    have d0 := (cells_of hm.hg 0)
    obtain ⟨mm, hmm⟩ : ∃ m, (R[p]).es.length = m := ⟨_, rfl⟩
    have HMM := Lib.hid hmm
    replace hmost : mm ≤ 32 := by rw [← hmm]; exact hmost
    replace hIle : I ≤ mm := by rw [← hmm]; exact hIle
    rw [hN] at hn k1 d0
    have hpn : p < n := by rw [← hN]; exact hlt'
    clear hm hq hok hge hge2 hlt ok hnes hb hat hbl hne h0 hN hmm k2
    go_enter Try.func37, Try.ntmps37
    go_upto_block 0 with fail
    go_cut [7] (fun i wx => i = .int .i64 p ∧ Hid (Mods noB w wx))
    case first =>
      go_wp2
      go_loopw [7] (fun i wr => ∃ k : Nat, k ≤ p ∧ i = .int .i64 k ∧ Hid (Mods noB w wr)) (fun i _ => p - (intOf i).toNat)
      case atStart => exact ⟨0, Nat.zero_le _, rfl, Lib.hid (Mods.refl _ _)⟩
      case round =>
        obtain ⟨k, hk, rfl, hM⟩ := hrel
        clear d0
        have d0 : wr.cell? ⟨g, 0, none⟩ = some (.slice (some ⟨b, off, none⟩) n cap) := by
          have := (HM.out.at hM.out hlt').c0
          rw [HL.out] at this
          exact this
        obtain ⟨k', hk'⟩ : ∃ k', k + 1 = k' := ⟨_, rfl⟩
        have hkI : (k : Int) + 1 = (k' : Int) := by omega
        by_cases hin : k' < n
        · have lk : k' < R.length := by rw [HL.out]; exact hin
          have hkn : (k' : Int) < (n : Int) := by omega
          have d1 := (HM.out.at hM.out lk).c1
          have hfl := HB.out k' lk
          have hpg := (HM.out.keep0 hM.out).page (List.getElem_mem lk)
          have hne := HN.out k' lk
          generalize (R[k']).pv = pv at *
          generalize (R[k']).es = es at *
          cases es with
          | nil => exact absurd rfl hne
          | cons e es =>
          rcases hpg.open with ⟨h0, _⟩ | ⟨pb, po, pc, hv2, _, _, _, hc2⟩
          · simp at h0
          subst hv2
          obtain ⟨d2, _⟩ := hc2 0 (by simp)
          rw [Nat.zero_mul, Nat.add_zero, List.getElem_cons_zero] at d2
          have hek := (hpg.ents e (List.mem_cons_self ..)).k
          have hcl : (0 : Int) < ((e :: es).length : Int) := by rw [List.length_cons]; omega
          have C := Lib.hid (Less_any (HQ.out.keep hM.out (fun _ _ x => x)) hek)
          rw [show firstLe ys (ents (e :: es)) = !lessB ys e.k from rfl] at hfl
          obtain ⟨ak, ck, hak, _⟩ := hek.form
          rw [hak] at C d2
          clear hpg hne hc2 hek hak
          generalize lessB ys e.k = LB at *
          generalize (e :: es).length = m at *
          by_cases hkp : k < p
          · have hLB : LB = false := by
              have : k' < T := by have := HPT.out; omega
              rw [decide_eq_true this] at hfl
              simpa using hfl
            subst hLB
            clear hfl
            go_wp2_with (refine C.out.mono ?_; rintro e2 w2 ⟨rfl, q2⟩; have M2 := Lib.hid (hM.out.then0 (q2.mods _)); clear q2)
            go_roundw
            case rel => exact ⟨k + 1, by omega, by go_num, M2⟩
            case measure => simp [intOf]; omega
          · obtain rfl : k = p := by omega
            have hLB : LB = true := by
              have : ¬ k' < T := by have := HPT.out; omega
              rw [decide_eq_false this] at hfl
              simpa using hfl
            subst hLB
            clear hfl
            go_wp2_with (refine C.out.mono ?_; rintro e2 w2 ⟨rfl, q2⟩; have M2 := Lib.hid (hM.out.then0 (q2.mods _)); clear q2)
            go_meet
            exact ⟨rfl, M2⟩
        · obtain rfl : k = p := by omega
          go_wp2
          go_meet
          exact ⟨rfl, hM⟩
    case rest =>
      obtain ⟨rfl, hM⟩ := hcut
      clear d0
      have d0 := (HM.out.at hM.out hlt').c0
      rw [HL.out] at d0
      have hl0 : (0 : Int) < (n : Int) := by omega
      have hz : ((n : Int) == 0) = false := by simp; omega
      go_upto_block 2 with fail
      go_cut [8] (fun i wx => i = .int .i64 I ∧ Hid (Mods noB w wx))
      case first =>
        go_wp2
        go_loopw [8] (fun i wr => ∃ j : Nat, j ≤ I ∧ i = .int .i64 j ∧ Hid (Mods noB w wr)) (fun i _ => I - (intOf i).toNat)
        case atStart => exact ⟨0, Nat.zero_le _, rfl, hM⟩
        case round =>
          clear d0 hM
          obtain ⟨j, hj, rfl, hM⟩ := hrel
          have d0 := (HM.out.at hM.out hlt').c0
          have d1 := (HM.out.at hM.out hlt').c1
          rw [HL.out] at d0
          have hpk : (p : Int) < (n : Int) := by omega
          have hpg := (HM.out.keep0 hM.out).page (List.getElem_mem hlt')
          obtain ⟨ap, cp, hpv, _⟩ := hpg.row.form
          rw [HMM.out] at hpv
          by_cases hjm : j < mm
          · have lj : j < (R[p]).es.length := by rw [HMM.out]; exact hjm
            have hjI : (j : Int) < (mm : Int) := by omega
            rcases hpg.open with ⟨h0, _⟩ | ⟨pb, po, pc, hv, k3, k4, k5, hc2⟩
            · rw [h0] at lj; simp at lj
            rw [hv, HMM.out] at d1
            obtain ⟨d2, _⟩ := hc2 j lj
            have hek := (hpg.ents _ (List.getElem_mem lj)).k
            have hll := HBL.out j lj
            have C := Lib.hid (Less_any hek (HQ.out.keep hM.out (fun _ _ x => x)))
            rw [hll] at C
            obtain ⟨ak, ck, hak, _⟩ := hek.form
            rw [hak] at C d2
            clear hpg hc2 hek hak hll hpv k3 k4 k5 hv
            generalize ((R[p]).es[j]).k.length = lk at *
            by_cases hj2 : j < I
            · rw [decide_eq_true hj2] at C
              go_wp2_with (refine C.out.mono ?_; rintro e2 w2 ⟨rfl, q2⟩; have M2 := Lib.hid (hM.out.then0 (q2.mods _)); clear q2)
              go_roundw
              case rel => exact ⟨j + 1, by omega, by go_num, M2⟩
              case measure => simp [intOf]; omega
            · obtain rfl : j = I := by omega
              rw [decide_eq_false hj2] at C
              go_wp2_with (refine C.out.mono ?_; rintro e2 w2 ⟨rfl, q2⟩; have M2 := Lib.hid (hM.out.then0 (q2.mods _)); clear q2)
              go_meet
              exact ⟨rfl, M2⟩
          · obtain rfl : j = I := by omega
            rw [hpv] at d1
            clear hpg hpv
            go_wp2
            go_meet
            exact ⟨rfl, hM⟩
      case rest =>
        clear d0 hM
        obtain ⟨rfl, hM⟩ := hcut
        have d0 := (HM.out.at hM.out hlt').c0
        have d1 := (HM.out.at hM.out hlt').c1
        rw [HL.out] at d0
        have hpk : (p : Int) < (n : Int) := by omega
        have hpg := (HM.out.keep0 hM.out).page (List.getElem_mem hlt')
        obtain ⟨ap, cp, hpv, _⟩ := hpg.row.form
        rw [HMM.out] at hpv
        by_cases hjm : I < mm
        · have lj : I < (R[p]).es.length := by rw [HMM.out]; exact hjm
          have hjI : (I : Int) < (mm : Int) := by omega
          rcases hpg.open with ⟨h0, _⟩ | ⟨pb, po, pc, hv, k3, k4, k5, hc2⟩
          · rw [h0] at lj; simp at lj
          rw [hv, HMM.out] at d1
          obtain ⟨d2, _⟩ := hc2 I lj
          have hek := (hpg.ents _ (List.getElem_mem lj)).k
          have C := Lib.hid (Bytes_any hek (HQ.out.keep hM.out (fun _ _ x => x)))
          have hat := HAT.out
          rw [dif_pos lj] at hat
          rw [← hat] at C
          obtain ⟨ak, ck, hak, _⟩ := hek.form
          rw [hak] at C d2
          clear hpg hc2 hek hak hat hpv k3 k4 k5 hv
          generalize ((R[p]).es[I]).k.length = lk at *
          go_wp2_with (refine C.out.mono ?_; rintro e2 w2 ⟨rfl, q2⟩; have M2 := Lib.hid (hM.out.then0 (q2.mods _)); clear q2)
          go_ret3
          exact ⟨rfl, M2.out⟩
        · have hat := HAT.out
          rw [dif_neg (by rw [HMM.out]; exact hjm)] at hat
          have HB2 := Lib.hid hat
          rw [hpv] at d1
          clear hpg hpv hat
          go_wp2
          go_ret3
          exact ⟨by rw [HB2.out]; rfl, hM.out⟩

set_option maxHeartbeats 1000000 in
theorem rGet_any {w : World} {g : Nat} {vo q : Value} {R : List PV} {ys : List UInt8} (hm : QM w g vo R) (hq : Rd w q ys) (ok : PgOk (pgs R)) (hn : R.length ≤ 1000000) :
    Calls Try.prog 17 #[.pointer (some ⟨g, 0, none⟩), q] w fun e w' => ∃ v', e = .returned (.tuple #[v', .bool (getP (pgs R) ys).isSome]) ∧ Gl.Own w' v' ((getP (pgs R) ys).getD []) ∧ Mods noB w w' ∧ freshIn w v' := by
  have C := Lib.hid (rfind_any hm hq ok hn)
  have hfi := found_is (R := R) (ys := ys)
  obtain ⟨aq, cq, hqv, _⟩ := hq.form
  subst hqv
  have hg : getP (pgs R) ys = if (findP (pgs R) ys).2.2 then some ((((pgs R).getD (findP (pgs R) ys).1 []).getD (findP (pgs R) ys).2.1 ([], [])).2) else none := rfl
  generalize findP (pgs R) ys = F at *
  obtain ⟨p, i, B⟩ := F
  simp only at hfi hg C
  cases B with
  | false =>
    rw [hg]
    clear hm hq hfi hg
    go_enter Try.func17, Try.ntmps17
    go_wp2_with fail
    refine C.out.mono ?_
    rintro e w2 ⟨rfl, m2⟩
    go_wp2
    go_ret2
    exact ⟨_, rfl, Gl.Own.nil _, m2, by intro k hk; simp [Value.ownBlock] at hk⟩
  | true =>
    obtain ⟨hp, hi, hk⟩ := hfi rfl
    have hv : getP (pgs R) ys = some ((R[p]).es[i]).v := by rw [hg]; simp [pgs, ents, hp, hi, EV.ent]
    rw [hv]
    obtain ⟨vo', cap, hvo, _⟩ := (OwnG.rd hm.row).form
    rcases hm.open with ⟨h1, _⟩ | ⟨b, off, cp, hvv, k1, k2, hc⟩
    · rw [h1] at hp; simp at hp
    obtain ⟨rfl, rfl⟩ : vo' = some ⟨b, off, none⟩ ∧ cap = cp := by simpa using hvo.symm.trans hvv
    have HM := Lib.hid hm
    have HF := Lib.hid (fun (w' : World) (m : Mods noB w w') => show (w'.cell? ⟨g, 0, none⟩ = some (.slice (some ⟨b, off, none⟩) R.length cap) ∧ ∃ pb po pc, w'.cell? ⟨b, off + p, none⟩ = some (.slice (some ⟨pb, po, none⟩) (R[p]).es.length pc) ∧ w'.cell? ⟨pb, po + i * 2 + 1, none⟩ = some ((R[p]).es[i]).vv ∧ E1 w' ((R[p]).es[i])) from by
      have h := hm.keep0 m
      refine ⟨(cells_of h.hg 0).trans (congrArg some hvo), ?_⟩
      have hpg := h.page (List.getElem_mem hp)
      rcases hpg.open with ⟨h2, _⟩ | ⟨pb, po, pc, hv2, _, _, _, hc2⟩
      · rw [h2] at hi; simp at hi
      · refine ⟨pb, po, pc, ?_, (hc2 i hi).2, hpg.ents _ (List.getElem_mem hi)⟩
        rcases h.open with ⟨h1, _⟩ | ⟨b', off', cp', hv', _, _, hc'⟩
        · rw [h1] at hp; simp at hp
        · obtain ⟨⟨rfl, rfl⟩, _⟩ : (b = b' ∧ off = off') ∧ cap = cp' := by simpa using hvv.symm.trans hv'
          rw [← hv2]
          exact hc' p hp)
    generalize ((R[p]).es[i]) = ev at *
    have c0 := cells_of hm.hg 0
    clear hm hq hfi hg hv hvv hc hk hvo
    generalize (R[p]).es.length = m at *
    generalize R.length = n at *
    go_enter Try.func17, Try.ntmps17
    go_wp2_with fail
    refine C.out.mono ?_
    rintro e w2 ⟨rfl, m2⟩
    obtain ⟨d0, pb, po, pc, d1, d2, D⟩ := HF.out w2 m2
    obtain ⟨av, cv, hav, _⟩ := D.v.form
    rw [hav] at d2
    have OW := Lib.hid (CopyBytes_any D.v (by have := D.lv; omega))
    rw [hav] at OW
    clear c0 D hav
    go_wp2_with fail
    refine OW.out.mono ?_
    rintro e w3 ⟨v', rfl, o1, m3, f3⟩
    obtain ⟨a3, c3, rfl, _⟩ := o1.rd.form
    have O := Lib.hid (And.intro o1 (And.intro m3 f3))
    clear o1 m3 f3 d0 d1 d2
    go_wp2
    go_ret2
    exact ⟨_, rfl, O.out.1, m2.then0 O.out.2.1, O.out.2.2.of m2.size⟩


end Go.Proofs.Ytjlomnhngngkiaa

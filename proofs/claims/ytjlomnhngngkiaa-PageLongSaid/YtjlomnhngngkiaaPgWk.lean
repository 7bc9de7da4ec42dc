/- PageWalks: P5.3, P5.5: a walk between two bounds, both ways, left early; copies. -/
import Derived.Test.YtjlomnhngngkiaaPgA
import Derived.Test.YtjlomnhngngkiaaPgPl
import Derived.Deep.CutBlock
import Derived.Deep.DeepCutAuto
import Derived.Outline
namespace Go.Proofs.Ytjlomnhngngkiaa
open Go.Gl Go.RowKit
set_option linter.unusedVariables false

open Go.ChangeShapes Go.WideShapes Go.ChangeAt Go.Deep in
theorem rdl_of_arg {H : Type} {enc : TypeId × Value → H} {W : World} {base : Nat} {v : Value} {d : DataW H} {p : List MemPlace} (hv : Value.okWide Try.prog W .any base 33 v) (h : DataW.Trod enc Try.prog W 0 (fun _ => true) true 33 v d p) (hw : ∀ q ∈ d.weights Try.prog 33, q ≤ reachBytes) : ∃ xs, Rd W v xs ∧ xs.length ≤ 140737488355328 := by
  obtain ⟨fuel, hf⟩ := h
  obtain ⟨a0, len0, cap0, rfl⟩ := okWide_slice Try.underlying33 hv
  obtain ⟨z, r, l, b⟩ := rdM_of_ints Try.underlying33 Try.underlying5 (by kernel_rfl) hf (of_decide_eq_true (by kernel_rfl)) hw
  have h9 := RdM.map_of (h := fun b : UInt8 => Value.int .u8 b.toNat) (fun z => UInt8.ofNat z.toNat) (fun z hz => by have := bounds_u8 (l z hz); simp only [UInt8.toNat_ofNat']; congr 1; omega) r
  exact ⟨_, h9, by simpa using b⟩

open Go.ChangeShapes Go.WideShapes Go.ChangeAt Go.Deep in
theorem pint_of_arg {H : Type} {enc : TypeId × Value → H} {W : World} {base : Nat} {v : Value} {d : DataW H} {p : List MemPlace} (hv : Value.okWide Try.prog W .any base 3 v) (h : DataW.Trod enc Try.prog W 0 (fun _ => true) true 3 v d p) : ∃ z : Int, v = .int .i64 z ∧ (-9223372036854775808 ≤ z ∧ z ≤ 9223372036854775807) := by
  obtain ⟨fuel, hf⟩ := h
  obtain ⟨n, rfl⟩ := okWide_int Try.underlying3 hv
  obtain ⟨z, e, _, wf⟩ := DataW.trod_int Try.underlying3 hf
  have : n = z := by simpa [Value.cells] using e
  subst this
  exact ⟨n, rfl, bounds_i64 wf⟩

/-- a list apart from a map -/
def ApR (g : Nat) (vo : Value) (R : List PV) (v : Value) (L : List EV) : Prop := ∀ k, v.ownBlock = some k ∨ MDL L k → ¬ MS g vo R k
theorem WkGot.rebase {w0 w w' : World} {v : Value} {L : List EV} (h : WkGot w w' v L) (m : Mods noB w0 w) : WkGot w0 w' v L :=
  ⟨h.row, h.own, h.vf.of m.size, fun k hk => ⟨by have := (h.df k hk).1; have := m.size; omega, (h.df k hk).2⟩, m.then0 h.mods⟩
theorem WkGot.lt {w0 w' : World} {v : Value} {L : List EV} (h : WkGot w0 w' v L) {k : Nat} (hk : v.ownBlock = some k ∨ MDL L k) : k < w'.heap.size := by
  rcases hk with hk | ⟨e, he, hk | hk⟩
  · exact h.row.lt k hk
  · exact (h.own e he).1.lt k hk
  · exact (h.own e he).2.lt k hk
theorem WkGot.apart {w w' : World} {v : Value} {L : List EV} {g : Nat} {vo : Value} {R : List PV} (h : WkGot w w' v L) (p : PM w g vo R) : ApR g vo R v L := fun k hk x => by
  have := p.lt k x
  rcases hk with hk | hk
  · have := h.vf k hk; omega
  · have := (h.df k hk).1; omega
theorem WkGot.pt {w0 w w' : World} {v : Value} {L : List EV} {g : Nat} {vo vo' : Value} {R R' : List PV} (h : WkGot w0 w v L) (t : PT w w' g vo R vo' R') (own : ∀ k, MS g vo R k → w0.heap.size ≤ k) (a : ApR g vo R v L) : WkGot w0 w' v L ∧ ApR g vo' R' v L := by
  refine ⟨⟨h.row.keep t.mods (fun k hk => a k (.inl hk)), fun e he => ⟨(h.own e he).1.keep t.mods (fun k hk => a k (.inr ⟨e, he, .inl hk⟩)), (h.own e he).2.keep t.mods (fun k hk => a k (.inr ⟨e, he, .inr hk⟩))⟩, h.vf, h.df, h.mods.trans t.mods (fun _ _ x => x) (fun i hi x => by have := own i x; omega)⟩, fun k hk x => ?_⟩
  rcases t.ms k x with y | y
  · exact a k hk y
  · have := h.lt hk; omega

theorem delL_first {e : Ent} {l : List Ent} (h : Ris (e :: l)) : delL (e :: l) e.1 = l := by
  have h1 := (List.pairwise_cons.1 h).1
  unfold delL
  rw [List.filter_cons, List.filter_cons, lessB_irr]
  simp only [Bool.false_eq_true, if_false]
  rw [filter_none (fun x hx => lessB_asym (h1 x hx)), filter_all (fun x hx => h1 x hx)]
  rfl
theorem nil_of_flat {ps : Pgs} (ok : PgOk ps) (h : ps.flatten = []) : ps = [] := by
  have := pages_le ok
  unfold cnt at this
  rw [h] at this
  exact List.eq_nil_of_length_eq_zero (by simpa using this)

/-- the map being emptied, its copy, the list of all -/
structure WkI (w0 w : World) (g c : Nat) (vo voc : Value) (R Rc : List PV) (ps qs : Pgs) (v : Value) (L : List EV) (i : Nat) : Prop where
  kn : KN w0 w g vo R qs
  ok : PgOk qs
  fl : qs.flatten = (L.drop i).map EV.ent
  kc : KN w0 w c voc Rc ps
  ap : ApM g vo R c voc Rc
  got : WkGot w0 w v L
  ar : ApR g vo R v L
theorem WkI.then0 {w0 w w' : World} {g c : Nat} {vo voc : Value} {R Rc : List PV} {ps qs : Pgs} {v : Value} {L : List EV} {i : Nat} (h : WkI w0 w g c vo voc R Rc ps qs v L i) (m : Mods noB w w') : WkI w0 w' g c vo voc R Rc ps qs v L i :=
  ⟨h.kn.then0 m, h.ok, h.fl, h.kc.then0 m, h.ap, h.got.keep m, h.ar⟩
theorem WkI.del {w0 w : World} {g c : Nat} {vo voc : Value} {R Rc : List PV} {ps qs : Pgs} {v : Value} {L : List EV} {i : Nat} (h : WkI w0 w g c vo voc R Rc ps qs v L i) (hi : i < L.length) (hl : L.length ≤ 1000000) :
    Calls Try.prog 14 #[.pointer (some ⟨g, 0, none⟩), (L[i]).kv] w fun e w' => ∃ B, e = .returned (.bool B) ∧ ∃ vo' R' qs', WkI w0 w' g c vo' voc R' Rc ps qs' v L (i + 1) := by
  have hcn : cnt qs ≤ 1000000 := by unfold cnt; rw [h.fl]; simp; omega
  have hp := pages_le h.ok
  refine (kn_del h.kn ((h.got.own _ (List.getElem_mem hi)).1.rd) h.ok (by omega) (by omega)).mono ?_
  rintro e w' ⟨rfl, vo', R', h', t⟩
  obtain ⟨pc, ap⟩ := t.apart h.kc.pm h.ap
  obtain ⟨got, ar⟩ := h.got.pt t h.kn.own h.ar
  refine ⟨_, rfl, vo', R', _, h', delP_ok h.ok _, ?_, ⟨pc, h.kc.eq, h'.mods, h.kc.own⟩, ap, got, ar⟩
  have hd : qs.flatten = (L[i]).ent :: (L.drop (i + 1)).map EV.ent := by rw [h.fl, List.drop_eq_getElem_cons hi, List.map_cons]
  have hr := h.ok.ris
  rw [delP_flat h.ok, hd]
  rw [hd] at hr
  exact delL_first hr

namespace pageWalks
open Go.Gl Go.RowKit Go.ChangeShapes Go.WideShapes Go.ChangeAt
set_option maxRecDepth 100000
set_option maxHeartbeats 8000000 in
theorem walk (y f t : Value) (l : List PStp) (xs ts : List UInt8) (N : Int) (w : World) (hy : RdPs w y l) (hf : Rd w f xs ∧ xs.length ≤ 140737488355328) (ht : Rd w t ts ∧ ts.length ≤ 140737488355328) (hN : -9223372036854775808 ≤ N ∧ N ≤ 9223372036854775807) :
    Calls Try.prog 5 #[y, f, t, .int .i64 N] w fun e w' => e = .returned (.bool true) ∧ Below w.heap.size w w' := by
  obtain ⟨hf, f3⟩ := hf
  obtain ⟨ht, t3⟩ := ht
  obtain ⟨b0, k, d, rfl, hk, hd1, hd2, _⟩ := hy.form
  obtain ⟨fa, fc, rfl, f1, f2, _⟩ := hf.at'
  obtain ⟨ta, tc, rfl, t1, t2, _⟩ := ht.at'
  obtain ⟨n1, hn1⟩ : ∃ n, xs.length = n := ⟨_, rfl⟩
  obtain ⟨n2, hn2⟩ : ∃ n, ts.length = n := ⟨_, rfl⟩
  rw [hn1] at hf f1 f3 ⊢
  rw [hn2] at ht t1 t3 ⊢
  have hwr : wrap64 ((n1 : Int) + (n2 : Int)) = (n1 : Int) + (n2 : Int) := IntWalk.wrap64_in _ (by omega)
  unfold maxLen at f2 t2
  have HY := Lib.hid hy
  have HK := Lib.hid hk
  have HF := Lib.hid hf
  have HT := Lib.hid ht
  have H1 := Lib.hid hn1
  have H2 := Lib.hid hn2
  have HN := Lib.hid hN
  clear hy hk hf ht hn1 hn2 hN
  go_enter Try.func5, Try.ntmps5
  go_wp2_with fail
  refine (pknown_any _).mono ?_
  rintro e w1 ⟨rfl, m1⟩
  have M1 := Lib.hid m1
  clear m1
  go_wp2_with fail
  refine (plight_any (HY.out.keep M1.out)).mono ?_
  rintro e w2 ⟨rfl, q2⟩
  have M2 := Lib.hid (M1.out.then0 (q2.mods noB))
  clear q2 M1
  cases hL : plightB l with
  | false =>
    go_wp2_with fail
    go_ret
    exact ⟨rfl, M2.out.below⟩
  | true =>
    by_cases hlen : 1000 < n1 + n2
    · have hlen' : (1000 : Int) < (n1 : Int) + (n2 : Int) := by omega
      clear hL
      go_wp2_with fail
      go_ret
      exact ⟨rfl, M2.out.below⟩
    have HL := Lib.hid (plight_len hL)
    have hk6 : k ≤ 6000 := by have := HL.out.1; have := HK.out; omega
    have hlen' : ¬ (1000 : Int) < (n1 : Int) + (n2 : Int) := by omega
    have hb1 : n1 ≤ 1000 := by omega
    have hb2 : n2 ≤ 1000 := by omega
    clear hL
    go_wp2_with fail
    generalize hs1 : (n1 : Int) + (n2 : Int) = s12
    generalize hs2 : (n2 : Int) = s2
    clear hs1 hs2
    refine (New_any w2).mono ?_
    rintro e w3 ⟨g, rfl, pm, m3, hg⟩
    have K0 := Lib.hid (show ShI w2 w3 g 0 (.slice none 0 0) [] [] from ⟨⟨pm, rfl, m3, fun k hk => by
      rcases hk with rfl | hk | ⟨p, hp, _⟩
      · exact hg
      · simp [Value.ownBlock] at hk
      · exact (List.not_mem_nil hp).elim⟩, ⟨List.Pairwise.nil, fun p hp => (List.not_mem_nil hp).elim, fun p hp => (List.not_mem_nil hp).elim⟩, trivial, Nat.le_refl _⟩)
    clear pm m3 hg
    go_wp2
    go_loopw [10] (fun i wr => ∃ (j : Nat), i = .int .i64 j ∧ j ≤ k ∧ Hid (∃ vo R ps, ShI w2 wr g j vo R ps)) (fun i _ => k - (intOf i).toNat)
    case atStart => exact ⟨0, rfl, by omega, Lib.hid ⟨_, _, _, K0.out⟩⟩
    case round =>
      clear K0
      obtain ⟨j, rfl, hj, hR⟩ := hrel
      obtain ⟨vo, R, ps, h⟩ := hR.out
      have H := Lib.hid h
      clear hR h
      by_cases h1 : j < k
      · obtain ⟨gs, off, rfl, hgs, hc, at1⟩ := HY.out.get (M2.out.then0 H.out.kn.mods) h1 HK.out
        obtain ⟨sl1, sl2⟩ := HL.out.2 j (by rw [HK.out]; exact h1)
        have c3 := hc 3 (by omega)
        have c4 := hc 4 (by omega)
        rw [show PStp.cell _ 3 = (l[j]'(by rw [HK.out]; exact h1)).kv from rfl] at c3
        rw [show PStp.cell _ 4 = (l[j]'(by rw [HK.out]; exact h1)).vv from rfl] at c4
        generalize (l[j]'(by rw [HK.out]; exact h1)) = s at *
        have AT := Lib.hid at1
        have SL := Lib.hid (And.intro sl1 sl2)
        have h1b : (j : Int) < (k : Int) := by omega
        clear hc at1 sl1 sl2
        have HS := Lib.hid (fun (b' : World) (m : Mods noB wr b') => show Calls Try.prog 12 #[.pointer (some ⟨g, 0, none⟩), s.kv, s.vv] b' (fun e w' => ∃ B, e = .returned (.bool B) ∧ ∃ vo R qs, ShI w2 w' g (j + 1) vo R qs) from by
          have h := H.out
          have hp := pages_le h.ok
          have hcn := h.cn
          refine (kn_set (h.kn.then0 m) (AT.out.k.keep m (fun _ _ x => x)) (AT.out.v.keep m (fun _ _ x => x)) (Nat.le_trans SL.out.1 (by omega)) (Nat.le_trans SL.out.2 (by omega)) h.ok (by omega) (by omega)).mono ?_
          rintro e w' ⟨rfl, vo', R', h', _⟩
          exact ⟨_, rfl, vo', R', _, h', setP_ok h.ok _ _, setP_adj h.ok h.adj _ _, Nat.le_trans (setP_cnt h.ok _ _) (by omega)⟩)
        go_upto_region 9 with fail
        refine wp_tl (d := .region 9 (opsC 9 Try.f5) true) (by kernel_rfl) ?_
        refine RW.wp (pwk9 (X := fun _ w' => ∃ vo R qs, ShI w2 w' g (j + 1) vo R qs) c3 c4 hgs h1 HS.out ?_)
        intros
        rename_i B w7 hx
        have HX := Lib.hid hx
        clear hx HS c3 c4 AT SL H
        go_wp2
        go_roundw
        case rel => exact ⟨j + 1, by go_num, by omega, HX⟩
        case measure => simp [intOf]; omega
      · obtain rfl : j = k := by omega
        clear h1
        have h := H.out
        have hcn := h.cn
        have hpl := pages_le h.ok
        have HC6 := Lib.hid (show cnt ps ≤ 6000 ∧ ps.length ≤ 6000 from ⟨by omega, by omega⟩)
        have HO := Lib.hid h.ok
        have HK2 := Lib.hid h.kn
        clear h hcn hpl H
        go_wp2_with fail
        refine (kn_copy HK2.out HO.out (by have := HC6.out.2; omega)).mono ?_
        rintro e w4 ⟨c, voc, Rc, rfl, kc, kg, ap, _⟩
        have KC := Lib.hid kc
        have KG := Lib.hid kg
        have AP := Lib.hid ap
        clear kc kg ap HK2
        go_wp2_with fail
        refine (kn_walked (n := 1073741824) (back := false) KG.out (Rd.nil _) (Rd.nil _) (by simp) (by simp) HO.out (by have := HC6.out.2; omega) (by have := HC6.out.1; omega)).mono ?_
        rintro e w5 ⟨v5, L, rfl, q5, l5⟩
        rw [wlk_all, List.take_of_length_le (by show cnt ps ≤ _; have := HC6.out.1; omega)] at l5
        obtain ⟨a5, c5, hv5, _⟩ := q5.row.rd.form
        obtain ⟨n, hn⟩ : ∃ n, L.length = n := ⟨_, rfl⟩
        have hnc : n = cnt ps := by have := congrArg List.length l5; rw [List.length_map, hn] at this; exact this
        have I5 := Lib.hid (show WkI w2 w5 g c vo voc R Rc ps ps v5 L 0 from ⟨KG.out.then0 q5.mods, HO.out, l5.symm, KC.out.then0 q5.mods, AP.out, q5.rebase KG.out.mods, q5.apart KG.out.pm⟩)
        rw [hv5, hn] at I5
        rw [hv5, hn]
        have hn6 : n ≤ 6000 := by have := HC6.out.1; omega
        have L5 := Lib.hid l5
        have HN5 := Lib.hid hn
        clear hv5 q5 l5 hn hnc KC KG AP
        have hA : ∀ i (hi : i < L.length), ∃ b off, a5 = some ⟨b, off, none⟩ ∧ b < w5.heap.size ∧ w5.cell? ⟨b, off + i * 2, none⟩ = some (L[i]).kv ∧ w5.cell? ⟨b, off + i * 2 + 1, none⟩ = some (L[i]).vv := by
          obtain ⟨a', c', e, ha⟩ := I5.out.got.prow.at
          obtain ⟨rfl, _, _⟩ : a5 = a' ∧ n = L.length ∧ c5 = c' := by simpa using e
          exact ha
        have HA := Lib.hid hA
        have HO1 := Lib.hid (prow_one I5.out.got.prow)
        have HFl := Lib.hid (show ∀ i (hi : i < L.length), (L.take (i + 1)).filter (fun e => btw xs ts e.ent) = (L.take i).filter (fun e => btw xs ts e.ent) ++ if btw xs ts (L[i]).ent then [L[i]] else [] from fun i hi => by
          rw [List.take_succ_eq_append_getElem hi, List.filter_append, List.filter_cons, List.filter_nil])
        have HFn := Lib.hid (show ∀ i, ((L.take i).filter (fun e => btw xs ts e.ent)).length ≤ i from fun i => Nat.le_trans (List.length_filter_le _ _) (by rw [List.length_take]; omega))
        clear hA
        go_wp2
        go_loopw [13, 14] (fun o i wr => ∃ k : Nat, k ≤ n ∧ i = .int .i64 k ∧ Hid (GrP w5 wr o ((L.take k).filter (fun e => btw xs ts e.ent)))) (fun _ i _ => n - (intOf i).toNat)
        case atStart => exact ⟨0, Nat.zero_le _, rfl, Lib.hid (GrP.nil w5)⟩
        case round =>
          obtain ⟨i, hi, rfl, hG⟩ := hrel
          by_cases hlt : i < n
          · have lx : i < L.length := by rw [HN5.out]; exact hlt
            obtain ⟨b, off, rfl, hb, k1, k2⟩ := HA.out i lx
            have d1 := (hG.out.mods.cellAt hb (fun x => x) _).trans k1
            have d2 := (hG.out.mods.cellAt hb (fun x => x) _).trans k2
            have hb' : b < wr.heap.size := Nat.lt_of_lt_of_le hb hG.out.mods.size
            obtain ⟨u1, u2⟩ := HO1.out _ (List.getElem_mem lx)
            have rk := (I5.out.got.own _ (List.getElem_mem lx)).1.rd.keep hG.out.mods (fun _ _ x => x)
            have hfl := HFl.out i lx
            have hfn := HFn.out i
            have row := hG.out.row
            have hent : btw xs ts (L[i]).ent = (!lessB (L[i]).k xs && (ts.isEmpty || lessB (L[i]).k ts)) := rfl
            generalize L[i] = ev at *
            obtain ⟨kv, vv, sk, sv⟩ := ev
            simp only at d1 d2 u1 u2 rk hent
            obtain ⟨ka, kc, rfl, _⟩ := rk.form
            have RK := Lib.hid rk
            have HFL := Lib.hid hfl
            have HENT := Lib.hid hent
            have ROW := Lib.hid row
            have D1 := Lib.hid d1
            have D2 := Lib.hid d2
            have hib : (i : Int) < (n : Int) := by omega
            have hno : ¬ (xs.length = n1 → False) := fun h => h H1.out
            clear k1 k2 rk hfl hent row d2 hno
            go_wp2_with fail
            refine (Less_any RK.out ((HF.out.keep M2.out (fun _ _ x => x)).keep (I5.out.kn.mods.then0 hG.out.mods) (fun _ _ x => x))).mono ?_
            rintro e w8 ⟨rfl, q8⟩
            have G8 := Lib.hid (hG.out.then0 (q8.mods noB))
            have d3 := ((q8.mods noB).cellAt hb' (fun x => x) _).trans D1.out
            have d4 := ((q8.mods noB).cellAt hb' (fun x => x) _).trans D2.out
            have D3 := Lib.hid d3
            have D4 := Lib.hid d4
            have RK8 := Lib.hid (RK.out.keep (q8.mods noB) (fun _ _ x => x))
            have hb8 : b < w8.heap.size := Nat.lt_of_lt_of_le hb' (q8.mods noB).size
            clear d1 d4 q8 ROW RK D1 D2 hG
            -- what follows an entry that is wanted
            cases h1 : lessB sk xs with
            | true =>
              have hq := HFL.out
              rw [HENT.out, h1] at hq
              simp only [Bool.not_true, Bool.false_and, Bool.false_eq_true, if_false, List.append_nil] at hq
              have GN := G8.out
              rw [← hq] at GN
              have GN' := Lib.hid GN
              clear hq GN HFL HENT h1 G8 D3 D4 d3 RK8
              go_wp2
              go_roundw
              case rel => exact ⟨i + 1, by omega, by go_num, GN'⟩
              case measure => simp [intOf]; omega
            | false =>
              by_cases hz : n2 = 0
              · have hts : ts = [] := List.eq_nil_of_length_eq_zero (by rw [H2.out]; exact hz)
                have hq := HFL.out
                rw [HENT.out, h1, hts] at hq
                simp only [Bool.not_false, Bool.true_and, List.isEmpty_nil, Bool.true_or, if_true] at hq
                rw [← hts] at hq
                have HQ := Lib.hid hq
                have hzi : (n2 : Int) = 0 := by omega
                clear hq hts h1 HFL HENT hz
                go_upto_region 17 with fail
                refine wp_tl (d := .region 17 (opsC 17 Try.f5) false) (by kernel_rfl) ?_
                refine RW.wp (pwk17 D3.out D4.out G8.out.row u1 u2 hlt (by omega) (by omega) ?_)
                intros
                rename_i v9 w9 o9 m9 f9
                have GN := G8.out.push (e := ⟨.slice ka sk.length kc, vv, sk, sv⟩) o9 m9 f9
                rw [← HQ.out] at GN
                have GN' := Lib.hid GN
                clear GN o9 m9 f9 HQ G8 D3 D4 d3 RK8
                go_wp2
                go_roundw
                case rel => exact ⟨i + 1, by omega, by go_num, GN'⟩
                case measure => simp [intOf]; omega
              · have hts : ts.isEmpty = false := by
                  have := H2.out
                  cases ts with
                  | nil => exact absurd this.symm hz
                  | cons a b => rfl
                go_wp2_with fail
                refine (Less_any RK8.out ((HT.out.keep M2.out (fun _ _ x => x)).keep (I5.out.kn.mods.then0 G8.out.mods) (fun _ _ x => x))).mono ?_
                rintro e w9 ⟨rfl, q9⟩
                have G9 := Lib.hid (G8.out.then0 (q9.mods noB))
                have D5 := Lib.hid (((q9.mods noB).cellAt hb8 (fun x => x) _).trans D3.out)
                have D6 := Lib.hid (((q9.mods noB).cellAt hb8 (fun x => x) _).trans D4.out)
                clear q9 d3 D3 D4 G8 RK8
                cases h2 : lessB sk ts with
                | true =>
                  have hq := HFL.out
                  rw [HENT.out, h1, hts, h2] at hq
                  simp only [Bool.not_false, Bool.true_and, Bool.false_or, if_true] at hq
                  have HQ := Lib.hid hq
                  clear hq hts h1 h2 HFL HENT
                  go_upto_region 17 with fail
                  refine wp_tl (d := .region 17 (opsC 17 Try.f5) false) (by kernel_rfl) ?_
                  refine RW.wp (pwk17 D5.out D6.out G9.out.row u1 u2 hlt (by omega) (by omega) ?_)
                  intros
                  rename_i v10 w10 o9 m9 f9
                  have GN := G9.out.push (e := ⟨.slice ka sk.length kc, vv, sk, sv⟩) o9 m9 f9
                  rw [← HQ.out] at GN
                  have GN' := Lib.hid GN
                  clear GN o9 m9 f9 HQ G9 D5 D6
                  go_wp2
                  go_roundw
                  case rel => exact ⟨i + 1, by omega, by go_num, GN'⟩
                  case measure => simp [intOf]; omega
                | false =>
                  have hq := HFL.out
                  rw [HENT.out, h1, hts, h2] at hq
                  simp only [Bool.not_false, Bool.true_and, Bool.false_or, Bool.false_eq_true, if_false, List.append_nil] at hq
                  have GN := G9.out
                  rw [← hq] at GN
                  have GN' := Lib.hid GN
                  clear hq GN HFL HENT h1 h2 hts G9 D5 D6
                  go_wp2
                  go_roundw
                  case rel => exact ⟨i + 1, by omega, by go_num, GN'⟩
                  case measure => simp [intOf]; omega
          · obtain rfl : i = n := by omega
            have G := hG.out
            rw [List.take_of_length_le (by rw [HN5.out]; exact Nat.le_refl _)] at G
            obtain ⟨W, hW⟩ : ∃ W, L.filter (fun e => btw xs ts e.ent) = W := ⟨_, rfl⟩
            rw [hW] at G
            obtain ⟨ao, co, ho, _⟩ := G.row.rd.form
            have hWn : W.length ≤ 6000 := by
              rw [← hW]
              exact Nat.le_trans (List.length_filter_le _ _) (by rw [HN5.out]; exact hn6)
            have hWm : ∀ e ∈ W, e ∈ L := fun e he => by rw [← hW] at he; exact (List.mem_filter.1 he).1
            have hWe : W.map EV.ent = ps.flatten.filter (btw xs ts) := by
              rw [← L5.out, ← hW, List.filter_map]
              rfl
            rw [ho] at G ⊢
            obtain ⟨m, hm⟩ : ∃ m, W.length = m := ⟨_, rfl⟩
            rw [hm] at G ⊢
            have GW := Lib.hid G
            have HWm := Lib.hid hWm
            have HWe := Lib.hid hWe
            have HWn := Lib.hid hm
            have hm6 : m ≤ 6000 := by omega
            clear hlt ho G hWm hWe hm hWn hW hG hi
            go_wp2_with fail
            refine (PPlace_any N 50 _ HN.out.1 HN.out.2 (by decide) (by decide)).mono ?_
            rintro e w10 ⟨r, rfl, hr0, hr1, rfl⟩
            obtain ⟨r, rfl⟩ : ∃ q : Nat, r = (q : Int) := ⟨r.toNat, by omega⟩
            have rdF := (HF.out.keep M2.out (fun _ _ x => x)).keep (I5.out.kn.mods.then0 GW.out.mods) (fun _ _ x => x)
            have rdT := (HT.out.keep M2.out (fun _ _ x => x)).keep (I5.out.kn.mods.then0 GW.out.mods) (fun _ _ x => x)
            have RF := Lib.hid rdF
            have RT := Lib.hid rdT
            have J := Lib.hid (I5.out.then0 GW.out.mods)
            have PW := Lib.hid (GW.out.prow I5.out.got.prow HWm.out)
            clear rdF rdT I5 GW
            have HCE := Lib.hid (show (ps.flatten.filter (btw xs ts)).length ≤ 6000 from Nat.le_trans (List.length_filter_le _ _) HC6.out.1)
            have hx6 : xs.length ≤ 1000000 := by rw [H1.out]; omega
            have ht6 : ts.length ≤ 1000000 := by rw [H2.out]; omega
            have HX6 := Lib.hid (And.intro hx6 ht6)
            clear hx6 ht6
            go_wp2_with fail
            refine (kn_walked (n := 1073741824) (back := false) J.out.kn RF.out RT.out HX6.out.1 HX6.out.2 HO.out (by have := HC6.out.2; omega) (by have := HC6.out.1; omega)).mono ?_
            rintro e w11 ⟨v11, L1, rfl, q11, l11⟩
            have E11 := Lib.hid (show L1.map EV.ent = W.map EV.ent from by rw [l11, HWe.out]; exact List.take_of_length_le (by have := HCE.out; show (ps.flatten.filter (btw xs ts)).length ≤ _; omega))
            have P11 := Lib.hid q11.prow
            have M11 := Lib.hid q11.mods
            have N11 := Lib.hid (show L1.length ≤ 1000000 from by have := congrArg List.length E11.out; rw [List.length_map, List.length_map, HWn.out] at this; omega)
            clear q11 l11
            go_wp2_with fail
            refine (Pairs_true P11.out (PW.out.keep0 M11.out) E11.out N11.out).mono ?_
            rintro e w12 ⟨rfl, m12⟩
            have M12 := Lib.hid (M11.out.then0 m12)
            clear m12 P11 E11 N11 M11
            go_wp2_with fail
            refine (kn_walked (n := 1073741824) (back := true) (J.out.kn.then0 M12.out) (RF.out.keep M12.out (fun _ _ x => x)) (RT.out.keep M12.out (fun _ _ x => x)) HX6.out.1 HX6.out.2 HO.out (by have := HC6.out.2; omega) (by have := HC6.out.1; omega)).mono ?_
            rintro e w13 ⟨v13, L2, rfl, q13, l13⟩
            have E13 := Lib.hid (show L2.map EV.ent = (fstL W true m).map EV.ent from by
              rw [l13]
              unfold fstL wlk
              simp only [if_true]
              rw [List.take_of_length_le (by rw [List.length_reverse]; have := HCE.out; omega), List.take_of_length_le (by rw [List.length_reverse, HWn.out]; exact Nat.le_refl _), List.map_reverse, HWe.out])
            have P13 := Lib.hid q13.prow
            have M13 := Lib.hid (M12.out.then0 q13.mods)
            have N13 := Lib.hid (show L2.length ≤ 1000000 from by have := congrArg List.length E13.out; rw [List.length_map, List.length_map] at this; unfold fstL at this; simp [HWn.out] at this; omega)
            clear q13 l13 M12
            go_wp2_with fail
            refine (first_any (n := m) (back := true) (PW.out.keep0 M13.out) (by rw [HWn.out]; omega) (by omega)).mono ?_
            rintro e w14 ⟨v14, rfl, g14⟩
            have G14 := Lib.hid g14
            have PF14 := Lib.hid (g14.prow (PW.out.keep0 M13.out) (fun e he => by unfold fstL at he; simp only [if_true] at he; exact List.mem_reverse.1 (List.mem_of_mem_take he)))
            clear g14
            go_wp2_with fail
            refine (Pairs_true (P13.out.keep0 G14.out.mods) PF14.out E13.out N13.out).mono ?_
            rintro e w15 ⟨rfl, m15⟩
            have M15 := Lib.hid (M13.out.then0 (G14.out.mods.then0 m15))
            clear m15 P13 E13 N13 M13 G14 PF14
            go_wp2_with fail
            refine (kn_walked (n := r) (back := false) (J.out.kn.then0 M15.out) (RF.out.keep M15.out (fun _ _ x => x)) (RT.out.keep M15.out (fun _ _ x => x)) HX6.out.1 HX6.out.2 HO.out (by have := HC6.out.2; omega) (by have := HC6.out.1; omega)).mono ?_
            rintro e w16 ⟨v16, L3, rfl, q16, l16⟩
            have E16 := Lib.hid (show L3.map EV.ent = (fstL W false r).map EV.ent from by
              rw [l16]
              unfold fstL wlk
              simp only [Bool.false_eq_true, if_false]
              rw [List.map_take, HWe.out])
            have P16 := Lib.hid q16.prow
            have M16 := Lib.hid (M15.out.then0 q16.mods)
            have N16 := Lib.hid (show L3.length ≤ 1000000 from by have := congrArg List.length E16.out; rw [List.length_map, List.length_map] at this; unfold fstL at this; simp [HWn.out] at this; omega)
            clear q16 l16 M15
            go_wp2_with fail
            refine (first_any (n := r) (back := false) (PW.out.keep0 M16.out) (by rw [HWn.out]; omega) (by omega)).mono ?_
            rintro e w17 ⟨v17, rfl, g17⟩
            have G17 := Lib.hid g17
            have PF17 := Lib.hid (g17.prow (PW.out.keep0 M16.out) (fun e he => by unfold fstL at he; simp only [Bool.false_eq_true, if_false] at he; exact List.mem_of_mem_take he))
            clear g17
            go_wp2_with fail
            refine (Pairs_true (P16.out.keep0 G17.out.mods) PF17.out E16.out N16.out).mono ?_
            rintro e w18 ⟨rfl, m18⟩
            have J18 := Lib.hid (J.out.then0 (M16.out.then0 (G17.out.mods.then0 m18)))
            clear m18 P16 E16 N16 M16 G17 PF17 J PW RF RT
            go_wp2
            go_loopw [15] (fun q wr => ∃ k : Nat, k ≤ i ∧ q = .int .i64 k ∧ Hid (∃ vo R qs, WkI w2 wr g c vo voc R Rc ps qs (.slice a5 i c5) L k)) (fun q _ => i - (intOf q).toNat)
            case atStart => exact ⟨0, Nat.zero_le _, rfl, Lib.hid ⟨_, _, _, J18.out⟩⟩
            case round =>
              clear J18
              obtain ⟨j, hj, rfl, hI⟩ := hrel
              obtain ⟨vo8, R8, qs, h⟩ := hI.out
              have I := Lib.hid h
              clear h hI
              by_cases hlt : j < i
              · have lx : j < L.length := by rw [HN5.out]; exact hlt
                have hD := I.out.del lx (by rw [HN5.out]; omega)
                obtain ⟨b, off, rfl, hb, k1, _⟩ := HA.out j lx
                have k1' : wr.cell? ⟨b, off + j * 2, none⟩ = some (L[j]).kv := by
                  obtain ⟨a', c', e', ha⟩ := I.out.got.prow.at
                  obtain ⟨b', off', e2, _, k2, _⟩ := ha j lx
                  obtain ⟨rfl, _, _⟩ : some ⟨b, off, none⟩ = a' ∧ i = L.length ∧ c5 = c' := by simpa using e'
                  obtain ⟨rfl, rfl⟩ : b = b' ∧ off = off' := by simpa using e2
                  exact k2
                obtain ⟨ka, kc, hkv, _⟩ := (I.out.got.own _ (List.getElem_mem lx)).1.rd.form
                rw [hkv] at hD k1'
                have HD := Lib.hid hD
                have hji : (j : Int) < (i : Int) := by omega
                clear k1 hD hkv
                generalize (L[j]).k.length = kl at *
                go_wp2_with fail
                refine HD.out.mono ?_
                rintro e w19 ⟨B, rfl, hI9⟩
                have I9 := Lib.hid hI9
                clear hI9 HD k1' I
                go_wp2
                go_roundw
                case rel => exact ⟨j + 1, by omega, by go_num, I9⟩
                case measure => simp [intOf]; omega
              · obtain rfl : j = i := by omega
                have hq0 : qs.flatten = [] := by
                  rw [I.out.fl, List.drop_of_length_le (by rw [HN5.out]; exact Nat.le_refl _)]; rfl
                have hqs := nil_of_flat I.out.ok hq0
                have I0 := I.out
                rw [hqs] at I0
                have I1 := Lib.hid I0
                clear hq0 hqs I I0 hlt hj
                go_wp2_with fail
                refine (kn_len I1.out.kn).mono ?_
                rintro e w20 ⟨rfl, rfl⟩
                rw [show cnt [] = 0 from rfl]
                go_wp2_with fail
                refine (kn_pages I1.out.kn (by simp)).mono ?_
                rintro e w21 ⟨v21, rfl, i21⟩
                obtain ⟨a21, c21, rfl, _⟩ := i21.own.rd.form
                have I2 := Lib.hid (I1.out.then0 i21.mods)
                simp only [List.map_nil, List.length_nil]
                clear i21 I1
                go_wp2_with fail
                refine (kn_walked (n := 1073741824) (back := false) I2.out.kc (Rd.nil _) (Rd.nil _) (by simp) (by simp) HO.out (by have := HC6.out.2; omega) (by have := HC6.out.1; omega)).mono ?_
                rintro e w22 ⟨v22, L4, rfl, q22, l22⟩
                rw [wlk_all, List.take_of_length_le (by show cnt ps ≤ _; have := HC6.out.1; omega)] at l22
                have E22 := Lib.hid (show L4.map EV.ent = L.map EV.ent from by rw [l22, L5.out])
                have P22 := Lib.hid q22.prow
                have I3 := Lib.hid (I2.out.then0 q22.mods)
                have N22 := Lib.hid (show L4.length ≤ 1000000 from by have := congrArg List.length E22.out; rw [List.length_map, List.length_map, HN5.out] at this; omega)
                clear q22 l22 I2
                go_wp2_with fail
                refine (Pairs_true P22.out I3.out.got.prow E22.out N22.out).mono ?_
                rintro e w23 ⟨rfl, m23⟩
                have M := Lib.hid (M2.out.then0 (I3.out.kn.then0 m23).mods)
                clear m23 I3 P22 E22 N22
                go_wp2
                go_ret
                exact ⟨by simp, M.out.below⟩

end pageWalks
end Go.Proofs.Ytjlomnhngngkiaa

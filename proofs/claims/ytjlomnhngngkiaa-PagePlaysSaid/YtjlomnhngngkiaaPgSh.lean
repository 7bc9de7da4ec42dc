/- PageShape: P5.4: pages keep their shape behind every step; walks rise. -/
import Derived.Test.YtjlomnhngngkiaaPgS0
import Derived.Deep.CutBlock
import Derived.Deep.DeepCutAuto
import Derived.Outline
namespace Go.Proofs.Ytjlomnhngngkiaa
open Go.Gl Go.RowKit
set_option linter.unusedVariables false

theorem delP_cnt {ps : Pgs} (ok : PgOk ps) (k : List UInt8) : cnt (delP ps k) ≤ cnt ps := by
  unfold cnt
  rw [delP_flat ok]
  unfold delL
  rw [List.length_append]
  have key : ∀ l : List Ent, (l.filter (fun e => lessB e.1 k)).length + (l.filter (fun e => lessB k e.1)).length ≤ l.length := fun l => by
    induction l with
    | nil => simp
    | cons e l ih =>
      simp only [List.filter_cons]
      cases h1 : lessB e.1 k with
      | true => rw [lessB_asym h1]; simp; omega
      | false => cases h2 : lessB k e.1 <;> simp <;> omega
  exact key _
theorem setP_cnt {ps : Pgs} (ok : PgOk ps) (k v : List UInt8) : cnt (setP ps k v) ≤ cnt ps + 1 := by
  unfold cnt
  rw [setP_flat ok]
  unfold insL
  rw [List.length_append, List.length_cons]
  have key : ∀ l : List Ent, (l.filter (fun e => lessB e.1 k)).length + (l.filter (fun e => lessB k e.1)).length ≤ l.length := fun l => by
    induction l with
    | nil => simp
    | cons e l ih =>
      simp only [List.filter_cons]
      cases h1 : lessB e.1 k with
      | true => rw [lessB_asym h1]; simp; omega
      | false => cases h2 : lessB k e.1 <;> simp <;> omega
  exact Nat.succ_le_succ (key ps.flatten)
/-- pages are no more than entries -/
theorem pages_le {ps : Pgs} (ok : PgOk ps) : ps.length ≤ cnt ps := by
  have key : ∀ qs : Pgs, (∀ p ∈ qs, p ≠ []) → qs.length ≤ qs.flatten.length := fun qs => by
    induction qs with
    | nil => simp
    | cons p qs ih =>
      intro h
      have h1 := ih (fun q hq => h q (List.mem_cons_of_mem _ hq))
      have h2 := List.length_pos_iff.2 (h p (List.mem_cons_self ..))
      rw [List.flatten_cons, List.length_append, List.length_cons]
      omega
  exact key ps ok.ne
theorem RdPs.get {w w' : World} {a : Option Addr} {n cap : Nat} {ss : List PStp} (h : RdPs w (.slice a n cap) ss) (hm : Mods noB w w') {i : Nat} (hi : i < n) (hn : ss.length = n) :
    ∃ g off, a = some ⟨g, off, none⟩ ∧ g < w'.heap.size ∧ (∀ j, j < 5 → w'.cell? ⟨g, off + i * 5 + j, none⟩ = some ((ss[i]'(by omega)).cell j)) ∧ (ss[i]'(by omega)).At w' := by
  rcases h with ⟨h0, rfl⟩ | ⟨g, off, cap', hv, h1, h2, h3, h4⟩
  · simp at hn; omega
  · obtain ⟨rfl, _, _⟩ : a = some ⟨g, off, none⟩ ∧ n = ss.length ∧ cap = cap' := by simpa using hv
    obtain ⟨c, at_⟩ := h4 i (by omega)
    exact ⟨g, off, rfl, hm.size_of h3, fun j hj => (hm.cellAt h3 (fun x => x) _).trans (c j hj), at_.keep hm⟩
theorem RdPs.len {w : World} {a : Option Addr} {n cap : Nat} {ss : List PStp} (h : RdPs w (.slice a n cap) ss) : ss.length = n := by
  rcases h with ⟨h0, rfl⟩ | ⟨g, off, cap', hv, _⟩
  · have : n = 0 := by simp at h0; exact h0.2.1
    rw [this]; rfl
  · simp at hv; exact hv.2.1.symm
theorem plight_len {ss : List PStp} (h : plightB ss = true) : ss.length ≤ 6000 ∧ ∀ i (hi : i < ss.length), (ss[i]).k.length ≤ 6000 ∧ (ss[i]).v.length ≤ 6000 := by
  unfold plightB at h
  have h1 : ss.length + pwts ss ≤ 6000 := by simpa using h
  refine ⟨by omega, fun i hi => ?_⟩
  have h2 := pwts_get hi
  have h3 : (ss[i]).wt = (ss[i]).k.length + (ss[i]).v.length := rfl
  omega
/-- neighbours of a walk rise -/
theorem walk_ris {ps : Pgs} (ok : PgOk ps) {L : List EV} (e : L.map EV.ent = ps.flatten) (j : Nat) (h : j + 1 < L.length) : lessB (L[j]).k (L[j + 1]).k = true := by
  have h1 : (L.map EV.ent).Pairwise (fun a b => lessB a.1 b.1 = true) := by rw [e]; exact ok.ris
  rw [List.pairwise_map] at h1
  exact List.pairwise_iff_getElem.1 h1 j (j + 1) (by omega) h (by omega)
theorem wlk_all {ps : Pgs} : wlk ps [] [] false = ps.flatten := by
  unfold wlk
  simp only [Bool.false_eq_true, if_false]
  refine filter_all (fun e _ => ?_)
  have : lessB e.1 [] = false := by cases e.1 <;> rfl
  unfold btw
  rw [this]; rfl

/-- the map, its shape -/
structure ShI (w0 w : World) (g m : Nat) (vo : Value) (R : List PV) (ps : Pgs) : Prop where
  kn : KN w0 w g vo R ps
  ok : PgOk ps
  adj : Adj (lens ps)
  cn : cnt ps ≤ m
theorem ShI.then0 {w0 w w' : World} {g m : Nat} {vo : Value} {R : List PV} {ps : Pgs} (h : ShI w0 w g m vo R ps) (hm : Mods noB w w') : ShI w0 w' g m vo R ps := ⟨h.kn.then0 hm, h.ok, h.adj, h.cn⟩
theorem ShI.shaped {w0 w : World} {g m : Nat} {vo : Value} {R : List PV} {ps : Pgs} (h : ShI w0 w g m vo R ps) (hm : m ≤ 1000000) : Calls Try.prog 27 #[.pointer (some ⟨g, 0, none⟩)] w fun e w' => e = .returned (.bool true) ∧ Mods noB w w' := by
  have e := h.kn.eq
  have := pages_le h.ok
  have := h.cn
  exact shaped_any h.kn.pm (by rw [e]; exact h.ok) (by rw [e]; exact h.adj) (by rw [h.kn.rl]; omega)

namespace pageShape
open Go.Gl Go.RowKit Go.ChangeShapes Go.WideShapes Go.ChangeAt
set_option maxRecDepth 100000
set_option maxHeartbeats 8000000 in
theorem walk (y : Value) (l : List PStp) (w : World) (hy : RdPs w y l) :
    Calls Try.prog 4 #[y] w fun e w' => e = .returned (.bool true) ∧ Below w.heap.size w w' := by
  obtain ⟨b0, k, d, rfl, hk, hd1, hd2, _⟩ := hy.form
  have HY := Lib.hid hy
  have HK := Lib.hid hk
  clear hy hk
  go_enter Try.func4, Try.ntmps4
  go_wp2_with fail
  refine (pknown_any _).mono ?_
  rintro e w1 ⟨rfl, m1⟩
  have M1 := Lib.hid m1
  clear m1
  go_wp2_with fail
  refine (plight_any (HY.out.keep M1.out)).mono ?_
  rintro e w2 ⟨rfl, q2⟩
  have M2 := Lib.hid (M1.out.then0 (q2.mods noB))
  clear q2 M1
  cases hL : plightB l with
  | false =>
    go_wp2_with fail
    go_ret
    exact ⟨rfl, M2.out.below⟩
  | true =>
    have HL := Lib.hid (plight_len hL)
    have hk6 : k ≤ 6000 := by have := HL.out.1; have := HK.out; omega
    clear hL
    go_wp2_with fail
    refine (New_any w2).mono ?_
    rintro e w3 ⟨g, rfl, pm, m3, hg⟩
    have K0 := Lib.hid (show ShI w2 w3 g 0 (.slice none 0 0) [] [] from ⟨⟨pm, rfl, m3, fun k hk => by
      rcases hk with rfl | hk | ⟨p, hp, _⟩
      · exact hg
      · simp [Value.ownBlock] at hk
      · exact (List.not_mem_nil hp).elim⟩, ⟨List.Pairwise.nil, fun p hp => (List.not_mem_nil hp).elim, fun p hp => (List.not_mem_nil hp).elim⟩, trivial, Nat.le_refl _⟩)
    clear pm m3 hg
    go_wp2
    go_loopw [4] (fun i wr => ∃ (j : Nat), i = .int .i64 j ∧ j ≤ k ∧ Hid (∃ vo R ps, ShI w2 wr g j vo R ps)) (fun i _ => k - (intOf i).toNat)
    case atStart => exact ⟨0, rfl, by omega, Lib.hid ⟨_, _, _, K0.out⟩⟩
    case round =>
      clear K0
      obtain ⟨j, rfl, hj, hR⟩ := hrel
      obtain ⟨vo, R, ps, h⟩ := hR.out
      have H := Lib.hid h
      clear hR h
      by_cases h1 : j < k
      · obtain ⟨gs, off, rfl, hgs, hc, at1⟩ := HY.out.get (M2.out.then0 H.out.kn.mods) h1 HK.out
        obtain ⟨sl1, sl2⟩ := HL.out.2 j (by rw [HK.out]; exact h1)
        have c1 := hc 1 (by omega)
        have c3 := hc 3 (by omega)
        have c4 := hc 4 (by omega)
        rw [show PStp.cell _ 1 = .int .i64 (l[j]'(by rw [HK.out]; exact h1)).what from rfl] at c1
        rw [show PStp.cell _ 3 = (l[j]'(by rw [HK.out]; exact h1)).kv from rfl] at c3
        rw [show PStp.cell _ 4 = (l[j]'(by rw [HK.out]; exact h1)).vv from rfl] at c4
        generalize (l[j]'(by rw [HK.out]; exact h1)) = s at *
        obtain ⟨at_, what, sn, kv, vv, sk, sv⟩ := s
        simp only at c1 c3 c4 sl1 sl2
        have hkf := at1.k.form
        simp only at hkf
        obtain ⟨ka, kc, rfl, _⟩ := hkf
        have AT := Lib.hid at1
        have SL := Lib.hid (And.intro sl1 sl2)
        have h1b : (j : Int) < (k : Int) := by omega
        clear hc at1 sl1 sl2
        -- behind the step: shaped, and on
        by_cases hw : what < 3
        · have HS := Lib.hid (fun (b' : World) (m : Mods noB wr b') => show Calls Try.prog 12 #[.pointer (some ⟨g, 0, none⟩), .slice ka sk.length kc, vv] b' (fun e w' => ∃ B, e = .returned (.bool B) ∧ ∃ vo R qs, ShI w2 w' g (j + 1) vo R qs) from by
            have h := H.out
            have hp := pages_le h.ok
            have hcn := h.cn
            refine (kn_set (h.kn.then0 m) (AT.out.k.keep m (fun _ _ x => x)) (AT.out.v.keep m (fun _ _ x => x)) (Nat.le_trans SL.out.1 (by omega)) (Nat.le_trans SL.out.2 (by omega)) h.ok (by omega) (by omega)).mono ?_
            rintro e w' ⟨rfl, vo', R', h', _⟩
            exact ⟨_, rfl, vo', R', _, h', setP_ok h.ok _ _, setP_adj h.ok h.adj _ _, Nat.le_trans (setP_cnt h.ok _ _) (by omega)⟩)
          go_upto_region 10 with fail
          refine wp_tl (d := .region 10 (opsC 10 Try.f4) true) (by kernel_rfl) ?_
          refine RW.wp (psh10 (X := fun _ w' => ∃ vo R qs, ShI w2 w' g (j + 1) vo R qs) c3 c4 hgs h1 HS.out ?_)
          intros
          rename_i B w7 hx
          have HX := Lib.hid hx
          clear hx HS c1 c3 c4 AT SL H
          obtain ⟨vo7, R7, p7, h7⟩ := HX.out
          have H7 := Lib.hid h7
          clear h7 HX
          go_wp2_with fail
          refine (H7.out.shaped (by omega)).mono ?_
          rintro e w8 ⟨rfl, m8⟩
          have H8 := Lib.hid (H7.out.then0 m8)
          clear m8 H7
          go_wp2
          go_roundw
          case rel => exact ⟨j + 1, by go_num, by omega, Lib.hid ⟨_, _, _, H8.out⟩⟩
          case measure => simp [intOf]; omega
        · clear c4
          go_wp2_with fail
          have h := H.out
          have hp := pages_le h.ok
          have hcn := h.cn
          refine (kn_del h.kn AT.out.k h.ok (by omega) (by omega)).mono ?_
          rintro e w7 ⟨rfl, vo7, R7, h', _⟩
          have H7 := Lib.hid (show ShI w2 w7 g (j + 1) vo7 R7 _ from ⟨h', delP_ok h.ok _, delP_adj h.ok h.adj _, Nat.le_trans (delP_cnt h.ok _) (by omega)⟩)
          clear h' c1 c3 AT SL h hp hcn
          go_wp2_with fail
          refine (H7.out.shaped (by omega)).mono ?_
          rintro e w8 ⟨rfl, m8⟩
          have H8 := Lib.hid (H7.out.then0 m8)
          clear m8 H7
          go_wp2
          go_roundw
          case rel => exact ⟨j + 1, by go_num, by omega, Lib.hid ⟨_, _, _, H8.out⟩⟩
          case measure => simp [intOf]; omega
      · obtain rfl : j = k := by omega
        clear h1
        go_wp2_with fail
        have h := H.out
        have hp := pages_le h.ok
        have hcn := h.cn
        refine (kn_walked (n := 1073741824) (back := false) h.kn (Rd.nil _) (Rd.nil _) (by simp) (by simp) h.ok (by omega) (by omega)).mono ?_
        rintro e w7 ⟨v7, L, rfl, q7, l7⟩
        rw [wlk_all, List.take_of_length_le (by show cnt ps ≤ _; omega)] at l7
        obtain ⟨a7, c7, rfl, _⟩ := q7.row.rd.form
        obtain ⟨n, hn⟩ : ∃ n, L.length = n := ⟨_, rfl⟩
        have hnc : n = cnt ps := by have := congrArg List.length l7; rw [List.length_map, hn] at this; exact this
        rw [hn]
        have H7 := Lib.hid (H.out.then0 q7.mods)
        have Q7 := Lib.hid q7
        have L7 := Lib.hid l7
        have HN := Lib.hid hn
        have hn6 : n ≤ 6000 := by omega
        have HC := Lib.hid hnc
        clear q7 l7 hn hnc h hp hcn H
        go_wp2
        go_loopw [6] (fun i wr => ∃ (j : Nat), i = .int .i64 j ∧ 1 ≤ j ∧ (j ≤ n ∨ j = 1) ∧ Hid (Mods noB w7 wr)) (fun i _ => n - (intOf i).toNat)
        case atStart => exact ⟨1, rfl, by omega, .inr rfl, Lib.hid (Mods.refl _ _)⟩
        case round =>
          obtain ⟨i, rfl, hi1, hi, hM⟩ := hrel
          by_cases hlt : i < n
          · obtain ⟨i, rfl⟩ : ∃ q, i = q + 1 := ⟨i - 1, by omega⟩
            have hil : i + 1 < L.length := by rw [HN.out]; exact hlt
            have row := (Q7.out.row.keep hM.out (fun _ _ x => x))
            rcases row.ob with ⟨_, hz, _⟩ | ⟨b, off, cap, hvv, ob⟩
            · omega
            obtain ⟨rfl, _, rfl⟩ : a7 = some ⟨b, off, none⟩ ∧ n = L.length ∧ c7 = cap := by rw [HN.out] at hvv ⊢; simpa using hvv
            have e1 := ob.cell (ecell_get L i (by omega)).1
            have e2 := ob.cell (ecell_get L (i + 1) hil).1
            have o1 := (Q7.out.own _ (List.getElem_mem (show i < L.length by omega))).1.rd.keep hM.out (fun _ _ x => x)
            have o2 := (Q7.out.own _ (List.getElem_mem hil)).1.rd.keep hM.out (fun _ _ x => x)
            have hless := walk_ris H7.out.ok L7.out i hil
            have hib : ((i + 1 : Nat) : Int) < (n : Int) := by omega
            have hbl := ob.lt
            go_upto_region 18 with fail
            refine wp_tl (d := .region 18 (opsC 18 Try.f4) true) (by kernel_rfl) ?_
            refine RW.wp (psh18 e1 e2 hbl hlt (by omega) o1 o2 hless ?_)
            intros
            rename_i w8 m8
            have M8 := Lib.hid (hM.out.then0 m8)
            clear e1 e2 o1 o2 row ob hM m8 hless
            go_wp2
            go_roundw
            case rel => exact ⟨i + 1 + 1, by go_num, by omega, by omega, M8⟩
            case measure => simp [intOf]; omega
          · have LE := Lib.hid (kn_len (H7.out.kn.then0 hM.out))
            rw [← HC.out] at LE
            have M := Lib.hid (M2.out.then0 (H7.out.kn.then0 hM.out).mods)
            clear hM
            go_wp2_with fail
            refine LE.out.mono ?_
            rintro e w9 ⟨rfl, rfl⟩
            go_wp2
            go_ret
            exact ⟨by simp, M.out.below⟩

end pageShape
end Go.Proofs.Ytjlomnhngngkiaa

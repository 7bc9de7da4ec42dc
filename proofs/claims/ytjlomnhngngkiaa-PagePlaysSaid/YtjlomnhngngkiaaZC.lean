/- Parts of the proof, one behind the other: PgE, PgG, PgK5. -/
import Derived.Test.YtjlomnhngngkiaaZB

/- page.Map: Delete. -/
namespace Go.Proofs.Ytjlomnhngngkiaa
open Go.Gl Go.RowKit
set_option linter.unusedVariables false
set_option maxRecDepth 100000

theorem PT.trans {a b c : World} {g : Nat} {vo vo1 vo2 : Value} {R R1 R2 : List PV} (h : PT a b g vo R vo1 R1) (k : PT b c g vo1 R1 vo2 R2) : PT a c g vo R vo2 R2 := by
  refine ⟨k.pm, h.mods.trans k.mods (fun _ _ x => x) (fun i hi x => ?_), fun i hi => ?_, fun i hi => ?_⟩
  · rcases h.ms i x with h1 | h1
    · exact h1
    · omega
  · rcases k.ms i hi with h1 | h1
    · exact h.ms i h1
    · exact .inr (Nat.le_trans h.mods.size h1)
  · rcases k.md i hi with h1 | h1
    · exact h.md i h1
    · exact .inr (Nat.le_trans h.mods.size h1)

theorem del_end1 {w w' : World} {g b off n cap pb po pc i : Nat} {A C : List PV} {q : PV} (hm : PM w g (.slice (some ⟨b, off, none⟩) n cap) (A ++ [q] ++ C)) (hn : n = (A ++ [q] ++ C).length) (hq : q.pv = .slice (some ⟨pb, po, none⟩) q.es.length pc) (hi : i < q.es.length)
    (hT : Mods (fun k => k = g ∨ k = b ∨ k = pb) w w')
    (hg : w'.heap[g]? = some (.cells #[.slice (some ⟨b, off, none⟩) n cap, .int .i64 ((cnt (pgs (A ++ [q] ++ C)) - 1 : Nat))] 61 (0, 0)))
    (hr : OB w' 64 1 b off n cap (((A ++ [q] ++ C).map (·.pv)).set A.length (.slice (some ⟨pb, po, none⟩) (q.es.length - 1) pc)))
    (hp : OB w' 63 2 pb po (q.es.length - 1) pc (ecell (q.es.eraseIdx i))) :
    PT w w' g (.slice (some ⟨b, off, none⟩) n cap) (A ++ [q] ++ C) (.slice (some ⟨b, off, none⟩) n cap) (A ++ [⟨.slice (some ⟨pb, po, none⟩) (q.es.length - 1) pc, q.es.eraseIdx i⟩] ++ C) ∧
      pgs (A ++ [⟨.slice (some ⟨pb, po, none⟩) (q.es.length - 1) pc, q.es.eraseIdx i⟩] ++ C) = (pgs (A ++ [q] ++ C)).set A.length ((ents q.es).eraseIdx i) := by
  subst hn
  have hin : q ∈ A ++ [q] ++ C := by simp
  have hel : (q.es.eraseIdx i).length = q.es.length - 1 := by rw [List.length_eraseIdx, if_pos hi]
  have mods : Mods (fun k => k = g ∨ (Value.slice (some ⟨b, off, none⟩) (A ++ [q] ++ C).length cap).ownBlock = some k ∨ ∃ r ∈ [q], r.pv.ownBlock = some k) w w' := hT.mono (fun k _ hk => by
    rcases hk with h | h | h
    · exact .inl h
    · exact .inr (.inl (by rw [h]; rfl))
    · exact .inr (.inr ⟨q, List.mem_singleton.2 rfl, by rw [hq, h]; rfl⟩))
  have hpb : pb ≠ b := fun e => (hm.sep2 q hin).2 pb (by rw [hq]; rfl) (by rw [e]; rfl)
  have up := PM.upd (vo' := .slice (some ⟨b, off, none⟩) (A ++ [q] ++ C).length cap) (A := A) (B := [q]) (C := C) (N := [⟨.slice (some ⟨pb, po, none⟩) (q.es.length - 1) pc, q.es.eraseIdx i⟩]) (X := fun _ => False) hm mods
    (by
      have e : cnt (pgs (A ++ [(⟨.slice (some ⟨pb, po, none⟩) (q.es.length - 1) pc, q.es.eraseIdx i⟩ : PV)] ++ C)) = cnt (pgs (A ++ [q] ++ C)) - 1 := by
        rw [cnt_parts, cnt_parts, cnt_one, cnt_one, hel]; omega
      rw [e]
      exact hg)
    (by
      have e1 : (A ++ [(⟨.slice (some ⟨pb, po, none⟩) (q.es.length - 1) pc, q.es.eraseIdx i⟩ : PV)] ++ C).length = (A ++ [q] ++ C).length := by simp
      have e2 : (A ++ [(⟨.slice (some ⟨pb, po, none⟩) (q.es.length - 1) pc, q.es.eraseIdx i⟩ : PV)] ++ C).map (·.pv) = ((A ++ [q] ++ C).map (·.pv)).set A.length (.slice (some ⟨pb, po, none⟩) (q.es.length - 1) pc) := by
        rw [← List.map_set (f := (·.pv)) (l := A ++ [q] ++ C) (i := A.length) (a := ⟨.slice (some ⟨pb, po, none⟩) (q.es.length - 1) pc, q.es.eraseIdx i⟩), set_parts]
      rw [e1, e2]
      exact hr.own)
    (.inl rfl)
    (by
      intro r hr
      rw [List.mem_singleton.1 hr]
      refine ⟨?_, .inl ⟨q, List.mem_singleton.2 rfl, by rw [hq]; rfl⟩⟩
      show OwnG _ _ 2 _ (q.es.eraseIdx i).length _
      rw [hel]
      exact hp.own)
    (by
      intro r hr k hk
      rw [List.mem_singleton.1 hr] at hk
      simp [Value.ownBlock] at hk ⊢
      omega)
    (List.pairwise_singleton _ _)
    (by
      intro r hr e he
      rw [List.mem_singleton.1 hr] at he
      exact .inl ⟨q, List.mem_singleton.2 rfl, List.mem_of_mem_eraseIdx he⟩)
  refine ⟨⟨up.1, mods.mono (fun k _ hk => ?_), up.2.1, fun k hk => (up.2.2 k hk).imp id (fun x => x.elim)⟩, ?_⟩
  · rcases hk with h | h | ⟨r, hr, h⟩
    · exact .inl h
    · exact .inr (.inl h)
    · exact .inr (.inr ⟨q, hin, by rw [List.mem_singleton.1 hr] at h; exact h⟩)
  · have hlen : A.length = (pgs A).length := (pgs_length A).symm
    rw [pgs_append, pgs_append, pgs_append, pgs_append, hlen, pgs_single q, set_parts, pgs_single, ents_erase]

theorem del_end2 {w w7 w' : World} {g b off n cap : Nat} {A C : List PV} {q : PV} (hm : PM w g (.slice (some ⟨b, off, none⟩) n cap) (A ++ [q] ++ C)) (hn : n = (A ++ [q] ++ C).length) (hq : q.es = [])
    (hr : OB w7 64 1 b off (n - 1) cap (((A ++ [q] ++ C).map (·.pv)).take (A.length * 1) ++ ((A ++ [q] ++ C).map (·.pv)).drop ((A.length + 1) * 1))) (m7 : Mods (fun k => k = b) w w7)
    (h' : w' = w7.setCell ⟨g, 0, none⟩ (.slice (some ⟨b, off, none⟩) (n - 1 : Nat) cap)) :
    PT w w' g (.slice (some ⟨b, off, none⟩) n cap) (A ++ [q] ++ C) (.slice (some ⟨b, off, none⟩) (n - 1 : Nat) cap) (A ++ [] ++ C) ∧ pgs (A ++ [] ++ C) = (pgs (A ++ [q] ++ C)).eraseIdx A.length := by
  subst hn
  have hin : q ∈ A ++ [q] ++ C := by simp
  have hbg : b ≠ g := fun e => hm.sep1 (by rw [e]; rfl)
  have hg7 := m7.heap hm.hg (Ne.symm hbg)
  have m' : Mods (fun k => k = g) w7 w' := by rw [h']; exact (Mods.refl (fun k => k = g) w7).setCell (p := ⟨g, 0, none⟩) (.inl rfl) _
  have hg' : w'.heap[g]? = some (.cells #[.slice (some ⟨b, off, none⟩) ((A ++ [q] ++ C).length - 1 : Nat) cap, .int .i64 (cnt (pgs (A ++ [q] ++ C)) : Nat)] 61 (0, 0)) := by rw [h']; exact heap_set hg7 0 _
  have o' := hr.keep m' hbg
  have hT : Mods (fun k => k = g ∨ (Value.slice (some ⟨b, off, none⟩) (A ++ [q] ++ C).length cap).ownBlock = some k ∨ ∃ r ∈ [q], r.pv.ownBlock = some k) w w' :=
    m7.trans m' (fun k _ hk => .inr (.inl (by rw [hk]; rfl))) (fun k _ hk => .inl hk)
  have eT : (A.map (·.pv)).length = A.length * 1 := by simp
  have eT2 : (A.map (·.pv) ++ [q.pv]).length = (A.length + 1) * 1 := by simp
  have eM : (A ++ [q] ++ C).map (·.pv) = A.map (·.pv) ++ [q.pv] ++ C.map (·.pv) := by simp
  rw [eM, List.drop_left' eT2, List.append_assoc (A.map (·.pv)), List.take_left' eT] at o'
  have up := PM.upd (vo' := .slice (some ⟨b, off, none⟩) ((A ++ [q] ++ C).length - 1 : Nat) cap) (A := A) (B := [q]) (C := C) (N := []) (X := fun _ => False) hm hT
    (by
      rw [hg', cnt_parts, cnt_parts, cnt_one, hq]
      rfl)
    (by
      have e1 : (A ++ ([] : List PV) ++ C).length = (A ++ [q] ++ C).length - 1 := by simp
      have e2 : (A ++ ([] : List PV) ++ C).map (·.pv) = A.map (·.pv) ++ C.map (·.pv) := by simp
      rw [e1, e2]
      exact o'.own)
    (.inl rfl) (fun r hr => by cases hr) (fun r hr => by cases hr) List.Pairwise.nil (fun r hr => by cases hr)
  refine ⟨⟨up.1, hT.mono (fun k _ hk => ?_), up.2.1, fun k hk => (up.2.2 k hk).imp id (fun x => x.elim)⟩, ?_⟩
  · rcases hk with h | h | ⟨r, hr, h⟩
    · exact .inl h
    · exact .inr (.inl h)
    · exact .inr (.inr ⟨q, hin, by rw [List.mem_singleton.1 hr] at h; exact h⟩)
  · have hlen : A.length = (pgs A).length := (pgs_length A).symm
    rw [pgs_append, pgs_append, pgs_append, pgs_append, hlen, List.eraseIdx_eq_take_drop_succ, List.append_assoc (pgs A) (pgs [q]) (pgs C), List.take_left', ← List.append_assoc, List.drop_left' (by simp [pgs])]
    · simp [pgs]
    · rfl

theorem delP_yes {ps : Pgs} {k : List UInt8} {p i : Nat} {B : Bool} (hf : findP ps k = (p, i, B)) (hB : B = true) : delP ps k = if (ps.getD p []).length = 1 then ps.eraseIdx p else
    if joinB (ps.set p ((ps.getD p []).eraseIdx i)) p then joinP (ps.set p ((ps.getD p []).eraseIdx i)) p
    else if p ≠ 0 ∧ joinB (ps.set p ((ps.getD p []).eraseIdx i)) (p - 1) = true then joinP (ps.set p ((ps.getD p []).eraseIdx i)) (p - 1) else ps.set p ((ps.getD p []).eraseIdx i) := by
  unfold delP
  simp only [hf, hB, if_true]

set_option maxHeartbeats 4000000 in
theorem Delete_any {w : World} {g : Nat} {vo kv : Value} {R : List PV} {xs : List UInt8} (hm : PM w g vo R) (hk : Rd w kv xs) (ok : PgOk (pgs R)) (hn : R.length ≤ 1000000) (hc : cnt (pgs R) ≤ 1000000000) :
    Calls Try.prog 14 #[.pointer (some ⟨g, 0, none⟩), kv] w fun e w' => ∃ vo' R', e = .returned (.bool (findP (pgs R) xs).2.2) ∧ PT w w' g vo R vo' R' ∧ pgs R' = delP (pgs R) xs := by
  have FD := Lib.hid (find_any hm hk ok hn)
  obtain ⟨aq, cq, hqv, _⟩ := hk.form
  subst hqv
  have hfi := found_is (R := R) (ys := xs)
  have hdel : ∀ p i B, findP (pgs R) xs = (p, i, B) → B = true → _ := fun p i B hf hB => delP_yes hf hB
  have hno : (findP (pgs R) xs).2.2 = false → delP (pgs R) xs = pgs R := fun h => by unfold delP; rw [h]; rfl
  generalize findP (pgs R) xs = F at *
  obtain ⟨p, i, B⟩ := F
  simp only at hfi FD hno ⊢
  cases B with
  | false =>
    rw [hno rfl]
    have HM := Lib.hid hm
    clear hm hk ok hfi hdel hno
    go_enter Try.func14, Try.ntmps14
    go_wp2_with fail
    refine FD.out.mono ?_
    rintro e w1 ⟨rfl, m1⟩
    go_wp2
    go_ret
    exact ⟨_, _, rfl, (PT.refl HM.out).then0 m1, rfl⟩
  | true =>
    have hdel := hdel p i true rfl rfl
    obtain ⟨hp, hi, _⟩ := hfi rfl
    rw [pgs_getD hp, ents_length] at hdel
    have HD := Lib.hid hdel
    obtain ⟨b, off, cap, pb, po, pc, rfl, hpv, ob2, ob1⟩ := hm.way hp hi
    have hbg : b ≠ g := fun e => hm.sep1 (by rw [e]; rfl)
    have hpg : pb ≠ g := fun e => (hm.sep2 _ (List.getElem_mem hp)).1 (by rw [hpv, e]; rfl)
    have hbp : b ≠ pb := fun e => (hm.sep2 _ (List.getElem_mem hp)).2 pb (by rw [hpv]; rfl) (by rw [e]; rfl)
    have hPV : (R.map (·.pv))[p]? = some (.slice (some ⟨pb, po, none⟩) (R[p]).es.length pc) := by rw [← hpv]; simp [hp]
    have h1 := ecell_one (hm.ents _ (List.getElem_mem hp))
    have h2 := pv_one hm
    have hmost := ok.most (ents (R[p]).es) (List.mem_map_of_mem (f := fun p => ents p.es) (List.getElem_mem hp))
    rw [ents_length] at hmost
    have HM := Lib.hid hm
    have HPV := Lib.hid hpv
    have HOK := Lib.hid ok
    have hN1 : 1 ≤ cnt (pgs R) := by
      obtain ⟨A, q, C, rfl, rfl, hq⟩ := parts R p hp
      rw [hq] at hi
      rw [cnt_parts, cnt_one]
      omega
    obtain ⟨N, hN⟩ : ∃ N, cnt (pgs R) = N := ⟨_, rfl⟩
    have HN := Lib.hid hN
    rw [hN] at hc hN1
    have hsub : (N : Int) - 1 = ((N - 1 : Nat) : Int) := by omega
    clear hm hk ok hfi hdel hno hN hpv
    go_enter Try.func14, Try.ntmps14
    go_wp2_with fail
    refine FD.out.mono ?_
    rintro e w1 ⟨rfl, m1⟩
    have M1 := Lib.hid m1
    have hg1 : w1.heap[g]? = some (.cells #[.slice (some ⟨b, off, none⟩) R.length cap, .int .i64 (N : Nat)] 61 (0, 0)) := by rw [← HN.out]; exact m1.heap HM.out.hg (fun x => x)
    have e1 : w1.cell? ⟨g, 1, none⟩ = some (.int .i64 (N : Nat)) := cells_of hg1 1
    have ef1 : w1.frozen? ⟨g, 1, none⟩ = false := free_of hg1 1
    go_upto_region 5 with fail
    have hg2 : (w1.setCell ⟨g, 1, none⟩ (.int .i64 ((N - 1 : Nat) : Int))).heap[g]? = some (.cells #[.slice (some ⟨b, off, none⟩) R.length cap, .int .i64 ((N - 1 : Nat) : Int)] 61 (0, 0)) := heap_set hg1 1 _
    have m2 : Mods (fun k => k = g) w1 (w1.setCell ⟨g, 1, none⟩ (.int .i64 ((N - 1 : Nat) : Int))) := (Mods.refl (fun k => k = g) w1).setCell (p := ⟨g, 1, none⟩) (.inl rfl) _
    generalize World.setCell w1 _ _ = w2 at *
    have ob12 := (ob1.keep m1 (fun x => x)).keep m2 hbg
    have ob22 := (ob2.keep m1 (fun x => x)).keep m2 hpg
    refine wp_tl (d := .region 5 (opsC 5 Try.f14) true) (by kernel_rfl) ?_
    refine RW.wp (del5 hg2 ob12 hp hPV ob22 h1 hi (by omega) (Ne.symm hpg) hbp (by omega) ?_)
    intros
    rename_i w3 w4 o3 m3 h4
    have m4 : Mods (fun k => k = b) w3 w4 := by rw [h4]; exact (Mods.refl (fun k => k = b) w3).setCell (p := ⟨b, off + p, none⟩) (.inl rfl) _
    have hg4 := m4.heap (m3.heap hg2 (Ne.symm hpg)) (Ne.symm hbg)
    have ob14 : OB w4 64 1 b off R.length cap ((R.map (·.pv)).set p (.slice (some ⟨pb, po, none⟩) ((R[p]).es.length - 1) pc)) := by rw [h4]; exact ob_set1 (ob12.keep m3 hbp) hp _
    have ob24 := o3.keep m4 (Ne.symm hbp)
    rw [← ecell_del] at ob24
    have hT := (m2.trans m3 (U := fun k => k = g ∨ k = b ∨ k = pb) (fun _ _ h => .inl h) (fun _ _ h => .inr (.inr h))).trans m4 (U := fun k => k = g ∨ k = b ∨ k = pb) (fun _ _ h => h) (fun _ _ h => .inr (.inl h))
    have KEY : ∃ R1, PT w1 w4 g (.slice (some ⟨b, off, none⟩) R.length cap) R (.slice (some ⟨b, off, none⟩) R.length cap) R1 ∧ pgs R1 = (pgs R).set p ((ents (R[p]).es).eraseIdx i) ∧ R1.length = R.length ∧ ∃ (hp1 : p < R1.length), (R1[p]).es = (R[p]).es.eraseIdx i ∧ R1.map (·.pv) = (R.map (·.pv)).set p (.slice (some ⟨pb, po, none⟩) ((R[p]).es.length - 1) pc) ∧ (∀ q ∈ R1, q ∈ R ∨ q.es = (R[p]).es.eraseIdx i) := by
      have hpv := HPV.out
      have hm1 := HM.out.keep0 m1
      have hN := HN.out
      rw [← hN] at hg4
      clear HM HPV HN HOK HD FD hmost hPV h2 h1 e1 ef1 hg1 hg2 ob12 ob22 h4 o3 hN1 hsub hc
      obtain ⟨A, q, C, rfl, rfl, hq⟩ := parts R p hp
      rw [hq] at hpv hi ob24 ob14 ⊢
      obtain ⟨k1, k2⟩ := del_end1 hm1 rfl hpv hi hT hg4 ob14 ob24
      refine ⟨_, k1, k2, by simp, by simp, by simp, by rw [← List.map_set (f := (·.pv)) (l := A ++ [q] ++ C) (i := A.length) (a := ⟨.slice (some ⟨pb, po, none⟩) (q.es.length - 1) pc, q.es.eraseIdx i⟩), set_parts], fun r hr => ?_⟩
      simp only [List.append_assoc, List.mem_append, List.mem_cons, List.not_mem_nil, or_false] at hr ⊢
      rcases hr with hr | rfl | hr
      · exact .inl (.inl hr)
      · exact .inr rfl
      · exact .inl (.inr (.inr hr))
    obtain ⟨R1, K1, K2, K3, hp1, K4, K5, K6⟩ := KEY
    have c0 : w4.cell? ⟨g, 0, none⟩ = some (.slice (some ⟨b, off, none⟩) R.length cap) := cells_of hg4 0
    have c1 : w4.cell? ⟨b, off + p, none⟩ = some (.slice (some ⟨pb, po, none⟩) ((R[p]).es.length - 1 : Nat) pc) := ob14.cell (by rw [List.getElem?_set_self (by simp; exact hp)])
    have hpi : (p : Int) < (R.length : Int) := by omega
    have KK := Lib.hid (And.intro K1 (And.intro K2 (And.intro K4 (And.intro K5 K6))))
    have h2' : ∀ y ∈ ((R.map (·.pv)).set p (.slice (some ⟨pb, po, none⟩) ((R[p]).es.length - 1) pc)), y.oneCell' = true := fun y hy => by
      rcases List.mem_or_eq_of_mem_set hy with hy | rfl
      · exact h2 y hy
      · rfl
    clear K1 K2 K4 K5 K6 hT h4 o3 ob12 ob22 hg2 hg1 e1 ef1 h1 h2 hPV
    by_cases hlen : (R[p]).es.length = 1
    · have hz : (((R[p]).es.length - 1 : Nat) : Int) == 0 := by rw [hlen]; rfl
      have hD := HD.out
      rw [if_pos hlen] at hD
      have HD2 := Lib.hid hD
      clear hD
      rw [hlen] at c1
      go_upto_region 7 with fail
      refine wp_tl (d := .region 7 (opsC 7 Try.f14) false) (by kernel_rfl) ?_
      refine RW.wp (del7 hg4 ob14 hp hn h2' (Ne.symm hbg) ?_)
      intros
      rename_i w5 w6 o5 m5 h6
      have H6 := Lib.hid h6
      have O5 := Lib.hid (And.intro o5 m5)
      clear h6 o5 m5 c0 c1
      go_wp2
      go_ret
      have k4 : (R1[p]).es = [] := by
        rw [KK.out.2.2.1]
        exact List.length_eq_zero_iff.1 (by rw [List.length_eraseIdx, if_pos hi]; omega)
      have o5 := O5.out.1
      rw [← KK.out.2.2.2.1, ← K3] at o5
      have k1 := KK.out.1
      have k2 := KK.out.2.1
      have h6 := H6.out
      have hr : (ents (R[p]).es).eraseIdx i = [] := List.length_eq_zero_iff.1 (by rw [List.length_eraseIdx, ents_length, if_pos hi]; omega)
      rw [← K3] at k1 h6
      obtain ⟨A, q, C, rfl, rfl, hq⟩ := parts R1 p hp1
      rw [hq] at k4
      obtain ⟨d1, d2⟩ := del_end2 k1.pm rfl k4 o5 O5.out.2 h6
      rw [K3] at k1 d1
      first | refine ⟨_, _, rfl, (k1.trans d1).first M1.out, ?_⟩ | refine ⟨rfl, _, _, (k1.trans d1).first M1.out, ?_⟩
      rw [HD2.out, d2, k2, hr, List.eraseIdx_set_eq]
    · have hz : (((((R[p]).es.length - 1 : Nat) : Int)) == 0) = false := by rw [beq_eq_false_iff_ne]; omega
      have hD := HD.out
      rw [if_neg hlen, ← KK.out.2.1] at hD
      have ne1 : ∀ q ∈ R1, q.es ≠ [] := fun q hq => by
        rcases KK.out.2.2.2.2 q hq with h | h
        · have := HOK.out.ne (ents q.es) (List.mem_map_of_mem (f := fun p => ents p.es) h)
          intro e
          rw [e] at this
          exact this rfl
        · intro e
          rw [e] at h
          have := congrArg List.length h
          rw [List.length_eraseIdx, if_pos hi] at this
          simp at this
          omega
      have le1 : ∀ q ∈ R1, q.es.length ≤ 32 := fun q hq => by
        rcases KK.out.2.2.2.2 q hq with h | h
        · have := HOK.out.most (ents q.es) (List.mem_map_of_mem (f := fun p => ents p.es) h)
          rwa [ents_length] at this
        · rw [h, List.length_eraseIdx, if_pos hi]; omega
      have hn1 : R1.length ≤ 1000000 := by omega
      have hsubp : p ≠ 0 → (p : Int) - 1 = ((p - 1 : Nat) : Int) := fun h => by omega
      clear HD ob14 ob24 hg4 h2'
      by_cases hj : joinB (pgs R1) p = true
      · rw [if_pos hj] at hD
        have HD2 := Lib.hid hD
        clear hD
        have JY := Lib.hid (joins_yes KK.out.1.pm hn1 ne1 hj)
        clear ne1 le1
        go_wp2_with fail
        refine JY.out.mono ?_
        rintro e w5 ⟨rfl, vo2, R2, j1, j2⟩
        have J := Lib.hid (And.intro j1 j2)
        clear j1 j2 c0 c1
        go_wp2
        go_ret
        exact ⟨vo2, R2, rfl, (KK.out.1.trans J.out.1).first M1.out, J.out.2.trans HD2.out.symm⟩
      · rw [if_neg hj] at hD
        have JN := Lib.hid (joins_no KK.out.1.pm (p := (p : Int)) (by omega) hn1 ne1 le1 (.inr (by rw [Int.toNat_natCast]; simpa using hj)))
        by_cases hk : p ≠ 0 ∧ joinB (pgs R1) (p - 1) = true
        · rw [if_pos hk] at hD
          have HD2 := Lib.hid hD
          clear hD
          have hs := hsubp hk.1
          have JY := Lib.hid (fun (w' : World) (m : Mods noB w4 w') => joins_yes (KK.out.1.pm.keep0 m) hn1 ne1 hk.2)
          clear ne1 le1 hsubp
          go_wp2_with fail
          refine JN.out.mono ?_
          rintro e w5 ⟨rfl, m5⟩
          have J2 := Lib.hid (JY.out w5 m5)
          have M5 := Lib.hid m5
          clear m5 c0 c1
          go_wp2_with fail
          refine J2.out.mono ?_
          rintro e w6 ⟨rfl, vo2, R2, j1, j2⟩
          have J := Lib.hid (And.intro j1 j2)
          clear j1 j2
          go_wp2
          go_ret
          exact ⟨_, _, rfl, (KK.out.1.trans (J.out.1.first M5.out)).first M1.out, J.out.2.trans HD2.out.symm⟩
        · rw [if_neg hk] at hD
          have HD2 := Lib.hid hD
          clear hD
          have JY := Lib.hid (fun (w' : World) (m : Mods noB w4 w') => joins_no (KK.out.1.pm.keep0 m) (p := (p : Int) - 1) (by omega) hn1 ne1 le1 (by
            by_cases h0 : p = 0
            · left; omega
            · right
              rw [hsubp h0, Int.toNat_natCast]
              have := fun h => hk ⟨h0, h⟩
              simpa using this))
          have hs : IntKind.i64.wrap ((p : Int) - 1) = (p : Int) - 1 := IntWalk.i64_in _ (by omega)
          clear ne1 le1 hsubp
          go_wp2_with fail
          refine JN.out.mono ?_
          rintro e w5 ⟨rfl, m5⟩
          have J2 := Lib.hid (JY.out w5 m5)
          have M5 := Lib.hid m5
          clear m5 c0 c1
          go_wp2_with fail
          refine J2.out.mono ?_
          rintro e w6 ⟨rfl, m6⟩
          have M6 := Lib.hid m6
          clear m6
          go_wp2
          go_ret
          exact ⟨_, _, rfl, ((KK.out.1.then0 M5.out).then0 M6.out).first M1.out, HD2.out.symm⟩

end Go.Proofs.Ytjlomnhngngkiaa

/- page.Map: Pages; lists of ints that grow. -/
namespace Go.Proofs.Ytjlomnhngngkiaa
open Go.Gl Go.RowKit
set_option linter.unusedVariables false
set_option maxRecDepth 100000

/-- the cells of the row of the pages -/
theorem PM.rowcell {w w' : World} {g b off n cap : Nat} {R : List PV} (h : PM w g (.slice (some ⟨b, off, none⟩) n cap) R) (hm : Mods noB w w') {i : Nat} (hi : i < R.length) : w'.cell? ⟨b, off + i, none⟩ = some (R[i]).pv := by
  have := (h.keep0 hm).open
  rcases this with ⟨h1, _⟩ | ⟨b', off', cap', hv, _, _, hc⟩
  · rw [h1] at hi; simp at hi
  · cases hv
    exact hc i hi

theorem infoInt : (Try.prog.info? 3).map (fun i => (i.zero, i.size, i.bytes)) = some (some (.int .i64 0), 1, 8) := by kernel_rfl
/-- 'append(v, x)' on ints -/
theorem apI {w : World} {v : Value} {n ug uo uc : Nat} {xs ys : List Value} (hv : OwnG w 3 1 v n xs) (hu : OB w 3 1 ug uo 1 uc ys) (h1 : ∀ y ∈ ys, y.oneCell' = true) (hn : n + 1 ≤ 1000000000)
    (ops : Array Oper) (Q : Exit → Act → World → Prop) (rest : List Oper) (o : Oper) (a : Act) (s x : Operand) (hgd : o.guard = none) (ho : o.op = .call { callee := .builtin .append, args := #[s, x], argTypes := #[54, 54] }) (h2 : a.eval s = v) (h3 : a.eval x = .slice (some ⟨ug, uo, none⟩) 1 uc)
    (h : ∀ v' w', OwnG w' 3 1 v' (n + 1) (xs ++ ys) → Mods (ofV v) w w' → (v'.ownBlock = v.ownBlock ∨ freshIn w v') → wpList Try.prog ops Q rest (a.put o.dst v') w') : wpList Try.prog ops Q (o :: rest) a w := by
  obtain ⟨inf, hi, hz, hs, hb⟩ := info_parts infoInt
  refine wpList_ap (P := Try.prog) hgd ho Try.underlying54 Try.underlying54 hi hz (by rw [hs]; rfl) h2 (by rw [hs]; exact hv) h3 (by rw [hs]; exact OwnG.rd hu.own) h1 (by unfold maxLen; omega) (by rw [hb]; omega) ?_
  intro v' w' k1 k2 k3
  rw [hs] at k1
  exact h v' w' k1 k2 k3

def ints (l : List Nat) : List Value := l.map (fun n => .int .i64 (n : Nat))
theorem ints_length (l : List Nat) : (ints l).length = l.length := by simp [ints]
/-- a list of ints that has grown since w0 -/
structure IG (w0 : World) (l : List Nat) (w : World) (v : Value) : Prop where
  own : OwnG w 3 1 v l.length (ints l)
  mods : Mods noB w0 w
  fresh : freshIn w0 v
theorem IG.nil (w : World) : IG w [] w (.slice none 0 0) := ⟨⟨rfl, .inl ⟨rfl, rfl⟩⟩, Mods.refl _ _, fun k hk => by simp [Value.ownBlock] at hk⟩
theorem IG.then0 {w0 w w' : World} {l : List Nat} {v : Value} (h : IG w0 l w v) (hm : Mods noB w w') : IG w0 l w' v := ⟨h.own.keep hm (fun _ _ x => x), h.mods.then0 hm, h.fresh⟩
theorem IG.push {w0 w w1 w' : World} {l : List Nat} {v v' : Value} {n : Nat} (h : IG w0 l w v) (h1 : Mods noB w w1) (h2 : OwnG w' 3 1 v' (l.length + 1) (ints l ++ [.int .i64 (n : Nat)])) (h3 : Mods (ofV v) w1 w') (h4 : v'.ownBlock = v.ownBlock ∨ freshIn w1 v') : IG w0 (l ++ [n]) w' v' := by
  refine ⟨?_, (h.mods.then0 h1).trans h3 (fun _ _ x => x) (fun i hi hk => absurd (h.fresh i hk) (by omega)), fun k hk => ?_⟩
  · have e : ints l ++ [.int .i64 (n : Nat)] = ints (l ++ [n]) := by simp [ints]
    rw [← e, List.length_append, List.length_singleton]
    exact h2
  · rcases h4 with h4 | h4
    · exact h.fresh k (h4 ▸ hk)
    · have := h4 k hk; have := (h.mods.then0 h1).size; omega

set_option maxHeartbeats 4000000 in
theorem Pages_any {w : World} {g : Nat} {vo : Value} {R : List PV} (hm : PM w g vo R) (hn : R.length ≤ 1000000) :
    Calls Try.prog 30 #[.pointer (some ⟨g, 0, none⟩)] w fun e w' => ∃ v', e = .returned v' ∧ IG w ((pgs R).map List.length) w' v' := by
  obtain ⟨ao, cap, hvo, _⟩ := (OwnG.rd hm.row).form
  have c0 := cells_of hm.hg 0
  rw [hvo] at c0
  have HM := Lib.hid hm
  obtain ⟨n, hN⟩ : ∃ n, R.length = n := ⟨_, rfl⟩
  have HN := Lib.hid hN
  rw [hN] at c0 hn
  clear hm hN
  go_enter Try.func30, Try.ntmps30
  go_wp2
  go_loopw [3, 11] (fun v i wr => ∃ k : Nat, k ≤ n ∧ i = .int .i64 k ∧ Hid (IG w (((pgs R).map List.length).take k) wr v)) (fun _ i _ => n - (intOf i).toNat)
  case atStart => exact ⟨0, Nat.zero_le _, rfl, Lib.hid (by rw [List.take_zero]; exact IG.nil w)⟩
  case round =>
    obtain ⟨k, hk, rfl, hI⟩ := hrel
    by_cases hlt : k < n
    · have lk : k < R.length := by rw [HN.out]; exact hlt
      rcases HM.out.open with ⟨h0, _⟩ | ⟨b, off, cp, hv, _, _, _⟩
      · rw [h0] at lk; simp at lk
      obtain ⟨rfl, rfl⟩ : ao = some ⟨b, off, none⟩ ∧ cap = cp := by simpa using hvo.symm.trans hv
      subst hv
      have c1 := HM.out.rowcell hI.out.mods lk
      obtain ⟨a1, k1, e1, _⟩ := (HM.out.page (List.getElem_mem lk)).row.form
      rw [e1] at c1
      have hki : (k : Int) < (n : Int) := by omega
      have hlen : (((pgs R).map List.length).take k).length = k := by rw [List.length_take, List.length_map, pgs_length]; omega
      have htake : ((pgs R).map List.length).take (k + 1) = ((pgs R).map List.length).take k ++ [(R[k]).es.length] := by
        rw [List.take_succ_eq_append_getElem (by rw [List.length_map, pgs_length]; exact lk)]
        congr 2
        simp [pgs, ents]
      have HT := Lib.hid (And.intro hlen htake)
      generalize (R[k]).es.length = m at *

      obtain ⟨av, cv, hav, _⟩ := hI.out.own.rd.form
      rw [hlen] at hav
      subst hav
      clear hlen htake e1 c0
      go_wp2_with (at_builtin; refine stop ?_)
      unfold Stop
      refine apI (n := k) (by have := hI.out.own.keep ((Mods.refl noB wr).alloc (.cells #[.int .i64 (m : Int)] 3)) (fun _ _ x => x); rw [HT.out.1] at this; exact this) (ob_new1 (heap_new wr _)) (by simp [Value.oneCell']) (by omega) _ _ _ _ _ _ _ rfl rfl rfl rfl ?_
      intro v' w' k1 k2 k3
      have I2 := Lib.hid (hI.out.push (n := m) ((Mods.refl noB wr).alloc _) (by rw [HT.out.1]; exact k1) k2 k3)
      rw [← HT.out.2] at I2
      clear k1 k2 k3
      go_wp2
      go_roundw
      case rel => exact ⟨k + 1, by omega, by go_num, I2⟩
      case measure => simp [intOf]; omega
    · obtain rfl : k = n := by omega
      go_wp2
      go_ret
      have h := hI.out
      rw [List.take_of_length_le (by rw [List.length_map, pgs_length, HN.out]; exact Nat.le_refl _)] at h
      exact ⟨_, rfl, h⟩

end Go.Proofs.Ytjlomnhngngkiaa

/- page.Map.Copy: its drawn region (printed by gen_copy.py). -/
namespace Go.Proofs.Ytjlomnhngngkiaa
open Go.Gl Go.RowKit
set_option linter.unusedVariables false
set_option linter.unusedSimpArgs false
set_option maxRecDepth 100000

set_option maxHeartbeats 1000000 in
theorem copy5 {w : World} {h n pb po m pc : Nat} {vo vn : Value} {pvs xs : List Value} (hg : w.heap[h]? = some (.cells #[vo, vn] 61 (0, 0))) (hr : OwnG w 64 1 vo n pvs) (hp : OB w 63 2 pb po m pc xs) (h0 : ∀ y ∈ xs, y.oneCell' = true) (hm : m ≤ 1000000) (hn : n + 1 ≤ 1000000) (hvo : ¬ ofV vo h) {x0 x1 x2 x4 x6 x7 x8 x9 x10 x11 x12 x13 x14 x15 x16 x17 x18 x19 x20 x21 x22 x23 x24 x25 x26 x27 x28 x29 x30 x31 x32 x33 : Value} {df : List Deferred} {Q : Exit → Act → World → Prop}
    (hK : ∀ (y21 y22 y23 y24 y25 y26 y27 y28 y29 y30 y31 : Value) (v7 v8 : Value) (w7 w8 : World) (w' : World), OwnG w7 63 2 v7 m xs → Mods noB w w7 → freshIn w v7 → OwnG w8 64 1 v8 (n + 1) (pvs ++ [v7]) → Mods (ofV vo) w7 w8 → (v8.ownBlock = vo.ownBlock ∨ freshIn w7 v8) → w' = w8.setCell ⟨h, 0, none⟩ v8 → Q .normal ⟨#[x0, x1, x2, .pointer (some ⟨h, 0, none⟩), x4, .slice (some ⟨pb, po, none⟩) m pc, x6, x7, x8, x9, x10, x11, x12, x13, x14, x15, x16, x17, x18, x19, x20, y21, y22, y23, y24, y25, y26, y27, y28, y29, y30, y31, x32, x33], df⟩ w') : RW Try.prog (opsC 5 Try.f24) true Q ⟨#[x0, x1, x2, .pointer (some ⟨h, 0, none⟩), x4, .slice (some ⟨pb, po, none⟩) m pc, x6, x7, x8, x9, x10, x11, x12, x13, x14, x15, x16, x17, x18, x19, x20, x21, x22, x23, x24, x25, x26, x27, x28, x29, x30, x31, x32, x33], df⟩ w := by
  have HQ := Lib.hid hK
  clear hK
  have Q2 := Lib.hid (fun b' (hm : Mods (ofV vo) w b') => show b'.cell? ⟨h, 0, none⟩ = some vo from cells_of (hm.heap hg hvo) 0)
  have HA := Lib.hid hp
  have HR := Lib.hid hr
  have H0 := Lib.hid h0
  have HG := Lib.hid hg
  clear hg hr hp h0
  have MR := Lib.hid ((Mods.refl noB w).drew)
  refine rw_ordT (S := fun b' => Mods (ofV vo) w b') [(0, true), (1, true), (2, true), (3, true), (4, true), (5, true), (6, false), (7, false), (8, false), (9, false), (10, false), (11, false)] [9, 10, 11] (by kernel_rfl) (by kernel_rfl) (by kernel_rfl) (by kernel_rfl) (MR.out.mono (fun _ _ x => x.elim)) ?_
  refine wpOrdT_frees [0, 1, 2, 3] [.pointer (some ⟨h, 0, none⟩), .pointer (some ⟨h, 0, none⟩), .pointer (some ⟨h, 0, none⟩), .pointer (some ⟨h, 0, none⟩)] (rest := [(4, true), (5, true), (6, false), (7, false), (8, false), (9, false), (10, false), (11, false)]) (by kernel_rfl) (by kernel_rfl) (fun _ => by kernel_rfl) ?_
  refine wpOrdT_free (vo) (some 25) ⟨by kernel_rfl, by kernel_rfl, by kernel_rfl⟩ (fun bb hb => of_load (x := (.tmp 24)) (by kernel_rfl) (by kernel_rfl) (load_c (Q2.out _ hb) Try.underlying59 rfl)) ?_
  refine wpOrdT_frees [5] [.slice (some ⟨pb, po, none⟩) m pc] (rest := [(6, false), (7, false), (8, false), (9, false), (10, false), (11, false)]) (by kernel_rfl) (by kernel_rfl) (fun _ => by kernel_rfl) ?_
  refine wpOrdT_call (some 27) ⟨by kernel_rfl, by kernel_rfl, by kernel_rfl⟩ (Cln_any (HA.out.keep MR.out (fun x => x)) H0.out hm) (fun _ => by kernel_rfl) ?_
  rintro r w7 ⟨v7, rfl, o7, m7, f7⟩
  have f8 := f7.of MR.out.size
  replace MR := Lib.hid (MR.out.then0 m7)
  have O7 := Lib.hid (And.intro o7 (And.intro f8 MR.out))
  obtain ⟨a7, c7, rfl, _⟩ := o7.rd.form
  clear o7 m7 f7 f8
  refine ⟨_, rfl, fun _ => MR.out.mono (fun _ _ x => x.elim), ?_⟩
  refine wpOrdT_bs (.cells #[(.slice a7 m c7)] 64) 1 (some 28) ⟨by kernel_rfl, by kernel_rfl, by kernel_rfl⟩ (by kernel_rfl) ?_
  intro k1 w_k1 hk_k1 hO_k1 hm_k1 hl_k1
  have MZ := MR.out.size
  replace MR := Lib.hid (MR.out.then0 hm_k1)
  refine ⟨fun _ => (MR.out.mono (fun _ _ x => x.elim)), ?_⟩
  obtain ⟨inf, hi, hz, hs, hby⟩ := info_parts info1
  obtain ⟨v8, w8, hr8, o8, m8, f8⟩ := run_ap (P := Try.prog) 59 59 59 64 64 inf (.slice none 0 0) Try.underlying59 Try.underlying59 hi hz (by rw [hs]; rfl) (by rw [hs]; exact HR.out.keep MR.out (fun _ _ x => x)) (m := 1) (ys := [.slice a7 m c7]) (by rw [hs]; exact OwnG.rd (ob_new1 hO_k1).own) (by simp [Value.oneCell']) (by unfold maxLen; omega) (by rw [hby]; omega)
  rw [hs] at o8
  refine wpOrdT_run v8 w8 (some 29) ⟨by kernel_rfl, by kernel_rfl, by kernel_rfl⟩ (of_append (x := (.tmp 25)) (y := (.tmp 28)) (by kernel_rfl) (by kernel_rfl) (by kernel_rfl) hr8) (fun _ => MR.out.trans m8 (fun _ _ x => x.elim) (fun _ _ x => x)) ?_
  have m78 := hm_k1.trans m8 (U := ofV vo) (fun _ _ x => x.elim) (fun _ _ x => x)
  have f9 := f8.imp id (fun h => h.of hm_k1.size)
  have M8 := Lib.hid (MR.out.trans m8 (U := ofV vo) (fun _ _ x => x.elim) (fun _ _ x => x))
  have hg8 := M8.out.heap HG.out hvo
  obtain ⟨a8, c8, e8, _⟩ := o8.rd.form
  have h18 : v8.oneCell' = true := by rw [e8]; rfl
  clear e8
  refine wpOrdT_freesB [9, 10] [.pointer (some ⟨h, 0, none⟩), .pointer (some ⟨h, 0, none⟩)] (rest := [(11, false)]) (by kernel_rfl) (by kernel_rfl) (by kernel_rfl) (.inl (by kernel_rfl)) ?_
  refine wpOrdT_st1 (ty := 59) (x := (.tmp 31)) (y := (.tmp 29)) (g := h) (off := 0) (v := v8) none ⟨by kernel_rfl, by kernel_rfl, by kernel_rfl⟩ (by kernel_rfl) (by kernel_rfl) (by kernel_rfl) (by kernel_rfl) (by rw [cells_of hg8]; rfl) (free_of hg8 _) (h18) ?_
  intro w9 hw9
  refine ⟨(fun h => by first | (cases h; done) | exact trivial), ?_⟩
  exact wpOrdT_doneC (act_is (K := Q .normal) (by kernel_rfl) (HQ.out (.pointer (some ⟨h, 0, none⟩)) (.pointer (some ⟨h, 0, none⟩)) (.pointer (some ⟨h, 0, none⟩)) (.pointer (some ⟨h, 0, none⟩)) (vo) (.slice (some ⟨pb, po, none⟩) m pc) ((.slice a7 m c7)) (.slice (some ⟨k1, 0, none⟩) 1 1) (v8) (.pointer (some ⟨h, 0, none⟩)) (.pointer (some ⟨h, 0, none⟩)) (.slice a7 m c7) v8 _ w8 w9 O7.out.1 O7.out.2.2 O7.out.2.1 o8 m78 f9 hw9))

end Go.Proofs.Ytjlomnhngngkiaa

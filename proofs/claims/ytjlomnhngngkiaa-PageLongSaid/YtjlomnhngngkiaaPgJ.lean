/- page.Map: joins. -/
import Derived.Test.YtjlomnhngngkiaaPgD
namespace Go.Proofs.Ytjlomnhngngkiaa
open Go.Gl Go.RowKit
set_option linter.unusedVariables false
set_option maxRecDepth 100000

theorem PM.rowOB {w : World} {g : Nat} {vo : Value} {R : List PV} (h : PM w g vo R) (hne : R ≠ []) : ∃ b off cap, vo = .slice (some ⟨b, off, none⟩) R.length cap ∧ OB w 64 1 b off R.length cap (R.map (·.pv)) := by
  rcases h.row.ob with ⟨_, h2, _⟩ | ⟨b, off, cap, hv, ob⟩
  · exact absurd (List.length_eq_zero_iff.1 h2) hne
  · exact ⟨b, off, cap, hv, ob⟩
theorem PM.pageOB {w : World} {g : Nat} {vo : Value} {R : List PV} (h : PM w g vo R) {q : PV} (hq : q ∈ R) (hne : q.es ≠ []) : ∃ pb po pc, q.pv = .slice (some ⟨pb, po, none⟩) q.es.length pc ∧ OB w 63 2 pb po q.es.length pc (ecell q.es) := by
  rcases (h.pg q hq).ob with ⟨_, h2, _⟩ | ⟨b, off, cap, hv, ob⟩
  · exact absurd (List.length_eq_zero_iff.1 h2) hne
  · exact ⟨b, off, cap, hv, ob⟩

/-- nothing is joined -/
theorem joins_no {w : World} {g : Nat} {vo : Value} {R : List PV} (hm : PM w g vo R) {p : Int} (hb : p ≤ 1000000) (hn : R.length ≤ 1000000) (ne : ∀ q ∈ R, q.es ≠ []) (hl : ∀ q ∈ R, q.es.length ≤ 32) (hj : p < 0 ∨ joinB (pgs R) p.toNat = false) :
    Calls Try.prog 41 #[.pointer (some ⟨g, 0, none⟩), .int .i64 p] w fun e w' => e = .returned (.bool false) ∧ Mods noB w w' := by
  by_cases h0 : p < 0
  · clear hm ne hl hj
    go_enter Try.func41, Try.ntmps41
    go_upto_region 1 with fail
    refine wp_tl (d := .region 1 (opsC 1 Try.f41) true) (by kernel_rfl) ?_
    refine RW.wp (join1n h0 ?_)
    intros
    rename_i m
    go_wp2
    go_ret
    exact ⟨rfl, m⟩
  have hj := hj.resolve_left h0
  obtain ⟨p, rfl⟩ := Int.eq_ofNat_of_zero_le (show 0 ≤ p by omega)
  rw [Int.toNat_natCast] at hj
  by_cases h1 : p + 1 < R.length
  · obtain ⟨b, off, cap, rfl, ob⟩ := hm.rowOB (fun e => by rw [e] at h1; simp at h1)
    have hp : p < R.length := by omega
    obtain ⟨pb, po, pc, e1, ob1⟩ := hm.pageOB (List.getElem_mem hp) (ne _ (List.getElem_mem hp))
    obtain ⟨qb, qo, qc, e2, ob2⟩ := hm.pageOB (List.getElem_mem h1) (ne _ (List.getElem_mem h1))
    have l1 := hl _ (List.getElem_mem hp)
    have l2 := hl _ (List.getElem_mem h1)
    have k1 : (R.map (·.pv))[p]? = some (.slice (some ⟨pb, po, none⟩) (R[p]).es.length pc) := by rw [← e1]; simp [hp]
    have k2 : (R.map (·.pv))[p + 1]? = some (.slice (some ⟨qb, qo, none⟩) (R[p + 1]).es.length qc) := by rw [← e2]; simp [h1]
    have hs : ¬ (R[p]).es.length + (R[p + 1]).es.length ≤ 16 := by
      unfold joinB at hj
      rw [pgs_length, pgs_getD hp, pgs_getD h1, ents_length, ents_length, decide_eq_true h1, Bool.true_and] at hj
      exact of_decide_eq_false hj
    have hg := hm.hg
    clear hm hl hj ne ob1 ob2 e1 e2
    generalize (R[p]).es.length = m1 at *
    generalize (R[p + 1]).es.length = m2 at *
    go_enter Try.func41, Try.ntmps41
    go_upto_region 1 with fail
    refine wp_tl (d := .region 1 (opsC 1 Try.f41) true) (by kernel_rfl) ?_
    refine RW.wp (join1f hg ob h1 hn k1 k2 (by omega) (by omega) hs ?_)
    intros
    rename_i m
    go_wp2
    go_ret
    exact ⟨rfl, m⟩
  · rcases hm.row.ob with ⟨h2, h3, _⟩ | ⟨b, off, cap, rfl, ob⟩
    · have hR : R = [] := List.length_eq_zero_iff.1 h3
      subst hR h2
      have hg := hm.hg
      clear hm
      go_enter Try.func41, Try.ntmps41
      go_upto_region 1 with fail
      refine wp_tl (d := .region 1 (opsC 1 Try.f41) true) (by kernel_rfl) ?_
      refine RW.wp (join1e hg (by omega) ?_)
      intros
      rename_i m
      go_wp2
      go_ret
      exact ⟨rfl, m⟩
    have hg := hm.hg
    clear hm
    go_enter Try.func41, Try.ntmps41
    go_upto_region 1 with fail
    refine wp_tl (d := .region 1 (opsC 1 Try.f41) true) (by kernel_rfl) ?_
    refine RW.wp (join1l hg (by omega) (by omega) ?_)
    intros
    rename_i m
    go_wp2
    go_ret
    exact ⟨rfl, m⟩

theorem parts2 {α : Type} (R : List α) (p : Nat) (hp : p + 1 < R.length) : ∃ A q r C, R = A ++ [q, r] ++ C ∧ A.length = p ∧ R[p] = q ∧ R[p + 1] = r := by
  obtain ⟨A, q, C, rfl, rfl, hq⟩ := parts R p (by omega)
  cases C with
  | nil => simp at hp
  | cons r C => exact ⟨A, q, r, C, by simp, rfl, hq, by simp⟩

theorem join_end {w w3 w7 w8 w' : World} {g b off n cap : Nat} {A C : List PV} {q r : PV} {v7 : Value} (hm : PM w g (.slice (some ⟨b, off, none⟩) n cap) (A ++ [q, r] ++ C)) (hn : n = (A ++ [q, r] ++ C).length)
    (o7 : OwnG w7 63 2 v7 (q.es.length + r.es.length) (ecell q.es ++ ecell r.es)) (m7 : Mods noB w w7) (f7 : freshIn w v7) (h3 : w3 = w7.setCell ⟨b, off + A.length, none⟩ v7)
    (o8 : OB w8 64 1 b off (n - 1) cap ((((A ++ [q, r] ++ C).map (·.pv)).set A.length v7).take ((A.length + 1) * 1) ++ (((A ++ [q, r] ++ C).map (·.pv)).set A.length v7).drop ((A.length + 1 + 1) * 1))) (m8 : Mods (fun k => k = b) w3 w8)
    (h' : w' = w8.setCell ⟨g, 0, none⟩ (.slice (some ⟨b, off, none⟩) (n - 1 : Nat) cap)) :
    PT w w' g (.slice (some ⟨b, off, none⟩) n cap) (A ++ [q, r] ++ C) (.slice (some ⟨b, off, none⟩) (n - 1 : Nat) cap) (A ++ [⟨v7, q.es ++ r.es⟩] ++ C) ∧ pgs (A ++ [⟨v7, q.es ++ r.es⟩] ++ C) = joinP (pgs (A ++ [q, r] ++ C)) A.length := by
  subst hn
  have inq : q ∈ A ++ [q, r] ++ C := by simp
  have hgl : g < w.heap.size := lt_of_heap hm.hg
  have hbg : b ≠ g := fun e => hm.sep1 (by rw [e]; rfl)
  have hbl : b < w.heap.size := hm.row.lt b rfl
  have m3 : Mods (fun k => k = b) w7 w3 := by rw [h3]; exact (Mods.refl (fun k => k = b) w7).setCell (p := ⟨b, off + A.length, none⟩) (.inl rfl) v7
  have m38 := m3.trans m8 (U := fun k => k = b) (fun _ _ x => x) (fun _ _ x => x)
  have hg8 := m38.heap (m7.heap hm.hg (fun x => x)) (Ne.symm hbg)
  have m' : Mods (fun k => k = g) w8 w' := by rw [h']; exact (Mods.refl (fun k => k = g) w8).setCell (p := ⟨g, 0, none⟩) (.inl rfl) _
  have hg' : w'.heap[g]? = some (.cells #[.slice (some ⟨b, off, none⟩) ((A ++ [q, r] ++ C).length - 1 : Nat) cap, .int .i64 (cnt (pgs (A ++ [q, r] ++ C)) : Nat)] 61 (0, 0)) := by rw [h']; exact heap_set hg8 0 _
  have o' := o8.keep m' hbg
  have p7 := (o7.keep m38 (fun k hk e => by have := f7 k hk; omega)).keep m' (fun k hk e => by have := f7 k hk; omega)
  have hT : Mods (fun k => k = g ∨ (Value.slice (some ⟨b, off, none⟩) (A ++ [q, r] ++ C).length cap).ownBlock = some k ∨ ∃ s ∈ [q, r], s.pv.ownBlock = some k) w w' :=
    (m7.trans m38 (U := fun k => k = b) (fun _ _ x => x.elim) (fun _ _ x => x)).trans m' (fun k _ hk => .inr (.inl (by rw [hk]; rfl))) (fun k _ hk => .inl hk)
  have hl : A.length = (A.map (·.pv)).length := by simp
  have eR : (((A ++ [q, r] ++ C).map (·.pv)).set A.length v7) = A.map (·.pv) ++ [v7] ++ ([r.pv] ++ C.map (·.pv)) := by
    rw [show A ++ [q, r] ++ C = A ++ [q] ++ ([r] ++ C) from by simp, List.map_append, List.map_append, hl]
    rw [List.map_cons, List.map_nil, set_parts]
    simp
  have eT : (A.map (·.pv) ++ [v7]).length = (A.length + 1) * 1 := by simp
  have eT2 : (A.map (·.pv) ++ [v7] ++ [r.pv]).length = (A.length + 1 + 1) * 1 := by simp
  have eD : (A.map (·.pv) ++ [v7] ++ ([r.pv] ++ C.map (·.pv))).drop ((A.length + 1 + 1) * 1) = C.map (·.pv) := by
    rw [← List.append_assoc]
    exact List.drop_left' eT2
  rw [eR, List.take_left' eT, eD] at o'
  have up := PM.upd (vo' := .slice (some ⟨b, off, none⟩) ((A ++ [q, r] ++ C).length - 1 : Nat) cap) (A := A) (B := [q, r]) (C := C) (N := [⟨v7, q.es ++ r.es⟩]) (X := fun _ => False) hm hT
    (by
      rw [hg', cnt_parts, cnt_parts, cnt_one]
      have : cnt (pgs [q, r]) = (q.es ++ r.es).length := by rw [pgs_cons, pgs_single, cnt_cons, cnt_cons, cnt_nil, ents_length, ents_length, List.length_append, Nat.add_zero]
      rw [this])
    (by
      have e1 : (A ++ [(⟨v7, q.es ++ r.es⟩ : PV)] ++ C).length = (A ++ [q, r] ++ C).length - 1 := by simp
      rw [e1, List.map_append, List.map_append]
      exact o'.own)
    (.inl rfl)
    (by
      intro s hs
      rw [List.mem_singleton.1 hs]
      refine ⟨?_, .inr f7⟩
      show OwnG _ _ 2 v7 (q.es ++ r.es).length _
      rw [List.length_append, ecell_append]
      exact p7)
    (by
      intro s hs k hk hk2
      rw [List.mem_singleton.1 hs] at hk
      have := f7 k hk
      simp [Value.ownBlock] at hk2
      omega)
    (List.pairwise_singleton _ _)
    (by
      intro s hs e he
      rw [List.mem_singleton.1 hs] at he
      rcases List.mem_append.1 he with he | he
      · exact .inl ⟨q, by simp, he⟩
      · exact .inl ⟨r, by simp, he⟩)
  refine ⟨⟨up.1, hT.mono (fun k _ hk => ?_), up.2.1, fun k hk => (up.2.2 k hk).imp id (fun x => x.elim)⟩, ?_⟩
  · rcases hk with h | h | ⟨s, hs, h⟩
    · exact .inl h
    · exact .inr (.inl h)
    · exact .inr (.inr ⟨s, List.mem_append_left _ (List.mem_append_right _ hs), h⟩)
  · have hlen : A.length = (pgs A).length := (pgs_length A).symm
    unfold joinP
    have h1 : (pgs (A ++ [q, r] ++ C)).getD A.length [] = ents q.es := by rw [pgs_getD (by simp)]; simp
    have h2 : (pgs (A ++ [q, r] ++ C)).getD (A.length + 1) [] = ents r.es := by rw [pgs_getD (by simp)]; simp
    rw [h1, h2, pgs_append, pgs_append, pgs_append, pgs_append, hlen, List.append_assoc (pgs A) (pgs [q, r]) (pgs C), List.take_left', ← List.append_assoc, pgs_single, ents_append]
    · rw [List.drop_left' (by simp [pgs])]
    · rfl

/-- two pages are joined -/
theorem joins_yes {w : World} {g : Nat} {vo : Value} {R : List PV} (hm : PM w g vo R) {p : Nat} (hn : R.length ≤ 1000000) (ne : ∀ q ∈ R, q.es ≠ []) (hj : joinB (pgs R) p = true) :
    Calls Try.prog 41 #[.pointer (some ⟨g, 0, none⟩), .int .i64 p] w fun e w' => e = .returned (.bool true) ∧ ∃ vo' R', PT w w' g vo R vo' R' ∧ pgs R' = joinP (pgs R) p := by
  unfold joinB at hj
  rw [Bool.and_eq_true, decide_eq_true_eq, decide_eq_true_eq, pgs_length] at hj
  obtain ⟨h1, hs⟩ := hj
  obtain ⟨b, off, cap, rfl, ob⟩ := hm.rowOB (fun e => by rw [e] at h1; simp at h1)
  have hp : p < R.length := by omega
  rw [pgs_getD hp, pgs_getD h1, ents_length, ents_length] at hs
  obtain ⟨pb, po, pc, e1, ob1⟩ := hm.pageOB (List.getElem_mem hp) (ne _ (List.getElem_mem hp))
  obtain ⟨qb, qo, qc, e2, ob2⟩ := hm.pageOB (List.getElem_mem h1) (ne _ (List.getElem_mem h1))
  have k1 : (R.map (·.pv))[p]? = some (.slice (some ⟨pb, po, none⟩) (R[p]).es.length pc) := by rw [← e1]; simp [hp]
  have k2 : (R.map (·.pv))[p + 1]? = some (.slice (some ⟨qb, qo, none⟩) (R[p + 1]).es.length qc) := by rw [← e2]; simp [h1]
  have hg := hm.hg
  have c1 := ecell_one (hm.ents _ (List.getElem_mem hp))
  have c2 := ecell_one (hm.ents _ (List.getElem_mem h1))
  have c3 := pv_one hm
  have hbg : b ≠ g := fun e => hm.sep1 (by rw [e]; rfl)
  have hm0 : 0 < (R[p]).es.length := List.length_pos_iff.2 (ne _ (List.getElem_mem hp))
  have HM := Lib.hid hm
  clear hm ne
  go_enter Try.func41, Try.ntmps41
  go_upto_region 1 with fail
  refine wp_tl (d := .region 1 (opsC 1 Try.f41) true) (by kernel_rfl) ?_
  refine RW.wp (join1y hg ob h1 hn k1 k2 (by omega) (by omega) hs ?_)
  intros
  rename_i w1 m1
  go_upto_region 3 with fail
  refine wp_tl (d := .region 3 (opsC 3 Try.f41) true) (by kernel_rfl) ?_
  refine RW.wp (join3 (m1.heap hg (fun x => x)) (ob.keep m1 (fun x => x)) h1 hn k1 k2 (ob1.keep m1 (fun x => x)) (ob2.keep m1 (fun x => x)) c1 c2 hm0 (by omega) ?_)
  intros
  rename_i v7 w7 w3 o7 m7 f7 v71 h3
  have hbl : b < w.heap.size := ob.lt
  have hs1 := m1.size
  have mb : Mods (fun k => k = b) w7 w3 := by rw [h3]; exact (Mods.refl (fun k => k = b) w7).setCell (p := ⟨b, off + p, none⟩) (.inl rfl) v7
  have hg3 := mb.heap (m7.heap (m1.heap hg (fun x => x)) (fun x => x)) (Ne.symm hbg)
  have ob3 : OB w3 64 1 b off R.length cap ((R.map (·.pv)).set p v7) := by rw [h3]; exact ob_set1 ((ob.keep m1 (fun x => x)).keep m7 (fun x => x)) hp v7
  go_upto_region 4 with fail
  refine wp_tl (d := .region 4 (opsC 4 Try.f41) false) (by kernel_rfl) ?_
  refine RW.wp (join4 hg3 ob3 h1 hn (fun y hy => by
    rcases List.mem_or_eq_of_mem_set hy with hy | rfl
    · exact c3 y hy
    · exact v71) (Ne.symm hbg) ?_)
  intros
  rename_i w8 w9 o8 m8 h9
  have H9 := Lib.hid h9
  clear hg3 ob3 c1 c2 c3 hg k1 k2 ob ob1 ob2 e1 e2 hs hbg h9
  go_wp2
  go_ret
  obtain ⟨A, q, r, C, rfl, rfl, hq, hr⟩ := parts2 R p h1
  rw [hq, hr] at o7
  obtain ⟨p1, p2⟩ := join_end (HM.out.keep0 m1) rfl o7 m7 f7 h3 o8 m8 H9.out
  exact ⟨rfl, _, _, p1.first m1, p2⟩

end Go.Proofs.Ytjlomnhngngkiaa

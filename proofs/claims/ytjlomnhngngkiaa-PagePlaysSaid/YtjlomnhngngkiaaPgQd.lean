/- gleanref5.Map: join, Delete. -/
import Derived.Test.YtjlomnhngngkiaaPgQs
import Derived.Test.YtjlomnhngngkiaaZC
namespace Go.Proofs.Ytjlomnhngngkiaa
open Go.Gl Go.RowKit
set_option linter.unusedVariables false
set_option maxRecDepth 100000

/-- another row stands in a page's place -/
theorem QM.setpage {w w' : World} {g b off n cap : Nat} {A C : List PV} {q : PV} {v : Value} {es : List EV} (hm : QM w g (.slice (some ⟨b, off, none⟩) n cap) (A ++ [q] ++ C)) (o : OwnG w 52 2 v es.length (ecell es))
    (hv : ∀ k, v.ownBlock = some k → ¬ MS g (.slice (some ⟨b, off, none⟩) n cap) (A ++ [q] ++ C) k ∧ ¬ MD (A ++ [q] ++ C) k)
    (hE : ∀ e ∈ es, E1 w e ∧ ∀ k, (e.kv.ownBlock = some k ∨ e.vv.ownBlock = some k) → k < w.heap.size ∧ ¬ MS g (.slice (some ⟨b, off, none⟩) n cap) (A ++ [q] ++ C) k ∧ v.ownBlock ≠ some k) (e : w' = w.setCell ⟨b, off + A.length, none⟩ v) :
    QM w' g (.slice (some ⟨b, off, none⟩) n cap) (A ++ [⟨v, es⟩] ++ C) ∧ Mods (MS g (.slice (some ⟨b, off, none⟩) n cap) (A ++ [q] ++ C)) w w' ∧ (∀ k, MS g (.slice (some ⟨b, off, none⟩) n cap) (A ++ [⟨v, es⟩] ++ C) k → MS g (.slice (some ⟨b, off, none⟩) n cap) (A ++ [q] ++ C) k ∨ v.ownBlock = some k) ∧
      (∀ k, MD (A ++ [⟨v, es⟩] ++ C) k → MD (A ++ [q] ++ C) k ∨ ∃ e ∈ es, e.kv.ownBlock = some k ∨ e.vv.ownBlock = some k) := by
  have ob := OwnG.obp hm.row
  have hn : (A ++ [q] ++ C).length = n := by
    rcases hm.open with ⟨h0, _⟩ | ⟨b', off', cap', hv', _⟩
    · simp at h0
    · cases hv'; rfl
  have hbS : MS g (.slice (some ⟨b, off, none⟩) n cap) (A ++ [q] ++ C) b := .inr (.inl rfl)
  have hbg : b ≠ g := fun e => hm.sep1 (by rw [e]; rfl)
  have m2 : Mods (fun k => k = b) w w' := by rw [e]; exact (Mods.refl (fun k => k = b) w).setCell (p := ⟨b, off + A.length, none⟩) (.inl rfl) v
  have inA : ∀ p, p ∈ A ∨ p ∈ C → p ∈ A ++ [q] ++ C := fun p hp => by
    rw [List.mem_append, List.mem_append]
    rcases hp with hp | hp
    · exact .inl (.inl hp)
    · exact .inr hp
  have mem' : ∀ p, p ∈ A ++ [(⟨v, es⟩ : PV)] ++ C → (p ∈ A ∨ p ∈ C) ∨ p = ⟨v, es⟩ := fun p hp => by
    rw [List.mem_append, List.mem_append, List.mem_singleton] at hp
    rcases hp with (hp | hp) | hp
    · exact .inl (.inl hp)
    · exact .inr hp
    · exact .inl (.inr hp)
  have ms' : ∀ k, MS g (.slice (some ⟨b, off, none⟩) n cap) (A ++ [⟨v, es⟩] ++ C) k → MS g (.slice (some ⟨b, off, none⟩) n cap) (A ++ [q] ++ C) k ∨ v.ownBlock = some k := by
    rintro k (rfl | hk | ⟨p, hp, hk⟩)
    · exact .inl (.inl rfl)
    · exact .inl (.inr (.inl hk))
    · rcases mem' p hp with hp | rfl
      · exact .inl (.inr (.inr ⟨p, inA p hp, hk⟩))
      · exact .inr hk
  have md' : ∀ k, MD (A ++ [⟨v, es⟩] ++ C) k → MD (A ++ [q] ++ C) k ∨ ∃ e ∈ es, e.kv.ownBlock = some k ∨ e.vv.ownBlock = some k := by
    rintro k ⟨p, hp, x, hx, hk⟩
    rcases mem' p hp with hp | rfl
    · exact .inl ⟨p, inA p hp, x, hx, hk⟩
    · exact .inr ⟨x, hx, hk⟩
  have hs3 := hm.sep3
  rw [List.pairwise_append, List.pairwise_append] at hs3
  obtain ⟨⟨sA, _, sAq⟩, sC, sAC⟩ := hs3
  have hvo : ∀ p, p ∈ A ∨ p ∈ C → ∀ k, v.ownBlock = some k → p.pv.ownBlock ≠ some k := fun p hp k hk hk2 => (hv k hk).1 (.inr (.inr ⟨p, inA p hp, hk2⟩))
  refine ⟨⟨m2.heap hm.hg (Ne.symm hbg), ?_, ?_, ?_, hm.sep1, ?_, ?_, ?_, ?_⟩, m2.mono (fun k _ hk => by rw [hk]; exact hbS), ms', md'⟩
  · have e1 : (A ++ [(⟨v, es⟩ : PV)] ++ C).length = (A ++ [q] ++ C).length := by simp
    have e2 : (A ++ [(⟨v, es⟩ : PV)] ++ C).map (·.pv) = ((A ++ [q] ++ C).map (·.pv)).set A.length v := by
      rw [← List.map_set (f := (·.pv)) (l := A ++ [q] ++ C) (i := A.length) (a := (⟨v, es⟩ : PV)), set_parts]
    rw [e1, e2, e, hn]
    have := ob_set1 ob (p := A.length) (by simp) v
    rw [hn] at this
    exact this.own
  · intro p hp
    rcases mem' p hp with hp | rfl
    · exact (hm.pg p (inA p hp)).keep m2 (fun k hk e => (hm.sep2 p (inA p hp)).2 k hk (by rw [e]; rfl))
    · exact o.keep m2 (fun k hk e => (hv k hk).1 (by rw [e]; exact hbS))
  · intro p hp x hx
    rcases mem' p hp with hp | rfl
    · exact (hm.ents p (inA p hp) x hx).keep m2 (fun k hk e => hm.data k ⟨p, inA p hp, x, hx, hk⟩ (by rw [e]; exact hbS))
    · exact (hE x hx).1.keep m2 (fun k hk e => ((hE x hx).2 k hk).2.1 (by rw [e]; exact hbS))
  · intro p hp
    rcases mem' p hp with hp | rfl
    · exact hm.sep2 p (inA p hp)
    · exact ⟨fun h => (hv g h).1 (.inl rfl), fun k hk h => (hv k hk).1 (.inr (.inl h))⟩
  · rw [List.pairwise_append, List.pairwise_append]
    refine ⟨⟨sA, List.pairwise_singleton _ _, fun p hp r hr k hk hk2 => ?_⟩, sC, fun p hp r hr k hk hk2 => ?_⟩
    · rw [List.mem_singleton.1 hr] at hk2
      exact hvo p (.inl hp) k hk2 hk
    · rw [List.mem_append, List.mem_singleton] at hp
      rcases hp with hp | rfl
      · exact sAC p (List.mem_append_left _ hp) r hr k hk hk2
      · exact hvo r (.inr hr) k hk hk2
  · intro k hk hms
    rcases md' k hk with h1 | ⟨x, hx, h1⟩
    · rcases ms' k hms with h2 | h2
      · exact hm.data k h1 h2
      · exact (hv k h2).2 h1
    · obtain ⟨_, k1, k2⟩ := (hE x hx).2 k h1
      rcases ms' k hms with h2 | h2
      · exact k1 h2
      · exact k2 h2
  · intro k hk
    rcases md' k hk with h1 | ⟨x, hx, h1⟩
    · exact Nat.lt_of_lt_of_le (hm.dlt k h1) m2.size
    · exact Nat.lt_of_lt_of_le ((hE x hx).2 k h1).1 m2.size

/-- .. a row that was made behind w -/
theorem QM.setfresh {w w1 w' : World} {g b off n cap : Nat} {A C : List PV} {q : PV} {v : Value} {es : List EV} (hm : QM w g (.slice (some ⟨b, off, none⟩) n cap) (A ++ [q] ++ C)) (m : Mods noB w w1) (o : OwnG w1 52 2 v es.length (ecell es)) (f : freshIn w v) (hE : ∀ e ∈ es, e ∈ q.es)
    (e : w' = w1.setCell ⟨b, off + A.length, none⟩ v) : QT w w' g (.slice (some ⟨b, off, none⟩) n cap) (A ++ [q] ++ C) (.slice (some ⟨b, off, none⟩) n cap) (A ++ [⟨v, es⟩] ++ C) := by
  have hin : q ∈ A ++ [q] ++ C := by simp
  obtain ⟨p1, p2, p3, p4⟩ := QM.setpage (hm.keep0 m) o (fun k hk => ⟨fun h => by have := hm.lt k h; have := f k hk; omega, fun h => by have := hm.dlt k h; have := f k hk; omega⟩) (fun x hx => ⟨((hm.ents q hin) x (hE x hx)).keep m (fun _ _ x => x), fun k hk => by
    have hd : MD (A ++ [q] ++ C) k := ⟨q, hin, x, hE x hx, hk⟩
    have h1 := hm.dlt k hd
    exact ⟨Nat.lt_of_lt_of_le h1 m.size, hm.data k hd, fun h => by have := f k h; omega⟩⟩) e
  refine ⟨p1, m.trans p2 (fun _ _ x => x.elim) (fun _ _ x => x), fun k hk => (p3 k hk).imp id (f k), fun k hk => ?_⟩
  rcases p4 k hk with h | ⟨x, hx, h⟩
  · exact .inl h
  · exact .inl ⟨q, hin, x, hE x hx, h⟩

theorem rdL_nil (w : World) : RdL w (.slice none 0 0) [] := ⟨⟨rfl, .inl ⟨.nil, rfl⟩⟩, fun p hp => (List.not_mem_nil hp).elim⟩

theorem QM.rowOB {w : World} {g : Nat} {vo : Value} {R : List PV} (h : QM w g vo R) (hne : R ≠ []) : ∃ b off cap, vo = .slice (some ⟨b, off, none⟩) R.length cap ∧ OB w 44 1 b off R.length cap (R.map (·.pv)) := by
  rcases h.row.ob with ⟨_, h2, _⟩ | ⟨b, off, cap, hv, ob⟩
  · exact absurd (List.length_eq_zero_iff.1 h2) hne
  · exact ⟨b, off, cap, hv, ob⟩
theorem QM.pageOB {w : World} {g : Nat} {vo : Value} {R : List PV} (h : QM w g vo R) {q : PV} (hq : q ∈ R) (hne : q.es ≠ []) : ∃ pb po pc, q.pv = .slice (some ⟨pb, po, none⟩) q.es.length pc ∧ OB w 52 2 pb po q.es.length pc (ecell q.es) := by
  rcases (h.pg q hq).ob with ⟨_, h2, _⟩ | ⟨b, off, cap, hv, ob⟩
  · exact absurd (List.length_eq_zero_iff.1 h2) hne
  · exact ⟨b, off, cap, hv, ob⟩

set_option maxHeartbeats 4000000 in
/-- nothing is joined -/
theorem rjoin_no {w : World} {g : Nat} {vo : Value} {R : List PV} (hm : QM w g vo R) (hR : R ≠ []) {p : Int} (hb0 : -1 ≤ p) (hb : p ≤ 1000000) (hn : R.length ≤ 1000000) (ne : ∀ q ∈ R, q.es ≠ []) (hl : ∀ q ∈ R, q.es.length ≤ 32) (hj : p < 0 ∨ joinB (pgs R) p.toNat = false) :
    Calls Try.prog 42 #[.pointer (some ⟨g, 0, none⟩), .int .i64 p] w fun e w' => e = .returned (.bool false) ∧ Mods noB w w' := by
  by_cases h0 : p < 0
  · clear hm ne hl hj
    go_enter Try.func42, Try.ntmps42
    go_upto_region 1 with fail
    refine wp_tl (d := .region 1 (opsC 1 Try.f42) true) (by kernel_rfl) ?_
    refine RW.wp (rjoin1neg h0 ?_)
    intros
    rename_i m
    go_wp2
    go_ret
    exact ⟨rfl, m⟩
  have hj := hj.resolve_left h0
  obtain ⟨p, rfl⟩ := Int.eq_ofNat_of_zero_le (show 0 ≤ p by omega)
  rw [Int.toNat_natCast] at hj
  obtain ⟨b, off, cap, rfl, ob⟩ := hm.rowOB hR
  by_cases h1 : p + 1 < R.length
  · have hp : p < R.length := by omega
    obtain ⟨pb, po, pc, e1, ob1⟩ := hm.pageOB (List.getElem_mem hp) (ne _ (List.getElem_mem hp))
    obtain ⟨qb, qo, qc, e2, ob2⟩ := hm.pageOB (List.getElem_mem h1) (ne _ (List.getElem_mem h1))
    have l1 := hl _ (List.getElem_mem hp)
    have l2 := hl _ (List.getElem_mem h1)
    have k1 : (R.map (·.pv))[p]? = some (.slice (some ⟨pb, po, none⟩) (R[p]).es.length pc) := by rw [← e1]; simp [hp]
    have k2 : (R.map (·.pv))[p + 1]? = some (.slice (some ⟨qb, qo, none⟩) (R[p + 1]).es.length qc) := by rw [← e2]; simp [h1]
    have hs : ¬ (R[p]).es.length + (R[p + 1]).es.length ≤ 16 := by
      unfold joinB at hj
      rw [pgs_length, pgs_getD hp, pgs_getD h1, ents_length, ents_length, decide_eq_true h1, Bool.true_and] at hj
      exact of_decide_eq_false hj
    have hg := hm.hg
    clear hm hl hj ne ob1 ob2 e1 e2
    generalize (R[p]).es.length = m1 at *
    generalize (R[p + 1]).es.length = m2 at *
    go_enter Try.func42, Try.ntmps42
    go_upto_region 1 with fail
    refine wp_tl (d := .region 1 (opsC 1 Try.f42) true) (by kernel_rfl) ?_
    refine RW.wp (rjoin1full hg ob h1 hn k1 k2 (by omega) (by omega) hs ?_)
    intros
    rename_i m
    go_wp2
    go_ret
    exact ⟨rfl, m⟩
  · have hg := hm.hg
    clear hm
    go_enter Try.func42, Try.ntmps42
    go_upto_region 1 with fail
    refine wp_tl (d := .region 1 (opsC 1 Try.f42) true) (by kernel_rfl) ?_
    refine RW.wp (rjoin1last (pvs := []) hg (by omega) (by omega) ?_)
    intros
    rename_i m
    go_wp2
    go_ret
    exact ⟨rfl, m⟩

/-- two pages have become one -/
theorem rjoin_end {w w3 w4 w' : World} {g b off n cap : Nat} {vo : Value} {A C : List PV} {q r : PV} {v8 : Value} (hm : QM w g vo (A ++ [q, r] ++ C)) (m3 : Mods noB w w3) (o8 : OwnG w3 52 2 v8 (q.es.length + r.es.length) (ecell q.es ++ ecell r.es)) (f8 : freshIn w v8)
    (t : QT w3 w4 g vo (A ++ [q, r] ++ C) (.slice (some ⟨b, off, none⟩) n cap) (A ++ [q] ++ C)) (e : w' = w4.setCell ⟨b, off + A.length, none⟩ v8) :
    QT w w' g vo (A ++ [q, r] ++ C) (.slice (some ⟨b, off, none⟩) n cap) (A ++ [⟨v8, q.es ++ r.es⟩] ++ C) ∧ pgs (A ++ [⟨v8, q.es ++ r.es⟩] ++ C) = joinP (pgs (A ++ [q, r] ++ C)) A.length := by
  have s3 := m3.size
  have s4 := t.mods.size
  have h8 : ∀ k, v8.ownBlock = some k → w.heap.size ≤ k ∧ k < w3.heap.size := fun k hk => ⟨f8 k hk, o8.lt k hk⟩
  have nms : ∀ k, v8.ownBlock = some k → ¬ MS g vo (A ++ [q, r] ++ C) k := fun k hk h => by have := hm.lt k h; have := h8 k hk; omega
  have hd : ∀ x ∈ q.es ++ r.es, ∀ k, (x.kv.ownBlock = some k ∨ x.vv.ownBlock = some k) → MD (A ++ [q, r] ++ C) k := fun x hx k hk => by
    rcases List.mem_append.1 hx with hx | hx
    · exact ⟨q, by simp, x, hx, hk⟩
    · exact ⟨r, by simp, x, hx, hk⟩
  have he : ∀ x ∈ q.es ++ r.es, E1 w x := fun x hx => by
    rcases List.mem_append.1 hx with hx | hx
    · exact hm.ents q (by simp) x hx
    · exact hm.ents r (by simp) x hx
  obtain ⟨p1, p2, p3, p4⟩ := QM.setpage (es := q.es ++ r.es) t.pm (by rw [List.length_append, ecell_append]; exact o8.keep t.mods (fun k hk h => nms k hk h)) (fun k hk => ⟨fun h => by
      rcases t.ms k h with h | h
      · exact nms k hk h
      · have := h8 k hk; omega, fun h => by
      rcases t.md k h with h | h
      · have := hm.dlt k h; have := h8 k hk; omega
      · have := h8 k hk; omega⟩) (fun x hx => ⟨((he x hx).keep m3 (fun _ _ x => x)).keep t.mods (fun k hk h => hm.data k (hd x hx k hk) h), fun k hk => by
      have h1 := hm.dlt k (hd x hx k hk)
      refine ⟨by omega, fun h => ?_, fun h => by have := h8 k h; omega⟩
      rcases t.ms k h with h | h
      · exact hm.data k (hd x hx k hk) h
      · omega⟩) e
  refine ⟨⟨p1, ?_, fun k hk => ?_, fun k hk => ?_⟩, ?_⟩
  · refine (m3.trans t.mods (U := MS g vo (A ++ [q, r] ++ C)) (fun _ _ x => x.elim) (fun _ _ x => x)).trans p2 (fun _ _ x => x) (fun i hi h => ?_)
    rcases t.ms i h with h | h
    · exact h
    · omega
  · rcases p3 k hk with h | h
    · rcases t.ms k h with h | h
      · exact .inl h
      · exact .inr (by omega)
    · exact .inr (f8 k h)
  · rcases p4 k hk with h | ⟨x, hx, h⟩
    · rcases t.md k h with h | h
      · exact .inl h
      · exact .inr (by omega)
    · exact .inl (hd x hx k h)
  · have hlen : A.length = (pgs A).length := (pgs_length A).symm
    unfold joinP
    have h1 : (pgs (A ++ [q, r] ++ C)).getD A.length [] = ents q.es := by rw [pgs_getD (by simp)]; simp
    have h2 : (pgs (A ++ [q, r] ++ C)).getD (A.length + 1) [] = ents r.es := by rw [pgs_getD (by simp)]; simp
    rw [h1, h2, pgs_append, pgs_append, pgs_append, pgs_append, hlen, List.append_assoc (pgs A) (pgs [q, r]) (pgs C), List.take_left', ← List.append_assoc, pgs_single, ents_append]
    · rw [List.drop_left' (by simp [pgs])]
    · rfl

set_option maxHeartbeats 4000000 in
/-- two pages are joined -/
theorem rjoin_yes {w : World} {g : Nat} {vo : Value} {R : List PV} (hm : QM w g vo R) {p : Nat} (hn : R.length ≤ 1000000) (ne : ∀ q ∈ R, q.es ≠ []) (hj : joinB (pgs R) p = true) :
    Calls Try.prog 42 #[.pointer (some ⟨g, 0, none⟩), .int .i64 p] w fun e w' => e = .returned (.bool true) ∧ ∃ vo' R', QT w w' g vo R vo' R' ∧ pgs R' = joinP (pgs R) p := by
  unfold joinB at hj
  rw [Bool.and_eq_true, decide_eq_true_eq, decide_eq_true_eq, pgs_length] at hj
  obtain ⟨h1, hs⟩ := hj
  obtain ⟨b, off, cap, hvo, ob⟩ := hm.rowOB (fun e => by rw [e] at h1; simp at h1)
  have hp : p < R.length := by omega
  rw [pgs_getD hp, pgs_getD h1, ents_length, ents_length] at hs
  obtain ⟨pb, po, pc, e1, ob1⟩ := hm.pageOB (List.getElem_mem hp) (ne _ (List.getElem_mem hp))
  obtain ⟨qb, qo, qc, e2, ob2⟩ := hm.pageOB (List.getElem_mem h1) (ne _ (List.getElem_mem h1))
  have k1 : (R.map (·.pv))[p]? = some (.slice (some ⟨pb, po, none⟩) (R[p]).es.length pc) := by rw [← e1]; simp [hp]
  have k2 : (R.map (·.pv))[p + 1]? = some (.slice (some ⟨qb, qo, none⟩) (R[p + 1]).es.length qc) := by rw [← e2]; simp [h1]
  have hg := hm.hg
  have c1 := ecell_one (hm.ents _ (List.getElem_mem hp))
  have c2 := ecell_one (hm.ents _ (List.getElem_mem h1))
  rw [hvo] at hg
  have HM := Lib.hid hm
  obtain ⟨p1, hp1⟩ : ∃ p1, p + 1 = p1 := ⟨_, rfl⟩
  have HP1 := Lib.hid hp1
  have hP1 : (p : Int) + 1 = (p1 : Int) := by omega
  clear hm ne hvo hp1
  go_enter Try.func42, Try.ntmps42
  go_upto_region 1 with fail
  refine wp_tl (d := .region 1 (opsC 1 Try.f42) true) (by kernel_rfl) ?_
  refine RW.wp (rjoin1few hg ob h1 hn k1 k2 (by omega) (by omega) hs ?_)
  intros
  rename_i w1 m1
  go_upto_region 3 with fail
  refine wp_tl (d := .region 3 (opsC 3 Try.f42) true) (by kernel_rfl) ?_
  refine RW.wp (rjoin3 (m1.heap hg (fun x => x)) (ob.keep m1 (fun x => x)) h1 hn k1 k2 (ob1.keep m1 (fun x => x)) (ob2.keep m1 (fun x => x)) c1 c2 (by omega) ?_)
  intros
  rename_i v8 w3 o8 m3 f8
  have M3 := Lib.hid (m1.then0 m3)
  have O8 := Lib.hid o8
  have F8 := Lib.hid (f8.of m1.size)
  obtain ⟨a8, c8, rfl, _⟩ := o8.rd.form
  have PUT := Lib.hid (put_any (p := p1) (HM.out.keep0 M3.out) (by rw [← HP1.out]; exact h1) hn (rdL_nil w3) (by simp) (fun r hr => (List.not_mem_nil hr).elim))
  clear o8 m3 f8 m1 c1 c2 k1 k2 hg ob ob1 ob2 e1 e2
  generalize hM1 : (R[p]).es.length = l1 at *
  generalize hM2 : (R[p + 1]).es.length = l2 at *
  have HL1 := Lib.hid hM1
  have HL2 := Lib.hid hM2
  clear hM1 hM2 hs
  go_wp2_with fail
  refine PUT.out.mono ?_
  rintro e w4 ⟨rfl, vo', N, t, hN⟩
  obtain rfl : N = [] := by simpa using hN
  have T := Lib.hid t
  have hne1 : R.take p1 ++ [] ++ R.drop (p1 + 1) ≠ [] := by
    intro h
    have h2 := congrArg List.length h
    rw [List.append_nil, List.length_append, List.length_take, ← HP1.out, List.length_nil] at h2
    have := h1
    omega
  have hlen1 : p < (R.take p1 ++ [] ++ R.drop (p1 + 1)).length := by
    rw [List.append_nil, List.length_append, List.length_take, ← HP1.out]
    have := h1
    omega
  obtain ⟨b4, off4, cap4, rfl, ob4⟩ := t.pm.rowOB hne1
  generalize hn4 : (R.take p1 ++ [] ++ R.drop (p1 + 1)).length = n4 at *
  have d0 := cells_of t.pm.hg 0
  obtain ⟨u1, d1⟩ : ∃ u, w4.cell? ⟨b4, off4 + p, none⟩ = some u := Option.isSome_iff_exists.1 (ob4.there (j := p) (by have := ob4.hn; omega))
  have d2 := ob4.free (off4 + p)
  have hpn : (p : Int) < (n4 : Int) := by omega
  clear t hN hne1 ob4 PUT hP1
  go_wp2
  go_ret
  obtain ⟨A, q, r, C, rfl, rfl, hq, hr⟩ := parts2 R p h1
  have o := O8.out
  have hl1 := HL1.out
  have hl2 := HL2.out
  have hp1 := HP1.out
  rw [hq] at o hl1
  rw [hr] at o hl2
  subst hl1 hl2 hp1
  have t := T.out
  rw [List.append_nil, show (A ++ [q, r] ++ C).take (A.length + 1) = A ++ [q] by rw [show A ++ [q, r] ++ C = (A ++ [q]) ++ (r :: C) by simp]; exact List.take_left' (by simp), show (A ++ [q, r] ++ C).drop (A.length + 1 + 1) = C from List.drop_left' (by simp)] at t
  obtain ⟨p1, p2⟩ := rjoin_end HM.out M3.out o F8.out t rfl
  exact ⟨rfl, _, _, p1, p2⟩

set_option maxHeartbeats 8000000 in
theorem rDelete_any {w : World} {g : Nat} {vo kv : Value} {R : List PV} {xs : List UInt8} (hm : QM w g vo R) (hk : Rd w kv xs) (ok : PgOk (pgs R)) (hn : R.length ≤ 1000000) :
    Calls Try.prog 15 #[.pointer (some ⟨g, 0, none⟩), kv] w fun e w' => ∃ vo' R', e = .returned (.bool (findP (pgs R) xs).2.2) ∧ QT w w' g vo R vo' R' ∧ pgs R' = delP (pgs R) xs := by
  have FD := Lib.hid (rfind_any hm hk ok hn)
  obtain ⟨aq, cq, hqv, _⟩ := hk.form
  subst hqv
  have hfi := found_is (R := R) (ys := xs)
  have hdel : ∀ p i B, findP (pgs R) xs = (p, i, B) → B = true → _ := fun p i B hf hB => delP_yes hf hB
  have hno : (findP (pgs R) xs).2.2 = false → delP (pgs R) xs = pgs R := fun h => by unfold delP; rw [h]; rfl
  generalize findP (pgs R) xs = F at *
  obtain ⟨p, i, B⟩ := F
  simp only at hfi FD hno ⊢
  cases B with
  | false =>
    rw [hno rfl]
    have HM := Lib.hid hm
    clear hm hk ok hfi hdel hno
    go_enter Try.func15, Try.ntmps15
    go_wp2_with fail
    refine FD.out.mono ?_
    rintro e w1 ⟨rfl, m1⟩
    go_wp2
    go_ret
    exact ⟨_, _, rfl, (QT.refl HM.out).then0 m1, rfl⟩
  | true =>
    have hdel := hdel p i true rfl rfl
    obtain ⟨hp, hi, _⟩ := hfi rfl
    rw [pgs_getD hp, ents_length] at hdel
    have HD := Lib.hid hdel
    obtain ⟨b, off, cap, pb, po, pc, hvo, hpv, ob2, ob1⟩ := hm.way hp hi
    have hPV : (R.map (·.pv))[p]? = some (.slice (some ⟨pb, po, none⟩) (R[p]).es.length pc) := by rw [← hpv]; simp [hp]
    have h1 := ecell_one (hm.ents _ (List.getElem_mem hp))
    have hmost := ok.most (ents (R[p]).es) (List.mem_map_of_mem (f := fun p => ents p.es) (List.getElem_mem hp))
    rw [ents_length] at hmost
    have hm' := hm
    rw [hvo] at hm'
    have HM := Lib.hid hm'
    have HV := Lib.hid hvo
    have HOK := Lib.hid ok
    have D := Lib.hid (And.intro hPV (And.intro h1 (And.intro ob1 ob2)))
    clear hm hm' hk ok hfi hdel hno hpv hvo hPV h1 ob1 ob2
    go_enter Try.func15, Try.ntmps15
    go_wp2_with fail
    refine FD.out.mono ?_
    rintro e w1 ⟨rfl, m1⟩
    have M1 := Lib.hid m1
    clear m1
    go_upto_region 4 with fail
    go_cut [8] (fun v wx => ∃ a c, v = .slice a ((R[p]).es.length - 1) c ∧ Hid (OwnG wx 52 2 v ((R[p]).es.length - 1) (ecell ((R[p]).es.eraseIdx i)) ∧ Mods noB w1 wx ∧ freshIn w1 v))
    case first =>
      obtain ⟨hPV, h1, ob1, ob2⟩ := D.out
      by_cases hpc : pc = i + 1
      · have hml := ob2.hn
        refine wp_tl (d := .region 4 (opsC 4 Try.f15) true) (by kernel_rfl) ?_
        refine RW.wp (rdel4e (M1.out.heap HM.out.hg (fun x => x)) (ob1.keep M1.out (fun x => x)) hp hn hPV (ob2.keep M1.out (fun x => x)) h1 (by omega) hi hpc ?_)
        intros
        rename_i v8 w3 o8 m3 f8
        have e0 : (R[p]).es.length = i + 1 := by omega
        have e1 : ecell ((R[p]).es.eraseIdx i) = (ecell (R[p]).es).take (i * 2) ++ [] := by
          rw [ecell_del, List.drop_eq_nil_of_le (by rw [ecell_length]; omega)]
        rw [← e1] at o8
        have e2 : i + 0 = (R[p]).es.length - 1 := by omega
        rw [e2] at o8
        obtain ⟨a8, c8, e3, _⟩ := o8.rd.form
        have O := Lib.hid (And.intro o8 (And.intro m3 f8))
        go_wp2
        go_meet
        exact ⟨a8, c8, e3, O⟩
      · refine wp_tl (d := .region 4 (opsC 4 Try.f15) true) (by kernel_rfl) ?_
        refine RW.wp (rdel4 (M1.out.heap HM.out.hg (fun x => x)) (ob1.keep M1.out (fun x => x)) hp hn hPV (ob2.keep M1.out (fun x => x)) h1 (by omega) hi hpc ?_)
        intros
        rename_i v8 w3 o8 m3 f8
        rw [← ecell_del] at o8
        have e2 : i + ((R[p]).es.length - (i + 1)) = (R[p]).es.length - 1 := by omega
        rw [e2] at o8
        obtain ⟨a8, c8, e3, _⟩ := o8.rd.form
        have O := Lib.hid (And.intro o8 (And.intro m3 f8))
        go_wp2
        go_meet
        exact ⟨a8, c8, e3, O⟩
    case rest =>
      obtain ⟨a8, c8, rfl, O⟩ := hcut
      have hel : ((R[p]).es.eraseIdx i).length = (R[p]).es.length - 1 := by rw [List.length_eraseIdx, if_pos hi]
      have ob4 := D.out.2.2.1.keep (M1.out.then0 O.out.2.1) (fun x => x)
      have d0 := cells_of ((HM.out.keep0 M1.out).keep0 O.out.2.1).hg 0
      obtain ⟨u1, d1⟩ := Option.isSome_iff_exists.1 (ob4.there (j := p) (by have := ob4.hn; omega))
      have d2 := ob4.free (off + p)
      have hpi : (p : Int) < (R.length : Int) := by omega
      have EL := Lib.hid hel
      clear ob4 hel
      go_upto_region 6 with fail
      generalize hw4 : World.setCell _ _ _ = w4
      have KEY : ∃ R1, QT w1 w4 g (.slice (some ⟨b, off, none⟩) R.length cap) R (.slice (some ⟨b, off, none⟩) R.length cap) R1 ∧ pgs R1 = (pgs R).set p ((ents (R[p]).es).eraseIdx i) ∧ R1.length = R.length ∧ ∃ (hp1 : p < R1.length), (R1[p]).es = (R[p]).es.eraseIdx i ∧ ∀ r ∈ R1, ents r.es ∈ pgs R ∨ r.es = (R[p]).es.eraseIdx i := by
        have hm1 := HM.out.keep0 M1.out
        have o := O.out
        have el := EL.out
        clear HM HV HOK HD FD hmost D O EL d0 d1 d2 M1
        obtain ⟨A, q, C, rfl, rfl, hq⟩ := parts R p hp
        rw [hq] at o hw4 el ⊢
        have t := QM.setfresh (es := q.es.eraseIdx i) hm1 o.2.1 (by rw [el]; exact o.1) o.2.2 (fun e he => List.mem_of_mem_eraseIdx he) hw4.symm
        refine ⟨_, t, ?_, by simp, by simp, by simp, fun r hr => ?_⟩
        · have hlen : A.length = (pgs A).length := (pgs_length A).symm
          rw [pgs_append, pgs_append, pgs_append, pgs_append, hlen, pgs_single q, set_parts, ← ents_erase]
          rfl
        · simp only [List.append_assoc, List.mem_append, List.mem_cons, List.not_mem_nil, or_false] at hr
          rcases hr with hr | rfl | hr
          · exact .inl (List.mem_map_of_mem (f := fun p : PV => ents p.es) (by simp [hr]))
          · exact .inr rfl
          · exact .inl (List.mem_map_of_mem (f := fun p : PV => ents p.es) (by simp [hr]))
      obtain ⟨R1, K1, K2, K3, hp1, K4, K6⟩ := KEY
      rw [← HV.out] at K1
      have KK := Lib.hid (And.intro K1 (And.intro K2 (And.intro K4 (And.intro trivial K6))))
      clear K1 K2 K4 K6 hw4 d0 d1 d2 O
      by_cases hlen : (R[p]).es.length = 1
      · have hz : (((R[p]).es.length - 1 : Nat) : Int) == 0 := by rw [hlen]; rfl
        have hD := HD.out
        rw [if_pos hlen] at hD
        have HD2 := Lib.hid hD
        have PUT := Lib.hid (put_any (p := p) KK.out.1.pm hp1 (by omega) (rdL_nil w4) (by simp) (fun r hr => (List.not_mem_nil hr).elim))
        clear hD HD
        go_wp2_with fail
        refine PUT.out.mono ?_
        rintro e w5 ⟨rfl, vo2, N, t, hN⟩
        obtain rfl : N = [] := by simpa using hN
        have J := Lib.hid t
        clear t hN
        go_wp2
        go_ret
        refine ⟨_, _, rfl, (KK.out.1.trans J.out).first M1.out, ?_⟩
        rw [HD2.out, List.append_nil, ← List.eraseIdx_eq_take_drop_succ]
        have hpe : pgs (R1.eraseIdx p) = (pgs R1).eraseIdx p := by
          unfold pgs
          rw [List.eraseIdx_eq_take_drop_succ, List.eraseIdx_eq_take_drop_succ, List.map_append, List.map_take, List.map_drop]
        rw [hpe]
        rw [KK.out.2.1, List.eraseIdx_set_eq]
      · have hz : (((((R[p]).es.length - 1 : Nat) : Int)) == 0) = false := by rw [beq_eq_false_iff_ne]; omega
        have hD := HD.out
        rw [if_neg hlen, ← KK.out.2.1] at hD
        have ne1 : ∀ q ∈ R1, q.es ≠ [] := fun q hq => by
          rcases KK.out.2.2.2.2 q hq with h | h
          · have := HOK.out.ne (ents q.es) h
            intro e
            rw [e] at this
            exact this rfl
          · intro e
            rw [e] at h
            have := congrArg List.length h
            rw [List.length_eraseIdx, if_pos hi] at this
            simp at this
            omega
        have le1 : ∀ q ∈ R1, q.es.length ≤ 32 := fun q hq => by
          rcases KK.out.2.2.2.2 q hq with h | h
          · have := HOK.out.most (ents q.es) h
            rwa [ents_length] at this
          · rw [h, List.length_eraseIdx, if_pos hi]; omega
        have hn1 : R1.length ≤ 1000000 := by omega
        have hsubp : p ≠ 0 → (p : Int) - 1 = ((p - 1 : Nat) : Int) := fun h => by omega
        have hR1 : R1 ≠ [] := fun e => by rw [e] at hp1; simp at hp1
        clear HD
        by_cases hj : joinB (pgs R1) p = true
        · rw [if_pos hj] at hD
          have HD2 := Lib.hid hD
          clear hD
          have JY := Lib.hid (rjoin_yes KK.out.1.pm hn1 ne1 hj)
          clear ne1 le1
          go_wp2_with fail
          refine JY.out.mono ?_
          rintro e w5 ⟨rfl, vo2, R2, j1, j2⟩
          have J := Lib.hid (And.intro j1 j2)
          clear j1 j2
          go_wp2
          go_ret
          exact ⟨vo2, R2, rfl, (KK.out.1.trans J.out.1).first M1.out, J.out.2.trans HD2.out.symm⟩
        · rw [if_neg hj] at hD
          have JN := Lib.hid (rjoin_no KK.out.1.pm hR1 (p := (p : Int)) (by omega) (by omega) hn1 ne1 le1 (.inr (by rw [Int.toNat_natCast]; simpa using hj)))
          by_cases hk : p ≠ 0 ∧ joinB (pgs R1) (p - 1) = true
          · rw [if_pos hk] at hD
            have HD2 := Lib.hid hD
            clear hD
            have hs := hsubp hk.1
            have JY := Lib.hid (fun (w' : World) (m : Mods noB w4 w') => rjoin_yes (KK.out.1.pm.keep0 m) hn1 ne1 hk.2)
            clear ne1 le1 hsubp
            go_wp2_with fail
            refine JN.out.mono ?_
            rintro e w5 ⟨rfl, m5⟩
            have J2 := Lib.hid (JY.out w5 m5)
            have M5 := Lib.hid m5
            clear m5
            go_wp2_with fail
            refine J2.out.mono ?_
            rintro e w6 ⟨rfl, vo2, R2, j1, j2⟩
            have J := Lib.hid (And.intro j1 j2)
            clear j1 j2
            go_wp2
            go_ret
            exact ⟨_, _, rfl, (KK.out.1.trans (J.out.1.first M5.out)).first M1.out, J.out.2.trans HD2.out.symm⟩
          · rw [if_neg hk] at hD
            have HD2 := Lib.hid hD
            clear hD
            have JY := Lib.hid (fun (w' : World) (m : Mods noB w4 w') => rjoin_no (KK.out.1.pm.keep0 m) hR1 (p := (p : Int) - 1) (by omega) (by omega) hn1 ne1 le1 (by
              by_cases h0 : p = 0
              · left; omega
              · right
                rw [hsubp h0, Int.toNat_natCast]
                have := fun h => hk ⟨h0, h⟩
                simpa using this))
            have hs : IntKind.i64.wrap ((p : Int) - 1) = (p : Int) - 1 := IntWalk.i64_in _ (by omega)
            clear ne1 le1 hsubp
            go_wp2_with fail
            refine JN.out.mono ?_
            rintro e w5 ⟨rfl, m5⟩
            have J2 := Lib.hid (JY.out w5 m5)
            have M5 := Lib.hid m5
            clear m5
            go_wp2_with fail
            refine J2.out.mono ?_
            rintro e w6 ⟨rfl, m6⟩
            have M6 := Lib.hid m6
            clear m6
            go_wp2
            go_ret
            exact ⟨_, _, rfl, ((KK.out.1.then0 M5.out).then0 M6.out).first M1.out, HD2.out.symm⟩

end Go.Proofs.Ytjlomnhngngkiaa

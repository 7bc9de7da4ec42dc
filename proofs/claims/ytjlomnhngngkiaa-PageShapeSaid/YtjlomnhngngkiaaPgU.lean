/- page.Map as it lies behind a change: some pages replaced by others. -/
import Derived.Test.YtjlomnhngngkiaaZA
import Derived.Test.YtjlomnhngngkiaaRow
namespace Go.Proofs.Ytjlomnhngngkiaa
open Go.Gl Go.RowKit
set_option linter.unusedVariables false
set_option maxRecDepth 100000

theorem ecell_take (es : List EV) (i : Nat) : ecell (es.take i) = (ecell es).take (i * 2) := by
  induction es generalizing i with
  | nil => simp [ecell]
  | cons e es ih =>
    rcases i with _ | i
    · simp [ecell]
    · rw [List.take_succ_cons, ecell_cons, ecell_cons, ih, show (i + 1) * 2 = i * 2 + 1 + 1 from by omega, List.take_succ_cons, List.take_succ_cons]
theorem ecell_drop (es : List EV) (i : Nat) : ecell (es.drop i) = (ecell es).drop (i * 2) := by
  induction es generalizing i with
  | nil => simp [ecell]
  | cons e es ih =>
    rcases i with _ | i
    · simp [ecell]
    · rw [List.drop_succ_cons, ecell_cons, ih, show (i + 1) * 2 = i * 2 + 1 + 1 from by omega, List.drop_succ_cons, List.drop_succ_cons]
theorem ecell_ins (es : List EV) (i : Nat) (x : EV) : ecell (es.take i ++ x :: es.drop i) = (ecell es).take (i * 2) ++ [x.kv, x.vv] ++ (ecell es).drop (i * 2) := by
  rw [ecell_append, ecell_cons, ecell_take, ecell_drop]; simp
theorem ecell_del (es : List EV) (i : Nat) : ecell (es.eraseIdx i) = (ecell es).take (i * 2) ++ (ecell es).drop ((i + 1) * 2) := by
  rw [List.eraseIdx_eq_take_drop_succ, ecell_append, ecell_take, ecell_drop]
theorem ecell_set (es : List EV) (i : Nat) (x : EV) (hi : i < es.length) : ecell (es.set i x) = (ecell es).take (i * 2) ++ [x.kv, x.vv] ++ (ecell es).drop ((i + 1) * 2) := by
  rw [List.set_eq_take_append_cons_drop, if_pos hi, ecell_append, ecell_cons, ecell_take, ecell_drop]; simp
theorem ents_append (a b : List EV) : ents (a ++ b) = ents a ++ ents b := by simp [ents]
theorem ents_take (a : List EV) (i : Nat) : ents (a.take i) = (ents a).take i := by simp [ents, List.map_take]
theorem ents_drop (a : List EV) (i : Nat) : ents (a.drop i) = (ents a).drop i := by simp [ents, List.map_drop]
theorem ents_ins (es : List EV) (i : Nat) (x : EV) : ents (es.take i ++ x :: es.drop i) = insP (ents es) i x.ent := by
  unfold insP
  rw [ents_append, ents_take, ← ents_drop]
  rfl
theorem ents_set (es : List EV) (i : Nat) (x : EV) : ents (es.set i x) = (ents es).set i x.ent := by simp [ents, List.map_set]
theorem ents_erase (es : List EV) (i : Nat) : ents (es.eraseIdx i) = (ents es).eraseIdx i := by
  rw [List.eraseIdx_eq_take_drop_succ, List.eraseIdx_eq_take_drop_succ, ents_append, ents_take, ents_drop]
theorem pgs_append (A B : List PV) : pgs (A ++ B) = pgs A ++ pgs B := by simp [pgs]
theorem pgs_cons (p : PV) (B : List PV) : pgs (p :: B) = ents p.es :: pgs B := rfl
theorem cnt_append (a b : Pgs) : cnt (a ++ b) = cnt a + cnt b := by simp [cnt]
theorem cnt_cons (p : List Ent) (b : Pgs) : cnt (p :: b) = p.length + cnt b := by simp [cnt]
theorem cnt_nil : cnt [] = 0 := rfl
/-- a page among the pages -/
theorem split_at {α : Type} (R : List α) (p : Nat) (hp : p < R.length) : R = R.take p ++ [R[p]] ++ R.drop (p + 1) := by
  rw [List.append_assoc, List.singleton_append, ← List.drop_eq_getElem_cons hp, List.take_append_drop]

theorem ecell_one {w : World} {es : List EV} (h : ERd w es) : ∀ y ∈ ecell es, y.oneCell' = true := by
  intro y hy
  unfold ecell at hy
  obtain ⟨e, he, hm⟩ := List.mem_flatMap.1 hy
  obtain ⟨a, c, h1, _⟩ := (h e he).k.form
  obtain ⟨a', c', h2, _⟩ := (h e he).v.form
  simp only [List.mem_cons, List.not_mem_nil, or_false] at hm
  rcases hm with rfl | rfl
  · rw [h1]; rfl
  · rw [h2]; rfl
theorem pv_one {w : World} {g : Nat} {vo : Value} {R : List PV} (h : PM w g vo R) : ∀ y ∈ R.map (·.pv), y.oneCell' = true := by
  intro y hy
  obtain ⟨p, hp, rfl⟩ := List.mem_map.1 hy
  obtain ⟨a, c, h1, _⟩ := (OwnG.rd (h.pg p hp)).form
  show (PV.pv p).oneCell' = true
  rw [h1]; rfl

theorem PM.upd {w w' : World} {g : Nat} {vo vo' : Value} {A B C N : List PV} {X : Nat → Prop} (h : PM w g vo (A ++ B ++ C)) (hm : Mods (fun k => k = g ∨ vo.ownBlock = some k ∨ ∃ q ∈ B, q.pv.ownBlock = some k) w w')
    (hg' : w'.heap[g]? = some (.cells #[vo', .int .i64 (cnt (pgs (A ++ N ++ C)) : Nat)] 61 (0, 0)))
    (row' : OwnG w' 64 1 vo' (A ++ N ++ C).length ((A ++ N ++ C).map (·.pv)))
    (hvo : vo'.ownBlock = vo.ownBlock ∨ freshIn w vo')
    (hN : ∀ q ∈ N, OwnG w' 63 2 q.pv q.es.length (ecell q.es) ∧ ((∃ b ∈ B, q.pv.ownBlock = b.pv.ownBlock) ∨ freshIn w q.pv))
    (hNv : ∀ q ∈ N, ∀ k, q.pv.ownBlock = some k → vo'.ownBlock ≠ some k)
    (hNN : N.Pairwise (fun p q => ∀ k, p.pv.ownBlock = some k → q.pv.ownBlock ≠ some k))
    (hE : ∀ q ∈ N, ∀ e ∈ q.es, (∃ b ∈ B, e ∈ b.es) ∨ (E1 w e ∧ ∀ k, (e.kv.ownBlock = some k ∨ e.vv.ownBlock = some k) → X k ∧ k < w.heap.size ∧ ¬ MS g vo (A ++ B ++ C) k)) :
    PM w' g vo' (A ++ N ++ C) ∧ (∀ k, MS g vo' (A ++ N ++ C) k → MS g vo (A ++ B ++ C) k ∨ w.heap.size ≤ k) ∧ (∀ k, MD (A ++ N ++ C) k → MD (A ++ B ++ C) k ∨ X k) := by
  have hgl : g < w.heap.size := lt_of_heap h.hg
  have inB : ∀ b ∈ B, b ∈ A ++ B ++ C := fun b hb => List.mem_append_left _ (List.mem_append_right _ hb)
  have inA : ∀ b ∈ A, b ∈ A ++ B ++ C := fun b hb => List.mem_append_left _ (List.mem_append_left _ hb)
  have inC : ∀ b ∈ C, b ∈ A ++ B ++ C := fun b hb => List.mem_append_right _ hb
  have hs3 := h.sep3
  rw [List.pairwise_append, List.pairwise_append] at hs3
  obtain ⟨⟨sA, sB, sAB⟩, sC, sABC⟩ := hs3
  have old : ∀ q, q ∈ A ∨ q ∈ C → q ∈ A ++ B ++ C ∧ ∀ k, q.pv.ownBlock = some k → ¬ (k = g ∨ vo.ownBlock = some k ∨ ∃ b ∈ B, b.pv.ownBlock = some k) := by
    intro q hq
    have hin : q ∈ A ++ B ++ C := by rcases hq with hq | hq; exact inA q hq; exact inC q hq
    refine ⟨hin, ?_⟩
    rintro k hk (rfl | hv | ⟨b, hb, hbk⟩)
    · exact (h.sep2 q hin).1 hk
    · exact (h.sep2 q hin).2 k hk hv
    · rcases hq with hq | hq
      · exact sAB q hq b hb k hk hbk
      · exact sABC b (List.mem_append_right _ hb) q hq k hbk hk
  have ms' : ∀ k, MS g vo' (A ++ N ++ C) k → MS g vo (A ++ B ++ C) k ∨ w.heap.size ≤ k := by
    rintro k (rfl | hk | ⟨q, hq, hk⟩)
    · exact .inl (.inl rfl)
    · rcases hvo with hvo | hvo
      · exact .inl (.inr (.inl (hvo ▸ hk)))
      · exact .inr (hvo k hk)
    · rw [List.mem_append, List.mem_append] at hq
      rcases hq with (hq | hq) | hq
      · exact .inl (.inr (.inr ⟨q, inA q hq, hk⟩))
      · rcases (hN q hq).2 with ⟨b, hb, hbk⟩ | hf
        · exact .inl (.inr (.inr ⟨b, inB b hb, hbk ▸ hk⟩))
        · exact .inr (hf k hk)
      · exact .inl (.inr (.inr ⟨q, inC q hq, hk⟩))
  have md' : ∀ k, MD (A ++ N ++ C) k → (MD (A ++ B ++ C) k ∨ X k) ∧ k < w.heap.size ∧ ¬ MS g vo (A ++ B ++ C) k := by
    rintro k ⟨q, hq, e, he, hk⟩
    have fromOld : ∀ q ∈ A ++ B ++ C, e ∈ q.es → (MD (A ++ B ++ C) k ∨ X k) ∧ k < w.heap.size ∧ ¬ MS g vo (A ++ B ++ C) k := fun q hq he =>
      have : MD (A ++ B ++ C) k := ⟨q, hq, e, he, hk⟩
      ⟨.inl this, h.dlt k this, h.data k this⟩
    rw [List.mem_append, List.mem_append] at hq
    rcases hq with (hq | hq) | hq
    · exact fromOld q (inA q hq) he
    · rcases hE q hq e he with ⟨b, hb, heb⟩ | ⟨_, h2⟩
      · exact fromOld b (inB b hb) heb
      · obtain ⟨k1, k2, k3⟩ := h2 k hk
        exact ⟨.inr k1, k2, k3⟩
    · exact fromOld q (inC q hq) he
  have keepE : ∀ e, E1 w e → (∀ k, (e.kv.ownBlock = some k ∨ e.vv.ownBlock = some k) → ¬ MS g vo (A ++ B ++ C) k) → E1 w' e := fun e he hk => he.keep hm (fun k hk2 => by
    rintro (rfl | hv | ⟨b, hb, hbk⟩)
    · exact hk k hk2 (.inl rfl)
    · exact hk k hk2 (.inr (.inl hv))
    · exact hk k hk2 (.inr (.inr ⟨b, inB b hb, hbk⟩)))
  have keepO : ∀ q ∈ A ++ B ++ C, ∀ e ∈ q.es, E1 w' e := fun q hq e he => keepE e (h.ents q hq e he) (fun k hk => h.data k ⟨q, hq, e, he, hk⟩)
  refine ⟨⟨hg', row', ?_, ?_, ?_, ?_, ?_, ?_, ?_⟩, ms', fun k hk => (md' k hk).1⟩
  · intro q hq
    rw [List.mem_append, List.mem_append] at hq
    rcases hq with (hq | hq) | hq
    · exact (h.pg q (inA q hq)).keep hm (old q (.inl hq)).2
    · exact (hN q hq).1
    · exact (h.pg q (inC q hq)).keep hm (old q (.inr hq)).2
  · intro q hq e he
    rw [List.mem_append, List.mem_append] at hq
    rcases hq with (hq | hq) | hq
    · exact keepO q (inA q hq) e he
    · rcases hE q hq e he with ⟨b, hb, heb⟩ | ⟨h1, h2⟩
      · exact keepO b (inB b hb) e heb
      · exact keepE e h1 (fun k hk => (h2 k hk).2.2)
    · exact keepO q (inC q hq) e he
  · rcases hvo with hvo | hvo
    · rw [hvo]; exact h.sep1
    · exact hvo.not hgl
  · intro q hq
    have base : q ∈ A ++ B ++ C → q.pv.ownBlock ≠ some g ∧ ∀ k, q.pv.ownBlock = some k → vo'.ownBlock ≠ some k := fun hin => ⟨(h.sep2 q hin).1, fun k hk => by
      rcases hvo with hvo | hvo
      · rw [hvo]; exact (h.sep2 q hin).2 k hk
      · exact hvo.not ((h.pg q hin).lt k hk)⟩
    rw [List.mem_append, List.mem_append] at hq
    rcases hq with (hq | hq) | hq
    · exact base (inA q hq)
    · refine ⟨?_, hNv q hq⟩
      rcases (hN q hq).2 with ⟨b, hb, hbk⟩ | hf
      · rw [hbk]; exact (h.sep2 b (inB b hb)).1
      · exact hf.not hgl
    · exact base (inC q hq)
  · have nOld : ∀ q ∈ N, ∀ p, p ∈ A ∨ p ∈ C → ∀ k, q.pv.ownBlock = some k → p.pv.ownBlock ≠ some k := by
      intro q hq p hp k hk hpk
      obtain ⟨hpin, hpo⟩ := old p hp
      rcases (hN q hq).2 with ⟨b, hb, hbk⟩ | hf
      · exact hpo k hpk (.inr (.inr ⟨b, hb, hbk ▸ hk⟩))
      · exact absurd ((h.pg p hpin).lt k hpk) (Nat.not_lt.2 (hf k hk))
    rw [List.pairwise_append, List.pairwise_append]
    refine ⟨⟨sA, hNN, fun p hp q hq k hpk hqk => nOld q hq p (.inl hp) k hqk hpk⟩, sC, fun p hp q hq k hpk hqk => ?_⟩
    rw [List.mem_append] at hp
    rcases hp with hp | hp
    · exact sABC p (List.mem_append_left _ hp) q hq k hpk hqk
    · exact nOld p hp q (.inr hq) k hpk hqk
  · intro k hk hms
    obtain ⟨_, k2, k3⟩ := md' k hk
    rcases ms' k hms with h1 | h1
    · exact k3 h1
    · omega
  · intro k hk
    exact Nat.lt_of_lt_of_le (md' k hk).2.1 hm.size

end Go.Proofs.Ytjlomnhngngkiaa

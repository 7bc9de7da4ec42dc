/- gleanref5.Map: what Set leaves (printed by gen_q.py). -/
import Derived.Test.YtjlomnhngngkiaaPgQp
namespace Go.Proofs.Ytjlomnhngngkiaa
open Go.Gl Go.RowKit
set_option linter.unusedVariables false
set_option maxRecDepth 100000

theorem q_empty_end {w : World} {g : Nat} {vo : Value} {x : EV} (hm : QM w g vo []) (hx : E1 w x) (hb : ∀ k, (x.kv.ownBlock = some k ∨ x.vv.ownBlock = some k) → k < w.heap.size ∧ ¬ MS g vo [] k) :
    let w' := (((w.alloc (.cells #[x.kv, x.vv] 52)).alloc (.cells #[.slice (some ⟨w.heap.size, 0, none⟩) 1 1] 44)).setCell ⟨g, 0, none⟩ (.slice (some ⟨w.heap.size + 1, 0, none⟩) 1 1))
    ∃ vo' R', QM w' g vo' R' ∧ Mods (MS g vo []) w w' ∧ (∀ k, MS g vo' R' k → MS g vo [] k ∨ w.heap.size ≤ k) ∧ (∀ k, MD R' k → MD [] k ∨ (x.kv.ownBlock = some k ∨ x.vv.ownBlock = some k)) ∧ pgs R' = [[x.ent]] := by
  intro w'
  have hgl := lt_of_heap hm.hg
  have h1 := heap_new w (.cells #[x.kv, x.vv] 52)
  have h2 := heap_new (w.alloc (.cells #[x.kv, x.vv] 52)) (.cells #[.slice (some ⟨w.heap.size, 0, none⟩) 1 1] 44)
  have h1' := heap_old h1 (.cells #[.slice (some ⟨w.heap.size, 0, none⟩) 1 1] 44)
  rw [World.size_alloc] at h2
  have hg' := heap_old (heap_old hm.hg (.cells #[x.kv, x.vv] 52)) (.cells #[.slice (some ⟨w.heap.size, 0, none⟩) 1 1] 44)
  have mods : Mods (fun k => k = g ∨ vo.ownBlock = some k ∨ ∃ q ∈ ([] : List PV), q.pv.ownBlock = some k) w w' :=
    (((Mods.refl _ w).alloc _).alloc _).setCell (p := ⟨g, 0, none⟩) (.inl (.inl rfl)) _
  have r1 : w'.heap[w.heap.size]? = some (.cells #[x.kv, x.vv] 52 (0, 0)) :=
    (heap_set_other (a := ⟨g, 0, none⟩) (by show w.heap.size ≠ g; omega) _).trans h1'
  have r2 : w'.heap[w.heap.size + 1]? = some (.cells #[.slice (some ⟨w.heap.size, 0, none⟩) 1 1] 44 (0, 0)) :=
    (heap_set_other (a := ⟨g, 0, none⟩) (by show w.heap.size + 1 ≠ g; omega) _).trans h2
  have r3 : w'.heap[g]? = some (.cells #[.slice (some ⟨w.heap.size + 1, 0, none⟩) 1 1] 31 (0, 0)) := heap_set hg' 0 _
  have up := QM.upd (vo' := .slice (some ⟨w.heap.size + 1, 0, none⟩) 1 1) (A := []) (B := []) (C := []) (N := [⟨.slice (some ⟨w.heap.size, 0, none⟩) 1 1, [x]⟩]) (X := fun k => x.kv.ownBlock = some k ∨ x.vv.ownBlock = some k) hm mods r3
    ⟨rfl, .inr ⟨_, 0, 1, _, rfl, r2, Nat.le_refl _, by simp [maxLen], by simp, fun j u hj => by rw [Nat.zero_add]; simpa using hj⟩⟩ (.inr (by intro k hk; simp [Value.ownBlock] at hk; omega))
    (by
      intro q hq
      obtain rfl : q = ⟨.slice (some ⟨w.heap.size, 0, none⟩) 1 1, [x]⟩ := by simpa using hq
      exact ⟨⟨rfl, .inr ⟨_, 0, 1, _, rfl, r1, Nat.le_refl _, by simp [maxLen], by simp, fun j u hj => by rw [Nat.zero_add]; simpa [ecell] using hj⟩⟩, .inr (by intro k hk; simp [Value.ownBlock] at hk; omega)⟩)
    (by
      intro q hq k hk
      obtain rfl : q = ⟨.slice (some ⟨w.heap.size, 0, none⟩) 1 1, [x]⟩ := by simpa using hq
      simp [Value.ownBlock] at hk ⊢
      omega)
    (List.pairwise_singleton _ _)
    (by
      intro q hq e he
      obtain rfl : q = ⟨.slice (some ⟨w.heap.size, 0, none⟩) 1 1, [x]⟩ := by simpa using hq
      obtain rfl : e = x := by simpa using he
      exact .inr ⟨hx, fun k hk => ⟨hk, hb k hk⟩⟩)
  exact ⟨_, _, up.1, mods.mono (fun k _ hk => hk), up.2.1, up.2.2, rfl⟩

/-- where a key was found, the cells on the way -/
theorem QM.way {w : World} {g : Nat} {vo : Value} {R : List PV} (h : QM w g vo R) {p i : Nat} (hp : p < R.length) (hi : i < (R[p]).es.length) :
    ∃ b off cap pb po pc, vo = .slice (some ⟨b, off, none⟩) R.length cap ∧ (R[p]).pv = .slice (some ⟨pb, po, none⟩) (R[p]).es.length pc ∧ OB w 52 2 pb po (R[p]).es.length pc (ecell (R[p]).es) ∧ OB w 44 1 b off R.length cap (R.map (·.pv)) := by
  rcases h.row.ob with ⟨_, h2, _⟩ | ⟨b, off, cap, hv, ob⟩
  · omega
  rcases (h.pg _ (List.getElem_mem hp)).ob with ⟨_, h2, _⟩ | ⟨pb, po, pc, hv2, ob2⟩
  · omega
  exact ⟨b, off, cap, pb, po, pc, hv, hv2, ob2, ob⟩

theorem q_there_end {w : World} {g : Nat} {vo : Value} {A C : List PV} {q : PV} {x : EV} {i pb po pc : Nat} (hm : QM w g vo (A ++ [q] ++ C)) (hq : q.pv = .slice (some ⟨pb, po, none⟩) q.es.length pc) (hi : i < q.es.length) (hx : E1 w x)
    (hb : ∀ k, (x.kv.ownBlock = some k ∨ x.vv.ownBlock = some k) → k < w.heap.size ∧ ¬ MS g vo (A ++ [q] ++ C) k) :
    QM (w.setCells pb (po + i * 2) [x.kv, x.vv]) g vo (A ++ [⟨q.pv, q.es.set i x⟩] ++ C) ∧ Mods (MS g vo (A ++ [q] ++ C)) w (w.setCells pb (po + i * 2) [x.kv, x.vv]) ∧ (∀ k, MS g vo (A ++ [⟨q.pv, q.es.set i x⟩] ++ C) k → MS g vo (A ++ [q] ++ C) k ∨ w.heap.size ≤ k) ∧
      (∀ k, MD (A ++ [⟨q.pv, q.es.set i x⟩] ++ C) k → MD (A ++ [q] ++ C) k ∨ (x.kv.ownBlock = some k ∨ x.vv.ownBlock = some k)) := by
  have hin : q ∈ A ++ [q] ++ C := by simp
  have hob : OB w 52 2 pb po q.es.length pc (ecell q.es) := by
    rcases (hm.pg q hin).ob with ⟨_, h2, _⟩ | ⟨pb', po', pc', hv2, ob2⟩
    · omega
    · rw [hq] at hv2; cases hv2; exact ob2
  have hl : (ecell (q.es.set i x)).length = q.es.length * 2 := by rw [ecell_length, List.length_set]
  have ob' : OB (w.setCells pb (po + i * 2) [x.kv, x.vv]) 52 2 pb po q.es.length pc (ecell (q.es.set i x)) := by
    refine hob.set (i * 2) [x.kv, x.vv] (by have := hob.hn; simp; omega) _ _ hob.hn hl (fun j u hj => ?_)
    rw [ecell_set _ _ _ hi] at hj
    have hll : ((ecell q.es).take (i * 2)).length = i * 2 := by rw [List.length_take, ecell_length]; omega
    by_cases h1 : i * 2 ≤ j ∧ j < i * 2 + [x.kv, x.vv].length
    · rw [if_pos h1]
      rw [List.getElem?_append_left (by rw [List.length_append, hll]; exact h1.2), List.getElem?_append_right (by rw [hll]; exact h1.1), hll] at hj
      exact hj
    · rw [if_neg h1]
      by_cases h2 : j < i * 2
      · rw [List.getElem?_append_left (by rw [List.length_append, hll]; omega), List.getElem?_append_left (by rw [hll]; exact h2), List.getElem?_take_of_lt h2] at hj
        exact hj
      · have h3 : i * 2 + 2 ≤ j := by simp at h1; omega
        rw [List.getElem?_append_right (by rw [List.length_append, hll]; exact h3), List.length_append, hll, List.getElem?_drop] at hj
        rw [← hj]
        congr 1
        show j = (i + 1) * 2 + (j - (i * 2 + 2))
        omega
  have mods : Mods (fun k => k = g ∨ vo.ownBlock = some k ∨ ∃ b ∈ [q], b.pv.ownBlock = some k) w (w.setCells pb (po + i * 2) [x.kv, x.vv]) := (setCells_mods w pb _ _).mono (fun k _ hk => .inr (.inr ⟨q, List.mem_singleton.2 rfl, by rw [hq, hk]; rfl⟩))
  have hgp : g ≠ pb := fun e => (hm.sep2 q hin).1 (by rw [hq, e]; rfl)
  have hvp : ∀ k, vo.ownBlock = some k → k ≠ pb := fun k hk e => (hm.sep2 q hin).2 pb (by rw [hq]; rfl) (e ▸ hk)
  have up := QM.upd (vo' := vo) (A := A) (B := [q]) (C := C) (N := [⟨q.pv, q.es.set i x⟩]) (X := fun k => x.kv.ownBlock = some k ∨ x.vv.ownBlock = some k) hm mods
    ((setCells_mods w pb _ _).heap hm.hg (fun e => hgp e))
    (by
      have h := hm.row.keep (setCells_mods w pb (po + i * 2) [x.kv, x.vv]) (fun k hk e => hvp k hk e)
      have e1 : (A ++ [(⟨q.pv, q.es.set i x⟩ : PV)] ++ C).length = (A ++ [q] ++ C).length := by simp
      have e2 : (A ++ [(⟨q.pv, q.es.set i x⟩ : PV)] ++ C).map (·.pv) = (A ++ [q] ++ C).map (·.pv) := by simp
      rw [e1, e2]
      exact h)
    (.inl rfl)
    (by
      intro r hr
      obtain rfl : r = ⟨q.pv, q.es.set i x⟩ := List.mem_singleton.1 hr
      refine ⟨?_, .inl ⟨q, List.mem_singleton.2 rfl, rfl⟩⟩
      show OwnG _ _ 2 q.pv (q.es.set i x).length _
      rw [List.length_set, hq]
      exact ob'.own)
    (by
      intro r hr k hk
      obtain rfl : r = ⟨q.pv, q.es.set i x⟩ := List.mem_singleton.1 hr
      exact (hm.sep2 q hin).2 k hk)
    (List.pairwise_singleton _ _)
    (by
      intro r hr e he
      obtain rfl : r = ⟨q.pv, q.es.set i x⟩ := List.mem_singleton.1 hr
      rcases List.mem_or_eq_of_mem_set he with he | rfl
      · exact .inl ⟨q, List.mem_singleton.2 rfl, he⟩
      · exact .inr ⟨hx, fun k hk => ⟨hk, hb k hk⟩⟩)
  exact ⟨up.1, mods.mono (fun k _ hk => by
    rcases hk with h | h | ⟨b, hb, h⟩
    · exact .inl h
    · exact .inr (.inl h)
    · exact .inr (.inr ⟨q, hin, by rw [List.mem_singleton.1 hb] at h; exact h⟩)), up.2.1, up.2.2⟩


end Go.Proofs.Ytjlomnhngngkiaa

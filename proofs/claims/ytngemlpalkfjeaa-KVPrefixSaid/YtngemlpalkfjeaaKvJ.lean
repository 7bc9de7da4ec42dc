/- kv.Store: a journal grows: what is left behind an append to a journal that is put back into its row. -/
import Derived.Test.YtngemlpalkfjeaaZB
namespace Go.Proofs.Ytngemlpalkfjeaa
open Go.Gl Go.RowKit
set_option linter.unusedVariables false
set_option maxRecDepth 100000
theorem KM.put {w wa w8 w9 : World} {sg mg b off N cap : Nat} {vo jv jv' v8 : Value} {R : List PV} {A B : List JV} {q0 : JV} {xs : List UV} {n : Int} {Z : Nat → Prop} (h : KM w sg mg vo R jv (A ++ q0 :: B) n)
    (ejv : jv = .slice (some ⟨b, off, none⟩) N cap) (ejv' : jv' = .slice (some ⟨b, off, none⟩) (A.length + 1) cap) (ma : Mods (fun k => k = sg) w wa) (hga : wa.heap[sg]? = some (.cells #[.pointer (some ⟨mg, 0, none⟩), jv', .int .i64 n] 67 (0, 0)))
    (o8 : OwnG w8 80 1 v8 (q0.us.length + xs.length) (q0.us.map (·.c) ++ xs.map (·.c))) (m8 : Mods (ofV q0.jv) wa w8) (f8 : v8.ownBlock = q0.jv.ownBlock ∨ freshIn wa v8) (e : w9 = w8.setCell ⟨b, off + A.length, none⟩ v8)
    (hx : ∀ x ∈ xs, (∃ p ∈ A ++ q0 :: B, x ∈ p.us) ∨ (UndAt w sg x ∧ ∀ k, UB x k → Z k ∧ k < w.heap.size ∧ ¬ KS sg mg vo R jv (A ++ q0 :: B) k)) :
    KM w9 sg mg vo R jv' (A ++ [⟨v8, q0.us ++ xs⟩]) n ∧ Mods (KS sg mg vo R jv (A ++ q0 :: B)) w w9 ∧ (∀ k, KS sg mg vo R jv' (A ++ [⟨v8, q0.us ++ xs⟩]) k → KS sg mg vo R jv (A ++ q0 :: B) k ∨ w.heap.size ≤ k) ∧ (∀ k, KD R (A ++ [⟨v8, q0.us ++ xs⟩]) k → KD R (A ++ q0 :: B) k ∨ Z k) := by
  have hq0 : q0 ∈ A ++ q0 :: B := List.mem_append_right _ (List.mem_cons_self ..)
  have hA : ∀ q ∈ A, q ∈ A ++ q0 :: B := fun q hq => List.mem_append_left _ hq
  have bj : jv.ownBlock = some b := by rw [ejv]; rfl
  have bj' : jv'.ownBlock = some b := by rw [ejv']; rfl
  have bs : b ≠ sg := fun x => h.s1.2.1 (by rw [bj, x])
  have bq : ∀ q ∈ A ++ q0 :: B, q.jv.ownBlock ≠ some b := fun q hq => (h.s2 b bj).2 q hq
  have bl : b < w.heap.size := h.row.lt b bj
  have qs : ∀ q ∈ A ++ q0 :: B, q.jv.ownBlock ≠ some sg := h.s1.2.2
  have qA : ∀ q ∈ A, ∀ k, q.jv.ownBlock = some k → q0.jv.ownBlock ≠ some k := fun q hq k hk => (List.pairwise_append.1 h.s4).2.2 q hq q0 (List.mem_cons_self ..) k hk
  have sz := ma.size
  have v8b : ∀ k, v8.ownBlock = some k → q0.jv.ownBlock = some k ∨ w.heap.size ≤ k := fun k hk => by
    rcases f8 with x | x
    · exact .inl (x ▸ hk)
    · exact .inr (Nat.le_trans sz (x k hk))
  have m9 : Mods (fun k => k = b) w8 w9 := by rw [e]; exact (Mods.refl (fun k => k = b) w8).setCell (p := ⟨b, _, none⟩) (.inl rfl) _
  have m : Mods (fun k => k = sg ∨ jv.ownBlock = some k ∨ ∃ q ∈ A ++ q0 :: B, q.jv.ownBlock = some k) w w9 := by
    have m1 : Mods (fun k => k = sg ∨ q0.jv.ownBlock = some k) w w8 := ma.trans m8 (fun k _ hk => .inl hk) (fun k _ hk => .inr hk)
    exact m1.trans m9 (fun k _ hk => by
      rcases hk with hk | hk
      · exact .inl hk
      · exact .inr (.inr ⟨q0, hq0, hk⟩)) (fun k _ hk => .inr (.inl (by rw [bj, hk])))
  have m18 : Mods (fun k => k = sg ∨ q0.jv.ownBlock = some k) w w8 := ma.trans m8 (fun k _ hk => .inl hk) (fun k _ hk => .inr hk)
  refine h.chg (Z := Z) m ?_ ?_ (.inl (by rw [bj, bj'])) ?_ ?_ ?_ ?_
  · refine m9.heap (m8.heap hga (fun x => qs q0 hq0 x)) (fun x => bs x.symm)
  · have hrow := h.row
    rw [ejv] at hrow
    rcases hrow.ob with ⟨h0, _⟩ | ⟨b', off', cap', hv, ob⟩
    · cases h0
    · obtain ⟨⟨rfl, rfl⟩, hN, rfl⟩ : (b = b' ∧ off = off') ∧ N = (A ++ q0 :: B).length ∧ cap = cap' := by simpa using hv
      have ob8 := ob.keep m18 (fun hk => by
        rcases hk with hk | hk
        · exact bs hk
        · exact bq q0 hq0 hk)
      have hn := ob.hn
      have := ob8.set A.length [v8] (by simp at hn ⊢; omega) (A ++ [(⟨v8, q0.us ++ xs⟩ : JV)]).length ((A ++ [(⟨v8, q0.us ++ xs⟩ : JV)]).map (·.jv)) (by simp at hn ⊢; omega) (by simp) (fun j u hj => by
        rw [List.map_append] at hj
        by_cases hjA : j < A.length
        · rw [if_neg (by omega), List.map_append, List.getElem?_append_left (by simpa using hjA)]
          rw [List.getElem?_append_left (by simpa using hjA)] at hj
          exact hj
        · rw [List.getElem?_append_right (by simpa using Nat.le_of_not_lt hjA)] at hj
          simp only [List.length_map] at hj
          have hj0 : j = A.length := by
            rcases Nat.eq_zero_or_pos (j - A.length) with h0 | h0
            · omega
            · rw [show j - A.length = (j - A.length - 1) + 1 by omega] at hj
              simp at hj
          subst hj0
          rw [if_pos (by simp)]
          rw [Nat.sub_self] at hj ⊢
          exact hj)
      rw [e, ejv']
      have e2 : (A ++ [(⟨v8, q0.us ++ xs⟩ : JV)]).length = A.length + 1 := by simp
      have h3 := this.own
      rw [e2] at h3 ⊢
      exact h3
  · intro q hq
    rcases List.mem_append.1 hq with hq | hq
    · refine ⟨((h.pg q (hA q hq)).keep m18 (fun k hk => ?_)).keep m9 (fun k hk x => bq q (hA q hq) (x ▸ hk)), .inl ⟨q, hA q hq, rfl⟩⟩
      rintro (x | x)
      · exact qs q (hA q hq) (x ▸ hk)
      · exact qA q hq k hk x
    · obtain rfl := List.mem_singleton.1 hq
      refine ⟨?_, ?_⟩
      · have o9 := o8.keep m9 (fun k hk x => by
          subst x
          rcases v8b k hk with y | y
          · exact bq q0 hq0 y
          · omega)
        simpa using o9
      · rcases f8 with x | x
        · exact .inl ⟨q0, hq0, x⟩
        · exact .inr (x.of sz)
  · intro q hq x hxq
    rcases List.mem_append.1 hq with hq | hq
    · exact .inl ⟨q, hA q hq, hxq⟩
    · obtain rfl := List.mem_singleton.1 hq
      rcases List.mem_append.1 hxq with hxq | hxq
      · exact .inl ⟨q0, hq0, hxq⟩
      · exact hx x hxq
  · intro q hq k hk x
    rw [bj'] at x
    obtain rfl := Option.some.inj x
    rcases List.mem_append.1 hq with hq | hq
    · exact bq q (hA q hq) hk
    · obtain rfl := List.mem_singleton.1 hq
      rcases v8b _ hk with y | y
      · exact bq q0 hq0 y
      · omega
  · refine List.pairwise_append.2 ⟨(List.pairwise_append.1 h.s4).1, List.pairwise_singleton _ _, fun p hp q hq k hk x => ?_⟩
    obtain rfl := List.mem_singleton.1 hq
    rcases v8b k x with y | y
    · exact qA p hp k hk y
    · have := (h.pg p (hA p hp)).lt k hk
      omega
end Go.Proofs.Ytngemlpalkfjeaa

/- What holds while calls on a thing with a footprint and allocations of two blocks come in whichever order (XOrdM). -/
import Derived.Test.YtglkmaalpammcaaZA
namespace Go.Gl
set_option linter.unusedVariables false
def AB (O : Obj) (w2 w' : World) (Q NV : Nat → Prop) (b : Bool) (u : Value) : Prop := b = true → ∃ k, u = .pointer (some ⟨k, 0, none⟩) ∧ w'.heap[k]? = some O ∧ Q k ∧ ¬ NV k ∧ w2.heap.size ≤ k
def Fr (O : Obj) (w w2 w' : World) (P : FP) (Q1 NV : Nat → Prop) (b8 b9 : Bool) (u3 u4 : Value) : Prop :=
  ∃ Q' : Nat → Prop, G1 w w' P Q' ∧ (∀ k, Q1 k → Q' k ∧ k < w2.heap.size) ∧ (∀ k, NV k → Q' k) ∧ Mods (fun k => ¬ Q1 k) w2 w' ∧ (∀ k, NV k → w2.heap.size ≤ k) ∧ AB O w2 w' Q' NV b8 u3 ∧ AB O w2 w' Q' NV b9 u4 ∧ (b8 = true → b9 = true → u3 ≠ u4)
section
variable {O : Obj} {w w2 w' w'' : World} {P : FP} {Q1 NV : Nat → Prop} {b8 b9 : Bool} {u3 u4 : Value} {prog : Program} {f : FuncId} {args : Array Value} {R : World → Value → FP → (Nat → Prop) → Prop}
theorem AB.no : AB O w2 w' Q1 NV false u3 := fun h => by cases h
theorem Fr.start (g : G1 w w2 P Q1) (hf : Framed P) (m : Mods noB w2 w') : Fr O w w2 w' P Q1 (fun _ => False) false false u3 u4 :=
  ⟨Q1, g.keep0 hf m, fun k hk => ⟨hk, g.qlt k hk⟩, fun _ x => x.elim, m.mono (fun _ _ x => x.elim), fun _ x => x.elim, AB.no, AB.no, fun h => by cases h⟩
theorem Fr.mods (h : Fr O w w2 w' P Q1 NV b8 b9 u3 u4) : Mods (fun k => ¬ Q1 k) w2 w' := by obtain ⟨_, _, _, _, m, _⟩ := h; exact m
theorem Fr.call (h : Fr O w w2 w' P Q1 NV b8 b9 u3 u4) (c : ∀ Q, GC prog f args w' P Q R) : Calls prog f args w' fun e w'' => ∃ v P' N, e = .returned v ∧ R w'' v P' N ∧ Fr O w w2 w'' P' Q1 (fun k => NV k ∨ N k) b8 b9 u3 u4 ∧ Mods (fun k => ¬ (Q1 k ∨ NV k)) w' w'' := by
  obtain ⟨Q', g, q1, qv, m, nv, a8, a9, ne⟩ := h
  refine (g.call (c Q')).mono ?_
  rintro e w'' ⟨v, P', N, rfl, hR, g', hN, m'⟩
  have hA : ∀ {b u}, AB O w2 w' Q' NV b u → AB O w2 w'' (fun k => Q' k ∨ N k) (fun k => NV k ∨ N k) b u := fun a hb => by
    obtain ⟨k, e, hO, hQ, hn, hs⟩ := a hb
    refine ⟨k, e, m'.heap hO (fun x => x hQ), .inl hQ, fun x => x.elim hn (fun y => ?_), hs⟩
    have := hN k y
    have := lt_of_heap hO
    omega
  exact ⟨v, P', N, rfl, hR, ⟨fun k => Q' k ∨ N k, g', fun k hk => ⟨.inl (q1 k hk).1, (q1 k hk).2⟩, fun k hk => hk.imp (qv k) id, m.trans m' (fun _ _ x => x) (fun i _ x y => x (q1 i y).1), fun k hk => hk.elim (nv k) (fun y => Nat.le_trans m.size (hN k y)), hA a8, hA a9, ne⟩, m'.mono (fun k _ x y => x (y.elim (fun z => (q1 k z).1) (qv k)))⟩
theorem Fr.grow {k : Nat} (h : Fr O w w2 w' P Q1 NV b8 b9 u3 u4) (hf : Framed P) (hk : k = w'.heap.size) (m : Mods noB w' w'') (hl : k < w''.heap.size) :
    ∃ Q' : Nat → Prop, G1 w w'' P Q' ∧ Q' k ∧ (∀ k, Q1 k → Q' k ∧ k < w2.heap.size) ∧ (∀ k, NV k → Q' k) ∧ Mods (fun k => ¬ Q1 k) w2 w'' ∧ (∀ k, NV k → w2.heap.size ≤ k) ∧ AB O w2 w'' Q' NV b8 u3 ∧ AB O w2 w'' Q' NV b9 u4 ∧ ¬ NV k ∧ w2.heap.size ≤ k ∧ (b8 = true → u3 ≠ .pointer (some ⟨k, 0, none⟩)) ∧ (b9 = true → u4 ≠ .pointer (some ⟨k, 0, none⟩)) := by
  obtain ⟨Q', g, q1, qv, m0, nv, a8, a9, ne⟩ := h
  have hA : ∀ {b u}, AB O w2 w' Q' NV b u → AB O w2 w'' (fun i => Q' i ∨ i = k) NV b u := fun a hb => by
    obtain ⟨i, e, hO, hQ, hn, hs⟩ := a hb
    exact ⟨i, e, m.heap hO (fun x => x), .inl hQ, hn, hs⟩
  have hN : ∀ {b u}, AB O w2 w' Q' NV b u → b = true → u ≠ .pointer (some ⟨k, 0, none⟩) := fun a hb e => by
    obtain ⟨i, e2, hO, _⟩ := a hb
    rw [e2] at e
    cases e
    have := lt_of_heap hO
    omega
  exact ⟨fun i => Q' i ∨ i = k, g.grow hf m (fun i hi => hi.imp id (fun e => by omega)) (fun i hi => .inl (g.q0 i hi)), .inr rfl, fun k hk => ⟨.inl (q1 k hk).1, (q1 k hk).2⟩, fun k hk => .inl (qv k hk), m0.then0 m, nv, hA a8, hA a9, fun x => by have := g.qlt k (qv k x); omega, by rw [hk]; exact m0.size, hN a8, hN a9⟩
theorem Fr.new8 {k : Nat} (h : Fr O w w2 w' P Q1 NV false b9 u3 u4) (hf : Framed P) (hk : k = w'.heap.size) (hO : w''.heap[k]? = some O) (m : Mods noB w' w'') (hl : k < w''.heap.size) : Fr O w w2 w'' P Q1 NV true b9 (.pointer (some ⟨k, 0, none⟩)) u4 := by
  obtain ⟨Q', g, hQ, q1, qv, m0, nv, _, a9, hn, hs, _, n9⟩ := h.grow hf hk m hl
  exact ⟨Q', g, q1, qv, m0, nv, fun _ => ⟨k, rfl, hO, hQ, hn, hs⟩, a9, fun _ hb e => n9 hb e.symm⟩
theorem Fr.new9 {k : Nat} (h : Fr O w w2 w' P Q1 NV b8 false u3 u4) (hf : Framed P) (hk : k = w'.heap.size) (hO : w''.heap[k]? = some O) (m : Mods noB w' w'') (hl : k < w''.heap.size) : Fr O w w2 w'' P Q1 NV b8 true u3 (.pointer (some ⟨k, 0, none⟩)) := by
  obtain ⟨Q', g, hQ, q1, qv, m0, nv, a8, _, hn, hs, n8, _⟩ := h.grow hf hk m hl
  exact ⟨Q', g, q1, qv, m0, nv, a8, fun _ => ⟨k, rfl, hO, hQ, hn, hs⟩, fun hb _ e => n8 hb e⟩
theorem Fr.both (h : Fr O w w2 w' P Q1 NV true true u3 u4) : ∃ k8 k9, u3 = .pointer (some ⟨k8, 0, none⟩) ∧ u4 = .pointer (some ⟨k9, 0, none⟩) ∧ w'.heap[k8]? = some O ∧ w'.heap[k9]? = some O ∧ k8 ≠ k9 := by
  obtain ⟨Q', g, q1, qv, m, nv, a8, a9, ne⟩ := h
  obtain ⟨k8, e8, h8, _⟩ := a8 rfl
  obtain ⟨k9, e9, h9, _⟩ := a9 rfl
  exact ⟨k8, k9, e8, e9, h8, h9, fun e => ne rfl rfl (by rw [e8, e9, e])⟩
theorem Fr.done {k8 k9 : Nat} (h : Fr O w w2 w' P Q1 NV true true (.pointer (some ⟨k8, 0, none⟩)) (.pointer (some ⟨k9, 0, none⟩))) (hf : Framed P) (h0 : ∀ k, k < w.heap.size → Q1 k) (m' : Mods (fun k => k = k8 ∨ k = k9) w' w'') :
    G1 w w'' P (fun k => Q1 k ∨ NV k ∨ k = k8 ∨ k = k9) ∧ Mods (fun k => ¬ Q1 k) w2 w'' ∧ Mods (fun k => ¬ NV k) w' w'' ∧ w2.heap.size ≤ k8 ∧ w2.heap.size ≤ k9 := by
  obtain ⟨Q', g, q1, qv, m, nv, a8, a9, ne⟩ := h
  obtain ⟨k8', e8, h8, hQ8, hn8, hs8⟩ := a8 rfl
  obtain ⟨k9', e9, h9, hQ9, hn9, hs9⟩ := a9 rfl
  cases e8
  cases e9
  have hw : w.heap.size ≤ w2.heap.size := by
    rcases Nat.lt_or_ge w2.heap.size w.heap.size with x | x
    · have := (q1 _ (h0 _ x)).2
      omega
    · exact x
  refine ⟨(g.turn hf m' (fun k hk => ?_)).less (fun k hk => ?_) (fun k hk => .inl (h0 k hk)), m.trans m' (fun _ _ x => x) (fun i _ x y => ?_), m'.mono (fun k _ x y => ?_), hs8, hs9⟩
  · rcases hk with rfl | rfl
    · exact ⟨hQ8, by omega⟩
    · exact ⟨hQ9, by omega⟩
  · rcases hk with x | x | rfl | rfl
    · exact (q1 k x).1
    · exact qv k x
    · exact hQ8
    · exact hQ9
  · have := (q1 i y).2
    rcases x with rfl | rfl <;> omega
  · rcases x with rfl | rfl
    · exact hn8 y
    · exact hn9 y
end
end Go.Gl

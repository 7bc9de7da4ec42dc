/- Entries that are gathered from a walk, in memory of their own (the store may tick meanwhile). -/
import Derived.Test.YtngemlpalkfjeaaKvV
import Derived.Test.YtngemlpalkfjeaaZB
namespace Go.Proofs.Ytngemlpalkfjeaa
open Go.Gl Go.RowKit
set_option linter.unusedVariables false
set_option maxRecDepth 100000
structure WdI (Sx X : Nat → Prop) (H : Nat → Obj) (w : World) (LL : List EV) (ob : Nat) (i : Nat) (U : Nat → Prop) (W : World) (v : Value) (L : List EV) : Prop where
  hob : W.heap[ob]? = some (.cells #[v] 28 (0, 0))
  hx : ∀ k, X k → W.heap[k]? = some (H k)
  row : OwnG W 45 2 v L.length (ecell L)
  own : ∀ e ∈ L, Gl.Own W e.kv e.k ∧ Gl.Own W e.vv e.v
  eq : L.map EV.ent = (LL.take i).map EV.ent
  u1 : ¬ U ob
  u2 : ∀ k, X k → ¬ U k
  vb : ∀ k, v.ownBlock = some k → w.heap.size ≤ k ∧ k ≠ ob ∧ ¬ X k ∧ ¬ U k
  db : ∀ k, MDL L k → w.heap.size ≤ k ∧ k ≠ ob ∧ ¬ X k ∧ v.ownBlock ≠ some k ∧ ¬ U k
  g1 : w.heap.size ≤ ob
  g2 : ∀ k, X k → w.heap.size ≤ k
  ne : ¬ X ob
  mods : Mods Sx w W
  sx : ∀ k, Sx k → k < w.heap.size
section
variable {Sx X : Nat → Prop} {H : Nat → Obj}
theorem WdI.dlt {w W : World} {LL L : List EV} {ob i : Nat} {U : Nat → Prop} {v : Value} (h : WdI Sx X H w LL ob i U W v L) {k : Nat} (hk : MDL L k) : k < W.heap.size := by
  obtain ⟨e, he, hk | hk⟩ := hk
  · exact (h.own e he).1.lt k hk
  · exact (h.own e he).2.lt k hk
theorem WdI.keep {w W W' : World} {LL L : List EV} {ob i : Nat} {U U' T : Nat → Prop} {v : Value} (h : WdI Sx X H w LL ob i U W v L) (hm : Mods T W W') (h1 : ¬ T ob) (h2 : ∀ k, X k → ¬ T k) (h3 : ∀ k, v.ownBlock = some k → ¬ T k) (h4 : ∀ k, MDL L k → ¬ T k) (h5 : ∀ k, T k → Sx k ∨ w.heap.size ≤ k)
    (hU : ∀ k, U' k → U k ∨ W.heap.size ≤ k) : WdI Sx X H w LL ob i U' W' v L := by
  have hl1 := lt_of_heap h.hob
  refine ⟨hm.heap h.hob h1, fun k hk => hm.heap (h.hx k hk) (h2 k hk), h.row.keep hm h3, fun e he => ⟨(h.own e he).1.keep hm (fun k hk => h4 k ⟨e, he, .inl hk⟩), (h.own e he).2.keep hm (fun k hk => h4 k ⟨e, he, .inr hk⟩)⟩, h.eq, fun hu => ?_, fun k hk hu => ?_, fun k hk => ?_, fun k hk => ?_, h.g1, h.g2, h.ne, h.mods.trans hm (fun _ _ x => x) (fun k hk ht => by
    rcases h5 k ht with x | x
    · exact x
    · omega), h.sx⟩
  · rcases hU _ hu with x | x
    · exact h.u1 x
    · omega
  · rcases hU _ hu with x | x
    · exact h.u2 k hk x
    · have := lt_of_heap (h.hx k hk); omega
  · obtain ⟨a, b, c, d⟩ := h.vb k hk
    refine ⟨a, b, c, fun hu => ?_⟩
    rcases hU _ hu with x | x
    · exact d x
    · have := h.row.lt k hk; omega
  · obtain ⟨a, b, c, d, e⟩ := h.db k hk
    refine ⟨a, b, c, d, fun hu => ?_⟩
    rcases hU _ hu with x | x
    · exact e x
    · have := h.dlt hk; omega
theorem WdI.frm {w A B : World} {LL L : List EV} {ob i base : Nat} {U U' : Nat → Prop} {v : Value} (h : WdI Sx X H w LL ob i U A v L) (hb : w.heap.size ≤ base) (hm : Mods (fun k => U k ∧ (noB k ∨ base ≤ k)) A B) (hsub : ∀ k, U' k → U k ∨ A.heap.size ≤ k) : WdI Sx X H w LL ob i U' B v L :=
  h.keep hm (fun x => h.u1 x.1) (fun k hk x => h.u2 k hk x.1) (fun k hk x => (h.vb k hk).2.2.2 x.1) (fun k hk x => (h.db k hk).2.2.2.2 x.1) (fun k x => by rcases x.2 with y | y; exact y.elim; exact .inr (by omega)) hsub
theorem WdI.turn {w A B : World} {LL L : List EV} {ob i : Nat} {U : Nat → Prop} {v : Value} (h : WdI Sx X H w LL ob i U A v L) (hm : Mods Sx A B) : WdI Sx X H w LL ob i U B v L :=
  h.keep hm (fun x => by have := h.sx _ x; have := h.g1; omega) (fun k hk x => by have := h.sx k x; have := h.g2 k hk; omega) (fun k hk x => by have := h.sx k x; have := (h.vb k hk).1; omega) (fun k hk x => by have := h.sx k x; have := (h.db k hk).1; omega) (fun k x => .inl x) (fun k hk => .inl hk)
theorem WdI.step {w W w7 w8 w9 w10 w11 : World} {LL L : List EV} {ob i : Nat} {U : Nat → Prop} {v kv vv d1 d2 v8 : Value} {e : EV} (h : WdI Sx X H w LL ob i (fun k => U k ∨ argB #[kv, vv] k) W v L) (hlen : L.length = i) (hget : LL[i]? = some e) (hus : ∀ k, U k → k < W.heap.size) (hws : w.heap.size ≤ W.heap.size)
    (hk : ∀ k, kv.ownBlock = some k → ¬ U k) (hv : ∀ k, vv.ownBlock = some k → ¬ U k) (bk : ∀ k, kv.ownBlock = some k → w.heap.size ≤ k ∧ k < W.heap.size) (bv : ∀ k, vv.ownBlock = some k → w.heap.size ≤ k ∧ k < W.heap.size)
    (o1 : Gl.Own w7 d1 e.k) (o2 : Gl.Own w7 d2 e.v) (f1 : freshIn W d1) (f2 : freshIn W d2) (m7 : Mods noB W w7) (o8 : OwnG w8 45 2 v8 (L.length + 1) (ecell L ++ [d1, d2])) (m8 : Mods (ofV v) w7 w8) (f8 : v8.ownBlock = v.ownBlock ∨ freshIn w7 v8) (h9 : w9 = w8.setCell ⟨ob, 0, none⟩ v8)
    (m10 : Mods (ofV kv) w9 w10) (m11 : Mods (ofV vv) w10 w11) : WdI Sx X H w LL ob (i + 1) U w11 v8 (L ++ [⟨d1, d2, e.k, e.v⟩]) ∧ Mods (fun k => ¬ U k) W w11 ∧ (∀ T : Nat → Prop, (∀ k, T k → k < w.heap.size) → Mods (fun k => ¬ T k) W w11) := by
  have m9 : Mods (fun k => k = ob) w8 w9 := by rw [h9]; exact (Mods.refl (fun k => k = ob) w8).setCell (p := ⟨ob, 0, none⟩) (.inl rfl) v8
  have hlo := lt_of_heap h.hob
  have s7 := m7.size
  have s8 := m8.size
  have aK : ∀ k, kv.ownBlock = some k → argB #[kv, vv] k := fun k hk => ⟨kv, by simp, hk⟩
  have aV : ∀ k, vv.ownBlock = some k → argB #[kv, vv] k := fun k hk => ⟨vv, by simp, hk⟩
  have xl : ∀ k, X k → k < W.heap.size := fun k hk => lt_of_heap (h.hx k hk)
  have b8 : ∀ k, v8.ownBlock = some k → w.heap.size ≤ k ∧ k ≠ ob ∧ ¬ X k ∧ ¬ U k ∧ kv.ownBlock ≠ some k ∧ vv.ownBlock ≠ some k := fun k hk8 => by
    rcases f8 with f | f
    · obtain ⟨a, b, c, d⟩ := h.vb k (f ▸ hk8)
      exact ⟨a, b, c, fun x => d (.inl x), fun x => d (.inr (aK k x)), fun x => d (.inr (aV k x))⟩
    · have := f k hk8
      exact ⟨by omega, by omega, fun x => by have := xl k x; omega, fun x => by have := hus k x; omega, fun x => by have := bk k x; omega, fun x => by have := bv k x; omega⟩
  have dlt : ∀ k, MDL (L ++ [⟨d1, d2, e.k, e.v⟩]) k → MDL L k ∨ ((d1.ownBlock = some k ∨ d2.ownBlock = some k) ∧ W.heap.size ≤ k ∧ k < w7.heap.size) := fun k hk => by
    obtain ⟨x, hx, hk⟩ := hk
    rw [List.mem_append, List.mem_singleton] at hx
    rcases hx with hx | rfl
    · exact .inl ⟨x, hx, hk⟩
    · rcases hk with hk | hk
      · exact .inr ⟨.inl hk, f1 k hk, o1.lt k hk⟩
      · exact .inr ⟨.inr hk, f2 k hk, o2.lt k hk⟩
  have bd : ∀ k, MDL (L ++ [⟨d1, d2, e.k, e.v⟩]) k → w.heap.size ≤ k ∧ k ≠ ob ∧ ¬ X k ∧ v.ownBlock ≠ some k ∧ v8.ownBlock ≠ some k ∧ ¬ U k ∧ kv.ownBlock ≠ some k ∧ vv.ownBlock ≠ some k := fun k hkd => by
    rcases dlt k hkd with hm | ⟨_, h1, h2⟩
    · obtain ⟨a, b, c, d, e⟩ := h.db k hm
      have := h.dlt hm
      refine ⟨a, b, c, d, fun x => ?_, fun x => e (.inl x), fun x => e (.inr (aK k x)), fun x => e (.inr (aV k x))⟩
      rcases f8 with f | f
      · exact d (f ▸ x)
      · have := f k x; omega
    · refine ⟨by omega, by omega, fun x => by have := xl k x; omega, fun x => by have := h.row.lt k x; omega, fun x => ?_, fun x => by have := hus k x; omega, fun x => by have := bk k x; omega, fun x => by have := bv k x; omega⟩
      rcases f8 with f | f
      · have := h.row.lt k (f ▸ x); omega
      · have := f k x; omega
  have tot : Mods (fun k => k = ob ∨ v.ownBlock = some k ∨ kv.ownBlock = some k ∨ vv.ownBlock = some k) W w11 :=
    (((m7.trans m8 (U := fun k => k = ob ∨ v.ownBlock = some k ∨ kv.ownBlock = some k ∨ vv.ownBlock = some k) (fun _ _ x => x.elim) (fun k _ x => .inr (.inl x))).trans m9 (fun _ _ x => x) (fun k _ x => .inl x)).trans m10 (fun _ _ x => x) (fun k _ x => .inr (.inr (.inl x)))).trans m11 (fun _ _ x => x) (fun k _ x => .inr (.inr (.inr x)))
  have nob : ¬ ofV kv ob := fun x => h.u1 (.inr (aK _ x))
  have vob : ¬ ofV vv ob := fun x => h.u1 (.inr (aV _ x))
  refine ⟨⟨?_, fun k hk => ?_, ?_, ?_, ?_, fun x => h.u1 (.inl x), fun k hk x => h.u2 k hk (.inl x), fun k hk => ?_, fun k hk => ?_, h.g1, h.g2, h.ne, ?_, h.sx⟩, tot.mono ?_, fun T hT => tot.mono ?_⟩
  · refine m11.heap (m10.heap ?_ nob) vob
    rw [h9]
    exact heap_set (m8.heap (m7.heap h.hob (fun x => x)) (fun x => (h.vb ob x).2.1 rfl)) 0 v8
  · exact m11.heap (m10.heap (m9.heap (m8.heap (m7.heap (h.hx k hk) (fun x => x)) (fun x => (h.vb k x).2.2.1 hk)) (fun x => h.ne (x ▸ hk))) (fun x => h.u2 k hk (.inr (aK k x)))) (fun x => h.u2 k hk (.inr (aV k x)))
  · rw [List.length_append, List.length_singleton, ecell_append]
    exact ((o8.keep m9 (fun k hk x => (b8 k hk).2.1 x)).keep m10 (fun k hk x => (b8 k hk).2.2.2.2.1 x)).keep m11 (fun k hk x => (b8 k hk).2.2.2.2.2 x)
  · have m911 : Mods (fun k => k = ob ∨ v.ownBlock = some k ∨ kv.ownBlock = some k ∨ vv.ownBlock = some k) w7 w11 :=
      ((m8.trans m9 (U := fun k => k = ob ∨ v.ownBlock = some k ∨ kv.ownBlock = some k ∨ vv.ownBlock = some k) (fun k _ x => .inr (.inl x)) (fun k _ x => .inl x)).trans m10 (fun _ _ x => x) (fun k _ x => .inr (.inr (.inl x)))).trans m11 (fun _ _ x => x) (fun k _ x => .inr (.inr (.inr x)))
    have nt : ∀ k, MDL (L ++ [⟨d1, d2, e.k, e.v⟩]) k → ¬ (k = ob ∨ v.ownBlock = some k ∨ kv.ownBlock = some k ∨ vv.ownBlock = some k) := fun k hk x => by
      obtain ⟨_, a, _, b, _, _, c, d⟩ := bd k hk
      rcases x with x | x | x | x
      · exact a x
      · exact b x
      · exact c x
      · exact d x
    intro x hx
    have hx' := hx
    rw [List.mem_append, List.mem_singleton] at hx
    rcases hx with hx | rfl
    · exact ⟨((h.own x hx).1.keep m7 (fun _ _ y => y)).keep m911 (fun k hk => nt k ⟨x, hx', .inl hk⟩), ((h.own x hx).2.keep m7 (fun _ _ y => y)).keep m911 (fun k hk => nt k ⟨x, hx', .inr hk⟩)⟩
    · exact ⟨o1.keep m911 (fun k hk => nt k ⟨_, hx', .inl hk⟩), o2.keep m911 (fun k hk => nt k ⟨_, hx', .inr hk⟩)⟩
  · rw [List.take_add_one, hget, List.map_append, List.map_append, h.eq]
    rfl
  · obtain ⟨a, b, c, d, _⟩ := b8 k hk
    exact ⟨a, b, c, d⟩
  · obtain ⟨a, b, c, _, d, e, _⟩ := bd k hk
    exact ⟨a, b, c, d, e⟩
  · refine h.mods.trans tot (fun _ _ x => x) (fun k hk x => ?_)
    rcases x with rfl | x | x | x
    · have := h.g1; omega
    · have := (h.vb k x).1; omega
    · have := (bk k x).1; omega
    · have := (bv k x).1; omega
  · intro k _ x hu
    rcases x with rfl | x | x | x
    · exact h.u1 (.inl hu)
    · exact (h.vb k x).2.2.2 (.inl hu)
    · exact hk k x hu
    · exact hv k x hu
  · intro k _ x hu
    have hk0 := hT k hu
    rcases x with rfl | x | x | x
    · have := h.g1; omega
    · have := (h.vb k x).1; omega
    · have := (bk k x).1; omega
    · have := (bv k x).1; omega
theorem WdI.step0 {w W w8 w9 : World} {LL L : List EV} {ob i : Nat} {U : Nat → Prop} {v kv vv v8 : Value} {e : EV} (h : WdI Sx X H w LL ob i (fun k => U k ∨ argB #[kv, vv] k) W v L) (hlen : L.length = i) (hget : LL[i]? = some e) (hus : ∀ k, U k → k < W.heap.size) (hws : w.heap.size ≤ W.heap.size)
    (hk : ∀ k, kv.ownBlock = some k → ¬ U k) (hv : ∀ k, vv.ownBlock = some k → ¬ U k) (bk : ∀ k, kv.ownBlock = some k → w.heap.size ≤ k) (bv : ∀ k, vv.ownBlock = some k → w.heap.size ≤ k)
    (o1 : Gl.Own W kv e.k) (o2 : Gl.Own W vv e.v) (o8 : OwnG w8 45 2 v8 (L.length + 1) (ecell L ++ [kv, vv])) (m8 : Mods (ofV v) W w8) (f8 : v8.ownBlock = v.ownBlock ∨ freshIn W v8) (h9 : w9 = w8.setCell ⟨ob, 0, none⟩ v8) :
    WdI Sx X H w LL ob (i + 1) U w9 v8 (L ++ [⟨kv, vv, e.k, e.v⟩]) ∧ Mods (fun k => ¬ U k) W w9 ∧ (∀ T : Nat → Prop, (∀ k, T k → k < w.heap.size) → Mods (fun k => ¬ T k) W w9) := by
  have m9 : Mods (fun k => k = ob) w8 w9 := by rw [h9]; exact (Mods.refl (fun k => k = ob) w8).setCell (p := ⟨ob, 0, none⟩) (.inl rfl) v8
  have hlo := lt_of_heap h.hob
  have aK : ∀ k, kv.ownBlock = some k → argB #[kv, vv] k := fun k hk => ⟨kv, by simp, hk⟩
  have aV : ∀ k, vv.ownBlock = some k → argB #[kv, vv] k := fun k hk => ⟨vv, by simp, hk⟩
  have xl : ∀ k, X k → k < W.heap.size := fun k hk => lt_of_heap (h.hx k hk)
  have b8 : ∀ k, v8.ownBlock = some k → w.heap.size ≤ k ∧ k ≠ ob ∧ ¬ X k ∧ ¬ U k ∧ kv.ownBlock ≠ some k ∧ vv.ownBlock ≠ some k := fun k hk8 => by
    rcases f8 with f | f
    · obtain ⟨a, b, c, d⟩ := h.vb k (f ▸ hk8)
      exact ⟨a, b, c, fun x => d (.inl x), fun x => d (.inr (aK k x)), fun x => d (.inr (aV k x))⟩
    · have := f k hk8
      exact ⟨by omega, by omega, fun x => by have := xl k x; omega, fun x => by have := hus k x; omega, fun x => by have := o1.lt k x; omega, fun x => by have := o2.lt k x; omega⟩
  have dc : ∀ k, MDL (L ++ [⟨kv, vv, e.k, e.v⟩]) k → MDL L k ∨ kv.ownBlock = some k ∨ vv.ownBlock = some k := fun k hk => by
    obtain ⟨x, hx, hk⟩ := hk
    rw [List.mem_append, List.mem_singleton] at hx
    rcases hx with hx | rfl
    · exact .inl ⟨x, hx, hk⟩
    · exact .inr hk
  have bd : ∀ k, MDL (L ++ [⟨kv, vv, e.k, e.v⟩]) k → w.heap.size ≤ k ∧ k ≠ ob ∧ ¬ X k ∧ v.ownBlock ≠ some k ∧ v8.ownBlock ≠ some k ∧ ¬ U k := fun k hkd => by
    rcases dc k hkd with hm | hm | hm
    · obtain ⟨a, b, c, d, e⟩ := h.db k hm
      have := h.dlt hm
      refine ⟨a, b, c, d, fun x => ?_, fun x => e (.inl x)⟩
      rcases f8 with f | f
      · exact d (f ▸ x)
      · have := f k x; omega
    · exact ⟨bk k hm, fun x => h.u1 (.inr (x ▸ aK k hm)), fun x => h.u2 k x (.inr (aK k hm)), fun x => (h.vb k x).2.2.2 (.inr (aK k hm)), fun x => (b8 k x).2.2.2.2.1 hm, hk k hm⟩
    · exact ⟨bv k hm, fun x => h.u1 (.inr (x ▸ aV k hm)), fun x => h.u2 k x (.inr (aV k hm)), fun x => (h.vb k x).2.2.2 (.inr (aV k hm)), fun x => (b8 k x).2.2.2.2.2 hm, hv k hm⟩
  have tot : Mods (fun k => k = ob ∨ v.ownBlock = some k) W w9 := m8.trans m9 (fun _ _ x => .inr x) (fun k _ x => .inl x)
  have nt : ∀ k, MDL (L ++ [⟨kv, vv, e.k, e.v⟩]) k → ¬ (k = ob ∨ v.ownBlock = some k) := fun k hk x => by
    obtain ⟨_, a, _, b, _, _⟩ := bd k hk
    rcases x with x | x
    · exact a x
    · exact b x
  refine ⟨⟨?_, fun k hk => ?_, ?_, fun x hx => ?_, ?_, fun x => h.u1 (.inl x), fun k hk x => h.u2 k hk (.inl x), fun k hk => ?_, fun k hk => ?_, h.g1, h.g2, h.ne, ?_, h.sx⟩, tot.mono ?_, fun T hT => tot.mono ?_⟩
  · rw [h9]
    exact heap_set (m8.heap h.hob (fun x => (h.vb ob x).2.1 rfl)) 0 v8
  · exact tot.heap (h.hx k hk) (fun x => by
      rcases x with x | x
      · exact h.ne (x ▸ hk)
      · exact (h.vb k x).2.2.1 hk)
  · rw [List.length_append, List.length_singleton, ecell_append]
    exact o8.keep m9 (fun k hk x => (b8 k hk).2.1 x)
  · have hx' := hx
    rw [List.mem_append, List.mem_singleton] at hx
    rcases hx with hx | rfl
    · exact ⟨(h.own x hx).1.keep tot (fun k hk => nt k ⟨x, hx', .inl hk⟩), (h.own x hx).2.keep tot (fun k hk => nt k ⟨x, hx', .inr hk⟩)⟩
    · exact ⟨o1.keep tot (fun k hk => nt k ⟨_, hx', .inl hk⟩), o2.keep tot (fun k hk => nt k ⟨_, hx', .inr hk⟩)⟩
  · rw [List.take_add_one, hget, List.map_append, List.map_append, h.eq]
    rfl
  · obtain ⟨a, b, c, d, _⟩ := b8 k hk
    exact ⟨a, b, c, d⟩
  · obtain ⟨a, b, c, _, d, e⟩ := bd k hk
    exact ⟨a, b, c, d, e⟩
  · refine h.mods.trans tot (fun _ _ x => x) (fun k hk x => ?_)
    rcases x with rfl | x
    · have := h.g1; omega
    · have := (h.vb k x).1; omega
  · intro k _ x hu
    rcases x with rfl | x
    · exact h.u1 (.inl hu)
    · exact (h.vb k x).2.2.2 (.inl hu)
  · intro k _ x hu
    have hk0 := hT k hu
    rcases x with rfl | x
    · have := h.g1; omega
    · have := (h.vb k x).1; omega
end
structure WkGot (w w' : World) (v : Value) (L : List EV) : Prop where
  row : OwnG w' 45 2 v L.length (ecell L)
  own : ∀ e ∈ L, Gl.Own w' e.kv e.k ∧ Gl.Own w' e.vv e.v
  vf : freshIn w v
  df : ∀ k, MDL L k → w.heap.size ≤ k ∧ v.ownBlock ≠ some k
theorem WdI.got {Sx X : Nat → Prop} {H : Nat → Obj} {T : Nat → Prop} {w W : World} {LL L : List EV} {ob i : Nat} {U : Nat → Prop} {v : Value} (h : WdI Sx X H w LL ob i U W v L) {W' : World} (hm : Mods T W W') (hT : ∀ k, T k → U k ∧ w.heap.size ≤ k) : WkGot w W' v L ∧ Mods Sx w W' :=
  have h' := h.keep hm (fun x => h.u1 (hT _ x).1) (fun k hk x => h.u2 k hk (hT _ x).1) (fun k hk x => (h.vb k hk).2.2.2 (hT _ x).1) (fun k hk x => (h.db k hk).2.2.2.2 (hT _ x).1) (fun k x => .inr (hT k x).2) (U' := U) (fun k hk => .inl hk)
  ⟨⟨h'.row, h'.own, fun k hk => (h'.vb k hk).1, fun k hk => ⟨(h'.db k hk).1, (h'.db k hk).2.2.2.1⟩⟩, h'.mods⟩
theorem WkGot.prow {w w' : World} {v : Value} {L : List EV} (h : WkGot w w' v L) : PRow w' v L := ⟨h.row.rd, fun e he => ⟨(h.own e he).1.rd, (h.own e he).2.rd⟩⟩
theorem WkGot.lt {w w' : World} {v : Value} {L : List EV} (h : WkGot w w' v L) : (∀ k, v.ownBlock = some k → k < w'.heap.size) ∧ ∀ k, MDL L k → k < w'.heap.size := ⟨h.row.lt, fun k ⟨e, he, hk⟩ => by
  rcases hk with hk | hk
  · exact (h.own e he).1.lt k hk
  · exact (h.own e he).2.lt k hk⟩
end Go.Proofs.Ytngemlpalkfjeaa

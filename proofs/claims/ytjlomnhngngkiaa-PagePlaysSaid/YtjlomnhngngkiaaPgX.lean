/- gleanlaw5.walked: the first entries of a walk, in memory of their own. -/
import Derived.Test.YtjlomnhngngkiaaPgX0
import Derived.Deep.DeepCutAuto
namespace Go.Proofs.Ytjlomnhngngkiaa
open Go.Gl Go.RowKit
set_option linter.unusedVariables false
set_option maxRecDepth 100000

def MDL (L : List EV) (k : Nat) : Prop := ∃ e ∈ L, e.kv.ownBlock = some k ∨ e.vv.ownBlock = some k
/-- what has been gathered, i entries having come -/
structure WdI (w : World) (LL : List EV) (ob nb : Nat) (N : Int) (i : Nat) (U : Nat → Prop) (W : World) (v : Value) (L : List EV) : Prop where
  hob : W.heap[ob]? = some (.cells #[v] 44 (0, 0))
  hnb : W.heap[nb]? = some (.cells #[.int .i64 N] 3 (0, 0))
  row : OwnG W 52 2 v L.length (ecell L)
  own : ∀ e ∈ L, Gl.Own W e.kv e.k ∧ Gl.Own W e.vv e.v
  eq : L.map EV.ent = (LL.take i).map EV.ent
  u1 : ¬ U ob
  u2 : ¬ U nb
  vb : ∀ k, v.ownBlock = some k → w.heap.size ≤ k ∧ k ≠ ob ∧ k ≠ nb ∧ ¬ U k
  db : ∀ k, MDL L k → w.heap.size ≤ k ∧ k ≠ ob ∧ k ≠ nb ∧ v.ownBlock ≠ some k ∧ ¬ U k
  g1 : w.heap.size ≤ ob
  g2 : w.heap.size ≤ nb
  ne : ob ≠ nb
  mods : Mods noB w W

theorem WdI.dlt {w W : World} {LL L : List EV} {ob nb i : Nat} {N : Int} {U : Nat → Prop} {v : Value} (h : WdI w LL ob nb N i U W v L) {k : Nat} (hk : MDL L k) : k < W.heap.size := by
  obtain ⟨e, he, hk | hk⟩ := hk
  · exact (h.own e he).1.lt k hk
  · exact (h.own e he).2.lt k hk

theorem WdI.keep {w W W' : World} {LL L : List EV} {ob nb i : Nat} {N : Int} {U U' T : Nat → Prop} {v : Value} (h : WdI w LL ob nb N i U W v L) (hm : Mods T W W') (h1 : ¬ T ob) (h2 : ¬ T nb) (h3 : ∀ k, v.ownBlock = some k → ¬ T k) (h4 : ∀ k, MDL L k → ¬ T k) (h5 : ∀ k, T k → w.heap.size ≤ k)
    (hU : ∀ k, U' k → U k ∨ W.heap.size ≤ k) : WdI w LL ob nb N i U' W' v L := by
  have hl1 := lt_of_heap h.hob
  have hl2 := lt_of_heap h.hnb
  refine ⟨hm.heap h.hob h1, hm.heap h.hnb h2, h.row.keep hm h3, fun e he => ⟨(h.own e he).1.keep hm (fun k hk => h4 k ⟨e, he, .inl hk⟩), (h.own e he).2.keep hm (fun k hk => h4 k ⟨e, he, .inr hk⟩)⟩, h.eq, fun hu => ?_, fun hu => ?_, fun k hk => ?_, fun k hk => ?_, h.g1, h.g2, h.ne, h.mods.trans hm (fun _ _ x => x) (fun k hk ht => by have := h5 k ht; omega)⟩
  · rcases hU _ hu with x | x
    · exact h.u1 x
    · omega
  · rcases hU _ hu with x | x
    · exact h.u2 x
    · omega
  · obtain ⟨a, b, c, d⟩ := h.vb k hk
    refine ⟨a, b, c, fun hu => ?_⟩
    rcases hU _ hu with x | x
    · exact d x
    · have := h.row.lt k hk; omega
  · obtain ⟨a, b, c, d, e⟩ := h.db k hk
    refine ⟨a, b, c, d, fun hu => ?_⟩
    rcases hU _ hu with x | x
    · exact e x
    · have := h.dlt hk; omega

theorem WdI.frm {w A B : World} {LL L : List EV} {ob nb i base : Nat} {N : Int} {U U' : Nat → Prop} {v : Value} (h : WdI w LL ob nb N i U A v L) (hb : w.heap.size ≤ base) (hm : Mods (fun k => U k ∧ (noB k ∨ base ≤ k)) A B) (hsub : ∀ k, U' k → U k ∨ A.heap.size ≤ k) : WdI w LL ob nb N i U' B v L :=
  h.keep hm (fun x => h.u1 x.1) (fun x => h.u2 x.1) (fun k hk x => (h.vb k hk).2.2.2 x.1) (fun k hk x => (h.db k hk).2.2.2.2 x.1) (fun k x => by rcases x.2 with y | y; exact y.elim; omega) hsub

theorem WdI.step {w W w7 w8 w9 w10 w11 : World} {LL L : List EV} {ob nb i : Nat} {N : Int} {U : Nat → Prop} {v kv vv d1 d2 v8 : Value} {e : EV} (h : WdI w LL ob nb N i (fun k => U k ∨ argB #[kv, vv] k) W v L) (hlen : L.length = i) (hget : LL[i]? = some e) (hus : ∀ k, U k → k < W.heap.size) (hws : w.heap.size ≤ W.heap.size)
    (hk : ∀ k, kv.ownBlock = some k → ¬ U k) (hv : ∀ k, vv.ownBlock = some k → ¬ U k) (bk : ∀ k, kv.ownBlock = some k → w.heap.size ≤ k ∧ k < W.heap.size) (bv : ∀ k, vv.ownBlock = some k → w.heap.size ≤ k ∧ k < W.heap.size)
    (o1 : Gl.Own w7 d1 e.k) (o2 : Gl.Own w7 d2 e.v) (f1 : freshIn W d1) (f2 : freshIn W d2) (m7 : Mods noB W w7) (o8 : OwnG w8 52 2 v8 (L.length + 1) (ecell L ++ [d1, d2])) (m8 : Mods (ofV v) w7 w8) (f8 : v8.ownBlock = v.ownBlock ∨ freshIn w7 v8) (h9 : w9 = w8.setCell ⟨ob, 0, none⟩ v8)
    (m10 : Mods (ofV kv) w9 w10) (m11 : Mods (ofV vv) w10 w11) : WdI w LL ob nb N (i + 1) U w11 v8 (L ++ [⟨d1, d2, e.k, e.v⟩]) ∧ Mods (fun k => ¬ U k) W w11 := by
  have m9 : Mods (fun k => k = ob) w8 w9 := by rw [h9]; exact (Mods.refl (fun k => k = ob) w8).setCell (p := ⟨ob, 0, none⟩) (.inl rfl) v8
  have hlo := lt_of_heap h.hob
  have hln := lt_of_heap h.hnb
  have s7 := m7.size
  have s8 := m8.size
  have aK : ∀ k, kv.ownBlock = some k → argB #[kv, vv] k := fun k hk => ⟨kv, by simp, hk⟩
  have aV : ∀ k, vv.ownBlock = some k → argB #[kv, vv] k := fun k hk => ⟨vv, by simp, hk⟩
  have b8 : ∀ k, v8.ownBlock = some k → w.heap.size ≤ k ∧ k ≠ ob ∧ k ≠ nb ∧ ¬ U k ∧ kv.ownBlock ≠ some k ∧ vv.ownBlock ≠ some k := fun k hk8 => by
    rcases f8 with f | f
    · obtain ⟨a, b, c, d⟩ := h.vb k (f ▸ hk8)
      exact ⟨a, b, c, fun x => d (.inl x), fun x => d (.inr (aK k x)), fun x => d (.inr (aV k x))⟩
    · have := f k hk8
      exact ⟨by omega, by omega, by omega, fun x => by have := hus k x; omega, fun x => by have := bk k x; omega, fun x => by have := bv k x; omega⟩
  have dlt : ∀ k, MDL (L ++ [⟨d1, d2, e.k, e.v⟩]) k → MDL L k ∨ ((d1.ownBlock = some k ∨ d2.ownBlock = some k) ∧ W.heap.size ≤ k ∧ k < w7.heap.size) := fun k hk => by
    obtain ⟨x, hx, hk⟩ := hk
    rw [List.mem_append, List.mem_singleton] at hx
    rcases hx with hx | rfl
    · exact .inl ⟨x, hx, hk⟩
    · rcases hk with hk | hk
      · exact .inr ⟨.inl hk, f1 k hk, o1.lt k hk⟩
      · exact .inr ⟨.inr hk, f2 k hk, o2.lt k hk⟩
  have bd : ∀ k, MDL (L ++ [⟨d1, d2, e.k, e.v⟩]) k → w.heap.size ≤ k ∧ k ≠ ob ∧ k ≠ nb ∧ v.ownBlock ≠ some k ∧ v8.ownBlock ≠ some k ∧ ¬ U k ∧ kv.ownBlock ≠ some k ∧ vv.ownBlock ≠ some k := fun k hkd => by
    rcases dlt k hkd with hm | ⟨_, h1, h2⟩
    · obtain ⟨a, b, c, d, e⟩ := h.db k hm
      have := h.dlt hm
      refine ⟨a, b, c, d, fun x => ?_, fun x => e (.inl x), fun x => e (.inr (aK k x)), fun x => e (.inr (aV k x))⟩
      rcases f8 with f | f
      · exact d (f ▸ x)
      · have := f k x; omega
    · refine ⟨by omega, by omega, by omega, fun x => by have := h.row.lt k x; omega, fun x => ?_, fun x => by have := hus k x; omega, fun x => by have := bk k x; omega, fun x => by have := bv k x; omega⟩
      rcases f8 with f | f
      · have := h.row.lt k (f ▸ x); omega
      · have := f k x; omega
  have tot : Mods (fun k => k = ob ∨ v.ownBlock = some k ∨ kv.ownBlock = some k ∨ vv.ownBlock = some k) W w11 :=
    (((m7.trans m8 (U := fun k => k = ob ∨ v.ownBlock = some k ∨ kv.ownBlock = some k ∨ vv.ownBlock = some k) (fun _ _ x => x.elim) (fun k _ x => .inr (.inl x))).trans m9 (fun _ _ x => x) (fun k _ x => .inl x)).trans m10 (fun _ _ x => x) (fun k _ x => .inr (.inr (.inl x)))).trans m11 (fun _ _ x => x) (fun k _ x => .inr (.inr (.inr x)))
  have nob : ¬ ofV kv ob := fun x => h.u1 (.inr (aK _ x))
  have vob : ¬ ofV vv ob := fun x => h.u1 (.inr (aV _ x))
  have nnb : ¬ ofV kv nb := fun x => h.u2 (.inr (aK _ x))
  have vnb : ¬ ofV vv nb := fun x => h.u2 (.inr (aV _ x))
  refine ⟨⟨?_, ?_, ?_, ?_, ?_, fun x => h.u1 (.inl x), fun x => h.u2 (.inl x), fun k hk => ?_, fun k hk => ?_, h.g1, h.g2, h.ne, ?_⟩, tot.mono ?_⟩
  · refine m11.heap (m10.heap ?_ nob) vob
    rw [h9]
    exact heap_set (m8.heap (m7.heap h.hob (fun x => x)) (fun x => (h.vb ob x).2.1 rfl)) 0 v8
  · exact m11.heap (m10.heap (m9.heap (m8.heap (m7.heap h.hnb (fun x => x)) (fun x => (h.vb nb x).2.2.1 rfl)) (fun x => h.ne x.symm)) nnb) vnb
  · rw [List.length_append, List.length_singleton, ecell_append]
    exact ((o8.keep m9 (fun k hk x => (b8 k hk).2.1 x)).keep m10 (fun k hk x => (b8 k hk).2.2.2.2.1 x)).keep m11 (fun k hk x => (b8 k hk).2.2.2.2.2 x)
  · have m911 : Mods (fun k => k = ob ∨ v.ownBlock = some k ∨ kv.ownBlock = some k ∨ vv.ownBlock = some k) w7 w11 :=
      ((m8.trans m9 (U := fun k => k = ob ∨ v.ownBlock = some k ∨ kv.ownBlock = some k ∨ vv.ownBlock = some k) (fun k _ x => .inr (.inl x)) (fun k _ x => .inl x)).trans m10 (fun _ _ x => x) (fun k _ x => .inr (.inr (.inl x)))).trans m11 (fun _ _ x => x) (fun k _ x => .inr (.inr (.inr x)))
    have nt : ∀ k, MDL (L ++ [⟨d1, d2, e.k, e.v⟩]) k → ¬ (k = ob ∨ v.ownBlock = some k ∨ kv.ownBlock = some k ∨ vv.ownBlock = some k) := fun k hk x => by
      obtain ⟨_, a, _, b, _, _, c, d⟩ := bd k hk
      rcases x with x | x | x | x
      · exact a x
      · exact b x
      · exact c x
      · exact d x
    intro x hx
    have hx' := hx
    rw [List.mem_append, List.mem_singleton] at hx
    rcases hx with hx | rfl
    · exact ⟨((h.own x hx).1.keep m7 (fun _ _ y => y)).keep m911 (fun k hk => nt k ⟨x, hx', .inl hk⟩), ((h.own x hx).2.keep m7 (fun _ _ y => y)).keep m911 (fun k hk => nt k ⟨x, hx', .inr hk⟩)⟩
    · exact ⟨o1.keep m911 (fun k hk => nt k ⟨_, hx', .inl hk⟩), o2.keep m911 (fun k hk => nt k ⟨_, hx', .inr hk⟩)⟩
  · rw [List.take_add_one, hget, List.map_append, List.map_append, h.eq]
    rfl
  · obtain ⟨a, b, c, d, _⟩ := b8 k hk
    exact ⟨a, b, c, d⟩
  · obtain ⟨a, b, c, _, d, e, _⟩ := bd k hk
    exact ⟨a, b, c, d, e⟩
  · refine h.mods.trans tot (fun _ _ x => x) (fun k hk x => ?_)
    rcases x with rfl | x | x | x
    · have := h.g1; omega
    · have := (h.vb k x).1; omega
    · have := (bk k x).1; omega
    · have := (bv k x).1; omega
  · intro k _ x hu
    rcases x with rfl | x | x | x
    · exact h.u1 (.inl hu)
    · exact (h.vb k x).2.2.2 (.inl hu)
    · exact hk k x hu
    · exact hv k x hu

end Go.Proofs.Ytjlomnhngngkiaa

/- Parts of the proof, one behind the other: KvWd, HSpoil, KvD0, KvT, KvD, KvB, KvE, KvX, KvY, KvH, KvL, KvSr, KForm, SpecK, KEight, KFirst, KEq, KMake, RPut, EWr, EWr2, EWr3, Grow, Make, NLib, NPlain, NTrim, Len64, NBits, NBytes, EWrN, NumT, RRdr, ERd. -/
import Derived.Test.YtglkmaalpammcaaZC
import Derived.Test.YtglkmaalpammcaaZB
import Derived.Test.YtglkmaalpammcaaZA
import Derived.Deep.WholeRow
import Derived.KernelRfl
import Derived.Deep.RegionLaw
import Derived.Deep.DrawnRows
import Derived.Deep.OwnRows
import Derived.Shelf.Strconv.Itoa0
import Derived.Test.YtglkmaalpammcaaProg
import Derived.Lib.ItoaNum
import Derived.LoopN

namespace Go.Proofs.Ytglkmaalpammcaa
open Go.Gl Go.RowKit
set_option linter.unusedVariables false
set_option maxRecDepth 100000
structure WdI (Sx X : Nat → Prop) (H : Nat → Obj) (w : World) (LL : List EV) (ob : Nat) (i : Nat) (U : Nat → Prop) (W : World) (v : Value) (L : List EV) : Prop where
  hob : W.heap[ob]? = some (.cells #[v] 35 (0, 0))
  hx : ∀ k, X k → W.heap[k]? = some (H k)
  row : OwnG W 87 2 v L.length (ecell L)
  own : ∀ e ∈ L, Gl.Own W e.kv e.k ∧ Gl.Own W e.vv e.v
  eq : L.map EV.ent = (LL.take i).map EV.ent
  u1 : ¬ U ob
  u2 : ∀ k, X k → ¬ U k
  vb : ∀ k, v.ownBlock = some k → w.heap.size ≤ k ∧ k ≠ ob ∧ ¬ X k ∧ ¬ U k
  db : ∀ k, MDL L k → w.heap.size ≤ k ∧ k ≠ ob ∧ ¬ X k ∧ v.ownBlock ≠ some k ∧ ¬ U k
  g1 : w.heap.size ≤ ob
  g2 : ∀ k, X k → w.heap.size ≤ k
  ne : ¬ X ob
  mods : Mods Sx w W
  sx : ∀ k, Sx k → k < w.heap.size
section
variable {Sx X : Nat → Prop} {H : Nat → Obj}
theorem WdI.dlt {w W : World} {LL L : List EV} {ob i : Nat} {U : Nat → Prop} {v : Value} (h : WdI Sx X H w LL ob i U W v L) {k : Nat} (hk : MDL L k) : k < W.heap.size := by
  obtain ⟨e, he, hk | hk⟩ := hk
  · exact (h.own e he).1.lt k hk
  · exact (h.own e he).2.lt k hk
theorem WdI.keep {w W W' : World} {LL L : List EV} {ob i : Nat} {U U' T : Nat → Prop} {v : Value} (h : WdI Sx X H w LL ob i U W v L) (hm : Mods T W W') (h1 : ¬ T ob) (h2 : ∀ k, X k → ¬ T k) (h3 : ∀ k, v.ownBlock = some k → ¬ T k) (h4 : ∀ k, MDL L k → ¬ T k) (h5 : ∀ k, T k → Sx k ∨ w.heap.size ≤ k)
    (hU : ∀ k, U' k → U k ∨ W.heap.size ≤ k) : WdI Sx X H w LL ob i U' W' v L := by
  have hl1 := lt_of_heap h.hob
  refine ⟨hm.heap h.hob h1, fun k hk => hm.heap (h.hx k hk) (h2 k hk), h.row.keep hm h3, fun e he => ⟨(h.own e he).1.keep hm (fun k hk => h4 k ⟨e, he, .inl hk⟩), (h.own e he).2.keep hm (fun k hk => h4 k ⟨e, he, .inr hk⟩)⟩, h.eq, fun hu => ?_, fun k hk hu => ?_, fun k hk => ?_, fun k hk => ?_, h.g1, h.g2, h.ne, h.mods.trans hm (fun _ _ x => x) (fun k hk ht => by
    rcases h5 k ht with x | x
    · exact x
    · omega), h.sx⟩
  · rcases hU _ hu with x | x
    · exact h.u1 x
    · omega
  · rcases hU _ hu with x | x
    · exact h.u2 k hk x
    · have := lt_of_heap (h.hx k hk); omega
  · obtain ⟨a, b, c, d⟩ := h.vb k hk
    refine ⟨a, b, c, fun hu => ?_⟩
    rcases hU _ hu with x | x
    · exact d x
    · have := h.row.lt k hk; omega
  · obtain ⟨a, b, c, d, e⟩ := h.db k hk
    refine ⟨a, b, c, d, fun hu => ?_⟩
    rcases hU _ hu with x | x
    · exact e x
    · have := h.dlt hk; omega
theorem WdI.frm {w A B : World} {LL L : List EV} {ob i base : Nat} {U U' : Nat → Prop} {v : Value} (h : WdI Sx X H w LL ob i U A v L) (hb : w.heap.size ≤ base) (hm : Mods (fun k => U k ∧ (noB k ∨ base ≤ k)) A B) (hsub : ∀ k, U' k → U k ∨ A.heap.size ≤ k) : WdI Sx X H w LL ob i U' B v L :=
  h.keep hm (fun x => h.u1 x.1) (fun k hk x => h.u2 k hk x.1) (fun k hk x => (h.vb k hk).2.2.2 x.1) (fun k hk x => (h.db k hk).2.2.2.2 x.1) (fun k x => by rcases x.2 with y | y; exact y.elim; exact .inr (by omega)) hsub
theorem WdI.turn {w A B : World} {LL L : List EV} {ob i : Nat} {U : Nat → Prop} {v : Value} (h : WdI Sx X H w LL ob i U A v L) (hm : Mods Sx A B) : WdI Sx X H w LL ob i U B v L :=
  h.keep hm (fun x => by have := h.sx _ x; have := h.g1; omega) (fun k hk x => by have := h.sx k x; have := h.g2 k hk; omega) (fun k hk x => by have := h.sx k x; have := (h.vb k hk).1; omega) (fun k hk x => by have := h.sx k x; have := (h.db k hk).1; omega) (fun k x => .inl x) (fun k hk => .inl hk)
theorem WdI.step {w W w7 w8 w9 w10 w11 : World} {LL L : List EV} {ob i : Nat} {U : Nat → Prop} {v kv vv d1 d2 v8 : Value} {e : EV} (h : WdI Sx X H w LL ob i (fun k => U k ∨ argB #[kv, vv] k) W v L) (hlen : L.length = i) (hget : LL[i]? = some e) (hus : ∀ k, U k → k < W.heap.size) (hws : w.heap.size ≤ W.heap.size)
    (hk : ∀ k, kv.ownBlock = some k → ¬ U k) (hv : ∀ k, vv.ownBlock = some k → ¬ U k) (bk : ∀ k, kv.ownBlock = some k → w.heap.size ≤ k ∧ k < W.heap.size) (bv : ∀ k, vv.ownBlock = some k → w.heap.size ≤ k ∧ k < W.heap.size)
    (o1 : Gl.Own w7 d1 e.k) (o2 : Gl.Own w7 d2 e.v) (f1 : freshIn W d1) (f2 : freshIn W d2) (m7 : Mods noB W w7) (o8 : OwnG w8 87 2 v8 (L.length + 1) (ecell L ++ [d1, d2])) (m8 : Mods (ofV v) w7 w8) (f8 : v8.ownBlock = v.ownBlock ∨ freshIn w7 v8) (h9 : w9 = w8.setCell ⟨ob, 0, none⟩ v8)
    (m10 : Mods (ofV kv) w9 w10) (m11 : Mods (ofV vv) w10 w11) : WdI Sx X H w LL ob (i + 1) U w11 v8 (L ++ [⟨d1, d2, e.k, e.v⟩]) ∧ Mods (fun k => ¬ U k) W w11 ∧ (∀ T : Nat → Prop, (∀ k, T k → k < w.heap.size) → Mods (fun k => ¬ T k) W w11) := by
  have m9 : Mods (fun k => k = ob) w8 w9 := by rw [h9]; exact (Mods.refl (fun k => k = ob) w8).setCell (p := ⟨ob, 0, none⟩) (.inl rfl) v8
  have hlo := lt_of_heap h.hob
  have s7 := m7.size
  have s8 := m8.size
  have aK : ∀ k, kv.ownBlock = some k → argB #[kv, vv] k := fun k hk => ⟨kv, by simp, hk⟩
  have aV : ∀ k, vv.ownBlock = some k → argB #[kv, vv] k := fun k hk => ⟨vv, by simp, hk⟩
  have xl : ∀ k, X k → k < W.heap.size := fun k hk => lt_of_heap (h.hx k hk)
  have b8 : ∀ k, v8.ownBlock = some k → w.heap.size ≤ k ∧ k ≠ ob ∧ ¬ X k ∧ ¬ U k ∧ kv.ownBlock ≠ some k ∧ vv.ownBlock ≠ some k := fun k hk8 => by
    rcases f8 with f | f
    · obtain ⟨a, b, c, d⟩ := h.vb k (f ▸ hk8)
      exact ⟨a, b, c, fun x => d (.inl x), fun x => d (.inr (aK k x)), fun x => d (.inr (aV k x))⟩
    · have := f k hk8
      exact ⟨by omega, by omega, fun x => by have := xl k x; omega, fun x => by have := hus k x; omega, fun x => by have := bk k x; omega, fun x => by have := bv k x; omega⟩
  have dlt : ∀ k, MDL (L ++ [⟨d1, d2, e.k, e.v⟩]) k → MDL L k ∨ ((d1.ownBlock = some k ∨ d2.ownBlock = some k) ∧ W.heap.size ≤ k ∧ k < w7.heap.size) := fun k hk => by
    obtain ⟨x, hx, hk⟩ := hk
    rw [List.mem_append, List.mem_singleton] at hx
    rcases hx with hx | rfl
    · exact .inl ⟨x, hx, hk⟩
    · rcases hk with hk | hk
      · exact .inr ⟨.inl hk, f1 k hk, o1.lt k hk⟩
      · exact .inr ⟨.inr hk, f2 k hk, o2.lt k hk⟩
  have bd : ∀ k, MDL (L ++ [⟨d1, d2, e.k, e.v⟩]) k → w.heap.size ≤ k ∧ k ≠ ob ∧ ¬ X k ∧ v.ownBlock ≠ some k ∧ v8.ownBlock ≠ some k ∧ ¬ U k ∧ kv.ownBlock ≠ some k ∧ vv.ownBlock ≠ some k := fun k hkd => by
    rcases dlt k hkd with hm | ⟨_, h1, h2⟩
    · obtain ⟨a, b, c, d, e⟩ := h.db k hm
      have := h.dlt hm
      refine ⟨a, b, c, d, fun x => ?_, fun x => e (.inl x), fun x => e (.inr (aK k x)), fun x => e (.inr (aV k x))⟩
      rcases f8 with f | f
      · exact d (f ▸ x)
      · have := f k x; omega
    · refine ⟨by omega, by omega, fun x => by have := xl k x; omega, fun x => by have := h.row.lt k x; omega, fun x => ?_, fun x => by have := hus k x; omega, fun x => by have := bk k x; omega, fun x => by have := bv k x; omega⟩
      rcases f8 with f | f
      · have := h.row.lt k (f ▸ x); omega
      · have := f k x; omega
  have tot : Mods (fun k => k = ob ∨ v.ownBlock = some k ∨ kv.ownBlock = some k ∨ vv.ownBlock = some k) W w11 :=
    (((m7.trans m8 (U := fun k => k = ob ∨ v.ownBlock = some k ∨ kv.ownBlock = some k ∨ vv.ownBlock = some k) (fun _ _ x => x.elim) (fun k _ x => .inr (.inl x))).trans m9 (fun _ _ x => x) (fun k _ x => .inl x)).trans m10 (fun _ _ x => x) (fun k _ x => .inr (.inr (.inl x)))).trans m11 (fun _ _ x => x) (fun k _ x => .inr (.inr (.inr x)))
  have nob : ¬ ofV kv ob := fun x => h.u1 (.inr (aK _ x))
  have vob : ¬ ofV vv ob := fun x => h.u1 (.inr (aV _ x))
  refine ⟨⟨?_, fun k hk => ?_, ?_, ?_, ?_, fun x => h.u1 (.inl x), fun k hk x => h.u2 k hk (.inl x), fun k hk => ?_, fun k hk => ?_, h.g1, h.g2, h.ne, ?_, h.sx⟩, tot.mono ?_, fun T hT => tot.mono ?_⟩
  · refine m11.heap (m10.heap ?_ nob) vob
    rw [h9]
    exact heap_set (m8.heap (m7.heap h.hob (fun x => x)) (fun x => (h.vb ob x).2.1 rfl)) 0 v8
  · exact m11.heap (m10.heap (m9.heap (m8.heap (m7.heap (h.hx k hk) (fun x => x)) (fun x => (h.vb k x).2.2.1 hk)) (fun x => h.ne (x ▸ hk))) (fun x => h.u2 k hk (.inr (aK k x)))) (fun x => h.u2 k hk (.inr (aV k x)))
  · rw [List.length_append, List.length_singleton, ecell_append]
    exact ((o8.keep m9 (fun k hk x => (b8 k hk).2.1 x)).keep m10 (fun k hk x => (b8 k hk).2.2.2.2.1 x)).keep m11 (fun k hk x => (b8 k hk).2.2.2.2.2 x)
  · have m911 : Mods (fun k => k = ob ∨ v.ownBlock = some k ∨ kv.ownBlock = some k ∨ vv.ownBlock = some k) w7 w11 :=
      ((m8.trans m9 (U := fun k => k = ob ∨ v.ownBlock = some k ∨ kv.ownBlock = some k ∨ vv.ownBlock = some k) (fun k _ x => .inr (.inl x)) (fun k _ x => .inl x)).trans m10 (fun _ _ x => x) (fun k _ x => .inr (.inr (.inl x)))).trans m11 (fun _ _ x => x) (fun k _ x => .inr (.inr (.inr x)))
    have nt : ∀ k, MDL (L ++ [⟨d1, d2, e.k, e.v⟩]) k → ¬ (k = ob ∨ v.ownBlock = some k ∨ kv.ownBlock = some k ∨ vv.ownBlock = some k) := fun k hk x => by
      obtain ⟨_, a, _, b, _, _, c, d⟩ := bd k hk
      rcases x with x | x | x | x
      · exact a x
      · exact b x
      · exact c x
      · exact d x
    intro x hx
    have hx' := hx
    rw [List.mem_append, List.mem_singleton] at hx
    rcases hx with hx | rfl
    · exact ⟨((h.own x hx).1.keep m7 (fun _ _ y => y)).keep m911 (fun k hk => nt k ⟨x, hx', .inl hk⟩), ((h.own x hx).2.keep m7 (fun _ _ y => y)).keep m911 (fun k hk => nt k ⟨x, hx', .inr hk⟩)⟩
    · exact ⟨o1.keep m911 (fun k hk => nt k ⟨_, hx', .inl hk⟩), o2.keep m911 (fun k hk => nt k ⟨_, hx', .inr hk⟩)⟩
  · rw [List.take_add_one, hget, List.map_append, List.map_append, h.eq]
    rfl
  · obtain ⟨a, b, c, d, _⟩ := b8 k hk
    exact ⟨a, b, c, d⟩
  · obtain ⟨a, b, c, _, d, e, _⟩ := bd k hk
    exact ⟨a, b, c, d, e⟩
  · refine h.mods.trans tot (fun _ _ x => x) (fun k hk x => ?_)
    rcases x with rfl | x | x | x
    · have := h.g1; omega
    · have := (h.vb k x).1; omega
    · have := (bk k x).1; omega
    · have := (bv k x).1; omega
  · intro k _ x hu
    rcases x with rfl | x | x | x
    · exact h.u1 (.inl hu)
    · exact (h.vb k x).2.2.2 (.inl hu)
    · exact hk k x hu
    · exact hv k x hu
  · intro k _ x hu
    have hk0 := hT k hu
    rcases x with rfl | x | x | x
    · have := h.g1; omega
    · have := (h.vb k x).1; omega
    · have := (bk k x).1; omega
    · have := (bv k x).1; omega
theorem WdI.step0 {w W w8 w9 : World} {LL L : List EV} {ob i : Nat} {U : Nat → Prop} {v kv vv v8 : Value} {e : EV} (h : WdI Sx X H w LL ob i (fun k => U k ∨ argB #[kv, vv] k) W v L) (hlen : L.length = i) (hget : LL[i]? = some e) (hus : ∀ k, U k → k < W.heap.size) (hws : w.heap.size ≤ W.heap.size)
    (hk : ∀ k, kv.ownBlock = some k → ¬ U k) (hv : ∀ k, vv.ownBlock = some k → ¬ U k) (bk : ∀ k, kv.ownBlock = some k → w.heap.size ≤ k) (bv : ∀ k, vv.ownBlock = some k → w.heap.size ≤ k)
    (o1 : Gl.Own W kv e.k) (o2 : Gl.Own W vv e.v) (o8 : OwnG w8 87 2 v8 (L.length + 1) (ecell L ++ [kv, vv])) (m8 : Mods (ofV v) W w8) (f8 : v8.ownBlock = v.ownBlock ∨ freshIn W v8) (h9 : w9 = w8.setCell ⟨ob, 0, none⟩ v8) :
    WdI Sx X H w LL ob (i + 1) U w9 v8 (L ++ [⟨kv, vv, e.k, e.v⟩]) ∧ Mods (fun k => ¬ U k) W w9 ∧ (∀ T : Nat → Prop, (∀ k, T k → k < w.heap.size) → Mods (fun k => ¬ T k) W w9) := by
  have m9 : Mods (fun k => k = ob) w8 w9 := by rw [h9]; exact (Mods.refl (fun k => k = ob) w8).setCell (p := ⟨ob, 0, none⟩) (.inl rfl) v8
  have hlo := lt_of_heap h.hob
  have aK : ∀ k, kv.ownBlock = some k → argB #[kv, vv] k := fun k hk => ⟨kv, by simp, hk⟩
  have aV : ∀ k, vv.ownBlock = some k → argB #[kv, vv] k := fun k hk => ⟨vv, by simp, hk⟩
  have xl : ∀ k, X k → k < W.heap.size := fun k hk => lt_of_heap (h.hx k hk)
  have b8 : ∀ k, v8.ownBlock = some k → w.heap.size ≤ k ∧ k ≠ ob ∧ ¬ X k ∧ ¬ U k ∧ kv.ownBlock ≠ some k ∧ vv.ownBlock ≠ some k := fun k hk8 => by
    rcases f8 with f | f
    · obtain ⟨a, b, c, d⟩ := h.vb k (f ▸ hk8)
      exact ⟨a, b, c, fun x => d (.inl x), fun x => d (.inr (aK k x)), fun x => d (.inr (aV k x))⟩
    · have := f k hk8
      exact ⟨by omega, by omega, fun x => by have := xl k x; omega, fun x => by have := hus k x; omega, fun x => by have := o1.lt k x; omega, fun x => by have := o2.lt k x; omega⟩
  have dc : ∀ k, MDL (L ++ [⟨kv, vv, e.k, e.v⟩]) k → MDL L k ∨ kv.ownBlock = some k ∨ vv.ownBlock = some k := fun k hk => by
    obtain ⟨x, hx, hk⟩ := hk
    rw [List.mem_append, List.mem_singleton] at hx
    rcases hx with hx | rfl
    · exact .inl ⟨x, hx, hk⟩
    · exact .inr hk
  have bd : ∀ k, MDL (L ++ [⟨kv, vv, e.k, e.v⟩]) k → w.heap.size ≤ k ∧ k ≠ ob ∧ ¬ X k ∧ v.ownBlock ≠ some k ∧ v8.ownBlock ≠ some k ∧ ¬ U k := fun k hkd => by
    rcases dc k hkd with hm | hm | hm
    · obtain ⟨a, b, c, d, e⟩ := h.db k hm
      have := h.dlt hm
      refine ⟨a, b, c, d, fun x => ?_, fun x => e (.inl x)⟩
      rcases f8 with f | f
      · exact d (f ▸ x)
      · have := f k x; omega
    · exact ⟨bk k hm, fun x => h.u1 (.inr (x ▸ aK k hm)), fun x => h.u2 k x (.inr (aK k hm)), fun x => (h.vb k x).2.2.2 (.inr (aK k hm)), fun x => (b8 k x).2.2.2.2.1 hm, hk k hm⟩
    · exact ⟨bv k hm, fun x => h.u1 (.inr (x ▸ aV k hm)), fun x => h.u2 k x (.inr (aV k hm)), fun x => (h.vb k x).2.2.2 (.inr (aV k hm)), fun x => (b8 k x).2.2.2.2.2 hm, hv k hm⟩
  have tot : Mods (fun k => k = ob ∨ v.ownBlock = some k) W w9 := m8.trans m9 (fun _ _ x => .inr x) (fun k _ x => .inl x)
  have nt : ∀ k, MDL (L ++ [⟨kv, vv, e.k, e.v⟩]) k → ¬ (k = ob ∨ v.ownBlock = some k) := fun k hk x => by
    obtain ⟨_, a, _, b, _, _⟩ := bd k hk
    rcases x with x | x
    · exact a x
    · exact b x
  refine ⟨⟨?_, fun k hk => ?_, ?_, fun x hx => ?_, ?_, fun x => h.u1 (.inl x), fun k hk x => h.u2 k hk (.inl x), fun k hk => ?_, fun k hk => ?_, h.g1, h.g2, h.ne, ?_, h.sx⟩, tot.mono ?_, fun T hT => tot.mono ?_⟩
  · rw [h9]
    exact heap_set (m8.heap h.hob (fun x => (h.vb ob x).2.1 rfl)) 0 v8
  · exact tot.heap (h.hx k hk) (fun x => by
      rcases x with x | x
      · exact h.ne (x ▸ hk)
      · exact (h.vb k x).2.2.1 hk)
  · rw [List.length_append, List.length_singleton, ecell_append]
    exact o8.keep m9 (fun k hk x => (b8 k hk).2.1 x)
  · have hx' := hx
    rw [List.mem_append, List.mem_singleton] at hx
    rcases hx with hx | rfl
    · exact ⟨(h.own x hx).1.keep tot (fun k hk => nt k ⟨x, hx', .inl hk⟩), (h.own x hx).2.keep tot (fun k hk => nt k ⟨x, hx', .inr hk⟩)⟩
    · exact ⟨o1.keep tot (fun k hk => nt k ⟨_, hx', .inl hk⟩), o2.keep tot (fun k hk => nt k ⟨_, hx', .inr hk⟩)⟩
  · rw [List.take_add_one, hget, List.map_append, List.map_append, h.eq]
    rfl
  · obtain ⟨a, b, c, d, _⟩ := b8 k hk
    exact ⟨a, b, c, d⟩
  · obtain ⟨a, b, c, _, d, e⟩ := bd k hk
    exact ⟨a, b, c, d, e⟩
  · refine h.mods.trans tot (fun _ _ x => x) (fun k hk x => ?_)
    rcases x with rfl | x
    · have := h.g1; omega
    · have := (h.vb k x).1; omega
  · intro k _ x hu
    rcases x with rfl | x
    · exact h.u1 (.inl hu)
    · exact (h.vb k x).2.2.2 (.inl hu)
  · intro k _ x hu
    have hk0 := hT k hu
    rcases x with rfl | x
    · have := h.g1; omega
    · have := (h.vb k x).1; omega
end
structure WkGot (w w' : World) (v : Value) (L : List EV) : Prop where
  row : OwnG w' 87 2 v L.length (ecell L)
  own : ∀ e ∈ L, Gl.Own w' e.kv e.k ∧ Gl.Own w' e.vv e.v
  vf : freshIn w v
  df : ∀ k, MDL L k → w.heap.size ≤ k ∧ v.ownBlock ≠ some k
theorem WdI.got {Sx X : Nat → Prop} {H : Nat → Obj} {T : Nat → Prop} {w W : World} {LL L : List EV} {ob i : Nat} {U : Nat → Prop} {v : Value} (h : WdI Sx X H w LL ob i U W v L) {W' : World} (hm : Mods T W W') (hT : ∀ k, T k → U k ∧ w.heap.size ≤ k) : WkGot w W' v L ∧ Mods Sx w W' :=
  have h' := h.keep hm (fun x => h.u1 (hT _ x).1) (fun k hk x => h.u2 k hk (hT _ x).1) (fun k hk x => (h.vb k hk).2.2.2 (hT _ x).1) (fun k hk x => (h.db k hk).2.2.2.2 (hT _ x).1) (fun k x => .inr (hT k x).2) (U' := U) (fun k hk => .inl hk)
  ⟨⟨h'.row, h'.own, fun k hk => (h'.vb k hk).1, fun k hk => ⟨(h'.db k hk).1, (h'.db k hk).2.2.2.1⟩⟩, h'.mods⟩
theorem WkGot.prow {w w' : World} {v : Value} {L : List EV} (h : WkGot w w' v L) : PRow w' v L := ⟨h.row.rd, fun e he => ⟨(h.own e he).1.rd, (h.own e he).2.rd⟩⟩
theorem WkGot.lt {w w' : World} {v : Value} {L : List EV} (h : WkGot w w' v L) : (∀ k, v.ownBlock = some k → k < w'.heap.size) ∧ ∀ k, MDL L k → k < w'.heap.size := ⟨h.row.lt, fun k ⟨e, he, hk⟩ => by
  rcases hk with hk | hk
  · exact (h.own e he).1.lt k hk
  · exact (h.own e he).2.lt k hk⟩
end Go.Proofs.Ytglkmaalpammcaa

namespace Go.Proofs.Ytglkmaalpammcaa
open Go.Gl Go.RowKit
set_option linter.unusedVariables false
end Go.Proofs.Ytglkmaalpammcaa

namespace Go.Proofs.Ytglkmaalpammcaa
open Go.Gl Go.RowKit
set_option linter.unusedVariables false
set_option linter.unusedSimpArgs false
set_option maxRecDepth 100000
theorem infoPr : (Try.prog.info? 87).map (fun i => (i.zero, i.size, i.bytes)) = some (some (.agg #[.slice none 0 0, .slice none 0 0]), 2, 48) := by kernel_rfl
set_option maxHeartbeats 1000000 in
theorem dm0 {w : World} {x0 x1 x2 x3 x4 x5 x6 x7 x8 x9 x10 x11 x12 x13 x14 x15 x16 x17 x18 x19 : Value} {df : List Deferred} {Q : Exit → Act → World → Prop}
    (hK : ∀  (w' : World), w' = w → Q .normal ⟨#[x0, x1, .slice none 0 0, x3, x4, x5, x6, x7, x8, x9, x10, x11, x12, x13, x14, x15, x16, x17, x18, x19], df⟩ w') : RW Try.prog (opsC 0 Try.f11) false Q ⟨#[x0, x1, x2, x3, x4, x5, x6, x7, x8, x9, x10, x11, x12, x13, x14, x15, x16, x17, x18, x19], df⟩ w := by
  have HQ := Lib.hid hK
  clear hK
  refine rw_lin [(0, false)] (by kernel_rfl) ?_
  refine wpOrdT_freesB [0] [(.slice none 0 0)] (rest := []) (by kernel_rfl) (by kernel_rfl) (by kernel_rfl) (.inr trivial) ?_
  exact wpOrdT_doneC (act_is (K := Q .normal) (by kernel_rfl) (HQ.out  _ rfl))
set_option maxHeartbeats 1000000 in
theorem dm1 {w : World} {x0 x1 x2 x3 x4 x5 x6 x7 x8 x9 x10 x11 x12 x13 x14 x15 x16 x17 x18 x19 : Value} {df : List Deferred} {Q : Exit → Act → World → Prop}
    (hK : ∀ (bq : Nat) (w' : World), bq = w.heap.size → w'.heap[bq]? = some (.cells #[.slice none 0 0] 35 (0, 0)) → Mods noB w w' → Q .normal ⟨#[x0, x1, x2, .pointer (some ⟨bq, 0, none⟩), x4, x5, x6, x7, x8, x9, x10, x11, x12, x13, x14, x15, x16, x17, x18, x19], df⟩ w') : RW Try.prog (opsC 1 Try.f11) false Q ⟨#[x0, x1, x2, x3, x4, x5, x6, x7, x8, x9, x10, x11, x12, x13, x14, x15, x16, x17, x18, x19], df⟩ w := by
  have HQ := Lib.hid hK
  clear hK
  refine rw_lin [(0, false)] (by kernel_rfl) ?_
  refine wpOrdT_alloc (.cells #[.slice none 0 0] 35) (some 3) ⟨by kernel_rfl, by kernel_rfl, by kernel_rfl⟩ (by kernel_rfl) ?_
  intro k1 w_k1 hk_k1 hO_k1 hm_k1 hl_k1
  refine ⟨fun _ => trivial, ?_⟩
  exact wpOrdT_doneC (act_is (K := Q .normal) (by kernel_rfl) (HQ.out  k1 w_k1 hk_k1 hO_k1 hm_k1))
set_option maxHeartbeats 1000000 in
theorem dm2 {w : World} {sg mg : Nat} {X : Nat → Nat → Nat → Value → Value → World → Prop} (c1 : w.cell? ⟨sg, 0, none⟩ = some (.pointer (some ⟨mg, 0, none⟩))) (hC : Calls Try.prog 36 #[.pointer (some ⟨mg, 0, none⟩), .slice none 0 0, .slice none 0 0] w fun e w' => ∃ m bf bt fv' tv', e = .returned (.func (.func 67) #[] #[.pointer (some ⟨m, 0, none⟩), .pointer (some ⟨bf, 0, none⟩), .pointer (some ⟨bt, 0, none⟩)]) ∧ X m bf bt fv' tv' w') {x1 x2 x3 x4 x5 x6 x7 x8 x9 x10 x11 x12 x13 x14 x15 x16 x17 x18 x19 : Value} {df : List Deferred} {Q : Exit → Act → World → Prop}
    (hK : ∀ (y6 y7 y8 y9 : Value) (m bf bt : Nat) (fv' tv' : Value) (w' : World), X m bf bt fv' tv' w' → Q .normal ⟨#[.pointer (some ⟨sg, 0, none⟩), x1, x2, x3, x4, x5, y6, y7, y8, y9, .func (.func 67) #[] #[.pointer (some ⟨m, 0, none⟩), .pointer (some ⟨bf, 0, none⟩), .pointer (some ⟨bt, 0, none⟩)], x11, x12, x13, x14, x15, x16, x17, x18, x19], df⟩ w') : RW Try.prog (opsC 2 Try.f11) false Q ⟨#[.pointer (some ⟨sg, 0, none⟩), x1, x2, x3, x4, x5, x6, x7, x8, x9, x10, x11, x12, x13, x14, x15, x16, x17, x18, x19], df⟩ w := by
  have HQ := Lib.hid hK
  clear hK
  refine rw_lin [(0, false), (1, false), (2, false), (3, false), (4, false)] (by kernel_rfl) ?_
  refine wpOrdT_freesB [0, 1, 2] [.pointer (some ⟨sg, 0, none⟩), .pointer (some ⟨sg, 0, none⟩), .pointer (some ⟨sg, 0, none⟩)] (rest := [(3, false), (4, false)]) (by kernel_rfl) (by kernel_rfl) (by kernel_rfl) (.inr trivial) ?_
  refine wpOrdT_run (.pointer (some ⟨mg, 0, none⟩)) _ (some 9) ⟨by kernel_rfl, by kernel_rfl, by kernel_rfl⟩ (of_load (x := (.tmp 8)) (by kernel_rfl) (by kernel_rfl) (load_c ((fun _ => c1) (trivial)) Try.underlying66 rfl)) (fun _ => trivial) ?_
  refine wpOrdT_call (some 10) ⟨by kernel_rfl, by kernel_rfl, by kernel_rfl⟩ hC (fun _ => by kernel_rfl) ?_
  rintro r w7 ⟨m, bf, bt, fv', tv', rfl, hh⟩
  refine ⟨_, rfl, fun _ => trivial, ?_⟩
  exact wpOrdT_doneC (act_is (K := Q .normal) (by kernel_rfl) (HQ.out (.pointer (some ⟨sg, 0, none⟩)) (.pointer (some ⟨sg, 0, none⟩)) (.pointer (some ⟨sg, 0, none⟩)) (.pointer (some ⟨mg, 0, none⟩)) m bf bt fv' tv' w7 hh))
set_option maxHeartbeats 1000000 in
theorem dm3 {w : World} {v : Value} {x0 x1 x2 x3 x4 x5 x6 x7 x8 x9 x10 x12 x13 x14 x15 x16 x17 x18 x19 : Value} {df : List Deferred} {Q : Exit → Act → World → Prop}
    (hK : ∀  (w' : World), w' = w → Q .normal ⟨#[x0, x1, x2, x3, v, x5, x6, x7, x8, x9, x10, v, x12, x13, x14, x15, x16, x17, x18, x19], df⟩ w') : RW Try.prog (opsC 3 Try.f11) false Q ⟨#[x0, x1, x2, x3, x4, x5, x6, x7, x8, x9, x10, v, x12, x13, x14, x15, x16, x17, x18, x19], df⟩ w := by
  have HQ := Lib.hid hK
  clear hK
  refine rw_lin [(0, false)] (by kernel_rfl) ?_
  refine wpOrdT_freesB [0] [v] (rest := []) (by kernel_rfl) (by kernel_rfl) (by kernel_rfl) (.inr trivial) ?_
  exact wpOrdT_doneC (act_is (K := Q .normal) (by kernel_rfl) (HQ.out  _ rfl))
set_option maxHeartbeats 1000000 in
theorem dm4 {w : World} {v : Value} {x0 x1 x2 x3 x4 x5 x6 x7 x8 x9 x10 x11 x13 x14 x15 x16 x17 x18 x19 : Value} {df : List Deferred} {Q : Exit → Act → World → Prop}
    (hK : ∀  (w' : World), w' = w → Q .normal ⟨#[x0, x1, x2, x3, x4, v, x6, x7, x8, x9, x10, x11, v, x13, x14, x15, x16, x17, x18, x19], df⟩ w') : RW Try.prog (opsC 4 Try.f11) false Q ⟨#[x0, x1, x2, x3, x4, x5, x6, x7, x8, x9, x10, x11, v, x13, x14, x15, x16, x17, x18, x19], df⟩ w := by
  have HQ := Lib.hid hK
  clear hK
  refine rw_lin [(0, false)] (by kernel_rfl) ?_
  refine wpOrdT_freesB [0] [v] (rest := []) (by kernel_rfl) (by kernel_rfl) (by kernel_rfl) (.inr trivial) ?_
  exact wpOrdT_doneC (act_is (K := Q .normal) (by kernel_rfl) (HQ.out  _ rfl))
set_option maxHeartbeats 1000000 in
theorem dm5 {w : World} {ob n nk ck nv cv : Nat} {ak av : Option Addr} {vo : Value} {pcs : List Value} {t : TypeId} (hg : w.heap[ob]? = some (.cells #[vo] t (0, 0))) (hr : OwnG w 87 2 vo n pcs) (hn : n ≤ 100000000) (hvo : ¬ ofV vo ob) {x0 x1 x2 x6 x7 x8 x9 x10 x11 x12 x13 x14 x15 x16 x17 x18 x19 : Value} {df : List Deferred} {Q : Exit → Act → World → Prop}
    (hK : ∀ (y13 y14 y15 y16 y17 y18 : Value) (v8 : Value) (w8 : World) (w' : World), OwnG w8 87 2 v8 (n + 1) (pcs ++ [(.slice ak nk ck), (.slice av nv cv)]) → Mods (ofV vo) w w8 → (v8.ownBlock = vo.ownBlock ∨ freshIn w v8) → w' = w8.setCell ⟨ob, 0, none⟩ v8 → Q .normal ⟨#[x0, x1, x2, .pointer (some ⟨ob, 0, none⟩), (.slice ak nk ck), (.slice av nv cv), x6, x7, x8, x9, x10, x11, x12, y13, y14, y15, y16, y17, y18, x19], df⟩ w') : RW Try.prog (opsC 5 Try.f11) false Q ⟨#[x0, x1, x2, .pointer (some ⟨ob, 0, none⟩), (.slice ak nk ck), (.slice av nv cv), x6, x7, x8, x9, x10, x11, x12, x13, x14, x15, x16, x17, x18, x19], df⟩ w := by
  have HQ := Lib.hid hK
  clear hK
  have HR := Lib.hid hr
  have HG := Lib.hid hg
  have q0 : w.cell? ⟨ob, 0, none⟩ = some vo := cells_of hg 0
  clear hr hg
  have MR := Lib.hid (Mods.refl noB w)
  refine rw_lin [(0, false), (1, false), (2, false), (3, false), (4, false), (5, false), (6, false)] (by kernel_rfl) ?_
  refine wpOrdT_run (vo) _ (some 13) ⟨by kernel_rfl, by kernel_rfl, by kernel_rfl⟩ (of_load (x := (.tmp 3)) (by kernel_rfl) (by kernel_rfl) (load_c ((fun _ => q0) (trivial)) Try.underlying35 rfl)) (fun _ => trivial) ?_
  refine wpOrdT_freesB [1, 2, 3] [(.slice ak nk ck), (.slice av nv cv), .agg #[(.slice ak nk ck), (.slice av nv cv)]] (rest := [(4, false), (5, false), (6, false)]) (by kernel_rfl) (by kernel_rfl) (by kernel_rfl) (.inr trivial) ?_
  refine wpOrdT_bs (.cells #[(.slice ak nk ck), (.slice av nv cv)] 87) 1 (some 17) ⟨by kernel_rfl, by kernel_rfl, by kernel_rfl⟩ (by kernel_rfl) ?_
  intro k1 w_k1 hk_k1 hO_k1 hm_k1 hl_k1
  have MZ := MR.out.size
  replace MR := Lib.hid (MR.out.then0 hm_k1)
  refine ⟨fun _ => trivial, ?_⟩
  obtain ⟨inf, hi, hz, hs, hby⟩ := info_parts infoPr
  obtain ⟨v8, w8, hr8, o8, m8, f8⟩ := run_ap (P := Try.prog) 35 35 35 87 87 inf (.agg #[.slice none 0 0, .slice none 0 0]) Try.underlying35 Try.underlying35 hi hz (by rw [hs]; rfl) (by rw [hs]; exact HR.out.keep MR.out (fun _ _ x => x)) (m := 1) (ys := [(.slice ak nk ck), (.slice av nv cv)]) (by rw [hs]; exact OwnG.rd (ob_new hO_k1).own) (by intro y hy; simp at hy; rcases hy with rfl | rfl <;> rfl) (by unfold maxLen; omega) (by rw [hby]; omega)
  rw [hs] at o8
  refine wpOrdT_run v8 w8 (some 18) ⟨by kernel_rfl, by kernel_rfl, by kernel_rfl⟩ (of_append (x := (.tmp 13)) (y := (.tmp 17)) (by kernel_rfl) (by kernel_rfl) (by kernel_rfl) hr8) (fun _ => trivial) ?_
  have m78 := hm_k1.trans m8 (U := ofV vo) (fun _ _ x => x.elim) (fun _ _ x => x)
  have f9 := f8.imp id (fun h => h.of hm_k1.size)
  have hg8 := m78.heap HG.out hvo
  obtain ⟨a8, c8, e8, _⟩ := o8.rd.form
  have h18 : v8.oneCell' = true := by rw [e8]; rfl
  clear e8
  refine wpOrdT_st1 (ty := 35) (x := (.tmp 3)) (y := (.tmp 18)) (g := ob) (off := 0) (v := v8) none ⟨by kernel_rfl, by kernel_rfl, by kernel_rfl⟩ (by kernel_rfl) (by kernel_rfl) (by kernel_rfl) (by kernel_rfl) (by rw [cells_of hg8]; rfl) (free_of hg8 _) (h18) ?_
  intro w9 hw9
  refine ⟨(fun h => by first | (cases h; done) | exact trivial), ?_⟩
  exact wpOrdT_doneC (act_is (K := Q .normal) (by kernel_rfl) (HQ.out (vo) ((.slice ak nk ck)) ((.slice av nv cv)) (.agg #[(.slice ak nk ck), (.slice av nv cv)]) (.slice (some ⟨k1, 0, none⟩) 1 1) (v8) v8 w8 w9 o8 m78 f9 hw9))
set_option maxHeartbeats 1000000 in
theorem dm6 {w : World} {ob : Nat} {v : Value} (q0 : w.cell? ⟨ob, 0, none⟩ = some v) {x0 x1 x2 x4 x5 x6 x7 x8 x9 x10 x11 x12 x13 x14 x15 x16 x17 x18 x19 : Value} {df : List Deferred} {Q : Exit → Act → World → Prop}
    (hK : ∀ (y19 : Value)  (w' : World), w' = w → Q .normal ⟨#[x0, x1, v, .pointer (some ⟨ob, 0, none⟩), x4, x5, x6, x7, x8, x9, x10, x11, x12, x13, x14, x15, x16, x17, x18, y19], df⟩ w') : RW Try.prog (opsC 6 Try.f11) false Q ⟨#[x0, x1, x2, .pointer (some ⟨ob, 0, none⟩), x4, x5, x6, x7, x8, x9, x10, x11, x12, x13, x14, x15, x16, x17, x18, x19], df⟩ w := by
  have HQ := Lib.hid hK
  clear hK
  refine rw_lin [(0, false), (1, false)] (by kernel_rfl) ?_
  refine wpOrdT_run (v) _ (some 19) ⟨by kernel_rfl, by kernel_rfl, by kernel_rfl⟩ (of_load (x := (.tmp 3)) (by kernel_rfl) (by kernel_rfl) (load_c ((fun _ => q0) (trivial)) Try.underlying35 rfl)) (fun _ => trivial) ?_
  refine wpOrdT_freesB [1] [v] (rest := []) (by kernel_rfl) (by kernel_rfl) (by kernel_rfl) (.inr trivial) ?_
  exact wpOrdT_doneC (act_is (K := Q .normal) (by kernel_rfl) (HQ.out (v) _ rfl))
end Go.Proofs.Ytglkmaalpammcaa

namespace Go.Proofs.Ytglkmaalpammcaa
open Go.Gl Go.RowKit
set_option linter.unusedVariables false
set_option maxRecDepth 100000
end Go.Proofs.Ytglkmaalpammcaa

namespace Go.Proofs.Ytglkmaalpammcaa
open Go.Gl Go.RowKit
set_option linter.unusedVariables false
set_option maxRecDepth 100000
theorem wk_all {R : List PV} (ok : PgOk (pgs R)) : (wkL R [] []).map EV.ent = (pgs R).flatten := ents_wk_all ok
set_option maxHeartbeats 4000000 in
theorem kDump_any {w : World} {sg mg : Nat} {vo jv : Value} {R : List PV} {J : List JV} {n : Int} (h : KM w sg mg vo R jv J n) (ok : PgOk (pgs R)) (hn : R.length ≤ 1000000) (hc : (pgs R).flatten.length ≤ 100000000) :
    Calls Try.prog 11 #[.pointer (some ⟨sg, 0, none⟩)] w fun e w' => ∃ v L, e = .returned v ∧ WkGot w w' v L ∧ Mods noB w w' ∧ L.map EV.ent = (pgs R).flatten := by
  have hLL : (wkL R [] []).length ≤ 100000000 := by have := congrArg List.length (wk_all ok); rw [List.length_map] at this; omega
  rw [← wk_all ok]
  (refine calls_marks _ Try.func11 rfl ?_; simp only [Try.ntmps11, List.size_toArray, List.length_cons, List.length_nil, Nat.reduceAdd, Nat.reduceSub, Array.replicate_succ, Array.replicate_zero, List.push_toArray, List.append_toArray, List.nil_append, List.cons_append])
  refine wpIn_seq ?_
  refine wpIn_tl (d := .region 0 (opsC 0 Try.f11) false) (by kernel_rfl) ?_
  refine RW.wpIn (dm0 ?_) (by kernel_rfl)
  intro w1 e1
  subst e1
  refine then_n ?_
  refine wpIn_seq ?_
  refine wpIn_tl (d := .region 1 (opsC 1 Try.f11) false) (by kernel_rfl) ?_
  refine RW.wpIn (dm1 ?_) (by kernel_rfl)
  intros
  rename_i ob w2 e2 h2 m2
  refine then_n ?_
  have k2 := h.keep0 m2
  refine wpIn_seq ?_
  refine wpIn_seq ?_
  refine wpIn_tl (d := .region 2 (opsC 2 Try.f11) false) (by kernel_rfl) ?_
  refine RW.wpIn (dm2 k2.cells.1 (Walk_any k2.pm (Rd.nil w2) (Rd.nil w2) (by simp) (by simp)) ?_) (by kernel_rfl)
  intros
  rename_i m bf bt fv tv w3 hr
  refine then_n ?_
  obtain ⟨wp, m3, g3, g4, g5, f3, f4⟩ := hr
  have hlo := lt_of_heap h2
  have s2 := m2.size
  have s3 := m3.size
  have hob3 := m3.heap h2 (fun x => x)
  have nU : ¬ UWk mg vo R m bf bt fv tv ob := fun x => by
    rcases x with (x | x | x | x | x) | x | x
    · have := h.pm.lt ob x; omega
    · have := h.pm.dlt ob x; omega
    · omega
    · omega
    · have := f3 ob x; omega
    · omega
    · have := f4 ob x; omega
  have hI0 : WdI noB (fun _ => False) (fun _ => .deferred none) w1 (wkL R [] []) ob 0 (UWk mg vo R m bf bt fv tv) w3 (.slice none 0 0) [] :=
    ⟨hob3, fun k x => x.elim, ⟨rfl, .inl ⟨rfl, rfl⟩⟩, fun e he => (List.not_mem_nil he).elim, rfl, nU, fun k x => x.elim, fun k hk => by simp [Value.ownBlock] at hk, fun k ⟨e, he, _⟩ => (List.not_mem_nil he).elim, by omega, fun k x => x.elim, fun x => x, m2.then0 m3, fun k x => x.elim⟩
  refine wpIn_block ?_
  refine wpIn_range0 (by rfl) (enters_of Try.func67 (by kernel_rfl) rfl) (walk_iter wp ok hn (by simp)) (Mods.refl _ _) wp.lt (argsOk_wk _ _) (fun i U args W1 hA => by obtain ⟨e, kv, vv, _, rfl, _⟩ := hA; rfl)
    (fun i U Wr => i ≤ (wkL R [] []).length ∧ ∃ v L, WdI noB (fun _ => False) (fun _ => .deferred none) w1 (wkL R [] []) ob i U Wr v L)
    (fun c i U Wr => False)
    ?_ ?_ ⟨Nat.zero_le _, _, _, hI0⟩ ?_ ?_ ?_
  · rintro i U U' A B' ⟨h1, v, L, h3⟩ hm hus hsub
    exact ⟨h1, v, L, h3.frm (by omega) hm hsub⟩
  · rintro c i U U' A B' h1 hm hus hsub
    exact h1
  · -- one round
    intro lp i U args Wr hlp hUlp hi _ ⟨e, kv, vv, hei, hargs, hok, hov, hkU, hvU, hkv, hkB, hvB⟩ hUs hwr _ ⟨hin, v, L, hI⟩ hab
    subst hargs
    obtain ⟨ak, ck, rfl, _⟩ := hok.rd.form
    obtain ⟨av, cv, rfl, _⟩ := hov.rd.form
    simp only [putArgs, List.setIfInBounds_toArray, List.set_cons_succ, List.set_cons_zero]
    refine wpIn_seq ?_
    refine wpIn_tl (d := .region 3 (opsC 3 Try.f11) false) (by kernel_rfl) ?_
    refine RW.wpIn (dm3 ?_) (by kernel_rfl)
    intro w4 e4
    subst e4
    refine then_n ?_
    refine wpIn_tl (d := .region 4 (opsC 4 Try.f11) false) (by kernel_rfl) ?_
    refine RW.wpIn (dm4 ?_) (by kernel_rfl)
    intro w4 e4
    subst e4
    refine then_n ?_
    refine ⟨Mods.refl _ _, ?_⟩
    intro W2 m2' _
    have hI2 := hI.frm (by omega) (B := W2) (base := w3.heap.size) (U' := fun k => U k ∨ argB #[.slice ak e.k.length ck, .slice av e.v.length cv] k) (m2'.mono (fun k _ hk => by subst hk; exact ⟨.inl hUlp, .inr hlp⟩)) (fun k hk => .inl hk)
    have hok2 := hok.keep m2' (fun k hk x => hkU k hk (x ▸ hUlp))
    have hov2 := hov.keep m2' (fun k hk x => hvU k hk (x ▸ hUlp))
    have hUs2 : ∀ k, U k → k < W2.heap.size := fun k hk => Nat.lt_of_lt_of_le (hUs k hk) m2'.size
    have hlen : L.length = i := by
      have := congrArg List.length hI2.eq
      rw [List.length_map, List.length_map, List.length_take] at this
      omega
    have hsz2 : w4.heap.size ≤ W2.heap.size := m2'.size
    refine wpIn_block ?_
    refine wpIn_tl (d := .region 5 (opsC 5 Try.f11) false) (by kernel_rfl) ?_
    refine RW.wpIn (dm5 hI2.hob hI2.row (by omega) (fun x => (hI2.vb ob x).2.1 rfl) ?_) (by kernel_rfl)
    intros
    rename_i v8 w8 w9 o8 m8 f8 h9
    refine block_n ?_
    obtain ⟨hS, hM, _⟩ := hI2.step0 hlen hei hUs2 hI2.mods.size hkU hvU (fun k hk => by have := hkB k hk; omega) (fun k hk => by have := hvB k hk; omega) hok2 hov2 o8 m8 f8 h9
    exact ⟨hM, hi, _, _, hS⟩
  · -- all have come
    rintro D U W5 hD hUD hus ⟨h1, v, L, h3⟩ hdef
    refine block_n ?_
    refine then_n ?_
    refine wpIn_seq ?_
    refine wpIn_tl (d := .region 6 (opsC 6 Try.f11) false) (by kernel_rfl) ?_
    refine RW.wpIn (dm6 (cells_of h3.hob 0) ?_) (by kernel_rfl)
    intros
    rename_i w6 e6
    subst e6
    refine then_n ?_
    refine wpIn_ret ?_
    refine marks_leave hdef (results_tmp rfl _ _ _) ?_
    obtain ⟨g, gm⟩ := h3.got (putObj_mods _ D _) (fun k hk => by subst hk; exact ⟨hUD, by omega⟩)
    refine ⟨v, L, rfl, g, gm, ?_⟩
    rw [h3.eq, List.take_length]
  · rintro D c i U W5 hD hUD hus hi h1 hdef
    exact h1.elim
end Go.Proofs.Ytglkmaalpammcaa

namespace Go.Proofs.Ytglkmaalpammcaa
open Go.Gl Go.RowKit
set_option linter.unusedVariables false
set_option maxRecDepth 100000
end Go.Proofs.Ytglkmaalpammcaa

namespace Go.Proofs.Ytglkmaalpammcaa
open Go.Gl Go.RowKit
set_option linter.unusedVariables false
set_option maxRecDepth 100000
end Go.Proofs.Ytglkmaalpammcaa

namespace Go.Proofs.Ytglkmaalpammcaa
open Go.Gl Go.RowKit
set_option linter.unusedVariables false
set_option maxRecDepth 100000
theorem flat_bound {ps : Pgs} (ok : PgOk ps) : ps.length ≤ ps.flatten.length := by
  have key : ∀ qs : Pgs, (∀ p ∈ qs, p ≠ []) → qs.length ≤ qs.flatten.length := fun qs => by
    induction qs with
    | nil => intro _; simp
    | cons q qs ih =>
      intro h
      have h1 := ih (fun p hp => h p (List.mem_cons_of_mem _ hp))
      have h2 := h q (List.mem_cons_self ..)
      have h3 : q.length ≠ 0 := fun e => h2 (List.eq_nil_of_length_eq_zero e)
      rw [List.flatten_cons, List.length_append, List.length_cons]
      omega
  exact key ps ok.ne
theorem insL_len {l : List Ent} (h : Ris l) (k v : List UInt8) : (insL l k v).length ≤ l.length + 1 := by
  have h3 := congrArg List.length (ris_three h k)
  rw [List.length_append, List.length_append] at h3
  have h4 : (insL l k v).length = (l.filter (fun e => lessB e.1 k)).length + ((l.filter (fun e => lessB k e.1)).length + 1) := by unfold insL; rw [List.length_append, List.length_cons]
  rw [h4]
  omega
theorem delL_len {l : List Ent} (h : Ris l) (k : List UInt8) : (delL l k).length ≤ l.length := by
  have h3 := congrArg List.length (ris_three h k)
  rw [List.length_append, List.length_append] at h3
  have h4 : (delL l k).length = (l.filter (fun e => lessB e.1 k)).length + (l.filter (fun e => lessB k e.1)).length := by unfold delL; rw [List.length_append]
  rw [h4]
  omega
end Go.Proofs.Ytglkmaalpammcaa

namespace Go.Proofs.Ytglkmaalpammcaa
open Go.Gl Go.RowKit
set_option linter.unusedVariables false
set_option maxRecDepth 100000
theorem KS.made {sg mg : Nat} {vo : Value} {R : List PV} {k : Nat} (h : KS sg mg vo R (.slice none 0 0) [] k) : k = sg ∨ MS mg vo R k := by
  rcases h with h | h | h | ⟨q, hq, _⟩
  · exact .inl h
  · exact .inr h
  · simp [Value.ownBlock] at h
  · exact (List.not_mem_nil hq).elim
theorem KD.made {R : List PV} {k : Nat} (h : KD R [] k) : MD R k := by
  rcases h with h | ⟨q, hq, _⟩
  · exact h
  · exact (List.not_mem_nil hq).elim
end Go.Proofs.Ytglkmaalpammcaa

namespace Go.Proofs.Ytglkmaalpammcaa
open Go.Gl Go.RowKit
set_option linter.unusedVariables false
set_option maxRecDepth 100000
def JU (J : List JV) : List (List Und) := (J.map (fun q => q.us.map (·.u))).reverse
def totJ (J : List JV) : Nat := (J.map (fun q => q.us.length)).sum
theorem snaps_len (ls : List (List Und)) : ∀ F, (snaps ls F).length = ls.length := by
  induction ls with
  | nil => intro F; rfl
  | cons l ls ih => intro F; simp [snaps, ih]
theorem JU_len (J : List JV) : (JU J).length = J.length := by simp [JU]
theorem JU_snoc (A : List JV) (q : JV) : JU (A ++ [q]) = q.us.map (·.u) :: JU A := by simp [JU]
theorem tot_snoc (A : List JV) (q : JV) : totJ (A ++ [q]) = totJ A + q.us.length := by simp [totJ]
theorem tot_mem {J : List JV} {q : JV} (h : q ∈ J) : q.us.length ≤ totJ J := by
  induction J with
  | nil => cases h
  | cons a J ih =>
    have e : totJ (a :: J) = a.us.length + totJ J := by simp [totJ]
    rcases List.mem_cons.1 h with rfl | h
    · omega
    · have := ih h; omega
def KV (w : World) (sg : Nat) (F : List Ent) (Ws : List (List Ent)) (n p : Nat) (S D : Nat → Prop) : Prop :=
  ∃ mg vo R jv J, KM w sg mg vo R jv J (n : Int) ∧ PgOk (pgs R) ∧ (pgs R).flatten = F ∧ snaps (JU J) F = Ws ∧ J.length ≤ 16 ∧ F.length + totJ J ≤ p ∧ S = KS sg mg vo R jv J ∧ D = KD R J
theorem KV.ris {w : World} {sg : Nat} {F : List Ent} {Ws : List (List Ent)} {n p : Nat} {S D : Nat → Prop} (h : KV w sg F Ws n p S D) : Ris F := by
  obtain ⟨mg, vo, R, jv, J, km, ok, rfl, _⟩ := h
  exact ok.ris
theorem KV.lt {w : World} {sg : Nat} {F : List Ent} {Ws : List (List Ent)} {n p : Nat} {S D : Nat → Prop} (h : KV w sg F Ws n p S D) : (∀ k, S k → k < w.heap.size) ∧ (∀ k, D k → k < w.heap.size) ∧ S sg := by
  obtain ⟨mg, vo, R, jv, J, km, ok, hf, hw, hj, hp, rfl, rfl⟩ := h
  exact ⟨km.lt, km.dlt, .inl rfl⟩
theorem KV.keep {w w' : World} {sg : Nat} {F : List Ent} {Ws : List (List Ent)} {n p : Nat} {S D T : Nat → Prop} (h : KV w sg F Ws n p S D) (hm : Mods T w w') (h1 : ∀ k, S k → ¬ T k) (h2 : ∀ k, D k → ¬ T k) : KV w' sg F Ws n p S D := by
  obtain ⟨mg, vo, R, jv, J, km, ok, hf, hw, hj, hp, rfl, rfl⟩ := h
  exact ⟨mg, vo, R, jv, J, km.keep hm h1 h2, ok, hf, hw, hj, hp, rfl, rfl⟩
theorem KV.keep0 {w w' : World} {sg : Nat} {F : List Ent} {Ws : List (List Ent)} {n p : Nat} {S D : Nat → Prop} (h : KV w sg F Ws n p S D) (hm : Mods noB w w') : KV w' sg F Ws n p S D := h.keep hm (fun _ _ x => x) (fun _ _ x => x)
theorem KV.more {w : World} {sg : Nat} {F : List Ent} {Ws : List (List Ent)} {n p p' : Nat} {S D : Nat → Prop} (h : KV w sg F Ws n p S D) (hp' : p ≤ p') : KV w sg F Ws n p' S D := by
  obtain ⟨mg, vo, R, jv, J, km, ok, hf, hw, hj, hp, hs, hd⟩ := h
  exact ⟨mg, vo, R, jv, J, km, ok, hf, hw, hj, by omega, hs, hd⟩
theorem KV.len {w : World} {sg : Nat} {F : List Ent} {Ws : List (List Ent)} {n p : Nat} {S D : Nat → Prop} (h : KV w sg F Ws n p S D) : F.length ≤ p ∧ Ws.length ≤ 16 := by
  obtain ⟨mg, vo, R, jv, J, km, ok, hf, hw, hj, hp, hs, hd⟩ := h
  exact ⟨by omega, by rw [← hw, snaps_len, JU_len]; exact hj⟩
def Chg (w w' : World) (sg : Nat) (S D : Nat → Prop) (F' : List Ent) (Ws' : List (List Ent)) (n' p' : Nat) : Prop :=
  ∃ S' D', KV w' sg F' Ws' n' p' S' D' ∧ Mods S w w' ∧ (∀ k, S' k → S k ∨ w.heap.size ≤ k) ∧ (∀ k, D' k → D k ∨ w.heap.size ≤ k)
theorem chg_of {w w' : World} {sg mg : Nat} {vo jv vo' jv' : Value} {R R' : List PV} {J J' : List JV} {n' p' : Nat} (t : KT w w' sg mg vo R jv J vo' R' jv' J' (n' : Int)) (ok : PgOk (pgs R')) (hj : J'.length ≤ 16) (hp : (pgs R').flatten.length + totJ J' ≤ p') {F' : List Ent} {Ws' : List (List Ent)} (hf : (pgs R').flatten = F') (hw : snaps (JU J') F' = Ws') :
    Chg w w' sg (KS sg mg vo R jv J) (KD R J) F' Ws' n' p' :=
  ⟨_, _, ⟨mg, vo', R', jv', J', t.km, ok, hf, hw, hj, by rw [← hf]; exact hp, rfl, rfl⟩, t.mods, t.ks, t.kd⟩
theorem val_len {w : World} {sg mg : Nat} {vo jv : Value} {R : List PV} {J : List JV} {n : Int} (h : KM w sg mg vo R jv J n) (ok : PgOk (pgs R)) {k v : List UInt8} (hg : getP (pgs R) k = some v) : v.length ≤ 1000000 := by
  rw [getP_eq ok] at hg
  have hm := (getL_filter (pgs R).flatten k ok.ris).2 v hg
  obtain ⟨l, hl, he⟩ := List.mem_flatten.1 hm
  obtain ⟨p, hp, rfl⟩ := List.mem_map.1 hl
  obtain ⟨e, hee, hev⟩ := List.mem_map.1 he
  have := (h.pm.ents p hp e hee).lv
  have h2 : e.v = v := congrArg Prod.snd hev
  rw [← h2]
  exact this
theorem found_get {ps : Pgs} (ok : PgOk ps) (k : List UInt8) : (findP ps k).2.2 = (getL ps.flatten k).isSome := by
  rw [← getP_eq ok]
  unfold getP
  cases (findP ps k).2.2 <;> rfl
theorem snaps_noted {J J' : List JV} {k : List UInt8} {F F' : List Ent} (old : Option (List UInt8)) (h : Noted J J' k old) (hu : undo1 ⟨k, old⟩ F' = F) : snaps (JU J') F' = snaps (JU J) F ∧ J'.length = J.length ∧ totJ J' ≤ totJ J + 1 := by
  rcases h with ⟨rfl, rfl⟩ | ⟨A, q0, v, x, rfl, rfl, hx⟩
  · exact ⟨rfl, rfl, by omega⟩
  · refine ⟨?_, by simp, ?_⟩
    · rw [JU_snoc, JU_snoc, List.map_append, List.map_singleton, hx]
      exact snaps_note hu _ _
    · rw [tot_snoc, tot_snoc, List.length_append, List.length_singleton]
      omega
/-! ### the calls -/
theorem hNew (w : World) : Calls Try.prog 8 #[] w fun e w' => ∃ sg S D, e = .returned (.pointer (some ⟨sg, 0, none⟩)) ∧ KV w' sg [] [] 0 0 S D ∧ Mods noB w w' ∧ (∀ k, S k → w.heap.size ≤ k) ∧ (∀ k, ¬ D k) := by
  refine (kNew_any w).mono ?_
  rintro e w' ⟨sg, mg, rfl, km, m, g1, g2⟩
  refine ⟨sg, _, _, rfl, ⟨mg, _, [], _, [], km, ⟨List.Pairwise.nil, fun p hp => (List.not_mem_nil hp).elim, fun p hp => (List.not_mem_nil hp).elim⟩, rfl, rfl, by simp, by simp [totJ], rfl, rfl⟩, m, fun k hk => ?_, fun k hk => ?_⟩
  · rcases hk.made with rfl | hk
    · exact g1
    · rcases hk with rfl | hk | ⟨p, hp, _⟩
      · exact g2
      · simp [Value.ownBlock] at hk
      · exact (List.not_mem_nil hp).elim
  · obtain ⟨p, hp, _⟩ := hk.made
    exact (List.not_mem_nil hp).elim
section
variable {w : World} {sg n p : Nat} {F : List Ent} {Ws : List (List Ent)} {S D : Nat → Prop}
theorem hSet {q u : Value} {ks vs : List UInt8} (h : KV w sg F Ws n p S D) (hq : Rd w q ks) (hu : Rd w u vs) (hqs : Off S q ks) (hus : Off S u vs) (hn : n ≤ 1000000000000) (hp : p ≤ 100000) :
    Calls Try.prog 30 #[.pointer (some ⟨sg, 0, none⟩), q, u] w fun e w' => e = .returned (.int .i64 (setErr ks vs : Nat)) ∧ Chg w w' sg S D (if setErr ks vs = 0 then insL F ks vs else F) Ws (n + 1) (p + 2) := by
  obtain ⟨mg, vo, R, jv, J, km, ok, rfl, rfl, hj, hpp, rfl, rfl⟩ := h
  have hb := flat_bound ok
  rw [pgs_length] at hb
  refine (kSet_any km hq hu hqs hus (by omega) (by omega) ok (by omega) (by have : cnt (pgs R) = (pgs R).flatten.length := rfl; omega) (by omega) (fun q hq => by have := tot_mem hq; omega) (fun v hv => val_len km ok hv)).mono ?_
  rintro e w' ⟨rfl, ⟨h0, t⟩ | ⟨h0, vo', R', J', t, e1, nt⟩⟩
  · refine ⟨rfl, ?_⟩
    rw [if_neg h0]
    exact chg_of t ok hj (by omega) rfl rfl
  · refine ⟨rfl, ?_⟩
    rw [if_pos h0]
    rw [getP_eq ok] at nt
    obtain ⟨s1, s2, s3⟩ := snaps_noted _ nt (undo_set ok.ris ks vs)
    have ef : (pgs R').flatten = insL (pgs R).flatten ks vs := by rw [e1]; exact setP_flat ok _ _
    refine chg_of t (by rw [e1]; exact setP_ok ok _ _) (by omega) ?_ ef s1
    rw [ef]
    have := insL_len ok.ris ks vs
    omega
theorem hDelete {q : Value} {ks : List UInt8} (h : KV w sg F Ws n p S D) (hq : Rd w q ks) (hqs : Off S q ks) (lk : ks.length ≤ 1000000) (hn : n ≤ 1000000000000) (hp : p ≤ 100000) :
    Calls Try.prog 64 #[.pointer (some ⟨sg, 0, none⟩), q] w fun e w' => e = .returned (.bool (getL F ks).isSome) ∧ Chg w w' sg S D (delL F ks) Ws (n + 1) (p + 2) := by
  obtain ⟨mg, vo, R, jv, J, km, ok, rfl, rfl, hj, hpp, rfl, rfl⟩ := h
  have hb := flat_bound ok
  rw [pgs_length] at hb
  refine (kDelete_any km hq hqs lk (by omega) (by omega) ok (by omega) (by have : cnt (pgs R) = (pgs R).flatten.length := rfl; omega) (by omega) (fun q hq => by have := tot_mem hq; omega) (fun v hv => val_len km ok hv)).mono ?_
  rintro e w' ⟨rfl, vo', R', J', t, e1, nt⟩
  rw [found_get ok]
  refine ⟨rfl, ?_⟩
  rw [getP_eq ok] at nt
  obtain ⟨s1, s2, s3⟩ := snaps_noted _ nt (undo_del ok.ris ks)
  have ef : (pgs R').flatten = delL (pgs R).flatten ks := by rw [e1]; exact delP_flat ok _
  refine chg_of t (by rw [e1]; exact delP_ok ok _) (by omega) ?_ ef s1
  rw [ef]
  have := delL_len ok.ris ks
  omega
theorem hGet {q : Value} {ks : List UInt8} (h : KV w sg F Ws n p S D) (hq : Rd w q ks) (hqs : Off S q ks) (hn : n ≤ 1000000000000) (hp : p ≤ 100000) :
    Calls Try.prog 37 #[.pointer (some ⟨sg, 0, none⟩), q] w fun e w' => ∃ v', e = .returned (.tuple #[v', .bool (getL F ks).isSome]) ∧ Gl.Own w' v' ((getL F ks).getD []) ∧ KV w' sg F Ws (n + 1) p S D ∧ Mods S w w' ∧ freshIn w v' := by
  obtain ⟨mg, vo, R, jv, J, km, ok, rfl, rfl, hj, hpp, rfl, rfl⟩ := h
  have hb := flat_bound ok
  rw [pgs_length] at hb
  have := kGet_any km hq ok (by omega) (by omega) (by omega) (hqs.mono (fun k e => .inl e))
  rw [getP_eq ok] at this
  refine this.mono ?_
  rintro e w' ⟨v', rfl, o, t, f⟩
  exact ⟨v', rfl, o, ⟨mg, vo, R, jv, J, t.km, ok, rfl, rfl, hj, hpp, rfl, rfl⟩, t.mods, f⟩
theorem hDump (h : KV w sg F Ws n p S D) (hp : p ≤ 100000) : Calls Try.prog 11 #[.pointer (some ⟨sg, 0, none⟩)] w fun e w' => ∃ v L, e = .returned v ∧ WkGot w w' v L ∧ Mods noB w w' ∧ L.map EV.ent = F := by
  obtain ⟨mg, vo, R, jv, J, km, ok, rfl, rfl, hj, hpp, rfl, rfl⟩ := h
  have hb := flat_bound ok
  rw [pgs_length] at hb
  exact kDump_any km ok (by omega) (by omega)
end
section
variable {w : World} {sg n p : Nat} {F : List Ent} {Ws : List (List Ent)} {S D : Nat → Prop}
end
end Go.Proofs.Ytglkmaalpammcaa

namespace Go.Proofs.Ytglkmaalpammcaa
open Go.Gl Go.RowKit
set_option linter.unusedVariables false
set_option maxRecDepth 100000
def KL (w0 w : World) (sg : Nat) (F : List Ent) (Ws : List (List Ent)) (n p : Nat) (Q : Nat → Prop) : Prop :=
  ∃ S D, KV w sg F Ws n p S D ∧ (∀ k, Q k → ¬ S k ∧ ¬ D k ∧ k < w.heap.size) ∧ (∀ k, k < w0.heap.size → Q k) ∧ Mods noB w0 w
def K2 (w0 w : World) (sg : Nat) (F : List Ent) (Ws : List (List Ent)) (n p : Nat) (sg2 : Nat) (F2 : List Ent) (Ws2 : List (List Ent)) (n2 p2 : Nat) (Q : Nat → Prop) : Prop :=
  ∃ S D S2 D2, KV w sg F Ws n p S D ∧ KV w sg2 F2 Ws2 n2 p2 S2 D2 ∧ (∀ k, Q k → ¬ S k ∧ ¬ D k ∧ ¬ S2 k ∧ ¬ D2 k ∧ k < w.heap.size) ∧ (∀ k, k < w0.heap.size → Q k) ∧ (∀ k, S k → ¬ S2 k) ∧ (∀ k, D k → ¬ S2 k) ∧ (∀ k, D2 k → ¬ S k) ∧ Mods noB w0 w
theorem Chg.refl {w : World} {sg n p : Nat} {F : List Ent} {Ws : List (List Ent)} {S D : Nat → Prop} (h : KV w sg F Ws n p S D) : Chg w w sg S D F Ws n p := ⟨S, D, h, Mods.refl _ _, fun _ => .inl, fun _ => .inl⟩
def CC (f : FuncId) (args : Array Value) (w : World) (sg : Nat) (F : List Ent) (Ws : List (List Ent)) (n p : Nat) (Q : Nat → Prop) (r : Value) (F' : List Ent) (Ws' : List (List Ent)) (n' p' : Nat) : Prop :=
  ∀ S D, KV w sg F Ws n p S D → (∀ k, Q k → ¬ S k) → Calls Try.prog f args w fun e w' => e = .returned r ∧ Chg w w' sg S D F' Ws' n' p'
section
variable {w0 w : World} {sg n p n' p' : Nat} {F F' : List Ent} {Ws Ws' : List (List Ent)} {Q : Nat → Prop}
theorem KL.call {f : FuncId} {args : Array Value} {r : Value} (h : KL w0 w sg F Ws n p Q) (c : CC f args w sg F Ws n p Q r F' Ws' n' p') : Calls Try.prog f args w fun e w' => e = .returned r ∧ KL w0 w' sg F' Ws' n' p' Q ∧ Mods (fun k => ¬ Q k) w w' := by
  obtain ⟨S, D, kv, hq, h0, m0⟩ := h
  refine (c S D kv (fun k hk => (hq k hk).1)).mono ?_
  rintro e w' ⟨rfl, S', D', kv', m, hs, hd⟩
  refine ⟨rfl, ⟨S', D', kv', fun k hk => ⟨fun x => ?_, fun x => ?_, Nat.lt_of_lt_of_le (hq k hk).2.2 m.size⟩, h0, m0.trans m (fun _ _ x => x) (fun k hk x => (hq k (h0 k hk)).1 x)⟩, m.mono (fun k _ hk x => (hq k x).1 hk)⟩
  · rcases hs k x with y | y
    · exact (hq k hk).1 y
    · have := (hq k hk).2.2; omega
  · rcases hd k x with y | y
    · exact (hq k hk).2.1 y
    · have := (hq k hk).2.2; omega
theorem KL.keep0 {w' : World} (h : KL w0 w sg F Ws n p Q) (m : Mods noB w w') : KL w0 w' sg F Ws n p Q := by
  obtain ⟨S, D, kv, hq, h0, m0⟩ := h
  exact ⟨S, D, kv.keep0 m, fun k hk => ⟨(hq k hk).1, (hq k hk).2.1, Nat.lt_of_lt_of_le (hq k hk).2.2 m.size⟩, h0, m0.then0 m⟩
theorem KL.grow {w' : World} {Q' : Nat → Prop} (h : KL w0 w sg F Ws n p Q) (m : Mods noB w w') (hq' : ∀ k, Q' k → Q k ∨ (w.heap.size ≤ k ∧ k < w'.heap.size)) (h1 : ∀ k, k < w0.heap.size → Q' k) : KL w0 w' sg F Ws n p Q' := by
  obtain ⟨S, D, kv, hq, h0, m0⟩ := h
  refine ⟨S, D, kv.keep0 m, fun k hk => ?_, h1, m0.then0 m⟩
  rcases hq' k hk with x | ⟨x, y⟩
  · exact ⟨(hq k x).1, (hq k x).2.1, Nat.lt_of_lt_of_le (hq k x).2.2 m.size⟩
  · exact ⟨fun z => by have := kv.lt.1 k z; omega, fun z => by have := kv.lt.2.1 k z; omega, y⟩
theorem KL.turn {w' : World} {T : Nat → Prop} (h : KL w0 w sg F Ws n p Q) (m : Mods T w w') (ht : ∀ k, T k → Q k ∧ w0.heap.size ≤ k) : KL w0 w' sg F Ws n p Q := by
  obtain ⟨S, D, kv, hq, h0, m0⟩ := h
  exact ⟨S, D, kv.keep m (fun k hk x => (hq k (ht k x).1).1 hk) (fun k hk x => (hq k (ht k x).1).2.1 hk), fun k hk => ⟨(hq k hk).1, (hq k hk).2.1, Nat.lt_of_lt_of_le (hq k hk).2.2 m.size⟩, h0, m0.trans m (fun _ _ x => x) (fun k hk x => by have := (ht k x).2; omega)⟩
theorem KL.more {p2 : Nat} (h : KL w0 w sg F Ws n p Q) (hp : p ≤ p2) : KL w0 w sg F Ws n p2 Q := by
  obtain ⟨S, D, kv, r⟩ := h
  exact ⟨S, D, kv.more hp, r⟩
theorem KL.less {Q' : Nat → Prop} (h : KL w0 w sg F Ws n p Q) (hq : ∀ k, Q' k → Q k) (h1 : ∀ k, k < w0.heap.size → Q' k) : KL w0 w sg F Ws n p Q' := by
  obtain ⟨S, D, kv, q, h0, m0⟩ := h
  exact ⟨S, D, kv, fun k hk => q k (hq k hk), h1, m0⟩
theorem KL.mods (h : KL w0 w sg F Ws n p Q) : Mods noB w0 w := by obtain ⟨_, _, _, _, _, m⟩ := h; exact m
theorem KL.ris (h : KL w0 w sg F Ws n p Q) : Ris F := by obtain ⟨_, _, kv, _⟩ := h; exact kv.ris
theorem KL.len (h : KL w0 w sg F Ws n p Q) : F.length ≤ p ∧ Ws.length ≤ 16 := by obtain ⟨_, _, kv, _⟩ := h; exact kv.len
theorem KL.q0 (h : KL w0 w sg F Ws n p Q) : ∀ k, k < w0.heap.size → Q k := by obtain ⟨_, _, _, _, a, _⟩ := h; exact a
theorem KL.qlt (h : KL w0 w sg F Ws n p Q) : ∀ k, Q k → k < w.heap.size := by obtain ⟨_, _, _, a, _, _⟩ := h; exact fun k hk => (a k hk).2.2
variable {sg2 n2 p2 : Nat} {F2 : List Ent} {Ws2 : List (List Ent)}
theorem K2.swap (h : K2 w0 w sg F Ws n p sg2 F2 Ws2 n2 p2 Q) : K2 w0 w sg2 F2 Ws2 n2 p2 sg F Ws n p Q := by
  obtain ⟨S, D, S2, D2, kv, kv2, hq, h0, a1, a2, a3, m0⟩ := h
  exact ⟨S2, D2, S, D, kv2, kv, fun k hk => ⟨(hq k hk).2.2.1, (hq k hk).2.2.2.1, (hq k hk).1, (hq k hk).2.1, (hq k hk).2.2.2.2⟩, h0, fun k x y => a1 k y x, a3, a2, m0⟩
theorem K2.one (h : K2 w0 w sg F Ws n p sg2 F2 Ws2 n2 p2 Q) : KL w0 w sg F Ws n p Q := by
  obtain ⟨S, D, S2, D2, kv, kv2, hq, h0, a1, a2, a3, m0⟩ := h
  exact ⟨S, D, kv, fun k hk => ⟨(hq k hk).1, (hq k hk).2.1, (hq k hk).2.2.2.2⟩, h0, m0⟩
theorem K2.call {f : FuncId} {args : Array Value} {r : Value} (h : K2 w0 w sg F Ws n p sg2 F2 Ws2 n2 p2 Q) (c : CC f args w sg F Ws n p Q r F' Ws' n' p') : Calls Try.prog f args w fun e w' => e = .returned r ∧ K2 w0 w' sg F' Ws' n' p' sg2 F2 Ws2 n2 p2 Q ∧ Mods (fun k => ¬ Q k) w w' := by
  obtain ⟨S, D, S2, D2, kv, kv2, hq, h0, a1, a2, a3, m0⟩ := h
  refine (c S D kv (fun k hk => (hq k hk).1)).mono ?_
  rintro e w' ⟨rfl, S', D', kv', m, hs, hd⟩
  have l2 := kv2.lt
  refine ⟨rfl, ⟨S', D', S2, D2, kv', kv2.keep m (fun k hk x => a1 k x hk) (fun k hk x => a3 k hk x), fun k hk => ⟨fun x => ?_, fun x => ?_, (hq k hk).2.2.1, (hq k hk).2.2.2.1, Nat.lt_of_lt_of_le (hq k hk).2.2.2.2 m.size⟩, h0, fun k x y => ?_, fun k x y => ?_, fun k x y => ?_, m0.trans m (fun _ _ x => x) (fun k hk x => (hq k (h0 k hk)).1 x)⟩, m.mono (fun k _ hk x => (hq k x).1 hk)⟩
  · rcases hs k x with y | y
    · exact (hq k hk).1 y
    · have := (hq k hk).2.2.2.2; omega
  · rcases hd k x with y | y
    · exact (hq k hk).2.1 y
    · have := (hq k hk).2.2.2.2; omega
  · rcases hs k x with z | z
    · exact a1 k z y
    · have := l2.1 k y; omega
  · rcases hd k x with z | z
    · exact a2 k z y
    · have := l2.1 k y; omega
  · rcases hs k y with z | z
    · exact a3 k x z
    · have := l2.2.1 k x; omega
theorem K2.keep0 {w' : World} (h : K2 w0 w sg F Ws n p sg2 F2 Ws2 n2 p2 Q) (m : Mods noB w w') : K2 w0 w' sg F Ws n p sg2 F2 Ws2 n2 p2 Q := by
  obtain ⟨S, D, S2, D2, kv, kv2, hq, h0, a1, a2, a3, m0⟩ := h
  exact ⟨S, D, S2, D2, kv.keep0 m, kv2.keep0 m, fun k hk => ⟨(hq k hk).1, (hq k hk).2.1, (hq k hk).2.2.1, (hq k hk).2.2.2.1, Nat.lt_of_lt_of_le (hq k hk).2.2.2.2 m.size⟩, h0, a1, a2, a3, m0.then0 m⟩
theorem K2.grow {w' : World} {Q' : Nat → Prop} (h : K2 w0 w sg F Ws n p sg2 F2 Ws2 n2 p2 Q) (m : Mods noB w w') (hq' : ∀ k, Q' k → Q k ∨ (w.heap.size ≤ k ∧ k < w'.heap.size)) (h1 : ∀ k, k < w0.heap.size → Q' k) : K2 w0 w' sg F Ws n p sg2 F2 Ws2 n2 p2 Q' := by
  obtain ⟨S, D, S2, D2, kv, kv2, hq, h0, a1, a2, a3, m0⟩ := h
  refine ⟨S, D, S2, D2, kv.keep0 m, kv2.keep0 m, fun k hk => ?_, h1, a1, a2, a3, m0.then0 m⟩
  rcases hq' k hk with x | ⟨x, y⟩
  · exact ⟨(hq k x).1, (hq k x).2.1, (hq k x).2.2.1, (hq k x).2.2.2.1, Nat.lt_of_lt_of_le (hq k x).2.2.2.2 m.size⟩
  · exact ⟨fun z => by have := kv.lt.1 k z; omega, fun z => by have := kv.lt.2.1 k z; omega, fun z => by have := kv2.lt.1 k z; omega, fun z => by have := kv2.lt.2.1 k z; omega, y⟩
theorem K2.more {q q2 : Nat} (h : K2 w0 w sg F Ws n p sg2 F2 Ws2 n2 p2 Q) (hp : p ≤ q) (hp2 : p2 ≤ q2) : K2 w0 w sg F Ws n q sg2 F2 Ws2 n2 q2 Q := by
  obtain ⟨S, D, S2, D2, kv, kv2, r⟩ := h
  exact ⟨S, D, S2, D2, kv.more hp, kv2.more hp2, r⟩
/-! ### the calls -/
theorem cc_set {q u : Value} {ks vs : List UInt8} (hq : Rd w q ks) (hu : Rd w u vs) (oq : Off (fun k => ¬ Q k) q ks) (ou : Off (fun k => ¬ Q k) u vs) (hn : n ≤ 1000000000000) (hp : p ≤ 100000) : CC 30 #[.pointer (some ⟨sg, 0, none⟩), q, u] w sg F Ws n p Q (.int .i64 (setErr ks vs : Nat)) (if setErr ks vs = 0 then insL F ks vs else F) Ws (n + 1) (p + 2) :=
  fun S D kv hQ => hSet kv hq hu (oq.mono (fun k hk x => hQ k x hk)) (ou.mono (fun k hk x => hQ k x hk)) hn hp
theorem cc_del {q : Value} {ks : List UInt8} (hq : Rd w q ks) (oq : Off (fun k => ¬ Q k) q ks) (lk : ks.length ≤ 1000000) (hn : n ≤ 1000000000000) (hp : p ≤ 100000) : CC 64 #[.pointer (some ⟨sg, 0, none⟩), q] w sg F Ws n p Q (.bool (getL F ks).isSome) (delL F ks) Ws (n + 1) (p + 2) :=
  fun S D kv hQ => hDelete kv hq (oq.mono (fun k hk x => hQ k x hk)) lk hn hp
/-! ### iterators -/
end
end Go.Proofs.Ytglkmaalpammcaa

namespace Go.Proofs.Ytglkmaalpammcaa
open Go.Gl Go.RowKit
set_option linter.unusedVariables false
set_option maxRecDepth 100000
def KVp (sg : Nat) (F : List Ent) (Ws : List (List Ent)) (n p : Nat) : FP := fun w S D => KV w sg F Ws n p S D
theorem kvp_f {sg : Nat} {F : List Ent} {Ws : List (List Ent)} {n p : Nat} : Framed (KVp sg F Ws n p) := ⟨fun h => ⟨KV.lt h |>.1, KV.lt h |>.2.1⟩, fun h m a b => KV.keep h m a b⟩
def setFF (F : List Ent) (k v : List UInt8) : List Ent := if setErr k v = 0 then insL F k v else F
theorem KV.vlen {w : World} {sg : Nat} {F : List Ent} {Ws : List (List Ent)} {n p : Nat} {S D : Nat → Prop} (h : KV w sg F Ws n p S D) {k v : List UInt8} (hg : getL F k = some v) : v.length ≤ 1000000 := by
  obtain ⟨mg, vo, R, jv, J, km, ok, rfl, _⟩ := h
  exact val_len km ok (by rw [getP_eq ok]; exact hg)
section
variable {w : World} {sg g n p : Nat} {F : List Ent} {Ws : List (List Ent)} {Q : Nat → Prop}
/-! ### kv.Store -/
theorem CC.gs {f : FuncId} {args : Array Value} {r : Value} {F' : List Ent} {Ws' : List (List Ent)} {n' p' : Nat} (c : CC f args w sg F Ws n p Q r F' Ws' n' p') : GS Try.prog f args w (KVp sg F Ws n p) Q r (KVp sg F' Ws' n' p') := GS.of c
theorem gk_set {q u : Value} {ks vs : List UInt8} (hq : Rd w q ks) (hu : Rd w u vs) (oq : Off (fun k => ¬ Q k) q ks) (ou : Off (fun k => ¬ Q k) u vs) (hn : n ≤ 1000000000000) (hp : p ≤ 100000) : GS Try.prog 30 #[.pointer (some ⟨sg, 0, none⟩), q, u] w (KVp sg F Ws n p) Q (.int .i64 (setErr ks vs : Nat)) (KVp sg (setFF F ks vs) Ws (n + 1) (p + 2)) := CC.gs (cc_set hq hu oq ou hn hp)
theorem gk_del {q : Value} {ks : List UInt8} (hq : Rd w q ks) (oq : Off (fun k => ¬ Q k) q ks) (lk : ks.length ≤ 1000000) (hn : n ≤ 1000000000000) (hp : p ≤ 100000) : GS Try.prog 64 #[.pointer (some ⟨sg, 0, none⟩), q] w (KVp sg F Ws n p) Q (.bool (getL F ks).isSome) (KVp sg (delL F ks) Ws (n + 1) (p + 2)) := CC.gs (cc_del hq oq lk hn hp)
theorem gk_get {q : Value} {ks : List UInt8} (hq : Rd w q ks) (oq : Off (fun k => ¬ Q k) q ks) (hn : n ≤ 1000000000000) (hp : p ≤ 100000) : GO Try.prog 37 #[.pointer (some ⟨sg, 0, none⟩), q] w (KVp sg F Ws n p) Q (fun v => .tuple #[v, .bool (getL F ks).isSome]) ((getL F ks).getD []) (KVp sg F Ws (n + 1) p) :=
  GO.of kvp_f (fun S D kv hQ => (hGet kv hq (oq.mono (fun k hk x => hQ k x hk)) hn hp).mono (fun e w' ⟨v', a, b, c, d, f⟩ => ⟨v', a, b, ⟨S, D, c, d, fun _ h => h, fun _ h => h⟩, f⟩)) kvp_f
/-! ### gleanref6.Store -/
end
end Go.Proofs.Ytglkmaalpammcaa

namespace Go.Proofs.Ytglkmaalpammcaa
open Go.Gl Go.RowKit
set_option linter.unusedVariables false
structure KForm where
  head : UInt8
  mid : UInt8
  a : Bool
  b : Bool
  turned : Bool
def kform : Nat → Option KForm
  | 1 => some ⟨112, 0, false, false, false⟩
  | 2 => some ⟨99, 0, false, false, false⟩
  | 3 => some ⟨109, 0, false, false, false⟩
  | 4 => some ⟨97, 0, true, false, false⟩
  | 5 => some ⟨118, 48, true, false, false⟩
  | 6 => some ⟨118, 100, true, true, false⟩
  | 7 => some ⟨118, 104, true, true, false⟩
  | 8 => some ⟨118, 115, true, true, false⟩
  | 9 => some ⟨116, 0, true, false, false⟩
  | 10 => some ⟨105, 0, true, true, true⟩
  | 11 => some ⟨98, 0, true, false, false⟩
  | 12 => some ⟨117, 0, true, false, false⟩
  | 13 => some ⟨114, 0, true, false, false⟩
  | 14 => some ⟨113, 0, true, true, false⟩
  | 15 => some ⟨101, 0, true, true, false⟩
  | 16 => some ⟨110, 0, true, true, false⟩
  | 17 => some ⟨107, 0, true, true, false⟩
  | _ => none
def fcells (f : KForm) : List Value := [.int .u8 f.head.toNat, .int .u8 f.mid.toNat, .bool f.a, .bool f.b, .bool f.turned]
def fv (f : KForm) : Value := .agg (fcells f).toArray
def formsV : Array Value := ((List.range 17).flatMap fun k => ((kform (k + 1)).map fcells).getD []).toArray
def formsZ : Array Value := ((List.range 17).flatMap fun _ => fcells ⟨0, 0, false, false, false⟩).toArray
set_option maxRecDepth 100000 in
set_option maxHeartbeats 1000000 in
theorem forms_any (w : World) :
    Calls Try.prog 119 #[] w fun e w' => e = .returned (.agg formsV) ∧ w' = w.alloc (.cells formsV 192) := by
  have hz : ∀ w : World, (zeroValue 192).run Try.prog w = .ok (.agg formsZ) w := fun _ => by kernel_rfl
  go_enter Try.func119, Try.ntmps119
  go_wp2_with (refine wpList_build rfl 192 _ rfl (by as_aux_lemma => kernel_rfl) (stop ?_))
  unfold Stop
  refine wpList_store_row rfl 192 _ _ rfl w.heap.size formsV rfl (by as_aux_lemma => kernel_rfl) 192 formsZ (heap_new _ _) (by as_aux_lemma => kernel_rfl) (by as_aux_lemma => kernel_rfl) (by as_aux_lemma => kernel_rfl) ?_
  rw [World.setRow_alloc_new]
  go_wp2
  refine bodyPost_ret (results_cell_row rfl _ _ w.heap.size 192 formsV (0, 0) _ rfl (heap_new _ _) Try.underlying192 rfl (by as_aux_lemma => kernel_rfl)) rfl ⟨rfl, rfl⟩
theorem formsV_at (k : Nat) (h1 : 1 ≤ k) (h2 : k ≤ 17) : ∃ f, kform k = some f ∧ ∀ w : World, (Instr.index 192 (.agg formsV) (.int .i64 ((k : Int) - 1))).run Try.prog w = .ok (.agg #[.int .u8 f.head.toNat, .int .u8 f.mid.toNat, .bool f.a, .bool f.b, .bool f.turned]) w := by
  have h17 : k = 1 ∨ k = 2 ∨ k = 3 ∨ k = 4 ∨ k = 5 ∨ k = 6 ∨ k = 7 ∨ k = 8 ∨ k = 9 ∨ k = 10 ∨ k = 11 ∨ k = 12 ∨ k = 13 ∨ k = 14 ∨ k = 15 ∨ k = 16 ∨ k = 17 := by omega
  rcases h17 with rfl | rfl | rfl | rfl | rfl | rfl | rfl | rfl | rfl | rfl | rfl | rfl | rfl | rfl | rfl | rfl | rfl <;> exact ⟨_, rfl, fun _ => by kernel_rfl⟩
set_option maxHeartbeats 400000 in
theorem formOf_no (n : Int) (w : World) (h : n < 1 ∨ 17 < n) :
    Calls Try.prog 78 #[.int .i64 n] w fun e w' => e = .returned (.tuple #[fv ⟨0, 0, false, false, false⟩, .bool false]) ∧ Mods noB w w' := by
  rcases h with h | h
  · go_enter Try.func78, Try.ntmps78
    go_wp2
    go_returns
    exact ⟨rfl, (by repeat' (first | (with_reducible exact Mods.refl _ _) | (with_reducible assumption) | (with_reducible refine Mods.alloc ?_ _) | (with_reducible refine Mods.drew ?_) | (with_reducible refine Mods.drewN ?_ _) | (with_reducible refine Mods.regrown ?_ _ _) | (with_reducible refine Mods.setCell ?_ ?_ _) | (refine .inr ?_; first | (simp; done) | (simp; omega) | omega)))⟩
  · have h1 : ¬ n < 1 := by omega
    go_enter Try.func78, Try.ntmps78
    go_wp2
    go_returns
    exact ⟨rfl, (by repeat' (first | (with_reducible exact Mods.refl _ _) | (with_reducible assumption) | (with_reducible refine Mods.alloc ?_ _) | (with_reducible refine Mods.drew ?_) | (with_reducible refine Mods.drewN ?_ _) | (with_reducible refine Mods.regrown ?_ _ _) | (with_reducible refine Mods.setCell ?_ ?_ _) | (refine .inr ?_; first | (simp; done) | (simp; omega) | omega)))⟩
set_option maxHeartbeats 400000 in
theorem formOf_yes (k : Nat) (f : KForm) (w : World) (hf : kform k = some f) :
    Calls Try.prog 78 #[.int .i64 k] w fun e w' => e = .returned (.tuple #[fv f, .bool true]) ∧ Mods noB w w' := by
  have hk : 1 ≤ k ∧ k ≤ 17 := by
    rcases Nat.lt_or_ge k 18 with h | h
    · rcases Nat.eq_zero_or_pos k with rfl | h0
      · simp [kform] at hf
      · omega
    · obtain ⟨j, rfl⟩ : ∃ j, k = j + 18 := ⟨k - 18, by omega⟩
      simp [kform] at hf
  obtain ⟨h1, h2⟩ := hk
  obtain ⟨f', hf', hi⟩ := formsV_at k h1 h2
  obtain rfl : f = f' := by rw [hf] at hf'; simpa using hf'
  clear hf' hf
  go_enter Try.func78, Try.ntmps78
  go_wp2_with (go_at_call 119; refine (forms_any _).mono ?_; rintro e w' ⟨rfl, rfl⟩)
  go_returns
  exact ⟨rfl, (by repeat' (first | (with_reducible exact Mods.refl _ _) | (with_reducible assumption) | (with_reducible refine Mods.alloc ?_ _) | (with_reducible refine Mods.drew ?_) | (with_reducible refine Mods.drewN ?_ _) | (with_reducible refine Mods.regrown ?_ _ _) | (with_reducible refine Mods.setCell ?_ ?_ _) | (refine .inr ?_; first | (simp; done) | (simp; omega) | omega)))⟩
end Go.Proofs.Ytglkmaalpammcaa

namespace Go.Gl
def be : Nat → Nat → List UInt8
  | 0, _ => []
  | n + 1, x => UInt8.ofNat (x / 256 ^ n) :: be n x
def num (xs : List UInt8) : Nat := xs.foldl (fun a c => a * 256 + c.toNat) 0
theorem be_length (n x : Nat) : (be n x).length = n := by
  induction n with
  | zero => rfl
  | succ n ih => simp [be, ih]
theorem num_snoc (xs : List UInt8) (c : UInt8) : num (xs ++ [c]) = num xs * 256 + c.toNat := by simp [num]
theorem num_lt (xs : List UInt8) : num xs < 256 ^ xs.length := by
  suffices h : ∀ ys : List UInt8, num ys.reverse < 256 ^ ys.length by
    have := h xs.reverse
    simpa using this
  intro ys
  induction ys with
  | nil => simp [num]
  | cons c ys ih =>
    rw [List.reverse_cons, num_snoc, List.length_cons, Nat.pow_succ]
    have := c.toNat_lt
    omega
theorem foldl_num (xs : List UInt8) (a : Nat) : xs.foldl (fun a c => a * 256 + c.toNat) a = a * 256 ^ xs.length + num xs := by
  induction xs generalizing a with
  | nil => simp [num]
  | cons c xs ih =>
    rw [num, List.foldl_cons, List.foldl_cons, List.length_cons, ih, ih (0 * 256 + c.toNat), Nat.pow_succ, Nat.zero_mul, Nat.zero_add, Nat.add_mul, Nat.mul_comm (256 ^ xs.length) 256, ← Nat.mul_assoc, Nat.add_assoc]
theorem num_cons (c : UInt8) (xs : List UInt8) : num (c :: xs) = c.toNat * 256 ^ xs.length + num xs := by
  rw [num, List.foldl_cons, foldl_num]
  simp
theorem num_be (n x : Nat) : num (be n x) = x % 256 ^ n := by
  induction n with
  | zero => simp [be, num, Nat.mod_one]
  | succ n ih =>
    rw [be, num_cons, be_length, ih, UInt8.toNat_ofNat']
    have h := Nat.mod_mul (x := x) (a := 256 ^ n) (b := 256)
    rw [Nat.pow_succ 256 n, h, show (2 ^ 8 : Nat) = 256 from rfl, Nat.mul_comm (256 ^ n)]
    omega
theorem be_num (xs : List UInt8) : be xs.length (num xs) = xs := by
  suffices h : ∀ (xs : List UInt8) (q : Nat), be xs.length (q * 256 ^ xs.length + num xs) = xs by simpa using h xs 0
  intro xs
  induction xs with
  | nil => intro q; rfl
  | cons c xs ih =>
    intro q
    have hl := num_lt xs
    have hp : 0 < 256 ^ xs.length := Nat.pow_pos (by decide)
    rw [List.length_cons, be, num_cons]
    have e : q * 256 ^ (xs.length + 1) + (c.toNat * 256 ^ xs.length + num xs) = (q * 256 + c.toNat) * 256 ^ xs.length + num xs := by
      rw [Nat.pow_succ, Nat.add_mul, Nat.mul_assoc, Nat.mul_comm (256 ^ xs.length) 256]; omega
    rw [e, ih]
    congr 1
    rw [Nat.mul_comm, Nat.mul_add_div hp, Nat.div_eq_of_lt hl, Nat.add_zero]
    apply UInt8.toNat_inj.1
    rw [UInt8.toNat_ofNat']
    have := c.toNat_lt
    omega
theorem num_be8 (x : Nat) (h : x < 18446744073709551616) : num (be 8 x) = x := by
  rw [num_be]
  exact Nat.mod_eq_of_lt (by simpa using h)
def b8 (x i : Nat) : Int := ((x / 256 ^ i % 256 : Nat) : Int)
end Go.Gl

namespace Go.Proofs.Ytglkmaalpammcaa
open Go.Gl Go.RowKit
set_option linter.unusedVariables false
theorem bv_be8 (x : Nat) : bv (be 8 x) = [.int .u8 (b8 x 7), .int .u8 (b8 x 6), .int .u8 (b8 x 5), .int .u8 (b8 x 4), .int .u8 (b8 x 3), .int .u8 (b8 x 2), .int .u8 (b8 x 1), .int .u8 (b8 x 0)] := by
  simp only [be, bv, List.map_cons, List.map_nil, UInt8.toNat_ofNat', b8]
theorem agg8 (x : Nat) (hx : x < 18446744073709551616) (a0 a1 a2 a3 a4 a5 a6 a7 : Int) (h : a0 = x / 72057594037927936 ∧ a1 = x / 281474976710656 % 256 ∧ a2 = x / 1099511627776 % 256 ∧ a3 = x / 4294967296 % 256 ∧ a4 = x / 16777216 % 256 ∧ a5 = x / 65536 % 256 ∧ a6 = x / 256 % 256 ∧ a7 = x % 256) :
    a0 = b8 x 7 ∧ a1 = b8 x 6 ∧ a2 = b8 x 5 ∧ a3 = b8 x 4 ∧ a4 = b8 x 3 ∧ a5 = b8 x 2 ∧ a6 = b8 x 1 ∧ a7 = b8 x 0 := by
  obtain ⟨rfl, rfl, rfl, rfl, rfl, rfl, rfl, rfl⟩ := h
  simp only [b8]
  omega
def eightV (x : Nat) : Value := .agg #[.int .u8 (b8 x 7), .int .u8 (b8 x 6), .int .u8 (b8 x 5), .int .u8 (b8 x 4), .int .u8 (b8 x 3), .int .u8 (b8 x 2), .int .u8 (b8 x 1), .int .u8 (b8 x 0)]
theorem eightV_of (x : Nat) (hx : x < 18446744073709551616) : Value.agg #[.int .u8 (x / 72057594037927936), .int .u8 (x / 281474976710656 % 256), .int .u8 (x / 1099511627776 % 256), .int .u8 (x / 4294967296 % 256), .int .u8 (x / 16777216 % 256), .int .u8 (x / 65536 % 256), .int .u8 (x / 256 % 256), .int .u8 (x % 256)] = eightV x := by
  obtain ⟨h0, h1, h2, h3, h4, h5, h6, h7⟩ := agg8 x hx _ _ _ _ _ _ _ _ ⟨rfl, rfl, rfl, rfl, rfl, rfl, rfl, rfl⟩
  unfold eightV
  rw [h0, h1, h2, h3, h4, h5, h6, h7]
set_option maxHeartbeats 1000000 in
theorem eight_any (x : Nat) (w : World) (hx : x < 18446744073709551616) :
    Calls Try.prog 95 #[.int .u64 x] w fun e w' => e = .returned (eightV x) ∧ Mods noB w w' := by
  have H := Lib.hid (eightV_of x hx)
  go_enter Try.func95, Try.ntmps95
  go_wp2
  go_rounds 9
  refine bodyPost_ret (by simp [results, Try.results95, go_sem]; exact H.out) rfl ?_
  exact ⟨rfl, (by repeat' (first | (with_reducible exact Mods.refl _ _) | (with_reducible assumption) | (with_reducible refine Mods.alloc ?_ _) | (with_reducible refine Mods.drew ?_) | (with_reducible refine Mods.drewN ?_ _) | (with_reducible refine Mods.regrown ?_ _ _) | (with_reducible refine Mods.setCell ?_ ?_ _) | (refine .inr ?_; first | (simp; done) | (simp; omega) | omega)))⟩
theorem eight_int (n : Int) (w : World) (h0 : 0 ≤ n) (h1 : n ≤ 18446744073709551615) :
    Calls Try.prog 95 #[.int .u64 n] w fun e w' => e = .returned (.agg #[.int .u8 (b8 n.toNat 7), .int .u8 (b8 n.toNat 6), .int .u8 (b8 n.toNat 5), .int .u8 (b8 n.toNat 4), .int .u8 (b8 n.toNat 3), .int .u8 (b8 n.toNat 2), .int .u8 (b8 n.toNat 1), .int .u8 (b8 n.toNat 0)]) ∧ Mods noB w w' := by
  obtain ⟨x, rfl⟩ := Int.eq_ofNat_of_zero_le h0
  exact eight_any x w (by omega)
theorem rd8 {w : World} {g : Nat} {x : Nat} {e : TypeId} {fr : Nat × Nat} (h : w.heap[g]? = some (.cells #[.int .u8 (b8 x 7), .int .u8 (b8 x 6), .int .u8 (b8 x 5), .int .u8 (b8 x 4), .int .u8 (b8 x 3), .int .u8 (b8 x 2), .int .u8 (b8 x 1), .int .u8 (b8 x 0)] e fr)) : Rd w (.slice (some ⟨g, 0, none⟩) 8 8) (be 8 x) := by
  refine ⟨by rw [be_length, bv_length, be_length], .inr ⟨g, 0, 8, by rw [be_length], by rw [be_length]; omega, by simp [maxLen], .inr (lt_of_heap h), fun j u hj => ?_⟩⟩
  rw [bv_be8] at hj
  rw [cells_of h, Nat.zero_add]
  simpa using hj
end Go.Proofs.Ytglkmaalpammcaa

namespace Go.Proofs.Ytglkmaalpammcaa
open Go.Gl Go.RowKit
set_option linter.unusedVariables false
def kturn (f : KForm) (a : Nat) : Nat := if f.turned then 18446744073709551615 - a else a
def kfirst (f : KForm) (a : Nat) : List UInt8 := [f.head] ++ (if f.a then be 8 (kturn f a) else []) ++ (if f.mid.toNat = 0 then [] else [f.mid])
set_option maxHeartbeats 1000000 in
theorem first_any (f : KForm) (a : Nat) (w : World) (ha : a ≤ 18446744073709551615) :
    Calls Try.prog 94 #[.agg #[.int .u8 f.head.toNat, .int .u8 f.mid.toNat, .bool f.a, .bool f.b, .bool f.turned], .int .u64 a] w fun e w' => ∃ v, e = .returned v ∧ Gl.Own w' v (kfirst f a) ∧ Mods noB w w' ∧ freshIn w v := by
  obtain ⟨hd, md, fa, fb, ft⟩ := f
  have hfin : Hid (∀ t : Nat, t = kturn ⟨hd, md, fa, fb, ft⟩ a → kfirst ⟨hd, md, fa, fb, ft⟩ a = [hd] ++ (if fa then be 8 t else []) ++ (if md.toNat = 0 then [] else [md])) := by
    intro t ht; rw [ht]; rfl
  have hmd : md.toNat < 256 := md.toNat_lt
  have fin : ∀ (W : World) (v : Value) (b : Nat), w.heap.size ≤ b → (v.ownBlock = some b ∨ freshIn W v) → w.heap.size ≤ W.heap.size → freshIn w v := by
    intro W v b hb hv hW k hk
    rcases hv with hv | hv
    · rw [hv] at hk; simp at hk; omega
    · have := hv k hk; omega
  have F := Lib.hid fin
  clear fin
  have M : (((md.toNat : Nat) : Int) != 0) = false ∧ md.toNat = 0 ∨ (((md.toNat : Nat) : Int) != 0) = true ∧ md.toNat ≠ 0 := by
    by_cases h : md.toNat = 0
    · exact .inl ⟨by simp [h], h⟩
    · exact .inr ⟨by simp [h], h⟩
  cases ft
  all_goals
    go_enter Try.func94, Try.ntmps94
    go_wp2_with fail
    try rw [not_u64 _ (by omega) (by omega)]
    refine (eight_int _ _ (by omega) (by omega)).mono ?_
    rintro e w1 ⟨rfl, hm1⟩
    have B0 := cells_of (hm1.heap (g := w.heap.size) (heap_old (heap_new _ _) _) (fun x => x))
    have o1 : Gl.Own w1 (.slice (some ⟨w.heap.size + 1, 0, none⟩) 1 1) [hd] := by
      have h := fun o => own_at hd (w := w.alloc o) (w.heap.size + 1) (by simp)
      exact (h _).keep hm1 (fun _ _ x => x)
    have hz1 : w.heap.size + 1 < w1.heap.size := by have := hm1.size; simp at this; omega
    have hz0 : w.heap.size < w1.heap.size := by omega
    have m1 : Mods noB w w1 := ((((Mods.refl _ _).alloc _).alloc _).trans hm1 (fun _ _ x => x) (fun _ _ x => x))
    rcases M with ⟨hb, hM⟩ | ⟨hb, hM⟩
    all_goals
      have HM := Lib.hid hM
      clear hM hm1
      cases fa
  case inl.false | inr.inl.false =>
    go_wp2_with (at_builtin; refine stop ?_)
    go_ret
    refine ⟨_, rfl, ?_, m1.alloc _, F.out w1 _ _ (Nat.le_succ _) (.inl rfl) m1.size⟩
    rw [hfin.out _ rfl, if_pos HM.out]
    exact o1.alloc _
  case inr.false | inr.inr.false =>
    go_wp2_with (at_builtin; refine stop ?_)
    unfold Stop
    refine wpList_apb rfl rfl [hd] [md] ((o1.alloc _).alloc _) (own_at md _ (by simp)).rd rfl rfl (by simp) ?_
    intro v2 w2 h1 h2 h3
    go_wp2
    go_ret
    refine ⟨_, rfl, ?_, ((m1.alloc _).alloc _).trans h2 (fun _ _ x => x) (fun i hi x => by have := (ofV_some x); omega), F.out _ _ _ (Nat.le_succ _) h3 (by simp; omega)⟩
    rw [hfin.out _ rfl, if_neg HM.out]
    exact h1
  case inl.true | inr.inl.true =>
    go_wp2_with (at_builtin; refine stop ?_)
    unfold Stop
    refine wpList_apb rfl rfl [hd] _ (o1.alloc _) (rd8 (heap_new _ _)) rfl rfl (by simp [be_length]) ?_
    intro v2 w2 h1 h2 h3
    have B2 : ∀ o, w2.cell? ⟨w.heap.size, o, none⟩ = _ := fun o => (h2.cellAt (g := w.heap.size) (by simp; omega) (fun x => by have := ofV_some x; omega) o).trans ((World.cell?_alloc_past _ _ _ hz0).trans (B0 o))
    have F2 := Lib.hid (show _ ∧ _ ∧ _ from ⟨h1, h2, h3⟩)
    clear h1 h2 h3
    go_wp2_with (at_builtin; refine stop ?_)
    go_ret
    obtain ⟨h1, h2, h3⟩ := F2.out
    refine ⟨_, rfl, ?_, (m1.alloc _).trans h2 (fun _ _ x => x) (fun i hi x => by have := (ofV_some x); omega), F.out _ _ _ (Nat.le_succ _) h3 (by simp; omega)⟩
    rw [hfin.out _ rfl, if_pos HM.out]
    simpa [kturn] using h1
  case inr.true | inr.inr.true =>
    go_wp2_with (at_builtin; refine stop ?_)
    unfold Stop
    refine wpList_apb rfl rfl [hd] _ (o1.alloc _) (rd8 (heap_new _ _)) rfl rfl (by simp [be_length]) ?_
    intro v2 w2 h1 h2 h3
    have B2 : ∀ o, w2.cell? ⟨w.heap.size, o, none⟩ = _ := fun o => (h2.cellAt (g := w.heap.size) (by simp; omega) (fun x => by have := ofV_some x; omega) o).trans ((World.cell?_alloc_past _ _ _ hz0).trans (B0 o))
    have F2 := Lib.hid (show _ ∧ _ ∧ _ from ⟨h1, h2, h3⟩)
    clear h1 h2 h3
    go_wp2_with (at_builtin; refine stop ?_)
    unfold Stop
    obtain ⟨h1, h2, h3⟩ := F2.out
    have hs2 := h2.size
    simp only [World.size_alloc] at hs2
    refine wpList_apb rfl rfl _ [md] (h1.alloc _) (own_at md _ (by simp)).rd rfl rfl (by simp [be_length]) ?_
    intro v3 w3 k1 k2 k3
    go_wp2
    go_ret
    have hv2 : freshIn w v2 := F.out _ _ _ (Nat.le_succ _) h3 (by simp; omega)
    refine ⟨_, rfl, ?_, (((m1.alloc _).trans h2 (U := noB) (fun _ _ x => x) (fun i hi x => by have := (ofV_some x); omega)).alloc _).trans k2 (fun _ _ x => x) (fun i hi x => by have := hv2 i x; omega), fun k hk => ?_⟩
    · rw [hfin.out _ rfl, if_neg HM.out]
      simpa [kturn] using k1
    · rcases k3 with k3 | k3
      · exact hv2 k (k3.symm.trans hk)
      · have := k3 k hk
        simp at this
        omega
end Go.Proofs.Ytglkmaalpammcaa

namespace Go.Proofs.Ytglkmaalpammcaa
open Go.Gl Go.RowKit
set_option linter.unusedVariables false
theorem key_eqIn (d : Nat) (k a b k' a' b' : Int) (w : World) : (Op.equalIn (d + 2) 113 (.agg #[.int .i64 k, .int .u64 a, .int .u64 b]) (.agg #[.int .i64 k', .int .u64 a', .int .u64 b'])).run Try.prog w = .ok (k == k' && (a == a' && b == b')) w := by
  simp [go_sem]
  by_cases h1 : k = k' <;> by_cases h2 : a = a' <;> by_cases h3 : b = b' <;> simp [h1, h2, h3]
theorem key_neq (k a b k' a' b' : Int) (w : World) : (binOp .neq 113 (.agg #[.int .i64 k, .int .u64 a, .int .u64 b]) (.agg #[.int .i64 k', .int .u64 a', .int .u64 b'])).run Try.prog w = .ok (.bool (!(k == k' && (a == a' && b == b')))) w := by
  rw [run_neq_struct, key_eqIn 9998]
  rfl
end Go.Proofs.Ytglkmaalpammcaa

namespace Go.Proofs.Ytglkmaalpammcaa
open Go.Gl Go.RowKit
set_option linter.unusedVariables false
def kuse (c : Bool) (a : Nat) : Int := ((if c then a else 0 : Nat) : Int)
set_option maxHeartbeats 400000 in
theorem used_any (f : KForm) (k : Int) (a b : Nat) (w : World) :
    Calls Try.prog 93 #[.agg #[.int .u8 f.head.toNat, .int .u8 f.mid.toNat, .bool f.a, .bool f.b, .bool f.turned], .agg #[.int .i64 k, .int .u64 a, .int .u64 b]] w fun e w' => e = .returned (.agg #[.int .i64 k, .int .u64 (kuse f.a a), .int .u64 (kuse f.b b)]) ∧ Mods noB w w' := by
  obtain ⟨hd, md, fa, fb, ft⟩ := f
  cases fa <;> cases fb
  all_goals
    go_enter Try.func93, Try.ntmps93
    go_wp2
    go_returns
    exact ⟨rfl, (by repeat' (first | (with_reducible exact Mods.refl _ _) | (with_reducible assumption) | (with_reducible refine Mods.alloc ?_ _) | (with_reducible refine Mods.drew ?_) | (with_reducible refine Mods.drewN ?_ _) | (with_reducible refine Mods.regrown ?_ _ _) | (with_reducible refine Mods.setCell ?_ ?_ _) | (refine .inr ?_; first | (simp; done) | (simp; omega) | omega)))⟩
def KRes (w : World) (xs : List UInt8) (n : Int) (e : Ending) (w' : World) : Prop := ∃ v, e = .returned (.tuple #[v, .int .i64 n]) ∧ Gl.Own w' v xs ∧ Mods noB w w' ∧ freshIn w v
theorem KRes.nil {w w' : World} {n : Int} (hm : Mods noB w w') : KRes w [] n (.returned (.tuple #[.slice none 0 0, .int .i64 n])) w' := ⟨_, rfl, Gl.Own.nil _, hm, fun k hk => by simp [Value.ownBlock] at hk⟩
def kbytes (f : KForm) (a b : Nat) : List UInt8 := kfirst f a ++ if f.b then be 8 b else []
def kfit (f : KForm) (a b : Nat) : Bool := (f.a || decide (a = 0)) && (f.b || decide (b = 0))
set_option maxHeartbeats 400000 in
theorem Make_no1 (n : Int) (a b : Nat) (w : World) (h : n < 1 ∨ 17 < n) :
    Calls Try.prog 61 #[.agg #[.int .i64 n, .int .u64 a, .int .u64 b]] w (KRes w [] 70) := by
  have H := Lib.hid h
  clear h
  go_enter Try.func61, Try.ntmps61
  go_wp2_with (go_at_call 78; refine (formOf_no _ _ H.out).mono ?_; rintro e w1 ⟨rfl, hm⟩; unfold fv fcells)
  refine wp_region_quiet_below (by kernel_rfl) (by kernel_rfl) ?_
  repeat (quiet_step (fail))
  refine wpQuiet_nil ?_
  intro _ hw'
  obtain ⟨⟨dq, osq⟩, hw''⟩ := hw'
  subst hw''
  go_wp2
  go_returns
  have m1 := hm.after
  exact KRes.nil (by repeat' (first | (with_reducible exact Mods.refl _ _) | (with_reducible assumption) | (with_reducible refine Mods.alloc ?_ _) | (with_reducible refine Mods.drew ?_) | (with_reducible refine Mods.drewN ?_ _) | (with_reducible refine Mods.regrown ?_ _ _) | (with_reducible refine Mods.setCell ?_ ?_ _) | (refine .inr ?_; first | (simp; done) | (simp; omega) | omega)))
theorem fit_eq (f : KForm) (k a b : Nat) : (!(((k : Int) == (k : Int)) && (((kuse f.a a) == (a : Int)) && ((kuse f.b b) == (b : Int))))) = !kfit f a b := by
  obtain ⟨hd, md, fa, fb, ft⟩ := f
  cases fa <;> cases fb <;> simp [kfit, kuse] <;> by_cases h1 : a = 0 <;> by_cases h2 : b = 0 <;> simp_all <;> omega
set_option maxHeartbeats 400000 in
theorem Make_no2 (k a b : Nat) (f : KForm) (w : World) (hf : kform k = some f) (hn : kfit f a b = false) :
    Calls Try.prog 61 #[.agg #[.int .i64 k, .int .u64 a, .int .u64 b]] w (KRes w [] 70) := by
  have hne := fun w => (key_neq (k : Int) (kuse f.a a) (kuse f.b b) (k : Int) (a : Int) (b : Int) w).trans (by rw [fit_eq, hn])
  have H := Lib.hid hf
  clear hf hn
  obtain ⟨hd, md, fa, fb, ft⟩ := f
  go_enter Try.func61, Try.ntmps61
  go_wp2_with (go_at_call 78; refine (formOf_yes _ _ _ H.out).mono ?_; rintro e w1 ⟨rfl, hm⟩; unfold fv fcells)
  have m1 := hm.after
  have c1 := hm.cellAt (g := w.heap.size) (by simp) (fun x => x)
  have hz : w.heap.size < w1.heap.size := hm.size_of (by simp)
  have c0 : ∀ o, (w1.alloc (.cells #[.int .u8 hd.toNat, .int .u8 md.toNat, .bool fa, .bool fb, .bool ft] 142)).cell? ⟨w.heap.size, o, none⟩ = #[.int .i64 (k : Int), .int .u64 (a : Int), .int .u64 (b : Int)][o]? := fun o => (World.cell?_alloc_past _ _ _ hz).trans ((c1 o).trans (by simp))
  have c2 := cells_regrown c0 (by simp; omega)
  have c3 := cells_regrown (cells_of (heap_new w1 (.cells #[.int .u8 hd.toNat, .int .u8 md.toNat, .bool fa, .bool fb, .bool ft] 142))) (by simp)
  clear c0 c1
  refine wp_region_quiet_below (by kernel_rfl) (by kernel_rfl) ?_
  repeat (quiet_step ((go_at_call 93; exact Calls.quiet_mods (used_any ⟨hd, md, fa, fb, ft⟩ _ _ _ _))))
  refine wpQuiet_nil ?_
  intro _ hw'
  obtain ⟨⟨dq, osq⟩, hw''⟩ := hw'
  subst hw''
  clear c2 c3
  go_wp2
  go_returns
  exact KRes.nil (by repeat' (first | (with_reducible exact Mods.refl _ _) | (with_reducible assumption) | (with_reducible refine Mods.alloc ?_ _) | (with_reducible refine Mods.drew ?_) | (with_reducible refine Mods.drewN ?_ _) | (with_reducible refine Mods.regrown ?_ _ _) | (with_reducible refine Mods.setCell ?_ ?_ _) | (refine .inr ?_; first | (simp; done) | (simp; omega) | omega)))
set_option maxHeartbeats 400000 in
theorem Make_yes (k a b : Nat) (f : KForm) (w : World) (hf : kform k = some f) (hn : kfit f a b = true) (ha : a ≤ 18446744073709551615) (hb : b ≤ 18446744073709551615) :
    Calls Try.prog 61 #[.agg #[.int .i64 k, .int .u64 a, .int .u64 b]] w (KRes w (kbytes f a b) 0) := by
  have hne := fun w => (key_neq (k : Int) (kuse f.a a) (kuse f.b b) (k : Int) (a : Int) (b : Int) w).trans (by rw [fit_eq, hn])
  have H := Lib.hid hf
  clear hf hn
  obtain ⟨hd, md, fa, fb, ft⟩ := f
  go_enter Try.func61, Try.ntmps61
  go_wp2_with (go_at_call 78; refine (formOf_yes _ _ _ H.out).mono ?_; rintro e w1 ⟨rfl, hm⟩; unfold fv fcells)
  have m1 := hm.after
  have c1 := hm.cellAt (g := w.heap.size) (by simp) (fun x => x)
  have hz : w.heap.size < w1.heap.size := hm.size_of (by simp)
  have c0 : ∀ o, (w1.alloc (.cells #[.int .u8 hd.toNat, .int .u8 md.toNat, .bool fa, .bool fb, .bool ft] 142)).cell? ⟨w.heap.size, o, none⟩ = #[.int .i64 (k : Int), .int .u64 (a : Int), .int .u64 (b : Int)][o]? := fun o => (World.cell?_alloc_past _ _ _ hz).trans ((c1 o).trans (by simp))
  have c2 := cells_regrown c0 (by simp; omega)
  have c3 := cells_regrown (cells_of (heap_new w1 (.cells #[.int .u8 hd.toNat, .int .u8 md.toNat, .bool fa, .bool fb, .bool ft] 142))) (by simp)
  clear c0 c1
  refine wp_region_quiet_below (by kernel_rfl) (by kernel_rfl) ?_
  repeat (quiet_step ((go_at_call 93; exact Calls.quiet_mods (used_any ⟨hd, md, fa, fb, ft⟩ _ _ _ _))))
  refine wpQuiet_nil ?_
  intro _ hw'
  obtain ⟨⟨dq, osq⟩, hw''⟩ := hw'
  subst hw''
  have d2 := c2 dq osq
  have d3 := c3 dq osq
  have hs2 := (mods_regrown (w1.alloc (.cells #[.int .u8 hd.toNat, .int .u8 md.toNat, .bool fa, .bool fb, .bool ft] 142)) dq osq).size
  have m2 := (m1.alloc (.cells #[.int .u8 hd.toNat, .int .u8 md.toNat, .bool fa, .bool fb, .bool ft] 142)).regrown dq osq
  simp only [World.size_alloc] at hs2
  clear c2 c3 hne hm
  generalize Sort.grow _ osq = w2 at *
  go_wp2_with fail
  refine (first_any ⟨hd, md, fa, fb, ft⟩ a _ ha).mono ?_
  rintro e w3 ⟨v, rfl, h1, h2, h3⟩
  have hs3 := h2.size
  have b0 : w.heap.size < w2.heap.size := by omega
  have b1 : w1.heap.size < w2.heap.size := by omega
  have e2 := fun o => (h2.cellAt b0 (fun x => x) o).trans (d2 o)
  have e3 := fun o => (h2.cellAt b1 (fun x => x) o).trans (d3 o)
  clear d2 d3
  go_wp2_with fail
  refine (eight_int _ _ (by omega) (by omega)).mono ?_
  rintro e w4 ⟨rfl, h4⟩
  have hs4 := h4.size
  have f3 := fun o => (h4.cellAt (g := w1.heap.size) (by omega) (fun x => x) o).trans (e3 o)
  have b4 : w1.heap.size < w4.heap.size := by omega
  have m4 := (m2.then0 h2).then0 h4
  have o4 := h1.keep h4 (fun _ _ x => x)
  have fr : freshIn w v := h3.of (by omega)
  clear e2 e3
  cases fb
  · go_wp2_with (at_builtin; refine stop ?_)
    go_returns
    refine ⟨v, rfl, ?_, m4.alloc _, fr⟩
    simpa [kbytes] using o4.alloc _
  · go_wp2_with (at_builtin; refine stop ?_)
    unfold Stop
    refine wpList_apb rfl rfl _ _ (o4.alloc _) (rd8 (heap_new _ _)) rfl rfl (by simp [be_length, kfirst]; repeat' split <;> simp [be_length]) ?_
    intro v5 w5 k1 k2 k3
    go_wp2
    go_returns
    refine ⟨v5, rfl, by simpa [kbytes] using k1, (m4.alloc _).trans k2 (fun _ _ x => x) (fun i hi x => by have := fr i x; omega), fun k hk => ?_⟩
    rcases k3 with k3 | k3
    · exact fr k (k3.symm.trans hk)
    · have := k3 k hk
      simp at this
      omega
theorem kform_none {n : Int} (h : n < 1 ∨ 17 < n) : kform n.toNat = none := by
  rcases h with h | h
  · rw [show n.toNat = 0 from by omega]; rfl
  · obtain ⟨j, hj⟩ : ∃ j, n.toNat = j + 18 := ⟨n.toNat - 18, by omega⟩
    rw [hj]; rfl
def kmake (n : Int) (a b : Nat) : Option (List UInt8) := match kform n.toNat with
  | none => none
  | some f => if kfit f a b then some (kbytes f a b) else none
theorem Make_any (n : Int) (a b : Nat) (w : World) (ha : a ≤ 18446744073709551615) (hb : b ≤ 18446744073709551615) :
    Calls Try.prog 61 #[.agg #[.int .i64 n, .int .u64 a, .int .u64 b]] w (KRes w ((kmake n a b).getD []) (if (kmake n a b).isSome then 0 else 70)) := by
  by_cases h : n < 1 ∨ 17 < n
  · have := Make_no1 n a b w h
    simpa [kmake, kform_none h] using this
  · obtain ⟨k, rfl⟩ := Int.eq_ofNat_of_zero_le (a := n) (by omega)
    obtain ⟨f, hf, _⟩ := formsV_at k (by omega) (by omega)
    cases hn : kfit f a b
    · have := Make_no2 k a b f w hf hn
      simpa [kmake, hf, hn] using this
    · have := Make_yes k a b f w hf hn ha hb
      simpa [kmake, hf, hn] using this
end Go.Proofs.Ytglkmaalpammcaa

namespace Go.Proofs.Ytglkmaalpammcaa
open Go.Gl Go.RowKit
set_option linter.unusedVariables false
theorem shr_byte (x j : Nat) : (x : Int) / 2 ^ (8 * j) % 256 = (((UInt8.ofNat (x / 256 ^ j)).toNat : Nat) : Int) := by
  rw [UInt8.toNat_ofNat', show (256 : Nat) = 2 ^ 8 from rfl, ← Nat.pow_mul]
  simp
end Go.Proofs.Ytglkmaalpammcaa

namespace Go.Proofs.Ytglkmaalpammcaa
open Go.Gl Go.RowKit
set_option linter.unusedVariables false
set_option maxRecDepth 100000
structure Wr (w : World) (g : Nat) (v : Value) (xs : List UInt8) (e : Int) : Prop where
  heap : w.heap[g]? = some (.cells #[v, .int .i64 e] 166 (0, 0))
  own : Gl.Own w v xs
  apart : v.ownBlock ≠ some g
def WS (g : Nat) (v : Value) : Nat → Prop := fun k => k = g ∨ v.ownBlock = some k
structure WStep (w : World) (g : Nat) (v : Value) (xs : List UInt8) (e : Int) (w' : World) (v' : Value) : Prop where
  wr : Wr w' g v' xs e
  mods : Mods (WS g v) w w'
  blk : v'.ownBlock = v.ownBlock ∨ freshIn w v'
theorem WStep.trans {w w1 w2 : World} {g : Nat} {v v1 v2 : Value} {xs ys : List UInt8} {e e' : Int} (h : WStep w g v xs e w1 v1) (k : WStep w1 g v1 ys e' w2 v2) : WStep w g v ys e' w2 v2 :=
  ⟨k.wr, h.mods.trans k.mods (fun _ _ x => x) (fun i hi hx => by
      rcases hx with hx | hx
      · exact .inl hx
      · rcases h.blk with hb | hb
        · exact .inr (hb.symm.trans hx)
        · exact absurd hi (Nat.not_lt.2 (hb i hx))),
    by
      rcases k.blk with kb | kb
      · rcases h.blk with hb | hb
        · exact .inl (kb.trans hb)
        · exact .inr (fun i hi => hb i (kb ▸ hi))
      · exact .inr (kb.of h.mods.size)⟩
theorem WStep.refl {w : World} {g : Nat} {v : Value} {xs : List UInt8} {e : Int} (h : Wr w g v xs e) : WStep w g v xs e w v := ⟨h, Mods.refl _ _, .inl rfl⟩
theorem Wr.lt {w : World} {g : Nat} {v : Value} {xs : List UInt8} {e : Int} (h : Wr w g v xs e) : g < w.heap.size := lt_of_heap h.heap
theorem Wr.set {w w' : World} {g : Nat} {v v' : Value} {xs ys : List UInt8} {e : Int} (h : Wr w g v xs e) (ho : Gl.Own w' v' ys) (hm : Mods (ofV v) w w') (hb : v'.ownBlock = v.ownBlock ∨ freshIn w v') :
    WStep w g v ys e (w'.setCell ⟨g, 0, none⟩ v') v' := by
  have hv' : v'.ownBlock ≠ some g := by
    rcases hb with hb | hb
    · rw [hb]; exact h.apart
    · exact hb.not h.lt
  have h1 := hm.heap h.heap (fun x => h.apart x)
  refine ⟨⟨?_, ho.keep ((Mods.refl (fun k => k = g) w').setCell (.inl rfl) v') (fun k hk e => hv' (by rw [hk, e])), hv'⟩, (hm.mono (T := WS g v) (fun i _ x => .inr x)).setCell (.inl (.inl rfl)) v', hb⟩
  have := heap_set h1 0 v'
  simpa using this
end Go.Proofs.Ytglkmaalpammcaa

namespace Go.Proofs.Ytglkmaalpammcaa
open Go.Gl Go.RowKit
set_option linter.unusedVariables false
set_option maxRecDepth 100000
attribute [local go_sem ↓] Go.wp_at_zero Go.wp_at_succ
theorem step_apb {ops : Array Oper} {Q : Exit → Act → World → Prop} {K : Act → World → Prop} {E : Prop} {o : Oper} {a : Act} {w : World} {s x : Operand} (hw : Region.wanted o (yielded ops a.tmps) = true)
    (ho : o.op = .call { callee := .builtin .append, args := #[s, x], argTypes := #[77, 77] })
    {v u : Value} (xs ys : List UInt8) (hown : Gl.Own w v xs) (hrd : Rd w u ys) (hs : a.eval s = v) (hx : a.eval x = u) (hlen : xs.length + ys.length ≤ 140737488355328)
    (h : ∀ v' w', Gl.Own w' v' (xs ++ ys) → Mods (ofV v) w w' → (v'.ownBlock = v.ownBlock ∨ freshIn w v') → K (a.put o.dst v') w') :
    if Region.wanted o (yielded ops a.tmps) = true then Oper.wp Try.prog o a w K Q else E := by
  rw [if_pos hw]
  obtain ⟨i, hi, hz, hs1, hb1⟩ := info_parts Try.infoU8
  obtain ⟨v', w', hr, h2, h3, h4⟩ := run_ap (P := Try.prog) 77 77 o.type 5 5 i _ Try.underlying77 Try.underlying77 hi hz (by rw [hs1]; rfl) (by rw [hs1]; exact hown) (by rw [hs1]; exact hrd) (bv_one _) (by simp only [maxLen]; omega) (by rw [hb1]; omega)
  unfold Oper.wp execOp
  simp only [ho, resolve, invoke, builtin, Sem.run_bind, Sem.run_pure, Result.andThen_ok, List.map_toArray, List.map_cons, List.map_nil, hs, hx, hr]
  refine h v' w' ?_ h3 h4
  rw [hs1] at h2
  unfold Gl.Own
  rw [bv_append, List.length_append]
  exact h2
theorem own_atI (c : UInt8) {z : Int} (hz : z = c.toNat) {w : World} (n : Nat) (hn : n = w.heap.size) : Gl.Own (w.alloc (.cells #[.int .u8 z] 5)) (.slice (some ⟨n, 0, none⟩) 1 1) [c] := by
  subst hz
  exact own_at c n hn
theorem wnum_err {w : World} {g : Nat} {v : Value} {xs : List UInt8} {e : Int} (n x : Nat) (h : Wr w g v xs e) (he : e ≠ 0) :
    Calls Try.prog 144 #[.pointer (some ⟨g, 0, none⟩), .int .u64 x, .int .i64 n] w fun r w' => r = .returned (.tuple #[]) ∧ w' = w := by
  have c := cells_of h.heap
  have hb : (e != 0) = true := by simp [he]
  clear h he
  go_enter Try.func144, Try.ntmps144
  go_wp2
  first | go_end0 | (refine bodyPost_ret (by simp [results, Try.results144, go_sem]; try rfl) rfl ?_)
  exact ⟨rfl, rfl⟩
theorem Wr.drewN {w : World} {g : Nat} {v : Value} {xs : List UInt8} {e : Int} (h : Wr w g v xs e) (n : Nat) : Wr (w.drewN n) g v xs e := ⟨h.heap, h.own.quiet ⟨n, rfl⟩, h.apart⟩
theorem Wr.alloc {w : World} {g : Nat} {v : Value} {xs : List UInt8} {e : Int} (h : Wr w g v xs e) (o : Obj) : Wr (w.alloc o) g v xs e := ⟨heap_old h.heap o, h.own.alloc o, h.apart⟩
theorem Wr.drew {w : World} {g : Nat} {v : Value} {xs : List UInt8} {e : Int} (h : Wr w g v xs e) : Wr w.drew g v xs e := ⟨h.heap, h.own.quiet ⟨1, rfl⟩, h.apart⟩
theorem WStep.from {w w1 w2 : World} {g : Nat} {v v2 : Value} {xs : List UInt8} {e : Int} (h : WStep w1 g v xs e w2 v2) (hm : Mods noB w w1) : WStep w g v xs e w2 v2 :=
  ⟨h.wr, hm.trans h.mods (fun _ _ x => x.elim) (fun _ _ x => x), h.blk.imp_right (fun k => k.of hm.size)⟩
set_option maxHeartbeats 2000000 in
theorem wnum_ok {w : World} {g : Nat} {v : Value} {xs : List UInt8} (n x : Nat) (h : Wr w g v xs 0) (hn : n ≤ 8) (hx : x ≤ 18446744073709551615) (hl : xs.length ≤ 100000000000000) :
    Calls Try.prog 144 #[.pointer (some ⟨g, 0, none⟩), .int .u64 x, .int .i64 n] w fun r w' => r = .returned (.tuple #[]) ∧ ∃ v', WStep w g v (xs ++ be n x) 0 w' v' := by
  obtain ⟨out, hgo⟩ : ∃ out, xs ++ be n x = out := ⟨_, rfl⟩
  have R0 : Hid (WStep w g v xs 0 w v ∧ xs ++ be n x = out ∧ xs.length + n ≤ 100000000000008) := ⟨WStep.refl h, hgo, by omega⟩
  rw [hgo]
  have c := cells_of h.heap
  clear h hgo hl
  go_enter Try.func144, Try.ntmps144
  go_wp2
  clear c
  go_loopw [6] (fun k wr => ∃ (j : Nat) (b : Value) (ys : List UInt8), j ≤ 8 ∧ k = .int .i64 ((j : Int) - 1) ∧ Hid (WStep w g v ys 0 wr b ∧ ys ++ be j x = out ∧ ys.length + j ≤ 100000000000008)) (fun k _ => (intOf k + 1).toNat)
  case atStart => exact ⟨n, v, xs, hn, rfl, R0⟩
  case round =>
    obtain ⟨j, b, ys, hj, rfl, hR⟩ := hrel
    clear R0
    rcases j with _ | j
    · go_wp2
      go_end0
      obtain ⟨h1, h2, h3⟩ := hR.out
      simp only [be, List.append_nil] at h2
      subst h2
      exact ⟨rfl, _, h1⟩
    · rw [show (((j + 1 : Nat) : Int) - 1) = ((j : Nat) : Int) from by omega]
      have h8 : j ≤ 7 := by omega
      have c := cells_of hR.out.1.wr.heap
      have f := free_of hR.out.1.wr.heap
      go_wp2
      have s1 : IntKind.i64.wrap (8 * (j : Int)) = 8 * (j : Int) := IntWalk.i64_in _ (by omega)
      have s2 : (0 : Int) ≤ 8 * (j : Int) := by omega
      have s3 : (8 * (j : Int)).toNat = 8 * j := by omega
      have hgl := hR.out.1.wr.lt
      have hgn : wr.heap.size ≠ g := by omega
      have hgm : g ≠ wr.heap.size := by omega
      go_region_law ((refine step_apb (by rfl) (by rfl) ys [UInt8.ofNat (x / 256 ^ j)] ?_ ?_ (by rfl) (by rfl) ?_ ?_; (next => exact (hR.out.1.wr.own.quiet ⟨1, rfl⟩).alloc _); (next => exact (own_atI (UInt8.ofNat (x / 256 ^ j)) (shr_byte x j) _ rfl).rd); (next => have := hR.out.2.2; simp; omega); intro v' w' k1 k2 k3; obtain ⟨a', cap', rfl, hm'⟩ := k1.rd.form; have H1 := cells_of (k2.heap (heap_old (w := wr.drew) hR.out.1.wr.heap _) hR.out.1.wr.apart); have F1 := free_of (k2.heap (heap_old (w := wr.drew) hR.out.1.wr.heap _) hR.out.1.wr.apart)))
      all_goals
        have R1 : Hid (WStep w g v (ys ++ [UInt8.ofNat (x / 256 ^ j)]) 0 (w'.setCell ⟨g, 0, none⟩ (.slice a' (ys.length + 1) cap')) (.slice a' (ys.length + 1) cap') ∧ (ys ++ [UInt8.ofNat (x / 256 ^ j)]) ++ be j x = out ∧ (ys ++ [UInt8.ofNat (x / 256 ^ j)]).length + j ≤ 100000000000008) := by
          have hh := hR.out
          refine ⟨hh.1.trans ((((hh.1.wr.drew.alloc _).set (by simpa using k1) k2 (by first | exact k3 | (rw [List.length_append] at k3; exact k3))).from (((Mods.refl noB wr).drew).alloc _))), by rw [← hh.2.1]; simp [be], by have := hh.2.2; simp; omega⟩
        clear hR k1 k2 k3 H1 F1 c f s1 s2 s3
        go_wp2
        go_roundw
        case rel => exact ⟨j, _, _, by omega, rfl, R1⟩
        case measure => simp [intOf]
def wput (e : Int) (xs ys : List UInt8) : List UInt8 := if e = 0 then xs ++ ys else xs
def WRes (w : World) (g : Nat) (v : Value) (xs : List UInt8) (e : Int) (r : Ending) (w' : World) : Prop := r = .returned (.tuple #[]) ∧ ∃ v', WStep w g v xs e w' v'
theorem wnum_any {w : World} {g : Nat} {v : Value} {xs : List UInt8} {e : Int} (n x : Nat) (h : Wr w g v xs e) (hn : n ≤ 8) (hx : x ≤ 18446744073709551615) (hl : xs.length ≤ 100000000000000) :
    Calls Try.prog 144 #[.pointer (some ⟨g, 0, none⟩), .int .u64 x, .int .i64 n] w (WRes w g v (wput e xs (be n x)) e) := by
  by_cases he : e = 0
  · subst he
    exact wnum_ok n x h hn hx hl
  · refine (wnum_err n x h he).mono ?_
    rintro r w' ⟨rfl, rfl⟩
    rw [wput, if_neg he]
    exact ⟨rfl, _, WStep.refl h⟩
theorem WU64_any {w : World} {g : Nat} {v : Value} {xs : List UInt8} {e : Int} (x : Nat) (h : Wr w g v xs e) (hx : x ≤ 18446744073709551615) (hl : xs.length ≤ 100000000000000) :
    Calls Try.prog 128 #[.pointer (some ⟨g, 0, none⟩), .int .u64 x] w (WRes w g v (wput e xs (be 8 x)) e) := by
  have H := Lib.hid h
  clear h
  go_enter Try.func128, Try.ntmps128
  go_wp2_with (go_at_call 144; refine (wnum_any 8 x H.out (by omega) (by omega) hl).mono ?_; rintro r w' ⟨rfl, hr⟩)
  go_end0
  exact ⟨rfl, hr⟩
end Go.Proofs.Ytglkmaalpammcaa

namespace Go.Proofs.Ytglkmaalpammcaa
open Go.Gl Go.RowKit
set_option linter.unusedVariables false
set_option maxRecDepth 100000
theorem fails_first {w : World} {g : Nat} {cur : Array Value} {t : TypeId} (c : Nat) (h : w.heap[g]? = some (.cells cur t (0, 0))) (h1 : cur[1]? = some (.int .i64 0)) :
    Calls Try.prog 133 #[.pointer (some ⟨g, 0, none⟩), .int .i64 c] w fun r w' => r = .returned (.tuple #[]) ∧ w' = w.setCell ⟨g, 1, none⟩ (.int .i64 c) := by
  have c1 := cells_of h 1
  have f1 := free_of h 1
  rw [h1] at c1
  clear h h1
  go_enter Try.func133, Try.ntmps133
  go_wp2
  go_end0
  exact ⟨rfl, rfl⟩
theorem fails_then {w : World} {g : Nat} {cur : Array Value} {t : TypeId} {e : Int} (c : Nat) (h : w.heap[g]? = some (.cells cur t (0, 0))) (h1 : cur[1]? = some (.int .i64 e)) (he : e ≠ 0) :
    Calls Try.prog 133 #[.pointer (some ⟨g, 0, none⟩), .int .i64 c] w fun r w' => r = .returned (.tuple #[]) ∧ w' = w := by
  have c1 := cells_of h 1
  rw [h1] at c1
  have hb : (e == 0) = false := by simp [he]
  clear h h1 he
  go_enter Try.func133, Try.ntmps133
  go_wp2
  go_end0
  exact ⟨rfl, rfl⟩
def wfail (e c : Int) : Int := if e = 0 then c else e
theorem Wr.fail {w : World} {g : Nat} {v : Value} {xs : List UInt8} (c : Nat) (h : Wr w g v xs 0) : WStep w g v xs c (w.setCell ⟨g, 1, none⟩ (.int .i64 c)) v :=
  ⟨⟨by have := heap_set h.heap 1 (.int .i64 c); simpa using this, h.own.keep ((Mods.refl (fun k => k = g) w).setCell (.inl rfl) _) (fun k hk e => h.apart (by rw [hk, e])), h.apart⟩, (Mods.refl (WS g v) w).setCell (.inl (.inl rfl)) _, .inl rfl⟩
theorem wout_ok {w : World} {g : Nat} {v : Value} {xs : List UInt8} (h : Wr w g v xs 0) (hl : xs.length ≤ 140737488355328) :
    Calls Try.prog 97 #[.pointer (some ⟨g, 0, none⟩)] w fun r w' => ∃ u, r = .returned (.tuple #[u, .int .i64 0]) ∧ Gl.Own w' u xs ∧ Mods noB w w' ∧ freshIn w u := by
  have H := Lib.hid h
  have c := cells_of h.heap
  clear h
  go_enter Try.func97, Try.ntmps97
  go_wp2_with (at_builtin; refine stop ?_)
  unfold Stop
  refine wpList_apb rfl rfl [] xs (Gl.Own.nil _) H.out.own.rd rfl rfl (by simpa using hl) ?_
  intro v' w' k1 k2 k3
  have R := Lib.hid (And.intro k1 (And.intro k2 k3))
  clear k1 k2 k3
  go_wp2
  go_ret2
  obtain ⟨k1, k2, k3⟩ := R.out
  exact ⟨v', rfl, k1, k2.mono (fun i _ x => (ofV_nil x).elim), by rcases k3 with k3 | k3; exact (fun k hk => by rw [k3] at hk; simp [Value.ownBlock] at hk); exact k3⟩
theorem wout_err {w : World} {g : Nat} {v : Value} {xs : List UInt8} {e : Int} (h : Wr w g v xs e) (he : e ≠ 0) :
    Calls Try.prog 97 #[.pointer (some ⟨g, 0, none⟩)] w fun r w' => r = .returned (.tuple #[.slice none 0 0, .int .i64 e]) ∧ Quiet w w' := by
  have c := cells_of h.heap
  have hb : (e != 0) = true := by simp [he]
  clear h he
  go_enter Try.func97, Try.ntmps97
  go_wp2
  go_quiet (fail)
  go_wp2
  go_ret2
  exact ⟨rfl, _, rfl⟩
def woutB (e : Int) (xs : List UInt8) : List UInt8 := if e = 0 then xs else []
def OutRes (w : World) (xs : List UInt8) (e : Int) (r : Ending) (w' : World) : Prop := ∃ u, r = .returned (.tuple #[u, .int .i64 e]) ∧ Gl.Own w' u (woutB e xs) ∧ Mods noB w w' ∧ freshIn w u
theorem WOut_any {w : World} {g : Nat} {v : Value} {xs : List UInt8} {e : Int} (h : Wr w g v xs e) (hl : xs.length ≤ 140737488355328) :
    Calls Try.prog 97 #[.pointer (some ⟨g, 0, none⟩)] w (OutRes w xs e) := by
  by_cases he : e = 0
  · subst he
    exact wout_ok h hl
  · refine (wout_err h he).mono ?_
    rintro r w' ⟨rfl, hq⟩
    exact ⟨_, rfl, by rw [woutB, if_neg he]; exact Gl.Own.nil _, hq.mods _, fun k hk => by simp [Value.ownBlock] at hk⟩
end Go.Proofs.Ytglkmaalpammcaa

namespace Go.Proofs.Ytglkmaalpammcaa
open Go.Gl Go.RowKit
set_option linter.unusedVariables false
theorem freshIn.nil (w : World) : freshIn w (.slice none 0 0) := fun k hk => by simp [Value.ownBlock] at hk
end Go.Proofs.Ytglkmaalpammcaa

namespace Go.Proofs.Ytglkmaalpammcaa
open Go.Gl Go.RowKit
set_option linter.unusedVariables false
end Go.Proofs.Ytglkmaalpammcaa

namespace Go.Gl
open Go.RowKit
def RdM {α : Type} (f : α → Value) (w : World) (v : Value) (xs : List α) : Prop := RdG w 1 v xs.length (xs.map f)
theorem RdM.nil {α : Type} (f : α → Value) (w : World) : RdM f w (.slice none 0 0) [] := ⟨rfl, .inl ⟨.nil, rfl⟩⟩
theorem RdM.form {α : Type} {f : α → Value} {w : World} {v : Value} {xs : List α} (h : RdM f w v xs) : ∃ a cap, v = .slice a xs.length cap ∧ xs.length ≤ maxLen := RdG.form h
theorem RdM.keep {α : Type} {f : α → Value} {S : Nat → Prop} {w w' : World} {v : Value} {xs : List α} (h : RdM f w v xs) (hm : Mods S w w') (hs : ∀ k, v.ownBlock = some k → ¬ S k) : RdM f w' v xs := RdG.keep h hm hs
theorem RdM.keepL {α : Type} {f : α → Value} {S : Nat → Prop} {w w' : World} {v : Value} {xs : List α} (h : RdM f w v xs) (hm : Mods S w w') (hs : ∀ k, k < w.heap.size → v.ownBlock = some k → ¬ S k) : RdM f w' v xs := RdG.keepL h hm hs
theorem RdM.open {α : Type} {f : α → Value} {w : World} {v : Value} {xs : List α} (h : RdM f w v xs) :
    (Nil0 v ∧ xs = []) ∨ ∃ g off cap, v = .slice (some ⟨g, off, none⟩) xs.length cap ∧ xs.length ≤ cap ∧ cap ≤ maxLen ∧ (xs.length = 0 ∨ g < w.heap.size) ∧ ∀ i (hi : i < xs.length), w.cell? ⟨g, off + i, none⟩ = some (f xs[i]) := by
  rcases h.2 with ⟨h0, hn⟩ | ⟨g, off, cap, hv, h1, h2, hg, h3⟩
  · exact .inl ⟨h0, List.eq_nil_of_length_eq_zero hn⟩
  · exact .inr ⟨g, off, cap, hv, h1, h2, hg, fun i hi => h3 i _ (by simp [hi])⟩
theorem rdM_of {α : Type} {f : α → Value} {w : World} {g off cap n : Nat} {xs : List α} (hn : xs.length = n) (h1 : n ≤ cap) (h2 : cap ≤ maxLen) (h3 : n = 0 ∨ g < w.heap.size) (h4 : ∀ i (hi : i < xs.length), w.cell? ⟨g, off + i, none⟩ = some (f xs[i])) : RdM f w (.slice (some ⟨g, off, none⟩) n cap) xs := by
  subst hn
  refine ⟨by simp, .inr ⟨g, off, cap, rfl, h1, h2, h3, fun j u hj => ?_⟩⟩
  have hj' : j < xs.length := by have := (List.getElem?_eq_some_iff.1 hj).1; simpa using this
  rw [List.getElem?_map, List.getElem?_eq_getElem hj'] at hj
  rw [h4 j hj']
  exact hj
abbrev u64 (n : Nat) : Value := .int .u64 n
abbrev RN (w : World) (v : Value) (ls : List Nat) : Prop := RdM u64 w v ls
def Lim (ls : List Nat) : Prop := ∀ x ∈ ls, x ≤ 18446744073709551615
end Go.Gl
namespace Go.Proofs.Ytglkmaalpammcaa
open Go.Gl Go.RowKit
set_option linter.unusedVariables false
end Go.Proofs.Ytglkmaalpammcaa

namespace Go.Gl
def dval (B : Nat) : List Nat → Nat
  | [] => 0
  | d :: ds => d + B * dval B ds
def strip : List Nat → List Nat
  | [] => []
  | d :: ds => if d = 0 ∧ strip ds = [] then [] else d :: strip ds
theorem strip_strip (ds : List Nat) : strip (strip ds) = strip ds := by
  induction ds with
  | nil => rfl
  | cons d ds ih =>
    by_cases h : d = 0 ∧ strip ds = []
    · rw [strip, if_pos h]; rfl
    · rw [strip, if_neg h, strip, ih, if_neg h]
theorem strip_length_le (ds : List Nat) : (strip ds).length ≤ ds.length := by
  induction ds with
  | nil => exact Nat.le_refl _
  | cons d ds ih =>
    unfold strip
    split
    · simp
    · simp only [List.length_cons]
      omega
theorem dval_strip (B : Nat) (ds : List Nat) : dval B (strip ds) = dval B ds := by
  induction ds with
  | nil => rfl
  | cons d ds ih =>
    unfold strip
    split
    · rename_i h
      have := ih
      rw [h.2] at this
      simp only [dval] at this ⊢
      rw [h.1, ← this]
      rfl
    · simp only [dval, ih]
theorem strip_mem {ds : List Nat} {x : Nat} (h : x ∈ strip ds) : x ∈ ds := by
  induction ds with
  | nil => exact h
  | cons d ds ih =>
    unfold strip at h
    split at h
    · cases h
    · rcases List.mem_cons.1 h with h | h
      · exact h ▸ List.mem_cons_self
      · exact List.mem_cons_of_mem _ (ih h)
theorem strip_zero {ds : List Nat} (h : ∀ x ∈ ds, x = 0) : strip ds = [] := by
  induction ds with
  | nil => rfl
  | cons d ds ih =>
    unfold strip
    rw [if_pos ⟨h d List.mem_cons_self, ih (fun x hx => h x (List.mem_cons_of_mem _ hx))⟩]
theorem dval_pos {B : Nat} (hB : 0 < B) {ds : List Nat} (h : strip ds ≠ []) : 0 < dval B ds := by
  induction ds with
  | nil => exact absurd rfl h
  | cons d ds ih =>
    unfold strip at h
    simp only [dval]
    by_cases hd : d = 0
    · have : strip ds ≠ [] := fun e => h (by rw [if_pos ⟨hd, e⟩])
      have := Nat.mul_pos hB (ih this)
      omega
    · omega
theorem digits_inj {B : Nat} (hB : 1 < B) : ∀ (ds es : List Nat), (∀ x ∈ ds, x < B) → (∀ x ∈ es, x < B) → strip ds = ds → strip es = es → dval B ds = dval B es → ds = es := by
  intro ds
  induction ds with
  | nil =>
    intro es _ _ _ h4 h5
    rcases es with _ | ⟨e, es⟩
    · rfl
    · exfalso
      have := dval_pos (B := B) (by omega) (ds := e :: es) (by rw [h4]; simp)
      simp only [dval] at h5 this
      omega
  | cons d ds ih =>
    intro es h1 h2 h3 h4 h5
    rcases es with _ | ⟨e, es⟩
    · exfalso
      have := dval_pos (B := B) (by omega) (ds := d :: ds) (by rw [h3]; simp)
      simp only [dval] at h5 this
      omega
    · have hd := h1 d List.mem_cons_self
      have he := h2 e List.mem_cons_self
      simp only [dval] at h5
      have e1 : d = e := by
        have := congrArg (· % B) h5
        simpa [Nat.add_mul_mod_self_left, Nat.mod_eq_of_lt hd, Nat.mod_eq_of_lt he] using this
      subst e1
      have e2 : dval B ds = dval B es := Nat.eq_of_mul_eq_mul_left (by omega) (Nat.add_left_cancel h5)
      have n1 : strip ds = ds := by
        unfold strip at h3
        split at h3
        · cases h3
        · exact (List.cons.inj h3).2
      have n2 : strip es = es := by
        unfold strip at h4
        split at h4
        · cases h4
        · exact (List.cons.inj h4).2
      rw [ih es (fun x hx => h1 x (List.mem_cons_of_mem _ hx)) (fun x hx => h2 x (List.mem_cons_of_mem _ hx)) n1 n2 e2]
theorem strip_inj {B : Nat} (hB : 1 < B) {ds es : List Nat} (h1 : ∀ x ∈ ds, x < B) (h2 : ∀ x ∈ es, x < B) (h : dval B ds = dval B es) : strip ds = strip es :=
  digits_inj hB _ _ (fun x hx => h1 x (strip_mem hx)) (fun x hx => h2 x (strip_mem hx)) (strip_strip _) (strip_strip _) (by rw [dval_strip, dval_strip, h])
theorem dval_append (B : Nat) (ds es : List Nat) : dval B (ds ++ es) = dval B ds + B ^ ds.length * dval B es := by
  induction ds with
  | nil => simp [dval]
  | cons d ds ih =>
    simp only [List.cons_append, dval, ih, List.length_cons, Nat.pow_succ, Nat.mul_add]
    rw [← Nat.mul_assoc, Nat.mul_comm B (B ^ ds.length), Nat.add_assoc]
theorem dval_lt {B : Nat} {ds : List Nat} (h : ∀ x ∈ ds, x < B) : dval B ds < B ^ ds.length := by
  induction ds with
  | nil => simp [dval]
  | cons d ds ih =>
    have h1 := h d List.mem_cons_self
    have h2 := ih (fun x hx => h x (List.mem_cons_of_mem _ hx))
    simp only [dval, List.length_cons, Nat.pow_succ]
    have h3 : B * (dval B ds + 1) ≤ B * B ^ ds.length := Nat.mul_le_mul_left _ h2
    rw [Nat.mul_add, Nat.mul_one] at h3
    rw [Nat.mul_comm (B ^ ds.length)]
    omega
def ldig (B : Nat) : Nat → Nat → List Nat
  | 0, _ => []
  | n + 1, x => x % B :: ldig B n (x / B)
theorem ldig_length (B n x : Nat) : (ldig B n x).length = n := by
  induction n generalizing x with
  | zero => rfl
  | succ n ih => simp [ldig, ih]
theorem ldig_lt {B : Nat} (hB : 0 < B) (n x : Nat) : ∀ d ∈ ldig B n x, d < B := by
  induction n generalizing x with
  | zero => intro d hd; cases hd
  | succ n ih =>
    intro d hd
    rcases List.mem_cons.1 hd with hd | hd
    · exact hd ▸ Nat.mod_lt _ hB
    · exact ih _ d hd
theorem dval_ldig {B : Nat} (n x : Nat) : dval B (ldig B n x) = x % B ^ n := by
  induction n generalizing x with
  | zero => simp [ldig, dval, Nat.mod_one]
  | succ n ih =>
    rw [ldig, dval, ih, Nat.pow_succ, Nat.mul_comm (B ^ n) B, Nat.mod_mul]
theorem ldig_get (B n x i : Nat) (h : i < n) : (ldig B n x)[i]? = some (x / B ^ i % B) := by
  induction n generalizing x i with
  | zero => omega
  | succ n ih =>
    rcases i with _ | i
    · simp [ldig]
    · rw [ldig, List.getElem?_cons_succ, ih _ _ (by omega), Nat.pow_succ, Nat.mul_comm (B ^ i) B, Nat.div_div_eq_div_mul]
def dig (B x : Nat) : List Nat := strip (ldig B x x)
theorem lt_pow_self {B : Nat} (hB : 1 < B) (x : Nat) : x < B ^ x := Nat.lt_pow_self hB
theorem dval_dig {B : Nat} (hB : 1 < B) (x : Nat) : dval B (dig B x) = x := by
  unfold dig
  rw [dval_strip, dval_ldig, Nat.mod_eq_of_lt (lt_pow_self hB x)]
theorem dig_lt {B : Nat} (hB : 1 < B) (x : Nat) : ∀ d ∈ dig B x, d < B := fun d hd => ldig_lt (by omega) _ _ d (strip_mem hd)
theorem strip_dig {B : Nat} (hB : 1 < B) {ds : List Nat} (h : ∀ x ∈ ds, x < B) : strip ds = dig B (dval B ds) := by
  rw [show dig B (dval B ds) = strip (dig B (dval B ds)) from (strip_strip _).symm]
  exact strip_inj hB h (dig_lt hB _) (dval_dig hB _).symm
theorem dig_ldig {B : Nat} (hB : 1 < B) {n x : Nat} (h : x < B ^ n) : dig B x = strip (ldig B n x) := by
  rw [strip_dig hB (ldig_lt (by omega) n x), dval_ldig, Nat.mod_eq_of_lt h]
theorem strip_last {ds : List Nat} {d : Nat} (h : d ≠ 0) : strip (ds ++ [d]) = ds ++ [d] := by
  induction ds with
  | nil => simp [strip, h]
  | cons e ds ih =>
    rw [List.cons_append, strip, ih, if_neg (by simp)]
end Go.Gl

namespace Go.Gl
theorem strip_append_zero (ds es : List Nat) (h : ∀ x ∈ es, x = 0) : strip (ds ++ es) = strip ds := by
  induction ds with
  | nil => exact strip_zero h
  | cons d ds ih => rw [List.cons_append, strip, ih, strip]
end Go.Gl
namespace Go.Proofs.Ytglkmaalpammcaa
open Go.Gl Go.RowKit
set_option linter.unusedVariables false
set_option maxRecDepth 100000
theorem RN.cells {w : World} {a : Option Addr} {n c : Nat} {ls : List Nat} (h : RN w (.slice a n c) ls) : ls.length = n ∧ n ≤ c ∧ c ≤ 9223372036854775807 ∧ (n = 0 ∨ ∃ g off, a = some ⟨g, off, none⟩ ∧ ∀ i (hi : i < ls.length), w.cell? ⟨g, off + i, none⟩ = some (u64 ls[i])) := by
  rcases RdM.open h with ⟨h1, rfl⟩ | ⟨g, off, cap, h1, h2, h3, h4, h5⟩
  · obtain ⟨rfl, rfl⟩ := h1.none
    exact ⟨rfl, Nat.le_refl _, by omega, .inl rfl⟩
  · cases h1
    exact ⟨rfl, h2, by simp only [maxLen] at h3; omega, .inr ⟨g, off, rfl, h5⟩⟩
theorem RN.take {w : World} {a : Option Addr} {n c : Nat} {ls : List Nat} (h : RN w (.slice a n c) ls) (k c' : Nat) (hk : k ≤ n) (hc : k ≤ c') (hc' : c' ≤ maxLen) (hnil : n = 0 → c = 0 → c' = 0) : RN w (.slice a k c') (ls.take k) := by
  rcases RdM.open h with ⟨h1, rfl⟩ | ⟨g, off, cap, h1, h2, h3, h4, h5⟩
  · obtain ⟨rfl, rfl⟩ := h1.none
    obtain rfl : k = 0 := by omega
    rw [hnil rfl rfl]
    exact ⟨rfl, .inl ⟨h1, rfl⟩⟩
  · cases h1
    refine rdM_of (by rw [List.length_take]; omega) hc hc' (h4.imp (fun x => by omega) id) (fun i hi => ?_)
    rw [List.getElem_take]
    exact h5 i (by rw [List.length_take] at hi; omega)
end Go.Proofs.Ytglkmaalpammcaa

namespace Go.Proofs.Ytglkmaalpammcaa
open Go.Shelf
end Go.Proofs.Ytglkmaalpammcaa

namespace Go.Gl
theorem dval_snoc (B : Nat) (ds : List Nat) (d : Nat) : dval B (ds ++ [d]) = dval B ds + B ^ ds.length * d := by
  rw [dval_append]; simp [dval]
def blen (N : Nat) : Nat := (dig 256 N).length
def natB (N : Nat) : List UInt8 := be (blen N) N
theorem dig_len {B n N : Nat} (hB : 1 < B) (h1 : N < B ^ (n + 1)) (h2 : B ^ n ≤ N) : (dig B N).length = n + 1 := by
  have hp : 0 < B ^ n := Nat.pow_pos (by omega)
  have hq : N / B ^ n % B ≠ 0 := by
    have h3 : 1 ≤ N / B ^ n := (Nat.one_le_div_iff hp).2 h2
    have h4 : N / B ^ n < B := Nat.div_lt_of_lt_mul (by rw [Nat.pow_succ] at h1; exact h1)
    rw [Nat.mod_eq_of_lt h4]
    omega
  have h5 : ldig B (n + 1) N = (ldig B (n + 1) N).take n ++ [N / B ^ n % B] := by
    have hl := ldig_length B (n + 1) N
    have hg := ldig_get B (n + 1) N n (by omega)
    have hlt : n < (ldig B (n + 1) N).length := by omega
    rw [List.getElem?_eq_getElem hlt] at hg
    have := List.take_succ_eq_append_getElem hlt
    rw [List.take_of_length_le (by omega), Option.some.inj hg] at this
    exact this
  rw [dig_ldig hB h1, h5, strip_last hq]
  simp [ldig_length]
end Go.Gl
namespace Go.Proofs.Ytglkmaalpammcaa
open Go.Gl Go.RowKit
set_option linter.unusedVariables false
set_option maxRecDepth 100000
end Go.Proofs.Ytglkmaalpammcaa

namespace Go.Gl
end Go.Gl
namespace Go.Proofs.Ytglkmaalpammcaa
open Go.Gl Go.RowKit
set_option linter.unusedVariables false
set_option maxRecDepth 100000
end Go.Proofs.Ytglkmaalpammcaa

namespace Go.Proofs.Ytglkmaalpammcaa
open Go.Gl Go.RowKit
set_option linter.unusedVariables false
set_option maxRecDepth 100000
def natL (N : Nat) : List UInt8 := be 1 (blen N) ++ natB N
theorem natB_length (N : Nat) : (natB N).length = blen N := be_length _ _
theorem Wr.then0 {w wy : World} {g : Nat} {v : Value} {xs : List UInt8} {e : Int} (h : Wr w g v xs e) (hm : Mods noB w wy) : Wr wy g v xs e :=
  ⟨hm.heap h.heap (fun x => x), h.own.keep hm (fun _ _ x => x), h.apart⟩
end Go.Proofs.Ytglkmaalpammcaa

namespace Go.Proofs.Ytglkmaalpammcaa
open Go.Gl Go.RowKit
set_option linter.unusedVariables false
theorem num_take (xs : List UInt8) (k : Nat) (h : k < xs.length) : num (xs.take (k + 1)) = num (xs.take k) * 256 + (xs[k]).toNat := by
  rw [List.take_succ_eq_append_getElem h, num_snoc]
theorem num_take_lt (xs : List UInt8) (k : Nat) (hx : xs.length ≤ 8) (h : k < xs.length) : num (xs.take k) < 72057594037927936 := by
  have := num_lt (xs.take k)
  have h1 : (xs.take k).length ≤ 7 := by rw [List.length_take]; omega
  have h2 : 256 ^ (xs.take k).length ≤ 256 ^ 7 := Nat.pow_le_pow_right (by decide) h1
  have h3 : (256 : Nat) ^ 7 = 72057594037927936 := by decide
  omega
end Go.Proofs.Ytglkmaalpammcaa

namespace Go.Proofs.Ytglkmaalpammcaa
open Go.Gl Go.RowKit
set_option linter.unusedVariables false
theorem Mods.one (w : World) (g o : Nat) (u : Value) : Mods (fun k => k = g) w (w.setCell ⟨g, o, none⟩ u) := (Mods.refl (fun k => k = g) w).setCell (.inl (by rfl)) u
theorem Rd.drop {w : World} {g off n cap : Nat} {xs : List UInt8} (h : Rd w (.slice (some ⟨g, off, none⟩) xs.length cap) xs) (hn : n ≤ xs.length) : Rd w (.slice (if cap = n then some ⟨g, off, none⟩ else some ⟨g, off + n, none⟩) (xs.length - n) (cap - n)) (xs.drop n) := by
  rcases h.open with ⟨h1, _⟩ | ⟨g', off', cap', h1, h2, h3, h4, h5⟩
  · exact h1.no.elim
  · cases h1
    by_cases hc : cap = n
    · rw [if_pos hc]
      obtain rfl : n = xs.length := by omega
      rw [List.drop_length, Nat.sub_self]
      exact ⟨rfl, .inr ⟨g, off, _, rfl, Nat.zero_le _, by omega, .inl rfl, fun j u hj => by simp [bv] at hj⟩⟩
    · rw [if_neg hc]
      refine ⟨by rw [bv_length, Nat.mul_one], .inr ⟨_, _, _, by rw [List.length_drop], by rw [List.length_drop]; omega, by omega, h4.imp (fun x => by rw [List.length_drop]; omega) id, fun j u hj => ?_⟩⟩
      have hj' : j < (xs.drop n).length := by have := (List.getElem?_eq_some_iff.1 hj).1; simpa [bv_length] using this
      rw [bv_get _ j hj'] at hj
      rw [← hj, Nat.add_assoc, h5 (n + j) (by rw [List.length_drop] at hj'; omega)]
      simp
end Go.Proofs.Ytglkmaalpammcaa

namespace Go.Proofs.Ytglkmaalpammcaa
open Go.Gl Go.RowKit
set_option linter.unusedVariables false
set_option maxRecDepth 100000
structure Rr (w : World) (g : Nat) (v : Value) (xs : List UInt8) (e : Int) : Prop where
  heap : w.heap[g]? = some (.cells #[v, .int .i64 e] 206 (0, 0))
  rd : Rd w v xs
  apart : v.ownBlock ≠ some g
  blt : ∀ k, v.ownBlock = some k → k < w.heap.size
structure RStp (w : World) (g : Nat) (v : Value) (xs : List UInt8) (e : Int) (w' : World) (v' : Value) : Prop where
  rr : Rr w' g v' xs e
  mods : Mods (fun k => k = g) w w'
  blk : ∀ k, v'.ownBlock = some k → v.ownBlock = some k
theorem Rr.lt {w : World} {g : Nat} {v : Value} {xs : List UInt8} {e : Int} (h : Rr w g v xs e) : g < w.heap.size := lt_of_heap h.heap
theorem Rr.keep {S : Nat → Prop} {w w' : World} {g : Nat} {v : Value} {xs : List UInt8} {e : Int} (h : Rr w g v xs e) (hm : Mods S w w') (hg : ¬ S g) (hv : ∀ k, v.ownBlock = some k → ¬ S k) : Rr w' g v xs e :=
  ⟨hm.heap h.heap hg, h.rd.keep hm hv, h.apart, fun k hk => Nat.lt_of_lt_of_le (h.blt k hk) hm.size⟩
theorem RStp.refl {w : World} {g : Nat} {v : Value} {xs : List UInt8} {e : Int} (h : Rr w g v xs e) : RStp w g v xs e w v := ⟨h, Mods.refl _ _, fun _ x => x⟩
theorem RStp.trans {w w1 w2 : World} {g : Nat} {v v1 v2 : Value} {xs ys : List UInt8} {e e' : Int} (h : RStp w g v xs e w1 v1) (k : RStp w1 g v1 ys e' w2 v2) : RStp w g v ys e' w2 v2 :=
  ⟨k.rr, h.mods.trans k.mods (fun _ _ x => x) (fun _ _ x => x), fun i hi => h.blk i (k.blk i hi)⟩
theorem Rr.fail {w : World} {g : Nat} {v : Value} {xs : List UInt8} (c : Nat) (h : Rr w g v xs 0) : RStp w g v xs c (w.setCell ⟨g, 1, none⟩ (.int .i64 c)) v :=
  ⟨⟨by have := heap_set h.heap 1 (.int .i64 c); simpa using this, h.rd.keep (Mods.one _ _ _ _) (fun k hk e => h.apart (by rw [hk, e])), h.apart, fun k hk => by have := h.blt k hk; simpa [World.setCell] using this⟩, Mods.one _ _ _ _, fun _ x => x⟩
theorem Rr.set {w : World} {g gb off off' ca ca' n m : Nat} {xs ys : List UInt8} {e : Int} (h : Rr w g (.slice (some ⟨gb, off, none⟩) n ca) xs e) (hr : Rd w (.slice (some ⟨gb, off', none⟩) m ca') ys) :
    RStp w g (.slice (some ⟨gb, off, none⟩) n ca) ys e (w.setCell ⟨g, 0, none⟩ (.slice (some ⟨gb, off', none⟩) m ca')) (.slice (some ⟨gb, off', none⟩) m ca') := by
  have hne : gb ≠ g := fun e => h.apart (by rw [e]; rfl)
  refine ⟨⟨?_, hr.keep (Mods.one _ _ _ _) (fun k hk e => ?_), fun e => ?_, fun k hk => by have := h.blt k hk; simpa [World.setCell] using this⟩, Mods.one _ _ _ _, fun k hk => by simpa [Value.ownBlock] using hk⟩
  · have := heap_set h.heap 0 (.slice (some ⟨gb, off', none⟩) m ca')
    simpa using this
  · simp [Value.ownBlock] at hk; omega
  · simp [Value.ownBlock] at e; omega
def RRes (u : Value) (w : World) (g : Nat) (v : Value) (xs : List UInt8) (e : Int) (r : Ending) (w' : World) : Prop := r = .returned u ∧ ∃ v', RStp w g v xs e w' v'
theorem rfails_any {w : World} {g : Nat} {v : Value} {xs : List UInt8} {e : Int} (c : Nat) (h : Rr w g v xs e) :
    Calls Try.prog 133 #[.pointer (some ⟨g, 0, none⟩), .int .i64 c] w (RRes (.tuple #[]) w g v xs (wfail e c)) := by
  by_cases he : e = 0
  · subst he
    refine (fails_first c h.heap rfl).mono ?_
    rintro r w' ⟨rfl, rfl⟩
    exact ⟨rfl, _, h.fail c⟩
  · refine (fails_then c h.heap rfl he).mono ?_
    rintro r w' ⟨rfl, rfl⟩
    rw [wfail, if_neg he]
    exact ⟨rfl, _, RStp.refl h⟩
theorem NewReader_any {w : World} {u : Value} {xs : List UInt8} (hu : Rd w u xs) (hl : xs.length ≤ 140737488355328) :
    Calls Try.prog 105 #[u] w fun r w' => ∃ g v, r = .returned (.pointer (some ⟨g, 0, none⟩)) ∧ Rr w' g v xs 0 ∧ Mods noB w w' ∧ w.heap.size ≤ g ∧ freshIn w v := by
  have H := Lib.hid hu
  clear hu
  go_enter Try.func105, Try.ntmps105
  go_wp2_with (at_builtin; refine stop ?_)
  unfold Stop
  refine wpList_apb rfl rfl [] xs (Gl.Own.nil _) H.out rfl rfl (by simpa using hl) ?_
  intro v' w' k1 k2 k3
  have hm : Mods noB w w' := k2.mono (fun i _ x => (ofV_nil x).elim)
  have hf : freshIn w v' := by rcases k3 with k3 | k3; exact (fun k hk => by rw [k3] at hk; simp [Value.ownBlock] at hk); exact k3
  obtain ⟨a', c', rfl, hc'⟩ := k1.rd.form
  have R := Lib.hid (And.intro k1 (And.intro hm hf))
  clear k1 k2 k3 hm hf
  go_wp2
  go_ret
  obtain ⟨k1, k2, k3⟩ := R.out
  refine ⟨_, _, rfl, ⟨heap_new _ _, k1.rd.alloc _, fun e => ?_, fun k hk => by have := k1.lt k hk; simp; omega⟩, k2.alloc _, k2.size, k3⟩
  have := k1.lt _ e
  omega
def rtake (n : Nat) (xs : List UInt8) (e : Int) : Nat := if e = 0 then (if n ≤ xs.length then num (xs.take n) else 0) else 0
def rok (n : Nat) (xs : List UInt8) (e : Int) : Bool := decide (e = 0) && decide (n ≤ xs.length)
def rerr (n : Nat) (xs : List UInt8) (e : Int) : Int := if e = 0 then (if n ≤ xs.length then 0 else 40) else e
def rleft (n : Nat) (xs : List UInt8) (e : Int) : List UInt8 := if e = 0 then (if n ≤ xs.length then xs.drop n else xs) else xs
theorem peek_err {w : World} {g : Nat} {v : Value} {xs : List UInt8} {e : Int} (n : Nat) (h : Rr w g v xs e) (he : e ≠ 0) :
    Calls Try.prog 150 #[.pointer (some ⟨g, 0, none⟩), .int .i64 n] w fun r w' => r = .returned (.tuple #[.int .u64 0, .bool false]) ∧ w' = w := by
  have c := cells_of h.heap
  have hb : (e == 0) = false := by simp [he]
  have hb2 : (e != 0) = true := by simp [he]
  clear h he
  go_enter Try.func150, Try.ntmps150
  go_wp2
  go_ret2
  exact ⟨rfl, rfl⟩
theorem peek_short {w : World} {g : Nat} {v : Value} {xs : List UInt8} (n : Nat) (h : Rr w g v xs 0) (hn : xs.length < n) (hm : n ≤ 9223372036854775807) :
    Calls Try.prog 150 #[.pointer (some ⟨g, 0, none⟩), .int .i64 n] w (RRes (.tuple #[.int .u64 0, .bool false]) w g v xs 40) := by
  obtain ⟨a, ca, rfl, h1⟩ := h.rd.form
  have c := cells_of h.heap
  have f := free_of h.heap
  have R := Lib.hid h
  clear h
  generalize hx : xs.length = len at *
  have HX := Lib.hid hx
  clear hx h1
  go_enter Try.func150, Try.ntmps150
  go_wp2_with fail
  refine (rfails_any 40 R.out).mono ?_
  rintro r w1 ⟨rfl, v1, hs⟩
  have c' := cells_of hs.rr.heap
  have HS := Lib.hid hs
  clear hs
  go_wp2
  go_ret2
  exact ⟨rfl, _, HS.out⟩
end Go.Proofs.Ytglkmaalpammcaa

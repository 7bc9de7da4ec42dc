/- Rows that are owned, of elements of any size: copy into them, append of zeros, clear. -/
import Derived.Test.YtjlomnhngngkiaaZA
import Derived.Lib.AppendZerosOnto
import Derived.Lib.SliceRun
import Derived.Laws.IdiomCopy
namespace Go.Gl
open Go.RowKit
set_option linter.unusedVariables false

theorem spl_size (l : List Value) : ∀ (c : Array Value) (o : Nat), (spl c o l).size = c.size := by
  induction l with
  | nil => intro c o; rfl
  | cons u l ih => intro c o; show (spl (c.setIfInBounds o u) (o + 1) l).size = _; rw [ih]; simp
theorem spl_get (l : List Value) : ∀ (c : Array Value) (o : Nat), o + l.length ≤ c.size → ∀ j, (spl c o l)[j]? = if o ≤ j ∧ j < o + l.length then l[j - o]? else c[j]? := by
  induction l with
  | nil => intro c o _ j; rw [if_neg (by simp only [List.length_nil]; omega)]; rfl
  | cons u l ih =>
    intro c o h j
    simp only [List.length_cons] at h ⊢
    show (spl (c.setIfInBounds o u) (o + 1) l)[j]? = _
    rw [ih _ _ (by simp; omega)]
    by_cases h1 : o + 1 ≤ j ∧ j < o + 1 + l.length
    · rw [if_pos h1, if_pos (by omega)]
      obtain ⟨k, rfl⟩ : ∃ k, j = o + 1 + k := ⟨j - (o + 1), by omega⟩
      rw [show o + 1 + k - (o + 1) = k from by omega, show o + 1 + k - o = k + 1 from by omega, List.getElem?_cons_succ]
    · rw [if_neg h1]
      by_cases h2 : j = o
      · subst h2
        rw [if_pos (by omega), Nat.sub_self, List.getElem?_cons_zero, Array.getElem?_setIfInBounds_self_of_lt (by omega)]
      · rw [if_neg (by omega), Array.getElem?_setIfInBounds_ne (by omega)]

/-- an owned row that has an address, opened -/
structure OB (w : World) (e : TypeId) (s g off n cap : Nat) (xs : List Value) : Prop where
  hl : xs.length = n * s
  hn : n ≤ cap
  hc : cap ≤ maxLen
  row : ∃ cur, w.heap[g]? = some (.cells cur e (0, 0)) ∧ off + cap * s ≤ cur.size ∧ ∀ j u, xs[j]? = some u → cur[off + j]? = some u

theorem OB.own {w : World} {e : TypeId} {s g off n cap : Nat} {xs : List Value} (h : OB w e s g off n cap xs) : OwnG w e s (.slice (some ⟨g, off, none⟩) n cap) n xs := by
  obtain ⟨cur, h1, h2, h3⟩ := h.row
  exact ⟨h.hl, .inr ⟨g, off, cap, cur, rfl, h1, h.hn, h.hc, h2, h3⟩⟩
theorem OwnG.ob {w : World} {e : TypeId} {s n : Nat} {v : Value} {xs : List Value} (h : OwnG w e s v n xs) : (v = .slice none 0 0 ∧ n = 0 ∧ xs = []) ∨ ∃ g off cap, v = .slice (some ⟨g, off, none⟩) n cap ∧ OB w e s g off n cap xs := by
  rcases h.2 with ⟨h0, hn⟩ | ⟨g, off, cap, cur, hv, h1, h2, h3, h4, h5⟩
  · exact .inl ⟨h0, hn, List.eq_nil_of_length_eq_zero (by rw [h.1, hn, Nat.zero_mul])⟩
  · exact .inr ⟨g, off, cap, hv, h.1, h2, h3, cur, h1, h4, h5⟩
theorem OB.lt {w : World} {e : TypeId} {s g off n cap : Nat} {xs : List Value} (h : OB w e s g off n cap xs) : g < w.heap.size := by
  obtain ⟨cur, h1, _⟩ := h.row
  exact lt_of_heap h1
theorem OB.cell {w : World} {e : TypeId} {s g off n cap : Nat} {xs : List Value} (h : OB w e s g off n cap xs) {j : Nat} {u : Value} (hj : xs[j]? = some u) : w.cell? ⟨g, off + j, none⟩ = some u := by
  obtain ⟨cur, h1, h2, h3⟩ := h.row
  exact (cells_of h1 _).trans (h3 j u hj)
theorem OB.there {w : World} {e : TypeId} {s g off n cap : Nat} {xs : List Value} (h : OB w e s g off n cap xs) {j : Nat} (hj : j < cap * s) : (w.cell? ⟨g, off + j, none⟩).isSome = true := by
  obtain ⟨cur, h1, h2, h3⟩ := h.row
  rw [cells_of h1, Array.getElem?_eq_getElem (by omega)]
  rfl
theorem OB.free {w : World} {e : TypeId} {s g off n cap : Nat} {xs : List Value} (h : OB w e s g off n cap xs) (o : Nat) : w.frozen? ⟨g, o, none⟩ = false := by
  obtain ⟨cur, h1, _⟩ := h.row
  exact free_of h1 o
theorem OB.keep {w w' : World} {e : TypeId} {s g off n cap : Nat} {xs : List Value} {T : Nat → Prop} (h : OB w e s g off n cap xs) (hm : Mods T w w') (ht : ¬ T g) : OB w' e s g off n cap xs := by
  obtain ⟨cur, h1, h2, h3⟩ := h.row
  exact ⟨h.hl, h.hn, h.hc, cur, hm.heap h1 ht, h2, h3⟩
/-- cells ys laid down at place lo (counted in cells) -/
theorem OB.set {w : World} {e : TypeId} {s g off n cap : Nat} {xs : List Value} (h : OB w e s g off n cap xs) (lo : Nat) (ys : List Value) (hle : lo + ys.length ≤ cap * s) (m : Nat) (zs : List Value) (hm : m ≤ cap) (hz : zs.length = m * s)
    (hzs : ∀ j u, zs[j]? = some u → if lo ≤ j ∧ j < lo + ys.length then ys[j - lo]? = some u else xs[j]? = some u) : OB (w.setCells g (off + lo) ys) e s g off m cap zs := by
  obtain ⟨cur, h1, h2, h3⟩ := h.row
  refine ⟨hz, hm, h.hc, spl cur (off + lo) ys, (heap_spl ys cur (off + lo) w h1).1, by rw [spl_size]; exact h2, fun j u hj => ?_⟩
  rw [spl_get _ _ _ (by omega)]
  have := hzs j u hj
  by_cases hc : lo ≤ j ∧ j < lo + ys.length
  · rw [if_pos hc] at this
    rw [if_pos (by omega), show off + j - (off + lo) = j - lo from by omega]
    exact this
  · rw [if_neg hc] at this
    rw [if_neg (by omega)]
    exact h3 j u this
theorem setCells_mods (w : World) (g o : Nat) (ys : List Value) : Mods (fun k => k = g) w (w.setCells g o ys) := (Mods.refl (fun k => k = g) w).setCells (.inl rfl) ys

section
variable {P : Program}
/-- copy, elements of any size -/
theorem run_copy_many (w : World) (dT sT ty elem : TypeId) (i : TypeInfo) (b o dLen dCap : Nat) (a : Addr) (sLen sCap k : Nat) (cs : List Value)
    (hu : P.underlying dT = some (.slice elem)) (hi : P.info? elem = some i) (hk : Nat.min sLen dLen = k) (hn : cs.length = k * i.size)
    (hsrc : ∀ j v, cs[j]? = some v → w.cell? (a.add j) = some v) (hc : ∀ j, j < cs.length → (w.cell? ⟨b, o + j, none⟩).isSome = true) (hf : ∀ j, j < cs.length → w.frozen? ⟨b, o + j, none⟩ = false) (h1 : ∀ v ∈ cs, v.oneCell' = true) :
    (Builtin.copy_ #[dT, sT] ty #[.slice (some ⟨b, o, none⟩) dLen dCap, .slice (some a) sLen sCap]).run P w = .ok (goInt k) (w.setCells b o cs) := by
  have hl := run_loadCells_list (P := P) w a cs hsrc
  have hst := run_storeCells_cells (P := P) b o cs 0 w (by simpa using hc) (by simpa using hf) h1
  rw [hn] at hl
  simp [Builtin.copy_, run_underlying hu, Builtin.lenOf, Builtin.firstCells, sizeOf, typeInfo, hi, hk, hl, hst]

theorem wpList_copyR {ops : Array Oper} {rest : List Oper} {o : Oper} {a : Act} {w : World} {Q : Exit → Act → World → Prop} {d s : Operand} {t t' : TypeId} {v u v' : Value} {w' : World} (hgd : o.guard = none)
    (ho : o.op = .call { callee := .builtin .copy, args := #[d, s], argTypes := #[t, t'] }) (hd : a.eval d = v) (hs : a.eval s = u)
    (hr : (Builtin.copy_ #[t, t'] o.type #[v, u]).run P w = .ok v' w') (h : wpList P ops Q rest (a.put o.dst v') w') : wpList P ops Q (o :: rest) a w := by
  refine wpList_plain hgd fun K hK => ?_
  unfold Oper.wp execOp
  simp only [ho, resolve, invoke, builtin, Sem.run_bind, Sem.run_pure, Result.andThen_ok, List.map_toArray, List.map_cons, List.map_nil, hd, hs, hr]
  exact hK _ _ h
theorem wpList_clearR {ops : Array Oper} {rest : List Oper} {o : Oper} {a : Act} {w : World} {Q : Exit → Act → World → Prop} {d : Operand} {t : TypeId} {v v' : Value} {w' : World} (hgd : o.guard = none)
    (ho : o.op = .call { callee := .builtin .clear, args := #[d], argTypes := #[t] }) (hd : a.eval d = v)
    (hr : (Builtin.clear_ #[t] o.type #[v]).run P w = .ok v' w') (h : wpList P ops Q rest (a.put o.dst v') w') : wpList P ops Q (o :: rest) a w := by
  refine wpList_plain hgd fun K hK => ?_
  unfold Oper.wp execOp
  simp only [ho, resolve, invoke, builtin, Sem.run_bind, Sem.run_pure, Result.andThen_ok, List.map_toArray, List.map_cons, List.map_nil, hd, hr]
  exact hK _ _ h
/-- clear -/
theorem run_clear_many (w : World) (t e ty : TypeId) (z : Value) (ht : P.underlying t = some (.slice e)) (hv : ∀ w, (zeroValue e).run P w = .ok z w) (b o n c : Nat) (hn : 0 < n) (zs : List Value) (hz : (Builtin.zeroCells z.cells n).toList = zs) (h1 : ∀ v ∈ zs, v.oneCell' = true)
    (hc : ∀ j, j < zs.length → (w.cell? ⟨b, o + j, none⟩).isSome = true) (hf : ∀ j, j < zs.length → w.frozen? ⟨b, o + j, none⟩ = false) :
    (Builtin.clear_ #[t] ty #[.slice (some ⟨b, o, none⟩) n c]).run P w = .ok (.tuple #[]) (w.setCells b o zs) := by
  have hst := run_storeCells_cells (P := P) b o zs 0 w (by simpa using hc) (by simpa using hf) h1
  simp only [Nat.add_zero] at hst
  obtain ⟨m, rfl⟩ : ∃ m, n = m + 1 := ⟨n - 1, by omega⟩
  simp [Builtin.clear_, run_underlying ht, hv, hz, hst]
end
end Go.Gl

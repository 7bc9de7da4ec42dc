/- append on owned slices: what it leaves of the slice itself. -/
import Derived.Test.YtebknplbghcemaaBase2
namespace Go.Gl
open Go.RowKit

/-- 'append(s, x...)', s owned, x read: whichever way it goes; s itself reads as before. -/
theorem run_apk {P : Program} {w : World} (t tx ty e e' : TypeId) (i : TypeInfo) (z : Value) (ht : P.underlying t = some (.slice e)) (htx : P.underlying tx = some (.slice e')) (hi : P.info? e = some i) (hz : i.zero = some z) (hzs : z.cells.size = i.size)
    {v : Value} {n : Nat} {xs : List Value} (hown : OwnG w e i.size v n xs) {u : Value} {m : Nat} {ys : List Value} (hrd : RdG w i.size u m ys) (h1 : ∀ y ∈ ys, y.oneCell' = true) (hlen : n + m ≤ maxLen) (hb : (n + m) * i.bytes ≤ 140737488355328) :
    ∃ v' w', (Builtin.append_ #[t, tx] ty #[v, u]).run P w = .ok v' w' ∧ OwnG w' e i.size v' (n + m) (xs ++ ys) ∧ Mods (ofV v) w w' ∧ (v'.ownBlock = v.ownBlock ∨ freshIn w v') ∧ OwnG w' e i.size v n xs := by
  have hlen' : (xs ++ ys).length = (n + m) * i.size := by rw [List.length_append, hown.1, hrd.1, Nat.add_mul]
  have hs := hrd.src (P := P) h1 htx
  have grow : ∀ (base : Option Addr) (sCap : Nat), v = .slice base n sCap → sCap < n + m → (Builtin.firstCells i.size n (.slice base n sCap)).run P w.drew = .ok xs.toArray w.drew →
      ∃ v' w', (Builtin.append_ #[t, tx] ty #[v, u]).run P w = .ok v' w' ∧ OwnG w' e i.size v' (n + m) (xs ++ ys) ∧ Mods (ofV v) w w' ∧ (v'.ownBlock = v.ownBlock ∨ freshIn w v') ∧ OwnG w' e i.size v n xs := by
    intro base sCap hv hg hold
    subst hv
    have hge := grownCap_ge w (n + m) sCap e
    refine ⟨_, _, run_append_grow_src w t tx ty e i z ht hi hz base n sCap xs hold u m ys hs hg (by simp only [maxLen] at hlen; omega) (growslice_fits hg hb), ⟨hlen', .inr ⟨w.heap.size, 0, _, _, rfl, heap_alloc_new w.drew _, hge, grownCap_le_maxLen w _ _ e hlen, ?_, ?_⟩⟩, ((Mods.refl _ w).drew).alloc _, .inr ?_, hown.keep (((Mods.refl noB w).drew).alloc _) (fun _ _ x => x)⟩
    · simp only [Array.size_append, List.size_toArray, size_zeroCells, hzs, hlen', ← Nat.add_mul]
      rw [Nat.zero_add]
      exact Nat.mul_le_mul_right _ (by omega)
    · intro j x hj
      have hjl : j < (xs ++ ys).length := (List.getElem?_eq_some_iff.1 hj).1
      rw [Nat.zero_add, Array.getElem?_append_left (by simpa using hjl)]
      simpa using hj
    · intro k hk
      simp [Value.ownBlock] at hk
      omega
  rcases hown.2 with ⟨hv, rfl⟩ | ⟨g, off, cap, cur, rfl, hg, h3, h4, h5, h6⟩
  · obtain rfl : xs = [] := List.eq_nil_of_length_eq_zero (by simpa using hown.1)
    by_cases hm : m = 0
    · subst hm
      obtain rfl : ys = [] := List.eq_nil_of_length_eq_zero (by simpa using hrd.1)
      subst hv
      refine ⟨.slice none 0 0, w, ?_, ⟨by simp, .inl ⟨rfl, rfl⟩⟩, Mods.refl _ _, .inl rfl, ⟨by simp, .inl ⟨rfl, rfl⟩⟩⟩
      simp [Builtin.append_, run_underlying ht, run_underlying htx, sizeOf, typeInfo, hi, hs.len, hs.cells]
    · exact grow none 0 hv (by omega) (run_firstCells_none w.drew i.size 0 0 0)
  · by_cases hroom : n + m ≤ cap
    · have hmul : (n + m) * i.size ≤ cap * i.size := Nat.mul_le_mul_right _ hroom
      have hnm : (n + m) * i.size = n * i.size + ys.length := by rw [Nat.add_mul, hrd.1]
      have hr := run_append_room_src (P := P) w t tx ty e i ht hi g off n cap u m ys hs hroom
        (fun j hj => by rw [cells_of hg, Array.getElem?_eq_getElem (by omega)]; rfl) (fun j hj => free_of hg _)
      have hset : ∀ (l : List Value) (c : Array Value) (o : Nat) (w1 : World), w1.heap[g]? = some (.cells c e (0, 0)) → o + l.length ≤ c.size →
          ∃ c', (w1.setCells g o l).heap[g]? = some (.cells c' e (0, 0)) ∧ c'.size = c.size ∧ (∀ j, j < o → c'[j]? = c[j]?) ∧ (∀ j, j < l.length → c'[o + j]? = l[j]?) := by
        intro l
        induction l with
        | nil => intro c o w1 h _; exact ⟨c, h, rfl, fun _ _ => rfl, fun j hj => by simp at hj⟩
        | cons x l ih =>
          intro c o w1 h hl
          simp only [List.length_cons] at hl
          obtain ⟨c', h1', h2', h3', h4'⟩ := ih (c.setIfInBounds o x) (o + 1) (w1.setCell ⟨g, o, none⟩ x) (heap_set h o x) (by simp; omega)
          refine ⟨c', h1', by simpa using h2', fun j hj => ?_, fun j hj => ?_⟩
          · rw [h3' j (by omega), Array.getElem?_setIfInBounds_ne (by omega)]
          · rcases j with _ | j
            · rw [Nat.add_zero, h3' o (by omega)]
              simp [show o < c.size from by omega]
            · have := h4' j (by simpa using hj)
              rw [show o + (j + 1) = o + 1 + j from by omega, this]
              simp
      obtain ⟨c', k1, k2, k3, k4⟩ := hset ys cur (off + n * i.size) w hg (by omega)
      refine ⟨_, _, hr, ⟨hlen', .inr ⟨g, off, cap, c', rfl, k1, hroom, h4, by omega, ?_⟩⟩, (Mods.refl (ofV (.slice (some ⟨g, off, none⟩) n cap)) w).setCells (.inl (by rfl)) ys, .inl rfl, ⟨hown.1, .inr ⟨g, off, cap, c', rfl, k1, h3, h4, by omega, fun j x hj => ?_⟩⟩⟩
      · intro j x hj
        by_cases hjn : j < xs.length
        · rw [List.getElem?_append_left hjn] at hj
          rw [k3 _ (by have := hown.1; omega)]
          exact h6 j x hj
        · rw [List.getElem?_append_right (by omega)] at hj
          have hjy : j - xs.length < ys.length := (List.getElem?_eq_some_iff.1 hj).1
          have := k4 (j - xs.length) hjy
          rw [show off + n * i.size + (j - xs.length) = off + j from by have := hown.1; omega] at this
          rw [this]
          exact hj
      · have hjl := (List.getElem?_eq_some_iff.1 hj).1
        rw [k3 _ (by have := hown.1; omega)]
        exact h6 j x hj
    · refine grow (some ⟨g, off, none⟩) cap rfl (by omega) (run_firstCells_some w.drew i.size n _ n cap xs hown.1 (fun j x hj => ?_))
      rw [show (⟨g, off, none⟩ : Addr).add j = ⟨g, off + j, none⟩ from Addr.add_lit ..]
      show w.drew.cell? _ = _
      exact (cells_of (w := w.drew) hg _).trans (h6 j x hj)

end Go.Gl
namespace Go.Proofs.Ytebknplbghcemaa
open Go.Gl Go.RowKit
set_option linter.unusedVariables false

/-- append on owned bytes; the slice itself reads as before -/
theorem wpList_apk {ops : Array Oper} {Q : Exit → Act → World → Prop} {rest : List Oper} {o : Oper} {a : Act} {w : World} {s x : Operand} (hgd : o.guard = none)
    (ho : o.op = .call { callee := .builtin .append, args := #[s, x], argTypes := #[32, 32] })
    {v u : Value} (xs ys : List UInt8) (hown : Own w v xs) (hrd : Rd w u ys) (hs : a.eval s = v) (hx : a.eval x = u) (hlen : xs.length + ys.length ≤ 140737488355328)
    (h : ∀ v' w', Own w' v' (xs ++ ys) → Mods (ofV v) w w' → (v'.ownBlock = v.ownBlock ∨ freshIn w v') → Own w' v xs → wpList Try.prog ops Q rest (a.put o.dst v') w') : wpList Try.prog ops Q (o :: rest) a w := by
  obtain ⟨i, hi, hz, hs1, hb1⟩ := info_parts Try.infoU8
  refine wpList_plain hgd fun K hK => ?_
  obtain ⟨v', w', hr, h2, h3, h4, h5⟩ := run_apk (P := Try.prog) 32 32 o.type 5 5 i _ Try.underlying32 Try.underlying32 hi hz (by rw [hs1]; rfl) (by rw [hs1]; exact hown) (by rw [hs1]; exact hrd) (bv_one _) (by simp only [maxLen]; omega) (by rw [hb1]; omega)
  unfold Oper.wp execOp
  simp only [ho, resolve, invoke, builtin, Sem.run_bind, Sem.run_pure, Result.andThen_ok, List.map_toArray, List.map_cons, List.map_nil, hs, hx, hr]
  refine hK _ _ (h v' w' ?_ h3 h4 ?_)
  · rw [hs1] at h2
    unfold Own
    rw [bv_append, List.length_append]
    exact h2
  · rw [hs1] at h5
    exact h5

end Go.Proofs.Ytebknplbghcemaa

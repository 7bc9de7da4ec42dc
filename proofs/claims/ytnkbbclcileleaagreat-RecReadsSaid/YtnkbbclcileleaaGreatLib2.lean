/- More general laws: a region that draws its order beside calls that make memory; results. -/
import Derived.Test.YtnkbbclcileleaaGreatLib
import Derived.Lib.QuietBelow
namespace Go.Gl
open Go.RowKit Go.Sort

theorem cells_regrown {w : World} {g : Nat} {arr : Array Value} (h : ∀ o, w.cell? ⟨g, o, none⟩ = arr[o]?) (hg : g < w.heap.size) (d : Nat) (os : Array Obj) (o : Nat) : (grow (redrawn w d) os).cell? ⟨g, o, none⟩ = arr[o]? := by
  rw [(below_regrown w d os).cell (p := ⟨g, o, none⟩) hg]; exact h o

theorem mods_regrown (w : World) (d : Nat) (os : Array Obj) : Mods noB w (grow (redrawn w d) os) := Mods.of_below (below_regrown w d os) (Nat.le_refl _) _

/-- A callee that only makes memory, met in such a region. -/
theorem Calls.quiet_mods {P : Program} {f : FuncId} {args : Array Value} {w : World} {d : Nat} {os : Array Obj} {v : Value}
    (h : Calls P f args (grow (redrawn w d) os) fun e w' => e = .returned v ∧ Mods noB (grow (redrawn w d) os) w') : Calls P f args (grow (redrawn w d) os) fun e w'' => e = .returned v ∧ ∃ p : Regrown, w'' = grow (redrawn w p.d) p.os :=
  Calls.regrown_of (h.mono fun _ _ ⟨he, hb⟩ => ⟨he, hb.below⟩)

theorem Calls.quiet_q {P : Program} {f : FuncId} {args : Array Value} {w : World} {d : Nat} {os : Array Obj} {v : Value}
    (h : Calls P f args (grow (redrawn w d) os) fun e w' => e = .returned v ∧ Quiet (grow (redrawn w d) os) w') : Calls P f args (grow (redrawn w d) os) fun e w'' => e = .returned v ∧ ∃ p : Regrown, w'' = grow (redrawn w p.d) p.os :=
  Calls.quiet_mods (h.mono fun _ _ ⟨he, hb⟩ => ⟨he, hb.mods noB⟩)

theorem Rd.regrown {w : World} {v : Value} {xs : List UInt8} (h : Rd w v xs) (d : Nat) (os : Array Obj) : Rd (grow (redrawn w d) os) v xs := h.keep (mods_regrown w d os) (fun _ _ x => x)
theorem Own.regrown {w : World} {v : Value} {xs : List UInt8} (h : Own w v xs) (d : Nat) (os : Array Obj) : Own (grow (redrawn w d) os) v xs := h.keep (mods_regrown w d os) (fun _ _ x => x)

theorem Mods.regrown {S : Nat → Prop} {a b : World} (h : Mods S a b) (d : Nat) (os : Array Obj) : Mods S a (grow (redrawn b d) os) := h.trans (mods_regrown b d os) (fun _ _ x => x) (fun _ _ x => x.elim)
theorem Mods.after {S : Nat → Prop} {w w1 : World} {o : Obj} (h : Mods S (w.alloc o) w1) : Mods S w w1 := ((Mods.refl S w).alloc o).trans h (fun _ _ x => x) (fun _ _ x => x)
theorem Mods.then0 {S : Nat → Prop} {a b c : World} (h : Mods S a b) (k : Mods noB b c) : Mods S a c := h.trans k (fun _ _ x => x) (fun _ _ x => x.elim)
theorem Mods.size_of {S : Nat → Prop} {a b : World} (h : Mods S a b) {n : Nat} (hn : n < a.heap.size) : n < b.heap.size := Nat.lt_of_lt_of_le hn h.size
theorem freshIn.of {w w1 : World} {v : Value} (h : freshIn w1 v) (hs : w.heap.size ≤ w1.heap.size) : freshIn w v := fun k hk => Nat.le_trans hs (h k hk)

theorem Rd.at {w : World} {v : Value} {xs : List UInt8} (h : Rd w v xs) : ∃ a cap, v = .slice a xs.length cap ∧ xs.length ≤ maxLen ∧ (xs.length = 0 ∨ ∃ g off, a = some ⟨g, off, none⟩ ∧ ∀ i (hi : i < xs.length), w.cell? ⟨g, off + i, none⟩ = some (.int .u8 (xs[i]).toNat)) := by
  rcases h.open with ⟨h0, rfl⟩ | ⟨g, off, cap, rfl, h1, h2, _, h3⟩
  · obtain ⟨a, rfl⟩ := h0.form
    exact ⟨a, 0, rfl, by simp, .inl rfl⟩
  · exact ⟨_, cap, rfl, by omega, .inr ⟨g, off, rfl, h3⟩⟩

theorem Rd.take {w : World} {g off n cap : Nat} {xs : List UInt8} (h : Rd w (.slice (some ⟨g, off, none⟩) xs.length cap) xs) (hn : n ≤ xs.length) : Rd w (.slice (some ⟨g, off, none⟩) n cap) (xs.take n) := by
  rcases h.open with ⟨h1, _⟩ | ⟨g', off', cap', h1, h2, h3, h4, h5⟩
  · exact h1.no.elim
  · cases h1
    refine ⟨by rw [bv_length, Nat.mul_one], .inr ⟨_, _, _, by rw [List.length_take, Nat.min_eq_left hn], by rw [List.length_take]; omega, h3, h4.imp (fun x => by rw [List.length_take]; omega) id, fun j u hj => ?_⟩⟩
    have hj' : j < (xs.take n).length := by have := (List.getElem?_eq_some_iff.1 hj).1; simpa [bv_length] using this
    rw [bv_get _ j hj'] at hj
    rw [← hj, h5 j (by rw [List.length_take] at hj'; omega)]
    simp

theorem Rd.at' {w : World} {v : Value} {xs : List UInt8} (h : Rd w v xs) : ∃ a cap, v = .slice a xs.length cap ∧ xs.length ≤ cap ∧ cap ≤ maxLen ∧ (xs.length ≠ 0 → ∀ k, v.ownBlock = some k → k < w.heap.size) ∧ (xs.length = 0 ∨ ∃ g off, a = some ⟨g, off, none⟩ ∧ ∀ i (hi : i < xs.length), w.cell? ⟨g, off + i, none⟩ = some (.int .u8 (xs[i]).toNat)) := by
  rcases h.open with ⟨h0, rfl⟩ | ⟨g, off, cap, rfl, h1, h2, h5, h3⟩
  · obtain ⟨a, rfl⟩ := h0.form
    exact ⟨a, 0, rfl, by simp, by simp, fun hn => absurd rfl hn, .inl rfl⟩
  · exact ⟨_, cap, rfl, h1, h2, fun hn k hk => by have := h5.resolve_left hn; simp [Value.ownBlock] at hk; omega, .inr ⟨g, off, rfl, h3⟩⟩

theorem Rd.take' {w : World} {g off n m cap : Nat} {xs : List UInt8} (h : Rd w (.slice (some ⟨g, off, none⟩) m cap) xs) (hm : xs.length = m) (hn : n ≤ m) : Rd w (.slice (some ⟨g, off, none⟩) n cap) (xs.take n) := by
  subst hm
  exact h.take hn

theorem Own.open {w : World} {v : Value} {xs : List UInt8} (h : Own w v xs) :
    (v = .slice none 0 0 ∧ xs = []) ∨ ∃ g off cap cur, v = .slice (some ⟨g, off, none⟩) xs.length cap ∧ w.heap[g]? = some (.cells cur 5 (0, 0)) ∧ xs.length ≤ cap ∧ cap ≤ maxLen ∧ off + cap ≤ cur.size ∧ ∀ i (hi : i < xs.length), cur[off + i]? = some (.int .u8 (xs[i]).toNat) := by
  rcases h.2 with ⟨rfl, hn⟩ | ⟨g, off, cap, cur, hv, h1, h2, h3, h4, h5⟩
  · exact .inl ⟨rfl, List.eq_nil_of_length_eq_zero hn⟩
  · exact .inr ⟨g, off, cap, cur, hv, h1, h2, h3, by omega, fun i hi => h5 i _ (bv_get xs i hi)⟩

theorem own_of {w : World} {g off cap n : Nat} {cur : Array Value} {xs : List UInt8} (hn : xs.length = n) (h1 : w.heap[g]? = some (.cells cur 5 (0, 0))) (h2 : n ≤ cap) (h3 : cap ≤ maxLen) (h4 : off + cap ≤ cur.size)
    (h5 : ∀ i (hi : i < xs.length), cur[off + i]? = some (.int .u8 (xs[i]).toNat)) : Own w (.slice (some ⟨g, off, none⟩) n cap) xs := by
  subst hn
  refine ⟨by simp [bv_length], .inr ⟨g, off, cap, cur, rfl, h1, h2, h3, by omega, fun j u hj => ?_⟩⟩
  have hj' : j < xs.length := by have := (List.getElem?_eq_some_iff.1 hj).1; simpa [bv_length] using this
  rw [bv_get xs j hj'] at hj
  rw [← hj]
  exact h5 j hj'

theorem Rd.sub {w : World} {g off cap : Nat} {xs : List UInt8} (h : Rd w (.slice (some ⟨g, off, none⟩) xs.length cap) xs) (i n cap' : Nat) (hi : i + n ≤ xs.length) (hc : n ≤ cap') (hc' : cap' ≤ maxLen) : Rd w (.slice (some ⟨g, off + i, none⟩) n cap') ((xs.drop i).take n) := by
  have hl : ((xs.drop i).take n).length = n := by rw [List.length_take, List.length_drop]; omega
  rcases h.open with ⟨h1, _⟩ | ⟨g', off', cap'', h1, h2, h3, h4, h5⟩
  · exact h1.no.elim
  · cases h1
    refine ⟨by rw [bv_length, Nat.mul_one], .inr ⟨_, _, _, by rw [hl], by rw [hl]; exact hc, hc', h4.imp (fun x => by rw [hl]; omega) id, fun j u hj => ?_⟩⟩
    have hj' : j < ((xs.drop i).take n).length := by have := (List.getElem?_eq_some_iff.1 hj).1; simpa [bv_length] using this
    rw [bv_get _ j hj'] at hj
    rw [← hj, Nat.add_assoc, h5 (i + j) (by omega)]
    simp

theorem Rd.addr {w : World} {a : Option Addr} {n c : Nat} {xs : List UInt8} (h : Rd w (.slice a n c) xs) (hn : n ≠ 0) : ∃ g off, a = some ⟨g, off, none⟩ := by
  rcases h.open with ⟨h1, _⟩ | ⟨g, off, cap, h1, _⟩
  · exact absurd h1.none.1 hn
  · cases h1; exact ⟨g, off, rfl⟩

/-- A whole struct or array stored into a block that is known: the block is known behind it. -/
theorem wpList_store_blk {P : Program} {ops : Array Oper} {rest : List Oper} {o : Oper} {a : Act} {w : World} {Q : Exit → Act → World → Prop} {ty : TypeId} {x y : Operand} {g : Nat} {cells old : Array Value} {t : TypeId} (hgd : o.guard = none) (ho : o.op = .store ty x y)
    (hg : w.heap[g]? = some (.cells old t (0, 0))) (hx : a.eval x = .pointer (some ⟨g, 0, none⟩)) (hy : a.eval y = .agg cells) (hi : (P.info? ty).map (·.size) = some cells.size)
    (hold : old.size = cells.size) (h1 : cells.toList.all (·.oneCell') = true)
    (h : ∀ w', w'.heap[g]? = some (.cells cells t (0, 0)) → Mods (fun k => k = g) w w' → w'.heap.size = w.heap.size → wpList P ops Q rest (a.put o.dst undef) w') : wpList P ops Q (o :: rest) a w := by
  refine wpList_store_row hgd ty x y ho g cells hx hy t old hg hi hold (by rw [← h1, Array.all_toList]) (h _ (setRow_heap w g old cells t _ hg) ⟨rfl, rfl, rfl, by simp, fun k _ hk => setRow_other w g k _ (fun e => hk (by first | exact e | exact e.symm))⟩ (by simp))

/-- 'append' where there is no room: a new row, and nothing that was there has turned. -/
theorem run_ap_grow {P : Program} {w : World} (t tx ty e e' : TypeId) (i : TypeInfo) (z : Value) (ht : P.underlying t = some (.slice e)) (htx : P.underlying tx = some (.slice e')) (hi : P.info? e = some i) (hz : i.zero = some z) (hzs : z.cells.size = i.size)
    {a : Option Addr} {cap : Nat} {n : Nat} {xs : List Value} (hown : RdG w i.size (.slice a n cap) n xs) {u : Value} {m : Nat} {ys : List Value} (hrd : RdG w i.size u m ys) (h1 : ∀ y ∈ ys, y.oneCell' = true) (hg : cap < n + m) (hlen : n + m ≤ maxLen) (hb : (n + m) * i.bytes ≤ 140737488355328) :
    ∃ v' w', (Builtin.append_ #[t, tx] ty #[.slice a n cap, u]).run P w = .ok v' w' ∧ OwnG w' e i.size v' (n + m) (xs ++ ys) ∧ Mods noB w w' ∧ freshIn w v' := by
  have hlen' : (xs ++ ys).length = (n + m) * i.size := by rw [List.length_append, hown.1, hrd.1, Nat.add_mul]
  have hs := hrd.src (P := P) h1 htx
  have hge := grownCap_ge w (n + m) cap e
  have hold : (Builtin.firstCells i.size n (.slice a n cap)).run P w.drew = .ok xs.toArray w.drew := by
    rcases hown.2 with ⟨hv, rfl⟩ | ⟨g, off, cap', hv, h2, h3, h4, h5⟩
    · obtain rfl : xs = [] := List.eq_nil_of_length_eq_zero (by simpa using hown.1)
      obtain rfl : cap = 0 := hv.none.2
      rcases a with _ | a
      · exact run_firstCells_none w.drew i.size 0 0 0
      · exact run_firstCells_some w.drew i.size 0 _ 0 0 [] (by simp) (fun j x hj => by simp at hj)
    · cases hv
      exact run_firstCells_some w.drew i.size n _ n cap xs hown.1 (fun j x hj => by
        rw [show (⟨g, off, none⟩ : Addr).add j = ⟨g, off + j, none⟩ from Addr.add_lit ..]
        exact h5 j x hj)
  refine ⟨_, _, run_append_grow_src w t tx ty e i z ht hi hz a n cap xs hold u m ys hs hg (by simp only [maxLen] at hlen; omega) (growslice_fits hg hb), ⟨hlen', .inr ⟨w.heap.size, 0, _, _, rfl, heap_alloc_new w.drew _, hge, grownCap_le_maxLen w _ _ e hlen, ?_, ?_⟩⟩, ((Mods.refl _ w).drew).alloc _, ?_⟩
  · simp only [Array.size_append, List.size_toArray, size_zeroCells, hzs, hlen', ← Nat.add_mul]
    rw [Nat.zero_add]
    exact Nat.mul_le_mul_right _ (by omega)
  · intro j x hj
    have hjl : j < (xs ++ ys).length := (List.getElem?_eq_some_iff.1 hj).1
    rw [Nat.zero_add, Array.getElem?_append_left (by simpa using hjl)]
    simpa using hj
  · intro k hk
    simp [Value.ownBlock] at hk
    omega

end Go.Gl

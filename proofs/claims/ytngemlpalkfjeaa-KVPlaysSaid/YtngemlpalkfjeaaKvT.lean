/- gleanlaw6.taken: the first entries of a store's walk; the store ticks. -/
import Derived.Test.YtngemlpalkfjeaaKvD0
namespace Go.Proofs.Ytngemlpalkfjeaa
open Go.Gl Go.RowKit
set_option linter.unusedVariables false
set_option maxRecDepth 100000
theorem KM.tickR {A B : World} {sg mg : Nat} {vo jv : Value} {R : List PV} {J : List JV} {c : Int} (h : KM A sg mg vo R jv J c) (t : tickR sg A B) : KM B sg mg vo R jv J (c + 1) := by
  obtain ⟨c', h1, e⟩ := t
  have : c' = c := by
    have := h.cells.2.2.1
    rw [h1] at this
    simpa using this
  subst this
  exact (h.tick e).km
theorem KM.okS {A : World} {sg mg : Nat} {vo jv : Value} {R : List PV} {J : List JV} {c : Int} (h : KM A sg mg vo R jv J c) (h0 : 0 ≤ c) (h1 : c ≤ 4611686018427387904) : OkS sg mg A := ⟨⟨c, h.cells.2.2.1, h.cells.2.2.2 2, by omega, by omega⟩, h.cells.1, h.lt sg (.inl rfl)⟩
set_option maxHeartbeats 8000000 in
theorem taken_any {w : World} {sg mg n : Nat} {vo jv : Value} {R : List PV} {J : List JV} {c : Int} {LL : List EV} {lb : Array Value} {U0 : Nat → Prop} (h : KM w sg mg vo R jv J c) (it : CIter Try.prog 73 lb LL.length (AWk w.heap.size LL) U0 (tickR sg) (OkS sg mg) w) (hUlt : ∀ k, U0 k → k < w.heap.size)
    (hn : 1 ≤ n) (h0 : 0 ≤ c) (h1 : c ≤ 4611686010000000000) (hE : ∀ e ∈ LL, e.k.length ≤ 1000000 ∧ e.v.length ≤ 1000000) (hl : LL.length ≤ 100000000) :
    Calls Try.prog 24 #[.func (.func 73) #[] lb, .int .i64 (n : Nat)] w fun e w' => ∃ v L, e = .returned v ∧ WkGot w w' v L ∧ L.map EV.ent = (LL.map EV.ent).take n ∧ Mods (fun k => k = sg) w w' ∧ KM w' sg mg vo R jv J (c + 1 + (min n LL.length : Nat)) := by
  have hks := h.lt
  have hkd := h.dlt
  have kk : ∀ {A C : World} {T : Nat → Prop} {c' : Int}, KM A sg mg vo R jv J c' → Mods T A C → (∀ k, T k → w.heap.size ≤ k) → KM C sg mg vo R jv J c' := fun hk hm ht => hk.keep hm (fun k x y => by have := ht k y; have := hks k x; omega) (fun k x y => by have := ht k y; have := hkd k x; omega)
  (refine calls_marks _ Try.func24 rfl ?_; simp only [Try.ntmps24, List.size_toArray, List.length_cons, List.length_nil, Nat.reduceAdd, Nat.reduceSub, Array.replicate_succ, Array.replicate_zero, List.push_toArray, List.append_toArray, List.nil_append, List.cons_append])
  refine wpIn_seq ?_
  refine wpIn_tl (d := .region 0 (opsC 0 Try.f24) false) (by kernel_rfl) ?_
  refine RW.wpIn (tk0 ?_) (by kernel_rfl)
  intros
  rename_i nb w1 e1 hnb1 m1
  refine then_n ?_
  refine wpIn_seq ?_
  refine wpIn_tl (d := .region 1 (opsC 1 Try.f24) false) (by kernel_rfl) ?_
  refine RW.wpIn (tk1 ?_) (by kernel_rfl)
  intros
  rename_i ob w2 e2 hob2 m2
  refine then_n ?_
  have m12 := m1.then0 m2
  have hnb2 := m2.heap hnb1 (fun x => x)
  have hlo := lt_of_heap hnb1
  have s1 := m1.size
  have s2 := m2.size
  have hlo2 := lt_of_heap hob2
  have k2 := h.keep0 m12
  refine wpIn_seq ?_
  refine wpIn_seq ?_
  refine wpIn_tl (d := .region 2 (opsC 2 Try.f24) false) (by kernel_rfl) ?_
  refine RW.wpIn (tk2 ?_) (by kernel_rfl)
  intro w3 e3
  subst e3
  refine then_n ?_
  have sgl := h.lt sg (.inl rfl)
  have hI0 : WdI (fun k => k = sg) (fun k => k = nb) (fun _ => .cells #[.int .i64 (n : Nat)] 3 (0, 0)) w LL ob 0 U0 w3 (.slice none 0 0) [] :=
    ⟨hob2, fun k x => by subst x; exact hnb2, ⟨rfl, .inl ⟨rfl, rfl⟩⟩, fun e he => (List.not_mem_nil he).elim, rfl, fun x => by have := hUlt _ x; omega, fun k x hu => by have := hUlt _ hu; omega, fun k hk => by simp [Value.ownBlock] at hk, fun k ⟨e, he, _⟩ => (List.not_mem_nil he).elim, by omega, fun k x => by omega, by omega, m12.mono (fun _ _ x => x.elim), fun k x => by omega⟩
  refine wpIn_block ?_
  refine wpIn_rangeC0 (by rfl) (enters_of Try.func73 (by kernel_rfl) rfl) it (fun A C t => t.mods) (by omega) (m12.mono (fun _ _ x => x.elim)) (fun k hk => by have := hUlt k hk; omega) (argsOk_wk _ _) (fun i U args W1 hA => by obtain ⟨e, kv, vv, _, rfl, _⟩ := hA; rfl)
    (fun i U Wr => i = 0 ∧ (∃ v L, WdI (fun k => k = sg) (fun k => k = nb) (fun _ => .cells #[.int .i64 (n : Nat)] 3 (0, 0)) w LL ob 0 U Wr v L) ∧ KM Wr sg mg vo R jv J c)
    (fun i U Wr => i ≤ LL.length ∧ i < n ∧ (∃ v L, WdI (fun k => k = sg) (fun k => k = nb) (fun _ => .cells #[.int .i64 (n : Nat)] 3 (0, 0)) w LL ob i U Wr v L) ∧ KM Wr sg mg vo R jv J (c + 1 + (i : Nat)))
    (fun i U Wr => i < n ∧ (∃ v L, WdI (fun k => k = sg) (fun k => k = nb) (fun _ => .cells #[.int .i64 (n : Nat)] 3 (0, 0)) w LL ob i U Wr v L) ∧ KM Wr sg mg vo R jv J (c + 1 + (i + 1 : Nat)))
    (fun cd i U Wr => cd = .exit 0 ∧ i = n ∧ (∃ v L, WdI (fun k => k = sg) (fun k => k = nb) (fun _ => .cells #[.int .i64 (n : Nat)] 3 (0, 0)) w LL ob n U Wr v L) ∧ KM Wr sg mg vo R jv J (c + 1 + (n : Nat)))
    ?_ ?_ ?_ ?_ ⟨rfl, ⟨_, _, hI0⟩, k2⟩ ?_ ?_ ?_ ?_ ?_
  · rintro i U U' A C ⟨g1, ⟨v, L, g2⟩, g3⟩ hm hus hsub
    exact ⟨g1, ⟨v, L, g2.frm (by omega) hm hsub⟩, kk g3 hm (fun k hk => by rcases hk.2 with y | y; exact y.elim; omega)⟩
  · rintro i U U' A C ⟨g1, g4, ⟨v, L, g2⟩, g3⟩ hm hus hsub
    exact ⟨g1, g4, ⟨v, L, g2.frm (by omega) hm hsub⟩, kk g3 hm (fun k hk => by rcases hk.2 with y | y; exact y.elim; omega)⟩
  · rintro i U U' A C ⟨g1, ⟨v, L, g2⟩, g3⟩ hm hus hsub
    exact ⟨g1, ⟨v, L, g2.frm (by omega) hm hsub⟩, kk g3 hm (fun k hk => by rcases hk.2 with y | y; exact y.elim; omega)⟩
  · rintro cd i U U' A C ⟨g1, g4, ⟨v, L, g2⟩, g3⟩ hm hus hsub
    exact ⟨g1, g4, ⟨v, L, g2.frm (by omega) hm hsub⟩, kk g3 hm (fun k hk => by rcases hk.2 with y | y; exact y.elim; omega)⟩
  · rintro U A ⟨_, ⟨v, L, g2⟩, g3⟩
    exact ⟨g3.okS h0 (by omega), fun C t => ⟨Nat.zero_le _, by omega, ⟨v, L, g2.turn t.mods⟩, by have := g3.tickR t; simpa using this⟩⟩
  · rintro i U A hi ⟨g1, g4, ⟨v, L, g2⟩, g3⟩
    exact ⟨g3.okS (by omega) (by omega), fun C t => ⟨g4, ⟨v, L, g2.turn t.mods⟩, by have := g3.tickR t; rw [show c + 1 + ((i + 1 : Nat) : Int) = c + 1 + (i : Int) + 1 by omega]; exact this⟩⟩
  · -- one round
    intro lp i U args Wr hlp hUlp hi ⟨_, _, hkmr⟩ ⟨e, kv, vv, hei, hargs, hok, hov, hkU, hvU, hkv, hkB, hvB⟩ hUs hwr _ ⟨hin, ⟨v, L, hI⟩, _⟩ hab
    subst hargs
    simp only [putArgs, List.setIfInBounds_toArray, List.set_cons_succ, List.set_cons_zero]
    refine wpIn_seq ?_
    refine wpIn_tl (d := .region 3 (opsC 3 Try.f24) false) (by kernel_rfl) ?_
    refine RW.wpIn (tk3 ?_) (by kernel_rfl)
    intro w4 e4
    subst e4
    refine then_n ?_
    refine wpIn_tl (d := .region 4 (opsC 4 Try.f24) false) (by kernel_rfl) ?_
    refine RW.wpIn (tk4 ?_) (by kernel_rfl)
    intro w4 e4
    subst e4
    refine then_n ?_
    refine ⟨Mods.refl _ _, ?_⟩
    intro W2 m2' _
    have hI2 := hI.frm (by omega) (B := W2) (base := w3.heap.size) (U' := fun k => U k ∨ argB #[kv, vv] k) (m2'.mono (fun k _ hk => by subst hk; exact ⟨.inl hUlp, .inr hlp⟩)) (fun k hk => .inl hk)
    have hkm2 := kk hkmr m2' (fun k hk => by omega)
    have hok2 := hok.keep m2' (fun k hk x => hkU k hk (x ▸ hUlp))
    have hov2 := hov.keep m2' (fun k hk x => hvU k hk (x ▸ hUlp))
    have hUs2 : ∀ k, U k → k < W2.heap.size := fun k hk => Nat.lt_of_lt_of_le (hUs k hk) m2'.size
    have hee := hE e (List.mem_of_getElem? hei)
    have hlen : L.length = i := by
      have := congrArg List.length hI2.eq
      rw [List.length_map, List.length_map, List.length_take] at this
      omega
    have hsz2 : w.heap.size ≤ W2.heap.size := hI2.mods.size
    refine wpIn_block ?_
    refine wpIn_seq ?_
    refine wpIn_tl (d := .region 5 (opsC 5 Try.f24) true) (by kernel_rfl) ?_
    refine RW.wpIn (tk5 hI2.hob hI2.row hok2.rd hov2.rd hee.1 hee.2 (by omega) (fun x => (hI2.vb ob x).2.1 rfl) ?_) (by kernel_rfl)
    intros
    rename_i d1 d2 v8 w7 w8 w9 o1 o2 f1 f2 m7 o8 m8 f8 h9
    refine then_n ?_
    have m9 : Mods (fun k => k = ob) w8 w9 := by rw [h9]; exact (Mods.refl (fun k => k = ob) w8).setCell (p := ⟨ob, 0, none⟩) (.inl rfl) v8
    have aK : ∀ k, kv.ownBlock = some k → argB #[kv, vv] k := fun k hk => ⟨kv, by simp, hk⟩
    have aV : ∀ k, vv.ownBlock = some k → argB #[kv, vv] k := fun k hk => ⟨vv, by simp, hk⟩
    have m29 : Mods (fun k => k = ob ∨ v.ownBlock = some k) W2 w9 := (m7.trans m8 (U := fun k => k = ob ∨ v.ownBlock = some k) (fun _ _ x => x.elim) (fun _ _ x => .inr x)).trans m9 (fun _ _ x => x) (fun _ _ x => .inl x)
    have hok9 := hok2.keep m29 (fun k hk x => by
      rcases x with x | x
      · exact hI2.u1 (.inr (x ▸ aK k hk))
      · exact (hI2.vb k x).2.2.2 (.inr (aK k hk)))
    have hov9 := hov2.keep m29 (fun k hk x => by
      rcases x with x | x
      · exact hI2.u1 (.inr (x ▸ aV k hk))
      · exact (hI2.vb k x).2.2.2 (.inr (aV k hk)))
    refine wpIn_seq ?_
    refine wpIn_tl (d := .region 6 (opsC 6 Try.f24) false) (by kernel_rfl) ?_
    refine RW.wpIn (tk6 hok9 ?_) (by kernel_rfl)
    intros
    rename_i w10 m10
    refine then_n ?_
    have hov10 := hov9.keep m10 (fun k hk x => hkv k x hk)
    refine wpIn_seq ?_
    refine wpIn_tl (d := .region 7 (opsC 7 Try.f24) false) (by kernel_rfl) ?_
    refine RW.wpIn (tk7 hov10 ?_) (by kernel_rfl)
    intros
    rename_i w11 m11
    refine then_n ?_
    obtain ⟨hS, hM, hM0⟩ := hI2.step hlen hei hUs2 hsz2 hkU hvU (fun k hk => ⟨hkB k hk, hok2.lt k hk⟩) (fun k hk => ⟨hvB k hk, hov2.lt k hk⟩) o1 o2 f1 f2 m7 o8 m8 f8 h9 m10 m11
    have hkm11 := kk hkm2 (hM0 (fun k => k < w.heap.size) (fun k x => x)) (fun k x => Nat.le_of_not_lt x)
    obtain ⟨a8, c8, e8, _⟩ := hS.row.rd.form
    have c0 := cells_of hS.hob 0
    have hln : (L ++ [(⟨d1, d2, e.k, e.v⟩ : EV)]).length = i + 1 := by rw [List.length_append, hlen]; rfl
    rw [hln] at e8
    refine wpIn_seq ?_
    refine wpIn_tl (d := .region 8 (opsC 8 Try.f24) false) (by kernel_rfl) ?_
    by_cases hq : i + 1 = n
    · refine RW.wpIn (tk8t (ao := a8) (n := i + 1) (c := c8) (N := (n : Nat)) (by rw [← e8]; exact c0) (cells_of (hS.hx nb rfl) 0) (by omega) ?_) (by kernel_rfl)
      intros
      rename_i hw
      subst hw
      refine then_n ?_
      refine wpIn_cond_true rfl ?_
      refine wpIn_exit ?_
      repeat (refine then_x ?_)
      refine block_xo (by decide) ?_
      rw [hq] at hS
      exact ⟨hM, rfl, hq, ⟨_, _, hS⟩, by rw [← hq]; exact hkm11⟩
    · refine RW.wpIn (tk8f (ao := a8) (n := i + 1) (c := c8) (N := (n : Nat)) (by rw [← e8]; exact c0) (cells_of (hS.hx nb rfl) 0) (by omega) ?_) (by kernel_rfl)
      intros
      rename_i hw
      subst hw
      refine then_n ?_
      refine wpIn_cond_false rfl ?_
      refine wpIn_skip ?_
      refine block_n ?_
      exact ⟨hM, hi, by omega, ⟨_, _, hS⟩, hkm11⟩
  · -- all have come
    rintro D U W5 hD hUD hus ⟨g1, g2, ⟨v, L, g3⟩, g4⟩ hdef
    refine block_n ?_
    refine then_n ?_
    refine wpIn_seq ?_
    refine wpIn_tl (d := .region 9 (opsC 9 Try.f24) false) (by kernel_rfl) ?_
    refine RW.wpIn (tk9 (cells_of g3.hob 0) ?_) (by kernel_rfl)
    intros
    rename_i hw
    subst hw
    refine then_n ?_
    refine wpIn_ret ?_
    refine marks_leave hdef (results_tmp rfl _ _ _) ?_
    obtain ⟨g, gm⟩ := g3.got (putObj_mods _ D _) (fun k hk => by subst hk; exact ⟨hUD, by omega⟩)
    refine ⟨v, L, rfl, g, ?_, gm, ?_⟩
    · rw [g3.eq, List.take_length, List.take_of_length_le (by rw [List.length_map]; omega)]
    · rw [Nat.min_eq_right (by omega)]
      exact kk g4 (putObj_mods _ D _) (fun k hk => by omega)
  · rintro D cd i U W5 hD hUD hus hi ⟨rfl, he, ⟨v, L, g3⟩, g4⟩ hdef
    refine wpIn_exit ?_
    refine block_x ?_
    refine then_n ?_
    refine wpIn_seq ?_
    refine wpIn_tl (d := .region 9 (opsC 9 Try.f24) false) (by kernel_rfl) ?_
    refine RW.wpIn (tk9 (cells_of g3.hob 0) ?_) (by kernel_rfl)
    intros
    rename_i hw
    subst hw
    refine then_n ?_
    refine wpIn_ret ?_
    refine marks_leave hdef (results_tmp rfl _ _ _) ?_
    obtain ⟨g, gm⟩ := g3.got (putObj_mods _ D _) (fun k hk => by subst hk; exact ⟨hUD, by omega⟩)
    refine ⟨v, L, rfl, g, ?_, gm, ?_⟩
    · rw [g3.eq, List.map_take]
    · rw [Nat.min_eq_left (by omega)]
      exact kk g4 (putObj_mods _ D _) (fun k hk => by omega)
end Go.Proofs.Ytngemlpalkfjeaa

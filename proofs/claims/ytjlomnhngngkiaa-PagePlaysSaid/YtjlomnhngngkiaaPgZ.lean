/- gleanlaw5.walked: its loop, and the whole. -/
import Derived.Test.YtjlomnhngngkiaaPgX
namespace Go.Proofs.Ytjlomnhngngkiaa
open Go.Gl Go.RowKit
set_option linter.unusedVariables false
set_option maxRecDepth 100000

/-- what is handed back: entries in new memory -/
structure WkGot (w w' : World) (v : Value) (L : List EV) : Prop where
  row : OwnG w' 52 2 v L.length (ecell L)
  own : ∀ e ∈ L, Gl.Own w' e.kv e.k ∧ Gl.Own w' e.vv e.v
  vf : freshIn w v
  df : ∀ k, MDL L k → w.heap.size ≤ k ∧ v.ownBlock ≠ some k
  mods : Mods noB w w'
theorem WdI.got {T : Nat → Prop} {w W : World} {LL L : List EV} {ob nb i : Nat} {N : Int} {U : Nat → Prop} {v : Value} (h : WdI w LL ob nb N i U W v L) {W' : World} (hm : Mods T W W') (hT : ∀ k, T k → U k ∧ w.heap.size ≤ k) : WkGot w W' v L :=
  have h' := h.keep hm (fun x => h.u1 (hT _ x).1) (fun x => h.u2 (hT _ x).1) (fun k hk x => (h.vb k hk).2.2.2 (hT _ x).1) (fun k hk x => (h.db k hk).2.2.2.2 (hT _ x).1) (fun k x => (hT k x).2) (U' := U) (fun k hk => .inl hk)
  ⟨h'.row, h'.own, fun k hk => (h'.vb k hk).1, fun k hk => ⟨(h'.db k hk).1, (h'.db k hk).2.2.2.1⟩, h'.mods⟩

set_option maxHeartbeats 4000000 in
theorem walked_tail {w0 w : World} {LL : List EV} {ob nb n B : Nat} {gf : FuncId} {lb : Array Value} {U0 : Nat → Prop} {a : Act}
    (eg : ∀ args w, (callFunc gf args).run Try.prog w = .ok (.enter gf args) w) (it : Iter Try.prog gf lb LL.length (AWk B LL) U0 noB w) (hB : w0.heap.size ≤ B) (hUlt : ∀ k, U0 k → k < w.heap.size)
    (hE : ∀ e ∈ LL, e.k.length ≤ 1000000 ∧ e.v.length ≤ 1000000) (hl : LL.length ≤ 100000000)
    (hfr : FrK [] (.pointer (some ⟨nb, 0, none⟩)) (.pointer (some ⟨ob, 0, none⟩)) (.func (.func gf) #[] lb) a) (h0 : WdI w0 LL ob nb (n : Nat) 0 U0 w (.slice none 0 0) []) :
    Code.wpIn (WF none) 3 Try.prog (.seq (.seq (.region 5 (opsC 5 Try.f21) false) (.cond (.tmp 25) (.seq (.region 6 (opsC 6 Try.f21) false) .ret) .skip))
      (.seq (.seq (.region 7 (opsC 7 Try.f21) false) (.block 0 (.rangeFunc (.tmp 26) #[27, 28] (.seq (.region 8 (opsC 8 Try.f21) false) (.region 9 (opsC 9 Try.f21) false))
        (.block 1 (.seq (.region 10 (opsC 10 Try.f21) true) (.seq (.region 11 (opsC 11 Try.f21) false) (.seq (.region 12 (opsC 12 Try.f21) false) (.seq (.region 13 (opsC 13 Try.f21) false) (.cond (.tmp 44) (.exit 0) .skip)))))))))
        (.seq (.region 14 (opsC 14 Try.f21) false) .ret)))
      (bodyPostM (WF none) 3 Try.prog Try.f21 fun e w' => ∃ v L, e = .returned v ∧ WkGot w0 w' v L ∧ L.map EV.ent = (LL.map EV.ent).take n) a w := by
  have hsz0 : w0.heap.size ≤ w.heap.size := h0.mods.size
  refine hfr.elim (C := fun a => Code.wpIn _ _ _ _ _ a _) ?_
  intros
  refine wpIn_seq ?_
  refine wpIn_seq ?_
  by_cases hz : n = 0
  · subst hz
    refine RW.wpIn (wd5t (cells_of h0.hnb 0) rfl ?_) (by kernel_rfl)
    intros
    rename_i hw
    subst hw
    refine then_n ?_
    refine wpIn_cond_true rfl ?_
    refine wpIn_seq ?_
    refine RW.wpIn (wd6 ?_) (by kernel_rfl)
    intros
    rename_i hw
    subst hw
    refine then_n ?_
    refine wpIn_ret ?_
    refine then_r ?_
    exact ⟨_, results_tmp rfl _ _ _, .slice none 0 0, [], rfl, h0.got (Mods.refl noB _) (fun k x => x.elim), by rw [List.take_zero]; rfl⟩
  refine RW.wpIn (wd5f (cells_of h0.hnb 0) (by omega) ?_) (by kernel_rfl)
  intros
  rename_i hw
  subst hw
  refine then_n ?_
  refine wpIn_cond_false rfl ?_
  refine wpIn_skip ?_
  refine then_n ?_
  refine wpIn_seq ?_
  refine wpIn_seq ?_
  refine RW.wpIn (wd7 ?_) (by kernel_rfl)
  intros
  rename_i hw
  subst hw
  refine then_n ?_
  refine wpIn_block ?_
  refine wpIn_range0 (by rfl) eg it (Mods.refl _ _) hUlt (argsOk_wk _ _) (fun i U args W1 hA => by obtain ⟨e, kv, vv, _, rfl, _⟩ := hA; rfl)
    (fun i U Wr => i ≤ LL.length ∧ i < n ∧ (∃ v L, WdI w0 LL ob nb (n : Nat) i U Wr v L))
    (fun c i U Wr => c = .exit 0 ∧ (∃ v L, WdI w0 LL ob nb (n : Nat) n U Wr v L))
    ?_ ?_ ⟨Nat.zero_le _, by omega, _, _, h0⟩ ?_ ?_ ?_
  · rintro i U U' A B' ⟨h1, h2, v, L, h3⟩ hm hus hsub
    exact ⟨h1, h2, v, L, h3.frm hsz0 hm hsub⟩
  · rintro c i U U' A B' ⟨h1, v, L, h3⟩ hm hus hsub
    exact ⟨h1, v, L, h3.frm hsz0 hm hsub⟩
  · -- one round
    intro lp i U args Wr hlp hUlp hi _ ⟨e, kv, vv, hei, hargs, hok, hov, hkU, hvU, hkv, hkB, hvB⟩ hUs hwr _ ⟨_, hin, v, L, hI⟩ hab
    subst hargs
    simp only [putArgs, List.setIfInBounds_toArray, List.set_cons_succ, List.set_cons_zero]
    refine wpIn_seq ?_
    refine RW.wpIn (wd8 ?_) (by kernel_rfl)
    intros
    rename_i hw
    subst hw
    refine then_n ?_
    refine RW.wpIn (wd9 ?_) (by kernel_rfl)
    intros
    rename_i hw
    subst hw
    refine then_n ?_
    refine ⟨Mods.refl _ _, ?_⟩
    intro W2 m2 _
    have hnl : ∀ k, argB #[kv, vv] k → k ≠ lp := fun k hk x => by
      rcases argB_two hk with h | h
      · exact hkU k h (x ▸ hUlp)
      · exact hvU k h (x ▸ hUlp)
    have hI2 := hI.frm hsz0 (B := W2) (U' := fun k => U k ∨ argB #[kv, vv] k) (m2.mono (fun k _ hk => by subst hk; exact ⟨.inl hUlp, .inr hlp⟩)) (fun k hk => .inl hk)
    have hok2 := hok.keep m2 (fun k hk x => hkU k hk (x ▸ hUlp))
    have hov2 := hov.keep m2 (fun k hk x => hvU k hk (x ▸ hUlp))
    have hUs2 : ∀ k, U k → k < W2.heap.size := fun k hk => Nat.lt_of_lt_of_le (hUs k hk) m2.size
    have hee := hE e (List.mem_of_getElem? hei)
    have hlen : L.length = i := by
      have := congrArg List.length hI2.eq
      rw [List.length_map, List.length_map, List.length_take] at this
      omega
    have hsz2 : w0.heap.size ≤ W2.heap.size := hI2.mods.size
    refine wpIn_block ?_
    refine wpIn_seq ?_
    refine RW.wpIn (wd10 hI2.hob hI2.row hok2.rd hov2.rd hee.1 hee.2 (by omega) (fun x => (hI2.vb ob x).2.1 rfl) ?_) (by kernel_rfl)
    intros
    rename_i d1 d2 v8 w7 w8 w9 o1 o2 f1 f2 m7 o8 m8 f8 h9
    refine then_n ?_
    have m9 : Mods (fun k => k = ob) w8 w9 := by rw [h9]; exact (Mods.refl (fun k => k = ob) w8).setCell (p := ⟨ob, 0, none⟩) (.inl rfl) v8
    have aK : ∀ k, kv.ownBlock = some k → argB #[kv, vv] k := fun k hk => ⟨kv, by simp, hk⟩
    have aV : ∀ k, vv.ownBlock = some k → argB #[kv, vv] k := fun k hk => ⟨vv, by simp, hk⟩
    have m29 : Mods (fun k => k = ob ∨ v.ownBlock = some k) W2 w9 := (m7.trans m8 (U := fun k => k = ob ∨ v.ownBlock = some k) (fun _ _ x => x.elim) (fun _ _ x => .inr x)).trans m9 (fun _ _ x => x) (fun _ _ x => .inl x)
    have hok9 := hok2.keep m29 (fun k hk x => by
      rcases x with x | x
      · exact hI2.u1 (.inr (x ▸ aK k hk))
      · exact (hI2.vb k x).2.2.2 (.inr (aK k hk)))
    have hov9 := hov2.keep m29 (fun k hk x => by
      rcases x with x | x
      · exact hI2.u1 (.inr (x ▸ aV k hk))
      · exact (hI2.vb k x).2.2.2 (.inr (aV k hk)))
    refine wpIn_seq ?_
    refine RW.wpIn (wd11 hok9 ?_) (by kernel_rfl)
    intros
    rename_i w10 m10
    refine then_n ?_
    have hov10 := hov9.keep m10 (fun k hk x => hkv k x hk)
    refine wpIn_seq ?_
    refine RW.wpIn (wd12 hov10 ?_) (by kernel_rfl)
    intros
    rename_i w11 m11
    refine then_n ?_
    obtain ⟨hS, hM⟩ := hI2.step hlen hei hUs2 hsz2 hkU hvU (fun k hk => ⟨by have := hkB k hk; omega, hok2.lt k hk⟩) (fun k hk => ⟨by have := hvB k hk; omega, hov2.lt k hk⟩) o1 o2 f1 f2 m7 o8 m8 f8 h9 m10 m11
    obtain ⟨a8, c8, e8, _⟩ := hS.row.rd.form
    have c0 := cells_of hS.hob 0
    have hln : (L ++ [(⟨d1, d2, e.k, e.v⟩ : EV)]).length = i + 1 := by rw [List.length_append, hlen]; rfl
    rw [hln] at e8
    refine wpIn_seq ?_
    by_cases hq : i + 1 = n
    · refine RW.wpIn (wd13t (ao := a8) (n := i + 1) (c := c8) (by rw [← e8]; exact c0) (cells_of hS.hnb 0) (by rw [hq]) ?_) (by kernel_rfl)
      intros
      rename_i hw
      subst hw
      refine then_n ?_
      refine wpIn_cond_true rfl ?_
      refine wpIn_exit ?_
      repeat (refine then_x ?_)
      refine block_xo (by decide) ?_
      rw [hq] at hS
      exact ⟨hM, rfl, _, _, hS⟩
    · refine RW.wpIn (wd13f (ao := a8) (n := i + 1) (c := c8) (by rw [← e8]; exact c0) (cells_of hS.hnb 0) (by omega) ?_) (by kernel_rfl)
      intros
      rename_i hw
      subst hw
      refine then_n ?_
      refine wpIn_cond_false rfl ?_
      refine wpIn_skip ?_
      refine block_n ?_
      exact ⟨hM, hi, by omega, _, _, hS⟩
  · -- all have come
    rintro D U W5 hD hUD hus ⟨h1, h2, v, L, h3⟩ hdef
    refine block_n ?_
    refine then_n ?_
    refine wpIn_seq ?_
    refine RW.wpIn (wd14 (cells_of h3.hob 0) ?_) (by kernel_rfl)
    intros
    rename_i hw
    subst hw
    refine then_n ?_
    refine wpIn_ret ?_
    refine marks_leave hdef (results_tmp rfl _ _ _) ?_
    refine ⟨v, L, rfl, h3.got (putObj_mods _ D _) (fun k hk => by subst hk; exact ⟨hUD, by omega⟩), ?_⟩
    rw [h3.eq, List.take_length, List.take_of_length_le (by rw [List.length_map]; omega)]
  · rintro D c i U W5 hD hUD hus hi ⟨rfl, v, L, h3⟩ hdef
    refine wpIn_exit ?_
    refine block_x ?_
    refine then_n ?_
    refine wpIn_seq ?_
    refine RW.wpIn (wd14 (cells_of h3.hob 0) ?_) (by kernel_rfl)
    intros
    rename_i hw
    subst hw
    refine then_n ?_
    refine wpIn_ret ?_
    refine marks_leave hdef (results_tmp rfl _ _ _) ?_
    refine ⟨v, L, rfl, h3.got (putObj_mods _ D _) (fun k hk => by subst hk; exact ⟨hUD, by omega⟩), ?_⟩
    rw [h3.eq, List.map_take]

/-- the entries that a walk gives -/
def wlk (ps : Pgs) (xs ts : List UInt8) (back : Bool) : List Ent := if back then (ps.flatten.filter (btw xs ts)).reverse else ps.flatten.filter (btw xs ts)

theorem wd_start {w wa wb : World} {g : Nat} {vo : Value} {R : List PV} {xs ts : List UInt8} {m bf bt ob nb : Nat} {fv tv : Value} {N : Int} {LL : List EV} (hm : PM w g vo R) (hr : WkRes wa g vo R xs ts m bf bt fv tv wb)
    (hob : wa.heap[ob]? = some (.cells #[.slice none 0 0] 44 (0, 0))) (hnb : wa.heap[nb]? = some (.cells #[.int .i64 N] 3 (0, 0))) (g1 : w.heap.size ≤ ob) (g2 : w.heap.size ≤ nb) (ne : ob ≠ nb) (hwa : Mods noB w wa) :
    WdI w LL ob nb N 0 (UWk g vo R m bf bt fv tv) wb (.slice none 0 0) [] := by
  obtain ⟨_, m2, h1, h2, h3, h4, h5⟩ := hr
  have l1 := lt_of_heap hob
  have l2 := lt_of_heap hnb
  have key : ∀ q, w.heap.size ≤ q → q < wa.heap.size → ¬ UWk g vo R m bf bt fv tv q := fun q hq1 hq2 x => by
    rcases x with (x | x | x | x | x) | x | x
    · have := hm.lt q x; omega
    · have := hm.dlt q x; omega
    · omega
    · omega
    · have := h4 q x; omega
    · omega
    · have := h5 q x; omega
  exact ⟨m2.heap hob (fun x => x), m2.heap hnb (fun x => x), ⟨rfl, .inl ⟨rfl, rfl⟩⟩, fun e he => (List.not_mem_nil he).elim, rfl, key _ g1 l1, key _ g2 l2, fun k hk => by simp [Value.ownBlock] at hk,
    fun k ⟨e, he, _⟩ => (List.not_mem_nil he).elim, g1, g2, ne, hwa.then0 m2⟩
theorem wk_lens {w : World} {g : Nat} {vo : Value} {R : List PV} (hm : PM w g vo R) {xs ts : List UInt8} : ∀ e ∈ wkL R xs ts, e.k.length ≤ 1000000 ∧ e.v.length ≤ 1000000 := fun e he => by
  obtain ⟨i, hi⟩ := List.getElem?_of_mem he
  obtain ⟨p, hp, he⟩ := wkL_get hi
  have := hm.ents p hp e he
  exact ⟨this.lk, this.lv⟩

set_option maxHeartbeats 4000000 in
theorem walked_any {w : World} {g n : Nat} {vo fv tv : Value} {R : List PV} {xs ts : List UInt8} {back : Bool} (hm : PM w g vo R) (hf : Rd w fv xs) (ht : Rd w tv ts) (lx : xs.length ≤ 1000000) (lt : ts.length ≤ 1000000) (ok : PgOk (pgs R)) (hn : R.length ≤ 1000000) (hc : cnt (pgs R) ≤ 100000000) :
    Calls Try.prog 21 #[.pointer (some ⟨g, 0, none⟩), fv, tv, .bool back, .int .i64 (n : Nat)] w fun e w' => ∃ v L, e = .returned v ∧ WkGot w w' v L ∧ L.map EV.ent = (wlk (pgs R) xs ts back).take n := by
  have hwk := wk_len ok xs ts
  (refine calls_marks _ Try.func21 rfl ?_; simp only [Try.ntmps21, List.size_toArray, List.length_cons, List.length_nil, Nat.reduceAdd, Nat.reduceSub, Array.replicate_succ, Array.replicate_zero, List.push_toArray, List.append_toArray, List.nil_append, List.cons_append])
  refine wpIn_seq ?_
  refine wpIn_tl (d := .region 0 (opsC 0 Try.f21) false) (by kernel_rfl) ?_
  refine RW.wpIn (wd0 ?_) (by kernel_rfl)
  intros
  rename_i nb w1 e1 h1 m1
  refine then_n ?_
  refine wpIn_seq ?_
  refine wpIn_tl (d := .region 1 (opsC 1 Try.f21) false) (by kernel_rfl) ?_
  refine RW.wpIn (wd1 ?_) (by kernel_rfl)
  intros
  rename_i ob w2 e2 h2 m2
  refine then_n ?_
  have m12 := m1.then0 m2
  have hnb2 := m2.heap h1 (fun x => x)
  have hlo := lt_of_heap h1
  have s1 := m1.size
  have hpm2 := hm.keep0 m12
  have hf2 := hf.keep m12 (fun _ _ x => x)
  have ht2 := ht.keep m12 (fun _ _ x => x)
  refine wpIn_seq ?_
  refine wpIn_tl (d := .region 2 (opsC 2 Try.f21) false) (by kernel_rfl) ?_
  refine RW.wpIn (wd2 (Walk_any hpm2 hf2 ht2 lx lt) ?_) (by kernel_rfl)
  intros
  rename_i m bf bt fv1 tv1 w3 hr
  refine then_n ?_
  refine wpIn_seq ?_
  refine wpIn_seq ?_
  refine wpIn_tl (d := .region 3 (opsC 3 Try.f21) false) (by kernel_rfl) ?_
  refine RW.wpIn (wd3 ?_) (by kernel_rfl)
  intros
  rename_i hw
  subst hw
  refine then_n ?_
  cases back with
  | false =>
    refine wpIn_cond_false rfl ?_
    refine wpIn_skip ?_
    refine then_n ?_
    have e : wlk (pgs R) xs ts false = (wkL R xs ts).map EV.ent := (ents_wk ok xs ts).symm
    rw [e]
    exact wpIn_tl (by kernel_rfl) (walked_tail (enters_of Try.func54 (by kernel_rfl) rfl) (walk_iter hr.1 ok hn lt) (Nat.le_trans m12.size hr.2.1.size) hr.1.lt (wk_lens hm) (by omega) FrK.mk (wd_start hm hr h2 hnb2 (by omega) (by omega) (by omega) m12))
  | true =>
    refine wpIn_cond_true rfl ?_
    have m3 := hr.2.1
    have m13 := m12.then0 m3
    refine wpIn_tl (d := .region 4 (opsC 4 Try.f21) false) (by kernel_rfl) ?_
    refine RW.wpIn (wd4 (Back_any (hm.keep0 m13) (hf.keep m13 (fun _ _ x => x)) (ht.keep m13 (fun _ _ x => x)) lx lt) ?_) (by kernel_rfl)
    intros
    rename_i m' bf' bt' fv2 tv2 w4 hr2
    refine then_n ?_
    have e : wlk (pgs R) xs ts true = (wkL R xs ts).reverse.map EV.ent := by
      rw [List.map_reverse]
      exact congrArg List.reverse (ents_wk ok xs ts).symm
    rw [e]
    exact wpIn_tl (by kernel_rfl) (walked_tail (enters_of Try.func57 (by kernel_rfl) rfl) (back_iter hr2.1 ok hn lt (by omega)) (Nat.le_trans m13.size hr2.2.1.size) hr2.1.lt (fun e he => wk_lens hm e (List.mem_reverse.1 he)) (by rw [List.length_reverse]; omega) FrK.mk (wd_start hm hr2 (m3.heap h2 (fun x => x)) (m3.heap hnb2 (fun x => x)) (by omega) (by omega) (by omega) m13))

end Go.Proofs.Ytjlomnhngngkiaa

/- page.Map.Walk: its closure is an iterator over the entries between two keys, each key and value in new memory. -/
import Derived.Test.YtngemlpalkfjeaaPgI
import Derived.Shelf.Abstract
namespace Go.Proofs.Ytngemlpalkfjeaa
open Go.Gl Go.RowKit
set_option linter.unusedVariables false
set_option maxRecDepth 100000
def under (ts : List UInt8) (e : EV) : Bool := ts.isEmpty || lessB e.k ts
def wkL (R : List PV) (xs ts : List UInt8) : List EV := (risL R xs).takeWhile (under ts)
theorem wkL_le (R : List PV) (xs ts : List UInt8) : (wkL R xs ts).length ≤ (risL R xs).length := List.Sublist.length_le (List.takeWhile_sublist _)
theorem takeWhile_get {α : Type} (p : α → Bool) (l : List α) : ∀ (i : Nat) (e : α), i ≤ (l.takeWhile p).length → l[i]? = some e → (p e = true ↔ i < (l.takeWhile p).length) ∧ (i < (l.takeWhile p).length → (l.takeWhile p)[i]? = some e) := by
  induction l with
  | nil => intro i e _ h; simp at h
  | cons a l ih =>
    intro i e hi he
    rw [List.takeWhile_cons] at hi ⊢
    cases hp : p a with
    | true =>
      rw [hp] at hi
      simp only [if_true] at hi ⊢
      rcases i with _ | i
      · obtain rfl : a = e := by simpa using he
        exact ⟨⟨fun _ => by simp, fun _ => hp⟩, fun _ => rfl⟩
      · obtain ⟨h1, h2⟩ := ih i e (by simpa using hi) (by simpa using he)
        exact ⟨⟨fun h => (by have := h1.1 h; simp; omega), fun h => h1.2 (by simpa using h)⟩, fun h => (by simpa using h2 (by simpa using h))⟩
    | false =>
      rw [hp] at hi
      simp only [Bool.false_eq_true, if_false, List.length_nil, Nat.le_zero] at hi ⊢
      subst hi
      obtain rfl : a = e := by simpa using he
      exact ⟨⟨fun h => (by rw [hp] at h; cases h), fun h => (by omega)⟩, fun h => (by omega)⟩
def AWk (B : Nat) (L : List EV) (i : Nat) (U : Nat → Prop) (args : Array Value) (W : World) : Prop :=
  ∃ e kv vv, L[i]? = some e ∧ args = #[kv, vv] ∧ Gl.Own W kv e.k ∧ Gl.Own W vv e.v ∧ (∀ k, kv.ownBlock = some k → ¬ U k) ∧ (∀ k, vv.ownBlock = some k → ¬ U k) ∧ (∀ k, kv.ownBlock = some k → vv.ownBlock ≠ some k) ∧ (∀ k, kv.ownBlock = some k → B ≤ k) ∧ (∀ k, vv.ownBlock = some k → B ≤ k)
theorem own_cells {W : World} {v : Value} {xs : List UInt8} (h : Gl.Own W v xs) {k : Nat} (hk : v.ownBlock = some k) : ∃ o, W.heap[k]? = some o ∧ o.isCells = true := by
  rcases h.2 with ⟨rfl, _⟩ | ⟨g, off, cap, cur, rfl, hg, _⟩
  · simp [Value.ownBlock] at hk
  · simp [Value.ownBlock] at hk
    subst hk
    exact ⟨_, hg, rfl⟩
theorem argsOk_wk (B : Nat) (L : List EV) : ArgsOk (AWk B L) := by
  rintro i U args W l o ⟨e, kv, vv, h1, h2, h3, h4, h5, h6, h7, h8, h9⟩ hl hc
  have key : ∀ {v : Value} {xs : List UInt8}, Gl.Own W v xs → v.ownBlock ≠ some l := fun h hk => by
    obtain ⟨o', ho, hc'⟩ := own_cells h hk
    rw [hl] at ho
    cases ho
    rw [hc] at hc'
    cases hc'
  exact ⟨e, kv, vv, h1, h2, h3, h4, fun k hk hu => by rcases hu with hu | rfl; exact h5 k hk hu; exact key h3 hk, fun k hk hu => by rcases hu with hu | rfl; exact h6 k hk hu; exact key h4 hk, h7, h8, h9⟩
theorem argsOk_ris (R : List PV) (xs : List UInt8) : ArgsOk (ARis R xs) := fun i U args W l o h _ _ => h
theorem argB_two {a b : Value} {k : Nat} (h : argB #[a, b] k) : a.ownBlock = some k ∨ b.ownBlock = some k := by
  obtain ⟨v, hv, hk⟩ := h
  have : v = a ∨ v = b := by simpa using hv
  rcases this with rfl | rfl
  · exact .inl hk
  · exact .inr hk
def UWk (g : Nat) (vo : Value) (R : List PV) (m bf bt : Nat) (fv tv : Value) (k : Nat) : Prop := URis g vo R m bf fv k ∨ k = bt ∨ tv.ownBlock = some k
structure WkPre (w : World) (g : Nat) (vo : Value) (R : List PV) (m bf bt : Nat) (fv tv : Value) (xs ts : List UInt8) : Prop where
  ris : RisPre w g vo R m bf fv xs
  bt : ∃ t, w.heap[bt]? = some (.cells #[tv] t (0, 0))
  tv : Gl.Own w tv ts
theorem WkPre.keep {w w' : World} {g : Nat} {vo : Value} {R : List PV} {m bf bt : Nat} {fv tv : Value} {xs ts : List UInt8} (h : WkPre w g vo R m bf bt fv tv xs ts) (hm : Mods (fun k => ¬ UWk g vo R m bf bt fv tv k) w w') : WkPre w' g vo R m bf bt fv tv xs ts := by
  obtain ⟨t1, h1⟩ := h.bt
  exact ⟨h.ris.keep (hm.mono (fun k _ hk x => hk (.inl x))), ⟨t1, hm.heap h1 (fun x => x (.inr (.inl rfl)))⟩, h.tv.keep hm (fun k hk x => x (.inr (.inr hk)))⟩
theorem WkPre.lt {w : World} {g : Nat} {vo : Value} {R : List PV} {m bf bt : Nat} {fv tv : Value} {xs ts : List UInt8} (h : WkPre w g vo R m bf bt fv tv xs ts) : ∀ k, UWk g vo R m bf bt fv tv k → k < w.heap.size := by
  obtain ⟨t1, h1⟩ := h.bt
  rintro k (hk | rfl | hk)
  · exact h.ris.lt k hk
  · exact lt_of_heap h1
  · exact h.tv.lt k hk
def RisRes (w : World) (g : Nat) (fv : Value) (m bf : Nat) (w' : World) : Prop :=
  (∃ t, w'.heap[m]? = some (.cells #[.pointer (some ⟨g, 0, none⟩)] t (0, 0))) ∧ (∃ t, w'.heap[bf]? = some (.cells #[fv] t (0, 0))) ∧ Mods noB w w' ∧ w.heap.size ≤ m ∧ w.heap.size ≤ bf
theorem Rising_any {w : World} {g : Nat} {fv : Value} {xs : List UInt8} (hf : Rd w fv xs) :
    Calls Try.prog 61 #[.pointer (some ⟨g, 0, none⟩), fv] w fun e w' => ∃ m bf : Nat, e = .returned (.func (.func 75) #[] #[.pointer (some ⟨m, 0, none⟩), .pointer (some ⟨bf, 0, none⟩)]) ∧ RisRes w g fv m bf w' := by
  obtain ⟨a, c, rfl, _⟩ := hf.form
  clear hf
  go_enter Try.func61, Try.ntmps61
  go_wp2
  go_ret
  refine ⟨_, _, rfl, ⟨58, heap_old (heap_new w _) _⟩, ⟨32, ?_⟩, ((Mods.refl noB w).alloc _).alloc _, Nat.le_refl _, by omega⟩
  have := heap_new (w.alloc (.cells #[.pointer (some ⟨g, 0, none⟩)] 58)) (.cells #[.slice a xs.length c] 32)
  rw [World.size_alloc] at this
  exact this
theorem risL_mem {R : List PV} {xs : List UInt8} {i : Nat} {e : EV} (h : (risL R xs)[i]? = some e) : ∃ p ∈ R, e ∈ p.es := by
  have h1 : e ∈ risL R xs := List.mem_of_getElem? h
  unfold risL rest at h1
  have h2 := List.mem_of_mem_drop h1
  obtain ⟨p, hp, he⟩ := List.mem_flatMap.1 h2
  exact ⟨p, List.mem_of_mem_drop hp, he⟩
def UoW (UW : Nat → Prop) (by1 : Nat) (U : Nat → Prop) (k : Nat) : Prop := UW k ∨ U k ∨ k = by1
set_option maxHeartbeats 4000000 in
theorem walk_iter {w : World} {g : Nat} {vo : Value} {R : List PV} {m bf bt : Nat} {fv tv : Value} {xs ts : List UInt8} (h : WkPre w g vo R m bf bt fv tv xs ts) (ok : PgOk (pgs R)) (hn : R.length ≤ 1000000) (hts : ts.length ≤ 1000000) :
    Iter Try.prog 60 #[.pointer (some ⟨m, 0, none⟩), .pointer (some ⟨bf, 0, none⟩), .pointer (some ⟨bt, 0, none⟩)] (wkL R xs ts).length (AWk w.heap.size (wkL R xs ts)) (UWk g vo R m bf bt fv tv) noB w := by
  intro l J Jx W hW hJ hJx hY h0
  have pre := h.keep hW
  have hwW : w.heap.size ≤ W.heap.size := hW.size
  clear h hW
  obtain ⟨tm, hbm⟩ := pre.ris.bm
  obtain ⟨tf, hbf⟩ := pre.ris.bfr
  obtain ⟨a1, ct, htv, _⟩ := pre.tv.rd.form
  obtain ⟨UW, hUW⟩ : ∃ UW, UWk g vo R m bf bt fv tv = UW := ⟨_, rfl⟩
  rw [hUW] at h0
  have hUl : ∀ k, UW k → k < W.heap.size := fun k hk => by rw [← hUW] at hk; exact pre.lt k hk
  have keepP : ∀ A B, WkPre A g vo R m bf bt fv tv xs ts → Mods (fun k => ¬ UW k) A B → WkPre B g vo R m bf bt fv tv xs ts := fun A B hp hm => hp.keep (by rw [hUW]; exact hm)
  have SW := Lib.hid hUW
  (refine calls_marks _ Try.func60 rfl ?_; simp only [Try.ntmps60, List.size_toArray, List.length_cons, List.length_nil, Nat.reduceAdd, Nat.reduceSub, Array.replicate_succ, Array.replicate_zero, List.push_toArray, List.append_toArray, List.nil_append, List.cons_append])
  refine wpIn_seq ?_
  refine wpIn_tl (d := .region 0 (opsC 0 Try.f60) false) (by kernel_rfl) ?_
  refine RW.wpIn (wk0 ?_) (by kernel_rfl)
  intro by1 w1 hby hbO m1
  refine then_n ?_
  have pre1 := keepP _ _ pre (m1.mono (fun _ _ x => x.elim))
  refine wpIn_seq ?_
  refine wpIn_tl (d := .region 1 (opsC 1 Try.f60) false) (by kernel_rfl) ?_
  refine RW.wpIn (wk1 (cells_of (m1.heap hbm (fun x => x)) 0) (cells_of (m1.heap hbf (fun x => x)) 0) (Rising_any pre1.ris.fr.rd) ?_) (by kernel_rfl)
  intros
  rename_i ma bq w2 hres
  obtain ⟨⟨t1, e1⟩, ⟨t2, e2⟩, m2, s1, s2⟩ := hres
  refine then_n ?_
  have m12 := m1.then0 m2
  have pre2 := keepP _ _ pre (m12.mono (fun _ _ x => x.elim))
  have rp : RisPre w2 g vo R ma bq fv xs := ⟨pre2.ris.pm, ⟨_, e1⟩, ⟨_, e2⟩, pre2.ris.fr⟩
  have hbO2 := m2.heap hbO (fun x => x)
  have hby2 : by1 < w2.heap.size := lt_of_heap hbO2
  have hs12 : W.heap.size ≤ w2.heap.size := m12.size
  have hUo : ∀ U : Nat → Prop, (∀ k, U k → k < w2.heap.size) → ∀ k, UoW UW by1 U k → k < w2.heap.size := fun U hU k hk => by
    rcases hk with hk | hk | rfl
    · have := hUl k hk; omega
    · exact hU k hk
    · exact hby2
  -- the blocks of the inner iterator, seen from the outer walk
  have hsub0 : ∀ k, UoW UW by1 (URis g vo R ma bq fv) k → UW k ∨ W.heap.size ≤ k := fun k hk => by
    rcases hk with hk | hk | rfl
    · exact .inl hk
    · rcases hk with hk | hk | rfl | rfl | hk
      · exact .inl (by rw [← SW.out]; exact .inl (.inl hk))
      · exact .inl (by rw [← SW.out]; exact .inl (.inr (.inl hk)))
      · right; have := m1.size; omega
      · right; have := m1.size; omega
      · exact .inl (by rw [← SW.out]; exact .inl (.inr (.inr (.inr (.inr hk)))))
    · right; omega
  have h2 : J 0 (UoW UW by1 (URis g vo R ma bq fv)) w2 := hJ _ _ _ _ _ h0 (m12.mono (fun _ _ x => x.elim)) hUl hsub0
  -- what the range keeps
  have frm : ∀ (X : Nat → (Nat → Prop) → World → Prop), Frm W.heap.size noB X → ∀ i U U' A B, X i (UoW UW by1 U) A → w2.heap.size ≤ A.heap.size → Mods (fun k => U k ∧ (noB k ∨ w2.heap.size ≤ k)) A B → (∀ k, U k → k < A.heap.size) → (∀ k, U' k → U k ∨ A.heap.size ≤ k) → X i (UoW UW by1 U') B := fun X hX i U U' A B hx hsz hm hus hsub => by
    refine hX _ _ _ _ _ hx (hm.mono (fun k _ hk => ⟨.inr (.inl hk.1), hk.2.imp id (fun h => by omega)⟩)) (fun k hk => ?_) (fun k hk => ?_)
    · rcases hk with hk | hk | rfl
      · have := hUl k hk; omega
      · exact hus k hk
      · omega
    · rcases hk with hk | hk | hk
      · exact .inl (.inl hk)
      · exact (hsub k hk).imp (fun h => .inr (.inl h)) id
      · exact .inl (.inr (.inr hk))
  have keep2 : ∀ (U : Nat → Prop) (A B : World), Mods (fun k => U k ∧ (noB k ∨ w2.heap.size ≤ k)) A B → WkPre A g vo R m bf bt fv tv xs ts ∧ A.heap[by1]? = some (.cells #[.func (.yield l) #[] #[]] 46 (0, 0)) → WkPre B g vo R m bf bt fv tv xs ts ∧ B.heap[by1]? = some (.cells #[.func (.yield l) #[] #[]] 46 (0, 0)) := fun U A B hm hp => by
    refine ⟨keepP _ _ hp.1 (hm.mono (fun k _ hk hu => ?_)), hm.heap hp.2 (fun hk => ?_)⟩
    · rcases hk.2 with h | h
      · exact h
      · have := hUl k hu; omega
    · rcases hk.2 with h | h
      · exact h
      · omega
  refine wpIn_block ?_
  refine wpIn_range0 (by rfl) (enters_of Try.func75 (by kernel_rfl) rfl) (rising_iter rp ok hn) (Mods.refl _ _) rp.lt (argsOk_ris R xs) (fun i U args W1 hA => by obtain ⟨e, _, rfl⟩ := hA; rfl)
    (fun i U Wr => i ≤ (wkL R xs ts).length ∧ J i (UoW UW by1 U) Wr ∧ (WkPre Wr g vo R m bf bt fv tv xs ts ∧ Wr.heap[by1]? = some (.cells #[.func (.yield l) #[] #[]] 46 (0, 0))) ∧ w2.heap.size ≤ Wr.heap.size)
    (fun c i U Wr => c = .ret ∧ ((i = (wkL R xs ts).length + 1 ∧ J (wkL R xs ts).length (UoW UW by1 U) Wr) ∨ (∃ j, i = j + 1 ∧ j < (wkL R xs ts).length ∧ Jx (j + 1) (UoW UW by1 U) Wr)) ∧ w2.heap.size ≤ Wr.heap.size)
    ?_ ?_ ⟨Nat.zero_le _, h2, ⟨pre2, hbO2⟩, Nat.le_refl _⟩ ?_ ?_ ?_
  · rintro i U U' A B ⟨h1, h2, h3, h4⟩ hm hus hsub
    exact ⟨h1, frm J hJ _ _ _ _ _ h2 h4 hm hus hsub, keep2 U _ _ hm h3, Nat.le_trans h4 hm.size⟩
  · rintro c i U U' A B ⟨h1, h2, h4⟩ hm hus hsub
    refine ⟨h1, h2.imp (fun x => ⟨x.1, frm J hJ _ _ _ _ _ x.2 h4 hm hus hsub⟩) (fun ⟨j, x1, x2, x3⟩ => ⟨j, x1, x2, frm Jx hJx _ _ _ _ _ x3 h4 hm hus hsub⟩), Nat.le_trans h4 hm.size⟩
  · -- one round
    intro lp i U args Wr hlp hUlp hi ⟨hin, hJi, ⟨hpr, hbyr⟩, hszr⟩ ⟨e, hei, hargs⟩ hUs _ _ _ _
    subst hargs
    obtain ⟨hq1, hq2⟩ := takeWhile_get (under ts) (risL R xs) i e hin hei
    obtain ⟨pg1, hpg1, hepg⟩ := risL_mem hei
    have he1 := hpr.ris.pm.ents pg1 hpg1 e hepg
    obtain ⟨ak, ck, hak, _⟩ := he1.k.form
    obtain ⟨av, cv, hav, _⟩ := he1.v.form
    simp only [putArgs, List.setIfInBounds_toArray, List.set_cons_succ, List.set_cons_zero]
    refine wpIn_tl (d := .region 2 (opsC 2 Try.f60) false) (by kernel_rfl) ?_
    refine RW.wpIn (wk2 (u := e.kv) (v := e.vv) (by rw [hak]; rfl) (by rw [hav]; rfl) ?_) (by kernel_rfl)
    intro bx w3 hbx hbxO m3
    refine then_n ?_
    refine ⟨m3.mono (fun _ _ x => x.elim), ?_⟩
    intro w4 m4 _
    have hxl : bx ≠ lp := fun e => by have := hUs lp hUlp; omega
    have hbx4 := m4.heap hbxO hxl
    have m34 := m3.trans m4 (U := fun k => k = lp) (fun _ _ x => x.elim) (fun _ _ x => x)
    have hkl : Mods (fun k => U k ∧ (noB k ∨ w2.heap.size ≤ k)) Wr w4 := m34.mono (fun k _ hk => by subst hk; exact ⟨hUlp, .inr hlp⟩)
    obtain ⟨hp4, hby4⟩ := keep2 U _ _ hkl ⟨hpr, hbyr⟩
    have hJ4 := frm J hJ _ _ _ _ _ hJi hszr hkl hUs (fun k hk => .inl hk)
    have hsz4 := Nat.le_trans hszr m34.size
    have he4 := hp4.ris.pm.ents pg1 hpg1 e hepg
    have hUs4 : ∀ k, U k → k < w4.heap.size := fun k hk => Nat.lt_of_lt_of_le (hUs k hk) m34.size
    have hUo4 : ∀ k, UoW UW by1 U k → k < w4.heap.size := fun k hk => by
      rcases hk with hk | hk | rfl
      · have := hUl k hk; omega
      · exact hUs4 k hk
      · omega
    have hbt4 : w4.cell? ⟨bt, 0, none⟩ = some (.slice a1 ts.length ct) := by obtain ⟨t, ht⟩ := hp4.bt; rw [← htv]; exact cells_of ht 0
    have hbtl : bt < w4.heap.size := by obtain ⟨t, ht⟩ := hp4.bt; exact lt_of_heap ht
    have htr : Rd w4 (.slice a1 ts.length ct) ts := by rw [← htv]; exact hp4.tv.rd
    have hbyc : w4.cell? ⟨by1, 0, none⟩ = some (.func (.yield l) #[] #[]) := cells_of hby4 0
    have hbyl : by1 < w4.heap.size := lt_of_heap hby4
    clear hpr hbyr hJi hbxO m3 hkl he1
    refine wpIn_block ?_
    refine wpIn_seq ?_
    refine wpIn_tl (d := .region 3 (opsC 3 Try.f60) true) (by kernel_rfl) ?_
    -- behind the two copies: yield, and what follows
    have go : ∀ (hu : under ts e = true) (d1 d2 : Value) (w5 : World), Gl.Own w5 d1 e.k → Gl.Own w5 d2 e.v → freshIn w4 d1 → freshIn w4 d2 → (∀ k, d1.ownBlock = some k → d2.ownBlock ≠ some k) → Mods noB w4 w5 →
        YAt Try.prog l #[d1, d2] w5 fun r w6 => (r = .returned (.bool true) ∧ (i + 1 ≤ (wkL R xs ts).length ∧ J (i + 1) (UoW UW by1 U) w6 ∧ (WkPre w6 g vo R m bf bt fv tv xs ts ∧ w6.heap[by1]? = some (.cells #[.func (.yield l) #[] #[]] 46 (0, 0))) ∧ w2.heap.size ≤ w6.heap.size) ∧ Mods (fun k => ¬ U k) w4 w6) ∨
          (r = .returned (.bool false) ∧ (i < (wkL R xs ts).length ∧ Jx (i + 1) (UoW UW by1 U) w6) ∧ Mods (fun k => ¬ U k) w4 w6 ∧ w2.heap.size ≤ w6.heap.size) := by
      intro hu d1 d2 w5 o1 o2 f1 f2 dd m5
      have hlt := hq1.1 hu
      have hJ5 := frm J hJ _ _ _ _ _ hJ4 hsz4 (m5.mono (fun _ _ x => x.elim)) hUs4 (fun k hk => .inl hk)
      have hY5 := hY i (UoW UW by1 U) #[d1, d2] w5 hlt hJ5 ⟨e, d1, d2, hq2 hlt, rfl, o1, o2, fun k hk hu => by have := f1 k hk; have := hUo4 k hu; omega, fun k hk hu => by have := f2 k hk; have := hUo4 k hu; omega, dd, fun k hk => by have := f1 k hk; omega, fun k hk => by have := f2 k hk; omega⟩ (fun k hk => Nat.lt_of_lt_of_le (hUo4 k hk) m5.size) (by have := m5.size; omega)
        (hJ _ _ _ _ _ hJ4 (m5.mono (fun _ _ x => x.elim)) hUo4 (fun k hk => hk.imp id (fun h => by rcases argB_two h with h | h; exact f1 k h; exact f2 k h))) (fun k hk => by rcases argB_two hk with h | h; exact o1.lt k h; exact o2.lt k h)
      obtain ⟨fn, tm, asg, bd, hy, hR⟩ := hY5
      refine ⟨fn, tm, asg, bd, hy, hR.mono ?_⟩
      rintro r w6 (⟨rfl, k1, k2⟩ | ⟨rfl, k1, k2⟩)
      · have k3 := (m5.trans k2 (U := fun k => ¬ UoW UW by1 U k) (fun _ _ x => x.elim) (fun _ _ x => x))
        refine .inl ⟨rfl, ⟨hlt, k1, ⟨keepP _ _ hp4 (k3.mono (fun k _ hk hu => hk (.inl hu))), k3.heap hby4 (fun hk => hk (.inr (.inr rfl)))⟩, Nat.le_trans hsz4 k3.size⟩, k3.mono (fun k _ hk hu => hk (.inr (.inl hu)))⟩
      · have k3 := (m5.trans k2 (U := fun k => ¬ UoW UW by1 U k) (fun _ _ x => x.elim) (fun _ _ x => x))
        exact .inr ⟨rfl, ⟨hlt, k1⟩, k3.mono (fun k _ hk hu => hk (.inr (.inl hu))), Nat.le_trans hsz4 k3.size⟩
    by_cases hte : ts = []
    · have hu : under ts e = true := by rw [hte]; rfl
      refine wpIn_region_yieldA (Q1 := fun _ a' w' => wpOpsIn _ _ _ _ _ _ a' w') 18 (by kernel_rfl) (wk3a hbx4 hbt4 hbtl he4.k he4.v htr he4.lk he4.lv hte hbyc hbyl ?_) (fun _ _ h => h)
      intros
      rename_i d1 d2 w5 o1 o2 f1 f2 dd m5
      refine wpOpsIn_yield (some 28) ⟨by kernel_rfl, by kernel_rfl, by kernel_rfl⟩ (by kernel_rfl) (by kernel_rfl) (go hu d1 d2 w5 o1 o2 f1 f2 dd m5) ?_
      rintro r w6 (⟨rfl, k1, k2⟩ | ⟨rfl, k1, k2, k3⟩)
      · refine ⟨_, rfl, ?_⟩
        refine wpOpsIn_val (.bool false) (some 29) ⟨by kernel_rfl, by kernel_rfl, by kernel_rfl⟩ (by kernel_rfl) (by kernel_rfl) ?_
        refine wpOpsIn_val (.bool false) (some 30) ⟨by kernel_rfl, by kernel_rfl, by kernel_rfl⟩ (by kernel_rfl) (by kernel_rfl) ?_
        refine then_n ?_
        refine wpIn_cond_false rfl ?_
        refine wpIn_skip ?_
        refine block_n ?_
        exact ⟨k2, k1⟩
      · refine ⟨_, rfl, ?_⟩
        refine wpOpsIn_val (.bool true) (some 29) ⟨by kernel_rfl, by kernel_rfl, by kernel_rfl⟩ (by kernel_rfl) (by kernel_rfl) ?_
        refine wpOpsIn_val (.bool true) (some 30) ⟨by kernel_rfl, by kernel_rfl, by kernel_rfl⟩ (by kernel_rfl) (by kernel_rfl) ?_
        refine then_n ?_
        refine wpIn_cond_true rfl ?_
        refine wpIn_ret ?_
        repeat (first | refine then_r ?_ | refine block_r ?_)
        exact ⟨k2, rfl, .inr ⟨i, rfl, k1.1, k1.2⟩, k3⟩
    · have hemp : ts.isEmpty = false := by cases ts with | nil => exact absurd rfl hte | cons a b => rfl
      by_cases hcmp : 0 ≤ Lib.compareBytes e.k ts
      · have hu : ¬ under ts e = true := by
          unfold under
          rw [hemp, Bool.false_or, ← cmp_lt]
          simpa using hcmp
        have hie : i = (wkL R xs ts).length := by
          have : ¬ i < (wkL R xs ts).length := fun h => hu (hq1.2 h)
          omega
        refine RW.wpIn (wk3s (l := l) hbx4 hbt4 hbtl he4.k he4.v htr he4.lk he4.lv hte hcmp ?_) (by kernel_rfl)
        intros
        rename_i w5 m5
        refine then_n ?_
        refine wpIn_cond_true rfl ?_
        refine wpIn_ret ?_
        repeat (first | refine then_r ?_ | refine block_r ?_)
        have hJ5 := frm J hJ _ _ _ _ _ hJ4 hsz4 (m5.mono (fun _ _ x => x.elim)) hUs4 (fun k hk => .inl hk)
        rw [hie] at hJ5
        exact ⟨m5.mono (fun _ _ x => x.elim), rfl, .inl ⟨by rw [hie], hJ5⟩, Nat.le_trans hsz4 m5.size⟩
      · have hu : under ts e = true := by
          unfold under
          rw [hemp, Bool.false_or, ← cmp_lt]
          simpa using hcmp
        refine wpIn_region_yieldA (Q1 := fun _ a' w' => wpOpsIn _ _ _ _ _ _ a' w') 18 (by kernel_rfl) (wk3b hbx4 hbt4 hbtl he4.k he4.v htr he4.lk he4.lv hte hcmp hbyc hbyl ?_) (fun _ _ h => h)
        intros
        rename_i d1 d2 w5 o1 o2 f1 f2 dd m5
        refine wpOpsIn_yield (some 28) ⟨by kernel_rfl, by kernel_rfl, by kernel_rfl⟩ (by kernel_rfl) (by kernel_rfl) (go hu d1 d2 w5 o1 o2 f1 f2 dd m5) ?_
        rintro r w6 (⟨rfl, k1, k2⟩ | ⟨rfl, k1, k2, k3⟩)
        · refine ⟨_, rfl, ?_⟩
          refine wpOpsIn_val (.bool false) (some 29) ⟨by kernel_rfl, by kernel_rfl, by kernel_rfl⟩ (by kernel_rfl) (by kernel_rfl) ?_
          refine wpOpsIn_val (.bool false) (some 30) ⟨by kernel_rfl, by kernel_rfl, by kernel_rfl⟩ (by kernel_rfl) (by kernel_rfl) ?_
          refine then_n ?_
          refine wpIn_cond_false rfl ?_
          refine wpIn_skip ?_
          refine block_n ?_
          exact ⟨k2, k1⟩
        · refine ⟨_, rfl, ?_⟩
          refine wpOpsIn_val (.bool true) (some 29) ⟨by kernel_rfl, by kernel_rfl, by kernel_rfl⟩ (by kernel_rfl) (by kernel_rfl) ?_
          refine wpOpsIn_val (.bool true) (some 30) ⟨by kernel_rfl, by kernel_rfl, by kernel_rfl⟩ (by kernel_rfl) (by kernel_rfl) ?_
          refine then_n ?_
          refine wpIn_cond_true rfl ?_
          refine wpIn_ret ?_
          repeat (first | refine then_r ?_ | refine block_r ?_)
          exact ⟨k2, rfl, .inr ⟨i, rfl, k1.1, k1.2⟩, k3⟩
  · -- all have come
    rintro D U W5 hD hUD hus ⟨h1, h2, h3, h4⟩ hdef
    refine block_n ?_
    refine marks_leave hdef (results_none rfl _ _ _) ?_
    have hj : (risL R xs).length = (wkL R xs ts).length := by have := wkL_le R xs ts; omega
    rw [hj] at h2
    have hD5 := lt_of_heap hdef
    refine ⟨⟨_, rfl⟩, .inl ⟨UoW UW by1 U, frm J hJ _ _ _ _ _ h2 h4 ((putObj_mods W5 D _).mono (fun k _ hk => by subst hk; exact ⟨hUD, .inr hD⟩)) hus (fun k hk => .inl hk), fun k hk => ?_⟩⟩
    rw [World.putObj_size]
    rcases hk with hk | hk | rfl
    · have := hUl k hk; omega
    · exact hus k hk
    · omega
  · -- a round has left
    rintro D c i U W5 hD hUD hus hi ⟨rfl, h2, h4⟩ hdef
    have hbd : ∀ k, UoW UW by1 U k → k < (W5.putObj D (.deferred none)).heap.size := fun k hk => by
      rw [World.putObj_size]
      rcases hk with hk | hk | rfl
      · have := hUl k hk; omega
      · exact hus k hk
      · omega
    have hmD : Mods (fun k => U k ∧ (noB k ∨ w2.heap.size ≤ k)) W5 (W5.putObj D (.deferred none)) := (putObj_mods W5 D _).mono (fun k _ hk => by subst hk; exact ⟨hUD, .inr hD⟩)
    refine wpIn_ret ?_
    refine block_r ?_
    refine marks_leave hdef (results_none rfl _ _ _) ?_
    rcases h2 with ⟨_, h2⟩ | ⟨j, hj, hjl, h2⟩
    · exact ⟨⟨_, rfl⟩, .inl ⟨UoW UW by1 U, frm J hJ _ _ _ _ _ h2 h4 hmD hus (fun k hk => .inl hk), hbd⟩⟩
    · exact ⟨⟨_, rfl⟩, .inr ⟨j, UoW UW by1 U, hjl, frm Jx hJx _ _ _ _ _ h2 h4 hmD hus (fun k hk => .inl hk), hbd⟩⟩
end Go.Proofs.Ytngemlpalkfjeaa

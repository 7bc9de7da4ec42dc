/- page.Map.Back: its closure is an iterator over the same entries, falling. -/
import Derived.Test.YtjlomnhngngkiaaPgB0
namespace Go.Proofs.Ytjlomnhngngkiaa
open Go.Gl Go.RowKit
set_option linter.unusedVariables false
set_option maxRecDepth 100000

/-- the outer walk's blocks while the list grows -/
def UoB (UW : Nat → Prop) (bl : Nat) (v : Value) (U : Nat → Prop) (k : Nat) : Prop := UW k ∨ U k ∨ k = bl ∨ v.ownBlock = some k
theorem wkL_get {R : List PV} {xs ts : List UInt8} {i : Nat} {e : EV} (h : (wkL R xs ts)[i]? = some e) : ∃ p ∈ R, e ∈ p.es := by
  have h1 : e ∈ wkL R xs ts := List.mem_of_getElem? h
  have h2 : e ∈ risL R xs := (List.takeWhile_sublist _).subset h1
  obtain ⟨i', hi'⟩ := List.mem_iff_getElem?.1 h2
  exact risL_mem hi'
theorem takeWhile_take {α : Type} (p : α → Bool) (l : List α) (i : Nat) (h : i ≤ (l.takeWhile p).length) : l.take i = (l.takeWhile p).take i := by
  have h1 := List.takeWhile_append_dropWhile (p := p) (l := l)
  conv => lhs; rw [← h1]
  rw [List.take_append_of_le_length h]

/-- what the collecting keeps, i entries having come -/
def BkI (W w2 : World) (g : Nat) (vo : Value) (R : List PV) (m bf bt : Nat) (fv tv : Value) (xs ts : List UInt8) (UW : Nat → Prop) (bl : Nat) (tl0 : TypeId) (J : Nat → (Nat → Prop) → World → Prop) (i : Nat) (U : Nat → Prop) (Wr : World) : Prop :=
  (∃ v, Wr.heap[bl]? = some (.cells #[v] tl0 (0, 0)) ∧ OwnG Wr 63 2 v i (ecell ((wkL R xs ts).take i)) ∧ (∀ k, v.ownBlock = some k → W.heap.size ≤ k ∧ ¬ U k ∧ k ≠ bl) ∧ J 0 (UoB UW bl v U) Wr) ∧ ¬ U bl ∧ WkPre Wr g vo R m bf bt fv tv xs ts ∧ w2.heap.size ≤ Wr.heap.size

/-- what the giving back leans on -/
structure BkT (g : Nat) (vo : Value) (R : List PV) (m bf bt : Nat) (fv tv : Value) (xs ts : List UInt8) (bl D : Nat) (v : Value) (UB : Nat → Prop) (wr : World) : Prop where
  box : wr.heap[bl]? = some (.cells #[v] 64 (0, 0))
  own : OwnG wr 63 2 v (wkL R xs ts).length (ecell (wkL R xs ts))
  pre : WkPre wr g vo R m bf bt fv tv xs ts
  df : wr.heap[D]? = some (.deferred (some []))
  lt : ∀ k, UB k → k < wr.heap.size
theorem BkT.keep {g : Nat} {vo : Value} {R : List PV} {m bf bt : Nat} {fv tv : Value} {xs ts : List UInt8} {bl D : Nat} {v : Value} {UB : Nat → Prop} {A B : World} (h : BkT g vo R m bf bt fv tv xs ts bl D v UB A) (hm : Mods (fun k => ¬ UB k) A B)
    (h1 : UB bl) (h2 : ∀ k, v.ownBlock = some k → UB k) (h3 : ∀ k, UWk g vo R m bf bt fv tv k → UB k) (h4 : UB D) : BkT g vo R m bf bt fv tv xs ts bl D v UB B :=
  ⟨hm.heap h.box (fun x => x h1), h.own.keep hm (fun k hk x => x (h2 k hk)), h.pre.keep (hm.mono (fun k _ hk x => hk (h3 k x))), hm.heap h.df (fun x => x h4), fun k hk => Nat.lt_of_lt_of_le (h.lt k hk) hm.size⟩

set_option maxHeartbeats 4000000 in
theorem back_tail {l SZ B : Nat} {g : Nat} {vo : Value} {R : List PV} {m bf bt : Nat} {fv tv : Value} {xs ts : List UInt8} {bl D : Nat} {v : Value} {UB : Nat → Prop} {J Jx : Nat → (Nat → Prop) → World → Prop} {W5 : World} {a : Act} (hwl : (wkL R xs ts).length ≤ 100000000)
    (hBS : B ≤ SZ) (hJ : Frm SZ noB J) (hJx : Frm SZ noB Jx)
    (hY : ∀ i U args W1, i < (wkL R xs ts).reverse.length → J i U W1 → AWk B (wkL R xs ts).reverse i U args W1 → (∀ k, U k → k < W1.heap.size) → SZ ≤ W1.heap.size → J i (fun k => U k ∨ argB args k) W1 → (∀ k, argB args k → k < W1.heap.size) → YAt Try.prog l args W1 fun e W' =>
      (e = .returned (.bool true) ∧ J (i + 1) U W' ∧ Mods (fun k => ¬ U k) W1 W') ∨ (e = .returned (.bool false) ∧ Jx (i + 1) U W' ∧ Mods (fun k => ¬ U k) W1 W'))
    (hfr : FrB [{ target := .collected D, args := #[] }] (.func (.yield l) #[] #[]) (.pointer (some ⟨m, 0, none⟩)) (.pointer (some ⟨bf, 0, none⟩)) (.pointer (some ⟨bt, 0, none⟩)) (.pointer (some ⟨bl, 0, none⟩)) undef a)
    (hT : BkT g vo R m bf bt fv tv xs ts bl D v UB W5) (h1 : UB bl) (h2 : ∀ k, v.ownBlock = some k → UB k) (h3 : ∀ k, UWk g vo R m bf bt fv tv k → UB k) (h4 : UB D) (h5 : SZ ≤ D) (h6 : SZ ≤ W5.heap.size) (h0 : J 0 UB W5) :
    Code.wpIn (WF none) 3 Try.prog (.seq (.region 5 (opsC 5 Try.f57) false) (.block 2 (.loop (.seq (.seq (.region 6 (opsC 6 Try.f57) false) (.cond (.tmp 30) .skip (.exit 2))) (.seq (.block 3 (.seq (.region 8 (opsC 8 Try.f57) true) (.cond (.tmp 47) .ret .skip))) (.region 7 (opsC 7 Try.f57) false))))))
      (bodyPostM (WF none) 3 Try.prog Try.f57 fun e W' => (∃ v, e = .returned v) ∧ ((∃ U, J (wkL R xs ts).reverse.length U W' ∧ ∀ k, U k → k < W'.heap.size) ∨ (∃ i U, i < (wkL R xs ts).reverse.length ∧ Jx (i + 1) U W' ∧ ∀ k, U k → k < W'.heap.size))) a W5 := by
  have putD : ∀ (X : Nat → (Nat → Prop) → World → Prop), Frm SZ noB X → ∀ i wr, X i UB wr → BkT g vo R m bf bt fv tv xs ts bl D v UB wr → X i UB (wr.putObj D (.deferred none)) := fun X hX i wr hx ht => hX _ _ _ _ _ hx ((putObj_mods wr D _).mono (fun k _ hk => by subst hk; exact ⟨h4, .inr h5⟩)) ht.lt (fun k hk => .inl hk)
  have boundD : ∀ wr, BkT g vo R m bf bt fv tv xs ts bl D v UB wr → ∀ k, UB k → k < (wr.putObj D (.deferred none)).heap.size := fun wr ht k hk => by rw [World.putObj_size]; exact ht.lt k hk
  have hrl : (wkL R xs ts).reverse.length = (wkL R xs ts).length := List.length_reverse
  obtain ⟨n, hn⟩ : ∃ n, (wkL R xs ts).length = n := ⟨_, rfl⟩
  have HN := Lib.hid hn
  rw [hn] at hwl hrl
  rw [hrl] at hY ⊢
  refine hfr.elim (C := fun a => Code.wpIn _ _ _ _ _ a _) ?_
  intros
  obtain ⟨av, cv, hav, _⟩ := hT.own.rd.form
  rw [hn] at hav
  refine wpIn_seq ?_
  refine RW.wpIn (bk5 (ao := av) (n := n) (c := cv) (by rw [← hav]; exact cells_of hT.box 0) hwl ?_) (by kernel_rfl)
  intros
  rename_i hw
  subst hw
  refine then_n ?_
  refine wpIn_block ?_
  refine wpIn_loop (fun a wr => ∃ t : Nat, t ≤ n ∧ FrB [{ target := .collected D, args := #[] }] (.func (.yield l) #[] #[]) (.pointer (some ⟨m, 0, none⟩)) (.pointer (some ⟨bf, 0, none⟩)) (.pointer (some ⟨bt, 0, none⟩)) (.pointer (some ⟨bl, 0, none⟩)) (.int .i64 ((t : Int) - 1)) a ∧ J (n - t) UB wr ∧ BkT g vo R m bf bt fv tv xs ts bl D v UB wr ∧ SZ ≤ wr.heap.size)
    (fun a _ => (intOf (a.tmps.getD 7 undef) + 1).toNat) ⟨n, Nat.le_refl _, FrB.mk, by rw [Nat.sub_self]; exact h0, hT, h6⟩ ?_
  clear h0 hT h6
  rintro a wr ⟨t, htn, hfr, hJt, hT, hsz⟩
  have g7 : a.tmps.getD 7 undef = .int .i64 ((t : Int) - 1) := hfr.elim (C := fun a => a.tmps.getD 7 undef = .int .i64 ((t : Int) - 1)) (by intros; rfl)
  refine hfr.elim (C := fun a => Code.wpIn _ _ _ _ _ a _) ?_
  intros
  refine wpIn_seq ?_
  refine wpIn_seq ?_
  by_cases h0 : t = 0
  · subst h0
    refine RW.wpIn (bk6f (by omega) ?_) (by kernel_rfl)
    intros
    rename_i hw
    subst hw
    refine then_n ?_
    refine wpIn_cond_false rfl ?_
    refine wpIn_exit ?_
    repeat (refine then_x ?_)
    refine block_x ?_
    refine marks_leave hT.df (results_none rfl _ _ _) ?_
    exact ⟨⟨_, rfl⟩, .inl ⟨UB, putD J hJ _ _ (by rw [Nat.sub_zero] at hJt; exact hJt) hT, boundD _ hT⟩⟩
  · obtain ⟨j, rfl⟩ : ∃ j, t = j + 1 := ⟨t - 1, by omega⟩
    have ej : (((j + 1 : Nat) : Int) - 1) = ((j : Nat) : Int) := by omega
    rw [ej]
    refine RW.wpIn (bk6t (by omega) ?_) (by kernel_rfl)
    intros
    rename_i hw
    subst hw
    refine then_n ?_
    refine wpIn_cond_true rfl ?_
    refine wpIn_skip ?_
    refine then_n ?_
    refine wpIn_seq ?_
    refine wpIn_block ?_
    refine wpIn_seq ?_
    have hjl : j < (wkL R xs ts).length := by rw [HN.out]; omega
    obtain ⟨e, he⟩ : ∃ e, (wkL R xs ts)[j] = e := ⟨_, rfl⟩
    have hge : (wkL R xs ts)[j]? = some e := by rw [List.getElem?_eq_getElem hjl, he]
    obtain ⟨pg1, hpg1, hepg⟩ := wkL_get hge
    have he1 := hT.pre.ris.pm.ents pg1 hpg1 e hepg
    rcases hT.own.ob with ⟨_, hz, _⟩ | ⟨pb, po, pc, hvv, ob⟩
    · omega
    have hcs := ecell_get (wkL R xs ts) j hjl
    rw [he] at hcs
    have hbx := hT.box
    rw [hvv] at hbx
    refine wpIn_region_yieldA (Q1 := fun _ a' w' => wpOpsIn _ _ _ _ _ _ a' w') 13 (by kernel_rfl) (bk8 hbx ob hjl hcs.1 hcs.2 he1.k he1.v he1.lk he1.lv ?_) (fun _ _ h => h)
    intros
    rename_i d1 d2 w6 o1 o2 f1 f2 dd m6
    have hJ6 := hJ _ _ _ _ _ hJt (m6.mono (fun _ _ x => x.elim)) hT.lt (fun k hk => .inl hk)
    have hidx : (wkL R xs ts).reverse[n - (j + 1)]? = some e := by
      rw [List.getElem?_reverse (by omega), HN.out, show n - 1 - (n - (j + 1)) = j from by omega]
      exact hge
    have hY6 := hY (n - (j + 1)) UB #[d1, d2] w6 (by omega) hJ6 ⟨e, d1, d2, hidx, rfl, o1, o2, fun k hk hu => by have := f1 k hk; have := hT.lt k hu; omega, fun k hk hu => by have := f2 k hk; have := hT.lt k hu; omega, dd, fun k hk => by have := f1 k hk; omega, fun k hk => by have := f2 k hk; omega⟩ (fun k hk => Nat.lt_of_lt_of_le (hT.lt k hk) m6.size) (Nat.le_trans hsz m6.size)
      (hJ _ _ _ _ _ hJt (m6.mono (fun _ _ x => x.elim)) hT.lt (fun k hk => hk.imp id (fun h => by rcases argB_two h with h | h; exact f1 k h; exact f2 k h))) (fun k hk => by rcases argB_two hk with h | h; exact o1.lt k h; exact o2.lt k h)
    refine wpOpsIn_yield (some 46) ⟨by kernel_rfl, by kernel_rfl, by kernel_rfl⟩ (by kernel_rfl) (by kernel_rfl) hY6 ?_
    rintro r w7 (⟨rfl, k1, k2⟩ | ⟨rfl, k1, k2⟩)
    · have k3 := m6.trans k2 (U := fun k => ¬ UB k) (fun _ _ x => x.elim) (fun _ _ x => x)
      have hT7 := hT.keep k3 h1 h2 h3 h4
      refine ⟨_, rfl, ?_⟩
      refine wpOpsIn_val (.bool false) (some 47) ⟨by kernel_rfl, by kernel_rfl, by kernel_rfl⟩ (by kernel_rfl) (by kernel_rfl) ?_
      refine then_n ?_
      refine wpIn_cond_false rfl ?_
      refine wpIn_skip ?_
      refine block_n ?_
      refine then_n ?_
      refine RW.wpIn (bk7 (by omega) ?_) (by kernel_rfl)
      intros
      rename_i hw
      subst hw
      refine then_n ?_
      refine ⟨⟨j, by omega, FrB.mk, ?_, hT7, Nat.le_trans hsz k3.size⟩, ?_⟩
      · rw [show n - j = n - (j + 1) + 1 from by omega]; exact k1
      · rw [g7]
        show ((j : Int) - 1 + 1).toNat < (((j + 1 : Nat) : Int) - 1 + 1).toNat
        omega
    · have k3 := m6.trans k2 (U := fun k => ¬ UB k) (fun _ _ x => x.elim) (fun _ _ x => x)
      have hT7 := hT.keep k3 h1 h2 h3 h4
      refine ⟨_, rfl, ?_⟩
      refine wpOpsIn_val (.bool true) (some 47) ⟨by kernel_rfl, by kernel_rfl, by kernel_rfl⟩ (by kernel_rfl) (by kernel_rfl) ?_
      refine then_n ?_
      refine wpIn_cond_true rfl ?_
      refine wpIn_ret ?_
      repeat (first | refine then_r ?_ | refine block_r ?_)
      refine marks_leave hT7.df (results_none rfl _ _ _) ?_
      exact ⟨⟨_, rfl⟩, .inr ⟨n - (j + 1), UB, by omega, putD Jx hJx _ _ k1 hT7, boundD _ hT7⟩⟩

set_option maxHeartbeats 4000000 in
theorem back_iter {w : World} {g : Nat} {vo : Value} {R : List PV} {m bf bt : Nat} {fv tv : Value} {xs ts : List UInt8} (h : WkPre w g vo R m bf bt fv tv xs ts) (ok : PgOk (pgs R)) (hn : R.length ≤ 1000000) (hts : ts.length ≤ 1000000) (hwl : (wkL R xs ts).length ≤ 100000000) :
    Iter Try.prog 57 #[.pointer (some ⟨m, 0, none⟩), .pointer (some ⟨bf, 0, none⟩), .pointer (some ⟨bt, 0, none⟩)] (wkL R xs ts).reverse.length (AWk w.heap.size (wkL R xs ts).reverse) (UWk g vo R m bf bt fv tv) noB w := by
  intro l J Jx W hW hJ hJx hY h0
  have pre := h.keep hW
  have hwW : w.heap.size ≤ W.heap.size := hW.size
  clear h hW
  obtain ⟨tm, hbm⟩ := pre.ris.bm
  obtain ⟨tf, hbf⟩ := pre.ris.bfr
  obtain ⟨a1, ct, htv, _⟩ := pre.tv.rd.form
  obtain ⟨UW, hUW⟩ : ∃ UW, UWk g vo R m bf bt fv tv = UW := ⟨_, rfl⟩
  rw [hUW] at h0
  have hUl : ∀ k, UW k → k < W.heap.size := fun k hk => by rw [← hUW] at hk; exact pre.lt k hk
  have keepP : ∀ A B, WkPre A g vo R m bf bt fv tv xs ts → Mods (fun k => ¬ UW k) A B → WkPre B g vo R m bf bt fv tv xs ts := fun A B hp hm => hp.keep (by rw [hUW]; exact hm)
  have SW := Lib.hid hUW
  (refine calls_marks _ Try.func57 rfl ?_; simp only [Try.ntmps57, List.size_toArray, List.length_cons, List.length_nil, Nat.reduceAdd, Nat.reduceSub, Array.replicate_succ, Array.replicate_zero, List.push_toArray, List.append_toArray, List.nil_append, List.cons_append])
  refine wpIn_seq ?_
  refine wpIn_tl (d := .region 0 (opsC 0 Try.f57) false) (by kernel_rfl) ?_
  refine RW.wpIn (bk0 ?_) (by kernel_rfl)
  intro bl w1 hbl hbO m1
  refine then_n ?_
  have pre1 := keepP _ _ pre (m1.mono (fun _ _ x => x.elim))
  refine wpIn_seq ?_
  refine wpIn_seq ?_
  refine wpIn_tl (d := .region 1 (opsC 1 Try.f57) false) (by kernel_rfl) ?_
  refine RW.wpIn (bk1 (cells_of (m1.heap hbm (fun x => x)) 0) (cells_of (m1.heap hbf (fun x => x)) 0) (Rising_any pre1.ris.fr.rd) ?_) (by kernel_rfl)
  intros
  rename_i ma bq w2 hres
  obtain ⟨⟨t1, e1⟩, ⟨t2, e2⟩, m2, s1, s2⟩ := hres
  refine then_n ?_
  have m12 := m1.then0 m2
  have pre2 := keepP _ _ pre (m12.mono (fun _ _ x => x.elim))
  have rp : RisPre w2 g vo R ma bq fv xs := ⟨pre2.ris.pm, ⟨_, e1⟩, ⟨_, e2⟩, pre2.ris.fr⟩
  have hbO2 := m2.heap hbO (fun x => x)
  have hbl2 : bl < w2.heap.size := lt_of_heap hbO2
  have hs12 : W.heap.size ≤ w2.heap.size := m12.size
  have hsub0 : ∀ k, UoB UW bl (.slice none 0 0) (URis g vo R ma bq fv) k → UW k ∨ W.heap.size ≤ k := fun k hk => by
    rcases hk with hk | hk | rfl | hk
    · exact .inl hk
    · rcases hk with hk | hk | rfl | rfl | hk
      · exact .inl (by rw [← SW.out]; exact .inl (.inl hk))
      · exact .inl (by rw [← SW.out]; exact .inl (.inr (.inl hk)))
      · right; have := m1.size; omega
      · right; have := m1.size; omega
      · exact .inl (by rw [← SW.out]; exact .inl (.inr (.inr (.inr (.inr hk)))))
    · right; omega
    · simp [Value.ownBlock] at hk
  have h2 : J 0 (UoB UW bl (.slice none 0 0) (URis g vo R ma bq fv)) w2 := hJ _ _ _ _ _ h0 (m12.mono (fun _ _ x => x.elim)) hUl hsub0
  have hnotbl : ¬ URis g vo R ma bq fv bl := fun hk => by
    have hl1 : bl < w1.heap.size := lt_of_heap hbO
    rcases hk with hk | hk | hk | hk | hk
    · have := hUl bl (by rw [← SW.out]; exact .inl (.inl hk)); omega
    · have := hUl bl (by rw [← SW.out]; exact .inl (.inr (.inl hk))); omega
    · omega
    · omega
    · have := hUl bl (by rw [← SW.out]; exact .inl (.inr (.inr (.inr (.inr hk))))); omega
  -- the collecting's frame
  have frmI : ∀ i, ∀ U U' A B, BkI W w2 g vo R m bf bt fv tv xs ts UW bl 64 J i U A → Mods (fun k => U k ∧ (noB k ∨ w2.heap.size ≤ k)) A B → (∀ k, U k → k < A.heap.size) → (∀ k, U' k → U k ∨ A.heap.size ≤ k) → BkI W w2 g vo R m bf bt fv tv xs ts UW bl 64 J i U' B := by
    rintro i U U' A B ⟨⟨v, b1, b2, b3, b4⟩, b5, b6, b7⟩ hm hus hsub
    have hvl : ∀ k, v.ownBlock = some k → k < A.heap.size := fun k hk => b2.lt k hk
    have hbA := lt_of_heap b1
    refine ⟨⟨v, hm.heap b1 (fun hk => b5 hk.1), b2.keep hm (fun k hk hu => (b3 k hk).2.1 hu.1), fun k hk => ⟨(b3 k hk).1, fun hu => ?_, (b3 k hk).2.2⟩, ?_⟩, fun hu => ?_, keepP _ _ b6 (hm.mono (fun k _ hk hu => ?_)), Nat.le_trans b7 hm.size⟩
    · rcases hsub k hu with h | h
      · exact (b3 k hk).2.1 h
      · have := hvl k hk; omega
    · refine hJ _ _ _ _ _ b4 (hm.mono (fun k _ hk => ⟨.inr (.inl hk.1), hk.2.imp id (fun h => by omega)⟩)) (fun k hk => ?_) (fun k hk => ?_)
      · rcases hk with hk | hk | rfl | hk
        · have := hUl k hk; omega
        · exact hus k hk
        · exact hbA
        · exact hvl k hk
      · rcases hk with hk | hk | hk | hk
        · exact .inl (.inl hk)
        · exact (hsub k hk).imp (fun h => .inr (.inl h)) id
        · exact .inl (.inr (.inr (.inl hk)))
        · exact .inl (.inr (.inr (.inr hk)))
    · rcases hsub bl hu with h | h
      · exact b5 h
      · omega
    · rcases hk.2 with h | h
      · exact h
      · have := hUl k hu; omega
  refine wpIn_block ?_
  -- what follows the collecting
  have TAIL : ∀ (D : Nat) (U : Nat → Prop) (W5 : World), w2.heap.size ≤ D → U D → (∀ k, U k → k < W5.heap.size) → BkI W w2 g vo R m bf bt fv tv xs ts UW bl 64 J (wkL R xs ts).length U W5 → W5.heap[D]? = some (.deferred (some [])) →
      ∃ v, BkT g vo R m bf bt fv tv xs ts bl D v (UoB UW bl v U) W5 ∧ UoB UW bl v U bl ∧ (∀ k, v.ownBlock = some k → UoB UW bl v U k) ∧ (∀ k, UWk g vo R m bf bt fv tv k → UoB UW bl v U k) ∧ UoB UW bl v U D ∧ W.heap.size ≤ D ∧ W.heap.size ≤ W5.heap.size ∧ J 0 (UoB UW bl v U) W5 := by
    rintro D U W5 hD hUD hus ⟨⟨v, b1, b2, b3, b4⟩, b5, b6, b7⟩ hdef
    rw [List.take_length] at b2
    refine ⟨v, ⟨b1, b2, b6, hdef, fun k hk => ?_⟩, .inr (.inr (.inl rfl)), fun k hk => .inr (.inr (.inr hk)), fun k hk => .inl (by rw [← SW.out]; exact hk), .inr (.inl hUD), by omega, by omega, b4⟩
    rcases hk with hk | hk | rfl | hk
    · have := hUl k hk; omega
    · exact hus k hk
    · exact lt_of_heap b1
    · exact b2.lt k hk
  refine wpIn_range0 (by rfl) (enters_of Try.func63 (by kernel_rfl) rfl) (rising_iter rp ok hn) (Mods.refl _ _) rp.lt (argsOk_ris R xs) (fun i U args W1 hA => by obtain ⟨e, _, rfl⟩ := hA; rfl)
    (fun i U Wr => i ≤ (wkL R xs ts).length ∧ BkI W w2 g vo R m bf bt fv tv xs ts UW bl 64 J i U Wr)
    (fun c i U Wr => c = .exit 0 ∧ BkI W w2 g vo R m bf bt fv tv xs ts UW bl 64 J (wkL R xs ts).length U Wr)
    ?_ ?_ ⟨Nat.zero_le _, ⟨_, hbO2, ⟨rfl, .inl ⟨rfl, rfl⟩⟩, fun k hk => by simp [Value.ownBlock] at hk, h2⟩, hnotbl, pre2, Nat.le_refl _⟩ ?_ ?_ ?_
  · rintro i U U' A B ⟨h1, h2⟩ hm hus hsub
    exact ⟨h1, frmI _ _ _ _ _ h2 hm hus hsub⟩
  · rintro c i U U' A B ⟨h1, h2⟩ hm hus hsub
    exact ⟨h1, frmI _ _ _ _ _ h2 hm hus hsub⟩
  · -- one round of the collecting
    intro lp i U args Wr hlp hUlp hi ⟨hin, hBi⟩ ⟨e, hei, hargs⟩ hUs _ _ _ _
    subst hargs
    obtain ⟨hq1, hq2⟩ := takeWhile_get (under ts) (risL R xs) i e hin hei
    obtain ⟨pg1, hpg1, hepg⟩ := risL_mem hei
    have he1 := hBi.2.2.1.ris.pm.ents pg1 hpg1 e hepg
    obtain ⟨ak, ck, hak, _⟩ := he1.k.form
    obtain ⟨av, cv, hav, _⟩ := he1.v.form
    have uk : e.kv.oneCell' = true := by rw [hak]; rfl
    have uv : e.vv.oneCell' = true := by rw [hav]; rfl
    simp only [putArgs, List.setIfInBounds_toArray, List.set_cons_succ, List.set_cons_zero]
    refine wpIn_tl (d := .region 2 (opsC 2 Try.f57) false) (by kernel_rfl) ?_
    refine RW.wpIn (bk2 (u := e.kv) (v := e.vv) uk uv ?_) (by kernel_rfl)
    intro bx w3 hbx hbxO m3
    refine then_n ?_
    refine ⟨m3.mono (fun _ _ x => x.elim), ?_⟩
    intro w4 m4 _
    have hxl : bx ≠ lp := fun e => by have := hUs lp hUlp; omega
    have hbx4 := m4.heap hbxO hxl
    have m34 := m3.trans m4 (U := fun k => k = lp) (fun _ _ x => x.elim) (fun _ _ x => x)
    have hB4 := frmI _ _ _ _ _ hBi (m34.mono (fun k _ hk => by subst hk; exact ⟨hUlp, .inr hlp⟩)) hUs (fun k hk => .inl hk)
    have hUs4 : ∀ k, U k → k < w4.heap.size := fun k hk => Nat.lt_of_lt_of_le (hUs k hk) m34.size
    clear hBi hbxO m3 he1
    obtain ⟨⟨v, b1, b2, b3, b4⟩, b5, b6, b7⟩ := hB4
    have he4 := b6.ris.pm.ents pg1 hpg1 e hepg
    have hbt4 : w4.cell? ⟨bt, 0, none⟩ = some (.slice a1 ts.length ct) := by obtain ⟨t, ht⟩ := b6.bt; rw [← htv]; exact cells_of ht 0
    have htr : Rd w4 (.slice a1 ts.length ct) ts := by rw [← htv]; exact b6.tv.rd
    refine wpIn_block ?_
    refine wpIn_seq ?_
    refine wpIn_seq ?_
    refine wpIn_tl (d := .region 3 (opsC 3 Try.f57) false) (by kernel_rfl) ?_
    -- it goes on: the entry is appended
    have goOn : ∀ (hu : under ts e = true) (x0 x1 x2 x3 x4 x7 x8 x9 x10 x11 x12 x13 x14 x15 x16 x17 x18 x19 x20 x21 x22 x23 x24 x25 x26 x27 x28 x29 x30 x31 x32 x33 x34 x35 x36 x37 x38 x39 x40 x41 x42 x43 x44 x45 x46 x47 : Value),
        (Code.region 4 (opsC 4 Try.f57) false).wpIn (WF (some lp)) 3 Try.prog (Exit.inBlock 1 (rpost (fun i U Wr => i ≤ (wkL R xs ts).length ∧ BkI W w2 g vo R m bf bt fv tv xs ts UW bl 64 J i U Wr) (fun c i U Wr => c = .exit 0 ∧ BkI W w2 g vo R m bf bt fv tv xs ts UW bl 64 J (wkL R xs ts).length U Wr) U i w4))
          ⟨#[x0, x1, x2, x3, x4, .pointer (some ⟨bl, 0, none⟩), .pointer (some ⟨bx, 0, none⟩), x7, x8, x9, x10, x11, x12, x13, x14, x15, x16, x17, x18, x19, x20, x21, x22, x23, x24, x25, x26, x27, x28, x29, x30, x31, x32, x33, x34, x35, x36, x37, x38, x39, x40, x41, x42, x43, x44, x45, x46, x47], []⟩ w4 := by
      intro hu
      intros
      have hlt := hq1.1 hu
      refine RW.wpIn (bk4 b1 hbx4 b2 uk uv (by omega) (fun h => (b3 bl h).2.2 rfl) ?_) (by kernel_rfl)
      intros
      rename_i v8 w8 w9 o8 m8 f8 h9
      have m9 : Mods (fun k => k = bl) w8 w9 := by rw [h9]; exact (Mods.refl (fun k => k = bl) w8).setCell (p := ⟨bl, 0, none⟩) (.inl rfl) v8
      have hvl : ∀ k, v.ownBlock = some k → k < w4.heap.size := fun k hk => b2.lt k hk
      have hbl4 := lt_of_heap b1
      have h8 : ∀ k, v8.ownBlock = some k → v.ownBlock = some k ∨ w4.heap.size ≤ k := fun k hk => by
        rcases f8 with f | f
        · exact .inl (f ▸ hk)
        · exact .inr (f k hk)
      have h8b : ∀ k, v8.ownBlock = some k → W.heap.size ≤ k ∧ ¬ U k ∧ k ≠ bl := fun k hk => by
        rcases h8 k hk with h | h
        · exact b3 k h
        · refine ⟨by omega, fun hu => by have := hUs4 k hu; omega, by omega⟩
      have mtot : Mods (fun k => v.ownBlock = some k ∨ k = bl) w4 w9 := m8.trans m9 (fun _ _ h => .inl h) (fun _ _ h => .inr h)
      have hb9 : w9.heap[bl]? = some (.cells #[v8] 64 (0, 0)) := by rw [h9]; exact heap_set (m8.heap b1 (fun h => (b3 bl h).2.2 rfl)) 0 v8
      have hee : ecell ((wkL R xs ts).take i) ++ [e.kv, e.vv] = ecell ((wkL R xs ts).take (i + 1)) := by
        have hg : (wkL R xs ts)[i]? = some e := hq2 hlt
        rw [List.take_add_one, hg, ecell_append]
        rfl
      refine block_n ?_
      refine ⟨mtot.mono (fun k _ hk hu => by rcases hk with h | h; exact (b3 k h).2.1 hu; exact b5 (h ▸ hu)), hlt, ⟨v8, hb9, ?_, h8b, ?_⟩, b5, keepP _ _ b6 (mtot.mono (fun k _ hk hu => ?_)), Nat.le_trans b7 mtot.size⟩
      · rw [← hee]
        exact o8.keep m9 (fun k hk e => (h8b k hk).2.2 e)
      · refine hJ _ _ _ _ _ b4 (mtot.mono (fun k _ hk => ?_)) (fun k hk => ?_) (fun k hk => ?_)
        · rcases hk with h | h
          · exact ⟨.inr (.inr (.inr h)), .inr (b3 k h).1⟩
          · exact ⟨.inr (.inr (.inl h)), .inr (by omega)⟩
        · rcases hk with hk | hk | rfl | hk
          · have := hUl k hk; omega
          · exact hUs4 k hk
          · exact hbl4
          · exact hvl k hk
        · rcases hk with hk | hk | hk | hk
          · exact .inl (.inl hk)
          · exact .inl (.inr (.inl hk))
          · exact .inl (.inr (.inr (.inl hk)))
          · exact (h8 k hk).imp (fun h => .inr (.inr (.inr h))) id
      · have := hUl k hu
        rcases hk with h | h
        · have := (b3 k h).1; omega
        · omega
    have hemp : ts ≠ [] → ts.isEmpty = false := fun h => by cases ts with | nil => exact absurd rfl h | cons a b => rfl
    by_cases hte : ts = []
    · have hu : under ts e = true := by rw [hte]; rfl
      refine RW.wpIn (bk3a hbx4 hbt4 he4.k htr hte ?_) (by kernel_rfl)
      intros
      rename_i hw
      subst hw
      refine then_n ?_
      refine wpIn_cond_false rfl ?_
      refine wpIn_skip ?_
      refine then_n ?_
      refine wpIn_tl (d := .region 4 (opsC 4 Try.f57) false) (by kernel_rfl) ?_
      exact goOn hu _ _ _ _ _ _ _ _ _ _ _ _ _ _ _ _ _ _ _ _ _ _ _ _ _ _ _ _ _ _ _ _ _ _ _ _ _ _ _ _ _ _ _ _ _ _
    · by_cases hcmp : 0 ≤ Lib.compareBytes e.k ts
      · have hu : ¬ under ts e = true := by
          unfold under
          rw [hemp hte, Bool.false_or, ← cmp_lt]
          simpa using hcmp
        have hie : i = (wkL R xs ts).length := by
          have : ¬ i < (wkL R xs ts).length := fun h => hu (hq1.2 h)
          omega
        refine RW.wpIn (bk3s hbx4 hbt4 he4.k htr hte hcmp ?_) (by kernel_rfl)
        intros
        rename_i hw
        subst hw
        refine then_n ?_
        refine wpIn_cond_true rfl ?_
        refine wpIn_exit ?_
        repeat (refine then_x ?_)
        refine block_xo (by decide) ?_
        rw [hie] at b2
        exact ⟨Mods.refl _ _, rfl, ⟨v, b1, b2, b3, b4⟩, b5, b6, b7⟩
      · have hu : under ts e = true := by
          unfold under
          rw [hemp hte, Bool.false_or, ← cmp_lt]
          simpa using hcmp
        refine RW.wpIn (bk3b hbx4 hbt4 he4.k htr hte hcmp ?_) (by kernel_rfl)
        intros
        rename_i hw
        subst hw
        refine then_n ?_
        refine wpIn_cond_false rfl ?_
        refine wpIn_skip ?_
        refine then_n ?_
        refine wpIn_tl (d := .region 4 (opsC 4 Try.f57) false) (by kernel_rfl) ?_
        exact goOn hu _ _ _ _ _ _ _ _ _ _ _ _ _ _ _ _ _ _ _ _ _ _ _ _ _ _ _ _ _ _ _ _ _ _ _ _ _ _ _ _ _ _ _ _ _ _
  · -- all have come
    rintro D U W5 hD hUD hus ⟨h1, h2⟩ hdef
    have hj : (risL R xs).length = (wkL R xs ts).length := by have := wkL_le R xs ts; omega
    rw [hj] at h2
    obtain ⟨v, k1, k2, k3, k4, k5, k6, k7, k8⟩ := TAIL D U W5 hD hUD hus h2 hdef
    refine block_n ?_
    refine then_n ?_
    exact wpIn_tl (by kernel_rfl) (back_tail hwl hwW hJ hJx hY FrB.mk k1 k2 k3 k4 k5 k6 k7 k8)
  · -- the bound was met
    rintro D c i U W5 hD hUD hus hi ⟨rfl, h2⟩ hdef
    obtain ⟨v, k1, k2, k3, k4, k5, k6, k7, k8⟩ := TAIL D U W5 hD hUD hus h2 hdef
    refine wpIn_exit ?_
    refine block_x ?_
    refine then_n ?_
    exact wpIn_tl (by kernel_rfl) (back_tail hwl hwW hJ hJx hY FrB.mk k1 k2 k3 k4 k5 k6 k7 k8)

set_option maxHeartbeats 1000000 in
theorem Back_any {w : World} {g : Nat} {vo fv tv : Value} {R : List PV} {xs ts : List UInt8} (hm : PM w g vo R) (hf : Rd w fv xs) (ht : Rd w tv ts) (lx : xs.length ≤ 1000000) (lt : ts.length ≤ 1000000) :
    Calls Try.prog 44 #[.pointer (some ⟨g, 0, none⟩), fv, tv] w fun e w' => ∃ m bf bt fv' tv', e = .returned (.func (.func 57) #[] #[.pointer (some ⟨m, 0, none⟩), .pointer (some ⟨bf, 0, none⟩), .pointer (some ⟨bt, 0, none⟩)]) ∧ WkRes w g vo R xs ts m bf bt fv' tv' w' := by
  obtain ⟨a1, c1, rfl, _⟩ := hf.form
  obtain ⟨a2, c2, rfl, _⟩ := ht.form
  have HM := Lib.hid hm
  have HF := Lib.hid hf
  have HT := Lib.hid ht
  have hgl := lt_of_heap hm.hg
  clear hm hf ht
  go_enter Try.func44, Try.ntmps44
  go_upto_region 1 with fail
  have h1 := heap_new w (.cells #[.pointer (some ⟨g, 0, none⟩)] 25)
  have h2 := heap_new (w.alloc (.cells #[.pointer (some ⟨g, 0, none⟩)] 25)) (.cells #[.slice a1 xs.length c1] 33)
  have h3 := heap_new ((w.alloc (.cells #[.pointer (some ⟨g, 0, none⟩)] 25)).alloc (.cells #[.slice a1 xs.length c1] 33)) (.cells #[.slice a2 ts.length c2] 33)
  have h1' := heap_old (heap_old h1 (.cells #[.slice a1 xs.length c1] 33)) (.cells #[.slice a2 ts.length c2] 33)
  have h2' := heap_old h2 (.cells #[.slice a2 ts.length c2] 33)
  have m1 := (((Mods.refl noB w).alloc (.cells #[.pointer (some ⟨g, 0, none⟩)] 25)).alloc (.cells #[.slice a1 xs.length c1] 33)).alloc (.cells #[.slice a2 ts.length c2] 33)
  simp only [World.size_alloc] at h2 h3 h1' h2'
  generalize World.alloc (World.alloc (World.alloc w _) _) _ = w1 at *
  refine wp_tl (d := .region 1 (opsC 1 Try.f44) true) (by kernel_rfl) ?_
  refine RW.wp (bkOwn h2' h3 (by omega) (HF.out.keep m1 (fun _ _ x => x)) (HT.out.keep m1 (fun _ _ x => x)) (by omega) (by omega) ?_)
  intros
  rename_i d1 d2 w2 e1 e2 o1 o2 f1 f2 m2
  have hs1 : w.heap.size ≤ w1.heap.size := m1.size
  have hw1 : w.heap.size + 2 < w1.heap.size := lt_of_heap h3
  have pm : PM w2 g vo R := (HM.out.keep0 m1).keep m2 (fun k hk e => by have := HM.out.lt k hk; omega) (fun k hk e => by have := HM.out.dlt k hk; omega)
  have hm3 := m2.heap h1' (fun e => by omega)
  have m12 : Mods noB w w2 := m1.trans m2 (fun _ _ x => x) (fun i hi e => by omega)
  have RES := Lib.hid (show WkRes w g vo R xs ts w.heap.size (w.heap.size + 1) (w.heap.size + 1 + 1) d1 d2 w2 from ⟨⟨⟨pm, ⟨_, hm3⟩, ⟨_, e1⟩, o1⟩, ⟨_, e2⟩, o2⟩, m12, Nat.le_refl _, by omega, by omega, f1.of hs1, f2.of hs1⟩)
  clear h1 h2 h3 h1' h2' m1 m2 e1 e2 o1 o2 f1 f2 pm hm3 m12
  go_wp2
  go_ret
  exact ⟨_, _, _, _, _, rfl, RES.out⟩

end Go.Proofs.Ytjlomnhngngkiaa

/- kv.Store.Prefix: its closure is an iterator over the entries that begin so. -/
import Derived.Test.YtngemlpalkfjeaaKvI
namespace Go.Proofs.Ytngemlpalkfjeaa
open Go.Gl Go.RowKit
set_option linter.unusedVariables false
set_option maxRecDepth 100000
structure PxPre (w : World) (sg mg : Nat) (vo : Value) (R : List PV) (bs bp : Nat) (pv : Value) (xs : List UInt8) : Prop where
  pm : PM w mg vo R
  bs : w.heap[bs]? = some (.cells #[.pointer (some ⟨sg, 0, none⟩)] 25 (0, 0))
  bp : w.heap[bp]? = some (.cells #[pv] 32 (0, 0))
  pv : Gl.Own w pv xs
def UPx (mg : Nat) (vo : Value) (R : List PV) (bs bp : Nat) (pv : Value) (k : Nat) : Prop := MS mg vo R k ∨ MD R k ∨ k = bs ∨ k = bp ∨ pv.ownBlock = some k
theorem PxPre.keep {w w' : World} {sg mg : Nat} {vo : Value} {R : List PV} {bs bp : Nat} {pv : Value} {xs : List UInt8} (h : PxPre w sg mg vo R bs bp pv xs) (hm : Mods (fun k => ¬ UPx mg vo R bs bp pv k) w w') : PxPre w' sg mg vo R bs bp pv xs :=
  ⟨h.pm.keep hm (fun k hk x => x (.inl hk)) (fun k hk x => x (.inr (.inl hk))), hm.heap h.bs (fun x => x (.inr (.inr (.inl rfl)))), hm.heap h.bp (fun x => x (.inr (.inr (.inr (.inl rfl))))), h.pv.keep hm (fun k hk x => x (.inr (.inr (.inr (.inr hk)))))⟩
theorem PxPre.lt {w : World} {sg mg : Nat} {vo : Value} {R : List PV} {bs bp : Nat} {pv : Value} {xs : List UInt8} (h : PxPre w sg mg vo R bs bp pv xs) : ∀ k, UPx mg vo R bs bp pv k → k < w.heap.size := by
  rintro k (hk | hk | rfl | rfl | hk)
  · exact h.pm.lt k hk
  · exact h.pm.dlt k hk
  · exact lt_of_heap h.bs
  · exact lt_of_heap h.bp
  · exact h.pv.lt k hk
def SgM (sg mg : Nat) (W : World) : Prop := W.cell? ⟨sg, 0, none⟩ = some (.pointer (some ⟨mg, 0, none⟩)) ∧ sg < W.heap.size
theorem SgM.keep {sg mg : Nat} {A B : World} (h : SgM sg mg A) (hm : Mods noB A B) : SgM sg mg B := ⟨(hm.cellAt h.2 (fun x => x) 0).trans h.1, Nat.lt_of_lt_of_le h.2 hm.size⟩
def pxL (R : List PV) (xs : List UInt8) : List EV := (wkL R xs []).takeWhile (fun e => beginsB xs e.k)
set_option maxHeartbeats 4000000 in
theorem prefix_iter {w : World} {sg mg : Nat} {vo : Value} {R : List PV} {bs bp : Nat} {pv : Value} {xs : List UInt8} (h : PxPre w sg mg vo R bs bp pv xs) (ok : PgOk (pgs R)) (hn : R.length ≤ 1000000) (lx : xs.length ≤ 1000000) :
    IterP Try.prog 52 #[.pointer (some ⟨bs, 0, none⟩), .pointer (some ⟨bp, 0, none⟩)] (pxL R xs).length (AWk w.heap.size (pxL R xs)) (UPx mg vo R bs bp pv) noB (SgM sg mg) w := by
  intro l J Jx W hW hP hJ hJx hY h0
  have pre := h.keep hW
  have hwW : w.heap.size ≤ W.heap.size := hW.size
  clear h hW
  obtain ⟨apv, cpv, hpv, _⟩ := pre.pv.rd.form
  obtain ⟨UW, hUW⟩ : ∃ UW, UPx mg vo R bs bp pv = UW := ⟨_, rfl⟩
  rw [hUW] at h0
  have hUl : ∀ k, UW k → k < W.heap.size := fun k hk => by rw [← hUW] at hk; exact pre.lt k hk
  have keepP : ∀ A B, PxPre A sg mg vo R bs bp pv xs → Mods (fun k => ¬ UW k) A B → PxPre B sg mg vo R bs bp pv xs := fun A B hp hm => hp.keep (by rw [hUW]; exact hm)
  have SW := Lib.hid hUW
  (refine calls_marks _ Try.func52 rfl ?_; simp only [Try.ntmps52, List.size_toArray, List.length_cons, List.length_nil, Nat.reduceAdd, Nat.reduceSub, Array.replicate_succ, Array.replicate_zero, List.push_toArray, List.append_toArray, List.nil_append, List.cons_append])
  refine wpIn_seq ?_
  refine wpIn_tl (d := .region 0 (opsC 0 Try.f52) false) (by kernel_rfl) ?_
  refine RW.wpIn (kp0 ?_) (by kernel_rfl)
  intro by1 w1 hby hbO m1
  refine then_n ?_
  have pre1 := keepP _ _ pre (m1.mono (fun _ _ x => x.elim))
  have hP1 := hP.keep m1
  refine wpIn_seq ?_
  refine wpIn_tl (d := .region 1 (opsC 1 Try.f52) true) (by kernel_rfl) ?_
  refine RW.wpIn (kp1 (X := fun m bf bt w' => ∃ fv' tv', ∃ b', Mods noB w1 b' ∧ WkRes b' mg vo R xs [] m bf bt fv' tv' w') pre1.bs pre1.bp hP1.1 hP1.2 (fun b' hm => (Walk_any (pre1.pm.keep0 hm) (pre1.pv.rd.keep hm (fun _ _ x => x)) (Rd.nil b') lx (by simp)).mono (fun e w' ⟨m, bf, bt, fv', tv', he, hr⟩ => ⟨m, bf, bt, he, fv', tv', b', hm, hr⟩)) ?_) (by kernel_rfl)
  intros
  rename_i m bf bt w2 hres
  obtain ⟨fv, tv, b', mb, wp, mr, s1, s2, s3, f1, f2⟩ := hres
  refine then_n ?_
  have m2 := mb.then0 mr
  have m12 := m1.then0 m2
  have pre2 := keepP _ _ pre (m12.mono (fun _ _ x => x.elim))
  have hbO2 := m2.heap hbO (fun x => x)
  have hby2 : by1 < w2.heap.size := lt_of_heap hbO2
  have hs12 : W.heap.size ≤ w2.heap.size := m12.size
  have hsb : W.heap.size ≤ b'.heap.size := (m1.then0 mb).size
  have hsub0 : ∀ k, UoW UW by1 (UWk mg vo R m bf bt fv tv) k → UW k ∨ W.heap.size ≤ k := fun k hk => by
    rcases hk with hk | hk | rfl
    · exact .inl hk
    · rcases hk with (hk | hk | rfl | rfl | hk) | rfl | hk
      · exact .inl (by rw [← SW.out]; exact .inl hk)
      · exact .inl (by rw [← SW.out]; exact .inr (.inl hk))
      · right; omega
      · right; omega
      · right; have := f1 k hk; omega
      · right; omega
      · right; have := f2 k hk; omega
    · right; omega
  have h2 : J 0 (UoW UW by1 (UWk mg vo R m bf bt fv tv)) w2 := hJ _ _ _ _ _ h0 (m12.mono (fun _ _ x => x.elim)) hUl hsub0
  have frm : ∀ (X : Nat → (Nat → Prop) → World → Prop), Frm W.heap.size noB X → ∀ i U U' A B, X i (UoW UW by1 U) A → w2.heap.size ≤ A.heap.size → Mods (fun k => U k ∧ (noB k ∨ w2.heap.size ≤ k)) A B → (∀ k, U k → k < A.heap.size) → (∀ k, U' k → U k ∨ A.heap.size ≤ k) → X i (UoW UW by1 U') B := fun X hX i U U' A B hx hsz hm hus hsub => by
    refine hX _ _ _ _ _ hx (hm.mono (fun k _ hk => ⟨.inr (.inl hk.1), hk.2.imp id (fun h => by omega)⟩)) (fun k hk => ?_) (fun k hk => ?_)
    · rcases hk with hk | hk | rfl
      · have := hUl k hk; omega
      · exact hus k hk
      · omega
    · rcases hk with hk | hk | hk
      · exact .inl (.inl hk)
      · exact (hsub k hk).imp (fun h => .inr (.inl h)) id
      · exact .inl (.inr (.inr hk))
  have keep2 : ∀ (U : Nat → Prop) (A B : World), Mods (fun k => U k ∧ (noB k ∨ w2.heap.size ≤ k)) A B → PxPre A sg mg vo R bs bp pv xs ∧ A.heap[by1]? = some (.cells #[.func (.yield l) #[] #[]] 46 (0, 0)) → PxPre B sg mg vo R bs bp pv xs ∧ B.heap[by1]? = some (.cells #[.func (.yield l) #[] #[]] 46 (0, 0)) := fun U A B hm hp => by
    refine ⟨keepP _ _ hp.1 (hm.mono (fun k _ hk hu => ?_)), hm.heap hp.2 (fun hk => ?_)⟩
    · rcases hk.2 with h | h
      · exact h
      · have := hUl k hu; omega
    · rcases hk.2 with h | h
      · exact h
      · omega
  refine wpIn_block ?_
  refine wpIn_range0 (by rfl) (enters_of Try.func60 (by kernel_rfl) rfl) (walk_iter wp ok hn (by simp)) (Mods.refl _ _) wp.lt (argsOk_wk _ _) (fun i U args W1 hA => by obtain ⟨e, kv, vv, _, rfl, _⟩ := hA; rfl)
    (fun i U Wr => i ≤ (pxL R xs).length ∧ J i (UoW UW by1 U) Wr ∧ (PxPre Wr sg mg vo R bs bp pv xs ∧ Wr.heap[by1]? = some (.cells #[.func (.yield l) #[] #[]] 46 (0, 0))) ∧ w2.heap.size ≤ Wr.heap.size)
    (fun c i U Wr => c = .ret ∧ ((i = (pxL R xs).length + 1 ∧ J (pxL R xs).length (UoW UW by1 U) Wr) ∨ (∃ j, i = j + 1 ∧ j < (pxL R xs).length ∧ Jx (j + 1) (UoW UW by1 U) Wr)) ∧ w2.heap.size ≤ Wr.heap.size)
    ?_ ?_ ⟨Nat.zero_le _, h2, ⟨pre2, hbO2⟩, Nat.le_refl _⟩ ?_ ?_ ?_
  · rintro i U U' A B ⟨h1, h2, h3, h4⟩ hm hus hsub
    exact ⟨h1, frm J hJ _ _ _ _ _ h2 h4 hm hus hsub, keep2 U _ _ hm h3, Nat.le_trans h4 hm.size⟩
  · rintro c i U U' A B ⟨h1, h2, h4⟩ hm hus hsub
    refine ⟨h1, h2.imp (fun x => ⟨x.1, frm J hJ _ _ _ _ _ x.2 h4 hm hus hsub⟩) (fun ⟨j, x1, x2, x3⟩ => ⟨j, x1, x2, frm Jx hJx _ _ _ _ _ x3 h4 hm hus hsub⟩), Nat.le_trans h4 hm.size⟩
  · -- one round
    intro lp i U args Wr hlp hUlp hi ⟨hin, hJi, hinv, hszr⟩ hA hUs hszW hloop ⟨_, hJa, _, _⟩ hab
    obtain ⟨e, kv, vv, hei, hargs, o1, o2, u1, u2, dd, b1, b2⟩ := hA
    subst hargs
    obtain ⟨hq1, hq2⟩ := takeWhile_get (fun e : EV => beginsB xs e.k) (wkL R xs []) i e hin hei
    simp only [putArgs, List.setIfInBounds_toArray, List.set_cons_succ, List.set_cons_zero]
    refine wpIn_seq ?_
    refine wpIn_tl (d := .region 2 (opsC 2 Try.f52) false) (by kernel_rfl) ?_
    refine RW.wpIn (kp2 ?_) (by kernel_rfl)
    intro w3 e3
    subst e3
    refine then_n ?_
    refine wpIn_tl (d := .region 3 (opsC 3 Try.f52) false) (by kernel_rfl) ?_
    refine RW.wpIn (kp3 ?_) (by kernel_rfl)
    intro w3 e3
    subst e3
    refine then_n ?_
    refine ⟨Mods.refl _ _, ?_⟩
    intro w4 m4 _
    have hkl : Mods (fun k => U k ∧ (noB k ∨ w2.heap.size ≤ k)) w3 w4 := m4.mono (fun k _ hk => by subst hk; exact ⟨hUlp, .inr hlp⟩)
    have hkl2 : Mods (fun k => (U k ∨ argB #[kv, vv] k) ∧ (noB k ∨ w2.heap.size ≤ k)) w3 w4 := m4.mono (fun k _ hk => by subst hk; exact ⟨.inl hUlp, .inr hlp⟩)
    obtain ⟨hp4, hby4⟩ := keep2 U _ _ hkl hinv
    have hJ4 := frm J hJ _ _ _ _ _ hJi hszr hkl hUs (fun k hk => .inl hk)
    have hJa4 := frm J hJ _ _ _ _ _ hJa hszr hkl2 (fun k hk => by rcases hk with hk | hk; exact hUs k hk; exact hab k hk) (fun k hk => .inl hk)
    have hsz4 := Nat.le_trans hszr m4.size
    have hUs4 : ∀ k, U k → k < w4.heap.size := fun k hk => Nat.lt_of_lt_of_le (hUs k hk) m4.size
    have hUo4 : ∀ k, UoW UW by1 U k → k < w4.heap.size := fun k hk => by
      rcases hk with hk | hk | rfl
      · have := hUl k hk; omega
      · exact hUs4 k hk
      · omega
    have o14 := o1.keep m4 (fun k hk x => u1 k hk (x ▸ hUlp))
    have o24 := o2.keep m4 (fun k hk x => u2 k hk (x ▸ hUlp))
    have hab4 : ∀ k, argB #[kv, vv] k → k < w4.heap.size := fun k hk => Nat.lt_of_lt_of_le (hab k hk) m4.size
    have hJb4 : J i (fun k => UoW UW by1 U k ∨ argB #[kv, vv] k) w4 := hJ _ _ _ _ _ hJa4 (Mods.refl _ _) (fun k hk => by
      rcases hk with hk | (hk | hk) | hk
      · have := hUl k hk; omega
      · exact hUs4 k hk
      · exact hab4 k hk
      · subst hk; omega) (fun k hk => by
      rcases hk with (hk | hk | hk) | hk
      · exact .inl (.inl hk)
      · exact .inl (.inr (.inl (.inl hk)))
      · exact .inl (.inr (.inr hk))
      · exact .inl (.inr (.inl (.inr hk))))
    have HP := HasPrefix_any o14.rd hp4.pv.rd
    have bp4 := cells_of hp4.bp 0
    have by4 := cells_of hby4 0
    clear hJi hinv hkl hkl2 hJa hJa4
    refine wpIn_block ?_
    refine wpIn_seq ?_
    refine wpIn_tl (d := .region 4 (opsC 4 Try.f52) false) (by kernel_rfl) ?_
    rcases hB : beginsB xs e.k with _ | _
    · rw [hB] at HP
      have hie : i = (pxL R xs).length := by
        have : ¬ i < (pxL R xs).length := fun h => by have := hq1.2 h; rw [hB] at this; cases this
        omega
      refine RW.wpIn (kp4f (l := l) bp4 by4 HP ?_) (by kernel_rfl)
      intros
      rename_i w5 e5
      subst e5
      refine then_n ?_
      refine wpIn_cond_true rfl ?_
      refine wpIn_ret ?_
      repeat (first | refine then_r ?_ | refine block_r ?_)
      rw [hie] at hJ4
      exact ⟨Mods.refl _ _, rfl, .inl ⟨by rw [hie], hJ4⟩, hsz4⟩
    · rw [hB] at HP
      have hlt := hq1.1 hB
      refine wpIn_region_yieldA (Q1 := fun _ a' w' => wpOpsIn _ _ _ _ _ _ a' w') 8 (by kernel_rfl) (kp4t (l := l) bp4 by4 HP ?_) (fun _ _ h => h)
      intros
      rename_i w5 e5
      subst e5
      refine wpOpsIn_yield (some 22) ⟨by kernel_rfl, by kernel_rfl, by kernel_rfl⟩ (by kernel_rfl) (by kernel_rfl) (hY i (UoW UW by1 U) #[kv, vv] w5 hlt hJ4 ⟨e, kv, vv, hq2 hlt, rfl, o14, o24, fun k hk x => ?_, fun k hk x => ?_, dd, fun k hk => by have := b1 k hk; omega, fun k hk => by have := b2 k hk; omega⟩ hUo4 (by omega) hJb4 hab4) ?_
      · have hb1 := b1 k hk
        rcases x with x | x | x
        · have := hUl k x; omega
        · exact u1 k hk x
        · omega
      · have hb2 := b2 k hk
        rcases x with x | x | x
        · have := hUl k x; omega
        · exact u2 k hk x
        · omega
      rintro r w6 (⟨rfl, k1', k2'⟩ | ⟨rfl, k1', k2'⟩)
      · have m46 : Mods (fun k => ¬ U k) w5 w6 := k2'.mono (fun k _ hk x => hk (.inr (.inl x)))
        refine ⟨_, rfl, ?_⟩
        refine wpOpsIn_val (.bool false) (some 23) ⟨by kernel_rfl, by kernel_rfl, by kernel_rfl⟩ (by kernel_rfl) (by kernel_rfl) ?_
        refine wpOpsIn_val (.bool false) (some 24) ⟨by kernel_rfl, by kernel_rfl, by kernel_rfl⟩ (by kernel_rfl) (by kernel_rfl) ?_
        refine then_n ?_
        refine wpIn_cond_false rfl ?_
        refine wpIn_skip ?_
        refine block_n ?_
        exact ⟨m46, hlt, k1', ⟨keepP _ _ hp4 (k2'.mono (fun k _ hk hu => hk (.inl hu))), k2'.heap hby4 (fun hk => hk (.inr (.inr rfl)))⟩, Nat.le_trans hsz4 m46.size⟩
      · have m46 : Mods (fun k => ¬ U k) w5 w6 := k2'.mono (fun k _ hk x => hk (.inr (.inl x)))
        refine ⟨_, rfl, ?_⟩
        refine wpOpsIn_val (.bool true) (some 23) ⟨by kernel_rfl, by kernel_rfl, by kernel_rfl⟩ (by kernel_rfl) (by kernel_rfl) ?_
        refine wpOpsIn_val (.bool true) (some 24) ⟨by kernel_rfl, by kernel_rfl, by kernel_rfl⟩ (by kernel_rfl) (by kernel_rfl) ?_
        refine then_n ?_
        refine wpIn_cond_true rfl ?_
        refine wpIn_ret ?_
        repeat (first | refine then_r ?_ | refine block_r ?_)
        exact ⟨m46, rfl, .inr ⟨i, rfl, hlt, k1'⟩, Nat.le_trans hsz4 m46.size⟩
  · -- all have come
    rintro D U W5 hD hUD hus ⟨h1, h2, h3, h4⟩ hdef
    refine block_n ?_
    refine marks_leave hdef (results_none rfl _ _ _) ?_
    have hj : (wkL R xs []).length = (pxL R xs).length := by
      have : (pxL R xs).length ≤ (wkL R xs []).length := List.Sublist.length_le (List.takeWhile_sublist _)
      omega
    rw [hj] at h2
    have hD5 := lt_of_heap hdef
    refine ⟨⟨_, rfl⟩, .inl ⟨UoW UW by1 U, frm J hJ _ _ _ _ _ h2 h4 ((putObj_mods W5 D _).mono (fun k _ hk => by subst hk; exact ⟨hUD, .inr hD⟩)) hus (fun k hk => .inl hk), fun k hk => ?_⟩⟩
    rw [World.putObj_size]
    rcases hk with hk | hk | rfl
    · have := hUl k hk; omega
    · exact hus k hk
    · omega
  · -- a round has left
    rintro D c i U W5 hD hUD hus hi ⟨rfl, h2, h4⟩ hdef
    have hbd : ∀ k, UoW UW by1 U k → k < (W5.putObj D (.deferred none)).heap.size := fun k hk => by
      rw [World.putObj_size]
      rcases hk with hk | hk | rfl
      · have := hUl k hk; omega
      · exact hus k hk
      · omega
    have hmD : Mods (fun k => U k ∧ (noB k ∨ w2.heap.size ≤ k)) W5 (W5.putObj D (.deferred none)) := (putObj_mods W5 D _).mono (fun k _ hk => by subst hk; exact ⟨hUD, .inr hD⟩)
    refine wpIn_ret ?_
    refine block_r ?_
    refine marks_leave hdef (results_none rfl _ _ _) ?_
    rcases h2 with ⟨_, h2⟩ | ⟨j, hj, hjl, h2⟩
    · exact ⟨⟨_, rfl⟩, .inl ⟨UoW UW by1 U, frm J hJ _ _ _ _ _ h2 h4 hmD hus (fun k hk => .inl hk), hbd⟩⟩
    · exact ⟨⟨_, rfl⟩, .inr ⟨j, UoW UW by1 U, hjl, frm Jx hJx _ _ _ _ _ h2 h4 hmD hus (fun k hk => .inl hk), hbd⟩⟩
end Go.Proofs.Ytngemlpalkfjeaa

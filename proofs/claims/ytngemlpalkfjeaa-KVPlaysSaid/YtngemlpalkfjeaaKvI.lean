/- kv.Store.counted: its closure is an iterator that ticks; Prefix: its closure is an iterator. -/
import Derived.Test.YtngemlpalkfjeaaKvI0
import Derived.Test.YtngemlpalkfjeaaZC
import Derived.Test.YtngemlpalkfjeaaIterC
import Derived.Test.YtngemlpalkfjeaaIterP
import Derived.Test.YtngemlpalkfjeaaPgQ
import Derived.Shelf.Abstract
namespace Go.Proofs.Ytngemlpalkfjeaa
open Go.Gl Go.RowKit
set_option linter.unusedVariables false
set_option maxRecDepth 100000
def tickR (sg : Nat) (A B : World) : Prop := ∃ c : Int, A.cell? ⟨sg, 2, none⟩ = some (.int .i64 c) ∧ B = A.setCell ⟨sg, 2, none⟩ (.int .i64 (c + 1))
def tickOk (sg : Nat) (A : World) : Prop := ∃ c : Int, A.cell? ⟨sg, 2, none⟩ = some (.int .i64 c) ∧ A.frozen? ⟨sg, 2, none⟩ = false ∧ -9223372036854775808 ≤ c + 1 ∧ c + 1 ≤ 9223372036854775807
theorem tickR.mods {sg : Nat} {A B : World} (h : tickR sg A B) : Mods (fun k => k = sg) A B := by
  obtain ⟨c, _, rfl⟩ := h
  exact (Mods.refl (fun k => k = sg) A).setCell (p := ⟨sg, 2, none⟩) (.inl rfl) _
theorem tick_any {sg : Nat} {A : World} (h : tickOk sg A) : Calls Try.prog 45 #[.pointer (some ⟨sg, 2, none⟩), .int .i64 1] A fun e B => ∃ v, e = .returned v ∧ tickR sg A B := by
  obtain ⟨c, h1, h2, h3, h4⟩ := h
  exact (Add_any h1 h2 h3 h4).mono (fun e B ⟨a, b⟩ => ⟨_, a, c, h1, b⟩)
def UoC (bs bw by1 : Nat) (U : Nat → Prop) (k : Nat) : Prop := U k ∨ k = bs ∨ k = bw ∨ k = by1
set_option maxHeartbeats 4000000 in
theorem counted_iter {w : World} {sg bs bw gf B : Nat} {lb : Array Value} {L : List EV} {Ui : Nat → Prop} {t1 t2 : TypeId} {Pre Ok : World → Prop} (it : IterP Try.prog gf lb L.length (AWk B L) Ui noB Pre w) (hpm : ∀ A B, Pre A → Mods noB A B → Pre B) (hOk : ∀ A, Ok A → tickOk sg A) (hPre : ∀ A C, Ok A → tickR sg A C → Pre C) (eg : ∀ args w, (callFunc gf args).run Try.prog w = .ok (.enter gf args) w)
    (hbs : w.heap[bs]? = some (.cells #[.pointer (some ⟨sg, 0, none⟩)] t1 (0, 0))) (hbw : w.heap[bw]? = some (.cells #[.func (.func gf) #[] lb] t2 (0, 0))) (hUi : ∀ k, Ui k → k < w.heap.size) (hsg : sg < w.heap.size) (n1 : ¬ Ui bs) (n2 : ¬ Ui bw) (n3 : ¬ Ui sg) (n4 : bs ≠ sg) (n5 : bw ≠ sg) :
    CIter Try.prog 73 #[.pointer (some ⟨bs, 0, none⟩), .pointer (some ⟨bw, 0, none⟩)] L.length (AWk B L) (fun k => Ui k ∨ k = bs ∨ k = bw) (tickR sg) Ok w := by
  intro l K J Jt Jx W hW hK hJ hJt hJx tk0 tk1 hY h0
  have hwW : w.heap.size ≤ W.heap.size := hW.size
  have hbsW := hW.heap hbs (fun x => x (.inr (.inl rfl)))
  have hbwW := hW.heap hbw (fun x => x (.inr (.inr rfl)))
  have hbsl := lt_of_heap hbs
  have hbwl := lt_of_heap hbw
  have hU0 : ∀ k, (Ui k ∨ k = bs ∨ k = bw) → k < W.heap.size := fun k hk => by
    rcases hk with hk | rfl | rfl
    · have := hUi k hk; omega
    · omega
    · omega
  clear hbs hbw
  (refine calls_marks _ Try.func73 rfl ?_; simp only [Try.ntmps73, List.size_toArray, List.length_cons, List.length_nil, Nat.reduceAdd, Nat.reduceSub, Array.replicate_succ, Array.replicate_zero, List.push_toArray, List.append_toArray, List.nil_append, List.cons_append])
  refine wpIn_seq ?_
  refine wpIn_tl (d := .region 0 (opsC 0 Try.f73) false) (by kernel_rfl) ?_
  refine RW.wpIn (kc0 ?_) (by kernel_rfl)
  intro by1 w1 hby hbO m1
  refine then_n ?_
  have hK1 : K 0 (UoC bs bw by1 Ui) w1 := hK _ _ _ _ _ h0 (m1.mono (fun _ _ x => x.elim)) hU0 (fun k hk => by
    rcases hk with hk | rfl | rfl | rfl
    · exact .inl (.inl hk)
    · exact .inl (.inr (.inl rfl))
    · exact .inl (.inr (.inr rfl))
    · exact .inr (by omega))
  obtain ⟨ok0, tj0⟩ := tk0 _ _ hK1
  refine wpIn_seq ?_
  refine wpIn_tl (d := .region 1 (opsC 1 Try.f73) false) (by kernel_rfl) ?_
  refine RW.wpIn (kc1 (cells_of (m1.heap hbsW (fun x => x)) 0) (tick_any (hOk _ ok0)) ?_) (by kernel_rfl)
  intros
  rename_i w2 hτ0
  refine then_n ?_
  have hJ0 := tj0 _ hτ0
  have m2 := hτ0.mods
  have hs1 := m1.size
  have hs2 := m2.size
  have hbs2 := m2.heap (m1.heap hbsW (fun x => x)) (fun e => n4 e)
  have hbw2 := m2.heap (m1.heap hbwW (fun x => x)) (fun e => n5 e)
  have hby2 := m2.heap hbO (fun e => by omega)
  have hby2l := lt_of_heap hby2
  have m02 : Mods (fun k => ¬ Ui k) w w2 := ((hW.mono (fun k _ hk x => hk (.inl x))).trans m1 (U := fun k => ¬ Ui k) (fun _ _ x => x) (fun _ _ x => x.elim)).trans m2 (fun _ _ x => x) (fun k _ hk x => n3 (hk ▸ x))
  have itW := it.at m02
  have hpW := hPre _ _ ok0 hτ0
  clear hK1 ok0 tj0 hbsW hbwW hbO
  refine wpIn_seq ?_
  refine wpIn_tl (d := .region 2 (opsC 2 Try.f73) false) (by kernel_rfl) ?_
  refine RW.wpIn (kc2 (cells_of hbw2 0) ?_) (by kernel_rfl)
  intros
  rename_i w2' e2
  subst e2
  refine then_n ?_
  have frm : ∀ (X : Nat → (Nat → Prop) → World → Prop), Frm W.heap.size noB X → ∀ i U U' A B, X i (UoC bs bw by1 U) A → w2'.heap.size ≤ A.heap.size → Mods (fun k => U k ∧ (noB k ∨ w2'.heap.size ≤ k)) A B → (∀ k, U k → k < A.heap.size) → (∀ k, U' k → U k ∨ A.heap.size ≤ k) → X i (UoC bs bw by1 U') B := fun X hX i U U' A B hx hsz hm hus hsub => by
    refine hX _ _ _ _ _ hx (hm.mono (fun k _ hk => ⟨.inl hk.1, hk.2.imp id (fun h => by omega)⟩)) (fun k hk => ?_) (fun k hk => ?_)
    · rcases hk with hk | rfl | rfl | rfl
      · exact hus k hk
      · omega
      · omega
      · omega
    · rcases hk with hk | hk
      · exact (hsub k hk).imp .inl id
      · exact .inl (.inr hk)
  have keep2 : ∀ (U : Nat → Prop) (A B : World), Mods (fun k => U k ∧ (noB k ∨ w2'.heap.size ≤ k)) A B → A.heap[bs]? = some (.cells #[.pointer (some ⟨sg, 0, none⟩)] t1 (0, 0)) ∧ A.heap[by1]? = some (.cells #[.func (.yield l) #[] #[]] 46 (0, 0)) → B.heap[bs]? = some (.cells #[.pointer (some ⟨sg, 0, none⟩)] t1 (0, 0)) ∧ B.heap[by1]? = some (.cells #[.func (.yield l) #[] #[]] 46 (0, 0)) := fun U A B hm hp => by
    refine ⟨hm.heap hp.1 (fun hk => ?_), hm.heap hp.2 (fun hk => ?_)⟩
    · rcases hk.2 with h | h
      · exact h
      · omega
    · rcases hk.2 with h | h
      · exact h
      · omega
  refine wpIn_block ?_
  refine wpIn_rangeP0 (by rfl) eg itW hpm hpW (Mods.refl _ _) (fun k hk => by have := hUi k hk; omega) (argsOk_wk B L) (fun i U args W1 hA => by obtain ⟨e, kv, vv, _, rfl, _⟩ := hA; rfl)
    (fun i U Wr => i ≤ L.length ∧ J i (UoC bs bw by1 U) Wr ∧ (Wr.heap[bs]? = some (.cells #[.pointer (some ⟨sg, 0, none⟩)] t1 (0, 0)) ∧ Wr.heap[by1]? = some (.cells #[.func (.yield l) #[] #[]] 46 (0, 0))) ∧ (¬ U bs ∧ ¬ U bw ∧ ¬ U by1 ∧ ¬ U sg) ∧ w2'.heap.size ≤ Wr.heap.size)
    (fun c i U Wr => c = .ret ∧ Jx i (UoC bs bw by1 U) Wr ∧ w2'.heap.size ≤ Wr.heap.size)
    ?_ ?_ ⟨Nat.zero_le _, hJ0, ⟨hbs2, hby2⟩, ⟨n1, n2, fun x => by have := hUi _ x; omega, n3⟩, Nat.le_refl _⟩ ?_ ?_ ?_
  · rintro i U U' A B ⟨h1, h2, h3, ⟨k1, k2, k3, k4⟩, h4⟩ hm hus hsub
    refine ⟨h1, frm J hJ _ _ _ _ _ h2 h4 hm hus hsub, keep2 U _ _ hm h3, ⟨fun x => ?_, fun x => ?_, fun x => ?_, fun x => ?_⟩, Nat.le_trans h4 hm.size⟩
    · rcases hsub _ x with y | y
      · exact k1 y
      · omega
    · rcases hsub _ x with y | y
      · exact k2 y
      · omega
    · rcases hsub _ x with y | y
      · exact k3 y
      · omega
    · rcases hsub _ x with y | y
      · exact k4 y
      · omega
  · rintro c i U U' A B ⟨h1, h2, h4⟩ hm hus hsub
    exact ⟨h1, frm Jx hJx _ _ _ _ _ h2 h4 hm hus hsub, Nat.le_trans h4 hm.size⟩
  · -- one round
    intro lp i U args Wr hlp hUlp hi ⟨hin, hJi, hinv, ⟨k1, k2, k3, k4⟩, hszr⟩ hA hUs hszW hloop ⟨_, hJa, _, ⟨a1, a2, a3, a4⟩, _⟩ hab
    obtain ⟨e, kv, vv, hei, hargs, o1, o2, u1, u2, dd, b1, b2⟩ := hA
    subst hargs
    simp only [putArgs, List.setIfInBounds_toArray, List.set_cons_succ, List.set_cons_zero]
    refine wpIn_seq ?_
    refine wpIn_tl (d := .region 3 (opsC 3 Try.f73) false) (by kernel_rfl) ?_
    refine RW.wpIn (kc3 ?_) (by kernel_rfl)
    intro w3 e3
    subst e3
    refine then_n ?_
    refine wpIn_tl (d := .region 4 (opsC 4 Try.f73) false) (by kernel_rfl) ?_
    refine RW.wpIn (kc4 ?_) (by kernel_rfl)
    intro w3 e3
    subst e3
    refine then_n ?_
    refine ⟨Mods.refl _ _, ?_⟩
    intro w4 m4 _
    have hkl : Mods (fun k => U k ∧ (noB k ∨ w2'.heap.size ≤ k)) w3 w4 := m4.mono (fun k _ hk => by subst hk; exact ⟨hUlp, .inr hlp⟩)
    have hkl2 : Mods (fun k => (U k ∨ argB #[kv, vv] k) ∧ (noB k ∨ w2'.heap.size ≤ k)) w3 w4 := m4.mono (fun k _ hk => by subst hk; exact ⟨.inl hUlp, .inr hlp⟩)
    obtain ⟨hbs4, hby4⟩ := keep2 U _ _ hkl hinv
    have hJ4 := frm J hJ _ _ _ _ _ hJi hszr hkl hUs (fun k hk => .inl hk)
    have hJa4 := frm J hJ _ _ _ _ _ hJa hszr hkl2 (fun k hk => by rcases hk with hk | hk; exact hUs k hk; exact hab k hk) (fun k hk => .inl hk)
    have hsz4 := Nat.le_trans hszr m4.size
    have hUs4 : ∀ k, U k → k < w4.heap.size := fun k hk => Nat.lt_of_lt_of_le (hUs k hk) m4.size
    have hUo4 : ∀ k, UoC bs bw by1 U k → k < w4.heap.size := fun k hk => by
      rcases hk with hk | rfl | rfl | rfl
      · exact hUs4 k hk
      · omega
      · omega
      · omega
    have akv : ∀ k, kv.ownBlock = some k → argB #[kv, vv] k := fun k hk => ⟨kv, by simp, hk⟩
    have avv : ∀ k, vv.ownBlock = some k → argB #[kv, vv] k := fun k hk => ⟨vv, by simp, hk⟩
    have o14 := o1.keep m4 (fun k hk x => u1 k hk (x ▸ hUlp))
    have o24 := o2.keep m4 (fun k hk x => u2 k hk (x ▸ hUlp))
    have hab4 : ∀ k, argB #[kv, vv] k → k < w4.heap.size := fun k hk => Nat.lt_of_lt_of_le (hab k hk) m4.size
    have hJb4 : J i (fun k => UoC bs bw by1 U k ∨ argB #[kv, vv] k) w4 := hJ _ _ _ _ _ hJa4 (Mods.refl _ _) (fun k hk => by
      rcases hk with (hk | hk) | hk | hk | hk
      · exact hUs4 k hk
      · exact hab4 k hk
      · subst hk; omega
      · subst hk; omega
      · subst hk; omega) (fun k hk => by
      rcases hk with (hk | hk) | hk
      · exact .inl (.inl (.inl hk))
      · exact .inl (.inr hk)
      · exact .inl (.inl (.inr hk)))
    obtain ⟨ok4, tj4⟩ := tk1 i _ _ hi hJ4
    obtain ⟨_, tb4⟩ := tk1 i _ _ hi hJb4
    clear hJi hinv hkl hkl2 hJa hJa4
    refine wpIn_block ?_
    refine wpIn_seq ?_
    refine wpIn_tl (d := .region 5 (opsC 5 Try.f73) false) (by kernel_rfl) ?_
    refine RW.wpIn (kc5 (cells_of hbs4 0) (tick_any (hOk _ ok4)) ?_) (by kernel_rfl)
    intros
    rename_i w5 hτ
    refine then_n ?_
    have m5 := hτ.mods
    have hby5 := m5.heap hby4 (fun e => by omega)
    have hbs5 := m5.heap hbs4 (fun e => n4 e)
    have o15 := o14.keep m5 (fun k hk x => a4 (.inr (x ▸ akv k hk)))
    have o25 := o24.keep m5 (fun k hk x => a4 (.inr (x ▸ avv k hk)))
    refine wpIn_seq ?_
    refine wpIn_tl (d := .region 6 (opsC 6 Try.f73) false) (by kernel_rfl) ?_
    refine wpIn_region_yieldA (Q1 := fun _ a' w' => wpOpsIn _ _ _ _ _ _ a' w') 3 (by kernel_rfl) (kc6 (l := l) (cells_of hby5 0) ?_) (fun _ _ h => h)
    intros
    rename_i w5' e5
    subst e5
    refine wpOpsIn_yield (some 20) ⟨by kernel_rfl, by kernel_rfl, by kernel_rfl⟩ (by kernel_rfl) (by kernel_rfl) (hY i (UoC bs bw by1 U) #[kv, vv] w5' hi (tj4 _ hτ) ⟨e, kv, vv, hei, rfl, o15, o25, fun k hk x => ?_, fun k hk x => ?_, dd, b1, b2⟩ (fun k hk => Nat.lt_of_lt_of_le (hUo4 k hk) m5.size) (by have := m5.size; omega) (tb4 _ hτ) (fun k hk => Nat.lt_of_lt_of_le (hab4 k hk) m5.size)) ?_
    · rcases x with x | x | x | x
      · exact u1 k hk x
      · exact a1 (.inr (x ▸ akv k hk))
      · exact a2 (.inr (x ▸ akv k hk))
      · exact a3 (.inr (x ▸ akv k hk))
    · rcases x with x | x | x | x
      · exact u2 k hk x
      · exact a1 (.inr (x ▸ avv k hk))
      · exact a2 (.inr (x ▸ avv k hk))
      · exact a3 (.inr (x ▸ avv k hk))
    rintro r w6 (⟨rfl, k1', k2'⟩ | ⟨rfl, k1', k2'⟩)
    · have m46 : Mods (fun k => ¬ U k) w4 w6 := m5.trans k2' (fun k _ hk x => k4 (hk ▸ x)) (fun k _ hk x => hk (.inl x))
      refine ⟨_, rfl, ?_⟩
      refine wpOpsIn_val (.bool false) (some 21) ⟨by kernel_rfl, by kernel_rfl, by kernel_rfl⟩ (by kernel_rfl) (by kernel_rfl) ?_
      refine then_n ?_
      refine wpIn_cond_false rfl ?_
      refine wpIn_skip ?_
      refine block_n ?_
      exact ⟨m46, hi, k1', ⟨k2'.heap hbs5 (fun x => x (.inr (.inl rfl))), k2'.heap hby5 (fun x => x (.inr (.inr (.inr rfl))))⟩, ⟨k1, k2, k3, k4⟩, Nat.le_trans hsz4 m46.size⟩
    · have m46 : Mods (fun k => ¬ U k) w4 w6 := m5.trans k2' (fun k _ hk x => k4 (hk ▸ x)) (fun k _ hk x => hk (.inl x))
      refine ⟨_, rfl, ?_⟩
      refine wpOpsIn_val (.bool true) (some 21) ⟨by kernel_rfl, by kernel_rfl, by kernel_rfl⟩ (by kernel_rfl) (by kernel_rfl) ?_
      refine then_n ?_
      refine wpIn_cond_true rfl ?_
      refine wpIn_ret ?_
      repeat (first | refine then_r ?_ | refine block_r ?_)
      exact ⟨m46, rfl, k1', Nat.le_trans hsz4 m46.size⟩
  · -- all have come
    rintro D U W5 hD hUD hus ⟨h1, h2, h3, h5, h4⟩ hdef
    refine block_n ?_
    refine marks_leave hdef (results_none rfl _ _ _) ?_
    refine ⟨⟨_, rfl⟩, .inl ⟨UoC bs bw by1 U, frm J hJ _ _ _ _ _ h2 h4 ((putObj_mods W5 D _).mono (fun k _ hk => by subst hk; exact ⟨hUD, .inr hD⟩)) hus (fun k hk => .inl hk), fun k hk => ?_⟩⟩
    rw [World.putObj_size]
    rcases hk with hk | rfl | rfl | rfl
    · exact hus k hk
    · omega
    · omega
    · omega
  · -- a round has left
    rintro D c i U W5 hD hUD hus hi ⟨rfl, h2, h4⟩ hdef
    refine wpIn_ret ?_
    refine block_r ?_
    refine marks_leave hdef (results_none rfl _ _ _) ?_
    refine ⟨⟨_, rfl⟩, .inr ⟨i, UoC bs bw by1 U, hi, frm Jx hJx _ _ _ _ _ h2 h4 ((putObj_mods W5 D _).mono (fun k _ hk => by subst hk; exact ⟨hUD, .inr hD⟩)) hus (fun k hk => .inl hk), fun k hk => ?_⟩⟩
    rw [World.putObj_size]
    rcases hk with hk | rfl | rfl | rfl
    · exact hus k hk
    · omega
    · omega
    · omega
end Go.Proofs.Ytngemlpalkfjeaa

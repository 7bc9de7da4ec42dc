/- bank.coins: its closure is an iterator over what each account has, that ticks the store. -/
import Derived.Test.YtglkmaalpammcaaGreatBs0
import Derived.Test.YtglkmaalpammcaaGreatZD
import Derived.Test.YtglkmaalpammcaaGreatZE
import Derived.Test.YtglkmaalpammcaaGreatRqAccount
namespace Go.Proofs.YtglkmaalpammcaaGreat
open Go.Gl Go.RowKit
set_option linter.unusedVariables false
set_option maxRecDepth 100000
theorem coins_any (w : World) (sg : Nat) : Calls Tryz.prog 98 #[.pointer (some ⟨sg, 0, none⟩)] w fun e w' => ∃ bs bh hv, e = .returned (.func (.func 167) #[] #[.pointer (some ⟨bs, 0, none⟩), .pointer (some ⟨bh, 0, none⟩)]) ∧
   w'.heap[bs]? = some (.cells #[.pointer (some ⟨sg, 0, none⟩)] 26 (0, 0)) ∧ w'.heap[bh]? = some (.cells #[hv] 91 (0, 0)) ∧ Gl.Own w' hv [97] ∧ Mods noB w w' ∧ w.heap.size ≤ bs ∧ w.heap.size ≤ bh ∧ freshIn w hv := by
 have F := Lib.hid (fun W => show Calls Tryz.prog 112 #[.int .i64 4] W (KRes W [97] 0) from Of_any 4 W)
 have b1 := heap_new w (.cells #[.pointer (some ⟨sg, 0, none⟩)] 26)
 have M1 := Lib.hid ((Mods.refl noB w).alloc (.cells #[.pointer (some ⟨sg, 0, none⟩)] 26))
 have HS := Lib.hid (show (w.alloc (.cells #[.pointer (some ⟨sg, 0, none⟩)] 26)).heap.size = w.heap.size + 1 by simp)
 go_enter Tryz.func98, Tryz.ntmps98
 go_wp2_with fail
 refine (F.out _).mono ?_
 rintro e w2 ⟨v, rfl, o, m, f⟩
 have B2 := Lib.hid (m.heap b1 (fun x => x))
 have M2 := Lib.hid (M1.out.then0 m)
 have s2 : w.heap.size + 1 ≤ w2.heap.size := by have := m.size; rw [HS.out] at this; exact this
 have fv : freshIn w v := fun k hk => by have := f k hk; rw [HS.out] at this; omega
 obtain ⟨a, c, rfl, _⟩ := o.rd.form
 have R := Lib.hid (fun wq (hq : wq = w2.alloc (.cells #[.slice a 1 c] 91)) => show wq.heap[w.heap.size]? = some (.cells #[.pointer (some ⟨sg, 0, none⟩)] 26 (0, 0)) ∧ wq.heap[w2.heap.size]? = some (.cells #[.slice a 1 c] 91 (0, 0)) ∧ Gl.Own wq (.slice a 1 c) [97] ∧ Mods noB w wq from by
  subst hq
  have m3 := (Mods.refl noB w2).alloc (.cells #[.slice a 1 c] 91)
  exact ⟨m3.heap B2.out (fun x => x), heap_new w2 _, o.keep m3 (fun _ _ x => x), M2.out.then0 m3⟩)
 clear o m f b1 F
 go_wp2
 go_ret
 obtain ⟨r1, r2, r3, r4⟩ := R.out _ rfl
 exact ⟨_, _, _, rfl, r1, r2, r3, r4, Nat.le_refl _, by omega, fv⟩
def ACn (L : List EV) (i : Nat) (U : Nat → Prop) (args : Array Value) (W : World) : Prop := ∃ e, L[i]? = some e ∧ args = #[.int .u64 ((two e.v).1 : Nat)]
theorem argsOk_cn (L : List EV) : ArgsOk (ACn L) := fun i U args W l o h _ _ => h
def OkM (sg mg : Nat) (vo : Value) (R : List PV) (jv : Value) (J : List JV) (A : World) : Prop := ∃ c : Int, 0 ≤ c ∧ c ≤ 4611686010000000000 ∧ KM A sg mg vo R jv J c
theorem OkM.s {sg mg : Nat} {vo jv : Value} {R : List PV} {J : List JV} {A : World} (h : OkM sg mg vo R jv J A) : OkS sg mg A := by
 obtain ⟨c, h0, h1, km⟩ := h
 exact km.okS h0 (by omega)
def UCn (mg : Nat) (vo : Value) (R : List PV) (bs bh : Nat) (hv : Value) (k : Nat) : Prop := MS mg vo R k ∨ MD R k ∨ k = bs ∨ k = bh ∨ hv.ownBlock = some k
structure CnPre (w : World) (sg bs bh : Nat) (hv : Value) : Prop where
 bs : w.heap[bs]? = some (.cells #[.pointer (some ⟨sg, 0, none⟩)] 26 (0, 0))
 bh : w.heap[bh]? = some (.cells #[hv] 91 (0, 0))
 hv : Gl.Own w hv [97]
theorem CnPre.keep {w w' : World} {sg bs bh mg : Nat} {hv vo : Value} {R : List PV} (h : CnPre w sg bs bh hv) (hm : Mods (fun k => ¬ UCn mg vo R bs bh hv k) w w') : CnPre w' sg bs bh hv :=
 ⟨hm.heap h.bs (fun x => x (.inr (.inr (.inl rfl)))), hm.heap h.bh (fun x => x (.inr (.inr (.inr (.inl rfl))))), h.hv.keep hm (fun k hk x => x (.inr (.inr (.inr (.inr hk)))))⟩
set_option maxHeartbeats 4000000 in
theorem coins_iter {w : World} {sg mg bs bh : Nat} {vo jv hv : Value} {R : List PV} {J0 : List JV} (h : CnPre w sg bs bh hv) (pm : PM w mg vo R) (ok : PgOk (pgs R)) (hn : R.length ≤ 1000000) (hL : ∀ e ∈ pxL R [97], e.v.length ≤ 1000000) (nsg : ¬ UCn mg vo R bs bh hv sg) (hsg : sg < w.heap.size) :
  CIter Tryz.prog 167 #[.pointer (some ⟨bs, 0, none⟩), .pointer (some ⟨bh, 0, none⟩)] (pxL R [97]).length (ACn (pxL R [97])) (UCn mg vo R bs bh hv) (tickR sg) (OkM sg mg vo R jv J0) w := by
 intro l K J Jt Jx W hW hK hJ hJt hJx tj0 tj1 hY h0
 have pre := h.keep hW
 have hwW : w.heap.size ≤ W.heap.size := hW.size
 have hUl : ∀ k, UCn mg vo R bs bh hv k → k < W.heap.size := fun k hk => by
  rcases hk with hk | hk | rfl | rfl | hk
  ·have := pm.lt k hk; omega
  ·have := pm.dlt k hk; omega
  ·exact lt_of_heap pre.bs
  ·exact lt_of_heap pre.bh
  ·exact pre.hv.lt k hk
 clear h hW pm
 obtain ⟨UW, hUW⟩ : ∃ UW, UCn mg vo R bs bh hv = UW := ⟨_, rfl⟩
 have SW := Lib.hid hUW
 have nsgW : ¬ UW sg := by rw [← hUW]; exact nsg
 rw [hUW] at h0 hUl
 obtain ⟨_, _, _, km⟩ := (tj0 _ _ h0).1
 (refine calls_marks _ Tryz.func167 rfl ?_; simp only [Tryz.ntmps167, List.size_toArray, List.length_cons, List.length_nil, Nat.reduceAdd, Nat.reduceSub, Array.replicate_succ, Array.replicate_zero, List.push_toArray, List.append_toArray, List.nil_append, List.cons_append])
 refine wpIn_seq ?_
 refine wpIn_tl (d := .region 0 (opsC 0 Tryz.f167) false) (by kernel_rfl) ?_
 refine RW.wpIn (cn0 ?_) (by kernel_rfl)
 intro by1 w1 hby hbO m1
 refine then_n ?_
 refine wpIn_seq ?_
 refine wpIn_tl (d := .region 1 (opsC 1 Tryz.f167) false) (by kernel_rfl) ?_
 refine RW.wpIn (cn1 (X := fun lb w' => TkGot w1 w' sg mg vo R (pxL R [97]) lb) (cells_of (m1.heap pre.bs (fun x => x)) 0) (cells_of (m1.heap pre.bh (fun x => x)) 0) ((kPrefix_any (km.keep0 m1) (pre.hv.rd.keep m1 (fun _ _ x => x)) (by simp) ok hn).mono (fun e w' ⟨b1, b2, he, hg⟩ => ⟨_, he, hg⟩)) ?_) (by kernel_rfl)
 intros
 rename_i lb w2 hres
 obtain ⟨m2, Ui, it, hUi⟩ := hres
 refine then_n ?_
 have m12 := m1.then0 m2
 have hbO2 := m2.heap hbO (fun x => x)
 have hby2 : by1 < w2.heap.size := lt_of_heap hbO2
 have hs12 : W.heap.size ≤ w2.heap.size := m12.size
 have hsub0 : ∀ k, UoW UW by1 Ui k → UW k ∨ W.heap.size ≤ k := fun k hk => by
  rcases hk with hk | hk | rfl
  ·exact .inl hk
  ·rcases (hUi k hk).2.2 with x | x | x
   ·exact .inl (by rw [← SW.out]; exact .inl x)
   ·exact .inl (by rw [← SW.out]; exact .inr (.inl x))
   ·right; have := m1.size; omega
  ·right; omega
 have h2 : K 0 (UoW UW by1 Ui) w2 := hK _ _ _ _ _ h0 (m12.mono (fun _ _ x => x.elim)) hUl hsub0
 have frm : ∀ (X : Nat → (Nat → Prop) → World → Prop), Frm W.heap.size noB X → ∀ i U U' A B, X i (UoW UW by1 U) A → w2.heap.size ≤ A.heap.size → Mods (fun k => U k ∧ (noB k ∨ w2.heap.size ≤ k)) A B → (∀ k, U k → k < A.heap.size) → (∀ k, U' k → U k ∨ A.heap.size ≤ k) → X i (UoW UW by1 U') B := fun X hX i U U' A B hx hsz hm hus hsub => by
  refine hX _ _ _ _ _ hx (hm.mono (fun k _ hk => ⟨.inr (.inl hk.1), hk.2.imp id (fun h => by omega)⟩)) (fun k hk => ?_) (fun k hk => ?_)
  ·rcases hk with hk | hk | rfl
   ·have := hUl k hk; omega
   ·exact hus k hk
   ·omega
  ·rcases hk with hk | hk | hk
   ·exact .inl (.inl hk)
   ·exact (hsub k hk).imp (fun h => .inr (.inl h)) id
   ·exact .inl (.inr (.inr hk))
 have keep2 : ∀ (U : Nat → Prop) (A B : World), Mods (fun k => U k ∧ (noB k ∨ w2.heap.size ≤ k)) A B → A.heap[by1]? = some (.cells #[.func (.yield l) #[] #[]] 141 (0, 0)) → B.heap[by1]? = some (.cells #[.func (.yield l) #[] #[]] 141 (0, 0)) := fun U A B hm hp => hm.heap hp (fun hk => by
   rcases hk.2 with h | h
   ·exact h
   ·omega)
 have fr2 : ∀ (X : Nat → (Nat → Prop) → World → Prop), Frm W.heap.size noB X → Frm w2.heap.size noB (fun i U Wr => X i (UoW UW by1 U) Wr ∧ Wr.heap[by1]? = some (.cells #[.func (.yield l) #[] #[]] 141 (0, 0)) ∧ w2.heap.size ≤ Wr.heap.size) := fun X hX i U U' A B ⟨h2, h3, h4⟩ hm hus hsub => ⟨frm X hX _ _ _ _ _ h2 h4 hm hus hsub, keep2 U _ _ hm h3, Nat.le_trans h4 hm.size⟩
 have tby : ∀ {A B : World}, tickR sg A B → A.heap[by1]? = some (.cells #[.func (.yield l) #[] #[]] 141 (0, 0)) → B.heap[by1]? = some (.cells #[.func (.yield l) #[] #[]] 141 (0, 0)) := fun t hp => t.mods.heap hp (fun e => by omega)
 refine wpIn_block ?_
 refine wpIn_rangeC0 (by rfl) (enters_of Tryz.func244 (by kernel_rfl) rfl) (it w2 (Mods.refl _ _)) (fun A C t => t.mods) (by omega) (Mods.refl _ _) (fun k hk => (hUi k hk).1) (argsOk_wk _ _) (fun i U args W1 hA => by obtain ⟨e, kv, vv, _, rfl, _⟩ := hA; rfl)
  (fun i U Wr => K i (UoW UW by1 U) Wr ∧ Wr.heap[by1]? = some (.cells #[.func (.yield l) #[] #[]] 141 (0, 0)) ∧ w2.heap.size ≤ Wr.heap.size)
  (fun i U Wr => J i (UoW UW by1 U) Wr ∧ Wr.heap[by1]? = some (.cells #[.func (.yield l) #[] #[]] 141 (0, 0)) ∧ w2.heap.size ≤ Wr.heap.size)
  (fun i U Wr => Jt i (UoW UW by1 U) Wr ∧ Wr.heap[by1]? = some (.cells #[.func (.yield l) #[] #[]] 141 (0, 0)) ∧ w2.heap.size ≤ Wr.heap.size)
  (fun c i U Wr => (c = .ret ∧ Jx i (UoW UW by1 U) Wr) ∧ w2.heap.size ≤ Wr.heap.size)
  (fr2 K hK) (fr2 J hJ) (fr2 Jt hJt) ?_ ⟨h2, hbO2, Nat.le_refl _⟩ ?_ ?_ ?_ ?_ ?_
 ·rintro c i U U' A B ⟨⟨h1, h2⟩, h4⟩ hm hus hsub
  exact ⟨⟨h1, frm Jx hJx _ _ _ _ _ h2 h4 hm hus hsub⟩, Nat.le_trans h4 hm.size⟩
 ·rintro U A ⟨a1, a2, a3⟩
  obtain ⟨b1, b2⟩ := tj0 _ _ a1
  exact ⟨b1.s, fun B t => ⟨b2 B t, tby t a2, Nat.le_trans a3 t.mods.size⟩⟩
 ·rintro i U A hi ⟨a1, a2, a3⟩
  obtain ⟨b1, b2⟩ := tj1 i _ _ hi a1
  exact ⟨b1.s, fun B t => ⟨b2 B t, tby t a2, Nat.le_trans a3 t.mods.size⟩⟩
 ·-- one round
  intro lp i U args Wr hlp hUlp hi ⟨hJi, hinv, hszr⟩ hA hUs hszW hloop _ hab
  obtain ⟨e, kv, vv, hei, hargs, o1, o2, u1, u2, dd, b1, b2⟩ := hA
  subst hargs
  simp only [putArgs, List.setIfInBounds_toArray, List.set_cons_succ, List.set_cons_zero]
  refine wpIn_tl (d := .region 2 (opsC 2 Tryz.f167) false) (by kernel_rfl) ?_
  refine RW.wpIn (cn2 ?_) (by kernel_rfl)
  intro w3 e3
  subst e3
  refine then_n ?_
  refine ⟨Mods.refl _ _, ?_⟩
  intro w4 m4 _
  have hkl : Mods (fun k => U k ∧ (noB k ∨ w2.heap.size ≤ k)) w3 w4 := m4.mono (fun k _ hk => by subst hk; exact ⟨hUlp, .inr hlp⟩)
  have hby4 := keep2 U _ _ hkl hinv
  have hJ4 := frm Jt hJt _ _ _ _ _ hJi hszr hkl hUs (fun k hk => .inl hk)
  have hsz4 := Nat.le_trans hszr m4.size
  have hUs4 : ∀ k, U k → k < w4.heap.size := fun k hk => Nat.lt_of_lt_of_le (hUs k hk) m4.size
  have o24 := o2.keep m4 (fun k hk x => u2 k hk (x ▸ hUlp))
  have hlv : e.v.length ≤ 1000000 := hL e (List.mem_of_getElem? hei)
  have AG := account_get o24.rd hlv
  clear hJi hinv
  refine wpIn_block ?_
  refine wpIn_seq ?_
  refine wpIn_tl (d := .region 3 (opsC 3 Tryz.f167) false) (by kernel_rfl) ?_
  refine RW.wpIn (cn3 (X := fun n0 n1 w' => two e.v = (n0, n1) ∧ Mods noB w4 w') (AG.mono (fun r w' ⟨n0, n1, er, hr, hg, hm⟩ => ⟨n0, n1, _, hr, two_of hg, hm⟩)) ?_) (by kernel_rfl)
  intros
  rename_i n0 n1 bq wc w5 hx hbq hb5 m5
  obtain ⟨hx1, hx2⟩ := hx
  refine then_n ?_
  have m45 := hx2.then0 m5
  have hJ5 := hJt _ _ _ _ _ hJ4 (m45.mono (fun _ _ x => x.elim)) (fun k hk => by
   rcases hk with hk | hk | rfl
   ·have := hUl k hk; omega
   ·exact hUs4 k hk
   ·omega) (fun k hk => .inl hk)
  have hby5 := m45.heap hby4 (fun x => x)
  have s45 := m45.size
  have hUo5 : ∀ k, UoW UW by1 U k → k < w5.heap.size := fun k hk => by
   rcases hk with hk | hk | rfl
   ·have := hUl k hk; omega
   ·have := hUs4 k hk; omega
   ·omega
  refine wpIn_seq ?_
  refine wpIn_tl (d := .region 4 (opsC 4 Tryz.f167) false) (by kernel_rfl) ?_
  refine wpIn_region_yieldA (Q1 := fun _ a' w' => wpOpsIn _ _ _ _ _ _ a' w') 3 (by kernel_rfl) (cn4 (l := l) (u := .int .u64 (n0 : Nat)) (cells_of hby5 0) (cells_of hb5 0) ?_) (fun _ _ h => h)
  intros
  rename_i w6 e6
  subst e6
  have hA : ACn (pxL R [97]) i (UoW UW by1 U) #[.int .u64 (n0 : Nat)] w6 := ⟨e, hei, by rw [hx1]⟩
  have nob : ∀ k, ¬ argB #[.int .u64 (n0 : Nat)] k := fun k ⟨v, hv, hk⟩ => by
   simp at hv
   subst hv
   simp [Value.ownBlock] at hk
  refine wpOpsIn_yield (some 21) ⟨by kernel_rfl, by kernel_rfl, by kernel_rfl⟩ (by kernel_rfl) (by kernel_rfl) (hY i (UoW UW by1 U) #[.int .u64 (n0 : Nat)] w6 hi hJ5 hA hUo5 (by omega) (hJt _ _ _ _ _ hJ5 (Mods.refl _ _) hUo5 (fun k hk => .inl (hk.resolve_right (nob k)))) (fun k hk => (nob k hk).elim)) ?_
  rintro r w7 (⟨rfl, k1', k2'⟩ | ⟨rfl, k1', k2'⟩)
  ·have m47 : Mods (fun k => ¬ U k) w4 w7 := m45.trans k2' (fun _ _ x => x.elim) (fun k _ hk x => hk (.inr (.inl x)))
   refine ⟨_, rfl, ?_⟩
   refine wpOpsIn_val (.bool false) (some 22) ⟨by kernel_rfl, by kernel_rfl, by kernel_rfl⟩ (by kernel_rfl) (by kernel_rfl) ?_
   refine then_n ?_
   refine wpIn_cond_false rfl ?_
   refine wpIn_skip ?_
   refine block_n ?_
   exact ⟨m47, k1', k2'.heap hby5 (fun hk => hk (.inr (.inr rfl))), Nat.le_trans hsz4 m47.size⟩
  ·have m47 : Mods (fun k => ¬ U k) w4 w7 := m45.trans k2' (fun _ _ x => x.elim) (fun k _ hk x => hk (.inr (.inl x)))
   refine ⟨_, rfl, ?_⟩
   refine wpOpsIn_val (.bool true) (some 22) ⟨by kernel_rfl, by kernel_rfl, by kernel_rfl⟩ (by kernel_rfl) (by kernel_rfl) ?_
   refine then_n ?_
   refine wpIn_cond_true rfl ?_
   refine wpIn_ret ?_
   repeat (first | refine then_r ?_ | refine block_r ?_)
   exact ⟨m47, ⟨rfl, k1'⟩, Nat.le_trans hsz4 m47.size⟩
 ·-- all have come
  rintro D U W5 hD hUD hus ⟨h2, h3, h4⟩ hdef
  refine block_n ?_
  refine marks_leave hdef (results_none rfl _ _ _) ?_
  have hD5 := lt_of_heap hdef
  refine ⟨⟨_, rfl⟩, .inl ⟨UoW UW by1 U, frm J hJ _ _ _ _ _ h2 h4 ((putObj_mods W5 D _).mono (fun k _ hk => by subst hk; exact ⟨hUD, .inr hD⟩)) hus (fun k hk => .inl hk), fun k hk => ?_⟩⟩
  rw [World.putObj_size]
  rcases hk with hk | hk | rfl
  ·have := hUl k hk; omega
  ·exact hus k hk
  ·omega
 ·-- a round has left
  rintro D c i U W5 hD hUD hus hi ⟨⟨rfl, h2⟩, h4⟩ hdef
  have hbd : ∀ k, UoW UW by1 U k → k < (W5.putObj D (.deferred none)).heap.size := fun k hk => by
   rw [World.putObj_size]
   rcases hk with hk | hk | rfl
   ·have := hUl k hk; omega
   ·exact hus k hk
   ·omega
  have hmD : Mods (fun k => U k ∧ (noB k ∨ w2.heap.size ≤ k)) W5 (W5.putObj D (.deferred none)) := (putObj_mods W5 D _).mono (fun k _ hk => by subst hk; exact ⟨hUD, .inr hD⟩)
  refine wpIn_ret ?_
  refine block_r ?_
  refine marks_leave hdef (results_none rfl _ _ _) ?_
  exact ⟨⟨_, rfl⟩, .inr ⟨i, UoW UW by1 U, hi, frm Jx hJx _ _ _ _ _ h2 h4 hmD hus (fun k hk => .inl hk), hbd⟩⟩
end Go.Proofs.YtglkmaalpammcaaGreat

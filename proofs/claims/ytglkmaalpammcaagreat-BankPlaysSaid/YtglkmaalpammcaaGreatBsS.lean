/- bank.Sum: the coins of all accounts together. -/
import Derived.Test.YtglkmaalpammcaaGreatBs
import Derived.Test.YtglkmaalpammcaaGreatStI
import Derived.Test.YtglkmaalpammcaaGreatNAdd
import Derived.Test.YtglkmaalpammcaaGreatZE
namespace Go.Proofs.YtglkmaalpammcaaGreat
open Go.Gl Go.RowKit
set_option linter.unusedVariables false
set_option maxRecDepth 100000
abbrev BB : Nat := 18446744073709551616
def sumL (L : List EV) : Nat := (L.map (fun e => (two e.v).1)).sum
def sumF (F : List Ent) : Nat := ((F.filter (fun e => beginsB [97] e.1)).map (fun e => (two e.2).1)).sum
theorem sumL_ent (L : List EV) : sumL L = ((L.map EV.ent).map (fun e => (two e.2).1)).sum := by
 unfold sumL
 rw [List.map_map]
 rfl
theorem sumL_take {L : List EV} {i : Nat} {e : EV} (h : L[i]? = some e) : sumL (L.take (i + 1)) = sumL (L.take i) + (two e.v).1 := by
 unfold sumL
 rw [List.take_add_one, h, List.map_append, List.sum_append]
 simp
theorem sumL_le (L : List EV) : sumL L ≤ L.length * 18446744073709551615 := by
  unfold sumL
  induction L with
  | nil => simp
  | cons e L ih =>
    simp only [List.map_cons, List.sum_cons, List.length_cons]
    have := (two_lt e.v).1
    omega
theorem dig_len2 {N : Nat} (h : N < BB ^ 2) : (dig BB N).length ≤ 2 := by
 rw [dig_ldig (by decide) h]
 exact Nat.le_trans (strip_length_le _) (Nat.le_of_eq (ldig_length _ _ _))
def SuR (w : World) (ob : Nat) (L : List EV) (i : Nat) : FP := fun W S D => (∀ k, S k ↔ k = ob) ∧ ∃ v, W.heap[ob]? = some (.cells #[v] 64 (0, 0)) ∧ RN W v (dig BB (sumL (L.take i))) ∧ (∀ k, D k ↔ v.ownBlock = some k) ∧ ∀ k, v.ownBlock = some k → w.heap.size ≤ k ∧ k < W.heap.size ∧ k ≠ ob
theorem sur_f (w : World) (ob : Nat) (L : List EV) (i : Nat) : Framed (SuR w ob L i) := by
 constructor
 ·rintro W S D ⟨hs, v, h1, h2, hd, h3⟩
  exact ⟨fun k hk => by rw [(hs k).1 hk]; exact lt_of_heap h1, fun k hk => (h3 k ((hd k).1 hk)).2.1⟩
 ·rintro W W' S D T ⟨hs, v, h1, h2, hd, h3⟩ m a b
  exact ⟨hs, v, m.heap h1 (a _ ((hs _).2 rfl)), RdM.keep h2 m (fun k hk => b k ((hd k).2 hk)), hd, fun k hk => ⟨(h3 k hk).1, Nat.lt_of_lt_of_le (h3 k hk).2.1 m.size, (h3 k hk).2.2⟩⟩
set_option maxHeartbeats 4000000 in
theorem sumk_any {w : World} {sg mg : Nat} {vo jv : Value} {R : List PV} {J : List JV} {c : Int} (h : KM w sg mg vo R jv J c) (h0 : 0 ≤ c) (h1 : c ≤ 4000000000000000000) (ok : PgOk (pgs R)) (hn : R.length ≤ 1000000) (hl : (pxL R [97]).length ≤ 100000000) (hE : ∀ e ∈ pxL R [97], e.v.length ≤ 1000000) :
  Calls Tryz.prog 29 #[.pointer (some ⟨sg, 0, none⟩)] w fun e w' => ∃ v, e = .returned v ∧ RN w' v (dig BB (sumL (pxL R [97]))) ∧ (∀ k, v.ownBlock = some k → w.heap.size ≤ k ∧ k < w'.heap.size) ∧ Mods (fun k => k = sg) w w' ∧ KM w' sg mg vo R jv J (c + 1 + ((pxL R [97]).length : Nat)) := by
 have hks := h.lt
 have hkd := h.dlt
 generalize hLL : pxL R [97] = LL at *
 (refine calls_marks _ Tryz.func29 rfl ?_; simp only [Tryz.ntmps29, List.size_toArray, List.length_cons, List.length_nil, Nat.reduceAdd, Nat.reduceSub, Array.replicate_succ, Array.replicate_zero, List.push_toArray, List.append_toArray, List.nil_append, List.cons_append])
 refine wpIn_seq ?_
 refine wpIn_tl (d := .region 0 (opsC 0 Tryz.f29) false) (by kernel_rfl) ?_
 refine RW.wpIn (su0 ?_) (by kernel_rfl)
 intro w0 e0
 subst w0
 refine then_n ?_
 refine wpIn_seq ?_
 refine wpIn_tl (d := .region 1 (opsC 1 Tryz.f29) false) (by kernel_rfl) ?_
 refine RW.wpIn (su1 ?_) (by kernel_rfl)
 intro ob w1 hob hO m1
 refine then_n ?_
 refine wpIn_seq ?_
 refine wpIn_seq ?_
 refine wpIn_tl (d := .region 2 (opsC 2 Tryz.f29) false) (by kernel_rfl) ?_
 refine RW.wpIn (su2 (X := fun lb w' => ∃ bs bh hv, lb = #[.pointer (some ⟨bs, 0, none⟩), .pointer (some ⟨bh, 0, none⟩)] ∧ CnPre w' sg bs bh hv ∧ Mods noB w1 w' ∧ w1.heap.size ≤ bs ∧ w1.heap.size ≤ bh ∧ freshIn w1 hv) ((coins_any w1 sg).mono (fun e w' ⟨bs, bh, hv, he, b1, b2, b3, b4, b5, b6, b7⟩ => ⟨_, he, bs, bh, hv, rfl, ⟨b1, b2, b3⟩, b4, b5, b6, b7⟩)) ?_) (by kernel_rfl)
 intros
 rename_i lb w2 hx
 obtain ⟨bs, bh, hv, rfl, cp, m2, n1, n2, fh⟩ := hx
 refine then_n ?_
 have m12 := m1.then0 m2
 have km2 := h.keep0 m12
 have sgl := hks sg (.inl rfl)
 have hO2 := m2.heap hO (fun x => x)
 have hol := lt_of_heap hO
 have hv1 : ∀ k, hv.ownBlock = some k → w1.heap.size ≤ k := fun k hk => fh k hk
 have s1 := m1.size
 have s2 := m2.size
 refine wpIn_block ?_
 refine range_st0 (by rfl) (enters_of Tryz.func167 (by kernel_rfl) rfl) (U0 := UCn mg vo R bs bh hv) (sg := sg) (coins_iter (jv := jv) (J0 := J) cp km2.pm ok hn (by rw [hLL]; exact hE) ?_ (by omega)) (fun A C t => t.mods) (Mods.refl _ _) ?_ (argsOk_cn _) (fun i U args W1 hA => by obtain ⟨e, _, rfl⟩ := hA; rfl)
  (T := fun j W => KM W sg mg vo R jv J (c + (j : Nat))) (Qt := fun k => KS sg mg vo R jv J k ∨ KD R J k) (SuR w ob LL) (fun _ _ _ _ _ => False) (sur_f w ob LL) (fun _ _ => ⟨fun x => x.elim, fun x => x.elim⟩) (fun j A B X t m hx => t.keep m (fun k hk x => hx k x (.inl hk)) (fun k hk x => hx k x (.inr hk))) (fun k hk => ?_) (fun j A hj t => ?_) (.inl (.inl rfl))
  (S0 := fun k => k = ob) (D0 := fun _ => False) (by simpa using km2) ⟨fun _ => Iff.rfl, _, hO2, RdM.nil _ _, fun k => by simp [Value.ownBlock], fun k hk => by simp [Value.ownBlock] at hk⟩ ?_ (fun _ x => x.elim) ?_ ?_ ?_
 ·-- the store's own block is not leaned on
  rintro (x | x | x | x | x)
  ·exact h.s1.1 x
  ·exact km2.data sg (.inl x) (.inl rfl)
  ·omega
  ·omega
  ·have := hv1 _ x; omega
 ·rintro k (x | x | x | x | x)
  ·have := hks k (.inr (.inl x)); omega
  ·have := hkd k (.inl x); omega
  ·rw [x]; exact lt_of_heap cp.bs
  ·rw [x]; exact lt_of_heap cp.bh
  ·exact cp.hv.lt k x
 ·rcases hk with x | x
  ·have := hks k x; omega
  ·have := hkd k x; omega
 ·rw [hLL] at hj
  refine ⟨⟨_, by omega, by omega, t⟩, fun B tt => ?_⟩
  have := t.tickR tt
  rw [show c + ((j + 1 : Nat) : Int) = c + (j : Int) + 1 by omega]
  exact this
 ·rintro k rfl
  refine ⟨?_, ?_⟩
  ·rintro (x | x)
   ·have := hks _ x; omega
   ·have := hkd _ x; omega
  ·rintro (x | x | x | x | x)
   ·have := hks _ (.inr (.inl x)); omega
   ·have := hkd _ (.inl x); omega
   ·omega
   ·omega
   ·have := hv1 _ x; omega
 ·intro l i U args W S D hlp hi hT hr hA hS hD hab hUl hW hm
  obtain ⟨e, hei, rfl⟩ := hA
  rw [hLL] at hei hi
  simp only [putArgs, List.setIfInBounds_toArray, List.set_cons_succ, List.set_cons_zero]
  refine wpIn_tl (d := .region 3 (opsC 3 Tryz.f29) false) (by kernel_rfl) ?_
  refine RW.wpIn (su3 ?_) (by kernel_rfl)
  intro w3 e3
  subst e3
  refine then_n ?_
  refine ⟨rfl, fun W2 m3 hr2 => ?_⟩
  clear hr
  obtain ⟨hs, v, q1, q2, hd, q3⟩ := hr2
  have hx := (two_lt e.v).1
  have hsl : sumL (LL.take i) < BB ^ 2 := by
   have a1 := sumL_le (LL.take i)
   have a2 : (LL.take i).length ≤ 100000000 := by rw [List.length_take]; omega
   have a3 : BB ^ 2 = 340282366920938463463374607431768211456 := by decide
   omega
  have hxl : (two e.v).1 < BB ^ 2 := by
   have a3 : BB ^ 2 = 340282366920938463463374607431768211456 := by decide
   omega
  have hv1c : v.oneCell' = true := by obtain ⟨a, cc, rfl, _⟩ := RdM.form q2; rfl
  have hsc := sumL_take hei
  refine wpIn_block ?_
  refine wpIn_tl (d := .region 4 (opsC 4 Tryz.f29) true) (by kernel_rfl) ?_
  refine RW.wpIn (su4 (X := fun w' f => RN w' f (dig BB (two e.v).1) ∧ Mods noB W2 w') (Y := fun w' f => RN w' f (dig BB (sumL (LL.take (i + 1)))) ∧ Mods noB W2 w' ∧ ∀ k, f.ownBlock = some k → W2.heap.size ≤ k ∧ k < w'.heap.size) q1
   (fun b' hb => (natof_any b' hx).mono (fun e1 w' ⟨f, he, r1, r2, _⟩ => ⟨f, he, r1, hb.then0 r2⟩))
   (fun b' f hf => (natadd_any (RdM.keep q2 hf.2 (fun _ _ x => x)) hf.1 (dig_lim _) (dig_lim _) (Nat.le_trans (dig_len2 hsl) (by decide)) (Nat.le_trans (dig_len2 hxl) (by decide))).mono (fun e1 w' ⟨f', he, r1, r2, r3⟩ => ⟨f', he, by rw [dval_dig (by decide), dval_dig (by decide), ← hsc] at r1; exact r1, hf.2.then0 r2, fun k hk => by have h3 := r3 k hk; have := hf.2.size; exact ⟨by omega, h3.2⟩⟩))
   (fun w' f hf => hf.2) (fun w' f hf => cells_of (hf.2.1.heap q1 (fun x => x)) 0) (fun w' f hf => free_of (hf.2.1.heap q1 (fun x => x)) 0) (fun w' f hf => by obtain ⟨a, cc, rfl, _⟩ := RdM.form hf.1; rfl) ?_) (by kernel_rfl)
  intros
  rename_i f wc w4 hf hw
  subst hw
  refine block_n ?_
  have m4 := (Mods.refl (fun k => k = ob) wc).setCell (p := ⟨ob, 0, none⟩) (.inl rfl) f
  have olt := lt_of_heap q1
  have z3 := m3.size
  refine ⟨SuR w ob LL (i + 1), rfl, fun k => k = ob, fun k => f.ownBlock = some k, ⟨fun _ => Iff.rfl, f, heap_set (hf.2.1.heap q1 (fun x => x)) 0 f, RdM.keep hf.1 m4 (fun k hk e => by have := (hf.2.2 k hk).1; omega), fun _ => Iff.rfl, fun k hk => ?_⟩, ?_, fun k hk => .inl ((hs k).2 hk), fun k hk => .inr (hf.2.2 k hk).1⟩
  ·have := hf.2.2 k hk
   exact ⟨by omega, Nat.lt_of_lt_of_le this.2 m4.size, by omega⟩
  ·exact hf.2.1.trans m4 (fun _ _ x => x.elim) (fun k _ x => (hs k).2 x)
 ·intro Dd W S D hT hr hS hD hDd hm hdef
  rw [hLL] at hT hr
  obtain ⟨hs, v, q1, q2, hd, q3⟩ := hr
  refine block_n ?_
  refine then_n ?_
  refine wpIn_seq ?_
  refine wpIn_tl (d := .region 5 (opsC 5 Tryz.f29) false) (by kernel_rfl) ?_
  refine RW.wpIn (su5 (cells_of q1 0) ?_) (by kernel_rfl)
  intros
  rename_i w4 e4
  subst e4
  refine then_n ?_
  refine wpIn_ret ?_
  refine marks_leave hdef (results_tmp rfl _ _ _) ?_
  have mD := putObj_mods w4 Dd (.deferred none)
  rw [List.take_of_length_le (Nat.le_refl _)] at q2
  refine ⟨v, rfl, RdM.keep q2 mD (fun k hk e => (hD k ((hd k).2 hk)).2 e), fun k hk => ⟨(q3 k hk).1, Nat.lt_of_lt_of_le (q3 k hk).2.1 mD.size⟩, ?_, ?_⟩
  ·exact (m12.trans hm (U := fun k => k = sg) (fun _ _ x => x.elim) (fun k hk x => by rcases x with x | x; omega; exact x)).trans mD (fun _ _ x => x) (fun k hk x => by omega)
  ·rw [show c + 1 + (LL.length : Int) = c + ((LL.length + 1 : Nat) : Int) by omega]
   exact hT.keep mD (fun k hk e => by have := hks k hk; omega) (fun k hk e => by have := hkd k hk; omega)
 ·intro Dd cd i W S D hi hT hr
  exact hr.elim
end Go.Proofs.YtglkmaalpammcaaGreat

/- page.Map.rising: its closure is an iterator over the entries from a key on. -/
import Derived.Test.YtngemlpalkfjeaaPgI0
namespace Go.Proofs.Ytngemlpalkfjeaa
open Go.Gl Go.RowKit
set_option linter.unusedVariables false
set_option maxRecDepth 100000
def rest (R : List PV) (p i : Nat) : List EV := ((R.drop p).flatMap (·.es)).drop i
def risL (R : List PV) (xs : List UInt8) : List EV := rest R (findP (pgs R) xs).1 (findP (pgs R) xs).2.1
theorem rest_in {R : List PV} {p i : Nat} (hp : p < R.length) (hi : i ≤ (R[p]).es.length) : rest R p i = (R[p]).es.drop i ++ rest R (p + 1) 0 := by
  unfold rest
  rw [List.drop_eq_getElem_cons hp, List.flatMap_cons, List.drop_append_of_le_length hi, List.drop_zero]
theorem rest_end {R : List PV} {p i : Nat} (hp : R.length ≤ p) : rest R p i = [] := by
  unfold rest
  rw [List.drop_of_length_le hp]; simp
theorem rest_cons {R : List PV} {p i : Nat} (hp : p < R.length) (hi : i < (R[p]).es.length) : rest R p i = (R[p]).es[i] :: rest R p (i + 1) := by
  rw [rest_in hp (Nat.le_of_lt hi), rest_in hp hi, List.drop_eq_getElem_cons hi, List.cons_append]
theorem rest_next {R : List PV} {p : Nat} (hp : p < R.length) : rest R p (R[p]).es.length = rest R (p + 1) 0 := by
  rw [rest_in hp (Nat.le_refl _), List.drop_of_length_le (Nat.le_refl _), List.nil_append]
def URis (g : Nat) (vo : Value) (R : List PV) (m bf : Nat) (fv : Value) (k : Nat) : Prop := MS g vo R k ∨ MD R k ∨ k = m ∨ k = bf ∨ fv.ownBlock = some k
def ARis (R : List PV) (xs : List UInt8) (i : Nat) (_ : Nat → Prop) (args : Array Value) (_ : World) : Prop := ∃ e, (risL R xs)[i]? = some e ∧ args = #[.agg #[e.kv, e.vv]]
theorem argB_agg {vs : Array Value} {k : Nat} (h : argB #[.agg vs] k) : False := by
  obtain ⟨v, hv, hk⟩ := h
  have : v = .agg vs := by simpa using hv
  rw [this] at hk
  simp [Value.ownBlock] at hk
structure RisPre (w : World) (g : Nat) (vo : Value) (R : List PV) (m bf : Nat) (fv : Value) (xs : List UInt8) : Prop where
  pm : PM w g vo R
  bm : ∃ t, w.heap[m]? = some (.cells #[.pointer (some ⟨g, 0, none⟩)] t (0, 0))
  bfr : ∃ t, w.heap[bf]? = some (.cells #[fv] t (0, 0))
  fr : Gl.Own w fv xs
theorem RisPre.keep {w w' : World} {g : Nat} {vo : Value} {R : List PV} {m bf : Nat} {fv : Value} {xs : List UInt8} (h : RisPre w g vo R m bf fv xs) (hm : Mods (fun k => ¬ URis g vo R m bf fv k) w w') : RisPre w' g vo R m bf fv xs := by
  obtain ⟨t1, h1⟩ := h.bm
  obtain ⟨t2, h2⟩ := h.bfr
  exact ⟨h.pm.keep hm (fun k hk x => x (.inl hk)) (fun k hk x => x (.inr (.inl hk))), ⟨t1, hm.heap h1 (fun x => x (.inr (.inr (.inl rfl))))⟩, ⟨t2, hm.heap h2 (fun x => x (.inr (.inr (.inr (.inl rfl)))))⟩, h.fr.keep hm (fun k hk x => x (.inr (.inr (.inr (.inr hk)))))⟩
theorem RisPre.lt {w : World} {g : Nat} {vo : Value} {R : List PV} {m bf : Nat} {fv : Value} {xs : List UInt8} (h : RisPre w g vo R m bf fv xs) : ∀ k, URis g vo R m bf fv k → k < w.heap.size := by
  obtain ⟨t1, h1⟩ := h.bm
  obtain ⟨t2, h2⟩ := h.bfr
  rintro k (hk | hk | rfl | rfl | hk)
  · exact h.pm.lt k hk
  · exact h.pm.dlt k hk
  · exact lt_of_heap h1
  · exact lt_of_heap h2
  · exact h.fr.lt k hk
set_option maxHeartbeats 4000000 in
theorem rising_iter {w : World} {g : Nat} {vo : Value} {R : List PV} {m bf : Nat} {fv : Value} {xs : List UInt8} (h : RisPre w g vo R m bf fv xs) (ok : PgOk (pgs R)) (hn : R.length ≤ 1000000) :
    Iter Try.prog 75 #[.pointer (some ⟨m, 0, none⟩), .pointer (some ⟨bf, 0, none⟩)] (risL R xs).length (ARis R xs) (URis g vo R m bf fv) noB w := by
  intro l J Jx W hW hJ hJx hY h0
  have pre := h.keep hW
  obtain ⟨SZ, hSZ⟩ : ∃ SZ, W.heap.size = SZ := ⟨_, rfl⟩
  rw [hSZ] at hY
  have hs0 : SZ ≤ W.heap.size := Nat.le_of_eq hSZ.symm
  clear h hW hSZ
  have hlen : ∀ q ∈ R, q.es.length ≤ 32 := fun q hq => by
    have := ok.most (ents q.es) (List.mem_map_of_mem (f := fun p => ents p.es) hq)
    rwa [ents_length] at this
  have hne : ∀ q ∈ R, q.es ≠ [] := fun q hq e => by
    have := ok.ne (ents q.es) (List.mem_map_of_mem (f := fun p => ents p.es) hq)
    rw [e] at this
    exact this rfl
  -- what holds between two rounds
  have keepJ : ∀ i A B, J i (URis g vo R m bf fv) A → RisPre A g vo R m bf fv xs → Mods noB A B → J i (URis g vo R m bf fv) B := fun i A B hj hp hm => hJ i _ _ A B hj (hm.mono (fun _ _ x => x.elim)) hp.lt (fun k hk => .inl hk)
  have keepX : ∀ i A B, Jx i (URis g vo R m bf fv) A → RisPre A g vo R m bf fv xs → Mods noB A B → Jx i (URis g vo R m bf fv) B := fun i A B hj hp hm => hJx i _ _ A B hj (hm.mono (fun _ _ x => x.elim)) hp.lt (fun k hk => .inl hk)
  obtain ⟨tm, hbm⟩ := pre.bm
  obtain ⟨tf, hbf⟩ := pre.bfr
  obtain ⟨ao, cap, hvo, _⟩ := (OwnG.rd pre.pm.row).form
  have c1 : W.cell? ⟨m, 0, none⟩ = some (.pointer (some ⟨g, 0, none⟩)) := cells_of hbm 0
  have c2 : W.cell? ⟨g, 0, none⟩ = some (.slice ao R.length cap) := by rw [← hvo]; exact cells_of pre.pm.hg 0
  by_cases hR : R = []
  · have hz : R.length = 0 := by rw [hR]; rfl
    have hr0 : risL R xs = [] := by rw [hR]; rfl
    (refine calls_in _ Try.func75 rfl ?_; simp only [Try.ntmps75, List.size_toArray, List.length_cons, List.length_nil, Nat.reduceAdd, Nat.reduceSub, Array.replicate_succ, Array.replicate_zero, List.push_toArray, List.append_toArray, List.nil_append, List.cons_append])
    refine wpIn_seq ?_
    refine wpIn_seq ?_
    refine wpIn_tl (d := .region 0 (opsC 0 Try.f75) false) (by kernel_rfl) ?_
    refine RW.wpIn (ris0e c1 c2 hz ?_) (by kernel_rfl)
    intros
    rename_i hw
    subst hw
    refine then_n ?_
    refine wpIn_cond_true rfl ?_
    refine wpIn_ret ?_
    repeat (refine then_r ?_)
    refine bodyPost_ret (results_none rfl _ _ _) rfl ?_
    refine ⟨⟨_, rfl⟩, .inl ⟨_, ?_, pre.lt⟩⟩
    rw [hr0]
    exact h0
  · obtain ⟨hp0, hi0⟩ := lies_at (ys := xs) hR
    obtain ⟨b, off, rfl⟩ : ∃ b off, ao = some ⟨b, off, none⟩ := by
      rcases pre.pm.open with ⟨h1, _⟩ | ⟨b, off, cp, hv, _, _, _⟩
      · exact absurd h1 hR
      · rw [hvo] at hv; cases hv; exact ⟨_, _, rfl⟩
    have hne' : pgs R ≠ [] := fun h => hR (by cases R with | nil => rfl | cons a b => simp [pgs] at h)
    have HP := Lib.hid (fun (wr : World) (hp : RisPre wr g vo R m bf fv xs) => pageOf_any hp.pm hp.fr.rd ok hn)
    have PL := Lib.hid (fun (wr : World) (hp : RisPre wr g vo R m bf fv xs) (p : Nat) (hlt : p < R.length) => place_any (hp.pm.page (List.getElem_mem hlt)) hp.fr.rd (by have := ok.page (i := p) (by rw [pgs_length]; exact hlt); simpa [pgs] using this) (by have := hlen _ (List.getElem_mem hlt); omega))
    have hfind := findP_ne hne' xs
    have hrl : risL R xs = rest R (findP (pgs R) xs).1 (findP (pgs R) xs).2.1 := rfl
    generalize findP (pgs R) xs = F at *
    obtain ⟨P, I, B⟩ := F
    simp only at hp0 hi0 hrl
    have hF1 : P = pgOf (pgs R) xs := congrArg Prod.fst hfind
    have hF2 : I = plOf (ents (R[P]).es) xs := by
      have := congrArg (fun x => x.2.1) hfind
      simp only at this
      rw [← hF1, pgs_getD hp0] at this
      exact this
    have keepM : ∀ A B, RisPre A g vo R m bf fv xs → Mods noB A B → RisPre B g vo R m bf fv xs := fun A B hp hm => hp.keep (hm.mono (fun _ _ x => x.elim))
    -- the cells
    have k1 : ∀ wr, RisPre wr g vo R m bf fv xs → wr.cell? ⟨m, 0, none⟩ = some (.pointer (some ⟨g, 0, none⟩)) := fun wr hp => by obtain ⟨t, h⟩ := hp.bm; exact cells_of h 0
    have k2 : ∀ wr, RisPre wr g vo R m bf fv xs → wr.cell? ⟨g, 0, none⟩ = some (.slice (some ⟨b, off, none⟩) R.length cap) := fun wr hp => by rw [← hvo]; exact cells_of hp.pm.hg 0
    have k3 : ∀ wr, RisPre wr g vo R m bf fv xs → wr.cell? ⟨bf, 0, none⟩ = some fv := fun wr hp => by obtain ⟨t, h⟩ := hp.bfr; exact cells_of h 0
    have k4 : ∀ wr, RisPre wr g vo R m bf fv xs → ∀ p (hp : p < R.length), wr.cell? ⟨b, off + p, none⟩ = some (R[p]).pv := fun wr hp p hlt => by have := hp.pm; rw [hvo] at this; exact this.rowcell (Mods.refl noB wr) hlt
    have KK := Lib.hid (And.intro k1 (And.intro k2 (And.intro k3 k4)))
    clear k1 k2 k3 k4 hfind c1 hbm hbf
    (refine calls_in _ Try.func75 rfl ?_; simp only [Try.ntmps75, List.size_toArray, List.length_cons, List.length_nil, Nat.reduceAdd, Nat.reduceSub, Array.replicate_succ, Array.replicate_zero, List.push_toArray, List.append_toArray, List.nil_append, List.cons_append])
    refine wpIn_seq ?_
    refine wpIn_seq ?_
    refine wpIn_tl (d := .region 0 (opsC 0 Try.f75) false) (by kernel_rfl) ?_
    refine RW.wpIn (ris0n (KK.out.1 _ pre) c2 (fun h => hR (List.length_eq_zero_iff.1 h)) ?_) (by kernel_rfl)
    intros
    rename_i hw
    subst hw
    refine then_n ?_
    refine wpIn_cond_false rfl ?_
    refine wpIn_skip ?_
    refine then_n ?_
    refine wpIn_seq ?_
    refine wpIn_tl (d := .region 1 (opsC 1 Try.f75) false) (by kernel_rfl) ?_
    refine RW.wpIn (ris1 (KK.out.1 _ pre) (KK.out.2.2.1 _ pre) (HP.out _ pre) ?_) (by kernel_rfl)
    intros
    rename_i w1 m1
    have pre1 := keepM _ _ pre m1
    have h1 := keepJ _ _ _ h0 pre m1
    clear h0 pre c2
    rw [← hF1]
    refine then_n ?_
    refine wpIn_seq ?_
    obtain ⟨ap, pc, hpv, _⟩ := (pre1.pm.page (List.getElem_mem hp0)).row.form
    refine wpIn_tl (d := .region 2 (opsC 2 Try.f75) true) (by kernel_rfl) ?_
    refine RW.wpIn (ris2 (fun b' hb => KK.out.1 _ (keepM _ _ pre1 hb)) (fun b' hb => KK.out.2.1 _ (keepM _ _ pre1 hb)) (fun b' hb => (KK.out.2.2.2 _ (keepM _ _ pre1 hb) P hp0).trans (congrArg some hpv)) (fun b' hb => KK.out.2.2.1 _ (keepM _ _ pre1 hb)) hp0 (fun b' hb => by have := PL.out _ (keepM _ _ pre1 hb) P hp0; rw [hpv] at this; exact this) ?_) (by kernel_rfl)
    intros
    rename_i w2 m2
    have pre2 := keepM _ _ pre1 m2
    have h2 := keepJ _ _ _ h1 pre1 m2
    have hs2 := Nat.le_trans hs0 (Nat.le_trans m1.size m2.size)
    clear h1 pre1 m1 m2
    rw [← hF2]
    refine then_n ?_
    refine wpIn_block ?_
    refine wpIn_loop (fun a wr => ∃ p i j : Nat, FrR [] (.func (.yield l) #[] #[]) (.pointer (some ⟨m, 0, none⟩)) (.pointer (some ⟨bf, 0, none⟩)) (.int .i64 ((p : Nat) : Int)) (.int .i64 ((i : Nat) : Int)) a ∧ p ≤ R.length ∧ (∀ hp : p < R.length, i ≤ (R[p]).es.length) ∧ j ≤ (risL R xs).length ∧ (risL R xs).drop j = rest R p i ∧ J j (URis g vo R m bf fv) wr ∧ RisPre wr g vo R m bf fv xs ∧ SZ ≤ wr.heap.size)
      (fun a _ => R.length - (intOf (a.tmps.getD 4 undef)).toNat) ⟨P, I, 0, FrR.mk, Nat.le_of_lt hp0, fun _ => hi0, Nat.zero_le _, by rw [List.drop_zero, hrl], h2, pre2, hs2⟩ ?_
    clear h2 pre2 hs2
    rintro a wr ⟨p, i, j, hfr, hpl, hil, hjl, hdj, hJj, hpre, hws⟩
    have g4 : a.tmps.getD 4 undef = .int .i64 ((p : Nat) : Int) := hfr.elim (C := fun a => a.tmps.getD 4 undef = .int .i64 ((p : Nat) : Int)) (by intros; rfl)
    refine hfr.elim (C := fun a => Code.wpIn _ _ _ _ _ a _) ?_
    intros
    refine wpIn_seq ?_
    refine wpIn_seq ?_
    refine wpIn_tl (d := .region 3 (opsC 3 Try.f75) false) (by kernel_rfl) ?_
    by_cases hlt : p < R.length
    · have hil := hil hlt
      have hmem := List.getElem_mem hlt
      obtain ⟨pb, po, pc1, hpv1, ob1⟩ := hpre.pm.pageOB hmem (hne _ hmem)
      refine RW.wpIn (ris3t (KK.out.1 _ hpre) (KK.out.2.1 _ hpre) hlt ?_) (by kernel_rfl)
      intros
      rename_i hw
      subst hw
      refine then_n ?_
      refine wpIn_cond_true rfl ?_
      refine wpIn_skip ?_
      refine then_n ?_
      refine wpIn_seq ?_
      refine wpIn_block ?_
      refine wpIn_block ?_
      refine wpIn_loop (fun a wr => ∃ i j : Nat, FrR [] (.func (.yield l) #[] #[]) (.pointer (some ⟨m, 0, none⟩)) (.pointer (some ⟨bf, 0, none⟩)) (.int .i64 ((p : Nat) : Int)) (.int .i64 ((i : Nat) : Int)) a ∧ i ≤ (R[p]).es.length ∧ j ≤ (risL R xs).length ∧ (risL R xs).drop j = rest R p i ∧ J j (URis g vo R m bf fv) wr ∧ RisPre wr g vo R m bf fv xs ∧ SZ ≤ wr.heap.size)
        (fun a _ => (R[p]).es.length - (intOf (a.tmps.getD 5 undef)).toNat) ⟨i, j, FrR.mk, hil, hjl, hdj, hJj, hpre, hws⟩ ?_
      clear hil hjl hdj hJj hpre ob1 hpv1 hws
      rintro a5 wr ⟨i, j, hfr, hil, hjl, hdj, hJj, hpre, hws⟩
      have g5 : a5.tmps.getD 5 undef = .int .i64 ((i : Nat) : Int) := hfr.elim (C := fun a => a.tmps.getD 5 undef = .int .i64 ((i : Nat) : Int)) (by intros; rfl)
      obtain ⟨pb, po, pc1, hpv1, ob1⟩ := hpre.pm.pageOB hmem (hne _ hmem)
      refine hfr.elim (C := fun a => Code.wpIn _ _ _ _ _ a _) ?_
      intros
      refine wpIn_seq ?_
      refine wpIn_seq ?_
      refine wpIn_tl (d := .region 5 (opsC 5 Try.f75) false) (by kernel_rfl) ?_
      have c3 := (KK.out.2.2.2 _ hpre p hlt).trans (congrArg some hpv1)
      by_cases hin : i < (R[p]).es.length
      · refine RW.wpIn (ris5t (KK.out.1 _ hpre) (KK.out.2.1 _ hpre) c3 hlt hin ?_) (by kernel_rfl)
        intros
        rename_i hw
        subst hw
        refine then_n ?_
        refine wpIn_cond_true rfl ?_
        refine wpIn_skip ?_
        refine then_n ?_
        refine wpIn_seq ?_
        refine wpIn_block ?_
        refine wpIn_seq ?_
        refine wpIn_tl (d := .region 7 (opsC 7 Try.f75) false) (by kernel_rfl) ?_
        have hcs := ecell_get (R[p]).es i hin
        have hjlt : j < (risL R xs).length := by
          rcases Nat.lt_or_ge j (risL R xs).length with h | h
          · exact h
          · rw [List.drop_of_length_le h, rest_cons hlt hin] at hdj; cases hdj
        have hdj' := hdj
        rw [rest_cons hlt hin, List.drop_eq_getElem_cons hjlt] at hdj'
        obtain ⟨hd1, hd2⟩ := List.cons.inj hdj'
        refine wpIn_region_yieldA (Q1 := fun _ a' w' => wpOpsIn _ _ _ _ _ _ a' w') 11 (by kernel_rfl) (ris7 (KK.out.1 _ hpre) (KK.out.2.1 _ hpre) c3 (by have := ob1.cell hcs.1; exact this) (by have := ob1.cell hcs.2; rw [Nat.add_assoc]; exact this) hlt hin ?_) (fun _ _ h => h)
        intros
        rename_i hw
        subst hw
        have hY1 := hY j (URis g vo R m bf fv) #[.agg #[((R[p]).es[i]).kv, ((R[p]).es[i]).vv]] _ hjlt hJj ⟨(R[p]).es[i], by rw [List.getElem?_eq_getElem hjlt, hd1], rfl⟩ hpre.lt hws (hJ _ _ _ _ _ hJj (Mods.refl _ _) hpre.lt (fun k hk => .inl (hk.elim id (fun h => (argB_agg h).elim)))) (fun k hk => (argB_agg hk).elim)
        refine wpOpsIn_yield (some 60) ⟨by kernel_rfl, by kernel_rfl, by kernel_rfl⟩ (by kernel_rfl) (by kernel_rfl) hY1 ?_
        rintro e w3 (⟨rfl, hJ3, m3⟩ | ⟨rfl, hJ3, m3⟩)
        · have pre3 := hpre.keep m3
          refine ⟨_, rfl, ?_⟩
          refine wpOpsIn_val (.bool false) (some 61) ⟨by kernel_rfl, by kernel_rfl, by kernel_rfl⟩ (by kernel_rfl) (by kernel_rfl) ?_
          refine then_n ?_
          refine wpIn_cond_false rfl ?_
          refine wpIn_skip ?_
          refine block_n ?_
          refine then_n ?_
          refine wpIn_tl (d := .region 6 (opsC 6 Try.f75) false) (by kernel_rfl) ?_
          refine RW.wpIn (ris6 (by have := hlen _ hmem; omega) ?_) (by kernel_rfl)
          intros
          rename_i hw
          subst hw
          refine then_n ?_
          refine ⟨⟨i + 1, j + 1, FrR.mk, hin, hjlt, hd2, hJ3, pre3, Nat.le_trans hws m3.size⟩, ?_⟩
          rw [g5]
          show (R[p]).es.length - (i + 1) < (R[p]).es.length - i
          omega
        · have pre3 := hpre.keep m3
          refine ⟨_, rfl, ?_⟩
          refine wpOpsIn_val (.bool true) (some 61) ⟨by kernel_rfl, by kernel_rfl, by kernel_rfl⟩ (by kernel_rfl) (by kernel_rfl) ?_
          refine then_n ?_
          refine wpIn_cond_true rfl ?_
          refine wpIn_ret ?_
          repeat (first | refine then_r ?_ | refine block_r ?_)
          refine bodyPost_ret (results_none rfl _ _ _) rfl ?_
          exact ⟨⟨_, rfl⟩, .inr ⟨j, _, hjlt, hJ3, pre3.lt⟩⟩
      · obtain rfl : i = (R[p]).es.length := by omega
        refine RW.wpIn (ris5f (KK.out.1 _ hpre) (KK.out.2.1 _ hpre) c3 hlt hin ?_) (by kernel_rfl)
        intros
        rename_i hw
        subst hw
        refine then_n ?_
        refine wpIn_cond_false rfl ?_
        refine wpIn_exit ?_
        repeat (refine then_x ?_)
        refine block_x ?_
        refine block_n ?_
        refine then_n ?_
        refine wpIn_tl (d := .region 4 (opsC 4 Try.f75) false) (by kernel_rfl) ?_
        refine RW.wpIn (ris4 (by omega) ?_) (by kernel_rfl)
        intros
        rename_i hw
        subst hw
        refine then_n ?_
        refine ⟨⟨p + 1, 0, j, FrR.mk, hlt, fun _ => Nat.zero_le _, hjl, by rw [hdj, rest_next hlt], hJj, hpre, hws⟩, ?_⟩
        rw [g4]
        show R.length - (p + 1) < R.length - p
        omega
    · refine RW.wpIn (ris3f (KK.out.1 _ hpre) (KK.out.2.1 _ hpre) hlt ?_) (by kernel_rfl)
      intros
      rename_i hw
      subst hw
      refine then_n ?_
      refine wpIn_cond_false rfl ?_
      refine wpIn_exit ?_
      repeat (refine then_x ?_)
      refine block_x ?_
      refine bodyPost_end (results_none rfl _ _ _) rfl ?_
      have hj : j = (risL R xs).length := by
        rw [rest_end (by omega)] at hdj
        have := List.drop_eq_nil_iff.1 hdj
        omega
      subst hj
      exact ⟨⟨_, rfl⟩, .inl ⟨_, hJj, hpre.lt⟩⟩
end Go.Proofs.Ytngemlpalkfjeaa

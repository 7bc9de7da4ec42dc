/- gleanref5.Map: Set. -/
import Derived.Test.YtjlomnhngngkiaaPgQ0
import Derived.StillTailTactics
namespace Go.Proofs.Ytjlomnhngngkiaa
open Go.Gl Go.RowKit
set_option linter.unusedVariables false
set_option maxRecDepth 100000

/-- the bytes of a new entry, made behind a world w -/
structure NewE (w w2 : World) (x : EV) : Prop where
  e : E1 w2 x
  b : ∀ k, (x.kv.ownBlock = some k ∨ x.vv.ownBlock = some k) → w.heap.size ≤ k ∧ k < w2.heap.size
  m : Mods noB w w2
theorem NewE.then0 {w w2 w3 : World} {x : EV} (h : NewE w w2 x) (m : Mods noB w2 w3) : NewE w w3 x := ⟨h.e.keep m (fun _ _ x => x), fun k hk => ⟨(h.b k hk).1, Nat.lt_of_lt_of_le (h.b k hk).2 m.size⟩, h.m.then0 m⟩
theorem NewE.not {w w2 : World} {x : EV} {g : Nat} {vo : Value} {R : List PV} (h : NewE w w2 x) (hm : QM w g vo R) : ∀ k, (x.kv.ownBlock = some k ∨ x.vv.ownBlock = some k) → k < w2.heap.size ∧ ¬ MS g vo R k := fun k hk => ⟨(h.b k hk).2, fun y => by have := hm.lt k y; have := (h.b k hk).1; omega⟩
theorem QT.last {w w1 w2 : World} {g : Nat} {vo vo' : Value} {R R' : List PV} {x : EV} (h : QM w g vo R) (e : NewE w w1 x) (p1 : QM w2 g vo' R') (p2 : Mods (MS g vo R) w1 w2) (p3 : ∀ k, MS g vo' R' k → MS g vo R k ∨ w1.heap.size ≤ k) (p4 : ∀ k, MD R' k → MD R k ∨ (x.kv.ownBlock = some k ∨ x.vv.ownBlock = some k)) : QT w w2 g vo R vo' R' :=
  ⟨p1, e.m.trans p2 (fun _ _ x => x.elim) (fun _ _ x => x), fun k hk => (p3 k hk).imp id (Nat.le_trans e.m.size), fun k hk => (p4 k hk).imp id (fun y => (e.b k y).1)⟩

set_option maxHeartbeats 4000000 in
theorem rSet_there {w : World} {g : Nat} {vo kv vv : Value} {R : List PV} {xs ys : List UInt8} (hm : QM w g vo R) (hk : Rd w kv xs) (hv : Rd w vv ys) (lx : xs.length ≤ 1000000) (ly : ys.length ≤ 1000000) (ok : PgOk (pgs R)) (hn : R.length ≤ 1000000)
    (hf : (findP (pgs R) xs).2.2 = true) :
    Calls Try.prog 13 #[.pointer (some ⟨g, 0, none⟩), kv, vv] w fun e w' => ∃ vo' R', e = .returned (.bool false) ∧ QT w w' g vo R vo' R' ∧ pgs R' = (pgs R).set (findP (pgs R) xs).1 (((pgs R).getD (findP (pgs R) xs).1 []).set (findP (pgs R) xs).2.1 (xs, ys)) := by
  obtain ⟨hp, hi, hkey⟩ := found_is hf
  have FD := Lib.hid (rfind_any hm hk ok hn)
  obtain ⟨b, off, cap, pb, po, pc, hvo, hpv, ob2, ob1⟩ := hm.way hp hi
  have hge : (pgs R).getD (findP (pgs R) xs).1 [] = ents (R[(findP (pgs R) xs).1]).es := pgs_getD hp
  rw [hge]
  generalize findP (pgs R) xs = F at *
  obtain ⟨p, i, B⟩ := F
  simp only at hf hp hi hkey FD hpv ob2 hge ⊢
  subst hf
  subst hvo
  have HM := Lib.hid hm
  have OB1 := Lib.hid ob1
  have OB2 := Lib.hid ob2
  have HK := Lib.hid hk
  have HV := Lib.hid hv
  have HPV := Lib.hid hpv
  obtain ⟨ak, ck, rfl, _⟩ := hk.form
  obtain ⟨av, cv, rfl, _⟩ := hv.form
  clear hm hk hv ob1 ob2 hpv hge ok hkey
  go_enter Try.func13, Try.ntmps13
  go_wp2_with fail
  refine FD.out.mono ?_
  rintro e w0 ⟨rfl, m0⟩
  have M0 := Lib.hid m0
  have OK := Lib.hid (CopyBytes_any (HK.out.keep m0 (fun _ _ x => x)) (by omega))
  clear m0
  go_wp2_with fail
  refine OK.out.mono ?_
  rintro e w1 ⟨u, rfl, o1, m1, f1⟩
  have OV := Lib.hid (CopyBytes_any (HV.out.keep (M0.out.then0 m1) (fun _ _ x => x)) (by omega))
  have O1 := Lib.hid (And.intro o1 (And.intro m1 f1))
  obtain ⟨a1, c1, rfl, _⟩ := o1.rd.form
  clear o1 m1 f1
  go_wp2_with fail
  refine OV.out.mono ?_
  rintro e w2 ⟨v, rfl, o2, m2, f2⟩
  obtain ⟨nE, nB⟩ := newE O1.out.1 O1.out.2.2 O1.out.2.1 o2 f2 m2 lx ly
  have NE := Lib.hid (show NewE w w2 ⟨_, v, xs, ys⟩ from ⟨nE, fun k hk => ⟨by have := (nB k hk).1; have := M0.out.size; omega, (nB k hk).2⟩, M0.out.then0 (O1.out.2.1.then0 m2)⟩)
  obtain ⟨a2, c2, rfl, _⟩ := o2.rd.form
  clear o2 m2 f2 nE nB O1
  have hbE := heap_new w2 (.cells #[.slice a1 xs.length c1, .slice a2 ys.length c2] 52)
  have mE := (Mods.refl noB w2).alloc (.cells #[.slice a1 xs.length c1, .slice a2 ys.length c2] 52)
  go_upto_region 3 with fail
  generalize hw3 : World.alloc w2 _ = w4 at *
  have NE4 := Lib.hid (NE.out.then0 mE)
  have M4 := Lib.hid NE4.out.m
  have b0 : w4.cell? ⟨w2.heap.size, 0, none⟩ = some (.slice a1 xs.length c1) := cells_of hbE 0
  have b1 : w4.cell? ⟨w2.heap.size, 1, none⟩ = some (.slice a2 ys.length c2) := cells_of hbE 1
  have e0 : w4.cell? ⟨g, 0, none⟩ = some (.slice (some ⟨b, off, none⟩) R.length cap) := cells_of (M4.out.heap HM.out.hg (fun x => x)) 0
  have q1 : w4.cell? ⟨b, off + p, none⟩ = some (.slice (some ⟨pb, po, none⟩) (R[p]).es.length pc) := by
    rw [← HPV.out]
    exact (OB1.out.keep M4.out (fun x => x)).cell (by simp [hp])
  have ob4 := OB2.out.keep M4.out (fun x => x)
  have d0 : (w4.cell? ⟨pb, po + i * 2, none⟩).isSome = true := ob4.there (j := i * 2) (by have := ob4.hn; omega)
  have d1 : (w4.cell? ⟨pb, po + i * 2 + 1, none⟩).isSome = true := by rw [Nat.add_assoc]; exact ob4.there (j := i * 2 + 1) (by have := ob4.hn; omega)
  have fr : ∀ o, w4.frozen? ⟨pb, o, none⟩ = false := ob4.free
  have hpi : (p : Int) < (R.length : Int) := by omega
  have hii : (i : Int) < ((R[p]).es.length : Int) := by omega
  generalize hEs : (R[p]).es = es at *
  have HOB4 := Lib.hid ob4
  clear ob4 hbE mE
  go_upto_region 4 with fail
  go_still_tail 10, (by kernel_rfl)
  change wpList _ _ _ _ _ (w4.drewN 1)
  clear d0 d1 fr
  have ob4 := HOB4.out.keep ((Mods.refl noB w4).drewN 1) (fun x => x)
  refine wpList_store_mid (by rfl) 52 (.tmp 34) (.tmp 33) (by rfl) pb (po + i * 2) #[.slice a1 xs.length c1, .slice a2 ys.length c2] (by rfl) (by rfl) (fun j hj => ⟨by rw [Nat.add_assoc]; exact ob4.there (j := i * 2 + j) (by have := ob4.hn; simp at hj; omega), ob4.free _⟩) (by kernel_rfl) (by simp [Value.oneCell']) ?_
  clear b0 b1 e0 q1 ob4
  generalize hw5 : World.setCells _ _ _ _ = w5
  go_wp2
  go_ret
  subst hEs
  obtain ⟨A, q, C, rfl, rfl, hq⟩ := parts R p hp
  rw [hq] at hi HPV
  have pm4 := (HM.out.keep0 M4.out).keep0 ((Mods.refl noB w4).drewN 1)
  have NE5 := NE4.out.then0 ((Mods.refl noB w4).drewN 1)
  obtain ⟨p1, p2, p3, p4⟩ := q_there_end (x := ⟨.slice a1 xs.length c1, .slice a2 ys.length c2, xs, ys⟩) pm4 HPV.out hi NE5.e (NE5.not HM.out)
  rw [hw5] at p1 p2
  refine ⟨rfl, _, _, QT.last HM.out NE5 p1 p2 p3 p4, ?_⟩
  have hlen : A.length = (pgs A).length := (pgs_length A).symm
  rw [hq, pgs_append, pgs_append, pgs_append, pgs_append, hlen, pgs_single q, set_parts]
  show _ ++ [ents (q.es.set i _)] ++ _ = _
  rw [ents_set]
  rfl

set_option maxHeartbeats 4000000 in
theorem rSet_empty {w : World} {g : Nat} {vo kv vv : Value} {xs ys : List UInt8} (hm : QM w g vo []) (hk : Rd w kv xs) (hv : Rd w vv ys) (lx : xs.length ≤ 1000000) (ly : ys.length ≤ 1000000) :
    Calls Try.prog 13 #[.pointer (some ⟨g, 0, none⟩), kv, vv] w fun e w' => ∃ vo' R', e = .returned (.bool true) ∧ QT w w' g vo [] vo' R' ∧ pgs R' = [[(xs, ys)]] := by
  obtain ⟨a0, cap, hvo, _⟩ := (OwnG.rd hm.row).form
  subst hvo
  have FD := Lib.hid (rfind_any hm hk ⟨List.Pairwise.nil, fun p hp => (List.not_mem_nil hp).elim, fun p hp => (List.not_mem_nil hp).elim⟩ (by simp))
  rw [show findP (pgs []) xs = (0, 0, false) from rfl] at FD
  have HM := Lib.hid hm
  have HK := Lib.hid hk
  have HV := Lib.hid hv
  obtain ⟨ak, ck, rfl, _⟩ := hk.form
  obtain ⟨av, cv, rfl, _⟩ := hv.form
  clear hm hk hv
  go_enter Try.func13, Try.ntmps13
  go_wp2_with fail
  refine FD.out.mono ?_
  rintro e w0 ⟨rfl, m0⟩
  have M0 := Lib.hid m0
  have OK := Lib.hid (CopyBytes_any (HK.out.keep m0 (fun _ _ x => x)) (by omega))
  clear m0
  go_wp2_with fail
  refine OK.out.mono ?_
  rintro e w1 ⟨u, rfl, o1, m1, f1⟩
  have OV := Lib.hid (CopyBytes_any (HV.out.keep (M0.out.then0 m1) (fun _ _ x => x)) (by omega))
  have O1 := Lib.hid (And.intro o1 (And.intro m1 f1))
  obtain ⟨a1, c1, rfl, _⟩ := o1.rd.form
  clear o1 m1 f1
  go_wp2_with fail
  refine OV.out.mono ?_
  rintro e w2 ⟨v, rfl, o2, m2, f2⟩
  obtain ⟨nE, nB⟩ := newE O1.out.1 O1.out.2.2 O1.out.2.1 o2 f2 m2 lx ly
  have NE := Lib.hid (show NewE w w2 ⟨_, v, xs, ys⟩ from ⟨nE, fun k hk => ⟨by have := (nB k hk).1; have := M0.out.size; omega, (nB k hk).2⟩, M0.out.then0 (O1.out.2.1.then0 m2)⟩)
  obtain ⟨a2, c2, rfl, _⟩ := o2.rd.form
  clear o2 m2 f2 nE nB O1
  have hbE := heap_new w2 (.cells #[.slice a1 xs.length c1, .slice a2 ys.length c2] 52)
  have mE := (Mods.refl noB w2).alloc (.cells #[.slice a1 xs.length c1, .slice a2 ys.length c2] 52)
  go_upto_region 3 with fail
  generalize hw3 : World.alloc w2 _ = w4 at *
  have NE4 := Lib.hid (NE.out.then0 mE)
  have M4 := Lib.hid NE4.out.m
  have b0 : w4.cell? ⟨w2.heap.size, 0, none⟩ = some (.slice a1 xs.length c1) := cells_of hbE 0
  have b1 : w4.cell? ⟨w2.heap.size, 1, none⟩ = some (.slice a2 ys.length c2) := cells_of hbE 1
  have hg3 := M4.out.heap HM.out.hg (fun x => x)
  have f0 : ∀ o o', ((w4.alloc o).alloc o').frozen? ⟨g, 0, none⟩ = false := fun o o' => free_of (heap_old (heap_old hg3 o) o') 0
  have d0 : ∀ o o', ((w4.alloc o).alloc o').cell? ⟨g, 0, none⟩ = some (.slice a0 0 cap) := fun o o' => cells_of (heap_old (heap_old hg3 o) o') 0
  have e00 : w4.cell? ⟨g, 0, none⟩ = some (.slice a0 0 cap) := cells_of hg3 0
  clear hbE mE hg3
  go_wp2
  go_ret
  obtain ⟨vo', R', p1, p2, p3, p4, p5⟩ := q_empty_end (x := ⟨.slice a1 xs.length c1, .slice a2 ys.length c2, xs, ys⟩) (HM.out.keep0 M4.out) NE4.out.e (NE4.out.not HM.out)
  exact ⟨vo', R', rfl, QT.last HM.out NE4.out p1 p2 p3 p4, p5⟩

/-- the page that a new entry has made stands in its place -/
theorem QM.newpage {w0 w w' : World} {g b off n cap : Nat} {A C : List PV} {q : PV} {v : Value} {es : List EV} {x : EV} (hm : QM w0 g (.slice (some ⟨b, off, none⟩) n cap) (A ++ [q] ++ C)) (m : Mods noB w0 w) (o : OwnG w 52 2 v es.length (ecell es)) (f : freshIn w0 v)
    (hE : ∀ e ∈ es, e ∈ q.es ∨ e = x) (hx : E1 w0 x) (hb : ∀ k, (x.kv.ownBlock = some k ∨ x.vv.ownBlock = some k) → k < w0.heap.size ∧ ¬ MS g (.slice (some ⟨b, off, none⟩) n cap) (A ++ [q] ++ C) k) (e : w' = w.setCell ⟨b, off + A.length, none⟩ v) :
    QM w' g (.slice (some ⟨b, off, none⟩) n cap) (A ++ [⟨v, es⟩] ++ C) ∧ Mods (MS g (.slice (some ⟨b, off, none⟩) n cap) (A ++ [q] ++ C)) w0 w' ∧ (∀ k, MS g (.slice (some ⟨b, off, none⟩) n cap) (A ++ [⟨v, es⟩] ++ C) k → MS g (.slice (some ⟨b, off, none⟩) n cap) (A ++ [q] ++ C) k ∨ w0.heap.size ≤ k) ∧
      (∀ k, MD (A ++ [⟨v, es⟩] ++ C) k → MD (A ++ [q] ++ C) k ∨ (x.kv.ownBlock = some k ∨ x.vv.ownBlock = some k)) := by
  have hin : q ∈ A ++ [q] ++ C := by simp
  have ob := OwnG.obp hm.row
  have hn : (A ++ [q] ++ C).length = n := by
    rcases hm.open with ⟨h0, _⟩ | ⟨b', off', cap', hv, _⟩
    · simp at h0
    · cases hv; rfl
  have hbl := ob.lt
  have hbg : b ≠ g := fun e => hm.sep1 (by rw [e]; rfl)
  have m2 : Mods (fun k => k = b) w w' := by rw [e]; exact (Mods.refl (fun k => k = b) w).setCell (p := ⟨b, off + A.length, none⟩) (.inl rfl) v
  have mods : Mods (fun k => k = g ∨ (Value.slice (some ⟨b, off, none⟩) n cap).ownBlock = some k ∨ ∃ r ∈ [q], r.pv.ownBlock = some k) w0 w' := m.trans m2 (fun _ _ x => x.elim) (fun _ _ x => .inr (.inl (by rw [x]; rfl)))
  have up := QM.upd (vo' := .slice (some ⟨b, off, none⟩) n cap) (A := A) (B := [q]) (C := C) (N := [⟨v, es⟩]) (X := fun k => x.kv.ownBlock = some k ∨ x.vv.ownBlock = some k) hm mods
    (m2.heap (m.heap hm.hg (fun x => x)) (Ne.symm hbg))
    (by
      have e1 : (A ++ [(⟨v, es⟩ : PV)] ++ C).length = (A ++ [q] ++ C).length := by simp
      have e2 : (A ++ [(⟨v, es⟩ : PV)] ++ C).map (·.pv) = ((A ++ [q] ++ C).map (·.pv)).set A.length v := by
        rw [← List.map_set (f := (·.pv)) (l := A ++ [q] ++ C) (i := A.length) (a := (⟨v, es⟩ : PV)), set_parts]
      rw [e1, e2, e, hn]
      have := ob_set1 (ob.keep m (fun x => x)) (p := A.length) (by simp) v
      rw [hn] at this
      exact this.own)
    (.inl rfl)
    (by
      intro r hr
      rw [List.mem_singleton.1 hr]
      exact ⟨o.keep m2 (fun k hk x => by have := f k hk; omega), .inr f⟩)
    (by
      intro r hr k hk hk2
      rw [List.mem_singleton.1 hr] at hk
      have := f k hk
      simp [Value.ownBlock] at hk2
      omega)
    (List.pairwise_singleton _ _)
    (by
      intro r hr y hy
      rw [List.mem_singleton.1 hr] at hy
      rcases hE y hy with h | rfl
      · exact .inl ⟨q, List.mem_singleton.2 rfl, h⟩
      · exact .inr ⟨hx, fun k hk => ⟨hk, hb k hk⟩⟩)
  exact ⟨up.1, mods.mono (fun k _ hk => by
    rcases hk with h | h | ⟨b, hb, h⟩
    · exact .inl h
    · exact .inr (.inl h)
    · exact .inr (.inr ⟨q, hin, by rw [List.mem_singleton.1 hb] at h; exact h⟩)), up.2.1, up.2.2⟩
theorem QT.trans {a b c : World} {g : Nat} {vo vo' vo'' : Value} {R R' R'' : List PV} (h : QT a b g vo R vo' R') (k : QT b c g vo' R' vo'' R'') : QT a c g vo R vo'' R'' :=
  ⟨k.pm, h.mods.trans k.mods (fun _ _ x => x) (fun i hi x => by
    rcases h.ms i x with y | y
    · exact y
    · omega), fun i hi => by
    rcases k.ms i hi with y | y
    · exact h.ms i y
    · exact .inr (Nat.le_trans h.mods.size y), fun i hi => by
    rcases k.md i hi with y | y
    · exact h.md i y
    · exact .inr (Nat.le_trans h.mods.size y)⟩

/-- put, of a page's two parts -/
theorem put_two {w : World} {g lg lo lc l : Nat} {vo : Value} {A C : List PV} {NS : List EV} (pm : QM w g vo (A ++ [⟨.slice (some ⟨lg, lo, none⟩) l lc, NS⟩] ++ C)) (hl : NS.length = l) (h16 : 16 < l) (hL : l ≤ 1000) (hn : A.length + 1 + C.length ≤ 1000000)
    (b' : World) (k : Nat) (mb : Mods noB w b') (hb : b'.heap[k]? = some (.cells #[.slice (some ⟨lg, lo, none⟩) 16 lc, .slice (some ⟨lg, lo + 16 * 2, none⟩) (l - 16) (lc - 16)] 44 (0, 0))) :
    Calls Try.prog 38 #[.pointer (some ⟨g, 0, none⟩), .int .i64 (A.length : Nat), .slice (some ⟨k, 0, none⟩) 2 2] b' fun e w' => e = .returned (.tuple #[]) ∧ ∃ vo' N, QT w w' g vo (A ++ [⟨.slice (some ⟨lg, lo, none⟩) l lc, NS⟩] ++ C) vo' (A ++ N ++ C) ∧ N.map (·.es) = [NS.take 16, NS.drop 16] := by
  have pm' := pm.keep0 mb
  have hin : (⟨.slice (some ⟨lg, lo, none⟩) l lc, NS⟩ : PV) ∈ A ++ [⟨.slice (some ⟨lg, lo, none⟩) l lc, NS⟩] ++ C := by simp
  have ob : OB b' 52 2 lg lo NS.length lc (ecell NS) := OwnG.obp (pm'.pg _ hin)
  have one := ecell_one (pm'.page hin).ents
  have l1 : (NS.take 16).length = 16 := by rw [List.length_take]; omega
  have l2 : (NS.drop 16).length = l - 16 := by rw [List.length_drop, hl]
  have hlen : A.length < (A ++ [(⟨.slice (some ⟨lg, lo, none⟩) l lc, NS⟩ : PV)] ++ C).length := by simp
  have hget : (A ++ [(⟨.slice (some ⟨lg, lo, none⟩) l lc, NS⟩ : PV)] ++ C)[A.length] = ⟨.slice (some ⟨lg, lo, none⟩) l lc, NS⟩ := by simp
  refine (put_any (p := A.length) (L := [⟨.slice (some ⟨lg, lo, none⟩) 16 lc, NS.take 16⟩, ⟨.slice (some ⟨lg, lo + 16 * 2, none⟩) (l - 16) (lc - 16), NS.drop 16⟩]) pm' hlen (by simp; omega) ⟨?_, fun p hp => ?_⟩ (by simp) (fun r hr e he => ?_)).mono ?_
  · exact (show OB b' 44 1 k 0 2 2 [.slice (some ⟨lg, lo, none⟩) 16 lc, .slice (some ⟨lg, lo + 16 * 2, none⟩) (l - 16) (lc - 16)] from ⟨rfl, Nat.le_refl _, by simp [maxLen], _, hb, by simp, fun j u hj => by rw [Nat.zero_add]; simpa using hj⟩).own.rd
  · simp only [List.mem_cons, List.not_mem_nil, or_false] at hp
    rcases hp with rfl | rfl
    · have o := (ob_cut ob (m := 16) (by omega)).own.rd
      rw [← ecell_take] at o
      exact ⟨by show RdG b' 2 _ (NS.take 16).length _; rw [l1]; exact o, fun y hy => one y (by rw [show ecell (NS.take 16) = (ecell NS).take (16 * 2) from ecell_take NS 16] at hy; exact List.mem_of_mem_take hy), by show (NS.take 16).length ≤ _; omega⟩
    · have o := (ob_rest ob (m := 16) (by omega)).own.rd
      rw [← ecell_drop, hl] at o
      exact ⟨by show RdG b' 2 _ (NS.drop 16).length _; rw [l2]; exact o, fun y hy => one y (by rw [show ecell (NS.drop 16) = (ecell NS).drop (16 * 2) from ecell_drop NS 16] at hy; exact List.mem_of_mem_drop hy), by show (NS.drop 16).length ≤ _; omega⟩
  · rw [hget]
    simp only [List.mem_cons, List.not_mem_nil, or_false] at hr
    rcases hr with rfl | rfl
    · exact List.mem_of_mem_take he
    · exact List.mem_of_mem_drop he
  · rintro e w' ⟨rfl, vo', N, t, hN⟩
    refine ⟨rfl, vo', N, ?_, hN⟩
    have e1 : (A ++ [(⟨.slice (some ⟨lg, lo, none⟩) l lc, NS⟩ : PV)] ++ C).take A.length = A := by rw [List.append_assoc]; exact List.take_left' rfl
    have e2 : (A ++ [(⟨.slice (some ⟨lg, lo, none⟩) l lc, NS⟩ : PV)] ++ C).drop (A.length + 1) = C := List.drop_left' (by simp)
    rw [e1, e2] at t
    exact t.first mb
theorem pgs_es {N : List PV} {l : List (List EV)} (h : N.map (·.es) = l) : pgs N = l.map ents := by rw [← h]; simp [pgs]

set_option maxHeartbeats 8000000 in
theorem rSet_new {w : World} {g : Nat} {vo kv vv : Value} {R : List PV} {xs ys : List UInt8} (hm : QM w g vo R) (hk : Rd w kv xs) (hv : Rd w vv ys) (lx : xs.length ≤ 1000000) (ly : ys.length ≤ 1000000) (ok : PgOk (pgs R)) (hn : R.length ≤ 1000000)
    (hne : R ≠ []) (hf : (findP (pgs R) xs).2.2 = false) :
    Calls Try.prog 13 #[.pointer (some ⟨g, 0, none⟩), kv, vv] w fun e w' => ∃ vo' R', e = .returned (.bool true) ∧ QT w w' g vo R vo' R' ∧ pgs R' = setP (pgs R) xs ys := by
  obtain ⟨hp, hi⟩ := lies_at (ys := xs) hne
  have FD := Lib.hid (rfind_any hm hk ok hn)
  have hge : (pgs R).getD (findP (pgs R) xs).1 [] = ents (R[(findP (pgs R) xs).1]).es := pgs_getD hp
  have hne' : pgs R ≠ [] := fun h => hne (by cases R with | nil => rfl | cons a b => simp [pgs] at h)
  have hset : setP (pgs R) xs ys = if 32 < (R[(findP (pgs R) xs).1]).es.length + 1 then
      (pgs R).take (findP (pgs R) xs).1 ++ [(insP (ents (R[(findP (pgs R) xs).1]).es) (findP (pgs R) xs).2.1 (xs, ys)).take 16, (insP (ents (R[(findP (pgs R) xs).1]).es) (findP (pgs R) xs).2.1 (xs, ys)).drop 16] ++ (pgs R).drop ((findP (pgs R) xs).1 + 1)
      else (pgs R).set (findP (pgs R) xs).1 (insP (ents (R[(findP (pgs R) xs).1]).es) (findP (pgs R) xs).2.1 (xs, ys)) := by
    unfold setP
    rw [if_neg hne', if_neg (by rw [hf]; simp), hge]
    have hl : (insP (ents (R[(findP (pgs R) xs).1]).es) (findP (pgs R) xs).2.1 (xs, ys)).length = (R[(findP (pgs R) xs).1]).es.length + 1 := by
      unfold insP
      rw [List.length_append, List.length_cons, List.length_take, List.length_drop, ents_length]
      omega
    rw [hl]
  have hmost := ok.most (ents (R[(findP (pgs R) xs).1]).es) (List.mem_map_of_mem (f := fun p => ents p.es) (List.getElem_mem hp))
  rw [ents_length] at hmost
  have HSET := Lib.hid hset
  clear hset
  generalize findP (pgs R) xs = F at *
  obtain ⟨p, i, B⟩ := F
  simp only at hf hp hi FD hge hmost HSET ⊢
  subst hf
  have hpos : 0 < (R[p]).es.length := by
    have h := ok.ne (ents (R[p]).es) (List.mem_map_of_mem (f := fun p => ents p.es) (List.getElem_mem hp))
    exact List.length_pos_iff.2 (fun e => h (by rw [e]; rfl))
  obtain ⟨b, off, cap, pb, po, pc, hvo, hpv, ob2, ob1⟩ := hm.way hp hpos
  obtain ⟨A, q, C, hR, hA, hq⟩ := parts R p hp
  subst hA
  rw [hq] at hi hmost hpos hpv ob2 HSET
  obtain ⟨n, hN⟩ : ∃ n, R.length = n := ⟨_, rfl⟩
  rw [hN] at hvo
  have HRV := Lib.hid (And.intro hR hvo)
  have hm2 := hm
  rw [hvo, hR] at hm2
  have HM := Lib.hid hm2
  rw [hN, hR] at ob1
  have OB1 := Lib.hid ob1
  have OB2 := Lib.hid ob2
  have HK := Lib.hid hk
  have HV := Lib.hid hv
  have HPV := Lib.hid hpv
  obtain ⟨ak, ck, rfl, _⟩ := hk.form
  obtain ⟨av, cv, rfl, _⟩ := hv.form
  have HN := Lib.hid hN
  obtain ⟨m, hmm⟩ : ∃ m, q.es.length = m := ⟨_, rfl⟩
  have HMM := Lib.hid hmm
  rw [hN] at hn hp
  rw [hmm] at hi hmost hpos hpv
  have hmc := ob2.hn
  rw [hmm] at hmc
  have hl0 : ((n : Int) == 0) = false := by rw [beq_eq_false_iff_ne]; omega
  have hpn : (A.length : Int) < (n : Int) := by omega
  have him : (i : Int) ≤ (m : Int) := by omega
  have hic : (i : Int) ≤ (pc : Int) := by omega
  clear hm hm2 hk hv ob1 ob2 hpv hge ok hne' hne hq hR hvo hN hmm
  go_enter Try.func13, Try.ntmps13
  go_wp2_with fail
  refine FD.out.mono ?_
  rintro e w0 ⟨rfl, m0⟩
  have M0 := Lib.hid m0
  have OK := Lib.hid (CopyBytes_any (HK.out.keep m0 (fun _ _ x => x)) (by omega))
  clear m0
  go_wp2_with fail
  refine OK.out.mono ?_
  rintro e w1 ⟨u, rfl, o1, m1, f1⟩
  have OV := Lib.hid (CopyBytes_any (HV.out.keep (M0.out.then0 m1) (fun _ _ x => x)) (by omega))
  have O1 := Lib.hid (And.intro o1 (And.intro m1 f1))
  obtain ⟨a1, c1, rfl, _⟩ := o1.rd.form
  clear o1 m1 f1
  go_wp2_with fail
  refine OV.out.mono ?_
  rintro e w2 ⟨v, rfl, o2, m2, f2⟩
  obtain ⟨nE, nB⟩ := newE O1.out.1 O1.out.2.2 O1.out.2.1 o2 f2 m2 lx ly
  have NE := Lib.hid (show NewE w w2 ⟨_, v, xs, ys⟩ from ⟨nE, fun k hk => ⟨by have := (nB k hk).1; have := M0.out.size; omega, (nB k hk).2⟩, M0.out.then0 (O1.out.2.1.then0 m2)⟩)
  obtain ⟨a2, c2, rfl, _⟩ := o2.rd.form
  clear o2 m2 f2 nE nB O1
  have hbE := heap_new w2 (.cells #[.slice a1 xs.length c1, .slice a2 ys.length c2] 52)
  have mE := (Mods.refl noB w2).alloc (.cells #[.slice a1 xs.length c1, .slice a2 ys.length c2] 52)
  go_upto_region 3 with fail
  generalize hw3 : World.alloc w2 _ = w4 at *
  have NE4 := Lib.hid (NE.out.then0 mE)
  have M4 := Lib.hid NE4.out.m
  have AT := Lib.hid (fun (w' : World) (m' : Mods noB w4 w') => show (w'.cell? ⟨g, 0, none⟩ = some (.slice (some ⟨b, off, none⟩) n cap) ∧ w'.cell? ⟨b, off + A.length, none⟩ = some (.slice (some ⟨pb, po, none⟩) m pc) ∧ w'.cell? ⟨w2.heap.size, 0, none⟩ = some (.slice a1 xs.length c1) ∧ w'.cell? ⟨w2.heap.size, 1, none⟩ = some (.slice a2 ys.length c2) ∧ w'.frozen? ⟨b, off + A.length, none⟩ = false) from by
    have ob1 := (OB1.out.keep M4.out (fun x => x)).keep m' (fun x => x)
    refine ⟨?_, ?_, cells_of (m'.heap hbE (fun x => x)) 0, cells_of (m'.heap hbE (fun x => x)) 1, ob1.free _⟩
    · exact cells_of ((HM.out.keep0 M4.out).keep0 m').hg 0
    · have e := HPV.out
      rw [HMM.out] at e
      rw [← e]
      exact ob1.cell (by simp))
  have OB4 := Lib.hid (OB2.out.keep M4.out (fun x => x))
  have h1 := Lib.hid (ecell_one (((HM.out.keep0 M4.out).page (show q ∈ A ++ [q] ++ C by simp)).ents))
  clear hbE mE hw3
  obtain ⟨d0, d1, d2, d3, _⟩ := AT.out w4 (Mods.refl _ _)
  go_wp2_with (at_builtin; refine stop ?_)
  unfold Stop
  have hcut := (ob_cut OB4.out (m := i) (by rw [HMM.out]; exact hi)).own.rd
  refine apP (n := 0) (xs := []) ⟨rfl, .inl ⟨rfl, rfl⟩⟩ hcut (fun y hy => h1.out y (List.mem_of_mem_take hy)) (by omega) _ _ _ _ _ _ _ rfl rfl rfl rfl ?_
  intro v5 w5 o5 m5 f5
  have hli : (q.es.take i).length = i := by rw [List.length_take, HMM.out]; omega
  have HLI := Lib.hid hli
  have G1 := Lib.hid (show GrP w4 w5 v5 (q.es.take i) from (GrP.nil w4).more (M := q.es.take i) (by rw [hli, ecell_take]; exact o5) m5 f5)
  rw [Nat.zero_add] at o5
  obtain ⟨a5, c5, rfl, _⟩ := o5.rd.form
  clear hcut o5 m5 f5 hli d0 d1 d2 d3
  obtain ⟨d0, d1, d2, d3, _⟩ := AT.out w5 G1.out.mods
  go_wp2_with (at_builtin; refine stop ?_)
  unfold Stop
  refine apP (G1.out.then0 ((Mods.refl noB w5).alloc _)).row (ob_new (heap_new w5 _)).own.rd (by simp [Value.oneCell']) (by rw [HLI.out]; omega) _ _ _ _ _ _ _ rfl rfl rfl rfl ?_
  intro v6 w6 o6 m6 f6
  have G2 := Lib.hid ((G1.out.then0 ((Mods.refl noB w5).alloc (.cells #[.slice a1 xs.length c1, .slice a2 ys.length c2] 52))).push (e := ⟨.slice a1 xs.length c1, .slice a2 ys.length c2, xs, ys⟩) o6 m6 f6)
  rw [HLI.out] at o6
  obtain ⟨a6, c6, rfl, _⟩ := o6.rd.form
  clear o6 m6 f6 d0 d1 d2 d3 G1
  have HX := Lib.hid (Eq.refl (⟨.slice a1 xs.length c1, .slice a2 ys.length c2, xs, ys⟩ : EV))
  generalize hxx : (⟨.slice a1 xs.length c1, .slice a2 ys.length c2, xs, ys⟩ : EV) = x at *
  obtain ⟨NS, hNS⟩ : ∃ NS, q.es.take i ++ [x] ++ q.es.drop i = NS := ⟨_, rfl⟩
  have hNl : NS.length = m + 1 := by
    rw [← hNS, List.length_append, List.length_append, List.length_singleton, HLI.out, List.length_drop, HMM.out]; omega
  have HNS := Lib.hid hNS
  have HNl := Lib.hid hNl
  have HXX := Lib.hid hxx
  clear hNS hNl hxx HX
  go_upto_region 12 with fail
  go_cut [11] (fun v wx => ∃ a c, v = .slice a (m + 1) c ∧ Hid (GrP w4 wx v NS))
  case first =>
    obtain ⟨d0, d1, d2, d3, _⟩ := AT.out w6 G2.out.mods
    have h2l : (q.es.take i ++ [x]).length = i + 1 := by rw [List.length_append, List.length_singleton, HLI.out]
    have H2L := Lib.hid h2l
    have hdl : (q.es.drop i).length = m - i := by rw [List.length_drop, HMM.out]
    have HDL := Lib.hid hdl
    clear h2l hdl
    by_cases hpc : pc = i
    · subst hpc
      go_wp2_with (at_builtin; refine stop ?_)
      unfold Stop
      refine apP (u := .slice (some ⟨pb, po, none⟩) 0 0) (m := 0) (ys := []) G2.out.row ⟨rfl, .inr ⟨pb, po, 0, rfl, Nat.le_refl _, by simp [maxLen], .inl rfl, fun j u hj => by simp at hj⟩⟩ (by simp) (by rw [H2L.out]; omega) _ _ _ _ _ _ _ rfl rfl rfl rfl ?_
      intro v7 w7 o7 m7 f7
      have e0 : q.es.drop pc = [] := List.eq_nil_of_length_eq_zero (by rw [HDL.out]; omega)
      have G3 := G2.out.more (M := q.es.drop pc) (by rw [e0]; exact o7) m7 f7
      rw [HNS.out] at G3
      rw [H2L.out] at o7
      obtain rfl : m = pc := by omega
      obtain ⟨a7, c7, rfl, _⟩ := o7.rd.form
      have G3' := Lib.hid G3
      clear o7 m7 f7 e0 G3
      go_wp2
      go_meet
      exact ⟨a7, c7, rfl, G3'⟩
    · have hcut := (ob_rest (OB4.out.keep G2.out.mods (fun x => x)) (m := i) (by rw [HMM.out]; exact hi)).own.rd
      rw [HMM.out] at hcut
      go_wp2_with (at_builtin; refine stop ?_)
      unfold Stop
      refine apP G2.out.row hcut (fun y hy => h1.out y (List.mem_of_mem_drop hy)) (by rw [H2L.out]; omega) _ _ _ _ _ _ _ rfl rfl rfl rfl ?_
      intro v7 w7 o7 m7 f7
      have G3 := G2.out.more (M := q.es.drop i) (by rw [ecell_drop, HDL.out]; exact o7) m7 f7
      rw [HNS.out] at G3
      rw [H2L.out] at o7
      have hmi : i + 1 + (m - i) = m + 1 := by omega
      rw [hmi] at o7
      obtain ⟨a7, c7, rfl, _⟩ := o7.rd.form
      have G3' := Lib.hid G3
      clear o7 m7 f7 hcut G3
      go_wp2
      go_meet
      exact ⟨a7, c7, rfl, G3'⟩
  case rest =>
    obtain ⟨a8, c8, rfl, G3⟩ := hcut
    rcases G3.out.row.ob with ⟨_, h7, _⟩ | ⟨lg, lo, lc, hv8, ob8⟩
    · rw [HNl.out] at h7; omega
    rw [HNl.out] at hv8
    obtain ⟨rfl, rfl⟩ : a8 = some ⟨lg, lo, none⟩ ∧ c8 = lc := by simpa using hv8
    have OB8 := Lib.hid ob8
    have hlc := ob8.hn
    rw [HNl.out] at hlc
    clear hv8 ob8
    obtain ⟨d0, d1, _, _, d4⟩ := AT.out _ G3.out.mods
    have hm4 := HM.out.keep0 M4.out
    have np := fun w' (e : w' = World.setCell _ _ _) => QM.newpage (w' := w') hm4 G3.out.mods G3.out.row G3.out.fr (x := x) (fun e he => by
      rw [← HNS.out, List.mem_append, List.mem_append, List.mem_singleton] at he
      rcases he with (he | he) | he
      · exact .inl (List.mem_of_mem_take he)
      · exact .inr he
      · exact .inl (List.mem_of_mem_drop he)) NE4.out.e (NE4.out.not HM.out) e
    have NP := Lib.hid np
    clear np hm4
    go_upto_region 14 with fail
    generalize hw9 : World.setCell _ _ _ = w9
    obtain ⟨p1, p2, p3, p4⟩ := NP.out w9 hw9.symm
    have P1 := Lib.hid p1
    have T9 := Lib.hid (QT.last HM.out NE4.out p1 p2 p3 p4)
    have hins : ents NS = insP (ents q.es) i (xs, ys) := by
      have : NS = q.es.take i ++ x :: q.es.drop i := by rw [← HNS.out, List.append_assoc]; rfl
      rw [this, ents_ins, ← HXX.out]
      rfl
    have HINS := Lib.hid hins
    have hlen : A.length = (pgs A).length := (pgs_length A).symm
    have HLEN := Lib.hid hlen
    clear p1 p2 p3 p4 d0 d1 d4 hw9 hins hlen
    by_cases hbig : m + 1 ≤ 32
    · have hcmp : ¬ ((32 : Int) < (m : Int) + 1) := by omega
      go_wp2
      go_ret
      have T := T9.out
      rw [← HRV.out.1, ← HRV.out.2] at T
      refine ⟨rfl, _, _, T, ?_⟩
      rw [HSET.out, HRV.out.1, if_neg (by rw [HMM.out]; omega), ← HINS.out, pgs_append, pgs_append, pgs_append, pgs_append, HLEN.out, pgs_single q, set_parts]
      rfl
    · have hcmp : (32 : Int) < (m : Int) + 1 := by omega
      have HPT := Lib.hid (put_two P1.out HNl.out (by omega) (by omega) (by have h1 := HN.out; rw [HRV.out.1] at h1; simp at h1; omega))
      go_upto_region 15 with fail
      refine wp_tl (d := .region 15 (opsC 15 Try.f13) true) (by kernel_rfl) ?_
      refine RW.wp (rset15 (by omega) hlc (by omega) HPT.out ?_)
      intros
      rename_i w10 hx10
      obtain ⟨vo', N, t, hNe⟩ := hx10
      have HT := Lib.hid (T9.out.trans t)
      have HNE := Lib.hid hNe
      clear t hNe
      go_wp2
      go_ret
      have T := HT.out
      rw [← HRV.out.1, ← HRV.out.2] at T
      refine ⟨_, _, rfl, T, ?_⟩
      rw [HSET.out, HRV.out.1, if_pos (by rw [HMM.out]; omega), ← HINS.out, ← ents_take, ← ents_drop, pgs_append, pgs_append, pgs_append, pgs_append, HLEN.out, List.append_assoc (pgs A) (pgs [q]) (pgs C), List.take_left', ← List.append_assoc, pgs_single q, pgs_es HNE.out]
      · rw [List.drop_left' (by simp)]
        rfl
      · rfl

/-- Set, at whatever key -/
theorem rSet_any {w : World} {g : Nat} {vo kv vv : Value} {R : List PV} {xs ys : List UInt8} (hm : QM w g vo R) (hk : Rd w kv xs) (hv : Rd w vv ys) (lx : xs.length ≤ 1000000) (ly : ys.length ≤ 1000000) (ok : PgOk (pgs R)) (hn : R.length ≤ 1000000) :
    Calls Try.prog 13 #[.pointer (some ⟨g, 0, none⟩), kv, vv] w fun e w' => ∃ vo' R', e = .returned (.bool (newP (pgs R) xs)) ∧ QT w w' g vo R vo' R' ∧ pgs R' = setP (pgs R) xs ys := by
  by_cases h0 : R = []
  · subst h0
    exact rSet_empty hm hk hv lx ly
  have hne' : pgs R ≠ [] := fun h => h0 (by cases R with | nil => rfl | cons a b => simp [pgs] at h)
  unfold newP
  cases hf : (findP (pgs R) xs).2.2 with
  | true =>
    refine (rSet_there hm hk hv lx ly ok hn hf).mono ?_
    rintro e w' ⟨vo', R', h1, h2, h3⟩
    refine ⟨vo', R', h1, h2, ?_⟩
    rw [h3]
    unfold setP
    rw [if_neg hne', if_pos hf]
  | false => exact rSet_new hm hk hv lx ly ok hn h0 hf

end Go.Proofs.Ytjlomnhngngkiaa

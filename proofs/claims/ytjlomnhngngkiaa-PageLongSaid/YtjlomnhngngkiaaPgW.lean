/- page.Map: Set at a new key. -/
import Derived.Test.YtjlomnhngngkiaaPgR
namespace Go.Proofs.Ytjlomnhngngkiaa
open Go.Gl Go.RowKit
set_option linter.unusedVariables false
set_option maxRecDepth 100000

theorem ob_set1 {w : World} {e : TypeId} {b off n cap p : Nat} {pvs : List Value} (h : OB w e 1 b off n cap pvs) (hp : p < n) (v : Value) : OB (w.setCell ⟨b, off + p, none⟩ v) e 1 b off n cap (pvs.set p v) := by
  have hl := h.hl
  refine h.set p [v] (by have := h.hn; simp; omega) n (pvs.set p v) h.hn (by rw [List.length_set, hl]) (fun j u hj => ?_)
  by_cases hjp : j = p
  · subst hjp
    rw [if_pos (by simp), Nat.sub_self]
    rw [List.getElem?_set_self (by omega)] at hj
    exact hj
  · rw [if_neg (by simp; omega)]
    rwa [List.getElem?_set_ne (by omega)] at hj

theorem ins_len (es : List EV) (i : Nat) (x : EV) (hi : i ≤ es.length) : (es.take i ++ x :: es.drop i).length = es.length + 1 := by
  rw [List.length_append, List.length_cons, List.length_take, List.length_drop]; omega
theorem mem_ins {es : List EV} {i : Nat} {x e : EV} (h : e ∈ es.take i ++ x :: es.drop i) : e = x ∨ e ∈ es := by
  rw [List.mem_append, List.mem_cons] at h
  rcases h with h | h | h
  · exact .inr (List.mem_of_mem_take h)
  · exact .inl h
  · exact .inr (List.mem_of_mem_drop h)

theorem new_end1 {w w' : World} {g b off n cap lg lo lc i : Nat} {A C : List PV} {q : PV} {x : EV} (hm : PM w g (.slice (some ⟨b, off, none⟩) n cap) (A ++ [q] ++ C)) (hn : n = (A ++ [q] ++ C).length) (hi : i ≤ q.es.length) (hx : E1 w x)
    (hb : ∀ k, (x.kv.ownBlock = some k ∨ x.vv.ownBlock = some k) → k < w.heap.size ∧ ¬ MS g (.slice (some ⟨b, off, none⟩) n cap) (A ++ [q] ++ C) k)
    (hT : Mods (fun k => k = g ∨ k = b ∨ q.pv.ownBlock = some k) w w')
    (hg : w'.heap[g]? = some (.cells #[.slice (some ⟨b, off, none⟩) n cap, .int .i64 ((cnt (pgs (A ++ [q] ++ C)) : Nat) + 1)] 61 (0, 0)))
    (hr : OB w' 64 1 b off n cap (((A ++ [q] ++ C).map (·.pv)).set A.length (.slice (some ⟨lg, lo, none⟩) (q.es.length + 1) lc)))
    (hp : OB w' 63 2 lg lo (q.es.length + 1) lc (ecell (q.es.take i ++ x :: q.es.drop i))) (hlg : q.pv.ownBlock = some lg ∨ w.heap.size ≤ lg) (hlb : lg ≠ b) :
    ∃ vo' R', PM w' g vo' R' ∧ Mods (MS g (.slice (some ⟨b, off, none⟩) n cap) (A ++ [q] ++ C)) w w' ∧ (∀ k, MS g vo' R' k → MS g (.slice (some ⟨b, off, none⟩) n cap) (A ++ [q] ++ C) k ∨ w.heap.size ≤ k) ∧
      (∀ k, MD R' k → MD (A ++ [q] ++ C) k ∨ (x.kv.ownBlock = some k ∨ x.vv.ownBlock = some k)) ∧ pgs R' = (pgs (A ++ [q] ++ C)).set A.length (insP (ents q.es) i x.ent) := by
  subst hn
  have hin : q ∈ A ++ [q] ++ C := by simp
  have mods : Mods (fun k => k = g ∨ (Value.slice (some ⟨b, off, none⟩) (A ++ [q] ++ C).length cap).ownBlock = some k ∨ ∃ r ∈ [q], r.pv.ownBlock = some k) w w' := hT.mono (fun k _ hk => by
    rcases hk with h | h | h
    · exact .inl h
    · exact .inr (.inl (by rw [h]; rfl))
    · exact .inr (.inr ⟨q, List.mem_singleton.2 rfl, h⟩))
  have up := PM.upd (vo' := .slice (some ⟨b, off, none⟩) (A ++ [q] ++ C).length cap) (A := A) (B := [q]) (C := C) (N := [⟨.slice (some ⟨lg, lo, none⟩) (q.es.length + 1) lc, q.es.take i ++ x :: q.es.drop i⟩]) (X := fun k => x.kv.ownBlock = some k ∨ x.vv.ownBlock = some k) hm mods
    (by
      rw [cnt_parts, cnt_one, ins_len _ _ _ hi, hg, cnt_parts, cnt_one]
      congr 4
      simp
      omega)
    (by
      have e1 : (A ++ [(⟨.slice (some ⟨lg, lo, none⟩) (q.es.length + 1) lc, q.es.take i ++ x :: q.es.drop i⟩ : PV)] ++ C).length = (A ++ [q] ++ C).length := by simp
      have e2 : (A ++ [(⟨.slice (some ⟨lg, lo, none⟩) (q.es.length + 1) lc, q.es.take i ++ x :: q.es.drop i⟩ : PV)] ++ C).map (·.pv) = ((A ++ [q] ++ C).map (·.pv)).set A.length (.slice (some ⟨lg, lo, none⟩) (q.es.length + 1) lc) := by
        rw [← List.map_set (f := (·.pv)) (l := A ++ [q] ++ C) (i := A.length) (a := ⟨.slice (some ⟨lg, lo, none⟩) (q.es.length + 1) lc, q.es.take i ++ x :: q.es.drop i⟩), set_parts]
      rw [e1, e2]
      exact hr.own)
    (.inl rfl)
    (by
      intro r hr
      rw [List.mem_singleton.1 hr]
      refine ⟨?_, ?_⟩
      · show OwnG _ _ 2 _ (q.es.take i ++ x :: q.es.drop i).length _
        rw [ins_len _ _ _ hi]
        exact hp.own
      · rcases hlg with h | h
        · exact .inl ⟨q, List.mem_singleton.2 rfl, h.symm⟩
        · exact .inr (fun k hk => by simp [Value.ownBlock] at hk; omega))
    (by
      intro r hr k hk
      rw [List.mem_singleton.1 hr] at hk
      simp [Value.ownBlock] at hk ⊢
      omega)
    (List.pairwise_singleton _ _)
    (by
      intro r hr e he
      rw [List.mem_singleton.1 hr] at he
      rcases mem_ins he with rfl | he
      · exact .inr ⟨hx, fun k hk => ⟨hk, hb k hk⟩⟩
      · exact .inl ⟨q, List.mem_singleton.2 rfl, he⟩)
  refine ⟨_, _, up.1, mods.mono (fun k _ hk => by
    rcases hk with h | h | ⟨b, hb, h⟩
    · exact .inl h
    · exact .inr (.inl h)
    · exact .inr (.inr ⟨q, hin, by rw [List.mem_singleton.1 hb] at h; exact h⟩)), up.2.1, up.2.2, ?_⟩
  have hlen : A.length = (pgs A).length := (pgs_length A).symm
  rw [pgs_append, pgs_append, pgs_append, pgs_append, hlen, pgs_single q, set_parts, pgs_single, ents_ins]

theorem new_end2 {w w' : World} {g b off n cap i : Nat} {A C : List PV} {q : PV} {x : EV} {va vb vo' : Value} (hm : PM w g (.slice (some ⟨b, off, none⟩) n cap) (A ++ [q] ++ C)) (hn : n = (A ++ [q] ++ C).length) (hi : i ≤ q.es.length) (hx : E1 w x)
    (hb : ∀ k, (x.kv.ownBlock = some k ∨ x.vv.ownBlock = some k) → k < w.heap.size ∧ ¬ MS g (.slice (some ⟨b, off, none⟩) n cap) (A ++ [q] ++ C) k)
    (hT : Mods (fun k => k = g ∨ k = b ∨ q.pv.ownBlock = some k) w w') (h16 : 16 ≤ q.es.length)
    (hg : w'.heap[g]? = some (.cells #[vo', .int .i64 ((cnt (pgs (A ++ [q] ++ C)) : Nat) + 1)] 61 (0, 0)))
    (hr : OwnG w' 64 1 vo' (n + 1) (A.map (·.pv) ++ [va, vb] ++ C.map (·.pv))) (hvo : vo'.ownBlock = some b ∨ freshIn w vo')
    (ha : OwnG w' 63 2 va 16 (ecell ((q.es.take i ++ x :: q.es.drop i).take 16))) (hvb : OwnG w' 63 2 vb (q.es.length + 1 - 16) (ecell ((q.es.take i ++ x :: q.es.drop i).drop 16)))
    (fa : freshIn w va) (fb : freshIn w vb) (dab : ∀ k, va.ownBlock = some k → vb.ownBlock ≠ some k) (dav : ∀ k, va.ownBlock = some k → vo'.ownBlock ≠ some k) (dbv : ∀ k, vb.ownBlock = some k → vo'.ownBlock ≠ some k) :
    ∃ R', PM w' g vo' R' ∧ Mods (MS g (.slice (some ⟨b, off, none⟩) n cap) (A ++ [q] ++ C)) w w' ∧ (∀ k, MS g vo' R' k → MS g (.slice (some ⟨b, off, none⟩) n cap) (A ++ [q] ++ C) k ∨ w.heap.size ≤ k) ∧
      (∀ k, MD R' k → MD (A ++ [q] ++ C) k ∨ (x.kv.ownBlock = some k ∨ x.vv.ownBlock = some k)) ∧ pgs R' = (pgs (A ++ [q] ++ C)).take A.length ++ [(insP (ents q.es) i x.ent).take 16, (insP (ents q.es) i x.ent).drop 16] ++ (pgs (A ++ [q] ++ C)).drop (A.length + 1) := by
  subst hn
  have hin : q ∈ A ++ [q] ++ C := by simp
  have hl := ins_len _ _ x hi
  have mods : Mods (fun k => k = g ∨ (Value.slice (some ⟨b, off, none⟩) (A ++ [q] ++ C).length cap).ownBlock = some k ∨ ∃ r ∈ [q], r.pv.ownBlock = some k) w w' := hT.mono (fun k _ hk => by
    rcases hk with h | h | h
    · exact .inl h
    · exact .inr (.inl (by rw [h]; rfl))
    · exact .inr (.inr ⟨q, List.mem_singleton.2 rfl, h⟩))
  obtain ⟨ns, hns⟩ : ∃ ns, q.es.take i ++ x :: q.es.drop i = ns := ⟨_, rfl⟩
  have hmem : ∀ e ∈ ns, e = x ∨ e ∈ q.es := fun e he => by rw [← hns] at he; exact mem_ins he
  have hins : ents ns = insP (ents q.es) i x.ent := by rw [← hns, ents_ins]
  rw [hns] at hl ha hvb
  have l1 : (ns.take 16).length = 16 := by rw [List.length_take]; omega
  have l2 : (ns.drop 16).length = q.es.length + 1 - 16 := by rw [List.length_drop, hl]
  have up := PM.upd (vo' := vo') (A := A) (B := [q]) (C := C) (N := [⟨va, ns.take 16⟩, ⟨vb, ns.drop 16⟩]) (X := fun k => x.kv.ownBlock = some k ∨ x.vv.ownBlock = some k) hm mods
    (by
      rw [hg, cnt_parts, cnt_one, cnt_parts]
      have : cnt (pgs [(⟨va, ns.take 16⟩ : PV), ⟨vb, ns.drop 16⟩]) = q.es.length + 1 := by
        rw [pgs_cons, pgs_single, cnt_cons, cnt_cons, cnt_nil, ents_length, ents_length, l1, l2]; omega
      rw [this]
      congr 4
      simp
      omega)
    (by
      have e1 : (A ++ [(⟨va, ns.take 16⟩ : PV), ⟨vb, ns.drop 16⟩] ++ C).length = (A ++ [q] ++ C).length + 1 := by simp; omega
      rw [e1, List.map_append, List.map_append]
      exact hr)
    (by rcases hvo with h | h
        · exact .inl h
        · exact .inr h)
    (by
      intro r hr
      simp only [List.mem_cons, List.not_mem_nil, or_false] at hr
      rcases hr with rfl | rfl
      · exact ⟨by show OwnG _ _ 2 va (ns.take 16).length _; rw [l1]; exact ha, .inr fa⟩
      · exact ⟨by show OwnG _ _ 2 vb (ns.drop 16).length _; rw [l2]; exact hvb, .inr fb⟩)
    (by
      intro r hr k hk
      simp only [List.mem_cons, List.not_mem_nil, or_false] at hr
      rcases hr with rfl | rfl
      · exact dav k hk
      · exact dbv k hk)
    (List.pairwise_pair.2 dab)
    (by
      intro r hr e he
      have hes : e ∈ ns := by
        simp only [List.mem_cons, List.not_mem_nil, or_false] at hr
        rcases hr with rfl | rfl
        · exact List.mem_of_mem_take he
        · exact List.mem_of_mem_drop he
      rcases hmem e hes with rfl | he
      · exact .inr ⟨hx, fun k hk => ⟨hk, hb k hk⟩⟩
      · exact .inl ⟨q, List.mem_singleton.2 rfl, he⟩)
  refine ⟨_, up.1, mods.mono (fun k _ hk => by
    rcases hk with h | h | ⟨b, hb, h⟩
    · exact .inl h
    · exact .inr (.inl h)
    · exact .inr (.inr ⟨q, hin, by rw [List.mem_singleton.1 hb] at h; exact h⟩)), up.2.1, up.2.2, ?_⟩
  have hlen : A.length = (pgs A).length := (pgs_length A).symm
  rw [pgs_append, pgs_append, pgs_append, pgs_append, hlen, List.append_assoc (pgs A) (pgs [q]) (pgs C), List.take_left', ← List.append_assoc, pgs_single q, ← hins, ← ents_take, ← ents_drop]
  · rw [List.drop_left' (by simp)]
    rfl
  · rfl

/-- where a key that is not there would lie -/
theorem lies_at {R : List PV} {ys : List UInt8} (hne : R ≠ []) : ∃ (hp : (findP (pgs R) ys).1 < R.length), (findP (pgs R) ys).2.1 ≤ (R[(findP (pgs R) ys).1]).es.length := by
  have hne' : pgs R ≠ [] := fun h => hne (by cases R with | nil => rfl | cons a b => simp [pgs] at h)
  have hlt := pgOf_lt hne' ys
  rw [findP_ne hne']
  simp only
  generalize pgOf (pgs R) ys = p at *
  have hlt' : p < R.length := by rw [← pgs_length]; exact hlt
  refine ⟨hlt', ?_⟩
  rw [pgs_getD hlt']
  have := plOf_le (ents (R[p]).es) ys
  rw [ents_length] at this
  exact this

set_option maxHeartbeats 2000000 in
theorem Set_new {w : World} {g : Nat} {vo kv vv : Value} {R : List PV} {xs ys : List UInt8} (hm : PM w g vo R) (hk : Rd w kv xs) (hv : Rd w vv ys) (lx : xs.length ≤ 1000000) (ly : ys.length ≤ 1000000) (ok : PgOk (pgs R)) (hn : R.length ≤ 1000000)
    (hc : cnt (pgs R) ≤ 1000000000) (hne : R ≠ []) (hf : (findP (pgs R) xs).2.2 = false) :
    Calls Try.prog 12 #[.pointer (some ⟨g, 0, none⟩), kv, vv] w fun e w' => ∃ vo' R', e = .returned (.bool true) ∧ PT w w' g vo R vo' R' ∧ pgs R' = setP (pgs R) xs ys := by
  obtain ⟨hp, hi⟩ := lies_at (ys := xs) hne
  have FD := Lib.hid (fun (w' : World) (m : Mods noB w w') (q : Value) (hq : Rd w' q xs) => find_any (hm.keep0 m) hq ok hn)
  have hge : (pgs R).getD (findP (pgs R) xs).1 [] = ents (R[(findP (pgs R) xs).1]).es := pgs_getD hp
  have hne' : pgs R ≠ [] := fun h => hne (by cases R with | nil => rfl | cons a b => simp [pgs] at h)
  have hset : setP (pgs R) xs ys = if 32 < (R[(findP (pgs R) xs).1]).es.length + 1 then
      (pgs R).take (findP (pgs R) xs).1 ++ [(insP (ents (R[(findP (pgs R) xs).1]).es) (findP (pgs R) xs).2.1 (xs, ys)).take 16, (insP (ents (R[(findP (pgs R) xs).1]).es) (findP (pgs R) xs).2.1 (xs, ys)).drop 16] ++ (pgs R).drop ((findP (pgs R) xs).1 + 1)
      else (pgs R).set (findP (pgs R) xs).1 (insP (ents (R[(findP (pgs R) xs).1]).es) (findP (pgs R) xs).2.1 (xs, ys)) := by
    unfold setP
    rw [if_neg hne', if_neg (by rw [hf]; simp), hge]
    have hl : (insP (ents (R[(findP (pgs R) xs).1]).es) (findP (pgs R) xs).2.1 (xs, ys)).length = (R[(findP (pgs R) xs).1]).es.length + 1 := by
      unfold insP
      rw [List.length_append, List.length_cons, List.length_take, List.length_drop, ents_length]
      omega
    rw [hl]
  have hmost := ok.most (ents (R[(findP (pgs R) xs).1]).es) (List.mem_map_of_mem (f := fun p => ents p.es) (List.getElem_mem hp))
  rw [ents_length] at hmost
  have HSET := Lib.hid hset
  clear hset
  generalize findP (pgs R) xs = F at *
  obtain ⟨p, i, B⟩ := F
  simp only at hf hp hi FD hge hmost HSET ⊢
  subst hf
  have hl0 : ((R.length : Int) == 0) = false := by rw [beq_eq_false_iff_ne]; omega
  have hpos : 0 < (R[p]).es.length := by
    have h := ok.ne (ents (R[p]).es) (List.mem_map_of_mem (f := fun p => ents p.es) (List.getElem_mem hp))
    exact List.length_pos_iff.2 (fun e => h (by rw [e]; rfl))
  obtain ⟨b, off, cap, pb, po, pc, hvo, hpv, ob2, ob1⟩ := hm.way hp hpos
  subst hvo
  have hbg : b ≠ g := fun e => hm.sep1 (by rw [e]; rfl)
  have hpg : pb ≠ g := fun e => (hm.sep2 _ (List.getElem_mem hp)).1 (by rw [hpv, e]; rfl)
  have hbp : b ≠ pb := fun e => (hm.sep2 _ (List.getElem_mem hp)).2 pb (by rw [hpv]; rfl) (by rw [e]; rfl)
  have HPV := Lib.hid hpv
  have OB2 := Lib.hid ob2
  have HM := Lib.hid hm
  have OB1 := Lib.hid ob1
  have OK := Lib.hid (owned_any hk (by omega))
  have HK := Lib.hid hk
  have HV := Lib.hid hv
  obtain ⟨ak, ck, rfl, _⟩ := hk.form
  obtain ⟨av, cv, rfl, _⟩ := hv.form
  obtain ⟨N, hN⟩ : ∃ N, cnt (pgs R) = N := ⟨_, rfl⟩
  have HN := Lib.hid hN
  rw [hN] at hc
  clear hm hk hv ob1 ob2 hpv hge ok hne' hne hN
  go_enter Try.func12, Try.ntmps12
  go_wp2_with fail
  refine OK.out.mono ?_
  rintro e w1 ⟨u, rfl, o1, m1, f1⟩
  have OV := Lib.hid (owned_any (HV.out.keep m1 (fun _ _ x => x)) (by omega))
  have O1 := Lib.hid (And.intro o1 (And.intro m1 f1))
  obtain ⟨a1, c1, rfl, _⟩ := o1.rd.form
  clear o1 m1 f1
  go_wp2_with fail
  refine OV.out.mono ?_
  rintro e w2 ⟨v, rfl, o2, m2, f2⟩
  obtain ⟨nE, nB⟩ := newE O1.out.1 O1.out.2.2 O1.out.2.1 o2 f2 m2 lx ly
  have M2 := Lib.hid (O1.out.2.1.then0 m2)
  have NE := Lib.hid (And.intro nE nB)
  obtain ⟨a2, c2, rfl, _⟩ := o2.rd.form
  clear o2 m2 f2 nE nB
  have hbE := heap_new w2 (.cells #[.slice a1 xs.length c1, .slice a2 ys.length c2] 63)
  have mE := (Mods.refl noB w2).alloc (.cells #[.slice a1 xs.length c1, .slice a2 ys.length c2] 63)
  go_upto_region 2 with fail
  generalize hw3 : World.alloc w2 _ = w3 at *
  have M3 := Lib.hid (M2.out.then0 mE)
  have e00 : w3.cell? ⟨g, 0, none⟩ = some (.slice (some ⟨b, off, none⟩) R.length cap) := cells_of (M3.out.heap HM.out.hg (fun x => x)) 0
  have FW := Lib.hid (FD.out w3 M3.out _ (HK.out.keep M3.out (fun _ _ x => x)))
  go_wp2_with fail
  refine FW.out.mono ?_
  rintro e w4 ⟨rfl, m4⟩
  have M4 := Lib.hid (M3.out.then0 m4)
  have PM4 := Lib.hid (HM.out.keep0 M4.out)
  have NE4 := Lib.hid (And.intro (NE.out.1.keep (mE.then0 m4) (fun _ _ x => x)) (fun k (hk : (Value.slice a1 xs.length c1).ownBlock = some k ∨ (Value.slice a2 ys.length c2).ownBlock = some k) => And.intro (NE.out.2 k hk).1 (Nat.lt_of_lt_of_le (NE.out.2 k hk).2 (mE.then0 m4).size)))
  have b0 : w4.cell? ⟨w2.heap.size, 0, none⟩ = some (.slice a1 xs.length c1) := cells_of (m4.heap hbE (fun x => x)) 0
  have b1 : w4.cell? ⟨w2.heap.size, 1, none⟩ = some (.slice a2 ys.length c2) := cells_of (m4.heap hbE (fun x => x)) 1
  have e1 : w4.cell? ⟨g, 1, none⟩ = some (.int .i64 (N : Nat)) := by rw [← HN.out]; exact cells_of PM4.out.hg 1
  have ef1 : w4.frozen? ⟨g, 1, none⟩ = false := free_of PM4.out.hg 1
  have hg2 : g ≠ w2.heap.size := by have := lt_of_heap HM.out.hg; have := M2.out.size; omega
  clear e00
  go_upto_region 10 with fail
  have hg5 : (w4.setCell ⟨g, 1, none⟩ (.int .i64 ((N : Int) + 1))).heap[g]? = some (.cells #[.slice (some ⟨b, off, none⟩) R.length cap, .int .i64 ((N : Int) + 1)] 61 (0, 0)) := heap_set PM4.out.hg 1 _
  have m5 : Mods (fun k => k = g) w4 (w4.setCell ⟨g, 1, none⟩ (.int .i64 ((N : Int) + 1))) := (Mods.refl (fun k => k = g) w4).setCell (p := ⟨g, 1, none⟩) (.inl rfl) _
  generalize World.setCell w4 _ _ = w5 at *
  have M5 := Lib.hid m5
  have hgE5 := M5.out.heap (m4.heap hbE (fun x => x)) (Ne.symm hg2)
  have ob15 := (OB1.out.keep M4.out (fun x => x)).keep M5.out hbg
  have ob25 := (OB2.out.keep M4.out (fun x => x)).keep M5.out hpg
  have D5 := Lib.hid (And.intro hg5 (And.intro ob15 ob25))
  have hPV : (R.map (·.pv))[p]? = some (.slice (some ⟨pb, po, none⟩) (R[p]).es.length pc) := by rw [← HPV.out]; simp [hp]
  have h1 := ecell_one (w := w5) (es := (R[p]).es) (fun e he => ((HM.out.ents _ (List.getElem_mem hp)) e he).keep (M4.out.trans M5.out (U := fun k => k = g) (fun _ _ x => x.elim) (fun _ _ x => x)) (fun k hk e => HM.out.data k ⟨_, List.getElem_mem hp, _, he, hk⟩ (.inl e)))
  have h2 := Lib.hid (pv_one HM.out)
  refine wp_tl (d := .region 10 (opsC 10 Try.f12) true) (by kernel_rfl) ?_
  refine RW.wp (set10 hg5 ob15 hp hPV ob25 h1 hgE5 rfl rfl hi (by omega) ?_)
  intro y57 y58 y59 y60 y61 y62 y63 y64 y65 y66 y67 v7 w7 o7 m7 f7
  clear hgE5 h1 hPV ob15 ob25 hg5
  obtain ⟨es, hEs⟩ : ∃ es, (R[p]).es = es := ⟨_, rfl⟩
  rw [hEs] at hi hmost hpos o7 D5 HPV OB2
  have HEs := Lib.hid hEs
  obtain ⟨nl, hL⟩ : ∃ nl, es.length + 1 = nl := ⟨_, rfl⟩
  rw [← ecell_ins es i ⟨.slice a1 xs.length c1, .slice a2 ys.length c2, xs, ys⟩, hL] at o7
  rcases o7.ob with ⟨_, h7, _⟩ | ⟨lg, lo, lc, rfl, ob7⟩
  · omega
  have hlg : lg = pb ∨ w5.heap.size ≤ lg := by
    rcases f7 with f7 | f7
    · left; simpa [Value.ownBlock] using f7
    · right; exact f7 lg rfl
  have hbl : b < w5.heap.size := D5.out.2.1.lt
  have hgl : g < w5.heap.size := lt_of_heap D5.out.1
  have hlb : lg ≠ b := by rcases hlg with h | h <;> omega
  have hlg' : lg ≠ g := by rcases hlg with h | h <;> omega
  have hg7 : w7.heap[g]? = some (.cells #[.slice (some ⟨b, off, none⟩) R.length cap, .int .i64 ((N : Int) + 1)] 61 (0, 0)) := m7.heap D5.out.1 (Ne.symm hpg)
  have ob17 := D5.out.2.1.keep m7 hbp
  have hb7 := ob7
  have M7 := Lib.hid m7
  have c0 : w7.cell? ⟨g, 0, none⟩ = some (.slice (some ⟨b, off, none⟩) R.length cap) := cells_of hg7 0
  have c1' : w7.cell? ⟨b, off + p, none⟩ = some (.slice (some ⟨pb, po, none⟩) es.length pc) := ob17.cell (by rw [← HPV.out]; simp [hp])
  have c1'' : w7.frozen? ⟨b, off + p, none⟩ = false := ob17.free _
  have D7 := Lib.hid (And.intro hg7 (And.intro ob17 ob7))
  clear o7 m7 f7 hg7 ob17 ob7 hb7
  have hpi : (p : Int) < (R.length : Int) := by omega
  go_upto_region 12 with fail
  have w8m := (Mods.refl (fun k => k = b) w7).setCell (p := ⟨b, off + p, none⟩) (.inl rfl) (.slice (some ⟨lg, lo, none⟩) nl lc)
  have ob18 := ob_set1 D7.out.2.1 hp (.slice (some ⟨lg, lo, none⟩) nl lc)
  generalize World.setCell w7 _ _ = w8 at *
  have hg8 := w8m.heap D7.out.1 (Ne.symm hbg)
  have ob78 := D7.out.2.2.keep w8m hlb
  have D8 := Lib.hid (And.intro hg8 (And.intro ob18 (And.intro ob78 w8m)))
  clear hg8 ob18 ob78 w8m c0 c1' c1''
  by_cases hbig : nl ≤ 32
  · have hcmp : ¬ ((32 : Int) < (nl : Int)) := by omega
    go_wp2
    go_ret
    have hT := (M5.out.trans M7.out (U := fun k => k = g ∨ k = b ∨ k = pb) (fun _ _ h => .inl h) (fun _ _ h => .inr (.inr h))).trans D8.out.2.2.2 (U := fun k => k = g ∨ k = b ∨ k = pb) (fun _ _ h => h) (fun _ _ h => .inr (.inl h))
    have hsz : w.heap.size ≤ w4.heap.size := M4.out.size
    have h45 := M5.out.size
    obtain ⟨A, q, C, rfl, rfl, hq⟩ := parts R p hp
    have hes := HEs.out
    have hpv := HPV.out
    have hN := HN.out
    rw [hq] at hes hpv
    subst hes hL hN
    obtain ⟨vo', R', p1, p2, p3, p4, p5⟩ := new_end1 (x := ⟨.slice a1 xs.length c1, .slice a2 ys.length c2, xs, ys⟩) PM4.out rfl hi NE4.out.1 (fun k hk => ⟨(NE4.out.2 k hk).2, fun h => by
      have h2 := HM.out.lt k h
      have := (NE4.out.2 k hk).1
      omega⟩) (hT.mono (fun k _ hk => by
        rcases hk with h | h | h
        · exact .inl h
        · exact .inr (.inl h)
        · exact .inr (.inr (by rw [hpv, h]; rfl)))) D8.out.1 D8.out.2.1 D8.out.2.2.1 (by
          rcases hlg with h | h
          · left; rw [hpv, h]; rfl
          · right; omega) hlb
    have hset := HSET.out
    rw [hq, if_neg (by omega)] at hset
    rw [hset]
    exact ⟨rfl, vo', R', ⟨p1, M4.out.trans p2 (fun _ _ x => x.elim) (fun _ _ x => x), fun k hk => (p3 k hk).imp id (Nat.le_trans hsz), fun k hk => (p4 k hk).imp id (fun h => (NE4.out.2 k h).1)⟩, p5⟩
  · have hcmp : (32 : Int) < (nl : Int) := by omega
    go_upto_region 13 with fail
    have h1 := fun y (hy : y ∈ ecell (es.take i ++ (⟨.slice a1 xs.length c1, .slice a2 ys.length c2, xs, ys⟩ : EV) :: es.drop i)) => ecell_one (w := w4) (es := es.take i ++ (⟨.slice a1 xs.length c1, .slice a2 ys.length c2, xs, ys⟩ : EV) :: es.drop i) (fun e he => by
      rcases mem_ins he with rfl | he
      · exact NE4.out.1
      · rw [← HEs.out] at he
        exact PM4.out.ents _ (List.getElem_mem hp) e he) y hy
    refine wp_tl (d := .region 13 (opsC 13 Try.f12) true) (by kernel_rfl) ?_
    refine RW.wp (set13 D8.out.1 D8.out.2.1 hp D8.out.2.2.1 h1 (by omega) (by omega) ?_)
    intro y78 y79 y80 y81 y82 y83 y84 y85 y86 va w9 w10 oa m9 fa hw10
    have m10 : Mods (fun k => k = b) w9 w10 := by rw [hw10]; exact (Mods.refl (fun k => k = b) w9).setCell (p := ⟨b, off + p, none⟩) (.inl rfl) va
    have hga := m10.heap (m9.heap D8.out.1 (fun x => x)) (Ne.symm hbg)
    have hra : OB w10 64 1 b off R.length cap (((R.map (·.pv)).set p (.slice (some ⟨lg, lo, none⟩) nl lc)).set p va) := by rw [hw10]; exact ob_set1 (D8.out.2.1.keep m9 (fun x => x)) hp va
    have hla := (D8.out.2.2.1.keep m9 (fun x => x)).keep m10 hlb
    have hbs8 : b < w8.heap.size := D8.out.2.1.lt
    have oa10 := oa.keep m10 (fun k hk e => by have := fa k hk; omega)
    have A10 := Lib.hid (And.intro hga (And.intro hra (And.intro oa10 (And.intro fa (m9.trans m10 (U := fun k => k = b) (fun _ _ x => x.elim) (fun _ _ x => x))))))
    have h2 : ∀ y ∈ (((R.map (·.pv)).set p (.slice (some ⟨lg, lo, none⟩) nl lc)).set p va), y.oneCell' = true := by
      obtain ⟨a7, c7, e7, _⟩ := oa.rd.form
      intro y hy
      rcases List.mem_or_eq_of_mem_set hy with hy | rfl
      · rcases List.mem_or_eq_of_mem_set hy with hy | rfl
        · exact pv_one HM.out y hy
        · rfl
      · rw [e7]; rfl
    clear hga oa m9 fa hw10 m10 oa10
    go_upto_region 14 with fail
    refine wp_tl (d := .region 14 (opsC 14 Try.f12) true) (by kernel_rfl) ?_
    refine RW.wp (set14 A10.out.1 hra hp hla h1 h2 (by omega) (by omega) hn (Ne.symm hbg) ?_)
    intro y87 y88 y89 y90 y91 y92 y93 y94 y95 y96 y97 y98 y99 y100 vb vr w11 w12 w13 ob m11 fb ob1 or m12 fr hw13
    have m1012 := m11.trans m12 (U := fun k => k = b) (fun _ _ x => x.elim) (fun _ _ x => x)
    have hg12 := m1012.heap A10.out.1 (Ne.symm hbg)
    have m13 : Mods (fun k => k = g) w12 w13 := by rw [hw13]; exact (Mods.refl (fun k => k = g) w12).setCell (p := ⟨g, 0, none⟩) (.inl rfl) vr
    have hg13 : w13.heap[g]? = some (.cells #[vr, .int .i64 ((N : Int) + 1)] 61 (0, 0)) := by rw [hw13]; exact heap_set hg12 0 vr
    have hw8s : w8.heap.size ≤ w10.heap.size := A10.out.2.2.2.2.size
    have hg8s : g < w8.heap.size := lt_of_heap D8.out.1
    have a13 := ((A10.out.2.2.1.keep m11 (fun _ _ x => x)).keep m12 (fun k hk e => by have := A10.out.2.2.2.1 k hk; omega)).keep m13 (fun k hk e => by have := A10.out.2.2.2.1 k hk; omega)
    have b13 := (ob.keep m12 (fun k hk e => by have := fb k hk; omega)).keep m13 (fun k hk e => by have := fb k hk; omega)
    have r13 := or.keep m13 (fun k hk e => by
      rcases fr with fr | fr
      · rw [fr] at hk; cases hk; exact hbg e
      · have := fr k hk; have := m11.size; omega)
    have hT := (M5.out.trans M7.out (U := fun k => k = g ∨ k = b ∨ k = pb) (fun _ _ h => .inl h) (fun _ _ h => .inr (.inr h))).trans D8.out.2.2.2 (U := fun k => k = g ∨ k = b ∨ k = pb) (fun _ _ h => h) (fun _ _ h => .inr (.inl h))
    have hT2 := ((hT.trans A10.out.2.2.2.2 (U := fun k => k = g ∨ k = b ∨ k = pb) (fun _ _ h => h) (fun _ _ h => .inr (.inl h))).trans m1012 (U := fun k => k = g ∨ k = b ∨ k = pb) (fun _ _ h => h) (fun _ _ h => .inr (.inl h))).trans m13 (U := fun k => k = g ∨ k = b ∨ k = pb) (fun _ _ h => h) (fun _ _ h => .inl h)
    have hsz : w.heap.size ≤ w4.heap.size := M4.out.size
    have hs48 : w4.heap.size ≤ w8.heap.size := hT.size
    have hA10 : ∀ k, va.ownBlock = some k → w8.heap.size ≤ k ∧ k < w10.heap.size := fun k hk => ⟨A10.out.2.2.2.1 k hk, A10.out.2.2.1.lt k hk⟩
    have hB11 : ∀ k, vb.ownBlock = some k → w10.heap.size ≤ k ∧ k < w11.heap.size := fun k hk => ⟨fb k hk, ob.lt k hk⟩
    have m11s := m11.size
    clear A10 D8 D7 hg12 m13 hw13 m1012 ob or m12 m11 h1 h2 hra hla hT M5 M7
    go_wp2
    go_ret
    obtain ⟨A, q, C, rfl, rfl, hq⟩ := parts R p hp
    have hes := HEs.out
    have hpv := HPV.out
    have hN := HN.out
    rw [hq] at hes hpv
    subst hes hL hN
    obtain ⟨R', p1, p2, p3, p4, p5⟩ := new_end2 (va := va) (vb := vb) (x := ⟨.slice a1 xs.length c1, .slice a2 ys.length c2, xs, ys⟩) PM4.out rfl hi NE4.out.1 (fun k hk => ⟨(NE4.out.2 k hk).2, fun h => by
      have h2 := HM.out.lt k h
      have := (NE4.out.2 k hk).1
      omega⟩) (hT2.mono (fun k _ hk => by
        rcases hk with h | h | h
        · exact .inl h
        · exact .inr (.inl h)
        · exact .inr (.inr (by rw [hpv, h]; rfl)))) (by omega) hg13 (by
          have e : (((A ++ [q] ++ C).map (·.pv)).set A.length (.slice (some ⟨lg, lo, none⟩) (q.es.length + 1) lc)).set A.length va = A.map (·.pv) ++ [va] ++ C.map (·.pv) := by
            have hl : A.length = (A.map (·.pv)).length := by simp
            rw [List.map_append, List.map_append, hl, List.map_cons, List.map_nil, set_parts, set_parts]
          have hl : (A.map (·.pv) ++ [va]).length = (A.length + 1) * 1 := by simp
          rw [e, List.take_left' hl, List.drop_left' hl] at r13
          have e2 : A.map (·.pv) ++ [va, vb] ++ C.map (·.pv) = A.map (·.pv) ++ [va] ++ [vb] ++ C.map (·.pv) := by simp
          rw [e2]
          exact r13) (fr.imp id (fun h => h.of (by omega))) (by rw [ecell_take]; exact a13) (by rw [ecell_drop]; exact b13)
        (fun k hk => by have := hA10 k hk; omega) (fun k hk => by have := hB11 k hk; omega)
        (fun k hk hk2 => by have := hA10 k hk; have := hB11 k hk2; omega)
        (fun k hk hk2 => by
          have := hA10 k hk
          rcases fr with fr | fr
          · rw [fr] at hk2; cases hk2; omega
          · have := fr k hk2; omega)
        (fun k hk hk2 => by
          have := hB11 k hk
          rcases fr with fr | fr
          · rw [fr] at hk2; cases hk2; omega
          · have := fr k hk2; omega)
    have hset := HSET.out
    rw [hq, if_pos (by omega)] at hset
    rw [hset]
    exact ⟨vr, R', rfl, ⟨p1, M4.out.trans p2 (fun _ _ x => x.elim) (fun _ _ x => x), fun k hk => (p3 k hk).imp id (Nat.le_trans hsz), fun k hk => (p4 k hk).imp id (fun h => (NE4.out.2 k h).1)⟩, p5⟩

/-- Set, at whatever key -/
theorem Set_any {w : World} {g : Nat} {vo kv vv : Value} {R : List PV} {xs ys : List UInt8} (hm : PM w g vo R) (hk : Rd w kv xs) (hv : Rd w vv ys) (lx : xs.length ≤ 1000000) (ly : ys.length ≤ 1000000) (ok : PgOk (pgs R)) (hn : R.length ≤ 1000000)
    (hc : cnt (pgs R) ≤ 1000000000) :
    Calls Try.prog 12 #[.pointer (some ⟨g, 0, none⟩), kv, vv] w fun e w' => ∃ vo' R', e = .returned (.bool (newP (pgs R) xs)) ∧ PT w w' g vo R vo' R' ∧ pgs R' = setP (pgs R) xs ys := by
  by_cases h0 : R = []
  · subst h0
    exact Set_empty hm hk hv lx ly
  have hne' : pgs R ≠ [] := fun h => h0 (by cases R with | nil => rfl | cons a b => simp [pgs] at h)
  unfold newP
  cases hf : (findP (pgs R) xs).2.2 with
  | true =>
    refine (Set_there hm hk hv lx ly ok hn hf).mono ?_
    rintro e w' ⟨vo', R', h1, h2, h3⟩
    refine ⟨vo', R', h1, h2, ?_⟩
    rw [h3]
    unfold setP
    rw [if_neg hne', if_pos hf]
  | false => exact Set_new hm hk hv lx ly ok hn hc h0 hf
end Go.Proofs.Ytjlomnhngngkiaa

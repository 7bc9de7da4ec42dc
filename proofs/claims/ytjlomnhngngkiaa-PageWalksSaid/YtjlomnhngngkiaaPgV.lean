/- page.Map: Set. -/
import Derived.Test.YtjlomnhngngkiaaZA
import Derived.Test.YtjlomnhngngkiaaCln
import Derived.Test.YtjlomnhngngkiaaOrdF
import Derived.Deep.DeepCutAuto
import Derived.StillTailTactics
namespace Go.Proofs.Ytjlomnhngngkiaa
open Go.Gl Go.RowKit
set_option linter.unusedVariables false
set_option maxRecDepth 100000

/-- what a call that changes a map leaves -/
structure PT (w w' : World) (g : Nat) (vo : Value) (R : List PV) (vo' : Value) (R' : List PV) : Prop where
  pm : PM w' g vo' R'
  mods : Mods (MS g vo R) w w'
  ms : ∀ k, MS g vo' R' k → MS g vo R k ∨ w.heap.size ≤ k
  md : ∀ k, MD R' k → MD R k ∨ w.heap.size ≤ k
theorem PT.first {a b c : World} {g : Nat} {vo vo' : Value} {R R' : List PV} (h : PT b c g vo R vo' R') (hm : Mods noB a b) : PT a c g vo R vo' R' :=
  ⟨h.pm, hm.trans h.mods (fun _ _ x => x.elim) (fun _ _ x => x), fun k hk => (h.ms k hk).imp id (Nat.le_trans hm.size), fun k hk => (h.md k hk).imp id (Nat.le_trans hm.size)⟩
theorem PT.then0 {a b c : World} {g : Nat} {vo vo' : Value} {R R' : List PV} (h : PT a b g vo R vo' R') (hm : Mods noB b c) : PT a c g vo R vo' R' :=
  ⟨h.pm.keep0 hm, h.mods.then0 hm, h.ms, h.md⟩
theorem PT.refl {w : World} {g : Nat} {vo : Value} {R : List PV} (h : PM w g vo R) : PT w w g vo R vo R := ⟨h, Mods.refl _ _, fun _ => .inl, fun _ => .inl⟩

/-- a new entry: its bytes in new memory -/
theorem newE {w w1 w2 : World} {u v : Value} {xs ys : List UInt8} (o1 : Own w1 u xs) (f1 : freshIn w u) (m1 : Mods noB w w1) (o2 : Own w2 v ys) (f2 : freshIn w1 v) (m2 : Mods noB w1 w2) (lx : xs.length ≤ 1000000) (ly : ys.length ≤ 1000000) :
    E1 w2 ⟨u, v, xs, ys⟩ ∧ ∀ k, (u.ownBlock = some k ∨ v.ownBlock = some k) → w.heap.size ≤ k ∧ k < w2.heap.size := by
  refine ⟨⟨(o1.keep m2 (fun _ _ x => x)).rd, o2.rd, lx, ly⟩, ?_⟩
  rintro k (hk | hk)
  · exact ⟨f1 k hk, Nat.lt_of_lt_of_le (o1.lt k hk) m2.size⟩
  · exact ⟨Nat.le_trans m1.size (f2 k hk), o2.lt k hk⟩

theorem setP_nil (xs ys : List UInt8) : setP [] xs ys = [[(xs, ys)]] := rfl

theorem empty_end {w : World} {g : Nat} {vo : Value} {x : EV} (hm : PM w g vo []) (hx : E1 w x) (hb : ∀ k, (x.kv.ownBlock = some k ∨ x.vv.ownBlock = some k) → k < w.heap.size ∧ ¬ MS g vo [] k) :
    let w' := ((((w.alloc (.cells #[x.kv, x.vv] 63)).alloc (.cells #[.slice (some ⟨w.heap.size, 0, none⟩) 1 1] 64)).setCell ⟨g, 0, none⟩ (.slice (some ⟨w.heap.size + 1, 0, none⟩) 1 1)).setCell ⟨g, 1, none⟩ (.int .i64 1))
    ∃ vo' R', PM w' g vo' R' ∧ Mods (MS g vo []) w w' ∧ (∀ k, MS g vo' R' k → MS g vo [] k ∨ w.heap.size ≤ k) ∧ (∀ k, MD R' k → MD [] k ∨ (x.kv.ownBlock = some k ∨ x.vv.ownBlock = some k)) ∧ pgs R' = [[x.ent]] := by
  intro w'
  have hgl := lt_of_heap hm.hg
  have h1 := heap_new w (.cells #[x.kv, x.vv] 63)
  have h2 := heap_new (w.alloc (.cells #[x.kv, x.vv] 63)) (.cells #[.slice (some ⟨w.heap.size, 0, none⟩) 1 1] 64)
  have h1' := heap_old h1 (.cells #[.slice (some ⟨w.heap.size, 0, none⟩) 1 1] 64)
  rw [World.size_alloc] at h2
  have hg' := heap_old (heap_old hm.hg (.cells #[x.kv, x.vv] 63)) (.cells #[.slice (some ⟨w.heap.size, 0, none⟩) 1 1] 64)
  have mods : Mods (fun k => k = g ∨ vo.ownBlock = some k ∨ ∃ q ∈ ([] : List PV), q.pv.ownBlock = some k) w w' :=
    ((((Mods.refl _ w).alloc _).alloc _).setCell (p := ⟨g, 0, none⟩) (.inl (.inl rfl)) _).setCell (p := ⟨g, 1, none⟩) (.inl (.inl rfl)) _
  have k1 := heap_set (heap_set_other (a := ⟨g, 0, none⟩) (g := w.heap.size) (by show w.heap.size ≠ g; omega) (.slice (some ⟨w.heap.size + 1, 0, none⟩) 1 1) ▸ h1') 0 x.kv
  have r1 : w'.heap[w.heap.size]? = some (.cells #[x.kv, x.vv] 63 (0, 0)) :=
    (heap_set_other (a := ⟨g, 1, none⟩) (by show w.heap.size ≠ g; omega) _).trans ((heap_set_other (a := ⟨g, 0, none⟩) (by show w.heap.size ≠ g; omega) _).trans h1')
  have r2 : w'.heap[w.heap.size + 1]? = some (.cells #[.slice (some ⟨w.heap.size, 0, none⟩) 1 1] 64 (0, 0)) :=
    (heap_set_other (a := ⟨g, 1, none⟩) (by show w.heap.size + 1 ≠ g; omega) _).trans ((heap_set_other (a := ⟨g, 0, none⟩) (by show w.heap.size + 1 ≠ g; omega) _).trans h2)
  have r3 : w'.heap[g]? = some (.cells #[.slice (some ⟨w.heap.size + 1, 0, none⟩) 1 1, .int .i64 1] 61 (0, 0)) := heap_set (heap_set hg' 0 _) 1 _
  have up := PM.upd (vo' := .slice (some ⟨w.heap.size + 1, 0, none⟩) 1 1) (A := []) (B := []) (C := []) (N := [⟨.slice (some ⟨w.heap.size, 0, none⟩) 1 1, [x]⟩]) (X := fun k => x.kv.ownBlock = some k ∨ x.vv.ownBlock = some k) hm mods r3
    ⟨rfl, .inr ⟨_, 0, 1, _, rfl, r2, Nat.le_refl _, by simp [maxLen], by simp, fun j u hj => by rw [Nat.zero_add]; simpa using hj⟩⟩ (.inr (by intro k hk; simp [Value.ownBlock] at hk; omega))
    (by
      intro q hq
      obtain rfl : q = ⟨.slice (some ⟨w.heap.size, 0, none⟩) 1 1, [x]⟩ := by simpa using hq
      exact ⟨⟨rfl, .inr ⟨_, 0, 1, _, rfl, r1, Nat.le_refl _, by simp [maxLen], by simp, fun j u hj => by rw [Nat.zero_add]; simpa [ecell] using hj⟩⟩, .inr (by intro k hk; simp [Value.ownBlock] at hk; omega)⟩)
    (by
      intro q hq k hk
      obtain rfl : q = ⟨.slice (some ⟨w.heap.size, 0, none⟩) 1 1, [x]⟩ := by simpa using hq
      simp [Value.ownBlock] at hk ⊢
      omega)
    (List.pairwise_singleton _ _)
    (by
      intro q hq e he
      obtain rfl : q = ⟨.slice (some ⟨w.heap.size, 0, none⟩) 1 1, [x]⟩ := by simpa using hq
      obtain rfl : e = x := by simpa using he
      exact .inr ⟨hx, fun k hk => ⟨hk, hb k hk⟩⟩)
  exact ⟨_, _, up.1, mods.mono (fun k _ hk => hk), up.2.1, up.2.2, rfl⟩

set_option maxHeartbeats 1000000 in
theorem Set_empty {w : World} {g : Nat} {vo kv vv : Value} {xs ys : List UInt8} (hm : PM w g vo []) (hk : Rd w kv xs) (hv : Rd w vv ys) (lx : xs.length ≤ 1000000) (ly : ys.length ≤ 1000000) :
    Calls Try.prog 12 #[.pointer (some ⟨g, 0, none⟩), kv, vv] w fun e w' => ∃ vo' R', e = .returned (.bool true) ∧ PT w w' g vo [] vo' R' ∧ pgs R' = [[(xs, ys)]] := by
  obtain ⟨a0, cap, hvo, _⟩ := (OwnG.rd hm.row).form
  subst hvo
  have HM := Lib.hid hm
  have hc0 : (if (g : Nat) = g then (0:Nat) else 0) = 0 := by simp
  have hb0 := hm.hg
  have c0 := cells_of hm.hg 0
  rw [show ([] : List PV).length = 0 from rfl] at c0
  have OK := Lib.hid (owned_any hk (by omega))
  have HV := Lib.hid hv
  obtain ⟨ak, ck, rfl, _⟩ := hk.form
  obtain ⟨av, cv, rfl, _⟩ := hv.form
  clear hm hk hv hc0 hb0
  go_enter Try.func12, Try.ntmps12
  go_wp2_with fail
  refine OK.out.mono ?_
  rintro e w1 ⟨u, rfl, o1, m1, f1⟩
  have OV := Lib.hid (owned_any (HV.out.keep m1 (fun _ _ x => x)) (by omega))
  have O1 := Lib.hid (And.intro o1 (And.intro m1 f1))
  obtain ⟨a1, c1, rfl, _⟩ := o1.rd.form
  clear o1 m1 f1
  go_wp2_with fail
  refine OV.out.mono ?_
  rintro e w2 ⟨v, rfl, o2, m2, f2⟩
  obtain ⟨nE, nB⟩ := newE O1.out.1 O1.out.2.2 O1.out.2.1 o2 f2 m2 lx ly
  have M2 := Lib.hid (O1.out.2.1.then0 m2)
  have NE := Lib.hid (And.intro nE nB)
  obtain ⟨a2, c2, rfl, _⟩ := o2.rd.form
  clear o2 m2 f2 nE nB
  have hgl := (lt_of_heap HM.out.hg)
  have e0 : w2.cell? ⟨g, 0, none⟩ = some (.slice a0 0 cap) := by
    have := cells_of (M2.out.heap HM.out.hg (fun x => x)) 0
    exact this
  have ef : w2.frozen? ⟨g, 0, none⟩ = false := free_of (M2.out.heap HM.out.hg (fun x => x)) 0
  have e1 : w2.cell? ⟨g, 1, none⟩ = some (.int .i64 (cnt (pgs []) : Nat)) := by
    have := cells_of (M2.out.heap HM.out.hg (fun x => x)) 1
    exact this
  have ef1 : w2.frozen? ⟨g, 1, none⟩ = false := free_of (M2.out.heap HM.out.hg (fun x => x)) 1
  have hgl2 : g < w2.heap.size := Nat.lt_of_lt_of_le hgl M2.out.size
  clear c0
  have hbE := heap_new w2 (.cells #[.slice a1 xs.length c1, .slice a2 ys.length c2] 63)
  have mE := (Mods.refl noB w2).alloc (.cells #[.slice a1 xs.length c1, .slice a2 ys.length c2] 63)
  go_upto_region 2 with fail
  generalize hw3 : World.alloc w2 _ = w3 at *
  have hg3 := M2.out.heap HM.out.hg (fun x => x)
  have f0 : ∀ o o', ((w3.alloc o).alloc o').frozen? ⟨g, 0, none⟩ = false := fun o o' => free_of (heap_old (heap_old (mE.heap hg3 (fun x => x)) o) o') 0
  have f1 : ∀ o o', ((w3.alloc o).alloc o').frozen? ⟨g, 1, none⟩ = false := fun o o' => free_of (heap_old (heap_old (mE.heap hg3 (fun x => x)) o) o') 1
  have d0 : ∀ o o', ((w3.alloc o).alloc o').cell? ⟨g, 0, none⟩ = some (.slice a0 0 cap) := fun o o' => cells_of (heap_old (heap_old (mE.heap hg3 (fun x => x)) o) o') 0
  have d1 : ∀ o o', ((w3.alloc o).alloc o').cell? ⟨g, 1, none⟩ = some (.int .i64 (cnt (pgs []) : Nat)) := fun o o' => cells_of (heap_old (heap_old (mE.heap hg3 (fun x => x)) o) o') 1
  have e00 : w3.cell? ⟨g, 0, none⟩ = some (.slice a0 0 cap) := cells_of (mE.heap hg3 (fun x => x)) 0
  have b0 : w3.cell? ⟨w2.heap.size, 0, none⟩ = some (.slice a1 xs.length c1) := cells_of hbE 0
  have b1 : w3.cell? ⟨w2.heap.size, 1, none⟩ = some (.slice a2 ys.length c2) := cells_of hbE 1
  clear e0 ef e1 ef1
  go_wp2
  go_ret
  have pm3 := (HM.out.keep0 M2.out).keep0 mE
  have hsz : w.heap.size ≤ w3.heap.size := Nat.le_trans M2.out.size mE.size
  obtain ⟨vo', R', p1, p2, p3, p4, p5⟩ := empty_end (x := ⟨.slice a1 xs.length c1, .slice a2 ys.length c2, xs, ys⟩) pm3 (NE.out.1.keep mE (fun _ _ x => x)) (fun k hk => ⟨by have := (NE.out.2 k hk).2; have := mE.size; omega, fun h => by
    have h2 := (HM.out.lt k h)
    have := (NE.out.2 k hk).1
    omega⟩)
  exact ⟨vo', R', rfl, ⟨p1, (M2.out.then0 mE).trans p2 (fun _ _ x => x.elim) (fun _ _ x => x), fun k hk => (p3 k hk).imp id (Nat.le_trans hsz), fun k hk => (p4 k hk).imp id (fun h => (NE.out.2 k h).1)⟩, p5⟩
theorem pgs_getD {R : List PV} {p : Nat} (hp : p < R.length) : (pgs R).getD p [] = ents (R[p]).es := by simp [pgs, hp]
theorem RdG.quietD {w : World} {size n : Nat} {v : Value} {xs : List Value} (h : RdG w size v n xs) (k : Nat) : RdG (w.drewN k) size v n xs := h.keep ((Mods.refl noB w).drewN k) (fun _ _ x => x)
/-- where a key was found, the cells on the way -/
theorem PM.way {w : World} {g : Nat} {vo : Value} {R : List PV} (h : PM w g vo R) {p i : Nat} (hp : p < R.length) (hi : i < (R[p]).es.length) :
    ∃ b off cap pb po pc, vo = .slice (some ⟨b, off, none⟩) R.length cap ∧ (R[p]).pv = .slice (some ⟨pb, po, none⟩) (R[p]).es.length pc ∧ OB w 63 2 pb po (R[p]).es.length pc (ecell (R[p]).es) ∧ OB w 64 1 b off R.length cap (R.map (·.pv)) := by
  rcases h.row.ob with ⟨_, h2, _⟩ | ⟨b, off, cap, hv, ob⟩
  · omega
  rcases (h.pg _ (List.getElem_mem hp)).ob with ⟨_, h2, _⟩ | ⟨pb, po, pc, hv2, ob2⟩
  · omega
  exact ⟨b, off, cap, pb, po, pc, hv, hv2, ob2, ob⟩

theorem parts {α : Type} (R : List α) (p : Nat) (hp : p < R.length) : ∃ A q C, R = A ++ [q] ++ C ∧ A.length = p ∧ R[p] = q :=
  ⟨R.take p, R[p], R.drop (p + 1), split_at R p hp, by rw [List.length_take]; omega, rfl⟩
theorem set_parts {α : Type} (A C : List α) (q r : α) : (A ++ [q] ++ C).set A.length r = A ++ [r] ++ C := by
  rw [List.append_assoc, List.set_append_right _ _ (Nat.le_refl _), Nat.sub_self]; simp
theorem cnt_parts (A C : List PV) (N : List PV) : cnt (pgs (A ++ N ++ C)) = cnt (pgs A) + cnt (pgs N) + cnt (pgs C) := by rw [pgs_append, pgs_append, cnt_append, cnt_append]
theorem pgs_single (q : PV) : pgs [q] = [ents q.es] := rfl
theorem cnt_one (q : PV) : cnt (pgs [q]) = q.es.length := by simp [cnt, pgs, ents]

theorem there_end {w : World} {g : Nat} {vo : Value} {A C : List PV} {q : PV} {x : EV} {i pb po pc : Nat} (hm : PM w g vo (A ++ [q] ++ C)) (hq : q.pv = .slice (some ⟨pb, po, none⟩) q.es.length pc) (hi : i < q.es.length) (hx : E1 w x)
    (hb : ∀ k, (x.kv.ownBlock = some k ∨ x.vv.ownBlock = some k) → k < w.heap.size ∧ ¬ MS g vo (A ++ [q] ++ C) k) :
    PM (w.setCells pb (po + i * 2) [x.kv, x.vv]) g vo (A ++ [⟨q.pv, q.es.set i x⟩] ++ C) ∧ Mods (MS g vo (A ++ [q] ++ C)) w (w.setCells pb (po + i * 2) [x.kv, x.vv]) ∧ (∀ k, MS g vo (A ++ [⟨q.pv, q.es.set i x⟩] ++ C) k → MS g vo (A ++ [q] ++ C) k ∨ w.heap.size ≤ k) ∧
      (∀ k, MD (A ++ [⟨q.pv, q.es.set i x⟩] ++ C) k → MD (A ++ [q] ++ C) k ∨ (x.kv.ownBlock = some k ∨ x.vv.ownBlock = some k)) := by
  have hin : q ∈ A ++ [q] ++ C := by simp
  have hob : OB w 63 2 pb po q.es.length pc (ecell q.es) := by
    rcases (hm.pg q hin).ob with ⟨_, h2, _⟩ | ⟨pb', po', pc', hv2, ob2⟩
    · omega
    · rw [hq] at hv2; cases hv2; exact ob2
  have hl : (ecell (q.es.set i x)).length = q.es.length * 2 := by rw [ecell_length, List.length_set]
  have ob' : OB (w.setCells pb (po + i * 2) [x.kv, x.vv]) 63 2 pb po q.es.length pc (ecell (q.es.set i x)) := by
    refine hob.set (i * 2) [x.kv, x.vv] (by have := hob.hn; simp; omega) _ _ hob.hn hl (fun j u hj => ?_)
    rw [ecell_set _ _ _ hi] at hj
    have hll : ((ecell q.es).take (i * 2)).length = i * 2 := by rw [List.length_take, ecell_length]; omega
    by_cases h1 : i * 2 ≤ j ∧ j < i * 2 + [x.kv, x.vv].length
    · rw [if_pos h1]
      rw [List.getElem?_append_left (by rw [List.length_append, hll]; exact h1.2), List.getElem?_append_right (by rw [hll]; exact h1.1), hll] at hj
      exact hj
    · rw [if_neg h1]
      by_cases h2 : j < i * 2
      · rw [List.getElem?_append_left (by rw [List.length_append, hll]; omega), List.getElem?_append_left (by rw [hll]; exact h2), List.getElem?_take_of_lt h2] at hj
        exact hj
      · have h3 : i * 2 + 2 ≤ j := by simp at h1; omega
        rw [List.getElem?_append_right (by rw [List.length_append, hll]; exact h3), List.length_append, hll, List.getElem?_drop] at hj
        rw [← hj]
        congr 1
        show j = (i + 1) * 2 + (j - (i * 2 + 2))
        omega
  have mods : Mods (fun k => k = g ∨ vo.ownBlock = some k ∨ ∃ b ∈ [q], b.pv.ownBlock = some k) w (w.setCells pb (po + i * 2) [x.kv, x.vv]) := (setCells_mods w pb _ _).mono (fun k _ hk => .inr (.inr ⟨q, List.mem_singleton.2 rfl, by rw [hq, hk]; rfl⟩))
  have hgp : g ≠ pb := fun e => (hm.sep2 q hin).1 (by rw [hq, e]; rfl)
  have hvp : ∀ k, vo.ownBlock = some k → k ≠ pb := fun k hk e => (hm.sep2 q hin).2 pb (by rw [hq]; rfl) (e ▸ hk)
  have up := PM.upd (vo' := vo) (A := A) (B := [q]) (C := C) (N := [⟨q.pv, q.es.set i x⟩]) (X := fun k => x.kv.ownBlock = some k ∨ x.vv.ownBlock = some k) hm mods
    (by
      rw [cnt_parts, cnt_one, List.length_set, ← cnt_one q, ← cnt_parts]
      exact (setCells_mods w pb _ _).heap hm.hg (fun e => hgp e))
    (by
      have h := hm.row.keep (setCells_mods w pb (po + i * 2) [x.kv, x.vv]) (fun k hk e => hvp k hk e)
      have e1 : (A ++ [(⟨q.pv, q.es.set i x⟩ : PV)] ++ C).length = (A ++ [q] ++ C).length := by simp
      have e2 : (A ++ [(⟨q.pv, q.es.set i x⟩ : PV)] ++ C).map (·.pv) = (A ++ [q] ++ C).map (·.pv) := by simp
      rw [e1, e2]
      exact h)
    (.inl rfl)
    (by
      intro r hr
      obtain rfl : r = ⟨q.pv, q.es.set i x⟩ := List.mem_singleton.1 hr
      refine ⟨?_, .inl ⟨q, List.mem_singleton.2 rfl, rfl⟩⟩
      show OwnG _ _ 2 q.pv (q.es.set i x).length _
      rw [List.length_set, hq]
      exact ob'.own)
    (by
      intro r hr k hk
      obtain rfl : r = ⟨q.pv, q.es.set i x⟩ := List.mem_singleton.1 hr
      exact (hm.sep2 q hin).2 k hk)
    (List.pairwise_singleton _ _)
    (by
      intro r hr e he
      obtain rfl : r = ⟨q.pv, q.es.set i x⟩ := List.mem_singleton.1 hr
      rcases List.mem_or_eq_of_mem_set he with he | rfl
      · exact .inl ⟨q, List.mem_singleton.2 rfl, he⟩
      · exact .inr ⟨hx, fun k hk => ⟨hk, hb k hk⟩⟩)
  exact ⟨up.1, mods.mono (fun k _ hk => by
    rcases hk with h | h | ⟨b, hb, h⟩
    · exact .inl h
    · exact .inr (.inl h)
    · exact .inr (.inr ⟨q, hin, by rw [List.mem_singleton.1 hb] at h; exact h⟩)), up.2.1, up.2.2⟩

set_option maxHeartbeats 2000000 in
theorem Set_there {w : World} {g : Nat} {vo kv vv : Value} {R : List PV} {xs ys : List UInt8} (hm : PM w g vo R) (hk : Rd w kv xs) (hv : Rd w vv ys) (lx : xs.length ≤ 1000000) (ly : ys.length ≤ 1000000) (ok : PgOk (pgs R)) (hn : R.length ≤ 1000000)
    (hf : (findP (pgs R) xs).2.2 = true) :
    Calls Try.prog 12 #[.pointer (some ⟨g, 0, none⟩), kv, vv] w fun e w' => ∃ vo' R', e = .returned (.bool false) ∧ PT w w' g vo R vo' R' ∧ pgs R' = (pgs R).set (findP (pgs R) xs).1 (((pgs R).getD (findP (pgs R) xs).1 []).set (findP (pgs R) xs).2.1 (xs, ys)) := by
  obtain ⟨hp, hi, hkey⟩ := found_is hf
  have FD := Lib.hid (fun (w' : World) (m : Mods noB w w') (q : Value) (hq : Rd w' q xs) => find_any (hm.keep0 m) hq ok hn)
  obtain ⟨b, off, cap, pb, po, pc, hvo, hpv, ob2, ob1⟩ := hm.way hp hi
  have hge : (pgs R).getD (findP (pgs R) xs).1 [] = ents (R[(findP (pgs R) xs).1]).es := pgs_getD hp
  rw [hge]
  generalize findP (pgs R) xs = F at *
  obtain ⟨p, i, B⟩ := F
  simp only at hf hp hi hkey FD hpv ob2 hge ⊢
  subst hf
  have hl0 : ((R.length : Int) == 0) = false := by rw [beq_eq_false_iff_ne]; omega
  subst hvo
  have HM := Lib.hid hm
  have OB1 := Lib.hid ob1
  have OB2 := Lib.hid ob2
  have OK := Lib.hid (owned_any hk (by omega))
  have HK := Lib.hid hk
  have HV := Lib.hid hv
  have HPV := Lib.hid hpv
  obtain ⟨ak, ck, rfl, _⟩ := hk.form
  obtain ⟨av, cv, rfl, _⟩ := hv.form
  clear hm hk hv ob1 ob2 hpv hge ok hkey
  go_enter Try.func12, Try.ntmps12
  go_wp2_with fail
  refine OK.out.mono ?_
  rintro e w1 ⟨u, rfl, o1, m1, f1⟩
  have OV := Lib.hid (owned_any (HV.out.keep m1 (fun _ _ x => x)) (by omega))
  have O1 := Lib.hid (And.intro o1 (And.intro m1 f1))
  obtain ⟨a1, c1, rfl, _⟩ := o1.rd.form
  clear o1 m1 f1
  go_wp2_with fail
  refine OV.out.mono ?_
  rintro e w2 ⟨v, rfl, o2, m2, f2⟩
  obtain ⟨nE, nB⟩ := newE O1.out.1 O1.out.2.2 O1.out.2.1 o2 f2 m2 lx ly
  have M2 := Lib.hid (O1.out.2.1.then0 m2)
  have NE := Lib.hid (And.intro nE nB)
  obtain ⟨a2, c2, rfl, _⟩ := o2.rd.form
  clear o2 m2 f2 nE nB
  have hbE := heap_new w2 (.cells #[.slice a1 xs.length c1, .slice a2 ys.length c2] 63)
  have mE := (Mods.refl noB w2).alloc (.cells #[.slice a1 xs.length c1, .slice a2 ys.length c2] 63)
  go_upto_region 2 with fail
  generalize hw3 : World.alloc w2 _ = w3 at *
  have M3 := Lib.hid (M2.out.then0 mE)
  have e00 : w3.cell? ⟨g, 0, none⟩ = some (.slice (some ⟨b, off, none⟩) R.length cap) := cells_of (M3.out.heap HM.out.hg (fun x => x)) 0
  have FW := Lib.hid (FD.out w3 M3.out _ (HK.out.keep M3.out (fun _ _ x => x)))
  go_wp2_with fail
  refine FW.out.mono ?_
  rintro e w4 ⟨rfl, m4⟩
  have M4 := Lib.hid (M3.out.then0 m4)
  have b0 : w4.cell? ⟨w2.heap.size, 0, none⟩ = some (.slice a1 xs.length c1) := cells_of (m4.heap hbE (fun x => x)) 0
  have b1 : w4.cell? ⟨w2.heap.size, 1, none⟩ = some (.slice a2 ys.length c2) := cells_of (m4.heap hbE (fun x => x)) 1
  have e0 : w4.cell? ⟨g, 0, none⟩ = some (.slice (some ⟨b, off, none⟩) R.length cap) := cells_of (M4.out.heap HM.out.hg (fun x => x)) 0
  have q1 : w4.cell? ⟨b, off + p, none⟩ = some (.slice (some ⟨pb, po, none⟩) (R[p]).es.length pc) := by
    rw [← HPV.out]
    exact (OB1.out.keep M4.out (fun x => x)).cell (by simp [hp])
  have ob4 := OB2.out.keep M4.out (fun x => x)
  have d0 : (w4.cell? ⟨pb, po + i * 2, none⟩).isSome = true := ob4.there (j := i * 2) (by have := ob4.hn; omega)
  have d1 : (w4.cell? ⟨pb, po + i * 2 + 1, none⟩).isSome = true := by rw [Nat.add_assoc]; exact ob4.there (j := i * 2 + 1) (by have := ob4.hn; omega)
  have fr : ∀ o, w4.frozen? ⟨pb, o, none⟩ = false := ob4.free
  have hpi : (p : Int) < (R.length : Int) := by omega
  have hii : (i : Int) < ((R[p]).es.length : Int) := by omega
  generalize hEs : (R[p]).es = es at *
  have HOB4 := Lib.hid ob4
  clear e00 ob4
  go_upto_region 7 with fail
  go_still_tail 10, (by kernel_rfl)
  change wpList _ _ _ _ _ (w4.drewN 1)
  clear d0 d1 fr
  have ob4 := HOB4.out.keep ((Mods.refl noB w4).drewN 1) (fun x => x)
  refine wpList_store_mid (by rfl) 63 (.tmp 49) (.tmp 48) (by rfl) pb (po + i * 2) #[.slice a1 xs.length c1, .slice a2 ys.length c2] (by rfl) (by rfl) (fun j hj => ⟨by rw [Nat.add_assoc]; exact ob4.there (j := i * 2 + j) (by have := ob4.hn; simp at hj; omega), ob4.free _⟩) (by kernel_rfl) (by simp [Value.oneCell']) ?_
  clear b0 b1 e0 q1 ob4
  generalize hw5 : World.setCells _ _ _ _ = w5
  go_wp2
  go_ret
  subst hEs
  obtain ⟨A, q, C, rfl, rfl, hq⟩ := parts R p hp
  rw [hq] at hi HPV
  have pm4 := (HM.out.keep0 M4.out).keep0 ((Mods.refl noB w4).drewN 1)
  have hsz : w.heap.size ≤ (w4.drewN 1).heap.size := M4.out.size
  have hm24 : Mods noB w2 (w4.drewN 1) := (mE.then0 m4).then0 ((Mods.refl noB w4).drewN 1)
  obtain ⟨p1, p2, p3, p4⟩ := there_end (x := ⟨.slice a1 xs.length c1, .slice a2 ys.length c2, xs, ys⟩) pm4 HPV.out hi (NE.out.1.keep hm24 (fun _ _ x => x)) (fun k hk => ⟨by have := (NE.out.2 k hk).2; have := hm24.size; omega, fun h => by
    have h2 := HM.out.lt k h
    have := (NE.out.2 k hk).1
    omega⟩)
  rw [hw5] at p1 p2
  refine ⟨rfl, _, _, ⟨p1, (M4.out.drewN 1).trans p2 (fun _ _ x => x.elim) (fun _ _ x => x), fun k hk => (p3 k hk).imp id (Nat.le_trans hsz), fun k hk => (p4 k hk).imp id (fun h => (NE.out.2 k h).1)⟩, ?_⟩
  have hlen : A.length = (pgs A).length := (pgs_length A).symm
  rw [hq, pgs_append, pgs_append, pgs_append, pgs_append, hlen, pgs_single q, set_parts]
  show _ ++ [ents (q.es.set i _)] ++ _ = _
  rw [ents_set]
  rfl

end Go.Proofs.Ytjlomnhngngkiaa

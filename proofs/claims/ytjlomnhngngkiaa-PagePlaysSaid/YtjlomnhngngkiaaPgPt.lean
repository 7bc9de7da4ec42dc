/- PagePlays: six maps (three of the program's, three of the reference's) that share nothing that one of them turns. -/
import Derived.Test.YtjlomnhngngkiaaPgPs
namespace Go.Proofs.Ytjlomnhngngkiaa
open Go.Gl Go.RowKit
set_option linter.unusedVariables false
set_option maxRecDepth 100000

/-- a map as it lies -/
structure BX where
  g : Nat
  vo : Value
  R : List PV
def up {α : Type} (f : Nat → α) (j : Nat) (x : α) : Nat → α := fun i => if i = j then x else f i
theorem up_self {α : Type} (f : Nat → α) (j : Nat) (x : α) : up f j x j = x := if_pos rfl
theorem up_other {α : Type} (f : Nat → α) {j i : Nat} (x : α) (h : i ≠ j) : up f j x i = f i := if_neg h
/-- of either kind -/
def BM (q : Bool) (w : World) (b : BX) : Prop := match q with
  | false => PM w b.g b.vo b.R
  | true => QM w b.g b.vo b.R
theorem BM.keep {q : Bool} {w w' : World} {b : BX} {T : Nat → Prop} (h : BM q w b) (hm : Mods T w w') (h1 : ∀ k, MS b.g b.vo b.R k → ¬ T k) (h2 : ∀ k, MD b.R k → ¬ T k) : BM q w' b := by
  cases q with
  | false => exact PM.keep h hm h1 h2
  | true => exact QM.keep h hm h1 h2
theorem BM.lt {q : Bool} {w : World} {b : BX} (h : BM q w b) : ∀ k, MS b.g b.vo b.R k → k < w.heap.size := by
  cases q with
  | false => exact PM.lt h
  | true => exact QM.lt h
theorem BM.dlt {q : Bool} {w : World} {b : BX} (h : BM q w b) : ∀ k, MD b.R k → k < w.heap.size := by
  cases q with
  | false => exact PM.dlt h
  | true => exact QM.dlt h
theorem BM.data {q : Bool} {w : World} {b : BX} (h : BM q w b) : ∀ k, MD b.R k → ¬ MS b.g b.vo b.R k := by
  cases q with
  | false => exact PM.data h
  | true => exact QM.data h
/-- what a call that changes one of them leaves -/
structure TX (w w' : World) (b b' : BX) : Prop where
  mods : Mods (MS b.g b.vo b.R) w w'
  ms : ∀ k, MS b'.g b'.vo b'.R k → MS b.g b.vo b.R k ∨ w.heap.size ≤ k
  md : ∀ k, MD b'.R k → MD b.R k ∨ w.heap.size ≤ k
def ApB (a b : BX) : Prop := ApM a.g a.vo a.R b.g b.vo b.R
theorem TX.apart {q : Bool} {w w' : World} {b b' c : BX} (t : TX w w' b b') (p : BM q w c) (a : ApB b c) : BM q w' c ∧ ApB b' c := by
  refine ⟨p.keep t.mods (fun k hk x => a.1 k x hk) (fun k hk x => a.2.2 k hk x), fun k hk x => ?_, fun k hk x => ?_, fun k hk x => ?_⟩
  · rcases t.ms k hk with y | y
    · exact a.1 k y x
    · have := p.lt k x; omega
  · rcases t.md k hk with y | y
    · exact a.2.1 k y x
    · have := p.lt k x; omega
  · rcases t.ms k x with y | y
    · exact a.2.2 k hk y
    · have := p.dlt k hk; omega

def kd (j : Nat) : Bool := decide (3 ≤ j)
structure P6 (w0 w : World) (X : Nat → BX) (A : Nat → Pgs) (n : Nat) : Prop where
  st : ∀ j, j < 6 → BM (kd j) w (X j)
  eq : ∀ j, j < 6 → pgs (X j).R = A j
  own : ∀ j, j < 6 → ∀ k, MS (X j).g (X j).vo (X j).R k → w0.heap.size ≤ k
  ap : ∀ i j, i < 6 → j < 6 → i ≠ j → ApB (X i) (X j)
  mods : Mods noB w0 w
  ok : ∀ j, j < 6 → PgOk (A j)
  cn : ∀ j, j < 6 → cnt (A j) ≤ n
theorem P6.keep {w0 w w' : World} {X : Nat → BX} {A : Nat → Pgs} {n : Nat} {T : Nat → Prop} (h : P6 w0 w X A n) (m : Mods T w w') (h0 : ∀ k, T k → w0.heap.size ≤ k) (h1 : ∀ j, j < 6 → ∀ k, T k → ¬ MS (X j).g (X j).vo (X j).R k ∧ ¬ MD (X j).R k) : P6 w0 w' X A n :=
  ⟨fun j hj => (h.st j hj).keep m (fun k hk x => (h1 j hj k x).1 hk) (fun k hk x => (h1 j hj k x).2 hk), h.eq, h.own, h.ap, h.mods.trans m (fun _ _ x => x) (fun i hi x => by have := h0 i x; omega), h.ok, h.cn⟩
theorem P6.then0 {w0 w w' : World} {X : Nat → BX} {A : Nat → Pgs} {n : Nat} (h : P6 w0 w X A n) (m : Mods noB w w') : P6 w0 w' X A n := h.keep m (fun _ x => x.elim) (fun _ _ _ x => x.elim)
theorem P6.more {w0 w : World} {X : Nat → BX} {A : Nat → Pgs} {n n' : Nat} (h : P6 w0 w X A n) (hn : n ≤ n') : P6 w0 w X A n' := ⟨h.st, h.eq, h.own, h.ap, h.mods, h.ok, fun j hj => Nat.le_trans (h.cn j hj) hn⟩
theorem P6.kn {w0 w : World} {X : Nat → BX} {A : Nat → Pgs} {n j : Nat} (h : P6 w0 w X A n) (hj : j < 3) : KN w0 w (X j).g (X j).vo (X j).R (A j) := by
  have := h.st j (by omega)
  rw [show kd j = false from decide_eq_false (by omega)] at this
  exact ⟨this, h.eq j (by omega), h.mods, h.own j (by omega)⟩
theorem P6.qn {w0 w : World} {X : Nat → BX} {A : Nat → Pgs} {n j : Nat} (h : P6 w0 w X A n) (hj : j < 3) : QN w0 w (X (j + 3)).g (X (j + 3)).vo (X (j + 3)).R (A (j + 3)) := by
  have := h.st (j + 3) (by omega)
  rw [show kd (j + 3) = true from decide_eq_true (by omega)] at this
  exact ⟨this, h.eq _ (by omega), h.mods, h.own _ (by omega)⟩
theorem P6.len {w0 w : World} {X : Nat → BX} {A : Nat → Pgs} {n j : Nat} (h : P6 w0 w X A n) (hj : j < 6) : (A j).length ≤ n := Nat.le_trans (pages_le (h.ok j hj)) (h.cn j hj)

/-- one of them has changed -/
theorem P6.chg {w0 w w' : World} {X : Nat → BX} {A : Nat → Pgs} {n j : Nat} {b' : BX} {ps : Pgs} (h : P6 w0 w X A n) (hj : j < 6) (t : TX w w' (X j) b') (hb : BM (kd j) w' b') (he : pgs b'.R = ps) (hok : PgOk ps) (hc : cnt ps ≤ n) : P6 w0 w' (up X j b') (up A j ps) n := by
  have hs := h.mods.size
  refine ⟨fun i hi => ?_, fun i hi => ?_, fun i hi => ?_, fun i k hi hk hik => ?_, ?_, fun i hi => ?_, fun i hi => ?_⟩
  · by_cases e : i = j
    · subst e; rw [up_self]; exact hb
    · rw [up_other _ _ e]; exact (t.apart (h.st i hi) (h.ap j i hj hi (fun x => e x.symm))).1
  · by_cases e : i = j
    · subst e; rw [up_self, up_self]; exact he
    · rw [up_other _ _ e, up_other _ _ e]; exact h.eq i hi
  · by_cases e : i = j
    · subst e; rw [up_self]
      intro k hk
      rcases t.ms k hk with x | x
      · exact h.own i hi k x
      · omega
    · rw [up_other _ _ e]; exact h.own i hi
  · by_cases e : i = j
    · subst e
      rw [up_self, up_other _ _ (fun x => hik x.symm)]
      exact (t.apart (h.st k hk) (h.ap i k hi hk hik)).2
    · rw [up_other _ _ e]
      by_cases f : k = j
      · subst f
        rw [up_self]
        exact ApM.symm (t.apart (h.st i hi) (h.ap k i hk hi (fun x => hik x.symm))).2
      · rw [up_other _ _ f]
        exact h.ap i k hi hk hik
  · exact h.mods.trans t.mods (fun _ _ x => x) (fun i hi x => by have := h.own j hj i x; omega)
  · by_cases e : i = j
    · subst e; rw [up_self]; exact hok
    · rw [up_other _ _ e]; exact h.ok i hi
  · by_cases e : i = j
    · subst e; rw [up_self]; exact hc
    · rw [up_other _ _ e]; exact h.cn i hi
/-- one of them is replaced by a copy of one -/
theorem P6.rep {w0 w w' : World} {X : Nat → BX} {A : Nat → Pgs} {n j a : Nat} {b' : BX} (h : P6 w0 w X A n) (hj : j < 6) (ha : a < 6) (m : Mods noB w w') (hb : BM (kd j) w' b') (he : pgs b'.R = A a) (hf : ∀ k, MS b'.g b'.vo b'.R k → w.heap.size ≤ k) (hd : ∀ k, MD b'.R k → MD (X a).R k) : P6 w0 w' (up X j b') (up A j (A a)) n := by
  have h' := h.then0 m
  have hs := h.mods.size
  have apb : ∀ i, i < 6 → ApB b' (X i) := fun i hi => by
    refine ⟨fun k hk x => ?_, fun k hk x => ?_, fun k hk x => ?_⟩
    · have := hf k hk; have := (h.st i hi).lt k x; omega
    · by_cases e : a = i
      · subst e; exact (h.st a hi).data k (hd k hk) x
      · exact (h.ap a i ha hi e).2.1 k (hd k hk) x
    · have := hf k x; have := (h.st i hi).dlt k hk; omega
  refine ⟨fun i hi => ?_, fun i hi => ?_, fun i hi => ?_, fun i k hi hk hik => ?_, h'.mods, fun i hi => ?_, fun i hi => ?_⟩
  · by_cases e : i = j
    · subst e; rw [up_self]; exact hb
    · rw [up_other _ _ e]; exact h'.st i hi
  · by_cases e : i = j
    · subst e; rw [up_self, up_self]; exact he
    · rw [up_other _ _ e, up_other _ _ e]; exact h.eq i hi
  · by_cases e : i = j
    · subst e; rw [up_self]
      intro k hk
      have := hf k hk; omega
    · rw [up_other _ _ e]; exact h.own i hi
  · by_cases e : i = j
    · subst e
      rw [up_self, up_other _ _ (fun x => hik x.symm)]
      exact apb k hk
    · rw [up_other _ _ e]
      by_cases f : k = j
      · subst f
        rw [up_self]
        exact ApM.symm (apb i hi)
      · rw [up_other _ _ f]
        exact h.ap i k hi hk hik
  · by_cases e : i = j
    · subst e; rw [up_self]; exact h.ok a ha
    · rw [up_other _ _ e]; exact h.ok i hi
  · by_cases e : i = j
    · subst e; rw [up_self]; exact h.cn a ha
    · rw [up_other _ _ e]; exact h.cn i hi

/-- the two tables that lead to them -/
structure T6 (w0 w : World) (mb rb : Nat) (X : Nat → BX) : Prop where
  m : ∃ cur, w.heap[mb]? = some (.cells cur 25 (0, 0)) ∧ cur.size = 3 ∧ ∀ j, j < 3 → cur[j]? = some (.pointer (some ⟨(X j).g, 0, none⟩))
  r : ∃ cur, w.heap[rb]? = some (.cells cur 28 (0, 0)) ∧ cur.size = 3 ∧ ∀ j, j < 3 → cur[j]? = some (.pointer (some ⟨(X (j + 3)).g, 0, none⟩))
  ne : mb ≠ rb
  m0 : w0.heap.size ≤ mb
  r0 : w0.heap.size ≤ rb
  a : ∀ j, j < 6 → ∀ k, k = mb ∨ k = rb → ¬ MS (X j).g (X j).vo (X j).R k ∧ ¬ MD (X j).R k
theorem T6.keep {w0 w w' : World} {mb rb : Nat} {X : Nat → BX} {T : Nat → Prop} (h : T6 w0 w mb rb X) (m : Mods T w w') (hm : ¬ T mb) (hr : ¬ T rb) : T6 w0 w' mb rb X := by
  obtain ⟨c1, a1, b1⟩ := h.m
  obtain ⟨c2, a2, b2⟩ := h.r
  exact ⟨⟨c1, m.heap a1 hm, b1⟩, ⟨c2, m.heap a2 hr, b2⟩, h.ne, h.m0, h.r0, h.a⟩
theorem T6.then0 {w0 w w' : World} {mb rb : Nat} {X : Nat → BX} (h : T6 w0 w mb rb X) (m : Mods noB w w') : T6 w0 w' mb rb X := h.keep m (fun x => x) (fun x => x)
theorem T6.lt {w0 w : World} {mb rb : Nat} {X : Nat → BX} (h : T6 w0 w mb rb X) : mb < w.heap.size ∧ rb < w.heap.size := by
  obtain ⟨c1, a1, _⟩ := h.m
  obtain ⟨c2, a2, _⟩ := h.r
  exact ⟨lt_of_heap a1, lt_of_heap a2⟩
theorem T6.chg {w0 w w' : World} {mb rb j : Nat} {X : Nat → BX} {b' : BX} (h : T6 w0 w mb rb X) (hj : j < 6) (t : TX w w' (X j) b') (hg : b'.g = (X j).g) : T6 w0 w' mb rb (up X j b') := by
  obtain ⟨l1, l2⟩ := h.lt
  have k := h.keep t.mods (h.a j hj mb (.inl rfl)).1 (h.a j hj rb (.inr rfl)).1
  have hgi : ∀ i, (up X j b' i).g = (X i).g := fun i => by
    by_cases e : i = j
    · subst e; rw [up_self, hg]
    · rw [up_other _ _ e]
  obtain ⟨c1, a1, s1, b1⟩ := k.m
  obtain ⟨c2, a2, s2, b2⟩ := k.r
  refine ⟨⟨c1, a1, s1, fun i hi => by rw [hgi]; exact b1 i hi⟩, ⟨c2, a2, s2, fun i hi => by rw [hgi]; exact b2 i hi⟩, h.ne, h.m0, h.r0, fun i hi k hk => ?_⟩
  by_cases e : i = j
  · subst e
    rw [up_self]
    have hkl : k < w.heap.size := by rcases hk with rfl | rfl <;> assumption
    refine ⟨fun x => ?_, fun x => ?_⟩
    · rcases t.ms k x with y | y
      · exact (h.a i hi k hk).1 y
      · omega
    · rcases t.md k x with y | y
      · exact (h.a i hi k hk).2 y
      · omega
  · rw [up_other _ _ e]; exact h.a i hi k hk
/-- where the tables lead -/
theorem T6.cells {w0 w : World} {mb rb j : Nat} {X : Nat → BX} (h : T6 w0 w mb rb X) (hj : j < 3) : w.cell? ⟨mb, 0 + j, none⟩ = some (.pointer (some ⟨(X j).g, 0, none⟩)) ∧ w.cell? ⟨rb, 0 + j, none⟩ = some (.pointer (some ⟨(X (j + 3)).g, 0, none⟩)) := by
  obtain ⟨c1, a1, _, b1⟩ := h.m
  obtain ⟨c2, a2, _, b2⟩ := h.r
  rw [Nat.zero_add]
  exact ⟨(cells_of a1 _).trans (b1 j hj), (cells_of a2 _).trans (b2 j hj)⟩
/-- both tables lead to new ones -/
theorem T6.put {w0 w w1 w' : World} {mb rb j : Nat} {X : Nat → BX} {b c : BX} (h : T6 w0 w mb rb X) (hj : j < 3) (m : Mods noB w w1) (hb : ∀ k, MS b.g b.vo b.R k → w.heap.size ≤ k) (hc : ∀ k, MS c.g c.vo c.R k → w.heap.size ≤ k) (db : ∀ k, MD b.R k → ¬ (k = mb ∨ k = rb)) (dc : ∀ k, MD c.R k → ¬ (k = mb ∨ k = rb))
    (e : w' = (w1.setCell ⟨mb, 0 + j, none⟩ (.pointer (some ⟨b.g, 0, none⟩))).setCell ⟨rb, 0 + j, none⟩ (.pointer (some ⟨c.g, 0, none⟩))) : T6 w0 w' mb rb (up (up X j b) (j + 3) c) := by
  obtain ⟨l1, l2⟩ := h.lt
  obtain ⟨c1, a1, s1, b1⟩ := (h.then0 m).m
  obtain ⟨c2, a2, s2, b2⟩ := (h.then0 m).r
  rw [Nat.zero_add] at e
  refine ⟨⟨c1.setIfInBounds j (.pointer (some ⟨b.g, 0, none⟩)), ?_, by simp [s1], fun i hi => ?_⟩, ⟨c2.setIfInBounds j (.pointer (some ⟨c.g, 0, none⟩)), ?_, by simp [s2], fun i hi => ?_⟩, h.ne, h.m0, h.r0, fun i hi k hk => ?_⟩
  · rw [e]
    exact (heap_set_other (a := ⟨rb, j, none⟩) h.ne _).trans (heap_set a1 j _)
  · rw [up_other _ _ (by omega : i ≠ j + 3), Array.getElem?_setIfInBounds]
    by_cases x : j = i
    · subst x; rw [if_pos rfl, if_pos (by omega), up_self]
    · rw [if_neg x, up_other _ _ (fun y => x y.symm)]; exact b1 i hi
  · rw [e]
    exact heap_set ((heap_set_other (a := ⟨mb, j, none⟩) (Ne.symm h.ne) _).trans a2) j _
  · rw [Array.getElem?_setIfInBounds]
    by_cases x : j = i
    · subst x; rw [if_pos rfl, if_pos (by omega), up_self]
    · rw [if_neg x, up_other _ _ (by omega : i + 3 ≠ j + 3), up_other _ _ (by omega : i + 3 ≠ j)]; exact b2 i hi
  · have hkl : k < w.heap.size := by rcases hk with rfl | rfl <;> assumption
    by_cases x : i = j + 3
    · subst x; rw [up_self]; exact ⟨fun y => by have := hc k y; omega, fun y => dc k y hk⟩
    · rw [up_other _ _ x]
      by_cases z : i = j
      · subst z; rw [up_self]; exact ⟨fun y => by have := hb k y; omega, fun y => db k y hk⟩
      · rw [up_other _ _ z]; exact h.a i hi k hk

end Go.Proofs.Ytjlomnhngngkiaa

/- Parts of the proof, one behind the other: OrdF, PgV, OrdL. -/
import Derived.Test.YtjlomnhngngkiaaZA
import Derived.Deep.DeepCutAuto
import Derived.StillTailTactics
import Derived.Deep.MidRow

/- A drawn region told in one order: the check of the order by sets that are numbers (fast for great regions). -/
namespace Go.Gl
open Go.RowKit
set_option linter.unusedVariables false

section
variable {P : Program} {ops : Array Oper} {Q : Exit → Act → World → Prop} {S : World → Prop} {T : List Nat}

/-- a set as a number -/
def maskOf : List Nat → Nat
  | [] => 0
  | k :: l => maskOf l ||| (1 <<< k)
theorem maskOf_bit (l : List Nat) (k : Nat) : (maskOf l).testBit k = true ↔ k ∈ l := by
  induction l with
  | nil => simp [maskOf]
  | cons a l ih =>
    simp only [maskOf, Nat.testBit_or, Bool.or_eq_true, ih, List.mem_cons, Nat.one_shiftLeft, Nat.testBit_two_pow, decide_eq_true_eq]
    constructor
    · rintro (h | h)
      · exact .inr h
      · exact .inl h.symm
    · rintro (h | h)
      · exact .inr h.symm
      · exact .inl h
theorem and_zero {a b : Nat} (h : Nat.beq (a &&& b) 0 = true) (k : Nat) (ha : a.testBit k = true) (hb : b.testBit k = true) : False := by
  have h0 : a &&& b = 0 := Nat.eq_of_beq_eq_true h
  have h1 : (a &&& b).testBit k = true := by rw [Nat.testBit_and, ha, hb]; rfl
  rw [h0, Nat.zero_testBit] at h1
  cases h1
theorem bit_self (k : Nat) : (1 <<< k).testBit k = true := by rw [Nat.one_shiftLeft, Nat.testBit_two_pow]; simp
theorem bit_zero {m k : Nat} (h : Nat.beq (m &&& (1 <<< k)) 0 = true) : m.testBit k = false := by
  cases hm : m.testBit k with
  | false => rfl
  | true => exact (and_zero h k hm (bit_self k)).elim
theorem bit_one {m k : Nat} (h : Nat.beq (m &&& (1 <<< k)) 0 = false) : m.testBit k = true := by
  cases hm : m.testBit k with
  | true => rfl
  | false =>
    have : m &&& (1 <<< k) = 0 := by
      apply Nat.eq_of_testBit_eq
      intro i
      rw [Nat.testBit_and, Nat.one_shiftLeft, Nat.testBit_two_pow, Nat.zero_testBit]
      by_cases hi : k = i
      · subst hi; rw [hm]; rfl
      · simp [hi]
    rw [this] at h
    cases h
theorem sub_bit {a m : Nat} (h : Nat.beq (a &&& m) a = true) (k : Nat) (ha : a.testBit k = true) : m.testBit k = true := by
  have h0 : a &&& m = a := Nat.eq_of_beq_eq_true h
  have h1 : (a &&& m).testBit k = true := by rw [h0, ha]
  rw [Nat.testBit_and, Bool.and_eq_true] at h1
  exact h1.2

def afterL (o : Oper) : List Nat := (o.after.toList.filter (fun e => Region.binds .any e)).map (·.on)
def dstL (o : Oper) : List Nat := o.dst.toList
/-- waits for, looks at, writes -/
def sumOf (ops : Array Oper) (o : Oper) : Nat × Nat × Nat := (maskOf (afterL o), maskOf (o.looksAt ops), maskOf (dstL o))
def sums (ops : Array Oper) : List (Nat × Nat × Nat) := ops.toList.map (sumOf ops)

def freeM (i lk d m : Nat) : List (Nat × Nat × Nat) → Nat → Bool
  | [], _ => true
  | (a', lk', d') :: r, j => (Nat.beq j i || !(Nat.beq (m &&& (1 <<< j)) 0) || !(Nat.beq (a' &&& (1 <<< i)) 0) || (Nat.beq (lk' &&& d) 0 && Nat.beq (d' &&& (lk ||| d)) 0)) && freeM i lk d m r (j + 1)
def onlyM (i m : Nat) : List (Nat × Nat × Nat) → Nat → Bool
  | [], _ => true
  | (a', _, _) :: r, j => (Nat.beq j i || !(Nat.beq (m &&& (1 <<< j)) 0) || !(Nat.beq (a' &&& m) a')) && onlyM i m r (j + 1)
def tailM (sm : List (Nat × Nat × Nat)) (i : Nat) : List Nat → Bool
  | [] => true
  | t :: ts => (!(Nat.beq t i)) && (match sm[t]? with | some (a', _, _) => !(Nat.beq (a' &&& (1 <<< i)) 0) | none => false) && tailM sm i ts
def fastGo (sm : List (Nat × Nat × Nat)) (T : List Nat) : List (Nat × Bool) → Nat → Bool
  | [], m => onlyM sm.length m sm 0
  | (i, b) :: l, m => (match sm[i]? with
    | none => false
    | some (a, lk, d) => Nat.beq (m &&& (1 <<< i)) 0 && Nat.beq (a &&& m) a && (match b with | true => freeM i lk d m sm 0 && tailM sm i T | false => onlyM i m sm 0)) && fastGo sm T l (m ||| (1 <<< i))

theorem freeM_spec {i lk d m : Nat} : ∀ (r : List (Nat × Nat × Nat)) (j0 : Nat), freeM i lk d m r j0 = true → ∀ k a' lk' d', r[k]? = some (a', lk', d') → j0 + k ≠ i → m.testBit (j0 + k) = false → a'.testBit i = false → Nat.beq (lk' &&& d) 0 = true ∧ Nat.beq (d' &&& (lk ||| d)) 0 = true := by
  intro r
  induction r with
  | nil => intro j0 _ k a' lk' d' h; simp at h
  | cons x r ih =>
    obtain ⟨xa, xl, xd⟩ := x
    intro j0 h k a' lk' d' hk hne hm ha
    simp only [freeM, Bool.and_eq_true, Bool.or_eq_true, Bool.not_eq_true'] at h
    rcases k with _ | k
    · simp only [List.getElem?_cons_zero, Option.some.injEq, Prod.mk.injEq] at hk
      obtain ⟨rfl, rfl, rfl⟩ := hk
      rw [Nat.add_zero] at hne hm
      rcases h.1 with ((h1 | h1) | h1) | h1
      · exact absurd (Nat.eq_of_beq_eq_true h1) hne
      · rw [bit_one h1] at hm; cases hm
      · rw [bit_one h1] at ha; cases ha
      · exact h1
    · rw [List.getElem?_cons_succ] at hk
      exact ih (j0 + 1) h.2 k a' lk' d' hk (by omega) (by rw [show j0 + 1 + k = j0 + (k + 1) from by omega]; exact hm) ha

theorem onlyM_spec {i m : Nat} : ∀ (r : List (Nat × Nat × Nat)) (j0 : Nat), onlyM i m r j0 = true → ∀ k a' lk' d', r[k]? = some (a', lk', d') → j0 + k ≠ i → m.testBit (j0 + k) = false → Nat.beq (a' &&& m) a' = false := by
  intro r
  induction r with
  | nil => intro j0 _ k a' lk' d' h; simp at h
  | cons x r ih =>
    obtain ⟨xa, xl, xd⟩ := x
    intro j0 h k a' lk' d' hk hne hm
    simp only [onlyM, Bool.and_eq_true, Bool.or_eq_true, Bool.not_eq_true'] at h
    rcases k with _ | k
    · simp only [List.getElem?_cons_zero, Option.some.injEq, Prod.mk.injEq] at hk
      obtain ⟨rfl, rfl, rfl⟩ := hk
      rw [Nat.add_zero] at hne hm
      rcases h.1 with (h1 | h1) | h1
      · exact absurd (Nat.eq_of_beq_eq_true h1) hne
      · rw [bit_one h1] at hm; cases hm
      · exact h1
    · rw [List.getElem?_cons_succ] at hk
      exact ih (j0 + 1) h.2 k a' lk' d' hk (by omega) (by rw [show j0 + 1 + k = j0 + (k + 1) from by omega]; exact hm)

theorem sums_get {i : Nat} {o : Oper} (h : ops[i]? = some o) : (sums ops)[i]? = some (sumOf ops o) := by
  unfold sums
  rw [List.getElem?_map, Array.getElem?_toList, h]
  rfl
theorem get_sums {i : Nat} {p : Nat × Nat × Nat} (h : (sums ops)[i]? = some p) : ∃ o, ops[i]? = some o ∧ p = sumOf ops o := by
  unfold sums at h
  rw [List.getElem?_map, Array.getElem?_toList] at h
  cases ho : ops[i]? with
  | none => rw [ho] at h; cases h
  | some o => rw [ho] at h; exact ⟨o, rfl, (Option.some.inj h).symm⟩
theorem afterL_mem {o : Oper} {k : Nat} : k ∈ afterL o ↔ ∃ e ∈ o.after, Region.binds .any e = true ∧ e.on = k := by
  unfold afterL
  rw [List.mem_map]
  constructor
  · rintro ⟨e, he, rfl⟩
    obtain ⟨h1, h2⟩ := List.mem_filter.1 he
    exact ⟨e, by simpa using h1, h2, rfl⟩
  · rintro ⟨e, he, hb, rfl⟩
    exact ⟨e, List.mem_filter.2 ⟨by simpa using he, hb⟩, rfl⟩

/-- what has come up, told by a number -/
def Rel (L : Array Bool) (m : Nat) : Prop := ∀ j, j < L.size → L[j]? = some (m.testBit j)
theorem Rel.set {L : Array Bool} {m i : Nat} (h : Rel L m) : Rel (L.setIfInBounds i true) (m ||| (1 <<< i)) := by
  intro j hj
  rw [Array.size_setIfInBounds] at hj
  rw [Nat.testBit_or, Nat.one_shiftLeft, Nat.testBit_two_pow]
  by_cases hij : i = j
  · subst hij
    rw [Array.getElem?_setIfInBounds_self_of_lt hj]
    simp
  · rw [Array.getElem?_setIfInBounds_ne hij, h j hj]
    simp [hij]
theorem Rel.getD {L : Array Bool} {m : Nat} (h : Rel L m) {j : Nat} (hj : j < L.size) (d : Bool) : L.getD j d = m.testBit j := by
  have := h j hj
  rw [Array.getD_eq_getD_getElem?, this]
  rfl

theorem readyM {L : Array Bool} {m i : Nat} {o : Oper} (h : Rel L m) (hsz : L.size = ops.size) (ho : ops[i]? = some o) (h0 : m.testBit i = false) (ha : ∀ e ∈ o.after, Region.binds .any e = true → m.testBit e.on = true) (hb : ∀ e ∈ o.after, Region.binds .any e = true → e.on < ops.size) : i ∈ Region.ready .any ops L := by
  have hi := (Array.getElem?_eq_some_iff.1 ho).1
  refine mem_ready.2 ⟨by rw [h.getD (by omega), h0], o, ho, fun e he hbd => ?_⟩
  rw [h.getD (by have := hb e he hbd; omega), ha e he hbd]

/-- edges lead to operations of the region -/
def edgesIn (n : Nat) : List (Nat × Nat × Nat) → Bool
  | [] => true
  | (a, _, _) :: r => Nat.beq (a >>> n) 0 && edgesIn n r
theorem edgesIn_spec {n : Nat} : ∀ (r : List (Nat × Nat × Nat)), edgesIn n r = true → ∀ (k a' lk' d' : Nat), r[k]? = some (a', lk', d') → ∀ j : Nat, a'.testBit j = true → j < n := by
  intro r
  induction r with
  | nil => intro _ k a' lk' d' h; simp at h
  | cons x r ih =>
    obtain ⟨xa, xl, xd⟩ := x
    intro h k a' lk' d' hk j hj
    simp only [edgesIn, Bool.and_eq_true] at h
    rcases k with _ | k
    · simp only [List.getElem?_cons_zero, Option.some.injEq, Prod.mk.injEq] at hk
      obtain ⟨rfl, rfl, rfl⟩ := hk
      rcases Nat.lt_or_ge j n with h1 | h1
      · exact h1
      · have h2 : xa >>> n = 0 := Nat.eq_of_beq_eq_true h.1
        have h3 : (xa >>> n).testBit (j - n) = true := by rw [Nat.testBit_shiftRight, show n + (j - n) = j from by omega, hj]
        rw [h2, Nat.zero_testBit] at h3
        cases h3
    · rw [List.getElem?_cons_succ] at hk
      exact ih h.2 k a' lk' d' hk j hj

theorem apartM {x y : Oper} (h1 : Nat.beq (maskOf (y.looksAt ops) &&& maskOf (dstL x)) 0 = true) (h2 : Nat.beq (maskOf (dstL y) &&& (maskOf (x.looksAt ops) ||| maskOf (dstL x))) 0 = true) : x.apart ops y = true := by
  unfold Oper.apart
  rw [Bool.and_eq_true]
  constructor
  · cases hx : x.dst with
    | none => rfl
    | some d =>
      have hd : (maskOf (dstL x)).testBit d = true := (maskOf_bit _ _).2 (by unfold dstL; rw [hx]; simp)
      simp only [Bool.and_eq_true, Bool.not_eq_true']
      constructor
      · cases hc : (y.looksAt ops).contains d with
        | false => rfl
        | true => exact (and_zero h1 d ((maskOf_bit _ _).2 (by simpa using hc)) hd).elim
      · rw [bne_iff_ne]
        intro hy
        exact and_zero h2 d ((maskOf_bit _ _).2 (by unfold dstL; rw [hy]; simp)) (by rw [Nat.testBit_or, hd, Bool.or_true])
  · cases hy : y.dst with
    | none => rfl
    | some d =>
      simp only [Bool.not_eq_true']
      cases hc : (x.looksAt ops).contains d with
      | false => rfl
      | true => exact (and_zero h2 d ((maskOf_bit _ _).2 (by unfold dstL; rw [hy]; simp)) (by rw [Nat.testBit_or, (maskOf_bit _ _).2 (by simpa using hc), Bool.true_or])).elim

theorem tailM_spec {i : Nat} : ∀ (T : List Nat), tailM (sums ops) i T = true → i ∉ T ∧ T.all (fun t => reach .any ops i 1 t) = true := by
  intro T
  induction T with
  | nil => intro _; exact ⟨by simp, rfl⟩
  | cons t ts ih =>
    intro h
    simp only [tailM, Bool.and_eq_true, Bool.not_eq_true'] at h
    obtain ⟨k1, k2⟩ := ih h.2
    refine ⟨fun hm => ?_, ?_⟩
    · rcases List.mem_cons.1 hm with rfl | hm
      · rw [Nat.beq_refl] at h; exact absurd h.1.1 (by decide)
      · exact k1 hm
    · rw [List.all_cons, k2, Bool.and_true]
      have h2 := h.1.2
      cases hs : (sums ops)[t]? with
      | none => rw [hs] at h2; cases h2
      | some p =>
        obtain ⟨o, ho, rfl⟩ := get_sums hs
        rw [hs] at h2
        simp only [sumOf, Bool.not_eq_true'] at h2
        obtain ⟨e, he, hb, hon⟩ := afterL_mem.1 ((maskOf_bit _ _).1 (bit_one h2))
        simp only [reach, ho]
        exact Array.any_eq_true'.2 ⟨e, he, by rw [hb, hon]; simp⟩

theorem fast_sound (hs : Region.noSelect ops = true) (hQ : ∀ c a d v w, Q (.panic c) (Act.put a d v) w → Q (.panic c) a w) (hE : edgesIn ops.size (sums ops) = true) (l : List (Nat × Bool)) :
    ∀ (L : Array Bool) (m : Nat) (a : Act) (w : World), fastGo (sums ops) T l m = true → Rel L m → ClosedL .any ops L → L.size = ops.size → ST T S L w → wpOrd0 P ops Q T S l a w → wpAnyT P .any ops Q T S l.length L a w := by
  have hlen : (sums ops).length = ops.size := by simp [sums]
  have notready : ∀ (L : Array Bool) (m i : Nat), Rel L m → L.size = ops.size → onlyM i m (sums ops) 0 = true → ∀ j ∈ Region.ready .any ops L, j = i := by
    intro L m i hR hsz ho j hj
    obtain ⟨hun, o, hoj, hall⟩ := mem_ready.1 hj
    have hjlt := (Array.getElem?_eq_some_iff.1 hoj).1
    rcases Nat.decEq j i with hne | he
    · have hm : m.testBit j = false := by rw [← hR.getD (by omega) true]; exact hun
      have h1 := onlyM_spec _ 0 ho j _ _ _ (sums_get hoj) (by rw [Nat.zero_add]; exact hne) (by rw [Nat.zero_add]; exact hm)
      have h2 : maskOf (afterL o) &&& m = maskOf (afterL o) := by
        apply Nat.eq_of_testBit_eq
        intro k
        rw [Nat.testBit_and]
        cases hk : (maskOf (afterL o)).testBit k with
        | false => rfl
        | true =>
          obtain ⟨e, he, hb, rfl⟩ := afterL_mem.1 ((maskOf_bit _ _).1 hk)
          have := hall e he hb
          have hlt := edgesIn_spec _ hE j _ _ _ (sums_get hoj) e.on hk
          rw [hR.getD (by omega)] at this
          rw [this]
          rfl
      rw [h2, Nat.beq_refl] at h1
      cases h1
    · exact he
  induction l with
  | nil =>
    intro L m a w h hR hcl hsz hS hw
    simp only [fastGo] at h
    refine ⟨?_, hw⟩
    rcases hr : Region.ready .any ops L with _ | ⟨j, r⟩
    · rfl
    · have hj : j ∈ Region.ready .any ops L := by rw [hr]; exact List.mem_cons_self ..
      have := notready L m _ hR hsz h j hj
      obtain ⟨_, o, hoj, _⟩ := mem_ready.1 hj
      have hjlt := (Array.getElem?_eq_some_iff.1 hoj).1
      omega
  | cons x l ih =>
    obtain ⟨i, b⟩ := x
    intro L m a w h hR hcl hsz hS hw
    simp only [fastGo, Bool.and_eq_true] at h
    obtain ⟨h0, h⟩ := h
    cases hsi : (sums ops)[i]? with
    | none => rw [hsi] at h0; cases h0
    | some p =>
      obtain ⟨o, ho, rfl⟩ := get_sums hsi
      rw [hsi] at h0
      simp only [sumOf, Bool.and_eq_true] at h0
      obtain ⟨⟨h1, h2⟩, h3⟩ := h0
      have hi := (Array.getElem?_eq_some_iff.1 ho).1
      have hin : ∀ e ∈ o.after, Region.binds .any e = true → e.on < ops.size := fun e he hb => edgesIn_spec _ hE i _ _ _ hsi e.on ((maskOf_bit _ _).2 (afterL_mem.2 ⟨e, he, hb, rfl⟩))
      have hir : i ∈ Region.ready .any ops L := readyM hR hsz ho (bit_zero h1) (fun e he hb => sub_bit h2 e.on ((maskOf_bit _ _).2 (afterL_mem.2 ⟨e, he, hb, rfl⟩))) hin
      rcases b with _ | _
      · have honly := notready L m i hR hsz h3
        refine ⟨fun h0 => (by rw [h0] at hir; cases hir), fun j hj => ?_⟩
        obtain rfl := honly j hj
        refine wpOp_mono (fun a' w' h' => ?_) hw
        have hS' : ST T S (L.setIfInBounds j true) w' := by
          intro hn
          refine h'.1 ?_
          cases ht : T.contains j with
          | false => rfl
          | true =>
            have hm := List.all_eq_true.1 hn j (by simpa using ht)
            have hlt : j < L.size := by omega
            simp [hlt] at hm
        exact ⟨hS', ih _ _ _ _ h hR.set (hcl.set hir) (by simpa using hsz) hS' h'.2⟩
      · simp only [Bool.and_eq_true] at h3
        obtain ⟨o', v, ho', hy, hr⟩ := hw
        obtain rfl : o = o' := Option.some.inj (ho.symm.trans ho')
        obtain ⟨hiT, hreach⟩ := tailM_spec T h3.2
        refine wpAnyT_first ho hiT hreach (Region.noSelect_spec hs) (fun c a w => hQ c a _ _ w) _ _ _ _ (fun j oj hj hne hun hno => ?_) hir hcl hy hS ?_
        · have hjlt := (Array.getElem?_eq_some_iff.1 hj).1
          have hm : m.testBit j = false := by rw [← hR.getD (by omega) true]; exact hun
          have hna : (maskOf (afterL oj)).testBit i = false := by
            cases hb : (maskOf (afterL oj)).testBit i with
            | false => rfl
            | true =>
              obtain ⟨e, he, hbd, hon⟩ := afterL_mem.1 ((maskOf_bit _ _).1 hb)
              exact absurd hon (hno e he hbd)
          obtain ⟨k1, k2⟩ := freeM_spec _ 0 h3.1 j _ _ _ (sums_get hj) (by rw [Nat.zero_add]; exact hne) (by rw [Nat.zero_add]; exact hm) hna
          exact apartM k1 k2
        · exact ih _ _ _ _ h hR.set (hcl.set hir) (by simpa using hsz) (fun hn => hS (by rwa [none0_set hiT] at hn)) hr

/-- the beginning, the order checked by numbers: sm is what the region's operations wait for, look at, write -/
theorem wp_region_ordF {id : Nat} {a : Act} {w : World} (l : List (Nat × Bool)) (T : List Nat) (S : World → Prop) (sm : List (Nat × Nat × Nat)) (hm : P.follows .mixedOrders = true) (hs : Region.noSelect ops = true) (hl : l.length = ops.size)
    (hsm : sums ops = sm) (ok : (edgesIn sm.length sm && fastGo sm T l 0) = true) (hS : S w.drew) (h : wpOrdT P ops (NoPanic Q) T S l a w.drew) : (Code.region id ops true).wp P Q a w := by
  subst hsm
  rw [Bool.and_eq_true] at ok
  have hlen : (sums ops).length = ops.size := by simp [sums]
  rw [hlen] at ok
  refine wp_region_noPanic (wp_region_any hm (wpAny_of_T (T := T) (S := S) _ _ _ _ ?_))
  rw [← hl]
  refine fast_sound hs NoPanic.dead ok.1 l _ 0 _ _ ok.2 (fun j hj => ?_) ?_ (by simpa using hl) (fun _ => hS) h.out
  · simp at hj
    simp [hj]
  · intro j oj _ hl
    simp at hl
    exact absurd hl (by
      rcases Nat.lt_or_ge j l.length with h' | h'
      · simp [h']
      · simp [h'])

end
end Go.Gl

/- page.Map: Set. -/
namespace Go.Proofs.Ytjlomnhngngkiaa
open Go.Gl Go.RowKit
set_option linter.unusedVariables false
set_option maxRecDepth 100000

/-- what a call that changes a map leaves -/
structure PT (w w' : World) (g : Nat) (vo : Value) (R : List PV) (vo' : Value) (R' : List PV) : Prop where
  pm : PM w' g vo' R'
  mods : Mods (MS g vo R) w w'
  ms : ∀ k, MS g vo' R' k → MS g vo R k ∨ w.heap.size ≤ k
  md : ∀ k, MD R' k → MD R k ∨ w.heap.size ≤ k
theorem PT.first {a b c : World} {g : Nat} {vo vo' : Value} {R R' : List PV} (h : PT b c g vo R vo' R') (hm : Mods noB a b) : PT a c g vo R vo' R' :=
  ⟨h.pm, hm.trans h.mods (fun _ _ x => x.elim) (fun _ _ x => x), fun k hk => (h.ms k hk).imp id (Nat.le_trans hm.size), fun k hk => (h.md k hk).imp id (Nat.le_trans hm.size)⟩
theorem PT.then0 {a b c : World} {g : Nat} {vo vo' : Value} {R R' : List PV} (h : PT a b g vo R vo' R') (hm : Mods noB b c) : PT a c g vo R vo' R' :=
  ⟨h.pm.keep0 hm, h.mods.then0 hm, h.ms, h.md⟩
theorem PT.refl {w : World} {g : Nat} {vo : Value} {R : List PV} (h : PM w g vo R) : PT w w g vo R vo R := ⟨h, Mods.refl _ _, fun _ => .inl, fun _ => .inl⟩

/-- a new entry: its bytes in new memory -/
theorem newE {w w1 w2 : World} {u v : Value} {xs ys : List UInt8} (o1 : Own w1 u xs) (f1 : freshIn w u) (m1 : Mods noB w w1) (o2 : Own w2 v ys) (f2 : freshIn w1 v) (m2 : Mods noB w1 w2) (lx : xs.length ≤ 1000000) (ly : ys.length ≤ 1000000) :
    E1 w2 ⟨u, v, xs, ys⟩ ∧ ∀ k, (u.ownBlock = some k ∨ v.ownBlock = some k) → w.heap.size ≤ k ∧ k < w2.heap.size := by
  refine ⟨⟨(o1.keep m2 (fun _ _ x => x)).rd, o2.rd, lx, ly⟩, ?_⟩
  rintro k (hk | hk)
  · exact ⟨f1 k hk, Nat.lt_of_lt_of_le (o1.lt k hk) m2.size⟩
  · exact ⟨Nat.le_trans m1.size (f2 k hk), o2.lt k hk⟩

theorem setP_nil (xs ys : List UInt8) : setP [] xs ys = [[(xs, ys)]] := rfl

theorem empty_end {w : World} {g : Nat} {vo : Value} {x : EV} (hm : PM w g vo []) (hx : E1 w x) (hb : ∀ k, (x.kv.ownBlock = some k ∨ x.vv.ownBlock = some k) → k < w.heap.size ∧ ¬ MS g vo [] k) :
    let w' := ((((w.alloc (.cells #[x.kv, x.vv] 63)).alloc (.cells #[.slice (some ⟨w.heap.size, 0, none⟩) 1 1] 64)).setCell ⟨g, 0, none⟩ (.slice (some ⟨w.heap.size + 1, 0, none⟩) 1 1)).setCell ⟨g, 1, none⟩ (.int .i64 1))
    ∃ vo' R', PM w' g vo' R' ∧ Mods (MS g vo []) w w' ∧ (∀ k, MS g vo' R' k → MS g vo [] k ∨ w.heap.size ≤ k) ∧ (∀ k, MD R' k → MD [] k ∨ (x.kv.ownBlock = some k ∨ x.vv.ownBlock = some k)) ∧ pgs R' = [[x.ent]] := by
  intro w'
  have hgl := lt_of_heap hm.hg
  have h1 := heap_new w (.cells #[x.kv, x.vv] 63)
  have h2 := heap_new (w.alloc (.cells #[x.kv, x.vv] 63)) (.cells #[.slice (some ⟨w.heap.size, 0, none⟩) 1 1] 64)
  have h1' := heap_old h1 (.cells #[.slice (some ⟨w.heap.size, 0, none⟩) 1 1] 64)
  rw [World.size_alloc] at h2
  have hg' := heap_old (heap_old hm.hg (.cells #[x.kv, x.vv] 63)) (.cells #[.slice (some ⟨w.heap.size, 0, none⟩) 1 1] 64)
  have mods : Mods (fun k => k = g ∨ vo.ownBlock = some k ∨ ∃ q ∈ ([] : List PV), q.pv.ownBlock = some k) w w' :=
    ((((Mods.refl _ w).alloc _).alloc _).setCell (p := ⟨g, 0, none⟩) (.inl (.inl rfl)) _).setCell (p := ⟨g, 1, none⟩) (.inl (.inl rfl)) _
  have k1 := heap_set (heap_set_other (a := ⟨g, 0, none⟩) (g := w.heap.size) (by show w.heap.size ≠ g; omega) (.slice (some ⟨w.heap.size + 1, 0, none⟩) 1 1) ▸ h1') 0 x.kv
  have r1 : w'.heap[w.heap.size]? = some (.cells #[x.kv, x.vv] 63 (0, 0)) :=
    (heap_set_other (a := ⟨g, 1, none⟩) (by show w.heap.size ≠ g; omega) _).trans ((heap_set_other (a := ⟨g, 0, none⟩) (by show w.heap.size ≠ g; omega) _).trans h1')
  have r2 : w'.heap[w.heap.size + 1]? = some (.cells #[.slice (some ⟨w.heap.size, 0, none⟩) 1 1] 64 (0, 0)) :=
    (heap_set_other (a := ⟨g, 1, none⟩) (by show w.heap.size + 1 ≠ g; omega) _).trans ((heap_set_other (a := ⟨g, 0, none⟩) (by show w.heap.size + 1 ≠ g; omega) _).trans h2)
  have r3 : w'.heap[g]? = some (.cells #[.slice (some ⟨w.heap.size + 1, 0, none⟩) 1 1, .int .i64 1] 61 (0, 0)) := heap_set (heap_set hg' 0 _) 1 _
  have up := PM.upd (vo' := .slice (some ⟨w.heap.size + 1, 0, none⟩) 1 1) (A := []) (B := []) (C := []) (N := [⟨.slice (some ⟨w.heap.size, 0, none⟩) 1 1, [x]⟩]) (X := fun k => x.kv.ownBlock = some k ∨ x.vv.ownBlock = some k) hm mods r3
    ⟨rfl, .inr ⟨_, 0, 1, _, rfl, r2, Nat.le_refl _, by simp [maxLen], by simp, fun j u hj => by rw [Nat.zero_add]; simpa using hj⟩⟩ (.inr (by intro k hk; simp [Value.ownBlock] at hk; omega))
    (by
      intro q hq
      obtain rfl : q = ⟨.slice (some ⟨w.heap.size, 0, none⟩) 1 1, [x]⟩ := by simpa using hq
      exact ⟨⟨rfl, .inr ⟨_, 0, 1, _, rfl, r1, Nat.le_refl _, by simp [maxLen], by simp, fun j u hj => by rw [Nat.zero_add]; simpa [ecell] using hj⟩⟩, .inr (by intro k hk; simp [Value.ownBlock] at hk; omega)⟩)
    (by
      intro q hq k hk
      obtain rfl : q = ⟨.slice (some ⟨w.heap.size, 0, none⟩) 1 1, [x]⟩ := by simpa using hq
      simp [Value.ownBlock] at hk ⊢
      omega)
    (List.pairwise_singleton _ _)
    (by
      intro q hq e he
      obtain rfl : q = ⟨.slice (some ⟨w.heap.size, 0, none⟩) 1 1, [x]⟩ := by simpa using hq
      obtain rfl : e = x := by simpa using he
      exact .inr ⟨hx, fun k hk => ⟨hk, hb k hk⟩⟩)
  exact ⟨_, _, up.1, mods.mono (fun k _ hk => hk), up.2.1, up.2.2, rfl⟩

set_option maxHeartbeats 1000000 in
theorem Set_empty {w : World} {g : Nat} {vo kv vv : Value} {xs ys : List UInt8} (hm : PM w g vo []) (hk : Rd w kv xs) (hv : Rd w vv ys) (lx : xs.length ≤ 1000000) (ly : ys.length ≤ 1000000) :
    Calls Try.prog 12 #[.pointer (some ⟨g, 0, none⟩), kv, vv] w fun e w' => ∃ vo' R', e = .returned (.bool true) ∧ PT w w' g vo [] vo' R' ∧ pgs R' = [[(xs, ys)]] := by
  obtain ⟨a0, cap, hvo, _⟩ := (OwnG.rd hm.row).form
  subst hvo
  have HM := Lib.hid hm
  have hc0 : (if (g : Nat) = g then (0:Nat) else 0) = 0 := by simp
  have hb0 := hm.hg
  have c0 := cells_of hm.hg 0
  rw [show ([] : List PV).length = 0 from rfl] at c0
  have OK := Lib.hid (owned_any hk (by omega))
  have HV := Lib.hid hv
  obtain ⟨ak, ck, rfl, _⟩ := hk.form
  obtain ⟨av, cv, rfl, _⟩ := hv.form
  clear hm hk hv hc0 hb0
  go_enter Try.func12, Try.ntmps12
  go_wp2_with fail
  refine OK.out.mono ?_
  rintro e w1 ⟨u, rfl, o1, m1, f1⟩
  have OV := Lib.hid (owned_any (HV.out.keep m1 (fun _ _ x => x)) (by omega))
  have O1 := Lib.hid (And.intro o1 (And.intro m1 f1))
  obtain ⟨a1, c1, rfl, _⟩ := o1.rd.form
  clear o1 m1 f1
  go_wp2_with fail
  refine OV.out.mono ?_
  rintro e w2 ⟨v, rfl, o2, m2, f2⟩
  obtain ⟨nE, nB⟩ := newE O1.out.1 O1.out.2.2 O1.out.2.1 o2 f2 m2 lx ly
  have M2 := Lib.hid (O1.out.2.1.then0 m2)
  have NE := Lib.hid (And.intro nE nB)
  obtain ⟨a2, c2, rfl, _⟩ := o2.rd.form
  clear o2 m2 f2 nE nB
  have hgl := (lt_of_heap HM.out.hg)
  have e0 : w2.cell? ⟨g, 0, none⟩ = some (.slice a0 0 cap) := by
    have := cells_of (M2.out.heap HM.out.hg (fun x => x)) 0
    exact this
  have ef : w2.frozen? ⟨g, 0, none⟩ = false := free_of (M2.out.heap HM.out.hg (fun x => x)) 0
  have e1 : w2.cell? ⟨g, 1, none⟩ = some (.int .i64 (cnt (pgs []) : Nat)) := by
    have := cells_of (M2.out.heap HM.out.hg (fun x => x)) 1
    exact this
  have ef1 : w2.frozen? ⟨g, 1, none⟩ = false := free_of (M2.out.heap HM.out.hg (fun x => x)) 1
  have hgl2 : g < w2.heap.size := Nat.lt_of_lt_of_le hgl M2.out.size
  clear c0
  have hbE := heap_new w2 (.cells #[.slice a1 xs.length c1, .slice a2 ys.length c2] 63)
  have mE := (Mods.refl noB w2).alloc (.cells #[.slice a1 xs.length c1, .slice a2 ys.length c2] 63)
  go_upto_region 2 with fail
  generalize hw3 : World.alloc w2 _ = w3 at *
  have hg3 := M2.out.heap HM.out.hg (fun x => x)
  have f0 : ∀ o o', ((w3.alloc o).alloc o').frozen? ⟨g, 0, none⟩ = false := fun o o' => free_of (heap_old (heap_old (mE.heap hg3 (fun x => x)) o) o') 0
  have f1 : ∀ o o', ((w3.alloc o).alloc o').frozen? ⟨g, 1, none⟩ = false := fun o o' => free_of (heap_old (heap_old (mE.heap hg3 (fun x => x)) o) o') 1
  have d0 : ∀ o o', ((w3.alloc o).alloc o').cell? ⟨g, 0, none⟩ = some (.slice a0 0 cap) := fun o o' => cells_of (heap_old (heap_old (mE.heap hg3 (fun x => x)) o) o') 0
  have d1 : ∀ o o', ((w3.alloc o).alloc o').cell? ⟨g, 1, none⟩ = some (.int .i64 (cnt (pgs []) : Nat)) := fun o o' => cells_of (heap_old (heap_old (mE.heap hg3 (fun x => x)) o) o') 1
  have e00 : w3.cell? ⟨g, 0, none⟩ = some (.slice a0 0 cap) := cells_of (mE.heap hg3 (fun x => x)) 0
  have b0 : w3.cell? ⟨w2.heap.size, 0, none⟩ = some (.slice a1 xs.length c1) := cells_of hbE 0
  have b1 : w3.cell? ⟨w2.heap.size, 1, none⟩ = some (.slice a2 ys.length c2) := cells_of hbE 1
  clear e0 ef e1 ef1
  go_wp2
  go_ret
  have pm3 := (HM.out.keep0 M2.out).keep0 mE
  have hsz : w.heap.size ≤ w3.heap.size := Nat.le_trans M2.out.size mE.size
  obtain ⟨vo', R', p1, p2, p3, p4, p5⟩ := empty_end (x := ⟨.slice a1 xs.length c1, .slice a2 ys.length c2, xs, ys⟩) pm3 (NE.out.1.keep mE (fun _ _ x => x)) (fun k hk => ⟨by have := (NE.out.2 k hk).2; have := mE.size; omega, fun h => by
    have h2 := (HM.out.lt k h)
    have := (NE.out.2 k hk).1
    omega⟩)
  exact ⟨vo', R', rfl, ⟨p1, (M2.out.then0 mE).trans p2 (fun _ _ x => x.elim) (fun _ _ x => x), fun k hk => (p3 k hk).imp id (Nat.le_trans hsz), fun k hk => (p4 k hk).imp id (fun h => (NE.out.2 k h).1)⟩, p5⟩
theorem pgs_getD {R : List PV} {p : Nat} (hp : p < R.length) : (pgs R).getD p [] = ents (R[p]).es := by simp [pgs, hp]
theorem RdG.quietD {w : World} {size n : Nat} {v : Value} {xs : List Value} (h : RdG w size v n xs) (k : Nat) : RdG (w.drewN k) size v n xs := h.keep ((Mods.refl noB w).drewN k) (fun _ _ x => x)
/-- where a key was found, the cells on the way -/
theorem PM.way {w : World} {g : Nat} {vo : Value} {R : List PV} (h : PM w g vo R) {p i : Nat} (hp : p < R.length) (hi : i < (R[p]).es.length) :
    ∃ b off cap pb po pc, vo = .slice (some ⟨b, off, none⟩) R.length cap ∧ (R[p]).pv = .slice (some ⟨pb, po, none⟩) (R[p]).es.length pc ∧ OB w 63 2 pb po (R[p]).es.length pc (ecell (R[p]).es) ∧ OB w 64 1 b off R.length cap (R.map (·.pv)) := by
  rcases h.row.ob with ⟨_, h2, _⟩ | ⟨b, off, cap, hv, ob⟩
  · omega
  rcases (h.pg _ (List.getElem_mem hp)).ob with ⟨_, h2, _⟩ | ⟨pb, po, pc, hv2, ob2⟩
  · omega
  exact ⟨b, off, cap, pb, po, pc, hv, hv2, ob2, ob⟩

theorem parts {α : Type} (R : List α) (p : Nat) (hp : p < R.length) : ∃ A q C, R = A ++ [q] ++ C ∧ A.length = p ∧ R[p] = q :=
  ⟨R.take p, R[p], R.drop (p + 1), split_at R p hp, by rw [List.length_take]; omega, rfl⟩
theorem set_parts {α : Type} (A C : List α) (q r : α) : (A ++ [q] ++ C).set A.length r = A ++ [r] ++ C := by
  rw [List.append_assoc, List.set_append_right _ _ (Nat.le_refl _), Nat.sub_self]; simp
theorem cnt_parts (A C : List PV) (N : List PV) : cnt (pgs (A ++ N ++ C)) = cnt (pgs A) + cnt (pgs N) + cnt (pgs C) := by rw [pgs_append, pgs_append, cnt_append, cnt_append]
theorem pgs_single (q : PV) : pgs [q] = [ents q.es] := rfl
theorem cnt_one (q : PV) : cnt (pgs [q]) = q.es.length := by simp [cnt, pgs, ents]

theorem there_end {w : World} {g : Nat} {vo : Value} {A C : List PV} {q : PV} {x : EV} {i pb po pc : Nat} (hm : PM w g vo (A ++ [q] ++ C)) (hq : q.pv = .slice (some ⟨pb, po, none⟩) q.es.length pc) (hi : i < q.es.length) (hx : E1 w x)
    (hb : ∀ k, (x.kv.ownBlock = some k ∨ x.vv.ownBlock = some k) → k < w.heap.size ∧ ¬ MS g vo (A ++ [q] ++ C) k) :
    PM (w.setCells pb (po + i * 2) [x.kv, x.vv]) g vo (A ++ [⟨q.pv, q.es.set i x⟩] ++ C) ∧ Mods (MS g vo (A ++ [q] ++ C)) w (w.setCells pb (po + i * 2) [x.kv, x.vv]) ∧ (∀ k, MS g vo (A ++ [⟨q.pv, q.es.set i x⟩] ++ C) k → MS g vo (A ++ [q] ++ C) k ∨ w.heap.size ≤ k) ∧
      (∀ k, MD (A ++ [⟨q.pv, q.es.set i x⟩] ++ C) k → MD (A ++ [q] ++ C) k ∨ (x.kv.ownBlock = some k ∨ x.vv.ownBlock = some k)) := by
  have hin : q ∈ A ++ [q] ++ C := by simp
  have hob : OB w 63 2 pb po q.es.length pc (ecell q.es) := by
    rcases (hm.pg q hin).ob with ⟨_, h2, _⟩ | ⟨pb', po', pc', hv2, ob2⟩
    · omega
    · rw [hq] at hv2; cases hv2; exact ob2
  have hl : (ecell (q.es.set i x)).length = q.es.length * 2 := by rw [ecell_length, List.length_set]
  have ob' : OB (w.setCells pb (po + i * 2) [x.kv, x.vv]) 63 2 pb po q.es.length pc (ecell (q.es.set i x)) := by
    refine hob.set (i * 2) [x.kv, x.vv] (by have := hob.hn; simp; omega) _ _ hob.hn hl (fun j u hj => ?_)
    rw [ecell_set _ _ _ hi] at hj
    have hll : ((ecell q.es).take (i * 2)).length = i * 2 := by rw [List.length_take, ecell_length]; omega
    by_cases h1 : i * 2 ≤ j ∧ j < i * 2 + [x.kv, x.vv].length
    · rw [if_pos h1]
      rw [List.getElem?_append_left (by rw [List.length_append, hll]; exact h1.2), List.getElem?_append_right (by rw [hll]; exact h1.1), hll] at hj
      exact hj
    · rw [if_neg h1]
      by_cases h2 : j < i * 2
      · rw [List.getElem?_append_left (by rw [List.length_append, hll]; omega), List.getElem?_append_left (by rw [hll]; exact h2), List.getElem?_take_of_lt h2] at hj
        exact hj
      · have h3 : i * 2 + 2 ≤ j := by simp at h1; omega
        rw [List.getElem?_append_right (by rw [List.length_append, hll]; exact h3), List.length_append, hll, List.getElem?_drop] at hj
        rw [← hj]
        congr 1
        show j = (i + 1) * 2 + (j - (i * 2 + 2))
        omega
  have mods : Mods (fun k => k = g ∨ vo.ownBlock = some k ∨ ∃ b ∈ [q], b.pv.ownBlock = some k) w (w.setCells pb (po + i * 2) [x.kv, x.vv]) := (setCells_mods w pb _ _).mono (fun k _ hk => .inr (.inr ⟨q, List.mem_singleton.2 rfl, by rw [hq, hk]; rfl⟩))
  have hgp : g ≠ pb := fun e => (hm.sep2 q hin).1 (by rw [hq, e]; rfl)
  have hvp : ∀ k, vo.ownBlock = some k → k ≠ pb := fun k hk e => (hm.sep2 q hin).2 pb (by rw [hq]; rfl) (e ▸ hk)
  have up := PM.upd (vo' := vo) (A := A) (B := [q]) (C := C) (N := [⟨q.pv, q.es.set i x⟩]) (X := fun k => x.kv.ownBlock = some k ∨ x.vv.ownBlock = some k) hm mods
    (by
      rw [cnt_parts, cnt_one, List.length_set, ← cnt_one q, ← cnt_parts]
      exact (setCells_mods w pb _ _).heap hm.hg (fun e => hgp e))
    (by
      have h := hm.row.keep (setCells_mods w pb (po + i * 2) [x.kv, x.vv]) (fun k hk e => hvp k hk e)
      have e1 : (A ++ [(⟨q.pv, q.es.set i x⟩ : PV)] ++ C).length = (A ++ [q] ++ C).length := by simp
      have e2 : (A ++ [(⟨q.pv, q.es.set i x⟩ : PV)] ++ C).map (·.pv) = (A ++ [q] ++ C).map (·.pv) := by simp
      rw [e1, e2]
      exact h)
    (.inl rfl)
    (by
      intro r hr
      obtain rfl : r = ⟨q.pv, q.es.set i x⟩ := List.mem_singleton.1 hr
      refine ⟨?_, .inl ⟨q, List.mem_singleton.2 rfl, rfl⟩⟩
      show OwnG _ _ 2 q.pv (q.es.set i x).length _
      rw [List.length_set, hq]
      exact ob'.own)
    (by
      intro r hr k hk
      obtain rfl : r = ⟨q.pv, q.es.set i x⟩ := List.mem_singleton.1 hr
      exact (hm.sep2 q hin).2 k hk)
    (List.pairwise_singleton _ _)
    (by
      intro r hr e he
      obtain rfl : r = ⟨q.pv, q.es.set i x⟩ := List.mem_singleton.1 hr
      rcases List.mem_or_eq_of_mem_set he with he | rfl
      · exact .inl ⟨q, List.mem_singleton.2 rfl, he⟩
      · exact .inr ⟨hx, fun k hk => ⟨hk, hb k hk⟩⟩)
  exact ⟨up.1, mods.mono (fun k _ hk => by
    rcases hk with h | h | ⟨b, hb, h⟩
    · exact .inl h
    · exact .inr (.inl h)
    · exact .inr (.inr ⟨q, hin, by rw [List.mem_singleton.1 hb] at h; exact h⟩)), up.2.1, up.2.2⟩

set_option maxHeartbeats 2000000 in
theorem Set_there {w : World} {g : Nat} {vo kv vv : Value} {R : List PV} {xs ys : List UInt8} (hm : PM w g vo R) (hk : Rd w kv xs) (hv : Rd w vv ys) (lx : xs.length ≤ 1000000) (ly : ys.length ≤ 1000000) (ok : PgOk (pgs R)) (hn : R.length ≤ 1000000)
    (hf : (findP (pgs R) xs).2.2 = true) :
    Calls Try.prog 12 #[.pointer (some ⟨g, 0, none⟩), kv, vv] w fun e w' => ∃ vo' R', e = .returned (.bool false) ∧ PT w w' g vo R vo' R' ∧ pgs R' = (pgs R).set (findP (pgs R) xs).1 (((pgs R).getD (findP (pgs R) xs).1 []).set (findP (pgs R) xs).2.1 (xs, ys)) := by
  obtain ⟨hp, hi, hkey⟩ := found_is hf
  have FD := Lib.hid (fun (w' : World) (m : Mods noB w w') (q : Value) (hq : Rd w' q xs) => find_any (hm.keep0 m) hq ok hn)
  obtain ⟨b, off, cap, pb, po, pc, hvo, hpv, ob2, ob1⟩ := hm.way hp hi
  have hge : (pgs R).getD (findP (pgs R) xs).1 [] = ents (R[(findP (pgs R) xs).1]).es := pgs_getD hp
  rw [hge]
  generalize findP (pgs R) xs = F at *
  obtain ⟨p, i, B⟩ := F
  simp only at hf hp hi hkey FD hpv ob2 hge ⊢
  subst hf
  have hl0 : ((R.length : Int) == 0) = false := by rw [beq_eq_false_iff_ne]; omega
  subst hvo
  have HM := Lib.hid hm
  have OB1 := Lib.hid ob1
  have OB2 := Lib.hid ob2
  have OK := Lib.hid (owned_any hk (by omega))
  have HK := Lib.hid hk
  have HV := Lib.hid hv
  have HPV := Lib.hid hpv
  obtain ⟨ak, ck, rfl, _⟩ := hk.form
  obtain ⟨av, cv, rfl, _⟩ := hv.form
  clear hm hk hv ob1 ob2 hpv hge ok hkey
  go_enter Try.func12, Try.ntmps12
  go_wp2_with fail
  refine OK.out.mono ?_
  rintro e w1 ⟨u, rfl, o1, m1, f1⟩
  have OV := Lib.hid (owned_any (HV.out.keep m1 (fun _ _ x => x)) (by omega))
  have O1 := Lib.hid (And.intro o1 (And.intro m1 f1))
  obtain ⟨a1, c1, rfl, _⟩ := o1.rd.form
  clear o1 m1 f1
  go_wp2_with fail
  refine OV.out.mono ?_
  rintro e w2 ⟨v, rfl, o2, m2, f2⟩
  obtain ⟨nE, nB⟩ := newE O1.out.1 O1.out.2.2 O1.out.2.1 o2 f2 m2 lx ly
  have M2 := Lib.hid (O1.out.2.1.then0 m2)
  have NE := Lib.hid (And.intro nE nB)
  obtain ⟨a2, c2, rfl, _⟩ := o2.rd.form
  clear o2 m2 f2 nE nB
  have hbE := heap_new w2 (.cells #[.slice a1 xs.length c1, .slice a2 ys.length c2] 63)
  have mE := (Mods.refl noB w2).alloc (.cells #[.slice a1 xs.length c1, .slice a2 ys.length c2] 63)
  go_upto_region 2 with fail
  generalize hw3 : World.alloc w2 _ = w3 at *
  have M3 := Lib.hid (M2.out.then0 mE)
  have e00 : w3.cell? ⟨g, 0, none⟩ = some (.slice (some ⟨b, off, none⟩) R.length cap) := cells_of (M3.out.heap HM.out.hg (fun x => x)) 0
  have FW := Lib.hid (FD.out w3 M3.out _ (HK.out.keep M3.out (fun _ _ x => x)))
  go_wp2_with fail
  refine FW.out.mono ?_
  rintro e w4 ⟨rfl, m4⟩
  have M4 := Lib.hid (M3.out.then0 m4)
  have b0 : w4.cell? ⟨w2.heap.size, 0, none⟩ = some (.slice a1 xs.length c1) := cells_of (m4.heap hbE (fun x => x)) 0
  have b1 : w4.cell? ⟨w2.heap.size, 1, none⟩ = some (.slice a2 ys.length c2) := cells_of (m4.heap hbE (fun x => x)) 1
  have e0 : w4.cell? ⟨g, 0, none⟩ = some (.slice (some ⟨b, off, none⟩) R.length cap) := cells_of (M4.out.heap HM.out.hg (fun x => x)) 0
  have q1 : w4.cell? ⟨b, off + p, none⟩ = some (.slice (some ⟨pb, po, none⟩) (R[p]).es.length pc) := by
    rw [← HPV.out]
    exact (OB1.out.keep M4.out (fun x => x)).cell (by simp [hp])
  have ob4 := OB2.out.keep M4.out (fun x => x)
  have d0 : (w4.cell? ⟨pb, po + i * 2, none⟩).isSome = true := ob4.there (j := i * 2) (by have := ob4.hn; omega)
  have d1 : (w4.cell? ⟨pb, po + i * 2 + 1, none⟩).isSome = true := by rw [Nat.add_assoc]; exact ob4.there (j := i * 2 + 1) (by have := ob4.hn; omega)
  have fr : ∀ o, w4.frozen? ⟨pb, o, none⟩ = false := ob4.free
  have hpi : (p : Int) < (R.length : Int) := by omega
  have hii : (i : Int) < ((R[p]).es.length : Int) := by omega
  generalize hEs : (R[p]).es = es at *
  have HOB4 := Lib.hid ob4
  clear e00 ob4
  go_upto_region 7 with fail
  go_still_tail 10, (by kernel_rfl)
  change wpList _ _ _ _ _ (w4.drewN 1)
  clear d0 d1 fr
  have ob4 := HOB4.out.keep ((Mods.refl noB w4).drewN 1) (fun x => x)
  refine wpList_store_mid (by rfl) 63 (.tmp 49) (.tmp 48) (by rfl) pb (po + i * 2) #[.slice a1 xs.length c1, .slice a2 ys.length c2] (by rfl) (by rfl) (fun j hj => ⟨by rw [Nat.add_assoc]; exact ob4.there (j := i * 2 + j) (by have := ob4.hn; simp at hj; omega), ob4.free _⟩) (by kernel_rfl) (by simp [Value.oneCell']) ?_
  clear b0 b1 e0 q1 ob4
  generalize hw5 : World.setCells _ _ _ _ = w5
  go_wp2
  go_ret
  subst hEs
  obtain ⟨A, q, C, rfl, rfl, hq⟩ := parts R p hp
  rw [hq] at hi HPV
  have pm4 := (HM.out.keep0 M4.out).keep0 ((Mods.refl noB w4).drewN 1)
  have hsz : w.heap.size ≤ (w4.drewN 1).heap.size := M4.out.size
  have hm24 : Mods noB w2 (w4.drewN 1) := (mE.then0 m4).then0 ((Mods.refl noB w4).drewN 1)
  obtain ⟨p1, p2, p3, p4⟩ := there_end (x := ⟨.slice a1 xs.length c1, .slice a2 ys.length c2, xs, ys⟩) pm4 HPV.out hi (NE.out.1.keep hm24 (fun _ _ x => x)) (fun k hk => ⟨by have := (NE.out.2 k hk).2; have := hm24.size; omega, fun h => by
    have h2 := HM.out.lt k h
    have := (NE.out.2 k hk).1
    omega⟩)
  rw [hw5] at p1 p2
  refine ⟨rfl, _, _, ⟨p1, (M4.out.drewN 1).trans p2 (fun _ _ x => x.elim) (fun _ _ x => x), fun k hk => (p3 k hk).imp id (Nat.le_trans hsz), fun k hk => (p4 k hk).imp id (fun h => (NE.out.2 k h).1)⟩, ?_⟩
  have hlen : A.length = (pgs A).length := (pgs_length A).symm
  rw [hq, pgs_append, pgs_append, pgs_append, pgs_append, hlen, pgs_single q, set_parts]
  show _ ++ [ents (q.es.set i _)] ++ _ = _
  rw [ents_set]
  rfl

end Go.Proofs.Ytjlomnhngngkiaa

/- Single operations, run: for regions told in one order (OrdT). -/
namespace Go.Gl
open Go.RowKit
set_option linter.unusedVariables false

section
variable {P : Program} {w : World} {a : Act} {o : Oper}

theorem load_c {g off : Nat} {ty : TypeId} {d : TypeDesc} {v : Value} (hc : w.cell? ⟨g, off, none⟩ = some v) (hu : P.underlying ty = some d) (hd : (match d with | .struct _ | .array _ _ => true | _ => false) = false) :
    (Instr.loadAt ty (.pointer (some ⟨g, off, none⟩))).run P w = .ok v w := by
  have hagg : (isAgg ty).run P w = .ok false w := by
    unfold isAgg
    rw [Sem.run_bind, run_underlying hu w]
    cases d <;> simp_all
  simp [Instr.loadAt, Instr.sureAddr, loadVar, Sem.run_bind, hagg, hc]
theorem load_a {g off : Nat} {ty : TypeId} {d : TypeDesc} (ys : List Value) (hc : ∀ j u, ys[j]? = some u → w.cell? ⟨g, off + j, none⟩ = some u) (hu : P.underlying ty = some d) (hd : d.isRow = true)
    (hi : (P.info? ty).map (·.size) = some ys.length) : (Instr.loadAt ty (.pointer (some ⟨g, off, none⟩))).run P w = .ok (.agg ys.toArray) w :=
  run_loadAt_mid w g off ty ys d hc hu hd hi
theorem two_cells {g off : Nat} {u v : Value} (h0 : w.cell? ⟨g, off, none⟩ = some u) (h1 : w.cell? ⟨g, off + 1, none⟩ = some v) : ∀ j x, [u, v][j]? = some x → w.cell? ⟨g, off + j, none⟩ = some x := by
  intro j x hj
  rcases j with _ | _ | j
  · simpa using h0.trans (congrArg some (by simpa using hj))
  · simpa using h1.trans (congrArg some (by simpa using hj))
  · simp at hj
theorem of_load {ty : TypeId} {p v : Value} {x : Operand} {b : World} (ho : o.op = .load ty x) (hx : a.eval x = p) (h : (Instr.loadAt ty p).run P b = .ok v b) : (execOp a.eval o).run P b = .ok (.value v) b := by
  unfold execOp
  simp only [ho, hx, Sem.run_bind, h, Sem.run_pure, Result.andThen_ok]
theorem run_sizeOf {e : TypeId} {s : Nat} (h : (P.info? e).map (·.size) = some s) (b : World) : (sizeOf e).run P b = .ok s b := by
  cases hq : P.info? e with
  | none => simp [hq] at h
  | some i =>
    have : i.size = s := by simpa [hq] using h
    simp [sizeOf, typeInfo, hq, this]

/-- s[i], its address -/
theorem run_idx {t e : TypeId} {x y : Operand} {g off n c s : Nat} {i : Int} {b : World} (p : Nat) (ho : o.op = .indexAddr t x y) (hx : a.eval x = .slice (some ⟨g, off, none⟩) n c) (hy : a.eval y = .int .i64 i)
    (hu : P.underlying t = some (.slice e)) (hs : (P.info? e).map (·.size) = some s) (h0 : 0 ≤ i) (h1 : i < n) (hp : off + i.toNat * s = p) : (execOp a.eval o).run P b = .ok (.value (.pointer (some ⟨g, p, none⟩))) b := by
  subst hp
  unfold execOp
  simp [ho, hx, hy, Instr.indexAt, run_underlying hu, asIntOf, h0, h1, run_sizeOf hs, Addr.add_mid]
/-- s[:h] -/
theorem run_slc_h {t e : TypeId} {x y : Operand} {g off n c s : Nat} {i : Int} {b : World} (m : Nat) (ho : o.op = .slice t x none (some y) none) (hx : a.eval x = .slice (some ⟨g, off, none⟩) n c) (hy : a.eval y = .int .i64 i)
    (hu : P.underlying t = some (.slice e)) (hs : (P.info? e).map (·.size) = some s) (hm : i = m) (h1 : m ≤ c) : (execOp a.eval o).run P b = .ok (.value (.slice (some ⟨g, off, none⟩) m c)) b := by
  subst hm
  have he : P.elem t = e := by simp [Program.elem, hu]
  have hu' : P.underlying t = some (.slice (P.elem t)) := by rw [he]; exact hu
  unfold execOp
  simp only [ho, Option.map_some, Option.map_none, hx, hy, Sem.run_bind]
  rw [run_sliceAt_slice (h := hu'), run_slice_h (ht := hu') (h0 := by omega) (h2 := by omega)]
  · simp [he, run_sizeOf hs, sliced, Addr.add_mid]
/-- s[l:] where something is left behind -/
theorem run_slc_l {t e : TypeId} {x y : Operand} {g off n c s : Nat} {i : Int} {b : World} (m p : Nat) (ho : o.op = .slice t x (some y) none none) (hx : a.eval x = .slice (some ⟨g, off, none⟩) n c) (hy : a.eval y = .int .i64 i)
    (hu : P.underlying t = some (.slice e)) (hs : (P.info? e).map (·.size) = some s) (hm : i = m) (h1 : m ≤ n) (h2 : m < c) (hp : off + m * s = p) : (execOp a.eval o).run P b = .ok (.value (.slice (some ⟨g, p, none⟩) (n - m) (c - m))) b := by
  subst hm hp
  have he : P.elem t = e := by simp [Program.elem, hu]
  have hu' : P.underlying t = some (.slice (P.elem t)) := by rw [he]; exact hu
  unfold execOp
  simp only [ho, Option.map_some, Option.map_none, hx, hy, Sem.run_bind]
  rw [run_sliceAt_slice (h := hu'), run_slice_l (ht := hu') (h0 := by omega) (h1 := by omega)]
  · have : ¬ (c = m) := by omega
    simp [he, run_sizeOf hs, sliced, Addr.add_mid, this]
theorem run_addI {t : TypeId} {x y z : Int} (b : World) (h : x + y = z) (h0 : -9223372036854775808 ≤ z) (h1 : z ≤ 9223372036854775807) : (binOp .add t (.int .i64 x) (.int .i64 y)).run P b = .ok (.int .i64 z) b := by
  subst h
  have := IntWalk.i64_in (x + y) ⟨h0, h1⟩
  rw [binOp_add]
  simp [Op.intArith, this]
theorem run_subI {t : TypeId} {x y z : Int} (b : World) (h : x - y = z) (h0 : -9223372036854775808 ≤ z) (h1 : z ≤ 9223372036854775807) : (binOp .sub t (.int .i64 x) (.int .i64 y)).run P b = .ok (.int .i64 z) b := by
  subst h
  have := IntWalk.i64_in (x - y) ⟨h0, h1⟩
  have e : binOp .sub t (.int .i64 x) (.int .i64 y) = Op.intArith .sub .i64 x y := by simp [binOp]
  rw [e]
  simp [Op.intArith, this]
theorem run_lss {t : TypeId} {k : IntKind} {x y : Int} {r : Bool} (b : World) (h : decide (x < y) = r) : (binOp .lss t (.int k x) (.int k y)).run P b = .ok (.bool r) b := by subst h; rw [binOp_lss]; rfl
theorem run_leq {t : TypeId} {k : IntKind} {x y : Int} {r : Bool} (b : World) (h : decide (x ≤ y) = r) : (binOp .leq t (.int k x) (.int k y)).run P b = .ok (.bool r) b := by subst h; rw [binOp_leq]; rfl
theorem run_gtr {t : TypeId} {k : IntKind} {x y : Int} {r : Bool} (b : World) (h : decide (y < x) = r) : (binOp .gtr t (.int k x) (.int k y)).run P b = .ok (.bool r) b := by subst h; rw [binOp_gtr]; rfl
theorem run_geq {t : TypeId} {k : IntKind} {x y : Int} {r : Bool} (b : World) (h : decide (y ≤ x) = r) : (binOp .geq t (.int k x) (.int k y)).run P b = .ok (.bool r) b := by subst h; rw [binOp_geq]; rfl
theorem run_eql {t : TypeId} {k : IntKind} {x y : Int} {r : Bool} (b : World) (h : decide (x = y) = r) : (binOp .eql t (.int k x) (.int k y)).run P b = .ok (.bool r) b := by subst h; rw [binOp_eql]; rfl
theorem run_neq {t : TypeId} {k : IntKind} {x y : Int} {r : Bool} (b : World) (h : decide (x = y) = !r) : (binOp .neq t (.int k x) (.int k y)).run P b = .ok (.bool r) b := by
  obtain rfl : r = !(decide (x = y)) := by rw [h, Bool.not_not]
  rw [binOp_neq]; rfl
theorem run_bin {bo : BinOp} {t t' : TypeId} {x y : Operand} {xv yv v : Value} {b : World} (ho : o.op = .binOp bo t x y t') (hx : a.eval x = xv) (hy : a.eval y = yv) (hg : ∀ b, (eqGuard bo t x y xv yv).run P b = .ok () b) (hv : (binOp bo t xv yv).run P b = .ok v b) :
    (execOp a.eval o).run P b = .ok (.value v) b := by
  unfold execOp
  simp only [ho, hx, hy, Sem.run_bind, hg, hv, Sem.run_pure, Result.andThen_ok]
theorem run_store1 {ty : TypeId} {x y : Operand} {g off : Nat} {v : Value} {b : World} (ho : o.op = .store ty x y) (hx : a.eval x = .pointer (some ⟨g, off, none⟩)) (hy : a.eval y = v) (hs : (P.info? ty).map (·.size) = some 1)
    (hc : (b.cell? ⟨g, off, none⟩).isSome = true) (hf : b.frozen? ⟨g, off, none⟩ = false) (h1 : v.oneCell' = true) : (execOp a.eval o).run P b = .ok .skip (b.setCell ⟨g, off, none⟩ v) := by
  have hv : v.cells = #[v] := by cases v <;> first | rfl | simp [Value.oneCell'] at h1
  have := run_storeCells_cells (P := P) g off [v] 0 b (fun j hj => by obtain rfl : j = 0 := (by simpa using hj); exact hc) (fun j hj => by obtain rfl : j = 0 := (by simpa using hj); exact hf) (fun u hu => by rw [List.mem_singleton.1 hu]; exact h1)
  unfold execOp
  cases hq : P.info? ty with
  | none => simp [hq] at hs
  | some i =>
    have h2 : i.size = 1 := by simpa [hq] using hs
    simp only [Nat.add_zero] at this
    simp [ho, hx, hy, Instr.storeAt, Instr.sureAddr, storeVar, sizeOf, typeInfo, hq, hv, h2, this]
    rfl

theorem of_append {t tx : TypeId} {x y : Operand} {v u v' : Value} {w' : World} (ho : o.op = .call { callee := .builtin .append, args := #[x, y], argTypes := #[t, tx] }) (hx : a.eval x = v) (hy : a.eval y = u) (hr : (Builtin.append_ #[t, tx] o.type #[v, u]).run P w = .ok v' w') :
    (execOp a.eval o).run P w = .ok (.value v') w' := by
  unfold execOp
  simp only [ho, resolve, invoke, builtin, Sem.run_bind, Sem.run_pure, Result.andThen_ok, List.map_toArray, List.map_cons, List.map_nil, hx, hy, hr]

variable {ops : Array Oper} {Q : Exit → Act → World → Prop} {S : World → Prop} {T : List Nat} {i : Nat} {l : List (Nat × Bool)}
/-- a slice of new memory, its block told by a letter -/
theorem wpOrdT_bs (O : Obj) (n : Nat) (d : Option Tmp) (h : OpIs ops i a d true)
    (hx : (execOp a.eval (opN ops i)).run P w = .ok (.value (.slice (some ⟨w.heap.size, 0, none⟩) n n)) (w.alloc O))
    (hr : ∀ k w', k = w.heap.size → w'.heap[k]? = some O → Mods noB w w' → k < w'.heap.size → (T.contains i = false → S w') ∧ wpOrdT P ops Q T S l (a.put d (.slice (some ⟨k, 0, none⟩) n n)) w') : wpOrdT P ops Q T S ((i, false) :: l) a w := by
  obtain ⟨h1, h2⟩ := hr _ _ rfl (heap_new w O) ((Mods.refl noB w).alloc O) (by simp)
  exact wpOrdT_run _ _ d h hx h1 h2
/-- one cell stored -/
theorem wpOrdT_st1 {ty : TypeId} {x y : Operand} {g off : Nat} {v : Value} (d : Option Tmp) (h : OpIs ops i a d true) (ho : (opN ops i).op = .store ty x y) (hx : a.eval x = .pointer (some ⟨g, off, none⟩)) (hy : a.eval y = v) (hs : (P.info? ty).map (·.size) = some 1)
    (hc : (w.cell? ⟨g, off, none⟩).isSome = true) (hf : w.frozen? ⟨g, off, none⟩ = false) (h1 : v.oneCell' = true)
    (hr : ∀ w', w' = w.setCell ⟨g, off, none⟩ v → (T.contains i = false → S w') ∧ wpOrdT P ops Q T S l (a.put d undef) w') : wpOrdT P ops Q T S ((i, false) :: l) a w := by
  obtain ⟨h2, h3⟩ := hr _ rfl
  exact wpOrdT_skip _ d h (run_store1 ho hx hy hs hc hf h1) h2 h3
end
end Go.Gl

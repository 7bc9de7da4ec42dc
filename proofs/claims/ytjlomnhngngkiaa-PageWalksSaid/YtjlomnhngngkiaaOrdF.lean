/- A drawn region told in one order: the check of the order by sets that are numbers (fast for great regions). -/
import Derived.Test.YtjlomnhngngkiaaZA
namespace Go.Gl
open Go.RowKit
set_option linter.unusedVariables false

section
variable {P : Program} {ops : Array Oper} {Q : Exit → Act → World → Prop} {S : World → Prop} {T : List Nat}

/-- a set as a number -/
def maskOf : List Nat → Nat
  | [] => 0
  | k :: l => maskOf l ||| (1 <<< k)
theorem maskOf_bit (l : List Nat) (k : Nat) : (maskOf l).testBit k = true ↔ k ∈ l := by
  induction l with
  | nil => simp [maskOf]
  | cons a l ih =>
    simp only [maskOf, Nat.testBit_or, Bool.or_eq_true, ih, List.mem_cons, Nat.one_shiftLeft, Nat.testBit_two_pow, decide_eq_true_eq]
    constructor
    · rintro (h | h)
      · exact .inr h
      · exact .inl h.symm
    · rintro (h | h)
      · exact .inr h.symm
      · exact .inl h
theorem and_zero {a b : Nat} (h : Nat.beq (a &&& b) 0 = true) (k : Nat) (ha : a.testBit k = true) (hb : b.testBit k = true) : False := by
  have h0 : a &&& b = 0 := Nat.eq_of_beq_eq_true h
  have h1 : (a &&& b).testBit k = true := by rw [Nat.testBit_and, ha, hb]; rfl
  rw [h0, Nat.zero_testBit] at h1
  cases h1
theorem bit_self (k : Nat) : (1 <<< k).testBit k = true := by rw [Nat.one_shiftLeft, Nat.testBit_two_pow]; simp
theorem bit_zero {m k : Nat} (h : Nat.beq (m &&& (1 <<< k)) 0 = true) : m.testBit k = false := by
  cases hm : m.testBit k with
  | false => rfl
  | true => exact (and_zero h k hm (bit_self k)).elim
theorem bit_one {m k : Nat} (h : Nat.beq (m &&& (1 <<< k)) 0 = false) : m.testBit k = true := by
  cases hm : m.testBit k with
  | true => rfl
  | false =>
    have : m &&& (1 <<< k) = 0 := by
      apply Nat.eq_of_testBit_eq
      intro i
      rw [Nat.testBit_and, Nat.one_shiftLeft, Nat.testBit_two_pow, Nat.zero_testBit]
      by_cases hi : k = i
      · subst hi; rw [hm]; rfl
      · simp [hi]
    rw [this] at h
    cases h
theorem sub_bit {a m : Nat} (h : Nat.beq (a &&& m) a = true) (k : Nat) (ha : a.testBit k = true) : m.testBit k = true := by
  have h0 : a &&& m = a := Nat.eq_of_beq_eq_true h
  have h1 : (a &&& m).testBit k = true := by rw [h0, ha]
  rw [Nat.testBit_and, Bool.and_eq_true] at h1
  exact h1.2

def afterL (o : Oper) : List Nat := (o.after.toList.filter (fun e => Region.binds .any e)).map (·.on)
def dstL (o : Oper) : List Nat := o.dst.toList
/-- waits for, looks at, writes -/
def sumOf (ops : Array Oper) (o : Oper) : Nat × Nat × Nat := (maskOf (afterL o), maskOf (o.looksAt ops), maskOf (dstL o))
def sums (ops : Array Oper) : List (Nat × Nat × Nat) := ops.toList.map (sumOf ops)

def freeM (i lk d m : Nat) : List (Nat × Nat × Nat) → Nat → Bool
  | [], _ => true
  | (a', lk', d') :: r, j => (Nat.beq j i || !(Nat.beq (m &&& (1 <<< j)) 0) || !(Nat.beq (a' &&& (1 <<< i)) 0) || (Nat.beq (lk' &&& d) 0 && Nat.beq (d' &&& (lk ||| d)) 0)) && freeM i lk d m r (j + 1)
def onlyM (i m : Nat) : List (Nat × Nat × Nat) → Nat → Bool
  | [], _ => true
  | (a', _, _) :: r, j => (Nat.beq j i || !(Nat.beq (m &&& (1 <<< j)) 0) || !(Nat.beq (a' &&& m) a')) && onlyM i m r (j + 1)
def tailM (sm : List (Nat × Nat × Nat)) (i : Nat) : List Nat → Bool
  | [] => true
  | t :: ts => (!(Nat.beq t i)) && (match sm[t]? with | some (a', _, _) => !(Nat.beq (a' &&& (1 <<< i)) 0) | none => false) && tailM sm i ts
def fastGo (sm : List (Nat × Nat × Nat)) (T : List Nat) : List (Nat × Bool) → Nat → Bool
  | [], m => onlyM sm.length m sm 0
  | (i, b) :: l, m => (match sm[i]? with
    | none => false
    | some (a, lk, d) => Nat.beq (m &&& (1 <<< i)) 0 && Nat.beq (a &&& m) a && (match b with | true => freeM i lk d m sm 0 && tailM sm i T | false => onlyM i m sm 0)) && fastGo sm T l (m ||| (1 <<< i))

theorem freeM_spec {i lk d m : Nat} : ∀ (r : List (Nat × Nat × Nat)) (j0 : Nat), freeM i lk d m r j0 = true → ∀ k a' lk' d', r[k]? = some (a', lk', d') → j0 + k ≠ i → m.testBit (j0 + k) = false → a'.testBit i = false → Nat.beq (lk' &&& d) 0 = true ∧ Nat.beq (d' &&& (lk ||| d)) 0 = true := by
  intro r
  induction r with
  | nil => intro j0 _ k a' lk' d' h; simp at h
  | cons x r ih =>
    obtain ⟨xa, xl, xd⟩ := x
    intro j0 h k a' lk' d' hk hne hm ha
    simp only [freeM, Bool.and_eq_true, Bool.or_eq_true, Bool.not_eq_true'] at h
    rcases k with _ | k
    · simp only [List.getElem?_cons_zero, Option.some.injEq, Prod.mk.injEq] at hk
      obtain ⟨rfl, rfl, rfl⟩ := hk
      rw [Nat.add_zero] at hne hm
      rcases h.1 with ((h1 | h1) | h1) | h1
      · exact absurd (Nat.eq_of_beq_eq_true h1) hne
      · rw [bit_one h1] at hm; cases hm
      · rw [bit_one h1] at ha; cases ha
      · exact h1
    · rw [List.getElem?_cons_succ] at hk
      exact ih (j0 + 1) h.2 k a' lk' d' hk (by omega) (by rw [show j0 + 1 + k = j0 + (k + 1) from by omega]; exact hm) ha

theorem onlyM_spec {i m : Nat} : ∀ (r : List (Nat × Nat × Nat)) (j0 : Nat), onlyM i m r j0 = true → ∀ k a' lk' d', r[k]? = some (a', lk', d') → j0 + k ≠ i → m.testBit (j0 + k) = false → Nat.beq (a' &&& m) a' = false := by
  intro r
  induction r with
  | nil => intro j0 _ k a' lk' d' h; simp at h
  | cons x r ih =>
    obtain ⟨xa, xl, xd⟩ := x
    intro j0 h k a' lk' d' hk hne hm
    simp only [onlyM, Bool.and_eq_true, Bool.or_eq_true, Bool.not_eq_true'] at h
    rcases k with _ | k
    · simp only [List.getElem?_cons_zero, Option.some.injEq, Prod.mk.injEq] at hk
      obtain ⟨rfl, rfl, rfl⟩ := hk
      rw [Nat.add_zero] at hne hm
      rcases h.1 with (h1 | h1) | h1
      · exact absurd (Nat.eq_of_beq_eq_true h1) hne
      · rw [bit_one h1] at hm; cases hm
      · exact h1
    · rw [List.getElem?_cons_succ] at hk
      exact ih (j0 + 1) h.2 k a' lk' d' hk (by omega) (by rw [show j0 + 1 + k = j0 + (k + 1) from by omega]; exact hm)

theorem sums_get {i : Nat} {o : Oper} (h : ops[i]? = some o) : (sums ops)[i]? = some (sumOf ops o) := by
  unfold sums
  rw [List.getElem?_map, Array.getElem?_toList, h]
  rfl
theorem get_sums {i : Nat} {p : Nat × Nat × Nat} (h : (sums ops)[i]? = some p) : ∃ o, ops[i]? = some o ∧ p = sumOf ops o := by
  unfold sums at h
  rw [List.getElem?_map, Array.getElem?_toList] at h
  cases ho : ops[i]? with
  | none => rw [ho] at h; cases h
  | some o => rw [ho] at h; exact ⟨o, rfl, (Option.some.inj h).symm⟩
theorem afterL_mem {o : Oper} {k : Nat} : k ∈ afterL o ↔ ∃ e ∈ o.after, Region.binds .any e = true ∧ e.on = k := by
  unfold afterL
  rw [List.mem_map]
  constructor
  · rintro ⟨e, he, rfl⟩
    obtain ⟨h1, h2⟩ := List.mem_filter.1 he
    exact ⟨e, by simpa using h1, h2, rfl⟩
  · rintro ⟨e, he, hb, rfl⟩
    exact ⟨e, List.mem_filter.2 ⟨by simpa using he, hb⟩, rfl⟩

/-- what has come up, told by a number -/
def Rel (L : Array Bool) (m : Nat) : Prop := ∀ j, j < L.size → L[j]? = some (m.testBit j)
theorem Rel.set {L : Array Bool} {m i : Nat} (h : Rel L m) : Rel (L.setIfInBounds i true) (m ||| (1 <<< i)) := by
  intro j hj
  rw [Array.size_setIfInBounds] at hj
  rw [Nat.testBit_or, Nat.one_shiftLeft, Nat.testBit_two_pow]
  by_cases hij : i = j
  · subst hij
    rw [Array.getElem?_setIfInBounds_self_of_lt hj]
    simp
  · rw [Array.getElem?_setIfInBounds_ne hij, h j hj]
    simp [hij]
theorem Rel.getD {L : Array Bool} {m : Nat} (h : Rel L m) {j : Nat} (hj : j < L.size) (d : Bool) : L.getD j d = m.testBit j := by
  have := h j hj
  rw [Array.getD_eq_getD_getElem?, this]
  rfl

theorem readyM {L : Array Bool} {m i : Nat} {o : Oper} (h : Rel L m) (hsz : L.size = ops.size) (ho : ops[i]? = some o) (h0 : m.testBit i = false) (ha : ∀ e ∈ o.after, Region.binds .any e = true → m.testBit e.on = true) (hb : ∀ e ∈ o.after, Region.binds .any e = true → e.on < ops.size) : i ∈ Region.ready .any ops L := by
  have hi := (Array.getElem?_eq_some_iff.1 ho).1
  refine mem_ready.2 ⟨by rw [h.getD (by omega), h0], o, ho, fun e he hbd => ?_⟩
  rw [h.getD (by have := hb e he hbd; omega), ha e he hbd]

/-- edges lead to operations of the region -/
def edgesIn (n : Nat) : List (Nat × Nat × Nat) → Bool
  | [] => true
  | (a, _, _) :: r => Nat.beq (a >>> n) 0 && edgesIn n r
theorem edgesIn_spec {n : Nat} : ∀ (r : List (Nat × Nat × Nat)), edgesIn n r = true → ∀ (k a' lk' d' : Nat), r[k]? = some (a', lk', d') → ∀ j : Nat, a'.testBit j = true → j < n := by
  intro r
  induction r with
  | nil => intro _ k a' lk' d' h; simp at h
  | cons x r ih =>
    obtain ⟨xa, xl, xd⟩ := x
    intro h k a' lk' d' hk j hj
    simp only [edgesIn, Bool.and_eq_true] at h
    rcases k with _ | k
    · simp only [List.getElem?_cons_zero, Option.some.injEq, Prod.mk.injEq] at hk
      obtain ⟨rfl, rfl, rfl⟩ := hk
      rcases Nat.lt_or_ge j n with h1 | h1
      · exact h1
      · have h2 : xa >>> n = 0 := Nat.eq_of_beq_eq_true h.1
        have h3 : (xa >>> n).testBit (j - n) = true := by rw [Nat.testBit_shiftRight, show n + (j - n) = j from by omega, hj]
        rw [h2, Nat.zero_testBit] at h3
        cases h3
    · rw [List.getElem?_cons_succ] at hk
      exact ih h.2 k a' lk' d' hk j hj

theorem apartM {x y : Oper} (h1 : Nat.beq (maskOf (y.looksAt ops) &&& maskOf (dstL x)) 0 = true) (h2 : Nat.beq (maskOf (dstL y) &&& (maskOf (x.looksAt ops) ||| maskOf (dstL x))) 0 = true) : x.apart ops y = true := by
  unfold Oper.apart
  rw [Bool.and_eq_true]
  constructor
  · cases hx : x.dst with
    | none => rfl
    | some d =>
      have hd : (maskOf (dstL x)).testBit d = true := (maskOf_bit _ _).2 (by unfold dstL; rw [hx]; simp)
      simp only [Bool.and_eq_true, Bool.not_eq_true']
      constructor
      · cases hc : (y.looksAt ops).contains d with
        | false => rfl
        | true => exact (and_zero h1 d ((maskOf_bit _ _).2 (by simpa using hc)) hd).elim
      · rw [bne_iff_ne]
        intro hy
        exact and_zero h2 d ((maskOf_bit _ _).2 (by unfold dstL; rw [hy]; simp)) (by rw [Nat.testBit_or, hd, Bool.or_true])
  · cases hy : y.dst with
    | none => rfl
    | some d =>
      simp only [Bool.not_eq_true']
      cases hc : (x.looksAt ops).contains d with
      | false => rfl
      | true => exact (and_zero h2 d ((maskOf_bit _ _).2 (by unfold dstL; rw [hy]; simp)) (by rw [Nat.testBit_or, (maskOf_bit _ _).2 (by simpa using hc), Bool.true_or])).elim

theorem tailM_spec {i : Nat} : ∀ (T : List Nat), tailM (sums ops) i T = true → i ∉ T ∧ T.all (fun t => reach .any ops i 1 t) = true := by
  intro T
  induction T with
  | nil => intro _; exact ⟨by simp, rfl⟩
  | cons t ts ih =>
    intro h
    simp only [tailM, Bool.and_eq_true, Bool.not_eq_true'] at h
    obtain ⟨k1, k2⟩ := ih h.2
    refine ⟨fun hm => ?_, ?_⟩
    · rcases List.mem_cons.1 hm with rfl | hm
      · rw [Nat.beq_refl] at h; exact absurd h.1.1 (by decide)
      · exact k1 hm
    · rw [List.all_cons, k2, Bool.and_true]
      have h2 := h.1.2
      cases hs : (sums ops)[t]? with
      | none => rw [hs] at h2; cases h2
      | some p =>
        obtain ⟨o, ho, rfl⟩ := get_sums hs
        rw [hs] at h2
        simp only [sumOf, Bool.not_eq_true'] at h2
        obtain ⟨e, he, hb, hon⟩ := afterL_mem.1 ((maskOf_bit _ _).1 (bit_one h2))
        simp only [reach, ho]
        exact Array.any_eq_true'.2 ⟨e, he, by rw [hb, hon]; simp⟩

theorem fast_sound (hs : Region.noSelect ops = true) (hQ : ∀ c a d v w, Q (.panic c) (Act.put a d v) w → Q (.panic c) a w) (hE : edgesIn ops.size (sums ops) = true) (l : List (Nat × Bool)) :
    ∀ (L : Array Bool) (m : Nat) (a : Act) (w : World), fastGo (sums ops) T l m = true → Rel L m → ClosedL .any ops L → L.size = ops.size → ST T S L w → wpOrd0 P ops Q T S l a w → wpAnyT P .any ops Q T S l.length L a w := by
  have hlen : (sums ops).length = ops.size := by simp [sums]
  have notready : ∀ (L : Array Bool) (m i : Nat), Rel L m → L.size = ops.size → onlyM i m (sums ops) 0 = true → ∀ j ∈ Region.ready .any ops L, j = i := by
    intro L m i hR hsz ho j hj
    obtain ⟨hun, o, hoj, hall⟩ := mem_ready.1 hj
    have hjlt := (Array.getElem?_eq_some_iff.1 hoj).1
    rcases Nat.decEq j i with hne | he
    · have hm : m.testBit j = false := by rw [← hR.getD (by omega) true]; exact hun
      have h1 := onlyM_spec _ 0 ho j _ _ _ (sums_get hoj) (by rw [Nat.zero_add]; exact hne) (by rw [Nat.zero_add]; exact hm)
      have h2 : maskOf (afterL o) &&& m = maskOf (afterL o) := by
        apply Nat.eq_of_testBit_eq
        intro k
        rw [Nat.testBit_and]
        cases hk : (maskOf (afterL o)).testBit k with
        | false => rfl
        | true =>
          obtain ⟨e, he, hb, rfl⟩ := afterL_mem.1 ((maskOf_bit _ _).1 hk)
          have := hall e he hb
          have hlt := edgesIn_spec _ hE j _ _ _ (sums_get hoj) e.on hk
          rw [hR.getD (by omega)] at this
          rw [this]
          rfl
      rw [h2, Nat.beq_refl] at h1
      cases h1
    · exact he
  induction l with
  | nil =>
    intro L m a w h hR hcl hsz hS hw
    simp only [fastGo] at h
    refine ⟨?_, hw⟩
    rcases hr : Region.ready .any ops L with _ | ⟨j, r⟩
    · rfl
    · have hj : j ∈ Region.ready .any ops L := by rw [hr]; exact List.mem_cons_self ..
      have := notready L m _ hR hsz h j hj
      obtain ⟨_, o, hoj, _⟩ := mem_ready.1 hj
      have hjlt := (Array.getElem?_eq_some_iff.1 hoj).1
      omega
  | cons x l ih =>
    obtain ⟨i, b⟩ := x
    intro L m a w h hR hcl hsz hS hw
    simp only [fastGo, Bool.and_eq_true] at h
    obtain ⟨h0, h⟩ := h
    cases hsi : (sums ops)[i]? with
    | none => rw [hsi] at h0; cases h0
    | some p =>
      obtain ⟨o, ho, rfl⟩ := get_sums hsi
      rw [hsi] at h0
      simp only [sumOf, Bool.and_eq_true] at h0
      obtain ⟨⟨h1, h2⟩, h3⟩ := h0
      have hi := (Array.getElem?_eq_some_iff.1 ho).1
      have hin : ∀ e ∈ o.after, Region.binds .any e = true → e.on < ops.size := fun e he hb => edgesIn_spec _ hE i _ _ _ hsi e.on ((maskOf_bit _ _).2 (afterL_mem.2 ⟨e, he, hb, rfl⟩))
      have hir : i ∈ Region.ready .any ops L := readyM hR hsz ho (bit_zero h1) (fun e he hb => sub_bit h2 e.on ((maskOf_bit _ _).2 (afterL_mem.2 ⟨e, he, hb, rfl⟩))) hin
      rcases b with _ | _
      · have honly := notready L m i hR hsz h3
        refine ⟨fun h0 => (by rw [h0] at hir; cases hir), fun j hj => ?_⟩
        obtain rfl := honly j hj
        refine wpOp_mono (fun a' w' h' => ?_) hw
        have hS' : ST T S (L.setIfInBounds j true) w' := by
          intro hn
          refine h'.1 ?_
          cases ht : T.contains j with
          | false => rfl
          | true =>
            have hm := List.all_eq_true.1 hn j (by simpa using ht)
            have hlt : j < L.size := by omega
            simp [hlt] at hm
        exact ⟨hS', ih _ _ _ _ h hR.set (hcl.set hir) (by simpa using hsz) hS' h'.2⟩
      · simp only [Bool.and_eq_true] at h3
        obtain ⟨o', v, ho', hy, hr⟩ := hw
        obtain rfl : o = o' := Option.some.inj (ho.symm.trans ho')
        obtain ⟨hiT, hreach⟩ := tailM_spec T h3.2
        refine wpAnyT_first ho hiT hreach (Region.noSelect_spec hs) (fun c a w => hQ c a _ _ w) _ _ _ _ (fun j oj hj hne hun hno => ?_) hir hcl hy hS ?_
        · have hjlt := (Array.getElem?_eq_some_iff.1 hj).1
          have hm : m.testBit j = false := by rw [← hR.getD (by omega) true]; exact hun
          have hna : (maskOf (afterL oj)).testBit i = false := by
            cases hb : (maskOf (afterL oj)).testBit i with
            | false => rfl
            | true =>
              obtain ⟨e, he, hbd, hon⟩ := afterL_mem.1 ((maskOf_bit _ _).1 hb)
              exact absurd hon (hno e he hbd)
          obtain ⟨k1, k2⟩ := freeM_spec _ 0 h3.1 j _ _ _ (sums_get hj) (by rw [Nat.zero_add]; exact hne) (by rw [Nat.zero_add]; exact hm) hna
          exact apartM k1 k2
        · exact ih _ _ _ _ h hR.set (hcl.set hir) (by simpa using hsz) (fun hn => hS (by rwa [none0_set hiT] at hn)) hr

/-- the beginning, the order checked by numbers: sm is what the region's operations wait for, look at, write -/
theorem wp_region_ordF {id : Nat} {a : Act} {w : World} (l : List (Nat × Bool)) (T : List Nat) (S : World → Prop) (sm : List (Nat × Nat × Nat)) (hm : P.follows .mixedOrders = true) (hs : Region.noSelect ops = true) (hl : l.length = ops.size)
    (hsm : sums ops = sm) (ok : (edgesIn sm.length sm && fastGo sm T l 0) = true) (hS : S w.drew) (h : wpOrdT P ops (NoPanic Q) T S l a w.drew) : (Code.region id ops true).wp P Q a w := by
  subst hsm
  rw [Bool.and_eq_true] at ok
  have hlen : (sums ops).length = ops.size := by simp [sums]
  rw [hlen] at ok
  refine wp_region_noPanic (wp_region_any hm (wpAny_of_T (T := T) (S := S) _ _ _ _ ?_))
  rw [← hl]
  refine fast_sound hs NoPanic.dead ok.1 l _ 0 _ _ ok.2 (fun j hj => ?_) ?_ (by simpa using hl) (fun _ => hS) h.out
  · simp at hj
    simp [hj]
  · intro j oj _ hl
    simp at hl
    exact absurd hl (by
      rcases Nat.lt_or_ge j l.length with h' | h'
      · simp [h']
      · simp [h'])

end
end Go.Gl

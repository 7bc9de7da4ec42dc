/- A drawn region told in one order up to a place where two operations may come up next; from there on in two orders. -/
import Derived.Test.YtngemlpalkfjeaaZB
namespace Go.Gl
open Go.RowKit
set_option linter.unusedVariables false
section
variable {P : Program} {ops : Array Oper} {Q Q' : Exit → Act → World → Prop} {S : World → Prop} {T : List Nat}
theorem calm_wp {o : Oper} {a : Act} {w : World} {K : Act → World → Prop} (h : o.wp P a w K (Calm Q')) : o.wp P a w K (Calm Q) := by
  unfold Oper.wp at *
  generalize (execOp a.eval o).run P w = res at *
  cases res with
  | ok x w' =>
    cases x with
    | value v => exact h
    | skip => exact h
    | defer d => exact h
    | enter f args =>
      refine Calls.mono h (fun e w'' he => ?_)
      cases e with
      | returned v => exact he
      | panicked ch => exact he.elim
      | outgrown => exact (Calm.letsOut he).elim
    | row row args => exact h
    | _ => exact h.elim
  | halt x w' => cases x <;> exact h.elim
theorem calm_op {i : Nat} {K : Act → World → Prop} {a : Act} {w : World} (h : wpOp P ops (Calm Q') i K a w) : wpOp P ops (Calm Q) i K a w := by
  unfold wpOp at *
  cases ho : ops[i]? with
  | none => simpa [ho] using h
  | some o =>
    simp only [ho] at h ⊢
    by_cases hw : Region.wanted o (yielded ops a.tmps) = true
    · simp only [hw, if_true] at h ⊢
      rcases h with h | ⟨_, h⟩
      · exact .inl (calm_wp h)
      · exact (Calm.letsOut h).elim
    · rw [Bool.not_eq_true] at hw
      simp only [hw, Bool.false_eq_true, if_false] at h ⊢
      exact h
def lists : List (Nat × Bool) → Array Bool → Array Bool
  | [], L => L
  | (i, _) :: l, L => lists l (L.setIfInBounds i true)
def preOk (ops : Array Oper) (T : List Nat) : List (Nat × Bool) → Array Bool → Bool
  | [], _ => true
  | (i, b) :: l, listed => (if b then Region.free .any ops listed i && (Region.ready .any ops listed).contains i && !T.contains i && T.all (fun t => reach .any ops i 8 t) else (Region.ready .any ops listed) == [i]) && preOk ops T l (listed.setIfInBounds i true)
theorem pre_sound (hs : Region.noSelect ops = true) (n : Nat) (l : List (Nat × Bool)) :
    ∀ (listed : Array Bool) (a : Act) (w : World), preOk ops T l listed = true → ClosedL .any ops listed → listed.size = ops.size → ST T S listed w → wpOrd0 P ops (Calm Q') T S l a w →
      (∀ a w, ClosedL .any ops (lists l listed) → (lists l listed).size = ops.size → ST T S (lists l listed) w → Q' .normal a w → wpAnyT P .any ops (Calm Q) T S n (lists l listed) a w) → wpAnyT P .any ops (Calm Q) T S (n + l.length) listed a w := by
  induction l with
  | nil =>
    intro listed a w _ hcl hsz hS hw H
    exact H a w hcl hsz hS hw
  | cons x l ih =>
    obtain ⟨i, b⟩ := x
    intro listed a w h hcl hsz hS hw H
    simp only [preOk, Bool.and_eq_true] at h
    rw [List.length_cons, ← Nat.add_assoc]
    rcases b with _ | _
    · simp only [Bool.false_eq_true, if_false] at h
      have hr := eq_of_beq h.1
      refine ⟨fun h0 => (by rw [h0] at hr; cases hr), fun j hj => ?_⟩
      rw [hr] at hj
      obtain rfl := List.mem_singleton.1 hj
      have hjr : j ∈ Region.ready .any ops listed := by rw [hr]; exact List.mem_singleton.2 rfl
      refine wpOp_mono (fun a' w' h' => ?_) (calm_op (Q := Q) hw)
      have hS' : ST T S (listed.setIfInBounds j true) w' := by
        intro hn
        refine h'.1 ?_
        cases ht : T.contains j with
        | false => rfl
        | true =>
          have hm := List.all_eq_true.1 hn j (by simpa using ht)
          have hlt : j < listed.size := by
            obtain ⟨_, o, ho, _⟩ := mem_ready.1 hjr
            rw [hsz]
            exact (Array.getElem?_eq_some_iff.1 ho).1
          simp [hlt] at hm
      exact ⟨hS', ih _ _ _ h.2 (hcl.set hjr) (by simpa using hsz) hS' h'.2 H⟩
    · simp only [if_true, Bool.and_eq_true, Bool.not_eq_true'] at h
      obtain ⟨o, v, ho, hy, hr⟩ := hw
      have hir : i ∈ Region.ready .any ops listed := by simpa using h.1.1.1.2
      have hiT : i ∉ T := by simpa using h.1.1.2
      refine wpAnyT_first ho hiT h.1.2 (Region.noSelect_spec hs) (fun c a w => Calm.dead c a _ _ w) _ _ _ _ (Region.free_spec ho h.1.1.1.1) hir hcl hy hS ?_
      exact ih _ _ _ h.2 (hcl.set hir) (by simpa using hsz) (fun hn => hS (by rwa [none0_set hiT] at hn)) hr H
def Two (P : Program) (ops : Array Oper) (Q : Exit → Act → World → Prop) (T : List Nat) (S : World → Prop) (i j : Nat) (l1 l2 : List (Nat × Bool)) : Exit → Act → World → Prop
  | .normal, a, w => wpOrdT P ops (Calm Q) T S ((i, false) :: l1) a w ∧ wpOrdT P ops (Calm Q) T S ((j, false) :: l2) a w
  | _, _, _ => False
theorem rw_ord2 {a : Act} {w : World} (l : List (Nat × Bool)) (i j : Nat) (l1 l2 : List (Nat × Bool)) (T : List Nat) (hm : P.follows .mixedOrders = true) (hs : Region.noSelect ops = true) (hl : l.length + 1 + l1.length = ops.size) (hl2 : l2.length = l1.length)
    (ok : (preOk ops T l (Array.replicate ops.size false) && (Region.ready .any ops (lists l (Array.replicate ops.size false)) == [i, j]) && (!T.contains i && !T.contains j) &&
      ordOkT .any ops T l1 ((lists l (Array.replicate ops.size false)).setIfInBounds i true) && ordOkT .any ops T l2 ((lists l (Array.replicate ops.size false)).setIfInBounds j true)) = true)
    (hS : S w.drew) (h : wpOrdT P ops (Calm (Two P ops Q T S i j l1 l2)) T S l a w.drew) : RW P ops true Q a w := by
  refine ⟨⟨hm, wpAny_of_T (T := T) (S := S) _ _ _ _ ?_⟩⟩
  simp only [Bool.and_eq_true] at ok
  obtain ⟨⟨⟨⟨o1, o2⟩, o3⟩, o4⟩, o5⟩ := ok
  have o2' := eq_of_beq o2
  rw [← hl, show l.length + 1 + l1.length = (l1.length + 1) + l.length by omega]
  rw [show ops.size = (l1.length + 1) + l.length by omega] at o1 o2' o4 o5
  refine pre_sound hs _ l _ _ _ o1 ?_ (by simp; omega) (fun _ => hS) h.out (fun a w hcl hsz hS hw => ?_)
  · intro j oj _ hl'
    simp at hl'
    exact absurd hl' (by
      rcases Nat.lt_or_ge j (l1.length + 1 + l.length) with h' | h'
      · simp [h']
      · simp [h'])
  · refine ⟨fun h0 => (by rw [o2'] at h0; cases h0), fun k hk => ?_⟩
    have hk2 := hk
    rw [o2'] at hk2
    have hfin : ∀ (k : Nat) (l' : List (Nat × Bool)), k ∈ Region.ready .any ops (lists l (Array.replicate (l1.length + 1 + l.length) false)) → l'.length = l1.length → T.contains k = false → ordOkT .any ops T l' ((lists l (Array.replicate (l1.length + 1 + l.length) false)).setIfInBounds k true) = true → wpOrdT P ops (Calm Q) T S ((k, false) :: l') a w →
        wpOp P ops (Calm Q) k (fun a' w' => ST T S ((lists l (Array.replicate (l1.length + 1 + l.length) false)).setIfInBounds k true) w' ∧ wpAnyT P .any ops (Calm Q) T S l1.length ((lists l (Array.replicate (l1.length + 1 + l.length) false)).setIfInBounds k true) a' w') a w := by
      intro k l' hk hl' hT ok' hw'
      refine wpOp_mono (fun a' w' h' => ?_) hw'.out
      have hS' : ST T S ((lists l (Array.replicate (l1.length + 1 + l.length) false)).setIfInBounds k true) w' := fun _ => h'.1 hT
      refine ⟨hS', ?_⟩
      have := wpOrd0_sound hs Calm.dead l' _ _ _ ok' (hcl.set hk) (by simpa using hsz) hS' h'.2
      rwa [hl'] at this
    rcases List.mem_cons.1 hk2 with rfl | hk3
    · exact hfin _ l1 hk rfl (by simpa using o3.1) o4 hw.1
    · obtain rfl := List.mem_singleton.1 hk3
      exact hfin _ l2 hk hl2 (by simpa using o3.2) o5 hw.2
theorem wpOrd2_split {i j : Nat} {l1 l2 : List (Nat × Bool)} {a : Act} {w : World} (h1 : wpOrdT P ops (Calm Q) T S ((i, false) :: l1) a w) (h2 : wpOrdT P ops (Calm Q) T S ((j, false) :: l2) a w) : wpOrdT P ops (Calm (Two P ops Q T S i j l1 l2)) T S [] a w := ⟨⟨h1, h2⟩⟩
end
end Go.Gl

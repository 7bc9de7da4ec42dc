/- A drawn region told in three parts: operations that are taken first; some that may come in whichever order (Inv tells what holds while they do); the rest in one order. -/
import Derived.Test.YtglkmaalpammcaaGreatZC
namespace Go.Gl
open Go.RowKit
set_option linter.unusedVariables false
section
variable {P : Program} {ops : Array Oper} {Q Q' : Exit → Act → World → Prop} {S : World → Prop} {T : List Nat}
def NormIs (R : Act → World → Prop) : Exit → Act → World → Prop
 | .normal, a, w => R a w
 | _, _, _ => False
theorem norm_mk {R : Act → World → Prop} {a : Act} {w : World} (h : R a w) : NormIs R .normal a w := h
def midOk (ops : Array Oper) (T M : List Nat) (l1 : List (Nat × Bool)) : Nat → Array Bool → Bool
 | 0, L => M.all (fun i => L.getD i false) && ordOkT .any ops T l1 L
 | n + 1, L => !(Region.ready .any ops L).isEmpty && (Region.ready .any ops L).all (fun i => M.contains i && !T.contains i && midOk ops T M l1 n (L.setIfInBounds i true))
def upd (f : Nat → Bool) (i : Nat) : Nat → Bool := fun k => if k = i then true else f k
def waits (ops : Array Oper) (i j : Nat) : Bool := match ops[i]? with
 | some o => o.after.any (fun e => Region.binds .any e && e.on == j)
 | none => false
theorem upd_set {L : Array Bool} {i : Nat} (h : i < L.size) : (fun k => (L.setIfInBounds i true).getD k false) = upd (fun k => L.getD k false) i := by
 funext k
 unfold upd
 by_cases hk : k = i
 ·subst hk
  rw [if_pos rfl]
  simp [h]
 ·rw [if_neg hk, getD_set_ne false (fun e => hk e.symm)]
theorem mid_sound {M : List Nat} {l1 : List (Nat × Bool)} {Inv : (Nat → Bool) → Act → World → Prop} (hs : Region.noSelect ops = true)
    (hstep : ∀ i, i ∈ M → ∀ f a w, f i = false → (∀ j, waits ops i j = true → f j = true) → Inv f a w → wpOrdT P ops (Calm (NormIs (Inv (upd f i)))) T S [(i, false)] a w)
    (hend : ∀ f a w, (∀ i, i ∈ M → f i = true) → Inv f a w → wpOrdT P ops (Calm Q) T S l1 a w) (n : Nat) :
    ∀ (L : Array Bool) (a : Act) (w : World), midOk ops T M l1 n L = true → ClosedL .any ops L → L.size = ops.size → ST T S L w → Inv (fun k => L.getD k false) a w → wpAnyT P .any ops (Calm Q) T S (l1.length + n) L a w := by
  induction n with
  | zero =>
    intro L a w h hcl hsz hS hi
    simp only [midOk, Bool.and_eq_true] at h
    exact wpOrd0_sound hs Calm.dead l1 _ _ _ h.2 hcl hsz hS (hend _ a w (fun i hi => List.all_eq_true.1 h.1 i hi) hi).out
  | succ n ih =>
    intro L a w h hcl hsz hS hi
    simp only [midOk, Bool.and_eq_true] at h
    refine ⟨fun h0 => (by rw [h0] at h; simp at h), fun j hj => ?_⟩
    have hj3 := List.all_eq_true.1 h.2 j hj
    simp only [Bool.and_eq_true] at hj3
    have hjM : j ∈ M := by simpa using hj3.1.1
    have hjT : T.contains j = false := by simpa using hj3.1.2
    obtain ⟨hun, o, ho, hall⟩ := mem_ready.1 hj
    have hlt : j < L.size := by rw [hsz]; exact (Array.getElem?_eq_some_iff.1 ho).1
    have st := hstep j hjM (fun k => L.getD k false) a w (getD_false_of hun) (fun k hk => by
      unfold waits at hk
      rw [ho] at hk
      obtain ⟨e, he, hb⟩ := Array.any_eq_true'.1 hk
      simp only [Bool.and_eq_true, beq_iff_eq] at hb
      have := hall e he hb.1
      rw [hb.2] at this
      rcases Nat.lt_or_ge k L.size with h' | h'
      · simp [h'] at this ⊢; exact this
      · simp [Array.getElem?_eq_none h'] at this) hi
    rw [← upd_set hlt] at st
    refine wpOp_mono (fun a' w' h' => ?_) (calm_op (Q := Q) st.out)
    have hS' : ST T S (L.setIfInBounds j true) w' := fun _ => h'.1 hjT
    exact ⟨hS', ih _ _ _ hj3.2 (hcl.set hj) (by simpa using hsz) hS' h'.2⟩
theorem rw_mid {a : Act} {w : World} (l0 : List (Nat × Bool)) (M : List Nat) (l1 : List (Nat × Bool)) (T : List Nat) (Inv : (Nat → Bool) → Act → World → Prop) (hm : P.follows .mixedOrders = true) (hs : Region.noSelect ops = true) (hl : l0.length + M.length + l1.length = ops.size)
  (ok : (preOk ops T l0 (Array.replicate ops.size false) && midOk ops T M l1 M.length (lists l0 (Array.replicate ops.size false)) && M.all (fun i => !(lists l0 (Array.replicate ops.size false)).getD i false)) = true) (hS : S w.drew)
  (h0 : wpOrdT P ops (Calm (NormIs (fun a w => ∀ f : Nat → Bool, (∀ i, i ∈ M → f i = false) → Inv f a w))) T S l0 a w.drew)
  (hstep : ∀ i, i ∈ M → ∀ f a w, f i = false → (∀ j, waits ops i j = true → f j = true) → Inv f a w → wpOrdT P ops (Calm (NormIs (Inv (upd f i)))) T S [(i, false)] a w)
  (hend : ∀ f a w, (∀ i, i ∈ M → f i = true) → Inv f a w → wpOrdT P ops (Calm Q) T S l1 a w) : RW P ops true Q a w := by
 refine ⟨⟨hm, wpAny_of_T (T := T) (S := S) _ _ _ _ ?_⟩⟩
 rw [Bool.and_eq_true, Bool.and_eq_true] at ok
 have e : ops.size = (l1.length + M.length) + l0.length := by omega
 rw [e] at ok ⊢
 refine pre_sound hs _ l0 _ _ _ ok.1.1 ?_ (by simp; omega) (fun _ => hS) h0.out (fun a w hcl hsz hS hw => ?_)
 ·intro j oj _ hl'
  simp at hl'
  exact absurd hl' (by
   rcases Nat.lt_or_ge j (l1.length + M.length + l0.length) with h' | h'
   ·simp [h']
   ·simp [h'])
 ·exact mid_sound hs hstep hend _ _ _ _ ok.1.2 hcl hsz hS (hw _ (fun i hi => by
   have := List.all_eq_true.1 ok.2 i hi
   simpa using this))
end
end Go.Gl

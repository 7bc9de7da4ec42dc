/- Ranges over an iterator that ticks (printed by gen_iterc.py out of XIter): once at its start and once ahead of each element it does τ (it turns a block that is none of those it leans on). -/
import Derived.Test.YtngemlpalkfjeaaIter
namespace Go.Gl
open Go.RowKit
set_option linter.unusedVariables false
def CIter (P : Program) (gf : FuncId) (lb : Array Value) (n : Nat) (A : Nat → (Nat → Prop) → Array Value → World → Prop) (U0 : Nat → Prop) (τ : World → World → Prop) (Ok : World → Prop) (w : World) : Prop :=
  ∀ (l : Nat) (K J Jt Jx : Nat → (Nat → Prop) → World → Prop) (W : World), Mods (fun k => ¬ U0 k) w W → Frm W.heap.size noB K → Frm W.heap.size noB J → Frm W.heap.size noB Jt → Frm W.heap.size noB Jx →
    (∀ U A, K 0 U A → Ok A ∧ ∀ B, τ A B → J 0 U B) → (∀ i U A, i < n → J i U A → Ok A ∧ ∀ B, τ A B → Jt i U B) →
    (∀ i U args W1, i < n → Jt i U W1 → A i U args W1 → (∀ k, U k → k < W1.heap.size) → W.heap.size ≤ W1.heap.size → Jt i (fun k => U k ∨ argB args k) W1 → (∀ k, argB args k → k < W1.heap.size) → YAt P l args W1 fun e W' =>
      (e = .returned (.bool true) ∧ J (i + 1) U W' ∧ Mods (fun k => ¬ U k) W1 W') ∨ (e = .returned (.bool false) ∧ Jx (i + 1) U W' ∧ Mods (fun k => ¬ U k) W1 W')) →
    K 0 U0 W →
    Calls P gf (#[.func (.yield l) #[] #[]] ++ lb) W fun e W' => (∃ v, e = .returned v) ∧ ((∃ U, J n U W' ∧ ∀ k, U k → k < W'.heap.size) ∨ (∃ i U, i < n ∧ Jx (i + 1) U W' ∧ ∀ k, U k → k < W'.heap.size))
section
variable {P : Program} {r : Option Nat}
theorem wpIn_rangeC0 {g : Operand} {ps : Array Tmp} {assign body : Code} {Q : Exit → Act → World → Prop} {a : Act} {w : World} {gf : FuncId} {lb : Array Value} (hg : a.eval g = .func (.func gf) #[] lb) (eg : ∀ args w, (callFunc gf args).run P w = .ok (.enter gf args) w)
    {n : Nat} {A : Nat → (Nat → Prop) → Array Value → World → Prop} {U0 : Nat → Prop} {sg : Nat} {τ : World → World → Prop} {Ok : World → Prop} {w0 : World} (it : CIter P gf lb n A U0 τ Ok w0) (hτ : ∀ A B, τ A B → Mods (fun k => k = sg) A B) (hsg : sg < w.heap.size) (h0 : Mods (fun k => ¬ U0 k) w0 w) (hU : ∀ k, U0 k → k < w.heap.size) (hA : ArgsOk A) (hps : ∀ i U args W, A i U args W → args.size = ps.size)
    (K I It : Nat → (Nat → Prop) → World → Prop) (Ix : Code → Nat → (Nat → Prop) → World → Prop) (hK : Frm w.heap.size noB K) (hI : Frm w.heap.size noB I) (hIt : Frm w.heap.size noB It) (hIx : ∀ c, Frm w.heap.size noB (Ix c)) (hs : K 0 U0 w)
    (t0 : ∀ U A, K 0 U A → Ok A ∧ ∀ B, τ A B → I 0 U B) (t1 : ∀ i U A, i < n → I i U A → Ok A ∧ ∀ B, τ A B → It i U B)
    (hround : ∀ l i U args W, w.heap.size ≤ l → U l → i < n → It i U W → A i U args W → (∀ k, U k → k < W.heap.size) → w.heap.size ≤ W.heap.size → (∃ r, W.heap[l]? = some (.loop r)) → It i (fun k => U k ∨ argB args k) W → (∀ k, argB args k → k < W.heap.size) →
      assign.wpIn (WF (some l)) 3 P (Exit.then (fun a1 W1 => Mods (fun k => ¬ U k) W W1 ∧ ∀ W2, Mods (fun k => k = l) W1 W2 → (∃ r, W2.heap[l]? = some (.loop r)) → body.wpIn (WF (some l)) 3 P (rpost I Ix U i W2) a1 W2) (fun _ _ _ => False))
        { tmps := putArgs ps.toList args.toList a.tmps, defers := [] } W)
    (hdone : ∀ D U W, w.heap.size ≤ D → U D → (∀ k, U k → k < W.heap.size) → I n U W → W.heap[D]? = some (.deferred (some [])) → Q .normal { a with defers := { target := .collected D, args := #[] } :: a.defers } W)
    (hstop : ∀ D c i U W, w.heap.size ≤ D → U D → (∀ k, U k → k < W.heap.size) → i < n → Ix c (i + 1) U W → W.heap[D]? = some (.deferred (some [])) → c.wpIn (WF none) 3 P Q { a with defers := { target := .collected D, args := #[] } :: a.defers } W) :
    (Code.rangeFunc g ps assign body).wpIn (WF none) 3 P Q a w := by
  refine wpIn_rangeFunc ?_
  intro fn hfn
  obtain ⟨rec, hrec⟩ : ∃ rec : LoopState → Option Code → Loop, rec = fun st pe => { state := st, pending := pe, fn, tmps := a.tmps, params := ps, assign, body, defers := w.heap.size } := ⟨_, rfl⟩
  obtain ⟨W1, hW1⟩ : ∃ W1, (w.alloc (.deferred (some []))).alloc (.loop (rec .ready none)) = W1 := ⟨_, rfl⟩
  have hm1 : Mods noB w W1 := by rw [← hW1]; exact ((Mods.refl noB w).alloc _).alloc _
  have hsz : W1.heap.size = w.heap.size + 2 := by rw [← hW1]; simp
  have hL1 : W1.heap[w.heap.size + 1]? = some (.loop (rec .ready none)) := by
    rw [← hW1]; have := World.alloc_heap_new (w.alloc (.deferred (some []))) (.loop (rec .ready none)); rwa [World.size_alloc] at this
  have hK1 : W1.heap[w.heap.size]? = some (.deferred (some [])) := by
    rw [← hW1]; exact heap_old (heap_new w _) _
  obtain ⟨l, hl⟩ : ∃ l, l = w.heap.size + 1 := ⟨_, rfl⟩
  obtain ⟨D, hD⟩ : ∃ D, D = w.heap.size := ⟨_, rfl⟩
  rw [← hl] at hL1
  rw [← hD] at hK1
  have hw1 : Mods (fun k => ¬ U0 k) w0 W1 := h0.trans hm1 (fun _ _ x => x) (fun _ _ x => x.elim)
  have hUD : ∀ (U : Nat → Prop) k, (U k ∨ k = l) ∨ k = D ↔ U k ∨ k = l ∨ k = D := fun U k => by rw [or_assoc]
  refine ⟨l, [{ target := .collected D, args := #[] }], W1, { target := .fn (.func gf) lb, args := #[.func (.yield l) #[] #[]] }, W1, gf, #[.func (.yield l) #[] #[]] ++ lb, W1, ?_, ?_, ?_, ?_, fun h => by simp [Fence.wide] at h, ?_⟩
  · rw [← hW1, hrec, hl, hD]; exact run_enterLoop_outer _ _ _ _ _
  · simp only [resolve, hg]
    simp [go_sem]
  · intro f' hf'; trivial
  · simp [invoke, go_sem, eg]
  · refine callsIn_WF.2 ((it l (fun i U W => K i (fun k => (U k ∨ k = l) ∨ k = D) W ∧ ¬ U l ∧ ¬ U D ∧ W.heap[l]? = some (.loop (rec .ready none)) ∧ W.heap[D]? = some (.deferred (some [])))
      (fun i U W => I i (fun k => (U k ∨ k = l) ∨ k = D) W ∧ ¬ U l ∧ ¬ U D ∧ W.heap[l]? = some (.loop (rec .ready none)) ∧ W.heap[D]? = some (.deferred (some [])))
      (fun i U W => It i (fun k => (U k ∨ k = l) ∨ k = D) W ∧ ¬ U l ∧ ¬ U D ∧ W.heap[l]? = some (.loop (rec .ready none)) ∧ W.heap[D]? = some (.deferred (some [])))
      (fun i U W => ∃ c, Ix c i (fun k => (U k ∨ k = l) ∨ k = D) W ∧ ¬ U l ∧ ¬ U D ∧ W.heap[l]? = some (.loop (rec .done (some c))) ∧ W.heap[D]? = some (.deferred (some [])))
      W1 hw1 ?_ ?_ ?_ ?_ ?_ ?_ ?_ ⟨hK _ _ _ _ _ hs (hm1.mono (fun _ _ x => x.elim)) hU (fun k hk => by rcases hk with (h | h) | h; exact .inl h; exact .inr (by omega); exact .inr (by omega)), fun h => by have := hU l h; omega, fun h => by have := hU D h; omega, hL1, hK1⟩).mono ?_)
    · rintro i U U' X Y ⟨hi, h1, h2, h3, h4⟩ hm hus hsub
      have hlX := lt_of_heap h3
      have hDX := lt_of_heap h4
      refine ⟨hK _ _ _ _ _ hi (hm.mono (fun k _ hk => ⟨.inl (.inl hk.1), hk.2.imp id (fun h => by omega)⟩)) (fun k hk => by rcases hk with (h | h) | h; exact hus k h; omega; omega) (fun k hk => by
        rcases hk with (h | h) | h
        · exact (hsub k h).imp (fun x => .inl (.inl x)) id
        · exact .inl (.inl (.inr h))
        · exact .inl (.inr h)), fun h => by rcases hsub l h with h | h; exact h1 h; omega, fun h => by rcases hsub D h with h | h; exact h2 h; omega, (hm.block l hlX (fun hk => h1 hk.1)).trans h3, (hm.block D hDX (fun hk => h2 hk.1)).trans h4⟩
    · rintro i U U' X Y ⟨hi, h1, h2, h3, h4⟩ hm hus hsub
      have hlX := lt_of_heap h3
      have hDX := lt_of_heap h4
      refine ⟨hI _ _ _ _ _ hi (hm.mono (fun k _ hk => ⟨.inl (.inl hk.1), hk.2.imp id (fun h => by omega)⟩)) (fun k hk => by rcases hk with (h | h) | h; exact hus k h; omega; omega) (fun k hk => by
        rcases hk with (h | h) | h
        · exact (hsub k h).imp (fun x => .inl (.inl x)) id
        · exact .inl (.inl (.inr h))
        · exact .inl (.inr h)), fun h => by rcases hsub l h with h | h; exact h1 h; omega, fun h => by rcases hsub D h with h | h; exact h2 h; omega, (hm.block l hlX (fun hk => h1 hk.1)).trans h3, (hm.block D hDX (fun hk => h2 hk.1)).trans h4⟩
    · rintro i U U' X Y ⟨hi, h1, h2, h3, h4⟩ hm hus hsub
      have hlX := lt_of_heap h3
      have hDX := lt_of_heap h4
      refine ⟨hIt _ _ _ _ _ hi (hm.mono (fun k _ hk => ⟨.inl (.inl hk.1), hk.2.imp id (fun h => by omega)⟩)) (fun k hk => by rcases hk with (h | h) | h; exact hus k h; omega; omega) (fun k hk => by
        rcases hk with (h | h) | h
        · exact (hsub k h).imp (fun x => .inl (.inl x)) id
        · exact .inl (.inl (.inr h))
        · exact .inl (.inr h)), fun h => by rcases hsub l h with h | h; exact h1 h; omega, fun h => by rcases hsub D h with h | h; exact h2 h; omega, (hm.block l hlX (fun hk => h1 hk.1)).trans h3, (hm.block D hDX (fun hk => h2 hk.1)).trans h4⟩
    · rintro i U U' X Y ⟨c, hi, h1, h2, h3, h4⟩ hm hus hsub
      have hlX := lt_of_heap h3
      have hDX := lt_of_heap h4
      refine ⟨c, hIx c _ _ _ _ _ hi (hm.mono (fun k _ hk => ⟨.inl (.inl hk.1), hk.2.imp id (fun h => by omega)⟩)) (fun k hk => by rcases hk with (h | h) | h; exact hus k h; omega; omega) (fun k hk => by
        rcases hk with (h | h) | h
        · exact (hsub k h).imp (fun x => .inl (.inl x)) id
        · exact .inl (.inl (.inr h))
        · exact .inl (.inr h)), fun h => by rcases hsub l h with h | h; exact h1 h; omega, fun h => by rcases hsub D h with h | h; exact h2 h; omega, (hm.block l hlX (fun hk => h1 hk.1)).trans h3, (hm.block D hDX (fun hk => h2 hk.1)).trans h4⟩
    · rintro U A ⟨hi, h1, h2, h3, h4⟩
      obtain ⟨k1, k2⟩ := t0 _ A hi
      exact ⟨k1, fun B hB => ⟨k2 B hB, h1, h2, ((hτ A B hB).block l (lt_of_heap h3) (fun e => by omega)).trans h3, ((hτ A B hB).block D (lt_of_heap h4) (fun e => by omega)).trans h4⟩⟩
    · rintro i U A hin ⟨hi, h1, h2, h3, h4⟩
      obtain ⟨k1, k2⟩ := t1 i _ A hin hi
      exact ⟨k1, fun B hB => ⟨k2 B hB, h1, h2, ((hτ A B hB).block l (lt_of_heap h3) (fun e => by omega)).trans h3, ((hτ A B hB).block D (lt_of_heap h4) (fun e => by omega)).trans h4⟩⟩
    · rintro i U args W hin ⟨hi, h1, h2, h3, h4⟩ hargs hus hge ⟨hi', _, _, _, _⟩ hab
      have hlW := lt_of_heap h3
      have hDW := lt_of_heap h4
      have hA2 := hA _ _ _ _ D _ (hA _ _ _ _ l _ hargs h3 rfl) h4 rfl
      have hus2 : ∀ k, ((U k ∨ k = l) ∨ k = D) → k < W.heap.size := fun k hk => by rcases hk with (h | h) | h; exact hus k h; omega; omega
      refine round_of (base := w.heap.size) (V := noB) (U := fun k => (U k ∨ k = l) ∨ k = D) (i := i) hrec hI hIx h3 (hps _ _ _ _ hargs) (by omega) (.inl (.inr rfl)) hus2 (hround l i _ args W (by omega) (.inl (.inr rfl)) hin hi hA2 hus2 (by omega) ⟨_, h3⟩
        (hIt _ _ _ _ _ hi' (Mods.refl _ _) (fun k hk => by rcases hk with ((h | h) | h) | h; exact hus k h; exact hab k h; omega; omega) (fun k hk => by rcases hk with ((h | h) | h) | h; exact .inl (.inl (.inl (.inl h))); exact .inl (.inl (.inr h)); exact .inl (.inr h); exact .inl (.inl (.inl (.inr h))))) hab) _ ?_ ?_
      · intro W' hi' hm' hl'
        have hD' : W'.heap[D]? = some (.deferred (some [])) := (hm'.block D hDW (fun hk => by rcases hk with hk | hk; exact hk (.inr rfl); omega)).trans h4
        exact .inl ⟨rfl, ⟨hi', h1, h2, hl', hD'⟩, hm'.mono (fun k _ hk hu => by rcases hk with hk | hk; exact hk (.inl (.inl hu)); exact h1 (hk ▸ hu))⟩
      · intro c W' hi' hm' hl'
        have hD' : W'.heap[D]? = some (.deferred (some [])) := (hm'.block D hDW (fun hk => by rcases hk with hk | hk; exact hk (.inr rfl); omega)).trans h4
        exact .inr ⟨rfl, ⟨c, hi', h1, h2, hl', hD'⟩, hm'.mono (fun k _ hk hu => by rcases hk with hk | hk; exact hk (.inl (.inl hu)); exact h1 (hk ▸ hu))⟩
    · rintro e W2 ⟨⟨v, rfl⟩, (⟨U, ⟨hi, h1, h2, h3, h4⟩, hus⟩ | ⟨i, U, hin, ⟨c, hi, h1, h2, h3, h4⟩, hus⟩)⟩
      · refine ⟨none, _, by have := run_endLoop (P := P) h3 (by rw [hrec]; simp); rw [hrec] at this; exact this, ?_⟩
        have hlW := lt_of_heap h3
        have hDW := lt_of_heap h4
        exact hdone D (fun k => (U k ∨ k = l) ∨ k = D) _ (by omega) (.inr rfl) (fun k hk => by rw [World.putObj_size]; rcases hk with (h | h) | h; exact hus k h; omega; omega) (hI _ _ _ _ _ hi ((putObj_mods W2 l _).mono (fun k _ hk => by subst hk; exact ⟨.inl (.inr rfl), .inr (by omega)⟩)) (fun k hk => by rcases hk with (h | h) | h; exact hus k h; omega; omega) (fun k hk => .inl hk)) ((World.putObj_heap_other (by omega)).trans h4)
      · refine ⟨some c, _, by have := run_endLoop (P := P) h3 (by rw [hrec]; simp); rw [hrec] at this; exact this, ?_⟩
        have hlW := lt_of_heap h3
        have hDW := lt_of_heap h4
        exact hstop D c i (fun k => (U k ∨ k = l) ∨ k = D) _ (by omega) (.inr rfl) (fun k hk => by rw [World.putObj_size]; rcases hk with (h | h) | h; exact hus k h; omega; omega) hin (hIx c _ _ _ _ _ hi ((putObj_mods W2 l _).mono (fun k _ hk => by subst hk; exact ⟨.inl (.inr rfl), .inr (by omega)⟩)) (fun k hk => by rcases hk with (h | h) | h; exact hus k h; omega; omega) (fun k hk => .inl hk)) ((World.putObj_heap_other (by omega)).trans h4)
end
end Go.Gl

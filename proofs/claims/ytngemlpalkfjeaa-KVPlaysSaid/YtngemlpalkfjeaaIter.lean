/- A range over a function, told by blocks: what the iterator leans on (U), what of that it may turn, what the loop's body may turn. -/
import Derived.Test.YtngemlpalkfjeaaZB
import Derived.RangeFuncNested
namespace Go.Gl
open Go.RowKit
set_option linter.unusedVariables false
def Frm (base : Nat) (V : Nat → Prop) (J : Nat → (Nat → Prop) → World → Prop) : Prop :=
  ∀ i U U' A B, J i U A → Mods (fun k => U k ∧ (V k ∨ base ≤ k)) A B → (∀ k, U k → k < A.heap.size) → (∀ k, U' k → U k ∨ A.heap.size ≤ k) → J i U' B
def YAt (P : Program) (l : Nat) (args : Array Value) (W : World) (R : Ending → World → Prop) : Prop := YieldAt Fence.wide 3 P l args W R
def argB (args : Array Value) (k : Nat) : Prop := ∃ v, v ∈ args ∧ v.ownBlock = some k
def Iter (P : Program) (gf : FuncId) (lb : Array Value) (n : Nat) (A : Nat → (Nat → Prop) → Array Value → World → Prop) (U0 V : Nat → Prop) (w : World) : Prop :=
  ∀ (l : Nat) (J Jx : Nat → (Nat → Prop) → World → Prop) (W : World), Mods (fun k => ¬ U0 k) w W → Frm W.heap.size V J → Frm W.heap.size V Jx →
    (∀ i U args W1, i < n → J i U W1 → A i U args W1 → (∀ k, U k → k < W1.heap.size) → W.heap.size ≤ W1.heap.size → J i (fun k => U k ∨ argB args k) W1 → (∀ k, argB args k → k < W1.heap.size) → YAt P l args W1 fun e W' =>
      (e = .returned (.bool true) ∧ J (i + 1) U W' ∧ Mods (fun k => ¬ U k) W1 W') ∨ (e = .returned (.bool false) ∧ Jx (i + 1) U W' ∧ Mods (fun k => ¬ U k) W1 W')) →
    J 0 U0 W →
    Calls P gf (#[.func (.yield l) #[] #[]] ++ lb) W fun e W' => (∃ v, e = .returned v) ∧ ((∃ U, J n U W' ∧ ∀ k, U k → k < W'.heap.size) ∨ (∃ i U, i < n ∧ Jx (i + 1) U W' ∧ ∀ k, U k → k < W'.heap.size))
theorem putObj_mods (W : World) (l : Nat) (o : Obj) : Mods (fun k => k = l) W (W.putObj l o) :=
  ⟨rfl, rfl, rfl, by simp, fun k _ hk => World.putObj_heap_other hk⟩
def rpost (I : Nat → (Nat → Prop) → World → Prop) (Ix : Code → Nat → (Nat → Prop) → World → Prop) (U : Nat → Prop) (i : Nat) (W : World) : Exit → Act → World → Prop
  | .normal, _, W' => Mods (fun k => ¬ U k) W W' ∧ I (i + 1) U W'
  | .ret, _, W' => Mods (fun k => ¬ U k) W W' ∧ Ix .ret (i + 1) U W'
  | .exit id, _, W' => Mods (fun k => ¬ U k) W W' ∧ Ix (.exit id) (i + 1) U W'
  | .goto t, _, W' => Mods (fun k => ¬ U k) W W' ∧ Ix (.goto t) (i + 1) U W'
  | .panic _, _, _ => False
  | .outgrown, _, _ => False
def ArgsOk (A : Nat → (Nat → Prop) → Array Value → World → Prop) : Prop :=
  ∀ i U args W l o, A i U args W → W.heap[l]? = some o → o.isCells = false → A i (fun k => U k ∨ k = l) args W
section
variable {P : Program} {r : Option Nat}
def putArgs : List Tmp → List Value → Array Value → Array Value
  | p :: ps, v :: vs, t => putArgs ps vs (t.setIfInBounds p v)
  | _, _, t => t
theorem putArgs_zip (ps : List Tmp) (vs : List Value) : ∀ t : Array Value, (ps.zip vs).foldl (fun t (p, v) => t.setIfInBounds p v) t = putArgs ps vs t := by
  induction ps generalizing vs with
  | nil => intro t; cases vs <;> rfl
  | cons p ps ih =>
    intro t
    cases vs with
    | nil => rfl
    | cons v vs => exact ih vs _
theorem round_of {rec : LoopState → Option Code → Loop} {l i : Nat} {fn : FuncId} {tm : Array Value} {ps : Array Tmp} {assign body : Code} {args : Array Value} {W : World} {base : Nat} {V U : Nat → Prop}
    {I : Nat → (Nat → Prop) → World → Prop} {Ix : Code → Nat → (Nat → Prop) → World → Prop} {df : Nat}
    (hrec : rec = fun st pe => { state := st, pending := pe, fn, tmps := tm, params := ps, assign, body, defers := df }) (hI : Frm base V I) (hIx : ∀ c, Frm base V (Ix c)) (hl : W.heap[l]? = some (.loop (rec .ready none))) (hps : args.size = ps.size) (hlb : base ≤ l) (hUl : U l) (hUs : ∀ k, U k → k < W.heap.size)
    (h : assign.wpIn (WF (some l)) 3 P (Exit.then (fun a1 W1 => Mods (fun k => ¬ U k) W W1 ∧ ∀ W2, Mods (fun k => k = l) W1 W2 → (∃ r, W2.heap[l]? = some (.loop r)) → body.wpIn (WF (some l)) 3 P (rpost I Ix U i W2) a1 W2) (fun _ _ _ => False))
      { tmps := putArgs ps.toList args.toList tm, defers := [] } W)
    (R : Ending → World → Prop)
    (hn : ∀ W', I (i + 1) U W' → Mods (fun k => ¬ U k ∨ k = l) W W' → W'.heap[l]? = some (.loop (rec .ready none)) → R (.returned (.bool true)) W')
    (hx : ∀ c W', Ix c (i + 1) U W' → Mods (fun k => ¬ U k ∨ k = l) W W' → W'.heap[l]? = some (.loop (rec .done (some c))) → R (.returned (.bool false)) W') :
    YAt P l args W R := by
  have hy := run_yield (P := P) (args := args) hl (by rw [hrec]; exact hps)
  rw [hrec] at hy
  have ep : (ps.zip args).foldl (fun t (p, v) => t.setIfInBounds p v) tm = putArgs ps.toList args.toList tm := by rw [← putArgs_zip, ← Array.foldl_toList, Array.toList_zip]
  rw [← ep] at h
  refine ⟨fn, _, assign, body, hy, RoundIn.room (r := none) (r' := none) (roundIn_of_wpIn (F := WF none) (n := 3) trivial (wpIn_mono h ?_))⟩
  rintro e a1 W1 he
  cases e with
  | normal =>
    obtain ⟨m1, hb⟩ := he
    have hl1 : W1.heap[l]? = some (.loop (rec .ready none)) := (m1.block l (lt_of_heap hl) (fun hk => hk hUl)).trans hl
    have hlt1 := lt_of_heap hl1
    refine ⟨_, run_beginRound hl1 (by rw [hrec]), ?_⟩
    have hl2 : (W1.putObj l (.loop { rec .ready none with state := .busy })).heap[l]? = some (.loop { rec .ready none with state := .busy }) := World.putObj_heap_same hlt1
    refine wpIn_mono (hb _ (putObj_mods W1 l _) ⟨_, hl2⟩) ?_
    have fin : ∀ (jump : Option Code) (Wc : World), Mods (fun k => ¬ U k) (W1.putObj l (.loop { rec .ready none with state := .busy })) Wc →
        (Instr.endRound l jump).run P Wc = .ok (.bool jump.isNone) (Wc.putObj l (.loop (rec (if jump.isNone then .ready else .done) jump))) ∧ (Wc.putObj l (.loop (rec (if jump.isNone then .ready else .done) jump))).heap[l]? = some (.loop (rec (if jump.isNone then .ready else .done) jump)) ∧
        Mods (fun k => ¬ U k ∨ k = l) W (Wc.putObj l (.loop (rec (if jump.isNone then .ready else .done) jump))) ∧ Mods (fun k => U k ∧ (V k ∨ base ≤ k)) Wc (Wc.putObj l (.loop (rec (if jump.isNone then .ready else .done) jump))) ∧ (∀ k, U k → k < Wc.heap.size) := fun jump Wc m3 => by
      have hl3 := (m3.block l (by simpa using hlt1) (fun hk => hk hUl)).trans hl2
      have hr := run_endRound (P := P) jump hl3
      have hm := ((m1.trans (putObj_mods W1 l _) (U := fun k => ¬ U k ∨ k = l) (fun _ _ x => .inl x) (fun _ _ x => .inr x)).trans m3 (U := fun k => ¬ U k ∨ k = l) (fun _ _ x => x) (fun _ _ x => .inl x))
      refine ⟨?_, World.putObj_heap_same (lt_of_heap hl3), hm.trans (putObj_mods Wc l _) (fun _ _ x => x) (fun _ _ x => .inr x), (putObj_mods Wc l _).mono (fun k _ hk => by subst hk; exact ⟨hUl, .inr hlb⟩), fun k hk => Nat.lt_of_lt_of_le (hUs k hk) hm.size⟩
      rw [hrec] at hr ⊢
      exact hr
    rintro e a3 Wc hp
    cases e with
    | normal =>
      obtain ⟨m3, hi3⟩ := hp
      obtain ⟨hr, k1, k2, k3, k4⟩ := fin none Wc m3
      exact ⟨_, _, hr, hn _ (hI _ _ _ _ _ hi3 k3 k4 (fun k hk => .inl hk)) k2 k1⟩
    | ret =>
      obtain ⟨m3, hi3⟩ := hp
      obtain ⟨hr, k1, k2, k3, k4⟩ := fin (some .ret) Wc m3
      exact ⟨_, _, hr, hx .ret _ (hIx _ _ _ _ _ _ hi3 k3 k4 (fun k hk => .inl hk)) k2 k1⟩
    | exit id =>
      obtain ⟨m3, hi3⟩ := hp
      obtain ⟨hr, k1, k2, k3, k4⟩ := fin (some (.exit id)) Wc m3
      exact ⟨_, _, hr, hx (.exit id) _ (hIx _ _ _ _ _ _ hi3 k3 k4 (fun k hk => .inl hk)) k2 k1⟩
    | goto t =>
      obtain ⟨m3, hi3⟩ := hp
      obtain ⟨hr, k1, k2, k3, k4⟩ := fin (some (.goto t)) Wc m3
      exact ⟨_, _, hr, hx (.goto t) _ (hIx _ _ _ _ _ _ hi3 k3 k4 (fun k hk => .inl hk)) k2 k1⟩
    | panic ch => exact hp.elim
    | outgrown => exact hp.elim
  | _ => exact he.elim
theorem wpIn_range0 {g : Operand} {ps : Array Tmp} {assign body : Code} {Q : Exit → Act → World → Prop} {a : Act} {w : World} {gf : FuncId} {lb : Array Value} (hg : a.eval g = .func (.func gf) #[] lb) (eg : ∀ args w, (callFunc gf args).run P w = .ok (.enter gf args) w)
    {n : Nat} {A : Nat → (Nat → Prop) → Array Value → World → Prop} {U0 V : Nat → Prop} {w0 : World} (it : Iter P gf lb n A U0 V w0) (h0 : Mods (fun k => ¬ U0 k) w0 w) (hU : ∀ k, U0 k → k < w.heap.size) (hA : ArgsOk A) (hps : ∀ i U args W, A i U args W → args.size = ps.size)
    (I : Nat → (Nat → Prop) → World → Prop) (Ix : Code → Nat → (Nat → Prop) → World → Prop) (hI : Frm w.heap.size V I) (hIx : ∀ c, Frm w.heap.size V (Ix c)) (hs : I 0 U0 w)
    (hround : ∀ l i U args W, w.heap.size ≤ l → U l → i < n → I i U W → A i U args W → (∀ k, U k → k < W.heap.size) → w.heap.size ≤ W.heap.size → (∃ r, W.heap[l]? = some (.loop r)) → I i (fun k => U k ∨ argB args k) W → (∀ k, argB args k → k < W.heap.size) →
      assign.wpIn (WF (some l)) 3 P (Exit.then (fun a1 W1 => Mods (fun k => ¬ U k) W W1 ∧ ∀ W2, Mods (fun k => k = l) W1 W2 → (∃ r, W2.heap[l]? = some (.loop r)) → body.wpIn (WF (some l)) 3 P (rpost I Ix U i W2) a1 W2) (fun _ _ _ => False))
        { tmps := putArgs ps.toList args.toList a.tmps, defers := [] } W)
    (hdone : ∀ D U W, w.heap.size ≤ D → U D → (∀ k, U k → k < W.heap.size) → I n U W → W.heap[D]? = some (.deferred (some [])) → Q .normal { a with defers := { target := .collected D, args := #[] } :: a.defers } W)
    (hstop : ∀ D c i U W, w.heap.size ≤ D → U D → (∀ k, U k → k < W.heap.size) → i < n → Ix c (i + 1) U W → W.heap[D]? = some (.deferred (some [])) → c.wpIn (WF none) 3 P Q { a with defers := { target := .collected D, args := #[] } :: a.defers } W) :
    (Code.rangeFunc g ps assign body).wpIn (WF none) 3 P Q a w := by
  refine wpIn_rangeFunc ?_
  intro fn hfn
  obtain ⟨rec, hrec⟩ : ∃ rec : LoopState → Option Code → Loop, rec = fun st pe => { state := st, pending := pe, fn, tmps := a.tmps, params := ps, assign, body, defers := w.heap.size } := ⟨_, rfl⟩
  obtain ⟨W1, hW1⟩ : ∃ W1, (w.alloc (.deferred (some []))).alloc (.loop (rec .ready none)) = W1 := ⟨_, rfl⟩
  have hm1 : Mods noB w W1 := by rw [← hW1]; exact ((Mods.refl noB w).alloc _).alloc _
  have hsz : W1.heap.size = w.heap.size + 2 := by rw [← hW1]; simp
  have hL1 : W1.heap[w.heap.size + 1]? = some (.loop (rec .ready none)) := by
    rw [← hW1]; have := World.alloc_heap_new (w.alloc (.deferred (some []))) (.loop (rec .ready none)); rwa [World.size_alloc] at this
  have hK1 : W1.heap[w.heap.size]? = some (.deferred (some [])) := by
    rw [← hW1]; exact heap_old (heap_new w _) _
  obtain ⟨l, hl⟩ : ∃ l, l = w.heap.size + 1 := ⟨_, rfl⟩
  obtain ⟨D, hD⟩ : ∃ D, D = w.heap.size := ⟨_, rfl⟩
  rw [← hl] at hL1
  rw [← hD] at hK1
  have hw1 : Mods (fun k => ¬ U0 k) w0 W1 := h0.trans hm1 (fun _ _ x => x) (fun _ _ x => x.elim)
  have hUD : ∀ (U : Nat → Prop) k, (U k ∨ k = l) ∨ k = D ↔ U k ∨ k = l ∨ k = D := fun U k => by rw [or_assoc]
  refine ⟨l, [{ target := .collected D, args := #[] }], W1, { target := .fn (.func gf) lb, args := #[.func (.yield l) #[] #[]] }, W1, gf, #[.func (.yield l) #[] #[]] ++ lb, W1, ?_, ?_, ?_, ?_, fun h => by simp [Fence.wide] at h, ?_⟩
  · rw [← hW1, hrec, hl, hD]; exact run_enterLoop_outer _ _ _ _ _
  · simp only [resolve, hg]
    simp [go_sem]
  · intro f' hf'; trivial
  · simp [invoke, go_sem, eg]
  · refine callsIn_WF.2 ((it l (fun i U W => I i (fun k => (U k ∨ k = l) ∨ k = D) W ∧ ¬ U l ∧ ¬ U D ∧ W.heap[l]? = some (.loop (rec .ready none)) ∧ W.heap[D]? = some (.deferred (some [])))
      (fun i U W => ∃ c, Ix c i (fun k => (U k ∨ k = l) ∨ k = D) W ∧ ¬ U l ∧ ¬ U D ∧ W.heap[l]? = some (.loop (rec .done (some c))) ∧ W.heap[D]? = some (.deferred (some [])))
      W1 hw1 ?_ ?_ ?_ ⟨hI _ _ _ _ _ hs (hm1.mono (fun _ _ x => x.elim)) hU (fun k hk => by rcases hk with (h | h) | h; exact .inl h; exact .inr (by omega); exact .inr (by omega)), fun h => by have := hU l h; omega, fun h => by have := hU D h; omega, hL1, hK1⟩).mono ?_)
    · rintro i U U' X Y ⟨hi, h1, h2, h3, h4⟩ hm hus hsub
      have hlX := lt_of_heap h3
      have hDX := lt_of_heap h4
      refine ⟨hI _ _ _ _ _ hi (hm.mono (fun k _ hk => ⟨.inl (.inl hk.1), hk.2.imp id (fun h => by omega)⟩)) (fun k hk => by rcases hk with (h | h) | h; exact hus k h; omega; omega) (fun k hk => by
        rcases hk with (h | h) | h
        · exact (hsub k h).imp (fun x => .inl (.inl x)) id
        · exact .inl (.inl (.inr h))
        · exact .inl (.inr h)), fun h => by rcases hsub l h with h | h; exact h1 h; omega, fun h => by rcases hsub D h with h | h; exact h2 h; omega, (hm.block l hlX (fun hk => h1 hk.1)).trans h3, (hm.block D hDX (fun hk => h2 hk.1)).trans h4⟩
    · rintro i U U' X Y ⟨c, hi, h1, h2, h3, h4⟩ hm hus hsub
      have hlX := lt_of_heap h3
      have hDX := lt_of_heap h4
      refine ⟨c, hIx c _ _ _ _ _ hi (hm.mono (fun k _ hk => ⟨.inl (.inl hk.1), hk.2.imp id (fun h => by omega)⟩)) (fun k hk => by rcases hk with (h | h) | h; exact hus k h; omega; omega) (fun k hk => by
        rcases hk with (h | h) | h
        · exact (hsub k h).imp (fun x => .inl (.inl x)) id
        · exact .inl (.inl (.inr h))
        · exact .inl (.inr h)), fun h => by rcases hsub l h with h | h; exact h1 h; omega, fun h => by rcases hsub D h with h | h; exact h2 h; omega, (hm.block l hlX (fun hk => h1 hk.1)).trans h3, (hm.block D hDX (fun hk => h2 hk.1)).trans h4⟩
    · rintro i U args W hin ⟨hi, h1, h2, h3, h4⟩ hargs hus hge ⟨hi', _, _, _, _⟩ hab
      have hlW := lt_of_heap h3
      have hDW := lt_of_heap h4
      have hA2 := hA _ _ _ _ D _ (hA _ _ _ _ l _ hargs h3 rfl) h4 rfl
      have hus2 : ∀ k, ((U k ∨ k = l) ∨ k = D) → k < W.heap.size := fun k hk => by rcases hk with (h | h) | h; exact hus k h; omega; omega
      refine round_of (base := w.heap.size) (V := V) (U := fun k => (U k ∨ k = l) ∨ k = D) (i := i) hrec hI hIx h3 (hps _ _ _ _ hargs) (by omega) (.inl (.inr rfl)) hus2 (hround l i _ args W (by omega) (.inl (.inr rfl)) hin hi hA2 hus2 (by omega) ⟨_, h3⟩
        (hI _ _ _ _ _ hi' (Mods.refl _ _) (fun k hk => by rcases hk with ((h | h) | h) | h; exact hus k h; exact hab k h; omega; omega) (fun k hk => by rcases hk with ((h | h) | h) | h; exact .inl (.inl (.inl (.inl h))); exact .inl (.inl (.inr h)); exact .inl (.inr h); exact .inl (.inl (.inl (.inr h))))) hab) _ ?_ ?_
      · intro W' hi' hm' hl'
        have hD' : W'.heap[D]? = some (.deferred (some [])) := (hm'.block D hDW (fun hk => by rcases hk with hk | hk; exact hk (.inr rfl); omega)).trans h4
        exact .inl ⟨rfl, ⟨hi', h1, h2, hl', hD'⟩, hm'.mono (fun k _ hk hu => by rcases hk with hk | hk; exact hk (.inl (.inl hu)); exact h1 (hk ▸ hu))⟩
      · intro c W' hi' hm' hl'
        have hD' : W'.heap[D]? = some (.deferred (some [])) := (hm'.block D hDW (fun hk => by rcases hk with hk | hk; exact hk (.inr rfl); omega)).trans h4
        exact .inr ⟨rfl, ⟨c, hi', h1, h2, hl', hD'⟩, hm'.mono (fun k _ hk hu => by rcases hk with hk | hk; exact hk (.inl (.inl hu)); exact h1 (hk ▸ hu))⟩
    · rintro e W2 ⟨⟨v, rfl⟩, (⟨U, ⟨hi, h1, h2, h3, h4⟩, hus⟩ | ⟨i, U, hin, ⟨c, hi, h1, h2, h3, h4⟩, hus⟩)⟩
      · refine ⟨none, _, by have := run_endLoop (P := P) h3 (by rw [hrec]; simp); rw [hrec] at this; exact this, ?_⟩
        have hlW := lt_of_heap h3
        have hDW := lt_of_heap h4
        exact hdone D (fun k => (U k ∨ k = l) ∨ k = D) _ (by omega) (.inr rfl) (fun k hk => by rw [World.putObj_size]; rcases hk with (h | h) | h; exact hus k h; omega; omega) (hI _ _ _ _ _ hi ((putObj_mods W2 l _).mono (fun k _ hk => by subst hk; exact ⟨.inl (.inr rfl), .inr (by omega)⟩)) (fun k hk => by rcases hk with (h | h) | h; exact hus k h; omega; omega) (fun k hk => .inl hk)) ((World.putObj_heap_other (by omega)).trans h4)
      · refine ⟨some c, _, by have := run_endLoop (P := P) h3 (by rw [hrec]; simp); rw [hrec] at this; exact this, ?_⟩
        have hlW := lt_of_heap h3
        have hDW := lt_of_heap h4
        exact hstop D c i (fun k => (U k ∨ k = l) ∨ k = D) _ (by omega) (.inr rfl) (fun k hk => by rw [World.putObj_size]; rcases hk with (h | h) | h; exact hus k h; omega; omega) hin (hIx c _ _ _ _ _ hi ((putObj_mods W2 l _).mono (fun k _ hk => by subst hk; exact ⟨.inl (.inr rfl), .inr (by omega)⟩)) (fun k hk => by rcases hk with (h | h) | h; exact hus k h; omega; omega) (fun k hk => .inl hk)) ((World.putObj_heap_other (by omega)).trans h4)
/-! ### calling yield; leaving -/
section
variable {ops : Array Oper} {Q : Exit → Act → World → Prop} {n : Nat}
theorem wpIn_region_yieldA {id : Nat} {a : Act} {w : World} {draws : Bool} {Q1 : Exit → Act → World → Prop} (m : Nat) (hB : (if draws then barY ops.toList m else decide (m < ops.size) && backB ops && noDefer ops) = true) (h : RW P (ops.toList.take m).toArray draws Q1 a w)
    (hG : ∀ a w, Q1 .normal a w → wpOpsIn (WF r) n P ops Q (List.range' m (ops.size - m)) a w) : (Code.region id ops draws).wpIn (WF r) n P Q a w := by
  have e : ops.toList.toArray = ops := Array.toArray_toList
  have el : ops.toList.length = ops.size := Array.length_toList
  cases draws with
  | true =>
    have := wpIn_region_yield (id := id) (l := ops.toList) (Q := Q) (r := r) (n := n) m hB h (by rw [e, el]; exact hG)
    rw [e] at this
    exact this
  | false =>
    have := wpIn_region_yieldL (id := id) (l := ops.toList) (Q := Q) (r := r) (n := n) m (by rw [e, el]; exact hB) h (by rw [e, el]; exact hG)
    rw [e] at this
    exact this
theorem wpOpsIn_yield {i l : Nat} {rest : List Nat} {a : Act} {w : World} {vs : Array Value} {R : Ending → World → Prop} (d : Option Tmp) (h : OpIs ops i a d true) (hd : noDefer ops = true) (hrun : (execOp a.eval (opN ops i)).run P w = (Instr.yield l vs).run P w) (hy : YAt P l vs w R)
    (hK : ∀ e w', R e w' → ∃ v, e = .returned v ∧ wpOpsIn (WF r) n P ops Q rest (a.put d v) w') : wpOpsIn (WF r) n P ops Q (i :: rest) a w := by
  obtain ⟨h1, rfl, h2⟩ := h
  rw [wpOpsIn_cons]
  unfold wpOpIn
  simp only [opN_get h1, h2, if_true]
  refine ⟨fun _ _ => trivial, ?_⟩
  obtain ⟨fn, tmps, assign, body, hyr, hR⟩ := hy
  rw [Oper.semAt_eq _ _ _ (noDefer_spec hd (opN_get h1)), hrun, hyr, Oper.uponIn_round]
  refine ⟨fun h => by simp [Fence.wide] at h, (RoundIn.room (r := none) (r' := r) hR).mono (fun e w' he => ?_)⟩
  obtain ⟨v, rfl, hv⟩ := hK e w' he
  exact hv
theorem wpOpsIn_val {i : Nat} {rest : List Nat} {a : Act} {w : World} (v : Value) (d : Option Tmp) (h : OpIs ops i a d true) (hd : noDefer ops = true) (hrun : (execOp a.eval (opN ops i)).run P w = .ok (.value v) w)
    (hK : wpOpsIn (WF r) n P ops Q rest (a.put d v) w) : wpOpsIn (WF r) n P ops Q (i :: rest) a w := by
  obtain ⟨h1, rfl, h2⟩ := h
  rw [wpOpsIn_cons]
  unfold wpOpIn
  simp only [opN_get h1, h2, if_true]
  refine ⟨fun _ _ => trivial, ?_⟩
  rw [Oper.semAt_eq _ _ _ (noDefer_spec hd (opN_get h1)), hrun, Oper.uponIn_value]
  exact hK
theorem wpIn_tl {n : Nat} {Q : Exit → Act → World → Prop} {a : Act} {w : World} {c d : Code} (e : c = d) (h : d.wpIn (WF r) n P Q a w) : c.wpIn (WF r) n P Q a w := e ▸ h
end
theorem calls_in {f : FuncId} {fn : Func} {args : Array Value} {w : World} {R : Ending → World → Prop} (c : Code) (hf : P.funcs[f]? = some fn) (hb : fn.body = some c)
    (h : c.wpIn (WF none) 3 P (bodyPost P fn R) { tmps := args ++ Array.replicate (fn.ntmps - args.size) undef, defers := [] } w) : Calls P f args w R := (callsIn_WF (r := none) (n := 3)).1 (callsIn_of_wp hf hb trivial h)
theorem calls_marks {f : FuncId} {fn : Func} {args : Array Value} {w : World} {R : Ending → World → Prop} (c : Code) (hf : P.funcs[f]? = some fn) (hb : fn.body = some c)
    (h : c.wpIn (WF none) 3 P (bodyPostM (WF none) 3 P fn R) { tmps := args ++ Array.replicate (fn.ntmps - args.size) undef, defers := [] } w) : Calls P f args w R := (callsIn_WF (r := none) (n := 3)).1 (callsIn_of_wp_marks hf hb trivial h)
theorem marks_leave {fn : Func} {R : Ending → World → Prop} {tmps : Array Value} {D : Nat} {W : World} {v : Value} (hK : W.heap[D]? = some (.deferred (some []))) (hr : (results fn tmps).run P (W.putObj D (.deferred none)) = .ok v (W.putObj D (.deferred none))) (h : R (.returned v) (W.putObj D (.deferred none))) :
    LeavesInM (WF none) 3 P fn tmps R [{ target := .collected D, args := #[] }] .returning W := by
  refine ⟨by simp, .inl ⟨_, _, rfl, run_takeDeferred hK, ?_⟩⟩
  exact ⟨_, hr, h⟩
theorem then_n {K : Act → World → Prop} {Q : Exit → Act → World → Prop} {a : Act} {w : World} (h : K a w) : Exit.then K Q .normal a w := h
theorem then_r {K : Act → World → Prop} {Q : Exit → Act → World → Prop} {a : Act} {w : World} (h : Q .ret a w) : Exit.then K Q .ret a w := h
theorem then_x {K : Act → World → Prop} {Q : Exit → Act → World → Prop} {a : Act} {w : World} {i : Nat} (h : Q (.exit i) a w) : Exit.then K Q (.exit i) a w := h
theorem block_r {id : Nat} {Q : Exit → Act → World → Prop} {a : Act} {w : World} (h : Q .ret a w) : Exit.inBlock id Q .ret a w := h
theorem block_x {id : Nat} {Q : Exit → Act → World → Prop} {a : Act} {w : World} (h : Q .normal a w) : Exit.inBlock id Q (.exit id) a w := by simp only [Exit.inBlock, if_true]; exact h
theorem block_xo {id j : Nat} {Q : Exit → Act → World → Prop} {a : Act} {w : World} (hne : ¬ j = id) (h : Q (.exit j) a w) : Exit.inBlock id Q (.exit j) a w := by simp only [Exit.inBlock, hne, if_false]; exact h
theorem block_n {id : Nat} {Q : Exit → Act → World → Prop} {a : Act} {w : World} (h : Q .normal a w) : Exit.inBlock id Q .normal a w := h
end
end Go.Gl

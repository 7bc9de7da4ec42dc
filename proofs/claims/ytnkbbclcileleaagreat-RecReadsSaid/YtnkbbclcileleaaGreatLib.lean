/- General laws for the walks of this seat: worlds that differ in known blocks alone, slices that are read, slices that are owned, append. Nothing here speaks of one function. -/
import Derived.WalkKit
import Derived.WalkSpells
import Derived.WalkLawsBesides
import Derived.Deep.AppendSrc
import Derived.Deep.QuietTactic
import Derived.BigQuiet
import Derived.Lib.Hide
import Derived.Handy
import Derived.OpenShut
namespace Go.Gl
open Go.RowKit

/-- Behind a call: of the blocks that were there only those of S may have turned. -/
structure Mods (S : Nat → Prop) (w w' : World) : Prop where
  os : w'.os = w.os
  tape : w'.tape = w.tape
  output : w'.output = w.output
  size : w.heap.size ≤ w'.heap.size
  block : ∀ k, k < w.heap.size → ¬ S k → w'.heap[k]? = w.heap[k]?

def noB : Nat → Prop := fun _ => False
/-- The block that a slice value leads to. -/
def ofV (v : Value) : Nat → Prop := fun k => v.ownBlock = some k

theorem Mods.refl (S : Nat → Prop) (w : World) : Mods S w w := ⟨rfl, rfl, rfl, Nat.le_refl _, fun _ _ _ => rfl⟩

theorem Mods.trans {S T U : Nat → Prop} {a b c : World} (h : Mods S a b) (k : Mods T b c) (hS : ∀ i, i < a.heap.size → S i → U i) (hT : ∀ i, i < a.heap.size → T i → U i) : Mods U a c :=
  ⟨k.os.trans h.os, k.tape.trans h.tape, k.output.trans h.output, Nat.le_trans h.size k.size, fun i hi hu =>
    (k.block i (Nat.lt_of_lt_of_le hi h.size) (fun ht => hu (hT i hi ht))).trans (h.block i hi (fun hs => hu (hS i hi hs)))⟩

theorem Mods.mono {S T : Nat → Prop} {a b : World} (h : Mods S a b) (hS : ∀ i, i < a.heap.size → S i → T i) : Mods T a b :=
  ⟨h.os, h.tape, h.output, h.size, fun i hi hu => h.block i hi (fun hs => hu (hS i hi hs))⟩

theorem Mods.below {a b : World} (h : Mods noB a b) : Below a.heap.size a b := ⟨h.os, h.tape, h.output, h.size, fun k hk => h.block k hk (fun x => x)⟩
theorem Mods.of_below {a b : World} {B : Nat} (h : Below B a b) (hB : a.heap.size ≤ B) (S : Nat → Prop) : Mods S a b := ⟨h.os, h.tape, h.output, h.size, fun k hk _ => h.block k (by omega)⟩
theorem Mods.drew {S : Nat → Prop} {a b : World} (h : Mods S a b) : Mods S a b.drew := ⟨h.os, h.tape, h.output, h.size, h.block⟩
theorem Mods.drewN {S : Nat → Prop} {a b : World} (h : Mods S a b) (n : Nat) : Mods S a (b.drewN n) := ⟨h.os, h.tape, h.output, h.size, h.block⟩
theorem Mods.alloc {S : Nat → Prop} {a b : World} (h : Mods S a b) (o : Obj) : Mods S a (b.alloc o) :=
  ⟨h.os, h.tape, h.output, by have := h.size; simp; omega, fun k hk hs => (Below.heap_alloc b o k (by have := h.size; omega)).trans (h.block k hk hs)⟩
theorem Mods.setCell {S : Nat → Prop} {a b : World} (h : Mods S a b) {p : Addr} (hp : S p.block ∨ a.heap.size ≤ p.block) (u : Value) : Mods S a (b.setCell p u) :=
  ⟨h.os, h.tape, h.output, by simpa [World.setCell] using h.size, fun k hk hs => (Below.heap_setCell b p u k (by rintro rfl; rcases hp with hp | hp; exact hs hp; omega)).trans (h.block k hk hs)⟩
theorem Mods.setCells {S : Nat → Prop} {a b : World} (h : Mods S a b) {g off : Nat} (hp : S g ∨ a.heap.size ≤ g) (us : List Value) : Mods S a (b.setCells g off us) := by
  induction us generalizing b off with
  | nil => exact h
  | cons u us ih => exact ih (h.setCell hp u)

theorem Mods.cell {S : Nat → Prop} {a b : World} (h : Mods S a b) {p : Addr} (hp : p.block < a.heap.size) (hs : ¬ S p.block) : b.cell? p = a.cell? p := World.cell?_of_block (w := a) (h.block p.block hp hs)
theorem Mods.frozen {S : Nat → Prop} {a b : World} (h : Mods S a b) {p : Addr} (hp : p.block < a.heap.size) (hs : ¬ S p.block) : b.frozen? p = a.frozen? p := World.frozen?_of_block (w := a) (h.block p.block hp hs)

/-- A reading call: the world but for draws. -/
def Quiet (w w' : World) : Prop := ∃ n, w' = w.drewN n
theorem Quiet.mods {w w' : World} (h : Quiet w w') (S : Nat → Prop) : Mods S w w' := by obtain ⟨n, rfl⟩ := h; exact (Mods.refl S w).drewN n
theorem Quiet.refl (w : World) : Quiet w w := ⟨0, rfl⟩
theorem Quiet.more {w w' : World} (h : Quiet w w') {n : Nat} : Quiet w (w'.drewN n) := by obtain ⟨m, rfl⟩ := h; exact ⟨_, World.drewN_drewN ..⟩
theorem Quiet.more1 {w w' : World} (h : Quiet w w') : Quiet w w'.drew := by obtain ⟨m, rfl⟩ := h; exact ⟨m + 1, rfl⟩
theorem Quiet.trans {a b c : World} (h : Quiet a b) (k : Quiet b c) : Quiet a c := by obtain ⟨m, rfl⟩ := k; exact h.more
theorem Quiet.heap {w w' : World} (h : Quiet w w') : w'.heap = w.heap := by obtain ⟨n, rfl⟩ := h; rfl

/-- A block of cells known whole: what its cells read. -/
theorem cells_of {w : World} {g : Nat} {cur : Array Value} {e : TypeId} {fr : Nat × Nat} (h : w.heap[g]? = some (.cells cur e fr)) (o : Nat) : w.cell? ⟨g, o, none⟩ = cur[o]? := by
  simp [World.cell?, h]
theorem free_of {w : World} {g : Nat} {cur : Array Value} {e : TypeId} (h : w.heap[g]? = some (.cells cur e (0, 0))) (o : Nat) : w.frozen? ⟨g, o, none⟩ = false := by
  simp [World.frozen?, h]
theorem lt_of_heap {w : World} {g : Nat} {o : Obj} (h : w.heap[g]? = some o) : g < w.heap.size := (Array.getElem?_eq_some_iff.1 h).1
theorem heap_set {w : World} {g : Nat} {cur : Array Value} {e : TypeId} {fr : Nat × Nat} (h : w.heap[g]? = some (.cells cur e fr)) (o : Nat) (u : Value) :
    (w.setCell ⟨g, o, none⟩ u).heap[g]? = some (.cells (cur.setIfInBounds o u) e fr) := by
  simp [World.setCell, Array.getElem?_modify, h]
theorem heap_set_other {w : World} {a : Addr} {g : Nat} (h : g ≠ a.block) (u : Value) : (w.setCell a u).heap[g]? = w.heap[g]? := Below.heap_setCell w a u g h
theorem heap_new (w : World) (o : Obj) : (w.alloc o).heap[w.heap.size]? = some o := heap_alloc_new w o
theorem heap_old {w : World} {g : Nat} {x : Obj} (h : w.heap[g]? = some x) (o : Obj) : (w.alloc o).heap[g]? = some x := (Below.heap_alloc w o g (lt_of_heap h)).trans h
theorem Mods.heap {S : Nat → Prop} {a b : World} (h : Mods S a b) {g : Nat} {x : Obj} (hg : a.heap[g]? = some x) (hs : ¬ S g) : b.heap[g]? = some x := (h.block g (lt_of_heap hg) hs).trans hg

/-- Bytes as values. -/
def bv (xs : List UInt8) : List Value := xs.map fun b => .int .u8 b.toNat
theorem bv_length (xs : List UInt8) : (bv xs).length = xs.length := by simp [bv]
theorem bv_append (xs ys : List UInt8) : bv (xs ++ ys) = bv xs ++ bv ys := by simp [bv]
theorem bv_get (xs : List UInt8) (i : Nat) (h : i < xs.length) : (bv xs)[i]? = some (.int .u8 (xs[i]).toNat) := by simp [bv, h]
theorem bv_one (xs : List UInt8) : ∀ u ∈ bv xs, u.oneCell' = true := by
  intro u hu
  obtain ⟨b, _, rfl⟩ := List.mem_map.1 hu
  rfl

/-- An empty slice without cells: nil, or one whose address is no cell's own. -/
def Nil0 (v : Value) : Prop := v = .slice none 0 0 ∨ ∃ g off s, v = .slice (some ⟨g, off, some s⟩) 0 0
theorem Nil0.nil : Nil0 (.slice none 0 0) := .inl rfl
theorem Nil0.form {v : Value} (h : Nil0 v) : ∃ a, v = .slice a 0 0 := by
  rcases h with rfl | ⟨g, off, s, rfl⟩
  · exact ⟨_, rfl⟩
  · exact ⟨_, rfl⟩
theorem Nil0.no {g off n c : Nat} (h : Nil0 (.slice (some ⟨g, off, none⟩) n c)) : False := by
  rcases h with h | ⟨g', off', s, h⟩
  · cases h
  · cases h
theorem Nil0.none {a : Option Addr} {n c : Nat} (h : Nil0 (.slice a n c)) : n = 0 ∧ c = 0 := by
  obtain ⟨a', h⟩ := h.form
  cases h
  exact ⟨rfl, rfl⟩

/-- A slice value that reads as these values, 'size' cells an element: its block is known to be there unless it is empty; nothing is said of what stands behind them. -/
def RdG (w : World) (size : Nat) (v : Value) (n : Nat) (xs : List Value) : Prop :=
  xs.length = n * size ∧ ((Nil0 v ∧ n = 0) ∨ ∃ g off cap, v = .slice (some ⟨g, off, none⟩) n cap ∧ n ≤ cap ∧ cap ≤ maxLen ∧ (n = 0 ∨ g < w.heap.size) ∧ ∀ j u, xs[j]? = some u → w.cell? ⟨g, off + j, none⟩ = some u)

/-- A slice value that may be appended to and written: its block is of its element type, and no part of it is frozen. -/
def OwnG (w : World) (e : TypeId) (size : Nat) (v : Value) (n : Nat) (xs : List Value) : Prop :=
  xs.length = n * size ∧ ((v = .slice none 0 0 ∧ n = 0) ∨ ∃ g off cap cur, v = .slice (some ⟨g, off, none⟩) n cap ∧ w.heap[g]? = some (.cells cur e (0, 0)) ∧ n ≤ cap ∧ cap ≤ maxLen ∧ off + cap * size ≤ cur.size ∧
    ∀ j u, xs[j]? = some u → cur[off + j]? = some u)

theorem OwnG.rd {w : World} {e size n : Nat} {v : Value} {xs : List Value} (h : OwnG w e size v n xs) : RdG w size v n xs := by
  refine ⟨h.1, ?_⟩
  rcases h.2 with ⟨rfl, h2⟩ | ⟨g, off, cap, cur, hv, hg, h1, h2, _, h3⟩
  · exact .inl ⟨.nil, h2⟩
  · exact .inr ⟨g, off, cap, hv, h1, h2, .inr (lt_of_heap hg), fun j u hj => (cells_of hg _).trans (h3 j u hj)⟩

theorem RdG.form {w : World} {size n : Nat} {v : Value} {xs : List Value} (h : RdG w size v n xs) : ∃ a cap, v = .slice a n cap ∧ n ≤ maxLen := by
  rcases h.2 with ⟨h0, rfl⟩ | ⟨g, off, cap, rfl, h1, h2, _⟩
  · obtain ⟨a, rfl⟩ := h0.form
    exact ⟨a, 0, rfl, by simp [maxLen]⟩
  · exact ⟨_, cap, rfl, Nat.le_trans h1 h2⟩

/-- what turned does not reach the slice's block, if that was there -/
theorem RdG.keepL {S : Nat → Prop} {w w' : World} {size n : Nat} {v : Value} {xs : List Value} (h : RdG w size v n xs) (hm : Mods S w w') (hs : ∀ k, k < w.heap.size → v.ownBlock = some k → ¬ S k) : RdG w' size v n xs := by
  refine ⟨h.1, ?_⟩
  rcases h.2 with h2 | ⟨g, off, cap, rfl, h1, h2, hg, h3⟩
  · exact .inl h2
  · refine .inr ⟨g, off, cap, rfl, h1, h2, hg.imp id (fun x => Nat.lt_of_lt_of_le x hm.size), fun j u hj => ?_⟩
    rcases hg with hg | hg
    · have h4 := h.1
      rw [hg, Nat.zero_mul] at h4
      rw [List.eq_nil_of_length_eq_zero h4] at hj
      simp at hj
    · exact (hm.cell (p := ⟨g, off + j, none⟩) hg (hs g hg rfl)).trans (h3 j u hj)
theorem RdG.keep {S : Nat → Prop} {w w' : World} {size n : Nat} {v : Value} {xs : List Value} (h : RdG w size v n xs) (hm : Mods S w w') (hs : ∀ k, v.ownBlock = some k → ¬ S k) : RdG w' size v n xs := h.keepL hm (fun k _ => hs k)

theorem OwnG.keep {S : Nat → Prop} {w w' : World} {e size n : Nat} {v : Value} {xs : List Value} (h : OwnG w e size v n xs) (hm : Mods S w w') (hs : ∀ k, v.ownBlock = some k → ¬ S k) : OwnG w' e size v n xs := by
  refine ⟨h.1, ?_⟩
  rcases h.2 with h2 | ⟨g, off, cap, cur, rfl, hg, rest⟩
  · exact .inl h2
  · exact .inr ⟨g, off, cap, cur, rfl, hm.heap hg (hs g rfl), rest⟩

theorem OwnG.lt {w : World} {e : TypeId} {size n : Nat} {v : Value} {xs : List Value} (h : OwnG w e size v n xs) : ∀ k, v.ownBlock = some k → k < w.heap.size := by
  intro k hk
  rcases h.2 with ⟨rfl, _⟩ | ⟨g, off, cap, cur, rfl, hg, _⟩
  · simp [Value.ownBlock] at hk
  · have := lt_of_heap hg
    simp [Value.ownBlock] at hk
    omega
theorem RdG.ltn {w : World} {size n : Nat} {v : Value} {xs : List Value} (h : RdG w size v n xs) (hn : n ≠ 0) : ∀ k, v.ownBlock = some k → k < w.heap.size := by
  intro k hk
  rcases h.2 with ⟨_, h0⟩ | ⟨g, off, cap, rfl, _, _, hg, _⟩
  · exact absurd h0 hn
  · have := hg.resolve_left hn
    simp [Value.ownBlock] at hk
    omega

def Rd (w : World) (v : Value) (xs : List UInt8) : Prop := RdG w 1 v xs.length (bv xs)
def Own (w : World) (v : Value) (xs : List UInt8) : Prop := OwnG w 5 1 v xs.length (bv xs)

theorem Own.rd {w : World} {v : Value} {xs : List UInt8} (h : Own w v xs) : Rd w v xs := OwnG.rd h
theorem Rd.nil (w : World) : Rd w (.slice none 0 0) [] := ⟨rfl, .inl ⟨.nil, rfl⟩⟩
theorem Own.nil (w : World) : Own w (.slice none 0 0) [] := ⟨rfl, .inl ⟨rfl, rfl⟩⟩
theorem Rd.form {w : World} {v : Value} {xs : List UInt8} (h : Rd w v xs) : ∃ a cap, v = .slice a xs.length cap ∧ xs.length ≤ maxLen := RdG.form h
theorem Rd.keep {S : Nat → Prop} {w w' : World} {v : Value} {xs : List UInt8} (h : Rd w v xs) (hm : Mods S w w') (hs : ∀ k, v.ownBlock = some k → ¬ S k) : Rd w' v xs := RdG.keep h hm hs
theorem Own.keep {S : Nat → Prop} {w w' : World} {v : Value} {xs : List UInt8} (h : Own w v xs) (hm : Mods S w w') (hs : ∀ k, v.ownBlock = some k → ¬ S k) : Own w' v xs := OwnG.keep h hm hs
theorem Rd.quiet {w w' : World} {v : Value} {xs : List UInt8} (h : Rd w v xs) (hq : Quiet w w') : Rd w' v xs := h.keep (hq.mods noB) (fun _ _ x => x)
theorem Own.quiet {w w' : World} {v : Value} {xs : List UInt8} (h : Own w v xs) (hq : Quiet w w') : Own w' v xs := h.keep (hq.mods noB) (fun _ _ x => x)
theorem Rd.ltn {w : World} {v : Value} {xs : List UInt8} (h : Rd w v xs) (hn : xs.length ≠ 0) : ∀ k, v.ownBlock = some k → k < w.heap.size := RdG.ltn h hn
theorem Rd.keepL {S : Nat → Prop} {w w' : World} {v : Value} {xs : List UInt8} (h : Rd w v xs) (hm : Mods S w w') (hs : ∀ k, k < w.heap.size → v.ownBlock = some k → ¬ S k) : Rd w' v xs := RdG.keepL h hm hs
theorem Own.lt {w : World} {v : Value} {xs : List UInt8} (h : Own w v xs) : ∀ k, v.ownBlock = some k → k < w.heap.size := OwnG.lt h

theorem Rd.any {w w' : World} {v : Value} (h : Rd w v []) : Rd w' v [] := by
  refine ⟨rfl, ?_⟩
  rcases h.2 with h2 | ⟨g, off, cap, hv, h1, h2, hg, h3⟩
  · exact .inl h2
  · exact .inr ⟨g, off, cap, hv, h1, h2, .inl rfl, fun j u hj => by simp [bv] at hj⟩

/-- A byte slice that is read, opened: nil, or an address whose cells are its bytes. -/
theorem Rd.open {w : World} {v : Value} {xs : List UInt8} (h : Rd w v xs) :
    (Nil0 v ∧ xs = []) ∨ ∃ g off cap, v = .slice (some ⟨g, off, none⟩) xs.length cap ∧ xs.length ≤ cap ∧ cap ≤ maxLen ∧ (xs.length = 0 ∨ g < w.heap.size) ∧ ∀ i (hi : i < xs.length), w.cell? ⟨g, off + i, none⟩ = some (.int .u8 (xs[i]).toNat) := by
  rcases h.2 with ⟨h0, hn⟩ | ⟨g, off, cap, hv, h1, h2, hg, h3⟩
  · exact .inl ⟨h0, List.eq_nil_of_length_eq_zero hn⟩
  · exact .inr ⟨g, off, cap, hv, h1, h2, hg, fun i hi => h3 i _ (bv_get xs i hi)⟩

/-- A new slice: its block was not there in w. -/
def freshIn (w : World) (v : Value) : Prop := ∀ k, v.ownBlock = some k → w.heap.size ≤ k

theorem freshIn.not {w : World} {v : Value} (h : freshIn w v) {k : Nat} (hk : k < w.heap.size) : v.ownBlock ≠ some k := fun e => by have := h k e; omega

/-- A stop for the walk: what stands behind it is not looked into. -/
def Stop (p : Prop) : Prop := p
theorem stop {p : Prop} (h : Stop p) : p := h

/-- The cells of a slice that is read, as 'firstCells' yields them. -/
theorem RdG.src {P : Program} {w : World} {size n : Nat} {v : Value} {xs : List Value} (h : RdG w size v n xs) (h1 : ∀ u ∈ xs, u.oneCell' = true) {t e' : TypeId} (hk : P.underlying t = some (.slice e')) : Src P size t v n xs w := by
  rcases h.2 with ⟨h0, rfl⟩ | ⟨g, off, cap, rfl, _, _, hg, h3⟩
  · obtain rfl : xs = [] := List.eq_nil_of_length_eq_zero (by simpa using h.1)
    rcases h0 with rfl | ⟨g, off, s, rfl⟩
    · exact Src.ofNil w hk 0
    · exact Src.ofSlice w hk _ 0 0 [] (by simp) (fun j u hj => by simp at hj) h1
  · exact Src.ofSlice w hk _ n cap xs h.1 (fun j u hj => by rw [show (⟨g, off, none⟩ : Addr).add j = ⟨g, off + j, none⟩ from Addr.add_lit ..]; exact h3 j u hj) h1

/-- 'append(s, x...)', s owned, x read: whichever way it goes. -/
theorem run_ap {P : Program} {w : World} (t tx ty e e' : TypeId) (i : TypeInfo) (z : Value) (ht : P.underlying t = some (.slice e)) (htx : P.underlying tx = some (.slice e')) (hi : P.info? e = some i) (hz : i.zero = some z) (hzs : z.cells.size = i.size)
    {v : Value} {n : Nat} {xs : List Value} (hown : OwnG w e i.size v n xs) {u : Value} {m : Nat} {ys : List Value} (hrd : RdG w i.size u m ys) (h1 : ∀ y ∈ ys, y.oneCell' = true) (hlen : n + m ≤ maxLen) (hb : (n + m) * i.bytes ≤ 140737488355328) :
    ∃ v' w', (Builtin.append_ #[t, tx] ty #[v, u]).run P w = .ok v' w' ∧ OwnG w' e i.size v' (n + m) (xs ++ ys) ∧ Mods (ofV v) w w' ∧ (v'.ownBlock = v.ownBlock ∨ freshIn w v') := by
  have hlen' : (xs ++ ys).length = (n + m) * i.size := by rw [List.length_append, hown.1, hrd.1, Nat.add_mul]
  have hs := hrd.src (P := P) h1 htx
  have grow : ∀ (base : Option Addr) (sCap : Nat), v = .slice base n sCap → sCap < n + m → (Builtin.firstCells i.size n (.slice base n sCap)).run P w.drew = .ok xs.toArray w.drew →
      ∃ v' w', (Builtin.append_ #[t, tx] ty #[v, u]).run P w = .ok v' w' ∧ OwnG w' e i.size v' (n + m) (xs ++ ys) ∧ Mods (ofV v) w w' ∧ (v'.ownBlock = v.ownBlock ∨ freshIn w v') := by
    intro base sCap hv hg hold
    subst hv
    have hge := grownCap_ge w (n + m) sCap e
    refine ⟨_, _, run_append_grow_src w t tx ty e i z ht hi hz base n sCap xs hold u m ys hs hg (by simp only [maxLen] at hlen; omega) (growslice_fits hg hb), ⟨hlen', .inr ⟨w.heap.size, 0, _, _, rfl, heap_alloc_new w.drew _, hge, grownCap_le_maxLen w _ _ e hlen, ?_, ?_⟩⟩, ((Mods.refl _ w).drew).alloc _, .inr ?_⟩
    · simp only [Array.size_append, List.size_toArray, size_zeroCells, hzs, hlen', ← Nat.add_mul]
      rw [Nat.zero_add]
      exact Nat.mul_le_mul_right _ (by omega)
    · intro j x hj
      have hjl : j < (xs ++ ys).length := (List.getElem?_eq_some_iff.1 hj).1
      rw [Nat.zero_add, Array.getElem?_append_left (by simpa using hjl)]
      simpa using hj
    · intro k hk
      simp [Value.ownBlock] at hk
      omega
  rcases hown.2 with ⟨hv, rfl⟩ | ⟨g, off, cap, cur, rfl, hg, h3, h4, h5, h6⟩
  · obtain rfl : xs = [] := List.eq_nil_of_length_eq_zero (by simpa using hown.1)
    by_cases hm : m = 0
    · subst hm
      obtain rfl : ys = [] := List.eq_nil_of_length_eq_zero (by simpa using hrd.1)
      subst hv
      refine ⟨.slice none 0 0, w, ?_, ⟨by simp, .inl ⟨rfl, rfl⟩⟩, Mods.refl _ _, .inl rfl⟩
      simp [Builtin.append_, run_underlying ht, run_underlying htx, sizeOf, typeInfo, hi, hs.len, hs.cells]
    · exact grow none 0 hv (by omega) (run_firstCells_none w.drew i.size 0 0 0)
  · by_cases hroom : n + m ≤ cap
    · have hmul : (n + m) * i.size ≤ cap * i.size := Nat.mul_le_mul_right _ hroom
      have hnm : (n + m) * i.size = n * i.size + ys.length := by rw [Nat.add_mul, hrd.1]
      have hr := run_append_room_src (P := P) w t tx ty e i ht hi g off n cap u m ys hs hroom
        (fun j hj => by rw [cells_of hg, Array.getElem?_eq_getElem (by omega)]; rfl) (fun j hj => free_of hg _)
      have hset : ∀ (l : List Value) (c : Array Value) (o : Nat) (w1 : World), w1.heap[g]? = some (.cells c e (0, 0)) → o + l.length ≤ c.size →
          ∃ c', (w1.setCells g o l).heap[g]? = some (.cells c' e (0, 0)) ∧ c'.size = c.size ∧ (∀ j, j < o → c'[j]? = c[j]?) ∧ (∀ j, j < l.length → c'[o + j]? = l[j]?) := by
        intro l
        induction l with
        | nil => intro c o w1 h _; exact ⟨c, h, rfl, fun _ _ => rfl, fun j hj => by simp at hj⟩
        | cons x l ih =>
          intro c o w1 h hl
          simp only [List.length_cons] at hl
          obtain ⟨c', h1', h2', h3', h4'⟩ := ih (c.setIfInBounds o x) (o + 1) (w1.setCell ⟨g, o, none⟩ x) (heap_set h o x) (by simp; omega)
          refine ⟨c', h1', by simpa using h2', fun j hj => ?_, fun j hj => ?_⟩
          · rw [h3' j (by omega), Array.getElem?_setIfInBounds_ne (by omega)]
          · rcases j with _ | j
            · rw [Nat.add_zero, h3' o (by omega)]
              simp [show o < c.size from by omega]
            · have := h4' j (by simpa using hj)
              rw [show o + (j + 1) = o + 1 + j from by omega, this]
              simp
      obtain ⟨c', k1, k2, k3, k4⟩ := hset ys cur (off + n * i.size) w hg (by omega)
      refine ⟨_, _, hr, ⟨hlen', .inr ⟨g, off, cap, c', rfl, k1, hroom, h4, by omega, ?_⟩⟩, (Mods.refl (ofV (.slice (some ⟨g, off, none⟩) n cap)) w).setCells (.inl (by rfl)) ys, .inl rfl⟩
      intro j x hj
      by_cases hjn : j < xs.length
      · rw [List.getElem?_append_left hjn] at hj
        rw [k3 _ (by have := hown.1; omega)]
        exact h6 j x hj
      · rw [List.getElem?_append_right (by omega)] at hj
        have hjy : j - xs.length < ys.length := (List.getElem?_eq_some_iff.1 hj).1
        have := k4 (j - xs.length) hjy
        rw [show off + n * i.size + (j - xs.length) = off + j from by have := hown.1; omega] at this
        rw [this]
        exact hj
    · refine grow (some ⟨g, off, none⟩) cap rfl (by omega) (run_firstCells_some w.drew i.size n _ n cap xs hown.1 (fun j x hj => ?_))
      rw [show (⟨g, off, none⟩ : Addr).add j = ⟨g, off + j, none⟩ from Addr.add_lit ..]
      show w.drew.cell? _ = _
      exact (cells_of (w := w.drew) hg _).trans (h6 j x hj)

theorem wpList_ap {P : Program} {ops : Array Oper} {Q : Exit → Act → World → Prop} {rest : List Oper} {o : Oper} {a : Act} {w : World} {s x : Operand} {t tx : TypeId} (hgd : o.guard = none)
    (ho : o.op = .call { callee := .builtin .append, args := #[s, x], argTypes := #[t, tx] }) {e e' : TypeId} {i : TypeInfo} {z : Value} (ht : P.underlying t = some (.slice e)) (htx : P.underlying tx = some (.slice e')) (hi : P.info? e = some i) (hz : i.zero = some z) (hzs : z.cells.size = i.size)
    {v : Value} {n : Nat} {xs : List Value} (hs : a.eval s = v) (hown : OwnG w e i.size v n xs) {u : Value} {m : Nat} {ys : List Value} (hx : a.eval x = u) (hrd : RdG w i.size u m ys) (h1 : ∀ y ∈ ys, y.oneCell' = true) (hlen : n + m ≤ maxLen) (hb : (n + m) * i.bytes ≤ 140737488355328)
    (h : ∀ v' w', OwnG w' e i.size v' (n + m) (xs ++ ys) → Mods (ofV v) w w' → (v'.ownBlock = v.ownBlock ∨ freshIn w v') → wpList P ops Q rest (a.put o.dst v') w') : wpList P ops Q (o :: rest) a w := by
  refine wpList_plain hgd fun K hK => ?_
  obtain ⟨v', w', hr, h2, h3, h4⟩ := run_ap (P := P) t tx o.type e e' i z ht htx hi hz hzs hown hrd h1 hlen hb
  unfold Oper.wp execOp
  simp only [ho, resolve, invoke, builtin, Sem.run_bind, Sem.run_pure, Result.andThen_ok, List.map_toArray, List.map_cons, List.map_nil, hs, hx, hr]
  exact hK _ _ (h v' w' h2 h3 h4)

theorem Own.alloc {w : World} {v : Value} {xs : List UInt8} (h : Own w v xs) (o : Obj) : Own (w.alloc o) v xs := h.keep ((Mods.refl noB w).alloc o) (fun _ _ x => x)
theorem Rd.alloc {w : World} {v : Value} {xs : List UInt8} (h : Rd w v xs) (o : Obj) : Rd (w.alloc o) v xs := h.keep ((Mods.refl noB w).alloc o) (fun _ _ x => x)

theorem own_at (c : UInt8) {w : World} (n : Nat) (hn : n = w.heap.size) : Own (w.alloc (.cells #[.int .u8 c.toNat] 5)) (.slice (some ⟨n, 0, none⟩) 1 1) [c] := by
  subst hn
  refine ⟨rfl, .inr ⟨_, 0, 1, _, rfl, heap_new _ _, Nat.le_refl _, by simp [maxLen], by simp, fun j u hj => ?_⟩⟩
  rw [Nat.zero_add]
  simpa [bv] using hj

theorem Mods.cellAt {S : Nat → Prop} {a b : World} (h : Mods S a b) {g : Nat} (hg : g < a.heap.size) (hs : ¬ S g) (o : Nat) : b.cell? ⟨g, o, none⟩ = a.cell? ⟨g, o, none⟩ := h.cell (p := ⟨g, o, none⟩) hg hs
theorem Mods.frozenAt {S : Nat → Prop} {a b : World} (h : Mods S a b) {g : Nat} (hg : g < a.heap.size) (hs : ¬ S g) (o : Nat) : b.frozen? ⟨g, o, none⟩ = a.frozen? ⟨g, o, none⟩ := h.frozen (p := ⟨g, o, none⟩) hg hs

theorem ofV_some {g off n cap i : Nat} (h : ofV (.slice (some ⟨g, off, none⟩) n cap) i) : i = g := by
  simp [ofV, Value.ownBlock] at h
  omega
theorem ofV_nil {i : Nat} (h : ofV (.slice none 0 0) i) : False := by simp [ofV, Value.ownBlock] at h

/-- '^x' on a uint64. -/
theorem not_u64 (x : Int) (h0 : 0 ≤ x) (h1 : x ≤ 18446744073709551615) : bits .xor .u64 IntKind.u64.max x = 18446744073709551615 - x := by
  obtain ⟨n, rfl⟩ := Int.eq_ofNat_of_zero_le h0
  have hm : IntKind.u64.max = ((18446744073709551615 : Nat) : Int) := rfl
  rw [hm, bits_xor_u64_nat _ _ (by omega) (by omega)]
  have h2 : n < 2 ^ 64 := by omega
  have h3 : (18446744073709551615 ^^^ n : Nat) = (BitVec.allOnes 64 ^^^ BitVec.ofNat 64 n).toNat := by
    rw [BitVec.toNat_xor, BitVec.toNat_ofNat, Nat.mod_eq_of_lt h2]
    rfl
  rw [h3, BitVec.allOnes_xor, BitVec.toNat_not, BitVec.toNat_ofNat, Nat.mod_eq_of_lt h2]
  omega

/-- 'x<<8 | c' while it fits. -/
theorem shl_or_u64 (x c : Int) (h0 : 0 ≤ x) (h1 : x < 72057594037927936) (h2 : 0 ≤ c) (h3 : c < 256) : bits .or .u64 (x * 256) c = x * 256 + c := by
  obtain ⟨n, rfl⟩ := Int.eq_ofNat_of_zero_le h0
  obtain ⟨k, rfl⟩ := Int.eq_ofNat_of_zero_le h2
  have hx : ((n : Int) * 256) = ((n * 256 : Nat) : Int) := by simp
  rw [hx]
  unfold bits
  have e1 : (BitVec.ofInt 64 ((n * 256 : Nat) : Int)) = BitVec.ofNat 64 (n * 256) := BitVec.ofInt_natCast ..
  have e2 : (BitVec.ofInt 64 ((k : Nat) : Int)) = BitVec.ofNat 64 k := BitVec.ofInt_natCast ..
  have h4 : (n * 256) ||| k = n * 256 + k := by
    have := Nat.shiftLeft_add_eq_or_of_lt (b := k) (i := 8) (by omega) n
    rw [Nat.shiftLeft_eq] at this
    simpa using this.symm
  show IntKind.u64.wrap (((BitVec.ofInt 64 ((n * 256 : Nat) : Int)) ||| (BitVec.ofInt 64 ((k : Nat) : Int))).toNat : Int) = _
  rw [e1, e2, BitVec.toNat_or, BitVec.toNat_ofNat, BitVec.toNat_ofNat, Nat.mod_eq_of_lt (by omega), Nat.mod_eq_of_lt (by omega), h4, IntKind.wrap_u64]
  omega

end Go.Gl

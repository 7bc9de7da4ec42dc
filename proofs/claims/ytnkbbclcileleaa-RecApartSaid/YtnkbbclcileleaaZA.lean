/- Parts of the proof, one behind the other: Lib, Base, Lib2, SpecK, RPut, EWr, EWr2, EWr3, Grow, Make, NLib. -/
import Derived.WalkKit
import Derived.WalkSpells
import Derived.WalkLawsBesides
import Derived.Deep.AppendSrc
import Derived.Deep.QuietTactic
import Derived.BigQuiet
import Derived.Lib.Hide
import Derived.Handy
import Derived.OpenShut
import Derived.Test.YtnkbbclcileleaaRows
import Derived.Lib.QuietBelow
import Derived.KernelRfl
import Derived.Deep.RegionLaw
import Derived.Deep.DrawnRows
import Derived.Deep.OwnRows

/- General laws for the walks of this seat: worlds that differ in known blocks alone, slices that are read, slices that are owned, append. Nothing here speaks of one function. -/
namespace Go.Gl
open Go.RowKit

/-- Behind a call: of the blocks that were there only those of S may have turned. -/
structure Mods (S : Nat → Prop) (w w' : World) : Prop where
  os : w'.os = w.os
  tape : w'.tape = w.tape
  output : w'.output = w.output
  size : w.heap.size ≤ w'.heap.size
  block : ∀ k, k < w.heap.size → ¬ S k → w'.heap[k]? = w.heap[k]?

def noB : Nat → Prop := fun _ => False
/-- The block that a slice value leads to. -/
def ofV (v : Value) : Nat → Prop := fun k => v.ownBlock = some k

theorem Mods.refl (S : Nat → Prop) (w : World) : Mods S w w := ⟨rfl, rfl, rfl, Nat.le_refl _, fun _ _ _ => rfl⟩

theorem Mods.trans {S T U : Nat → Prop} {a b c : World} (h : Mods S a b) (k : Mods T b c) (hS : ∀ i, i < a.heap.size → S i → U i) (hT : ∀ i, i < a.heap.size → T i → U i) : Mods U a c :=
  ⟨k.os.trans h.os, k.tape.trans h.tape, k.output.trans h.output, Nat.le_trans h.size k.size, fun i hi hu =>
    (k.block i (Nat.lt_of_lt_of_le hi h.size) (fun ht => hu (hT i hi ht))).trans (h.block i hi (fun hs => hu (hS i hi hs)))⟩

theorem Mods.mono {S T : Nat → Prop} {a b : World} (h : Mods S a b) (hS : ∀ i, i < a.heap.size → S i → T i) : Mods T a b :=
  ⟨h.os, h.tape, h.output, h.size, fun i hi hu => h.block i hi (fun hs => hu (hS i hi hs))⟩

theorem Mods.below {a b : World} (h : Mods noB a b) : Below a.heap.size a b := ⟨h.os, h.tape, h.output, h.size, fun k hk => h.block k hk (fun x => x)⟩
theorem Mods.of_below {a b : World} {B : Nat} (h : Below B a b) (hB : a.heap.size ≤ B) (S : Nat → Prop) : Mods S a b := ⟨h.os, h.tape, h.output, h.size, fun k hk _ => h.block k (by omega)⟩
theorem Mods.drew {S : Nat → Prop} {a b : World} (h : Mods S a b) : Mods S a b.drew := ⟨h.os, h.tape, h.output, h.size, h.block⟩
theorem Mods.drewN {S : Nat → Prop} {a b : World} (h : Mods S a b) (n : Nat) : Mods S a (b.drewN n) := ⟨h.os, h.tape, h.output, h.size, h.block⟩
theorem Mods.alloc {S : Nat → Prop} {a b : World} (h : Mods S a b) (o : Obj) : Mods S a (b.alloc o) :=
  ⟨h.os, h.tape, h.output, by have := h.size; simp; omega, fun k hk hs => (Below.heap_alloc b o k (by have := h.size; omega)).trans (h.block k hk hs)⟩
theorem Mods.setCell {S : Nat → Prop} {a b : World} (h : Mods S a b) {p : Addr} (hp : S p.block ∨ a.heap.size ≤ p.block) (u : Value) : Mods S a (b.setCell p u) :=
  ⟨h.os, h.tape, h.output, by simpa [World.setCell] using h.size, fun k hk hs => (Below.heap_setCell b p u k (by rintro rfl; rcases hp with hp | hp; exact hs hp; omega)).trans (h.block k hk hs)⟩
theorem Mods.setCells {S : Nat → Prop} {a b : World} (h : Mods S a b) {g off : Nat} (hp : S g ∨ a.heap.size ≤ g) (us : List Value) : Mods S a (b.setCells g off us) := by
  induction us generalizing b off with
  | nil => exact h
  | cons u us ih => exact ih (h.setCell hp u)

theorem Mods.cell {S : Nat → Prop} {a b : World} (h : Mods S a b) {p : Addr} (hp : p.block < a.heap.size) (hs : ¬ S p.block) : b.cell? p = a.cell? p := World.cell?_of_block (w := a) (h.block p.block hp hs)
theorem Mods.frozen {S : Nat → Prop} {a b : World} (h : Mods S a b) {p : Addr} (hp : p.block < a.heap.size) (hs : ¬ S p.block) : b.frozen? p = a.frozen? p := World.frozen?_of_block (w := a) (h.block p.block hp hs)

/-- A reading call: the world but for draws. -/
def Quiet (w w' : World) : Prop := ∃ n, w' = w.drewN n
theorem Quiet.mods {w w' : World} (h : Quiet w w') (S : Nat → Prop) : Mods S w w' := by obtain ⟨n, rfl⟩ := h; exact (Mods.refl S w).drewN n
theorem Quiet.refl (w : World) : Quiet w w := ⟨0, rfl⟩
theorem Quiet.more {w w' : World} (h : Quiet w w') {n : Nat} : Quiet w (w'.drewN n) := by obtain ⟨m, rfl⟩ := h; exact ⟨_, World.drewN_drewN ..⟩
theorem Quiet.more1 {w w' : World} (h : Quiet w w') : Quiet w w'.drew := by obtain ⟨m, rfl⟩ := h; exact ⟨m + 1, rfl⟩
theorem Quiet.trans {a b c : World} (h : Quiet a b) (k : Quiet b c) : Quiet a c := by obtain ⟨m, rfl⟩ := k; exact h.more
theorem Quiet.heap {w w' : World} (h : Quiet w w') : w'.heap = w.heap := by obtain ⟨n, rfl⟩ := h; rfl

/-- A block of cells known whole: what its cells read. -/
theorem cells_of {w : World} {g : Nat} {cur : Array Value} {e : TypeId} {fr : Nat × Nat} (h : w.heap[g]? = some (.cells cur e fr)) (o : Nat) : w.cell? ⟨g, o, none⟩ = cur[o]? := by
  simp [World.cell?, h]
theorem free_of {w : World} {g : Nat} {cur : Array Value} {e : TypeId} (h : w.heap[g]? = some (.cells cur e (0, 0))) (o : Nat) : w.frozen? ⟨g, o, none⟩ = false := by
  simp [World.frozen?, h]
theorem lt_of_heap {w : World} {g : Nat} {o : Obj} (h : w.heap[g]? = some o) : g < w.heap.size := (Array.getElem?_eq_some_iff.1 h).1
theorem heap_set {w : World} {g : Nat} {cur : Array Value} {e : TypeId} {fr : Nat × Nat} (h : w.heap[g]? = some (.cells cur e fr)) (o : Nat) (u : Value) :
    (w.setCell ⟨g, o, none⟩ u).heap[g]? = some (.cells (cur.setIfInBounds o u) e fr) := by
  simp [World.setCell, Array.getElem?_modify, h]
theorem heap_set_other {w : World} {a : Addr} {g : Nat} (h : g ≠ a.block) (u : Value) : (w.setCell a u).heap[g]? = w.heap[g]? := Below.heap_setCell w a u g h
theorem heap_new (w : World) (o : Obj) : (w.alloc o).heap[w.heap.size]? = some o := heap_alloc_new w o
theorem heap_old {w : World} {g : Nat} {x : Obj} (h : w.heap[g]? = some x) (o : Obj) : (w.alloc o).heap[g]? = some x := (Below.heap_alloc w o g (lt_of_heap h)).trans h
theorem Mods.heap {S : Nat → Prop} {a b : World} (h : Mods S a b) {g : Nat} {x : Obj} (hg : a.heap[g]? = some x) (hs : ¬ S g) : b.heap[g]? = some x := (h.block g (lt_of_heap hg) hs).trans hg

/-- Bytes as values. -/
def bv (xs : List UInt8) : List Value := xs.map fun b => .int .u8 b.toNat
theorem bv_length (xs : List UInt8) : (bv xs).length = xs.length := by simp [bv]
theorem bv_append (xs ys : List UInt8) : bv (xs ++ ys) = bv xs ++ bv ys := by simp [bv]
theorem bv_get (xs : List UInt8) (i : Nat) (h : i < xs.length) : (bv xs)[i]? = some (.int .u8 (xs[i]).toNat) := by simp [bv, h]
theorem bv_one (xs : List UInt8) : ∀ u ∈ bv xs, u.oneCell' = true := by
  intro u hu
  obtain ⟨b, _, rfl⟩ := List.mem_map.1 hu
  rfl

/-- An empty slice without cells: nil, or one whose address is no cell's own. -/
def Nil0 (v : Value) : Prop := v = .slice none 0 0 ∨ ∃ g off s, v = .slice (some ⟨g, off, some s⟩) 0 0
theorem Nil0.nil : Nil0 (.slice none 0 0) := .inl rfl
theorem Nil0.form {v : Value} (h : Nil0 v) : ∃ a, v = .slice a 0 0 := by
  rcases h with rfl | ⟨g, off, s, rfl⟩
  · exact ⟨_, rfl⟩
  · exact ⟨_, rfl⟩
theorem Nil0.no {g off n c : Nat} (h : Nil0 (.slice (some ⟨g, off, none⟩) n c)) : False := by
  rcases h with h | ⟨g', off', s, h⟩
  · cases h
  · cases h
theorem Nil0.none {a : Option Addr} {n c : Nat} (h : Nil0 (.slice a n c)) : n = 0 ∧ c = 0 := by
  obtain ⟨a', h⟩ := h.form
  cases h
  exact ⟨rfl, rfl⟩

/-- A slice value that reads as these values, 'size' cells an element: its block is known to be there unless it is empty; nothing is said of what stands behind them. -/
def RdG (w : World) (size : Nat) (v : Value) (n : Nat) (xs : List Value) : Prop :=
  xs.length = n * size ∧ ((Nil0 v ∧ n = 0) ∨ ∃ g off cap, v = .slice (some ⟨g, off, none⟩) n cap ∧ n ≤ cap ∧ cap ≤ maxLen ∧ (n = 0 ∨ g < w.heap.size) ∧ ∀ j u, xs[j]? = some u → w.cell? ⟨g, off + j, none⟩ = some u)

/-- A slice value that may be appended to and written: its block is of its element type, and no part of it is frozen. -/
def OwnG (w : World) (e : TypeId) (size : Nat) (v : Value) (n : Nat) (xs : List Value) : Prop :=
  xs.length = n * size ∧ ((v = .slice none 0 0 ∧ n = 0) ∨ ∃ g off cap cur, v = .slice (some ⟨g, off, none⟩) n cap ∧ w.heap[g]? = some (.cells cur e (0, 0)) ∧ n ≤ cap ∧ cap ≤ maxLen ∧ off + cap * size ≤ cur.size ∧
    ∀ j u, xs[j]? = some u → cur[off + j]? = some u)

theorem OwnG.rd {w : World} {e size n : Nat} {v : Value} {xs : List Value} (h : OwnG w e size v n xs) : RdG w size v n xs := by
  refine ⟨h.1, ?_⟩
  rcases h.2 with ⟨rfl, h2⟩ | ⟨g, off, cap, cur, hv, hg, h1, h2, _, h3⟩
  · exact .inl ⟨.nil, h2⟩
  · exact .inr ⟨g, off, cap, hv, h1, h2, .inr (lt_of_heap hg), fun j u hj => (cells_of hg _).trans (h3 j u hj)⟩

theorem RdG.form {w : World} {size n : Nat} {v : Value} {xs : List Value} (h : RdG w size v n xs) : ∃ a cap, v = .slice a n cap ∧ n ≤ maxLen := by
  rcases h.2 with ⟨h0, rfl⟩ | ⟨g, off, cap, rfl, h1, h2, _⟩
  · obtain ⟨a, rfl⟩ := h0.form
    exact ⟨a, 0, rfl, by simp [maxLen]⟩
  · exact ⟨_, cap, rfl, Nat.le_trans h1 h2⟩

/-- what turned does not reach the slice's block, if that was there -/
theorem RdG.keepL {S : Nat → Prop} {w w' : World} {size n : Nat} {v : Value} {xs : List Value} (h : RdG w size v n xs) (hm : Mods S w w') (hs : ∀ k, k < w.heap.size → v.ownBlock = some k → ¬ S k) : RdG w' size v n xs := by
  refine ⟨h.1, ?_⟩
  rcases h.2 with h2 | ⟨g, off, cap, rfl, h1, h2, hg, h3⟩
  · exact .inl h2
  · refine .inr ⟨g, off, cap, rfl, h1, h2, hg.imp id (fun x => Nat.lt_of_lt_of_le x hm.size), fun j u hj => ?_⟩
    rcases hg with hg | hg
    · have h4 := h.1
      rw [hg, Nat.zero_mul] at h4
      rw [List.eq_nil_of_length_eq_zero h4] at hj
      simp at hj
    · exact (hm.cell (p := ⟨g, off + j, none⟩) hg (hs g hg rfl)).trans (h3 j u hj)
theorem RdG.keep {S : Nat → Prop} {w w' : World} {size n : Nat} {v : Value} {xs : List Value} (h : RdG w size v n xs) (hm : Mods S w w') (hs : ∀ k, v.ownBlock = some k → ¬ S k) : RdG w' size v n xs := h.keepL hm (fun k _ => hs k)

theorem OwnG.keep {S : Nat → Prop} {w w' : World} {e size n : Nat} {v : Value} {xs : List Value} (h : OwnG w e size v n xs) (hm : Mods S w w') (hs : ∀ k, v.ownBlock = some k → ¬ S k) : OwnG w' e size v n xs := by
  refine ⟨h.1, ?_⟩
  rcases h.2 with h2 | ⟨g, off, cap, cur, rfl, hg, rest⟩
  · exact .inl h2
  · exact .inr ⟨g, off, cap, cur, rfl, hm.heap hg (hs g rfl), rest⟩

theorem OwnG.lt {w : World} {e : TypeId} {size n : Nat} {v : Value} {xs : List Value} (h : OwnG w e size v n xs) : ∀ k, v.ownBlock = some k → k < w.heap.size := by
  intro k hk
  rcases h.2 with ⟨rfl, _⟩ | ⟨g, off, cap, cur, rfl, hg, _⟩
  · simp [Value.ownBlock] at hk
  · have := lt_of_heap hg
    simp [Value.ownBlock] at hk
    omega
theorem RdG.ltn {w : World} {size n : Nat} {v : Value} {xs : List Value} (h : RdG w size v n xs) (hn : n ≠ 0) : ∀ k, v.ownBlock = some k → k < w.heap.size := by
  intro k hk
  rcases h.2 with ⟨_, h0⟩ | ⟨g, off, cap, rfl, _, _, hg, _⟩
  · exact absurd h0 hn
  · have := hg.resolve_left hn
    simp [Value.ownBlock] at hk
    omega

def Rd (w : World) (v : Value) (xs : List UInt8) : Prop := RdG w 1 v xs.length (bv xs)
def Own (w : World) (v : Value) (xs : List UInt8) : Prop := OwnG w 5 1 v xs.length (bv xs)

theorem Own.rd {w : World} {v : Value} {xs : List UInt8} (h : Own w v xs) : Rd w v xs := OwnG.rd h
theorem Rd.nil (w : World) : Rd w (.slice none 0 0) [] := ⟨rfl, .inl ⟨.nil, rfl⟩⟩
theorem Own.nil (w : World) : Own w (.slice none 0 0) [] := ⟨rfl, .inl ⟨rfl, rfl⟩⟩
theorem Rd.form {w : World} {v : Value} {xs : List UInt8} (h : Rd w v xs) : ∃ a cap, v = .slice a xs.length cap ∧ xs.length ≤ maxLen := RdG.form h
theorem Rd.keep {S : Nat → Prop} {w w' : World} {v : Value} {xs : List UInt8} (h : Rd w v xs) (hm : Mods S w w') (hs : ∀ k, v.ownBlock = some k → ¬ S k) : Rd w' v xs := RdG.keep h hm hs
theorem Own.keep {S : Nat → Prop} {w w' : World} {v : Value} {xs : List UInt8} (h : Own w v xs) (hm : Mods S w w') (hs : ∀ k, v.ownBlock = some k → ¬ S k) : Own w' v xs := OwnG.keep h hm hs
theorem Rd.quiet {w w' : World} {v : Value} {xs : List UInt8} (h : Rd w v xs) (hq : Quiet w w') : Rd w' v xs := h.keep (hq.mods noB) (fun _ _ x => x)
theorem Own.quiet {w w' : World} {v : Value} {xs : List UInt8} (h : Own w v xs) (hq : Quiet w w') : Own w' v xs := h.keep (hq.mods noB) (fun _ _ x => x)
theorem Rd.ltn {w : World} {v : Value} {xs : List UInt8} (h : Rd w v xs) (hn : xs.length ≠ 0) : ∀ k, v.ownBlock = some k → k < w.heap.size := RdG.ltn h hn
theorem Rd.keepL {S : Nat → Prop} {w w' : World} {v : Value} {xs : List UInt8} (h : Rd w v xs) (hm : Mods S w w') (hs : ∀ k, k < w.heap.size → v.ownBlock = some k → ¬ S k) : Rd w' v xs := RdG.keepL h hm hs
theorem Own.lt {w : World} {v : Value} {xs : List UInt8} (h : Own w v xs) : ∀ k, v.ownBlock = some k → k < w.heap.size := OwnG.lt h

theorem Rd.any {w w' : World} {v : Value} (h : Rd w v []) : Rd w' v [] := by
  refine ⟨rfl, ?_⟩
  rcases h.2 with h2 | ⟨g, off, cap, hv, h1, h2, hg, h3⟩
  · exact .inl h2
  · exact .inr ⟨g, off, cap, hv, h1, h2, .inl rfl, fun j u hj => by simp [bv] at hj⟩

/-- A byte slice that is read, opened: nil, or an address whose cells are its bytes. -/
theorem Rd.open {w : World} {v : Value} {xs : List UInt8} (h : Rd w v xs) :
    (Nil0 v ∧ xs = []) ∨ ∃ g off cap, v = .slice (some ⟨g, off, none⟩) xs.length cap ∧ xs.length ≤ cap ∧ cap ≤ maxLen ∧ (xs.length = 0 ∨ g < w.heap.size) ∧ ∀ i (hi : i < xs.length), w.cell? ⟨g, off + i, none⟩ = some (.int .u8 (xs[i]).toNat) := by
  rcases h.2 with ⟨h0, hn⟩ | ⟨g, off, cap, hv, h1, h2, hg, h3⟩
  · exact .inl ⟨h0, List.eq_nil_of_length_eq_zero hn⟩
  · exact .inr ⟨g, off, cap, hv, h1, h2, hg, fun i hi => h3 i _ (bv_get xs i hi)⟩

/-- A new slice: its block was not there in w. -/
def freshIn (w : World) (v : Value) : Prop := ∀ k, v.ownBlock = some k → w.heap.size ≤ k

theorem freshIn.not {w : World} {v : Value} (h : freshIn w v) {k : Nat} (hk : k < w.heap.size) : v.ownBlock ≠ some k := fun e => by have := h k e; omega

/-- A stop for the walk: what stands behind it is not looked into. -/
def Stop (p : Prop) : Prop := p
theorem stop {p : Prop} (h : Stop p) : p := h

/-- The cells of a slice that is read, as 'firstCells' yields them. -/
theorem RdG.src {P : Program} {w : World} {size n : Nat} {v : Value} {xs : List Value} (h : RdG w size v n xs) (h1 : ∀ u ∈ xs, u.oneCell' = true) {t e' : TypeId} (hk : P.underlying t = some (.slice e')) : Src P size t v n xs w := by
  rcases h.2 with ⟨h0, rfl⟩ | ⟨g, off, cap, rfl, _, _, hg, h3⟩
  · obtain rfl : xs = [] := List.eq_nil_of_length_eq_zero (by simpa using h.1)
    rcases h0 with rfl | ⟨g, off, s, rfl⟩
    · exact Src.ofNil w hk 0
    · exact Src.ofSlice w hk _ 0 0 [] (by simp) (fun j u hj => by simp at hj) h1
  · exact Src.ofSlice w hk _ n cap xs h.1 (fun j u hj => by rw [show (⟨g, off, none⟩ : Addr).add j = ⟨g, off + j, none⟩ from Addr.add_lit ..]; exact h3 j u hj) h1

/-- 'append(s, x...)', s owned, x read: whichever way it goes. -/
theorem run_ap {P : Program} {w : World} (t tx ty e e' : TypeId) (i : TypeInfo) (z : Value) (ht : P.underlying t = some (.slice e)) (htx : P.underlying tx = some (.slice e')) (hi : P.info? e = some i) (hz : i.zero = some z) (hzs : z.cells.size = i.size)
    {v : Value} {n : Nat} {xs : List Value} (hown : OwnG w e i.size v n xs) {u : Value} {m : Nat} {ys : List Value} (hrd : RdG w i.size u m ys) (h1 : ∀ y ∈ ys, y.oneCell' = true) (hlen : n + m ≤ maxLen) (hb : (n + m) * i.bytes ≤ 140737488355328) :
    ∃ v' w', (Builtin.append_ #[t, tx] ty #[v, u]).run P w = .ok v' w' ∧ OwnG w' e i.size v' (n + m) (xs ++ ys) ∧ Mods (ofV v) w w' ∧ (v'.ownBlock = v.ownBlock ∨ freshIn w v') := by
  have hlen' : (xs ++ ys).length = (n + m) * i.size := by rw [List.length_append, hown.1, hrd.1, Nat.add_mul]
  have hs := hrd.src (P := P) h1 htx
  have grow : ∀ (base : Option Addr) (sCap : Nat), v = .slice base n sCap → sCap < n + m → (Builtin.firstCells i.size n (.slice base n sCap)).run P w.drew = .ok xs.toArray w.drew →
      ∃ v' w', (Builtin.append_ #[t, tx] ty #[v, u]).run P w = .ok v' w' ∧ OwnG w' e i.size v' (n + m) (xs ++ ys) ∧ Mods (ofV v) w w' ∧ (v'.ownBlock = v.ownBlock ∨ freshIn w v') := by
    intro base sCap hv hg hold
    subst hv
    have hge := grownCap_ge w (n + m) sCap e
    refine ⟨_, _, run_append_grow_src w t tx ty e i z ht hi hz base n sCap xs hold u m ys hs hg (by simp only [maxLen] at hlen; omega) (growslice_fits hg hb), ⟨hlen', .inr ⟨w.heap.size, 0, _, _, rfl, heap_alloc_new w.drew _, hge, grownCap_le_maxLen w _ _ e hlen, ?_, ?_⟩⟩, ((Mods.refl _ w).drew).alloc _, .inr ?_⟩
    · simp only [Array.size_append, List.size_toArray, size_zeroCells, hzs, hlen', ← Nat.add_mul]
      rw [Nat.zero_add]
      exact Nat.mul_le_mul_right _ (by omega)
    · intro j x hj
      have hjl : j < (xs ++ ys).length := (List.getElem?_eq_some_iff.1 hj).1
      rw [Nat.zero_add, Array.getElem?_append_left (by simpa using hjl)]
      simpa using hj
    · intro k hk
      simp [Value.ownBlock] at hk
      omega
  rcases hown.2 with ⟨hv, rfl⟩ | ⟨g, off, cap, cur, rfl, hg, h3, h4, h5, h6⟩
  · obtain rfl : xs = [] := List.eq_nil_of_length_eq_zero (by simpa using hown.1)
    by_cases hm : m = 0
    · subst hm
      obtain rfl : ys = [] := List.eq_nil_of_length_eq_zero (by simpa using hrd.1)
      subst hv
      refine ⟨.slice none 0 0, w, ?_, ⟨by simp, .inl ⟨rfl, rfl⟩⟩, Mods.refl _ _, .inl rfl⟩
      simp [Builtin.append_, run_underlying ht, run_underlying htx, sizeOf, typeInfo, hi, hs.len, hs.cells]
    · exact grow none 0 hv (by omega) (run_firstCells_none w.drew i.size 0 0 0)
  · by_cases hroom : n + m ≤ cap
    · have hmul : (n + m) * i.size ≤ cap * i.size := Nat.mul_le_mul_right _ hroom
      have hnm : (n + m) * i.size = n * i.size + ys.length := by rw [Nat.add_mul, hrd.1]
      have hr := run_append_room_src (P := P) w t tx ty e i ht hi g off n cap u m ys hs hroom
        (fun j hj => by rw [cells_of hg, Array.getElem?_eq_getElem (by omega)]; rfl) (fun j hj => free_of hg _)
      have hset : ∀ (l : List Value) (c : Array Value) (o : Nat) (w1 : World), w1.heap[g]? = some (.cells c e (0, 0)) → o + l.length ≤ c.size →
          ∃ c', (w1.setCells g o l).heap[g]? = some (.cells c' e (0, 0)) ∧ c'.size = c.size ∧ (∀ j, j < o → c'[j]? = c[j]?) ∧ (∀ j, j < l.length → c'[o + j]? = l[j]?) := by
        intro l
        induction l with
        | nil => intro c o w1 h _; exact ⟨c, h, rfl, fun _ _ => rfl, fun j hj => by simp at hj⟩
        | cons x l ih =>
          intro c o w1 h hl
          simp only [List.length_cons] at hl
          obtain ⟨c', h1', h2', h3', h4'⟩ := ih (c.setIfInBounds o x) (o + 1) (w1.setCell ⟨g, o, none⟩ x) (heap_set h o x) (by simp; omega)
          refine ⟨c', h1', by simpa using h2', fun j hj => ?_, fun j hj => ?_⟩
          · rw [h3' j (by omega), Array.getElem?_setIfInBounds_ne (by omega)]
          · rcases j with _ | j
            · rw [Nat.add_zero, h3' o (by omega)]
              simp [show o < c.size from by omega]
            · have := h4' j (by simpa using hj)
              rw [show o + (j + 1) = o + 1 + j from by omega, this]
              simp
      obtain ⟨c', k1, k2, k3, k4⟩ := hset ys cur (off + n * i.size) w hg (by omega)
      refine ⟨_, _, hr, ⟨hlen', .inr ⟨g, off, cap, c', rfl, k1, hroom, h4, by omega, ?_⟩⟩, (Mods.refl (ofV (.slice (some ⟨g, off, none⟩) n cap)) w).setCells (.inl (by rfl)) ys, .inl rfl⟩
      intro j x hj
      by_cases hjn : j < xs.length
      · rw [List.getElem?_append_left hjn] at hj
        rw [k3 _ (by have := hown.1; omega)]
        exact h6 j x hj
      · rw [List.getElem?_append_right (by omega)] at hj
        have hjy : j - xs.length < ys.length := (List.getElem?_eq_some_iff.1 hj).1
        have := k4 (j - xs.length) hjy
        rw [show off + n * i.size + (j - xs.length) = off + j from by have := hown.1; omega] at this
        rw [this]
        exact hj
    · refine grow (some ⟨g, off, none⟩) cap rfl (by omega) (run_firstCells_some w.drew i.size n _ n cap xs hown.1 (fun j x hj => ?_))
      rw [show (⟨g, off, none⟩ : Addr).add j = ⟨g, off + j, none⟩ from Addr.add_lit ..]
      show w.drew.cell? _ = _
      exact (cells_of (w := w.drew) hg _).trans (h6 j x hj)

theorem wpList_ap {P : Program} {ops : Array Oper} {Q : Exit → Act → World → Prop} {rest : List Oper} {o : Oper} {a : Act} {w : World} {s x : Operand} {t tx : TypeId} (hgd : o.guard = none)
    (ho : o.op = .call { callee := .builtin .append, args := #[s, x], argTypes := #[t, tx] }) {e e' : TypeId} {i : TypeInfo} {z : Value} (ht : P.underlying t = some (.slice e)) (htx : P.underlying tx = some (.slice e')) (hi : P.info? e = some i) (hz : i.zero = some z) (hzs : z.cells.size = i.size)
    {v : Value} {n : Nat} {xs : List Value} (hs : a.eval s = v) (hown : OwnG w e i.size v n xs) {u : Value} {m : Nat} {ys : List Value} (hx : a.eval x = u) (hrd : RdG w i.size u m ys) (h1 : ∀ y ∈ ys, y.oneCell' = true) (hlen : n + m ≤ maxLen) (hb : (n + m) * i.bytes ≤ 140737488355328)
    (h : ∀ v' w', OwnG w' e i.size v' (n + m) (xs ++ ys) → Mods (ofV v) w w' → (v'.ownBlock = v.ownBlock ∨ freshIn w v') → wpList P ops Q rest (a.put o.dst v') w') : wpList P ops Q (o :: rest) a w := by
  refine wpList_plain hgd fun K hK => ?_
  obtain ⟨v', w', hr, h2, h3, h4⟩ := run_ap (P := P) t tx o.type e e' i z ht htx hi hz hzs hown hrd h1 hlen hb
  unfold Oper.wp execOp
  simp only [ho, resolve, invoke, builtin, Sem.run_bind, Sem.run_pure, Result.andThen_ok, List.map_toArray, List.map_cons, List.map_nil, hs, hx, hr]
  exact hK _ _ (h v' w' h2 h3 h4)

theorem Own.alloc {w : World} {v : Value} {xs : List UInt8} (h : Own w v xs) (o : Obj) : Own (w.alloc o) v xs := h.keep ((Mods.refl noB w).alloc o) (fun _ _ x => x)
theorem Rd.alloc {w : World} {v : Value} {xs : List UInt8} (h : Rd w v xs) (o : Obj) : Rd (w.alloc o) v xs := h.keep ((Mods.refl noB w).alloc o) (fun _ _ x => x)

theorem own_at (c : UInt8) {w : World} (n : Nat) (hn : n = w.heap.size) : Own (w.alloc (.cells #[.int .u8 c.toNat] 5)) (.slice (some ⟨n, 0, none⟩) 1 1) [c] := by
  subst hn
  refine ⟨rfl, .inr ⟨_, 0, 1, _, rfl, heap_new _ _, Nat.le_refl _, by simp [maxLen], by simp, fun j u hj => ?_⟩⟩
  rw [Nat.zero_add]
  simpa [bv] using hj

theorem Mods.cellAt {S : Nat → Prop} {a b : World} (h : Mods S a b) {g : Nat} (hg : g < a.heap.size) (hs : ¬ S g) (o : Nat) : b.cell? ⟨g, o, none⟩ = a.cell? ⟨g, o, none⟩ := h.cell (p := ⟨g, o, none⟩) hg hs
theorem Mods.frozenAt {S : Nat → Prop} {a b : World} (h : Mods S a b) {g : Nat} (hg : g < a.heap.size) (hs : ¬ S g) (o : Nat) : b.frozen? ⟨g, o, none⟩ = a.frozen? ⟨g, o, none⟩ := h.frozen (p := ⟨g, o, none⟩) hg hs

theorem ofV_some {g off n cap i : Nat} (h : ofV (.slice (some ⟨g, off, none⟩) n cap) i) : i = g := by
  simp [ofV, Value.ownBlock] at h
  omega
theorem ofV_nil {i : Nat} (h : ofV (.slice none 0 0) i) : False := by simp [ofV, Value.ownBlock] at h

/-- '^x' on a uint64. -/
theorem not_u64 (x : Int) (h0 : 0 ≤ x) (h1 : x ≤ 18446744073709551615) : bits .xor .u64 IntKind.u64.max x = 18446744073709551615 - x := by
  obtain ⟨n, rfl⟩ := Int.eq_ofNat_of_zero_le h0
  have hm : IntKind.u64.max = ((18446744073709551615 : Nat) : Int) := rfl
  rw [hm, bits_xor_u64_nat _ _ (by omega) (by omega)]
  have h2 : n < 2 ^ 64 := by omega
  have h3 : (18446744073709551615 ^^^ n : Nat) = (BitVec.allOnes 64 ^^^ BitVec.ofNat 64 n).toNat := by
    rw [BitVec.toNat_xor, BitVec.toNat_ofNat, Nat.mod_eq_of_lt h2]
    rfl
  rw [h3, BitVec.allOnes_xor, BitVec.toNat_not, BitVec.toNat_ofNat, Nat.mod_eq_of_lt h2]
  omega

/-- 'x<<8 | c' while it fits. -/
theorem shl_or_u64 (x c : Int) (h0 : 0 ≤ x) (h1 : x < 72057594037927936) (h2 : 0 ≤ c) (h3 : c < 256) : bits .or .u64 (x * 256) c = x * 256 + c := by
  obtain ⟨n, rfl⟩ := Int.eq_ofNat_of_zero_le h0
  obtain ⟨k, rfl⟩ := Int.eq_ofNat_of_zero_le h2
  have hx : ((n : Int) * 256) = ((n * 256 : Nat) : Int) := by simp
  rw [hx]
  unfold bits
  have e1 : (BitVec.ofInt 64 ((n * 256 : Nat) : Int)) = BitVec.ofNat 64 (n * 256) := BitVec.ofInt_natCast ..
  have e2 : (BitVec.ofInt 64 ((k : Nat) : Int)) = BitVec.ofNat 64 k := BitVec.ofInt_natCast ..
  have h4 : (n * 256) ||| k = n * 256 + k := by
    have := Nat.shiftLeft_add_eq_or_of_lt (b := k) (i := 8) (by omega) n
    rw [Nat.shiftLeft_eq] at this
    simpa using this.symm
  show IntKind.u64.wrap (((BitVec.ofInt 64 ((n * 256 : Nat) : Int)) ||| (BitVec.ofInt 64 ((k : Nat) : Int))).toNat : Int) = _
  rw [e1, e2, BitVec.toNat_or, BitVec.toNat_ofNat, BitVec.toNat_ofNat, Nat.mod_eq_of_lt (by omega), Nat.mod_eq_of_lt (by omega), h4, IntKind.wrap_u64]
  omega

end Go.Gl

/- This seat's program: what its tables say of bytes, and append on byte slices. -/
namespace Go.Proofs.Ytnkbbclcileleaa
open Go.Gl Go.RowKit
set_option linter.unusedVariables false

theorem Try.infoU8 : (Try.prog.info? 5).map (fun i => (i.zero, i.size, i.bytes)) = some (some (.int .u8 0), 1, 1) := by kernel_rfl

theorem wpList_apb {ops : Array Oper} {Q : Exit → Act → World → Prop} {rest : List Oper} {o : Oper} {a : Act} {w : World} {s x : Operand} (hgd : o.guard = none)
    (ho : o.op = .call { callee := .builtin .append, args := #[s, x], argTypes := #[50, 50] })
    {v u : Value} (xs ys : List UInt8) (hown : Own w v xs) (hrd : Rd w u ys) (hs : a.eval s = v) (hx : a.eval x = u) (hlen : xs.length + ys.length ≤ 140737488355328)
    (h : ∀ v' w', Own w' v' (xs ++ ys) → Mods (ofV v) w w' → (v'.ownBlock = v.ownBlock ∨ freshIn w v') → wpList Try.prog ops Q rest (a.put o.dst v') w') : wpList Try.prog ops Q (o :: rest) a w := by
  obtain ⟨i, hi, hz, hs1, hb1⟩ := info_parts Try.infoU8
  refine wpList_ap hgd ho Try.underlying50 Try.underlying50 hi hz (by rw [hs1]; rfl) hs (by rw [hs1]; exact hown) hx (by rw [hs1]; exact hrd) (bv_one _) (by simp only [maxLen]; omega) (by rw [hb1]; omega) ?_
  intro v' w' h1 h2 h3
  refine h v' w' ?_ h2 h3
  rw [hs1] at h1
  unfold Own
  rw [bv_append, List.length_append]
  exact h1

end Go.Proofs.Ytnkbbclcileleaa

/- More general laws: a region that draws its order beside calls that make memory; results. -/
namespace Go.Gl
open Go.RowKit Go.Sort

theorem cells_regrown {w : World} {g : Nat} {arr : Array Value} (h : ∀ o, w.cell? ⟨g, o, none⟩ = arr[o]?) (hg : g < w.heap.size) (d : Nat) (os : Array Obj) (o : Nat) : (grow (redrawn w d) os).cell? ⟨g, o, none⟩ = arr[o]? := by
  rw [(below_regrown w d os).cell (p := ⟨g, o, none⟩) hg]; exact h o

theorem mods_regrown (w : World) (d : Nat) (os : Array Obj) : Mods noB w (grow (redrawn w d) os) := Mods.of_below (below_regrown w d os) (Nat.le_refl _) _

/-- A callee that only makes memory, met in such a region. -/
theorem Calls.quiet_mods {P : Program} {f : FuncId} {args : Array Value} {w : World} {d : Nat} {os : Array Obj} {v : Value}
    (h : Calls P f args (grow (redrawn w d) os) fun e w' => e = .returned v ∧ Mods noB (grow (redrawn w d) os) w') : Calls P f args (grow (redrawn w d) os) fun e w'' => e = .returned v ∧ ∃ p : Regrown, w'' = grow (redrawn w p.d) p.os :=
  Calls.regrown_of (h.mono fun _ _ ⟨he, hb⟩ => ⟨he, hb.below⟩)

theorem Calls.quiet_q {P : Program} {f : FuncId} {args : Array Value} {w : World} {d : Nat} {os : Array Obj} {v : Value}
    (h : Calls P f args (grow (redrawn w d) os) fun e w' => e = .returned v ∧ Quiet (grow (redrawn w d) os) w') : Calls P f args (grow (redrawn w d) os) fun e w'' => e = .returned v ∧ ∃ p : Regrown, w'' = grow (redrawn w p.d) p.os :=
  Calls.quiet_mods (h.mono fun _ _ ⟨he, hb⟩ => ⟨he, hb.mods noB⟩)

theorem Rd.regrown {w : World} {v : Value} {xs : List UInt8} (h : Rd w v xs) (d : Nat) (os : Array Obj) : Rd (grow (redrawn w d) os) v xs := h.keep (mods_regrown w d os) (fun _ _ x => x)
theorem Own.regrown {w : World} {v : Value} {xs : List UInt8} (h : Own w v xs) (d : Nat) (os : Array Obj) : Own (grow (redrawn w d) os) v xs := h.keep (mods_regrown w d os) (fun _ _ x => x)

theorem Mods.regrown {S : Nat → Prop} {a b : World} (h : Mods S a b) (d : Nat) (os : Array Obj) : Mods S a (grow (redrawn b d) os) := h.trans (mods_regrown b d os) (fun _ _ x => x) (fun _ _ x => x.elim)
theorem Mods.after {S : Nat → Prop} {w w1 : World} {o : Obj} (h : Mods S (w.alloc o) w1) : Mods S w w1 := ((Mods.refl S w).alloc o).trans h (fun _ _ x => x) (fun _ _ x => x)
theorem Mods.then0 {S : Nat → Prop} {a b c : World} (h : Mods S a b) (k : Mods noB b c) : Mods S a c := h.trans k (fun _ _ x => x) (fun _ _ x => x.elim)
theorem Mods.size_of {S : Nat → Prop} {a b : World} (h : Mods S a b) {n : Nat} (hn : n < a.heap.size) : n < b.heap.size := Nat.lt_of_lt_of_le hn h.size
theorem freshIn.of {w w1 : World} {v : Value} (h : freshIn w1 v) (hs : w.heap.size ≤ w1.heap.size) : freshIn w v := fun k hk => Nat.le_trans hs (h k hk)

theorem Rd.at {w : World} {v : Value} {xs : List UInt8} (h : Rd w v xs) : ∃ a cap, v = .slice a xs.length cap ∧ xs.length ≤ maxLen ∧ (xs.length = 0 ∨ ∃ g off, a = some ⟨g, off, none⟩ ∧ ∀ i (hi : i < xs.length), w.cell? ⟨g, off + i, none⟩ = some (.int .u8 (xs[i]).toNat)) := by
  rcases h.open with ⟨h0, rfl⟩ | ⟨g, off, cap, rfl, h1, h2, _, h3⟩
  · obtain ⟨a, rfl⟩ := h0.form
    exact ⟨a, 0, rfl, by simp, .inl rfl⟩
  · exact ⟨_, cap, rfl, by omega, .inr ⟨g, off, rfl, h3⟩⟩

theorem Rd.take {w : World} {g off n cap : Nat} {xs : List UInt8} (h : Rd w (.slice (some ⟨g, off, none⟩) xs.length cap) xs) (hn : n ≤ xs.length) : Rd w (.slice (some ⟨g, off, none⟩) n cap) (xs.take n) := by
  rcases h.open with ⟨h1, _⟩ | ⟨g', off', cap', h1, h2, h3, h4, h5⟩
  · exact h1.no.elim
  · cases h1
    refine ⟨by rw [bv_length, Nat.mul_one], .inr ⟨_, _, _, by rw [List.length_take, Nat.min_eq_left hn], by rw [List.length_take]; omega, h3, h4.imp (fun x => by rw [List.length_take]; omega) id, fun j u hj => ?_⟩⟩
    have hj' : j < (xs.take n).length := by have := (List.getElem?_eq_some_iff.1 hj).1; simpa [bv_length] using this
    rw [bv_get _ j hj'] at hj
    rw [← hj, h5 j (by rw [List.length_take] at hj'; omega)]
    simp

theorem Rd.at' {w : World} {v : Value} {xs : List UInt8} (h : Rd w v xs) : ∃ a cap, v = .slice a xs.length cap ∧ xs.length ≤ cap ∧ cap ≤ maxLen ∧ (xs.length ≠ 0 → ∀ k, v.ownBlock = some k → k < w.heap.size) ∧ (xs.length = 0 ∨ ∃ g off, a = some ⟨g, off, none⟩ ∧ ∀ i (hi : i < xs.length), w.cell? ⟨g, off + i, none⟩ = some (.int .u8 (xs[i]).toNat)) := by
  rcases h.open with ⟨h0, rfl⟩ | ⟨g, off, cap, rfl, h1, h2, h5, h3⟩
  · obtain ⟨a, rfl⟩ := h0.form
    exact ⟨a, 0, rfl, by simp, by simp, fun hn => absurd rfl hn, .inl rfl⟩
  · exact ⟨_, cap, rfl, h1, h2, fun hn k hk => by have := h5.resolve_left hn; simp [Value.ownBlock] at hk; omega, .inr ⟨g, off, rfl, h3⟩⟩

theorem Rd.take' {w : World} {g off n m cap : Nat} {xs : List UInt8} (h : Rd w (.slice (some ⟨g, off, none⟩) m cap) xs) (hm : xs.length = m) (hn : n ≤ m) : Rd w (.slice (some ⟨g, off, none⟩) n cap) (xs.take n) := by
  subst hm
  exact h.take hn

theorem Own.open {w : World} {v : Value} {xs : List UInt8} (h : Own w v xs) :
    (v = .slice none 0 0 ∧ xs = []) ∨ ∃ g off cap cur, v = .slice (some ⟨g, off, none⟩) xs.length cap ∧ w.heap[g]? = some (.cells cur 5 (0, 0)) ∧ xs.length ≤ cap ∧ cap ≤ maxLen ∧ off + cap ≤ cur.size ∧ ∀ i (hi : i < xs.length), cur[off + i]? = some (.int .u8 (xs[i]).toNat) := by
  rcases h.2 with ⟨rfl, hn⟩ | ⟨g, off, cap, cur, hv, h1, h2, h3, h4, h5⟩
  · exact .inl ⟨rfl, List.eq_nil_of_length_eq_zero hn⟩
  · exact .inr ⟨g, off, cap, cur, hv, h1, h2, h3, by omega, fun i hi => h5 i _ (bv_get xs i hi)⟩

theorem own_of {w : World} {g off cap n : Nat} {cur : Array Value} {xs : List UInt8} (hn : xs.length = n) (h1 : w.heap[g]? = some (.cells cur 5 (0, 0))) (h2 : n ≤ cap) (h3 : cap ≤ maxLen) (h4 : off + cap ≤ cur.size)
    (h5 : ∀ i (hi : i < xs.length), cur[off + i]? = some (.int .u8 (xs[i]).toNat)) : Own w (.slice (some ⟨g, off, none⟩) n cap) xs := by
  subst hn
  refine ⟨by simp [bv_length], .inr ⟨g, off, cap, cur, rfl, h1, h2, h3, by omega, fun j u hj => ?_⟩⟩
  have hj' : j < xs.length := by have := (List.getElem?_eq_some_iff.1 hj).1; simpa [bv_length] using this
  rw [bv_get xs j hj'] at hj
  rw [← hj]
  exact h5 j hj'

theorem Rd.sub {w : World} {g off cap : Nat} {xs : List UInt8} (h : Rd w (.slice (some ⟨g, off, none⟩) xs.length cap) xs) (i n cap' : Nat) (hi : i + n ≤ xs.length) (hc : n ≤ cap') (hc' : cap' ≤ maxLen) : Rd w (.slice (some ⟨g, off + i, none⟩) n cap') ((xs.drop i).take n) := by
  have hl : ((xs.drop i).take n).length = n := by rw [List.length_take, List.length_drop]; omega
  rcases h.open with ⟨h1, _⟩ | ⟨g', off', cap'', h1, h2, h3, h4, h5⟩
  · exact h1.no.elim
  · cases h1
    refine ⟨by rw [bv_length, Nat.mul_one], .inr ⟨_, _, _, by rw [hl], by rw [hl]; exact hc, hc', h4.imp (fun x => by rw [hl]; omega) id, fun j u hj => ?_⟩⟩
    have hj' : j < ((xs.drop i).take n).length := by have := (List.getElem?_eq_some_iff.1 hj).1; simpa [bv_length] using this
    rw [bv_get _ j hj'] at hj
    rw [← hj, Nat.add_assoc, h5 (i + j) (by omega)]
    simp

theorem Rd.addr {w : World} {a : Option Addr} {n c : Nat} {xs : List UInt8} (h : Rd w (.slice a n c) xs) (hn : n ≠ 0) : ∃ g off, a = some ⟨g, off, none⟩ := by
  rcases h.open with ⟨h1, _⟩ | ⟨g, off, cap, h1, _⟩
  · exact absurd h1.none.1 hn
  · cases h1; exact ⟨g, off, rfl⟩

/-- A whole struct or array stored into a block that is known: the block is known behind it. -/
theorem wpList_store_blk {P : Program} {ops : Array Oper} {rest : List Oper} {o : Oper} {a : Act} {w : World} {Q : Exit → Act → World → Prop} {ty : TypeId} {x y : Operand} {g : Nat} {cells old : Array Value} {t : TypeId} (hgd : o.guard = none) (ho : o.op = .store ty x y)
    (hg : w.heap[g]? = some (.cells old t (0, 0))) (hx : a.eval x = .pointer (some ⟨g, 0, none⟩)) (hy : a.eval y = .agg cells) (hi : (P.info? ty).map (·.size) = some cells.size)
    (hold : old.size = cells.size) (h1 : cells.toList.all (·.oneCell') = true)
    (h : ∀ w', w'.heap[g]? = some (.cells cells t (0, 0)) → Mods (fun k => k = g) w w' → w'.heap.size = w.heap.size → wpList P ops Q rest (a.put o.dst undef) w') : wpList P ops Q (o :: rest) a w := by
  refine wpList_store_row hgd ty x y ho g cells hx hy t old hg hi hold (by rw [← h1, Array.all_toList]) (h _ (setRow_heap w g old cells t _ hg) ⟨rfl, rfl, rfl, by simp, fun k _ hk => setRow_other w g k _ (fun e => hk (by first | exact e | exact e.symm))⟩ (by simp))

/-- 'append' where there is no room: a new row, and nothing that was there has turned. -/
theorem run_ap_grow {P : Program} {w : World} (t tx ty e e' : TypeId) (i : TypeInfo) (z : Value) (ht : P.underlying t = some (.slice e)) (htx : P.underlying tx = some (.slice e')) (hi : P.info? e = some i) (hz : i.zero = some z) (hzs : z.cells.size = i.size)
    {a : Option Addr} {cap : Nat} {n : Nat} {xs : List Value} (hown : RdG w i.size (.slice a n cap) n xs) {u : Value} {m : Nat} {ys : List Value} (hrd : RdG w i.size u m ys) (h1 : ∀ y ∈ ys, y.oneCell' = true) (hg : cap < n + m) (hlen : n + m ≤ maxLen) (hb : (n + m) * i.bytes ≤ 140737488355328) :
    ∃ v' w', (Builtin.append_ #[t, tx] ty #[.slice a n cap, u]).run P w = .ok v' w' ∧ OwnG w' e i.size v' (n + m) (xs ++ ys) ∧ Mods noB w w' ∧ freshIn w v' := by
  have hlen' : (xs ++ ys).length = (n + m) * i.size := by rw [List.length_append, hown.1, hrd.1, Nat.add_mul]
  have hs := hrd.src (P := P) h1 htx
  have hge := grownCap_ge w (n + m) cap e
  have hold : (Builtin.firstCells i.size n (.slice a n cap)).run P w.drew = .ok xs.toArray w.drew := by
    rcases hown.2 with ⟨hv, rfl⟩ | ⟨g, off, cap', hv, h2, h3, h4, h5⟩
    · obtain rfl : xs = [] := List.eq_nil_of_length_eq_zero (by simpa using hown.1)
      obtain rfl : cap = 0 := hv.none.2
      rcases a with _ | a
      · exact run_firstCells_none w.drew i.size 0 0 0
      · exact run_firstCells_some w.drew i.size 0 _ 0 0 [] (by simp) (fun j x hj => by simp at hj)
    · cases hv
      exact run_firstCells_some w.drew i.size n _ n cap xs hown.1 (fun j x hj => by
        rw [show (⟨g, off, none⟩ : Addr).add j = ⟨g, off + j, none⟩ from Addr.add_lit ..]
        exact h5 j x hj)
  refine ⟨_, _, run_append_grow_src w t tx ty e i z ht hi hz a n cap xs hold u m ys hs hg (by simp only [maxLen] at hlen; omega) (growslice_fits hg hb), ⟨hlen', .inr ⟨w.heap.size, 0, _, _, rfl, heap_alloc_new w.drew _, hge, grownCap_le_maxLen w _ _ e hlen, ?_, ?_⟩⟩, ((Mods.refl _ w).drew).alloc _, ?_⟩
  · simp only [Array.size_append, List.size_toArray, size_zeroCells, hzs, hlen', ← Nat.add_mul]
    rw [Nat.zero_add]
    exact Nat.mul_le_mul_right _ (by omega)
  · intro j x hj
    have hjl : j < (xs ++ ys).length := (List.getElem?_eq_some_iff.1 hj).1
    rw [Nat.zero_add, Array.getElem?_append_left (by simpa using hjl)]
    simpa using hj
  · intro k hk
    simp [Value.ownBlock] at hk
    omega

end Go.Gl

/- Plain facts on numbers as bytes, the highest first. No program in sight. -/
namespace Go.Gl

/-- n bytes of a number, the highest first. -/
def be : Nat → Nat → List UInt8
  | 0, _ => []
  | n + 1, x => UInt8.ofNat (x / 256 ^ n) :: be n x

/-- What bytes say as a number, the highest first. -/
def num (xs : List UInt8) : Nat := xs.foldl (fun a c => a * 256 + c.toNat) 0

theorem be_length (n x : Nat) : (be n x).length = n := by
  induction n with
  | zero => rfl
  | succ n ih => simp [be, ih]

theorem num_snoc (xs : List UInt8) (c : UInt8) : num (xs ++ [c]) = num xs * 256 + c.toNat := by simp [num]

theorem num_lt (xs : List UInt8) : num xs < 256 ^ xs.length := by
  suffices h : ∀ ys : List UInt8, num ys.reverse < 256 ^ ys.length by
    have := h xs.reverse
    simpa using this
  intro ys
  induction ys with
  | nil => simp [num]
  | cons c ys ih =>
    rw [List.reverse_cons, num_snoc, List.length_cons, Nat.pow_succ]
    have := c.toNat_lt
    omega

theorem foldl_num (xs : List UInt8) (a : Nat) : xs.foldl (fun a c => a * 256 + c.toNat) a = a * 256 ^ xs.length + num xs := by
  induction xs generalizing a with
  | nil => simp [num]
  | cons c xs ih =>
    rw [num, List.foldl_cons, List.foldl_cons, List.length_cons, ih, ih (0 * 256 + c.toNat), Nat.pow_succ, Nat.zero_mul, Nat.zero_add, Nat.add_mul, Nat.mul_comm (256 ^ xs.length) 256, ← Nat.mul_assoc, Nat.add_assoc]

theorem num_cons (c : UInt8) (xs : List UInt8) : num (c :: xs) = c.toNat * 256 ^ xs.length + num xs := by
  rw [num, List.foldl_cons, foldl_num]
  simp

theorem num_be (n x : Nat) : num (be n x) = x % 256 ^ n := by
  induction n with
  | zero => simp [be, num, Nat.mod_one]
  | succ n ih =>
    rw [be, num_cons, be_length, ih, UInt8.toNat_ofNat']
    have h := Nat.mod_mul (x := x) (a := 256 ^ n) (b := 256)
    rw [Nat.pow_succ 256 n, h, show (2 ^ 8 : Nat) = 256 from rfl, Nat.mul_comm (256 ^ n)]
    omega

theorem be_num (xs : List UInt8) : be xs.length (num xs) = xs := by
  suffices h : ∀ (xs : List UInt8) (q : Nat), be xs.length (q * 256 ^ xs.length + num xs) = xs by simpa using h xs 0
  intro xs
  induction xs with
  | nil => intro q; rfl
  | cons c xs ih =>
    intro q
    have hl := num_lt xs
    have hp : 0 < 256 ^ xs.length := Nat.pow_pos (by decide)
    rw [List.length_cons, be, num_cons]
    have e : q * 256 ^ (xs.length + 1) + (c.toNat * 256 ^ xs.length + num xs) = (q * 256 + c.toNat) * 256 ^ xs.length + num xs := by
      rw [Nat.pow_succ, Nat.add_mul, Nat.mul_assoc, Nat.mul_comm (256 ^ xs.length) 256]; omega
    rw [e, ih]
    congr 1
    rw [Nat.mul_comm, Nat.mul_add_div hp, Nat.div_eq_of_lt hl, Nat.add_zero]
    apply UInt8.toNat_inj.1
    rw [UInt8.toNat_ofNat']
    have := c.toNat_lt
    omega

theorem num_be8 (x : Nat) (h : x < 18446744073709551616) : num (be 8 x) = x := by
  rw [num_be]
  exact Nat.mod_eq_of_lt (by simpa using h)

theorem be_inj {n x y : Nat} (hx : x < 256 ^ n) (hy : y < 256 ^ n) (h : be n x = be n y) : x = y := by
  have := congrArg num h
  rw [num_be, num_be, Nat.mod_eq_of_lt hx, Nat.mod_eq_of_lt hy] at this
  exact this

/-- The byte of a number that stands i places above the last one. -/
def b8 (x i : Nat) : Int := ((x / 256 ^ i % 256 : Nat) : Int)
theorem b8_range (x i : Nat) : 0 ≤ b8 x i ∧ b8 x i < 256 := by unfold b8; omega
theorem be_get (n x i : Nat) (h : i < n) : ((be n x)[i]?).map (fun c => ((c.toNat : Nat) : Int)) = some (b8 x (n - 1 - i)) := by
  induction n generalizing i with
  | zero => omega
  | succ n ih =>
    rcases i with _ | i
    · simp only [be, List.getElem?_cons_zero, Option.map_some, UInt8.toNat_ofNat', b8]
      simp
    · simp only [be, List.getElem?_cons_succ]
      rw [ih i (by omega)]
      congr 2
      omega

end Go.Gl

/- gleanref4.Put: n bytes of a number appended, the highest first. -/
namespace Go.Proofs.Ytnkbbclcileleaa
open Go.Gl Go.RowKit
set_option linter.unusedVariables false

/-- bytes appended to an owned slice -/
structure Appended (w : World) (v : Value) (xs : List UInt8) (w' : World) (v' : Value) : Prop where
  own : Own w' v' xs
  mods : Mods (ofV v) w w'
  blk : v'.ownBlock = v.ownBlock ∨ freshIn w v'

theorem Appended.trans {w w1 w2 : World} {v v1 v2 : Value} {xs ys : List UInt8} (h : Appended w v xs w1 v1) (k : Appended w1 v1 ys w2 v2) : Appended w v ys w2 v2 :=
  ⟨k.own, h.mods.trans k.mods (fun _ _ x => x) (fun i hi hx => by
      rcases h.blk with hb | hb
      · exact hb.symm.trans hx
      · exact absurd hi (Nat.not_lt.2 (hb i hx))),
    by
      rcases k.blk with kb | kb
      · rcases h.blk with hb | hb
        · exact .inl (kb.trans hb)
        · exact .inr (fun i hi => hb i (kb ▸ hi))
      · exact .inr (kb.of h.mods.size)⟩

theorem Appended.fresh {w w1 : World} {v v1 : Value} {xs : List UInt8} (h : Appended w v xs w1 v1) {w0 : World} (hs : w0.heap.size ≤ w.heap.size) (hv : freshIn w0 v) : freshIn w0 v1 := by
  rcases h.blk with hb | hb
  · exact fun i hi => hv i (hb ▸ hi)
  · exact hb.of hs

theorem Appended.mods0 {w w1 : World} {v v1 : Value} {xs : List UInt8} (h : Appended w v xs w1 v1) {w0 : World} (hm : Mods noB w0 w) (hv : freshIn w0 v) : Mods noB w0 w1 :=
  hm.trans h.mods (fun _ _ x => x) (fun i hi hx => absurd hi (Nat.not_lt.2 (hv i hx)))

theorem shr_byte (x j : Nat) : (x : Int) / 2 ^ (8 * j) % 256 = (((UInt8.ofNat (x / 256 ^ j)).toNat : Nat) : Int) := by
  rw [UInt8.toNat_ofNat', show (256 : Nat) = 2 ^ 8 from rfl, ← Nat.pow_mul]
  simp


end Go.Proofs.Ytnkbbclcileleaa

/- enc.Writer: what its block holds; number, U8, U32, U64, Bool, all, Raw, Out. -/
namespace Go.Proofs.Ytnkbbclcileleaa
open Go.Gl Go.RowKit
set_option linter.unusedVariables false
set_option maxRecDepth 100000

/-- A writer's block: its bytes, its first error. -/
structure Wr (w : World) (g : Nat) (v : Value) (xs : List UInt8) (e : Int) : Prop where
  heap : w.heap[g]? = some (.cells #[v, .int .i64 e] 108 (0, 0))
  own : Own w v xs
  apart : v.ownBlock ≠ some g

/-- what a step of a writer may turn: its block, its bytes' block -/
def WS (g : Nat) (v : Value) : Nat → Prop := fun k => k = g ∨ v.ownBlock = some k

/-- A step of a writer. -/
structure WStep (w : World) (g : Nat) (v : Value) (xs : List UInt8) (e : Int) (w' : World) (v' : Value) : Prop where
  wr : Wr w' g v' xs e
  mods : Mods (WS g v) w w'
  blk : v'.ownBlock = v.ownBlock ∨ freshIn w v'

theorem WStep.trans {w w1 w2 : World} {g : Nat} {v v1 v2 : Value} {xs ys : List UInt8} {e e' : Int} (h : WStep w g v xs e w1 v1) (k : WStep w1 g v1 ys e' w2 v2) : WStep w g v ys e' w2 v2 :=
  ⟨k.wr, h.mods.trans k.mods (fun _ _ x => x) (fun i hi hx => by
      rcases hx with hx | hx
      · exact .inl hx
      · rcases h.blk with hb | hb
        · exact .inr (hb.symm.trans hx)
        · exact absurd hi (Nat.not_lt.2 (hb i hx))),
    by
      rcases k.blk with kb | kb
      · rcases h.blk with hb | hb
        · exact .inl (kb.trans hb)
        · exact .inr (fun i hi => hb i (kb ▸ hi))
      · exact .inr (kb.of h.mods.size)⟩

theorem WStep.refl {w : World} {g : Nat} {v : Value} {xs : List UInt8} {e : Int} (h : Wr w g v xs e) : WStep w g v xs e w v := ⟨h, Mods.refl _ _, .inl rfl⟩

theorem Wr.lt {w : World} {g : Nat} {v : Value} {xs : List UInt8} {e : Int} (h : Wr w g v xs e) : g < w.heap.size := lt_of_heap h.heap

/-- the bytes' field stored: what the block holds behind it -/
theorem Wr.set {w w' : World} {g : Nat} {v v' : Value} {xs ys : List UInt8} {e : Int} (h : Wr w g v xs e) (ho : Own w' v' ys) (hm : Mods (ofV v) w w') (hb : v'.ownBlock = v.ownBlock ∨ freshIn w v') :
    WStep w g v ys e (w'.setCell ⟨g, 0, none⟩ v') v' := by
  have hv' : v'.ownBlock ≠ some g := by
    rcases hb with hb | hb
    · rw [hb]; exact h.apart
    · exact hb.not h.lt
  have h1 := hm.heap h.heap (fun x => h.apart x)
  refine ⟨⟨?_, ho.keep ((Mods.refl (fun k => k = g) w').setCell (.inl rfl) v') (fun k hk e => hv' (by rw [hk, e])), hv'⟩, (hm.mono (T := WS g v) (fun i _ x => .inr x)).setCell (.inl (.inl rfl)) v', hb⟩
  have := heap_set h1 0 v'
  simpa using this

end Go.Proofs.Ytnkbbclcileleaa

/- enc.Writer's number. -/
namespace Go.Proofs.Ytnkbbclcileleaa
open Go.Gl Go.RowKit
set_option linter.unusedVariables false
set_option maxRecDepth 100000
attribute [local go_sem ↓] Go.wp_at_zero Go.wp_at_succ

/-- append on owned bytes, as a step of a region that draws. -/
theorem step_apb {ops : Array Oper} {Q : Exit → Act → World → Prop} {K : Act → World → Prop} {E : Prop} {o : Oper} {a : Act} {w : World} {s x : Operand} (hw : Region.wanted o (yielded ops a.tmps) = true)
    (ho : o.op = .call { callee := .builtin .append, args := #[s, x], argTypes := #[50, 50] })
    {v u : Value} (xs ys : List UInt8) (hown : Own w v xs) (hrd : Rd w u ys) (hs : a.eval s = v) (hx : a.eval x = u) (hlen : xs.length + ys.length ≤ 140737488355328)
    (h : ∀ v' w', Own w' v' (xs ++ ys) → Mods (ofV v) w w' → (v'.ownBlock = v.ownBlock ∨ freshIn w v') → K (a.put o.dst v') w') :
    if Region.wanted o (yielded ops a.tmps) = true then Oper.wp Try.prog o a w K Q else E := by
  rw [if_pos hw]
  obtain ⟨i, hi, hz, hs1, hb1⟩ := info_parts Try.infoU8
  obtain ⟨v', w', hr, h2, h3, h4⟩ := run_ap (P := Try.prog) 50 50 o.type 5 5 i _ Try.underlying50 Try.underlying50 hi hz (by rw [hs1]; rfl) (by rw [hs1]; exact hown) (by rw [hs1]; exact hrd) (bv_one _) (by simp only [maxLen]; omega) (by rw [hb1]; omega)
  unfold Oper.wp execOp
  simp only [ho, resolve, invoke, builtin, Sem.run_bind, Sem.run_pure, Result.andThen_ok, List.map_toArray, List.map_cons, List.map_nil, hs, hx, hr]
  refine h v' w' ?_ h3 h4
  rw [hs1] at h2
  unfold Own
  rw [bv_append, List.length_append]
  exact h2

theorem own_atI (c : UInt8) {z : Int} (hz : z = c.toNat) {w : World} (n : Nat) (hn : n = w.heap.size) : Own (w.alloc (.cells #[.int .u8 z] 5)) (.slice (some ⟨n, 0, none⟩) 1 1) [c] := by
  subst hz
  exact own_at c n hn

theorem wnum_err {w : World} {g : Nat} {v : Value} {xs : List UInt8} {e : Int} (n x : Nat) (h : Wr w g v xs e) (he : e ≠ 0) :
    Calls Try.prog 84 #[.pointer (some ⟨g, 0, none⟩), .int .u64 x, .int .i64 n] w fun r w' => r = .returned (.tuple #[]) ∧ w' = w := by
  have c := cells_of h.heap
  have hb : (e != 0) = true := by simp [he]
  clear h he
  go_enter Try.func84, Try.ntmps84
  go_wp2
  first | go_end0 | (refine bodyPost_ret (by simp [results, Try.results84, go_sem]; try rfl) rfl ?_)
  exact ⟨rfl, rfl⟩

theorem Wr.drewN {w : World} {g : Nat} {v : Value} {xs : List UInt8} {e : Int} (h : Wr w g v xs e) (n : Nat) : Wr (w.drewN n) g v xs e := ⟨h.heap, h.own.quiet ⟨n, rfl⟩, h.apart⟩
theorem Wr.alloc {w : World} {g : Nat} {v : Value} {xs : List UInt8} {e : Int} (h : Wr w g v xs e) (o : Obj) : Wr (w.alloc o) g v xs e := ⟨heap_old h.heap o, h.own.alloc o, h.apart⟩
theorem Wr.drew {w : World} {g : Nat} {v : Value} {xs : List UInt8} {e : Int} (h : Wr w g v xs e) : Wr w.drew g v xs e := ⟨h.heap, h.own.quiet ⟨1, rfl⟩, h.apart⟩
theorem WStep.from {w w1 w2 : World} {g : Nat} {v v2 : Value} {xs : List UInt8} {e : Int} (h : WStep w1 g v xs e w2 v2) (hm : Mods noB w w1) : WStep w g v xs e w2 v2 :=
  ⟨h.wr, hm.trans h.mods (fun _ _ x => x.elim) (fun _ _ x => x), h.blk.imp_right (fun k => k.of hm.size)⟩

set_option maxHeartbeats 2000000 in
theorem wnum_ok {w : World} {g : Nat} {v : Value} {xs : List UInt8} (n x : Nat) (h : Wr w g v xs 0) (hn : n ≤ 8) (hx : x ≤ 18446744073709551615) (hl : xs.length ≤ 100000000000000) :
    Calls Try.prog 84 #[.pointer (some ⟨g, 0, none⟩), .int .u64 x, .int .i64 n] w fun r w' => r = .returned (.tuple #[]) ∧ ∃ v', WStep w g v (xs ++ be n x) 0 w' v' := by
  obtain ⟨out, hgo⟩ : ∃ out, xs ++ be n x = out := ⟨_, rfl⟩
  have R0 : Hid (WStep w g v xs 0 w v ∧ xs ++ be n x = out ∧ xs.length + n ≤ 100000000000008) := ⟨WStep.refl h, hgo, by omega⟩
  rw [hgo]
  have c := cells_of h.heap
  clear h hgo hl
  go_enter Try.func84, Try.ntmps84
  go_wp2
  clear c
  go_loopw [6] (fun k wr => ∃ (j : Nat) (b : Value) (ys : List UInt8), j ≤ 8 ∧ k = .int .i64 ((j : Int) - 1) ∧ Hid (WStep w g v ys 0 wr b ∧ ys ++ be j x = out ∧ ys.length + j ≤ 100000000000008)) (fun k _ => (intOf k + 1).toNat)
  case atStart => exact ⟨n, v, xs, hn, rfl, R0⟩
  case round =>
    obtain ⟨j, b, ys, hj, rfl, hR⟩ := hrel
    clear R0
    rcases j with _ | j
    · go_wp2
      go_end0
      obtain ⟨h1, h2, h3⟩ := hR.out
      simp only [be, List.append_nil] at h2
      subst h2
      exact ⟨rfl, _, h1⟩
    · rw [show (((j + 1 : Nat) : Int) - 1) = ((j : Nat) : Int) from by omega]
      have h8 : j ≤ 7 := by omega
      have c := cells_of hR.out.1.wr.heap
      have f := free_of hR.out.1.wr.heap
      go_wp2
      have s1 : IntKind.i64.wrap (8 * (j : Int)) = 8 * (j : Int) := IntWalk.i64_in _ (by omega)
      have s2 : (0 : Int) ≤ 8 * (j : Int) := by omega
      have s3 : (8 * (j : Int)).toNat = 8 * j := by omega
      have hgl := hR.out.1.wr.lt
      have hgn : wr.heap.size ≠ g := by omega
      have hgm : g ≠ wr.heap.size := by omega
      go_region_law ((refine step_apb (by rfl) (by rfl) ys [UInt8.ofNat (x / 256 ^ j)] ?_ ?_ (by rfl) (by rfl) ?_ ?_; (next => exact (hR.out.1.wr.own.quiet ⟨1, rfl⟩).alloc _); (next => exact (own_atI (UInt8.ofNat (x / 256 ^ j)) (shr_byte x j) _ rfl).rd); (next => have := hR.out.2.2; simp; omega); intro v' w' k1 k2 k3; obtain ⟨a', cap', rfl, hm'⟩ := k1.rd.form; have H1 := cells_of (k2.heap (heap_old (w := wr.drew) hR.out.1.wr.heap _) hR.out.1.wr.apart); have F1 := free_of (k2.heap (heap_old (w := wr.drew) hR.out.1.wr.heap _) hR.out.1.wr.apart)))
      all_goals
        have R1 : Hid (WStep w g v (ys ++ [UInt8.ofNat (x / 256 ^ j)]) 0 (w'.setCell ⟨g, 0, none⟩ (.slice a' (ys.length + 1) cap')) (.slice a' (ys.length + 1) cap') ∧ (ys ++ [UInt8.ofNat (x / 256 ^ j)]) ++ be j x = out ∧ (ys ++ [UInt8.ofNat (x / 256 ^ j)]).length + j ≤ 100000000000008) := by
          have hh := hR.out
          refine ⟨hh.1.trans ((((hh.1.wr.drew.alloc _).set (by simpa using k1) k2 (by first | exact k3 | (rw [List.length_append] at k3; exact k3))).from (((Mods.refl noB wr).drew).alloc _))), by rw [← hh.2.1]; simp [be], by have := hh.2.2; simp; omega⟩
        clear hR k1 k2 k3 H1 F1 c f s1 s2 s3
        go_wp2
        go_roundw
        case rel => exact ⟨j, _, _, by omega, rfl, R1⟩
        case measure => simp [intOf]

/-- what bytes a writer holds behind a step that lays ys -/
def wput (e : Int) (xs ys : List UInt8) : List UInt8 := if e = 0 then xs ++ ys else xs

/-- A method of a writer without a result: what its block holds behind it. -/
def WRes (w : World) (g : Nat) (v : Value) (xs : List UInt8) (e : Int) (r : Ending) (w' : World) : Prop := r = .returned (.tuple #[]) ∧ ∃ v', WStep w g v xs e w' v'

theorem wnum_any {w : World} {g : Nat} {v : Value} {xs : List UInt8} {e : Int} (n x : Nat) (h : Wr w g v xs e) (hn : n ≤ 8) (hx : x ≤ 18446744073709551615) (hl : xs.length ≤ 100000000000000) :
    Calls Try.prog 84 #[.pointer (some ⟨g, 0, none⟩), .int .u64 x, .int .i64 n] w (WRes w g v (wput e xs (be n x)) e) := by
  by_cases he : e = 0
  · subst he
    exact wnum_ok n x h hn hx hl
  · refine (wnum_err n x h he).mono ?_
    rintro r w' ⟨rfl, rfl⟩
    rw [wput, if_neg he]
    exact ⟨rfl, _, WStep.refl h⟩

theorem WU8_any {w : World} {g : Nat} {v : Value} {xs : List UInt8} {e : Int} (x : Nat) (h : Wr w g v xs e) (hx : x ≤ 255) (hl : xs.length ≤ 100000000000000) :
    Calls Try.prog 88 #[.pointer (some ⟨g, 0, none⟩), .int .u8 x] w (WRes w g v (wput e xs (be 1 x)) e) := by
  have H := Lib.hid h
  clear h
  go_enter Try.func88, Try.ntmps88
  go_wp2_with (go_at_call 84; refine (wnum_any 1 x H.out (by omega) (by omega) hl).mono ?_; rintro r w' ⟨rfl, hr⟩)
  go_end0
  exact ⟨rfl, hr⟩


theorem WU64_any {w : World} {g : Nat} {v : Value} {xs : List UInt8} {e : Int} (x : Nat) (h : Wr w g v xs e) (hx : x ≤ 18446744073709551615) (hl : xs.length ≤ 100000000000000) :
    Calls Try.prog 75 #[.pointer (some ⟨g, 0, none⟩), .int .u64 x] w (WRes w g v (wput e xs (be 8 x)) e) := by
  have H := Lib.hid h
  clear h
  go_enter Try.func75, Try.ntmps75
  go_wp2_with (go_at_call 84; refine (wnum_any 8 x H.out (by omega) (by omega) hl).mono ?_; rintro r w' ⟨rfl, hr⟩)
  go_end0
  exact ⟨rfl, hr⟩

theorem WBool_any {w : World} {g : Nat} {v : Value} {xs : List UInt8} {e : Int} (x : Bool) (h : Wr w g v xs e) (hl : xs.length ≤ 100000000000000) :
    Calls Try.prog 81 #[.pointer (some ⟨g, 0, none⟩), .bool x] w (WRes w g v (wput e xs (be 1 (if x then 1 else 0))) e) := by
  have H := Lib.hid h
  clear h
  cases x
  · go_enter Try.func81, Try.ntmps81
    go_wp2_with (go_at_call 88; refine (WU8_any 0 H.out (by omega) hl).mono ?_; rintro r w' ⟨rfl, hr⟩)
    go_end0
    exact ⟨rfl, hr⟩
  · go_enter Try.func81, Try.ntmps81
    go_wp2_with (go_at_call 88; refine (WU8_any 1 H.out (by omega) hl).mono ?_; rintro r w' ⟨rfl, hr⟩)
    go_end0
    exact ⟨rfl, hr⟩

end Go.Proofs.Ytnkbbclcileleaa

/- enc.Writer's all, Raw, Out; state's fails. -/
namespace Go.Proofs.Ytnkbbclcileleaa
open Go.Gl Go.RowKit
set_option linter.unusedVariables false
set_option maxRecDepth 100000

theorem fails_first {w : World} {g : Nat} {cur : Array Value} {t : TypeId} (c : Nat) (h : w.heap[g]? = some (.cells cur t (0, 0))) (h1 : cur[1]? = some (.int .i64 0)) :
    Calls Try.prog 83 #[.pointer (some ⟨g, 0, none⟩), .int .i64 c] w fun r w' => r = .returned (.tuple #[]) ∧ w' = w.setCell ⟨g, 1, none⟩ (.int .i64 c) := by
  have c1 := cells_of h 1
  have f1 := free_of h 1
  rw [h1] at c1
  clear h h1
  go_enter Try.func83, Try.ntmps83
  go_wp2
  go_end0
  exact ⟨rfl, rfl⟩

theorem fails_then {w : World} {g : Nat} {cur : Array Value} {t : TypeId} {e : Int} (c : Nat) (h : w.heap[g]? = some (.cells cur t (0, 0))) (h1 : cur[1]? = some (.int .i64 e)) (he : e ≠ 0) :
    Calls Try.prog 83 #[.pointer (some ⟨g, 0, none⟩), .int .i64 c] w fun r w' => r = .returned (.tuple #[]) ∧ w' = w := by
  have c1 := cells_of h 1
  rw [h1] at c1
  have hb : (e == 0) = false := by simp [he]
  clear h h1 he
  go_enter Try.func83, Try.ntmps83
  go_wp2
  go_end0
  exact ⟨rfl, rfl⟩

/-- a writer's error behind a step that fails with c -/
def wfail (e c : Int) : Int := if e = 0 then c else e

theorem Wr.fail {w : World} {g : Nat} {v : Value} {xs : List UInt8} (c : Nat) (h : Wr w g v xs 0) : WStep w g v xs c (w.setCell ⟨g, 1, none⟩ (.int .i64 c)) v :=
  ⟨⟨by have := heap_set h.heap 1 (.int .i64 c); simpa using this, h.own.keep ((Mods.refl (fun k => k = g) w).setCell (.inl rfl) _) (fun k hk e => h.apart (by rw [hk, e])), h.apart⟩, (Mods.refl (WS g v) w).setCell (.inl (.inl rfl)) _, .inl rfl⟩

theorem wfails_any {w : World} {g : Nat} {v : Value} {xs : List UInt8} {e : Int} (c : Nat) (h : Wr w g v xs e) :
    Calls Try.prog 83 #[.pointer (some ⟨g, 0, none⟩), .int .i64 c] w (WRes w g v xs (wfail e c)) := by
  by_cases he : e = 0
  · subst he
    refine (fails_first c h.heap rfl).mono ?_
    rintro r w' ⟨rfl, rfl⟩
    exact ⟨rfl, _, h.fail c⟩
  · refine (fails_then c h.heap rfl he).mono ?_
    rintro r w' ⟨rfl, rfl⟩
    rw [wfail, if_neg he]
    exact ⟨rfl, _, WStep.refl h⟩

set_option maxHeartbeats 1000000 in
theorem wall_ok {w : World} {g : Nat} {v u : Value} {xs ys : List UInt8} (h : Wr w g v xs 0) (hu : Rd w u ys) (hl : xs.length + ys.length ≤ 140737488355328) :
    Calls Try.prog 91 #[.pointer (some ⟨g, 0, none⟩), u] w (WRes w g v (xs ++ ys) 0) := by
  have H := Lib.hid h
  have HU := Lib.hid hu
  have c := cells_of h.heap
  have f := free_of h.heap
  clear h hu
  go_enter Try.func91, Try.ntmps91
  go_wp2_with (at_builtin; refine stop ?_)
  unfold Stop
  refine wpList_apb rfl rfl xs ys H.out.own HU.out rfl rfl hl ?_
  intro v' w' k1 k2 k3
  obtain ⟨a', cap', rfl, hm'⟩ := k1.rd.form
  have R := Lib.hid (H.out.set k1 k2 k3)
  rw [List.length_append] at R
  have c' := cells_of (k2.heap H.out.heap H.out.apart)
  have f' := free_of (k2.heap H.out.heap H.out.apart)
  clear k1 k2 k3 hm' c f
  go_wp2
  go_end0
  exact ⟨rfl, _, R.out⟩

theorem wall_err {w : World} {g : Nat} {v u : Value} {xs : List UInt8} {e : Int} (h : Wr w g v xs e) (he : e ≠ 0) :
    Calls Try.prog 91 #[.pointer (some ⟨g, 0, none⟩), u] w fun r w' => r = .returned (.tuple #[]) ∧ w' = w := by
  have c := cells_of h.heap
  have hb : (e == 0) = false := by simp [he]
  clear h he
  go_enter Try.func91, Try.ntmps91
  go_wp2
  go_end0
  exact ⟨rfl, rfl⟩

theorem wall_any {w : World} {g : Nat} {v u : Value} {xs ys : List UInt8} {e : Int} (h : Wr w g v xs e) (hu : Rd w u ys) (hl : xs.length + ys.length ≤ 140737488355328) :
    Calls Try.prog 91 #[.pointer (some ⟨g, 0, none⟩), u] w (WRes w g v (wput e xs ys) e) := by
  by_cases he : e = 0
  · subst he
    exact wall_ok h hu hl
  · refine (wall_err h he).mono ?_
    rintro r w' ⟨rfl, rfl⟩
    rw [wput, if_neg he]
    exact ⟨rfl, _, WStep.refl h⟩

theorem wout_ok {w : World} {g : Nat} {v : Value} {xs : List UInt8} (h : Wr w g v xs 0) (hl : xs.length ≤ 140737488355328) :
    Calls Try.prog 53 #[.pointer (some ⟨g, 0, none⟩)] w fun r w' => ∃ u, r = .returned (.tuple #[u, .int .i64 0]) ∧ Own w' u xs ∧ Mods noB w w' ∧ freshIn w u := by
  have H := Lib.hid h
  have c := cells_of h.heap
  clear h
  go_enter Try.func53, Try.ntmps53
  go_wp2_with (at_builtin; refine stop ?_)
  unfold Stop
  refine wpList_apb rfl rfl [] xs (Own.nil _) H.out.own.rd rfl rfl (by simpa using hl) ?_
  intro v' w' k1 k2 k3
  have R := Lib.hid (And.intro k1 (And.intro k2 k3))
  clear k1 k2 k3
  go_wp2
  go_ret2
  obtain ⟨k1, k2, k3⟩ := R.out
  exact ⟨v', rfl, k1, k2.mono (fun i _ x => (ofV_nil x).elim), by rcases k3 with k3 | k3; exact (fun k hk => by rw [k3] at hk; simp [Value.ownBlock] at hk); exact k3⟩

theorem wout_err {w : World} {g : Nat} {v : Value} {xs : List UInt8} {e : Int} (h : Wr w g v xs e) (he : e ≠ 0) :
    Calls Try.prog 53 #[.pointer (some ⟨g, 0, none⟩)] w fun r w' => r = .returned (.tuple #[.slice none 0 0, .int .i64 e]) ∧ Quiet w w' := by
  have c := cells_of h.heap
  have hb : (e != 0) = true := by simp [he]
  clear h he
  go_enter Try.func53, Try.ntmps53
  go_wp2
  go_quiet (fail)
  go_wp2
  go_ret2
  exact ⟨rfl, _, rfl⟩

/-- what Out tells -/
def woutB (e : Int) (xs : List UInt8) : List UInt8 := if e = 0 then xs else []
def OutRes (w : World) (xs : List UInt8) (e : Int) (r : Ending) (w' : World) : Prop := ∃ u, r = .returned (.tuple #[u, .int .i64 e]) ∧ Own w' u (woutB e xs) ∧ Mods noB w w' ∧ freshIn w u

theorem WOut_any {w : World} {g : Nat} {v : Value} {xs : List UInt8} {e : Int} (h : Wr w g v xs e) (hl : xs.length ≤ 140737488355328) :
    Calls Try.prog 53 #[.pointer (some ⟨g, 0, none⟩)] w (OutRes w xs e) := by
  by_cases he : e = 0
  · subst he
    exact wout_ok h hl
  · refine (wout_err h he).mono ?_
    rintro r w' ⟨rfl, hq⟩
    exact ⟨_, rfl, by rw [woutB, if_neg he]; exact Own.nil _, hq.mods _, fun k hk => by simp [Value.ownBlock] at hk⟩

/-- Raw's bytes. -/
def rawB (ys : List UInt8) : List UInt8 := be 4 ys.length ++ ys

theorem wput_append (e : Int) (xs ys zs : List UInt8) : wput e (wput e xs ys) zs = wput e xs (ys ++ zs) := by
  unfold wput
  split <;> simp

theorem wput_le (e : Int) (xs ys : List UInt8) : (wput e xs ys).length ≤ xs.length + ys.length := by
  unfold wput
  split <;> simp


end Go.Proofs.Ytnkbbclcileleaa

/- A slice of bytes that the call itself has made and appends to: nothing else turns. -/
namespace Go.Proofs.Ytnkbbclcileleaa
open Go.Gl Go.RowKit
set_option linter.unusedVariables false

structure Grow (W0 : World) (xs : List UInt8) (w : World) (v : Value) : Prop where
  own : Own w v xs
  mods : Mods noB W0 w
  fresh : freshIn W0 v

theorem freshIn.nil (w : World) : freshIn w (.slice none 0 0) := fun k hk => by simp [Value.ownBlock] at hk
theorem Grow.nil (w : World) : Grow w [] w (.slice none 0 0) := ⟨Own.nil _, Mods.refl _ _, freshIn.nil _⟩
theorem Grow.then0 {W0 w w1 : World} {xs : List UInt8} {v : Value} (h : Grow W0 xs w v) (hm : Mods noB w w1) : Grow W0 xs w1 v := ⟨h.own.keep hm (fun _ _ x => x), h.mods.then0 hm, h.fresh⟩
theorem Grow.more {W0 w w1 : World} {xs ys : List UInt8} {v v' : Value} (h : Grow W0 xs w v) (ho : Own w1 v' ys) (hm : Mods (ofV v) w w1) (hb : v'.ownBlock = v.ownBlock ∨ freshIn w v') : Grow W0 ys w1 v' :=
  ⟨ho, h.mods.trans hm (fun _ _ x => x) (fun i hi x => absurd hi (Nat.not_lt.2 (h.fresh i x))), by
    rcases hb with hb | hb
    · exact fun k hk => h.fresh k (hb ▸ hk)
    · exact hb.of h.mods.size⟩


theorem own_lit (xs : List UInt8) {w : World} (n len : Nat) (cs : Array Value) (hn : n = w.heap.size) (hl : xs.length = len) (hm : Nat.ble len 1000 = true) (hc : cs.toList = bv xs) : Own (w.alloc (.cells cs 5)) (.slice (some ⟨n, 0, none⟩) len len) xs := by
  subst hn hl
  have hs : cs.size = xs.length := by rw [← Array.length_toList, hc, bv_length]
  refine ⟨by rw [bv_length, Nat.mul_one], .inr ⟨_, 0, _, _, rfl, heap_new _ _, Nat.le_refl _, by have := Nat.le_of_ble_eq_true hm; simp only [maxLen]; omega, by omega, fun j u hj => ?_⟩⟩
  rw [Nat.zero_add, ← Array.getElem?_toList, hc]
  exact hj

theorem own_at_lit (xs : List UInt8) {w : World} (n len : Nat) (cs : Array Value) (hw : w.heap[n]? = some (.cells cs 5 (0, 0))) (hl : xs.length = len) (hm : Nat.ble len 1000 = true) (hc : cs.toList = bv xs) : Own w (.slice (some ⟨n, 0, none⟩) len len) xs := by
  subst hl
  have hs : cs.size = xs.length := by rw [← Array.length_toList, hc, bv_length]
  refine ⟨by rw [bv_length, Nat.mul_one], .inr ⟨_, 0, _, _, rfl, hw, Nat.le_refl _, by have := Nat.le_of_ble_eq_true hm; simp only [maxLen]; omega, by omega, fun j u hj => ?_⟩⟩
  rw [Nat.zero_add, ← Array.getElem?_toList, hc]
  exact hj

theorem Grow.lit (xs : List UInt8) {W0 w : World} (n len : Nat) (cs : Array Value) (hw : w.heap[n]? = some (.cells cs 5 (0, 0))) (hn : W0.heap.size ≤ n) (hl : xs.length = len) (hm : Nat.ble len 1000 = true) (hc : cs.toList = bv xs) (h0 : Mods noB W0 w) : Grow W0 xs w (.slice (some ⟨n, 0, none⟩) len len) :=
  ⟨own_at_lit xs n len cs hw hl hm hc, h0, fun k hk => by simp [Value.ownBlock] at hk; omega⟩

theorem blk_facts (w : World) (o : Obj) : (w.alloc o).heap[w.heap.size]? = some o ∧ Mods noB w (w.alloc o) ∧ w.heap.size < (w.alloc o).heap.size := ⟨heap_new _ _, (Mods.refl _ _).alloc _, by simp⟩

theorem be_one (x : Nat) : be 1 x = [UInt8.ofNat x] := by simp [be]

theorem Mods.cellsAt {a b : World} (h : Mods noB a b) {g : Nat} {cur : Array Value} {e : TypeId} (hg : a.heap[g]? = some (.cells cur e (0, 0))) (o : Nat) : b.cell? ⟨g, o, none⟩ = cur[o]? :=
  cells_of (h.heap hg (fun x => x)) o

/-- bytes and an error, as a call hands them back -/
def BRes (w : World) (xs : List UInt8) (n : Int) (e : Ending) (w' : World) : Prop := ∃ v, e = .returned (.tuple #[v, .int .i64 n]) ∧ Own w' v xs ∧ Mods noB w w' ∧ freshIn w v

end Go.Proofs.Ytnkbbclcileleaa

/- make of byte slices: what is made is owned, all noughts. -/
namespace Go.Proofs.Ytnkbbclcileleaa
open Go.Gl Go.RowKit
set_option linter.unusedVariables false

theorem made_get (z : Value) (n j : Nat) (h : j < n) : (madeCells #[z] n)[j]? = some z := by
  unfold madeCells
  simp [h, Nat.mod_one]

theorem own_made {w : World} (n : Nat) (hn : n ≤ 140737488355328) : Own (w.alloc (.cells (madeCells #[.int .u8 0] n) 5)) (.slice (some ⟨w.heap.size, 0, none⟩) n n) (List.replicate n 0) := by
  refine own_of (by simp) (heap_new _ _) (Nat.le_refl _) (by simp only [maxLen]; omega) (by rw [size_madeCells]; omega) (fun i hi => ?_)
  rw [List.length_replicate] at hi
  rw [Nat.zero_add, made_get _ _ _ hi]
  simp

theorem wpList_mkb {w : World} {ops : Array Oper} {rest : List Oper} {o : Oper} {a : Act} {Q : Exit → Act → World → Prop}
    (hg : o.guard = none) (l c : Operand) (hop : o.op = Op.makeSlice 50 l c) (kl kc : IntKind) (n : Nat) (hl : a.eval l = .int kl (n : Int)) (hc : a.eval c = .int kc (n : Int)) (hn : n ≤ 140737488355328)
    (hK : ∀ w', Own w' (.slice (some ⟨w.heap.size, 0, none⟩) n n) (List.replicate n 0) → Mods noB w w' → w.heap.size < w'.heap.size → wpList Try.prog ops Q rest (a.put o.dst (.slice (some ⟨w.heap.size, 0, none⟩) n n)) w') :
    wpList Try.prog ops Q (o :: rest) a w := by
  obtain ⟨i, hi, hz, hs1, hb1⟩ := info_parts Try.infoU8
  exact wpList_make_row w hg l c 50 hop 5 i _ Try.underlying50 hi hz hs1 rfl kl kc n hl hc (by rw [hb1]; omega) (by omega) (hK _ (own_made n hn) ((Mods.refl _ _).alloc _) (by simp))

end Go.Proofs.Ytnkbbclcileleaa

/- Slices of values that are one cell each, told by a function; slices of 64-bit numbers: read, owned, appended to, made. -/
namespace Go.Gl
open Go.RowKit

def RdM {α : Type} (f : α → Value) (w : World) (v : Value) (xs : List α) : Prop := RdG w 1 v xs.length (xs.map f)
def OwnM {α : Type} (e : TypeId) (f : α → Value) (w : World) (v : Value) (xs : List α) : Prop := OwnG w e 1 v xs.length (xs.map f)

theorem OwnM.rd {α : Type} {e : TypeId} {f : α → Value} {w : World} {v : Value} {xs : List α} (h : OwnM e f w v xs) : RdM f w v xs := OwnG.rd h
theorem RdM.nil {α : Type} (f : α → Value) (w : World) : RdM f w (.slice none 0 0) [] := ⟨rfl, .inl ⟨.nil, rfl⟩⟩
theorem OwnM.nil {α : Type} (e : TypeId) (f : α → Value) (w : World) : OwnM e f w (.slice none 0 0) [] := ⟨rfl, .inl ⟨rfl, rfl⟩⟩
theorem RdM.form {α : Type} {f : α → Value} {w : World} {v : Value} {xs : List α} (h : RdM f w v xs) : ∃ a cap, v = .slice a xs.length cap ∧ xs.length ≤ maxLen := RdG.form h
theorem RdM.keep {α : Type} {f : α → Value} {S : Nat → Prop} {w w' : World} {v : Value} {xs : List α} (h : RdM f w v xs) (hm : Mods S w w') (hs : ∀ k, v.ownBlock = some k → ¬ S k) : RdM f w' v xs := RdG.keep h hm hs
theorem OwnM.keep {α : Type} {e : TypeId} {f : α → Value} {S : Nat → Prop} {w w' : World} {v : Value} {xs : List α} (h : OwnM e f w v xs) (hm : Mods S w w') (hs : ∀ k, v.ownBlock = some k → ¬ S k) : OwnM e f w' v xs := OwnG.keep h hm hs
theorem RdM.ltn {α : Type} {f : α → Value} {w : World} {v : Value} {xs : List α} (h : RdM f w v xs) (hn : xs.length ≠ 0) : ∀ k, v.ownBlock = some k → k < w.heap.size := RdG.ltn h hn
theorem RdM.keepL {α : Type} {f : α → Value} {S : Nat → Prop} {w w' : World} {v : Value} {xs : List α} (h : RdM f w v xs) (hm : Mods S w w') (hs : ∀ k, k < w.heap.size → v.ownBlock = some k → ¬ S k) : RdM f w' v xs := RdG.keepL h hm hs
theorem OwnM.lt {α : Type} {e : TypeId} {f : α → Value} {w : World} {v : Value} {xs : List α} (h : OwnM e f w v xs) : ∀ k, v.ownBlock = some k → k < w.heap.size := OwnG.lt h

theorem RdM.open {α : Type} {f : α → Value} {w : World} {v : Value} {xs : List α} (h : RdM f w v xs) :
    (Nil0 v ∧ xs = []) ∨ ∃ g off cap, v = .slice (some ⟨g, off, none⟩) xs.length cap ∧ xs.length ≤ cap ∧ cap ≤ maxLen ∧ (xs.length = 0 ∨ g < w.heap.size) ∧ ∀ i (hi : i < xs.length), w.cell? ⟨g, off + i, none⟩ = some (f xs[i]) := by
  rcases h.2 with ⟨h0, hn⟩ | ⟨g, off, cap, hv, h1, h2, hg, h3⟩
  · exact .inl ⟨h0, List.eq_nil_of_length_eq_zero hn⟩
  · exact .inr ⟨g, off, cap, hv, h1, h2, hg, fun i hi => h3 i _ (by simp [hi])⟩

theorem rdM_of {α : Type} {f : α → Value} {w : World} {g off cap n : Nat} {xs : List α} (hn : xs.length = n) (h1 : n ≤ cap) (h2 : cap ≤ maxLen) (h3 : n = 0 ∨ g < w.heap.size) (h4 : ∀ i (hi : i < xs.length), w.cell? ⟨g, off + i, none⟩ = some (f xs[i])) : RdM f w (.slice (some ⟨g, off, none⟩) n cap) xs := by
  subst hn
  refine ⟨by simp, .inr ⟨g, off, cap, rfl, h1, h2, h3, fun j u hj => ?_⟩⟩
  have hj' : j < xs.length := by have := (List.getElem?_eq_some_iff.1 hj).1; simpa using this
  rw [List.getElem?_map, List.getElem?_eq_getElem hj'] at hj
  rw [h4 j hj']
  exact hj

theorem OwnM.open {α : Type} {e : TypeId} {f : α → Value} {w : World} {v : Value} {xs : List α} (h : OwnM e f w v xs) :
    (v = .slice none 0 0 ∧ xs = []) ∨ ∃ g off cap cur, v = .slice (some ⟨g, off, none⟩) xs.length cap ∧ w.heap[g]? = some (.cells cur e (0, 0)) ∧ xs.length ≤ cap ∧ cap ≤ maxLen ∧ off + cap ≤ cur.size ∧ ∀ i (hi : i < xs.length), cur[off + i]? = some (f xs[i]) := by
  rcases h.2 with ⟨rfl, hn⟩ | ⟨g, off, cap, cur, hv, h1, h2, h3, h4, h5⟩
  · exact .inl ⟨rfl, List.eq_nil_of_length_eq_zero hn⟩
  · exact .inr ⟨g, off, cap, cur, hv, h1, h2, h3, by omega, fun i hi => h5 i _ (by simp [hi])⟩

theorem ownM_of {α : Type} {e : TypeId} {f : α → Value} {w : World} {g off cap n : Nat} {cur : Array Value} {xs : List α} (hn : xs.length = n) (h1 : w.heap[g]? = some (.cells cur e (0, 0))) (h2 : n ≤ cap) (h3 : cap ≤ maxLen) (h4 : off + cap ≤ cur.size)
    (h5 : ∀ i (hi : i < xs.length), cur[off + i]? = some (f xs[i])) : OwnM e f w (.slice (some ⟨g, off, none⟩) n cap) xs := by
  subst hn
  refine ⟨by simp, .inr ⟨g, off, cap, cur, rfl, h1, h2, h3, by omega, fun j u hj => ?_⟩⟩
  have hj' : j < xs.length := by have := (List.getElem?_eq_some_iff.1 hj).1; simpa using this
  rw [List.getElem?_map, List.getElem?_eq_getElem hj'] at hj
  rw [h5 j hj']
  exact hj

/-- One element of an owned slice is written. -/
theorem ownM_set {α : Type} {e : TypeId} {f : α → Value} {w : World} {g off cap n : Nat} {xs : List α} (h : OwnM e f w (.slice (some ⟨g, off, none⟩) n cap) xs) (hn : xs.length = n) (k : Nat) (hk : k < n) (x : α) :
    OwnM e f (w.setCell ⟨g, off + k, none⟩ (f x)) (.slice (some ⟨g, off, none⟩) n cap) (xs.set k x) := by
  rcases h.open with ⟨h1, _⟩ | ⟨g', off', cap', cur, h1, h2, h3, h4, h5, h6⟩
  · cases h1
  · cases h1
    refine ownM_of (by simp) (heap_set h2 (off + k) (f x)) (by omega) h4 (by simpa using h5) (fun i hi => ?_)
    rw [List.length_set] at hi
    by_cases hik : k = i
    · subst hik
      simp only [List.getElem_set_self]
      rw [Array.getElem?_setIfInBounds_self_of_lt (by omega)]
    · rw [List.getElem_set_ne hik, Array.getElem?_setIfInBounds_ne (by omega)]
      exact h6 i hi

/-- 64-bit numbers as values. -/
abbrev u64 (n : Nat) : Value := .int .u64 n
abbrev RN (w : World) (v : Value) (ls : List Nat) : Prop := RdM u64 w v ls
abbrev ON (e : TypeId) (w : World) (v : Value) (ls : List Nat) : Prop := OwnM e u64 w v ls
/-- each of them fits into 64 bits -/
def Lim (ls : List Nat) : Prop := ∀ x ∈ ls, x ≤ 18446744073709551615

end Go.Gl
namespace Go.Proofs.Ytnkbbclcileleaa
open Go.Gl Go.RowKit
set_option linter.unusedVariables false

theorem Try.infoU64 : (Try.prog.info? 22).map (fun i => (i.zero, i.size, i.bytes)) = some (some (.int .u64 0), 1, 8) := by kernel_rfl

theorem u64_one (xs : List Nat) : ∀ u ∈ xs.map u64, u.oneCell' = true := by
  intro u hu
  obtain ⟨b, _, rfl⟩ := List.mem_map.1 hu
  rfl

/-- append on slices of 64-bit numbers, of whatever named type -/
theorem wpList_apn (t tx : TypeId) (ht : Try.prog.underlying t = some (.slice 22)) (htx : Try.prog.underlying tx = some (.slice 22)) {ops : Array Oper} {Q : Exit → Act → World → Prop} {rest : List Oper} {o : Oper} {a : Act} {w : World} {s x : Operand} (hgd : o.guard = none)
    (ho : o.op = .call { callee := .builtin .append, args := #[s, x], argTypes := #[t, tx] })
    {v u : Value} (xs ys : List Nat) (hown : ON 22 w v xs) (hrd : RN w u ys) (hs : a.eval s = v) (hx : a.eval x = u) (hlen : xs.length + ys.length ≤ 17592186044416)
    (h : ∀ v' w', ON 22 w' v' (xs ++ ys) → Mods (ofV v) w w' → (v'.ownBlock = v.ownBlock ∨ freshIn w v') → wpList Try.prog ops Q rest (a.put o.dst v') w') : wpList Try.prog ops Q (o :: rest) a w := by
  obtain ⟨i, hi, hz, hs1, hb1⟩ := info_parts Try.infoU64
  refine wpList_ap hgd ho ht htx hi hz (by rw [hs1]; rfl) hs (by rw [hs1]; exact hown) hx (by rw [hs1]; exact hrd) (u64_one _) (by simp only [maxLen]; omega) (by rw [hb1]; omega) ?_
  intro v' w' h1 h2 h3
  refine h v' w' ?_ h2 h3
  rw [hs1] at h1
  unfold ON OwnM
  rw [List.map_append, List.length_append]
  exact h1

theorem ownN_made {w : World} (n : Nat) (hn : n ≤ 17592186044416) : ON 22 (w.alloc (.cells (madeCells #[.int .u64 0] n) 22)) (.slice (some ⟨w.heap.size, 0, none⟩) n n) (List.replicate n 0) := by
  refine ownM_of (by simp) (heap_new _ _) (Nat.le_refl _) (by simp only [maxLen]; omega) (by rw [size_madeCells]; omega) (fun i hi => ?_)
  rw [List.length_replicate] at hi
  rw [Nat.zero_add, made_get _ _ _ hi]
  simp

theorem wpList_mkn (t : TypeId) (ht : Try.prog.underlying t = some (.slice 22)) {w : World} {ops : Array Oper} {rest : List Oper} {o : Oper} {a : Act} {Q : Exit → Act → World → Prop}
    (hg : o.guard = none) (l c : Operand) (hop : o.op = Op.makeSlice t l c) (kl kc : IntKind) (n : Nat) (hl : a.eval l = .int kl (n : Int)) (hc : a.eval c = .int kc (n : Int)) (hn : n ≤ 17592186044416)
    (hK : ∀ w', ON 22 w' (.slice (some ⟨w.heap.size, 0, none⟩) n n) (List.replicate n 0) → Mods noB w w' → w.heap.size < w'.heap.size → wpList Try.prog ops Q rest (a.put o.dst (.slice (some ⟨w.heap.size, 0, none⟩) n n)) w') :
    wpList Try.prog ops Q (o :: rest) a w := by
  obtain ⟨i, hi, hz, hs1, hb1⟩ := info_parts Try.infoU64
  exact wpList_make_row w hg l c t hop 22 i _ ht hi hz hs1 rfl kl kc n hl hc (by rw [hb1]; omega) (by omega) (hK _ (ownN_made n hn) ((Mods.refl _ _).alloc _) (by simp))

end Go.Proofs.Ytnkbbclcileleaa

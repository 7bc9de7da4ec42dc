/- A slice of bytes that the call itself has made and appends to: nothing else turns. -/
import Derived.Test.YtjlomnhngngkiaaRPut
namespace Go.Proofs.Ytjlomnhngngkiaa
open Go.Gl Go.RowKit
set_option linter.unusedVariables false

structure Grow (W0 : World) (xs : List UInt8) (w : World) (v : Value) : Prop where
  own : Own w v xs
  mods : Mods noB W0 w
  fresh : freshIn W0 v

theorem freshIn.nil (w : World) : freshIn w (.slice none 0 0) := fun k hk => by simp [Value.ownBlock] at hk
theorem Grow.nil (w : World) : Grow w [] w (.slice none 0 0) := ⟨Own.nil _, Mods.refl _ _, freshIn.nil _⟩
theorem Grow.then0 {W0 w w1 : World} {xs : List UInt8} {v : Value} (h : Grow W0 xs w v) (hm : Mods noB w w1) : Grow W0 xs w1 v := ⟨h.own.keep hm (fun _ _ x => x), h.mods.then0 hm, h.fresh⟩
theorem Grow.more {W0 w w1 : World} {xs ys : List UInt8} {v v' : Value} (h : Grow W0 xs w v) (ho : Own w1 v' ys) (hm : Mods (ofV v) w w1) (hb : v'.ownBlock = v.ownBlock ∨ freshIn w v') : Grow W0 ys w1 v' :=
  ⟨ho, h.mods.trans hm (fun _ _ x => x) (fun i hi x => absurd hi (Nat.not_lt.2 (h.fresh i x))), by
    rcases hb with hb | hb
    · exact fun k hk => h.fresh k (hb ▸ hk)
    · exact hb.of h.mods.size⟩


theorem own_lit (xs : List UInt8) {w : World} (n len : Nat) (cs : Array Value) (hn : n = w.heap.size) (hl : xs.length = len) (hm : Nat.ble len 1000 = true) (hc : cs.toList = bv xs) : Own (w.alloc (.cells cs 5)) (.slice (some ⟨n, 0, none⟩) len len) xs := by
  subst hn hl
  have hs : cs.size = xs.length := by rw [← Array.length_toList, hc, bv_length]
  refine ⟨by rw [bv_length, Nat.mul_one], .inr ⟨_, 0, _, _, rfl, heap_new _ _, Nat.le_refl _, by have := Nat.le_of_ble_eq_true hm; simp only [maxLen]; omega, by omega, fun j u hj => ?_⟩⟩
  rw [Nat.zero_add, ← Array.getElem?_toList, hc]
  exact hj

theorem own_at_lit (xs : List UInt8) {w : World} (n len : Nat) (cs : Array Value) (hw : w.heap[n]? = some (.cells cs 5 (0, 0))) (hl : xs.length = len) (hm : Nat.ble len 1000 = true) (hc : cs.toList = bv xs) : Own w (.slice (some ⟨n, 0, none⟩) len len) xs := by
  subst hl
  have hs : cs.size = xs.length := by rw [← Array.length_toList, hc, bv_length]
  refine ⟨by rw [bv_length, Nat.mul_one], .inr ⟨_, 0, _, _, rfl, hw, Nat.le_refl _, by have := Nat.le_of_ble_eq_true hm; simp only [maxLen]; omega, by omega, fun j u hj => ?_⟩⟩
  rw [Nat.zero_add, ← Array.getElem?_toList, hc]
  exact hj

theorem Grow.lit (xs : List UInt8) {W0 w : World} (n len : Nat) (cs : Array Value) (hw : w.heap[n]? = some (.cells cs 5 (0, 0))) (hn : W0.heap.size ≤ n) (hl : xs.length = len) (hm : Nat.ble len 1000 = true) (hc : cs.toList = bv xs) (h0 : Mods noB W0 w) : Grow W0 xs w (.slice (some ⟨n, 0, none⟩) len len) :=
  ⟨own_at_lit xs n len cs hw hl hm hc, h0, fun k hk => by simp [Value.ownBlock] at hk; omega⟩

theorem blk_facts (w : World) (o : Obj) : (w.alloc o).heap[w.heap.size]? = some o ∧ Mods noB w (w.alloc o) ∧ w.heap.size < (w.alloc o).heap.size := ⟨heap_new _ _, (Mods.refl _ _).alloc _, by simp⟩

theorem be_one (x : Nat) : be 1 x = [UInt8.ofNat x] := by simp [be]

theorem Mods.cellsAt {a b : World} (h : Mods noB a b) {g : Nat} {cur : Array Value} {e : TypeId} (hg : a.heap[g]? = some (.cells cur e (0, 0))) (o : Nat) : b.cell? ⟨g, o, none⟩ = cur[o]? :=
  cells_of (h.heap hg (fun x => x)) o

/-- bytes and an error, as a call hands them back -/
def BRes (w : World) (xs : List UInt8) (n : Int) (e : Ending) (w' : World) : Prop := ∃ v, e = .returned (.tuple #[v, .int .i64 n]) ∧ Own w' v xs ∧ Mods noB w w' ∧ freshIn w v

end Go.Proofs.Ytjlomnhngngkiaa

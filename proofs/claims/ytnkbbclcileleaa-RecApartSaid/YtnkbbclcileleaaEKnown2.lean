/- gleanlaw4.known: the chapter's examples hold. -/
import Derived.Test.YtnkbbclcileleaaEKnown
import Derived.Test.YtnkbbclcileleaaHNat
import Derived.Lib.SlBytesConst
namespace Go.Proofs.Ytnkbbclcileleaa
open Go.Gl Go.RowKit
set_option linter.unusedVariables false
set_option maxRecDepth 100000

def TrueM (w : World) (e : Ending) (w' : World) : Prop := e = .returned (.bool true) ∧ Mods noB w w'

theorem Bytes_true {x y : Value} {xs : List UInt8} {w : World} (hx : Rd w x xs) (hy : Rd w y xs) : Calls Try.prog 6 #[x, y] w fun e w' => e = .returned (.bool true) ∧ Mods noB w w' :=
  (Bytes_any hx hy).mono fun e w' ⟨he, hq⟩ => ⟨by rw [he]; simp, hq.mods _⟩
theorem HNat_true {x y : Value} {xs : List Nat} {w : World} (hx : RN w x xs) (hy : RN w y xs) : Calls Try.prog 34 #[x, y] w fun e w' => e = .returned (.bool true) ∧ Mods noB w w' :=
  (HNat_any hx hy).mono fun e w' ⟨he, hq⟩ => ⟨by rw [he]; simp, hq.mods _⟩

theorem onlit (x : Nat) {w : World} (n : Nat) (hn : n = w.heap.size) : RN (w.alloc (.cells #[.int .u64 x] 22)) (.slice (some ⟨n, 0, none⟩) 1 1) [x] := by
  subst hn
  exact rdM_of rfl (Nat.le_refl _) (by simp [maxLen]) (by simp) (fun i hi => by
    have : i = 0 := by simpa using hi
    subst this
    exact cells_of (heap_new w _) 0)

theorem kLim : Lim [256] := fun x hx => by simp at hx; omega

theorem ks1 : evl 1 (kb0, 0) = 7 ∧ est 1 (kb0, 0) = (kb0.drop 1, 0) := by decide
theorem ks2 : evl 4 (kb0.drop 1, 0) = 258 ∧ est 4 (kb0.drop 1, 0) = (kb0.drop 5, 0) := by decide
theorem ks3 : decide (evl 1 (kb0.drop 5, 0) = 1) = true ∧ boolS (kb0.drop 5, 0) = (kb0.drop 6, 0) := by decide
theorem ks4 : natV (kb0.drop 6, 0) = [256] ∧ natT (kb0.drop 6, 0) = (kb0.drop 9, 0) := by decide +kernel
theorem ks5 : rawV 2 (kb0.drop 9, 0) = [97, 98] ∧ rawT 2 (kb0.drop 9, 0) = ([], 0) := by decide
theorem ks6 : natT ([2, 0, 5], 0) = ([2, 0, 5], 41) ∧ natV ([2, 0, 5], 0) = [] := by decide +kernel
theorem ks7 : rawT 1 ([0, 0, 0, 2, 97, 98], 0) = ([0, 0, 0, 2, 97, 98], 42) ∧ rawV 1 ([0, 0, 0, 2, 97, 98], 0) = [] := by decide

theorem rd_at_lit (xs : List UInt8) {w : World} (n len : Nat) (cs : Array Value) {e : TypeId} {fr : Nat × Nat} (hw : w.heap[n]? = some (.cells cs e fr)) (hl : xs.length = len) (hm : Nat.ble len 1000 = true) (hc : cs.toList = bv xs) : Rd w (.slice (some ⟨n, 0, none⟩) len len) xs := by
  subst hl
  refine ⟨by rw [bv_length, Nat.mul_one], .inr ⟨_, 0, _, rfl, Nat.le_refl _, by have := Nat.le_of_ble_eq_true hm; simp only [maxLen]; omega, .inr (lt_of_heap hw), fun j u hj => ?_⟩⟩
  rw [Nat.zero_add, cells_of hw, ← Array.getElem?_toList, hc]
  exact hj

/-- Two readers that the call itself has made. -/
structure K2 (w : World) (gx : Nat) (sx : ESt) (gy : Nat) (sy : ESt) (vx vy : Value) (wx : World) : Prop where
  rx : Rr wx gx vx sx.1 sx.2
  ry : Rr wx gy vy sy.1 sy.2
  mods : Mods noB w wx
  bx : w.heap.size ≤ gx
  b_y : w.heap.size ≤ gy
  ne : gx ≠ gy
  nx : vx.ownBlock ≠ some gy
  ny : vy.ownBlock ≠ some gx

theorem K2.make {w w1 w2 w3 : World} {gx gy : Nat} {xs ys : List UInt8} {o : Obj} (hm : Mods noB w w1) (h1 : ∃ v, Rr w2 gx v xs 0 ∧ Mods noB w1 w2 ∧ w1.heap.size ≤ gx ∧ freshIn w1 v) (h2 : ∃ v, Rr w3 gy v ys 0 ∧ Mods noB (w2.alloc o) w3 ∧ (w2.alloc o).heap.size ≤ gy ∧ freshIn (w2.alloc o) v) : ∃ vx vy, K2 w gx (xs, 0) gy (ys, 0) vx vy w3 := by
  obtain ⟨v, k1, k2, k3, k4⟩ := h1
  obtain ⟨v', q1, q2, q3, q4⟩ := h2
  have m := ((Mods.refl noB w2).alloc o).then0 q2
  have hs : w2.heap.size < (w2.alloc o).heap.size := by simp
  refine ⟨v, v', k1.keep m (fun x => x) (fun _ _ x => x), q1, (hm.then0 k2).then0 m, Nat.le_trans hm.size k3, Nat.le_trans (Nat.le_trans (hm.then0 k2).size (Nat.le_of_lt hs)) q3, by have := k1.lt; omega, fun e => ?_, fun e => ?_⟩
  · have := k1.blt _ e; omega
  · have := q4 _ e; have := k1.lt; omega

theorem K2.stepx {w wx wy : World} {gx gy : Nat} {sx sy s' : ESt} {vx vy v' : Value} (h : K2 w gx sx gy sy vx vy wx) (k : RStp wx gx vx s'.1 s'.2 wy v') : K2 w gx s' gy sy v' vy wy :=
  ⟨k.rr, h.ry.keep k.mods (fun e => h.ne e.symm) (fun i hi e => h.ny (by rw [hi, e])), h.mods.trans k.mods (fun _ _ x => x) (fun i hi x => by have := h.bx; omega), h.bx, h.b_y, h.ne, fun e => h.nx (k.blk _ e), h.ny⟩
theorem K2.stepy {w wx wy : World} {gx gy : Nat} {sx sy s' : ESt} {vx vy v' : Value} (h : K2 w gx sx gy sy vx vy wx) (k : RStp wx gy vy s'.1 s'.2 wy v') : K2 w gx sx gy s' vx v' wy :=
  ⟨h.rx.keep k.mods (fun e => h.ne e) (fun i hi e => h.nx (by rw [hi, e])), k.rr, h.mods.trans k.mods (fun _ _ x => x) (fun i hi x => by have := h.b_y; omega), h.bx, h.b_y, h.ne, h.nx, fun e => h.ny (k.blk _ e)⟩
theorem K2.then0 {w wx wy : World} {gx gy : Nat} {sx sy : ESt} {vx vy : Value} (h : K2 w gx sx gy sy vx vy wx) (m : Mods noB wx wy) : K2 w gx sx gy sy vx vy wy :=
  ⟨h.rx.keep m (fun x => x) (fun _ _ x => x), h.ry.keep m (fun x => x) (fun _ _ x => x), h.mods.then0 m, h.bx, h.b_y, h.ne, h.nx, h.ny⟩


end Go.Proofs.Ytnkbbclcileleaa

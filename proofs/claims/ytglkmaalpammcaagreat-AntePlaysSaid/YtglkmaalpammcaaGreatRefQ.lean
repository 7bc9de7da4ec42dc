/- gleanref8: a reader in new memory, the record's block beside it; ends. -/
import Derived.Test.YtglkmaalpammcaaGreatRecH
import Derived.Test.YtglkmaalpammcaaGreatRRdB
namespace Go.Proofs.YtglkmaalpammcaaGreat
open Go.Gl Go.RowKit
set_option linter.unusedVariables false
set_option maxRecDepth 100000
def RdB (w : World) (v : Value) (xs : List UInt8) : Prop := Rd w v xs ∧ ∀ k, v.ownBlock = some k → k < w.heap.size
theorem RdB.keep {w wx : World} {v : Value} {xs : List UInt8} (h : RdB w v xs) (hm : Mods noB w wx) : RdB wx v xs := ⟨h.1.keep hm (fun _ _ x => x), fun k hk => hm.size_of (h.2 k hk)⟩
structure QF (w : World) (g : Nat) (s : ESt) (bs : List (Nat × Obj)) (ds : List (Value × List Nat)) (wx : World) : Prop where
 rr : ∃ v, RR wx g v s.1 s.2 ∧ ∀ k, v.ownBlock = some k → k < w.heap.size
 blk : ∀ p ∈ bs, p.1 ≠ g ∧ w.heap.size ≤ p.1 ∧ wx.heap[p.1]? = some p.2
 mods : Mods noB w wx
 new : w.heap.size ≤ g
 lt : g < wx.heap.size
 ds : ∀ p ∈ ds, RN wx p.1 p.2 ∧ freshIn w p.1 ∧ (p.2 = [] ∨ ∀ k, p.1.ownBlock = some k → k < wx.heap.size ∧ k ≠ g ∧ ∀ q ∈ bs, k ≠ q.1)
variable {w wx wy : World} {g : Nat} {s : ESt} {bs : List (Nat × Obj)} {ds : List (Value × List Nat)}
theorem QF.start {b : Value} {xs : List UInt8} (hb : RdB w b xs) (o : Obj) (wy : World) (hy : wy = (w.alloc o).alloc (.cells #[b, .int .i64 0] 249)) (ho : ∃ cs T, o = .cells cs T (0, 0)) :
  QF w (w.heap.size + 1) (xs, 0) [(w.heap.size, o)] [] wy := by
 subst hy
 have e : (w.alloc o).heap.size = w.heap.size + 1 := by simp
 have hm := ((Mods.refl noB w).alloc o).alloc (.cells #[b, .int .i64 0] 249)
 have h2 := heap_new (w.alloc o) (.cells #[b, .int .i64 0] 249)
 rw [e] at h2
 refine ⟨⟨b, ⟨h2, hb.1.keep hm (fun _ _ x => x), fun x => by have := hb.2 _ x; omega⟩, hb.2⟩, fun p hp => ?_, hm, by omega, by simp, fun p hp => by cases hp⟩
 obtain rfl := List.mem_singleton.1 hp
 exact ⟨by simp, Nat.le_refl _, heap_old (heap_new w o) _⟩
theorem QF.step (h : QF w g s bs ds wx) {t : ESt} {v : Value} (hv : ∀ k, v.ownBlock = some k → k < w.heap.size) (k : RS wx g v t wy) : QF w g t bs ds wy := by
 obtain ⟨⟨v', k1, k2⟩, k3⟩ := k
 refine ⟨⟨v', k1, fun i hi => hv i (k2 i hi)⟩, fun p hp => ⟨(h.blk p hp).1, (h.blk p hp).2.1, k3.heap (h.blk p hp).2.2 (h.blk p hp).1⟩, h.mods.trans k3 (fun _ _ x => x) (fun i hi x => by have := h.new; omega), h.new, k3.size_of h.lt, fun p hp => ?_⟩
 obtain ⟨h1, h2, h3⟩ := h.ds p hp
 exact ⟨RN.keepW h1 k3 (h3.imp id (fun h3 k hk => (h3 k hk).2.1)), h2, h3.imp id (fun h3 k hk => ⟨k3.size_of (h3 k hk).1, (h3 k hk).2⟩)⟩
theorem QF.alloc (h : QF w g s bs ds wx) (o : Obj) : QF w g s ((wx.heap.size, o) :: bs) ds (wx.alloc o) := by
 have hm := (Mods.refl noB wx).alloc o
 obtain ⟨v, r1, r2⟩ := h.rr
 refine ⟨⟨v, r1.keep hm (fun x => x) (fun _ _ x => x), r2⟩, fun p hp => ?_, h.mods.alloc o, h.new, hm.size_of h.lt, fun p hp => ?_⟩
 ·rcases List.mem_cons.1 hp with rfl | hp
  ·exact ⟨by have := h.lt; simp only; omega, h.mods.size, heap_new _ _⟩
  ·exact ⟨(h.blk p hp).1, (h.blk p hp).2.1, heap_old (h.blk p hp).2.2 o⟩
 ·obtain ⟨h1, h2, h3⟩ := h.ds p hp
  refine ⟨h1.keep hm (fun _ _ x => x), h2, h3.imp id (fun h3 k hk => ⟨hm.size_of (h3 k hk).1, (h3 k hk).2.1, fun q hq => ?_⟩)⟩
  rcases List.mem_cons.1 hq with rfl | hq
  ·have := (h3 k hk).1; simp only; omega
  ·exact (h3 k hk).2.2 q hq
theorem QF.set {B : Nat} {cur : Array Value} {T : TypeId} (h : QF w g s ((B, .cells cur T (0, 0)) :: bs) ds wx) (hB : ∀ q ∈ bs, q.1 ≠ B) (o : Nat) (u : Value) : QF w g s ((B, .cells (cur.setIfInBounds o u) T (0, 0)) :: bs) ds (wx.setCell ⟨B, o, none⟩ u) := by
 obtain ⟨b1, b2, b3⟩ := h.blk _ (List.mem_cons_self ..)
 have hm := Mods.one wx B o u
 obtain ⟨v, r1, r2⟩ := h.rr
 have hmn := h.mods.setCell (p := ⟨B, o, none⟩) (.inr b2) u
 refine ⟨⟨v, r1.keep hm (fun e => b1 e.symm) (fun k hk e => by have := r2 k hk; simp only at b2; omega), r2⟩, fun p hp => ?_, hmn, h.new, hm.size_of h.lt, fun p hp => ?_⟩
 ·rcases List.mem_cons.1 hp with rfl | hp
  ·exact ⟨b1, b2, heap_set b3 o u⟩
  ·obtain ⟨q1, q2, q3⟩ := h.blk p (List.mem_cons_of_mem _ hp)
   exact ⟨q1, q2, hm.heap q3 (hB p hp)⟩
 ·obtain ⟨h1, h2, h3⟩ := h.ds p hp
  refine ⟨RN.keepW h1 hm (h3.imp id (fun h3 k hk => (h3 k hk).2.2 _ (List.mem_cons_self ..))), h2, h3.imp id (fun h3 k hk => ⟨hm.size_of (h3 k hk).1, (h3 k hk).2.1, fun q hq => ?_⟩)⟩
  rcases List.mem_cons.1 hq with rfl | hq
  ·exact (h3 k hk).2.2 (B, .cells cur T (0, 0)) (List.mem_cons_self ..)
  ·exact (h3 k hk).2.2 q (List.mem_cons_of_mem _ hq)
theorem QF.get (h : QF w g s bs ds wx) (i : Nat) {p : Nat × Obj} (hi : bs[i]? = some p) : wx.heap[p.1]? = some p.2 := (h.blk p (List.mem_of_getElem? hi)).2.2
theorem QF.u (h : QF w g s bs ds wx) : Calls Tryz.prog 165 #[.pointer (some ⟨g, 0, none⟩), .int .i64 8] wx fun r w' => r = .returned (.int .u64 (evl 8 s)) ∧ QF w g (est 8 s) bs ds w' := by
 obtain ⟨v, r1, r2⟩ := h.rr
 exact (rU_st 8 r1 (by omega)).mono fun r w' ⟨hr, hs⟩ => ⟨hr, h.step r2 hs⟩
theorem QF.ends (h : QF w g s bs ds wx) : Calls Tryz.prog 166 #[.pointer (some ⟨g, 0, none⟩)] wx fun r w' => r = .returned (.int .i64 (if s = ([], 0) then 0 else 80)) ∧ ∃ t, QF w g t bs ds w' := by
 obtain ⟨v, r1, r2⟩ := h.rr
 have HE := Lib.hid (rEndE r1)
 have H := Lib.hid h
 have HR := Lib.hid r2
 clear h r1 r2
 by_cases he : s = ([], 0)
 ·have e0 : endS s.1 s.2 = 0 := (endS_zero s).2 he
  rw [if_pos he]
  rw [e0] at HE
  go_enter Tryz.func166, Tryz.ntmps166
  go_wp2_with fail
  refine HE.out.mono ?_
  rintro r w1 ⟨rfl, hs⟩
  have HS := Lib.hid hs
  clear hs
  go_wp2
  go_ret
  exact ⟨rfl, _, H.out.step HR.out HS.out⟩
 ·have e0 : endS s.1 s.2 ≠ 0 := fun x => he ((endS_zero s).1 x)
  have e1 : (endS s.1 s.2 == 0) = false := beq_false_of_ne e0
  have e2 : (endS s.1 s.2 != 0) = true := bne_iff_ne.2 e0
  rw [if_neg he]
  generalize endS s.1 s.2 = ee at *
  go_enter Tryz.func166, Tryz.ntmps166
  go_wp2_with fail
  refine HE.out.mono ?_
  rintro r w1 ⟨rfl, hs⟩
  have HS := Lib.hid hs
  clear hs
  go_wp2
  go_ret
  exact ⟨rfl, _, H.out.step HR.out HS.out⟩
end Go.Proofs.YtglkmaalpammcaaGreat

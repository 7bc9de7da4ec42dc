/- msg.reads: an item read. -/
import Derived.Test.YtebknplbghcemaaMMay
import Derived.Test.YtebknplbghcemaaERd2
namespace Go.Proofs.Ytebknplbghcemaa
open Go.Gl Go.RowKit
set_option linter.unusedVariables false
set_option maxRecDepth 100000

/-- a reader's state: what is left, its error -/
abbrev RSt := List UInt8 × Int
def stp (n : Nat) (s : RSt) : RSt := (rleft n s.1 s.2, rerr n s.1 s.2)
def val (n : Nat) (s : RSt) : Nat := rtake n s.1 s.2
def stpIf (b : Bool) (s : RSt) : RSt := if b then stp 8 s else s
def valIf (b : Bool) (s : RSt) : Nat := if b then val 8 s else 0

def itm0 : Itm := ⟨0, 0, 0, 0, 0, 0, 0, 0, 0, 0, 0⟩
/-- the state behind the kind -/
def st5 (s : RSt) : RSt := stp 1 (stp 8 (stp 8 (stp 8 (stp 1 s))))
def mkd (s : RSt) : Nat := val 1 (stp 8 (stp 8 (stp 8 (stp 1 s))))
def itmT (s : RSt) : Itm := ⟨1, val 8 (stp 1 s), val 8 (stp 8 (stp 1 s)), val 8 (stp 8 (stp 8 (stp 1 s))), mkd s, valIf (usA (mkd s)) (st5 s), valIf (usB (mkd s)) (stpIf (usA (mkd s)) (st5 s)), valIf (usN (mkd s)) (stpIf (usB (mkd s)) (stpIf (usA (mkd s)) (st5 s))), 0, 0, 0⟩
def endT (s : RSt) : RSt := stpIf (usN (mkd s)) (stpIf (usB (mkd s)) (stpIf (usA (mkd s)) (st5 s)))
def itmF (s : RSt) : Itm := ⟨2, 0, 0, 0, 0, 0, 0, 0, val 1 (stp 1 s), val 8 (stp 1 (stp 1 s)), val 8 (stp 8 (stp 1 (stp 1 s)))⟩
def endF (s : RSt) : RSt := stp 8 (stp 8 (stp 1 (stp 1 s)))
def itmR (s : RSt) : Itm := if val 1 s = 84 then itmT s else if val 1 s = 70 then itmF s else itm0
def endR (s : RSt) : RSt := if val 1 s = 84 then endT s else if val 1 s = 70 then endF s else stp 1 s

theorem RStp.other {w0 wx : World} {g : Nat} {v0 v : Value} {xs : List UInt8} {e : Int} (h : RStp w0 g v0 xs e wx v) (hg : g < w0.heap.size) (hv : ∀ k, v0.ownBlock = some k → k < w0.heap.size) {t : Nat} (ht : w0.heap.size ≤ t) (o : Nat) (u : Value) : RStp w0 g v0 xs e (wx.setCell ⟨t, o, none⟩ u) v :=
  ⟨⟨(heap_set_other (by simp; omega) u).trans h.rr.heap, h.rr.rd.keep (Mods.one wx t o u) (fun k hk e => by have := hv k (h.blk k hk); omega), h.rr.apart⟩, h.mods.setCell (.inr ht) u, h.blk⟩
theorem RStp.then0 {w0 wx wy : World} {g : Nat} {v0 v : Value} {xs : List UInt8} {e : Int} (h : RStp w0 g v0 xs e wx v) (hm : Mods noB wx wy) : RStp w0 g v0 xs e wy v :=
  ⟨⟨hm.heap h.rr.heap (fun x => x), h.rr.rd.keep hm (fun _ _ x => x), h.rr.apart⟩, h.mods.then0 hm, h.blk⟩

/-- reads on its way: the reader, the result's block, the tx's block, one block more -/
structure TS (w0 : World) (g : Nat) (v0 : Value) (s : RSt) (t2 : Nat) (o2 : Obj) (t3 : Nat) (tx : Array Value) (t4 : Nat) (o4 : Obj) (wx : World) (v : Value) : Prop where
  st : RStp w0 g v0 s.1 s.2 wx v
  h2 : wx.heap[t2]? = some o2
  h3 : wx.heap[t3]? = some (.cells tx 26 (0, 0))
  h4 : wx.heap[t4]? = some o4
  l2 : w0.heap.size ≤ t2
  l3 : w0.heap.size ≤ t3
  l4 : w0.heap.size ≤ t4
  n2 : t2 ≠ t3
  n4 : t4 ≠ t3
  lg : g < w0.heap.size
  lv : ∀ k, v0.ownBlock = some k → k < w0.heap.size

theorem TS.step {w0 wx wy : World} {g : Nat} {v0 v v' : Value} {s s' : RSt} {t2 t3 t4 : Nat} {o2 o4 : Obj} {tx : Array Value} (h : TS w0 g v0 s t2 o2 t3 tx t4 o4 wx v) (k : RStp wx g v s'.1 s'.2 wy v') : TS w0 g v0 s' t2 o2 t3 tx t4 o4 wy v' :=
  ⟨h.st.trans k, k.mods.heap h.h2 (by have := h.l2; have := h.lg; omega), k.mods.heap h.h3 (by have := h.l3; have := h.lg; omega), k.mods.heap h.h4 (by have := h.l4; have := h.lg; omega), h.l2, h.l3, h.l4, h.n2, h.n4, h.lg, h.lv⟩
theorem TS.then0 {w0 wx wy : World} {g : Nat} {v0 v : Value} {s : RSt} {t2 t3 t4 : Nat} {o2 o4 : Obj} {tx : Array Value} (h : TS w0 g v0 s t2 o2 t3 tx t4 o4 wx v) (hm : Mods noB wx wy) : TS w0 g v0 s t2 o2 t3 tx t4 o4 wy v :=
  ⟨h.st.then0 hm, hm.heap h.h2 (fun x => x), hm.heap h.h3 (fun x => x), hm.heap h.h4 (fun x => x), h.l2, h.l3, h.l4, h.n2, h.n4, h.lg, h.lv⟩
theorem TS.set {w0 wx : World} {g : Nat} {v0 v : Value} {s : RSt} {t2 t3 t4 : Nat} {o2 o4 : Obj} {tx : Array Value} (h : TS w0 g v0 s t2 o2 t3 tx t4 o4 wx v) (o : Nat) (u : Value) : TS w0 g v0 s t2 o2 t3 (tx.setIfInBounds o u) t4 o4 (wx.setCell ⟨t3, o, none⟩ u) v :=
  ⟨h.st.other h.lg h.lv h.l3 o u, (heap_set_other h.n2 u).trans h.h2, heap_set h.h3 o u, (heap_set_other h.n4 u).trans h.h4, h.l2, h.l3, h.l4, h.n2, h.n4, h.lg, h.lv⟩
theorem TS.keep4 {w0 wx : World} {g : Nat} {v0 v : Value} {s : RSt} {t2 t3 t4 t5 : Nat} {o2 o4 o5 : Obj} {tx : Array Value} (h : TS w0 g v0 s t2 o2 t3 tx t4 o4 wx v) (h5 : wx.heap[t5]? = some o5) (l5 : w0.heap.size ≤ t5) (n5 : t5 ≠ t3) : TS w0 g v0 s t2 o2 t3 tx t5 o5 wx v :=
  ⟨h.st, h.h2, h.h3, h5, h.l2, h.l3, l5, h.n2, n5, h.lg, h.lv⟩

theorem TS.u8 {w0 wx : World} {g : Nat} {v0 v : Value} {s : RSt} {t2 t3 t4 : Nat} {o2 o4 : Obj} {tx : Array Value} (h : TS w0 g v0 s t2 o2 t3 tx t4 o4 wx v) :
    Calls Try.prog 32 #[.pointer (some ⟨g, 0, none⟩)] wx fun r w' => r = .returned (.int .u8 (val 1 s)) ∧ ∃ v', TS w0 g v0 (stp 1 s) t2 o2 t3 tx t4 o4 w' v' :=
  (RU8_any h.st.rr).mono fun r w' ⟨hr, v', hs⟩ => ⟨hr, v', h.step (s' := stp 1 s) hs⟩
theorem TS.u64 {w0 wx : World} {g : Nat} {v0 v : Value} {s : RSt} {t2 t3 t4 : Nat} {o2 o4 : Obj} {tx : Array Value} (h : TS w0 g v0 s t2 o2 t3 tx t4 o4 wx v) :
    Calls Try.prog 36 #[.pointer (some ⟨g, 0, none⟩)] wx fun r w' => r = .returned (.int .u64 (val 8 s)) ∧ ∃ v', TS w0 g v0 (stp 8 s) t2 o2 t3 tx t4 o4 w' v' :=
  (RU64_any h.st.rr).mono fun r w' ⟨hr, v', hs⟩ => ⟨hr, v', h.step (s' := stp 8 s) hs⟩

/-- an item and the reader's state, as a call hands them back -/
def IRes (i : Itm) (w : World) (g : Nat) (v : Value) (s : RSt) (r : Ending) (w' : World) : Prop := r = .returned (.agg i.cells) ∧ ∃ v', RStp w g v s.1 s.2 w' v'

theorem val_lt (n : Nat) (s : RSt) : val n s < 256 ^ n := rtake_lt n s.1 s.2

/-- reads ahead of its switch: the reader, the result's block -/
structure TS0 (w0 : World) (g : Nat) (v0 : Value) (s : RSt) (wx : World) (v : Value) : Prop where
  st : RStp w0 g v0 s.1 s.2 wx v
  h2 : wx.heap[w0.heap.size]? = some (.cells itm0.cells 30 (0, 0))
  lg : g < w0.heap.size
  lv : ∀ k, v0.ownBlock = some k → k < w0.heap.size

theorem TS0.step {w0 wx wy : World} {g : Nat} {v0 v v' : Value} {s s' : RSt} (h : TS0 w0 g v0 s wx v) (k : RStp wx g v s'.1 s'.2 wy v') : TS0 w0 g v0 s' wy v' :=
  ⟨h.st.trans k, k.mods.heap h.h2 (by have := h.lg; omega), h.lg, h.lv⟩
theorem TS0.u8 {w0 wx : World} {g : Nat} {v0 v : Value} {s : RSt} (h : TS0 w0 g v0 s wx v) :
    Calls Try.prog 32 #[.pointer (some ⟨g, 0, none⟩)] wx fun r w' => r = .returned (.int .u8 (val 1 s)) ∧ ∃ v', TS0 w0 g v0 (stp 1 s) w' v' :=
  (RU8_any h.st.rr).mono fun r w' ⟨hr, v', hs⟩ => ⟨hr, v', h.step (s' := stp 1 s) hs⟩
theorem TS0.u64 {w0 wx : World} {g : Nat} {v0 v : Value} {s : RSt} (h : TS0 w0 g v0 s wx v) :
    Calls Try.prog 36 #[.pointer (some ⟨g, 0, none⟩)] wx fun r w' => r = .returned (.int .u64 (val 8 s)) ∧ ∃ v', TS0 w0 g v0 (stp 8 s) w' v' :=
  (RU64_any h.st.rr).mono fun r w' ⟨hr, v', hs⟩ => ⟨hr, v', h.step (s' := stp 8 s) hs⟩
theorem TS0.start {w0 : World} {g : Nat} {v0 : Value} {s : RSt} (h : Rr w0 g v0 s.1 s.2) : TS0 w0 g v0 s (w0.alloc (.cells itm0.cells 30)) v0 :=
  ⟨(RStp.refl h).then0 ((Mods.refl noB w0).alloc _), heap_new _ _, h.lt, h.rd.lt⟩

theorem item_size : (Try.prog.info? 30).map (·.size) = some 11 := by kernel_rfl

theorem ires_end {w0 wx wy : World} {g t : Nat} {v0 v : Value} {xs : List UInt8} {e : Int} (h : RStp w0 g v0 xs e wx v) (hg : g < w0.heap.size) (hv : ∀ k, v0.ownBlock = some k → k < w0.heap.size) (ht : w0.heap.size ≤ t) (k : Mods (fun i => i = t) wx wy) : RStp w0 g v0 xs e wy v :=
  ⟨h.rr.keep k (by omega) (fun i hi e => by have := hv i (h.blk i hi); omega), h.mods.trans k (fun _ _ x => x) (fun i hi x => by omega), h.blk⟩

set_option maxHeartbeats 2000000 in
theorem reads_other {w : World} {g : Nat} {v : Value} {s : RSt} (h : Rr w g v s.1 s.2) (h1 : val 1 s ≠ 84) (h2 : val 1 s ≠ 70) : Calls Try.prog 51 #[.pointer (some ⟨g, 0, none⟩)] w (IRes itm0 w g v (stp 1 s)) := by
  have H0 := Lib.hid (TS0.start h)
  have b1 : (((val 1 s : Nat) : Int) == 84) = false := by simp; omega
  have b2 : (((val 1 s : Nat) : Int) == 70) = false := by simp; omega
  clear h h1 h2
  unfold Itm.cells itm0 at *
  go_enter Try.func51, Try.ntmps51
  go_wp2_with fail
  refine (H0.out.u8).mono ?_
  rintro r w1 ⟨rfl, v1, hs⟩
  replace H0 := Lib.hid hs
  have g0 := hs.h2
  clear hs
  go_wp2_with (refine wpList_store_blk rfl rfl g0 rfl rfl item_size rfl rfl ?_; intro w4 k1 k2 k3; have c4 := cells_of k1)
  refine bodyPost_ret (by simp [results, Try.results51, go_sem, c4]; try rfl) rfl ?_
  exact ⟨rfl, v1, ires_end H0.out.st H0.out.lg H0.out.lv (Nat.le_refl _) k2⟩

set_option maxHeartbeats 2000000 in
theorem reads_fault {w : World} {g : Nat} {v : Value} {s : RSt} (h : Rr w g v s.1 s.2) (h1 : val 1 s = 70) : Calls Try.prog 51 #[.pointer (some ⟨g, 0, none⟩)] w (IRes (itmF s) w g v (endF s)) := by
  have H0 := Lib.hid (TS0.start h)
  have l1 := val_lt 1 (stp 1 s)
  simp at l1
  unfold Itm.cells itm0 at *
  rw [show itmF s = ⟨2, 0, 0, 0, 0, 0, 0, 0, val 1 (stp 1 s), val 8 (stp 1 (stp 1 s)), val 8 (stp 8 (stp 1 (stp 1 s)))⟩ from rfl]
  have H1 := Lib.hid h1
  clear h h1
  go_enter Try.func51, Try.ntmps51
  go_wp2_with fail
  refine (H0.out.u8).mono ?_
  rw [H1.out]
  rintro r w1 ⟨rfl, v1, hs⟩
  replace H0 := Lib.hid hs
  clear hs
  go_wp2_with fail
  refine (H0.out.u8).mono ?_
  rintro r w2 ⟨rfl, v2, hs⟩
  replace H0 := Lib.hid hs
  clear hs
  go_wp2_with fail
  refine (H0.out.u64).mono ?_
  rintro r w3 ⟨rfl, v3, hs⟩
  replace H0 := Lib.hid hs
  clear hs
  go_wp2_with fail
  refine (H0.out.u64).mono ?_
  rintro r w4 ⟨rfl, v4, hs⟩
  replace H0 := Lib.hid hs
  have g0 := hs.h2
  clear hs
  go_wp2_with (refine wpList_store_blk rfl rfl g0 rfl rfl item_size rfl rfl ?_; intro w5 k1 k2 k3; have c4 := cells_of k1)
  refine bodyPost_ret (by simp [results, Try.results51, go_sem, c4]; try rfl) rfl ?_
  exact ⟨rfl, v4, ires_end H0.out.st H0.out.lg H0.out.lv (Nat.le_refl _) k2⟩

end Go.Proofs.Ytebknplbghcemaa

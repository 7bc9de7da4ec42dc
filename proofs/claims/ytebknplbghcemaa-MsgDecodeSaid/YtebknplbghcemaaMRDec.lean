/- gleanref17.Decode: the item that bytes are, the document's way. -/
import Derived.Test.YtebknplbghcemaaMDec
import Derived.Test.YtebknplbghcemaaRRdr
namespace Go.Proofs.Ytebknplbghcemaa
open Go.Gl Go.RowKit
set_option linter.unusedVariables false
set_option maxRecDepth 100000

theorem rtakeY_num (n : Nat) (xs : List UInt8) (e : Int) : num (rtakeY n xs e) = rtake n xs e := by
  unfold rtakeY rtake
  split
  · split <;> rfl
  · rfl
theorem rtakeX_eq (n : Nat) (xs : List UInt8) (e : Int) : rtakeX n xs e = rleft n xs e := rfl
theorem rtakeE_eq (n : Nat) (xs : List UInt8) (e : Int) : rtakeE n xs e = rerr n xs e := rfl

/-- what End tells -/
def endE (s : RSt) : Int := if s.2 = 0 then (if s.1.length = 0 then 0 else 43) else s.2

theorem rEnd_err {w : World} {g : Nat} {vB : Value} {xs : List UInt8} {err : Int} (h : RR w g vB xs err) (he : err ≠ 0) :
    Calls Try.prog 54 #[.pointer (some ⟨g, 0, none⟩)] w fun r w' => r = .returned (.int .i64 err) ∧ RStep w g vB xs err w' := by
  have c := cells_of h.heap
  have hb : (err == 0) = false := by simp [he]
  have H := Lib.hid h
  clear h he
  go_enter Try.func54, Try.ntmps54
  go_wp2
  go_ret
  exact ⟨rfl, ⟨vB, H.out, fun _ x => x⟩, Mods.refl _ _⟩

theorem rEnd_more {w : World} {g : Nat} {vB : Value} {xs : List UInt8} (h : RR w g vB xs 0) (he : xs.length ≠ 0) :
    Calls Try.prog 54 #[.pointer (some ⟨g, 0, none⟩)] w fun r w' => r = .returned (.int .i64 43) ∧ RStep w g vB xs 43 w' := by
  obtain ⟨a, ca, rfl, h1⟩ := h.rd.form
  have c := cells_of h.heap
  have f := free_of h.heap
  have H := Lib.hid h
  have hp : (0 : Int) < (xs.length : Int) := by omega
  generalize hx : xs.length = len at *
  have HX := Lib.hid hx
  clear h he hx h1
  go_enter Try.func54, Try.ntmps54
  go_wp2
  go_ret
  refine ⟨rfl, ⟨_, ⟨H.out.setE 43, H.out.rd.keep (Mods.one _ _ _ _) (fun k hk e => H.out.apart (by rw [hk, e])), H.out.apart⟩, fun _ x => x⟩, Mods.one _ _ _ _⟩

theorem rEnd_ok {w : World} {g : Nat} {vB : Value} {xs : List UInt8} (h : RR w g vB xs 0) (he : xs.length = 0) :
    Calls Try.prog 54 #[.pointer (some ⟨g, 0, none⟩)] w fun r w' => r = .returned (.int .i64 0) ∧ RStep w g vB xs 0 w' := by
  obtain ⟨a, ca, rfl, h1⟩ := h.rd.form
  have H := Lib.hid h
  have c := cells_of h.heap
  rw [he] at c
  clear h he h1
  go_enter Try.func54, Try.ntmps54
  go_wp2
  go_ret
  exact ⟨rfl, ⟨_, H.out, fun _ x => x⟩, Mods.refl _ _⟩

/-- Decode on its way: the reader, the result's block, the item's block -/
structure RT (w : World) (g : Nat) (s : RSt) (t5 : Nat) (it : Array Value) (wx : World) : Prop where
  rr : ∃ vB, RR wx g vB s.1 s.2 ∧ ∀ k, vB.ownBlock = some k → k < w.heap.size
  h2 : wx.heap[w.heap.size]? = some (.cells itm0.cells 30 (0, 0))
  h5 : wx.heap[t5]? = some (.cells it 30 (0, 0))
  mods : Mods noB w wx
  lg : w.heap.size < g
  l5 : w.heap.size < t5
  ne : g ≠ t5

theorem RT.step {w wx wy : World} {g t5 : Nat} {s s' : RSt} {it : Array Value} (h : RT w g s t5 it wx) {vB : Value} (hv : ∀ k, vB.ownBlock = some k → k < w.heap.size) (k : RStep wx g vB s'.1 s'.2 wy) : RT w g s' t5 it wy := by
  obtain ⟨vB', k1, k2⟩ := k.st
  exact ⟨⟨vB', k1, fun i hi => hv i (k2 i hi)⟩, k.mods.heap h.h2 (by have := h.lg; omega), k.mods.heap h.h5 (fun e => h.ne e.symm), h.mods.trans k.mods (fun _ _ x => x) (fun i hi x => by have := h.lg; omega), h.lg, h.l5, h.ne⟩
theorem RT.set {w wx : World} {g t5 : Nat} {s : RSt} {it : Array Value} (h : RT w g s t5 it wx) (o : Nat) (u : Value) : RT w g s t5 (it.setIfInBounds o u) (wx.setCell ⟨t5, o, none⟩ u) := by
  obtain ⟨vB, h1, h2⟩ := h.rr
  exact ⟨⟨vB, h1.keep (Mods.one _ _ _ _) h.ne (fun k hk e => by have := h2 k hk; have := h.l5; omega), h2⟩, (heap_set_other (by have := h.l5; simp; omega) u).trans h.h2, heap_set h.h5 o u, h.mods.setCell (.inr (Nat.le_of_lt h.l5)) u, h.lg, h.l5, h.ne⟩
theorem RT.u {w wx : World} {g t5 : Nat} {s : RSt} {it : Array Value} (h : RT w g s t5 it wx) (n : Nat) (hn : n ≤ 8) :
    Calls Try.prog 53 #[.pointer (some ⟨g, 0, none⟩), .int .i64 n] wx fun r w' => r = .returned (.int .u64 (val n s)) ∧ RT w g (stp n s) t5 it w' := by
  obtain ⟨vB, h1, h2⟩ := h.rr
  refine (rU_any n h1 hn).mono ?_
  rintro r w' ⟨rfl, hs⟩
  rw [rtakeY_num]
  exact ⟨rfl, h.step (s' := stp n s) h2 hs⟩
theorem RT.u1 {w wx : World} {g t5 : Nat} {s : RSt} {it : Array Value} (h : RT w g s t5 it wx) :
    Calls Try.prog 53 #[.pointer (some ⟨g, 0, none⟩), .int .i64 1] wx fun r w' => r = .returned (.int .u64 (val 1 s)) ∧ RT w g (stp 1 s) t5 it w' := h.u 1 (by omega)
theorem RT.u8 {w wx : World} {g t5 : Nat} {s : RSt} {it : Array Value} (h : RT w g s t5 it wx) :
    Calls Try.prog 53 #[.pointer (some ⟨g, 0, none⟩), .int .i64 8] wx fun r w' => r = .returned (.int .u64 (val 8 s)) ∧ RT w g (stp 8 s) t5 it w' := h.u 8 (by omega)
theorem RT.end {w wx : World} {g t5 : Nat} {s : RSt} {it : Array Value} (h : RT w g s t5 it wx) :
    Calls Try.prog 54 #[.pointer (some ⟨g, 0, none⟩)] wx fun r w' => r = .returned (.int .i64 (endE s)) ∧ ∃ s', RT w g s' t5 it w' := by
  obtain ⟨vB, h1, h2⟩ := h.rr
  unfold endE
  by_cases he : s.2 = 0
  · rw [he] at h1
    simp only [he, if_true]
    by_cases hl : s.1.length = 0
    · simp only [hl, if_true]
      exact (rEnd_ok h1 hl).mono fun r w' ⟨hr, hs⟩ => ⟨hr, (s.1, 0), h.step (s' := (s.1, 0)) h2 hs⟩
    · simp only [hl, if_false]
      exact (rEnd_more h1 hl).mono fun r w' ⟨hr, hs⟩ => ⟨hr, (s.1, 43), h.step (s' := (s.1, 43)) h2 hs⟩
  · simp only [he, if_false]
    exact (rEnd_err h1 he).mono fun r w' ⟨hr, hs⟩ => ⟨hr, s, h.step (s' := s) h2 hs⟩

theorem RT.start {w : World} {u : Value} {xs : List UInt8} (hu : Rd w u xs) : RT w (w.heap.size + 1) (xs, 0) (w.heap.size + 1 + 1) #[.int .i64 0, .int .u64 0, .int .u64 0, .int .u64 0, .int .i64 0, .int .u64 0, .int .u64 0, .int .u64 0, .int .i64 0, .int .u64 0, .int .u64 0] (((w.alloc (.cells itm0.cells 30)).alloc (.cells #[u, .int .i64 0] 70)).alloc (.cells itm0.cells 30)) :=
  ⟨⟨u, ⟨heap_old (heap_at _ _ (by simp)) _, ((hu.alloc _).alloc _).alloc _, fun e => by have := hu.lt _ e; omega⟩, hu.lt⟩, heap_old (heap_old (heap_new _ _) _) _, heap_at _ _ (by simp), ((((Mods.refl _ _).alloc _).alloc _).alloc _), by omega, by omega, by omega⟩

/-- what the document's Decode tells -/
def rdOk (xs : List UInt8) : Prop := (val 1 (xs, 0) = 84 ∧ (1 ≤ mkd (xs, 0) ∧ mkd (xs, 0) ≤ 10) ∧ endE (endT (xs, 0)) = 0) ∨ (val 1 (xs, 0) = 70 ∧ endE (endF (xs, 0)) = 0)
instance (xs : List UInt8) : Decidable (rdOk xs) := by unfold rdOk; infer_instance

end Go.Proofs.Ytebknplbghcemaa

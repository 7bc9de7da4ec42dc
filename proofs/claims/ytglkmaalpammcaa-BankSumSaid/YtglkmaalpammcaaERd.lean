/- enc.Reader: what its block holds; NewReader, peek, number, U8, U32, U64. -/
import Derived.Test.YtglkmaalpammcaaRRdr
import Derived.Test.YtglkmaalpammcaaZD
namespace Go.Proofs.Ytglkmaalpammcaa
open Go.Gl Go.RowKit
set_option linter.unusedVariables false
set_option maxRecDepth 100000
structure Rr (w : World) (g : Nat) (v : Value) (xs : List UInt8) (e : Int) : Prop where
  heap : w.heap[g]? = some (.cells #[v, .int .i64 e] 206 (0, 0))
  rd : Rd w v xs
  apart : v.ownBlock ≠ some g
  blt : ∀ k, v.ownBlock = some k → k < w.heap.size
structure RStp (w : World) (g : Nat) (v : Value) (xs : List UInt8) (e : Int) (w' : World) (v' : Value) : Prop where
  rr : Rr w' g v' xs e
  mods : Mods (fun k => k = g) w w'
  blk : ∀ k, v'.ownBlock = some k → v.ownBlock = some k
theorem Rr.lt {w : World} {g : Nat} {v : Value} {xs : List UInt8} {e : Int} (h : Rr w g v xs e) : g < w.heap.size := lt_of_heap h.heap
theorem Rr.keep {S : Nat → Prop} {w w' : World} {g : Nat} {v : Value} {xs : List UInt8} {e : Int} (h : Rr w g v xs e) (hm : Mods S w w') (hg : ¬ S g) (hv : ∀ k, v.ownBlock = some k → ¬ S k) : Rr w' g v xs e :=
  ⟨hm.heap h.heap hg, h.rd.keep hm hv, h.apart, fun k hk => Nat.lt_of_lt_of_le (h.blt k hk) hm.size⟩
theorem RStp.refl {w : World} {g : Nat} {v : Value} {xs : List UInt8} {e : Int} (h : Rr w g v xs e) : RStp w g v xs e w v := ⟨h, Mods.refl _ _, fun _ x => x⟩
theorem RStp.trans {w w1 w2 : World} {g : Nat} {v v1 v2 : Value} {xs ys : List UInt8} {e e' : Int} (h : RStp w g v xs e w1 v1) (k : RStp w1 g v1 ys e' w2 v2) : RStp w g v ys e' w2 v2 :=
  ⟨k.rr, h.mods.trans k.mods (fun _ _ x => x) (fun _ _ x => x), fun i hi => h.blk i (k.blk i hi)⟩
theorem Rr.fail {w : World} {g : Nat} {v : Value} {xs : List UInt8} (c : Nat) (h : Rr w g v xs 0) : RStp w g v xs c (w.setCell ⟨g, 1, none⟩ (.int .i64 c)) v :=
  ⟨⟨by have := heap_set h.heap 1 (.int .i64 c); simpa using this, h.rd.keep (Mods.one _ _ _ _) (fun k hk e => h.apart (by rw [hk, e])), h.apart, fun k hk => by have := h.blt k hk; simpa [World.setCell] using this⟩, Mods.one _ _ _ _, fun _ x => x⟩
theorem Rr.set {w : World} {g gb off off' ca ca' n m : Nat} {xs ys : List UInt8} {e : Int} (h : Rr w g (.slice (some ⟨gb, off, none⟩) n ca) xs e) (hr : Rd w (.slice (some ⟨gb, off', none⟩) m ca') ys) :
    RStp w g (.slice (some ⟨gb, off, none⟩) n ca) ys e (w.setCell ⟨g, 0, none⟩ (.slice (some ⟨gb, off', none⟩) m ca')) (.slice (some ⟨gb, off', none⟩) m ca') := by
  have hne : gb ≠ g := fun e => h.apart (by rw [e]; rfl)
  refine ⟨⟨?_, hr.keep (Mods.one _ _ _ _) (fun k hk e => ?_), fun e => ?_, fun k hk => by have := h.blt k hk; simpa [World.setCell] using this⟩, Mods.one _ _ _ _, fun k hk => by simpa [Value.ownBlock] using hk⟩
  · have := heap_set h.heap 0 (.slice (some ⟨gb, off', none⟩) m ca')
    simpa using this
  · simp [Value.ownBlock] at hk; omega
  · simp [Value.ownBlock] at e; omega
def RRes (u : Value) (w : World) (g : Nat) (v : Value) (xs : List UInt8) (e : Int) (r : Ending) (w' : World) : Prop := r = .returned u ∧ ∃ v', RStp w g v xs e w' v'
theorem rfails_any {w : World} {g : Nat} {v : Value} {xs : List UInt8} {e : Int} (c : Nat) (h : Rr w g v xs e) :
    Calls Try.prog 133 #[.pointer (some ⟨g, 0, none⟩), .int .i64 c] w (RRes (.tuple #[]) w g v xs (wfail e c)) := by
  by_cases he : e = 0
  · subst he
    refine (fails_first c h.heap rfl).mono ?_
    rintro r w' ⟨rfl, rfl⟩
    exact ⟨rfl, _, h.fail c⟩
  · refine (fails_then c h.heap rfl he).mono ?_
    rintro r w' ⟨rfl, rfl⟩
    rw [wfail, if_neg he]
    exact ⟨rfl, _, RStp.refl h⟩
theorem NewReader_any {w : World} {u : Value} {xs : List UInt8} (hu : Rd w u xs) (hl : xs.length ≤ 140737488355328) :
    Calls Try.prog 105 #[u] w fun r w' => ∃ g v, r = .returned (.pointer (some ⟨g, 0, none⟩)) ∧ Rr w' g v xs 0 ∧ Mods noB w w' ∧ w.heap.size ≤ g ∧ freshIn w v := by
  have H := Lib.hid hu
  clear hu
  go_enter Try.func105, Try.ntmps105
  go_wp2_with (at_builtin; refine stop ?_)
  unfold Stop
  refine wpList_apb rfl rfl [] xs (Gl.Own.nil _) H.out rfl rfl (by simpa using hl) ?_
  intro v' w' k1 k2 k3
  have hm : Mods noB w w' := k2.mono (fun i _ x => (ofV_nil x).elim)
  have hf : freshIn w v' := by rcases k3 with k3 | k3; exact (fun k hk => by rw [k3] at hk; simp [Value.ownBlock] at hk); exact k3
  obtain ⟨a', c', rfl, hc'⟩ := k1.rd.form
  have R := Lib.hid (And.intro k1 (And.intro hm hf))
  clear k1 k2 k3 hm hf
  go_wp2
  go_ret
  obtain ⟨k1, k2, k3⟩ := R.out
  refine ⟨_, _, rfl, ⟨heap_new _ _, k1.rd.alloc _, fun e => ?_, fun k hk => by have := k1.lt k hk; simp; omega⟩, k2.alloc _, k2.size, k3⟩
  have := k1.lt _ e
  omega
def rtake (n : Nat) (xs : List UInt8) (e : Int) : Nat := if e = 0 then (if n ≤ xs.length then num (xs.take n) else 0) else 0
def rok (n : Nat) (xs : List UInt8) (e : Int) : Bool := decide (e = 0) && decide (n ≤ xs.length)
def rerr (n : Nat) (xs : List UInt8) (e : Int) : Int := if e = 0 then (if n ≤ xs.length then 0 else 40) else e
def rleft (n : Nat) (xs : List UInt8) (e : Int) : List UInt8 := if e = 0 then (if n ≤ xs.length then xs.drop n else xs) else xs
theorem peek_err {w : World} {g : Nat} {v : Value} {xs : List UInt8} {e : Int} (n : Nat) (h : Rr w g v xs e) (he : e ≠ 0) :
    Calls Try.prog 150 #[.pointer (some ⟨g, 0, none⟩), .int .i64 n] w fun r w' => r = .returned (.tuple #[.int .u64 0, .bool false]) ∧ w' = w := by
  have c := cells_of h.heap
  have hb : (e == 0) = false := by simp [he]
  have hb2 : (e != 0) = true := by simp [he]
  clear h he
  go_enter Try.func150, Try.ntmps150
  go_wp2
  go_ret2
  exact ⟨rfl, rfl⟩
theorem peek_short {w : World} {g : Nat} {v : Value} {xs : List UInt8} (n : Nat) (h : Rr w g v xs 0) (hn : xs.length < n) (hm : n ≤ 9223372036854775807) :
    Calls Try.prog 150 #[.pointer (some ⟨g, 0, none⟩), .int .i64 n] w (RRes (.tuple #[.int .u64 0, .bool false]) w g v xs 40) := by
  obtain ⟨a, ca, rfl, h1⟩ := h.rd.form
  have c := cells_of h.heap
  have f := free_of h.heap
  have R := Lib.hid h
  clear h
  generalize hx : xs.length = len at *
  have HX := Lib.hid hx
  clear hx h1
  go_enter Try.func150, Try.ntmps150
  go_wp2_with fail
  refine (rfails_any 40 R.out).mono ?_
  rintro r w1 ⟨rfl, v1, hs⟩
  have c' := cells_of hs.rr.heap
  have HS := Lib.hid hs
  clear hs
  go_wp2
  go_ret2
  exact ⟨rfl, _, HS.out⟩
end Go.Proofs.Ytglkmaalpammcaa

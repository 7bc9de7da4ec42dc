/- A record's fields function: what a writing walk and a reading walk hold between two of its statements. -/
import Derived.Test.YtglkmaalpammcaaThrR
import Derived.Deep.RegionHeld3
namespace Go.Proofs.Ytglkmaalpammcaa
open Go.Gl Go.RowKit
set_option linter.unusedVariables false
set_option maxRecDepth 100000
structure WB0 (w : World) (g B : Nat) (v0 : Value) (cur : Array Value) (T : TypeId) : Prop where
  wr : ∃ xs, Wr w g v0 xs 0
  box : w.heap[B]? = some (.cells cur T (0, 0))
  ne : ¬ WS g v0 B
structure WF (w : World) (g tb : Nat) (v0 : Value) (xs : List UInt8) (wx : World) : Prop where
  st : ∃ v', WStep w g v0 xs 0 wx v' ∧ ¬ WS g v' tb
  tbx : wx.heap[tb]? = some (.cells #[.pointer (some ⟨g, 0, none⟩), .pointer none] 169 (0, 0))
  new : w.heap.size ≤ tb
theorem WStep.ws {w wx : World} {g : Nat} {v0 v1 : Value} {xs ys : List UInt8} (h : WStep w g v0 xs 0 wx v1) {k : Nat} (hk : WS g v1 k) : WS g v0 k ∨ w.heap.size ≤ k := by
  rcases hk with rfl | hk
  · exact .inl (.inl rfl)
  · rcases h.blk with hb | hb
    · exact .inl (.inr (hb ▸ hk))
    · exact .inr (hb k hk)
variable {w wx wy : World} {g B tb : Nat} {v0 : Value} {xs : List UInt8} {cur : Array Value} {T : TypeId}
theorem WF.start (h : Wr w g v0 xs 0) : WF w g w.heap.size v0 xs (w.alloc (.cells #[.pointer (some ⟨g, 0, none⟩), .pointer none] 169)) :=
  ⟨⟨v0, ⟨h.then0 ((Mods.refl noB w).alloc _), (Mods.refl _ w).alloc _, .inl rfl⟩, fun x => by have := WS_lt h x; omega⟩, heap_new _ _, Nat.le_refl _⟩
theorem WF.c (h : WF w g tb v0 xs wx) (o : Nat) : wx.cell? ⟨tb, o, none⟩ = (#[.pointer (some ⟨g, 0, none⟩), .pointer none] : Array Value)[o]? := cells_of h.tbx o
theorem WF.lt (h : WF w g tb v0 xs wx) : tb < wx.heap.size := lt_of_heap h.tbx
theorem rd_ptrs {wy : World} {k n : Nat} {os : List Nat} {e : TypeId} {B : Nat} {cs : Array Value} (hk : wy.heap[k]? = some (.cells cs e (0, 0))) (hc : cs = (os.map (ptr B)).toArray) (hn : os.length = n) (hm : n ≤ 1000) : RdM (ptr B) wy (.slice (some ⟨k, 0, none⟩) n n) os := by
  subst hc
  exact rdM_of hn (Nat.le_refl _) (by unfold maxLen; omega) (.inr (lt_of_heap hk)) (fun i hi => by rw [cells_of hk]; simp [hi])
theorem WF.at (h : WF w g tb v0 xs wx) (hm : Mods noB wx wy) : ∃ v1, WStep w g v0 xs 0 wy v1 ∧ WStep w g v0 xs 0 wx v1 ∧ ∀ ys w' v2, WStep wy g v1 ys 0 w' v2 → WF w g tb v0 ys w' := by
  obtain ⟨⟨v1, h1, h4⟩, h2, h3⟩ := h
  have hy : WStep w g v0 xs 0 wy v1 := ⟨h1.wr.then0 hm, h1.mods.then0 hm, h1.blk⟩
  refine ⟨v1, hy, h1, fun ys w' v2 s => ⟨⟨v2, hy.trans s, fun x => ?_⟩, s.mods.heap (hm.heap h2 (fun x => x)) h4, h3⟩⟩
  rcases x with x | x
  · exact h4 (.inl x)
  · rcases s.blk with hb | hb
    · exact h4 (.inr (hb ▸ x))
    · have := hb _ x
      have := lt_of_heap h2
      have := hm.size
      omega
theorem WF.tw (h : WF w g tb v0 xs wx) (b : WB0 w g B v0 cur T) (hm : Mods noB wx wy) {k n : Nat} {os : List Nat} (hk : wx.heap.size ≤ k) (hkl : k < wy.heap.size) (hp : RdM (ptr B) wy (.slice (some ⟨k, 0, none⟩) n n) os) :
    ∃ v1, Wr wy g v1 xs 0 ∧ WStep w g v0 xs 0 wx v1 ∧ TW wy g B v1 cur T (.slice (some ⟨k, 0, none⟩) n n) os ∧ ∀ ys w' v2, WStep wy g v1 ys 0 w' v2 → WF w g tb v0 ys w' := by
  obtain ⟨v1, hy, hx, hn⟩ := h.at hm
  have hB := lt_of_heap b.box
  refine ⟨v1, hy.wr, hx, ⟨⟨xs, hy.wr⟩, hy.mods.heap b.box b.ne, fun x => ?_, hp, fun i hi => ?_⟩, hn⟩
  · rcases hy.ws (ys := xs) x with x | x
    · exact b.ne x
    · omega
  · obtain rfl : k = i := by simpa [Value.ownBlock] using hi
    exact ⟨hkl, fun x => by have := WS_lt hx.wr x; omega⟩
theorem WF.nums (h : WF w g tb v0 xs wx) (b : WB0 w g B v0 cur T) (hm : Mods noB wx wy) {k n : Nat} (os ns : List Nat) (hk : wx.heap.size ≤ k) {e : TypeId} {cs : Array Value} (hkc : wy.heap[k]? = some (.cells cs e (0, 0))) (hcs : cs = (os.map (ptr B)).toArray) (hon : os.length = n) (hn : n ≤ 1000) (hnl : ns.length = os.length)
    (hc : ∀ (i o x : Nat), os[i]? = some o → ns[i]? = some x → cur[o]? = some (.int .u64 x)) (hu : Lim ns) (hl : xs.length ≤ 50000000) :
    Calls Try.prog 98 #[.agg #[.pointer (some ⟨g, 0, none⟩), .pointer none], .slice (some ⟨k, 0, none⟩) n n] wy fun r w' => r = .returned (.tuple #[]) ∧ WF w g tb v0 (xs ++ ns.flatMap (be 8)) w' := by
  obtain ⟨v1, s1, _, t1, hnx⟩ := h.tw b hm hk (lt_of_heap hkc) (rd_ptrs hkc hcs hon hn)
  refine (nums_w s1 t1 hnl hc hu (by omega)).mono ?_
  rintro r w' ⟨rfl, v2, s2⟩
  exact ⟨rfl, hnx _ _ _ s2⟩
structure RF (w : World) (g B tb : Nat) (T : TypeId) (v0 : Value) (s : ESt) (cur : Array Value) (ds : List (Value × List Nat)) (wx : World) : Prop where
  st : TRs w g B T v0 s cur wx
  tbx : wx.heap[tb]? = some (.cells #[.pointer none, .pointer (some ⟨g, 0, none⟩)] 169 (0, 0))
  new : w.heap.size ≤ tb
  gB : g < w.heap.size ∧ B < w.heap.size
  ds : ∀ p ∈ ds, RN wx p.1 p.2 ∧ freshIn w p.1
variable {s : ESt} {ds : List (Value × List Nat)}
theorem RF.start {v : Value} (h : TR g B T v s cur w) : RF w g B w.heap.size T v s cur [] (w.alloc (.cells #[.pointer none, .pointer (some ⟨g, 0, none⟩)] 169)) :=
  ⟨⟨v, h.alloc _, (Mods.refl _ w).alloc _, fun _ x => x⟩, heap_new _ _, Nat.le_refl _, ⟨h.rr.lt, lt_of_heap h.box⟩, fun p hp => by cases hp⟩
theorem RF.c (h : RF w g B tb T v0 s cur ds wx) (o : Nat) : wx.cell? ⟨tb, o, none⟩ = (#[.pointer none, .pointer (some ⟨g, 0, none⟩)] : Array Value)[o]? := cells_of h.tbx o
theorem RF.lt (h : RF w g B tb T v0 s cur ds wx) : tb < wx.heap.size := lt_of_heap h.tbx
theorem RF.at (h : RF w g B tb T v0 s cur ds wx) (hm : Mods noB wx wy) : ∃ v1, TR g B T v1 s cur wy ∧ ∀ s' cur' w', TRs wy g B T v1 s' cur' w' → RF w g B tb T v0 s' cur' ds w' := by
  obtain ⟨⟨v1, h1, h2, h3⟩, h4, h5, h6, h7⟩ := h
  have hy : TR g B T v1 s cur wy := ⟨h1.rr.keep hm (fun x => x) (fun _ _ x => x), hm.heap h1.box (fun x => x), h1.ne, h1.nb⟩
  refine ⟨v1, hy, fun s' cur' w' k => ?_⟩
  obtain ⟨v2, k1, k2, k3⟩ := k
  have hz := (h2.then0 hm).size
  refine ⟨⟨v2, k1, (h2.then0 hm).trans k2 (fun _ _ x => x) (fun _ _ x => x), fun i hi => h3 i (k3 i hi)⟩, k2.heap (hm.heap h4 (fun x => x)) (by omega), h5, h6, fun p hp => ?_⟩
  obtain ⟨q1, q2⟩ := h7 p hp
  exact ⟨RdM.keep (RdM.keep q1 hm (fun _ _ x => x)) k2 (fun i hi => by have := q2 i hi; omega), q2⟩
theorem RF.sb (h : RF w g B tb T v0 s cur ds wx) (hm : Mods noB wx wy) {k n : Nat} (hk : wx.heap.size ≤ k) (hkl : k < wy.heap.size) : ∀ i, (Value.slice (some ⟨k, 0, none⟩) n n).ownBlock = some i → i < wy.heap.size ∧ ¬ (i = g ∨ i = B) := by
  intro i hi
  obtain rfl : k = i := by simpa [Value.ownBlock] using hi
  obtain ⟨v1, h1, h2, h3⟩ := h.st
  have := h2.size
  have := h.gB
  exact ⟨hkl, by omega⟩
theorem RF.nums (h : RF w g B tb T v0 s cur ds wx) (hm : Mods noB wx wy) {k n : Nat} (os : List Nat) (hk : wx.heap.size ≤ k) {e : TypeId} {cs : Array Value} (hkc : wy.heap[k]? = some (.cells cs e (0, 0))) (hcs : cs = (os.map (ptr B)).toArray) (hon : os.length = n) (hn : n ≤ 1000)
    (hc : ∀ (i o : Nat), os[i]? = some o → o < cur.size) :
    Calls Try.prog 98 #[.agg #[.pointer none, .pointer (some ⟨g, 0, none⟩)], .slice (some ⟨k, 0, none⟩) n n] wy fun r w' => r = .returned (.tuple #[]) ∧ RF w g B tb T v0 (nst n s) (setAt cur os ((nvs n s).map uv)) ds w' := by
  obtain ⟨v1, h1, hnx⟩ := h.at hm
  refine (nums_r h1 (rd_ptrs hkc hcs hon hn) (h.sb hm hk (lt_of_heap hkc)) hc).mono ?_
  rintro r w' ⟨rfl, t⟩
  subst hon
  exact ⟨rfl, hnx _ _ _ t⟩
/-! ### for the printed walks -/
theorem lay_n (n : Nat) : Fld.lay ⟨0, n, []⟩ = be 8 n := rfl
theorem lay_b (b : Bool) : Fld.lay ⟨1, if b then 1 else 0, []⟩ = be 1 (if b then 1 else 0) := by cases b <;> rfl
theorem lay_d (l : List Nat) : Fld.lay ⟨2, 0, l⟩ = dlay l := rfl
theorem tS_step {a b : World} {tb : Nat} {p q : Value} (hm : Mods noB a b) (h1 : a.cell? ⟨tb, 0, none⟩ = some p) (h2 : a.cell? ⟨tb, 1, none⟩ = some q) (h3 : tb < a.heap.size) : b.cell? ⟨tb, 0, none⟩ = some p ∧ b.cell? ⟨tb, 1, none⟩ = some q ∧ tb < b.heap.size :=
  ⟨(hm.cellAt h3 (fun x => x) 0).trans h1, (hm.cellAt h3 (fun x => x) 1).trans h2, hm.size_of h3⟩
theorem WF.tS (h : WF w g tb v0 xs wx) : wx.cell? ⟨tb, 0, none⟩ = some (.pointer (some ⟨g, 0, none⟩)) ∧ wx.cell? ⟨tb, 1, none⟩ = some (.pointer none) ∧ tb < wx.heap.size := ⟨h.c 0, h.c 1, h.lt⟩
theorem RF.tS (h : RF w g B tb T v0 s cur ds wx) : wx.cell? ⟨tb, 0, none⟩ = some (.pointer none) ∧ wx.cell? ⟨tb, 1, none⟩ = some (.pointer (some ⟨g, 0, none⟩)) ∧ tb < wx.heap.size := ⟨h.c 0, h.c 1, h.lt⟩
def allU (cur : Array Value) : List Nat → List Nat → Prop
  | o :: os, x :: xs => cur[o]? = some (.int .u64 x) ∧ allU cur os xs
  | _, _ => True
theorem allU_get {cur : Array Value} : ∀ (os ns : List Nat), allU cur os ns → ∀ (i o x : Nat), os[i]? = some o → ns[i]? = some x → cur[o]? = some (.int .u64 x)
  | [], _, _, i, o, x, h, _ => by simp at h
  | _ :: _, [], _, i, o, x, _, h => by simp at h
  | o' :: os, x' :: ns, h, 0, o, x, h1, h2 => by
    cases h1
    cases h2
    exact h.1
  | o' :: os, x' :: ns, h, i + 1, o, x, h1, h2 => allU_get os ns h.2 i o x h1 h2
theorem allR_get {n : Nat} {os : List Nat} (h : os.all (fun o => decide (o < n)) = true) : ∀ (i o : Nat), os[i]? = some o → o < n := fun i o ho => by
  have := List.all_eq_true.1 h o (List.mem_of_getElem? ho)
  simpa using this
theorem lenU (xs : List UInt8) (ns : List Nat) (h : ns.length ≤ 100) : (xs ++ ns.flatMap (be 8)).length ≤ xs.length + 1000 := by
  have : ∀ l : List Nat, (l.flatMap (be 8)).length = 8 * l.length := by
    intro l
    induction l with
    | nil => rfl
    | cons x l ih => rw [List.flatMap_cons, List.length_append, ih, be_length, List.length_cons]; omega
  rw [List.length_append, this]
  omega
end Go.Proofs.Ytglkmaalpammcaa

/- Records: what the walks of putters and getters share. -/
import Derived.Test.YtglkmaalpammcaaGreatZE
import Derived.Deep.RegionHeld3
import Derived.Test.YtglkmaalpammcaaGreatZB
namespace Go.Proofs.YtglkmaalpammcaaGreat
open Go.Gl Go.RowKit
set_option linter.unusedVariables false
set_option maxRecDepth 100000
theorem limN : Lim [] := fun x hx => by cases hx
theorem limC {n : Nat} {l : List Nat} (h : n ≤ 18446744073709551615) (k : Lim l) : Lim (n :: l) := fun x hx => by
 rcases List.mem_cons.1 hx with rfl | hx
 ·exact h
 ·exact k x hx
theorem put_pre (w : World) (cs : Array Value) (T : TypeId) (wx : World) (hx : wx = ((w.alloc (.cells cs T)).alloc (.cells #[.slice none 0 0, .int .i64 0] 311)).alloc (.cells #[.pointer (some ⟨w.heap.size + 1, 0, none⟩), .pointer none] 314)) :
  Wr wx (w.heap.size + 1) (.slice none 0 0) [] 0 ∧ wx.heap[w.heap.size]? = some (.cells cs T (0, 0)) ∧ ¬ WS (w.heap.size + 1) (.slice none 0 0) w.heap.size ∧ wx.heap[w.heap.size + 1 + 1]? = some (.cells #[.pointer (some ⟨w.heap.size + 1, 0, none⟩), .pointer none] 314 (0, 0)) ∧ Mods noB w wx ∧ wx.heap.size = w.heap.size + 3 ∧ ¬ WS (w.heap.size + 1) (.slice none 0 0) (w.heap.size + 1 + 1) := by
 subst hx
 have h0 := heap_old (heap_old (heap_new w (.cells cs T)) (.cells #[.slice none 0 0, .int .i64 0] 311)) (.cells #[.pointer (some ⟨w.heap.size + 1, 0, none⟩), .pointer none] 314)
 have h1 := heap_old (heap_new (w.alloc (.cells cs T)) (.cells #[.slice none 0 0, .int .i64 0] 311)) (.cells #[.pointer (some ⟨w.heap.size + 1, 0, none⟩), .pointer none] 314)
 have h2 := heap_new ((w.alloc (.cells cs T)).alloc (.cells #[.slice none 0 0, .int .i64 0] 311)) (.cells #[.pointer (some ⟨w.heap.size + 1, 0, none⟩), .pointer none] 314)
 simp only [World.size_alloc] at h1 h2
 refine ⟨⟨h1, Gl.Own.nil _, by simp [Value.ownBlock]⟩, h0, ?_, h2, (((Mods.refl noB w).alloc _).alloc _).alloc _, by simp, ?_⟩
 ·intro x
  rcases x with x | x
  ·omega
  ·simp [Value.ownBlock] at x
 ·intro x
  rcases x with x | x
  ·omega
  ·simp [Value.ownBlock] at x
theorem ws_new {n m i : Nat} (x : WS m (.slice none 0 0) i) (hi : i < n) (hm : n < m := by omega) : False := by
 rcases x with x | x
 ·omega
 ·simp [Value.ownBlock] at x
theorem Mods.undrew {S : Nat → Prop} {a b : World} (h : Mods S a.drew b) : Mods S a b := ⟨h.os, h.tape, h.output, h.size, h.block⟩
theorem put_box (w : World) (cs : Array Value) (T : TypeId) (wx : World) (hx : wx = w.alloc (.cells cs T)) : wx.heap[w.heap.size]? = some (.cells cs T (0, 0)) ∧ Mods noB w wx ∧ wx.heap.size = w.heap.size + 1 := by
 subst hx
 exact ⟨heap_new _ _, (Mods.refl _ _).alloc _, by simp⟩
theorem blk_step {a b : World} {k : Nat} {o : Obj} (hm : Mods noB a b) (h : a.heap[k]? = some o) : b.heap[k]? = some o := hm.heap h (fun x => x)
theorem fn_step {a b : World} {k : Nat} {u : Value} (hm : Mods noB a b) (h : a.cell? ⟨k, 0, none⟩ = some u) (hk : k < a.heap.size) : b.cell? ⟨k, 0, none⟩ = some u := (hm.cellAt hk (fun x => x) 0).trans h
structure GY (w : World) (g : Nat) (bs : List (Nat × Obj)) (wx : World) : Prop where
 blk : ∀ p ∈ bs, p.1 ≠ g ∧ wx.heap[p.1]? = some p.2
 mods : Mods noB w wx
 new : w.heap.size ≤ g
theorem GY.step {w wx wy : World} {g : Nat} {bs : List (Nat × Obj)} (h : GY w g bs wx) (hm : Mods (fun i => i = g) wx wy) : GY w g bs wy :=
 ⟨fun p hp => ⟨(h.blk p hp).1, hm.heap (h.blk p hp).2 (h.blk p hp).1⟩, h.mods.trans hm (fun _ _ x => x) (fun i hi x => by have := h.new; omega), h.new⟩
theorem GY.get {w wx : World} {g : Nat} {bs : List (Nat × Obj)} (h : GY w g bs wx) (i : Nat) {p : Nat × Obj} (hi : bs[i]? = some p) : wx.heap[p.1]? = some p.2 := (h.blk p (List.mem_of_getElem? hi)).2
theorem get_pre (w : World) (z : Array Value) (T : TypeId) (wx : World) (hx : wx = ((w.alloc (.cells z T)).alloc (.cells z T)).alloc (.cells z T)) :
  wx.heap[w.heap.size]? = some (.cells z T (0, 0)) ∧ wx.heap[w.heap.size + 1]? = some (.cells z T (0, 0)) ∧ wx.heap[w.heap.size + 1 + 1]? = some (.cells z T (0, 0)) ∧ Mods noB w wx ∧ wx.heap.size = w.heap.size + 3 := by
 subst hx
 have h0 := heap_old (heap_old (heap_new w (.cells z T)) (.cells z T)) (.cells z T)
 have h1 := heap_old (heap_new (w.alloc (.cells z T)) (.cells z T)) (.cells z T)
 have h2 := heap_new ((w.alloc (.cells z T)).alloc (.cells z T)) (.cells z T)
 simp only [World.size_alloc] at h1 h2
 exact ⟨h0, h1, h2, (((Mods.refl noB w).alloc _).alloc _).alloc _, by simp⟩
theorem two_es {w : World} {k j B : Nat} {x y : Obj} (h1 : w.heap[k]? = some x) (h2 : w.heap[j]? = some y) (hk : k ≠ B := by omega) (hj : j ≠ B := by omega) : ∀ p ∈ [(k, x), (j, y)], w.heap[p.1]? = some p.2 ∧ p.1 ≠ B := by
 intro p hp
 rcases List.mem_cons.1 hp with rfl | hp
 ·exact ⟨h1, hk⟩
 ·obtain rfl := List.mem_singleton.1 hp
  exact ⟨h2, hj⟩
theorem end_ok {w : World} {g : Nat} {v : Value} (h : Rr w g v [] 0) : Calls Tryz.prog 229 #[.pointer (some ⟨g, 0, none⟩)] w fun r w' => r = .returned (.int .i64 0) ∧ Mods (fun i => i = g) w w' :=
 (End_any h).mono fun r w' ⟨h1, v', h2⟩ => ⟨h1, h2.mods⟩
theorem end_no {w : World} {g : Nat} {v : Value} {s : ESt} (h : Rr w g v s.1 s.2) (hs : s ≠ ([], 0)) : Calls Tryz.prog 229 #[.pointer (some ⟨g, 0, none⟩)] w fun r w' => ∃ e : Int, r = .returned (.int .i64 e) ∧ (e == 0) = false ∧ (e != 0) = true ∧ Mods (fun i => i = g) w w' :=
 (End_any h).mono fun r w' ⟨h1, v', h2⟩ => ⟨_, h1, beq_false_of_ne (fun e => hs ((endS_zero s).1 e)), bne_iff_ne.2 (fun e => hs ((endS_zero s).1 e)), h2.mods⟩
theorem equal_yes {w : World} {x y : Value} {xs ys : List UInt8} (h : xs = ys) (hx : Rd w x xs) (hy : Rd w y ys) : Calls Tryz.prog 211 #[x, y] w fun r w' => r = .returned (.bool true) ∧ Mods noB w w' :=
 (Equal_any hx hy).mono fun r w' ⟨h1, h2⟩ => ⟨by rw [h1, decide_eq_true h], h2.mods _⟩
theorem get_thr {w w3 w4 : World} {g : Nat} {v : Value} {xs : List UInt8} {T : TypeId} {z : Array Value} {B : Nat} {es : List (Nat × Obj)} (hb : w3.heap[B]? = some (.cells z T (0, 0))) (he : ∀ p ∈ es, w3.heap[p.1]? = some p.2 ∧ p.1 ≠ B) (hm : Mods noB w w3) (hr : Rr w4 g v xs 0) (m4 : Mods noB w3 w4) (hg : w3.heap.size ≤ g) (hf : freshIn w3 v) (wx : World) (hx : wx = w4.alloc (.cells #[.pointer none, .pointer (some ⟨g, 0, none⟩)] 314)) :
  TR g B T v (xs, 0) z wx ∧ Mods noB w wx ∧ ∀ s cur wy, TRs wx g B T v s cur wy → (∃ v', Rr wy g v' s.1 s.2) ∧ Mods (fun k => k = g ∨ k = B) wx wy ∧ (w.heap.size ≤ B → GY w g ((B, .cells cur T (0, 0)) :: (w4.heap.size, .cells #[.pointer none, .pointer (some ⟨g, 0, none⟩)] 314 (0, 0)) :: es) wy) := by
 subst hx
 have hB := lt_of_heap hb
 have ml := (Mods.refl noB w4).alloc (.cells #[.pointer none, .pointer (some ⟨g, 0, none⟩)] 314)
 have m5 := (hm.then0 m4).then0 ml
 have hgl := hr.lt
 have z4 := m4.size
 refine ⟨⟨hr.keep ml (fun x => x) (fun _ _ x => x), blk_step ml (blk_step m4 hb), by omega, fun e => by have := hf _ e; omega⟩, m5, fun s cur wy ht => ?_⟩
 obtain ⟨v', t1, t2, t3⟩ := ht
 refine ⟨⟨v', t1.rr⟩, t2, fun hw => ⟨fun p hp => ?_, m5.trans t2 (fun _ _ x => x) (fun i hi x => by have := hm.size; omega), by have := hm.size; omega⟩⟩
 rcases List.mem_cons.1 hp with rfl | hp
 ·exact ⟨t1.ne, t1.box⟩
 rcases List.mem_cons.1 hp with rfl | hp
 ·exact ⟨by simp only; omega, t2.heap (heap_new _ _) (by omega)⟩
 ·obtain ⟨e1, e2⟩ := he p hp
  have := lt_of_heap e1
  exact ⟨by omega, t2.heap (blk_step ml (blk_step m4 e1)) (by omega)⟩
structure DN (w : World) (u : Value) (l : List Nat) : Prop where
 rn : RN w u l
 lim : Lim l
 len : l.length ≤ 1000000
theorem DN.keep {w wx : World} {u : Value} {l : List Nat} (h : DN w u l) (hm : Mods noB w wx) : DN wx u l := ⟨h.rn.keep hm (fun _ _ x => x), h.lim, h.len⟩
theorem Fld.lay_len (f : Fld) : f.lay.length ≤ 256 := by
 unfold Fld.lay
 split
 ·rw [be_length]; omega
 split
 ·rw [be_length]; omega
 ·exact dlay_len f.ls
theorem recLay_len (fs : List Fld) : (recLay fs).length ≤ 256 * fs.length := by
  induction fs with
  | nil => simp [recLay]
  | cons f fs ih =>
    have := f.lay_len
    unfold recLay at ih ⊢
    rw [List.flatMap_cons, List.length_append, List.length_cons]
    omega
end Go.Proofs.YtglkmaalpammcaaGreat

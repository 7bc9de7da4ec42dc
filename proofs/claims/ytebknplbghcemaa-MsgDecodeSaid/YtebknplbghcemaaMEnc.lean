/- msg.Encode: an item's bytes. -/
import Derived.Test.YtebknplbghcemaaMMay
import Derived.Test.YtebknplbghcemaaEWr3
import Derived.Test.YtebknplbghcemaaGrow
namespace Go.Proofs.Ytebknplbghcemaa
open Go.Gl Go.RowKit
set_option linter.unusedVariables false
set_option maxRecDepth 100000

def Itm.bytesF (i : Itm) : List UInt8 := be 1 70 ++ be 1 i.fk.toNat ++ be 8 i.fv ++ be 8 i.fh
def Itm.bytesT (i : Itm) : List UInt8 := be 1 84 ++ be 8 i.s ++ be 8 i.q ++ be 8 i.f ++ be 1 i.m.toNat ++ (if usA i.m then be 8 i.a else []) ++ (if usB i.m then be 8 i.b else []) ++ (if usN i.m then be 8 i.n else [])
def Itm.bytes (i : Itm) : List UInt8 := if i.kind = 2 then i.bytesF else i.bytesT

/-- its numbers lie in their bounds -/
structure Itm.Fits (i : Itm) : Prop where
  s : i.s ≤ 18446744073709551615
  q : i.q ≤ 18446744073709551615
  f : i.f ≤ 18446744073709551615
  a : i.a ≤ 18446744073709551615
  b : i.b ≤ 18446744073709551615
  n : i.n ≤ 18446744073709551615
  fv : i.fv ≤ 18446744073709551615
  fh : i.fh ≤ 18446744073709551615

theorem mEnc_no (i : Itm) (w : World) (h : mayB i = false) : Calls Try.prog 13 #[.agg i.cells] w (BRes w [] 170) := by
  have HU := Lib.hid (may_any i)
  rw [h] at HU
  clear h
  unfold Itm.cells at *
  go_enter Try.func13, Try.ntmps13
  go_wp2_with (go_at_call 48; refine (HU.out _).mono ?_; rintro e w1 ⟨rfl, hm⟩)
  go_ret2
  exact ⟨_, rfl, Own.nil _, hm.after, fun k hk => by simp [Value.ownBlock] at hk⟩

/-- A writer that the call itself has made, in whose world only new blocks have turned. -/
def WK (W : World) (xs : List UInt8) (wx : World) : Prop := ∃ v, Wr wx W.heap.size v xs 0 ∧ freshIn W v ∧ Mods noB W wx

theorem WK.start (W : World) : WK W [] (W.alloc (.cells #[.slice none 0 0, .int .i64 0] 54)) :=
  ⟨.slice none 0 0, ⟨heap_new _ _, Own.nil _, by simp [Value.ownBlock]⟩, fun k hk => by simp [Value.ownBlock] at hk, (Mods.refl _ _).alloc _⟩

theorem WK.step {W wx wy : World} {xs ys : List UInt8} {v v' : Value} (hf : freshIn W v) (hm : Mods noB W wx) (h : WStep wx W.heap.size v ys 0 wy v') : WK W ys wy := by
  refine ⟨v', h.wr, ?_, hm.trans h.mods (fun _ _ x => x) (fun i hi x => ?_)⟩
  · rcases h.blk with hb | hb
    · exact fun k hk => hf k (hb ▸ hk)
    · exact hb.of hm.size
  · rcases x with x | x
    · omega
    · exact absurd hi (Nat.not_lt.2 (hf i x))

theorem WK.u8 {W wx : World} {xs : List UInt8} (h : WK W xs wx) (x : Nat) (hx : x ≤ 255) (hl : xs.length ≤ 100000000000000) :
    Calls Try.prog 31 #[.pointer (some ⟨W.heap.size, 0, none⟩), .int .u8 x] wx fun r w' => r = .returned (.tuple #[]) ∧ WK W (xs ++ be 1 x) w' := by
  obtain ⟨v, h1, h2, h3⟩ := h
  exact (WU8_any x h1 hx hl).mono fun r w' ⟨hr, v', hs⟩ => ⟨hr, WK.step (xs := xs) h2 h3 hs⟩
theorem WK.u64 {W wx : World} {xs : List UInt8} (h : WK W xs wx) (x : Nat) (hx : x ≤ 18446744073709551615) (hl : xs.length ≤ 100000000000000) :
    Calls Try.prog 35 #[.pointer (some ⟨W.heap.size, 0, none⟩), .int .u64 x] wx fun r w' => r = .returned (.tuple #[]) ∧ WK W (xs ++ be 8 x) w' := by
  obtain ⟨v, h1, h2, h3⟩ := h
  exact (WU64_any x h1 hx hl).mono fun r w' ⟨hr, v', hs⟩ => ⟨hr, WK.step (xs := xs) h2 h3 hs⟩
theorem WK.out {W wx : World} {xs : List UInt8} (h : WK W xs wx) (hl : xs.length ≤ 100000000000000) :
    Calls Try.prog 25 #[.pointer (some ⟨W.heap.size, 0, none⟩)] wx (BRes W xs 0) := by
  obtain ⟨v, h1, h2, h3⟩ := h
  refine (WOut_any h1 (by omega)).mono ?_
  rintro r w' ⟨u, rfl, ho, hm, hf⟩
  exact ⟨u, rfl, ho, h3.then0 hm, hf.of h3.size⟩
theorem WK.cells {W wx : World} {xs : List UInt8} (h : WK W xs wx) {g : Nat} {cur : Array Value} {e : TypeId} (hg : W.heap[g]? = some (.cells cur e (0, 0))) (o : Nat) : wx.cell? ⟨g, o, none⟩ = cur[o]? := by
  obtain ⟨v, h1, h2, h3⟩ := h
  exact cells_of (h3.heap hg (fun x => x)) o
theorem WK.lt {W wx : World} {xs : List UInt8} (h : WK W xs wx) {g : Nat} (hg : g < W.heap.size) : g < wx.heap.size := by
  obtain ⟨v, h1, h2, h3⟩ := h
  exact h3.size_of hg

set_option maxHeartbeats 2000000 in
theorem mEnc_fault (i : Itm) (w : World) (hi : i.Fits) (h : mayB i = true) (hk : i.kind = 2) : Calls Try.prog 13 #[.agg i.cells] w (BRes w i.bytesF 0) := by
  have HU := Lib.hid (may_any i)
  rw [h] at HU
  have hf : 0 ≤ i.fk ∧ i.fk ≤ 255 := by
    unfold mayB at h
    rw [if_neg (by omega), if_pos hk] at h
    exact (of_decide_eq_true h).2
  clear h
  unfold Itm.cells Itm.bytesF at *
  obtain ⟨kind, s, q, f, m, a, b, n, fk, fv, fh⟩ := i
  have b1 := hi.fv
  have b2 := hi.fh
  simp only at hk hf b1 b2 HU ⊢
  subst hk
  obtain ⟨k, rfl⟩ := Int.eq_ofNat_of_zero_le hf.1
  have hk2 : k ≤ 255 := by omega
  rw [Int.toNat_natCast]
  clear hi hf
  go_enter Try.func13, Try.ntmps13
  go_wp2_with (go_at_call 48; refine (HU.out _).mono ?_; rintro e w1 ⟨rfl, hm⟩; have HK := Lib.hid (WK.start w1); have HG := Lib.hid (hm.heap (heap_new w _) (fun x => x)); have M0 := Lib.hid hm.after; have c1 := cells_of HG.out; have z1 : w.heap.size < w1.heap.size := hm.size_of (by simp); clear hm HU)
  have z2 : w1.heap.size < (w1.alloc (.cells #[.slice none 0 0, .int .i64 0] 54)).heap.size := by simp
  refine (HK.out.u8 70 (by omega) (by simp)).mono ?_
  rintro r w2 ⟨rfl, hk⟩
  replace HK := Lib.hid hk
  have c2 := HK.out.cells HG.out
  clear c1 hk z2
  go_wp2_with (first
    | (go_at_call 31; refine (HK.out.u8 k hk2 (by simp [be_length])).mono ?_; rintro r w' ⟨rfl, hk⟩; replace HK := Lib.hid hk; have c3 := HK.out.cells HG.out; clear c2 hk)
    | (go_at_call 35; refine (HK.out.u64 fv b1 (by simp [be_length])).mono ?_; rintro r w' ⟨rfl, hk⟩; replace HK := Lib.hid hk; have c4 := HK.out.cells HG.out; clear c3 hk)
    | (go_at_call 35; refine (HK.out.u64 fh b2 (by simp [be_length])).mono ?_; rintro r w' ⟨rfl, hk⟩; replace HK := Lib.hid hk; clear c4 hk)
    | (go_at_call 25; refine (HK.out.out (by simp [be_length])).mono ?_; rintro r w' ⟨v, rfl, ho, hm, hf⟩))
  go_ret2
  refine ⟨v, rfl, ?_, M0.out.then0 hm, hf.of M0.out.size⟩
  simpa using ho

theorem WStep.u8 {W wx : World} {g : Nat} {v0 v : Value} {xs : List UInt8} (h : WStep W g v0 xs 0 wx v) (x : Nat) (hx : x ≤ 255) (hl : xs.length ≤ 100000000000000) :
    Calls Try.prog 31 #[.pointer (some ⟨g, 0, none⟩), .int .u8 x] wx fun r w' => r = .returned (.tuple #[]) ∧ ∃ v', WStep W g v0 (xs ++ be 1 x) 0 w' v' :=
  (WU8_any x h.wr hx hl).mono fun r w' ⟨hr, v', hs⟩ => ⟨hr, v', h.trans hs⟩
theorem WStep.u64 {W wx : World} {g : Nat} {v0 v : Value} {xs : List UInt8} (h : WStep W g v0 xs 0 wx v) (x : Nat) (hx : x ≤ 18446744073709551615) (hl : xs.length ≤ 100000000000000) :
    Calls Try.prog 35 #[.pointer (some ⟨g, 0, none⟩), .int .u64 x] wx fun r w' => r = .returned (.tuple #[]) ∧ ∃ v', WStep W g v0 (xs ++ be 8 x) 0 w' v' :=
  (WU64_any x h.wr hx hl).mono fun r w' ⟨hr, v', hs⟩ => ⟨hr, v', h.trans hs⟩
theorem WStep.then0 {W wx wy : World} {g : Nat} {v0 v : Value} {xs : List UInt8} {e : Int} (h : WStep W g v0 xs e wx v) (hm : Mods noB wx wy) : WStep W g v0 xs e wy v :=
  ⟨⟨hm.heap h.wr.heap (fun x => x), h.wr.own.keep hm (fun _ _ x => x), h.wr.apart⟩, h.mods.then0 hm, h.blk⟩
theorem WStep.cells {W wx : World} {g : Nat} {v0 v : Value} {xs : List UInt8} {e : Int} (h : WStep W g v0 xs e wx v) {t : Nat} {cur : Array Value} {ty : TypeId} (ht : W.heap[t]? = some (.cells cur ty (0, 0))) (hn : ¬ WS g v0 t) (o : Nat) : wx.cell? ⟨t, o, none⟩ = cur[o]? :=
  cells_of (h.mods.heap ht hn) o

/-- the blocks of Encode: the writer's, the tx's -/
theorem enc_blocks (w1 : World) (o : Obj) : Wr ((w1.alloc (.cells #[.slice none 0 0, .int .i64 0] 54)).alloc o) w1.heap.size (.slice none 0 0) [] 0 ∧
    ((w1.alloc (.cells #[.slice none 0 0, .int .i64 0] 54)).alloc o).heap[w1.heap.size + 1]? = some o ∧ ¬ WS w1.heap.size (.slice none 0 0) (w1.heap.size + 1) :=
  ⟨⟨heap_old (heap_new _ _) _, Own.nil _, by simp [Value.ownBlock]⟩, heap_at _ _ (by simp), by simp [WS, Value.ownBlock]⟩

theorem enc_end {w w1 wx w' : World} {o : Obj} {v : Value} {xs : List UInt8} (M0 : Mods noB w w1) (h : WStep ((w1.alloc (.cells #[.slice none 0 0, .int .i64 0] 54)).alloc o) w1.heap.size (.slice none 0 0) xs 0 wx v) (hm : Mods noB wx w') : Mods noB w w' := by
  refine M0.then0 (Mods.trans ((((Mods.refl noB w1).alloc _).alloc _).trans h.mods (U := noB) (fun _ _ x => x) (fun i hi x => ?_)) hm (fun _ _ x => x) (fun _ _ x => x))
  rcases x with x | x
  · omega
  · simp [Value.ownBlock] at x

theorem ix3_0 (x y z : Int) (w : World) : (Instr.index 92 (.agg #[.int .u64 x, .int .u64 y, .int .u64 z]) (.int .i64 0)).run Try.prog w = .ok (.int .u64 x) w := by kernel_rfl
theorem ix3_1 (x y z : Int) (w : World) : (Instr.index 92 (.agg #[.int .u64 x, .int .u64 y, .int .u64 z]) (.int .i64 1)).run Try.prog w = .ok (.int .u64 y) w := by kernel_rfl
theorem ix3_2 (x y z : Int) (w : World) : (Instr.index 92 (.agg #[.int .u64 x, .int .u64 y, .int .u64 z]) (.int .i64 2)).run Try.prog w = .ok (.int .u64 z) w := by kernel_rfl

set_option maxHeartbeats 8000000 in
theorem mEnc_tx (i : Itm) (w : World) (hi : i.Fits) (h : mayB i = true) (hk : i.kind = 1) : Calls Try.prog 13 #[.agg i.cells] w (BRes w i.bytesT 0) := by
  have HU := Lib.hid (may_any i)
  rw [h] at HU
  have hf : 1 ≤ i.m ∧ i.m ≤ 10 := by
    unfold mayB at h
    rw [if_pos hk] at h
    exact (of_decide_eq_true h).1
  clear h
  unfold Itm.cells Itm.bytesT at *
  obtain ⟨kind, s, q, f, m, a, b, n, fk, fv, fh⟩ := i
  have b1 := hi.s
  have b2 := hi.q
  have b3 := hi.f
  have b4 := hi.a
  have b5 := hi.b
  have b6 := hi.n
  simp only at hk hf b1 b2 b3 b4 b5 b6 HU ⊢
  subst hk
  obtain ⟨k, rfl⟩ := Int.eq_ofNat_of_zero_le (show 0 ≤ m by omega)
  have hk2 : k ≤ 255 := by omega
  have hk1 : usK (k : Int) = true := by simp [usK]; omega
  rw [Int.toNat_natCast]
  clear hi hf
  have hw := us_ways (k : Int)
  have HD := fun a b n h1 h2 h3 => used_is (k := (k : Int)) (a := a) (b := b) (n := n) h1 h2 h3 hk1
  generalize usA (k : Int) = ua at *
  generalize usB (k : Int) = ub at *
  generalize usN (k : Int) = un at *
  have HD2 := Lib.hid (HD ua ub un rfl rfl rfl)
  rw [hk1] at hw
  have HW := Lib.hid hw
  obtain ⟨out, hout⟩ : ∃ out, be 1 84 ++ be 8 s ++ be 8 q ++ be 8 f ++ be 1 k ++ (if ua then be 8 a else []) ++ (if ub then be 8 b else []) ++ (if un then be 8 n else []) = out := ⟨_, rfl⟩
  rw [hout]
  have HO := Lib.hid hout
  clear hw hout HD hk1
  go_enter Try.func13, Try.ntmps13
  go_wp2_with (go_at_call 48; refine (HU.out _).mono ?_; rintro e w1 ⟨rfl, hm⟩; have HG := Lib.hid (hm.heap (heap_new w _) (fun x => x)); have M0 := Lib.hid hm.after; have c1 := cells_of HG.out; have z1 : w.heap.size < w1.heap.size := hm.size_of (by simp); clear hm HU)
  obtain ⟨k1, k2, k3⟩ := enc_blocks w1 (.cells #[.int .u64 s, .int .u64 q, .int .u64 f, .int .i64 k, .int .u64 a, .int .u64 b, .int .u64 n] 26)
  have HK := Lib.hid (WStep.refl k1)
  have K2 := Lib.hid k2
  have K3 := Lib.hid k3
  clear k1 k2 k3
  refine (HK.out.u8 84 (by omega) (by simp)).mono ?_
  rintro r w2 ⟨rfl, v2, hk⟩
  replace HK := Lib.hid hk
  have ct := HK.out.cells K2.out K3.out
  clear c1 hk z1
  have i0 := ix3_0
  have i1 := ix3_1
  have i2 := ix3_2
  go_wp2_with fail
  refine wp_loop_rounds 4 ?_
  iterate 4 (rw [rounds_succ]; go_wp2_with (first
    | (go_at_call 35; refine (HK.out.u64 _ ?_ ?_).mono ?_; (next => assumption); (next => simp [be_length]); rintro r w' ⟨rfl, v', hk⟩; replace HK := Lib.hid hk; clear hk; replace ct := HK.out.cells K2.out K3.out)
    | (go_at_call 31; refine (HK.out.u8 _ ?_ ?_).mono ?_; (next => assumption); (next => simp [be_length]); rintro r w' ⟨rfl, v', hk⟩; replace HK := Lib.hid hk; clear hk; replace ct := HK.out.cells K2.out K3.out)
    | (go_at_call 49; refine (HD2.out _).mono ?_; rintro r w' ⟨rfl, hm⟩; replace HK := Lib.hid (HK.out.then0 hm); clear hm; replace ct := HK.out.cells K2.out K3.out; have zt : w1.heap.size + 1 < w'.heap.size := by have := HK.out.mods.size; simp at this; omega)))
  have HK5 := Lib.hid (HK.out.then0 ((Mods.refl noB w').alloc (.cells #[.bool ua, .bool ub, .bool un] 93)))
  have ku : ¬ WS w1.heap.size v' w'.heap.size := by
    intro x
    rcases x with x | x
    · omega
    · have := HK.out.wr.own.lt _ x
      omega
  have KU := Lib.hid ku
  replace HK := Lib.hid (WStep.refl HK5.out.wr)
  have hu := heap_new w' (.cells #[.bool ua, .bool ub, .bool un] 93)
  have HUB := Lib.hid hu
  have cu := HK.out.cells HUB.out KU.out
  have zu : w'.heap.size < (w'.alloc (.cells #[.bool ua, .bool ub, .bool un] 93)).heap.size := by simp
  clear ku hu ct zt
  generalize w'.alloc _ = WB at *
  generalize w'.heap.size = gu at *
  obtain ⟨wc, hwc⟩ : ∃ wc, wc = WB := ⟨_, rfl⟩
  rcases HW.out with ⟨rfl, rfl, rfl, _⟩ | ⟨rfl, rfl, rfl, _⟩ | ⟨rfl, rfl, rfl, _⟩ | ⟨rfl, rfl, rfl, _⟩ | ⟨rfl, rfl, rfl, _⟩ | ⟨_, _, _, h⟩
  case inr.inr.inr.inr.inr => cases h
  all_goals
    refine wp_loop_rounds 4 ?_
    iterate 4 (rw [rounds_succ]; go_wp2_with (first
      | (go_at_call 35; refine (HK.out.u64 _ ?_ ?_).mono ?_; (next => assumption); (next => simp [be_length]); rintro r w' ⟨rfl, v', hk⟩; replace HK := Lib.hid hk; clear hk; replace cu := HK.out.cells HUB.out KU.out)
      | (go_at_call 25; refine (WOut_any HK.out.wr (by simp [be_length])).mono ?_; rintro r w' ⟨u, rfl, ho, hm, hf⟩)))
    go_ret2
    refine ⟨u, rfl, ?_, enc_end M0.out (HK5.out.trans HK.out) hm, hf.of (enc_end M0.out (HK5.out.trans HK.out) (Mods.refl _ _)).size⟩
    rw [← HO.out]
    simpa [woutB] using ho

theorem mEnc_any (i : Itm) (w : World) (hi : i.Fits) : Calls Try.prog 13 #[.agg i.cells] w (BRes w (if mayB i then i.bytes else []) (if mayB i then 0 else 170)) := by
  cases h : mayB i
  · simp only [Bool.false_eq_true, if_false]
    exact mEnc_no i w h
  · simp only [if_true]
    unfold Itm.bytes
    by_cases h2 : i.kind = 2
    · rw [if_pos h2]
      exact mEnc_fault i w hi h h2
    · rw [if_neg h2]
      have h1 : i.kind = 1 := by
        unfold mayB at h
        split at h
        · assumption
        · simp at h
      exact mEnc_tx i w hi h h1

end Go.Proofs.Ytebknplbghcemaa

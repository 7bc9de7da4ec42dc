/- msg.reads: a transaction read; reads at every state. -/
import Derived.Test.YtebknplbghcemaaMReads
namespace Go.Proofs.Ytebknplbghcemaa
open Go.Gl Go.RowKit
set_option linter.unusedVariables false
set_option maxRecDepth 100000

theorem ixp_0 (x y z : Addr) (w : World) : (Instr.index 114 (.agg #[.pointer (some x), .pointer (some y), .pointer (some z)]) (.int .i64 0)).run Try.prog w = .ok (.pointer (some x)) w := by kernel_rfl
theorem ixp_1 (x y z : Addr) (w : World) : (Instr.index 114 (.agg #[.pointer (some x), .pointer (some y), .pointer (some z)]) (.int .i64 1)).run Try.prog w = .ok (.pointer (some y)) w := by kernel_rfl
theorem ixp_2 (x y z : Addr) (w : World) : (Instr.index 114 (.agg #[.pointer (some x), .pointer (some y), .pointer (some z)]) (.int .i64 2)).run Try.prog w = .ok (.pointer (some z)) w := by kernel_rfl

theorem TS0.tx {w0 wx : World} {g : Nat} {v0 v : Value} {s : RSt} (h : TS0 w0 g v0 s wx v) (tx : Array Value) :
    TS w0 g v0 s w0.heap.size (.cells itm0.cells 30 (0, 0)) wx.heap.size tx w0.heap.size (.cells itm0.cells 30 (0, 0)) (wx.alloc (.cells tx 26)) v :=
  have hlt : w0.heap.size < wx.heap.size := lt_of_heap h.h2
  ⟨h.st.then0 ((Mods.refl noB wx).alloc _), heap_old h.h2 _, heap_new _ _, heap_old h.h2 _, Nat.le_refl _, by omega, Nat.le_refl _, by omega, by omega, h.lg, h.lv⟩

theorem TS.end {w0 wx wy : World} {g : Nat} {v0 v : Value} {s : RSt} {t2 t3 t4 : Nat} {o2 o4 : Obj} {tx : Array Value} (h : TS w0 g v0 s t2 o2 t3 tx t4 o4 wx v) (k : Mods (fun i => i = t2) wx wy) : RStp w0 g v0 s.1 s.2 wy v :=
  ires_end h.st h.lg h.lv h.l2 k

set_option maxHeartbeats 8000000 in
theorem reads_tx {w : World} {g : Nat} {v : Value} {s : RSt} (h : Rr w g v s.1 s.2) (h1 : val 1 s = 84) : Calls Try.prog 51 #[.pointer (some ⟨g, 0, none⟩)] w (IRes (itmT s) w g v (endT s)) := by
  have H0 := Lib.hid (TS0.start h)
  have l1 := val_lt 1 (stp 8 (stp 8 (stp 8 (stp 1 s))))
  simp at l1
  have hw := us_ways ((mkd s : Nat) : Int)
  have HD := Lib.hid (used_any ((mkd s : Nat) : Int))
  have HE := Lib.hid (show itmT s = ⟨1, val 8 (stp 1 s), val 8 (stp 8 (stp 1 s)), val 8 (stp 8 (stp 8 (stp 1 s))), mkd s, valIf (usA (mkd s)) (st5 s), valIf (usB (mkd s)) (stpIf (usA (mkd s)) (st5 s)), valIf (usN (mkd s)) (stpIf (usB (mkd s)) (stpIf (usA (mkd s)) (st5 s))), 0, 0, 0⟩ from rfl)
  have HF := Lib.hid (show endT s = stpIf (usN (mkd s)) (stpIf (usB (mkd s)) (stpIf (usA (mkd s)) (st5 s))) from rfl)
  obtain ⟨it, hit⟩ : ∃ it, itmT s = it := ⟨_, rfl⟩
  obtain ⟨en, hen⟩ : ∃ en, endT s = en := ⟨_, rfl⟩
  rw [hit] at HE ⊢
  rw [hen] at HF ⊢
  clear hit hen
  unfold UsedRes at HD
  generalize usA ((mkd s : Nat) : Int) = ua at *
  generalize usB ((mkd s : Nat) : Int) = ub at *
  generalize usN ((mkd s : Nat) : Int) = un at *
  generalize usK ((mkd s : Nat) : Int) = uk at *
  have hw5 : (ua = true ∧ ub = false ∧ un = true) ∨ (ua = true ∧ ub = true ∧ un = true) ∨ (ua = true ∧ ub = false ∧ un = false) ∨ (ua = false ∧ ub = false ∧ un = true) ∨ (ua = false ∧ ub = false ∧ un = false) := by
    rcases hw with h | h | h | h | h | h
    · exact .inl ⟨h.1, h.2.1, h.2.2.1⟩
    · exact .inr (.inl ⟨h.1, h.2.1, h.2.2.1⟩)
    · exact .inr (.inr (.inl ⟨h.1, h.2.1, h.2.2.1⟩))
    · exact .inr (.inr (.inr (.inl ⟨h.1, h.2.1, h.2.2.1⟩)))
    · exact .inr (.inr (.inr (.inr ⟨h.1, h.2.1, h.2.2.1⟩)))
    · exact .inr (.inr (.inr (.inr ⟨h.1, h.2.1, h.2.2.1⟩)))
  have HW := Lib.hid hw5
  have H1 := Lib.hid h1
  unfold Itm.cells itm0 at H0
  clear h h1 hw hw5
  go_enter Try.func51, Try.ntmps51
  go_wp2_with fail
  refine (H0.out.u8).mono ?_
  rw [H1.out]
  rintro r w1 ⟨rfl, v1, hs⟩
  replace H0 := Lib.hid hs
  clear hs
  go_wp2_with fail
  refine (H0.out.u64).mono ?_
  rintro r w2 ⟨rfl, v2, hs⟩
  replace H0 := Lib.hid hs
  clear hs
  go_wp2_with fail
  refine (H0.out.u64).mono ?_
  rintro r w3 ⟨rfl, v3, hs⟩
  replace H0 := Lib.hid hs
  clear hs
  go_wp2_with fail
  refine (H0.out.u64).mono ?_
  rintro r w4 ⟨rfl, v4, hs⟩
  replace H0 := Lib.hid hs
  clear hs
  go_wp2_with fail
  have HT := Lib.hid (H0.out.tx #[.int .u64 (val 8 (stp 1 s)), .int .u64 (val 8 (stp 8 (stp 1 s))), .int .u64 (val 8 (stp 8 (stp 8 (stp 1 s)))), .int .i64 0, .int .u64 0, .int .u64 0, .int .u64 0])
  refine (HT.out.u8).mono ?_
  rintro r w5 ⟨rfl, v5, hs⟩
  have c3 := cells_of hs.h3
  have f3 := free_of hs.h3
  replace HT := Lib.hid (hs.set 3 (.int .i64 (mkd s)))
  clear hs
  rw [show val 1 (stp 8 (stp 8 (stp 8 (stp 1 s)))) = mkd s from rfl] at l1 ⊢
  go_wp2_with fail
  refine (HD.out _).mono ?_
  rintro r w6 ⟨rfl, hm⟩
  have z6 : w4.heap.size < w6.heap.size := (lt_of_heap (HT.out.then0 hm).h3)
  have ht := ((HT.out.then0 hm).then0 ((Mods.refl noB w6).alloc (.cells #[.bool ua, .bool ub, .bool un] 93))).keep4 (heap_new _ _) (Nat.le_trans (Nat.le_trans HT.out.st.mods.size hm.size) (Nat.le_refl _)) (by omega)
  replace HT := Lib.hid ht
  simp only [List.setIfInBounds_toArray, List.set_cons_succ, List.set_cons_zero] at HT
  clear c3 f3 ht
  have c3 := cells_of HT.out.h3
  have f3 := free_of HT.out.h3
  have c4 := cells_of HT.out.h4
  have i0 := ixp_0
  have i1 := ixp_1
  have i2 := ixp_2
  clear hm z6
  have n4 := HT.out.n4
  have n4' := n4.symm
  go_wp2_with fail
  generalize World.alloc w6 _ = wx at *
  generalize w6.heap.size = t4 at *
  generalize w4.heap.size = t3 at *
  rcases HW.out with ⟨rfl, rfl, rfl⟩ | ⟨rfl, rfl, rfl⟩ | ⟨rfl, rfl, rfl⟩ | ⟨rfl, rfl, rfl⟩ | ⟨rfl, rfl, rfl⟩
  all_goals
    refine wp_loop_rounds 4 ?_
    iterate 3 (rw [rounds_succ]; go_wp2_with (first
      | (go_at_call 36; with_reducible refine ((HT.out.set _ _).u64).mono ?_; rintro r w' ⟨rfl, v', hs⟩; (try simp only [List.setIfInBounds_toArray, List.set_cons_succ, List.set_cons_zero] at hs); replace HT := Lib.hid hs; clear hs c3 f3 c4; have c3 := cells_of HT.out.h3; have f3 := free_of HT.out.h3; have c4 := cells_of HT.out.h4)
      | (go_at_call 36; with_reducible refine (HT.out.u64).mono ?_; rintro r w' ⟨rfl, v', hs⟩; (try simp only [List.setIfInBounds_toArray, List.set_cons_succ, List.set_cons_zero] at hs); replace HT := Lib.hid hs; clear hs c3 f3 c4; have c3 := cells_of HT.out.h3; have f3 := free_of HT.out.h3; have c4 := cells_of HT.out.h4)))
    rw [rounds_succ]
    go_wp2_with (first
      | (refine wpList_store_blk rfl rfl (HT.out.set _ _).h2 rfl rfl item_size rfl rfl ?_; intro w9 k1 k2 k3; have c9 := cells_of k1)
      | (refine wpList_store_blk rfl rfl HT.out.h2 rfl rfl item_size rfl rfl ?_; intro w9 k1 k2 k3; have c9 := cells_of k1))
    refine bodyPost_ret (by simp [results, Try.results51, go_sem, c9]; try rfl) rfl ?_
    rw [HE.out, HF.out]
    first
      | exact ⟨rfl, _, TS.end (HT.out.set _ _) k2⟩
      | exact ⟨rfl, _, HT.out.end k2⟩

theorem reads_any {w : World} {g : Nat} {v : Value} {s : RSt} (h : Rr w g v s.1 s.2) : Calls Try.prog 51 #[.pointer (some ⟨g, 0, none⟩)] w (IRes (itmR s) w g v (endR s)) := by
  unfold itmR endR
  by_cases h1 : val 1 s = 84
  · simp only [h1, if_true]
    exact reads_tx h h1
  · simp only [h1, if_false]
    by_cases h2 : val 1 s = 70
    · simp only [h2, if_true]
      exact reads_fault h h2
    · simp only [h2, if_false]
      exact reads_other h h1 h2

end Go.Proofs.Ytebknplbghcemaa

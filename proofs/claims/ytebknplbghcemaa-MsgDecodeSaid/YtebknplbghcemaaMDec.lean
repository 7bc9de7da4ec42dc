/- msg.Decode: the item that bytes are. -/
import Derived.Test.YtebknplbghcemaaMReads2
import Derived.Test.YtebknplbghcemaaMEnc
import Derived.Test.YtebknplbghcemaaBEq
namespace Go.Proofs.Ytebknplbghcemaa
open Go.Gl Go.RowKit
set_option linter.unusedVariables false
set_option maxRecDepth 100000

theorem val8_le (s : RSt) : val 8 s ≤ 18446744073709551615 := by
  have := val_lt 8 s
  have e : (256 : Nat) ^ 8 = 18446744073709551616 := by decide
  omega
theorem valIf_le (b : Bool) (s : RSt) : valIf b s ≤ 18446744073709551615 := by
  unfold valIf
  split
  · exact val8_le s
  · omega

theorem itmR_fits (s : RSt) : (itmR s).Fits := by
  unfold itmR
  split
  · exact ⟨val8_le _, val8_le _, val8_le _, valIf_le _ _, valIf_le _ _, valIf_le _ _, Nat.zero_le _, Nat.zero_le _⟩
  · split
    · exact ⟨Nat.zero_le _, Nat.zero_le _, Nat.zero_le _, Nat.zero_le _, Nat.zero_le _, Nat.zero_le _, val8_le _, val8_le _⟩
    · exact ⟨Nat.zero_le _, Nat.zero_le _, Nat.zero_le _, Nat.zero_le _, Nat.zero_le _, Nat.zero_le _, Nat.zero_le _, Nat.zero_le _⟩

/-- the item that bytes are, if they are one -/
def isItm (xs : List UInt8) : Prop := mayB (itmR (xs, 0)) = true ∧ (itmR (xs, 0)).bytes = xs
instance (xs : List UInt8) : Decidable (isItm xs) := by unfold isItm; infer_instance
def decI (xs : List UInt8) : Itm := if xs.length ≤ 1024 ∧ isItm xs then itmR (xs, 0) else itm0
def decE (xs : List UInt8) : Int := if xs.length ≤ 1024 then (if isItm xs then 0 else 170) else 171

/-- an item and an error, as a call hands them back -/
def DRes (w : World) (i : Itm) (n : Int) (e : Ending) (w' : World) : Prop := e = .returned (.tuple #[.agg i.cells, .int .i64 n]) ∧ Mods noB w w'

theorem itm0_size : itm0.cells.size = 11 := rfl
theorem itm_size (i : Itm) : i.cells.size = 11 := rfl

set_option maxHeartbeats 2000000 in
theorem mDec_long {w : World} {u : Value} {xs : List UInt8} (hu : Rd w u xs) (hl : ¬ xs.length ≤ 1024) : Calls Try.prog 19 #[u] w (DRes w itm0 171) := by
  obtain ⟨a0, c0, rfl, hm0⟩ := hu.form
  unfold maxLen at hm0
  generalize xs.length = n at *
  clear hu
  unfold DRes Itm.cells itm0
  have g0 := heap_new w (.cells #[.int .i64 0, .int .u64 0, .int .u64 0, .int .u64 0, .int .i64 0, .int .u64 0, .int .u64 0, .int .u64 0, .int .i64 0, .int .u64 0, .int .u64 0] 30)
  have m0 := (Mods.refl noB w).alloc (.cells #[.int .i64 0, .int .u64 0, .int .u64 0, .int .u64 0, .int .i64 0, .int .u64 0, .int .u64 0, .int .u64 0, .int .i64 0, .int .u64 0, .int .u64 0] 30)
  have M0 := Lib.hid m0
  clear m0
  go_enter Try.func19, Try.ntmps19
  go_wp2_with (refine wpList_store_blk rfl rfl g0 rfl rfl item_size rfl rfl ?_; intro w9 k1 k2 k3; have c9 := cells_of k1)
  refine bodyPost_ret (by simp [results, Try.results19, go_sem, c9]; try rfl) rfl ?_
  exact ⟨rfl, M0.out.trans k2 (fun _ _ x => x) (fun i hi x => by omega)⟩

set_option maxHeartbeats 4000000 in
theorem mDec_short {w : World} {u : Value} {xs : List UInt8} (hu : Rd w u xs) (hl : xs.length ≤ 1024) : Calls Try.prog 19 #[u] w (DRes w (if isItm xs then itmR (xs, 0) else itm0) (if isItm xs then 0 else 170)) := by
  obtain ⟨a0, c0, rfl, hm0⟩ := hu.form
  unfold maxLen at hm0
  have HU := Lib.hid hu
  obtain ⟨n, hn⟩ : ∃ n, n = xs.length := ⟨_, rfl⟩
  rw [← hn] at HU hl hm0 ⊢
  have HN := Lib.hid hn
  clear hu hn
  have HFits := Lib.hid (itmR_fits (xs, 0))
  have HI : Hid (isItm xs ↔ (mayB (itmR (xs, 0)) = true ∧ (itmR (xs, 0)).bytes = xs)) := Lib.hid Iff.rfl
  obtain ⟨it, hit⟩ : ∃ it, itmR (xs, 0) = it := ⟨_, rfl⟩
  have HIT := Lib.hid hit
  rw [hit] at HI HFits ⊢
  clear hit
  obtain ⟨R1, hR1⟩ : ∃ R1, (if isItm xs then it else itm0) = R1 := ⟨_, rfl⟩
  obtain ⟨R2, hR2⟩ : ∃ R2 : Int, (if isItm xs then 0 else 170) = R2 := ⟨_, rfl⟩
  rw [hR1, hR2]
  have HR1 := Lib.hid hR1
  have HR2 := Lib.hid hR2
  clear hR1 hR2
  go_enter Try.func19, Try.ntmps19
  go_wp2_with fail
  refine (NewReader_any (HU.out.alloc _) (by rw [← HN.out]; omega)).mono ?_
  rintro r w1 ⟨g, v, rfl, hr, hm, hg, hf⟩
  have g0 := hm.heap (heap_new w _) (fun x => x)
  have M1 := Lib.hid hm.after
  have HRd := Lib.hid (HU.out.keep hm.after (fun _ _ x => x))
  have HR := Lib.hid hr
  have HG := Lib.hid hg
  have HG0 := Lib.hid g0
  clear hr hm hg hf g0
  go_wp2_with fail
  refine (reads_any (s := (xs, 0)) HR.out).mono ?_
  rintro r w2 ⟨rfl, v2, hs⟩
  rw [HIT.out]
  have M2 := Lib.hid (M1.out.trans hs.mods (U := noB) (fun _ _ x => x) (fun i hi x => by have := HG.out; simp at this; omega))
  have HRd2 := Lib.hid (HRd.out.keep hs.mods (fun k hk x => by have := (HU.out.lt k hk); have := HG.out; simp at this; omega))
  have HG2 := Lib.hid (hs.mods.heap HG0.out (by have := HG.out; simp at this; omega))
  have z2 : w.heap.size < w2.heap.size := lt_of_heap HG2.out
  clear hs
  have HENC := Lib.hid (fun w => mEnc_any it w HFits.out)
  obtain ⟨by', hby⟩ : ∃ by', it.bytes = by' := ⟨_, rfl⟩
  obtain ⟨mb, hmb⟩ : ∃ mb, mayB it = mb := ⟨_, rfl⟩
  rw [hby, hmb] at HI HENC
  clear hby hmb HFits HIT
  obtain ⟨kd, s, q, f, m, a, b, nn, fk, fv, fh⟩ := it
  unfold Itm.cells at HENC ⊢
  unfold DRes
  simp only
  go_wp2_with fail
  refine (HENC.out _).mono ?_
  rintro r w3 ⟨v3, rfl, o3, m3, f3⟩
  have m23 := ((Mods.refl noB w2).alloc (.cells #[.int .i64 kd, .int .u64 s, .int .u64 q, .int .u64 f, .int .i64 m, .int .u64 a, .int .u64 b, .int .u64 nn, .int .i64 fk, .int .u64 fv, .int .u64 fh] 30)).then0 m3
  have c4 := cells_of (m3.heap (heap_new w2 (.cells #[.int .i64 kd, .int .u64 s, .int .u64 q, .int .u64 f, .int .i64 m, .int .u64 a, .int .u64 b, .int .u64 nn, .int .i64 fk, .int .u64 fv, .int .u64 fh] 30)) (fun x => x))
  have g3 := m23.heap HG2.out (fun x => x)
  have z3 : w.heap.size < w3.heap.size := lt_of_heap g3
  have M3 := Lib.hid (M2.out.then0 m23)
  have HRd3 := Lib.hid (HRd2.out.keep m23 (fun _ _ x => x))
  have O3 := Lib.hid o3
  clear m3 m23 o3 f3
  cases mb
  · simp only [Bool.false_eq_true, if_false]
    have hni : ¬ isItm xs := fun h => by have := (HI.out.1 h).1; cases this
    obtain rfl : itm0 = R1 := by rw [← HR1.out, if_neg hni]
    obtain rfl : 170 = R2 := by rw [← HR2.out, if_neg hni]
    clear hni
    go_wp2_with (refine wpList_store_blk rfl rfl g3 rfl rfl item_size rfl rfl ?_; intro w9 k1 k2 k3; have c9 := cells_of k1)
    refine bodyPost_ret (by simp [results, Try.results19, go_sem, c9]; try rfl) rfl ?_
    exact ⟨rfl, M3.out.trans k2 (fun _ _ x => x) (fun i hi x => by omega)⟩
  · simp only [if_true] at O3 ⊢
    by_cases hx : by' = xs
    · have hni : isItm xs := HI.out.2 ⟨rfl, hx⟩
      obtain rfl := (by rw [← HR1.out, if_pos hni] : (⟨kd, s, q, f, m, a, b, nn, fk, fv, fh⟩ : Itm) = R1)
      obtain rfl : 0 = R2 := by rw [← HR2.out, if_pos hni]
      have HX := Lib.hid hx
      clear hni hx
      go_wp2_with (first
        | (go_at_call 52; refine (Equal_any O3.out.rd HRd3.out).mono ?_; rw [decide_eq_true HX.out]; rintro r w4 ⟨rfl, nq, rfl⟩)
        | (refine wpList_store_blk rfl rfl g3 rfl rfl item_size rfl rfl ?_; intro w9 k1 k2 k3; have c9 := cells_of k1))
      refine bodyPost_ret (by simp [results, Try.results19, go_sem, c9]; try rfl) rfl ?_
      exact ⟨rfl, (M3.out.drewN _).trans k2 (fun _ _ x => x) (fun i hi x => by omega)⟩
    · have hni : ¬ isItm xs := fun h => hx (HI.out.1 h).2
      obtain rfl : itm0 = R1 := by rw [← HR1.out, if_neg hni]
      obtain rfl : 170 = R2 := by rw [← HR2.out, if_neg hni]
      have HX := Lib.hid hx
      clear hni hx
      go_wp2_with (first
        | (go_at_call 52; refine (Equal_any O3.out.rd HRd3.out).mono ?_; rw [decide_eq_false HX.out]; rintro r w4 ⟨rfl, nq, rfl⟩)
        | (refine wpList_store_blk rfl rfl g3 rfl rfl item_size rfl rfl ?_; intro w9 k1 k2 k3; have c9 := cells_of k1))
      refine bodyPost_ret (by simp [results, Try.results19, go_sem, c9]; try rfl) rfl ?_
      exact ⟨rfl, (M3.out.drewN _).trans k2 (fun _ _ x => x) (fun i hi x => by omega)⟩

theorem mDec_any {w : World} {u : Value} {xs : List UInt8} (hu : Rd w u xs) : Calls Try.prog 19 #[u] w (DRes w (decI xs) (decE xs)) := by
  unfold decI decE
  by_cases hl : xs.length ≤ 1024
  · simp only [hl, true_and, if_true]
    exact mDec_short hu hl
  · simp only [hl, false_and, if_false]
    exact mDec_long hu hl

end Go.Proofs.Ytebknplbghcemaa

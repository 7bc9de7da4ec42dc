/- gleanref17.Decode, walked. -/
import Derived.Test.YtebknplbghcemaaMRDec
namespace Go.Proofs.Ytebknplbghcemaa
open Go.Gl Go.RowKit
set_option linter.unusedVariables false
set_option maxRecDepth 100000

set_option maxHeartbeats 2000000 in
theorem rDec_long {w : World} {u : Value} {xs : List UInt8} (hu : Rd w u xs) (hl : ¬ xs.length ≤ 1024) : Calls Try.prog 20 #[u] w (DRes w itm0 171) := by
  obtain ⟨a0, c0, rfl, hm0⟩ := hu.form
  unfold maxLen at hm0
  generalize xs.length = n at *
  clear hu
  unfold DRes Itm.cells itm0
  have g0 := heap_new w (.cells #[.int .i64 0, .int .u64 0, .int .u64 0, .int .u64 0, .int .i64 0, .int .u64 0, .int .u64 0, .int .u64 0, .int .i64 0, .int .u64 0, .int .u64 0] 30)
  have m0 := (Mods.refl noB w).alloc (.cells #[.int .i64 0, .int .u64 0, .int .u64 0, .int .u64 0, .int .i64 0, .int .u64 0, .int .u64 0, .int .u64 0, .int .i64 0, .int .u64 0, .int .u64 0] 30)
  have M0 := Lib.hid m0
  clear m0
  go_enter Try.func20, Try.ntmps20
  go_wp2_with (refine wpList_store_blk rfl rfl g0 rfl rfl item_size rfl rfl ?_; intro w9 k1 k2 k3; have c9 := cells_of k1)
  refine bodyPost_ret (by simp [results, Try.results20, go_sem, c9]; try rfl) rfl ?_
  exact ⟨rfl, M0.out.trans k2 (fun _ _ x => x) (fun i hi x => by omega)⟩

set_option maxHeartbeats 4000000 in
theorem rDec_other {w : World} {u : Value} {xs : List UInt8} (hu : Rd w u xs) (hl : xs.length ≤ 1024) (h1 : val 1 (xs, 0) ≠ 84) (h2 : val 1 (xs, 0) ≠ 70) : Calls Try.prog 20 #[u] w (DRes w itm0 170) := by
  obtain ⟨a0, c0, rfl, hm0⟩ := hu.form
  unfold maxLen at hm0
  have HT := Lib.hid (RT.start hu)
  have b1 : (((val 1 (xs, 0) : Nat) : Int) == 84) = false := by simp; omega
  have b2 : (((val 1 (xs, 0) : Nat) : Int) == 70) = false := by simp; omega
  generalize xs.length = n at *
  clear hu h1 h2
  unfold DRes
  unfold Itm.cells itm0 at *
  go_enter Try.func20, Try.ntmps20
  go_wp2_with fail
  refine (HT.out.u 1 (by omega)).mono ?_
  rintro r w1 ⟨rfl, hs⟩
  have g0 := hs.h2
  replace HT := Lib.hid hs
  clear hs
  go_wp2_with (refine wpList_store_blk rfl rfl g0 rfl rfl item_size rfl rfl ?_; intro w9 k1 k2 k3; have c9 := cells_of k1)
  refine bodyPost_ret (by simp [results, Try.results20, go_sem, c9]; try rfl) rfl ?_
  exact ⟨rfl, HT.out.mods.trans k2 (fun _ _ x => x) (fun i hi x => by omega)⟩

set_option maxHeartbeats 8000000 in
theorem rDec_fault {w : World} {u : Value} {xs : List UInt8} (hu : Rd w u xs) (hl : xs.length ≤ 1024) (h1 : val 1 (xs, 0) = 70) : Calls Try.prog 20 #[u] w (DRes w (if endE (endF (xs, 0)) = 0 then itmF (xs, 0) else itm0) (if endE (endF (xs, 0)) = 0 then 0 else 170)) := by
  obtain ⟨a0, c0, rfl, hm0⟩ := hu.form
  unfold maxLen at hm0
  have HT := Lib.hid (RT.start hu)
  have l1 := val_lt 1 (stp 1 (xs, 0))
  simp at l1
  have hE : itmF (xs, 0) = ⟨2, 0, 0, 0, 0, 0, 0, 0, val 1 (stp 1 (xs, 0)), val 8 (stp 1 (stp 1 (xs, 0))), val 8 (stp 8 (stp 1 (stp 1 (xs, 0))))⟩ := rfl
  have hN : endF (xs, 0) = stp 8 (stp 8 (stp 1 (stp 1 (xs, 0)))) := rfl
  rw [hE, hN]
  generalize xs.length = n at *
  generalize (xs, (0 : Int)) = s at *
  have H1 := Lib.hid h1
  clear hu hE hN h1
  unfold itm0 at *
  obtain ⟨en, hen⟩ : ∃ en, endE (stp 8 (stp 8 (stp 1 (stp 1 s)))) = en := ⟨_, rfl⟩
  rw [hen]
  have HEN := Lib.hid hen
  clear hen
  obtain ⟨R1, hR1⟩ : ∃ R1, (if en = 0 then (⟨2, 0, 0, 0, 0, 0, 0, 0, val 1 (stp 1 s), val 8 (stp 1 (stp 1 s)), val 8 (stp 8 (stp 1 (stp 1 s)))⟩ : Itm) else ⟨0, 0, 0, 0, 0, 0, 0, 0, 0, 0, 0⟩) = R1 := ⟨_, rfl⟩
  obtain ⟨R2, hR2⟩ : ∃ R2 : Int, (if en = 0 then 0 else 170) = R2 := ⟨_, rfl⟩
  rw [hR1, hR2]
  have HR1 := Lib.hid hR1
  have HR2 := Lib.hid hR2
  clear hR1 hR2
  unfold DRes
  unfold Itm.cells at *
  go_enter Try.func20, Try.ntmps20
  go_wp2_with fail
  refine (HT.out.u 1 (by omega)).mono ?_
  rw [H1.out]
  rintro r w1 ⟨rfl, hs⟩
  replace HT := Lib.hid hs
  have c5 := cells_of HT.out.h5
  have f5 := free_of HT.out.h5
  clear hs
  go_wp2_with (first
    | (go_at_call 53; with_reducible refine ((HT.out.set _ _).u8).mono ?_; rintro r w' ⟨rfl, hs⟩; (try simp only [List.setIfInBounds_toArray, List.set_cons_succ, List.set_cons_zero] at hs); replace HT := Lib.hid hs; clear hs c5 f5; have c5 := cells_of HT.out.h5; have f5 := free_of HT.out.h5)
    | (go_at_call 53; with_reducible refine ((HT.out.set _ _).u1).mono ?_; rintro r w' ⟨rfl, hs⟩; (try simp only [List.setIfInBounds_toArray, List.set_cons_succ, List.set_cons_zero] at hs); replace HT := Lib.hid hs; clear hs c5 f5; have c5 := cells_of HT.out.h5; have f5 := free_of HT.out.h5)
    | fail)
  refine ((HT.out.set _ _).end).mono ?_
  rw [HEN.out]
  rintro r w8 ⟨rfl, s', hs⟩
  simp only [List.setIfInBounds_toArray, List.set_cons_succ, List.set_cons_zero] at hs
  have g0 := hs.h2
  replace HT := Lib.hid hs
  clear hs c5 f5
  have c5 := cells_of HT.out.h5
  by_cases hz : en = 0
  · obtain rfl := (by rw [← HR1.out, if_pos hz] : (⟨2, 0, 0, 0, 0, 0, 0, 0, val 1 (stp 1 s), val 8 (stp 1 (stp 1 s)), val 8 (stp 8 (stp 1 (stp 1 s)))⟩ : Itm) = R1)
    obtain rfl : 0 = R2 := by rw [← HR2.out, if_pos hz]
    subst hz
    go_wp2_with (refine wpList_store_blk rfl rfl g0 rfl rfl item_size rfl rfl ?_; intro w9 k1 k2 k3; have c9 := cells_of k1)
    refine bodyPost_ret (by simp [results, Try.results20, go_sem, c9]; try rfl) rfl ?_
    exact ⟨rfl, HT.out.mods.trans k2 (fun _ _ x => x) (fun i hi x => by omega)⟩
  · obtain rfl := (by rw [← HR1.out, if_neg hz] : (⟨0, 0, 0, 0, 0, 0, 0, 0, 0, 0, 0⟩ : Itm) = R1)
    obtain rfl : 170 = R2 := by rw [← HR2.out, if_neg hz]
    have hb : (en != 0) = true := by simp [hz]
    clear hz
    go_wp2_with (refine wpList_store_blk rfl rfl g0 rfl rfl item_size rfl rfl ?_; intro w9 k1 k2 k3; have c9 := cells_of k1)
    refine bodyPost_ret (by simp [results, Try.results20, go_sem, c9]; try rfl) rfl ?_
    exact ⟨rfl, HT.out.mods.trans k2 (fun _ _ x => x) (fun i hi x => by omega)⟩

theorem itmT_is (s : RSt) (ua ub un : Bool) (ha : usA (mkd s) = ua) (hb : usB (mkd s) = ub) (hn : usN (mkd s) = un) : itmT s = ⟨1, val 8 (stp 1 s), val 8 (stp 8 (stp 1 s)), val 8 (stp 8 (stp 8 (stp 1 s))), mkd s, valIf ua (st5 s), valIf ub (stpIf ua (st5 s)), valIf un (stpIf ub (stpIf ua (st5 s))), 0, 0, 0⟩ := by
  subst ha hb hn
  rfl
theorem endT_is (s : RSt) (ua ub un : Bool) (ha : usA (mkd s) = ua) (hb : usB (mkd s) = ub) (hn : usN (mkd s) = un) : endT s = stpIf un (stpIf ub (stpIf ua (st5 s))) := by
  subst ha hb hn
  rfl

set_option maxHeartbeats 8000000 in
theorem rDec_tx (ua ub un : Bool) {w : World} {u : Value} {xs : List UInt8} (hu : Rd w u xs) (hl : xs.length ≤ 1024) (h1 : val 1 (xs, 0) = 84) (ha : usA (mkd (xs, 0)) = ua) (hb : usB (mkd (xs, 0)) = ub) (hn : usN (mkd (xs, 0)) = un)
    (hc : (ua = true ∧ ub = false ∧ un = true) ∨ (ua = true ∧ ub = true ∧ un = true) ∨ (ua = true ∧ ub = false ∧ un = false) ∨ (ua = false ∧ ub = false ∧ un = true) ∨ (ua = false ∧ ub = false ∧ un = false)) (hz0 : ¬ (1 ≤ mkd (xs, 0) ∧ mkd (xs, 0) ≤ 10) → ua = false ∧ ub = false ∧ un = false) :
    Calls Try.prog 20 #[u] w (DRes w (if (1 ≤ mkd (xs, 0) ∧ mkd (xs, 0) ≤ 10) ∧ endE (endT (xs, 0)) = 0 then itmT (xs, 0) else itm0) (if (1 ≤ mkd (xs, 0) ∧ mkd (xs, 0) ≤ 10) ∧ endE (endT (xs, 0)) = 0 then 0 else 170)) := by
  obtain ⟨a0, c0, rfl, hm0⟩ := hu.form
  unfold maxLen at hm0
  have HT := Lib.hid (RT.start hu)
  have l1 := val_lt 1 (stp 8 (stp 8 (stp 8 (stp 1 (xs, 0)))))
  simp at l1
  rw [itmT_is _ ua ub un ha hb hn, endT_is _ ua ub un ha hb hn]
  have HD := RUses_any ((mkd (xs, 0) : Nat) : Int)
  rw [ha, hb, hn] at HD
  replace HD := Lib.hid HD
  generalize xs.length = n at *
  generalize (xs, (0 : Int)) = s at *
  have H1 := Lib.hid h1
  clear hu h1 ha hb hn
  unfold itm0 at *
  obtain ⟨en, hen⟩ : ∃ en, endE (stpIf un (stpIf ub (stpIf ua (st5 s)))) = en := ⟨_, rfl⟩
  rw [hen]
  have HEN := Lib.hid hen
  obtain ⟨R1, hR1⟩ : ∃ R1, (if (1 ≤ mkd s ∧ mkd s ≤ 10) ∧ en = 0 then (⟨1, val 8 (stp 1 s), val 8 (stp 8 (stp 1 s)), val 8 (stp 8 (stp 8 (stp 1 s))), mkd s, valIf ua (st5 s), valIf ub (stpIf ua (st5 s)), valIf un (stpIf ub (stpIf ua (st5 s))), 0, 0, 0⟩ : Itm) else ⟨0, 0, 0, 0, 0, 0, 0, 0, 0, 0, 0⟩) = R1 := ⟨_, rfl⟩
  obtain ⟨R2, hR2⟩ : ∃ R2 : Int, (if (1 ≤ mkd s ∧ mkd s ≤ 10) ∧ en = 0 then 0 else 170) = R2 := ⟨_, rfl⟩
  rw [hR1, hR2]
  have HR1 := Lib.hid hR1
  have HR2 := Lib.hid hR2
  clear hR1 hR2 hen
  unfold DRes
  unfold Itm.cells at *
  go_enter Try.func20, Try.ntmps20
  go_wp2_with fail
  refine HT.out.u1.mono ?_
  rw [H1.out]
  rintro r w1 ⟨rfl, hs⟩
  replace HT := Lib.hid hs
  have c5 := cells_of HT.out.h5
  have f5 := free_of HT.out.h5
  clear hs
  go_wp2_with (first
    | (go_at_call 53; with_reducible refine ((HT.out.set _ _).u8).mono ?_; rintro r w' ⟨rfl, hs⟩; (try simp only [List.setIfInBounds_toArray, List.set_cons_succ, List.set_cons_zero] at hs); replace HT := Lib.hid hs; clear hs c5 f5; have c5 := cells_of HT.out.h5; have f5 := free_of HT.out.h5)
    | (go_at_call 53; with_reducible refine ((HT.out.set _ _).u1).mono ?_; rintro r w' ⟨rfl, hs⟩; (try simp only [List.setIfInBounds_toArray, List.set_cons_succ, List.set_cons_zero] at hs); replace HT := Lib.hid hs; clear hs c5 f5; have c5 := cells_of HT.out.h5; have f5 := free_of HT.out.h5)
    | fail)
  rw [show val 1 (stp 8 (stp 8 (stp 8 (stp 1 s)))) = mkd s from rfl] at l1 ⊢
  replace HT := Lib.hid (HT.out.set 4 (.int .i64 (mkd s)))
  simp only [List.setIfInBounds_toArray, List.set_cons_succ, List.set_cons_zero] at HT
  refine (HD.out _).mono ?_
  rintro r w2 ⟨rfl, rfl⟩
  clear c5 f5
  have c5 := cells_of HT.out.h5
  have f5 := free_of HT.out.h5
  generalize World.setCell w' _ _ = wx at *
  by_cases hk : 1 ≤ mkd s ∧ mkd s ≤ 10
  · obtain ⟨k1, k2⟩ := hk
    have q1 : ¬ ((mkd s : Nat) : Int) < 1 := by omega
    have q2 : ¬ (10 : Int) < ((mkd s : Nat) : Int) := by omega
    rcases hc with ⟨rfl, rfl, rfl⟩ | ⟨rfl, rfl, rfl⟩ | ⟨rfl, rfl, rfl⟩ | ⟨rfl, rfl, rfl⟩ | ⟨rfl, rfl, rfl⟩
    all_goals
      go_wp2_with (first
        | (go_at_call 53; with_reducible refine ((HT.out.set _ _).u8).mono ?_; rintro r w' ⟨rfl, hs⟩; (try simp only [List.setIfInBounds_toArray, List.set_cons_succ, List.set_cons_zero] at hs); replace HT := Lib.hid hs; clear hs c5 f5; have c5 := cells_of HT.out.h5; have f5 := free_of HT.out.h5)
        | (go_at_call 53; with_reducible refine (HT.out.u8).mono ?_; rintro r w' ⟨rfl, hs⟩; (try simp only [List.setIfInBounds_toArray, List.set_cons_succ, List.set_cons_zero] at hs); replace HT := Lib.hid hs; clear hs c5 f5; have c5 := cells_of HT.out.h5; have f5 := free_of HT.out.h5)
        | fail)
      first
        | with_reducible refine ((HT.out.set _ _).end).mono ?_
        | with_reducible refine HT.out.end.mono ?_
      rintro r w8 ⟨hr, s', hs⟩
      replace hr : r = .returned (.int .i64 en) := by rw [hr, ← HEN.out]; rfl
      subst hr
      (try simp only [List.setIfInBounds_toArray, List.set_cons_succ, List.set_cons_zero] at hs)
      have g0 := hs.h2
      replace HT := Lib.hid hs
      clear hs c5 f5
      have c5 := cells_of HT.out.h5
      by_cases hz : en = 0
      · have e1 := HR1.out
        have e2 := HR2.out
        rw [if_pos ⟨⟨k1, k2⟩, hz⟩] at e1 e2
        subst e1 e2
        subst hz
        go_wp2_with (refine wpList_store_blk rfl rfl g0 rfl rfl item_size rfl rfl ?_; intro w9 k1 k2 k3; have c9 := cells_of k1)
        refine bodyPost_ret (by simp [results, Try.results20, go_sem, c9]; try rfl) rfl ?_
        exact ⟨rfl, HT.out.mods.trans k2 (fun _ _ x => x) (fun i hi x => by omega)⟩
      · have e1 := HR1.out
        have e2 := HR2.out
        rw [if_neg (fun h => hz h.2)] at e1 e2
        subst e1 e2
        have hb : (en != 0) = true := by simp [hz]
        clear hz
        go_wp2_with (refine wpList_store_blk rfl rfl g0 rfl rfl item_size rfl rfl ?_; intro w9 k1 k2 k3; have c9 := cells_of k1)
        refine bodyPost_ret (by simp [results, Try.results20, go_sem, c9]; try rfl) rfl ?_
        exact ⟨rfl, HT.out.mods.trans k2 (fun _ _ x => x) (fun i hi x => by omega)⟩
  · obtain ⟨rfl, rfl, rfl⟩ := hz0 hk
    have e1 := HR1.out
    have e2 := HR2.out
    rw [if_neg (fun h => hk h.1)] at e1 e2
    subst e1 e2
    have g0 := HT.out.h2
    have hk' : ((mkd s : Nat) : Int) < 1 ∨ (10 : Int) < ((mkd s : Nat) : Int) := by omega
    clear hk hc hz0
    rcases hk' with hk' | hk'
    · go_wp2_with (refine wpList_store_blk rfl rfl g0 rfl rfl item_size rfl rfl ?_; intro w9 k1 k2 k3; have c9 := cells_of k1)
      refine bodyPost_ret (by simp [results, Try.results20, go_sem, c9]; try rfl) rfl ?_
      exact ⟨rfl, HT.out.mods.trans k2 (fun _ _ x => x) (fun i hi x => by omega)⟩
    · have hk2 : ¬ ((mkd s : Nat) : Int) < 1 := by omega
      go_wp2_with (refine wpList_store_blk rfl rfl g0 rfl rfl item_size rfl rfl ?_; intro w9 k1 k2 k3; have c9 := cells_of k1)
      refine bodyPost_ret (by simp [results, Try.results20, go_sem, c9]; try rfl) rfl ?_
      exact ⟨rfl, HT.out.mods.trans k2 (fun _ _ x => x) (fun i hi x => by omega)⟩

end Go.Proofs.Ytebknplbghcemaa

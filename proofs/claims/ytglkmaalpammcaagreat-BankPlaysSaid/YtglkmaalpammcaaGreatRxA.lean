/- gleanref8: readers (printed by gen_rec.py). -/
import Derived.Test.YtglkmaalpammcaaGreatRefQ
namespace Go.Proofs.YtglkmaalpammcaaGreat
open Go.Gl Go.RowKit
set_option linter.unusedVariables false
set_option maxRecDepth 100000
theorem account_size8 : (Tryz.prog.info? 59).map (·.size) = some 2 := by kernel_rfl
set_option maxHeartbeats 4000000 in
theorem account_ref {w : World} {b : Value} {xs : List UInt8} (hb : RdB w b xs) (hl : xs.length ≤ 1000000) :
  Calls Tryz.prog 97 #[b] w (fun r w' => ∃ (n0 n1 : Nat) (e : Nat), r = .returned (.tuple #[.agg #[.int .u64 (n0 : Nat), .int .u64 (n1 : Nat)], .int .i64 e]) ∧ recGet [0, 0] xs = ([⟨0, n0, []⟩, ⟨0, n1, []⟩], e) ∧ Mods noB w w') := by
 obtain ⟨a, c, rfl, hlm⟩ := hb.1.form
 obtain ⟨Q, hQ⟩ : ∃ Q : Ending → World → Prop, Q = (fun r w' => ∃ (n0 n1 : Nat) (e : Nat), r = .returned (.tuple #[.agg #[.int .u64 (n0 : Nat), .int .u64 (n1 : Nat)], .int .i64 e]) ∧ recGet [0, 0] xs = ([⟨0, n0, []⟩, ⟨0, n1, []⟩], e) ∧ Mods noB w w') := ⟨_, rfl⟩
 show Calls _ _ _ _ (fun r w' => ∃ (n0 n1 : Nat) (e : Nat), r = .returned (.tuple #[.agg #[.int .u64 (n0 : Nat), .int .u64 (n1 : Nat)], .int .i64 e]) ∧ recGet [0, 0] xs = ([⟨0, n0, []⟩, ⟨0, n1, []⟩], e) ∧ Mods noB w w')
 rw [← hQ]
 have HQ := Lib.hid hQ
 have HL := Lib.hid (show ((xs, 0) : ESt).1.length ≤ 10000000000 from Nat.le_trans hl (Nat.le_of_ble_eq_true rfl))
 have F0 := Lib.hid (QF.start hb (.cells #[.int .u64 0, .int .u64 0] 59 (0, 0)) _ rfl ⟨_, _, rfl⟩)
 clear hQ hb hl hlm
 go_enter Tryz.func97, Tryz.ntmps97
 go_wp2_with fail
 generalize World.alloc (World.alloc w _) _ = y0 at *
 refine F0.out.u.mono ?_
 rintro r y1 ⟨rfl, hq⟩
 replace HL := Lib.hid (show ((est 8 ((xs, 0) : ESt)) : ESt).1.length ≤ 10000000000 from Nat.le_trans (est_len 8 _) HL.out)
 have F1 := Lib.hid (hq.alloc (.cells #[.int .u64 ((evl 8 ((xs, 0) : ESt)) : Nat), .int .u64 0] 59 (0, 0)))
 have HB := Lib.hid (show w.heap.size < y1.heap.size from by have := lt_of_heap (hq.get 0 rfl); simp only at this; omega)
 have hne : ∀ q ∈ [((w.heap.size, (.cells #[.int .u64 0, .int .u64 0] 59 (0, 0))) : Nat × Obj)], q.1 ≠ y1.heap.size := by intro q hq; simp at hq; subst hq; have := HB.out; simp only; omega
 have HNE := Lib.hid hne
 clear hq hne F0
 go_wp2_with fail
 generalize World.alloc y1 _ = z1 at *
 refine F1.out.u.mono ?_
 rintro r y2 ⟨rfl, hq⟩
 replace HL := Lib.hid (show ((est 8 (est 8 ((xs, 0) : ESt))) : ESt).1.length ≤ 10000000000 from Nat.le_trans (est_len 8 _) HL.out)
 have k0 := cells_of (hq.get 0 rfl) 1
 have k1 := free_of (hq.get 0 rfl) 1
 have F2 := Lib.hid (hq.set HNE.out 1 (.int .u64 ((evl 8 (est 8 ((xs, 0) : ESt))) : Nat)))
 clear hq F1
 go_wp2_with fail
 generalize World.setCell y2 _ _ = z2 at *
 refine F2.out.ends.mono ?_
 rintro r y ⟨rfl, t, hq⟩
 have HF := Lib.hid hq
 clear k0 k1
 have g0 := hq.get 1 rfl
 have x0 := cells_of (hq.get 0 rfl) 0
 have x1 := cells_of (hq.get 0 rfl) 1
 clear hq F2
 by_cases he : (est 8 (est 8 ((xs, 0) : ESt))) = ([], 0)
 ·rw [if_pos he]
  go_wp2_with (refine wpList_store_blk rfl rfl g0 rfl rfl account_size8 rfl rfl ?_; intro w11 q1 q2 q3; have c11 := cells_of q1)
  refine bodyPost_ret (by simp [results, Tryz.results97, go_sem, c11]; try rfl) rfl ?_
  rw [HQ.out]
  exact ⟨(evl 8 ((xs, 0) : ESt)), (evl 8 (est 8 ((xs, 0) : ESt))), 0, rfl, recGet_yes (fs := [⟨0, (evl 8 ((xs, 0) : ESt)), []⟩, ⟨0, (evl 8 (est 8 ((xs, 0) : ESt))), []⟩]) (show rdAll [0, 0] (xs, 0) = _ from he ▸ (by kernel_rfl : rdAll [0, 0] (xs, 0) = ([⟨0, (evl 8 ((xs, 0) : ESt)), []⟩, ⟨0, (evl 8 (est 8 ((xs, 0) : ESt))), []⟩], (est 8 (est 8 ((xs, 0) : ESt)))))), HF.out.mods.trans q2 (fun _ _ x => x) (fun i hi x => by omega)⟩
 ·rw [if_neg he]
  go_wp2_with (refine wpList_store_blk rfl rfl g0 rfl rfl account_size8 rfl rfl ?_; intro w11 q1 q2 q3; have c11 := cells_of q1)
  refine bodyPost_ret (by simp [results, Tryz.results97, go_sem, c11]; try rfl) rfl ?_
  rw [HQ.out]
  exact ⟨0, 0, 80, rfl, recGet_no (fs := [⟨0, (evl 8 ((xs, 0) : ESt)), []⟩, ⟨0, (evl 8 (est 8 ((xs, 0) : ESt))), []⟩]) (s := (est 8 (est 8 ((xs, 0) : ESt)))) (by kernel_rfl) he, HF.out.mods.trans q2 (fun _ _ x => x) (fun i hi x => by omega)⟩
end Go.Proofs.YtglkmaalpammcaaGreat

/- gleanref8: readers (printed by gen_rec.py). -/
import Derived.Test.YtglkmaalpammcaaGreatRefQ
namespace Go.Proofs.YtglkmaalpammcaaGreat
open Go.Gl Go.RowKit
set_option linter.unusedVariables false
set_option maxRecDepth 100000
theorem params_size8 : (Tryz.prog.info? 35).map (·.size) = some 10 := by kernel_rfl
set_option maxHeartbeats 4000000 in
theorem params_ref {w : World} {b : Value} {xs : List UInt8} (hb : RdB w b xs) (hl : xs.length ≤ 1000000) :
  Calls Tryz.prog 157 #[b] w (fun r w' => ∃ (n0 n1 n2 n3 n4 n5 n6 n7 n8 n9 : Nat) (e : Nat), r = .returned (.tuple #[.agg #[.int .u64 (n0 : Nat), .int .u64 (n1 : Nat), .int .u64 (n2 : Nat), .int .u64 (n3 : Nat), .int .u64 (n4 : Nat), .int .u64 (n5 : Nat), .int .u64 (n6 : Nat), .int .u64 (n7 : Nat), .int .u64 (n8 : Nat), .int .u64 (n9 : Nat)], .int .i64 e]) ∧ recGet [0, 0, 0, 0, 0, 0, 0, 0, 0, 0] xs = ([⟨0, n0, []⟩, ⟨0, n1, []⟩, ⟨0, n2, []⟩, ⟨0, n3, []⟩, ⟨0, n4, []⟩, ⟨0, n5, []⟩, ⟨0, n6, []⟩, ⟨0, n7, []⟩, ⟨0, n8, []⟩, ⟨0, n9, []⟩], e) ∧ Mods noB w w') := by
 obtain ⟨a, c, rfl, hlm⟩ := hb.1.form
 obtain ⟨Q, hQ⟩ : ∃ Q : Ending → World → Prop, Q = (fun r w' => ∃ (n0 n1 n2 n3 n4 n5 n6 n7 n8 n9 : Nat) (e : Nat), r = .returned (.tuple #[.agg #[.int .u64 (n0 : Nat), .int .u64 (n1 : Nat), .int .u64 (n2 : Nat), .int .u64 (n3 : Nat), .int .u64 (n4 : Nat), .int .u64 (n5 : Nat), .int .u64 (n6 : Nat), .int .u64 (n7 : Nat), .int .u64 (n8 : Nat), .int .u64 (n9 : Nat)], .int .i64 e]) ∧ recGet [0, 0, 0, 0, 0, 0, 0, 0, 0, 0] xs = ([⟨0, n0, []⟩, ⟨0, n1, []⟩, ⟨0, n2, []⟩, ⟨0, n3, []⟩, ⟨0, n4, []⟩, ⟨0, n5, []⟩, ⟨0, n6, []⟩, ⟨0, n7, []⟩, ⟨0, n8, []⟩, ⟨0, n9, []⟩], e) ∧ Mods noB w w') := ⟨_, rfl⟩
 show Calls _ _ _ _ (fun r w' => ∃ (n0 n1 n2 n3 n4 n5 n6 n7 n8 n9 : Nat) (e : Nat), r = .returned (.tuple #[.agg #[.int .u64 (n0 : Nat), .int .u64 (n1 : Nat), .int .u64 (n2 : Nat), .int .u64 (n3 : Nat), .int .u64 (n4 : Nat), .int .u64 (n5 : Nat), .int .u64 (n6 : Nat), .int .u64 (n7 : Nat), .int .u64 (n8 : Nat), .int .u64 (n9 : Nat)], .int .i64 e]) ∧ recGet [0, 0, 0, 0, 0, 0, 0, 0, 0, 0] xs = ([⟨0, n0, []⟩, ⟨0, n1, []⟩, ⟨0, n2, []⟩, ⟨0, n3, []⟩, ⟨0, n4, []⟩, ⟨0, n5, []⟩, ⟨0, n6, []⟩, ⟨0, n7, []⟩, ⟨0, n8, []⟩, ⟨0, n9, []⟩], e) ∧ Mods noB w w')
 rw [← hQ]
 have HQ := Lib.hid hQ
 have HL := Lib.hid (show ((xs, 0) : ESt).1.length ≤ 10000000000 from Nat.le_trans hl (Nat.le_of_ble_eq_true rfl))
 have F0 := Lib.hid (QF.start hb (.cells #[.int .u64 0, .int .u64 0, .int .u64 0, .int .u64 0, .int .u64 0, .int .u64 0, .int .u64 0, .int .u64 0, .int .u64 0, .int .u64 0] 35 (0, 0)) _ rfl ⟨_, _, rfl⟩)
 clear hQ hb hl hlm
 go_enter Tryz.func157, Tryz.ntmps157
 go_wp2_with fail
 have hbs : ((w.alloc (.cells #[.int .u64 0, .int .u64 0, .int .u64 0, .int .u64 0, .int .u64 0, .int .u64 0, .int .u64 0, .int .u64 0, .int .u64 0, .int .u64 0] 35 (0, 0))).alloc (.cells #[.slice a xs.length c, .int .i64 0] 249)).heap.size = w.heap.size + 1 + 1 := by simp
 replace F0 := Lib.hid (F0.out.alloc (.cells #[.int .u64 0, .int .u64 0, .int .u64 0, .int .u64 0, .int .u64 0, .int .u64 0, .int .u64 0, .int .u64 0, .int .u64 0, .int .u64 0] 35 (0, 0)))
 rw [hbs] at F0
 clear hbs
 generalize World.alloc (World.alloc (World.alloc w _) _) _ = y0 at *
 refine F0.out.u.mono ?_
 rintro r y1 ⟨rfl, hq⟩
 replace HL := Lib.hid (show ((est 8 ((xs, 0) : ESt)) : ESt).1.length ≤ 10000000000 from Nat.le_trans (est_len 8 _) HL.out)
 have k0 := cells_of (hq.get 0 rfl) 0
 have k1 := free_of (hq.get 0 rfl) 0
 have F1 := Lib.hid (hq.set (by intro q hq; simp at hq; subst hq; simp; try omega) 0 (.int .u64 ((evl 8 ((xs, 0) : ESt)) : Nat)))
 clear hq F0
 go_wp2_with fail
 generalize World.setCell y1 _ _ = z1 at *
 refine F1.out.u.mono ?_
 rintro r y2 ⟨rfl, hq⟩
 replace HL := Lib.hid (show ((est 8 (est 8 ((xs, 0) : ESt))) : ESt).1.length ≤ 10000000000 from Nat.le_trans (est_len 8 _) HL.out)
 clear k0 k1
 have k0 := cells_of (hq.get 0 rfl) 1
 have k1 := free_of (hq.get 0 rfl) 1
 have F2 := Lib.hid (hq.set (by intro q hq; simp at hq; subst hq; simp; try omega) 1 (.int .u64 ((evl 8 (est 8 ((xs, 0) : ESt))) : Nat)))
 clear hq F1
 go_wp2_with fail
 generalize World.setCell y2 _ _ = z2 at *
 refine F2.out.u.mono ?_
 rintro r y3 ⟨rfl, hq⟩
 replace HL := Lib.hid (show ((est 8 (est 8 (est 8 ((xs, 0) : ESt)))) : ESt).1.length ≤ 10000000000 from Nat.le_trans (est_len 8 _) HL.out)
 clear k0 k1
 have k0 := cells_of (hq.get 0 rfl) 2
 have k1 := free_of (hq.get 0 rfl) 2
 have F3 := Lib.hid (hq.set (by intro q hq; simp at hq; subst hq; simp; try omega) 2 (.int .u64 ((evl 8 (est 8 (est 8 ((xs, 0) : ESt)))) : Nat)))
 clear hq F2
 go_wp2_with fail
 generalize World.setCell y3 _ _ = z3 at *
 refine F3.out.u.mono ?_
 rintro r y4 ⟨rfl, hq⟩
 replace HL := Lib.hid (show ((est 8 (est 8 (est 8 (est 8 ((xs, 0) : ESt))))) : ESt).1.length ≤ 10000000000 from Nat.le_trans (est_len 8 _) HL.out)
 clear k0 k1
 have k0 := cells_of (hq.get 0 rfl) 3
 have k1 := free_of (hq.get 0 rfl) 3
 have F4 := Lib.hid (hq.set (by intro q hq; simp at hq; subst hq; simp; try omega) 3 (.int .u64 ((evl 8 (est 8 (est 8 (est 8 ((xs, 0) : ESt))))) : Nat)))
 clear hq F3
 go_wp2_with fail
 generalize World.setCell y4 _ _ = z4 at *
 refine F4.out.u.mono ?_
 rintro r y5 ⟨rfl, hq⟩
 replace HL := Lib.hid (show ((est 8 (est 8 (est 8 (est 8 (est 8 ((xs, 0) : ESt)))))) : ESt).1.length ≤ 10000000000 from Nat.le_trans (est_len 8 _) HL.out)
 clear k0 k1
 have k0 := cells_of (hq.get 0 rfl) 4
 have k1 := free_of (hq.get 0 rfl) 4
 have F5 := Lib.hid (hq.set (by intro q hq; simp at hq; subst hq; simp; try omega) 4 (.int .u64 ((evl 8 (est 8 (est 8 (est 8 (est 8 ((xs, 0) : ESt)))))) : Nat)))
 clear hq F4
 go_wp2_with fail
 generalize World.setCell y5 _ _ = z5 at *
 refine F5.out.u.mono ?_
 rintro r y6 ⟨rfl, hq⟩
 replace HL := Lib.hid (show ((est 8 (est 8 (est 8 (est 8 (est 8 (est 8 ((xs, 0) : ESt))))))) : ESt).1.length ≤ 10000000000 from Nat.le_trans (est_len 8 _) HL.out)
 clear k0 k1
 have k0 := cells_of (hq.get 0 rfl) 5
 have k1 := free_of (hq.get 0 rfl) 5
 have F6 := Lib.hid (hq.set (by intro q hq; simp at hq; subst hq; simp; try omega) 5 (.int .u64 ((evl 8 (est 8 (est 8 (est 8 (est 8 (est 8 ((xs, 0) : ESt))))))) : Nat)))
 clear hq F5
 go_wp2_with fail
 generalize World.setCell y6 _ _ = z6 at *
 refine F6.out.u.mono ?_
 rintro r y7 ⟨rfl, hq⟩
 replace HL := Lib.hid (show ((est 8 (est 8 (est 8 (est 8 (est 8 (est 8 (est 8 ((xs, 0) : ESt)))))))) : ESt).1.length ≤ 10000000000 from Nat.le_trans (est_len 8 _) HL.out)
 clear k0 k1
 have k0 := cells_of (hq.get 0 rfl) 6
 have k1 := free_of (hq.get 0 rfl) 6
 have F7 := Lib.hid (hq.set (by intro q hq; simp at hq; subst hq; simp; try omega) 6 (.int .u64 ((evl 8 (est 8 (est 8 (est 8 (est 8 (est 8 (est 8 ((xs, 0) : ESt)))))))) : Nat)))
 clear hq F6
 go_wp2_with fail
 generalize World.setCell y7 _ _ = z7 at *
 refine F7.out.u.mono ?_
 rintro r y8 ⟨rfl, hq⟩
 replace HL := Lib.hid (show ((est 8 (est 8 (est 8 (est 8 (est 8 (est 8 (est 8 (est 8 ((xs, 0) : ESt))))))))) : ESt).1.length ≤ 10000000000 from Nat.le_trans (est_len 8 _) HL.out)
 clear k0 k1
 have k0 := cells_of (hq.get 0 rfl) 7
 have k1 := free_of (hq.get 0 rfl) 7
 have F8 := Lib.hid (hq.set (by intro q hq; simp at hq; subst hq; simp; try omega) 7 (.int .u64 ((evl 8 (est 8 (est 8 (est 8 (est 8 (est 8 (est 8 (est 8 ((xs, 0) : ESt))))))))) : Nat)))
 clear hq F7
 go_wp2_with fail
 generalize World.setCell y8 _ _ = z8 at *
 refine F8.out.u.mono ?_
 rintro r y9 ⟨rfl, hq⟩
 replace HL := Lib.hid (show ((est 8 (est 8 (est 8 (est 8 (est 8 (est 8 (est 8 (est 8 (est 8 ((xs, 0) : ESt)))))))))) : ESt).1.length ≤ 10000000000 from Nat.le_trans (est_len 8 _) HL.out)
 clear k0 k1
 have k0 := cells_of (hq.get 0 rfl) 8
 have k1 := free_of (hq.get 0 rfl) 8
 have F9 := Lib.hid (hq.set (by intro q hq; simp at hq; subst hq; simp; try omega) 8 (.int .u64 ((evl 8 (est 8 (est 8 (est 8 (est 8 (est 8 (est 8 (est 8 (est 8 ((xs, 0) : ESt)))))))))) : Nat)))
 clear hq F8
 go_wp2_with fail
 generalize World.setCell y9 _ _ = z9 at *
 refine F9.out.u.mono ?_
 rintro r y10 ⟨rfl, hq⟩
 replace HL := Lib.hid (show ((est 8 (est 8 (est 8 (est 8 (est 8 (est 8 (est 8 (est 8 (est 8 (est 8 ((xs, 0) : ESt))))))))))) : ESt).1.length ≤ 10000000000 from Nat.le_trans (est_len 8 _) HL.out)
 clear k0 k1
 have k0 := cells_of (hq.get 0 rfl) 9
 have k1 := free_of (hq.get 0 rfl) 9
 have F10 := Lib.hid (hq.set (by intro q hq; simp at hq; subst hq; simp; try omega) 9 (.int .u64 ((evl 8 (est 8 (est 8 (est 8 (est 8 (est 8 (est 8 (est 8 (est 8 (est 8 ((xs, 0) : ESt))))))))))) : Nat)))
 clear hq F9
 go_wp2_with fail
 generalize World.setCell y10 _ _ = z10 at *
 refine F10.out.ends.mono ?_
 rintro r y ⟨rfl, t, hq⟩
 have HF := Lib.hid hq
 clear k0 k1
 have g0 := hq.get 1 rfl
 have x0 := cells_of (hq.get 0 rfl) 0
 have x1 := cells_of (hq.get 0 rfl) 1
 have x2 := cells_of (hq.get 0 rfl) 2
 have x3 := cells_of (hq.get 0 rfl) 3
 have x4 := cells_of (hq.get 0 rfl) 4
 have x5 := cells_of (hq.get 0 rfl) 5
 have x6 := cells_of (hq.get 0 rfl) 6
 have x7 := cells_of (hq.get 0 rfl) 7
 have x8 := cells_of (hq.get 0 rfl) 8
 have x9 := cells_of (hq.get 0 rfl) 9
 clear hq F10
 by_cases he : (est 8 (est 8 (est 8 (est 8 (est 8 (est 8 (est 8 (est 8 (est 8 (est 8 ((xs, 0) : ESt))))))))))) = ([], 0)
 ·rw [if_pos he]
  go_wp2_with (refine wpList_store_blk rfl rfl g0 rfl rfl params_size8 rfl rfl ?_; intro w11 q1 q2 q3; have c11 := cells_of q1)
  refine bodyPost_ret (by simp [results, Tryz.results157, go_sem, c11]; try rfl) rfl ?_
  rw [HQ.out]
  exact ⟨(evl 8 ((xs, 0) : ESt)), (evl 8 (est 8 ((xs, 0) : ESt))), (evl 8 (est 8 (est 8 ((xs, 0) : ESt)))), (evl 8 (est 8 (est 8 (est 8 ((xs, 0) : ESt))))), (evl 8 (est 8 (est 8 (est 8 (est 8 ((xs, 0) : ESt)))))), (evl 8 (est 8 (est 8 (est 8 (est 8 (est 8 ((xs, 0) : ESt))))))), (evl 8 (est 8 (est 8 (est 8 (est 8 (est 8 (est 8 ((xs, 0) : ESt)))))))), (evl 8 (est 8 (est 8 (est 8 (est 8 (est 8 (est 8 (est 8 ((xs, 0) : ESt))))))))), (evl 8 (est 8 (est 8 (est 8 (est 8 (est 8 (est 8 (est 8 (est 8 ((xs, 0) : ESt)))))))))), (evl 8 (est 8 (est 8 (est 8 (est 8 (est 8 (est 8 (est 8 (est 8 (est 8 ((xs, 0) : ESt))))))))))), 0, rfl, recGet_yes (fs := [⟨0, (evl 8 ((xs, 0) : ESt)), []⟩, ⟨0, (evl 8 (est 8 ((xs, 0) : ESt))), []⟩, ⟨0, (evl 8 (est 8 (est 8 ((xs, 0) : ESt)))), []⟩, ⟨0, (evl 8 (est 8 (est 8 (est 8 ((xs, 0) : ESt))))), []⟩, ⟨0, (evl 8 (est 8 (est 8 (est 8 (est 8 ((xs, 0) : ESt)))))), []⟩, ⟨0, (evl 8 (est 8 (est 8 (est 8 (est 8 (est 8 ((xs, 0) : ESt))))))), []⟩, ⟨0, (evl 8 (est 8 (est 8 (est 8 (est 8 (est 8 (est 8 ((xs, 0) : ESt)))))))), []⟩, ⟨0, (evl 8 (est 8 (est 8 (est 8 (est 8 (est 8 (est 8 (est 8 ((xs, 0) : ESt))))))))), []⟩, ⟨0, (evl 8 (est 8 (est 8 (est 8 (est 8 (est 8 (est 8 (est 8 (est 8 ((xs, 0) : ESt)))))))))), []⟩, ⟨0, (evl 8 (est 8 (est 8 (est 8 (est 8 (est 8 (est 8 (est 8 (est 8 (est 8 ((xs, 0) : ESt))))))))))), []⟩]) (show rdAll [0, 0, 0, 0, 0, 0, 0, 0, 0, 0] (xs, 0) = _ from he ▸ (by kernel_rfl : rdAll [0, 0, 0, 0, 0, 0, 0, 0, 0, 0] (xs, 0) = ([⟨0, (evl 8 ((xs, 0) : ESt)), []⟩, ⟨0, (evl 8 (est 8 ((xs, 0) : ESt))), []⟩, ⟨0, (evl 8 (est 8 (est 8 ((xs, 0) : ESt)))), []⟩, ⟨0, (evl 8 (est 8 (est 8 (est 8 ((xs, 0) : ESt))))), []⟩, ⟨0, (evl 8 (est 8 (est 8 (est 8 (est 8 ((xs, 0) : ESt)))))), []⟩, ⟨0, (evl 8 (est 8 (est 8 (est 8 (est 8 (est 8 ((xs, 0) : ESt))))))), []⟩, ⟨0, (evl 8 (est 8 (est 8 (est 8 (est 8 (est 8 (est 8 ((xs, 0) : ESt)))))))), []⟩, ⟨0, (evl 8 (est 8 (est 8 (est 8 (est 8 (est 8 (est 8 (est 8 ((xs, 0) : ESt))))))))), []⟩, ⟨0, (evl 8 (est 8 (est 8 (est 8 (est 8 (est 8 (est 8 (est 8 (est 8 ((xs, 0) : ESt)))))))))), []⟩, ⟨0, (evl 8 (est 8 (est 8 (est 8 (est 8 (est 8 (est 8 (est 8 (est 8 (est 8 ((xs, 0) : ESt))))))))))), []⟩], (est 8 (est 8 (est 8 (est 8 (est 8 (est 8 (est 8 (est 8 (est 8 (est 8 ((xs, 0) : ESt)))))))))))))), HF.out.mods.trans q2 (fun _ _ x => x) (fun i hi x => by omega)⟩
 ·rw [if_neg he]
  go_wp2_with (refine wpList_store_blk rfl rfl g0 rfl rfl params_size8 rfl rfl ?_; intro w11 q1 q2 q3; have c11 := cells_of q1)
  refine bodyPost_ret (by simp [results, Tryz.results157, go_sem, c11]; try rfl) rfl ?_
  rw [HQ.out]
  exact ⟨0, 0, 0, 0, 0, 0, 0, 0, 0, 0, 80, rfl, recGet_no (fs := [⟨0, (evl 8 ((xs, 0) : ESt)), []⟩, ⟨0, (evl 8 (est 8 ((xs, 0) : ESt))), []⟩, ⟨0, (evl 8 (est 8 (est 8 ((xs, 0) : ESt)))), []⟩, ⟨0, (evl 8 (est 8 (est 8 (est 8 ((xs, 0) : ESt))))), []⟩, ⟨0, (evl 8 (est 8 (est 8 (est 8 (est 8 ((xs, 0) : ESt)))))), []⟩, ⟨0, (evl 8 (est 8 (est 8 (est 8 (est 8 (est 8 ((xs, 0) : ESt))))))), []⟩, ⟨0, (evl 8 (est 8 (est 8 (est 8 (est 8 (est 8 (est 8 ((xs, 0) : ESt)))))))), []⟩, ⟨0, (evl 8 (est 8 (est 8 (est 8 (est 8 (est 8 (est 8 (est 8 ((xs, 0) : ESt))))))))), []⟩, ⟨0, (evl 8 (est 8 (est 8 (est 8 (est 8 (est 8 (est 8 (est 8 (est 8 ((xs, 0) : ESt)))))))))), []⟩, ⟨0, (evl 8 (est 8 (est 8 (est 8 (est 8 (est 8 (est 8 (est 8 (est 8 (est 8 ((xs, 0) : ESt))))))))))), []⟩]) (s := (est 8 (est 8 (est 8 (est 8 (est 8 (est 8 (est 8 (est 8 (est 8 (est 8 ((xs, 0) : ESt)))))))))))) (by kernel_rfl) he, HF.out.mods.trans q2 (fun _ _ x => x) (fun i hi x => by omega)⟩
theorem account_size8 : (Tryz.prog.info? 59).map (·.size) = some 2 := by kernel_rfl
set_option maxHeartbeats 4000000 in
theorem account_ref {w : World} {b : Value} {xs : List UInt8} (hb : RdB w b xs) (hl : xs.length ≤ 1000000) :
  Calls Tryz.prog 97 #[b] w (fun r w' => ∃ (n0 n1 : Nat) (e : Nat), r = .returned (.tuple #[.agg #[.int .u64 (n0 : Nat), .int .u64 (n1 : Nat)], .int .i64 e]) ∧ recGet [0, 0] xs = ([⟨0, n0, []⟩, ⟨0, n1, []⟩], e) ∧ Mods noB w w') := by
 obtain ⟨a, c, rfl, hlm⟩ := hb.1.form
 obtain ⟨Q, hQ⟩ : ∃ Q : Ending → World → Prop, Q = (fun r w' => ∃ (n0 n1 : Nat) (e : Nat), r = .returned (.tuple #[.agg #[.int .u64 (n0 : Nat), .int .u64 (n1 : Nat)], .int .i64 e]) ∧ recGet [0, 0] xs = ([⟨0, n0, []⟩, ⟨0, n1, []⟩], e) ∧ Mods noB w w') := ⟨_, rfl⟩
 show Calls _ _ _ _ (fun r w' => ∃ (n0 n1 : Nat) (e : Nat), r = .returned (.tuple #[.agg #[.int .u64 (n0 : Nat), .int .u64 (n1 : Nat)], .int .i64 e]) ∧ recGet [0, 0] xs = ([⟨0, n0, []⟩, ⟨0, n1, []⟩], e) ∧ Mods noB w w')
 rw [← hQ]
 have HQ := Lib.hid hQ
 have HL := Lib.hid (show ((xs, 0) : ESt).1.length ≤ 10000000000 from Nat.le_trans hl (Nat.le_of_ble_eq_true rfl))
 have F0 := Lib.hid (QF.start hb (.cells #[.int .u64 0, .int .u64 0] 59 (0, 0)) _ rfl ⟨_, _, rfl⟩)
 clear hQ hb hl hlm
 go_enter Tryz.func97, Tryz.ntmps97
 go_wp2_with fail
 generalize World.alloc (World.alloc w _) _ = y0 at *
 refine F0.out.u.mono ?_
 rintro r y1 ⟨rfl, hq⟩
 replace HL := Lib.hid (show ((est 8 ((xs, 0) : ESt)) : ESt).1.length ≤ 10000000000 from Nat.le_trans (est_len 8 _) HL.out)
 have F1 := Lib.hid (hq.alloc (.cells #[.int .u64 ((evl 8 ((xs, 0) : ESt)) : Nat), .int .u64 0] 59 (0, 0)))
 have HB := Lib.hid (show w.heap.size < y1.heap.size from by have := lt_of_heap (hq.get 0 rfl); simp only at this; omega)
 have hne : ∀ q ∈ [((w.heap.size, (.cells #[.int .u64 0, .int .u64 0] 59 (0, 0))) : Nat × Obj)], q.1 ≠ y1.heap.size := by intro q hq; simp at hq; subst hq; have := HB.out; simp only; omega
 have HNE := Lib.hid hne
 clear hq hne F0
 go_wp2_with fail
 generalize World.alloc y1 _ = z1 at *
 refine F1.out.u.mono ?_
 rintro r y2 ⟨rfl, hq⟩
 replace HL := Lib.hid (show ((est 8 (est 8 ((xs, 0) : ESt))) : ESt).1.length ≤ 10000000000 from Nat.le_trans (est_len 8 _) HL.out)
 have k0 := cells_of (hq.get 0 rfl) 1
 have k1 := free_of (hq.get 0 rfl) 1
 have F2 := Lib.hid (hq.set HNE.out 1 (.int .u64 ((evl 8 (est 8 ((xs, 0) : ESt))) : Nat)))
 clear hq F1
 go_wp2_with fail
 generalize World.setCell y2 _ _ = z2 at *
 refine F2.out.ends.mono ?_
 rintro r y ⟨rfl, t, hq⟩
 have HF := Lib.hid hq
 clear k0 k1
 have g0 := hq.get 1 rfl
 have x0 := cells_of (hq.get 0 rfl) 0
 have x1 := cells_of (hq.get 0 rfl) 1
 clear hq F2
 by_cases he : (est 8 (est 8 ((xs, 0) : ESt))) = ([], 0)
 ·rw [if_pos he]
  go_wp2_with (refine wpList_store_blk rfl rfl g0 rfl rfl account_size8 rfl rfl ?_; intro w11 q1 q2 q3; have c11 := cells_of q1)
  refine bodyPost_ret (by simp [results, Tryz.results97, go_sem, c11]; try rfl) rfl ?_
  rw [HQ.out]
  exact ⟨(evl 8 ((xs, 0) : ESt)), (evl 8 (est 8 ((xs, 0) : ESt))), 0, rfl, recGet_yes (fs := [⟨0, (evl 8 ((xs, 0) : ESt)), []⟩, ⟨0, (evl 8 (est 8 ((xs, 0) : ESt))), []⟩]) (show rdAll [0, 0] (xs, 0) = _ from he ▸ (by kernel_rfl : rdAll [0, 0] (xs, 0) = ([⟨0, (evl 8 ((xs, 0) : ESt)), []⟩, ⟨0, (evl 8 (est 8 ((xs, 0) : ESt))), []⟩], (est 8 (est 8 ((xs, 0) : ESt)))))), HF.out.mods.trans q2 (fun _ _ x => x) (fun i hi x => by omega)⟩
 ·rw [if_neg he]
  go_wp2_with (refine wpList_store_blk rfl rfl g0 rfl rfl account_size8 rfl rfl ?_; intro w11 q1 q2 q3; have c11 := cells_of q1)
  refine bodyPost_ret (by simp [results, Tryz.results97, go_sem, c11]; try rfl) rfl ?_
  rw [HQ.out]
  exact ⟨0, 0, 80, rfl, recGet_no (fs := [⟨0, (evl 8 ((xs, 0) : ESt)), []⟩, ⟨0, (evl 8 (est 8 ((xs, 0) : ESt))), []⟩]) (s := (est 8 (est 8 ((xs, 0) : ESt)))) (by kernel_rfl) he, HF.out.mods.trans q2 (fun _ _ x => x) (fun i hi x => by omega)⟩
end Go.Proofs.YtglkmaalpammcaaGreat

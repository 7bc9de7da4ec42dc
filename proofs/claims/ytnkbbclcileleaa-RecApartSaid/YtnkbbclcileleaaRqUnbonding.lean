/- rec.Unbonding: the fields function, putters, getters (printed by gen_rec.py). -/
import Derived.Test.YtnkbbclcileleaaRecH
namespace Go.Proofs.Ytnkbbclcileleaa
open Go.Gl Go.RowKit
set_option linter.unusedVariables false
set_option maxRecDepth 100000

set_option maxHeartbeats 1000000 in
theorem unbonding_w {w : World} {g B : Nat} {v0 : Value} {xs : List UInt8} {n0 n1 n2 n3 n4 n5 : Nat} (h : Wr w g v0 xs 0) (hb : w.heap[B]? = some (.cells #[.int .u64 n0, .int .u64 n1, .int .u64 n2, .int .u64 n3, .int .u64 n4, .int .u64 n5] 42 (0, 0))) (ne : ¬ WS g v0 B) (hn : Lim [n0, n1, n2, n3, n4, n5])  (hl : xs.length ≤ 1000000) :
    Calls Try.prog 31 #[.agg #[.pointer (some ⟨g, 0, none⟩), .pointer none], .pointer (some ⟨B, 0, none⟩)] w fun r w' => r = .returned (.tuple #[]) ∧ ∃ v', WStep w g v0 (xs ++ recLay [⟨0, n0, []⟩, ⟨0, n1, []⟩, ⟨0, n2, []⟩, ⟨0, n3, []⟩, ⟨0, n4, []⟩, ⟨0, n5, []⟩]) 0 w' v' := by
  have b := Lib.hid (show WB0 w g B v0 #[.int .u64 n0, .int .u64 n1, .int .u64 n2, .int .u64 n3, .int .u64 n4, .int .u64 n5] 42 from ⟨⟨xs, h⟩, hb, ne⟩)
  have F := Lib.hid (WF.start h)
  have HN := Lib.hid hn
  clear h hb ne hn 
  obtain ⟨ys, hys⟩ : ∃ ys, recLay [⟨0, n0, []⟩, ⟨0, n1, []⟩, ⟨0, n2, []⟩, ⟨0, n3, []⟩, ⟨0, n4, []⟩, ⟨0, n5, []⟩] = ys := ⟨_, rfl⟩
  rw [hys]
  have HY := Lib.hid hys
  clear hys
  go_enter Try.func31, Try.ntmps31
  go_wp2
  generalize World.alloc w _ = wx at *
  obtain ⟨c0, c1, t0⟩ := F.out.tS
  go_region_held3 (fun w' => w'.cell? ⟨w.heap.size, 0, none⟩ = some (.pointer (some ⟨g, 0, none⟩)) ∧ w'.cell? ⟨w.heap.size, 1, none⟩ = some (.pointer none) ∧ w.heap.size < w'.heap.size)
    ((first | exact hq.tS | (refine tS_step (a := wx) ?_ c0 c1 t0; exact (by repeat' (first | (with_reducible exact Mods.refl _ _) | (with_reducible assumption) | (with_reducible refine Mods.alloc ?_ _) | (with_reducible refine Mods.drew ?_) | (with_reducible refine Mods.drewN ?_ _) | (with_reducible refine Mods.regrown ?_ _ _) | (with_reducible refine Mods.setCell ?_ ?_ _) | (refine .inr ?_; first | (simp; done) | (simp; omega) | omega))))))
    ((first
      | (go_at_call 54; refine (F.out.nums b.out ?_ (k := wx.heap.size) (e := 116) [0, 1, 2, 3, 4, 5] [n0, n1, n2, n3, n4, n5] (Nat.le_refl _) ?_ rfl rfl (Nat.le_of_ble_eq_true rfl) rfl (allU_get _ _ (And.intro rfl (And.intro rfl (And.intro rfl (And.intro rfl (And.intro rfl (And.intro rfl trivial))))))) ?_ ?_).mono ?_; (next => exact (by repeat' (first | (with_reducible exact Mods.refl _ _) | (with_reducible assumption) | (with_reducible refine Mods.alloc ?_ _) | (with_reducible refine Mods.drew ?_) | (with_reducible refine Mods.drewN ?_ _) | (with_reducible refine Mods.regrown ?_ _ _) | (with_reducible refine Mods.setCell ?_ ?_ _) | (refine .inr ?_; first | (simp; done) | (simp; omega) | omega)))); (next => exact heap_new _ _); (next => exact (fun x hx => HN.out x (by simp at hx ⊢; omega))); (next => omega); rintro r w0 ⟨rfl, hq⟩)))
  have F0 := Lib.hid hq
  have hl0 := lenU xs [n0, n1, n2, n3, n4, n5] (Nat.le_of_ble_eq_true rfl)
  try clear hHeld
  clear c0 c1 t0 hq
  obtain ⟨c0, c1, t0⟩ := F0.out.tS
  go_wp2
  go_end0
  obtain ⟨⟨v', hs, _⟩, _, _⟩ := F0.out
  refine ⟨rfl, v', ?_⟩
  rw [← HY.out]
  simpa only [recLay, lay_n, lay_b, lay_d, List.flatMap_cons, List.flatMap_nil, List.append_nil, List.append_assoc] using hs

set_option maxHeartbeats 1000000 in
theorem unbonding_r {w : World} {g B : Nat} {v0 : Value} {s : ESt} (h : TR g B 42 v0 s #[.int .u64 0, .int .u64 0, .int .u64 0, .int .u64 0, .int .u64 0, .int .u64 0] w) (hll : s.1.length ≤ 10000000000) :
    Calls Try.prog 31 #[.agg #[.pointer none, .pointer (some ⟨g, 0, none⟩)], .pointer (some ⟨B, 0, none⟩)] w fun r w' => r = .returned (.tuple #[]) ∧ ∃ (n0 n1 n2 n3 n4 n5 : Nat) (s' : ESt), rdAll [0, 0, 0, 0, 0, 0] s = ([⟨0, n0, []⟩, ⟨0, n1, []⟩, ⟨0, n2, []⟩, ⟨0, n3, []⟩, ⟨0, n4, []⟩, ⟨0, n5, []⟩], s') ∧ TRs w g B 42 v0 s' #[.int .u64 n0, .int .u64 n1, .int .u64 n2, .int .u64 n3, .int .u64 n4, .int .u64 n5] w' := by
  have F := Lib.hid (RF.start h)
  clear h
  obtain ⟨Q, hQ⟩ : ∃ Q : Ending → World → Prop, Q = (fun (r : Ending) (w' : World) => r = .returned (.tuple #[]) ∧ ∃ (n0 n1 n2 n3 n4 n5 : Nat) (s' : ESt), rdAll [0, 0, 0, 0, 0, 0] s = ([⟨0, n0, []⟩, ⟨0, n1, []⟩, ⟨0, n2, []⟩, ⟨0, n3, []⟩, ⟨0, n4, []⟩, ⟨0, n5, []⟩], s') ∧ TRs w g B 42 v0 s' #[.int .u64 n0, .int .u64 n1, .int .u64 n2, .int .u64 n3, .int .u64 n4, .int .u64 n5] w') := ⟨_, rfl⟩
  show Calls _ _ _ _ (fun (r : Ending) (w' : World) => r = .returned (.tuple #[]) ∧ ∃ (n0 n1 n2 n3 n4 n5 : Nat) (s' : ESt), rdAll [0, 0, 0, 0, 0, 0] s = ([⟨0, n0, []⟩, ⟨0, n1, []⟩, ⟨0, n2, []⟩, ⟨0, n3, []⟩, ⟨0, n4, []⟩, ⟨0, n5, []⟩], s') ∧ TRs w g B 42 v0 s' #[.int .u64 n0, .int .u64 n1, .int .u64 n2, .int .u64 n3, .int .u64 n4, .int .u64 n5] w')
  rw [← hQ]
  have HQ := Lib.hid hQ
  clear hQ
  go_enter Try.func31, Try.ntmps31
  go_wp2
  generalize World.alloc w _ = wx at *
  obtain ⟨c0, c1, t0⟩ := F.out.tS
  have hs : s.1.length ≤ 10000000000 := hll
  go_region_held3 (fun w' => w'.cell? ⟨w.heap.size, 0, none⟩ = some (.pointer none) ∧ w'.cell? ⟨w.heap.size, 1, none⟩ = some (.pointer (some ⟨g, 0, none⟩)) ∧ w.heap.size < w'.heap.size)
    ((first | exact hq.tS | (refine tS_step (a := wx) ?_ c0 c1 t0; exact (by repeat' (first | (with_reducible exact Mods.refl _ _) | (with_reducible assumption) | (with_reducible refine Mods.alloc ?_ _) | (with_reducible refine Mods.drew ?_) | (with_reducible refine Mods.drewN ?_ _) | (with_reducible refine Mods.regrown ?_ _ _) | (with_reducible refine Mods.setCell ?_ ?_ _) | (refine .inr ?_; first | (simp; done) | (simp; omega) | omega))))))
    ((first
      | (go_at_call 54; refine (F.out.nums ?_ (k := wx.heap.size) (e := 116) [0, 1, 2, 3, 4, 5] (Nat.le_refl _) ?_ rfl rfl (Nat.le_of_ble_eq_true rfl) (allR_get rfl)).mono ?_; (next => exact (by repeat' (first | (with_reducible exact Mods.refl _ _) | (with_reducible assumption) | (with_reducible refine Mods.alloc ?_ _) | (with_reducible refine Mods.drew ?_) | (with_reducible refine Mods.drewN ?_ _) | (with_reducible refine Mods.regrown ?_ _ _) | (with_reducible refine Mods.setCell ?_ ?_ _) | (refine .inr ?_; first | (simp; done) | (simp; omega) | omega)))); (next => exact heap_new _ _); rintro r w0 ⟨rfl, hq⟩)))
  have F0 := Lib.hid (show RF w g B w.heap.size 42 v0 (est 8 (est 8 (est 8 (est 8 (est 8 (est 8 s)))))) #[.int .u64 ((evl 8 s) : Nat), .int .u64 ((evl 8 (est 8 s)) : Nat), .int .u64 ((evl 8 (est 8 (est 8 s))) : Nat), .int .u64 ((evl 8 (est 8 (est 8 (est 8 s)))) : Nat), .int .u64 ((evl 8 (est 8 (est 8 (est 8 (est 8 s))))) : Nat), .int .u64 ((evl 8 (est 8 (est 8 (est 8 (est 8 (est 8 s)))))) : Nat)] [] w0 from hq)
  have hs : ((est 8 (est 8 (est 8 (est 8 (est 8 (est 8 s)))))) : ESt).1.length ≤ 10000000000 := Nat.le_trans (nst_len 6 _) hs
  try clear hHeld
  clear c0 c1 t0 hq
  obtain ⟨c0, c1, t0⟩ := F0.out.tS
  go_wp2
  go_end0
  rw [HQ.out]
  exact ⟨rfl, (evl 8 s), (evl 8 (est 8 s)), (evl 8 (est 8 (est 8 s))), (evl 8 (est 8 (est 8 (est 8 s)))), (evl 8 (est 8 (est 8 (est 8 (est 8 s))))), (evl 8 (est 8 (est 8 (est 8 (est 8 (est 8 s)))))), (est 8 (est 8 (est 8 (est 8 (est 8 (est 8 s)))))), by kernel_rfl, F0.out.st⟩

theorem unbonding_pu (w : World) : Calls Try.prog 30 #[.func (.func 31) #[] #[]] w fun r w' => ∃ k, r = .returned (.func (.func 56) #[] #[.pointer (some ⟨k, 0, none⟩)]) ∧ w'.cell? ⟨k, 0, none⟩ = some (.func (.func 31) #[] #[]) ∧ Mods noB w w' ∧ k < w'.heap.size := by
  have hmf : ∀ (fn : Fn) (first cap : Array Value) (w : World), (Instr.makeFunc fn first cap).run Try.prog w = .ok (.func fn first cap) w := fun _ _ _ _ => rfl
  go_enter Try.func30, Try.ntmps30
  go_wp2
  go_ret
  exact ⟨_, rfl, cells_of (heap_new w _) 0, (Mods.refl _ _).alloc _, by simp⟩

set_option maxHeartbeats 1000000 in
theorem unbonding_p1 {w : World} {k : Nat} {n0 n1 n2 n3 n4 n5 : Nat} (hk : w.cell? ⟨k, 0, none⟩ = some (.func (.func 31) #[] #[])) (hkl : k < w.heap.size) (hn : Lim [n0, n1, n2, n3, n4, n5])  :
    Calls Try.prog 56 #[.agg #[.int .u64 n0, .int .u64 n1, .int .u64 n2, .int .u64 n3, .int .u64 n4, .int .u64 n5], .pointer (some ⟨k, 0, none⟩)] w fun r w' => ∃ v, r = .returned v ∧ Own w' v (recLay [⟨0, n0, []⟩, ⟨0, n1, []⟩, ⟨0, n2, []⟩, ⟨0, n3, []⟩, ⟨0, n4, []⟩, ⟨0, n5, []⟩]) ∧ Mods noB w w' ∧ freshIn w v := by
  obtain ⟨zs, hz⟩ : ∃ zs, recLay [⟨0, n0, []⟩, ⟨0, n1, []⟩, ⟨0, n2, []⟩, ⟨0, n3, []⟩, ⟨0, n4, []⟩, ⟨0, n5, []⟩] = zs := ⟨_, rfl⟩
  rw [hz]
  have HZ := Lib.hid hz
  clear hz
  have HN := Lib.hid hn
  clear hn
  have m1 := (((Mods.refl noB w).alloc (.cells #[.int .u64 n0, .int .u64 n1, .int .u64 n2, .int .u64 n3, .int .u64 n4, .int .u64 n5] 42)).alloc (.cells #[.slice none 0 0, .int .i64 0] 108)).alloc (.cells #[.pointer (some ⟨w.heap.size + 1, 0, none⟩), .pointer none] 111)
  have c1 := (m1.cellAt hkl (fun x => x) 0).trans hk
  have P := Lib.hid (put_pre w #[.int .u64 n0, .int .u64 n1, .int .u64 n2, .int .u64 n3, .int .u64 n4, .int .u64 n5] 42 _ rfl)
  clear hk m1
  go_enter Try.func56, Try.ntmps56
  go_wp2_with fail
  generalize World.alloc (World.alloc (World.alloc w _) _) _ = wx at *
  obtain ⟨p1, p2, p3, p4, p5, p6, p7⟩ := P.out
  refine (unbonding_w p1 p2 p3 HN.out (by simp)).mono ?_
  rintro r w4 ⟨rfl, v', hs⟩
  rw [List.nil_append, HZ.out] at hs
  have hzl := Lib.hid (show zs.length ≤ 140737488355328 from HZ.out ▸ Nat.le_trans (recLay_len _) (Nat.le_of_ble_eq_true rfl))
  have d1 := cells_of (hs.mods.heap p4 p7) 0
  have M := Lib.hid (p5.trans hs.mods (U := noB) (fun _ _ x => x) (fun i hi x => ws_new x hi))
  have F := Lib.hid hs
  clear hs p1 p2 p3 p4 p5 p6 p7 P c1
  go_wp2_with fail
  refine (WOut_any F.out.wr hzl.out).mono ?_
  rintro r w5 ⟨u, rfl, o1, o2, o3⟩
  obtain ⟨ua, uc, rfl, _⟩ := o1.rd.form
  have O := Lib.hid (And.intro o1 (And.intro o2 o3))
  clear o1 o2 o3 d1
  go_wp2
  go_ret
  obtain ⟨o1, o2, o3⟩ := O.out
  exact ⟨_, rfl, o1, M.out.then0 o2, o3.of M.out.size⟩

set_option maxHeartbeats 1000000 in
theorem unbonding_put {w : World} {n0 n1 n2 n3 n4 n5 : Nat} (hn : Lim [n0, n1, n2, n3, n4, n5])  :
    Calls Try.prog 9 #[.agg #[.int .u64 n0, .int .u64 n1, .int .u64 n2, .int .u64 n3, .int .u64 n4, .int .u64 n5]] w fun r w' => ∃ v, r = .returned v ∧ Own w' v (recLay [⟨0, n0, []⟩, ⟨0, n1, []⟩, ⟨0, n2, []⟩, ⟨0, n3, []⟩, ⟨0, n4, []⟩, ⟨0, n5, []⟩]) ∧ Mods noB w w' ∧ freshIn w v := by
  obtain ⟨zs, hz⟩ : ∃ zs, recLay [⟨0, n0, []⟩, ⟨0, n1, []⟩, ⟨0, n2, []⟩, ⟨0, n3, []⟩, ⟨0, n4, []⟩, ⟨0, n5, []⟩] = zs := ⟨_, rfl⟩
  rw [hz]
  have HZ := Lib.hid hz
  clear hz
  have HN := Lib.hid hn
  clear hn
  have P := Lib.hid (put_box w #[.int .u64 n0, .int .u64 n1, .int .u64 n2, .int .u64 n3, .int .u64 n4, .int .u64 n5] 42 _ rfl)
  go_enter Try.func9, Try.ntmps9
  go_wp2
  generalize World.alloc w _ = w1 at *
  have HS := Lib.hid (fun b (hm : Mods noB w1 b) => have h := blk_step hm P.out.1; show b.cell? ⟨w.heap.size, 0, none⟩ = some (.int .u64 n0) ∧ b.cell? ⟨w.heap.size, 1, none⟩ = some (.int .u64 n1) ∧ b.cell? ⟨w.heap.size, 2, none⟩ = some (.int .u64 n2) ∧ b.cell? ⟨w.heap.size, 3, none⟩ = some (.int .u64 n3) ∧ b.cell? ⟨w.heap.size, 4, none⟩ = some (.int .u64 n4) ∧ b.cell? ⟨w.heap.size, 5, none⟩ = some (.int .u64 n5) ∧ Mods noB w1 b from ⟨cells_of h 0, cells_of h 1, cells_of h 2, cells_of h 3, cells_of h 4, cells_of h 5, hm⟩)
  go_region_held3 (fun b => b.cell? ⟨w.heap.size, 0, none⟩ = some (.int .u64 n0) ∧ b.cell? ⟨w.heap.size, 1, none⟩ = some (.int .u64 n1) ∧ b.cell? ⟨w.heap.size, 2, none⟩ = some (.int .u64 n2) ∧ b.cell? ⟨w.heap.size, 3, none⟩ = some (.int .u64 n3) ∧ b.cell? ⟨w.heap.size, 4, none⟩ = some (.int .u64 n4) ∧ b.cell? ⟨w.heap.size, 5, none⟩ = some (.int .u64 n5) ∧ Mods noB w1 b)
    ((refine HS.out _ ?_; exact (by repeat' (first | (with_reducible exact Mods.refl _ _) | (with_reducible assumption) | (with_reducible refine Mods.alloc ?_ _) | (with_reducible refine Mods.drew ?_) | (with_reducible refine Mods.drewN ?_ _) | (with_reducible refine Mods.regrown ?_ _ _) | (with_reducible refine Mods.setCell ?_ ?_ _) | (refine .inr ?_; first | (simp; done) | (simp; omega) | omega)))))
    ((first
      | (go_at_call 30; refine (unbonding_pu _).mono ?_; rintro r w2 ⟨k, rfl, k1, k2, k3⟩; (try replace k2 := Mods.undrew k2))
      | (go_at_call 56; refine (unbonding_p1 (k := k) ?_ ?_ HN.out).mono ?_; (next => (refine fn_step ?_ k1 k3; exact (by repeat' (first | (with_reducible exact Mods.refl _ _) | (with_reducible assumption) | (with_reducible refine Mods.alloc ?_ _) | (with_reducible refine Mods.drew ?_) | (with_reducible refine Mods.drewN ?_ _) | (with_reducible refine Mods.regrown ?_ _ _) | (with_reducible refine Mods.setCell ?_ ?_ _) | (refine .inr ?_; first | (simp; done) | (simp; omega) | omega))))); (next => (refine Mods.size_of (S := noB) (a := w2) ?_ k3; exact (by repeat' (first | (with_reducible exact Mods.refl _ _) | (with_reducible assumption) | (with_reducible refine Mods.alloc ?_ _) | (with_reducible refine Mods.drew ?_) | (with_reducible refine Mods.drewN ?_ _) | (with_reducible refine Mods.regrown ?_ _ _) | (with_reducible refine Mods.setCell ?_ ?_ _) | (refine .inr ?_; first | (simp; done) | (simp; omega) | omega))))); rintro r w3 ⟨v, rfl, o1, o2, o3⟩; replace o1 := HZ.out ▸ o1; (try replace o2 := Mods.undrew o2); replace o2 := Mods.then0 k2 o2)))
  go_wp2
  go_ret
  exact ⟨_, rfl, o1, P.out.2.1.then0 o2, o3.of (Nat.le_trans P.out.2.1.size k2.size)⟩


theorem unbonding_size : (Try.prog.info? 42).map (·.size) = some 6 := by kernel_rfl



end Go.Proofs.Ytnkbbclcileleaa

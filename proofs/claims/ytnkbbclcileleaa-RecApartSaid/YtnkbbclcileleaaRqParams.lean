/- rec.Params: the fields function, putters, getters (printed by gen_rec.py). -/
import Derived.Test.YtnkbbclcileleaaRecH
namespace Go.Proofs.Ytnkbbclcileleaa
open Go.Gl Go.RowKit
set_option linter.unusedVariables false
set_option maxRecDepth 100000

set_option maxHeartbeats 1000000 in
theorem params_w {w : World} {g B : Nat} {v0 : Value} {xs : List UInt8} {n0 n1 n2 n3 n4 n5 n6 n7 n8 n9 : Nat} (h : Wr w g v0 xs 0) (hb : w.heap[B]? = some (.cells #[.int .u64 n0, .int .u64 n1, .int .u64 n2, .int .u64 n3, .int .u64 n4, .int .u64 n5, .int .u64 n6, .int .u64 n7, .int .u64 n8, .int .u64 n9] 24 (0, 0))) (ne : ¬ WS g v0 B) (hn : Lim [n0, n1, n2, n3, n4, n5, n6, n7, n8, n9])  (hl : xs.length ≤ 1000000) :
    Calls Try.prog 27 #[.agg #[.pointer (some ⟨g, 0, none⟩), .pointer none], .pointer (some ⟨B, 0, none⟩)] w fun r w' => r = .returned (.tuple #[]) ∧ ∃ v', WStep w g v0 (xs ++ recLay [⟨0, n0, []⟩, ⟨0, n1, []⟩, ⟨0, n2, []⟩, ⟨0, n3, []⟩, ⟨0, n4, []⟩, ⟨0, n5, []⟩, ⟨0, n6, []⟩, ⟨0, n7, []⟩, ⟨0, n8, []⟩, ⟨0, n9, []⟩]) 0 w' v' := by
  have b := Lib.hid (show WB0 w g B v0 #[.int .u64 n0, .int .u64 n1, .int .u64 n2, .int .u64 n3, .int .u64 n4, .int .u64 n5, .int .u64 n6, .int .u64 n7, .int .u64 n8, .int .u64 n9] 24 from ⟨⟨xs, h⟩, hb, ne⟩)
  have F := Lib.hid (WF.start h)
  have HN := Lib.hid hn
  clear h hb ne hn 
  obtain ⟨ys, hys⟩ : ∃ ys, recLay [⟨0, n0, []⟩, ⟨0, n1, []⟩, ⟨0, n2, []⟩, ⟨0, n3, []⟩, ⟨0, n4, []⟩, ⟨0, n5, []⟩, ⟨0, n6, []⟩, ⟨0, n7, []⟩, ⟨0, n8, []⟩, ⟨0, n9, []⟩] = ys := ⟨_, rfl⟩
  rw [hys]
  have HY := Lib.hid hys
  clear hys
  go_enter Try.func27, Try.ntmps27
  go_wp2
  generalize World.alloc w _ = wx at *
  obtain ⟨c0, c1, t0⟩ := F.out.tS
  go_region_held3 (fun w' => w'.cell? ⟨w.heap.size, 0, none⟩ = some (.pointer (some ⟨g, 0, none⟩)) ∧ w'.cell? ⟨w.heap.size, 1, none⟩ = some (.pointer none) ∧ w.heap.size < w'.heap.size)
    ((first | exact hq.tS | (refine tS_step (a := wx) ?_ c0 c1 t0; exact (by repeat' (first | (with_reducible exact Mods.refl _ _) | (with_reducible assumption) | (with_reducible refine Mods.alloc ?_ _) | (with_reducible refine Mods.drew ?_) | (with_reducible refine Mods.drewN ?_ _) | (with_reducible refine Mods.regrown ?_ _ _) | (with_reducible refine Mods.setCell ?_ ?_ _) | (refine .inr ?_; first | (simp; done) | (simp; omega) | omega))))))
    ((first
      | (go_at_call 54; refine (F.out.nums b.out ?_ (k := wx.heap.size) (e := 116) [0, 1, 2, 3, 4, 5, 6, 7, 8, 9] [n0, n1, n2, n3, n4, n5, n6, n7, n8, n9] (Nat.le_refl _) ?_ rfl rfl (Nat.le_of_ble_eq_true rfl) rfl (allU_get _ _ (And.intro rfl (And.intro rfl (And.intro rfl (And.intro rfl (And.intro rfl (And.intro rfl (And.intro rfl (And.intro rfl (And.intro rfl (And.intro rfl trivial))))))))))) ?_ ?_).mono ?_; (next => exact (by repeat' (first | (with_reducible exact Mods.refl _ _) | (with_reducible assumption) | (with_reducible refine Mods.alloc ?_ _) | (with_reducible refine Mods.drew ?_) | (with_reducible refine Mods.drewN ?_ _) | (with_reducible refine Mods.regrown ?_ _ _) | (with_reducible refine Mods.setCell ?_ ?_ _) | (refine .inr ?_; first | (simp; done) | (simp; omega) | omega)))); (next => exact heap_new _ _); (next => exact (fun x hx => HN.out x (by simp at hx ⊢; omega))); (next => omega); rintro r w0 ⟨rfl, hq⟩)))
  have F0 := Lib.hid hq
  have hl0 := lenU xs [n0, n1, n2, n3, n4, n5, n6, n7, n8, n9] (Nat.le_of_ble_eq_true rfl)
  try clear hHeld
  clear c0 c1 t0 hq
  obtain ⟨c0, c1, t0⟩ := F0.out.tS
  go_wp2
  go_end0
  obtain ⟨⟨v', hs, _⟩, _, _⟩ := F0.out
  refine ⟨rfl, v', ?_⟩
  rw [← HY.out]
  simpa only [recLay, lay_n, lay_b, lay_d, List.flatMap_cons, List.flatMap_nil, List.append_nil, List.append_assoc] using hs

set_option maxHeartbeats 1000000 in
theorem params_r {w : World} {g B : Nat} {v0 : Value} {s : ESt} (h : TR g B 24 v0 s #[.int .u64 0, .int .u64 0, .int .u64 0, .int .u64 0, .int .u64 0, .int .u64 0, .int .u64 0, .int .u64 0, .int .u64 0, .int .u64 0] w) (hll : s.1.length ≤ 10000000000) :
    Calls Try.prog 27 #[.agg #[.pointer none, .pointer (some ⟨g, 0, none⟩)], .pointer (some ⟨B, 0, none⟩)] w fun r w' => r = .returned (.tuple #[]) ∧ ∃ (n0 n1 n2 n3 n4 n5 n6 n7 n8 n9 : Nat) (s' : ESt), rdAll [0, 0, 0, 0, 0, 0, 0, 0, 0, 0] s = ([⟨0, n0, []⟩, ⟨0, n1, []⟩, ⟨0, n2, []⟩, ⟨0, n3, []⟩, ⟨0, n4, []⟩, ⟨0, n5, []⟩, ⟨0, n6, []⟩, ⟨0, n7, []⟩, ⟨0, n8, []⟩, ⟨0, n9, []⟩], s') ∧ TRs w g B 24 v0 s' #[.int .u64 n0, .int .u64 n1, .int .u64 n2, .int .u64 n3, .int .u64 n4, .int .u64 n5, .int .u64 n6, .int .u64 n7, .int .u64 n8, .int .u64 n9] w' := by
  have F := Lib.hid (RF.start h)
  clear h
  obtain ⟨Q, hQ⟩ : ∃ Q : Ending → World → Prop, Q = (fun (r : Ending) (w' : World) => r = .returned (.tuple #[]) ∧ ∃ (n0 n1 n2 n3 n4 n5 n6 n7 n8 n9 : Nat) (s' : ESt), rdAll [0, 0, 0, 0, 0, 0, 0, 0, 0, 0] s = ([⟨0, n0, []⟩, ⟨0, n1, []⟩, ⟨0, n2, []⟩, ⟨0, n3, []⟩, ⟨0, n4, []⟩, ⟨0, n5, []⟩, ⟨0, n6, []⟩, ⟨0, n7, []⟩, ⟨0, n8, []⟩, ⟨0, n9, []⟩], s') ∧ TRs w g B 24 v0 s' #[.int .u64 n0, .int .u64 n1, .int .u64 n2, .int .u64 n3, .int .u64 n4, .int .u64 n5, .int .u64 n6, .int .u64 n7, .int .u64 n8, .int .u64 n9] w') := ⟨_, rfl⟩
  show Calls _ _ _ _ (fun (r : Ending) (w' : World) => r = .returned (.tuple #[]) ∧ ∃ (n0 n1 n2 n3 n4 n5 n6 n7 n8 n9 : Nat) (s' : ESt), rdAll [0, 0, 0, 0, 0, 0, 0, 0, 0, 0] s = ([⟨0, n0, []⟩, ⟨0, n1, []⟩, ⟨0, n2, []⟩, ⟨0, n3, []⟩, ⟨0, n4, []⟩, ⟨0, n5, []⟩, ⟨0, n6, []⟩, ⟨0, n7, []⟩, ⟨0, n8, []⟩, ⟨0, n9, []⟩], s') ∧ TRs w g B 24 v0 s' #[.int .u64 n0, .int .u64 n1, .int .u64 n2, .int .u64 n3, .int .u64 n4, .int .u64 n5, .int .u64 n6, .int .u64 n7, .int .u64 n8, .int .u64 n9] w')
  rw [← hQ]
  have HQ := Lib.hid hQ
  clear hQ
  go_enter Try.func27, Try.ntmps27
  go_wp2
  generalize World.alloc w _ = wx at *
  obtain ⟨c0, c1, t0⟩ := F.out.tS
  have hs : s.1.length ≤ 10000000000 := hll
  go_region_held3 (fun w' => w'.cell? ⟨w.heap.size, 0, none⟩ = some (.pointer none) ∧ w'.cell? ⟨w.heap.size, 1, none⟩ = some (.pointer (some ⟨g, 0, none⟩)) ∧ w.heap.size < w'.heap.size)
    ((first | exact hq.tS | (refine tS_step (a := wx) ?_ c0 c1 t0; exact (by repeat' (first | (with_reducible exact Mods.refl _ _) | (with_reducible assumption) | (with_reducible refine Mods.alloc ?_ _) | (with_reducible refine Mods.drew ?_) | (with_reducible refine Mods.drewN ?_ _) | (with_reducible refine Mods.regrown ?_ _ _) | (with_reducible refine Mods.setCell ?_ ?_ _) | (refine .inr ?_; first | (simp; done) | (simp; omega) | omega))))))
    ((first
      | (go_at_call 54; refine (F.out.nums ?_ (k := wx.heap.size) (e := 116) [0, 1, 2, 3, 4, 5, 6, 7, 8, 9] (Nat.le_refl _) ?_ rfl rfl (Nat.le_of_ble_eq_true rfl) (allR_get rfl)).mono ?_; (next => exact (by repeat' (first | (with_reducible exact Mods.refl _ _) | (with_reducible assumption) | (with_reducible refine Mods.alloc ?_ _) | (with_reducible refine Mods.drew ?_) | (with_reducible refine Mods.drewN ?_ _) | (with_reducible refine Mods.regrown ?_ _ _) | (with_reducible refine Mods.setCell ?_ ?_ _) | (refine .inr ?_; first | (simp; done) | (simp; omega) | omega)))); (next => exact heap_new _ _); rintro r w0 ⟨rfl, hq⟩)))
  have e0 : setAt #[.int .u64 0, .int .u64 0, .int .u64 0, .int .u64 0, .int .u64 0, .int .u64 0, .int .u64 0, .int .u64 0, .int .u64 0, .int .u64 0] [0, 1, 2, 3, 4, 5, 6, 7, 8, 9] ((nvs [0, 1, 2, 3, 4, 5, 6, 7, 8, 9].length s).map uv) = #[.int .u64 ((evl 8 s) : Nat), .int .u64 ((evl 8 (est 8 s)) : Nat), .int .u64 ((evl 8 (est 8 (est 8 s))) : Nat), .int .u64 ((evl 8 (est 8 (est 8 (est 8 s)))) : Nat), .int .u64 ((evl 8 (est 8 (est 8 (est 8 (est 8 s))))) : Nat), .int .u64 ((evl 8 (est 8 (est 8 (est 8 (est 8 (est 8 s)))))) : Nat), .int .u64 ((evl 8 (est 8 (est 8 (est 8 (est 8 (est 8 (est 8 s))))))) : Nat), .int .u64 ((evl 8 (est 8 (est 8 (est 8 (est 8 (est 8 (est 8 (est 8 s)))))))) : Nat), .int .u64 ((evl 8 (est 8 (est 8 (est 8 (est 8 (est 8 (est 8 (est 8 (est 8 s))))))))) : Nat), .int .u64 ((evl 8 (est 8 (est 8 (est 8 (est 8 (est 8 (est 8 (est 8 (est 8 (est 8 s)))))))))) : Nat)] := by kernel_rfl
  have e1 : nst [0, 1, 2, 3, 4, 5, 6, 7, 8, 9].length s = (est 8 (est 8 (est 8 (est 8 (est 8 (est 8 (est 8 (est 8 (est 8 (est 8 s)))))))))) := by kernel_rfl
  rw [e0, e1] at hq
  clear e0 e1
  have F0 := Lib.hid hq
  have hs : ((est 8 (est 8 (est 8 (est 8 (est 8 (est 8 (est 8 (est 8 (est 8 (est 8 s)))))))))) : ESt).1.length ≤ 10000000000 := Nat.le_trans (nst_len 10 _) hs
  try clear hHeld
  clear c0 c1 t0 hq
  obtain ⟨c0, c1, t0⟩ := F0.out.tS
  go_wp2
  go_end0
  rw [HQ.out]
  exact ⟨rfl, (evl 8 s), (evl 8 (est 8 s)), (evl 8 (est 8 (est 8 s))), (evl 8 (est 8 (est 8 (est 8 s)))), (evl 8 (est 8 (est 8 (est 8 (est 8 s))))), (evl 8 (est 8 (est 8 (est 8 (est 8 (est 8 s)))))), (evl 8 (est 8 (est 8 (est 8 (est 8 (est 8 (est 8 s))))))), (evl 8 (est 8 (est 8 (est 8 (est 8 (est 8 (est 8 (est 8 s)))))))), (evl 8 (est 8 (est 8 (est 8 (est 8 (est 8 (est 8 (est 8 (est 8 s))))))))), (evl 8 (est 8 (est 8 (est 8 (est 8 (est 8 (est 8 (est 8 (est 8 (est 8 s)))))))))), (est 8 (est 8 (est 8 (est 8 (est 8 (est 8 (est 8 (est 8 (est 8 (est 8 s)))))))))), by kernel_rfl, F0.out.st⟩

theorem params_pu (w : World) : Calls Try.prog 26 #[.func (.func 27) #[] #[]] w fun r w' => ∃ k, r = .returned (.func (.func 52) #[] #[.pointer (some ⟨k, 0, none⟩)]) ∧ w'.cell? ⟨k, 0, none⟩ = some (.func (.func 27) #[] #[]) ∧ Mods noB w w' ∧ k < w'.heap.size := by
  have hmf : ∀ (fn : Fn) (first cap : Array Value) (w : World), (Instr.makeFunc fn first cap).run Try.prog w = .ok (.func fn first cap) w := fun _ _ _ _ => rfl
  go_enter Try.func26, Try.ntmps26
  go_wp2
  go_ret
  exact ⟨_, rfl, cells_of (heap_new w _) 0, (Mods.refl _ _).alloc _, by simp⟩

set_option maxHeartbeats 1000000 in
theorem params_p1 {w : World} {k : Nat} {n0 n1 n2 n3 n4 n5 n6 n7 n8 n9 : Nat} (hk : w.cell? ⟨k, 0, none⟩ = some (.func (.func 27) #[] #[])) (hkl : k < w.heap.size) (hn : Lim [n0, n1, n2, n3, n4, n5, n6, n7, n8, n9])  :
    Calls Try.prog 52 #[.agg #[.int .u64 n0, .int .u64 n1, .int .u64 n2, .int .u64 n3, .int .u64 n4, .int .u64 n5, .int .u64 n6, .int .u64 n7, .int .u64 n8, .int .u64 n9], .pointer (some ⟨k, 0, none⟩)] w fun r w' => ∃ v, r = .returned v ∧ Own w' v (recLay [⟨0, n0, []⟩, ⟨0, n1, []⟩, ⟨0, n2, []⟩, ⟨0, n3, []⟩, ⟨0, n4, []⟩, ⟨0, n5, []⟩, ⟨0, n6, []⟩, ⟨0, n7, []⟩, ⟨0, n8, []⟩, ⟨0, n9, []⟩]) ∧ Mods noB w w' ∧ freshIn w v := by
  obtain ⟨zs, hz⟩ : ∃ zs, recLay [⟨0, n0, []⟩, ⟨0, n1, []⟩, ⟨0, n2, []⟩, ⟨0, n3, []⟩, ⟨0, n4, []⟩, ⟨0, n5, []⟩, ⟨0, n6, []⟩, ⟨0, n7, []⟩, ⟨0, n8, []⟩, ⟨0, n9, []⟩] = zs := ⟨_, rfl⟩
  rw [hz]
  have HZ := Lib.hid hz
  clear hz
  have HN := Lib.hid hn
  clear hn
  have m1 := (((Mods.refl noB w).alloc (.cells #[.int .u64 n0, .int .u64 n1, .int .u64 n2, .int .u64 n3, .int .u64 n4, .int .u64 n5, .int .u64 n6, .int .u64 n7, .int .u64 n8, .int .u64 n9] 24)).alloc (.cells #[.slice none 0 0, .int .i64 0] 108)).alloc (.cells #[.pointer (some ⟨w.heap.size + 1, 0, none⟩), .pointer none] 111)
  have c1 := (m1.cellAt hkl (fun x => x) 0).trans hk
  have P := Lib.hid (put_pre w #[.int .u64 n0, .int .u64 n1, .int .u64 n2, .int .u64 n3, .int .u64 n4, .int .u64 n5, .int .u64 n6, .int .u64 n7, .int .u64 n8, .int .u64 n9] 24 _ rfl)
  clear hk m1
  go_enter Try.func52, Try.ntmps52
  go_wp2_with fail
  generalize World.alloc (World.alloc (World.alloc w _) _) _ = wx at *
  obtain ⟨p1, p2, p3, p4, p5, p6, p7⟩ := P.out
  refine (params_w p1 p2 p3 HN.out (by simp)).mono ?_
  rintro r w4 ⟨rfl, v', hs⟩
  rw [List.nil_append, HZ.out] at hs
  have hzl := Lib.hid (show zs.length ≤ 140737488355328 from HZ.out ▸ Nat.le_trans (recLay_len _) (Nat.le_of_ble_eq_true rfl))
  have d1 := cells_of (hs.mods.heap p4 p7) 0
  have M := Lib.hid (p5.trans hs.mods (U := noB) (fun _ _ x => x) (fun i hi x => ws_new x hi))
  have F := Lib.hid hs
  clear hs p1 p2 p3 p4 p5 p6 p7 P c1
  go_wp2_with fail
  refine (WOut_any F.out.wr hzl.out).mono ?_
  rintro r w5 ⟨u, rfl, o1, o2, o3⟩
  obtain ⟨ua, uc, rfl, _⟩ := o1.rd.form
  have O := Lib.hid (And.intro o1 (And.intro o2 o3))
  clear o1 o2 o3 d1
  go_wp2
  go_ret
  obtain ⟨o1, o2, o3⟩ := O.out
  exact ⟨_, rfl, o1, M.out.then0 o2, o3.of M.out.size⟩

set_option maxHeartbeats 1000000 in
theorem params_put {w : World} {n0 n1 n2 n3 n4 n5 n6 n7 n8 n9 : Nat} (hn : Lim [n0, n1, n2, n3, n4, n5, n6, n7, n8, n9])  :
    Calls Try.prog 7 #[.agg #[.int .u64 n0, .int .u64 n1, .int .u64 n2, .int .u64 n3, .int .u64 n4, .int .u64 n5, .int .u64 n6, .int .u64 n7, .int .u64 n8, .int .u64 n9]] w fun r w' => ∃ v, r = .returned v ∧ Own w' v (recLay [⟨0, n0, []⟩, ⟨0, n1, []⟩, ⟨0, n2, []⟩, ⟨0, n3, []⟩, ⟨0, n4, []⟩, ⟨0, n5, []⟩, ⟨0, n6, []⟩, ⟨0, n7, []⟩, ⟨0, n8, []⟩, ⟨0, n9, []⟩]) ∧ Mods noB w w' ∧ freshIn w v := by
  obtain ⟨zs, hz⟩ : ∃ zs, recLay [⟨0, n0, []⟩, ⟨0, n1, []⟩, ⟨0, n2, []⟩, ⟨0, n3, []⟩, ⟨0, n4, []⟩, ⟨0, n5, []⟩, ⟨0, n6, []⟩, ⟨0, n7, []⟩, ⟨0, n8, []⟩, ⟨0, n9, []⟩] = zs := ⟨_, rfl⟩
  rw [hz]
  have HZ := Lib.hid hz
  clear hz
  have HN := Lib.hid hn
  clear hn
  have P := Lib.hid (put_box w #[.int .u64 n0, .int .u64 n1, .int .u64 n2, .int .u64 n3, .int .u64 n4, .int .u64 n5, .int .u64 n6, .int .u64 n7, .int .u64 n8, .int .u64 n9] 24 _ rfl)
  go_enter Try.func7, Try.ntmps7
  go_wp2
  generalize World.alloc w _ = w1 at *
  have HS := Lib.hid (fun b (hm : Mods noB w1 b) => have h := blk_step hm P.out.1; show b.cell? ⟨w.heap.size, 0, none⟩ = some (.int .u64 n0) ∧ b.cell? ⟨w.heap.size, 1, none⟩ = some (.int .u64 n1) ∧ b.cell? ⟨w.heap.size, 2, none⟩ = some (.int .u64 n2) ∧ b.cell? ⟨w.heap.size, 3, none⟩ = some (.int .u64 n3) ∧ b.cell? ⟨w.heap.size, 4, none⟩ = some (.int .u64 n4) ∧ b.cell? ⟨w.heap.size, 5, none⟩ = some (.int .u64 n5) ∧ b.cell? ⟨w.heap.size, 6, none⟩ = some (.int .u64 n6) ∧ b.cell? ⟨w.heap.size, 7, none⟩ = some (.int .u64 n7) ∧ b.cell? ⟨w.heap.size, 8, none⟩ = some (.int .u64 n8) ∧ b.cell? ⟨w.heap.size, 9, none⟩ = some (.int .u64 n9) ∧ Mods noB w1 b from ⟨cells_of h 0, cells_of h 1, cells_of h 2, cells_of h 3, cells_of h 4, cells_of h 5, cells_of h 6, cells_of h 7, cells_of h 8, cells_of h 9, hm⟩)
  go_region_held3 (fun b => b.cell? ⟨w.heap.size, 0, none⟩ = some (.int .u64 n0) ∧ b.cell? ⟨w.heap.size, 1, none⟩ = some (.int .u64 n1) ∧ b.cell? ⟨w.heap.size, 2, none⟩ = some (.int .u64 n2) ∧ b.cell? ⟨w.heap.size, 3, none⟩ = some (.int .u64 n3) ∧ b.cell? ⟨w.heap.size, 4, none⟩ = some (.int .u64 n4) ∧ b.cell? ⟨w.heap.size, 5, none⟩ = some (.int .u64 n5) ∧ b.cell? ⟨w.heap.size, 6, none⟩ = some (.int .u64 n6) ∧ b.cell? ⟨w.heap.size, 7, none⟩ = some (.int .u64 n7) ∧ b.cell? ⟨w.heap.size, 8, none⟩ = some (.int .u64 n8) ∧ b.cell? ⟨w.heap.size, 9, none⟩ = some (.int .u64 n9) ∧ Mods noB w1 b)
    ((refine HS.out _ ?_; exact (by repeat' (first | (with_reducible exact Mods.refl _ _) | (with_reducible assumption) | (with_reducible refine Mods.alloc ?_ _) | (with_reducible refine Mods.drew ?_) | (with_reducible refine Mods.drewN ?_ _) | (with_reducible refine Mods.regrown ?_ _ _) | (with_reducible refine Mods.setCell ?_ ?_ _) | (refine .inr ?_; first | (simp; done) | (simp; omega) | omega)))))
    ((first
      | (go_at_call 26; refine (params_pu _).mono ?_; rintro r w2 ⟨k, rfl, k1, k2, k3⟩; (try replace k2 := Mods.undrew k2))
      | (go_at_call 52; refine (params_p1 (k := k) ?_ ?_ HN.out).mono ?_; (next => (refine fn_step ?_ k1 k3; exact (by repeat' (first | (with_reducible exact Mods.refl _ _) | (with_reducible assumption) | (with_reducible refine Mods.alloc ?_ _) | (with_reducible refine Mods.drew ?_) | (with_reducible refine Mods.drewN ?_ _) | (with_reducible refine Mods.regrown ?_ _ _) | (with_reducible refine Mods.setCell ?_ ?_ _) | (refine .inr ?_; first | (simp; done) | (simp; omega) | omega))))); (next => (refine Mods.size_of (S := noB) (a := w2) ?_ k3; exact (by repeat' (first | (with_reducible exact Mods.refl _ _) | (with_reducible assumption) | (with_reducible refine Mods.alloc ?_ _) | (with_reducible refine Mods.drew ?_) | (with_reducible refine Mods.drewN ?_ _) | (with_reducible refine Mods.regrown ?_ _ _) | (with_reducible refine Mods.setCell ?_ ?_ _) | (refine .inr ?_; first | (simp; done) | (simp; omega) | omega))))); rintro r w3 ⟨v, rfl, o1, o2, o3⟩; replace o1 := HZ.out ▸ o1; (try replace o2 := Mods.undrew o2); replace o2 := Mods.then0 k2 o2)))
  go_wp2
  go_ret
  exact ⟨_, rfl, o1, P.out.2.1.then0 o2, o3.of (Nat.le_trans P.out.2.1.size k2.size)⟩


theorem params_size : (Try.prog.info? 24).map (·.size) = some 10 := by kernel_rfl



end Go.Proofs.Ytnkbbclcileleaa

/- rec.Delegation: the fields function, putters, getters (printed by gen_rec.py). -/
import Derived.Test.YtnkbbclcileleaaRecH
namespace Go.Proofs.Ytnkbbclcileleaa
open Go.Gl Go.RowKit
set_option linter.unusedVariables false
set_option maxRecDepth 100000

set_option maxHeartbeats 1000000 in
theorem delegation_w {w : World} {g B : Nat} {v0 : Value} {xs : List UInt8} {n1 : Nat} {u0 u2 : Value} {l0 l2 : List Nat} (h : Wr w g v0 xs 0) (hb : w.heap[B]? = some (.cells #[u0, .int .u64 n1, u2] 36 (0, 0))) (ne : ¬ WS g v0 B) (hn : Lim [n1]) (d0 : DV w g v0 u0 l0) (d2 : DV w g v0 u2 l2) (hl : xs.length ≤ 1000000) :
    Calls Try.prog 38 #[.agg #[.pointer (some ⟨g, 0, none⟩), .pointer none], .pointer (some ⟨B, 0, none⟩)] w fun r w' => r = .returned (.tuple #[]) ∧ ∃ v', WStep w g v0 (xs ++ recLay [⟨2, 0, l0⟩, ⟨0, n1, []⟩, ⟨2, 0, l2⟩]) 0 w' v' := by
  have b := Lib.hid (show WB0 w g B v0 #[u0, .int .u64 n1, u2] 36 from ⟨⟨xs, h⟩, hb, ne⟩)
  have F := Lib.hid (WF.start h)
  have HN := Lib.hid hn
  have D0 := Lib.hid d0
  have D2 := Lib.hid d2
  clear h hb ne hn d0 d2
  obtain ⟨ys, hys⟩ : ∃ ys, recLay [⟨2, 0, l0⟩, ⟨0, n1, []⟩, ⟨2, 0, l2⟩] = ys := ⟨_, rfl⟩
  rw [hys]
  have HY := Lib.hid hys
  clear hys
  go_enter Try.func38, Try.ntmps38
  go_wp2
  generalize World.alloc w _ = wx at *
  obtain ⟨c0, c1, t0⟩ := F.out.tS
  go_region_held3 (fun w' => w'.cell? ⟨w.heap.size, 0, none⟩ = some (.pointer (some ⟨g, 0, none⟩)) ∧ w'.cell? ⟨w.heap.size, 1, none⟩ = some (.pointer none) ∧ w.heap.size < w'.heap.size)
    ((first | exact hq.tS | (refine tS_step (a := wx) ?_ c0 c1 t0; exact (by repeat' (first | (with_reducible exact Mods.refl _ _) | (with_reducible assumption) | (with_reducible refine Mods.alloc ?_ _) | (with_reducible refine Mods.drew ?_) | (with_reducible refine Mods.drewN ?_ _) | (with_reducible refine Mods.regrown ?_ _ _) | (with_reducible refine Mods.setCell ?_ ?_ _) | (refine .inr ?_; first | (simp; done) | (simp; omega) | omega))))))
    ((first
      | (go_at_call 58; refine (F.out.decs b.out ?_ (k := wx.heap.size) (e := 119) [0] [u0] [l0] (Nat.le_refl _) ?_ rfl rfl (Nat.le_of_ble_eq_true rfl) rfl rfl (allD_get _ _ _ (And.intro (And.intro rfl D0.out) trivial)) ?_).mono ?_; (next => exact (by repeat' (first | (with_reducible exact Mods.refl _ _) | (with_reducible assumption) | (with_reducible refine Mods.alloc ?_ _) | (with_reducible refine Mods.drew ?_) | (with_reducible refine Mods.drewN ?_ _) | (with_reducible refine Mods.regrown ?_ _ _) | (with_reducible refine Mods.setCell ?_ ?_ _) | (refine .inr ?_; first | (simp; done) | (simp; omega) | omega)))); (next => exact heap_new _ _); (next => omega); rintro r w0 ⟨rfl, hq⟩)))
  have F0 := Lib.hid hq
  have hl0 := lenD xs [l0] (Nat.le_of_ble_eq_true rfl)
  try clear hHeld
  clear c0 c1 t0 hq
  obtain ⟨c0, c1, t0⟩ := F0.out.tS
  go_wp2
  go_region_held3 (fun w' => w'.cell? ⟨w.heap.size, 0, none⟩ = some (.pointer (some ⟨g, 0, none⟩)) ∧ w'.cell? ⟨w.heap.size, 1, none⟩ = some (.pointer none) ∧ w.heap.size < w'.heap.size)
    ((first | exact hq.tS | (refine tS_step (a := w0) ?_ c0 c1 t0; exact (by repeat' (first | (with_reducible exact Mods.refl _ _) | (with_reducible assumption) | (with_reducible refine Mods.alloc ?_ _) | (with_reducible refine Mods.drew ?_) | (with_reducible refine Mods.drewN ?_ _) | (with_reducible refine Mods.regrown ?_ _ _) | (with_reducible refine Mods.setCell ?_ ?_ _) | (refine .inr ?_; first | (simp; done) | (simp; omega) | omega))))))
    ((first
      | (go_at_call 54; refine (F0.out.nums b.out ?_ (k := w0.heap.size) (e := 116) [1] [n1] (Nat.le_refl _) ?_ rfl rfl (Nat.le_of_ble_eq_true rfl) rfl (allU_get _ _ (And.intro rfl trivial)) ?_ ?_).mono ?_; (next => exact (by repeat' (first | (with_reducible exact Mods.refl _ _) | (with_reducible assumption) | (with_reducible refine Mods.alloc ?_ _) | (with_reducible refine Mods.drew ?_) | (with_reducible refine Mods.drewN ?_ _) | (with_reducible refine Mods.regrown ?_ _ _) | (with_reducible refine Mods.setCell ?_ ?_ _) | (refine .inr ?_; first | (simp; done) | (simp; omega) | omega)))); (next => exact heap_new _ _); (next => exact (fun x hx => HN.out x (by simp at hx ⊢; omega))); (next => omega); rintro r w1 ⟨rfl, hq⟩)))
  have F1 := Lib.hid hq
  have hl1 := lenU (xs ++ ([l0] : List (List Nat)).flatMap dlay) [n1] (Nat.le_of_ble_eq_true rfl)
  try clear hHeld
  clear c0 c1 t0 hq
  obtain ⟨c0, c1, t0⟩ := F1.out.tS
  go_wp2
  go_region_held3 (fun w' => w'.cell? ⟨w.heap.size, 0, none⟩ = some (.pointer (some ⟨g, 0, none⟩)) ∧ w'.cell? ⟨w.heap.size, 1, none⟩ = some (.pointer none) ∧ w.heap.size < w'.heap.size)
    ((first | exact hq.tS | (refine tS_step (a := w1) ?_ c0 c1 t0; exact (by repeat' (first | (with_reducible exact Mods.refl _ _) | (with_reducible assumption) | (with_reducible refine Mods.alloc ?_ _) | (with_reducible refine Mods.drew ?_) | (with_reducible refine Mods.drewN ?_ _) | (with_reducible refine Mods.regrown ?_ _ _) | (with_reducible refine Mods.setCell ?_ ?_ _) | (refine .inr ?_; first | (simp; done) | (simp; omega) | omega))))))
    ((first
      | (go_at_call 58; refine (F1.out.decs b.out ?_ (k := w1.heap.size) (e := 119) [2] [u2] [l2] (Nat.le_refl _) ?_ rfl rfl (Nat.le_of_ble_eq_true rfl) rfl rfl (allD_get _ _ _ (And.intro (And.intro rfl D2.out) trivial)) ?_).mono ?_; (next => exact (by repeat' (first | (with_reducible exact Mods.refl _ _) | (with_reducible assumption) | (with_reducible refine Mods.alloc ?_ _) | (with_reducible refine Mods.drew ?_) | (with_reducible refine Mods.drewN ?_ _) | (with_reducible refine Mods.regrown ?_ _ _) | (with_reducible refine Mods.setCell ?_ ?_ _) | (refine .inr ?_; first | (simp; done) | (simp; omega) | omega)))); (next => exact heap_new _ _); (next => omega); rintro r w2 ⟨rfl, hq⟩)))
  have F2 := Lib.hid hq
  have hl2 := lenD ((xs ++ ([l0] : List (List Nat)).flatMap dlay) ++ ([n1] : List Nat).flatMap (be 8)) [l2] (Nat.le_of_ble_eq_true rfl)
  try clear hHeld
  clear c0 c1 t0 hq
  obtain ⟨c0, c1, t0⟩ := F2.out.tS
  go_wp2
  go_end0
  obtain ⟨⟨v', hs, _⟩, _, _⟩ := F2.out
  refine ⟨rfl, v', ?_⟩
  rw [← HY.out]
  simpa only [recLay, lay_n, lay_b, lay_d, List.flatMap_cons, List.flatMap_nil, List.append_nil, List.append_assoc] using hs

set_option maxHeartbeats 1000000 in
theorem delegation_r {w : World} {g B : Nat} {v0 : Value} {s : ESt} (h : TR g B 36 v0 s #[.slice none 0 0, .int .u64 0, .slice none 0 0] w) (hll : s.1.length ≤ 10000000000) :
    Calls Try.prog 38 #[.agg #[.pointer none, .pointer (some ⟨g, 0, none⟩)], .pointer (some ⟨B, 0, none⟩)] w fun r w' => r = .returned (.tuple #[]) ∧ ∃ (n1 : Nat) (u0 u2 : Value) (l0 l2 : List Nat) (s' : ESt), rdAll [2, 0, 2] s = ([⟨2, 0, l0⟩, ⟨0, n1, []⟩, ⟨2, 0, l2⟩], s') ∧ TRs w g B 36 v0 s' #[u0, .int .u64 n1, u2] w' ∧ (RN w' u0 l0 ∧ freshIn w u0) ∧ (RN w' u2 l2 ∧ freshIn w u2) := by
  have F := Lib.hid (RF.start h)
  clear h
  obtain ⟨Q, hQ⟩ : ∃ Q : Ending → World → Prop, Q = (fun (r : Ending) (w' : World) => r = .returned (.tuple #[]) ∧ ∃ (n1 : Nat) (u0 u2 : Value) (l0 l2 : List Nat) (s' : ESt), rdAll [2, 0, 2] s = ([⟨2, 0, l0⟩, ⟨0, n1, []⟩, ⟨2, 0, l2⟩], s') ∧ TRs w g B 36 v0 s' #[u0, .int .u64 n1, u2] w' ∧ (RN w' u0 l0 ∧ freshIn w u0) ∧ (RN w' u2 l2 ∧ freshIn w u2)) := ⟨_, rfl⟩
  show Calls _ _ _ _ (fun (r : Ending) (w' : World) => r = .returned (.tuple #[]) ∧ ∃ (n1 : Nat) (u0 u2 : Value) (l0 l2 : List Nat) (s' : ESt), rdAll [2, 0, 2] s = ([⟨2, 0, l0⟩, ⟨0, n1, []⟩, ⟨2, 0, l2⟩], s') ∧ TRs w g B 36 v0 s' #[u0, .int .u64 n1, u2] w' ∧ (RN w' u0 l0 ∧ freshIn w u0) ∧ (RN w' u2 l2 ∧ freshIn w u2))
  rw [← hQ]
  have HQ := Lib.hid hQ
  clear hQ
  go_enter Try.func38, Try.ntmps38
  go_wp2
  generalize World.alloc w _ = wx at *
  obtain ⟨c0, c1, t0⟩ := F.out.tS
  have hs : s.1.length ≤ 10000000000 := hll
  go_region_held3 (fun w' => w'.cell? ⟨w.heap.size, 0, none⟩ = some (.pointer none) ∧ w'.cell? ⟨w.heap.size, 1, none⟩ = some (.pointer (some ⟨g, 0, none⟩)) ∧ w.heap.size < w'.heap.size)
    ((first | exact hq.tS | (refine tS_step (a := wx) ?_ c0 c1 t0; exact (by repeat' (first | (with_reducible exact Mods.refl _ _) | (with_reducible assumption) | (with_reducible refine Mods.alloc ?_ _) | (with_reducible refine Mods.drew ?_) | (with_reducible refine Mods.drewN ?_ _) | (with_reducible refine Mods.regrown ?_ _ _) | (with_reducible refine Mods.setCell ?_ ?_ _) | (refine .inr ?_; first | (simp; done) | (simp; omega) | omega))))))
    ((first
      | (go_at_call 58; refine (F.out.decs ?_ (k := wx.heap.size) (e := 119) [0] (Nat.le_refl _) ?_ rfl rfl (Nat.le_of_ble_eq_true rfl) (allR_get rfl) ?_).mono ?_; (next => exact (by repeat' (first | (with_reducible exact Mods.refl _ _) | (with_reducible assumption) | (with_reducible refine Mods.alloc ?_ _) | (with_reducible refine Mods.drew ?_) | (with_reducible refine Mods.drewN ?_ _) | (with_reducible refine Mods.regrown ?_ _ _) | (with_reducible refine Mods.setCell ?_ ?_ _) | (refine .inr ?_; first | (simp; done) | (simp; omega) | omega)))); (next => exact heap_new _ _); (next => exact hs); rintro r w0 ⟨rfl, us, hu, hq⟩)))
  obtain ⟨u0, rfl⟩ : ∃ u0, us = [u0] := by rcases us with _ | ⟨u0, _ | ⟨uz, _⟩⟩ <;> simp at hu ⊢
  clear hu
  have F0 := Lib.hid (show RF w g B w.heap.size 36 v0 (natT s) #[u0, .int .u64 0, .slice none 0 0] [(u0, (natV s))] w0 from hq)
  have hs : ((natT s) : ESt).1.length ≤ 10000000000 := Nat.le_trans (dst_len 1 _) hs
  try clear hHeld
  clear c0 c1 t0 hq
  obtain ⟨c0, c1, t0⟩ := F0.out.tS
  go_wp2
  go_region_held3 (fun w' => w'.cell? ⟨w.heap.size, 0, none⟩ = some (.pointer none) ∧ w'.cell? ⟨w.heap.size, 1, none⟩ = some (.pointer (some ⟨g, 0, none⟩)) ∧ w.heap.size < w'.heap.size)
    ((first | exact hq.tS | (refine tS_step (a := w0) ?_ c0 c1 t0; exact (by repeat' (first | (with_reducible exact Mods.refl _ _) | (with_reducible assumption) | (with_reducible refine Mods.alloc ?_ _) | (with_reducible refine Mods.drew ?_) | (with_reducible refine Mods.drewN ?_ _) | (with_reducible refine Mods.regrown ?_ _ _) | (with_reducible refine Mods.setCell ?_ ?_ _) | (refine .inr ?_; first | (simp; done) | (simp; omega) | omega))))))
    ((first
      | (go_at_call 54; refine (F0.out.nums ?_ (k := w0.heap.size) (e := 116) [1] (Nat.le_refl _) ?_ rfl rfl (Nat.le_of_ble_eq_true rfl) (allR_get rfl)).mono ?_; (next => exact (by repeat' (first | (with_reducible exact Mods.refl _ _) | (with_reducible assumption) | (with_reducible refine Mods.alloc ?_ _) | (with_reducible refine Mods.drew ?_) | (with_reducible refine Mods.drewN ?_ _) | (with_reducible refine Mods.regrown ?_ _ _) | (with_reducible refine Mods.setCell ?_ ?_ _) | (refine .inr ?_; first | (simp; done) | (simp; omega) | omega)))); (next => exact heap_new _ _); rintro r w1 ⟨rfl, hq⟩)))
  have F1 := Lib.hid (show RF w g B w.heap.size 36 v0 (est 8 (natT s)) #[u0, .int .u64 ((evl 8 (natT s)) : Nat), .slice none 0 0] [(u0, (natV s))] w1 from hq)
  have hs : ((est 8 (natT s)) : ESt).1.length ≤ 10000000000 := Nat.le_trans (nst_len 1 _) hs
  try clear hHeld
  clear c0 c1 t0 hq
  obtain ⟨c0, c1, t0⟩ := F1.out.tS
  go_wp2
  go_region_held3 (fun w' => w'.cell? ⟨w.heap.size, 0, none⟩ = some (.pointer none) ∧ w'.cell? ⟨w.heap.size, 1, none⟩ = some (.pointer (some ⟨g, 0, none⟩)) ∧ w.heap.size < w'.heap.size)
    ((first | exact hq.tS | (refine tS_step (a := w1) ?_ c0 c1 t0; exact (by repeat' (first | (with_reducible exact Mods.refl _ _) | (with_reducible assumption) | (with_reducible refine Mods.alloc ?_ _) | (with_reducible refine Mods.drew ?_) | (with_reducible refine Mods.drewN ?_ _) | (with_reducible refine Mods.regrown ?_ _ _) | (with_reducible refine Mods.setCell ?_ ?_ _) | (refine .inr ?_; first | (simp; done) | (simp; omega) | omega))))))
    ((first
      | (go_at_call 58; refine (F1.out.decs ?_ (k := w1.heap.size) (e := 119) [2] (Nat.le_refl _) ?_ rfl rfl (Nat.le_of_ble_eq_true rfl) (allR_get rfl) ?_).mono ?_; (next => exact (by repeat' (first | (with_reducible exact Mods.refl _ _) | (with_reducible assumption) | (with_reducible refine Mods.alloc ?_ _) | (with_reducible refine Mods.drew ?_) | (with_reducible refine Mods.drewN ?_ _) | (with_reducible refine Mods.regrown ?_ _ _) | (with_reducible refine Mods.setCell ?_ ?_ _) | (refine .inr ?_; first | (simp; done) | (simp; omega) | omega)))); (next => exact heap_new _ _); (next => exact hs); rintro r w2 ⟨rfl, us, hu, hq⟩)))
  obtain ⟨u2, rfl⟩ : ∃ u2, us = [u2] := by rcases us with _ | ⟨u2, _ | ⟨uz, _⟩⟩ <;> simp at hu ⊢
  clear hu
  have F2 := Lib.hid (show RF w g B w.heap.size 36 v0 (natT (est 8 (natT s))) #[u0, .int .u64 ((evl 8 (natT s)) : Nat), u2] [(u0, (natV s)), (u2, (natV (est 8 (natT s))))] w2 from hq)
  have hs : ((natT (est 8 (natT s))) : ESt).1.length ≤ 10000000000 := Nat.le_trans (dst_len 1 _) hs
  try clear hHeld
  clear c0 c1 t0 hq
  obtain ⟨c0, c1, t0⟩ := F2.out.tS
  go_wp2
  go_end0
  rw [HQ.out]
  exact ⟨rfl, (evl 8 (natT s)), u0, u2, (natV s), (natV (est 8 (natT s))), (natT (est 8 (natT s))), by kernel_rfl, F2.out.st, F2.out.ds (u0, (natV s)) (by simp), F2.out.ds (u2, (natV (est 8 (natT s)))) (by simp)⟩

theorem delegation_pu (w : World) : Calls Try.prog 37 #[.func (.func 38) #[] #[]] w fun r w' => ∃ k, r = .returned (.func (.func 61) #[] #[.pointer (some ⟨k, 0, none⟩)]) ∧ w'.cell? ⟨k, 0, none⟩ = some (.func (.func 38) #[] #[]) ∧ Mods noB w w' ∧ k < w'.heap.size := by
  have hmf : ∀ (fn : Fn) (first cap : Array Value) (w : World), (Instr.makeFunc fn first cap).run Try.prog w = .ok (.func fn first cap) w := fun _ _ _ _ => rfl
  go_enter Try.func37, Try.ntmps37
  go_wp2
  go_ret
  exact ⟨_, rfl, cells_of (heap_new w _) 0, (Mods.refl _ _).alloc _, by simp⟩

set_option maxHeartbeats 1000000 in
theorem delegation_p1 {w : World} {k : Nat} {n1 : Nat} {u0 u2 : Value} {l0 l2 : List Nat} (hk : w.cell? ⟨k, 0, none⟩ = some (.func (.func 38) #[] #[])) (hkl : k < w.heap.size) (hn : Lim [n1]) (d0 : DN w u0 l0) (d2 : DN w u2 l2) :
    Calls Try.prog 61 #[.agg #[u0, .int .u64 n1, u2], .pointer (some ⟨k, 0, none⟩)] w fun r w' => ∃ v, r = .returned v ∧ Own w' v (recLay [⟨2, 0, l0⟩, ⟨0, n1, []⟩, ⟨2, 0, l2⟩]) ∧ Mods noB w w' ∧ freshIn w v := by
  obtain ⟨zs, hz⟩ : ∃ zs, recLay [⟨2, 0, l0⟩, ⟨0, n1, []⟩, ⟨2, 0, l2⟩] = zs := ⟨_, rfl⟩
  rw [hz]
  have HZ := Lib.hid hz
  clear hz
  have HN := Lib.hid hn
  clear hn
  obtain ⟨ad0, cp0, rfl, _⟩ := d0.rn.form
  obtain ⟨ad2, cp2, rfl, _⟩ := d2.rn.form
  have D0 := Lib.hid d0
  clear d0
  have D2 := Lib.hid d2
  clear d2
  have m1 := (((Mods.refl noB w).alloc (.cells #[.slice ad0 l0.length cp0, .int .u64 n1, .slice ad2 l2.length cp2] 36)).alloc (.cells #[.slice none 0 0, .int .i64 0] 108)).alloc (.cells #[.pointer (some ⟨w.heap.size + 1, 0, none⟩), .pointer none] 111)
  have c1 := (m1.cellAt hkl (fun x => x) 0).trans hk
  have P := Lib.hid (put_pre w #[.slice ad0 l0.length cp0, .int .u64 n1, .slice ad2 l2.length cp2] 36 _ rfl)
  clear hk m1
  go_enter Try.func61, Try.ntmps61
  go_wp2_with fail
  generalize World.alloc (World.alloc (World.alloc w _) _) _ = wx at *
  obtain ⟨p1, p2, p3, p4, p5, p6, p7⟩ := P.out
  refine (delegation_w p1 p2 p3 HN.out (D0.out.dv p5 (Nat.le_succ _)) (D2.out.dv p5 (Nat.le_succ _)) (by simp)).mono ?_
  rintro r w4 ⟨rfl, v', hs⟩
  rw [List.nil_append, HZ.out] at hs
  have hzl := Lib.hid (show zs.length ≤ 140737488355328 from HZ.out ▸ Nat.le_trans (recLay_len _) (Nat.le_of_ble_eq_true rfl))
  have d1 := cells_of (hs.mods.heap p4 p7) 0
  have M := Lib.hid (p5.trans hs.mods (U := noB) (fun _ _ x => x) (fun i hi x => ws_new x hi))
  have F := Lib.hid hs
  clear hs p1 p2 p3 p4 p5 p6 p7 P c1
  go_wp2_with fail
  refine (WOut_any F.out.wr hzl.out).mono ?_
  rintro r w5 ⟨u, rfl, o1, o2, o3⟩
  obtain ⟨ua, uc, rfl, _⟩ := o1.rd.form
  have O := Lib.hid (And.intro o1 (And.intro o2 o3))
  clear o1 o2 o3 d1
  go_wp2
  go_ret
  obtain ⟨o1, o2, o3⟩ := O.out
  exact ⟨_, rfl, o1, M.out.then0 o2, o3.of M.out.size⟩

set_option maxHeartbeats 1000000 in
theorem delegation_put {w : World} {n1 : Nat} {u0 u2 : Value} {l0 l2 : List Nat} (hn : Lim [n1]) (d0 : DN w u0 l0) (d2 : DN w u2 l2) :
    Calls Try.prog 13 #[.agg #[u0, .int .u64 n1, u2]] w fun r w' => ∃ v, r = .returned v ∧ Own w' v (recLay [⟨2, 0, l0⟩, ⟨0, n1, []⟩, ⟨2, 0, l2⟩]) ∧ Mods noB w w' ∧ freshIn w v := by
  obtain ⟨zs, hz⟩ : ∃ zs, recLay [⟨2, 0, l0⟩, ⟨0, n1, []⟩, ⟨2, 0, l2⟩] = zs := ⟨_, rfl⟩
  rw [hz]
  have HZ := Lib.hid hz
  clear hz
  have HN := Lib.hid hn
  clear hn
  obtain ⟨ad0, cp0, rfl, _⟩ := d0.rn.form
  obtain ⟨ad2, cp2, rfl, _⟩ := d2.rn.form
  have D0 := Lib.hid d0
  clear d0
  have D2 := Lib.hid d2
  clear d2
  have P := Lib.hid (put_box w #[.slice ad0 l0.length cp0, .int .u64 n1, .slice ad2 l2.length cp2] 36 _ rfl)
  go_enter Try.func13, Try.ntmps13
  go_wp2
  generalize World.alloc w _ = w1 at *
  have HS := Lib.hid (fun b (hm : Mods noB w1 b) => have h := blk_step hm P.out.1; show b.cell? ⟨w.heap.size, 0, none⟩ = some (.slice ad0 l0.length cp0) ∧ b.cell? ⟨w.heap.size, 1, none⟩ = some (.int .u64 n1) ∧ b.cell? ⟨w.heap.size, 2, none⟩ = some (.slice ad2 l2.length cp2) ∧ Mods noB w1 b from ⟨cells_of h 0, cells_of h 1, cells_of h 2, hm⟩)
  go_region_held3 (fun b => b.cell? ⟨w.heap.size, 0, none⟩ = some (.slice ad0 l0.length cp0) ∧ b.cell? ⟨w.heap.size, 1, none⟩ = some (.int .u64 n1) ∧ b.cell? ⟨w.heap.size, 2, none⟩ = some (.slice ad2 l2.length cp2) ∧ Mods noB w1 b)
    ((refine HS.out _ ?_; exact (by repeat' (first | (with_reducible exact Mods.refl _ _) | (with_reducible assumption) | (with_reducible refine Mods.alloc ?_ _) | (with_reducible refine Mods.drew ?_) | (with_reducible refine Mods.drewN ?_ _) | (with_reducible refine Mods.regrown ?_ _ _) | (with_reducible refine Mods.setCell ?_ ?_ _) | (refine .inr ?_; first | (simp; done) | (simp; omega) | omega)))))
    ((first
      | (go_at_call 37; refine (delegation_pu _).mono ?_; rintro r w2 ⟨k, rfl, k1, k2, k3⟩; (try replace k2 := Mods.undrew k2))
      | (go_at_call 61; refine (delegation_p1 (k := k) (l0 := l0) (l2 := l2) ?_ ?_ HN.out ?_ ?_).mono ?_; (next => (refine fn_step ?_ k1 k3; exact (by repeat' (first | (with_reducible exact Mods.refl _ _) | (with_reducible assumption) | (with_reducible refine Mods.alloc ?_ _) | (with_reducible refine Mods.drew ?_) | (with_reducible refine Mods.drewN ?_ _) | (with_reducible refine Mods.regrown ?_ _ _) | (with_reducible refine Mods.setCell ?_ ?_ _) | (refine .inr ?_; first | (simp; done) | (simp; omega) | omega))))); (next => (refine Mods.size_of (S := noB) (a := w2) ?_ k3; exact (by repeat' (first | (with_reducible exact Mods.refl _ _) | (with_reducible assumption) | (with_reducible refine Mods.alloc ?_ _) | (with_reducible refine Mods.drew ?_) | (with_reducible refine Mods.drewN ?_ _) | (with_reducible refine Mods.regrown ?_ _ _) | (with_reducible refine Mods.setCell ?_ ?_ _) | (refine .inr ?_; first | (simp; done) | (simp; omega) | omega))))); (next => (refine DN.keep (w := w) D0.out ?_; refine Mods.then0 P.out.2.1 ?_; exact (by repeat' (first | (with_reducible exact Mods.refl _ _) | (with_reducible assumption) | (with_reducible refine Mods.alloc ?_ _) | (with_reducible refine Mods.drew ?_) | (with_reducible refine Mods.drewN ?_ _) | (with_reducible refine Mods.regrown ?_ _ _) | (with_reducible refine Mods.setCell ?_ ?_ _) | (refine .inr ?_; first | (simp; done) | (simp; omega) | omega))))); (next => (refine DN.keep (w := w) D2.out ?_; refine Mods.then0 P.out.2.1 ?_; exact (by repeat' (first | (with_reducible exact Mods.refl _ _) | (with_reducible assumption) | (with_reducible refine Mods.alloc ?_ _) | (with_reducible refine Mods.drew ?_) | (with_reducible refine Mods.drewN ?_ _) | (with_reducible refine Mods.regrown ?_ _ _) | (with_reducible refine Mods.setCell ?_ ?_ _) | (refine .inr ?_; first | (simp; done) | (simp; omega) | omega))))); rintro r w3 ⟨v, rfl, o1, o2, o3⟩; replace o1 := HZ.out ▸ o1; (try replace o2 := Mods.undrew o2); replace o2 := Mods.then0 k2 o2)))
  go_wp2
  go_ret
  exact ⟨_, rfl, o1, P.out.2.1.then0 o2, o3.of (Nat.le_trans P.out.2.1.size k2.size)⟩


theorem delegation_size : (Try.prog.info? 36).map (·.size) = some 3 := by kernel_rfl



end Go.Proofs.Ytnkbbclcileleaa

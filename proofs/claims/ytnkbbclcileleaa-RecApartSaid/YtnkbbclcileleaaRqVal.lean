/- rec.Val: the fields function, putters, getters (printed by gen_rec.py). -/
import Derived.Test.YtnkbbclcileleaaRecH
namespace Go.Proofs.Ytnkbbclcileleaa
open Go.Gl Go.RowKit
set_option linter.unusedVariables false
set_option maxRecDepth 100000

set_option maxHeartbeats 1000000 in
theorem val_w {w : World} {g B : Nat} {v0 : Value} {xs : List UInt8} {n0 n1 n4 n6 : Nat} {b3 b5 : Bool} {u2 u7 u8 u9 : Value} {l2 l7 l8 l9 : List Nat} (h : Wr w g v0 xs 0) (hb : w.heap[B]? = some (.cells #[.int .u64 n0, .int .u64 n1, u2, .bool b3, .int .u64 n4, .bool b5, .int .u64 n6, u7, u8, u9] 34 (0, 0))) (ne : ¬ WS g v0 B) (hn : Lim [n0, n1, n4, n6]) (d2 : DV w g v0 u2 l2) (d7 : DV w g v0 u7 l7) (d8 : DV w g v0 u8 l8) (d9 : DV w g v0 u9 l9) (hl : xs.length ≤ 1000000) :
    Calls Try.prog 42 #[.agg #[.pointer (some ⟨g, 0, none⟩), .pointer none], .pointer (some ⟨B, 0, none⟩)] w fun r w' => r = .returned (.tuple #[]) ∧ ∃ v', WStep w g v0 (xs ++ recLay [⟨0, n0, []⟩, ⟨0, n1, []⟩, ⟨2, 0, l2⟩, ⟨1, if b3 then 1 else 0, []⟩, ⟨0, n4, []⟩, ⟨1, if b5 then 1 else 0, []⟩, ⟨0, n6, []⟩, ⟨2, 0, l7⟩, ⟨2, 0, l8⟩, ⟨2, 0, l9⟩]) 0 w' v' := by
  have b := Lib.hid (show WB0 w g B v0 #[.int .u64 n0, .int .u64 n1, u2, .bool b3, .int .u64 n4, .bool b5, .int .u64 n6, u7, u8, u9] 34 from ⟨⟨xs, h⟩, hb, ne⟩)
  have F := Lib.hid (WF.start h)
  have HN := Lib.hid hn
  have D2 := Lib.hid d2
  have D7 := Lib.hid d7
  have D8 := Lib.hid d8
  have D9 := Lib.hid d9
  clear h hb ne hn d2 d7 d8 d9
  obtain ⟨ys, hys⟩ : ∃ ys, recLay [⟨0, n0, []⟩, ⟨0, n1, []⟩, ⟨2, 0, l2⟩, ⟨1, if b3 then 1 else 0, []⟩, ⟨0, n4, []⟩, ⟨1, if b5 then 1 else 0, []⟩, ⟨0, n6, []⟩, ⟨2, 0, l7⟩, ⟨2, 0, l8⟩, ⟨2, 0, l9⟩] = ys := ⟨_, rfl⟩
  rw [hys]
  have HY := Lib.hid hys
  clear hys
  go_enter Try.func42, Try.ntmps42
  go_wp2
  generalize World.alloc w _ = wx at *
  obtain ⟨c0, c1, t0⟩ := F.out.tS
  go_region_held3 (fun w' => w'.cell? ⟨w.heap.size, 0, none⟩ = some (.pointer (some ⟨g, 0, none⟩)) ∧ w'.cell? ⟨w.heap.size, 1, none⟩ = some (.pointer none) ∧ w.heap.size < w'.heap.size)
    ((first | exact hq.tS | (refine tS_step (a := wx) ?_ c0 c1 t0; exact (by repeat' (first | (with_reducible exact Mods.refl _ _) | (with_reducible assumption) | (with_reducible refine Mods.alloc ?_ _) | (with_reducible refine Mods.drew ?_) | (with_reducible refine Mods.drewN ?_ _) | (with_reducible refine Mods.regrown ?_ _ _) | (with_reducible refine Mods.setCell ?_ ?_ _) | (refine .inr ?_; first | (simp; done) | (simp; omega) | omega))))))
    ((first
      | (go_at_call 54; refine (F.out.nums b.out ?_ (k := wx.heap.size) (e := 116) [0, 1] [n0, n1] (Nat.le_refl _) ?_ rfl rfl (Nat.le_of_ble_eq_true rfl) rfl (allU_get _ _ (And.intro rfl (And.intro rfl trivial))) ?_ ?_).mono ?_; (next => exact (by repeat' (first | (with_reducible exact Mods.refl _ _) | (with_reducible assumption) | (with_reducible refine Mods.alloc ?_ _) | (with_reducible refine Mods.drew ?_) | (with_reducible refine Mods.drewN ?_ _) | (with_reducible refine Mods.regrown ?_ _ _) | (with_reducible refine Mods.setCell ?_ ?_ _) | (refine .inr ?_; first | (simp; done) | (simp; omega) | omega)))); (next => exact heap_new _ _); (next => exact (fun x hx => HN.out x (by simp at hx ⊢; omega))); (next => omega); rintro r w0 ⟨rfl, hq⟩)))
  have F0 := Lib.hid hq
  have hl0 := lenU xs [n0, n1] (Nat.le_of_ble_eq_true rfl)
  try clear hHeld
  clear c0 c1 t0 hq
  obtain ⟨c0, c1, t0⟩ := F0.out.tS
  go_wp2
  go_region_held3 (fun w' => w'.cell? ⟨w.heap.size, 0, none⟩ = some (.pointer (some ⟨g, 0, none⟩)) ∧ w'.cell? ⟨w.heap.size, 1, none⟩ = some (.pointer none) ∧ w.heap.size < w'.heap.size)
    ((first | exact hq.tS | (refine tS_step (a := w0) ?_ c0 c1 t0; exact (by repeat' (first | (with_reducible exact Mods.refl _ _) | (with_reducible assumption) | (with_reducible refine Mods.alloc ?_ _) | (with_reducible refine Mods.drew ?_) | (with_reducible refine Mods.drewN ?_ _) | (with_reducible refine Mods.regrown ?_ _ _) | (with_reducible refine Mods.setCell ?_ ?_ _) | (refine .inr ?_; first | (simp; done) | (simp; omega) | omega))))))
    ((first
      | (go_at_call 58; refine (F0.out.decs b.out ?_ (k := w0.heap.size) (e := 119) [2] [u2] [l2] (Nat.le_refl _) ?_ rfl rfl (Nat.le_of_ble_eq_true rfl) rfl rfl (allD_get _ _ _ (And.intro (And.intro rfl D2.out) trivial)) ?_).mono ?_; (next => exact (by repeat' (first | (with_reducible exact Mods.refl _ _) | (with_reducible assumption) | (with_reducible refine Mods.alloc ?_ _) | (with_reducible refine Mods.drew ?_) | (with_reducible refine Mods.drewN ?_ _) | (with_reducible refine Mods.regrown ?_ _ _) | (with_reducible refine Mods.setCell ?_ ?_ _) | (refine .inr ?_; first | (simp; done) | (simp; omega) | omega)))); (next => exact heap_new _ _); (next => omega); rintro r w1 ⟨rfl, hq⟩)))
  have F1 := Lib.hid hq
  have hl1 := lenD (xs ++ ([n0, n1] : List Nat).flatMap (be 8)) [l2] (Nat.le_of_ble_eq_true rfl)
  try clear hHeld
  clear c0 c1 t0 hq
  obtain ⟨c0, c1, t0⟩ := F1.out.tS
  go_wp2
  go_region_held3 (fun w' => w'.cell? ⟨w.heap.size, 0, none⟩ = some (.pointer (some ⟨g, 0, none⟩)) ∧ w'.cell? ⟨w.heap.size, 1, none⟩ = some (.pointer none) ∧ w.heap.size < w'.heap.size)
    ((first | exact hq.tS | (refine tS_step (a := w1) ?_ c0 c1 t0; exact (by repeat' (first | (with_reducible exact Mods.refl _ _) | (with_reducible assumption) | (with_reducible refine Mods.alloc ?_ _) | (with_reducible refine Mods.drew ?_) | (with_reducible refine Mods.drewN ?_ _) | (with_reducible refine Mods.regrown ?_ _ _) | (with_reducible refine Mods.setCell ?_ ?_ _) | (refine .inr ?_; first | (simp; done) | (simp; omega) | omega))))))
    ((first
      | (go_at_call 64; refine (F1.out.flag b.out ?_ (o := 3) (x := b3) rfl ?_).mono ?_; (next => exact (by repeat' (first | (with_reducible exact Mods.refl _ _) | (with_reducible assumption) | (with_reducible refine Mods.alloc ?_ _) | (with_reducible refine Mods.drew ?_) | (with_reducible refine Mods.drewN ?_ _) | (with_reducible refine Mods.regrown ?_ _ _) | (with_reducible refine Mods.setCell ?_ ?_ _) | (refine .inr ?_; first | (simp; done) | (simp; omega) | omega)))); (next => omega); rintro r w2 ⟨rfl, hq⟩)))
  have F2 := Lib.hid hq
  have hl2 := lenB ((xs ++ ([n0, n1] : List Nat).flatMap (be 8)) ++ ([l2] : List (List Nat)).flatMap dlay) (if b3 then 1 else 0)
  try clear hHeld
  clear c0 c1 t0 hq
  obtain ⟨c0, c1, t0⟩ := F2.out.tS
  go_wp2
  go_region_held3 (fun w' => w'.cell? ⟨w.heap.size, 0, none⟩ = some (.pointer (some ⟨g, 0, none⟩)) ∧ w'.cell? ⟨w.heap.size, 1, none⟩ = some (.pointer none) ∧ w.heap.size < w'.heap.size)
    ((first | exact hq.tS | (refine tS_step (a := w2) ?_ c0 c1 t0; exact (by repeat' (first | (with_reducible exact Mods.refl _ _) | (with_reducible assumption) | (with_reducible refine Mods.alloc ?_ _) | (with_reducible refine Mods.drew ?_) | (with_reducible refine Mods.drewN ?_ _) | (with_reducible refine Mods.regrown ?_ _ _) | (with_reducible refine Mods.setCell ?_ ?_ _) | (refine .inr ?_; first | (simp; done) | (simp; omega) | omega))))))
    ((first
      | (go_at_call 54; refine (F2.out.nums b.out ?_ (k := w2.heap.size) (e := 116) [4] [n4] (Nat.le_refl _) ?_ rfl rfl (Nat.le_of_ble_eq_true rfl) rfl (allU_get _ _ (And.intro rfl trivial)) ?_ ?_).mono ?_; (next => exact (by repeat' (first | (with_reducible exact Mods.refl _ _) | (with_reducible assumption) | (with_reducible refine Mods.alloc ?_ _) | (with_reducible refine Mods.drew ?_) | (with_reducible refine Mods.drewN ?_ _) | (with_reducible refine Mods.regrown ?_ _ _) | (with_reducible refine Mods.setCell ?_ ?_ _) | (refine .inr ?_; first | (simp; done) | (simp; omega) | omega)))); (next => exact heap_new _ _); (next => exact (fun x hx => HN.out x (by simp at hx ⊢; omega))); (next => omega); rintro r w3 ⟨rfl, hq⟩)))
  have F3 := Lib.hid hq
  have hl3 := lenU (((xs ++ ([n0, n1] : List Nat).flatMap (be 8)) ++ ([l2] : List (List Nat)).flatMap dlay) ++ be 1 (if b3 then 1 else 0)) [n4] (Nat.le_of_ble_eq_true rfl)
  try clear hHeld
  clear c0 c1 t0 hq
  obtain ⟨c0, c1, t0⟩ := F3.out.tS
  go_wp2
  go_region_held3 (fun w' => w'.cell? ⟨w.heap.size, 0, none⟩ = some (.pointer (some ⟨g, 0, none⟩)) ∧ w'.cell? ⟨w.heap.size, 1, none⟩ = some (.pointer none) ∧ w.heap.size < w'.heap.size)
    ((first | exact hq.tS | (refine tS_step (a := w3) ?_ c0 c1 t0; exact (by repeat' (first | (with_reducible exact Mods.refl _ _) | (with_reducible assumption) | (with_reducible refine Mods.alloc ?_ _) | (with_reducible refine Mods.drew ?_) | (with_reducible refine Mods.drewN ?_ _) | (with_reducible refine Mods.regrown ?_ _ _) | (with_reducible refine Mods.setCell ?_ ?_ _) | (refine .inr ?_; first | (simp; done) | (simp; omega) | omega))))))
    ((first
      | (go_at_call 64; refine (F3.out.flag b.out ?_ (o := 5) (x := b5) rfl ?_).mono ?_; (next => exact (by repeat' (first | (with_reducible exact Mods.refl _ _) | (with_reducible assumption) | (with_reducible refine Mods.alloc ?_ _) | (with_reducible refine Mods.drew ?_) | (with_reducible refine Mods.drewN ?_ _) | (with_reducible refine Mods.regrown ?_ _ _) | (with_reducible refine Mods.setCell ?_ ?_ _) | (refine .inr ?_; first | (simp; done) | (simp; omega) | omega)))); (next => omega); rintro r w4 ⟨rfl, hq⟩)))
  have F4 := Lib.hid hq
  have hl4 := lenB ((((xs ++ ([n0, n1] : List Nat).flatMap (be 8)) ++ ([l2] : List (List Nat)).flatMap dlay) ++ be 1 (if b3 then 1 else 0)) ++ ([n4] : List Nat).flatMap (be 8)) (if b5 then 1 else 0)
  try clear hHeld
  clear c0 c1 t0 hq
  obtain ⟨c0, c1, t0⟩ := F4.out.tS
  go_wp2
  go_region_held3 (fun w' => w'.cell? ⟨w.heap.size, 0, none⟩ = some (.pointer (some ⟨g, 0, none⟩)) ∧ w'.cell? ⟨w.heap.size, 1, none⟩ = some (.pointer none) ∧ w.heap.size < w'.heap.size)
    ((first | exact hq.tS | (refine tS_step (a := w4) ?_ c0 c1 t0; exact (by repeat' (first | (with_reducible exact Mods.refl _ _) | (with_reducible assumption) | (with_reducible refine Mods.alloc ?_ _) | (with_reducible refine Mods.drew ?_) | (with_reducible refine Mods.drewN ?_ _) | (with_reducible refine Mods.regrown ?_ _ _) | (with_reducible refine Mods.setCell ?_ ?_ _) | (refine .inr ?_; first | (simp; done) | (simp; omega) | omega))))))
    ((first
      | (go_at_call 54; refine (F4.out.nums b.out ?_ (k := w4.heap.size) (e := 116) [6] [n6] (Nat.le_refl _) ?_ rfl rfl (Nat.le_of_ble_eq_true rfl) rfl (allU_get _ _ (And.intro rfl trivial)) ?_ ?_).mono ?_; (next => exact (by repeat' (first | (with_reducible exact Mods.refl _ _) | (with_reducible assumption) | (with_reducible refine Mods.alloc ?_ _) | (with_reducible refine Mods.drew ?_) | (with_reducible refine Mods.drewN ?_ _) | (with_reducible refine Mods.regrown ?_ _ _) | (with_reducible refine Mods.setCell ?_ ?_ _) | (refine .inr ?_; first | (simp; done) | (simp; omega) | omega)))); (next => exact heap_new _ _); (next => exact (fun x hx => HN.out x (by simp at hx ⊢; omega))); (next => omega); rintro r w5 ⟨rfl, hq⟩)))
  have F5 := Lib.hid hq
  have hl5 := lenU (((((xs ++ ([n0, n1] : List Nat).flatMap (be 8)) ++ ([l2] : List (List Nat)).flatMap dlay) ++ be 1 (if b3 then 1 else 0)) ++ ([n4] : List Nat).flatMap (be 8)) ++ be 1 (if b5 then 1 else 0)) [n6] (Nat.le_of_ble_eq_true rfl)
  try clear hHeld
  clear c0 c1 t0 hq
  obtain ⟨c0, c1, t0⟩ := F5.out.tS
  go_wp2
  go_region_held3 (fun w' => w'.cell? ⟨w.heap.size, 0, none⟩ = some (.pointer (some ⟨g, 0, none⟩)) ∧ w'.cell? ⟨w.heap.size, 1, none⟩ = some (.pointer none) ∧ w.heap.size < w'.heap.size)
    ((first | exact hq.tS | (refine tS_step (a := w5) ?_ c0 c1 t0; exact (by repeat' (first | (with_reducible exact Mods.refl _ _) | (with_reducible assumption) | (with_reducible refine Mods.alloc ?_ _) | (with_reducible refine Mods.drew ?_) | (with_reducible refine Mods.drewN ?_ _) | (with_reducible refine Mods.regrown ?_ _ _) | (with_reducible refine Mods.setCell ?_ ?_ _) | (refine .inr ?_; first | (simp; done) | (simp; omega) | omega))))))
    ((first
      | (go_at_call 58; refine (F5.out.decs b.out ?_ (k := w5.heap.size) (e := 119) [7, 8, 9] [u7, u8, u9] [l7, l8, l9] (Nat.le_refl _) ?_ rfl rfl (Nat.le_of_ble_eq_true rfl) rfl rfl (allD_get _ _ _ (And.intro (And.intro rfl D7.out) (And.intro (And.intro rfl D8.out) (And.intro (And.intro rfl D9.out) trivial)))) ?_).mono ?_; (next => exact (by repeat' (first | (with_reducible exact Mods.refl _ _) | (with_reducible assumption) | (with_reducible refine Mods.alloc ?_ _) | (with_reducible refine Mods.drew ?_) | (with_reducible refine Mods.drewN ?_ _) | (with_reducible refine Mods.regrown ?_ _ _) | (with_reducible refine Mods.setCell ?_ ?_ _) | (refine .inr ?_; first | (simp; done) | (simp; omega) | omega)))); (next => exact heap_new _ _); (next => omega); rintro r w6 ⟨rfl, hq⟩)))
  have F6 := Lib.hid hq
  have hl6 := lenD ((((((xs ++ ([n0, n1] : List Nat).flatMap (be 8)) ++ ([l2] : List (List Nat)).flatMap dlay) ++ be 1 (if b3 then 1 else 0)) ++ ([n4] : List Nat).flatMap (be 8)) ++ be 1 (if b5 then 1 else 0)) ++ ([n6] : List Nat).flatMap (be 8)) [l7, l8, l9] (Nat.le_of_ble_eq_true rfl)
  try clear hHeld
  clear c0 c1 t0 hq
  obtain ⟨c0, c1, t0⟩ := F6.out.tS
  go_wp2
  go_end0
  obtain ⟨⟨v', hs, _⟩, _, _⟩ := F6.out
  refine ⟨rfl, v', ?_⟩
  rw [← HY.out]
  simpa only [recLay, lay_n, lay_b, lay_d, List.flatMap_cons, List.flatMap_nil, List.append_nil, List.append_assoc] using hs

set_option maxHeartbeats 1000000 in
theorem val_r {w : World} {g B : Nat} {v0 : Value} {s : ESt} (h : TR g B 34 v0 s #[.int .u64 0, .int .u64 0, .slice none 0 0, .bool false, .int .u64 0, .bool false, .int .u64 0, .slice none 0 0, .slice none 0 0, .slice none 0 0] w) (hll : s.1.length ≤ 10000000000) :
    Calls Try.prog 42 #[.agg #[.pointer none, .pointer (some ⟨g, 0, none⟩)], .pointer (some ⟨B, 0, none⟩)] w fun r w' => r = .returned (.tuple #[]) ∧ ∃ (n0 n1 n4 n6 : Nat) (b3 b5 : Bool) (u2 u7 u8 u9 : Value) (l2 l7 l8 l9 : List Nat) (s' : ESt), rdAll [0, 0, 2, 1, 0, 1, 0, 2, 2, 2] s = ([⟨0, n0, []⟩, ⟨0, n1, []⟩, ⟨2, 0, l2⟩, ⟨1, if b3 then 1 else 0, []⟩, ⟨0, n4, []⟩, ⟨1, if b5 then 1 else 0, []⟩, ⟨0, n6, []⟩, ⟨2, 0, l7⟩, ⟨2, 0, l8⟩, ⟨2, 0, l9⟩], s') ∧ TRs w g B 34 v0 s' #[.int .u64 n0, .int .u64 n1, u2, .bool b3, .int .u64 n4, .bool b5, .int .u64 n6, u7, u8, u9] w' ∧ (RN w' u2 l2 ∧ freshIn w u2) ∧ (RN w' u7 l7 ∧ freshIn w u7) ∧ (RN w' u8 l8 ∧ freshIn w u8) ∧ (RN w' u9 l9 ∧ freshIn w u9) := by
  have F := Lib.hid (RF.start h)
  clear h
  obtain ⟨Q, hQ⟩ : ∃ Q : Ending → World → Prop, Q = (fun (r : Ending) (w' : World) => r = .returned (.tuple #[]) ∧ ∃ (n0 n1 n4 n6 : Nat) (b3 b5 : Bool) (u2 u7 u8 u9 : Value) (l2 l7 l8 l9 : List Nat) (s' : ESt), rdAll [0, 0, 2, 1, 0, 1, 0, 2, 2, 2] s = ([⟨0, n0, []⟩, ⟨0, n1, []⟩, ⟨2, 0, l2⟩, ⟨1, if b3 then 1 else 0, []⟩, ⟨0, n4, []⟩, ⟨1, if b5 then 1 else 0, []⟩, ⟨0, n6, []⟩, ⟨2, 0, l7⟩, ⟨2, 0, l8⟩, ⟨2, 0, l9⟩], s') ∧ TRs w g B 34 v0 s' #[.int .u64 n0, .int .u64 n1, u2, .bool b3, .int .u64 n4, .bool b5, .int .u64 n6, u7, u8, u9] w' ∧ (RN w' u2 l2 ∧ freshIn w u2) ∧ (RN w' u7 l7 ∧ freshIn w u7) ∧ (RN w' u8 l8 ∧ freshIn w u8) ∧ (RN w' u9 l9 ∧ freshIn w u9)) := ⟨_, rfl⟩
  show Calls _ _ _ _ (fun (r : Ending) (w' : World) => r = .returned (.tuple #[]) ∧ ∃ (n0 n1 n4 n6 : Nat) (b3 b5 : Bool) (u2 u7 u8 u9 : Value) (l2 l7 l8 l9 : List Nat) (s' : ESt), rdAll [0, 0, 2, 1, 0, 1, 0, 2, 2, 2] s = ([⟨0, n0, []⟩, ⟨0, n1, []⟩, ⟨2, 0, l2⟩, ⟨1, if b3 then 1 else 0, []⟩, ⟨0, n4, []⟩, ⟨1, if b5 then 1 else 0, []⟩, ⟨0, n6, []⟩, ⟨2, 0, l7⟩, ⟨2, 0, l8⟩, ⟨2, 0, l9⟩], s') ∧ TRs w g B 34 v0 s' #[.int .u64 n0, .int .u64 n1, u2, .bool b3, .int .u64 n4, .bool b5, .int .u64 n6, u7, u8, u9] w' ∧ (RN w' u2 l2 ∧ freshIn w u2) ∧ (RN w' u7 l7 ∧ freshIn w u7) ∧ (RN w' u8 l8 ∧ freshIn w u8) ∧ (RN w' u9 l9 ∧ freshIn w u9))
  rw [← hQ]
  have HQ := Lib.hid hQ
  clear hQ
  go_enter Try.func42, Try.ntmps42
  go_wp2
  generalize World.alloc w _ = wx at *
  obtain ⟨c0, c1, t0⟩ := F.out.tS
  have hs : s.1.length ≤ 10000000000 := hll
  go_region_held3 (fun w' => w'.cell? ⟨w.heap.size, 0, none⟩ = some (.pointer none) ∧ w'.cell? ⟨w.heap.size, 1, none⟩ = some (.pointer (some ⟨g, 0, none⟩)) ∧ w.heap.size < w'.heap.size)
    ((first | exact hq.tS | (refine tS_step (a := wx) ?_ c0 c1 t0; exact (by repeat' (first | (with_reducible exact Mods.refl _ _) | (with_reducible assumption) | (with_reducible refine Mods.alloc ?_ _) | (with_reducible refine Mods.drew ?_) | (with_reducible refine Mods.drewN ?_ _) | (with_reducible refine Mods.regrown ?_ _ _) | (with_reducible refine Mods.setCell ?_ ?_ _) | (refine .inr ?_; first | (simp; done) | (simp; omega) | omega))))))
    ((first
      | (go_at_call 54; refine (F.out.nums ?_ (k := wx.heap.size) (e := 116) [0, 1] (Nat.le_refl _) ?_ rfl rfl (Nat.le_of_ble_eq_true rfl) (allR_get rfl)).mono ?_; (next => exact (by repeat' (first | (with_reducible exact Mods.refl _ _) | (with_reducible assumption) | (with_reducible refine Mods.alloc ?_ _) | (with_reducible refine Mods.drew ?_) | (with_reducible refine Mods.drewN ?_ _) | (with_reducible refine Mods.regrown ?_ _ _) | (with_reducible refine Mods.setCell ?_ ?_ _) | (refine .inr ?_; first | (simp; done) | (simp; omega) | omega)))); (next => exact heap_new _ _); rintro r w0 ⟨rfl, hq⟩)))
  have F0 := Lib.hid (show RF w g B w.heap.size 34 v0 (est 8 (est 8 s)) #[.int .u64 ((evl 8 s) : Nat), .int .u64 ((evl 8 (est 8 s)) : Nat), .slice none 0 0, .bool false, .int .u64 0, .bool false, .int .u64 0, .slice none 0 0, .slice none 0 0, .slice none 0 0] [] w0 from hq)
  have hs : ((est 8 (est 8 s)) : ESt).1.length ≤ 10000000000 := Nat.le_trans (nst_len 2 _) hs
  try clear hHeld
  clear c0 c1 t0 hq
  obtain ⟨c0, c1, t0⟩ := F0.out.tS
  go_wp2
  go_region_held3 (fun w' => w'.cell? ⟨w.heap.size, 0, none⟩ = some (.pointer none) ∧ w'.cell? ⟨w.heap.size, 1, none⟩ = some (.pointer (some ⟨g, 0, none⟩)) ∧ w.heap.size < w'.heap.size)
    ((first | exact hq.tS | (refine tS_step (a := w0) ?_ c0 c1 t0; exact (by repeat' (first | (with_reducible exact Mods.refl _ _) | (with_reducible assumption) | (with_reducible refine Mods.alloc ?_ _) | (with_reducible refine Mods.drew ?_) | (with_reducible refine Mods.drewN ?_ _) | (with_reducible refine Mods.regrown ?_ _ _) | (with_reducible refine Mods.setCell ?_ ?_ _) | (refine .inr ?_; first | (simp; done) | (simp; omega) | omega))))))
    ((first
      | (go_at_call 58; refine (F0.out.decs ?_ (k := w0.heap.size) (e := 119) [2] (Nat.le_refl _) ?_ rfl rfl (Nat.le_of_ble_eq_true rfl) (allR_get rfl) ?_).mono ?_; (next => exact (by repeat' (first | (with_reducible exact Mods.refl _ _) | (with_reducible assumption) | (with_reducible refine Mods.alloc ?_ _) | (with_reducible refine Mods.drew ?_) | (with_reducible refine Mods.drewN ?_ _) | (with_reducible refine Mods.regrown ?_ _ _) | (with_reducible refine Mods.setCell ?_ ?_ _) | (refine .inr ?_; first | (simp; done) | (simp; omega) | omega)))); (next => exact heap_new _ _); (next => exact hs); rintro r w1 ⟨rfl, us, hu, hq⟩)))
  obtain ⟨u2, rfl⟩ : ∃ u2, us = [u2] := by rcases us with _ | ⟨u2, _ | ⟨uz, _⟩⟩ <;> simp at hu ⊢
  clear hu
  have F1 := Lib.hid (show RF w g B w.heap.size 34 v0 (natT (est 8 (est 8 s))) #[.int .u64 ((evl 8 s) : Nat), .int .u64 ((evl 8 (est 8 s)) : Nat), u2, .bool false, .int .u64 0, .bool false, .int .u64 0, .slice none 0 0, .slice none 0 0, .slice none 0 0] [(u2, (natV (est 8 (est 8 s))))] w1 from hq)
  have hs : ((natT (est 8 (est 8 s))) : ESt).1.length ≤ 10000000000 := Nat.le_trans (dst_len 1 _) hs
  try clear hHeld
  clear c0 c1 t0 hq
  obtain ⟨c0, c1, t0⟩ := F1.out.tS
  go_wp2
  go_region_held3 (fun w' => w'.cell? ⟨w.heap.size, 0, none⟩ = some (.pointer none) ∧ w'.cell? ⟨w.heap.size, 1, none⟩ = some (.pointer (some ⟨g, 0, none⟩)) ∧ w.heap.size < w'.heap.size)
    ((first | exact hq.tS | (refine tS_step (a := w1) ?_ c0 c1 t0; exact (by repeat' (first | (with_reducible exact Mods.refl _ _) | (with_reducible assumption) | (with_reducible refine Mods.alloc ?_ _) | (with_reducible refine Mods.drew ?_) | (with_reducible refine Mods.drewN ?_ _) | (with_reducible refine Mods.regrown ?_ _ _) | (with_reducible refine Mods.setCell ?_ ?_ _) | (refine .inr ?_; first | (simp; done) | (simp; omega) | omega))))))
    ((first
      | (go_at_call 64; refine (F1.out.flag ?_ (o := 3) (Nat.le_of_ble_eq_true rfl)).mono ?_; (next => exact (by repeat' (first | (with_reducible exact Mods.refl _ _) | (with_reducible assumption) | (with_reducible refine Mods.alloc ?_ _) | (with_reducible refine Mods.drew ?_) | (with_reducible refine Mods.drewN ?_ _) | (with_reducible refine Mods.regrown ?_ _ _) | (with_reducible refine Mods.setCell ?_ ?_ _) | (refine .inr ?_; first | (simp; done) | (simp; omega) | omega)))); rintro r w2 ⟨rfl, hq⟩)))
  have F2 := Lib.hid (show RF w g B w.heap.size 34 v0 (boolS (natT (est 8 (est 8 s)))) #[.int .u64 ((evl 8 s) : Nat), .int .u64 ((evl 8 (est 8 s)) : Nat), u2, .bool (decide (evl 1 (natT (est 8 (est 8 s))) = 1)), .int .u64 0, .bool false, .int .u64 0, .slice none 0 0, .slice none 0 0, .slice none 0 0] [(u2, (natV (est 8 (est 8 s))))] w2 from hq)
  have hs : ((boolS (natT (est 8 (est 8 s)))) : ESt).1.length ≤ 10000000000 := Nat.le_trans (boolS_len _) hs
  try clear hHeld
  clear c0 c1 t0 hq
  obtain ⟨c0, c1, t0⟩ := F2.out.tS
  go_wp2
  go_region_held3 (fun w' => w'.cell? ⟨w.heap.size, 0, none⟩ = some (.pointer none) ∧ w'.cell? ⟨w.heap.size, 1, none⟩ = some (.pointer (some ⟨g, 0, none⟩)) ∧ w.heap.size < w'.heap.size)
    ((first | exact hq.tS | (refine tS_step (a := w2) ?_ c0 c1 t0; exact (by repeat' (first | (with_reducible exact Mods.refl _ _) | (with_reducible assumption) | (with_reducible refine Mods.alloc ?_ _) | (with_reducible refine Mods.drew ?_) | (with_reducible refine Mods.drewN ?_ _) | (with_reducible refine Mods.regrown ?_ _ _) | (with_reducible refine Mods.setCell ?_ ?_ _) | (refine .inr ?_; first | (simp; done) | (simp; omega) | omega))))))
    ((first
      | (go_at_call 54; refine (F2.out.nums ?_ (k := w2.heap.size) (e := 116) [4] (Nat.le_refl _) ?_ rfl rfl (Nat.le_of_ble_eq_true rfl) (allR_get rfl)).mono ?_; (next => exact (by repeat' (first | (with_reducible exact Mods.refl _ _) | (with_reducible assumption) | (with_reducible refine Mods.alloc ?_ _) | (with_reducible refine Mods.drew ?_) | (with_reducible refine Mods.drewN ?_ _) | (with_reducible refine Mods.regrown ?_ _ _) | (with_reducible refine Mods.setCell ?_ ?_ _) | (refine .inr ?_; first | (simp; done) | (simp; omega) | omega)))); (next => exact heap_new _ _); rintro r w3 ⟨rfl, hq⟩)))
  have F3 := Lib.hid (show RF w g B w.heap.size 34 v0 (est 8 (boolS (natT (est 8 (est 8 s))))) #[.int .u64 ((evl 8 s) : Nat), .int .u64 ((evl 8 (est 8 s)) : Nat), u2, .bool (decide (evl 1 (natT (est 8 (est 8 s))) = 1)), .int .u64 ((evl 8 (boolS (natT (est 8 (est 8 s))))) : Nat), .bool false, .int .u64 0, .slice none 0 0, .slice none 0 0, .slice none 0 0] [(u2, (natV (est 8 (est 8 s))))] w3 from hq)
  have hs : ((est 8 (boolS (natT (est 8 (est 8 s))))) : ESt).1.length ≤ 10000000000 := Nat.le_trans (nst_len 1 _) hs
  try clear hHeld
  clear c0 c1 t0 hq
  obtain ⟨c0, c1, t0⟩ := F3.out.tS
  go_wp2
  go_region_held3 (fun w' => w'.cell? ⟨w.heap.size, 0, none⟩ = some (.pointer none) ∧ w'.cell? ⟨w.heap.size, 1, none⟩ = some (.pointer (some ⟨g, 0, none⟩)) ∧ w.heap.size < w'.heap.size)
    ((first | exact hq.tS | (refine tS_step (a := w3) ?_ c0 c1 t0; exact (by repeat' (first | (with_reducible exact Mods.refl _ _) | (with_reducible assumption) | (with_reducible refine Mods.alloc ?_ _) | (with_reducible refine Mods.drew ?_) | (with_reducible refine Mods.drewN ?_ _) | (with_reducible refine Mods.regrown ?_ _ _) | (with_reducible refine Mods.setCell ?_ ?_ _) | (refine .inr ?_; first | (simp; done) | (simp; omega) | omega))))))
    ((first
      | (go_at_call 64; refine (F3.out.flag ?_ (o := 5) (Nat.le_of_ble_eq_true rfl)).mono ?_; (next => exact (by repeat' (first | (with_reducible exact Mods.refl _ _) | (with_reducible assumption) | (with_reducible refine Mods.alloc ?_ _) | (with_reducible refine Mods.drew ?_) | (with_reducible refine Mods.drewN ?_ _) | (with_reducible refine Mods.regrown ?_ _ _) | (with_reducible refine Mods.setCell ?_ ?_ _) | (refine .inr ?_; first | (simp; done) | (simp; omega) | omega)))); rintro r w4 ⟨rfl, hq⟩)))
  have F4 := Lib.hid (show RF w g B w.heap.size 34 v0 (boolS (est 8 (boolS (natT (est 8 (est 8 s)))))) #[.int .u64 ((evl 8 s) : Nat), .int .u64 ((evl 8 (est 8 s)) : Nat), u2, .bool (decide (evl 1 (natT (est 8 (est 8 s))) = 1)), .int .u64 ((evl 8 (boolS (natT (est 8 (est 8 s))))) : Nat), .bool (decide (evl 1 (est 8 (boolS (natT (est 8 (est 8 s))))) = 1)), .int .u64 0, .slice none 0 0, .slice none 0 0, .slice none 0 0] [(u2, (natV (est 8 (est 8 s))))] w4 from hq)
  have hs : ((boolS (est 8 (boolS (natT (est 8 (est 8 s)))))) : ESt).1.length ≤ 10000000000 := Nat.le_trans (boolS_len _) hs
  try clear hHeld
  clear c0 c1 t0 hq
  obtain ⟨c0, c1, t0⟩ := F4.out.tS
  go_wp2
  go_region_held3 (fun w' => w'.cell? ⟨w.heap.size, 0, none⟩ = some (.pointer none) ∧ w'.cell? ⟨w.heap.size, 1, none⟩ = some (.pointer (some ⟨g, 0, none⟩)) ∧ w.heap.size < w'.heap.size)
    ((first | exact hq.tS | (refine tS_step (a := w4) ?_ c0 c1 t0; exact (by repeat' (first | (with_reducible exact Mods.refl _ _) | (with_reducible assumption) | (with_reducible refine Mods.alloc ?_ _) | (with_reducible refine Mods.drew ?_) | (with_reducible refine Mods.drewN ?_ _) | (with_reducible refine Mods.regrown ?_ _ _) | (with_reducible refine Mods.setCell ?_ ?_ _) | (refine .inr ?_; first | (simp; done) | (simp; omega) | omega))))))
    ((first
      | (go_at_call 54; refine (F4.out.nums ?_ (k := w4.heap.size) (e := 116) [6] (Nat.le_refl _) ?_ rfl rfl (Nat.le_of_ble_eq_true rfl) (allR_get rfl)).mono ?_; (next => exact (by repeat' (first | (with_reducible exact Mods.refl _ _) | (with_reducible assumption) | (with_reducible refine Mods.alloc ?_ _) | (with_reducible refine Mods.drew ?_) | (with_reducible refine Mods.drewN ?_ _) | (with_reducible refine Mods.regrown ?_ _ _) | (with_reducible refine Mods.setCell ?_ ?_ _) | (refine .inr ?_; first | (simp; done) | (simp; omega) | omega)))); (next => exact heap_new _ _); rintro r w5 ⟨rfl, hq⟩)))
  have F5 := Lib.hid (show RF w g B w.heap.size 34 v0 (est 8 (boolS (est 8 (boolS (natT (est 8 (est 8 s))))))) #[.int .u64 ((evl 8 s) : Nat), .int .u64 ((evl 8 (est 8 s)) : Nat), u2, .bool (decide (evl 1 (natT (est 8 (est 8 s))) = 1)), .int .u64 ((evl 8 (boolS (natT (est 8 (est 8 s))))) : Nat), .bool (decide (evl 1 (est 8 (boolS (natT (est 8 (est 8 s))))) = 1)), .int .u64 ((evl 8 (boolS (est 8 (boolS (natT (est 8 (est 8 s))))))) : Nat), .slice none 0 0, .slice none 0 0, .slice none 0 0] [(u2, (natV (est 8 (est 8 s))))] w5 from hq)
  have hs : ((est 8 (boolS (est 8 (boolS (natT (est 8 (est 8 s))))))) : ESt).1.length ≤ 10000000000 := Nat.le_trans (nst_len 1 _) hs
  try clear hHeld
  clear c0 c1 t0 hq
  obtain ⟨c0, c1, t0⟩ := F5.out.tS
  go_wp2
  go_region_held3 (fun w' => w'.cell? ⟨w.heap.size, 0, none⟩ = some (.pointer none) ∧ w'.cell? ⟨w.heap.size, 1, none⟩ = some (.pointer (some ⟨g, 0, none⟩)) ∧ w.heap.size < w'.heap.size)
    ((first | exact hq.tS | (refine tS_step (a := w5) ?_ c0 c1 t0; exact (by repeat' (first | (with_reducible exact Mods.refl _ _) | (with_reducible assumption) | (with_reducible refine Mods.alloc ?_ _) | (with_reducible refine Mods.drew ?_) | (with_reducible refine Mods.drewN ?_ _) | (with_reducible refine Mods.regrown ?_ _ _) | (with_reducible refine Mods.setCell ?_ ?_ _) | (refine .inr ?_; first | (simp; done) | (simp; omega) | omega))))))
    ((first
      | (go_at_call 58; refine (F5.out.decs ?_ (k := w5.heap.size) (e := 119) [7, 8, 9] (Nat.le_refl _) ?_ rfl rfl (Nat.le_of_ble_eq_true rfl) (allR_get rfl) ?_).mono ?_; (next => exact (by repeat' (first | (with_reducible exact Mods.refl _ _) | (with_reducible assumption) | (with_reducible refine Mods.alloc ?_ _) | (with_reducible refine Mods.drew ?_) | (with_reducible refine Mods.drewN ?_ _) | (with_reducible refine Mods.regrown ?_ _ _) | (with_reducible refine Mods.setCell ?_ ?_ _) | (refine .inr ?_; first | (simp; done) | (simp; omega) | omega)))); (next => exact heap_new _ _); (next => exact hs); rintro r w6 ⟨rfl, us, hu, hq⟩)))
  obtain ⟨u7, u8, u9, rfl⟩ : ∃ u7 u8 u9, us = [u7, u8, u9] := by rcases us with _ | ⟨u7, _ | ⟨u8, _ | ⟨u9, _ | ⟨uz, _⟩⟩⟩⟩ <;> simp at hu ⊢
  clear hu
  have F6 := Lib.hid (show RF w g B w.heap.size 34 v0 (natT (natT (natT (est 8 (boolS (est 8 (boolS (natT (est 8 (est 8 s)))))))))) #[.int .u64 ((evl 8 s) : Nat), .int .u64 ((evl 8 (est 8 s)) : Nat), u2, .bool (decide (evl 1 (natT (est 8 (est 8 s))) = 1)), .int .u64 ((evl 8 (boolS (natT (est 8 (est 8 s))))) : Nat), .bool (decide (evl 1 (est 8 (boolS (natT (est 8 (est 8 s))))) = 1)), .int .u64 ((evl 8 (boolS (est 8 (boolS (natT (est 8 (est 8 s))))))) : Nat), u7, u8, u9] [(u2, (natV (est 8 (est 8 s)))), (u7, (natV (est 8 (boolS (est 8 (boolS (natT (est 8 (est 8 s))))))))), (u8, (natV (natT (est 8 (boolS (est 8 (boolS (natT (est 8 (est 8 s)))))))))), (u9, (natV (natT (natT (est 8 (boolS (est 8 (boolS (natT (est 8 (est 8 s)))))))))))] w6 from hq)
  have hs : ((natT (natT (natT (est 8 (boolS (est 8 (boolS (natT (est 8 (est 8 s)))))))))) : ESt).1.length ≤ 10000000000 := Nat.le_trans (dst_len 3 _) hs
  try clear hHeld
  clear c0 c1 t0 hq
  obtain ⟨c0, c1, t0⟩ := F6.out.tS
  go_wp2
  go_end0
  rw [HQ.out]
  exact ⟨rfl, (evl 8 s), (evl 8 (est 8 s)), (evl 8 (boolS (natT (est 8 (est 8 s))))), (evl 8 (boolS (est 8 (boolS (natT (est 8 (est 8 s))))))), (decide (evl 1 (natT (est 8 (est 8 s))) = 1)), (decide (evl 1 (est 8 (boolS (natT (est 8 (est 8 s))))) = 1)), u2, u7, u8, u9, (natV (est 8 (est 8 s))), (natV (est 8 (boolS (est 8 (boolS (natT (est 8 (est 8 s)))))))), (natV (natT (est 8 (boolS (est 8 (boolS (natT (est 8 (est 8 s))))))))), (natV (natT (natT (est 8 (boolS (est 8 (boolS (natT (est 8 (est 8 s)))))))))), (natT (natT (natT (est 8 (boolS (est 8 (boolS (natT (est 8 (est 8 s)))))))))), by kernel_rfl, F6.out.st, F6.out.ds (u2, (natV (est 8 (est 8 s)))) (by simp), F6.out.ds (u7, (natV (est 8 (boolS (est 8 (boolS (natT (est 8 (est 8 s))))))))) (by simp), F6.out.ds (u8, (natV (natT (est 8 (boolS (est 8 (boolS (natT (est 8 (est 8 s)))))))))) (by simp), F6.out.ds (u9, (natV (natT (natT (est 8 (boolS (est 8 (boolS (natT (est 8 (est 8 s))))))))))) (by simp)⟩

theorem val_pu (w : World) : Calls Try.prog 41 #[.func (.func 42) #[] #[]] w fun r w' => ∃ k, r = .returned (.func (.func 63) #[] #[.pointer (some ⟨k, 0, none⟩)]) ∧ w'.cell? ⟨k, 0, none⟩ = some (.func (.func 42) #[] #[]) ∧ Mods noB w w' ∧ k < w'.heap.size := by
  have hmf : ∀ (fn : Fn) (first cap : Array Value) (w : World), (Instr.makeFunc fn first cap).run Try.prog w = .ok (.func fn first cap) w := fun _ _ _ _ => rfl
  go_enter Try.func41, Try.ntmps41
  go_wp2
  go_ret
  exact ⟨_, rfl, cells_of (heap_new w _) 0, (Mods.refl _ _).alloc _, by simp⟩

set_option maxHeartbeats 1000000 in
theorem val_p1 {w : World} {k : Nat} {n0 n1 n4 n6 : Nat} {b3 b5 : Bool} {u2 u7 u8 u9 : Value} {l2 l7 l8 l9 : List Nat} (hk : w.cell? ⟨k, 0, none⟩ = some (.func (.func 42) #[] #[])) (hkl : k < w.heap.size) (hn : Lim [n0, n1, n4, n6]) (d2 : DN w u2 l2) (d7 : DN w u7 l7) (d8 : DN w u8 l8) (d9 : DN w u9 l9) :
    Calls Try.prog 63 #[.agg #[.int .u64 n0, .int .u64 n1, u2, .bool b3, .int .u64 n4, .bool b5, .int .u64 n6, u7, u8, u9], .pointer (some ⟨k, 0, none⟩)] w fun r w' => ∃ v, r = .returned v ∧ Own w' v (recLay [⟨0, n0, []⟩, ⟨0, n1, []⟩, ⟨2, 0, l2⟩, ⟨1, if b3 then 1 else 0, []⟩, ⟨0, n4, []⟩, ⟨1, if b5 then 1 else 0, []⟩, ⟨0, n6, []⟩, ⟨2, 0, l7⟩, ⟨2, 0, l8⟩, ⟨2, 0, l9⟩]) ∧ Mods noB w w' ∧ freshIn w v := by
  obtain ⟨zs, hz⟩ : ∃ zs, recLay [⟨0, n0, []⟩, ⟨0, n1, []⟩, ⟨2, 0, l2⟩, ⟨1, if b3 then 1 else 0, []⟩, ⟨0, n4, []⟩, ⟨1, if b5 then 1 else 0, []⟩, ⟨0, n6, []⟩, ⟨2, 0, l7⟩, ⟨2, 0, l8⟩, ⟨2, 0, l9⟩] = zs := ⟨_, rfl⟩
  rw [hz]
  have HZ := Lib.hid hz
  clear hz
  have HN := Lib.hid hn
  clear hn
  obtain ⟨ad2, cp2, rfl, _⟩ := d2.rn.form
  obtain ⟨ad7, cp7, rfl, _⟩ := d7.rn.form
  obtain ⟨ad8, cp8, rfl, _⟩ := d8.rn.form
  obtain ⟨ad9, cp9, rfl, _⟩ := d9.rn.form
  have D2 := Lib.hid d2
  clear d2
  have D7 := Lib.hid d7
  clear d7
  have D8 := Lib.hid d8
  clear d8
  have D9 := Lib.hid d9
  clear d9
  have m1 := (((Mods.refl noB w).alloc (.cells #[.int .u64 n0, .int .u64 n1, .slice ad2 l2.length cp2, .bool b3, .int .u64 n4, .bool b5, .int .u64 n6, .slice ad7 l7.length cp7, .slice ad8 l8.length cp8, .slice ad9 l9.length cp9] 34)).alloc (.cells #[.slice none 0 0, .int .i64 0] 108)).alloc (.cells #[.pointer (some ⟨w.heap.size + 1, 0, none⟩), .pointer none] 111)
  have c1 := (m1.cellAt hkl (fun x => x) 0).trans hk
  have P := Lib.hid (put_pre w #[.int .u64 n0, .int .u64 n1, .slice ad2 l2.length cp2, .bool b3, .int .u64 n4, .bool b5, .int .u64 n6, .slice ad7 l7.length cp7, .slice ad8 l8.length cp8, .slice ad9 l9.length cp9] 34 _ rfl)
  clear hk m1
  go_enter Try.func63, Try.ntmps63
  go_wp2_with fail
  generalize World.alloc (World.alloc (World.alloc w _) _) _ = wx at *
  obtain ⟨p1, p2, p3, p4, p5, p6, p7⟩ := P.out
  refine (val_w p1 p2 p3 HN.out (D2.out.dv p5 (Nat.le_succ _)) (D7.out.dv p5 (Nat.le_succ _)) (D8.out.dv p5 (Nat.le_succ _)) (D9.out.dv p5 (Nat.le_succ _)) (by simp)).mono ?_
  rintro r w4 ⟨rfl, v', hs⟩
  rw [List.nil_append, HZ.out] at hs
  have hzl := Lib.hid (show zs.length ≤ 140737488355328 from HZ.out ▸ Nat.le_trans (recLay_len _) (Nat.le_of_ble_eq_true rfl))
  have d1 := cells_of (hs.mods.heap p4 p7) 0
  have M := Lib.hid (p5.trans hs.mods (U := noB) (fun _ _ x => x) (fun i hi x => ws_new x hi))
  have F := Lib.hid hs
  clear hs p1 p2 p3 p4 p5 p6 p7 P c1
  go_wp2_with fail
  refine (WOut_any F.out.wr hzl.out).mono ?_
  rintro r w5 ⟨u, rfl, o1, o2, o3⟩
  obtain ⟨ua, uc, rfl, _⟩ := o1.rd.form
  have O := Lib.hid (And.intro o1 (And.intro o2 o3))
  clear o1 o2 o3 d1
  go_wp2
  go_ret
  obtain ⟨o1, o2, o3⟩ := O.out
  exact ⟨_, rfl, o1, M.out.then0 o2, o3.of M.out.size⟩

set_option maxHeartbeats 1000000 in
theorem val_put {w : World} {n0 n1 n4 n6 : Nat} {b3 b5 : Bool} {u2 u7 u8 u9 : Value} {l2 l7 l8 l9 : List Nat} (hn : Lim [n0, n1, n4, n6]) (d2 : DN w u2 l2) (d7 : DN w u7 l7) (d8 : DN w u8 l8) (d9 : DN w u9 l9) :
    Calls Try.prog 15 #[.agg #[.int .u64 n0, .int .u64 n1, u2, .bool b3, .int .u64 n4, .bool b5, .int .u64 n6, u7, u8, u9]] w fun r w' => ∃ v, r = .returned v ∧ Own w' v (recLay [⟨0, n0, []⟩, ⟨0, n1, []⟩, ⟨2, 0, l2⟩, ⟨1, if b3 then 1 else 0, []⟩, ⟨0, n4, []⟩, ⟨1, if b5 then 1 else 0, []⟩, ⟨0, n6, []⟩, ⟨2, 0, l7⟩, ⟨2, 0, l8⟩, ⟨2, 0, l9⟩]) ∧ Mods noB w w' ∧ freshIn w v := by
  obtain ⟨zs, hz⟩ : ∃ zs, recLay [⟨0, n0, []⟩, ⟨0, n1, []⟩, ⟨2, 0, l2⟩, ⟨1, if b3 then 1 else 0, []⟩, ⟨0, n4, []⟩, ⟨1, if b5 then 1 else 0, []⟩, ⟨0, n6, []⟩, ⟨2, 0, l7⟩, ⟨2, 0, l8⟩, ⟨2, 0, l9⟩] = zs := ⟨_, rfl⟩
  rw [hz]
  have HZ := Lib.hid hz
  clear hz
  have HN := Lib.hid hn
  clear hn
  obtain ⟨ad2, cp2, rfl, _⟩ := d2.rn.form
  obtain ⟨ad7, cp7, rfl, _⟩ := d7.rn.form
  obtain ⟨ad8, cp8, rfl, _⟩ := d8.rn.form
  obtain ⟨ad9, cp9, rfl, _⟩ := d9.rn.form
  have D2 := Lib.hid d2
  clear d2
  have D7 := Lib.hid d7
  clear d7
  have D8 := Lib.hid d8
  clear d8
  have D9 := Lib.hid d9
  clear d9
  have P := Lib.hid (put_box w #[.int .u64 n0, .int .u64 n1, .slice ad2 l2.length cp2, .bool b3, .int .u64 n4, .bool b5, .int .u64 n6, .slice ad7 l7.length cp7, .slice ad8 l8.length cp8, .slice ad9 l9.length cp9] 34 _ rfl)
  go_enter Try.func15, Try.ntmps15
  go_wp2
  generalize World.alloc w _ = w1 at *
  have HS := Lib.hid (fun b (hm : Mods noB w1 b) => have h := blk_step hm P.out.1; show b.cell? ⟨w.heap.size, 0, none⟩ = some (.int .u64 n0) ∧ b.cell? ⟨w.heap.size, 1, none⟩ = some (.int .u64 n1) ∧ b.cell? ⟨w.heap.size, 2, none⟩ = some (.slice ad2 l2.length cp2) ∧ b.cell? ⟨w.heap.size, 3, none⟩ = some (.bool b3) ∧ b.cell? ⟨w.heap.size, 4, none⟩ = some (.int .u64 n4) ∧ b.cell? ⟨w.heap.size, 5, none⟩ = some (.bool b5) ∧ b.cell? ⟨w.heap.size, 6, none⟩ = some (.int .u64 n6) ∧ b.cell? ⟨w.heap.size, 7, none⟩ = some (.slice ad7 l7.length cp7) ∧ b.cell? ⟨w.heap.size, 8, none⟩ = some (.slice ad8 l8.length cp8) ∧ b.cell? ⟨w.heap.size, 9, none⟩ = some (.slice ad9 l9.length cp9) ∧ Mods noB w1 b from ⟨cells_of h 0, cells_of h 1, cells_of h 2, cells_of h 3, cells_of h 4, cells_of h 5, cells_of h 6, cells_of h 7, cells_of h 8, cells_of h 9, hm⟩)
  go_region_held3 (fun b => b.cell? ⟨w.heap.size, 0, none⟩ = some (.int .u64 n0) ∧ b.cell? ⟨w.heap.size, 1, none⟩ = some (.int .u64 n1) ∧ b.cell? ⟨w.heap.size, 2, none⟩ = some (.slice ad2 l2.length cp2) ∧ b.cell? ⟨w.heap.size, 3, none⟩ = some (.bool b3) ∧ b.cell? ⟨w.heap.size, 4, none⟩ = some (.int .u64 n4) ∧ b.cell? ⟨w.heap.size, 5, none⟩ = some (.bool b5) ∧ b.cell? ⟨w.heap.size, 6, none⟩ = some (.int .u64 n6) ∧ b.cell? ⟨w.heap.size, 7, none⟩ = some (.slice ad7 l7.length cp7) ∧ b.cell? ⟨w.heap.size, 8, none⟩ = some (.slice ad8 l8.length cp8) ∧ b.cell? ⟨w.heap.size, 9, none⟩ = some (.slice ad9 l9.length cp9) ∧ Mods noB w1 b)
    ((refine HS.out _ ?_; exact (by repeat' (first | (with_reducible exact Mods.refl _ _) | (with_reducible assumption) | (with_reducible refine Mods.alloc ?_ _) | (with_reducible refine Mods.drew ?_) | (with_reducible refine Mods.drewN ?_ _) | (with_reducible refine Mods.regrown ?_ _ _) | (with_reducible refine Mods.setCell ?_ ?_ _) | (refine .inr ?_; first | (simp; done) | (simp; omega) | omega)))))
    ((first
      | (go_at_call 41; refine (val_pu _).mono ?_; rintro r w2 ⟨k, rfl, k1, k2, k3⟩; (try replace k2 := Mods.undrew k2))
      | (go_at_call 63; refine (val_p1 (k := k) (l2 := l2) (l7 := l7) (l8 := l8) (l9 := l9) ?_ ?_ HN.out ?_ ?_ ?_ ?_).mono ?_; (next => (refine fn_step ?_ k1 k3; exact (by repeat' (first | (with_reducible exact Mods.refl _ _) | (with_reducible assumption) | (with_reducible refine Mods.alloc ?_ _) | (with_reducible refine Mods.drew ?_) | (with_reducible refine Mods.drewN ?_ _) | (with_reducible refine Mods.regrown ?_ _ _) | (with_reducible refine Mods.setCell ?_ ?_ _) | (refine .inr ?_; first | (simp; done) | (simp; omega) | omega))))); (next => (refine Mods.size_of (S := noB) (a := w2) ?_ k3; exact (by repeat' (first | (with_reducible exact Mods.refl _ _) | (with_reducible assumption) | (with_reducible refine Mods.alloc ?_ _) | (with_reducible refine Mods.drew ?_) | (with_reducible refine Mods.drewN ?_ _) | (with_reducible refine Mods.regrown ?_ _ _) | (with_reducible refine Mods.setCell ?_ ?_ _) | (refine .inr ?_; first | (simp; done) | (simp; omega) | omega))))); (next => (refine DN.keep (w := w) D2.out ?_; refine Mods.then0 P.out.2.1 ?_; exact (by repeat' (first | (with_reducible exact Mods.refl _ _) | (with_reducible assumption) | (with_reducible refine Mods.alloc ?_ _) | (with_reducible refine Mods.drew ?_) | (with_reducible refine Mods.drewN ?_ _) | (with_reducible refine Mods.regrown ?_ _ _) | (with_reducible refine Mods.setCell ?_ ?_ _) | (refine .inr ?_; first | (simp; done) | (simp; omega) | omega))))); (next => (refine DN.keep (w := w) D7.out ?_; refine Mods.then0 P.out.2.1 ?_; exact (by repeat' (first | (with_reducible exact Mods.refl _ _) | (with_reducible assumption) | (with_reducible refine Mods.alloc ?_ _) | (with_reducible refine Mods.drew ?_) | (with_reducible refine Mods.drewN ?_ _) | (with_reducible refine Mods.regrown ?_ _ _) | (with_reducible refine Mods.setCell ?_ ?_ _) | (refine .inr ?_; first | (simp; done) | (simp; omega) | omega))))); (next => (refine DN.keep (w := w) D8.out ?_; refine Mods.then0 P.out.2.1 ?_; exact (by repeat' (first | (with_reducible exact Mods.refl _ _) | (with_reducible assumption) | (with_reducible refine Mods.alloc ?_ _) | (with_reducible refine Mods.drew ?_) | (with_reducible refine Mods.drewN ?_ _) | (with_reducible refine Mods.regrown ?_ _ _) | (with_reducible refine Mods.setCell ?_ ?_ _) | (refine .inr ?_; first | (simp; done) | (simp; omega) | omega))))); (next => (refine DN.keep (w := w) D9.out ?_; refine Mods.then0 P.out.2.1 ?_; exact (by repeat' (first | (with_reducible exact Mods.refl _ _) | (with_reducible assumption) | (with_reducible refine Mods.alloc ?_ _) | (with_reducible refine Mods.drew ?_) | (with_reducible refine Mods.drewN ?_ _) | (with_reducible refine Mods.regrown ?_ _ _) | (with_reducible refine Mods.setCell ?_ ?_ _) | (refine .inr ?_; first | (simp; done) | (simp; omega) | omega))))); rintro r w3 ⟨v, rfl, o1, o2, o3⟩; replace o1 := HZ.out ▸ o1; (try replace o2 := Mods.undrew o2); replace o2 := Mods.then0 k2 o2)))
  go_wp2
  go_ret
  exact ⟨_, rfl, o1, P.out.2.1.then0 o2, o3.of (Nat.le_trans P.out.2.1.size k2.size)⟩

theorem val_ge (w : World) : Calls Try.prog 47 #[.func (.func 42) #[] #[]] w fun r w' => ∃ k, r = .returned (.func (.func 71) #[] #[.pointer (some ⟨k, 0, none⟩)]) ∧ w'.cell? ⟨k, 0, none⟩ = some (.func (.func 42) #[] #[]) ∧ Mods noB w w' ∧ k < w'.heap.size := by
  have hmf : ∀ (fn : Fn) (first cap : Array Value) (w : World), (Instr.makeFunc fn first cap).run Try.prog w = .ok (.func fn first cap) w := fun _ _ _ _ => rfl
  go_enter Try.func47, Try.ntmps47
  go_wp2
  go_ret
  exact ⟨_, rfl, cells_of (heap_new w _) 0, (Mods.refl _ _).alloc _, by simp⟩

theorem val_size : (Try.prog.info? 34).map (·.size) = some 10 := by kernel_rfl

set_option maxHeartbeats 4000000 in
theorem val_g1 {w : World} {k : Nat} {b : Value} {xs : List UInt8} (hk : w.cell? ⟨k, 0, none⟩ = some (.func (.func 42) #[] #[])) (hkl : k < w.heap.size) (hb : Rd w b xs) (hl : xs.length ≤ 1000000) :
    Calls Try.prog 71 #[b, .pointer (some ⟨k, 0, none⟩)] w (fun r w' => ∃ (n0 n1 n4 n6 : Nat) (b3 b5 : Bool) (u2 u7 u8 u9 : Value) (l2 l7 l8 l9 : List Nat) (e : Nat), r = .returned (.tuple #[.agg #[.int .u64 (n0 : Nat), .int .u64 (n1 : Nat), u2, .bool b3, .int .u64 (n4 : Nat), .bool b5, .int .u64 (n6 : Nat), u7, u8, u9], .int .i64 e]) ∧ recGet [0, 0, 2, 1, 0, 1, 0, 2, 2, 2] xs = ([⟨0, n0, []⟩, ⟨0, n1, []⟩, ⟨2, 0, l2⟩, ⟨1, if b3 then 1 else 0, []⟩, ⟨0, n4, []⟩, ⟨1, if b5 then 1 else 0, []⟩, ⟨0, n6, []⟩, ⟨2, 0, l7⟩, ⟨2, 0, l8⟩, ⟨2, 0, l9⟩], e) ∧ Mods noB w w' ∧ (RN w' u2 l2 ∧ freshIn w u2) ∧ (RN w' u7 l7 ∧ freshIn w u7) ∧ (RN w' u8 l8 ∧ freshIn w u8) ∧ (RN w' u9 l9 ∧ freshIn w u9)) := by
  obtain ⟨a, c, rfl, hlm⟩ := hb.form
  obtain ⟨Q, hQ⟩ : ∃ Q : Ending → World → Prop, Q = (fun r w' => ∃ (n0 n1 n4 n6 : Nat) (b3 b5 : Bool) (u2 u7 u8 u9 : Value) (l2 l7 l8 l9 : List Nat) (e : Nat), r = .returned (.tuple #[.agg #[.int .u64 (n0 : Nat), .int .u64 (n1 : Nat), u2, .bool b3, .int .u64 (n4 : Nat), .bool b5, .int .u64 (n6 : Nat), u7, u8, u9], .int .i64 e]) ∧ recGet [0, 0, 2, 1, 0, 1, 0, 2, 2, 2] xs = ([⟨0, n0, []⟩, ⟨0, n1, []⟩, ⟨2, 0, l2⟩, ⟨1, if b3 then 1 else 0, []⟩, ⟨0, n4, []⟩, ⟨1, if b5 then 1 else 0, []⟩, ⟨0, n6, []⟩, ⟨2, 0, l7⟩, ⟨2, 0, l8⟩, ⟨2, 0, l9⟩], e) ∧ Mods noB w w' ∧ (RN w' u2 l2 ∧ freshIn w u2) ∧ (RN w' u7 l7 ∧ freshIn w u7) ∧ (RN w' u8 l8 ∧ freshIn w u8) ∧ (RN w' u9 l9 ∧ freshIn w u9)) := ⟨_, rfl⟩
  show Calls _ _ _ _ (fun r w' => ∃ (n0 n1 n4 n6 : Nat) (b3 b5 : Bool) (u2 u7 u8 u9 : Value) (l2 l7 l8 l9 : List Nat) (e : Nat), r = .returned (.tuple #[.agg #[.int .u64 (n0 : Nat), .int .u64 (n1 : Nat), u2, .bool b3, .int .u64 (n4 : Nat), .bool b5, .int .u64 (n6 : Nat), u7, u8, u9], .int .i64 e]) ∧ recGet [0, 0, 2, 1, 0, 1, 0, 2, 2, 2] xs = ([⟨0, n0, []⟩, ⟨0, n1, []⟩, ⟨2, 0, l2⟩, ⟨1, if b3 then 1 else 0, []⟩, ⟨0, n4, []⟩, ⟨1, if b5 then 1 else 0, []⟩, ⟨0, n6, []⟩, ⟨2, 0, l7⟩, ⟨2, 0, l8⟩, ⟨2, 0, l9⟩], e) ∧ Mods noB w w' ∧ (RN w' u2 l2 ∧ freshIn w u2) ∧ (RN w' u7 l7 ∧ freshIn w u7) ∧ (RN w' u8 l8 ∧ freshIn w u8) ∧ (RN w' u9 l9 ∧ freshIn w u9))
  rw [← hQ]
  have HQ := Lib.hid hQ
  have P := Lib.hid (get_pre w #[.int .u64 0, .int .u64 0, .slice none 0 0, .bool false, .int .u64 0, .bool false, .int .u64 0, .slice none 0 0, .slice none 0 0, .slice none 0 0] 34 _ rfl)
  have HB := Lib.hid hb
  have HK := Lib.hid (And.intro hk hkl)
  have HL := Lib.hid hl
  clear hQ hb hk hkl hl hlm
  go_enter Try.func71, Try.ntmps71
  go_wp2_with fail
  generalize World.alloc (World.alloc (World.alloc w _) _) _ = w3 at *
  obtain ⟨p0, p1, p2, p3, p4⟩ := P.out
  refine (NewReader_any (HB.out.keep p3 (fun _ _ x => x)) (Nat.le_trans HL.out (Nat.le_of_ble_eq_true rfl))).mono ?_
  rintro r w4 ⟨g, v, rfl, hr, m4, hg, hf⟩
  have G := Lib.hid (get_thr (B := w.heap.size + 1) (es := [(w.heap.size, .cells #[.int .u64 0, .int .u64 0, .slice none 0 0, .bool false, .int .u64 0, .bool false, .int .u64 0, .slice none 0 0, .slice none 0 0, .slice none 0 0] 34 (0, 0)), (w.heap.size + 1 + 1, .cells #[.int .u64 0, .int .u64 0, .slice none 0 0, .bool false, .int .u64 0, .bool false, .int .u64 0, .slice none 0 0, .slice none 0 0, .slice none 0 0] 34 (0, 0))]) p1 (two_es p0 p2) p3 hr m4 hg hf _ rfl)
  have c0 := fn_step G.out.2.1 HK.out.1 HK.out.2
  have HG := Lib.hid (show w.heap.size < g + 1 ∧ w.heap.size + 1 < g ∧ g < w4.heap.size ∧ w.heap.size ≤ w4.heap.size from ⟨by omega, by omega, hr.lt, by have := m4.size; omega⟩)
  clear hr m4 hg hf p0 p2 p1 p3 p4 P
  have z5 : (w4.alloc (.cells #[.pointer none, .pointer (some ⟨g, 0, none⟩)] 111)).heap.size = w4.heap.size + 1 := by simp
  have Z5 := Lib.hid z5
  clear z5
  go_wp2_with fail
  generalize World.alloc w4 _ = w5 at *
  refine (val_r G.out.1 (Nat.le_trans HL.out (Nat.le_of_ble_eq_true rfl))).mono ?_
  rintro r w6 ⟨rfl, n0, n1, n4, n6, b3, b5, u2, u7, u8, u9, l2, l7, l8, l9, s, hs, ht, ⟨e2, f2⟩, ⟨e7, f7⟩, ⟨e8, f8⟩, ⟨e9, f9⟩⟩
  obtain ⟨ad2, cp2, rfl, _⟩ := e2.form
  obtain ⟨ad7, cp7, rfl, _⟩ := e7.form
  obtain ⟨ad8, cp8, rfl, _⟩ := e8.form
  obtain ⟨ad9, cp9, rfl, _⟩ := e9.form
  have E2 := Lib.hid (And.intro e2 f2)
  clear e2 f2
  have E7 := Lib.hid (And.intro e7 f7)
  clear e7 f7
  have E8 := Lib.hid (And.intro e8 f8)
  clear e8 f8
  have E9 := Lib.hid (And.intro e9 f9)
  clear e9 f9
  obtain ⟨⟨v', t1⟩, t2, t3⟩ := G.out.2.2 _ _ _ ht
  have Y := Lib.hid (t3 (by omega))
  have R := Lib.hid t1
  have HR := Lib.hid hs
  have HS := Lib.hid (fun x (hm : Mods (fun i => i = g) w6 x) => have y := GY.step Y.out hm; have h0 := y.get 0 rfl; show x.cell? ⟨k, 0, none⟩ = some (.func (.func 42) #[] #[]) ∧ x.cell? ⟨w4.heap.size, 1, none⟩ = some (.pointer (some ⟨g, 0, none⟩)) ∧ x.cell? ⟨w.heap.size + 1, 0, none⟩ = some (.int .u64 (n0 : Nat)) ∧ x.cell? ⟨w.heap.size + 1, 1, none⟩ = some (.int .u64 (n1 : Nat)) ∧ x.cell? ⟨w.heap.size + 1, 2, none⟩ = some (.slice ad2 l2.length cp2) ∧ x.cell? ⟨w.heap.size + 1, 3, none⟩ = some (.bool b3) ∧ x.cell? ⟨w.heap.size + 1, 4, none⟩ = some (.int .u64 (n4 : Nat)) ∧ x.cell? ⟨w.heap.size + 1, 5, none⟩ = some (.bool b5) ∧ x.cell? ⟨w.heap.size + 1, 6, none⟩ = some (.int .u64 (n6 : Nat)) ∧ x.cell? ⟨w.heap.size + 1, 7, none⟩ = some (.slice ad7 l7.length cp7) ∧ x.cell? ⟨w.heap.size + 1, 8, none⟩ = some (.slice ad8 l8.length cp8) ∧ x.cell? ⟨w.heap.size + 1, 9, none⟩ = some (.slice ad9 l9.length cp9) ∧ Mods (fun i => i = g) w6 x from ⟨fn_step y.mods HK.out.1 HK.out.2, cells_of (y.get 1 rfl) 1, cells_of h0 0, cells_of h0 1, cells_of h0 2, cells_of h0 3, cells_of h0 4, cells_of h0 5, cells_of h0 6, cells_of h0 7, cells_of h0 8, cells_of h0 9, hm⟩)
  clear ht t1 t2 t3 c0 G hs
  go_wp2
  by_cases he : s = ([], 0)
  · subst he
    have HE := Lib.hid (fun wy (hm : Mods noB w6 wy) => end_ok (R.out.keep hm (fun x => x) (fun _ _ x => x)))
    have HX := Lib.hid (rdAll_whole HR.out)
    have ho := (rdAll_ok [0, 0, 2, 1, 0, 1, 0, 2, 2, 2] (xs, 0) (by decide)).1
    have hz := rdAll_ls [0, 0, 2, 1, 0, 1, 0, 2, 2, 2] (xs, 0)
    rw [HR.out] at ho hz
    have HO := Lib.hid (show Lim [n0, n1, n4, n6] from (limC (ho ⟨0, n0, []⟩ (List.mem_of_getElem? (i := 0) rfl)).n (limC (ho ⟨0, n1, []⟩ (List.mem_of_getElem? (i := 1) rfl)).n (limC (ho ⟨0, n4, []⟩ (List.mem_of_getElem? (i := 4) rfl)).n (limC (ho ⟨0, n6, []⟩ (List.mem_of_getElem? (i := 6) rfl)).n limN)))))
    have K2 := Lib.hid (fun wy (hm : Mods (fun i => i = g) w6 wy) => (show DN wy (.slice ad2 l2.length cp2) l2 from ⟨rn_new E2.out.1 E2.out.2 (Z5.out ▸ Nat.lt_succ_of_lt HG.out.2.2.1) hm, (ho ⟨2, 0, l2⟩ (List.mem_of_getElem? (i := 2) rfl)).ls, Nat.le_trans (hz ⟨2, 0, l2⟩ (List.mem_of_getElem? (i := 2) rfl)) (Nat.le_of_ble_eq_true rfl)⟩))
    have K7 := Lib.hid (fun wy (hm : Mods (fun i => i = g) w6 wy) => (show DN wy (.slice ad7 l7.length cp7) l7 from ⟨rn_new E7.out.1 E7.out.2 (Z5.out ▸ Nat.lt_succ_of_lt HG.out.2.2.1) hm, (ho ⟨2, 0, l7⟩ (List.mem_of_getElem? (i := 7) rfl)).ls, Nat.le_trans (hz ⟨2, 0, l7⟩ (List.mem_of_getElem? (i := 7) rfl)) (Nat.le_of_ble_eq_true rfl)⟩))
    have K8 := Lib.hid (fun wy (hm : Mods (fun i => i = g) w6 wy) => (show DN wy (.slice ad8 l8.length cp8) l8 from ⟨rn_new E8.out.1 E8.out.2 (Z5.out ▸ Nat.lt_succ_of_lt HG.out.2.2.1) hm, (ho ⟨2, 0, l8⟩ (List.mem_of_getElem? (i := 8) rfl)).ls, Nat.le_trans (hz ⟨2, 0, l8⟩ (List.mem_of_getElem? (i := 8) rfl)) (Nat.le_of_ble_eq_true rfl)⟩))
    have K9 := Lib.hid (fun wy (hm : Mods (fun i => i = g) w6 wy) => (show DN wy (.slice ad9 l9.length cp9) l9 from ⟨rn_new E9.out.1 E9.out.2 (Z5.out ▸ Nat.lt_succ_of_lt HG.out.2.2.1) hm, (ho ⟨2, 0, l9⟩ (List.mem_of_getElem? (i := 9) rfl)).ls, Nat.le_trans (hz ⟨2, 0, l9⟩ (List.mem_of_getElem? (i := 9) rfl)) (Nat.le_of_ble_eq_true rfl)⟩))
    clear ho hz
    have HV := Lib.hid (fun wy (hm : Mods (fun i => i = g) w6 wy) => HB.out.keep (Y.out.step hm).mods (fun _ _ x => x))
    clear R
    go_region_held3 (fun x => x.cell? ⟨k, 0, none⟩ = some (.func (.func 42) #[] #[]) ∧ x.cell? ⟨w4.heap.size, 1, none⟩ = some (.pointer (some ⟨g, 0, none⟩)) ∧ x.cell? ⟨w.heap.size + 1, 0, none⟩ = some (.int .u64 (n0 : Nat)) ∧ x.cell? ⟨w.heap.size + 1, 1, none⟩ = some (.int .u64 (n1 : Nat)) ∧ x.cell? ⟨w.heap.size + 1, 2, none⟩ = some (.slice ad2 l2.length cp2) ∧ x.cell? ⟨w.heap.size + 1, 3, none⟩ = some (.bool b3) ∧ x.cell? ⟨w.heap.size + 1, 4, none⟩ = some (.int .u64 (n4 : Nat)) ∧ x.cell? ⟨w.heap.size + 1, 5, none⟩ = some (.bool b5) ∧ x.cell? ⟨w.heap.size + 1, 6, none⟩ = some (.int .u64 (n6 : Nat)) ∧ x.cell? ⟨w.heap.size + 1, 7, none⟩ = some (.slice ad7 l7.length cp7) ∧ x.cell? ⟨w.heap.size + 1, 8, none⟩ = some (.slice ad8 l8.length cp8) ∧ x.cell? ⟨w.heap.size + 1, 9, none⟩ = some (.slice ad9 l9.length cp9) ∧ Mods (fun i => i = g) w6 x)
      ((refine HS.out _ ?_; exact (by repeat' (first | (with_reducible exact Mods.refl _ _) | (with_reducible assumption) | (with_reducible refine Mods.alloc ?_ _) | (with_reducible refine Mods.drew ?_) | (with_reducible refine Mods.drewN ?_ _) | (with_reducible refine Mods.regrown ?_ _ _) | (with_reducible refine Mods.setCell ?_ ?_ _) | (refine .inr ?_; first | (simp; done) | (simp; omega) | omega)))))
      ((first
        | (go_at_call 67; refine (HE.out _ ?_).mono ?_; (next => exact (by repeat' (first | (with_reducible exact Mods.refl _ _) | (with_reducible assumption) | (with_reducible refine Mods.alloc ?_ _) | (with_reducible refine Mods.drew ?_) | (with_reducible refine Mods.drewN ?_ _) | (with_reducible refine Mods.regrown ?_ _ _) | (with_reducible refine Mods.setCell ?_ ?_ _) | (refine .inr ?_; first | (simp; done) | (simp; omega) | omega)))); rintro r w7 ⟨rfl, m7⟩; (try replace m7 := Mods.undrew m7))
        | (go_at_call 41; refine (val_pu _).mono ?_; rintro r w8 ⟨k2, rfl, kX, nX, lX⟩; (try replace nX := Mods.undrew nX); replace nX := Mods.then0 m7 nX)
        | (go_at_call 63; refine (val_p1 (k := k2) (l2 := l2) (l7 := l7) (l8 := l8) (l9 := l9) ?_ ?_ HO.out ?_ ?_ ?_ ?_).mono ?_; (next => (refine fn_step ?_ kX lX; exact (by repeat' (first | (with_reducible exact Mods.refl _ _) | (with_reducible assumption) | (with_reducible refine Mods.alloc ?_ _) | (with_reducible refine Mods.drew ?_) | (with_reducible refine Mods.drewN ?_ _) | (with_reducible refine Mods.regrown ?_ _ _) | (with_reducible refine Mods.setCell ?_ ?_ _) | (refine .inr ?_; first | (simp; done) | (simp; omega) | omega))))); (next => (refine Mods.size_of (S := noB) (a := w8) ?_ lX; exact (by repeat' (first | (with_reducible exact Mods.refl _ _) | (with_reducible assumption) | (with_reducible refine Mods.alloc ?_ _) | (with_reducible refine Mods.drew ?_) | (with_reducible refine Mods.drewN ?_ _) | (with_reducible refine Mods.regrown ?_ _ _) | (with_reducible refine Mods.setCell ?_ ?_ _) | (refine .inr ?_; first | (simp; done) | (simp; omega) | omega))))); (next => (refine K2.out _ ?_; exact (by repeat' (first | (with_reducible exact Mods.refl _ _) | (with_reducible assumption) | (with_reducible refine Mods.alloc ?_ _) | (with_reducible refine Mods.drew ?_) | (with_reducible refine Mods.drewN ?_ _) | (with_reducible refine Mods.regrown ?_ _ _) | (with_reducible refine Mods.setCell ?_ ?_ _) | (refine .inr ?_; first | (simp; done) | (simp; omega) | omega))))); (next => (refine K7.out _ ?_; exact (by repeat' (first | (with_reducible exact Mods.refl _ _) | (with_reducible assumption) | (with_reducible refine Mods.alloc ?_ _) | (with_reducible refine Mods.drew ?_) | (with_reducible refine Mods.drewN ?_ _) | (with_reducible refine Mods.regrown ?_ _ _) | (with_reducible refine Mods.setCell ?_ ?_ _) | (refine .inr ?_; first | (simp; done) | (simp; omega) | omega))))); (next => (refine K8.out _ ?_; exact (by repeat' (first | (with_reducible exact Mods.refl _ _) | (with_reducible assumption) | (with_reducible refine Mods.alloc ?_ _) | (with_reducible refine Mods.drew ?_) | (with_reducible refine Mods.drewN ?_ _) | (with_reducible refine Mods.regrown ?_ _ _) | (with_reducible refine Mods.setCell ?_ ?_ _) | (refine .inr ?_; first | (simp; done) | (simp; omega) | omega))))); (next => (refine K9.out _ ?_; exact (by repeat' (first | (with_reducible exact Mods.refl _ _) | (with_reducible assumption) | (with_reducible refine Mods.alloc ?_ _) | (with_reducible refine Mods.drew ?_) | (with_reducible refine Mods.drewN ?_ _) | (with_reducible refine Mods.regrown ?_ _ _) | (with_reducible refine Mods.setCell ?_ ?_ _) | (refine .inr ?_; first | (simp; done) | (simp; omega) | omega))))); rintro r w9 ⟨u, rfl, o1, o2, o3⟩; (try replace o2 := Mods.undrew o2); replace o2 := Mods.then0 nX o2)
        | (go_at_call 68; refine (equal_yes HX.out ?_ (HV.out _ ?_)).mono ?_; (next => (refine Rd.keep (S := noB) (w := w9) o1.rd ?_ (fun _ _ x => x); exact (by repeat' (first | (with_reducible exact Mods.refl _ _) | (with_reducible assumption) | (with_reducible refine Mods.alloc ?_ _) | (with_reducible refine Mods.drew ?_) | (with_reducible refine Mods.drewN ?_ _) | (with_reducible refine Mods.regrown ?_ _ _) | (with_reducible refine Mods.setCell ?_ ?_ _) | (refine .inr ?_; first | (simp; done) | (simp; omega) | omega))))); (next => exact (by repeat' (first | (with_reducible exact Mods.refl _ _) | (with_reducible assumption) | (with_reducible refine Mods.alloc ?_ _) | (with_reducible refine Mods.drew ?_) | (with_reducible refine Mods.drewN ?_ _) | (with_reducible refine Mods.regrown ?_ _ _) | (with_reducible refine Mods.setCell ?_ ?_ _) | (refine .inr ?_; first | (simp; done) | (simp; omega) | omega)))); rintro r w10 ⟨rfl, m10⟩; (try replace m10 := Mods.undrew m10); replace m10 := Mods.then0 o2 m10)))
    have y := Y.out.step m10
    have g0 := y.get 2 rfl
    have x0 := cells_of (y.get 0 rfl) 0
    have x1 := cells_of (y.get 0 rfl) 1
    have x2 := cells_of (y.get 0 rfl) 2
    have x3 := cells_of (y.get 0 rfl) 3
    have x4 := cells_of (y.get 0 rfl) 4
    have x5 := cells_of (y.get 0 rfl) 5
    have x6 := cells_of (y.get 0 rfl) 6
    have x7 := cells_of (y.get 0 rfl) 7
    have x8 := cells_of (y.get 0 rfl) 8
    have x9 := cells_of (y.get 0 rfl) 9
    have MY := Lib.hid (And.intro y.mods m10)
    clear y HE HS HV kX nX o1 o2 o3
    go_wp2_with (refine wpList_store_blk rfl rfl g0 rfl rfl val_size rfl rfl ?_; intro w11 q1 q2 q3; have c11 := cells_of q1)
    refine bodyPost_ret (by simp [results, Try.results71, go_sem, c11]; try rfl) rfl ?_
    rw [HQ.out]
    exact ⟨n0, n1, n4, n6, b3, b5, _, _, _, _, l2, l7, l8, l9, 0, rfl, recGet_yes HR.out, MY.out.1.trans q2 (fun _ _ x => x) (fun i hi x => by omega), ⟨rn_res (K2.out _ MY.out.2).rn E2.out.2 (by have := HG.out; have := Z5.out; omega) q2, E2.out.2.of (by have := HG.out; have := Z5.out; omega)⟩, ⟨rn_res (K7.out _ MY.out.2).rn E7.out.2 (by have := HG.out; have := Z5.out; omega) q2, E7.out.2.of (by have := HG.out; have := Z5.out; omega)⟩, ⟨rn_res (K8.out _ MY.out.2).rn E8.out.2 (by have := HG.out; have := Z5.out; omega) q2, E8.out.2.of (by have := HG.out; have := Z5.out; omega)⟩, ⟨rn_res (K9.out _ MY.out.2).rn E9.out.2 (by have := HG.out; have := Z5.out; omega) q2, E9.out.2.of (by have := HG.out; have := Z5.out; omega)⟩⟩
  · have HE := Lib.hid (fun wy (hm : Mods noB w6 wy) => end_no (R.out.keep hm (fun x => x) (fun _ _ x => x)) he)
    clear R
    obtain ⟨_, b1, _⟩ := HS.out w6 (Mods.refl _ _)
    refine wp_region_bar 2 (by kernel_rfl) (by kernel_rfl) ?_
    simp only [List.take_succ_cons, List.take_zero, List.drop_succ_cons, List.drop_zero]
    repeat (quiet_step (fail))
    refine wpQuiet_nil ?_
    intro w7' h7
    obtain ⟨q7, h7⟩ := h7
    subst h7
    refine wpOp_bar (by rfl) ?_
    go_wp2_with (go_at_call 67; refine (HE.out _ ?_).mono ?_; (next => exact (by repeat' (first | (with_reducible exact Mods.refl _ _) | (with_reducible assumption) | (with_reducible refine Mods.alloc ?_ _) | (with_reducible refine Mods.drew ?_) | (with_reducible refine Mods.drewN ?_ _) | (with_reducible refine Mods.regrown ?_ _ _) | (with_reducible refine Mods.setCell ?_ ?_ _) | (refine .inr ?_; first | (simp; done) | (simp; omega) | omega)))); rintro r w7 ⟨ee, rfl, hee, hen, m7⟩)
    refine bar_normal ?_
    clear b1
    repeat (quiet_step (fail))
    refine wpQuiet_nil ?_
    intro w8 h8
    obtain ⟨q8, h8⟩ := h8
    subst h8
    replace m7 := ((Mods.refl (fun i => i = g) w6).drewN q7).trans m7 (fun _ _ x => x) (fun _ _ x => x)
    have m10 := Mods.drewN m7 q8
    have y := Y.out.step m10
    have g0 := y.get 2 rfl
    have x0 := cells_of (y.get 3 rfl) 0
    have x1 := cells_of (y.get 3 rfl) 1
    have x2 := cells_of (y.get 3 rfl) 2
    have x3 := cells_of (y.get 3 rfl) 3
    have x4 := cells_of (y.get 3 rfl) 4
    have x5 := cells_of (y.get 3 rfl) 5
    have x6 := cells_of (y.get 3 rfl) 6
    have x7 := cells_of (y.get 3 rfl) 7
    have x8 := cells_of (y.get 3 rfl) 8
    have x9 := cells_of (y.get 3 rfl) 9
    have MY := Lib.hid (And.intro y.mods m10)
    clear y HE HS
    go_wp2_with (refine wpList_store_blk rfl rfl g0 rfl rfl val_size rfl rfl ?_; intro w11 q1 q2 q3; have c11 := cells_of q1)
    refine bodyPost_ret (by simp [results, Try.results71, go_sem, c11]; try rfl) rfl ?_
    rw [HQ.out]
    exact ⟨0, 0, 0, 0, false, false, _, _, _, _, [], [], [], [], 80, rfl, recGet_no HR.out he, MY.out.1.trans q2 (fun _ _ x => x) (fun i hi x => by omega), ⟨RdM.nil _ _, fresh_nil _⟩, ⟨RdM.nil _ _, fresh_nil _⟩, ⟨RdM.nil _ _, fresh_nil _⟩, ⟨RdM.nil _ _, fresh_nil _⟩⟩

set_option maxHeartbeats 1000000 in
theorem val_get {w : World} {b : Value} {xs : List UInt8} (hb : Rd w b xs) (hl : xs.length ≤ 1000000) :
    Calls Try.prog 19 #[b] w (fun r w' => ∃ (n0 n1 n4 n6 : Nat) (b3 b5 : Bool) (u2 u7 u8 u9 : Value) (l2 l7 l8 l9 : List Nat) (e : Nat), r = .returned (.tuple #[.agg #[.int .u64 (n0 : Nat), .int .u64 (n1 : Nat), u2, .bool b3, .int .u64 (n4 : Nat), .bool b5, .int .u64 (n6 : Nat), u7, u8, u9], .int .i64 e]) ∧ recGet [0, 0, 2, 1, 0, 1, 0, 2, 2, 2] xs = ([⟨0, n0, []⟩, ⟨0, n1, []⟩, ⟨2, 0, l2⟩, ⟨1, if b3 then 1 else 0, []⟩, ⟨0, n4, []⟩, ⟨1, if b5 then 1 else 0, []⟩, ⟨0, n6, []⟩, ⟨2, 0, l7⟩, ⟨2, 0, l8⟩, ⟨2, 0, l9⟩], e) ∧ Mods noB w w' ∧ (RN w' u2 l2 ∧ freshIn w u2) ∧ (RN w' u7 l7 ∧ freshIn w u7) ∧ (RN w' u8 l8 ∧ freshIn w u8) ∧ (RN w' u9 l9 ∧ freshIn w u9)) := by
  obtain ⟨a, c, rfl, hlm⟩ := hb.form
  have P := Lib.hid (put_box w #[.int .u64 0, .int .u64 0, .slice none 0 0, .bool false, .int .u64 0, .bool false, .int .u64 0, .slice none 0 0, .slice none 0 0, .slice none 0 0] 34 _ rfl)
  have HB := Lib.hid hb
  have HL := Lib.hid hl
  clear hb hl hlm
  go_enter Try.func19, Try.ntmps19
  go_wp2_with fail
  generalize World.alloc w _ = w1 at *
  refine (val_ge w1).mono ?_
  rintro r w2 ⟨k, rfl, k1, k2, k3⟩
  have M := Lib.hid (P.out.2.1.then0 k2)
  have H1 := Lib.hid (blk_step k2 P.out.1)
  have HZ := Lib.hid (show w.heap.size < w2.heap.size from by have := P.out.2.2; have := k2.size; omega)
  have K := Lib.hid (And.intro k1 k3)
  clear k1 k2 k3
  go_wp2_with fail
  refine (val_g1 K.out.1 K.out.2 (HB.out.keep M.out (fun _ _ x => x)) HL.out).mono ?_
  rintro r w3 ⟨n0, n1, n4, n6, b3, b5, u2, u7, u8, u9, l2, l7, l8, l9, e, rfl, hg, hm, ⟨e2, f2⟩, ⟨e7, f7⟩, ⟨e8, f8⟩, ⟨e9, f9⟩⟩
  obtain ⟨ad2, cp2, rfl, _⟩ := e2.form
  obtain ⟨ad7, cp7, rfl, _⟩ := e7.form
  obtain ⟨ad8, cp8, rfl, _⟩ := e8.form
  obtain ⟨ad9, cp9, rfl, _⟩ := e9.form
  have E2 := Lib.hid (And.intro e2 f2)
  clear e2 f2
  have E7 := Lib.hid (And.intro e7 f7)
  clear e7 f7
  have E8 := Lib.hid (And.intro e8 f8)
  clear e8 f8
  have E9 := Lib.hid (And.intro e9 f9)
  clear e9 f9
  have g0 := blk_step hm H1.out
  have R := Lib.hid (And.intro hg (M.out.then0 hm))
  clear hg hm
  go_wp2_with (refine wpList_store_blk rfl rfl g0 rfl rfl val_size rfl rfl ?_; intro w11 q1 q2 q3; have c11 := cells_of q1)
  refine bodyPost_ret (by simp [results, Try.results19, go_sem, c11]; try rfl) rfl ?_
  exact ⟨n0, n1, n4, n6, b3, b5, _, _, _, _, l2, l7, l8, l9, e, rfl, R.out.1, R.out.2.trans q2 (fun _ _ x => x) (fun i hi x => by omega), ⟨rn_res E2.out.1 E2.out.2 HZ.out q2, E2.out.2.of (Nat.le_of_lt HZ.out)⟩, ⟨rn_res E7.out.1 E7.out.2 HZ.out q2, E7.out.2.of (Nat.le_of_lt HZ.out)⟩, ⟨rn_res E8.out.1 E8.out.2 HZ.out q2, E8.out.2.of (Nat.le_of_lt HZ.out)⟩, ⟨rn_res E9.out.1 E9.out.2 HZ.out q2, E9.out.2.of (Nat.le_of_lt HZ.out)⟩⟩

end Go.Proofs.Ytnkbbclcileleaa

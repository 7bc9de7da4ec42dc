/- rec.Pool: the fields function, putters, getters (printed by gen_rec.py). -/
import Derived.Test.YtnkbbclcileleaaRecH
namespace Go.Proofs.Ytnkbbclcileleaa
open Go.Gl Go.RowKit
set_option linter.unusedVariables false
set_option maxRecDepth 100000

set_option maxHeartbeats 1000000 in
theorem pool_w {w : World} {g B : Nat} {v0 : Value} {xs : List UInt8} {u0 : Value} {l0 : List Nat} (h : Wr w g v0 xs 0) (hb : w.heap[B]? = some (.cells #[u0] 30 (0, 0))) (ne : ¬ WS g v0 B) (d0 : DV w g v0 u0 l0) (hl : xs.length ≤ 1000000) :
    Calls Try.prog 33 #[.agg #[.pointer (some ⟨g, 0, none⟩), .pointer none], .pointer (some ⟨B, 0, none⟩)] w fun r w' => r = .returned (.tuple #[]) ∧ ∃ v', WStep w g v0 (xs ++ recLay [⟨2, 0, l0⟩]) 0 w' v' := by
  have b := Lib.hid (show WB0 w g B v0 #[u0] 30 from ⟨⟨xs, h⟩, hb, ne⟩)
  have F := Lib.hid (WF.start h)
  have D0 := Lib.hid d0
  clear h hb ne d0
  obtain ⟨ys, hys⟩ : ∃ ys, recLay [⟨2, 0, l0⟩] = ys := ⟨_, rfl⟩
  rw [hys]
  have HY := Lib.hid hys
  clear hys
  obtain ⟨c0, c1, t0⟩ := F.out.tS
  have e0 : (w.alloc (.cells #[.pointer (some ⟨g, 0, none⟩), .pointer none] 111)).heap.size = w.heap.size + 1 := by simp
  have e1 : ((w.alloc (.cells #[.pointer (some ⟨g, 0, none⟩), .pointer none] 111)).alloc (.cells #[.pointer (some ⟨B, 0, none⟩)] 119)).heap[w.heap.size + 1]? = some (.cells #[.pointer (some ⟨B, 0, none⟩)] 119 (0, 0)) := e0 ▸ heap_new (w.alloc (.cells #[.pointer (some ⟨g, 0, none⟩), .pointer none] 111)) _
  have E := Lib.hid (And.intro e0 e1)
  clear e0 e1
  go_enter Try.func33, Try.ntmps33
  go_wp2_with fail
  refine (F.out.decs b.out ((Mods.refl noB _).alloc (.cells #[.pointer (some ⟨B, 0, none⟩)] 119)) (k := w.heap.size + 1) (e := 119) [0] [u0] [l0] (Nat.le_of_eq E.out.1) E.out.2 rfl rfl (Nat.le_of_ble_eq_true rfl) rfl rfl (allD_get _ _ _ (And.intro (And.intro rfl D0.out) trivial)) (by omega)).mono ?_
  rintro r w0 ⟨rfl, hq⟩
  have F0 := Lib.hid hq
  clear c0 c1 t0 hq
  go_wp2
  go_end0
  obtain ⟨⟨v', hs, _⟩, _, _⟩ := F0.out
  refine ⟨rfl, v', ?_⟩
  rw [← HY.out]
  simpa only [recLay, lay_n, lay_b, lay_d, List.flatMap_cons, List.flatMap_nil, List.append_nil, List.append_assoc] using hs

set_option maxHeartbeats 1000000 in
theorem pool_r {w : World} {g B : Nat} {v0 : Value} {s : ESt} (h : TR g B 30 v0 s #[.slice none 0 0] w) (hll : s.1.length ≤ 10000000000) :
    Calls Try.prog 33 #[.agg #[.pointer none, .pointer (some ⟨g, 0, none⟩)], .pointer (some ⟨B, 0, none⟩)] w fun r w' => r = .returned (.tuple #[]) ∧ ∃ (u0 : Value) (l0 : List Nat) (s' : ESt), rdAll [2] s = ([⟨2, 0, l0⟩], s') ∧ TRs w g B 30 v0 s' #[u0] w' ∧ (RN w' u0 l0 ∧ freshIn w u0) := by
  have F := Lib.hid (RF.start h)
  clear h
  obtain ⟨Q, hQ⟩ : ∃ Q : Ending → World → Prop, Q = (fun (r : Ending) (w' : World) => r = .returned (.tuple #[]) ∧ ∃ (u0 : Value) (l0 : List Nat) (s' : ESt), rdAll [2] s = ([⟨2, 0, l0⟩], s') ∧ TRs w g B 30 v0 s' #[u0] w' ∧ (RN w' u0 l0 ∧ freshIn w u0)) := ⟨_, rfl⟩
  show Calls _ _ _ _ (fun (r : Ending) (w' : World) => r = .returned (.tuple #[]) ∧ ∃ (u0 : Value) (l0 : List Nat) (s' : ESt), rdAll [2] s = ([⟨2, 0, l0⟩], s') ∧ TRs w g B 30 v0 s' #[u0] w' ∧ (RN w' u0 l0 ∧ freshIn w u0))
  rw [← hQ]
  have HQ := Lib.hid hQ
  clear hQ
  obtain ⟨c0, c1, t0⟩ := F.out.tS
  have e0 : (w.alloc (.cells #[.pointer none, .pointer (some ⟨g, 0, none⟩)] 111)).heap.size = w.heap.size + 1 := by simp
  have e1 : ((w.alloc (.cells #[.pointer none, .pointer (some ⟨g, 0, none⟩)] 111)).alloc (.cells #[.pointer (some ⟨B, 0, none⟩)] 119)).heap[w.heap.size + 1]? = some (.cells #[.pointer (some ⟨B, 0, none⟩)] 119 (0, 0)) := e0 ▸ heap_new (w.alloc (.cells #[.pointer none, .pointer (some ⟨g, 0, none⟩)] 111)) _
  have E := Lib.hid (And.intro e0 e1)
  clear e0 e1
  go_enter Try.func33, Try.ntmps33
  go_wp2_with fail
  refine (F.out.decs ((Mods.refl noB _).alloc (.cells #[.pointer (some ⟨B, 0, none⟩)] 119)) (k := w.heap.size + 1) (e := 119) [0] (Nat.le_of_eq E.out.1) E.out.2 rfl rfl (Nat.le_of_ble_eq_true rfl) (allR_get rfl) hll).mono ?_
  rintro r w0 ⟨rfl, us, hu, hq⟩
  obtain ⟨u0, rfl⟩ : ∃ u, us = [u] := by rcases us with _ | ⟨u, _ | ⟨_, _⟩⟩ <;> simp at hu ⊢
  have F0 := Lib.hid (show RF w g B w.heap.size 30 v0 (natT s) #[u0] [(u0, natV s)] w0 from hq)
  clear c0 c1 t0 hq
  go_wp2
  go_end0
  rw [HQ.out]
  exact ⟨rfl, u0, (natV s), (natT s), by kernel_rfl, F0.out.st, F0.out.ds (u0, (natV s)) (by simp)⟩

theorem pool_pu (w : World) : Calls Try.prog 32 #[.func (.func 33) #[] #[]] w fun r w' => ∃ k, r = .returned (.func (.func 57) #[] #[.pointer (some ⟨k, 0, none⟩)]) ∧ w'.cell? ⟨k, 0, none⟩ = some (.func (.func 33) #[] #[]) ∧ Mods noB w w' ∧ k < w'.heap.size := by
  have hmf : ∀ (fn : Fn) (first cap : Array Value) (w : World), (Instr.makeFunc fn first cap).run Try.prog w = .ok (.func fn first cap) w := fun _ _ _ _ => rfl
  go_enter Try.func32, Try.ntmps32
  go_wp2
  go_ret
  exact ⟨_, rfl, cells_of (heap_new w _) 0, (Mods.refl _ _).alloc _, by simp⟩

set_option maxHeartbeats 1000000 in
theorem pool_p1 {w : World} {k : Nat} {u0 : Value} {l0 : List Nat} (hk : w.cell? ⟨k, 0, none⟩ = some (.func (.func 33) #[] #[])) (hkl : k < w.heap.size) (d0 : DN w u0 l0) :
    Calls Try.prog 57 #[.agg #[u0], .pointer (some ⟨k, 0, none⟩)] w fun r w' => ∃ v, r = .returned v ∧ Own w' v (recLay [⟨2, 0, l0⟩]) ∧ Mods noB w w' ∧ freshIn w v := by
  obtain ⟨zs, hz⟩ : ∃ zs, recLay [⟨2, 0, l0⟩] = zs := ⟨_, rfl⟩
  rw [hz]
  have HZ := Lib.hid hz
  clear hz
  obtain ⟨ad0, cp0, rfl, _⟩ := d0.rn.form
  have D0 := Lib.hid d0
  clear d0
  have m1 := (((Mods.refl noB w).alloc (.cells #[.slice ad0 l0.length cp0] 30)).alloc (.cells #[.slice none 0 0, .int .i64 0] 108)).alloc (.cells #[.pointer (some ⟨w.heap.size + 1, 0, none⟩), .pointer none] 111)
  have c1 := (m1.cellAt hkl (fun x => x) 0).trans hk
  have P := Lib.hid (put_pre w #[.slice ad0 l0.length cp0] 30 _ rfl)
  clear hk m1
  go_enter Try.func57, Try.ntmps57
  go_wp2_with fail
  generalize World.alloc (World.alloc (World.alloc w _) _) _ = wx at *
  obtain ⟨p1, p2, p3, p4, p5, p6, p7⟩ := P.out
  refine (pool_w p1 p2 p3 (D0.out.dv p5 (Nat.le_succ _)) (by simp)).mono ?_
  rintro r w4 ⟨rfl, v', hs⟩
  rw [List.nil_append, HZ.out] at hs
  have hzl := Lib.hid (show zs.length ≤ 140737488355328 from HZ.out ▸ Nat.le_trans (recLay_len _) (Nat.le_of_ble_eq_true rfl))
  have d1 := cells_of (hs.mods.heap p4 p7) 0
  have M := Lib.hid (p5.trans hs.mods (U := noB) (fun _ _ x => x) (fun i hi x => ws_new x hi))
  have F := Lib.hid hs
  clear hs p1 p2 p3 p4 p5 p6 p7 P c1
  go_wp2_with fail
  refine (WOut_any F.out.wr hzl.out).mono ?_
  rintro r w5 ⟨u, rfl, o1, o2, o3⟩
  obtain ⟨ua, uc, rfl, _⟩ := o1.rd.form
  have O := Lib.hid (And.intro o1 (And.intro o2 o3))
  clear o1 o2 o3 d1
  go_wp2
  go_ret
  obtain ⟨o1, o2, o3⟩ := O.out
  exact ⟨_, rfl, o1, M.out.then0 o2, o3.of M.out.size⟩

set_option maxHeartbeats 1000000 in
theorem pool_put {w : World} {u0 : Value} {l0 : List Nat} (d0 : DN w u0 l0) :
    Calls Try.prog 10 #[.agg #[u0]] w fun r w' => ∃ v, r = .returned v ∧ Own w' v (recLay [⟨2, 0, l0⟩]) ∧ Mods noB w w' ∧ freshIn w v := by
  obtain ⟨zs, hz⟩ : ∃ zs, recLay [⟨2, 0, l0⟩] = zs := ⟨_, rfl⟩
  rw [hz]
  have HZ := Lib.hid hz
  clear hz
  obtain ⟨ad0, cp0, rfl, _⟩ := d0.rn.form
  have D0 := Lib.hid d0
  clear d0
  have P := Lib.hid (put_box w #[.slice ad0 l0.length cp0] 30 _ rfl)
  go_enter Try.func10, Try.ntmps10
  go_wp2
  generalize World.alloc w _ = w1 at *
  have HS := Lib.hid (fun b (hm : Mods noB w1 b) => have h := blk_step hm P.out.1; show b.cell? ⟨w.heap.size, 0, none⟩ = some (.slice ad0 l0.length cp0) ∧ Mods noB w1 b from ⟨cells_of h 0, hm⟩)
  go_region_held3 (fun b => b.cell? ⟨w.heap.size, 0, none⟩ = some (.slice ad0 l0.length cp0) ∧ Mods noB w1 b)
    ((refine HS.out _ ?_; exact (by repeat' (first | (with_reducible exact Mods.refl _ _) | (with_reducible assumption) | (with_reducible refine Mods.alloc ?_ _) | (with_reducible refine Mods.drew ?_) | (with_reducible refine Mods.drewN ?_ _) | (with_reducible refine Mods.regrown ?_ _ _) | (with_reducible refine Mods.setCell ?_ ?_ _) | (refine .inr ?_; first | (simp; done) | (simp; omega) | omega)))))
    ((first
      | (go_at_call 32; refine (pool_pu _).mono ?_; rintro r w2 ⟨k, rfl, k1, k2, k3⟩; (try replace k2 := Mods.undrew k2))
      | (go_at_call 57; refine (pool_p1 (k := k) (l0 := l0) ?_ ?_ ?_).mono ?_; (next => (refine fn_step ?_ k1 k3; exact (by repeat' (first | (with_reducible exact Mods.refl _ _) | (with_reducible assumption) | (with_reducible refine Mods.alloc ?_ _) | (with_reducible refine Mods.drew ?_) | (with_reducible refine Mods.drewN ?_ _) | (with_reducible refine Mods.regrown ?_ _ _) | (with_reducible refine Mods.setCell ?_ ?_ _) | (refine .inr ?_; first | (simp; done) | (simp; omega) | omega))))); (next => (refine Mods.size_of (S := noB) (a := w2) ?_ k3; exact (by repeat' (first | (with_reducible exact Mods.refl _ _) | (with_reducible assumption) | (with_reducible refine Mods.alloc ?_ _) | (with_reducible refine Mods.drew ?_) | (with_reducible refine Mods.drewN ?_ _) | (with_reducible refine Mods.regrown ?_ _ _) | (with_reducible refine Mods.setCell ?_ ?_ _) | (refine .inr ?_; first | (simp; done) | (simp; omega) | omega))))); (next => (refine DN.keep (w := w) D0.out ?_; refine Mods.then0 P.out.2.1 ?_; exact (by repeat' (first | (with_reducible exact Mods.refl _ _) | (with_reducible assumption) | (with_reducible refine Mods.alloc ?_ _) | (with_reducible refine Mods.drew ?_) | (with_reducible refine Mods.drewN ?_ _) | (with_reducible refine Mods.regrown ?_ _ _) | (with_reducible refine Mods.setCell ?_ ?_ _) | (refine .inr ?_; first | (simp; done) | (simp; omega) | omega))))); rintro r w3 ⟨v, rfl, o1, o2, o3⟩; replace o1 := HZ.out ▸ o1; (try replace o2 := Mods.undrew o2); replace o2 := Mods.then0 k2 o2)))
  go_wp2
  go_ret
  exact ⟨_, rfl, o1, P.out.2.1.then0 o2, o3.of (Nat.le_trans P.out.2.1.size k2.size)⟩


theorem pool_size : (Try.prog.info? 30).map (·.size) = some 1 := by kernel_rfl



end Go.Proofs.Ytnkbbclcileleaa

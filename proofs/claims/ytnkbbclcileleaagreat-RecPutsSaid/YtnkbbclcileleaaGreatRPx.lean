/- gleanref8.Put..: each lays its record (printed by gen_rput.py). -/
import Derived.Test.YtnkbbclcileleaaGreatRFPut
import Derived.Test.YtnkbbclcileleaaGreatZA
namespace Go.Proofs.YtnkbbclcileleaaGreat
open Go.Gl Go.RowKit
set_option linter.unusedVariables false
set_option maxRecDepth 100000

theorem heap_at1 {w : World} (o : Obj) (n : Nat) (h : n = w.heap.size) : (w.alloc o).heap[n]? = some o := by subst h; exact heap_new w o
theorem rn_lit (ns : List Nat) {w : World} {k len : Nat} {cs : Array Value} (hb : w.heap[k]? = some (.cells cs 22 (0, 0))) (hl : ns.length = len) (hm : Nat.ble len 100 = true) (hc : cs.toList = ns.map u64) : RN w (.slice (some ⟨k, 0, none⟩) len len) ns := by
  have hs : cs.size = ns.length := by rw [← Array.length_toList, hc, List.length_map]
  have := Nat.le_of_ble_eq_true hm
  refine rdM_of hl (Nat.le_refl _) (by simp only [maxLen]; omega) (.inr (lt_of_heap hb)) (fun i hi => ?_)
  rw [cells_of hb, Nat.zero_add, ← Array.getElem?_toList, hc]
  simp [hi]

/-- one append more, behind what lies in new memory -/
theorem Grow.app {w0 w wz w' : World} {xs ys : List UInt8} {v v' : Value} (h : Grow w0 xs w v) (m : Mods noB w wz) (a : Appended wz v ys w' v') : Grow w0 ys w' v' := (h.then0 m).more a.own a.mods a.blk

theorem Grow.u {w0 w wz : World} {xs : List UInt8} {v : Value} (h : Grow w0 xs w v) (m : Mods noB w wz) {k len : Nat} {cs : Array Value} (ns : List Nat) (hk : w.heap.size ≤ k) (hb : wz.heap[k]? = some (.cells cs 22 (0, 0))) (hl : ns.length = len) (hm : Nat.ble len 100 = true) (hc : cs.toList = ns.map u64) (hn : Lim ns) (hx : xs.length ≤ 1000000) :
    Calls Tryz.prog 77 #[v, .slice (some ⟨k, 0, none⟩) len len] wz fun e w' => ∃ v', e = .returned v' ∧ Grow w0 (xs ++ ns.flatMap (be 8)) w' v' ∧ Appended wz v (xs ++ ns.flatMap (be 8)) w' v' := by
  refine (u_any (h.own.keep m (fun _ _ x => x)) (rn_lit ns hb hl hm hc) hn (by have := Nat.le_of_ble_eq_true hm; omega) (fun i hi x => ?_) hx).mono ?_
  · have h1 := h.own.lt i x
    simp [Value.ownBlock] at hi
    omega
  · rintro e w' ⟨v', rfl, a⟩
    exact ⟨v', rfl, h.app m a, a⟩

theorem Grow.d {w0 w wz : World} {xs : List UInt8} {v u : Value} {l : List Nat} (h : Grow w0 xs w v) (m : Mods noB w wz) (D : DN w0 u l) (hx : xs.length ≤ 1000000) :
    Calls Tryz.prog 78 #[v, .agg #[u]] wz fun e w' => ∃ v', e = .returned v' ∧ Grow w0 (xs ++ dlay l) w' v' ∧ Appended wz v (xs ++ dlay l) w' v' := by
  have D2 := D.keep (h.mods.then0 m)
  refine (d_any (h.own.keep m (fun _ _ x => x)) D2.rn D2.lim D2.len hx).mono ?_
  rintro e w' ⟨v', rfl, a⟩
  exact ⟨v', rfl, h.app m a, a⟩

theorem Grow.flag {w0 w wz : World} {xs : List UInt8} {v : Value} (h : Grow w0 xs w v) (m : Mods noB w wz) (b : Bool) (hx : xs.length ≤ 1000000) :
    Calls Tryz.prog 79 #[v, .bool b] wz fun e w' => ∃ v', e = .returned v' ∧ Grow w0 (xs ++ be 1 (if b then 1 else 0)) w' v' ∧ Appended wz v (xs ++ be 1 (if b then 1 else 0)) w' v' := by
  refine (flag_any b (h.own.keep m (fun _ _ x => x)) hx).mono ?_
  rintro e w' ⟨v', rfl, a⟩
  exact ⟨v', rfl, h.app m a, a⟩

theorem lend (xs : List UInt8) (l : List Nat) : (xs ++ dlay l).length ≤ xs.length + 1000 := by
  have := dlay_len l
  rw [List.length_append]
  omega

/-- .. where the list of numbers was made ahead of the append before -/
theorem Grow.u2 {w0 w wz w1 wy : World} {xs ys : List UInt8} {v v1 : Value} (h : Grow w0 xs w v) (mz : Mods noB w wz) (a : Appended wz v ys w1 v1) (my : Mods noB w1 wy) {k len : Nat} {cs : Array Value} (ns : List Nat) (hk : w.heap.size ≤ k) (hb : wz.heap[k]? = some (.cells cs 22 (0, 0))) (hl : ns.length = len) (hm : Nat.ble len 100 = true) (hc : cs.toList = ns.map u64) (hn : Lim ns) (hx : ys.length ≤ 1000000) :
    Calls Tryz.prog 77 #[v1, .slice (some ⟨k, 0, none⟩) len len] wy fun e w' => ∃ v', e = .returned v' ∧ Grow w0 (ys ++ ns.flatMap (be 8)) w' v' ∧ Appended wy v1 (ys ++ ns.flatMap (be 8)) w' v' := by
  have hne : v.ownBlock ≠ some k := fun e => by have := h.own.lt k e; omega
  have hne1 : v1.ownBlock ≠ some k := fun e => by
    rcases a.blk with hb1 | hb1
    · exact hne (hb1 ▸ e)
    · have := hb1 k e
      have := lt_of_heap hb
      omega
  have hb2 := blk_step my (a.mods.heap hb (fun e => hne e))
  refine (u_any (a.own.keep my (fun _ _ x => x)) (rn_lit ns hb2 hl hm hc) hn (by have := Nat.le_of_ble_eq_true hm; omega) (fun i hi x => ?_) hx).mono ?_
  · simp [Value.ownBlock] at hi
    subst hi
    exact hne1 x
  · rintro e w' ⟨v', rfl, b⟩
    exact ⟨v', rfl, (h.app mz a).app my b, b⟩


set_option maxHeartbeats 2000000 in
theorem params_rput {w : World} {n0 n1 n2 n3 n4 n5 n6 n7 n8 n9 : Nat} (hn : Lim [n0, n1, n2, n3, n4, n5, n6, n7, n8, n9])  :
    Calls Tryz.prog 20 #[.agg #[.int .u64 n0, .int .u64 n1, .int .u64 n2, .int .u64 n3, .int .u64 n4, .int .u64 n5, .int .u64 n6, .int .u64 n7, .int .u64 n8, .int .u64 n9]] w fun r w' => ∃ v, r = .returned v ∧ Own w' v (recLay [⟨0, n0, []⟩, ⟨0, n1, []⟩, ⟨0, n2, []⟩, ⟨0, n3, []⟩, ⟨0, n4, []⟩, ⟨0, n5, []⟩, ⟨0, n6, []⟩, ⟨0, n7, []⟩, ⟨0, n8, []⟩, ⟨0, n9, []⟩]) ∧ Mods noB w w' ∧ freshIn w v := by
  obtain ⟨zs, hz⟩ : ∃ zs, recLay [⟨0, n0, []⟩, ⟨0, n1, []⟩, ⟨0, n2, []⟩, ⟨0, n3, []⟩, ⟨0, n4, []⟩, ⟨0, n5, []⟩, ⟨0, n6, []⟩, ⟨0, n7, []⟩, ⟨0, n8, []⟩, ⟨0, n9, []⟩] = zs := ⟨_, rfl⟩
  rw [hz]
  have HZ := Lib.hid hz
  have HN := Lib.hid hn
  clear hz hn 
  have P := Lib.hid (put_box w #[.int .u64 n0, .int .u64 n1, .int .u64 n2, .int .u64 n3, .int .u64 n4, .int .u64 n5, .int .u64 n6, .int .u64 n7, .int .u64 n8, .int .u64 n9] 24 _ rfl)
  go_enter Tryz.func20, Tryz.ntmps20
  have q0 := cells_of P.out.1 0
  have q1 := cells_of P.out.1 1
  have q2 := cells_of P.out.1 2
  have q3 := cells_of P.out.1 3
  have q4 := cells_of P.out.1 4
  have q5 := cells_of P.out.1 5
  have q6 := cells_of P.out.1 6
  have q7 := cells_of P.out.1 7
  have q8 := cells_of P.out.1 8
  have q9 := cells_of P.out.1 9
  go_wp2_with fail
  generalize World.alloc w (.cells #[.int .u64 n0, .int .u64 n1, .int .u64 n2, .int .u64 n3, .int .u64 n4, .int .u64 n5, .int .u64 n6, .int .u64 n7, .int .u64 n8, .int .u64 n9] 24) = wx at *
  have G0 := Lib.hid (Grow.nil wx)
  have hl0 : ([] : List UInt8).length ≤ 0 := Nat.le_refl _
  refine (G0.out.u ?_ [n0, n1, n2, n3, n4, n5, n6, n7, n8, n9] ?_ ?_ rfl rfl rfl ?_ ?_).mono ?_
  (next => exact (by repeat' (first | (with_reducible exact Mods.refl _ _) | (with_reducible assumption) | (with_reducible refine Mods.alloc ?_ _) | (with_reducible refine Mods.drew ?_) | (with_reducible refine Mods.drewN ?_ _) | (with_reducible refine Mods.regrown ?_ _ _) | (with_reducible refine Mods.setCell ?_ ?_ _) | (refine .inr ?_; first | (simp; done) | (simp; omega) | omega))))
  (next => first | exact Nat.le_refl _ | exact Nat.le_of_eq P.out.2.2)
  (next => first | exact heap_new _ _ | exact heap_at1 _ _ P.out.2.2.symm)
  (next => exact HN.out)
  (next => omega)
  rintro r w1 ⟨v1, rfl, h1, a1⟩
  have G1 := Lib.hid h1
  have A1 := Lib.hid a1
  have hl1 := lenU ([] : List UInt8) [n0, n1, n2, n3, n4, n5, n6, n7, n8, n9] (Nat.le_of_ble_eq_true rfl)
  have m1 := h1.mods
  clear h1 a1
  go_wp2
  go_ret
  refine ⟨v1, rfl, ?_, P.out.2.1.then0 G1.out.mods, G1.out.fresh.of P.out.2.1.size⟩
  have hz := HZ.out
  have ho := G1.out.own
  rw [← hz]
  simpa only [recLay, lay_n, lay_b, lay_d, List.flatMap_cons, List.flatMap_nil, List.append_nil, List.nil_append, List.append_assoc] using ho

set_option maxHeartbeats 2000000 in
theorem chain_rput {w : World} {n0 n1 : Nat} (hn : Lim [n0, n1])  :
    Calls Tryz.prog 21 #[.agg #[.int .u64 n0, .int .u64 n1]] w fun r w' => ∃ v, r = .returned v ∧ Own w' v (recLay [⟨0, n0, []⟩, ⟨0, n1, []⟩]) ∧ Mods noB w w' ∧ freshIn w v := by
  obtain ⟨zs, hz⟩ : ∃ zs, recLay [⟨0, n0, []⟩, ⟨0, n1, []⟩] = zs := ⟨_, rfl⟩
  rw [hz]
  have HZ := Lib.hid hz
  have HN := Lib.hid hn
  clear hz hn 
  have P := Lib.hid (put_box w #[.int .u64 n0, .int .u64 n1] 26 _ rfl)
  go_enter Tryz.func21, Tryz.ntmps21
  have q0 := cells_of P.out.1 0
  have q1 := cells_of P.out.1 1
  go_wp2_with fail
  generalize World.alloc w (.cells #[.int .u64 n0, .int .u64 n1] 26) = wx at *
  have G0 := Lib.hid (Grow.nil wx)
  have hl0 : ([] : List UInt8).length ≤ 0 := Nat.le_refl _
  refine (G0.out.u ?_ [n0, n1] ?_ ?_ rfl rfl rfl ?_ ?_).mono ?_
  (next => exact (by repeat' (first | (with_reducible exact Mods.refl _ _) | (with_reducible assumption) | (with_reducible refine Mods.alloc ?_ _) | (with_reducible refine Mods.drew ?_) | (with_reducible refine Mods.drewN ?_ _) | (with_reducible refine Mods.regrown ?_ _ _) | (with_reducible refine Mods.setCell ?_ ?_ _) | (refine .inr ?_; first | (simp; done) | (simp; omega) | omega))))
  (next => first | exact Nat.le_refl _ | exact Nat.le_of_eq P.out.2.2)
  (next => first | exact heap_new _ _ | exact heap_at1 _ _ P.out.2.2.symm)
  (next => exact HN.out)
  (next => omega)
  rintro r w1 ⟨v1, rfl, h1, a1⟩
  have G1 := Lib.hid h1
  have A1 := Lib.hid a1
  have hl1 := lenU ([] : List UInt8) [n0, n1] (Nat.le_of_ble_eq_true rfl)
  have m1 := h1.mods
  clear h1 a1
  go_wp2
  go_ret
  refine ⟨v1, rfl, ?_, P.out.2.1.then0 G1.out.mods, G1.out.fresh.of P.out.2.1.size⟩
  have hz := HZ.out
  have ho := G1.out.own
  rw [← hz]
  simpa only [recLay, lay_n, lay_b, lay_d, List.flatMap_cons, List.flatMap_nil, List.append_nil, List.nil_append, List.append_assoc] using ho

set_option maxHeartbeats 2000000 in
theorem pool_rput {w : World} {u0 : Value} {l0 : List Nat} (d0 : DN w u0 l0) :
    Calls Tryz.prog 22 #[.agg #[u0]] w fun r w' => ∃ v, r = .returned v ∧ Own w' v (recLay [⟨2, 0, l0⟩]) ∧ Mods noB w w' ∧ freshIn w v := by
  obtain ⟨zs, hz⟩ : ∃ zs, recLay [⟨2, 0, l0⟩] = zs := ⟨_, rfl⟩
  rw [hz]
  have HZ := Lib.hid hz
  obtain ⟨a0, c0, rfl, _⟩ := d0.rn.form
  have D0 := Lib.hid d0
  clear hz d0
  have P := Lib.hid (put_box w #[.slice a0 l0.length c0] 30 _ rfl)
  go_enter Tryz.func22, Tryz.ntmps22
  have q0 := cells_of P.out.1 0
  go_wp2_with fail
  generalize World.alloc w (.cells #[.slice a0 l0.length c0] 30) = wx at *
  have G0 := Lib.hid (Grow.nil wx)
  have E0 := Lib.hid (D0.out.keep P.out.2.1)
  have hl0 : ([] : List UInt8).length ≤ 0 := Nat.le_refl _
  refine (G0.out.d ?_ E0.out ?_).mono ?_
  (next => exact (by repeat' (first | (with_reducible exact Mods.refl _ _) | (with_reducible assumption) | (with_reducible refine Mods.alloc ?_ _) | (with_reducible refine Mods.drew ?_) | (with_reducible refine Mods.drewN ?_ _) | (with_reducible refine Mods.regrown ?_ _ _) | (with_reducible refine Mods.setCell ?_ ?_ _) | (refine .inr ?_; first | (simp; done) | (simp; omega) | omega))))
  (next => omega)
  rintro r w1 ⟨v1, rfl, h1, a1⟩
  have G1 := Lib.hid h1
  have A1 := Lib.hid a1
  have hl1 := lend ([] : List UInt8) l0
  have m1 := h1.mods
  clear h1 a1
  go_wp2
  go_ret
  refine ⟨v1, rfl, ?_, P.out.2.1.then0 G1.out.mods, G1.out.fresh.of P.out.2.1.size⟩
  have hz := HZ.out
  have ho := G1.out.own
  rw [← hz]
  simpa only [recLay, lay_n, lay_b, lay_d, List.flatMap_cons, List.flatMap_nil, List.append_nil, List.nil_append, List.append_assoc] using ho

set_option maxHeartbeats 2000000 in
theorem account_rput {w : World} {n0 n1 : Nat} (hn : Lim [n0, n1])  :
    Calls Tryz.prog 23 #[.agg #[.int .u64 n0, .int .u64 n1]] w fun r w' => ∃ v, r = .returned v ∧ Own w' v (recLay [⟨0, n0, []⟩, ⟨0, n1, []⟩]) ∧ Mods noB w w' ∧ freshIn w v := by
  obtain ⟨zs, hz⟩ : ∃ zs, recLay [⟨0, n0, []⟩, ⟨0, n1, []⟩] = zs := ⟨_, rfl⟩
  rw [hz]
  have HZ := Lib.hid hz
  have HN := Lib.hid hn
  clear hz hn 
  have P := Lib.hid (put_box w #[.int .u64 n0, .int .u64 n1] 32 _ rfl)
  go_enter Tryz.func23, Tryz.ntmps23
  have q0 := cells_of P.out.1 0
  have q1 := cells_of P.out.1 1
  go_wp2_with fail
  generalize World.alloc w (.cells #[.int .u64 n0, .int .u64 n1] 32) = wx at *
  have G0 := Lib.hid (Grow.nil wx)
  have hl0 : ([] : List UInt8).length ≤ 0 := Nat.le_refl _
  refine (G0.out.u ?_ [n0, n1] ?_ ?_ rfl rfl rfl ?_ ?_).mono ?_
  (next => exact (by repeat' (first | (with_reducible exact Mods.refl _ _) | (with_reducible assumption) | (with_reducible refine Mods.alloc ?_ _) | (with_reducible refine Mods.drew ?_) | (with_reducible refine Mods.drewN ?_ _) | (with_reducible refine Mods.regrown ?_ _ _) | (with_reducible refine Mods.setCell ?_ ?_ _) | (refine .inr ?_; first | (simp; done) | (simp; omega) | omega))))
  (next => first | exact Nat.le_refl _ | exact Nat.le_of_eq P.out.2.2)
  (next => first | exact heap_new _ _ | exact heap_at1 _ _ P.out.2.2.symm)
  (next => exact HN.out)
  (next => omega)
  rintro r w1 ⟨v1, rfl, h1, a1⟩
  have G1 := Lib.hid h1
  have A1 := Lib.hid a1
  have hl1 := lenU ([] : List UInt8) [n0, n1] (Nat.le_of_ble_eq_true rfl)
  have m1 := h1.mods
  clear h1 a1
  go_wp2
  go_ret
  refine ⟨v1, rfl, ?_, P.out.2.1.then0 G1.out.mods, G1.out.fresh.of P.out.2.1.size⟩
  have hz := HZ.out
  have ho := G1.out.own
  rw [← hz]
  simpa only [recLay, lay_n, lay_b, lay_d, List.flatMap_cons, List.flatMap_nil, List.append_nil, List.nil_append, List.append_assoc] using ho

set_option maxHeartbeats 2000000 in
theorem val_rput {w : World} {n0 n1 n4 n6 : Nat} {b3 b5 : Bool} {u2 u7 u8 u9 : Value} {l2 l7 l8 l9 : List Nat} (hn : Lim [n0, n1, n4, n6]) (d2 : DN w u2 l2) (d7 : DN w u7 l7) (d8 : DN w u8 l8) (d9 : DN w u9 l9) :
    Calls Tryz.prog 24 #[.agg #[.int .u64 n0, .int .u64 n1, u2, .bool b3, .int .u64 n4, .bool b5, .int .u64 n6, u7, u8, u9]] w fun r w' => ∃ v, r = .returned v ∧ Own w' v (recLay [⟨0, n0, []⟩, ⟨0, n1, []⟩, ⟨2, 0, l2⟩, ⟨1, if b3 then 1 else 0, []⟩, ⟨0, n4, []⟩, ⟨1, if b5 then 1 else 0, []⟩, ⟨0, n6, []⟩, ⟨2, 0, l7⟩, ⟨2, 0, l8⟩, ⟨2, 0, l9⟩]) ∧ Mods noB w w' ∧ freshIn w v := by
  obtain ⟨zs, hz⟩ : ∃ zs, recLay [⟨0, n0, []⟩, ⟨0, n1, []⟩, ⟨2, 0, l2⟩, ⟨1, if b3 then 1 else 0, []⟩, ⟨0, n4, []⟩, ⟨1, if b5 then 1 else 0, []⟩, ⟨0, n6, []⟩, ⟨2, 0, l7⟩, ⟨2, 0, l8⟩, ⟨2, 0, l9⟩] = zs := ⟨_, rfl⟩
  rw [hz]
  have HZ := Lib.hid hz
  have HN := Lib.hid hn
  obtain ⟨a2, c2, rfl, _⟩ := d2.rn.form
  have D2 := Lib.hid d2
  obtain ⟨a7, c7, rfl, _⟩ := d7.rn.form
  have D7 := Lib.hid d7
  obtain ⟨a8, c8, rfl, _⟩ := d8.rn.form
  have D8 := Lib.hid d8
  obtain ⟨a9, c9, rfl, _⟩ := d9.rn.form
  have D9 := Lib.hid d9
  clear hz hn d2 d7 d8 d9
  have P := Lib.hid (put_box w #[.int .u64 n0, .int .u64 n1, .slice a2 l2.length c2, .bool b3, .int .u64 n4, .bool b5, .int .u64 n6, .slice a7 l7.length c7, .slice a8 l8.length c8, .slice a9 l9.length c9] 34 _ rfl)
  go_enter Tryz.func24, Tryz.ntmps24
  go_wp2
  generalize World.alloc w _ = wx at *
  have G0 := Lib.hid (Grow.nil wx)
  have E2 := Lib.hid (D2.out.keep P.out.2.1)
  have E7 := Lib.hid (D7.out.keep P.out.2.1)
  have E8 := Lib.hid (D8.out.keep P.out.2.1)
  have E9 := Lib.hid (D9.out.keep P.out.2.1)
  have q0 : ∀ b, Mods noB wx b → b.cell? ⟨w.heap.size, 0, none⟩ = some (.int .u64 n0) := fun b hm => cells_of (blk_step hm P.out.1) 0
  have q1 : ∀ b, Mods noB wx b → b.cell? ⟨w.heap.size, 1, none⟩ = some (.int .u64 n1) := fun b hm => cells_of (blk_step hm P.out.1) 1
  have q2 : ∀ b, Mods noB wx b → b.cell? ⟨w.heap.size, 2, none⟩ = some (.slice a2 l2.length c2) := fun b hm => cells_of (blk_step hm P.out.1) 2
  have q3 : ∀ b, Mods noB wx b → b.cell? ⟨w.heap.size, 3, none⟩ = some (.bool b3) := fun b hm => cells_of (blk_step hm P.out.1) 3
  have q4 : ∀ b, Mods noB wx b → b.cell? ⟨w.heap.size, 4, none⟩ = some (.int .u64 n4) := fun b hm => cells_of (blk_step hm P.out.1) 4
  have q5 : ∀ b, Mods noB wx b → b.cell? ⟨w.heap.size, 5, none⟩ = some (.bool b5) := fun b hm => cells_of (blk_step hm P.out.1) 5
  have q6 : ∀ b, Mods noB wx b → b.cell? ⟨w.heap.size, 6, none⟩ = some (.int .u64 n6) := fun b hm => cells_of (blk_step hm P.out.1) 6
  have q7 : ∀ b, Mods noB wx b → b.cell? ⟨w.heap.size, 7, none⟩ = some (.slice a7 l7.length c7) := fun b hm => cells_of (blk_step hm P.out.1) 7
  have q8 : ∀ b, Mods noB wx b → b.cell? ⟨w.heap.size, 8, none⟩ = some (.slice a8 l8.length c8) := fun b hm => cells_of (blk_step hm P.out.1) 8
  have q9 : ∀ b, Mods noB wx b → b.cell? ⟨w.heap.size, 9, none⟩ = some (.slice a9 l9.length c9) := fun b hm => cells_of (blk_step hm P.out.1) 9
  have hl0 : ([] : List UInt8).length ≤ 0 := Nat.le_refl _
  go_region_held3 (fun b => Mods noB wx b)
    (exact (by repeat' (first | (with_reducible exact Mods.refl _ _) | (with_reducible assumption) | (with_reducible refine Mods.alloc ?_ _) | (with_reducible refine Mods.drew ?_) | (with_reducible refine Mods.drewN ?_ _) | (with_reducible refine Mods.regrown ?_ _ _) | (with_reducible refine Mods.setCell ?_ ?_ _) | (refine .inr ?_; first | (simp; done) | (simp; omega) | omega))))
    ((first
      | (go_at_call 78; refine (G1.out.d ?_ E2.out ?_).mono ?_; (next => exact (by repeat' (first | (with_reducible exact Mods.refl _ _) | (with_reducible assumption) | (with_reducible refine Mods.alloc ?_ _) | (with_reducible refine Mods.drew ?_) | (with_reducible refine Mods.drewN ?_ _) | (with_reducible refine Mods.regrown ?_ _ _) | (with_reducible refine Mods.setCell ?_ ?_ _) | (refine .inr ?_; first | (simp; done) | (simp; omega) | omega)))); (next => omega); rintro r w2 ⟨v2, rfl, h2, a2⟩; have G2 := Lib.hid h2; have A2 := Lib.hid a2; have hl2 := lend (([] : List UInt8) ++ ([n0, n1] : List Nat).flatMap (be 8)) l2; have m2 := h2.mods; clear h2 a2)
      | (go_at_call 77; refine (G0.out.u ?_ [n0, n1] ?_ ?_ rfl rfl rfl ?_ ?_).mono ?_; (next => exact (by repeat' (first | (with_reducible exact Mods.refl _ _) | (with_reducible assumption) | (with_reducible refine Mods.alloc ?_ _) | (with_reducible refine Mods.drew ?_) | (with_reducible refine Mods.drewN ?_ _) | (with_reducible refine Mods.regrown ?_ _ _) | (with_reducible refine Mods.setCell ?_ ?_ _) | (refine .inr ?_; first | (simp; done) | (simp; omega) | omega)))); (next => first | exact Nat.le_refl _ | exact Nat.le_of_eq P.out.2.2); (next => first | exact heap_new _ _ | exact heap_at1 _ _ P.out.2.2.symm); (next => exact (fun x hx => HN.out x (by simp at hx ⊢; omega))); (next => omega); rintro r w1 ⟨v1, rfl, h1, a1⟩; have G1 := Lib.hid h1; have A1 := Lib.hid a1; have hl1 := lenU ([] : List UInt8) [n0, n1] (Nat.le_of_ble_eq_true rfl); have m1 := h1.mods; clear h1 a1)))
  all_goals go_wp2
  all_goals go_region_held3 (fun b => Mods noB wx b)
    (exact (by repeat' (first | (with_reducible exact Mods.refl _ _) | (with_reducible assumption) | (with_reducible refine Mods.alloc ?_ _) | (with_reducible refine Mods.drew ?_) | (with_reducible refine Mods.drewN ?_ _) | (with_reducible refine Mods.regrown ?_ _ _) | (with_reducible refine Mods.setCell ?_ ?_ _) | (refine .inr ?_; first | (simp; done) | (simp; omega) | omega))))
    ((first
      | (go_at_call 77; refine (Grow.u2 G2.out ?_ A3.out ?_ [n4] ?_ ?_ rfl rfl rfl ?_ ?_).mono ?_; (next => exact (by repeat' (first | (with_reducible exact Mods.refl _ _) | (with_reducible assumption) | (with_reducible refine Mods.alloc ?_ _) | (with_reducible refine Mods.drew ?_) | (with_reducible refine Mods.drewN ?_ _) | (with_reducible refine Mods.regrown ?_ _ _) | (with_reducible refine Mods.setCell ?_ ?_ _) | (refine .inr ?_; first | (simp; done) | (simp; omega) | omega)))); (next => exact (by repeat' (first | (with_reducible exact Mods.refl _ _) | (with_reducible assumption) | (with_reducible refine Mods.alloc ?_ _) | (with_reducible refine Mods.drew ?_) | (with_reducible refine Mods.drewN ?_ _) | (with_reducible refine Mods.regrown ?_ _ _) | (with_reducible refine Mods.setCell ?_ ?_ _) | (refine .inr ?_; first | (simp; done) | (simp; omega) | omega)))); (next => exact Nat.le_refl _); (next => first | exact heap_new _ _ | exact heap_at1 _ _ P.out.2.2.symm); (next => exact (fun x hx => HN.out x (by simp at hx ⊢; omega))); (next => omega); rintro r w4 ⟨v4, rfl, h4, a4⟩; have G4 := Lib.hid h4; have A4 := Lib.hid a4; have hl4 := lenU (((([] : List UInt8) ++ ([n0, n1] : List Nat).flatMap (be 8)) ++ dlay l2) ++ be 1 (if b3 then 1 else 0)) [n4] (Nat.le_of_ble_eq_true rfl); have m4 := h4.mods; clear h4 a4)
      | (go_at_call 77; refine (G3.out.u ?_ [n4] ?_ ?_ rfl rfl rfl ?_ ?_).mono ?_; (next => exact (by repeat' (first | (with_reducible exact Mods.refl _ _) | (with_reducible assumption) | (with_reducible refine Mods.alloc ?_ _) | (with_reducible refine Mods.drew ?_) | (with_reducible refine Mods.drewN ?_ _) | (with_reducible refine Mods.regrown ?_ _ _) | (with_reducible refine Mods.setCell ?_ ?_ _) | (refine .inr ?_; first | (simp; done) | (simp; omega) | omega)))); (next => first | exact Nat.le_refl _ | exact Nat.le_of_eq P.out.2.2); (next => first | exact heap_new _ _ | exact heap_at1 _ _ P.out.2.2.symm); (next => exact (fun x hx => HN.out x (by simp at hx ⊢; omega))); (next => omega); rintro r w4 ⟨v4, rfl, h4, a4⟩; have G4 := Lib.hid h4; have A4 := Lib.hid a4; have hl4 := lenU (((([] : List UInt8) ++ ([n0, n1] : List Nat).flatMap (be 8)) ++ dlay l2) ++ be 1 (if b3 then 1 else 0)) [n4] (Nat.le_of_ble_eq_true rfl); have m4 := h4.mods; clear h4 a4)
      | (go_at_call 79; refine (G2.out.flag ?_ b3 ?_).mono ?_; (next => exact (by repeat' (first | (with_reducible exact Mods.refl _ _) | (with_reducible assumption) | (with_reducible refine Mods.alloc ?_ _) | (with_reducible refine Mods.drew ?_) | (with_reducible refine Mods.drewN ?_ _) | (with_reducible refine Mods.regrown ?_ _ _) | (with_reducible refine Mods.setCell ?_ ?_ _) | (refine .inr ?_; first | (simp; done) | (simp; omega) | omega)))); (next => omega); rintro r w3 ⟨v3, rfl, h3, a3⟩; have G3 := Lib.hid h3; have A3 := Lib.hid a3; have hl3 := lenB ((([] : List UInt8) ++ ([n0, n1] : List Nat).flatMap (be 8)) ++ dlay l2) (if b3 then 1 else 0); have m3 := h3.mods; clear h3 a3)))
  all_goals go_wp2
  all_goals go_region_held3 (fun b => Mods noB wx b)
    (exact (by repeat' (first | (with_reducible exact Mods.refl _ _) | (with_reducible assumption) | (with_reducible refine Mods.alloc ?_ _) | (with_reducible refine Mods.drew ?_) | (with_reducible refine Mods.drewN ?_ _) | (with_reducible refine Mods.regrown ?_ _ _) | (with_reducible refine Mods.setCell ?_ ?_ _) | (refine .inr ?_; first | (simp; done) | (simp; omega) | omega))))
    ((first
      | (go_at_call 77; refine (Grow.u2 G4.out ?_ A5.out ?_ [n6] ?_ ?_ rfl rfl rfl ?_ ?_).mono ?_; (next => exact (by repeat' (first | (with_reducible exact Mods.refl _ _) | (with_reducible assumption) | (with_reducible refine Mods.alloc ?_ _) | (with_reducible refine Mods.drew ?_) | (with_reducible refine Mods.drewN ?_ _) | (with_reducible refine Mods.regrown ?_ _ _) | (with_reducible refine Mods.setCell ?_ ?_ _) | (refine .inr ?_; first | (simp; done) | (simp; omega) | omega)))); (next => exact (by repeat' (first | (with_reducible exact Mods.refl _ _) | (with_reducible assumption) | (with_reducible refine Mods.alloc ?_ _) | (with_reducible refine Mods.drew ?_) | (with_reducible refine Mods.drewN ?_ _) | (with_reducible refine Mods.regrown ?_ _ _) | (with_reducible refine Mods.setCell ?_ ?_ _) | (refine .inr ?_; first | (simp; done) | (simp; omega) | omega)))); (next => exact Nat.le_refl _); (next => first | exact heap_new _ _ | exact heap_at1 _ _ P.out.2.2.symm); (next => exact (fun x hx => HN.out x (by simp at hx ⊢; omega))); (next => omega); rintro r w6 ⟨v6, rfl, h6, a6⟩; have G6 := Lib.hid h6; have A6 := Lib.hid a6; have hl6 := lenU (((((([] : List UInt8) ++ ([n0, n1] : List Nat).flatMap (be 8)) ++ dlay l2) ++ be 1 (if b3 then 1 else 0)) ++ ([n4] : List Nat).flatMap (be 8)) ++ be 1 (if b5 then 1 else 0)) [n6] (Nat.le_of_ble_eq_true rfl); have m6 := h6.mods; clear h6 a6)
      | (go_at_call 77; refine (G5.out.u ?_ [n6] ?_ ?_ rfl rfl rfl ?_ ?_).mono ?_; (next => exact (by repeat' (first | (with_reducible exact Mods.refl _ _) | (with_reducible assumption) | (with_reducible refine Mods.alloc ?_ _) | (with_reducible refine Mods.drew ?_) | (with_reducible refine Mods.drewN ?_ _) | (with_reducible refine Mods.regrown ?_ _ _) | (with_reducible refine Mods.setCell ?_ ?_ _) | (refine .inr ?_; first | (simp; done) | (simp; omega) | omega)))); (next => first | exact Nat.le_refl _ | exact Nat.le_of_eq P.out.2.2); (next => first | exact heap_new _ _ | exact heap_at1 _ _ P.out.2.2.symm); (next => exact (fun x hx => HN.out x (by simp at hx ⊢; omega))); (next => omega); rintro r w6 ⟨v6, rfl, h6, a6⟩; have G6 := Lib.hid h6; have A6 := Lib.hid a6; have hl6 := lenU (((((([] : List UInt8) ++ ([n0, n1] : List Nat).flatMap (be 8)) ++ dlay l2) ++ be 1 (if b3 then 1 else 0)) ++ ([n4] : List Nat).flatMap (be 8)) ++ be 1 (if b5 then 1 else 0)) [n6] (Nat.le_of_ble_eq_true rfl); have m6 := h6.mods; clear h6 a6)
      | (go_at_call 79; refine (G4.out.flag ?_ b5 ?_).mono ?_; (next => exact (by repeat' (first | (with_reducible exact Mods.refl _ _) | (with_reducible assumption) | (with_reducible refine Mods.alloc ?_ _) | (with_reducible refine Mods.drew ?_) | (with_reducible refine Mods.drewN ?_ _) | (with_reducible refine Mods.regrown ?_ _ _) | (with_reducible refine Mods.setCell ?_ ?_ _) | (refine .inr ?_; first | (simp; done) | (simp; omega) | omega)))); (next => omega); rintro r w5 ⟨v5, rfl, h5, a5⟩; have G5 := Lib.hid h5; have A5 := Lib.hid a5; have hl5 := lenB ((((([] : List UInt8) ++ ([n0, n1] : List Nat).flatMap (be 8)) ++ dlay l2) ++ be 1 (if b3 then 1 else 0)) ++ ([n4] : List Nat).flatMap (be 8)) (if b5 then 1 else 0); have m5 := h5.mods; clear h5 a5)))
  all_goals go_wp2
  all_goals go_region_held3 (fun b => Mods noB wx b)
    (exact (by repeat' (first | (with_reducible exact Mods.refl _ _) | (with_reducible assumption) | (with_reducible refine Mods.alloc ?_ _) | (with_reducible refine Mods.drew ?_) | (with_reducible refine Mods.drewN ?_ _) | (with_reducible refine Mods.regrown ?_ _ _) | (with_reducible refine Mods.setCell ?_ ?_ _) | (refine .inr ?_; first | (simp; done) | (simp; omega) | omega))))
    ((first
      | (go_at_call 78; refine (G8.out.d ?_ E9.out ?_).mono ?_; (next => exact (by repeat' (first | (with_reducible exact Mods.refl _ _) | (with_reducible assumption) | (with_reducible refine Mods.alloc ?_ _) | (with_reducible refine Mods.drew ?_) | (with_reducible refine Mods.drewN ?_ _) | (with_reducible refine Mods.regrown ?_ _ _) | (with_reducible refine Mods.setCell ?_ ?_ _) | (refine .inr ?_; first | (simp; done) | (simp; omega) | omega)))); (next => omega); rintro r w9 ⟨v9, rfl, h9, a9⟩; have G9 := Lib.hid h9; have A9 := Lib.hid a9; have hl9 := lend ((((((((([] : List UInt8) ++ ([n0, n1] : List Nat).flatMap (be 8)) ++ dlay l2) ++ be 1 (if b3 then 1 else 0)) ++ ([n4] : List Nat).flatMap (be 8)) ++ be 1 (if b5 then 1 else 0)) ++ ([n6] : List Nat).flatMap (be 8)) ++ dlay l7) ++ dlay l8) l9; have m9 := h9.mods; clear h9 a9)
      | (go_at_call 78; refine (G7.out.d ?_ E8.out ?_).mono ?_; (next => exact (by repeat' (first | (with_reducible exact Mods.refl _ _) | (with_reducible assumption) | (with_reducible refine Mods.alloc ?_ _) | (with_reducible refine Mods.drew ?_) | (with_reducible refine Mods.drewN ?_ _) | (with_reducible refine Mods.regrown ?_ _ _) | (with_reducible refine Mods.setCell ?_ ?_ _) | (refine .inr ?_; first | (simp; done) | (simp; omega) | omega)))); (next => omega); rintro r w8 ⟨v8, rfl, h8, a8⟩; have G8 := Lib.hid h8; have A8 := Lib.hid a8; have hl8 := lend (((((((([] : List UInt8) ++ ([n0, n1] : List Nat).flatMap (be 8)) ++ dlay l2) ++ be 1 (if b3 then 1 else 0)) ++ ([n4] : List Nat).flatMap (be 8)) ++ be 1 (if b5 then 1 else 0)) ++ ([n6] : List Nat).flatMap (be 8)) ++ dlay l7) l8; have m8 := h8.mods; clear h8 a8)
      | (go_at_call 78; refine (G6.out.d ?_ E7.out ?_).mono ?_; (next => exact (by repeat' (first | (with_reducible exact Mods.refl _ _) | (with_reducible assumption) | (with_reducible refine Mods.alloc ?_ _) | (with_reducible refine Mods.drew ?_) | (with_reducible refine Mods.drewN ?_ _) | (with_reducible refine Mods.regrown ?_ _ _) | (with_reducible refine Mods.setCell ?_ ?_ _) | (refine .inr ?_; first | (simp; done) | (simp; omega) | omega)))); (next => omega); rintro r w7 ⟨v7, rfl, h7, a7⟩; have G7 := Lib.hid h7; have A7 := Lib.hid a7; have hl7 := lend ((((((([] : List UInt8) ++ ([n0, n1] : List Nat).flatMap (be 8)) ++ dlay l2) ++ be 1 (if b3 then 1 else 0)) ++ ([n4] : List Nat).flatMap (be 8)) ++ be 1 (if b5 then 1 else 0)) ++ ([n6] : List Nat).flatMap (be 8)) l7; have m7 := h7.mods; clear h7 a7)))
  all_goals go_wp2
  all_goals go_ret
  all_goals refine ⟨v9, rfl, ?_, P.out.2.1.then0 G9.out.mods, G9.out.fresh.of P.out.2.1.size⟩
  all_goals have hz := HZ.out
  all_goals have ho := G9.out.own
  all_goals rw [← hz]
  all_goals simpa only [recLay, lay_n, lay_b, lay_d, List.flatMap_cons, List.flatMap_nil, List.append_nil, List.nil_append, List.append_assoc] using ho

set_option maxHeartbeats 2000000 in
theorem delegation_rput {w : World} {n1 : Nat} {u0 u2 : Value} {l0 l2 : List Nat} (hn : Lim [n1]) (d0 : DN w u0 l0) (d2 : DN w u2 l2) :
    Calls Tryz.prog 25 #[.agg #[u0, .int .u64 n1, u2]] w fun r w' => ∃ v, r = .returned v ∧ Own w' v (recLay [⟨2, 0, l0⟩, ⟨0, n1, []⟩, ⟨2, 0, l2⟩]) ∧ Mods noB w w' ∧ freshIn w v := by
  obtain ⟨zs, hz⟩ : ∃ zs, recLay [⟨2, 0, l0⟩, ⟨0, n1, []⟩, ⟨2, 0, l2⟩] = zs := ⟨_, rfl⟩
  rw [hz]
  have HZ := Lib.hid hz
  have HN := Lib.hid hn
  obtain ⟨a0, c0, rfl, _⟩ := d0.rn.form
  have D0 := Lib.hid d0
  obtain ⟨a2, c2, rfl, _⟩ := d2.rn.form
  have D2 := Lib.hid d2
  clear hz hn d0 d2
  have P := Lib.hid (put_box w #[.slice a0 l0.length c0, .int .u64 n1, .slice a2 l2.length c2] 36 _ rfl)
  go_enter Tryz.func25, Tryz.ntmps25
  go_wp2
  generalize World.alloc w _ = wx at *
  have G0 := Lib.hid (Grow.nil wx)
  have E0 := Lib.hid (D0.out.keep P.out.2.1)
  have E2 := Lib.hid (D2.out.keep P.out.2.1)
  have q0 : ∀ b, Mods noB wx b → b.cell? ⟨w.heap.size, 0, none⟩ = some (.slice a0 l0.length c0) := fun b hm => cells_of (blk_step hm P.out.1) 0
  have q1 : ∀ b, Mods noB wx b → b.cell? ⟨w.heap.size, 1, none⟩ = some (.int .u64 n1) := fun b hm => cells_of (blk_step hm P.out.1) 1
  have q2 : ∀ b, Mods noB wx b → b.cell? ⟨w.heap.size, 2, none⟩ = some (.slice a2 l2.length c2) := fun b hm => cells_of (blk_step hm P.out.1) 2
  have hl0 : ([] : List UInt8).length ≤ 0 := Nat.le_refl _
  go_region_held3 (fun b => Mods noB wx b)
    (exact (by repeat' (first | (with_reducible exact Mods.refl _ _) | (with_reducible assumption) | (with_reducible refine Mods.alloc ?_ _) | (with_reducible refine Mods.drew ?_) | (with_reducible refine Mods.drewN ?_ _) | (with_reducible refine Mods.regrown ?_ _ _) | (with_reducible refine Mods.setCell ?_ ?_ _) | (refine .inr ?_; first | (simp; done) | (simp; omega) | omega))))
    ((first
      | (go_at_call 78; refine (G2.out.d ?_ E2.out ?_).mono ?_; (next => exact (by repeat' (first | (with_reducible exact Mods.refl _ _) | (with_reducible assumption) | (with_reducible refine Mods.alloc ?_ _) | (with_reducible refine Mods.drew ?_) | (with_reducible refine Mods.drewN ?_ _) | (with_reducible refine Mods.regrown ?_ _ _) | (with_reducible refine Mods.setCell ?_ ?_ _) | (refine .inr ?_; first | (simp; done) | (simp; omega) | omega)))); (next => omega); rintro r w3 ⟨v3, rfl, h3, a3⟩; have G3 := Lib.hid h3; have A3 := Lib.hid a3; have hl3 := lend ((([] : List UInt8) ++ dlay l0) ++ ([n1] : List Nat).flatMap (be 8)) l2; have m3 := h3.mods; clear h3 a3)
      | (go_at_call 77; refine (Grow.u2 G0.out ?_ A1.out ?_ [n1] ?_ ?_ rfl rfl rfl ?_ ?_).mono ?_; (next => exact (by repeat' (first | (with_reducible exact Mods.refl _ _) | (with_reducible assumption) | (with_reducible refine Mods.alloc ?_ _) | (with_reducible refine Mods.drew ?_) | (with_reducible refine Mods.drewN ?_ _) | (with_reducible refine Mods.regrown ?_ _ _) | (with_reducible refine Mods.setCell ?_ ?_ _) | (refine .inr ?_; first | (simp; done) | (simp; omega) | omega)))); (next => exact (by repeat' (first | (with_reducible exact Mods.refl _ _) | (with_reducible assumption) | (with_reducible refine Mods.alloc ?_ _) | (with_reducible refine Mods.drew ?_) | (with_reducible refine Mods.drewN ?_ _) | (with_reducible refine Mods.regrown ?_ _ _) | (with_reducible refine Mods.setCell ?_ ?_ _) | (refine .inr ?_; first | (simp; done) | (simp; omega) | omega)))); (next => exact Nat.le_refl _); (next => first | exact heap_new _ _ | exact heap_at1 _ _ P.out.2.2.symm); (next => exact HN.out); (next => omega); rintro r w2 ⟨v2, rfl, h2, a2⟩; have G2 := Lib.hid h2; have A2 := Lib.hid a2; have hl2 := lenU (([] : List UInt8) ++ dlay l0) [n1] (Nat.le_of_ble_eq_true rfl); have m2 := h2.mods; clear h2 a2)
      | (go_at_call 77; refine (G1.out.u ?_ [n1] ?_ ?_ rfl rfl rfl ?_ ?_).mono ?_; (next => exact (by repeat' (first | (with_reducible exact Mods.refl _ _) | (with_reducible assumption) | (with_reducible refine Mods.alloc ?_ _) | (with_reducible refine Mods.drew ?_) | (with_reducible refine Mods.drewN ?_ _) | (with_reducible refine Mods.regrown ?_ _ _) | (with_reducible refine Mods.setCell ?_ ?_ _) | (refine .inr ?_; first | (simp; done) | (simp; omega) | omega)))); (next => first | exact Nat.le_refl _ | exact Nat.le_of_eq P.out.2.2); (next => first | exact heap_new _ _ | exact heap_at1 _ _ P.out.2.2.symm); (next => exact HN.out); (next => omega); rintro r w2 ⟨v2, rfl, h2, a2⟩; have G2 := Lib.hid h2; have A2 := Lib.hid a2; have hl2 := lenU (([] : List UInt8) ++ dlay l0) [n1] (Nat.le_of_ble_eq_true rfl); have m2 := h2.mods; clear h2 a2)
      | (go_at_call 78; refine (G0.out.d ?_ E0.out ?_).mono ?_; (next => exact (by repeat' (first | (with_reducible exact Mods.refl _ _) | (with_reducible assumption) | (with_reducible refine Mods.alloc ?_ _) | (with_reducible refine Mods.drew ?_) | (with_reducible refine Mods.drewN ?_ _) | (with_reducible refine Mods.regrown ?_ _ _) | (with_reducible refine Mods.setCell ?_ ?_ _) | (refine .inr ?_; first | (simp; done) | (simp; omega) | omega)))); (next => omega); rintro r w1 ⟨v1, rfl, h1, a1⟩; have G1 := Lib.hid h1; have A1 := Lib.hid a1; have hl1 := lend ([] : List UInt8) l0; have m1 := h1.mods; clear h1 a1)))
  all_goals go_wp2
  all_goals go_ret
  all_goals refine ⟨v3, rfl, ?_, P.out.2.1.then0 G3.out.mods, G3.out.fresh.of P.out.2.1.size⟩
  all_goals have hz := HZ.out
  all_goals have ho := G3.out.own
  all_goals rw [← hz]
  all_goals simpa only [recLay, lay_n, lay_b, lay_d, List.flatMap_cons, List.flatMap_nil, List.append_nil, List.nil_append, List.append_assoc] using ho

set_option maxHeartbeats 2000000 in
theorem history_rput {w : World} {n1 : Nat} {u0 : Value} {l0 : List Nat} (hn : Lim [n1]) (d0 : DN w u0 l0) :
    Calls Tryz.prog 26 #[.agg #[u0, .int .u64 n1]] w fun r w' => ∃ v, r = .returned v ∧ Own w' v (recLay [⟨2, 0, l0⟩, ⟨0, n1, []⟩]) ∧ Mods noB w w' ∧ freshIn w v := by
  obtain ⟨zs, hz⟩ : ∃ zs, recLay [⟨2, 0, l0⟩, ⟨0, n1, []⟩] = zs := ⟨_, rfl⟩
  rw [hz]
  have HZ := Lib.hid hz
  have HN := Lib.hid hn
  obtain ⟨a0, c0, rfl, _⟩ := d0.rn.form
  have D0 := Lib.hid d0
  clear hz hn d0
  have P := Lib.hid (put_box w #[.slice a0 l0.length c0, .int .u64 n1] 38 _ rfl)
  go_enter Tryz.func26, Tryz.ntmps26
  go_wp2
  generalize World.alloc w _ = wx at *
  have G0 := Lib.hid (Grow.nil wx)
  have E0 := Lib.hid (D0.out.keep P.out.2.1)
  have q0 : ∀ b, Mods noB wx b → b.cell? ⟨w.heap.size, 0, none⟩ = some (.slice a0 l0.length c0) := fun b hm => cells_of (blk_step hm P.out.1) 0
  have q1 : ∀ b, Mods noB wx b → b.cell? ⟨w.heap.size, 1, none⟩ = some (.int .u64 n1) := fun b hm => cells_of (blk_step hm P.out.1) 1
  have hl0 : ([] : List UInt8).length ≤ 0 := Nat.le_refl _
  go_region_held3 (fun b => Mods noB wx b)
    (exact (by repeat' (first | (with_reducible exact Mods.refl _ _) | (with_reducible assumption) | (with_reducible refine Mods.alloc ?_ _) | (with_reducible refine Mods.drew ?_) | (with_reducible refine Mods.drewN ?_ _) | (with_reducible refine Mods.regrown ?_ _ _) | (with_reducible refine Mods.setCell ?_ ?_ _) | (refine .inr ?_; first | (simp; done) | (simp; omega) | omega))))
    ((first
      | (go_at_call 77; refine (Grow.u2 G0.out ?_ A1.out ?_ [n1] ?_ ?_ rfl rfl rfl ?_ ?_).mono ?_; (next => exact (by repeat' (first | (with_reducible exact Mods.refl _ _) | (with_reducible assumption) | (with_reducible refine Mods.alloc ?_ _) | (with_reducible refine Mods.drew ?_) | (with_reducible refine Mods.drewN ?_ _) | (with_reducible refine Mods.regrown ?_ _ _) | (with_reducible refine Mods.setCell ?_ ?_ _) | (refine .inr ?_; first | (simp; done) | (simp; omega) | omega)))); (next => exact (by repeat' (first | (with_reducible exact Mods.refl _ _) | (with_reducible assumption) | (with_reducible refine Mods.alloc ?_ _) | (with_reducible refine Mods.drew ?_) | (with_reducible refine Mods.drewN ?_ _) | (with_reducible refine Mods.regrown ?_ _ _) | (with_reducible refine Mods.setCell ?_ ?_ _) | (refine .inr ?_; first | (simp; done) | (simp; omega) | omega)))); (next => exact Nat.le_refl _); (next => first | exact heap_new _ _ | exact heap_at1 _ _ P.out.2.2.symm); (next => exact HN.out); (next => omega); rintro r w2 ⟨v2, rfl, h2, a2⟩; have G2 := Lib.hid h2; have A2 := Lib.hid a2; have hl2 := lenU (([] : List UInt8) ++ dlay l0) [n1] (Nat.le_of_ble_eq_true rfl); have m2 := h2.mods; clear h2 a2)
      | (go_at_call 77; refine (G1.out.u ?_ [n1] ?_ ?_ rfl rfl rfl ?_ ?_).mono ?_; (next => exact (by repeat' (first | (with_reducible exact Mods.refl _ _) | (with_reducible assumption) | (with_reducible refine Mods.alloc ?_ _) | (with_reducible refine Mods.drew ?_) | (with_reducible refine Mods.drewN ?_ _) | (with_reducible refine Mods.regrown ?_ _ _) | (with_reducible refine Mods.setCell ?_ ?_ _) | (refine .inr ?_; first | (simp; done) | (simp; omega) | omega)))); (next => first | exact Nat.le_refl _ | exact Nat.le_of_eq P.out.2.2); (next => first | exact heap_new _ _ | exact heap_at1 _ _ P.out.2.2.symm); (next => exact HN.out); (next => omega); rintro r w2 ⟨v2, rfl, h2, a2⟩; have G2 := Lib.hid h2; have A2 := Lib.hid a2; have hl2 := lenU (([] : List UInt8) ++ dlay l0) [n1] (Nat.le_of_ble_eq_true rfl); have m2 := h2.mods; clear h2 a2)
      | (go_at_call 78; refine (G0.out.d ?_ E0.out ?_).mono ?_; (next => exact (by repeat' (first | (with_reducible exact Mods.refl _ _) | (with_reducible assumption) | (with_reducible refine Mods.alloc ?_ _) | (with_reducible refine Mods.drew ?_) | (with_reducible refine Mods.drewN ?_ _) | (with_reducible refine Mods.regrown ?_ _ _) | (with_reducible refine Mods.setCell ?_ ?_ _) | (refine .inr ?_; first | (simp; done) | (simp; omega) | omega)))); (next => omega); rintro r w1 ⟨v1, rfl, h1, a1⟩; have G1 := Lib.hid h1; have A1 := Lib.hid a1; have hl1 := lend ([] : List UInt8) l0; have m1 := h1.mods; clear h1 a1)))
  all_goals go_wp2
  all_goals go_ret
  all_goals refine ⟨v2, rfl, ?_, P.out.2.1.then0 G2.out.mods, G2.out.fresh.of P.out.2.1.size⟩
  all_goals have hz := HZ.out
  all_goals have ho := G2.out.own
  all_goals rw [← hz]
  all_goals simpa only [recLay, lay_n, lay_b, lay_d, List.flatMap_cons, List.flatMap_nil, List.append_nil, List.nil_append, List.append_assoc] using ho

set_option maxHeartbeats 2000000 in
theorem cut_rput {w : World} {n0 n1 : Nat} (hn : Lim [n0, n1])  :
    Calls Tryz.prog 27 #[.agg #[.int .u64 n0, .int .u64 n1]] w fun r w' => ∃ v, r = .returned v ∧ Own w' v (recLay [⟨0, n0, []⟩, ⟨0, n1, []⟩]) ∧ Mods noB w w' ∧ freshIn w v := by
  obtain ⟨zs, hz⟩ : ∃ zs, recLay [⟨0, n0, []⟩, ⟨0, n1, []⟩] = zs := ⟨_, rfl⟩
  rw [hz]
  have HZ := Lib.hid hz
  have HN := Lib.hid hn
  clear hz hn 
  have P := Lib.hid (put_box w #[.int .u64 n0, .int .u64 n1] 40 _ rfl)
  go_enter Tryz.func27, Tryz.ntmps27
  have q0 := cells_of P.out.1 0
  have q1 := cells_of P.out.1 1
  go_wp2_with fail
  generalize World.alloc w (.cells #[.int .u64 n0, .int .u64 n1] 40) = wx at *
  have G0 := Lib.hid (Grow.nil wx)
  have hl0 : ([] : List UInt8).length ≤ 0 := Nat.le_refl _
  refine (G0.out.u ?_ [n0, n1] ?_ ?_ rfl rfl rfl ?_ ?_).mono ?_
  (next => exact (by repeat' (first | (with_reducible exact Mods.refl _ _) | (with_reducible assumption) | (with_reducible refine Mods.alloc ?_ _) | (with_reducible refine Mods.drew ?_) | (with_reducible refine Mods.drewN ?_ _) | (with_reducible refine Mods.regrown ?_ _ _) | (with_reducible refine Mods.setCell ?_ ?_ _) | (refine .inr ?_; first | (simp; done) | (simp; omega) | omega))))
  (next => first | exact Nat.le_refl _ | exact Nat.le_of_eq P.out.2.2)
  (next => first | exact heap_new _ _ | exact heap_at1 _ _ P.out.2.2.symm)
  (next => exact HN.out)
  (next => omega)
  rintro r w1 ⟨v1, rfl, h1, a1⟩
  have G1 := Lib.hid h1
  have A1 := Lib.hid a1
  have hl1 := lenU ([] : List UInt8) [n0, n1] (Nat.le_of_ble_eq_true rfl)
  have m1 := h1.mods
  clear h1 a1
  go_wp2
  go_ret
  refine ⟨v1, rfl, ?_, P.out.2.1.then0 G1.out.mods, G1.out.fresh.of P.out.2.1.size⟩
  have hz := HZ.out
  have ho := G1.out.own
  rw [← hz]
  simpa only [recLay, lay_n, lay_b, lay_d, List.flatMap_cons, List.flatMap_nil, List.append_nil, List.nil_append, List.append_assoc] using ho

set_option maxHeartbeats 2000000 in
theorem unbonding_rput {w : World} {n0 n1 n2 n3 n4 n5 : Nat} (hn : Lim [n0, n1, n2, n3, n4, n5])  :
    Calls Tryz.prog 28 #[.agg #[.int .u64 n0, .int .u64 n1, .int .u64 n2, .int .u64 n3, .int .u64 n4, .int .u64 n5]] w fun r w' => ∃ v, r = .returned v ∧ Own w' v (recLay [⟨0, n0, []⟩, ⟨0, n1, []⟩, ⟨0, n2, []⟩, ⟨0, n3, []⟩, ⟨0, n4, []⟩, ⟨0, n5, []⟩]) ∧ Mods noB w w' ∧ freshIn w v := by
  obtain ⟨zs, hz⟩ : ∃ zs, recLay [⟨0, n0, []⟩, ⟨0, n1, []⟩, ⟨0, n2, []⟩, ⟨0, n3, []⟩, ⟨0, n4, []⟩, ⟨0, n5, []⟩] = zs := ⟨_, rfl⟩
  rw [hz]
  have HZ := Lib.hid hz
  have HN := Lib.hid hn
  clear hz hn 
  have P := Lib.hid (put_box w #[.int .u64 n0, .int .u64 n1, .int .u64 n2, .int .u64 n3, .int .u64 n4, .int .u64 n5] 42 _ rfl)
  go_enter Tryz.func28, Tryz.ntmps28
  have q0 := cells_of P.out.1 0
  have q1 := cells_of P.out.1 1
  have q2 := cells_of P.out.1 2
  have q3 := cells_of P.out.1 3
  have q4 := cells_of P.out.1 4
  have q5 := cells_of P.out.1 5
  go_wp2_with fail
  generalize World.alloc w (.cells #[.int .u64 n0, .int .u64 n1, .int .u64 n2, .int .u64 n3, .int .u64 n4, .int .u64 n5] 42) = wx at *
  have G0 := Lib.hid (Grow.nil wx)
  have hl0 : ([] : List UInt8).length ≤ 0 := Nat.le_refl _
  refine (G0.out.u ?_ [n0, n1, n2, n3, n4, n5] ?_ ?_ rfl rfl rfl ?_ ?_).mono ?_
  (next => exact (by repeat' (first | (with_reducible exact Mods.refl _ _) | (with_reducible assumption) | (with_reducible refine Mods.alloc ?_ _) | (with_reducible refine Mods.drew ?_) | (with_reducible refine Mods.drewN ?_ _) | (with_reducible refine Mods.regrown ?_ _ _) | (with_reducible refine Mods.setCell ?_ ?_ _) | (refine .inr ?_; first | (simp; done) | (simp; omega) | omega))))
  (next => first | exact Nat.le_refl _ | exact Nat.le_of_eq P.out.2.2)
  (next => first | exact heap_new _ _ | exact heap_at1 _ _ P.out.2.2.symm)
  (next => exact HN.out)
  (next => omega)
  rintro r w1 ⟨v1, rfl, h1, a1⟩
  have G1 := Lib.hid h1
  have A1 := Lib.hid a1
  have hl1 := lenU ([] : List UInt8) [n0, n1, n2, n3, n4, n5] (Nat.le_of_ble_eq_true rfl)
  have m1 := h1.mods
  clear h1 a1
  go_wp2
  go_ret
  refine ⟨v1, rfl, ?_, P.out.2.1.then0 G1.out.mods, G1.out.fresh.of P.out.2.1.size⟩
  have hz := HZ.out
  have ho := G1.out.own
  rw [← hz]
  simpa only [recLay, lay_n, lay_b, lay_d, List.flatMap_cons, List.flatMap_nil, List.append_nil, List.nil_append, List.append_assoc] using ho

set_option maxHeartbeats 2000000 in
theorem move_rput {w : World} {n0 n1 n2 n3 n4 n5 : Nat} {u6 : Value} {l6 : List Nat} (hn : Lim [n0, n1, n2, n3, n4, n5]) (d6 : DN w u6 l6) :
    Calls Tryz.prog 29 #[.agg #[.int .u64 n0, .int .u64 n1, .int .u64 n2, .int .u64 n3, .int .u64 n4, .int .u64 n5, u6]] w fun r w' => ∃ v, r = .returned v ∧ Own w' v (recLay [⟨0, n0, []⟩, ⟨0, n1, []⟩, ⟨0, n2, []⟩, ⟨0, n3, []⟩, ⟨0, n4, []⟩, ⟨0, n5, []⟩, ⟨2, 0, l6⟩]) ∧ Mods noB w w' ∧ freshIn w v := by
  obtain ⟨zs, hz⟩ : ∃ zs, recLay [⟨0, n0, []⟩, ⟨0, n1, []⟩, ⟨0, n2, []⟩, ⟨0, n3, []⟩, ⟨0, n4, []⟩, ⟨0, n5, []⟩, ⟨2, 0, l6⟩] = zs := ⟨_, rfl⟩
  rw [hz]
  have HZ := Lib.hid hz
  have HN := Lib.hid hn
  obtain ⟨a6, c6, rfl, _⟩ := d6.rn.form
  have D6 := Lib.hid d6
  clear hz hn d6
  have P := Lib.hid (put_box w #[.int .u64 n0, .int .u64 n1, .int .u64 n2, .int .u64 n3, .int .u64 n4, .int .u64 n5, .slice a6 l6.length c6] 44 _ rfl)
  go_enter Tryz.func29, Tryz.ntmps29
  go_wp2
  generalize World.alloc w _ = wx at *
  have G0 := Lib.hid (Grow.nil wx)
  have E6 := Lib.hid (D6.out.keep P.out.2.1)
  have q0 : ∀ b, Mods noB wx b → b.cell? ⟨w.heap.size, 0, none⟩ = some (.int .u64 n0) := fun b hm => cells_of (blk_step hm P.out.1) 0
  have q1 : ∀ b, Mods noB wx b → b.cell? ⟨w.heap.size, 1, none⟩ = some (.int .u64 n1) := fun b hm => cells_of (blk_step hm P.out.1) 1
  have q2 : ∀ b, Mods noB wx b → b.cell? ⟨w.heap.size, 2, none⟩ = some (.int .u64 n2) := fun b hm => cells_of (blk_step hm P.out.1) 2
  have q3 : ∀ b, Mods noB wx b → b.cell? ⟨w.heap.size, 3, none⟩ = some (.int .u64 n3) := fun b hm => cells_of (blk_step hm P.out.1) 3
  have q4 : ∀ b, Mods noB wx b → b.cell? ⟨w.heap.size, 4, none⟩ = some (.int .u64 n4) := fun b hm => cells_of (blk_step hm P.out.1) 4
  have q5 : ∀ b, Mods noB wx b → b.cell? ⟨w.heap.size, 5, none⟩ = some (.int .u64 n5) := fun b hm => cells_of (blk_step hm P.out.1) 5
  have q6 : ∀ b, Mods noB wx b → b.cell? ⟨w.heap.size, 6, none⟩ = some (.slice a6 l6.length c6) := fun b hm => cells_of (blk_step hm P.out.1) 6
  have hl0 : ([] : List UInt8).length ≤ 0 := Nat.le_refl _
  go_region_held3 (fun b => Mods noB wx b)
    (exact (by repeat' (first | (with_reducible exact Mods.refl _ _) | (with_reducible assumption) | (with_reducible refine Mods.alloc ?_ _) | (with_reducible refine Mods.drew ?_) | (with_reducible refine Mods.drewN ?_ _) | (with_reducible refine Mods.regrown ?_ _ _) | (with_reducible refine Mods.setCell ?_ ?_ _) | (refine .inr ?_; first | (simp; done) | (simp; omega) | omega))))
    ((first
      | (go_at_call 78; refine (G1.out.d ?_ E6.out ?_).mono ?_; (next => exact (by repeat' (first | (with_reducible exact Mods.refl _ _) | (with_reducible assumption) | (with_reducible refine Mods.alloc ?_ _) | (with_reducible refine Mods.drew ?_) | (with_reducible refine Mods.drewN ?_ _) | (with_reducible refine Mods.regrown ?_ _ _) | (with_reducible refine Mods.setCell ?_ ?_ _) | (refine .inr ?_; first | (simp; done) | (simp; omega) | omega)))); (next => omega); rintro r w2 ⟨v2, rfl, h2, a2⟩; have G2 := Lib.hid h2; have A2 := Lib.hid a2; have hl2 := lend (([] : List UInt8) ++ ([n0, n1, n2, n3, n4, n5] : List Nat).flatMap (be 8)) l6; have m2 := h2.mods; clear h2 a2)
      | (go_at_call 77; refine (G0.out.u ?_ [n0, n1, n2, n3, n4, n5] ?_ ?_ rfl rfl rfl ?_ ?_).mono ?_; (next => exact (by repeat' (first | (with_reducible exact Mods.refl _ _) | (with_reducible assumption) | (with_reducible refine Mods.alloc ?_ _) | (with_reducible refine Mods.drew ?_) | (with_reducible refine Mods.drewN ?_ _) | (with_reducible refine Mods.regrown ?_ _ _) | (with_reducible refine Mods.setCell ?_ ?_ _) | (refine .inr ?_; first | (simp; done) | (simp; omega) | omega)))); (next => first | exact Nat.le_refl _ | exact Nat.le_of_eq P.out.2.2); (next => first | exact heap_new _ _ | exact heap_at1 _ _ P.out.2.2.symm); (next => exact HN.out); (next => omega); rintro r w1 ⟨v1, rfl, h1, a1⟩; have G1 := Lib.hid h1; have A1 := Lib.hid a1; have hl1 := lenU ([] : List UInt8) [n0, n1, n2, n3, n4, n5] (Nat.le_of_ble_eq_true rfl); have m1 := h1.mods; clear h1 a1)))
  all_goals go_wp2
  all_goals go_ret
  all_goals refine ⟨v2, rfl, ?_, P.out.2.1.then0 G2.out.mods, G2.out.fresh.of P.out.2.1.size⟩
  all_goals have hz := HZ.out
  all_goals have ho := G2.out.own
  all_goals rw [← hz]
  all_goals simpa only [recLay, lay_n, lay_b, lay_d, List.flatMap_cons, List.flatMap_nil, List.append_nil, List.nil_append, List.append_assoc] using ho

set_option maxHeartbeats 2000000 in
theorem one_rput {w : World} {n0 : Nat} (hn : Lim [n0])  :
    Calls Tryz.prog 30 #[.int .u64 n0] w fun r w' => ∃ v, r = .returned v ∧ Own w' v (recLay [⟨0, n0, []⟩]) ∧ Mods noB w w' ∧ freshIn w v := by
  obtain ⟨zs, hz⟩ : ∃ zs, recLay [⟨0, n0, []⟩] = zs := ⟨_, rfl⟩
  rw [hz]
  have HZ := Lib.hid hz
  have HN := Lib.hid hn
  clear hz hn 
  go_enter Tryz.func30, Tryz.ntmps30
  go_wp2_with fail
  have G := Lib.hid (Grow.nil w)
  refine (G.out.u ((Mods.refl noB w).alloc _) [n0] (Nat.le_refl _) (heap_new _ _) rfl rfl rfl (HN.out) (Nat.zero_le _)).mono ?_
  rintro r w1 ⟨v1, rfl, h1, _⟩
  have G1 := Lib.hid h1
  clear h1
  go_wp2
  go_ret
  refine ⟨v1, rfl, ?_, G1.out.mods, G1.out.fresh⟩
  have hz := HZ.out
  have ho := G1.out.own
  rw [← hz]
  simpa only [recLay, lay_n, lay_b, lay_d, List.flatMap_cons, List.flatMap_nil, List.append_nil, List.nil_append, List.append_assoc] using ho

end Go.Proofs.YtnkbbclcileleaaGreat

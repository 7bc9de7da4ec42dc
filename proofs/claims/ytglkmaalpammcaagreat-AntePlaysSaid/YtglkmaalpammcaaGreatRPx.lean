/- gleanref8.Put..: each lays its record (printed by gen_rput.py). -/
import Derived.Test.YtglkmaalpammcaaGreatRFPut
import Derived.Test.YtglkmaalpammcaaGreatZD
namespace Go.Proofs.YtglkmaalpammcaaGreat
open Go.Gl Go.RowKit
set_option linter.unusedVariables false
set_option maxRecDepth 100000
theorem heap_at1 {w : World} (o : Obj) (n : Nat) (h : n = w.heap.size) : (w.alloc o).heap[n]? = some o := by subst h; exact heap_new w o
theorem rn_lit (ns : List Nat) {w : World} {k len : Nat} {cs : Array Value} (hb : w.heap[k]? = some (.cells cs 22 (0, 0))) (hl : ns.length = len) (hm : Nat.ble len 100 = true) (hc : cs.toList = ns.map u64) : RN w (.slice (some ⟨k, 0, none⟩) len len) ns := by
 have hs : cs.size = ns.length := by rw [← Array.length_toList, hc, List.length_map]
 have := Nat.le_of_ble_eq_true hm
 refine rdM_of hl (Nat.le_refl _) (by simp only [maxLen]; omega) (.inr (lt_of_heap hb)) (fun i hi => ?_)
 rw [cells_of hb, Nat.zero_add, ← Array.getElem?_toList, hc]
 simp [hi]
theorem Grow.app {w0 w wz w' : World} {xs ys : List UInt8} {v v' : Value} (h : Grow w0 xs w v) (m : Mods noB w wz) (a : Appended wz v ys w' v') : Grow w0 ys w' v' := (h.then0 m).more a.own a.mods a.blk
theorem Grow.u {w0 w wz : World} {xs : List UInt8} {v : Value} (h : Grow w0 xs w v) (m : Mods noB w wz) {k len : Nat} {cs : Array Value} (ns : List Nat) (hk : w.heap.size ≤ k) (hb : wz.heap[k]? = some (.cells cs 22 (0, 0))) (hl : ns.length = len) (hm : Nat.ble len 100 = true) (hc : cs.toList = ns.map u64) (hn : Lim ns) (hx : xs.length ≤ 1000000) :
  Calls Tryz.prog 121 #[v, .slice (some ⟨k, 0, none⟩) len len] wz fun e w' => ∃ v', e = .returned v' ∧ Grow w0 (xs ++ ns.flatMap (be 8)) w' v' ∧ Appended wz v (xs ++ ns.flatMap (be 8)) w' v' := by
 refine (u_any (h.own.keep m (fun _ _ x => x)) (rn_lit ns hb hl hm hc) hn (by have := Nat.le_of_ble_eq_true hm; omega) (fun i hi x => ?_) hx).mono ?_
 ·have h1 := h.own.lt i x
  simp [Value.ownBlock] at hi
  omega
 ·rintro e w' ⟨v', rfl, a⟩
  exact ⟨v', rfl, h.app m a, a⟩
theorem Grow.d {w0 w wz : World} {xs : List UInt8} {v u : Value} {l : List Nat} (h : Grow w0 xs w v) (m : Mods noB w wz) (D : DN w0 u l) (hx : xs.length ≤ 1000000) :
  Calls Tryz.prog 201 #[v, .agg #[u]] wz fun e w' => ∃ v', e = .returned v' ∧ Grow w0 (xs ++ dlay l) w' v' ∧ Appended wz v (xs ++ dlay l) w' v' := by
 have D2 := D.keep (h.mods.then0 m)
 refine (d_any (h.own.keep m (fun _ _ x => x)) D2.rn D2.lim D2.len hx).mono ?_
 rintro e w' ⟨v', rfl, a⟩
 exact ⟨v', rfl, h.app m a, a⟩
theorem Grow.u2 {w0 w wz w1 wy : World} {xs ys : List UInt8} {v v1 : Value} (h : Grow w0 xs w v) (mz : Mods noB w wz) (a : Appended wz v ys w1 v1) (my : Mods noB w1 wy) {k len : Nat} {cs : Array Value} (ns : List Nat) (hk : w.heap.size ≤ k) (hb : wz.heap[k]? = some (.cells cs 22 (0, 0))) (hl : ns.length = len) (hm : Nat.ble len 100 = true) (hc : cs.toList = ns.map u64) (hn : Lim ns) (hx : ys.length ≤ 1000000) :
  Calls Tryz.prog 121 #[v1, .slice (some ⟨k, 0, none⟩) len len] wy fun e w' => ∃ v', e = .returned v' ∧ Grow w0 (ys ++ ns.flatMap (be 8)) w' v' ∧ Appended wy v1 (ys ++ ns.flatMap (be 8)) w' v' := by
 have hne : v.ownBlock ≠ some k := fun e => by have := h.own.lt k e; omega
 have hne1 : v1.ownBlock ≠ some k := fun e => by
  rcases a.blk with hb1 | hb1
  ·exact hne (hb1 ▸ e)
  ·have := hb1 k e
   have := lt_of_heap hb
   omega
 have hb2 := blk_step my (a.mods.heap hb (fun e => hne e))
 refine (u_any (a.own.keep my (fun _ _ x => x)) (rn_lit ns hb2 hl hm hc) hn (by have := Nat.le_of_ble_eq_true hm; omega) (fun i hi x => ?_) hx).mono ?_
 ·simp [Value.ownBlock] at hi
  subst hi
  exact hne1 x
 ·rintro e w' ⟨v', rfl, b⟩
  exact ⟨v', rfl, (h.app mz a).app my b, b⟩
set_option maxHeartbeats 2000000 in
theorem params_rput {w : World} {n0 n1 n2 n3 n4 n5 n6 n7 n8 n9 : Nat} (hn : Lim [n0, n1, n2, n3, n4, n5, n6, n7, n8, n9])  :
  Calls Tryz.prog 77 #[.agg #[.int .u64 n0, .int .u64 n1, .int .u64 n2, .int .u64 n3, .int .u64 n4, .int .u64 n5, .int .u64 n6, .int .u64 n7, .int .u64 n8, .int .u64 n9]] w fun r w' => ∃ v, r = .returned v ∧ Gl.Own w' v (recLay [⟨0, n0, []⟩, ⟨0, n1, []⟩, ⟨0, n2, []⟩, ⟨0, n3, []⟩, ⟨0, n4, []⟩, ⟨0, n5, []⟩, ⟨0, n6, []⟩, ⟨0, n7, []⟩, ⟨0, n8, []⟩, ⟨0, n9, []⟩]) ∧ Mods noB w w' ∧ freshIn w v := by
 obtain ⟨zs, hz⟩ : ∃ zs, recLay [⟨0, n0, []⟩, ⟨0, n1, []⟩, ⟨0, n2, []⟩, ⟨0, n3, []⟩, ⟨0, n4, []⟩, ⟨0, n5, []⟩, ⟨0, n6, []⟩, ⟨0, n7, []⟩, ⟨0, n8, []⟩, ⟨0, n9, []⟩] = zs := ⟨_, rfl⟩
 rw [hz]
 have HZ := Lib.hid hz
 have HN := Lib.hid hn
 clear hz hn
 have P := Lib.hid (put_box w #[.int .u64 n0, .int .u64 n1, .int .u64 n2, .int .u64 n3, .int .u64 n4, .int .u64 n5, .int .u64 n6, .int .u64 n7, .int .u64 n8, .int .u64 n9] 35 _ rfl)
 go_enter Tryz.func77, Tryz.ntmps77
 have q0 := cells_of P.out.1 0
 have q1 := cells_of P.out.1 1
 have q2 := cells_of P.out.1 2
 have q3 := cells_of P.out.1 3
 have q4 := cells_of P.out.1 4
 have q5 := cells_of P.out.1 5
 have q6 := cells_of P.out.1 6
 have q7 := cells_of P.out.1 7
 have q8 := cells_of P.out.1 8
 have q9 := cells_of P.out.1 9
 go_wp2_with fail
 generalize World.alloc w (.cells #[.int .u64 n0, .int .u64 n1, .int .u64 n2, .int .u64 n3, .int .u64 n4, .int .u64 n5, .int .u64 n6, .int .u64 n7, .int .u64 n8, .int .u64 n9] 35) = wx at *
 have G0 := Lib.hid (Grow.nil wx)
 have hl0 : ([] : List UInt8).length ≤ 0 := Nat.le_refl _
 refine (G0.out.u ?_ [n0, n1, n2, n3, n4, n5, n6, n7, n8, n9] ?_ ?_ rfl rfl rfl ?_ ?_).mono ?_
 (next => exact (by repeat' (first | (with_reducible exact Mods.refl _ _) | (with_reducible assumption) | (with_reducible refine Mods.alloc ?_ _) | (with_reducible refine Mods.drew ?_) | (with_reducible refine Mods.drewN ?_ _) | (with_reducible refine Mods.regrown ?_ _ _) | (with_reducible refine Mods.setCell ?_ ?_ _) | (refine .inr ?_; first | (simp; done) | (simp; omega) | omega))))
 (next => first | exact Nat.le_refl _ | exact Nat.le_of_eq P.out.2.2)
 (next => first | exact heap_new _ _ | exact heap_at1 _ _ P.out.2.2.symm)
 (next => exact HN.out)
 (next => omega)
 rintro r w1 ⟨v1, rfl, h1, a1⟩
 have G1 := Lib.hid h1
 have A1 := Lib.hid a1
 have hl1 := lenU ([] : List UInt8) [n0, n1, n2, n3, n4, n5, n6, n7, n8, n9] (Nat.le_of_ble_eq_true rfl)
 have m1 := h1.mods
 clear h1 a1
 go_wp2
 go_ret
 refine ⟨v1, rfl, ?_, P.out.2.1.then0 G1.out.mods, G1.out.fresh.of P.out.2.1.size⟩
 have hz := HZ.out
 have ho := G1.out.own
 rw [← hz]
 simpa only [recLay, lay_n, lay_b, lay_d, List.flatMap_cons, List.flatMap_nil, List.append_nil, List.nil_append, List.append_assoc] using ho
set_option maxHeartbeats 2000000 in
theorem account_rput {w : World} {n0 n1 : Nat} (hn : Lim [n0, n1])  :
  Calls Tryz.prog 155 #[.agg #[.int .u64 n0, .int .u64 n1]] w fun r w' => ∃ v, r = .returned v ∧ Gl.Own w' v (recLay [⟨0, n0, []⟩, ⟨0, n1, []⟩]) ∧ Mods noB w w' ∧ freshIn w v := by
 obtain ⟨zs, hz⟩ : ∃ zs, recLay [⟨0, n0, []⟩, ⟨0, n1, []⟩] = zs := ⟨_, rfl⟩
 rw [hz]
 have HZ := Lib.hid hz
 have HN := Lib.hid hn
 clear hz hn
 have P := Lib.hid (put_box w #[.int .u64 n0, .int .u64 n1] 59 _ rfl)
 go_enter Tryz.func155, Tryz.ntmps155
 have q0 := cells_of P.out.1 0
 have q1 := cells_of P.out.1 1
 go_wp2_with fail
 generalize World.alloc w (.cells #[.int .u64 n0, .int .u64 n1] 59) = wx at *
 have G0 := Lib.hid (Grow.nil wx)
 have hl0 : ([] : List UInt8).length ≤ 0 := Nat.le_refl _
 refine (G0.out.u ?_ [n0, n1] ?_ ?_ rfl rfl rfl ?_ ?_).mono ?_
 (next => exact (by repeat' (first | (with_reducible exact Mods.refl _ _) | (with_reducible assumption) | (with_reducible refine Mods.alloc ?_ _) | (with_reducible refine Mods.drew ?_) | (with_reducible refine Mods.drewN ?_ _) | (with_reducible refine Mods.regrown ?_ _ _) | (with_reducible refine Mods.setCell ?_ ?_ _) | (refine .inr ?_; first | (simp; done) | (simp; omega) | omega))))
 (next => first | exact Nat.le_refl _ | exact Nat.le_of_eq P.out.2.2)
 (next => first | exact heap_new _ _ | exact heap_at1 _ _ P.out.2.2.symm)
 (next => exact HN.out)
 (next => omega)
 rintro r w1 ⟨v1, rfl, h1, a1⟩
 have G1 := Lib.hid h1
 have A1 := Lib.hid a1
 have hl1 := lenU ([] : List UInt8) [n0, n1] (Nat.le_of_ble_eq_true rfl)
 have m1 := h1.mods
 clear h1 a1
 go_wp2
 go_ret
 refine ⟨v1, rfl, ?_, P.out.2.1.then0 G1.out.mods, G1.out.fresh.of P.out.2.1.size⟩
 have hz := HZ.out
 have ho := G1.out.own
 rw [← hz]
 simpa only [recLay, lay_n, lay_b, lay_d, List.flatMap_cons, List.flatMap_nil, List.append_nil, List.nil_append, List.append_assoc] using ho
end Go.Proofs.YtglkmaalpammcaaGreat

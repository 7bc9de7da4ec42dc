/- ante.Admit, as a call on a store. -/
import Derived.Test.YtglkmaalpammcaaGreatAnS
import Derived.Test.YtglkmaalpammcaaGreatBkLw
namespace Go.Proofs.YtglkmaalpammcaaGreat
open Go.Gl Go.RowKit
set_option linter.unusedVariables false
set_option maxRecDepth 100000
def admE (F : List Ent) (s q f : Nat) : Nat := if s < 16 then 180 else if f < feeF F then 181 else if (acF F s).1 < f then 182 else if (acF F s).2 ≠ q then 183 else moveE F s 1 f
def admF (F : List Ent) (s q f : Nat) : List Ent := if admE F s q f = 0 then bumpF (moveF F s 1 f) s else F
theorem moveE_leB (F : List Ent) (a b n : Nat) : moveE F a b n ≤ 92 := by
 unfold moveE
 split
 ·omega
 ·split
  ·omega
  ·split
   ·omega
   ·split <;> omega
section
variable {w : World} {xt xs k5 sg s q f c q0 : Nat}
theorem ad1_any (c0 : w.cell? ⟨xt, 0, none⟩ = some (.int .u64 ((s : Nat) : Int))) : Calls Tryz.prog 84 #[.pointer (some ⟨xt, 0, none⟩)] w fun e w' => e = .returned (.bool (decide (s < 16))) ∧ w' = w := by
 by_cases h : s < 16
 ·have i1 : (s : Int) < 16 := by omega
  rw [decide_eq_true h]
  go_enter Tryz.func84, Tryz.ntmps84
  go_wp2
  go_ret
  exact ⟨rfl, rfl⟩
 ·have i1 : ¬ (s : Int) < 16 := by omega
  rw [decide_eq_false h]
  go_enter Tryz.func84, Tryz.ntmps84
  go_wp2
  go_ret
  exact ⟨rfl, rfl⟩
theorem ad3_any (c0 : w.cell? ⟨k5, 0, none⟩ = some (.int .u64 ((c : Nat) : Int))) (c2 : w.cell? ⟨xt, 2, none⟩ = some (.int .u64 ((f : Nat) : Int))) : Calls Tryz.prog 87 #[.pointer (some ⟨k5, 0, none⟩), .pointer (some ⟨xt, 0, none⟩)] w fun e w' => e = .returned (.bool (decide (c < f))) ∧ w' = w := by
 by_cases h : c < f
 ·have i1 : (c : Int) < (f : Int) := by omega
  rw [decide_eq_true h]
  go_enter Tryz.func87, Tryz.ntmps87
  go_wp2
  go_ret
  exact ⟨rfl, rfl⟩
 ·have i1 : ¬ (c : Int) < (f : Int) := by omega
  rw [decide_eq_false h]
  go_enter Tryz.func87, Tryz.ntmps87
  go_wp2
  go_ret
  exact ⟨rfl, rfl⟩
theorem ad4_any (c0 : w.cell? ⟨k5, 1, none⟩ = some (.int .u64 ((q0 : Nat) : Int))) (c2 : w.cell? ⟨xt, 1, none⟩ = some (.int .u64 ((q : Nat) : Int))) : Calls Tryz.prog 88 #[.pointer (some ⟨k5, 0, none⟩), .pointer (some ⟨xt, 0, none⟩)] w fun e w' => e = .returned (.bool (decide (q0 ≠ q))) ∧ w' = w := by
 by_cases h : q0 = q
 ·subst h
  rw [decide_eq_false (by simp)]
  go_enter Tryz.func88, Tryz.ntmps88
  go_wp2
  go_ret
  exact ⟨rfl, rfl⟩
 ·have i1 : ¬ (q0 : Int) = (q : Int) := by omega
  have i2 : ((q0 : Int) != (q : Int)) = true := by simpa using i1
  rw [decide_eq_true h]
  go_enter Tryz.func88, Tryz.ntmps88
  go_wp2
  go_ret
  exact ⟨by first | rfl | (show Ending.returned (Value.bool ((q0 : Int) != (q : Int))) = _; rw [i2]), rfl⟩
theorem ad2_any {w0 : World} {S D N : Nat → Prop} {F : List Ent} {n p : Nat} (gi : GI w0 S D w (KVe sg F n p) N) (h0 : N xs) (h1 : N xt) (c0 : w.cell? ⟨xs, 0, none⟩ = some (.pointer (some ⟨sg, 0, none⟩))) (c2 : w.cell? ⟨xt, 2, none⟩ = some (.int .u64 ((f : Nat) : Int))) (hx : xs < w.heap.size) (ht : xt < w.heap.size) (hn : n ≤ 100000000000) (hp : p ≤ 100000) : Calls Tryz.prog 85 #[.pointer (some ⟨xt, 0, none⟩), .pointer (some ⟨xs, 0, none⟩)] w fun e w' => e = .returned (.bool (decide (f < feeF F))) ∧ GI w0 S D w' (KVe sg F (n + 1) p) N ∧ Mods (fun k => ¬ Out w0 S N k) w w' := by
 have C := Lib.hid ((gi.keep0 kve_f (Mods.refl noB w).drew).calls (sParams (by omega) hp))
 obtain ⟨n0, n1, n2, n3, n4, n5, n6, n7, n8, n9, hps⟩ := prm_ten ((getL F pkey).getD [])
 have hps : prmF F = [n0, n1, n2, n3, n4, n5, n6, n7, n8, n9] := hps
 have hf : feeF F = n8 := by unfold feeF; rw [hps]; rfl
 rw [hps] at C
 rw [hf]
 have HQ := Lib.hid (And.intro c0 (And.intro c2 (And.intro h0 (And.intro h1 (And.intro hx ht)))))
 clear hps hf gi c0 c2 h0 h1 hx ht
 go_enter Tryz.func85, Tryz.ntmps85
 go_upto_region 1 with fail
 refine wp_tl (d := .region 1 (opsC 1 Tryz.f85) true) (by kernel_rfl) ?_
 refine RW.wp (anad2 (f := f) (n0 := n0) (n1 := n1) (n2 := n2) (n3 := n3) (n4 := n4) (n5 := n5) (n6 := n6) (n7 := n7) (n8 := n8) (n9 := n9) (B := decide (f < n8)) (sg := sg) (S := fun W => Mods (fun k => ¬ Out w0 S N k) w W) (X := fun W => GI w0 S D W (KVe sg F (n + 1) p) N ∧ Mods (fun k => ¬ Out w0 S N k) w W) (fun b' m => (m.cellAt HQ.out.2.2.2.2.2 (fun x => x (.inl HQ.out.2.2.2.1)) 2).trans HQ.out.2.1) (fun b' m => (m.cellAt HQ.out.2.2.2.2.1 (fun x => x (.inl HQ.out.2.2.1)) 0).trans HQ.out.1) (Mods.refl _ w).drew (fun _ h => h.2) (C.out.mono (fun e w' ⟨a, b, c⟩ => ⟨by rw [a]; rfl, b, ((Mods.refl (fun k => ¬ Out w0 S N k) w).drew).trans c (fun _ _ x => x) (fun _ _ x => x)⟩)) (by simp) ?_)
 intros
 rename_i w7 h7
 have H7 := Lib.hid h7
 clear h7 C
 go_wp2
 go_ret
 exact ⟨rfl, H7.out⟩
end
structure AdI (w wr : World) (S D : Nat → Prop) (sg xs xt k5 k6 n p : Nat) (F : List Ent) (s q f c q0 : Nat) (kd : Int) (a b m i : Nat) : Prop where
 gi : GI w S D wr (KVe sg F n p) (fun k => k = xs ∨ k = xt ∨ k = k5 ∨ k = k6)
 hs : wr.heap[xs]? = some (.cells #[.pointer (some ⟨sg, 0, none⟩)] 26 (0, 0))
 ht : wr.heap[xt]? = some (.cells #[.int .u64 ((s : Nat) : Int), .int .u64 ((q : Nat) : Int), .int .u64 ((f : Nat) : Int), .int .i64 kd, .int .u64 ((a : Nat) : Int), .int .u64 ((b : Nat) : Int), .int .u64 ((m : Nat) : Int)] 46 (0, 0))
 h5 : wr.heap[k5]? = some (.cells #[.int .u64 ((c : Nat) : Int), .int .u64 ((q0 : Nat) : Int)] 59 (0, 0))
 h6 : wr.heap[k6]? = some (.cells #[.func (.func 84) #[] #[.pointer (some ⟨xt, 0, none⟩)], .int .i64 180, .func (.func 85) #[] #[.pointer (some ⟨xt, 0, none⟩), .pointer (some ⟨xs, 0, none⟩)], .int .i64 181, .func (.func 87) #[] #[.pointer (some ⟨k5, 0, none⟩), .pointer (some ⟨xt, 0, none⟩)], .int .i64 182, .func (.func 88) #[] #[.pointer (some ⟨k5, 0, none⟩), .pointer (some ⟨xt, 0, none⟩)], .int .i64 183] 146 (0, 0))
 r1 : 1 ≤ i → ¬ s < 16
 r2 : 2 ≤ i → ¬ f < feeF F
 r3 : 3 ≤ i → ¬ c < f
 r4 : 4 ≤ i → q0 = q
section
variable {w : World} {sg n p : Nat} {F : List Ent} {Q : Nat → Prop}
set_option maxHeartbeats 8000000 in
theorem aAdmit {s q f a b m : Nat} {kd : Int} (hs : U64 s) (hq : U64 q) (hf : U64 f) (hn : n ≤ 10000000000) (hp : p ≤ 80000) : GS Tryz.prog 17 #[.pointer (some ⟨sg, 0, none⟩), .agg #[.int .u64 ((s : Nat) : Int), .int .u64 ((q : Nat) : Int), .int .u64 ((f : Nat) : Int), .int .i64 kd, .int .u64 ((a : Nat) : Int), .int .u64 ((b : Nat) : Int), .int .u64 ((m : Nat) : Int)]] w (KVe sg F n p) Q (.int .i64 (admE F s q f : Nat)) (KVe sg (admF F s q f) (n + 12) (p + 10)) := GS.walk fun S D kv hQ => by
 have HU := Lib.hid (And.intro hs (And.intro hq hf))
 have G0 := Lib.hid (GI.start kv)
 clear kv hs hq hf
 have m1 := ((Mods.refl noB w).alloc (.cells #[.pointer (some ⟨sg, 0, none⟩)] 26)).alloc (.cells #[.int .u64 ((s : Nat) : Int), .int .u64 ((q : Nat) : Int), .int .u64 ((f : Nat) : Int), .int .i64 kd, .int .u64 ((a : Nat) : Int), .int .u64 ((b : Nat) : Int), .int .u64 ((m : Nat) : Int)] 46)
 have b0 := heap_old (heap_new w (.cells #[.pointer (some ⟨sg, 0, none⟩)] 26)) (.cells #[.int .u64 ((s : Nat) : Int), .int .u64 ((q : Nat) : Int), .int .u64 ((f : Nat) : Int), .int .i64 kd, .int .u64 ((a : Nat) : Int), .int .u64 ((b : Nat) : Int), .int .u64 ((m : Nat) : Int)] 46)
 have b1 := heap_new (w.alloc (.cells #[.pointer (some ⟨sg, 0, none⟩)] 26)) (.cells #[.int .u64 ((s : Nat) : Int), .int .u64 ((q : Nat) : Int), .int .u64 ((f : Nat) : Int), .int .i64 kd, .int .u64 ((a : Nat) : Int), .int .u64 ((b : Nat) : Int), .int .u64 ((m : Nat) : Int)] 46)
 rw [World.size_alloc] at b1
 obtain ⟨w1, hw1⟩ : ∃ w1, w1 = (w.alloc (.cells #[.pointer (some ⟨sg, 0, none⟩)] 26)).alloc (.cells #[.int .u64 ((s : Nat) : Int), .int .u64 ((q : Nat) : Int), .int .u64 ((f : Nat) : Int), .int .i64 kd, .int .u64 ((a : Nat) : Int), .int .u64 ((b : Nat) : Int), .int .u64 ((m : Nat) : Int)] 46) := ⟨_, rfl⟩
 rw [← hw1] at m1 b0 b1
 obtain ⟨xs, hxs⟩ : ∃ xs, w.heap.size = xs := ⟨_, rfl⟩
 obtain ⟨xt, hxt⟩ : ∃ xt, xs + 1 = xt := ⟨_, rfl⟩
 rw [hxs] at b0 b1
 rw [hxt] at b1
 have G1 := Lib.hid (G0.out.grow kve_f m1 (N' := fun k => k = xs ∨ k = xt) (fun k hk => .inr (by
  have := lt_of_heap b0
  have := lt_of_heap b1
  omega)))
 obtain ⟨ac, hac⟩ : ∃ ac, acF F s = ac := ⟨_, rfl⟩
 obtain ⟨c, q0⟩ := ac
 have HAC := Lib.hid hac
 have C := Lib.hid (G1.out.calls (bGet (id := s) (n := n) (p := p) HU.out.1 (by omega) (by omega)))
 rw [hac] at C
 unfold acV at C
 simp only at C
 have HB := Lib.hid (And.intro b0 b1)
 have HX := Lib.hid (show xs < xt ∧ w.heap.size ≤ xs from ⟨by omega, by omega⟩)
 have HW := Lib.hid hw1
 have HXS := Lib.hid (And.intro hxs hxt)
 clear G0 G1 m1 b0 b1 hac hw1 hxs hxt
 go_enter Tryz.func17, Tryz.ntmps17
 go_wp2_with fail
 rw [← HW.out, HXS.out.1, HXS.out.2]
 refine C.out.mono ?_
 rintro e w2 ⟨rfl, g2, m2⟩
 have B2 := Lib.hid (show w2.heap[xs]? = _ ∧ w2.heap[xt]? = _ from ⟨m2.heap HB.out.1 (fun x => x (.inl (.inl rfl))), m2.heap HB.out.2 (fun x => x (.inl (.inr rfl)))⟩)
 have G2 := Lib.hid g2
 have c0 : w2.cell? ⟨xs, 0, none⟩ = some (.pointer (some ⟨sg, 0, none⟩)) := cells_of B2.out.1 0
 clear g2 m2 C HB HXS HW
 obtain ⟨k5, hk5⟩ : ∃ k5, w2.heap.size = k5 := ⟨_, rfl⟩
 obtain ⟨k6, hk6⟩ : ∃ k6, k5 + 1 = k6 := ⟨_, rfl⟩
 have m3 := ((Mods.refl noB w2).alloc (.cells #[.int .u64 ((c : Nat) : Int), .int .u64 ((q0 : Nat) : Int)] 59)).alloc (.cells #[.func (.func 84) #[] #[.pointer (some ⟨xt, 0, none⟩)], .int .i64 180, .func (.func 85) #[] #[.pointer (some ⟨xt, 0, none⟩), .pointer (some ⟨xs, 0, none⟩)], .int .i64 181, .func (.func 87) #[] #[.pointer (some ⟨k5, 0, none⟩), .pointer (some ⟨xt, 0, none⟩)], .int .i64 182, .func (.func 88) #[] #[.pointer (some ⟨k5, 0, none⟩), .pointer (some ⟨xt, 0, none⟩)], .int .i64 183] 146)
 have b5 := heap_old (heap_new w2 (.cells #[.int .u64 ((c : Nat) : Int), .int .u64 ((q0 : Nat) : Int)] 59)) (.cells #[.func (.func 84) #[] #[.pointer (some ⟨xt, 0, none⟩)], .int .i64 180, .func (.func 85) #[] #[.pointer (some ⟨xt, 0, none⟩), .pointer (some ⟨xs, 0, none⟩)], .int .i64 181, .func (.func 87) #[] #[.pointer (some ⟨k5, 0, none⟩), .pointer (some ⟨xt, 0, none⟩)], .int .i64 182, .func (.func 88) #[] #[.pointer (some ⟨k5, 0, none⟩), .pointer (some ⟨xt, 0, none⟩)], .int .i64 183] 146)
 have b6 := heap_new (w2.alloc (.cells #[.int .u64 ((c : Nat) : Int), .int .u64 ((q0 : Nat) : Int)] 59)) (.cells #[.func (.func 84) #[] #[.pointer (some ⟨xt, 0, none⟩)], .int .i64 180, .func (.func 85) #[] #[.pointer (some ⟨xt, 0, none⟩), .pointer (some ⟨xs, 0, none⟩)], .int .i64 181, .func (.func 87) #[] #[.pointer (some ⟨k5, 0, none⟩), .pointer (some ⟨xt, 0, none⟩)], .int .i64 182, .func (.func 88) #[] #[.pointer (some ⟨k5, 0, none⟩), .pointer (some ⟨xt, 0, none⟩)], .int .i64 183] 146)
 rw [World.size_alloc, hk5, hk6] at b6
 rw [hk5] at b5
 have S0 := Lib.hid (show AdI w ((w2.alloc (.cells #[.int .u64 ((c : Nat) : Int), .int .u64 ((q0 : Nat) : Int)] 59)).alloc (.cells #[.func (.func 84) #[] #[.pointer (some ⟨xt, 0, none⟩)], .int .i64 180, .func (.func 85) #[] #[.pointer (some ⟨xt, 0, none⟩), .pointer (some ⟨xs, 0, none⟩)], .int .i64 181, .func (.func 87) #[] #[.pointer (some ⟨k5, 0, none⟩), .pointer (some ⟨xt, 0, none⟩)], .int .i64 182, .func (.func 88) #[] #[.pointer (some ⟨k5, 0, none⟩), .pointer (some ⟨xt, 0, none⟩)], .int .i64 183] 146)) S D sg xs xt k5 k6 (n + 1) p F s q f c q0 kd a b m 0 from ⟨G2.out.grow kve_f m3 (fun k hk => by
  have := lt_of_heap b5
  have := lt_of_heap b6
  rcases hk with h | h | h | h
  ·exact .inl (.inl h)
  ·exact .inl (.inr h)
  ·exact .inr ⟨by omega, by omega⟩
  ·exact .inr ⟨by omega, by omega⟩), m3.heap B2.out.1 (fun x => x), m3.heap B2.out.2 (fun x => x), b5, b6, fun h => by omega, fun h => by omega, fun h => by omega, fun h => by omega⟩)
 clear m3 b5 b6 G2
 go_wp2
 clear hk5 hk6 c0 B2
 go_loopw [24] (fun x wr => ∃ i : Nat, i ≤ 4 ∧ x = .int .i64 i ∧ Hid (∃ n', n' ≤ n + 1 + i ∧ AdI w wr S D sg xs xt k5 k6 n' p F s q f c q0 kd a b m i)) (fun x _ => 4 - (intOf x).toNat)
 case atStart => exact ⟨0, by omega, rfl, Lib.hid ⟨_, by omega, S0.out⟩⟩
 case round =>
  clear S0
  obtain ⟨i, hi, rfl, hI⟩ := hrel
  obtain ⟨n', hn', ad⟩ := hI.out
  have AD := Lib.hid ad
  have HN := Lib.hid hn'
  clear hI ad hn'
  rcases (by omega : i = 0 ∨ i = 1 ∨ i = 2 ∨ i = 3 ∨ i = 4) with rfl | rfl | rfl | rfl | rfl
  ·have d0 : wr.cell? ⟨k6, 0, none⟩ = some (.func (.func 84) #[] #[.pointer (some ⟨xt, 0, none⟩)]) := cells_of AD.out.h6 0
   have C1 := Lib.hid (ad1_any (w := wr) (xt := xt) (s := s) (cells_of AD.out.ht 0))
   go_wp2_with fail
   refine C1.out.mono ?_
   rintro e w' ⟨rfl, hw'⟩
   subst w'
   have AD2 := AD
   have HN2 := Lib.hid (show n' ≤ n + 1 + 1 from by have := HN.out; omega)
   clear C1 d0
   by_cases hc : s < 16
   ·rw [decide_eq_true hc]
    have d1 : wr.cell? ⟨k6, 1, none⟩ = some (.int .i64 180) := cells_of AD2.out.h6 1
    have HE := Lib.hid (show admE F s q f = 180 from by
     unfold admE
     rw [HAC.out]
     exact if_pos hc)
    have FN := Lib.hid (show LeftB w S D wr (KVe sg (admF F s q f) (n + 12) (p + 10)) from by
     unfold admF
     rw [HE.out, if_neg (by omega)]
     obtain ⟨S', D', x, y⟩ := AD2.out.gi.done
     exact ⟨S', D', x.more (by have := HN2.out; omega) (by omega), y⟩)
    clear hc
    go_wp2
    go_ret
    rw [HE.out]
    exact ⟨rfl, FN.out⟩
   ·rw [decide_eq_false hc]
    have NX := Lib.hid (show ∃ n', n' ≤ n + 1 + 1 ∧ AdI w wr S D sg xs xt k5 k6 n' p F s q f c q0 kd a b m 1 from ⟨n', HN2.out, ⟨AD2.out.gi, AD2.out.hs, AD2.out.ht, AD2.out.h5, AD2.out.h6, fun _ => hc, fun h => by omega, fun h => by omega, fun h => by omega⟩⟩)
    clear hc
    go_wp2
    go_roundw
    case rel => exact ⟨1, by omega, by go_num, NX⟩
    case measure => simp [intOf]
  ·have d0 : wr.cell? ⟨k6, 2, none⟩ = some (.func (.func 85) #[] #[.pointer (some ⟨xt, 0, none⟩), .pointer (some ⟨xs, 0, none⟩)]) := cells_of AD.out.h6 2
   have C1 := Lib.hid (ad2_any AD.out.gi (xs := xs) (xt := xt) (sg := sg) (f := f) (.inl rfl) (.inr (.inl rfl)) (cells_of AD.out.hs 0) (cells_of AD.out.ht 2) (lt_of_heap AD.out.hs) (lt_of_heap AD.out.ht) (by have := HN.out; omega) (by omega))
   go_wp2_with fail
   refine C1.out.mono ?_
   rintro e w' ⟨rfl, gi', m'⟩
   have AD2 := Lib.hid (show AdI w w' S D sg xs xt k5 k6 (n' + 1) p F s q f c q0 kd a b m 1 from ⟨gi', m'.heap AD.out.hs (fun x => x (.inl (.inl rfl))), m'.heap AD.out.ht (fun x => x (.inl (.inr (.inl rfl)))), m'.heap AD.out.h5 (fun x => x (.inl (.inr (.inr (.inl rfl))))), m'.heap AD.out.h6 (fun x => x (.inl (.inr (.inr (.inr rfl))))), AD.out.r1, AD.out.r2, AD.out.r3, AD.out.r4⟩)
   have HN2 := Lib.hid (show n' + 1 ≤ n + 1 + 2 from by have := HN.out; omega)
   clear gi' m'
   clear C1 d0
   by_cases hc : f < feeF F
   ·rw [decide_eq_true hc]
    have d1 : w'.cell? ⟨k6, 3, none⟩ = some (.int .i64 181) := cells_of AD2.out.h6 3
    have HE := Lib.hid (show admE F s q f = 181 from by
     unfold admE
     rw [HAC.out]
     rw [if_neg (AD.out.r1 (by omega))]
     exact if_pos hc)
    have FN := Lib.hid (show LeftB w S D w' (KVe sg (admF F s q f) (n + 12) (p + 10)) from by
     unfold admF
     rw [HE.out, if_neg (by omega)]
     obtain ⟨S', D', x, y⟩ := AD2.out.gi.done
     exact ⟨S', D', x.more (by have := HN2.out; omega) (by omega), y⟩)
    clear hc
    go_wp2
    go_ret
    rw [HE.out]
    exact ⟨rfl, FN.out⟩
   ·rw [decide_eq_false hc]
    have NX := Lib.hid (show ∃ n', n' ≤ n + 1 + 2 ∧ AdI w w' S D sg xs xt k5 k6 n' p F s q f c q0 kd a b m 2 from ⟨(n' + 1), HN2.out, ⟨AD2.out.gi, AD2.out.hs, AD2.out.ht, AD2.out.h5, AD2.out.h6, fun _ => AD.out.r1 (by omega), fun _ => hc, fun h => by omega, fun h => by omega⟩⟩)
    clear hc
    go_wp2
    go_roundw
    case rel => exact ⟨2, by omega, by go_num, NX⟩
    case measure => simp [intOf]
  ·have d0 : wr.cell? ⟨k6, 4, none⟩ = some (.func (.func 87) #[] #[.pointer (some ⟨k5, 0, none⟩), .pointer (some ⟨xt, 0, none⟩)]) := cells_of AD.out.h6 4
   have C1 := Lib.hid (ad3_any (w := wr) (k5 := k5) (xt := xt) (c := c) (f := f) (cells_of AD.out.h5 0) (cells_of AD.out.ht 2))
   go_wp2_with fail
   refine C1.out.mono ?_
   rintro e w' ⟨rfl, hw'⟩
   subst w'
   have AD2 := AD
   have HN2 := Lib.hid (show n' ≤ n + 1 + 3 from by have := HN.out; omega)
   clear C1 d0
   by_cases hc : c < f
   ·rw [decide_eq_true hc]
    have d1 : wr.cell? ⟨k6, 5, none⟩ = some (.int .i64 182) := cells_of AD2.out.h6 5
    have HE := Lib.hid (show admE F s q f = 182 from by
     unfold admE
     rw [HAC.out]
     rw [if_neg (AD.out.r1 (by omega))]
     rw [if_neg (AD.out.r2 (by omega))]
     exact if_pos hc)
    have FN := Lib.hid (show LeftB w S D wr (KVe sg (admF F s q f) (n + 12) (p + 10)) from by
     unfold admF
     rw [HE.out, if_neg (by omega)]
     obtain ⟨S', D', x, y⟩ := AD2.out.gi.done
     exact ⟨S', D', x.more (by have := HN2.out; omega) (by omega), y⟩)
    clear hc
    go_wp2
    go_ret
    rw [HE.out]
    exact ⟨rfl, FN.out⟩
   ·rw [decide_eq_false hc]
    have NX := Lib.hid (show ∃ n', n' ≤ n + 1 + 3 ∧ AdI w wr S D sg xs xt k5 k6 n' p F s q f c q0 kd a b m 3 from ⟨n', HN2.out, ⟨AD2.out.gi, AD2.out.hs, AD2.out.ht, AD2.out.h5, AD2.out.h6, fun _ => AD.out.r1 (by omega), fun _ => AD.out.r2 (by omega), fun _ => hc, fun h => by omega⟩⟩)
    clear hc
    go_wp2
    go_roundw
    case rel => exact ⟨3, by omega, by go_num, NX⟩
    case measure => simp [intOf]
  ·have d0 : wr.cell? ⟨k6, 6, none⟩ = some (.func (.func 88) #[] #[.pointer (some ⟨k5, 0, none⟩), .pointer (some ⟨xt, 0, none⟩)]) := cells_of AD.out.h6 6
   have C1 := Lib.hid (ad4_any (w := wr) (k5 := k5) (xt := xt) (q0 := q0) (q := q) (cells_of AD.out.h5 1) (cells_of AD.out.ht 1))
   go_wp2_with fail
   refine C1.out.mono ?_
   rintro e w' ⟨rfl, hw'⟩
   subst w'
   have AD2 := AD
   have HN2 := Lib.hid (show n' ≤ n + 1 + 4 from by have := HN.out; omega)
   clear C1 d0
   by_cases hc : q0 ≠ q
   ·rw [decide_eq_true hc]
    have d1 : wr.cell? ⟨k6, 7, none⟩ = some (.int .i64 183) := cells_of AD2.out.h6 7
    have HE := Lib.hid (show admE F s q f = 183 from by
     unfold admE
     rw [HAC.out]
     rw [if_neg (AD.out.r1 (by omega))]
     rw [if_neg (AD.out.r2 (by omega))]
     rw [if_neg (AD.out.r3 (by omega))]
     exact if_pos hc)
    have FN := Lib.hid (show LeftB w S D wr (KVe sg (admF F s q f) (n + 12) (p + 10)) from by
     unfold admF
     rw [HE.out, if_neg (by omega)]
     obtain ⟨S', D', x, y⟩ := AD2.out.gi.done
     exact ⟨S', D', x.more (by have := HN2.out; omega) (by omega), y⟩)
    clear hc
    go_wp2
    go_ret
    rw [HE.out]
    exact ⟨rfl, FN.out⟩
   ·rw [decide_eq_false hc]
    have NX := Lib.hid (show ∃ n', n' ≤ n + 1 + 4 ∧ AdI w wr S D sg xs xt k5 k6 n' p F s q f c q0 kd a b m 4 from ⟨n', HN2.out, ⟨AD2.out.gi, AD2.out.hs, AD2.out.ht, AD2.out.h5, AD2.out.h6, fun _ => AD.out.r1 (by omega), fun _ => AD.out.r2 (by omega), fun _ => AD.out.r3 (by omega), fun _ => Classical.byContradiction hc⟩⟩)
    clear hc
    go_wp2
    go_roundw
    case rel => exact ⟨4, by omega, by go_num, NX⟩
    case measure => simp [intOf]
  ·have d0 : wr.cell? ⟨xs, 0, none⟩ = some (.pointer (some ⟨sg, 0, none⟩)) := cells_of AD.out.hs 0
   have d1 : wr.cell? ⟨xt, 0, none⟩ = some (.int .u64 ((s : Nat) : Int)) := cells_of AD.out.ht 0
   have d2 : wr.cell? ⟨xt, 2, none⟩ = some (.int .u64 ((f : Nat) : Int)) := cells_of AD.out.ht 2
   have C1 := Lib.hid (AD.out.gi.calls (bMove (a := s) (b := 1) (k := f) HU.out.1 (by unfold U64; omega) HU.out.2.2 (by have := HN.out; omega) (by omega)))
   have HE := Lib.hid (show admE F s q f = moveE F s 1 f from by
    unfold admE
    rw [HAC.out, if_neg (AD.out.r1 (by omega)), if_neg (AD.out.r2 (by omega)), if_neg (AD.out.r3 (by omega)), if_neg (fun h => h (AD.out.r4 (by omega)))])
   have lE : moveE F s 1 f ≤ 92 := moveE_leB ..
   obtain ⟨E, hE⟩ : ∃ E, moveE F s 1 f = E := ⟨_, rfl⟩
   rw [hE] at C1 HE lE
   have hEH := Lib.hid hE
   clear hE
   go_wp2_with fail
   refine C1.out.mono ?_
   rintro e w' ⟨rfl, gi', m'⟩
   have G9 := Lib.hid gi'
   have e0 : w'.cell? ⟨xs, 0, none⟩ = some (.pointer (some ⟨sg, 0, none⟩)) := cells_of (m'.heap AD.out.hs (fun x => x (.inl (.inl rfl)))) 0
   have e1 : w'.cell? ⟨xt, 0, none⟩ = some (.int .u64 ((s : Nat) : Int)) := cells_of (m'.heap AD.out.ht (fun x => x (.inl (.inr (.inl rfl))))) 0
   have HN2 := Lib.hid (show n' ≤ n + 1 + 4 from HN.out)
   have hs16 := AD.out.r1 (by omega)
   clear gi' m' C1 d0 d1 d2
   by_cases hE0 : E = 0
   ·obtain rfl : E = 0 := hE0
    have hb : isB s = true := by unfold isB; rw [Bool.or_eq_true]; exact .inr (decide_eq_true (by omega))
    have C2 := Lib.hid (G9.out.calls (bBump (id := s) HU.out.1 (by have := HN2.out; omega) (by omega)))
    rw [show bumpE s = 0 from by unfold bumpE; rw [hb]; rfl] at C2
    clear hb hs16 G9
    go_wp2_with fail
    refine C2.out.mono ?_
    rintro e w2' ⟨rfl, g9, m9⟩
    have FN := Lib.hid (show LeftB w S D w2' (KVe sg (admF F s q f) (n + 12) (p + 10)) from by
     unfold admF
     rw [HE.out, if_pos rfl]
     obtain ⟨S', D', x, y⟩ := g9.done
     exact ⟨S', D', x.more (by have := HN2.out; omega) (by omega), y⟩)
    clear g9 m9 C2
    go_wp2
    go_ret
    rw [HE.out]
    exact ⟨rfl, FN.out⟩
   ·have i5 : ¬ (E : Int) = 0 := by omega
    have hF : moveF F s 1 f = F := by unfold moveF; rw [hEH.out, if_neg (fun x => hE0 x.1)]
    rw [hF] at G9
    have FN := Lib.hid (show LeftB w S D w' (KVe sg (admF F s q f) (n + 12) (p + 10)) from by
     unfold admF
     rw [HE.out, if_neg hE0]
     obtain ⟨S', D', x, y⟩ := G9.out.done
     exact ⟨S', D', x.more (by have := HN2.out; omega) (by omega), y⟩)
    clear G9 hF hs16
    go_wp2
    go_ret
    rw [HE.out]
    exact ⟨rfl, FN.out⟩
end
end Go.Proofs.YtglkmaalpammcaaGreat

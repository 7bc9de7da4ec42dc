/- gleanref1: Of, Add. -/
import Derived.Test.YtglkmaalpammcaaGreatRNum
import Derived.Test.YtglkmaalpammcaaGreatNAdd
namespace Go.Proofs.YtglkmaalpammcaaGreat
open Go.Gl Go.RowKit
set_option linter.unusedVariables false
set_option maxRecDepth 100000
theorem add_step2 {B k cr x y P P' Q Q' : Nat} {ls : List Nat} (hl : k < ls.length) (hx : P' = P + x * B ^ k) (hy : Q' = Q + y * B ^ k) (h : dval B (ls.take k) + cr * B ^ k = P + Q) :
  dval B ((ls.set k ((cr + x + y) % B)).take (k + 1)) + (cr + x + y) / B * B ^ (k + 1) = P' + Q' := by
 rw [dval_take_succ B _ k (by simpa using hl), List.getElem_set_self, List.take_set_of_le (Nat.le_refl _), hx, hy]
 obtain ⟨t, ht⟩ : ∃ t, cr + x + y = t := ⟨_, rfl⟩
 rw [ht]
 have h1 : t % B * B ^ k + t / B * B ^ (k + 1) = t * B ^ k := by
  rw [Nat.pow_succ, Nat.mul_comm (B ^ k) B, ← Nat.mul_assoc, ← Nat.add_mul]
  congr 1
  have := Nat.div_add_mod t B
  rw [Nat.mul_comm (t / B) B]
  omega
 have h2 : t * B ^ k = cr * B ^ k + x * B ^ k + y * B ^ k := by rw [← ht, Nat.add_mul, Nat.add_mul]
 omega
theorem dval_at (B : Nat) (ps : List Nat) (k : Nat) : dval B (ps.take (k + 1)) = dval B (ps.take k) + ps.getD k 0 * B ^ k := by
 by_cases hk : k < ps.length
 ·rw [dval_take_succ B ps k hk]
  congr 2
  simp [hk]
 ·rw [List.take_of_length_le (by omega), List.take_of_length_le (by omega)]
  simp [Nat.not_lt.1 hk]
theorem rof_any {x : Nat} (w : World) (hx : x ≤ 18446744073709551615) : Calls Tryz.prog 103 #[.int .u64 (x : Nat)] w (ARes w x) := by
 have hb := heap_new w (.cells #[.int .u64 (x : Nat)] 22)
 have m := (Mods.refl noB w).alloc (.cells #[.int .u64 (x : Nat)] 22)
 have hd : strip [x] = dig 18446744073709551616 x := by
  rw [strip_dig (B := 18446744073709551616) (by omega) (fun d hd => by simp at hd; omega)]
  simp [dval]
 have HR := Lib.hid (rnorm_any (w := w.alloc (.cells #[.int .u64 (x : Nat)] 22)) (v := .slice (some ⟨w.heap.size, 0, none⟩) 1 1) (ls := [x]) (rdM_of rfl (Nat.le_refl _) (by decide) (.inr (by simp)) (fun i hi => by
  simp only [List.length_cons, List.length_nil] at hi
  obtain rfl : i = 0 := by omega
  exact cells_of hb 0)) (fun d hd => by simp at hd; omega) (by simp))
 rw [hd] at HR
 have M := Lib.hid m
 clear hb m hd
 go_enter Tryz.func103, Tryz.ntmps103
 go_wp2_with fail
 refine HR.out.mono ?_
 rintro e w2 ⟨v, rfl, o, m2, f⟩
 have D := Lib.hid (show RN w2 v (dig 18446744073709551616 x) ∧ Mods noB w w2 ∧ ∀ k, v.ownBlock = some k → w.heap.size ≤ k ∧ k < w2.heap.size from ⟨o.rd, M.out.then0 m2, fun k hk => ⟨by have := f k hk; have := M.out.size; omega, OwnM.lt o k hk⟩⟩)
 clear o m2 f HR
 go_wp2
 go_ret
 exact ⟨v, rfl, D.out⟩
set_option maxHeartbeats 4000000 in
theorem radd_any {w : World} {u v : Value} {xs ys : List Nat} (hu : RN w u xs) (hv : RN w v ys) (lx : Lim xs) (ly : Lim ys) (nx : xs.length ≤ 1000000000) (ny : ys.length ≤ 1000000000) :
  Calls Tryz.prog 102 #[u, v] w (ARes w (dval 18446744073709551616 xs + dval 18446744073709551616 ys)) := by
 have D1 := Lib.hid (rdigits_any hu lx (by omega))
 have D2 := Lib.hid (fun W (m : Mods noB w W) => rdigits_any (RdM.keep hv m (fun _ _ x => x)) ly (by omega))
 have px : (rdig xs).length ≤ 2000000000 := by
  have := strip_length_le (hdig xs)
  rw [hdig_length] at this
  unfold rdig
  omega
 have py : (rdig ys).length ≤ 2000000000 := by
  have := strip_length_le (hdig ys)
  rw [hdig_length] at this
  unfold rdig
  omega
 have qx : ∀ d ∈ rdig xs, d < 4294967296 := strip_lt (hdig_lt lx)
 have qy : ∀ d ∈ rdig ys, d < 4294967296 := strip_lt (hdig_lt ly)
 have ex : dval 18446744073709551616 xs = dval 4294967296 (rdig xs) := by unfold rdig; rw [dval_strip, dval_hdig]
 have ey : dval 18446744073709551616 ys = dval 4294967296 (rdig ys) := by unfold rdig; rw [dval_strip, dval_hdig]
 rw [ex, ey]
 generalize rdig xs = ps at *
 generalize rdig ys = qs at *
 clear hu hv lx ly nx ny ex ey
 go_enter Tryz.func102, Tryz.ntmps102
 go_wp2_with fail
 refine D1.out.mono ?_
 rintro e w1 ⟨u1, rfl, r1, m1, f1⟩
 have C2 := Lib.hid (D2.out w1 m1)
 have R1 := Lib.hid (And.intro r1 (And.intro m1 f1))
 clear D1 D2 r1 m1 f1
 go_wp2_with fail
 refine C2.out.mono ?_
 rintro e w2 ⟨u2, rfl, r2, m2, f2⟩
 have R2 := Lib.hid (show RN w2 u1 ps ∧ RN w2 u2 qs ∧ Mods noB w w2 from ⟨RdM.keep R1.out.1 m2 (fun _ _ x => x), r2, R1.out.2.1.then0 m2⟩)
 obtain ⟨a1, c1, rfl, _⟩ := RdM.form R2.out.1
 obtain ⟨a2, c2, rfl, _⟩ := RdM.form R2.out.2.1
 clear C2 r2 m2 f2 R1
 obtain ⟨n, hn⟩ : ∃ n, ps.length = n := ⟨_, rfl⟩
 obtain ⟨m, hm⟩ : ∃ m, qs.length = m := ⟨_, rfl⟩
 rw [hn] at R2 px
 rw [hm] at R2 py
 rw [hn, hm]
 have HN := Lib.hid (And.intro hn hm)
 have HQ := Lib.hid (And.intro qx qy)
 clear hn hm qx qy
 obtain ⟨N, hN⟩ : ∃ N, max n m + 1 = N := ⟨_, rfl⟩
 have l1 : n < N := by omega
 have l2 : m < N := by omega
 have l3 : N ≤ 2000000001 := by omega
 have hq : max (n : Int) (m : Int) + 1 = ((N : Nat) : Int) := by omega
 go_wp2_with (refine wpList_mkn 63 Tryz.underlying63 rfl (.tmp 22) (.tmp 22) (by rfl) .i64 .i64 N (by first | rfl | exact congrArg (Value.int .i64) hq) (by first | rfl | exact congrArg (Value.int .i64) hq) (by omega) ?_; intro w3 o3 m3 z3; have R0 : Hid (∃ ls : List Nat, ls.length = N ∧ (∀ d ∈ ls, d < 4294967296) ∧ dval 4294967296 (ls.take 0) + 0 * 4294967296 ^ 0 = dval 4294967296 (ps.take 0) + dval 4294967296 (qs.take 0) ∧ ON 22 w3 (.slice (some ⟨w2.heap.size, 0, none⟩) N N) ls ∧ Mods noB w2 w3) := ⟨List.replicate N 0, by simp, fun x hx => by rw [List.eq_of_mem_replicate hx]; omega, by simp [dval], o3, m3⟩; clear o3 m3 z3)
 skip
 clear hq
 go_loopw [9, 10] (fun cc i wr => ∃ k cr : Nat, k ≤ N ∧ cr ≤ 1 ∧ i = .int .i64 k ∧ cc = .int .u64 cr ∧ Hid (∃ ls : List Nat, ls.length = N ∧ (∀ d ∈ ls, d < 4294967296) ∧ dval 4294967296 (ls.take k) + cr * 4294967296 ^ k = dval 4294967296 (ps.take k) + dval 4294967296 (qs.take k) ∧ ON 22 wr (.slice (some ⟨w2.heap.size, 0, none⟩) N N) ls ∧ Mods noB w2 wr)) (fun _ i _ => N - (intOf i).toNat)
 case atStart => exact ⟨0, 0, Nat.zero_le _, Nat.zero_le _, rfl, rfl, R0⟩
 case round =>
  obtain ⟨k, cr, hk, hcr, rfl, rfl, hR⟩ := hrel
  clear R0
  obtain ⟨ls, l1', l2', l3', l4', l5'⟩ := hR.out
  by_cases hlt : k < N
  ·have hll : k < ls.length := by omega
   obtain ⟨x, hx⟩ : ∃ x, ps.getD k 0 = x := ⟨_, rfl⟩
   obtain ⟨y, hy⟩ : ∃ y, qs.getD k 0 = y := ⟨_, rfl⟩
   have hxl : x ≤ 4294967295 := by
    rw [← hx]
    by_cases h : k < ps.length
    ·have := HQ.out.1 _ (List.getElem_mem h)
     simp [h]
     omega
    ·simp [h]
   have hyl : y ≤ 4294967295 := by
    rw [← hy]
    by_cases h : k < qs.length
    ·have := HQ.out.2 _ (List.getElem_mem h)
     simp [h]
     omega
    ·simp [h]
   have nx := Lib.hid (add_step2 (B := 4294967296) (cr := cr) (x := x) (y := y) (P := dval 4294967296 (ps.take k)) (P' := dval 4294967296 (ps.take (k + 1))) (Q := dval 4294967296 (qs.take k)) (Q' := dval 4294967296 (qs.take (k + 1))) hll (by rw [← hx]; exact dval_at _ ps k) (by rw [← hy]; exact dval_at _ qs k) l3')
   obtain ⟨gg, oo, cc, cur, hv, hg, _, _, hsz, hcu⟩ := (OwnM.open l4').resolve_left (by rintro ⟨hh, _⟩; cases hh)
   rw [l1'] at hv
   cases hv
   have c3 := (cells_of hg (0 + k)).trans (hcu k hll)
   have f3 := free_of hg (0 + k)
   simp only [Nat.zero_add] at c3 f3
   obtain ⟨t, ht⟩ : ∃ t, cr + x + y = t := ⟨_, rfl⟩
   have hcb : t / 4294967296 ≤ 1 := by omega
   rw [ht] at nx
   have R1 := Lib.hid (fun wq (hw : wq = wr.setCell ⟨w2.heap.size, k, none⟩ (.int .u64 ((t % 4294967296 : Nat) : Int))) => show (∃ ls : List Nat, ls.length = N ∧ (∀ d ∈ ls, d < 4294967296) ∧ dval 4294967296 (ls.take (k + 1)) + (t / 4294967296) * 4294967296 ^ (k + 1) = dval 4294967296 (ps.take (k + 1)) + dval 4294967296 (qs.take (k + 1)) ∧ ON 22 wq (.slice (some ⟨w2.heap.size, 0, none⟩) N N) ls ∧ Mods noB w2 wq) from by
    subst hw
    refine ⟨_, by rw [List.length_set]; exact l1', fun d hd => ?_, nx.out, ?_, l5'.setCell (.inr (Nat.le_refl _)) _⟩
    ·rcases List.mem_or_eq_of_mem_set hd with h | h
     ·exact l2' d h
     ·rw [h]; exact Nat.mod_lt _ (by omega)
    ·have h1 := ownM_set (f := u64) l4' l1' k (by omega) (t % 4294967296)
     rw [Nat.zero_add] at h1
     exact h1)
   have HX := Lib.hid (show (k < n → ∃ g off, a1 = some ⟨g, off, none⟩ ∧ wr.cell? ⟨g, off + k, none⟩ = some (.int .u64 (x : Nat))) ∧ (k < m → ∃ g off, a2 = some ⟨g, off, none⟩ ∧ wr.cell? ⟨g, off + k, none⟩ = some (.int .u64 (y : Nat))) from by
    obtain ⟨r1, r2, _⟩ := R2.out
    constructor
    ·intro h
     obtain ⟨g, off, e, hc⟩ := ((RN.cells (RdM.keep r1 l5' (fun _ _ x => x))).2.2.2).resolve_left (by omega)
     have hk' : k < ps.length := by rw [HN.out.1]; exact h
     refine ⟨g, off, e, ?_⟩
     rw [hc k hk', ← hx]
     simp [hk']
    ·intro h
     obtain ⟨g, off, e, hc⟩ := ((RN.cells (RdM.keep r2 l5' (fun _ _ x => x))).2.2.2).resolve_left (by omega)
     have hk' : k < qs.length := by rw [HN.out.2]; exact h
     refine ⟨g, off, e, ?_⟩
     rw [hc k hk', ← hy]
     simp [hk'])
   have X0 := Lib.hid (show (¬ k < n → x = 0) ∧ (¬ k < m → y = 0) from ⟨fun h => by rw [← hx]; have := HN.out.1; simp [show ¬ k < ps.length by omega], fun h => by rw [← hy]; have := HN.out.2; simp [show ¬ k < qs.length by omega]⟩)
   have KN : (k : Int) < (N : Int) := by omega
   clear nx hcu hg hsz l2' l3' l4' l5' l1' hR hx hy
   obtain ⟨r, hr⟩ : ∃ r, t % 4294967296 = r := ⟨_, rfl⟩
   obtain ⟨c', hc'⟩ : ∃ c', t / 4294967296 = c' := ⟨_, rfl⟩
   have sh : (t : Int) / 4294967296 = (c' : Int) := by omega
   have sr : (t : Int) % 4294967296 = (r : Int) := by omega
   have htI : bits .and .u64 (t : Int) 4294967295 = (r : Int) := by rw [and_half t (by omega), hr]
   rw [hc'] at hcb
   simp only [hr, hc'] at R1
   have b1 : (t : Int) ≤ 18446744073709551615 := by omega
   have ht' := Lib.hid ht
   clear hr hc' ht
   by_cases h1 : k < n
   ·obtain ⟨g, off, rfl, c1'⟩ := HX.out.1 h1
    have k1 : (k : Int) < (n : Int) := by omega
    obtain ⟨s0, hs0⟩ : ∃ s0, cr + x = s0 := ⟨_, rfl⟩
    have t0 : (cr : Int) + (x : Int) = (s0 : Int) := by omega
    have b0 : (s0 : Int) ≤ 18446744073709551615 := by omega
    by_cases h2 : k < m
    ·obtain ⟨g', off', rfl, c2'⟩ := HX.out.2 h2
     have t1 : (s0 : Int) + (y : Int) = (t : Int) := by have := ht'.out; omega
     clear hs0
     go_wp2
     go_roundw
     case rel => exact ⟨k + 1, _, by omega, hcb, by go_num, rfl, R1.out _ rfl⟩
     case measure => simp [intOf]; omega
    ·have k2 : ¬ (k : Int) < (m : Int) := by omega
     obtain rfl : s0 = t := by have := ht'.out; have := X0.out.2 h2; omega
     clear hs0
     go_wp2
     go_roundw
     case rel => exact ⟨k + 1, _, by omega, hcb, by go_num, rfl, R1.out _ rfl⟩
     case measure => simp [intOf]; omega
   ·have k1 : ¬ (k : Int) < (n : Int) := by omega
    by_cases h2 : k < m
    ·obtain ⟨g', off', rfl, c2'⟩ := HX.out.2 h2
     have t1 : (cr : Int) + (y : Int) = (t : Int) := by have := ht'.out; have := X0.out.1 h1; omega
     go_wp2
     go_roundw
     case rel => exact ⟨k + 1, _, by omega, hcb, by go_num, rfl, R1.out _ rfl⟩
     case measure => simp [intOf]; omega
    ·have k2 : ¬ (k : Int) < (m : Int) := by omega
     obtain rfl : cr = t := by have := ht'.out; have := X0.out.2 h2; have := X0.out.1 h1; omega
     go_wp2
     go_roundw
     case rel => exact ⟨k + 1, _, by omega, hcb, by go_num, rfl, R1.out _ rfl⟩
     case measure => simp [intOf]; omega
  ·obtain rfl : k = N := by omega
   have hE := Lib.hid (show dval 4294967296 ls = dval 4294967296 ps + dval 4294967296 qs from by
    rw [List.take_of_length_le (l := ls) (by omega), List.take_of_length_le (l := ps) (by rw [HN.out.1]; omega), List.take_of_length_le (l := qs) (by rw [HN.out.2]; omega)] at l3'
    have b1 := dval_lt HQ.out.1
    have b2 := dval_lt HQ.out.2
    rw [HN.out.1] at b1
    rw [HN.out.2] at b2
    have e1 : 4294967296 ^ n ≤ 4294967296 ^ (k - 1) := Nat.pow_le_pow_right (by omega) (by omega)
    have e2 : 4294967296 ^ m ≤ 4294967296 ^ (k - 1) := Nat.pow_le_pow_right (by omega) (by omega)
    have e3 : 4294967296 ^ k = 4294967296 ^ (k - 1) * 4294967296 := by rw [← Nat.pow_succ]; congr 1; omega
    rcases (by omega : cr = 0 ∨ cr = 1) with rfl | rfl
    ·omega
    ·rw [e3] at l3'
     omega)
   have NW := Lib.hid (number_walk l4'.rd l2' (by omega))
   rw [hE.out] at NW
   have M5 := Lib.hid (R2.out.2.2.then0 l5')
   clear hR l2' l3' l4' l5' hE
   go_wp2_with fail
   refine NW.out.mono ?_
   rintro e w9 ⟨v, rfl, o, m9, f9⟩
   have D := Lib.hid (show RN w9 v (dig 18446744073709551616 (dval 4294967296 ps + dval 4294967296 qs)) ∧ Mods noB w w9 ∧ ∀ k, v.ownBlock = some k → w.heap.size ≤ k ∧ k < w9.heap.size from ⟨o.rd, M5.out.then0 m9, fun k hk => ⟨by have := f9 k hk; have := M5.out.size; omega, OwnM.lt o k hk⟩⟩)
   clear o m9 f9 NW
   go_wp2
   go_ret
   exact ⟨v, rfl, D.out⟩
end Go.Proofs.YtglkmaalpammcaaGreat

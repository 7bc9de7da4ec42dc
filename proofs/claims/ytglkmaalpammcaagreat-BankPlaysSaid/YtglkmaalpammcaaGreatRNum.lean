/- gleanref1: number, Norm. -/
import Derived.Test.YtglkmaalpammcaaGreatRDig
import Derived.StillTailTactics
namespace Go.Gl
theorem dval_ge {B : Nat} {ds : List Nat} (hs : strip ds = ds) (hn : ds ≠ []) : B ^ (ds.length - 1) ≤ dval B ds := by
 rcases List.eq_nil_or_concat ds with rfl | ⟨es, d, rfl⟩
 ·exact absurd rfl hn
 ·have hd : d ≠ 0 := by
   rintro rfl
   simp only [List.concat_eq_append] at hs
   rw [strip_append_zero es [0] (fun x hx => by simpa using hx)] at hs
   have hl := strip_length_le es
   rw [hs] at hl
   simp at hl
   omega
  simp only [List.concat_eq_append, dval_snoc, List.length_append, List.length_singleton, Nat.add_sub_cancel]
  have h1 : B ^ es.length * 1 ≤ B ^ es.length * d := Nat.mul_le_mul_left _ (by omega)
  omega
theorem dval_take_succ (B : Nat) (ds : List Nat) (k : Nat) (hk : k < ds.length) : dval B (ds.take (k + 1)) = dval B (ds.take k) + ds[k] * B ^ k := by
 rw [List.take_succ_eq_append_getElem hk, dval_snoc, List.length_take, Nat.min_eq_left (by omega), Nat.mul_comm (B ^ k)]
theorem pow32 (k : Nat) : 4294967296 ^ k = 256 ^ (4 * k) := by
 rw [Nat.pow_mul]
theorem packed {ds ls : List Nat} (hs : strip ds = ds) (hl : ls.length = (ds.length + 1) / 2) (hd : ∀ d ∈ ds, d < 4294967296) (hL : Lim ls) (hv : dval 18446744073709551616 ls = dval 4294967296 ds) : ls = dig 18446744073709551616 (dval 4294967296 ds) := by
 have h1 : strip ls = dig 18446744073709551616 (dval 4294967296 ds) := by rw [← hv]; exact strip_dig (by decide) (fun x hx => by have := hL x hx; omega)
 rw [← h1]
 by_cases hn : ds = []
 ·subst hn
  obtain rfl : ls = [] := List.eq_nil_of_length_eq_zero (by simpa using hl)
  rfl
 ·have hne : 0 < ds.length := by
   rcases Nat.eq_zero_or_pos ds.length with h0 | h0
   ·exact absurd (List.eq_nil_of_length_eq_zero h0) hn
   ·exact h0
  have h2 := dval_ge (B := 4294967296) hs hn
  have h3 : (dig 18446744073709551616 (dval 4294967296 ds)).length = ls.length - 1 + 1 := by
   refine dig_len (by decide) ?_ ?_
   ·rw [show ls.length - 1 + 1 = ls.length from by omega, ← hv]
    exact dval_lt (fun x hx => by have := hL x hx; omega)
   ·refine Nat.le_trans ?_ h2
    rw [show (18446744073709551616 : Nat) = 4294967296 ^ 2 from by decide, ← Nat.pow_mul]
    exact Nat.pow_le_pow_right (by decide) (by omega)
  rw [← h1] at h3
  rw [strip_take, show (strip ls).length = ls.length from by omega, List.take_of_length_le (Nat.le_refl _)]
theorem strip_lt {B : Nat} {ds : List Nat} (h : ∀ d ∈ ds, d < B) : ∀ d ∈ strip ds, d < B := fun d hd => h d (strip_mem hd)
end Go.Gl
namespace Go.Proofs.YtglkmaalpammcaaGreat
open Go.Gl Go.RowKit
set_option linter.unusedVariables false
set_option maxRecDepth 100000
theorem half_pow : (256 : Nat) ^ (4 * 1) = 4294967296 := by decide
theorem half_val (x y r : Nat) (hy : y < 4294967296) (hr : r < 2) (hx : x < 256 ^ (4 * r)) : bits .or .u64 (x : Int) (IntKind.u64.wrap ((y : Int) * 2 ^ (32 * r))) = ((x + y * 256 ^ (4 * r) : Nat) : Int) := by
 have hx4 : x < 4294967296 := by
  rcases (by omega : r = 0 ∨ r = 1) with rfl | rfl
  ·simp only [Nat.mul_zero, Nat.pow_zero] at hx; omega
  ·rw [half_pow] at hx; omega
 have hp : 2 ^ (32 * r) ≤ 4294967296 := by
  rcases (by omega : r = 0 ∨ r = 1) with rfl | rfl <;> decide
 have e : (256 : Nat) ^ (4 * r) = 2 ^ (32 * r) := by
  rcases (by omega : r = 0 ∨ r = 1) with rfl | rfl <;> decide
 rw [e] at hx ⊢
 have hm : y * 2 ^ (32 * r) ≤ 18446744073709551615 := by
  have : y * 2 ^ (32 * r) ≤ 4294967295 * 4294967296 := Nat.mul_le_mul (by omega) hp
  omega
 have hw : IntKind.u64.wrap ((y : Int) * 2 ^ (32 * r)) = ((y * 2 ^ (32 * r) : Nat) : Int) := by
  have : ((y : Int) * 2 ^ (32 * r)) = ((y * 2 ^ (32 * r) : Nat) : Int) := by simp
  rw [this, IntKind.wrap_u64]
  omega
 rw [hw, or_u64 _ _ (by omega) hm, or_add_pow x y _ hx]
theorem half_new (x y k : Nat) (hy : y < 4294967296) (hx : x < 256 ^ (4 * (k % 2))) : x + y * 256 ^ (4 * (k % 2)) ≤ 18446744073709551615 := by
 rcases Nat.mod_two_eq_zero_or_one k with h | h
 ·rw [h] at hx ⊢
  simp only [Nat.mul_zero, Nat.pow_zero] at hx ⊢
  omega
 ·rw [h, half_pow] at hx ⊢
  omega
set_option maxHeartbeats 2000000 in
theorem number_walk {w : World} {v : Value} {es : List Nat} (h : RN w v es) (hd : ∀ d ∈ es, d < 4294967296) (hl : es.length ≤ 2000000000000) :
  Calls Tryz.prog 172 #[v] w (NRes w (dig 18446744073709551616 (dval 4294967296 es))) := by
 rw [← dval_strip]
 have hdl : ∀ d ∈ strip es, d < 4294967296 := strip_lt hd
 have hss := strip_strip es
 have hsl := strip_length_le es
 have HT := Lib.hid (rtrim_any h)
 obtain ⟨a, c, rfl, _⟩ := RdM.form h
 clear h hd
 go_enter Tryz.func172, Tryz.ntmps172
 go_wp2_with fail
 refine HT.out.mono ?_
 rintro e w1 ⟨⟨v1, rfl, hr, hb⟩, rfl⟩
 generalize strip es = ds at *
 clear HT hb
 obtain ⟨a1, c1, rfl, _⟩ := RdM.form hr
 obtain ⟨n, hn⟩ : ∃ n, ds.length = n := ⟨_, rfl⟩
 obtain ⟨m, hm⟩ : ∃ m, (n + 1) / 2 = m := ⟨_, rfl⟩
 have hq : ((n : Int) + 1) / 2 = (m : Int) := by omega
 rw [hn] at hr
 have H := Lib.hid hr
 have HN := Lib.hid hn
 have HD := Lib.hid hdl
 have HS := Lib.hid hss
 have hmn : m ≤ 2000000000000 := by omega
 have hnl : n ≤ 2000000000000 := by omega
 rw [hn]
 clear hr hn hdl hss hsl
 have HMM := Lib.hid hm
 go_wp2_with (refine wpList_mkn 64 Tryz.underlying64 rfl (.tmp 10) (.tmp 10) (by rfl) .i64 .i64 m (by first | rfl | exact congrArg (Value.int .i64) hq) (by first | rfl | exact congrArg (Value.int .i64) hq) (by omega) ?_; intro w2 o2 m2 z2; have R0 : Hid (∃ ls : List Nat, ls.length = m ∧ Lim ls ∧ dval 18446744073709551616 ls = dval 4294967296 (ds.take 0) ∧ ON 22 w2 (.slice (some ⟨w1.heap.size, 0, none⟩) m m) ls ∧ Mods noB w1 w2) := ⟨List.replicate m 0, by simp, fun x hx => by rw [List.eq_of_mem_replicate hx]; omega, by rw [← dval_strip, strip_zero (fun x hx => List.eq_of_mem_replicate hx)]; rfl, o2, m2⟩; clear o2 m2 z2)
 clear hq
 go_loopw [4] (fun i wr => ∃ k : Nat, k ≤ n ∧ i = .int .i64 k ∧ Hid (∃ ls : List Nat, ls.length = m ∧ Lim ls ∧ dval 18446744073709551616 ls = dval 4294967296 (ds.take k) ∧ ON 22 wr (.slice (some ⟨w1.heap.size, 0, none⟩) m m) ls ∧ Mods noB w1 wr)) (fun i _ => n - (intOf i).toNat)
 case atStart => exact ⟨0, Nat.zero_le _, rfl, R0⟩
 case round =>
  obtain ⟨k, hk, rfl, hR⟩ := hrel
  clear R0
  obtain ⟨ls, l1, l2, l3, l4, l5⟩ := hR.out
  by_cases hlt : k < n
  ·have hk8 : k / 2 < m := by omega
   have lb : k < ds.length := by rw [HN.out]; exact hlt
   obtain ⟨g1, off1, rfl, hcc⟩ := ((RN.cells (RdM.keep H.out l5 (fun _ _ x => x))).2.2.2).resolve_left (by omega)
   have c1 := hcc k lb
   have hlq : k / 2 < ls.length := by omega
   obtain ⟨gg, oo, cc, cur, hv, hg, _, _, hsz, hcu⟩ := (OwnM.open l4).resolve_left (by rintro ⟨hh, _⟩; cases hh)
   rw [l1] at hv
   cases hv
   have c2 := (cells_of hg (0 + k / 2)).trans (hcu (k / 2) hlq)
   have f2 := free_of hg (0 + k / 2)
   simp only [Nat.zero_add] at c2 f2
   have hxl : ls[k / 2] ≤ 18446744073709551615 := l2 _ (List.getElem_mem hlq)
   have hdp := Lib.hid (dval_take_succ 4294967296 ds k lb)
   have hlt2 : dval 18446744073709551616 ls < 256 ^ (4 * k) := by
    rw [l3, ← pow32]
    have := dval_lt (B := 4294967296) (ds := ds.take k) (fun x hx => HD.out x (List.mem_of_mem_take hx))
    rw [List.length_take, Nat.min_eq_left (by omega)] at this
    exact this
   have hsm0 := limb_small l2 (4 * k) (by omega) hlt2
   have hsm := Lib.hid (show ls[k / 2] < 256 ^ (4 * (k % 2)) from by
    have e1 : 4 * k / 8 = k / 2 := by omega
    have e2 : 4 * k % 8 = 4 * (k % 2) := by omega
    simp only [e1, e2] at hsm0
    exact hsm0)
   have hb := HD.out _ (List.getElem_mem lb)
   have L := Lib.hid (And.intro l2 (And.intro l3 (And.intro l4 l5)))
   have L1 := Lib.hid l1
   clear hcu hg hsz l2 l3 l4 l5 l1 hR hcc hlt2 hsm0
   generalize hlx : ls[k / 2] = x at *
   generalize hby : ds[k] = y at *
   have HX := Lib.hid hlx
   have HY := Lib.hid hby
   clear hlx hby
   go_wp2
   have t1 : ((k : Int) / 2).toNat = k / 2 := by omega
   have t3 : (32 * ((k : Int) % 2)).toNat = 32 * (k % 2) := by omega
   have b1 : (0 : Int) ≤ (k : Int) / 2 := by omega
   have b2 : (k : Int) / 2 < (m : Int) := by omega
   have b6 : (k : Int) ≤ (n : Int) - 1 := by omega
   have b7 : (0 : Int) ≤ (k : Int) := by omega
   have b8 : (k : Int) < (n : Int) := by omega
   have b5 : (0 : Int) ≤ 32 * ((k : Int) % 2) := by omega
   have w1' : IntKind.i64.wrap ((k : Int) / 2) = (k : Int) / 2 := IntWalk.i64_in _ (by omega)
   have w4 : IntKind.i64.wrap ((k : Int) % 2) = (k : Int) % 2 := IntWalk.i64_in _ (by omega)
   have w5 : IntKind.i64.wrap (32 * ((k : Int) % 2)) = 32 * ((k : Int) % 2) := IntWalk.i64_in _ (by omega)
   have w6 : ((k : Int)).tmod 2 = (k : Int) % 2 := Int.tmod_eq_emod_of_nonneg (by omega)
   go_still_tail 18, (by kernel_rfl)
   change wpList _ _ _ _ _ wr.drew
   clear t1 t3 b1 b2 b5 b6 b7 b8 w1' w4 w5 w6
   have hval : bits .or .u64 (x : Int) (IntKind.u64.wrap ((y : Int) * 2 ^ (32 * (k % 2)))) = ((x + y * 256 ^ (4 * (k % 2)) : Nat) : Int) := half_val x y (k % 2) hb (Nat.mod_lt _ (by decide)) hsm.out
   have hnew := half_new x y k hb hsm.out
   rw [hval]
   obtain ⟨l2, l3, l4, l5⟩ := L.out
   have R1 : Hid (∃ ls' : List Nat, ls'.length = m ∧ Lim ls' ∧ dval 18446744073709551616 ls' = dval 4294967296 (ds.take (k + 1)) ∧ ON 22 (wr.drew.setCell ⟨w1.heap.size, k / 2, none⟩ (.int .u64 ((x + y * 256 ^ (4 * (k % 2)) : Nat) : Int))) (.slice (some ⟨w1.heap.size, 0, none⟩) m m) ls' ∧ Mods noB w1 (wr.drew.setCell ⟨w1.heap.size, k / 2, none⟩ (.int .u64 ((x + y * 256 ^ (4 * (k % 2)) : Nat) : Int)))) := by
    refine ⟨ls.set (k / 2) (x + y * 256 ^ (4 * (k % 2))), by rw [List.length_set, L1.out], lim_set l2 _ _ hnew, ?_, ?_, (l5.drew).setCell (.inr (Nat.le_refl _)) _⟩
    ·have h1 := dval_set (B := 18446744073709551616) (y * 256 ^ (4 * (k % 2))) ls (k / 2) hlq
     rw [HX.out] at h1
     have h2 := hdp.out
     rw [h1, l3, h2, Nat.mul_assoc]
     congr 2
     rw [show (18446744073709551616 : Nat) = 256 ^ 8 from by decide, show (4294967296 : Nat) = 256 ^ 4 from by decide, ← Nat.pow_mul, ← Nat.pow_mul, ← Nat.pow_add]
     congr 1
     omega
    ·have h1 := ownM_set (f := u64) (OwnM.keep l4 ((Mods.refl noB wr).drew) (fun _ _ x => x)) L1.out (k / 2) hk8 (x + y * 256 ^ (4 * (k % 2)))
     rw [Nat.zero_add] at h1
     exact h1
   have c3 : wr.drew.cell? ⟨w1.heap.size, k / 2, none⟩ = some (u64 x) := c2
   have f3 : wr.drew.frozen? ⟨w1.heap.size, k / 2, none⟩ = false := f2
   clear hval hnew l2 l3 l4 l5 c2 f2 c1
   generalize ((x + y * 256 ^ (4 * (k % 2)) : Nat) : Int) = nv at *
   generalize wr.drew = wd at *
   go_wp2
   go_roundw
   case rel => exact ⟨k + 1, by omega, by go_num, R1⟩
   case measure => simp [intOf]; omega
  ·obtain rfl : k = n := by omega
   rw [List.take_of_length_le (by rw [HN.out]; omega)] at l3
   have hp := packed HS.out (by rw [l1, HN.out]; exact HMM.out.symm) HD.out l2 l3
   have R := Lib.hid (And.intro l4 (And.intro l5 hp))
   clear hR l1 l2 l3 l4 l5 hp
   go_wp2
   go_ret
   refine ⟨_, rfl, ?_, R.out.2.1, fun i hi => by simp [Value.ownBlock] at hi; omega⟩
   rw [← R.out.2.2]
   exact R.out.1
theorem rnorm_any {w : World} {v : Value} {ls : List Nat} (h : RN w v ls) (hL : Lim ls) (hl : ls.length ≤ 100000000000) : Calls Tryz.prog 173 #[v] w (NRes w (strip ls)) := by
 have H := Lib.hid (rdigits_any h hL (by omega))
 have HD := Lib.hid (show ∀ d ∈ rdig ls, d < 4294967296 from strip_lt (hdig_lt hL))
 have HN := Lib.hid (show (rdig ls).length ≤ 2000000000000 from by
  have := strip_length_le (hdig ls)
  rw [hdig_length] at this
  unfold rdig
  omega)
 have HE := Lib.hid (show dig 18446744073709551616 (dval 4294967296 (rdig ls)) = strip ls from by
  unfold rdig
  rw [dval_strip, dval_hdig]
  exact (strip_dig (by decide) (fun x hx => by have := hL x hx; omega)).symm)
 clear h hL hl
 go_enter Tryz.func173, Tryz.ntmps173
 go_wp2_with fail
 refine H.out.mono ?_
 rintro e w1 ⟨v1, rfl, hr, hm, hf⟩
 have M := Lib.hid hm
 have R := Lib.hid hr
 clear hr hm hf
 go_wp2_with fail
 refine (number_walk R.out HD.out HN.out).mono ?_
 rw [HE.out]
 rintro e w2 ⟨v2, rfl, ho, hm, hf⟩
 have R2 := Lib.hid (And.intro ho (And.intro (M.out.then0 hm) (hf.of M.out.size)))
 clear ho hm hf
 go_wp2
 go_ret
 exact ⟨_, rfl, R2.out⟩
end Go.Proofs.YtglkmaalpammcaaGreat

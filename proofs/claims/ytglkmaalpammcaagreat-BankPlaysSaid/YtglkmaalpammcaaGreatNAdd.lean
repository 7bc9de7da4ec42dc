/- nat.Of, nat.Add: numbers in limbs. -/
import Derived.Test.YtglkmaalpammcaaGreatZE
import Derived.Test.YtglkmaalpammcaaGreatRNum
import Derived.Laws.Externs
import Derived.Deep.DeepCutAuto
import Derived.Deep.LoopGhost
namespace Go.Proofs.YtglkmaalpammcaaGreat
open Go.Gl Go.RowKit
set_option linter.unusedVariables false
set_option maxRecDepth 100000
theorem add64_run (x y c : Nat) (hc : c ≤ 1) (w : World) : (callFunc 169 #[.int .u64 (x : Nat), .int .u64 (y : Nat), .int .u64 (c : Nat)]).run Tryz.prog w =
  .ok (.value (.tuple #[.int .u64 (((x + y + c) % 18446744073709551616 : Nat) : Int), .int .u64 (((x + y + c) / 18446744073709551616 : Nat) : Int)])) w := by
 rw [run_callFunc_extern (fn := Tryz.f169) (by kernel_rfl) (by kernel_rfl) (by kernel_rfl) (by kernel_rfl) (e := add64Entry) (by kernel_rfl), run_add64 x y c (by omega) (by omega) (by omega) (by omega)]
 simp only [Result.andThen]
 congr 5 <;> omega
def ARes (w : World) (N : Nat) (e : Ending) (w' : World) : Prop := ∃ v, e = .returned v ∧ RN w' v (dig 18446744073709551616 N) ∧ Mods noB w w' ∧ ∀ k, v.ownBlock = some k → w.heap.size ≤ k ∧ k < w'.heap.size
theorem natof_any {x : Nat} (w : World) (hx : x ≤ 18446744073709551615) : Calls Tryz.prog 100 #[.int .u64 (x : Nat)] w (ARes w x) := by
 by_cases h0 : x = 0
 ·subst h0
  go_enter Tryz.func100, Tryz.ntmps100
  go_wp2
  go_ret
  exact ⟨_, rfl, RdM.nil _ _, Mods.refl _ _, fun k hk => by simp [Value.ownBlock] at hk⟩
 ·have hI : ¬ ((x : Nat) : Int) = 0 := by omega
  have hd : dig 18446744073709551616 x = [x] := by
   rw [← show dval 18446744073709551616 [x] = x by simp [dval], ← strip_dig (by omega) (fun d hd => by simp at hd; omega)]
   exact strip_last (ds := []) h0
  unfold ARes
  rw [hd]
  clear hd
  go_enter Tryz.func100, Tryz.ntmps100
  go_wp2
  go_ret
  refine ⟨_, rfl, ?_, (Mods.refl _ _).alloc _, fun k hk => by simp [Value.ownBlock] at hk; subst hk; simp⟩
  refine rdM_of rfl (Nat.le_refl _) (by decide) (.inr (by simp)) (fun i hi => ?_)
  simp only [List.length_cons, List.length_nil] at hi
  obtain rfl : i = 0 := by omega
  exact cells_of (heap_new _ _) 0
theorem add_step {B k cr y : Nat} {ls ps qs : List Nat} (hk : k < ps.length) (hl : k < ls.length) (hy : dval B (qs.take (k + 1)) = dval B (qs.take k) + y * B ^ k) (h : dval B (ls.take k) + cr * B ^ k = dval B (ps.take k) + dval B (qs.take k)) :
  dval B ((ls.set k ((ps[k] + y + cr) % B)).take (k + 1)) + (ps[k] + y + cr) / B * B ^ (k + 1) = dval B (ps.take (k + 1)) + dval B (qs.take (k + 1)) := by
 rw [dval_take_succ B _ k (by simpa using hl), List.getElem_set_self, List.take_set_of_le (Nat.le_refl _), dval_take_succ B ps k hk, hy]
 generalize ps[k] = x at *
 obtain ⟨t, ht⟩ : ∃ t, x + y + cr = t := ⟨_, rfl⟩
 rw [ht]
 have h1 : t % B * B ^ k + t / B * B ^ (k + 1) = t * B ^ k := by
  rw [Nat.pow_succ, Nat.mul_comm (B ^ k) B, ← Nat.mul_assoc, ← Nat.add_mul]
  congr 1
  have := Nat.div_add_mod t B
  rw [Nat.mul_comm (t / B) B]
  omega
 have h2 : t * B ^ k = x * B ^ k + y * B ^ k + cr * B ^ k := by rw [← ht, Nat.add_mul, Nat.add_mul]
 omega
set_option maxHeartbeats 2000000 in
theorem natadd_any {w : World} {u v : Value} {xs ys : List Nat} (hu : RN w u xs) (hv : RN w v ys) (lx : Lim xs) (ly : Lim ys) (nx : xs.length ≤ 1000000000) (ny : ys.length ≤ 1000000000) :
  Calls Tryz.prog 99 #[u, v] w (ARes w (dval 18446744073709551616 xs + dval 18446744073709551616 ys)) := by
 have T1 := Lib.hid (trim_any hu)
 have T2 := Lib.hid (trim_any hv)
 rw [← dval_strip 18446744073709551616 xs, ← dval_strip 18446744073709551616 ys]
 have lx' : Lim (strip xs) := fun x hx => lx x (strip_mem hx)
 have ly' : Lim (strip ys) := fun x hx => ly x (strip_mem hx)
 have nx' := strip_length_le xs
 have ny' := strip_length_le ys
 have nx2 : (strip xs).length ≤ 1000000000 := by omega
 have ny2 : (strip ys).length ≤ 1000000000 := by omega
 clear hu hv lx ly nx ny nx' ny'
 go_enter Tryz.func99, Tryz.ntmps99
 go_wp2_with fail
 refine T1.out.mono ?_
 rintro e w1 ⟨⟨u1, rfl, hr1, _⟩, rfl⟩
 go_wp2_with fail
 refine T2.out.mono ?_
 rintro e w1 ⟨⟨v1, rfl, hr2, _⟩, rfl⟩
 generalize strip xs = ps at *
 generalize strip ys = qs at *
 clear T1 T2
 obtain ⟨ua, uc, rfl, _⟩ := RdM.form hr1
 obtain ⟨va, vc, rfl, _⟩ := RdM.form hr2
 obtain ⟨S, hS⟩ : ∃ S, dval 18446744073709551616 ps + dval 18446744073709551616 qs = S := ⟨_, rfl⟩
 rw [hS]
 have HS := Lib.hid hS
 have HA := Lib.hid (And.intro hr1 lx')
 have HB := Lib.hid (And.intro hr2 ly')
 clear hS hr1 hr2 lx' ly'
 go_upto_if 17 with fail
 go_cut [0, 1] (fun s0 s1 wx => wx = w1 ∧ ∃ (a : Option Addr) (n c : Nat) (b : Option Addr) (m d : Nat), s0 = .slice a n c ∧ s1 = .slice b m d ∧ m ≤ n ∧ n ≤ 1000000000 ∧ Hid (∃ ps qs, ps.length = n ∧ qs.length = m ∧ RN w1 s0 ps ∧ RN w1 s1 qs ∧ Lim ps ∧ Lim qs ∧ dval 18446744073709551616 ps + dval 18446744073709551616 qs = S))
 case first =>
  by_cases hlt : ps.length < qs.length
  ·go_wp2
   go_meet
   exact ⟨rfl, va, _, vc, ua, _, uc, rfl, rfl, by omega, ny2, qs, ps, rfl, rfl, HB.out.1, HA.out.1, HB.out.2, HA.out.2, by rw [← HS.out]; omega⟩
  ·go_wp2
   go_meet
   exact ⟨rfl, ua, _, uc, va, _, vc, rfl, rfl, by omega, nx2, ps, qs, rfl, rfl, HA.out.1, HB.out.1, HA.out.2, HB.out.2, HS.out⟩
 case rest =>
  clear HA HB nx2 ny2
  obtain ⟨rfl, a, n, c, b, m, d, rfl, rfl, hmn, hn, ps, qs, hp, hq0, r1, r2, L1, L2, hS⟩ := hcut
  have HP := Lib.hid hp
  have HQ := Lib.hid hq0
  have H := Lib.hid (And.intro r1 (And.intro r2 (And.intro L1 (And.intro L2 hS))))
  clear hp hq0 r1 r2 L1 L2 hS
  have hq : (n : Int) + 1 = ((n + 1 : Nat) : Int) := by omega
  obtain ⟨N, hN⟩ : ∃ N, n + 1 = N := ⟨_, rfl⟩
  rw [hN] at hq
  go_wp2_with (refine wpList_mkn 64 Tryz.underlying64 rfl (.tmp 22) (.tmp 22) (by rfl) .i64 .i64 N (by first | rfl | exact congrArg (Value.int .i64) hq) (by first | rfl | exact congrArg (Value.int .i64) hq) (by omega) ?_; intro w2 o2 m2 z2; have R0 : Hid (∃ ls : List Nat, ls.length = N ∧ Lim ls ∧ dval 18446744073709551616 (ls.take 0) + 0 * 18446744073709551616 ^ 0 = dval 18446744073709551616 (ps.take 0) + dval 18446744073709551616 (qs.take 0) ∧ ON 22 w2 (.slice (some ⟨wc.heap.size, 0, none⟩) N N) ls ∧ Mods noB wc w2) := ⟨List.replicate N 0, by simp, fun x hx => by rw [List.eq_of_mem_replicate hx]; omega, by simp [dval], o2, m2⟩; clear o2 m2 z2)
  clear hq
  go_loopw [6, 26] (fun cc i wr => ∃ k cr : Nat, k ≤ n ∧ cr ≤ 1 ∧ i = .int .i64 k ∧ cc = .int .u64 cr ∧ Hid (∃ ls : List Nat, ls.length = N ∧ Lim ls ∧ dval 18446744073709551616 (ls.take k) + cr * 18446744073709551616 ^ k = dval 18446744073709551616 (ps.take k) + dval 18446744073709551616 (qs.take k) ∧ ON 22 wr (.slice (some ⟨wc.heap.size, 0, none⟩) N N) ls ∧ Mods noB wc wr)) (fun _ i _ => n - (intOf i).toNat)
  case atStart => exact ⟨0, 0, Nat.zero_le _, Nat.zero_le _, rfl, rfl, R0⟩
  case round =>
   obtain ⟨k, cr, hk, hcr, rfl, rfl, hR⟩ := hrel
   clear R0
   obtain ⟨ls, l1, l2, l3, l4, l5⟩ := hR.out
   by_cases hlt : k < n
   ·have hlp : k < ps.length := by rw [HP.out]; exact hlt
    have hll : k < ls.length := by omega
    obtain ⟨r1, r2, L1, L2, _⟩ := H.out
    obtain ⟨g1, off1, rfl, hcc⟩ := ((RN.cells (RdM.keep r1 l5 (fun _ _ x => x))).2.2.2).resolve_left (by omega)
    have c1 := hcc k hlp
    obtain ⟨gg, oo, cc, cur, hv, hg, _, _, hsz, hcu⟩ := (OwnM.open l4).resolve_left (by rintro ⟨hh, _⟩; cases hh)
    rw [l1] at hv
    cases hv
    have c2 := (cells_of hg (0 + k)).trans (hcu k hll)
    have f2 := free_of hg (0 + k)
    simp only [Nat.zero_add] at c2 f2
    have hx := L1 _ (List.getElem_mem hlp)
    by_cases hlm : k < m
    ·have hlq : k < qs.length := by rw [HQ.out]; exact hlm
     obtain ⟨g3, off3, rfl, hcd⟩ := ((RN.cells (RdM.keep r2 l5 (fun _ _ x => x))).2.2.2).resolve_left (by omega)
     have c3 := hcd k hlq
     have hy0 := dval_take_succ 18446744073709551616 qs k hlq
     have hyb := L2 _ (List.getElem_mem hlq)
     generalize hye : qs[k] = y at *
     have nx := Lib.hid (add_step (B := 18446744073709551616) hlp hll (y := y) hy0 l3)
     generalize hxe : ps[k] = x at *
     have hyl : y ≤ 18446744073709551615 := hyb
     have R1 := Lib.hid (fun wq (hw : wq = wr.setCell ⟨wc.heap.size, k, none⟩ (.int .u64 (((x + y + cr) % 18446744073709551616 : Nat) : Int))) => show (∃ ls : List Nat, ls.length = N ∧ Lim ls ∧ dval 18446744073709551616 (ls.take (k + 1)) + ((x + y + cr) / 18446744073709551616) * 18446744073709551616 ^ (k + 1) = dval 18446744073709551616 (ps.take (k + 1)) + dval 18446744073709551616 (qs.take (k + 1)) ∧ ON 22 wq (.slice (some ⟨wc.heap.size, 0, none⟩) N N) ls ∧ Mods noB wc wq) from by
      subst hw
      refine ⟨_, by rw [List.length_set]; exact l1, lim_set l2 _ _ (by omega), nx.out, ?_, l5.setCell (.inr (Nat.le_refl _)) _⟩
      have h1 := ownM_set (f := u64) l4 l1 k (by omega) ((x + y + cr) % 18446744073709551616)
      rw [Nat.zero_add] at h1
      exact h1)
     have hcb : (x + y + cr) / 18446744073709551616 ≤ 1 := by omega
     have AD := add64_run x y cr hcr wr
     clear nx hcu hg hsz l2 l3 l4 l5 l1 hR hcc r1 r2 L1 L2 hxe hye hcd hy0
     go_wp2_with (simp only [AD])
     go_roundw
     case rel => exact ⟨k + 1, _, by omega, hcb, by go_num, rfl, R1.out _ rfl⟩
     case measure => simp [intOf]; omega
    ·have hy0 : dval 18446744073709551616 (qs.take (k + 1)) = dval 18446744073709551616 (qs.take k) + 0 * 18446744073709551616 ^ k := by
      rw [List.take_of_length_le (by rw [HQ.out]; omega), List.take_of_length_le (by rw [HQ.out]; omega), Nat.zero_mul, Nat.add_zero]
     have nx := Lib.hid (add_step (B := 18446744073709551616) hlp hll (y := 0) hy0 l3)
     generalize hxe : ps[k] = x at *
     have hyl : 0 ≤ 18446744073709551615 := by omega
     have R1 := Lib.hid (fun wq (hw : wq = wr.setCell ⟨wc.heap.size, k, none⟩ (.int .u64 (((x + 0 + cr) % 18446744073709551616 : Nat) : Int))) => show (∃ ls : List Nat, ls.length = N ∧ Lim ls ∧ dval 18446744073709551616 (ls.take (k + 1)) + ((x + 0 + cr) / 18446744073709551616) * 18446744073709551616 ^ (k + 1) = dval 18446744073709551616 (ps.take (k + 1)) + dval 18446744073709551616 (qs.take (k + 1)) ∧ ON 22 wq (.slice (some ⟨wc.heap.size, 0, none⟩) N N) ls ∧ Mods noB wc wq) from by
      subst hw
      refine ⟨_, by rw [List.length_set]; exact l1, lim_set l2 _ _ (by omega), nx.out, ?_, l5.setCell (.inr (Nat.le_refl _)) _⟩
      have h1 := ownM_set (f := u64) l4 l1 k (by omega) ((x + 0 + cr) % 18446744073709551616)
      rw [Nat.zero_add] at h1
      exact h1)
     have hcb : (x + 0 + cr) / 18446744073709551616 ≤ 1 := by omega
     have AD : (callFunc 169 #[.int .u64 (x : Nat), .int .u64 0, .int .u64 (cr : Nat)]).run Tryz.prog wr = _ := add64_run x 0 cr hcr wr
     clear nx hcu hg hsz l2 l3 l4 l5 l1 hR hcc r1 r2 L1 L2 hxe hy0
     go_wp2_with (simp only [AD])
     go_roundw
     case rel => exact ⟨k + 1, _, by omega, hcb, by go_num, rfl, R1.out _ rfl⟩
     case measure => simp [intOf]; omega
   ·obtain rfl : k = n := by omega
    obtain ⟨r1, r2, L1, L2, hS⟩ := H.out
    have hNk : k < ls.length := by omega
    rw [List.take_of_length_le (l := ps) (by rw [HP.out]; omega), List.take_of_length_le (l := qs) (by rw [HQ.out]; omega), hS] at l3
    have hfin := Lib.hid (show dval 18446744073709551616 (ls.set k cr) = S from by
     have h1 := dval_take_succ 18446744073709551616 (ls.set k cr) k (by simpa using hNk)
     rw [List.take_of_length_le (by rw [List.length_set]; omega), List.getElem_set_self, List.take_set_of_le (Nat.le_refl _)] at h1
     rw [h1, l3])
    obtain ⟨gg, oo, cc, cur, hv, hg, _, _, hsz, hcu⟩ := (OwnM.open l4).resolve_left (by rintro ⟨hh, _⟩; cases hh)
    rw [l1] at hv
    cases hv
    have c2 := (cells_of hg (0 + k)).trans (hcu k hNk)
    have f2 := free_of hg (0 + k)
    simp only [Nat.zero_add] at c2 f2
    have R1 := Lib.hid (fun wq (hw : wq = wr.setCell ⟨wc.heap.size, k, none⟩ (.int .u64 (cr : Nat))) => show ON 22 wq (.slice (some ⟨wc.heap.size, 0, none⟩) N N) (ls.set k cr) ∧ Mods noB wc wq ∧ Lim (ls.set k cr) from by
     subst hw
     have h1 := ownM_set (f := u64) l4 l1 k (by omega) cr
     rw [Nat.zero_add] at h1
     exact ⟨h1, l5.setCell (.inr (Nat.le_refl _)) _, lim_set l2 _ _ (by omega)⟩)
    clear hcu hg hsz l2 l3 l4 l5 l1 hR r1 r2 L1 L2 hS
    go_wp2_with fail
    refine (trim_any (R1.out _ rfl).1.rd).mono ?_
    rintro e w6 ⟨⟨v6, rfl, o6, b6⟩, rfl⟩
    have R := R1.out _ rfl
    have hsd := strip_dig (B := 18446744073709551616) (by omega) (ds := ls.set k cr) (fun x hx => by have := R.2.2 x hx; omega)
    rw [hfin.out] at hsd
    rw [hsd] at o6
    have O6 := Lib.hid (And.intro o6 (And.intro R.2.1 b6))
    have lt6 := Lib.hid (OwnM.lt R.1)
    clear o6 b6 R hsd R1 hfin
    go_wp2
    go_ret
    refine ⟨v6, rfl, ?_, O6.out.2.1, fun i hi => by have h1 := O6.out.2.2 i hi; have h2 := lt6.out i h1; simp [Value.ownBlock] at h1; exact ⟨by omega, h2⟩⟩
    rw [HS.out]
    exact O6.out.1
end Go.Proofs.YtglkmaalpammcaaGreat

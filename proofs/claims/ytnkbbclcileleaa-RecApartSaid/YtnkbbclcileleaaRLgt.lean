/- gleanlaw8: small, light, norm. -/
import Derived.Test.YtnkbbclcileleaaRArgs
import Derived.Test.YtnkbbclcileleaaNTrim
import Derived.Test.YtnkbbclcileleaaTail
import Derived.Test.YtnkbbclcileleaaNBytes
namespace Go.Proofs.Ytnkbbclcileleaa
open Go.Gl Go.RowKit
set_option linter.unusedVariables false
set_option maxRecDepth 100000

/-- a slice value -/
def slv (p : Option Addr × Nat × Nat) : Value := .slice p.1 p.2.1 p.2.2
def smallB (ps : List (Option Addr × Nat × Nat)) : Bool := ps.all (fun p => decide (p.2.1 ≤ 60))

set_option maxHeartbeats 1000000 in
theorem small_any {w : World} {g : Nat} {ps : List (Option Addr × Nat × Nat)} {n : Nat} (hg : w.heap[g]? = some (.cells (ps.map slv).toArray 30 (0, 0))) (hn : ps.length = n) (hm : n ≤ 1000) :
    Calls Try.prog 25 #[.slice (some ⟨g, 0, none⟩) n n] w fun r w' => r = .returned (.bool (smallB ps)) ∧ w' = w := by
  have HC := Lib.hid (fun (k : Nat) (hk : k < ps.length) => show w.cell? ⟨g, k, none⟩ = some (slv ps[k]) from by rw [cells_of hg]; simp [hk])
  have HN := Lib.hid hn
  clear hg hn
  go_enter Try.func25, Try.ntmps25
  go_wp2
  go_loopw [3] (fun i wr => ∃ k : Nat, k ≤ n ∧ i = .int .i64 k ∧ wr = w ∧ (ps.take k).all (fun p => decide (p.2.1 ≤ 60)) = true) (fun i _ => n - (intOf i).toNat)
  case atStart => exact ⟨0, Nat.zero_le _, rfl, rfl, by simp⟩
  case round =>
    obtain ⟨k, hk, rfl, rfl, hall⟩ := hrel
    by_cases hlt : k < n
    · have lk : k < ps.length := by rw [HN.out]; exact hlt
      have hc := HC.out k lk
      have hs : (ps.take (k + 1)).all (fun p => decide (p.2.1 ≤ 60)) = ((ps.take k).all (fun p => decide (p.2.1 ≤ 60)) && decide (ps[k].2.1 ≤ 60)) := by
        rw [List.take_succ_eq_append_getElem lk, List.all_append]; simp
      have hb : ¬ ps[k].2.1 ≤ 60 → smallB ps = false := fun h => by
        unfold smallB
        rw [List.all_eq_false]
        exact ⟨ps[k], List.getElem_mem lk, by simpa using h⟩
      have HS := Lib.hid (And.intro hs hb)
      clear hs hb
      unfold slv at hc
      generalize ps[k] = p at *
      obtain ⟨a, m, c⟩ := p
      simp only at hc HS
      by_cases h60 : m ≤ 60
      · go_wp2
        go_roundw
        case rel => exact ⟨k + 1, by omega, by go_num, trivial, by rw [HS.out.1, hall]; simp [h60]⟩
        case measure => simp [intOf]; omega
      · have h60' : (60 : Int) < (m : Int) := by omega
        go_wp2
        go_ret
        exact ⟨ret_bool (HS.out.2 h60).symm, rfl⟩
    · have e : ps.take k = ps := List.take_of_length_le (by rw [HN.out]; omega)
      rw [e] at hall
      obtain rfl : k = n := by omega
      go_wp2
      go_ret
      exact ⟨ret_bool hall.symm, rfl⟩

/-- are all numbers with places short? -/
def lightB (x : Recs) : Bool := [x.lD0, x.lV2, x.lV7, x.lV8, x.lV9, x.lG0, x.lG2, x.lH0, x.lM6].all (fun l => decide (l.length ≤ 60))

theorem Recs.At.keep {w w2 : World} {x : Recs} (h : x.At w) (m : Mods noB w w2) : x.At w2 := { h with dD0 := ⟨RdM.keep h.dD0.1 m (fun _ _ x => x), h.dD0.2⟩, dV2 := ⟨RdM.keep h.dV2.1 m (fun _ _ x => x), h.dV2.2⟩, dV7 := ⟨RdM.keep h.dV7.1 m (fun _ _ x => x), h.dV7.2⟩, dV8 := ⟨RdM.keep h.dV8.1 m (fun _ _ x => x), h.dV8.2⟩, dV9 := ⟨RdM.keep h.dV9.1 m (fun _ _ x => x), h.dV9.2⟩, dG0 := ⟨RdM.keep h.dG0.1 m (fun _ _ x => x), h.dG0.2⟩, dG2 := ⟨RdM.keep h.dG2.1 m (fun _ _ x => x), h.dG2.2⟩, dH0 := ⟨RdM.keep h.dH0.1 m (fun _ _ x => x), h.dH0.2⟩, dM6 := ⟨RdM.keep h.dM6.1 m (fun _ _ x => x), h.dM6.2⟩ }

set_option maxHeartbeats 2000000 in
theorem light_any {w : World} (x : Recs) (hx : x.At w) : Calls Try.prog 5 #[.agg x.cells] w fun r w' => r = .returned (.bool (lightB x)) ∧ Mods noB w w' := by
  obtain ⟨nP0, nP1, nP2, nP3, nP4, nP5, nP6, nP7, nP8, nP9, nC0, nC1, uD0, lD0, nA0, nA1, nV0, nV1, uV2, lV2, bV3, nV4, bV5, nV6, uV7, lV7, uV8, lV8, uV9, lV9, uG0, lG0, nG1, uG2, lG2, uH0, lH0, nH1, nK0, nK1, nU0, nU1, nU2, nU3, nU4, nU5, nM0, nM1, nM2, nM3, nM4, nM5, uM6, lM6, nN0⟩ := x
  obtain ⟨aD0, cD0, hD0, _⟩ := (show RN w uD0 lD0 from hx.dD0.1).form
  subst hD0
  obtain ⟨aV2, cV2, hV2, _⟩ := (show RN w uV2 lV2 from hx.dV2.1).form
  subst hV2
  obtain ⟨aV7, cV7, hV7, _⟩ := (show RN w uV7 lV7 from hx.dV7.1).form
  subst hV7
  obtain ⟨aV8, cV8, hV8, _⟩ := (show RN w uV8 lV8 from hx.dV8.1).form
  subst hV8
  obtain ⟨aV9, cV9, hV9, _⟩ := (show RN w uV9 lV9 from hx.dV9.1).form
  subst hV9
  obtain ⟨aG0, cG0, hG0, _⟩ := (show RN w uG0 lG0 from hx.dG0.1).form
  subst hG0
  obtain ⟨aG2, cG2, hG2, _⟩ := (show RN w uG2 lG2 from hx.dG2.1).form
  subst hG2
  obtain ⟨aH0, cH0, hH0, _⟩ := (show RN w uH0 lH0 from hx.dH0.1).form
  subst hH0
  obtain ⟨aM6, cM6, hM6, _⟩ := (show RN w uM6 lM6 from hx.dM6.1).form
  subst hM6
  obtain ⟨bl, hbl⟩ : ∃ bl, lightB ⟨nP0, nP1, nP2, nP3, nP4, nP5, nP6, nP7, nP8, nP9, nC0, nC1, .slice aD0 lD0.length cD0, lD0, nA0, nA1, nV0, nV1, .slice aV2 lV2.length cV2, lV2, bV3, nV4, bV5, nV6, .slice aV7 lV7.length cV7, lV7, .slice aV8 lV8.length cV8, lV8, .slice aV9 lV9.length cV9, lV9, .slice aG0 lG0.length cG0, lG0, nG1, .slice aG2 lG2.length cG2, lG2, .slice aH0 lH0.length cH0, lH0, nH1, nK0, nK1, nU0, nU1, nU2, nU3, nU4, nU5, nM0, nM1, nM2, nM3, nM4, nM5, .slice aM6 lM6.length cM6, lM6, nN0⟩ = bl := ⟨_, rfl⟩
  rw [hbl]
  have HB := Lib.hid hbl
  clear hx hbl
  unfold Recs.cells
  simp only
  go_enter Try.func5, Try.ntmps5
  refine wp_seq_h fun K HK => ?_
  have P := Lib.hid (put_box w #[.int .u64 nP0, .int .u64 nP1, .int .u64 nP2, .int .u64 nP3, .int .u64 nP4, .int .u64 nP5, .int .u64 nP6, .int .u64 nP7, .int .u64 nP8, .int .u64 nP9, .int .u64 nC0, .int .u64 nC1, .slice aD0 lD0.length cD0, .int .u64 nA0, .int .u64 nA1, .int .u64 nV0, .int .u64 nV1, .slice aV2 lV2.length cV2, .bool bV3, .int .u64 nV4, .bool bV5, .int .u64 nV6, .slice aV7 lV7.length cV7, .slice aV8 lV8.length cV8, .slice aV9 lV9.length cV9, .slice aG0 lG0.length cG0, .int .u64 nG1, .slice aG2 lG2.length cG2, .slice aH0 lH0.length cH0, .int .u64 nH1, .int .u64 nK0, .int .u64 nK1, .int .u64 nU0, .int .u64 nU1, .int .u64 nU2, .int .u64 nU3, .int .u64 nU4, .int .u64 nU5, .int .u64 nM0, .int .u64 nM1, .int .u64 nM2, .int .u64 nM3, .int .u64 nM4, .int .u64 nM5, .slice aM6 lM6.length cM6, .int .u64 nN0] 46 _ rfl)
  go_wp2
  refine HK.out _ _ ?_
  clear K HK
  generalize World.alloc w _ = w1 at *
  have dD0 := cells_of P.out.1 12
  have dV2 := cells_of P.out.1 17
  have dV7 := cells_of P.out.1 22
  have dV8 := cells_of P.out.1 23
  have dV9 := cells_of P.out.1 24
  have dG0 := cells_of P.out.1 25
  have dG2 := cells_of P.out.1 27
  have dH0 := cells_of P.out.1 28
  have dM6 := cells_of P.out.1 44
  go_wp2_with fail
  refine (small_any (ps := [(aD0, lD0.length, cD0), (aV2, lV2.length, cV2), (aV7, lV7.length, cV7), (aV8, lV8.length, cV8), (aV9, lV9.length, cV9), (aG0, lG0.length, cG0), (aG2, lG2.length, cG2), (aH0, lH0.length, cH0), (aM6, lM6.length, cM6)]) (heap_new _ _) rfl (Nat.le_of_ble_eq_true rfl)).mono ?_
  rintro r w2 ⟨rfl, rfl⟩
  go_wp2
  go_ret
  exact ⟨ret_bool HB.out, P.out.2.1.alloc _⟩

/-- a number with places as it is read again -/
def normL (l : List Nat) : List Nat := dig 18446744073709551616 (shortN (dval 18446744073709551616 l))
theorem normL_is {l : List Nat} (h : Lim l) : normL l = if blen (dval 18446744073709551616 l) ≤ 255 then strip l else [] := by
  unfold normL shortN
  split
  · exact (strip_dig (by omega) (fun d hd => by have := h d hd; omega)).symm
  · rfl

set_option maxHeartbeats 1000000 in
theorem norm_any {w : World} {u : Value} {l : List Nat} (hu : RN w u l) (hL : Lim l) (hl : l.length ≤ 1000000) : Calls Try.prog 12 #[.agg #[u]] w fun r w' => ∃ u', r = .returned (.agg #[u']) ∧ RN w' u' (normL l) ∧ Mods noB w w' ∧ freshIn w u' := by
  obtain ⟨a, c, rfl, _⟩ := hu.form
  have hn := normL_is hL
  have HU := Lib.hid (And.intro hu hL)
  have b0 := heap_old (heap_new w (.cells #[.slice a l.length c] 30)) (.cells #[.slice none 0 0] 30)
  have b1 := heap_new (w.alloc (.cells #[.slice a l.length c] 30)) (.cells #[.slice none 0 0] 30)
  have m := ((Mods.refl noB w).alloc (.cells #[.slice a l.length c] 30)).alloc (.cells #[.slice none 0 0] 30)
  simp only [World.size_alloc] at b1
  have P := Lib.hid (And.intro b0 (And.intro b1 m))
  have HN := Lib.hid hn
  clear hu hL b0 b1 m hn
  go_enter Try.func12, Try.ntmps12
  go_wp2_with fail
  generalize World.alloc (World.alloc w _) _ = w1 at *
  refine (NBytes_any (HU.out.1.keep P.out.2.2 (fun _ _ x => x)) HU.out.2 (by omega)).mono ?_
  rintro r w2 ⟨v, rfl, o1, m1, _⟩
  obtain ⟨va, vc, rfl, _⟩ := o1.rd.form
  have hlen : (natB (dval 18446744073709551616 l)).length = blen (dval 18446744073709551616 l) := natB_length _
  rw [hlen]
  have c1 := cells_of (blk_step m1 P.out.1)
  have b2 := blk_step m1 P.out.2.1
  have B2 := Lib.hid b2
  have M := Lib.hid (P.out.2.2.then0 m1)
  have HZ := Lib.hid (show w.heap.size + 1 < w2.heap.size from lt_of_heap b2)
  clear o1 m1 b2 hlen
  by_cases hb : blen (dval 18446744073709551616 l) ≤ 255
  · rw [if_pos hb] at HN
    have hb' : ¬ (255 : Int) < (blen (dval 18446744073709551616 l) : Int) := by omega
    generalize blen (dval 18446744073709551616 l) = bn at *
    go_wp2_with fail
    refine (Norm_any (HU.out.1.keep M.out (fun _ _ x => x)) (by omega)).mono ?_
    rintro r w3 ⟨v2, rfl, o2, m2, f2⟩
    have hr := OwnG.rd o2
    have d2 := cells_of (blk_step m2 B2.out)
    have e2 := free_of (blk_step m2 B2.out)
    have R := Lib.hid (And.intro (show RN w3 v2 (strip l) from hr) (And.intro (M.out.then0 m2) (f2.of M.out.size)))
    have H3 := Lib.hid (blk_step m2 B2.out)
    have F2 := Lib.hid f2
    obtain ⟨ra, rc, rfl, _⟩ := (show RN w3 v2 (strip l) from hr).form
    clear o2 m2 f2 hr c1
    go_wp2
    have d3 := cells_of (heap_set H3.out 0 (.slice ra (strip l).length rc))
    simp at d3
    refine bodyPost_ret (by simp [results, Try.results12, go_sem, d3]; try rfl) rfl ?_
    refine ⟨_, rfl, ?_, R.out.2.1.setCell (.inr (by simp)) _, R.out.2.2⟩
    rw [HN.out]
    exact RdM.keep R.out.1 (Mods.one w3 (w.heap.size + 1) 0 _) (fun k hk e => by have := F2.out k hk; have := HZ.out; omega)
  · rw [if_neg hb] at HN
    have hb' : (255 : Int) < (blen (dval 18446744073709551616 l) : Int) := by omega
    generalize blen (dval 18446744073709551616 l) = bn at *
    have d2 := cells_of B2.out
    have e2 := free_of B2.out
    clear c1
    go_wp2
    have d3 := cells_of (heap_set B2.out 0 (.slice none 0 0))
    simp at d3
    refine bodyPost_ret (by simp [results, Try.results12, go_sem, d3]; try rfl) rfl ?_
    refine ⟨_, rfl, ?_, M.out.setCell (.inr (by simp)) _, fresh_nil _⟩
    rw [HN.out]
    exact RdM.nil _ _

end Go.Proofs.Ytnkbbclcileleaa

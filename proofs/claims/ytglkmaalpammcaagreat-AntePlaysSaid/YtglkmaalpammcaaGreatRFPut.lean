/- gleanref8: u, flag, d (what they append). -/
import Derived.Test.YtglkmaalpammcaaGreatRWr
import Derived.Test.YtglkmaalpammcaaGreatRecH
namespace Go.Proofs.YtglkmaalpammcaaGreat
open Go.Gl Go.RowKit
set_option linter.unusedVariables false
set_option maxRecDepth 100000
theorem be8_len (ns : List Nat) : (ns.flatMap (be 8)).length = 8 * ns.length := by
 induction ns with
 | nil => rfl
 | cons a l ih => simp only [List.flatMap_cons, List.length_append, be_length, ih, List.length_cons]; omega
def Laid (w : World) (v : Value) (ys : List UInt8) (e : Ending) (w' : World) : Prop := ∃ v', e = .returned v' ∧ Appended w v ys w' v'
set_option maxHeartbeats 1000000 in
theorem u_any {w : World} {v u : Value} {xs : List UInt8} {ns : List Nat} (h : Gl.Own w v xs) (hu : RN w u ns) (hn : Lim ns) (hl : ns.length ≤ 100) (hap : ∀ k, u.ownBlock = some k → v.ownBlock ≠ some k) (hx : xs.length ≤ 1000000) :
  Calls Tryz.prog 121 #[v, u] w (Laid w v (xs ++ ns.flatMap (be 8))) := by
 unfold Laid
 obtain ⟨a, c, rfl, _⟩ := RdM.form hu
 obtain ⟨n, hnl⟩ : ∃ n, ns.length = n := ⟨_, rfl⟩
 have HK := Lib.hid (fun (w' : World) (v' : Value) (ys : List UInt8) (k : Appended w v ys w' v') => show RN w' (.slice a n c) ns from hnl ▸ RdM.keepL hu k.mods (fun k _ hb x => hap k hb x))
 have HN := Lib.hid hnl
 have HL := Lib.hid hn
 have A0 : Hid (Appended w v (xs ++ (ns.take 0).flatMap (be 8)) w v) := Lib.hid (by simpa using Appended.refl h)
 rw [hnl] at hl ⊢
 clear h hu hn hap hnl
 go_enter Tryz.func121, Tryz.ntmps121
 go_wp2
 go_loopw [0, 5] (fun b k wr => ∃ (j : Nat), j ≤ n ∧ k = .int .i64 (j : Int) ∧ Hid (Appended w v (xs ++ (ns.take j).flatMap (be 8)) wr b)) (fun _ k _ => n - (intOf k).toNat)
 case atStart => exact ⟨0, Nat.zero_le _, rfl, A0⟩
 case round =>
  obtain ⟨j, hj, rfl, hR⟩ := hrel
  clear A0
  by_cases hjn : j < n
  ·have hlj : j < ns.length := by rw [HN.out]; exact hjn
   obtain ⟨_, _, _, hc⟩ := RN.cells (HK.out _ _ _ hR.out)
   rcases hc with h0 | ⟨g, off, rfl, hc⟩
   ·omega
   have c1 := hc j hlj
   clear hc
   have hz := HL.out _ (List.getElem_mem hlj)
   generalize hzx : ns[j] = z at *
   have HZ := Lib.hid hzx
   clear hzx
   go_wp2_with fail
   refine (Put_any 8 z hR.out.own (by omega) hz (by
    have h1 := be8_len (ns.take j)
    have h2 : (ns.take j).length ≤ j := List.length_take_le ..
    simp only [List.length_append]; omega)).mono ?_
   rintro e w1 ⟨v1, rfl, h1⟩
   have A1 : Hid (Appended w v (xs ++ (ns.take (j + 1)).flatMap (be 8)) w1 v1) := Lib.hid (by
    rw [List.take_succ_eq_append_getElem hlj, HZ.out]
    simpa only [List.flatMap_append, List.flatMap_cons, List.flatMap_nil, List.append_nil, List.append_assoc] using hR.out.trans h1)
   clear hR h1
   go_wp2
   go_roundw
   case rel => exact ⟨j + 1, hjn, by go_num, A1⟩
   case measure => simp [intOf]; omega
  ·obtain rfl : j = n := by omega
   go_wp2
   go_ret
   refine ⟨_, rfl, ?_⟩
   have := hR.out
   rw [List.take_of_length_le (by rw [HN.out]; exact Nat.le_refl _)] at this
   exact this
set_option maxHeartbeats 1000000 in
theorem Dec_any {w : World} {v u : Value} {xs : List UInt8} {ls : List Nat} (h : Gl.Own w v xs) (hu : RN w u ls) (hL : Lim ls) (hl : ls.length ≤ 1000000) (hx : xs.length ≤ 1000000) (hb : blen (dval 18446744073709551616 ls) ≤ 255) :
  Calls Tryz.prog 247 #[v, .agg #[u]] w (Laid w v (xs ++ natL (dval 18446744073709551616 ls))) := by
 unfold Laid
 obtain ⟨a, c, rfl, _⟩ := RdM.form hu
 have m1 := (Mods.refl noB w).alloc (.cells #[.slice a ls.length c] 75)
 have h1 := heap_new w (.cells #[.slice a ls.length c] 75)
 have HW := Lib.hid (RWNat_any (h.keep m1 (fun _ _ x => x)) (RdM.keep hu m1 (fun _ _ x => x)) hL hl (by omega))
 have HM := Lib.hid m1
 have HB := Lib.hid hb
 clear h hu hL m1 hb
 generalize dval 18446744073709551616 ls = N at *
 go_enter Tryz.func247, Tryz.ntmps247
 go_wp2_with fail
 refine HW.out.mono ?_
 rintro e w1 ⟨v1, rfl, h1⟩
 have A1 := Lib.hid (Appended.from0 HM.out h1)
 clear h1 HW
 go_wp2
 go_ret
 have := A1.out
 rw [rnatX, if_pos HB.out] at this
 exact ⟨_, rfl, this⟩
set_option maxHeartbeats 1000000 in
theorem d_any {w : World} {v u : Value} {xs : List UInt8} {ls : List Nat} (h : Gl.Own w v xs) (hu : RN w u ls) (hL : Lim ls) (hl : ls.length ≤ 1000000) (hx : xs.length ≤ 1000000) :
  Calls Tryz.prog 201 #[v, .agg #[u]] w (Laid w v (xs ++ dlay ls)) := by
 unfold Laid
 obtain ⟨ys, hys⟩ : ∃ ys, dlay ls = ys := ⟨_, rfl⟩
 rw [hys]
 have HY := Lib.hid hys
 clear hys
 obtain ⟨a, c, rfl, _⟩ := RdM.form hu
 have m1 := (Mods.refl noB w).alloc (.cells #[.slice a ls.length c] 75)
 have b1 := heap_new w (.cells #[.slice a ls.length c] 75)
 have HB := Lib.hid (rbytes_walk (RdM.keep hu m1 (fun _ _ x => x)) hL (by omega))
 have HH := Lib.hid h
 have HU := Lib.hid hu
 have HM := Lib.hid m1
 have HL := Lib.hid hL
 clear h hu hL m1
 have c1 := cells_of b1 0
 have B1 := Lib.hid b1
 clear b1
 go_enter Tryz.func201, Tryz.ntmps201
 go_wp2_with fail
 refine HB.out.mono ?_
 rintro r w1 ⟨b, rfl, ho, hm, hf⟩
 obtain ⟨a1, k1, rfl, hlm⟩ := ho.rd.form
 rw [natB_length] at *
 have B2 := Lib.hid (blk_step hm B1.out)
 have MM := Lib.hid (HM.out.then0 hm)
 clear ho hf HB hlm B1 c1
 have c1 := cells_of B2.out 0
 have e1 := free_of B2.out
 by_cases hb : blen (dval 18446744073709551616 ls) ≤ 255
 ·have HD := Lib.hid (Dec_any (HH.out.keep MM.out (fun _ _ x => x)) (RdM.keep HU.out MM.out (fun _ _ x => x)) HL.out hl hx hb)
  have hE : dlay ls = natL (dval 18446744073709551616 ls) := by unfold dlay; rw [shortN_short _ hb]
  have HE := Lib.hid hE
  clear hE
  have hb' : ¬ (255 : Int) < (blen (dval 18446744073709551616 ls) : Int) := by omega
  clear hb
  generalize blen (dval 18446744073709551616 ls) = bn at *
  go_wp2_with fail
  refine HD.out.mono ?_
  rintro e w2 ⟨v2, rfl, h2⟩
  have A1 := Lib.hid (Appended.from0 MM.out h2)
  clear h2 HD
  go_wp2
  go_ret
  refine ⟨_, rfl, ?_⟩
  rw [← HY.out, HE.out]
  exact A1.out
 ·have hb' : (255 : Int) < (blen (dval 18446744073709551616 ls) : Int) := by omega
  have hE : dlay ls = natL (dval 18446744073709551616 []) := by unfold dlay shortN; rw [if_neg hb]; rfl
  have HE := Lib.hid hE
  have ms := MM.out.setCell (p := ⟨w.heap.size, 0, none⟩) (.inr (by simp)) (.slice none 0 0)
  have HD := Lib.hid (Dec_any (ls := []) (HH.out.keep ms (fun _ _ x => x)) (RdM.nil _ _) (fun x hx => by cases hx) (by simp) hx (by decide))
  have MS := Lib.hid ms
  clear hE ms
  clear hb
  generalize blen (dval 18446744073709551616 ls) = bn at *
  go_wp2_with fail
  refine HD.out.mono ?_
  rintro e w2 ⟨v2, rfl, h2⟩
  have A1 := Lib.hid (Appended.from0 MS.out h2)
  clear h2 HD
  go_wp2
  go_ret
  refine ⟨_, rfl, ?_⟩
  rw [← HY.out, HE.out]
  exact A1.out
end Go.Proofs.YtglkmaalpammcaaGreat

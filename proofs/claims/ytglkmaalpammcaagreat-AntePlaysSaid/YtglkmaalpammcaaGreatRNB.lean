/- gleanref1.Bytes: a number's bytes, the highest first. -/
import Derived.Test.YtglkmaalpammcaaGreatRDig
import Derived.Test.YtglkmaalpammcaaGreatZE
namespace Go.Gl
end Go.Gl
namespace Go.Proofs.YtglkmaalpammcaaGreat
open Go.Gl Go.RowKit
set_option linter.unusedVariables false
set_option maxRecDepth 100000
theorem natB_nil {V : Nat} (h : (natB V).length = 0) : V = 0 := by
 have h1 := num_natB V
 rw [List.eq_nil_of_length_eq_zero h] at h1
 simpa [num] using h1.symm
theorem natB_zero : natB 0 = [] := by decide
theorem natB_push (V : Nat) (c : UInt8) (h : ¬ (V = 0 ∧ c = 0)) : natB (V * 256 + c.toNat) = natB V ++ [c] := by
 have h1 : num (natB V ++ [c]) = V * 256 + c.toNat := by rw [num_snoc, num_natB]
 rw [← h1]
 refine natB_num _ ?_
 by_cases hV : (natB V).length = 0
 ·have h0 := natB_nil hV
  subst h0
  rw [natB_zero]
  simp only [List.nil_append, List.getElem?_cons_zero, ne_eq, Option.some.injEq]
  exact fun e => h ⟨rfl, e⟩
 ·rw [List.getElem?_append_left (by omega)]
  exact blen_first V
theorem byte_in (V d q : Nat) (hq : q ≤ 3) : (V * 4294967296 + d) / 256 ^ q = (V * 4294967296 + d) / 256 ^ (q + 1) * 256 + d / 256 ^ q % 256 := by
 have h1 : (V * 4294967296 + d) / 256 ^ (q + 1) = (V * 4294967296 + d) / 256 ^ q / 256 := by rw [Nat.pow_succ, Nat.div_div_eq_div_mul]
 have h2 : (V * 4294967296 + d) / 256 ^ q % 256 = d / 256 ^ q % 256 := by
  have e : V * 4294967296 = 256 ^ q * (256 * (V * 256 ^ (3 - q))) := by
   have : (4294967296 : Nat) = 256 ^ q * (256 * 256 ^ (3 - q)) := by
    rw [← Nat.pow_succ', ← Nat.pow_add, show q + (3 - q + 1) = 4 from by omega]
   rw [this, Nat.mul_left_comm, Nat.mul_left_comm V 256]
  rw [e, Nat.add_comm, Nat.add_mul_div_left _ _ (Nat.pow_pos (by decide)), Nat.add_mul_mod_self_left]
 rw [h1, ← h2]
 omega
set_option maxHeartbeats 4000000 in
theorem rbytes_walk {w : World} {v : Value} {ls : List Nat} (h : RN w v ls) (hL : Lim ls) (hl : ls.length ≤ 1000000000) : Calls Tryz.prog 246 #[v] w (GRes w (natB (dval 18446744073709551616 ls))) := by
 have HG := Lib.hid (rdigits_any h hL (by omega))
 have HD := Lib.hid (show ∀ d ∈ rdig ls, d < 4294967296 from fun d hd => hdig_lt hL d (strip_mem hd))
 have hn : (rdig ls).length ≤ 2000000000 := by
  have := strip_length_le (hdig ls)
  rw [hdig_length] at this
  unfold rdig
  omega
 have HE : dval 4294967296 (rdig ls) = dval 18446744073709551616 ls := by unfold rdig; rw [dval_strip, dval_hdig]
 rw [← HE]
 generalize rdig ls = ds at *
 obtain ⟨n, hnn⟩ : ∃ n, ds.length = n := ⟨_, rfl⟩
 rw [hnn] at hn
 have HN := Lib.hid hnn
 clear h hL hl HE hnn
 go_enter Tryz.func246, Tryz.ntmps246
 go_wp2_with fail
 refine HG.out.mono ?_
 rintro e w1 ⟨v1, rfl, hr, hm, hf⟩
 obtain ⟨a1, c1, rfl, _⟩ := RdM.form hr
 rw [HN.out] at hr
 simp only [HN.out]
 have H := Lib.hid hr
 have M := Lib.hid hm
 clear hr hm hf HG
 go_wp2
 go_loopw [4, 5] (fun o i wr => ∃ r : Nat, r ≤ n ∧ i = .int .i64 ((r : Int) - 1) ∧ Hid (Gl.Own wr o (natB (dval 4294967296 (ds.drop r))) ∧ Mods noB w1 wr ∧ freshIn w1 o ∧ (natB (dval 4294967296 (ds.drop r))).length + 4 * r ≤ 4 * n)) (fun _ i _ => (intOf i + 1).toNat)
 case atStart =>
  refine ⟨n, Nat.le_refl _, rfl, Lib.hid ?_⟩
  rw [List.drop_of_length_le (by rw [HN.out]; omega)]
  exact ⟨Gl.Own.nil _, Mods.refl _ _, freshIn.nil _, by rw [show dval 4294967296 [] = 0 from rfl, natB_zero]; simp⟩
 case round =>
  obtain ⟨r, hr, rfl, hR⟩ := hrel
  rcases r with _ | r
  ·have R := hR
   clear hR
   go_wp2
   go_ret
   have hh := R.out
   rw [List.drop_zero] at hh
   exact ⟨_, rfl, hh.1, M.out.then0 hh.2.1, hh.2.2.1.of M.out.size⟩
  ·have lr : r < ds.length := by rw [HN.out]; omega
   have HV := Lib.hid (show dval 4294967296 (ds.drop r) = (dval 4294967296 (ds.drop (r + 1)) * 4294967296 + ds[r]) / 256 ^ 0 from by
    rw [List.drop_eq_getElem_cons lr, Nat.pow_zero, Nat.div_one]
    simp only [dval]
    omega)
   have HV4 := Lib.hid (show dval 4294967296 (ds.drop (r + 1)) = (dval 4294967296 (ds.drop (r + 1)) * 4294967296 + ds[r]) / 256 ^ 4 from by
    have := HD.out _ (List.getElem_mem lr)
    have e : (256 : Nat) ^ 4 = 4294967296 := by decide
    rw [e]
    omega)
   have hdl := HD.out _ (List.getElem_mem lr)
   obtain ⟨g, off, rfl, hcc⟩ := ((RN.cells H.out).2.2.2).resolve_left (by omega)
   have hc0 := hcc r lr
   have HC := Lib.hid hc0
   have hg1 : n ≠ 0 := by omega
   have hgl := (RdM.ltn H.out (by rw [HN.out]; omega)) g rfl
   clear hcc hc0 hg1
   generalize hV : dval 4294967296 (ds.drop (r + 1)) = V at *
   generalize ds[r] = d at *
   have hR2 := hR.out
   rw [HV4.out] at hR2
   have R4 := Lib.hid (show Gl.Own wr u4 (natB ((V * 4294967296 + d) / 256 ^ 4)) ∧ Mods noB w1 wr ∧ freshIn w1 u4 ∧ (natB ((V * 4294967296 + d) / 256 ^ 4)).length + 4 + 4 * r ≤ 4 * n from ⟨hR2.1, hR2.2.1, hR2.2.2.1, by have := hR2.2.2.2; omega⟩)
   have HVV := Lib.hid hV
   clear hR hR2 hV HV4
   rw [show (((r + 1 : Nat) : Int) - 1) = ((r : Nat) : Int) from by omega]
   go_wp2
   obtain ⟨wo, rfl⟩ : ∃ wo : World, wo = wr := ⟨_, rfl⟩
   go_loopw [4, 6] (fun o kk wr => ∃ q : Nat, q ≤ 4 ∧ kk = .int .i64 (8 * (q : Int) - 8) ∧ Hid (Gl.Own wr o (natB ((V * 4294967296 + d) / 256 ^ q)) ∧ Mods noB w1 wr ∧ freshIn w1 o ∧ (natB ((V * 4294967296 + d) / 256 ^ q)).length + q + 4 * r ≤ 4 * n)) (fun _ kk _ => (intOf kk + 8).toNat)
   case atStart => exact ⟨4, Nat.le_refl _, rfl, R4⟩
   case round =>
    clear R4
    obtain ⟨q, hq, rfl, hR⟩ := hrel
    rcases q with _ | q
    ·have hz := hR.out
     rw [← HV.out] at hz
     have RZ := Lib.hid (show Gl.Own wr u4 (natB (dval 4294967296 (ds.drop r))) ∧ Mods noB w1 wr ∧ freshIn w1 u4 ∧ (natB (dval 4294967296 (ds.drop r))).length + 4 * r ≤ 4 * n from ⟨hz.1, hz.2.1, hz.2.2.1, by have := hz.2.2.2; omega⟩)
     clear hz hR
     go_wp2
     go_roundw
     case rel => exact ⟨r, by omega, rfl, RZ⟩
     case measure => simp [intOf]
    ·rw [show (8 * ((q + 1 : Nat) : Int) - 8) = 8 * (q : Int) from by omega]
     have hX := byte_in V d q (by omega)
     generalize hW : (V * 4294967296 + d) / 256 ^ (q + 1) = W at *
     generalize hWn : (V * 4294967296 + d) / 256 ^ q = Wn at *
     obtain ⟨b, hb⟩ : ∃ b : UInt8, b.toNat = d / 256 ^ q % 256 := ⟨UInt8.ofNat (d / 256 ^ q), by rw [UInt8.toNat_ofNat']⟩
     rw [← hb] at hX
     have hsh : (d : Int) / 2 ^ (8 * q) % 256 = ((b.toNat : Nat) : Int) := by rw [shr_byte, UInt8.toNat_ofNat', hb]
     have c1 := (hR.out.2.1.cellAt hgl (fun x => x) (off + r)).trans HC.out
     obtain ⟨ao, co, rfl, hlo⟩ := hR.out.1.rd.form
     have HX := Lib.hid hX
     have HWn := Lib.hid hWn
     obtain ⟨lo, hlo'⟩ : ∃ lo, (natB W).length = lo := ⟨_, rfl⟩
     have R := hR
     simp only [hlo'] at R hlo ⊢
     have HL := Lib.hid hlo'
     clear hX hW hWn hb hR hlo'
     unfold maxLen at hlo
     have hb8 := b.toNat_lt
     by_cases h0 : lo = 0
     ·subst h0
      obtain rfl : W = 0 := natB_nil HL.out
      by_cases hb0 : b = 0
      ·subst hb0
       have hz : Wn = 0 := by rw [HX.out]; rfl
       have hbd := R.out.2.2.2
       subst hz
       clear HX
       go_wp2
       go_roundw
       case rel => exact ⟨q, by omega, by go_num, Lib.hid (by rw [HWn.out]; exact ⟨R.out.1, R.out.2.1, R.out.2.2.1, by rw [HL.out]; omega⟩)⟩
       case measure => simp [intOf]; omega
      ·have hbn : b.toNat ≠ 0 := fun e => hb0 (UInt8.toNat_inj.1 (by simpa using e))
       have HP := Lib.hid (show natB 0 ++ [b] = natB Wn from by rw [HX.out]; exact (natB_push 0 b (fun h => hb0 h.2)).symm)
       generalize hbb : b.toNat = z at *
       have HB := Lib.hid hbb
       have f1 : ((z : Int) == 0) = false := by simp; omega
       have f2 : ((z : Int) != 0) = true := by simp; omega
       clear hb0 HX hbb
       go_wp2_with (at_builtin; refine stop ?_)
       unfold Stop
       obtain ⟨h1, h2, h3, h4⟩ := R.out
       refine wpList_apb rfl rfl (natB 0) [b] ((h1.quiet ⟨0, rfl⟩).alloc _) (own_atI b (by rw [HB.out]) _ rfl).rd rfl rfl (by have := HL.out; simp; omega) ?_
       intro v' w' k1 k2 k3
       rw [HP.out] at k1
       have R1 : Hid (Gl.Own w' v' (natB Wn) ∧ Mods noB w1 w' ∧ freshIn w1 v' ∧ (natB Wn).length + q + 4 * r ≤ 4 * n) := by
        refine ⟨k1, (h2.alloc _).trans k2 (fun _ _ x => x) (fun i hi x => absurd hi (Nat.not_lt.2 (h3 i x))), ?_, by rw [← HP.out, List.length_append, HL.out]; simp; omega⟩
        rcases k3 with k3 | k3
        ·exact fun i hi => h3 i (k3 ▸ hi)
        ·exact k3.of (by have := h2.size; simp; omega)
       clear R h1 h2 h3 h4 k1 k2 k3
       go_wp2
       go_roundw
       case rel => exact ⟨q, by omega, by go_num, Lib.hid (by rw [HWn.out]; exact R1.out)⟩
       case measure => simp [intOf]; omega
     ·have hpos : 0 < lo := by omega
      have hW0 : W ≠ 0 := fun e => h0 (by rw [← HL.out, e]; decide)
      have HP := Lib.hid (show natB W ++ [b] = natB Wn from by rw [HX.out]; exact (natB_push W b (fun h => hW0 h.1)).symm)
      clear h0 hW0 HX
      go_wp2_with (at_builtin; refine stop ?_)
      unfold Stop
      obtain ⟨h1, h2, h3, h4⟩ := R.out
      refine wpList_apb rfl rfl (natB W) [b] ((h1.quiet ⟨0, rfl⟩).alloc _) (own_at b _ rfl).rd rfl rfl (by have := HL.out; simp; omega) ?_
      intro v' w' k1 k2 k3
      rw [HP.out] at k1
      have R1 : Hid (Gl.Own w' v' (natB Wn) ∧ Mods noB w1 w' ∧ freshIn w1 v' ∧ (natB Wn).length + q + 4 * r ≤ 4 * n) := by
       refine ⟨k1, (h2.alloc _).trans k2 (fun _ _ x => x) (fun i hi x => absurd hi (Nat.not_lt.2 (h3 i x))), ?_, by rw [← HP.out, List.length_append, HL.out]; simp; omega⟩
       rcases k3 with k3 | k3
       ·exact fun i hi => h3 i (k3 ▸ hi)
       ·exact k3.of (by have := h2.size; simp; omega)
      clear R h1 h2 h3 h4 k1 k2 k3
      go_wp2
      go_roundw
      case rel => exact ⟨q, by omega, by go_num, Lib.hid (by rw [HWn.out]; exact R1.out)⟩
      case measure => simp [intOf]; omega
end Go.Proofs.YtglkmaalpammcaaGreat

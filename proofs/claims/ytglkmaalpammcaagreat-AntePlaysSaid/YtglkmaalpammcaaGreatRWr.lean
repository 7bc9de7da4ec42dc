/- gleanref4.Nat, Raw: what they append. -/
import Derived.Test.YtglkmaalpammcaaGreatRNB
import Derived.Test.YtglkmaalpammcaaGreatZD
namespace Go.Proofs.YtglkmaalpammcaaGreat
open Go.Gl Go.RowKit
set_option linter.unusedVariables false
set_option maxRecDepth 100000
theorem Appended.refl {w : World} {v : Value} {xs : List UInt8} (h : Gl.Own w v xs) : Appended w v xs w v := ⟨h, Mods.refl _ _, .inl rfl⟩
theorem Appended.from0 {w w1 w2 : World} {v v2 : Value} {ys : List UInt8} (hm : Mods noB w w1) (k : Appended w1 v ys w2 v2) : Appended w v ys w2 v2 :=
 ⟨k.own, hm.trans k.mods (fun _ _ x => x.elim) (fun _ _ x => x), k.blk.imp_right (fun h => h.of hm.size)⟩
theorem Appended.then {w w1 w2 : World} {v v1 v2 : Value} {xs ys : List UInt8} (h : Appended w v xs w1 v1) (h1 : Gl.Own w2 v2 ys) (h2 : Mods (ofV v1) w1 w2) (h3 : v2.ownBlock = v1.ownBlock ∨ freshIn w1 v2) : Appended w v ys w2 v2 := h.trans ⟨h1, h2, h3⟩
theorem Appended.byte {w w1 w2 : World} {v v1 v2 : Value} {xs ys : List UInt8} {o : Obj} (h : Appended w v xs w1 v1) (h1 : Gl.Own w2 v2 ys) (h2 : Mods (ofV v1) (w1.alloc o) w2) (h3 : v2.ownBlock = v1.ownBlock ∨ freshIn (w1.alloc o) v2) : Appended w v ys w2 v2 :=
 h.trans ⟨h1, ((Mods.refl (ofV v1) w1).alloc o).trans h2 (fun _ _ x => x) (fun _ _ x => x), h3.imp_right (fun k => k.of (by simp))⟩
def rnatX (xs : List UInt8) (N : Nat) : List UInt8 := if blen N ≤ 255 then xs ++ natL N else xs
def RWNat (w : World) (v : Value) (xs : List UInt8) (N : Nat) (e : Ending) (w' : World) : Prop := ∃ v', e = .returned (.tuple #[v', .bool (decide (blen N ≤ 255))]) ∧ Appended w v (rnatX xs N) w' v'
set_option maxHeartbeats 1000000 in
theorem RWNat_any {w : World} {v u : Value} {xs : List UInt8} {ls : List Nat} (h : Gl.Own w v xs) (hu : RN w u ls) (hL : Lim ls) (hl : ls.length ≤ 1000000) (hx : xs.length ≤ 10000000000000) :
  Calls Tryz.prog 272 #[v, u] w (RWNat w v xs (dval 18446744073709551616 ls)) := by
 have HB := Lib.hid (rbytes_walk hu hL (by omega))
 have hv := h.lt
 generalize dval 18446744073709551616 ls = N at *
 obtain ⟨a0, c0, rfl, _⟩ := h.rd.form
 obtain ⟨n, hn⟩ : ∃ n, xs.length = n := ⟨_, rfl⟩
 rw [hn] at h hx hv ⊢
 have H := Lib.hid h
 have HN := Lib.hid hn
 clear h hu hL hn
 go_enter Tryz.func272, Tryz.ntmps272
 go_wp2_with fail
 refine HB.out.mono ?_
 rintro r w1 ⟨b, rfl, ho, hm, hf⟩
 obtain ⟨a, c, rfl, hlm⟩ := ho.rd.form
 rw [natB_length] at *
 have HO := Lib.hid ho
 have HM := Lib.hid hm
 have HF := Lib.hid hf
 have HV := Lib.hid hv
 have HW := Lib.hid (H.out.keep hm (fun _ _ x => x))
 unfold maxLen at hlm
 clear ho hm hf hv HB
 have HLN := Lib.hid (natB_length N)
 have HE : Hid (if blen N ≤ 255 then rnatX xs N = xs ++ ([UInt8.ofNat (blen N)] ++ natB N) ∧ decide (blen N ≤ 255) = true else rnatX xs N = xs ∧ decide (blen N ≤ 255) = false) := Lib.hid (by
  by_cases hb : blen N ≤ 255
  ·rw [if_pos hb]; exact ⟨by simp [rnatX, hb, natL, be], by simpa using hb⟩
  ·rw [if_neg hb]; exact ⟨by simp [rnatX, hb], by simpa using hb⟩)
 obtain ⟨k, hk⟩ : ∃ k, blen N = k := ⟨_, rfl⟩
 have HKK := Lib.hid hk
 simp only [hk] at HO HLN HF hlm ⊢
 clear hk
 by_cases hb : k ≤ 255
 ·go_wp2_with (at_builtin; refine stop ?_)
  unfold Stop
  refine wpList_apb rfl rfl xs [UInt8.ofNat k] (HW.out.alloc _) (own_atI (UInt8.ofNat k) (by rw [UInt8.toNat_ofNat']; omega) _ rfl).rd rfl rfl (by rw [HN.out]; simp; omega) ?_
  intro v1 w2 k1 k2 k3
  have A1 := Lib.hid ((Appended.refl HW.out).byte k1 k2 k3)
  have HO2 := Lib.hid ((HO.out.rd.alloc _).keep k2 (fun i hi x => by
   have h5 := HF.out i hi
   have := HV.out i x
   omega))
  clear k1 k2 k3
  go_wp2_with (at_builtin; refine stop ?_)
  unfold Stop
  refine wpList_apb rfl rfl _ _ A1.out.own HO2.out rfl rfl (by simp only [List.length_append, HN.out, HLN.out]; simp; omega) ?_
  intro v2 w3 k1 k2 k3
  have A2 := Lib.hid (Appended.from0 HM.out (A1.out.then k1 k2 k3))
  clear k1 k2 k3
  go_wp2
  go_ret2
  have he := HE.out
  rw [HKK.out, if_pos hb] at he
  unfold RWNat
  rw [HKK.out, he.1, he.2, ← List.append_assoc]
  exact ⟨_, rfl, A2.out⟩
 ·go_wp2
  go_ret2
  have he := HE.out
  rw [HKK.out, if_neg hb] at he
  unfold RWNat
  rw [HKK.out, he.1, he.2]
  exact ⟨_, rfl, Appended.from0 HM.out (Appended.refl HW.out)⟩
end Go.Proofs.YtglkmaalpammcaaGreat

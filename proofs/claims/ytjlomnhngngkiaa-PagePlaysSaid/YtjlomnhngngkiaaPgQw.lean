/- gleanref5.Map: Walk, Copy. -/
import Derived.Test.YtjlomnhngngkiaaPgQd
namespace Go.Proofs.Ytjlomnhngngkiaa
open Go.Gl Go.RowKit
set_option linter.unusedVariables false
set_option maxRecDepth 100000

theorem QM.allE1 {w : World} {g : Nat} {vo : Value} {R : List PV} (h : QM w g vo R) : ∀ e ∈ allE R, E1 w e := fun e he => by
  obtain ⟨p, hp, hx⟩ := List.mem_flatMap.1 he
  exact h.ents p hp e hx
theorem GrP.row1 {w w' : World} {v : Value} {L : List EV} (h : GrP w w' v L) (he : ∀ e ∈ L, E1 w e) : PRow w' v L := ⟨h.row.rd, fun e hx => ⟨((he e hx).keep h.mods (fun _ _ x => x)).k, ((he e hx).keep h.mods (fun _ _ x => x)).v⟩⟩
theorem take_filter {α : Type} (p : α → Bool) (L : List α) (k : Nat) (hk : k < L.length) : (L.take (k + 1)).filter p = (L.take k).filter p ++ (if p L[k] then [L[k]] else []) := by
  rw [List.take_succ_eq_append_getElem hk, List.filter_append]
  congr 1
  rw [List.filter_cons]
  simp

set_option maxHeartbeats 8000000 in
theorem rWalk_any {w : World} {g : Nat} {vo fv tv : Value} {R : List PV} {xs ts : List UInt8} (hm : QM w g vo R) (hf : Rd w fv xs) (ht : Rd w tv ts) (hn : R.length ≤ 1000000) (hc : cnt (pgs R) ≤ 100000000) :
    Calls Try.prog 23 #[.pointer (some ⟨g, 0, none⟩), fv, tv] w fun e w' => ∃ v', e = .returned v' ∧ GrP w w' v' ((allE R).filter (fun e => btw xs ts e.ent)) := by
  have ALL := Lib.hid (All_any hm hn hc)
  have E1s := Lib.hid hm.allE1
  have HF := Lib.hid hf
  have HT := Lib.hid ht
  obtain ⟨af, cf, rfl, _⟩ := hf.form
  obtain ⟨at1, ct, rfl, _⟩ := ht.form
  rw [← allE_len] at hc
  generalize allE R = L at *
  obtain ⟨n, hN⟩ : ∃ n, L.length = n := ⟨_, rfl⟩
  have HN := Lib.hid hN
  rw [hN] at hc
  have HC := Lib.hid hc
  obtain ⟨tl, hT⟩ : ∃ n, ts.length = n := ⟨_, rfl⟩
  have HTL := Lib.hid hT
  rw [hT]
  clear hm hf ht hN hT hc hn
  go_enter Try.func23, Try.ntmps23
  go_wp2_with fail
  refine ALL.out.mono ?_
  rintro e w1 ⟨lv, rfl, g1⟩
  have G1 := Lib.hid g1
  have PR := Lib.hid (g1.row1 E1s.out)
  obtain ⟨la, lc, rfl, hla⟩ := PR.out.at
  have HLA := Lib.hid hla
  have ONE := Lib.hid (prow_one PR.out)
  rw [HN.out]
  clear g1 hla
  go_wp2
  go_loopw [7, 9] (fun v i wr => ∃ k : Nat, k ≤ n ∧ i = .int .i64 k ∧ Hid (GrP w1 wr v ((L.take k).filter (fun e => btw xs ts e.ent)))) (fun _ i _ => n - (intOf i).toNat)
  case atStart => exact ⟨0, Nat.zero_le _, rfl, Lib.hid (GrP.nil w1)⟩
  case round =>
    obtain ⟨k, hk, rfl, hI⟩ := hrel
    by_cases hlt : k < n
    · have lk : k < L.length := by rw [HN.out]; exact hlt
      have hki : (k : Int) < (n : Int) := by omega
      have hkB : (k : Int) < 100000000 := by have := HC.out; omega
      obtain ⟨b, off, rfl, hb, c1, c2⟩ := HLA.out k lk
      have d1 := (hI.out.mods.cellAt hb (fun x => x) _).trans c1
      have d2 := (hI.out.mods.cellAt hb (fun x => x) _).trans c2
      have hkk := ((PR.out.keep0 hI.out.mods).own _ (List.getElem_mem lk)).1
      obtain ⟨u1, u2⟩ := ONE.out _ (List.getElem_mem lk)
      have TF := Lib.hid (take_filter (fun e => btw xs ts e.ent) L k lk)
      have mk : Mods noB w wr := G1.out.mods.then0 hI.out.mods
      have C1 := Lib.hid (Less_any hkk (HF.out.keep mk (fun _ _ x => x)))
      have C2 := Lib.hid (fun (w' : World) (m : Mods noB wr w') => Less_any (hkk.keep m (fun _ _ x => x)) ((HT.out.keep mk (fun _ _ x => x)).keep m (fun _ _ x => x)))
      have BT : btw xs ts (L[k]).ent = (!lessB (L[k]).k xs && (ts.isEmpty || lessB (L[k]).k ts)) := rfl
      obtain ⟨ak, ck, hak, _⟩ := hkk.form
      have D2 := Lib.hid d2
      have U := Lib.hid (And.intro hb (And.intro u1 u2))
      have D1 := Lib.hid d1
      rw [hak] at d1 C1 C2
      rw [HTL.out] at C2
      have HAK := Lib.hid hak
      clear c1 c2 d2 u1 u2 hkk mk hak hb
      generalize hkl : (L[k]).k.length = kl at *
      clear hkl
      have hb := U.out.1
      have hlen : ((L.take k).filter (fun e => btw xs ts e.ent)).length ≤ 100000000 := Nat.le_trans (List.length_filter_le _ _) (by rw [List.length_take]; have := HC.out; omega)
      have HLEN := Lib.hid hlen
      clear hb hlen
      by_cases h1 : lessB (L[k]).k xs = true
      · rw [h1] at C1
        have hp : btw xs ts (L[k]).ent = false := by rw [BT, h1]; rfl
        have T2 := TF.out
        rw [hp] at T2
        have HT2 := Lib.hid T2
        clear BT h1 hp T2
        go_wp2_with fail
        refine C1.out.mono ?_
        rintro e w2 ⟨rfl, q2⟩
        have G2 := Lib.hid (hI.out.then0 (q2.mods noB))
        clear q2 d1
        go_wp2
        go_roundw
        case rel => exact ⟨k + 1, by omega, by go_num, Lib.hid (by rw [HT2.out]; simpa using G2.out)⟩
        case measure => simp [intOf]; omega
      · have h1' : lessB (L[k]).k xs = false := by simpa using h1
        rw [h1'] at C1
        rw [h1'] at BT
        clear h1 h1'
        have step : ∀ (w2 : World) (m2 : Mods noB wr w2), btw xs ts (L[k]).ent = true → w2.cell? ⟨b, off + k * 2, none⟩ = some (L[k]).kv ∧ w2.cell? ⟨b, off + k * 2 + 1, none⟩ = some (L[k]).vv ∧ OwnG w2 52 2 _ _ _ ∧ ∀ (w3 : World) (v8 : Value), OwnG w3 52 2 v8 (((L.take k).filter (fun e => btw xs ts e.ent)).length + 1) (ecell ((L.take k).filter (fun e => btw xs ts e.ent)) ++ [(L[k]).kv, (L[k]).vv]) → Mods (ofV _) w2 w3 → (v8.ownBlock = _ ∨ freshIn w2 v8) → GrP w1 w3 v8 ((L.take (k + 1)).filter (fun e => btw xs ts e.ent)) := fun w2 m2 hp => by
          have mk : Mods noB w1 w2 := hI.out.mods.then0 m2
          refine ⟨(m2.cellAt (Nat.lt_of_lt_of_le U.out.1 hI.out.mods.size) (fun x => x) _).trans D1.out, (m2.cellAt (Nat.lt_of_lt_of_le U.out.1 hI.out.mods.size) (fun x => x) _).trans D2.out, (hI.out.then0 m2).row, fun w3 v8 o m f => ?_⟩
          have T2 := TF.out
          rw [hp] at T2
          rw [T2]
          exact (hI.out.then0 m2).push o m f
        have STEP := Lib.hid step
        clear step
        by_cases h2 : ts = []
        · have hp : btw xs ts (L[k]).ent = true := by rw [BT, h2]; rfl
          obtain rfl : tl = 0 := by
            have h3 := HTL.out
            rw [h2, List.length_nil] at h3
            omega
          have HP := Lib.hid hp
          clear BT h2 hp
          go_wp2_with fail
          refine C1.out.mono ?_
          rintro e w2 ⟨rfl, q2⟩
          have MM := Lib.hid (q2.mods noB)
          clear q2 d1
          obtain ⟨k1, k2, k3, k4⟩ := STEP.out _ MM.out HP.out
          go_upto_region 7 with fail
          refine wp_tl (d := .region 7 (opsC 7 Try.f23) false) (by kernel_rfl) ?_
          refine RW.wp (rwk7 k1 k2 k3 U.out.2.1 U.out.2.2 hlt HC.out HLEN.out ?_)
          intros
          rename_i v8 w8 o8 m8 f8
          have G8 := Lib.hid (k4 w8 v8 o8 m8 f8)
          clear k1 k2 k3 k4 o8 m8 f8
          go_wp2
          go_roundw
          case rel => exact ⟨k + 1, by omega, by go_num, G8⟩
          case measure => simp [intOf]; omega
        · have hem : ts.isEmpty = false := by simpa using h2
          rw [hem] at BT
          have hz : ((tl : Int) == 0) = false := by
            have h3 := HTL.out
            have h4 := List.length_pos_iff.2 h2
            rw [beq_eq_false_iff_ne]
            omega
          clear hem h2
          by_cases h3 : lessB (L[k]).k ts = true
          · rw [h3] at BT C2
            have HP : Hid (btw xs ts (L[k]).ent = true) := Lib.hid (by rw [BT]; rfl)
            clear BT h3
            go_wp2_with fail
            refine C1.out.mono ?_
            rintro e w2 ⟨rfl, q2⟩
            have M2 := Lib.hid (q2.mods noB)
            have CC := Lib.hid (C2.out w2 M2.out)
            have d2 := (M2.out.cellAt (Nat.lt_of_lt_of_le U.out.1 hI.out.mods.size) (fun x => x) _).trans d1
            clear q2 d1
            go_wp2_with fail
            refine CC.out.mono ?_
            rintro e w3 ⟨rfl, q3⟩
            have MM := Lib.hid (M2.out.then0 (q3.mods noB))
            clear q3 d2
            obtain ⟨k1, k2, k3, k4⟩ := STEP.out _ MM.out HP.out
            go_upto_region 7 with fail
            refine wp_tl (d := .region 7 (opsC 7 Try.f23) false) (by kernel_rfl) ?_
            refine RW.wp (rwk7 k1 k2 k3 U.out.2.1 U.out.2.2 hlt HC.out HLEN.out ?_)
            intros
            rename_i v8 w8 o8 m8 f8
            have G8 := Lib.hid (k4 w8 v8 o8 m8 f8)
            clear k1 k2 k3 k4 o8 m8 f8
            go_wp2
            go_roundw
            case rel => exact ⟨k + 1, by omega, by go_num, G8⟩
            case measure => simp [intOf]; omega
          · have h3' : lessB (L[k]).k ts = false := by simpa using h3
            rw [h3'] at BT C2
            have hp : btw xs ts (L[k]).ent = false := by rw [BT]; rfl
            have T2 := TF.out
            rw [hp] at T2
            have HT2 := Lib.hid T2
            clear BT h3 h3' hp T2
            go_wp2_with fail
            refine C1.out.mono ?_
            rintro e w2 ⟨rfl, q2⟩
            have M2 := Lib.hid (q2.mods noB)
            have CC := Lib.hid (C2.out w2 M2.out)
            have d2 := (M2.out.cellAt (Nat.lt_of_lt_of_le U.out.1 hI.out.mods.size) (fun x => x) _).trans d1
            clear q2 d1
            go_wp2_with fail
            refine CC.out.mono ?_
            rintro e w3 ⟨rfl, q3⟩
            have G2 := Lib.hid (hI.out.then0 (M2.out.then0 (q3.mods noB)))
            clear q3 d2
            go_wp2
            go_roundw
            case rel => exact ⟨k + 1, by omega, by go_num, Lib.hid (by rw [HT2.out]; simpa using G2.out)⟩
            case measure => simp [intOf]; omega
    · obtain rfl : k = n := by omega
      go_wp2
      go_ret
      have h := hI.out
      rw [List.take_of_length_le (by rw [HN.out]; exact Nat.le_refl _)] at h
      exact ⟨_, rfl, ⟨h.row, G1.out.mods.then0 h.mods, h.fr.of G1.out.mods.size⟩⟩

end Go.Proofs.Ytjlomnhngngkiaa

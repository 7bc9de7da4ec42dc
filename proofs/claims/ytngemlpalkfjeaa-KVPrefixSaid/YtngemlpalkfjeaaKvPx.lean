/- KVPrefix: P6.3, P6.6: prefixes, walks, their operations. -/
import Derived.Test.YtngemlpalkfjeaaKvDp
import Derived.Test.YtngemlpalkfjeaaKvPx0
namespace Go.Proofs.Ytngemlpalkfjeaa
open Go.Gl Go.RowKit
set_option linter.unusedVariables false
set_option maxRecDepth 100000
theorem Rd.take3 {w : World} {a : Option Addr} {c m : Nat} {xs : List UInt8} (h : Rd w (.slice a xs.length c) xs) (hm : m ≤ xs.length) : Rd w (.slice a m c) (xs.take m) ∧ xs.length ≤ c ∧ (a = none → c = 0) := by
  rcases h.open with ⟨h0, rfl⟩ | ⟨g, off, cap, hv, h1, _⟩
  · obtain rfl : m = 0 := by simpa using hm
    refine ⟨h, by simp, fun e => ?_⟩
    subst e
    exact (rd_none0 h).2.2
  · injection hv with e1 e2 e3
    subst e1 e3
    exact ⟨h.take hm, h1, fun e => by cases e⟩
theorem btw_all (F : List Ent) : F.filter (btw [] []) = F := List.filter_eq_self.2 (fun e _ => by unfold btw; cases e.1 <;> simp [lessB])
def pxF (ps : List UInt8) (L : List EV) : List EV := L.filter (fun e => beginsB ps e.k)
theorem pxF_ent (ps : List UInt8) (L : List EV) : (pxF ps L).map EV.ent = (L.map EV.ent).filter (fun e => beginsB ps e.1) := by
  unfold pxF
  rw [List.filter_map]
  rfl
theorem pxF_succ {ps : List UInt8} {L : List EV} {i : Nat} (h : i < L.length) : pxF ps (L.take (i + 1)) = pxF ps (L.take i) ++ (if beginsB ps L[i].k then [L[i]] else []) := by
  unfold pxF
  rw [List.take_add_one, List.getElem?_eq_getElem h, List.filter_append]
  congr 1
  simp only [Option.toList, List.filter_cons, List.filter_nil]
theorem grow_gr {w0 w w' : World} {sg n p : Nat} {F : List Ent} {Ws : List (List Ent)} {Q : Nat → Prop} {v : Value} {L : List EV} (h : KL w0 w sg F Ws n p Q) (g : GrP w w' v L) : ∃ Q2, KL w0 w' sg F Ws n p Q2 ∧ (∀ k, ofV v k → Q2 k) ∧ (∀ k, Q k → Q2 k) :=
  ⟨fun k => Q k ∨ ofV v k, h.grow g.mods (fun k hk => hk.imp id (fun e => ⟨g.fr k e, g.row.lt k e⟩)) (fun k hk => .inl (h.q0 k hk)), fun _ => .inr, fun _ => .inl⟩
set_option maxHeartbeats 16000000 in
theorem kvprefix_walk (v0 v1 : Value) (xs0 : List KStp) (ps : List UInt8) (w : World) (h0 : RdKs w v0 xs0) (h1 : Rd w v1 ps) : Calls Try.prog 5 #[v0, v1] w fun e w' => e = .returned (.bool true) ∧ Mods noB w w' := by
  have KN := Lib.hid (kknown_any w)
  have LI := Lib.hid (fun W (m : Mods noB w W) => klight_any (h0.keep m))
  obtain ⟨a0, n0, c0, rfl, hn0, hc0, hb0, g0⟩ := h0.form2
  obtain ⟨pa, pc, rfl, hpl⟩ := h1.form
  have G0 := Lib.hid g0
  have N0 := Lib.hid hn0
  have HP := Lib.hid h1
  have HPL := Lib.hid (show ps.length ≤ 9223372036854775807 from by unfold maxLen at hpl; omega)
  clear h0 h1 g0 hn0 hpl
  go_enter Try.func5, Try.ntmps5
  go_wp2_with fail
  refine KN.out.mono ?_
  rintro e w1 ⟨rfl, m1⟩
  have M1 := Lib.hid m1
  have L0 := Lib.hid (LI.out w1 m1)
  clear KN m1 LI
  go_wp2_with fail
  refine L0.out.mono ?_
  rintro e w2 ⟨rfl, q2⟩
  have M2 := Lib.hid (M1.out.then0 (q2.mods noB))
  clear q2 L0 M1
  obtain ⟨B0, hB0⟩ : ∃ B, klightB xs0 = B := ⟨_, rfl⟩
  rw [hB0]
  cases B0 with
  | false =>
    clear hB0
    go_wp2
    go_ret
    exact ⟨rfl, M2.out⟩
  | true =>
  obtain ⟨l0, e0⟩ := klight_len hB0
  have ln0 : n0 ≤ 400 := by have := N0.out; omega
  clear hB0 e0 l0
  by_cases hp100 : ps.length ≤ 100
  case neg =>
    have z1 : (100 : Int) < (ps.length : Int) := by omega
    go_wp2
    go_ret
    exact ⟨rfl, M2.out⟩
  have z1 : ¬ (100 : Int) < (ps.length : Int) := by omega
  go_wp2_with fail
  refine (kl_new (w0 := w) (Q := fun k => k < w.heap.size) (fun _ h => Nat.lt_of_lt_of_le h M2.out.size) (fun _ h => h) M2.out).mono ?_
  rintro e w5 ⟨sg, rfl, k5, m5⟩
  have K5 := Lib.hid k5
  clear k5 m5 M2 z1
  go_wp2
  go_loopw [6] (fun x wr => ∃ i : Nat, i ≤ n0 ∧ x = .int .i64 i ∧ Hid (∃ F n p, KL w wr sg F [] n p (fun k => k < w.heap.size) ∧ n ≤ i ∧ p ≤ 2 * i)) (fun x _ => n0 - (intOf x).toNat)
  case atStart => exact ⟨0, Nat.zero_le _, rfl, Lib.hid ⟨_, _, _, K5.out, Nat.le_refl _, Nat.le_refl _⟩⟩
  case round =>
    clear K5
    obtain ⟨i, hi, rfl, hI⟩ := hrel
    by_cases hlt : i < n0
    · obtain ⟨F, n, p, kl, hn, hp⟩ := hI.out
      have hil : i < xs0.length := by rw [N0.out]; exact hlt
      obtain ⟨g, off, ak, ck, av', cv', rfl, hg, w0c, w1c, w2c, w3c, ek, ev, ha0⟩ := step_at G0.out kl.mods hil
      have BB := Lib.hid (And.intro hn hp)
      have KC := Lib.hid (kl_sets kl ha0 (by omega) (by omega))
      rw [ek, ev] at KC
      generalize xs0[i] = s at *
      obtain ⟨what, sn, kv, vv, ks, vs⟩ := s
      simp only at w2c w3c KC
      clear hI kl hn hp ha0 ek ev w0c w1c
      go_upto_region 9 with fail
      refine wp_tl (d := .region 9 (opsC 9 Try.f5) true) (by kernel_rfl) ?_
      refine RW.wp (kx9 w2c w3c hg hlt (by omega) KC.out ?_)
      intros
      rename_i w7 hx
      have K7 := Lib.hid hx.1
      clear hx KC w2c w3c
      go_wp2
      go_roundw
      case rel => exact ⟨i + 1, by omega, by go_num, Lib.hid ⟨_, _, _, K7.out, by have := BB.out.1; omega, by have := BB.out.2; omega⟩⟩
      case measure => simp [intOf]; omega
    · obtain ⟨F, n, p, kl, hn, hp⟩ := hI.out
      have hnn : n ≤ 400 := by omega
      have BB := Lib.hid (show p ≤ 800 ∧ F.length ≤ 800 by have := kl.len.1; omega)
      have KD := Lib.hid (kl_dump kl (by omega))
      clear hI kl hn hp
      go_wp2_with fail
      refine KD.out.mono ?_
      rintro e w7 ⟨va, L, rfl, pr, el, k7, m7⟩
      obtain ⟨Q, hQ⟩ : ∃ Q, Q = QL (fun k => k < w.heap.size) va L := ⟨_, rfl⟩
      rw [← hQ] at k7
      have HQ := Lib.hid (show (∀ k, va.ownBlock = some k → Q k) ∧ (∀ k, MDL L k → Q k) from ⟨fun k hk => by rw [hQ]; exact .inr (.inl hk), fun k hk => by rw [hQ]; exact .inr (.inr hk)⟩)
      have K7 := Lib.hid k7
      have PR := Lib.hid pr
      have EL := Lib.hid el
      have HAT := Lib.hid pr.at
      have ONE := Lib.hid (prow_one pr)
      obtain ⟨av, cv, rfl, hcv⟩ := pr.row.form
      have LL0 := Lib.hid (show L.length = F.length by have := congrArg List.length el; rwa [List.length_map] at this)
      obtain ⟨nl, hnl⟩ : ∃ nl, L.length = nl := ⟨_, rfl⟩
      have LL := Lib.hid hnl
      have hnl8 : nl ≤ 800 := by have := BB.out.2; have := LL0.out; omega
      rw [hnl]
      clear pr el k7 m7 hQ KD hnl
      have HPP := Lib.hid (fun W (m : Mods noB w7 W) => HP.out.keep (K7.out.mods.then0 m) (fun _ _ x => x))
      generalize hpn : ps.length = pn at *
      have HPN := Lib.hid hpn
      clear hpn
      go_wp2
      go_loopw [8, 9] (fun y x wr => ∃ i : Nat, i ≤ nl ∧ x = .int .i64 i ∧ Hid (GrP w7 wr y (pxF ps (L.take i)))) (fun _ x _ => nl - (intOf x).toNat)
      case atStart => exact ⟨0, Nat.zero_le _, rfl, Lib.hid (GrP.nil _)⟩
      case round =>
        obtain ⟨i, hi, rfl, hI⟩ := hrel
        by_cases hlt2 : i < nl
        · have hil : i < L.length := by rw [LL.out]; exact hlt2
          obtain ⟨a1, c1, e1, hat⟩ := HAT.out
          obtain ⟨b, off, rfl, hb, d1, d2⟩ := hat i hil
          injection e1 with e1 _ e3
          subst e1 e3
          have D1 := Lib.hid ((hI.out.mods.cellAt hb (fun x => x) _).trans d1)
          have D2 := Lib.hid ((hI.out.mods.cellAt hb (fun x => x) _).trans d2)
          have hbr : b < wr.heap.size := Nat.lt_of_lt_of_le hb hI.out.mods.size
          have RK := (PR.out.keep0 hI.out.mods).own _ (List.getElem_mem hil)
          obtain ⟨u1, u2⟩ := ONE.out _ (List.getElem_mem hil)
          have PS := Lib.hid (pxF_succ (ps := ps) hil)
          have GL := Lib.hid (show (pxF ps (L.take i)).length ≤ 800 from by have h5 := List.length_filter_le (fun e => beginsB ps e.k) (L.take i); rw [List.length_take] at h5; have h6 : (pxF ps (L.take i)).length = (List.filter (fun e => beginsB ps e.k) (L.take i)).length := rfl; have := hnl8; omega)
          obtain ⟨ka, kc, ekk, hkl⟩ := RK.1.form
          have HRK := Lib.hid RK.1
          clear d1 d2 hat RK hb
          generalize L[i] = e at *
          obtain ⟨kv, vv, sk, sv⟩ := e
          simp only at D1 D2 u1 u2 PS HRK ekk hkl
          subst ekk
          have d1 := D1.out
          have hskl : sk.length ≤ 9223372036854775807 := by unfold maxLen at hkl; omega
          by_cases hle : pn ≤ sk.length
          · obtain ⟨RT, hcap, hnone⟩ := Rd.take3 HRK.out hle
            have PB := Lib.hid (Bytes_any RT (HPP.out _ hI.out.mods))
            have HBG := Lib.hid (show beginsB ps sk = decide (sk.take pn = ps) from by unfold beginsB; rw [HPN.out])
            rw [← HBG.out] at PB
            have z2 : (pn : Int) ≤ (sk.length : Int) := by omega
            clear RT HBG
            obtain ⟨bb, hbb⟩ : ∃ bb, beginsB ps sk = bb := ⟨_, rfl⟩
            rw [hbb] at PB PS
            generalize sk.length = lk at *
            have FINT : bb = true → Hid (pxF ps (L.take (i + 1)) = pxF ps (L.take i) ++ [⟨.slice ka lk kc, vv, sk, sv⟩]) := fun h => Lib.hid (by rw [PS.out, h]; rfl)
            have FINF : bb = false → Hid (pxF ps (L.take (i + 1)) = pxF ps (L.take i)) := fun h => Lib.hid (by rw [PS.out, h]; simp)
            have FT := Lib.hid FINT
            have FF := Lib.hid FINF
            clear FINT FINF PS hbb
            have GRD := Lib.hid hI.out
            clear hI
            go_wp2_with fail
            refine PB.out.mono ?_
            rintro e w8 ⟨rfl, q8⟩
            have G8 := Lib.hid (GRD.out.then0 (q8.mods noB))
            have C1 := Lib.hid (((q8.mods noB).cellAt hbr (fun x => x) _).trans D1.out)
            have C2 := Lib.hid (((q8.mods noB).cellAt hbr (fun x => x) _).trans D2.out)
            clear q8 PB d1 D1 D2 GRD
            cases bb with
            | true =>
              have HT := FT.out rfl
              clear FT FF
              go_upto_region 16 with fail
              refine wp_tl (d := .region 16 (opsC 16 Try.f5) false) (by kernel_rfl) ?_
              refine RW.wp (kx16 C1.out C2.out G8.out.row u1 u2 hlt2 (by omega) (by have := GL.out; omega) ?_)
              intros
              rename_i v9 w9 o9 m9 f9
              have GN := G8.out.push (e := ⟨.slice ka lk kc, vv, sk, sv⟩) o9 m9 f9
              rw [← HT.out] at GN
              have GN' := Lib.hid GN
              clear GN o9 m9 f9 G8 C1 C2 HT
              go_wp2
              go_roundw
              case rel => exact ⟨i + 1, by omega, by go_num, GN'⟩
              case measure => simp [intOf]; omega
            | false =>
              have HF := FF.out rfl
              have GN := Lib.hid G8.out
              rw [← HF.out] at GN
              clear FT FF G8 C1 C2 HF
              go_wp2
              go_roundw
              case rel => exact ⟨i + 1, by omega, by go_num, GN⟩
              case measure => simp [intOf]; omega
          · have z2 : ¬ (pn : Int) ≤ (sk.length : Int) := by omega
            have hbf : beginsB ps sk = false := by
              unfold beginsB
              refine decide_eq_false (fun h => ?_)
              have := congrArg List.length h
              rw [List.length_take] at this
              have := HPN.out
              omega
            have GN := Lib.hid (show GrP w7 wr _ (pxF ps (L.take (i + 1))) from by rw [PS.out, hbf]; simpa using hI.out)
            clear hbf PS hI HRK u1 u2
            generalize sk.length = lk at *
            go_wp2
            go_roundw
            case rel => exact ⟨i + 1, by omega, by go_num, GN⟩
            case measure => simp [intOf]; omega
        · obtain rfl : i = nl := by omega
          have ht : L.take i = L := by rw [← LL.out]; exact List.take_length
          rw [ht] at hI
          obtain ⟨Lw, hLw⟩ : ∃ Lw, Lw = pxF ps L := ⟨_, rfl⟩
          have HLW := Lib.hid hLw
          rw [← hLw] at hI
          have hsub : ∀ e ∈ Lw, e ∈ L := fun e he => by rw [hLw] at he; exact (List.mem_filter.1 he).1
          have gr := hI.out
          have PRW := Lib.hid (gr.prow PR.out hsub)
          have PRA := Lib.hid (PR.out.keep0 gr.mods)
          have HPR := Lib.hid (HPP.out _ gr.mods)
          obtain ⟨Q2, k2, q21, q22⟩ := grow_gr K7.out gr
          have K2 := Lib.hid k2
          have MW := Lib.hid (show Lw.map EV.ent = F.filter (fun e => beginsB ps e.1) from by rw [hLw, pxF_ent, EL.out])
          have LW := Lib.hid (show Lw.length = (F.filter (fun e => beginsB ps e.1)).length from by have := congrArg List.length MW.out; rwa [List.length_map] at this)
          have LWB := Lib.hid (show Lw.length ≤ 800 from by have := LW.out; have := List.length_filter_le (fun e : Ent => beginsB ps e.1) F; have := BB.out.2; omega)
          obtain ⟨aw, cw, ew, _⟩ := PRW.out.row.form
          have HQ2 := Lib.hid (show (∀ k, ofV _ k → Q2 k) ∧ (∀ k, MDL Lw k → Q2 k) ∧ (∀ k, Q k → Q2 k) from ⟨q21, fun k ⟨e, he, hk⟩ => q22 k (HQ.out.2 k ⟨e, hsub e he, hk⟩), q22⟩)
          subst ew
          clear hI gr k2 q21 q22 ht hLw hsub K7
          obtain ⟨lw, hlw⟩ : ∃ lw, Lw.length = lw := ⟨_, rfl⟩
          have HLEN := Lib.hid hlw
          have hlw8 : lw ≤ 800 := by have := LWB.out; omega
          have HFL := Lib.hid (show min 1073741824 (F.filter (fun e => beginsB ps e.1)).length = lw from by have := LW.out; omega)
          have HFA := Lib.hid (show min 1073741824 F.length = i from by have := LL0.out; have := LL.out; omega)
          rw [hlw]
          clear hlw
          have OP := Lib.hid (kl_ops K2.out (by omega))
          have KP := Lib.hid (kl_prefix K2.out HPR.out (by rw [HPN.out]; omega) (by have := BB.out.1; omega))
          go_wp2_with fail
          refine OP.out.mono ?_
          rintro e vv ⟨rfl, rfl⟩
          clear OP
          go_wp2_with fail
          refine KP.out.mono ?_
          rintro e w8 ⟨lb, rfl, k8, m8⟩
          have KT := Lib.hid (kl_taken (N := 1073741824) k8 (by omega) (by omega) (by have := BB.out.1; omega))
          have PRW8 := Lib.hid (PRW.out.keep0 m8)
          have PRA8 := Lib.hid (PRA.out.keep0 m8)
          rw [HFL.out] at KT
          clear KP k8 m8 K2 PRW PRA HPR HPP
          go_wp2_with fail
          refine KT.out.mono ?_
          rintro e w9 ⟨vm, M, rfl, prm, em, k9, m9⟩
          have PRW9 := Lib.hid (PRW8.out.keepQ m9 HQ2.out.1 HQ2.out.2.1)
          have PRA9 := Lib.hid (PRA8.out.keepQ m9 (fun k hk => HQ2.out.2.2 k (HQ.out.1 k hk)) (fun k hk => HQ2.out.2.2 k (HQ.out.2 k hk)))
          have eM : M.map EV.ent = Lw.map EV.ent := by rw [em, MW.out]; exact List.take_of_length_le (by have := LW.out; have := LWB.out; omega)
          have PT := Lib.hid (Pairs_true prm PRW9.out eM (by have := congrArg List.length eM; simp only [List.length_map] at this; have := LWB.out; omega))
          have K9 := Lib.hid k9.kl
          obtain ⟨am, cm, rfl, _⟩ := prm.row.form
          rw [HLEN.out] at PT
          clear KT prm em eM k9 m9 PRW8 PRA8
          go_wp2_with fail
          refine PT.out.mono ?_
          rintro e w10 ⟨rfl, m10⟩
          have K10 := Lib.hid (K9.out.keep0 m10)
          have PRA10 := Lib.hid (PRA9.out.keep0 m10)
          have OP := Lib.hid (kl_ops K10.out (by omega))
          clear PT m10 K9 PRA9 PRW9
          go_wp2_with fail
          refine OP.out.mono ?_
          rintro e vv ⟨rfl, rfl⟩
          clear OP
          have KW := Lib.hid (kl_walk (fv := .slice none 0 0) (tv := .slice none 0 0) (xs := []) (ts := []) K10.out (Rd.nil _) (Rd.nil _) (by simp) (by simp) (by have := BB.out.1; omega))
          rw [btw_all] at KW
          go_wp2_with fail
          refine KW.out.mono ?_
          rintro e w11 ⟨lb2, rfl, k11, m11⟩
          have KT := Lib.hid (kl_taken (N := 1073741824) k11 (by omega) (by omega) (by have := BB.out.1; omega))
          have PRA11 := Lib.hid (PRA10.out.keep0 m11)
          rw [HFA.out] at KT
          clear KW k11 m11 K10 PRA10
          go_wp2_with fail
          refine KT.out.mono ?_
          rintro e w12 ⟨vm, N, rfl, prm, em, k12, m12⟩
          have PRA12 := Lib.hid (PRA11.out.keepQ m12 (fun k hk => .inl (HQ2.out.2.2 k (HQ.out.1 k hk))) (fun k hk => .inl (HQ2.out.2.2 k (HQ.out.2 k hk))))
          have eM : N.map EV.ent = L.map EV.ent := by rw [em, EL.out]; exact List.take_of_length_le (by have := BB.out; omega)
          have PT := Lib.hid (Pairs_true prm PRA12.out eM (by have := congrArg List.length eM; simp only [List.length_map] at this; have := LL.out; omega))
          have K12 := Lib.hid k12
          obtain ⟨am, cm, rfl, _⟩ := prm.row.form
          rw [LL.out] at PT
          clear KT prm em eM k12 m12 PRA11
          go_wp2_with fail
          refine PT.out.mono ?_
          rintro e w13 ⟨rfl, m13⟩
          have KT := Lib.hid (kl_taken (N := 1073741824) (K12.out.keep0 m13) (by omega) (by omega) (by have := BB.out.1; omega))
          have PRA13 := Lib.hid (PRA12.out.keep0 m13)
          rw [HFA.out] at KT
          clear PT m13 K12 PRA12
          go_wp2_with fail
          refine KT.out.mono ?_
          rintro e w14 ⟨vm, P, rfl, prm, em, k14, m14⟩
          have PRA14 := Lib.hid (PRA13.out.keepQ m14 (fun k hk => .inl (.inl (HQ2.out.2.2 k (HQ.out.1 k hk)))) (fun k hk => .inl (.inl (HQ2.out.2.2 k (HQ.out.2 k hk)))))
          have eM : P.map EV.ent = L.map EV.ent := by rw [em, EL.out]; exact List.take_of_length_le (by have := BB.out; omega)
          have PT := Lib.hid (Pairs_true prm PRA14.out eM (by have := congrArg List.length eM; simp only [List.length_map] at this; have := LL.out; omega))
          have K14 := Lib.hid k14.kl
          obtain ⟨am, cm, rfl, _⟩ := prm.row.form
          rw [LL.out] at PT
          clear KT prm em eM k14 m14 PRA13
          go_wp2_with fail
          refine PT.out.mono ?_
          rintro e w15 ⟨rfl, m15⟩
          have OP := Lib.hid (kl_ops (K14.out.keep0 m15) (by omega))
          have MF := Lib.hid (K14.out.keep0 m15).mods
          clear PT m15 K14 PRA14
          go_wp2_with fail
          refine OP.out.mono ?_
          rintro e vv ⟨rfl, rfl⟩
          clear OP
          have hfin : (((n : Int) + 1 + (lw : Int) + 1 + (i : Int) + 1 + (i : Int)) == ((n : Int) + 3 + (lw : Int) + 2 * (i : Int))) = true := by rw [beq_iff_eq]; omega
          go_wp2
          go_ret
          exact ⟨rfl, MF.out⟩
namespace kVPrefix
theorem walk (v0 v1 : Value) (x0 : List KStp) (x1 : List UInt8) (w : World) (k0 : RdKs w v0 x0) (k1 : Rd w v1 x1) : Calls Try.prog 5 #[v0, v1] w fun e w' => e = .returned (.bool true) ∧ Below w.heap.size w w' :=
  (kvprefix_walk v0 v1 x0 x1 w k0 k1).mono fun e w' ⟨a, m⟩ => ⟨a, m.below⟩
end kVPrefix
end Go.Proofs.Ytngemlpalkfjeaa

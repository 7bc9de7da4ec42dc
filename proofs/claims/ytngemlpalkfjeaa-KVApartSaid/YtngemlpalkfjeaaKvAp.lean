/- KVApart: P6.3: a copy and its store don't touch one another; a copy has no journal. -/
import Derived.Test.YtngemlpalkfjeaaKvDp
namespace Go.Proofs.Ytngemlpalkfjeaa
open Go.Gl Go.RowKit
set_option linter.unusedVariables false
set_option maxRecDepth 100000
theorem depth_of2 {w0 w : World} {sg n p sg2 n2 p2 : Nat} {F F2 : List Ent} {Ws Ws2 : List (List Ent)} {Q : Nat → Prop} (h : K2 w0 w sg F Ws n p sg2 F2 Ws2 n2 p2 Q) : depthOf sg w = Ws.length := depth_of h.one
theorem K2.less {w0 w : World} {sg n p sg2 n2 p2 : Nat} {F F2 : List Ent} {Ws Ws2 : List (List Ent)} {Q Q' : Nat → Prop} (h : K2 w0 w sg F Ws n p sg2 F2 Ws2 n2 p2 Q) (hq' : ∀ k, Q' k → Q k) (h1 : ∀ k, k < w0.heap.size → Q' k) : K2 w0 w sg F Ws n p sg2 F2 Ws2 n2 p2 Q' := by
  obtain ⟨S, D, S2, D2, kv, kv2, hq, h0, r⟩ := h
  exact ⟨S, D, S2, D2, kv, kv2, fun k hk => hq k (hq' k hk), h1, r⟩
theorem k2_setnew {w0 w : World} {sg n p sg2 n2 p2 : Nat} {F F2 : List Ent} {Ws Ws2 : List (List Ent)} {Q : Nat → Prop} (h : K2 w0 w sg F Ws n p sg2 F2 Ws2 n2 p2 Q) (hn : n ≤ 1000000000000) (hp : p ≤ 100000) :
    Calls Try.prog 18 #[.pointer (some ⟨sg, 0, none⟩), .slice (some ⟨w.heap.size, 0, none⟩) 1 1, .slice (some ⟨w.heap.size + 1, 0, none⟩) 1 1] ((w.alloc (.cells #[.int .u8 1] 5)).alloc (.cells #[.int .u8 9] 5)) fun e w' => (∃ x, e = .returned x) ∧ (∃ F', K2 w0 w' sg F' Ws (n + 1) (p + 2) sg2 F2 Ws2 n2 p2 Q) ∧ Mods (fun k => ¬ Q k) w w' := by
  have m1 := (Mods.refl noB w).alloc (.cells #[.int .u8 1] 5)
  have m2 := m1.alloc (.cells #[.int .u8 9] 5)
  have b1 := heap_old (heap_new w (.cells #[.int .u8 1] 5)) (.cells #[.int .u8 9] 5)
  have b2 := heap_new (w.alloc (.cells #[.int .u8 1] 5)) (.cells #[.int .u8 9] 5)
  rw [World.size_alloc] at b2
  have h1 := h.grow (Q' := fun k => Q k ∨ k = w.heap.size ∨ k = w.heap.size + 1) m2 (fun k hk => hk.imp id (fun e => by simp; omega)) (fun k hk => .inl (h.one.q0 k hk))
  have c := cc_set (sg := sg) (F := F) (Ws := Ws) (n := n) (p := p) (Q := fun k => Q k ∨ k = w.heap.size ∨ k = w.heap.size + 1) (rd_one' (b := 1) b1 rfl) (rd_one' (b := 9) b2 rfl) (fun _ i hi x => by simp [Value.ownBlock] at hi; exact x (.inr (.inl hi.symm))) (fun _ i hi x => by simp [Value.ownBlock] at hi; exact x (.inr (.inr hi.symm))) hn hp
  refine (h1.call c).mono ?_
  rintro e w' ⟨rfl, k', m'⟩
  exact ⟨⟨_, rfl⟩, ⟨_, k'.less (fun k hk => .inl hk) h.one.q0⟩, m2.trans m' (fun _ _ x => x.elim) (fun k _ hk x => hk (.inl x))⟩
set_option maxHeartbeats 16000000 in
theorem kvapart_walk (v0 v1 : Value) (xs0 xs1 : List KStp) (w : World) (h0 : RdKs w v0 xs0) (h1 : RdKs w v1 xs1) : Calls Try.prog 6 #[v0, v1] w fun e w' => e = .returned (.bool true) ∧ Mods noB w w' := by
  have KN := Lib.hid (kknown_any w)
  have LI := Lib.hid (fun W (m : Mods noB w W) => And.intro (klight_any (h0.keep m)) (klight_any (h1.keep m)))
  obtain ⟨a0, n0, c0, rfl, hn0, hc0, hb0, g0⟩ := h0.form2
  obtain ⟨a1, n1, c1, rfl, hn1, hc1, hb1, g1⟩ := h1.form2
  have G0 := Lib.hid g0
  have G1 := Lib.hid g1
  have N0 := Lib.hid hn0
  have N1 := Lib.hid hn1
  clear h0 h1 g0 g1 hn0 hn1
  go_enter Try.func6, Try.ntmps6
  go_wp2_with fail
  refine KN.out.mono ?_
  rintro e w1 ⟨rfl, m1⟩
  have M1 := Lib.hid m1
  have L0 := Lib.hid (LI.out w1 m1).1
  clear KN m1
  go_wp2_with fail
  refine L0.out.mono ?_
  rintro e w2 ⟨rfl, q2⟩
  have M2 := Lib.hid (M1.out.then0 (q2.mods noB))
  clear q2 L0 M1
  obtain ⟨B0, hB0⟩ : ∃ B, klightB xs0 = B := ⟨_, rfl⟩
  rw [hB0]
  cases B0 with
  | false =>
    clear hB0 LI
    go_wp2
    go_ret
    exact ⟨rfl, M2.out⟩
  | true =>
  have L1 := Lib.hid (LI.out w2 M2.out).2
  clear LI
  go_wp2_with fail
  refine L1.out.mono ?_
  rintro e w3 ⟨rfl, q3⟩
  have M3 := Lib.hid (M2.out.then0 (q3.mods noB))
  clear q3 L1 M2
  obtain ⟨B1, hB1⟩ : ∃ B, klightB xs1 = B := ⟨_, rfl⟩
  rw [hB1]
  cases B1 with
  | false =>
    clear hB0 hB1
    go_wp2
    go_ret
    exact ⟨rfl, M3.out⟩
  | true =>
  obtain ⟨l0, e0⟩ := klight_len hB0
  obtain ⟨l1, e1⟩ := klight_len hB1
  have E1 := Lib.hid e1
  have ln0 : n0 ≤ 400 := by have := N0.out; omega
  have ln1 : n1 ≤ 400 := by have := N1.out; omega
  clear hB0 hB1 e0 e1 l0 l1
  go_wp2_with fail
  refine (kl_new (w0 := w) (Q := fun k => k < w.heap.size) (fun _ h => Nat.lt_of_lt_of_le h M3.out.size) (fun _ h => h) M3.out).mono ?_
  rintro e w5 ⟨sg, rfl, k5, m5⟩
  have K5 := Lib.hid k5
  clear k5 m5 M3
  go_wp2
  go_loopw [6] (fun x wr => ∃ i : Nat, i ≤ n0 ∧ x = .int .i64 i ∧ Hid (∃ F Ws n p, KL w wr sg F Ws n p (fun k => k < w.heap.size) ∧ n ≤ i ∧ p ≤ 2 * i)) (fun x _ => n0 - (intOf x).toNat)
  case atStart => exact ⟨0, Nat.zero_le _, rfl, Lib.hid ⟨_, _, _, _, K5.out, Nat.le_refl _, Nat.le_refl _⟩⟩
  case round =>
    clear K5
    obtain ⟨i, hi, rfl, hI⟩ := hrel
    by_cases hlt : i < n0
    · obtain ⟨F, Ws, n, p, kl, hn, hp⟩ := hI.out
      have hil : i < xs0.length := by rw [N0.out]; exact hlt
      obtain ⟨g, off, ak, ck, av', cv', rfl, hg, w0c, w1c, w2c, w3c, ek, ev, ha0⟩ := step_at G0.out kl.mods hil
      have KK := Lib.hid kl
      have BB := Lib.hid (And.intro hn hp)
      have KC := Lib.hid (kl_sets kl ha0 (by omega) (by omega))
      rw [ek, ev] at KC
      generalize xs0[i] = s at *
      obtain ⟨what, sn, kv, vv, ks, vs⟩ := s
      simp only at w0c w2c w3c KC
      clear hI kl hn hp ha0 ek ev w1c
      by_cases h8 : what = 8
      · subst h8
        clear w2c w3c KC
        go_wp2_with fail
        refine (KK.out.call cc_begin).mono ?_
        rintro e w6 ⟨rfl, k6, m6⟩
        have K6 := Lib.hid k6
        clear k6 m6 w0c KK
        go_wp2
        go_roundw
        case rel => exact ⟨i + 1, by omega, by go_num, Lib.hid ⟨_, _, _, _, K6.out, by have := BB.out.1; omega, by have := BB.out.2; omega⟩⟩
        case measure => simp [intOf]; omega
      · go_upto_region 11 with fail
        refine wp_tl (d := .region 11 (opsC 11 Try.f6) true) (by kernel_rfl) ?_
        refine RW.wp (ka11 w2c w3c hg hlt (by omega) KC.out ?_)
        intros
        rename_i w7 hx
        have K7 := Lib.hid hx.1
        clear hx KC KK w0c w2c w3c
        go_wp2
        go_roundw
        case rel => exact ⟨i + 1, by omega, by go_num, Lib.hid ⟨_, _, _, _, K7.out, by have := BB.out.1; omega, by have := BB.out.2; omega⟩⟩
        case measure => simp [intOf]; omega
    · obtain ⟨F1, Ws, n, p, kl, hn, hp⟩ := hI.out
      have KC := Lib.hid (k2_copy kl (by omega))
      have BB := Lib.hid (show n ≤ 400 ∧ p ≤ 800 ∧ Ws.length ≤ 16 ∧ F1.length ≤ 800 by have := kl.len; omega)
      clear hI kl hn hp
      go_wp2_with fail
      refine KC.out.mono ?_
      rintro e w6 ⟨sg2, rfl, k6, m6⟩
      have KD := Lib.hid (k2_dump k6 (by have := BB.out.2.1; omega))
      clear KC k6 m6
      go_wp2_with fail
      refine KD.out.mono ?_
      rintro e w7 ⟨va, L, rfl, pr, el, k7, m7⟩
      obtain ⟨Q, hQ⟩ : ∃ Q, Q = QL (fun k => k < w.heap.size) va L := ⟨_, rfl⟩
      rw [← hQ] at k7
      have HQ := Lib.hid (show (∀ k, va.ownBlock = some k → Q k) ∧ (∀ k, MDL L k → Q k) ∧ (∀ k, k < w.heap.size → Q k) from ⟨fun k hk => by rw [hQ]; exact .inr (.inl hk), fun k hk => by rw [hQ]; exact .inr (.inr hk), fun k hk => by rw [hQ]; exact .inl hk⟩)
      have PR := Lib.hid pr
      have EL := Lib.hid el
      have K7 := Lib.hid k7
      have LL := Lib.hid (show L.length ≤ 800 by have := congrArg List.length el; rw [List.length_map] at this; have := BB.out; omega)
      obtain ⟨av, cv, rfl, _⟩ := pr.row.form
      clear pr el k7 m7 hQ KD
      have DC := Lib.hid (kl_depth K7.out.swap.one)
      have OC := Lib.hid (kl_ops K7.out.swap.one (by omega))
      have KD2 := Lib.hid (k2_dump K7.out.swap (by have := BB.out.2.1; omega))
      go_wp2_with fail
      refine DC.out.mono ?_
      rintro e vv ⟨rfl, rfl⟩
      clear DC
      go_wp2_with fail
      refine OC.out.mono ?_
      rintro e vv ⟨rfl, rfl⟩
      clear OC
      go_wp2_with fail
      refine KD2.out.mono ?_
      rintro e w8 ⟨vb, M, rfl, prm, em, k8, m8⟩
      obtain ⟨bv, bc, rfl, _⟩ := prm.row.form
      have PT := Lib.hid (Pairs_true prm (PR.out.keep0 m8) (by rw [em, EL.out]) (by have := congrArg List.length em; rw [List.length_map] at this; have := BB.out; omega))
      have K8 := Lib.hid k8.swap
      have PR8 := Lib.hid (PR.out.keep0 m8)
      clear prm em k8 m8 KD2 K7 PR
      go_wp2_with fail
      refine PT.out.mono ?_
      rintro e w9 ⟨rfl, m9⟩
      have K9 := Lib.hid (show K2 w w9 sg F1 Ws n p sg2 F1 [] 0 p Q from (K8.out.keep0 m9).less (fun k hk => .inl hk) HQ.out.2.2)
      have PR9 := Lib.hid (PR8.out.keep0 m9)
      clear m9 K8 PR8 PT
      go_wp2
      go_loopw [9] (fun x wr => ∃ j : Nat, j ≤ n1 ∧ x = .int .i64 j ∧ Hid (∃ F2 n2 p2, K2 w wr sg F1 Ws n p sg2 F2 [] n2 p2 Q ∧ PRow wr (.slice av L.length cv) L ∧ n2 ≤ j ∧ p2 ≤ 800 + 2 * j)) (fun x _ => n1 - (intOf x).toNat)
      case atStart => exact ⟨0, Nat.zero_le _, rfl, Lib.hid ⟨_, _, _, K9.out, PR9.out, Nat.zero_le _, by have := BB.out; omega⟩⟩
      case round =>
        clear K9 PR9
        obtain ⟨j, hj, rfl, hI⟩ := hrel
        by_cases hlt2 : j < n1
        · obtain ⟨F2, n2, p2, kl, pr, hn, hp⟩ := hI.out
          have hjl : j < xs1.length := by rw [N1.out]; exact hlt2
          obtain ⟨g, off, ak, ck, av', cv', rfl, hg, w0c, w1c, w2c, w3c, ek, ev, ha0⟩ := step_at G1.out kl.one.mods hjl
          have lk := (E1.out j hjl).1
          have KC := Lib.hid (k2_sets kl.swap ha0 (by omega) (by omega))
          have KDL := Lib.hid (kl.swap.call (cs_del ha0 kl.swap.one.q0 kl.swap.one.mods (by omega) (by omega) (by omega)))
          have PP := Lib.hid pr
          have BJ := Lib.hid (And.intro hn hp)
          rw [ek, ev] at KC
          rw [ek] at KDL
          generalize xs1[j] = s at *
          obtain ⟨what, sn, kv, vv, ks, vs⟩ := s
          simp only at w2c w3c KC KDL
          clear hI kl pr hn hp ha0 ek ev w0c w1c lk
          by_cases hz : (j : Int).tmod 2 = 0
          · clear KDL
            go_upto_region 20 with fail
            refine wp_tl (d := .region 20 (opsC 20 Try.f6) true) (by kernel_rfl) ?_
            refine RW.wp (ka20 w2c w3c hg hlt2 (by omega) KC.out ?_)
            intros
            rename_i w10 hx
            have K10 := Lib.hid hx.1.swap
            have PR10 := Lib.hid (PP.out.keepQ hx.2 HQ.out.1 HQ.out.2.1)
            clear hx KC w2c w3c PP
            go_wp2
            go_roundw
            case rel => exact ⟨j + 1, by omega, by go_num, Lib.hid ⟨_, _, _, K10.out, PR10.out, by have := BJ.out; omega, by have := BJ.out; omega⟩⟩
            case measure => simp [intOf]; omega
          · have e1 : (j : Int).tmod 2 = (j : Int) % 2 := Int.tmod_eq_emod_of_nonneg (by omega)
            have z1 : ¬ (2 : Int) ∣ (j : Int) := by omega
            have z2 : ¬ 2 ∣ j := by omega
            have z3 : ¬ (j : Int) % 2 = 0 := by omega
            have z4 : ¬ j % 2 = 0 := by omega
            have z5 : j % 2 = 1 := by omega
            clear KC e1
            go_wp2_with fail
            refine KDL.out.mono ?_
            rintro e w10 ⟨rfl, k10, m10⟩
            have K10 := Lib.hid k10.swap
            have PR10 := Lib.hid (PP.out.keepQ m10 HQ.out.1 HQ.out.2.1)
            clear k10 m10 w2c w3c PP KDL
            go_wp2
            go_roundw
            case rel => exact ⟨j + 1, by omega, by go_num, Lib.hid ⟨_, _, _, K10.out, PR10.out, by have := BJ.out; omega, by have := BJ.out; omega⟩⟩
            case measure => simp [intOf]; omega
        · obtain ⟨F2, n2, p2, kl, pr, hn, hp⟩ := hI.out
          have BC := Lib.hid (show n2 ≤ 400 ∧ p2 ≤ 1600 ∧ F2.length ≤ 1600 by have := kl.swap.one.len; omega)
          have KD := Lib.hid (k2_dump kl.swap (by omega))
          have PP := Lib.hid pr
          clear hI kl pr hn hp
          go_wp2_with fail
          refine KD.out.mono ?_
          rintro e w10 ⟨vb, M, rfl, prm, em, k10, m10⟩
          obtain ⟨Q2, hQ2⟩ : ∃ Q2, Q2 = QL Q vb M := ⟨_, rfl⟩
          rw [← hQ2] at k10
          have HQ2 := Lib.hid (show (∀ k, vb.ownBlock = some k → Q2 k) ∧ (∀ k, MDL M k → Q2 k) ∧ (∀ k, k < w.heap.size → Q2 k) from ⟨fun k hk => by rw [hQ2]; exact .inr (.inl hk), fun k hk => by rw [hQ2]; exact .inr (.inr hk), k10.one.q0⟩)
          have PRM := Lib.hid prm
          have EM := Lib.hid em
          have LM := Lib.hid (show M.length ≤ 1600 by have := congrArg List.length em; rw [List.length_map] at this; have := BC.out; omega)
          have KD3 := Lib.hid (k2_dump k10.swap (by have := BB.out; omega))
          have PP2 := Lib.hid (PP.out.keep0 m10)
          obtain ⟨bv, bc, rfl, _⟩ := prm.row.form
          clear prm em k10 m10 hQ2 KD PP
          go_wp2_with fail
          refine KD3.out.mono ?_
          rintro e w11 ⟨vc, N, rfl, prn, en, k11, m11⟩
          obtain ⟨dv, dc, rfl, _⟩ := prn.row.form
          have PT := Lib.hid (Pairs_true prn (PP2.out.keep0 m11) (by rw [en, EL.out]) (by have := congrArg List.length en; rw [List.length_map] at this; have := BB.out; omega))
          have PRM2 := Lib.hid (PRM.out.keep0 m11)
          have K11 := Lib.hid k11
          clear prn en k11 m11 KD3 PP2 PRM
          go_wp2_with fail
          refine PT.out.mono ?_
          rintro e w12 ⟨rfl, m12⟩
          have ST := Lib.hid (show ∃ F Ws' n' p', K2 w w12 sg F Ws' n' p' sg2 F2 [] n2 p2 Q2 ∧ PRow w12 (.slice bv M.length bc) M ∧ n' + Ws'.length ≤ 1000 ∧ p' + 2 * Ws'.length ≤ 10000 from ⟨_, _, _, _, (K11.out.keep0 m12).less (fun k hk => .inl hk) HQ2.out.2.2, PRM2.out.keep0 m12, by have := BB.out; omega, by have := BB.out; omega⟩)
          clear m12 PT K11 PRM2
          go_wp2
          go_loopw [] (fun wr => Hid (∃ F Ws' n' p', K2 w wr sg F Ws' n' p' sg2 F2 [] n2 p2 Q2 ∧ PRow wr (.slice bv M.length bc) M ∧ n' + Ws'.length ≤ 1000 ∧ p' + 2 * Ws'.length ≤ 10000)) (fun wr => depthOf sg wr)
          case atStart => exact ST
          case round =>
            clear ST
            obtain ⟨F, Ws', n', p', kl, pr, hn, hp⟩ := hrel.out
            have K1 := Lib.hid kl
            have PP := Lib.hid pr
            have DP := Lib.hid (kl_depth kl.one)
            have dw := depth_of2 kl
            have hl16 := kl.one.len.2
            have BN := Lib.hid (And.intro hn hp)
            clear hrel kl pr hn hp
            rcases Ws' with _ | ⟨G, Vs⟩
            · have kd := Lib.hid (k2_dump K1.out.swap (by have := BC.out; omega))
              go_wp2_with fail
              refine DP.out.mono ?_
              rintro e vv ⟨rfl, rfl⟩
              clear dw DP
              go_wp2_with fail
              refine kd.out.mono ?_
              rintro e w13 ⟨vd, P, rfl, prp, ep, k13, m13⟩
              obtain ⟨ev', ec', rfl, _⟩ := prp.row.form
              have PT := Lib.hid (Pairs_true prp (PP.out.keep0 m13) (by rw [ep, EM.out]) (by have := congrArg List.length ep; rw [List.length_map] at this; have := BC.out; omega))
              have MF := Lib.hid k13.one.mods
              clear prp ep k13 m13 kd PP K1
              go_wp2_with fail
              refine PT.out.mono ?_
              rintro e w14 ⟨rfl, m14⟩
              have M14 := Lib.hid (MF.out.then0 m14)
              clear m14 PT
              go_wp2
              go_ret
              exact ⟨rfl, M14.out⟩
            · rw [List.length_cons] at DP dw
              obtain ⟨l, hl⟩ : ∃ l, Vs.length = l := ⟨_, rfl⟩
              have HVL := Lib.hid hl
              have BN2 := Lib.hid (show n' + 1 + l ≤ 1000 ∧ p' + 2 + 2 * l ≤ 10000 by have := BN.out; simp only [List.length_cons, hl] at this; omega)
              rw [hl] at DP dw
              rw [List.length_cons, hl] at hl16
              clear hl BN
              go_wp2_with fail
              refine DP.out.mono ?_
              rintro e vv ⟨rfl, rfl⟩
              clear DP
              go_wp2_with fail
              refine (K1.out.call (cc_rollback (by have := BN2.out; omega))).mono ?_
              rintro e w13 ⟨rfl, k13, m13⟩
              rw [show enE (G :: Vs) = 0 from rfl]
              have K13 := Lib.hid (show K2 w w13 sg _ Vs n' p' sg2 F2 [] n2 p2 Q2 from k13)
              have P13 := Lib.hid (PP.out.keepQ m13 HQ2.out.1 HQ2.out.2.1)
              clear k13 m13 K1 PP
              go_wp2_with fail
              refine (k2_setnew K13.out (by have := BN2.out; omega) (by have := BN2.out; omega)).mono ?_
              rintro e w14 ⟨⟨x, rfl⟩, ⟨F', k14⟩, m14⟩
              have dd := depth_of2 k14
              rw [HVL.out] at dd
              have NX := Lib.hid (show ∃ F Ws' n' p', K2 w w14 sg F Ws' n' p' sg2 F2 [] n2 p2 Q2 ∧ PRow w14 (.slice bv M.length bc) M ∧ n' + Ws'.length ≤ 1000 ∧ p' + 2 * Ws'.length ≤ 10000 from ⟨_, _, _, _, k14, P13.out.keepQ m14 HQ2.out.1 HQ2.out.2.1, by rw [HVL.out]; have := BN2.out; omega, by rw [HVL.out]; have := BN2.out; omega⟩)
              clear k14 m14 K13 P13
              go_wp2
              go_roundw
              case rel => exact NX
              case measure => rw [dd, dw]; omega
namespace kVApart
theorem walk (v0 v1 : Value) (x0 x1 : List KStp) (w : World) (k0 : RdKs w v0 x0) (k1 : RdKs w v1 x1) : Calls Try.prog 6 #[v0, v1] w fun e w' => e = .returned (.bool true) ∧ Below w.heap.size w w' :=
  (kvapart_walk v0 v1 x0 x1 w k0 k1).mono fun e w' ⟨a, m⟩ => ⟨a, m.below⟩
end kVApart
end Go.Proofs.Ytngemlpalkfjeaa

/- KVBack: P6.5: behind as many Rollbacks the entries are those at Begin; behind Commits they are what was seen. -/
import Derived.Test.YtngemlpalkfjeaaKvLw
import Derived.Test.YtngemlpalkfjeaaZB
import Derived.Deep.DeepCutAuto
import Derived.Deep.CutBlock
import Derived.Outline
namespace Go.Proofs.Ytngemlpalkfjeaa
open Go.Gl Go.RowKit
set_option linter.unusedVariables false
set_option maxRecDepth 100000
theorem klight_len {ss : List KStp} (h : klightB ss = true) : ss.length ≤ 400 ∧ ∀ i (hi : i < ss.length), (ss[i]).k.length ≤ 8000 ∧ (ss[i]).v.length ≤ 8000 := by
  unfold klightB at h
  rw [Bool.and_eq_true, decide_eq_true_eq, decide_eq_true_eq] at h
  refine ⟨h.2, fun i hi => ?_⟩
  have h2 := kwts_get hi
  have h3 : (ss[i]).wt = (ss[i]).k.length + (ss[i]).v.length := rfl
  omega
def depthOf (sg : Nat) (w : World) : Nat := match w.cell? ⟨sg, 1, none⟩ with
  | some (.slice _ n _) => n
  | _ => 0
theorem depth_of {w0 w : World} {sg n p : Nat} {F : List Ent} {Ws : List (List Ent)} {Q : Nat → Prop} (h : KL w0 w sg F Ws n p Q) : depthOf sg w = Ws.length := by
  obtain ⟨S, D, ⟨mg, vo, R, jv, J, km, ok, hf, hw, hj, hp, rfl, rfl⟩, _⟩ := h
  obtain ⟨a, c, hjv, _⟩ := km.row.rd.form
  unfold depthOf
  rw [km.cells.2.1, hjv, ← hw, snaps_len, JU_len]
theorem bgW_last {F F1 : List Ent} {Ws : List (List Ent)} (h : Ws.getLast? = some F1) : (bgW F Ws).getLast? = some F1 := by
  unfold bgW
  split
  · exact h
  · rw [List.getLast?_cons, h]; rfl
theorem tail_last {F1 : List Ent} {Ws : List (List Ent)} (h : Ws.getLast? = some F1) (hl : 1 < Ws.length) : Ws.tail.getLast? = some F1 := by
  rcases Ws with _ | ⟨a, _ | ⟨b, Ws⟩⟩
  · cases h
  · simp at hl
  · rw [List.getLast?_cons] at h
    rw [List.tail_cons]
    rw [List.getLast?_cons] at h ⊢
    simpa using h
def Bk (F1 : List Ent) (F : List Ent) (Ws : List (List Ent)) : Prop := (Ws = [] → F = F1) ∧ (Ws ≠ [] → Ws.getLast? = some F1)
theorem Bk.next {F1 F : List Ent} {Ws : List (List Ent)} (h : Bk F1 F Ws) (hne : Ws ≠ []) : Bk F1 (Ws.headD F) Ws.tail := by
  have h2 := h.2 hne
  rcases Ws with _ | ⟨a, Ws⟩
  · exact absurd rfl hne
  · refine ⟨fun e => ?_, fun e => ?_⟩
    · have : Ws = [] := e
      subst this
      simpa using h2
    · rw [List.tail_cons] at e ⊢
      rw [List.getLast?_cons] at h2
      have : Ws.length ≠ 0 := fun x => e (List.eq_nil_of_length_eq_zero x)
      exact tail_last (Ws := a :: Ws) (by rw [List.getLast?_cons]; exact h2) (by simp; omega)
def KB (keep : Bool) (F1 F F' : List Ent) (Ws : List (List Ent)) : Prop := (keep = true → F' = F) ∧ (keep = false → Bk F1 F' Ws)
theorem KB.kept {F1 F F' : List Ent} {Ws : List (List Ent)} (h : KB true F1 F F' Ws) : F' = F := h.1 rfl
theorem KB.back {F1 F F' : List Ent} {Ws : List (List Ent)} (h : KB false F1 F F' Ws) : Bk F1 F' Ws := h.2 rfl
theorem KB.t {F1 F : List Ent} {Ws : List (List Ent)} : KB true F1 F F Ws := ⟨fun _ => rfl, fun x => (by cases x)⟩
theorem KB.f {F1 F F' : List Ent} {Ws : List (List Ent)} (h : Bk F1 F' Ws) : KB false F1 F F' Ws := ⟨fun x => (by cases x), fun _ => h⟩
set_option maxHeartbeats 16000000 in
theorem kvback_walk (v0 v1 : Value) (xs0 xs1 : List KStp) (keep : Bool) (w : World) (h0 : RdKs w v0 xs0) (h1 : RdKs w v1 xs1) : Calls Try.prog 4 #[v0, v1, .bool keep] w fun e w' => e = .returned (.bool true) ∧ Mods noB w w' := by
  have KN := Lib.hid (kknown_any w)
  have LI := Lib.hid (fun W (m : Mods noB w W) => And.intro (klight_any (h0.keep m)) (klight_any (h1.keep m)))
  obtain ⟨a0, n0, c0, rfl, hn0, hc0, hb0, g0⟩ := h0.form2
  obtain ⟨a1, n1, c1, rfl, hn1, hc1, hb1, g1⟩ := h1.form2
  have G0 := Lib.hid g0
  have G1 := Lib.hid g1
  have N0 := Lib.hid hn0
  have N1 := Lib.hid hn1
  clear h0 h1 g0 g1 hn0 hn1
  go_enter Try.func4, Try.ntmps4
  go_wp2_with fail
  refine KN.out.mono ?_
  rintro e w1 ⟨rfl, m1⟩
  have M1 := Lib.hid m1
  have L0 := Lib.hid (LI.out w1 m1).1
  clear KN m1
  go_wp2_with fail
  refine L0.out.mono ?_
  rintro e w2 ⟨rfl, q2⟩
  have M2 := Lib.hid (M1.out.then0 (q2.mods noB))
  clear q2 L0 M1
  obtain ⟨B0, hB0⟩ : ∃ B, klightB xs0 = B := ⟨_, rfl⟩
  rw [hB0]
  cases B0 with
  | false =>
    clear hB0 LI
    go_wp2
    go_ret
    exact ⟨rfl, M2.out⟩
  | true =>
  have L1 := Lib.hid (LI.out w2 M2.out).2
  clear LI
  go_wp2_with fail
  refine L1.out.mono ?_
  rintro e w3 ⟨rfl, q3⟩
  have M3 := Lib.hid (M2.out.then0 (q3.mods noB))
  clear q3 L1 M2
  obtain ⟨B1, hB1⟩ : ∃ B, klightB xs1 = B := ⟨_, rfl⟩
  rw [hB1]
  cases B1 with
  | false =>
    clear hB0 hB1
    go_wp2
    go_ret
    exact ⟨rfl, M3.out⟩
  | true =>
  obtain ⟨l0, e0⟩ := klight_len hB0
  obtain ⟨l1, e1⟩ := klight_len hB1
  have E0 := Lib.hid e0
  have E1 := Lib.hid e1
  have ln0 : n0 ≤ 400 := by have := N0.out; omega
  have ln1 : n1 ≤ 400 := by have := N1.out; omega
  clear hB0 hB1 e0 e1 l0 l1
  go_wp2_with fail
  refine (kl_new (w0 := w) (Q := fun k => k < w.heap.size) (fun _ h => Nat.lt_of_lt_of_le h M3.out.size) (fun _ h => h) M3.out).mono ?_
  rintro e w4 ⟨sg, rfl, k4, m4⟩
  have K4 := Lib.hid k4
  clear k4 m4 M3
  go_wp2
  go_loopw [8] (fun x wr => ∃ i : Nat, i ≤ n0 ∧ x = .int .i64 i ∧ Hid (∃ F n p, KL w wr sg F [] n p (fun k => k < w.heap.size) ∧ n ≤ i ∧ p ≤ 2 * i)) (fun x _ => n0 - (intOf x).toNat)
  case atStart => exact ⟨0, Nat.zero_le _, rfl, Lib.hid ⟨_, _, _, K4.out, Nat.le_refl _, Nat.le_refl _⟩⟩
  case round =>
    clear K4
    obtain ⟨i, hi, rfl, hI⟩ := hrel
    by_cases hlt : i < n0
    · obtain ⟨F, n, p, kl, hn, hp⟩ := hI.out
      have hil : i < xs0.length := by rw [N0.out]; exact hlt
      obtain ⟨g, off, rfl, hg, hc, hat⟩ := G0.out wr kl.mods i hil
      have ha0 : (xs0[i]).At w := by obtain ⟨_, _, _, _, _, h⟩ := G0.out w (Mods.refl _ _) i hil; exact h
      have w0c := hc 0 (by omega)
      have w2c := hc 2 (by omega)
      have w3c := hc 3 (by omega)
      rw [Nat.add_zero] at w0c
      have KC := Lib.hid (kl_sets kl ha0 (by omega) (by omega))
      have KK := Lib.hid (And.intro kl (And.intro hn hp))
      obtain ⟨z1, z2⟩ := And.intro hat.a1 hat.a2
      generalize xs0[i] = s at *
      obtain ⟨what, sn, kv, vv, ks, vs⟩ := s
      simp only [KStp.cell] at w0c w2c w3c KC z1 z2
      clear hI hc hat ha0 kl hn hp
      by_cases hw : what < 3
      · go_upto_region 10 with fail
        refine wp_tl (d := .region 10 (opsC 10 Try.f4) true) (by kernel_rfl) ?_
        refine RW.wp (kb10 w2c w3c hg hlt (by omega) KC.out ?_)
        intros
        rename_i w5 hx
        have K5 := Lib.hid hx.1
        clear hx KC w0c w2c w3c
        go_wp2
        go_roundw
        case rel => exact ⟨i + 1, by omega, by go_num, Lib.hid ⟨_, _, _, K5.out, by have := KK.out.2.1; omega, by have := KK.out.2.2; omega⟩⟩
        case measure => simp [intOf]; omega
      · clear KC w2c w3c
        go_wp2
        go_roundw
        case rel => exact ⟨i + 1, by omega, by go_num, Lib.hid ⟨_, _, _, KK.out.1, by have := KK.out.2.1; omega, by have := KK.out.2.2; omega⟩⟩
        case measure => simp [intOf]; omega
    · obtain ⟨F1, n, p, kl, hn, hp⟩ := hI.out
      have K5 := Lib.hid kl
      have kd := Lib.hid (kl_dump kl (by omega))
      clear hI kl
      go_wp2_with fail
      refine kd.out.mono ?_
      rintro e w5 ⟨va, L, rfl, pr, el, k5, m5⟩
      obtain ⟨Q, hQ⟩ : ∃ Q, Q = QL (fun k => k < w.heap.size) va L := ⟨_, rfl⟩
      rw [← hQ] at k5
      have HQ := Lib.hid (show (∀ k, va.ownBlock = some k → Q k) ∧ (∀ k, MDL L k → Q k) from ⟨fun k hk => by rw [hQ]; exact .inr (.inl hk), fun k hk => by rw [hQ]; exact .inr (.inr hk)⟩)
      have PR := Lib.hid pr
      have EL := Lib.hid el
      have K6 := Lib.hid k5
      obtain ⟨av, cv, rfl, _⟩ := pr.row.form
      clear pr el k5 m5 hQ K5 kd
      go_wp2_with fail
      refine (K6.out.call cc_begin).mono ?_
      rintro e w6 ⟨rfl, k6, m6⟩
      rw [show bgE [] = 0 from rfl]
      have K7 := Lib.hid (show KL w w6 sg F1 [F1] n p Q from k6)
      have PR7 := Lib.hid (PR.out.keepQ m6 HQ.out.1 HQ.out.2)
      have NP := Lib.hid (And.intro hn hp)
      have NPL := Lib.hid (show F1.length ≤ 100000 by have := k6.len.1; omega)
      clear k6 m6 K6 PR hn hp
      go_wp2
      go_loopw [10] (fun x wr => ∃ j : Nat, j ≤ n1 ∧ x = .int .i64 j ∧ Hid ((∃ F Ws n p, KL w wr sg F Ws n p Q ∧ n ≤ 400 + j ∧ p ≤ 800 + 2 * j ∧ Ws.getLast? = some F1) ∧ PRow wr (.slice av L.length cv) L)) (fun x _ => n1 - (intOf x).toNat)
      case atStart => exact ⟨0, Nat.zero_le _, rfl, Lib.hid ⟨⟨_, _, _, _, K7.out, by have := NP.out.1; omega, by have := NP.out.2; omega, rfl⟩, PR7.out⟩⟩
      case round =>
        clear K7 PR7 NP
        obtain ⟨j, hj, rfl, hI⟩ := hrel
        by_cases hlt2 : j < n1
        · obtain ⟨⟨F, Ws, n, p, kl, hn, hp, hla⟩, pr⟩ := hI.out
          have hjl : j < xs1.length := by rw [N1.out]; exact hlt2
          obtain ⟨g, off, rfl, hg, hc, hat⟩ := G1.out wr kl.mods j hjl
          have ha0 : (xs1[j]).At w := by obtain ⟨_, _, _, _, _, h⟩ := G1.out w (Mods.refl _ _) j hjl; exact h
          have w0c := hc 0 (by omega)
          have w1c := hc 1 (by omega)
          have w2c := hc 2 (by omega)
          have w3c := hc 3 (by omega)
          rw [Nat.add_zero] at w0c
          have lk := (E1.out j hjl).1
          obtain ⟨z1, z2⟩ := And.intro hat.a1 hat.a2
          have HA := Lib.hid ha0
          have KK := Lib.hid (And.intro kl (And.intro hn (And.intro hp (And.intro hla pr))))
          obtain ⟨ak, ck, ek, _⟩ := hat.k.form
          obtain ⟨av', cv', ev, _⟩ := hat.v.form
          clear hI hc hat ha0 kl hn hp hla pr
          generalize xs1[j] = s at *
          obtain ⟨what, sn, kv, vv, ks, vs⟩ := s
          simp only [KStp.cell] at w0c w1c w2c w3c z1 z2 lk ek ev
          subst ek ev
          have m1 := (Mods.refl noB wr).alloc (.cells #[.int .i64 what, .int .i64 sn, .slice ak ks.length ck, .slice av' vs.length cv'] 34)
          have b1 := heap_new wr (.cells #[.int .i64 what, .int .i64 sn, .slice ak ks.length ck, .slice av' vs.length cv'] 34)
          obtain ⟨kl, hn, hp, hla, pr⟩ := KK.out
          have K1 := Lib.hid (kl.keep0 m1)
          have HLA := Lib.hid hla
          have NEXT := Lib.hid (fun W' F' Ws' n' p' (k' : KL w W' sg F' Ws' n' p' Q) (m' : Mods (fun k => ¬ Q k) (wr.alloc (.cells #[.int .i64 what, .int .i64 sn, .slice ak ks.length ck, .slice av' vs.length cv'] 34)) W') (hn' : n' ≤ n + 1) (hp' : p' ≤ p + 2) (hl' : Ws'.getLast? = some F1) =>
            show (∃ F Ws n p, KL w W' sg F Ws n p Q ∧ n ≤ 400 + (j + 1) ∧ p ≤ 800 + 2 * (j + 1) ∧ Ws.getLast? = some F1) ∧ PRow W' (.slice av L.length cv) L from ⟨⟨_, _, _, _, k', by omega, by omega, hl'⟩, (pr.keep0 m1).keepQ m' HQ.out.1 HQ.out.2⟩)
          have CS := Lib.hid (cs_set (sg := sg) (F := F) (Ws := Ws) (n := n) (p := p) (Q := Q) HA.out K1.out.q0 K1.out.mods (by omega) (by omega))
          have CD := Lib.hid (cs_del (sg := sg) (F := F) (Ws := Ws) (n := n) (p := p) (Q := Q) HA.out K1.out.q0 K1.out.mods (by show ks.length ≤ 1000000; omega) (by omega) (by omega))
          simp only at CS CD
          have HL16 := K1.out.len.2
          have SAME := Lib.hid (NEXT.out _ _ _ _ _ K1.out (Mods.refl _ _) (by omega) (by omega) hla)
          have hp9 : p ≤ 100000 := by omega
          clear KK kl hla pr m1 HA
          go_upto_block 4 with fail
          clear w0c w1c w2c w3c
          by_cases h3 : what < 3
          · go_wp2_with fail
            refine (K1.out.call CS.out).mono ?_
            rintro e w5 ⟨rfl, k5, m5⟩
            have NX := Lib.hid (NEXT.out _ _ _ _ _ k5 m5 (by omega) (by omega) HLA.out)
            clear k5 m5
            go_wp2
            go_roundw
            case rel => exact ⟨j + 1, by omega, by go_num, NX⟩
            case measure => simp [intOf]; omega
          by_cases h6 : what < 6
          · go_wp2_with fail
            refine (K1.out.call CD.out).mono ?_
            rintro e w5 ⟨rfl, k5, m5⟩
            have NX := Lib.hid (NEXT.out _ _ _ _ _ k5 m5 (by omega) (by omega) HLA.out)
            clear k5 m5
            go_wp2
            go_roundw
            case rel => exact ⟨j + 1, by omega, by go_num, NX⟩
            case measure => simp [intOf]; omega
          by_cases h8 : what = 8
          · subst h8
            go_wp2_with fail
            refine (K1.out.call cc_begin).mono ?_
            rintro e w5 ⟨rfl, k5, m5⟩
            have NX := Lib.hid (NEXT.out _ _ _ _ _ k5 m5 (by omega) (by omega) (bgW_last HLA.out))
            clear k5 m5
            go_wp2
            go_roundw
            case rel => exact ⟨j + 1, by omega, by go_num, NX⟩
            case measure => simp [intOf]; omega
          by_cases h9 : what = 9
          · subst h9
            go_wp2_with fail
            refine (kl_depth K1.out).mono ?_
            rintro e vv ⟨rfl, rfl⟩
            by_cases hd : 1 < Ws.length
            · go_wp2_with fail
              refine (K1.out.call (cc_commit hp9)).mono ?_
              rintro e w5 ⟨rfl, k5, m5⟩
              have NX := Lib.hid (NEXT.out _ _ _ _ _ k5 m5 (by omega) (by omega) (tail_last HLA.out hd))
              clear k5 m5
              go_wp2
              go_roundw
              case rel => exact ⟨j + 1, by omega, by go_num, NX⟩
              case measure => simp [intOf]; omega
            · go_wp2
              go_roundw
              case rel => exact ⟨j + 1, by omega, by go_num, SAME⟩
              case measure => simp [intOf]; omega
          by_cases h10 : what = 10
          · subst h10
            go_wp2_with fail
            refine (kl_depth K1.out).mono ?_
            rintro e vv ⟨rfl, rfl⟩
            by_cases hd : 1 < Ws.length
            · go_wp2_with fail
              refine (K1.out.call (cc_rollback hp9)).mono ?_
              rintro e w5 ⟨rfl, k5, m5⟩
              have NX := Lib.hid (NEXT.out _ _ _ _ _ k5 m5 (by omega) (by omega) (tail_last HLA.out hd))
              clear k5 m5
              go_wp2
              go_roundw
              case rel => exact ⟨j + 1, by omega, by go_num, NX⟩
              case measure => simp [intOf]; omega
            · go_wp2
              go_roundw
              case rel => exact ⟨j + 1, by omega, by go_num, SAME⟩
              case measure => simp [intOf]; omega
          go_wp2
          go_roundw
          case rel => exact ⟨j + 1, by omega, by go_num, SAME⟩
          case measure => simp [intOf]; omega
        · obtain ⟨⟨F, Ws, n, p, kl, hn, hp, hla⟩, pr⟩ := hI.out
          have kd := Lib.hid (kl_dump kl (by omega))
          have HLA := Lib.hid hla
          have PRA := Lib.hid pr
          have HQ0 := Lib.hid kl.qlt
          clear hI kl hla pr
          go_wp2_with fail
          refine kd.out.mono ?_
          rintro e w5 ⟨vb, M, rfl, pr2, em, k5, m5⟩
          obtain ⟨Q2, hQ2⟩ : ∃ Q2, Q2 = QL Q vb M := ⟨_, rfl⟩
          rw [← hQ2] at k5
          have HQ2 := Lib.hid (show (∀ k, vb.ownBlock = some k → Q2 k) ∧ (∀ k, MDL M k → Q2 k) ∧ (∀ k, (Value.slice av L.length cv).ownBlock = some k → Q2 k) ∧ (∀ k, MDL L k → Q2 k) from ⟨fun k hk => by rw [hQ2]; exact .inr (.inl hk), fun k hk => by rw [hQ2]; exact .inr (.inr hk), fun k hk => by rw [hQ2]; exact .inl (HQ.out.1 k hk), fun k hk => by rw [hQ2]; exact .inl (HQ.out.2 k hk)⟩)
          obtain ⟨ab, cb, eb, _⟩ := pr2.row.form
          subst eb
          have ST := Lib.hid (show ∃ F' Ws', KL w w5 sg F' Ws' n p Q2 ∧ KB keep F1 F F' Ws' ∧ PRow w5 (.slice av L.length cv) L ∧ PRow w5 (.slice ab M.length cb) M from ⟨F, Ws, k5, ⟨fun _ => rfl, fun _ => ⟨fun e => (by rw [e] at HLA; cases HLA.out), fun _ => HLA.out⟩⟩, PRA.out.keep0 m5, pr2⟩)
          have EM := Lib.hid em
          have hp9 : p ≤ 100000 := by omega
          have hL : L.length ≤ 1000000 := by have := congrArg List.length EL.out; rw [List.length_map] at this; have := NPL.out; omega
          have hM : M.length ≤ 1000000 := by have := congrArg List.length em; rw [List.length_map] at this; have := k5.len.1; omega
          clear hQ2 pr2 em k5 m5 kd HLA PRA HQ0
          go_wp2
          go_loopw [] (fun wr => Hid (∃ F' Ws', KL w wr sg F' Ws' n p Q2 ∧ KB keep F1 F F' Ws' ∧ PRow wr (.slice av L.length cv) L ∧ PRow wr (.slice ab M.length cb) M)) (fun wr => depthOf sg wr)
          case atStart => exact ST
          case round =>
            clear ST
            obtain ⟨F', Ws', kl, hkb, pra, prb⟩ := hrel.out
            have K1 := Lib.hid kl
            have CB := Lib.hid hkb
            have PP := Lib.hid (And.intro pra prb)
            have DP := Lib.hid (kl_depth kl)
            have dw := depth_of kl
            have hlen := kl.len.1
            have hl16 := kl.len.2
            clear hrel kl hkb pra prb
            rcases Ws' with _ | ⟨G, Vs⟩
            · have kd := Lib.hid (kl_dump K1.out hp9)
              go_wp2_with fail
              refine DP.out.mono ?_
              rintro e vv ⟨rfl, rfl⟩
              clear dw DP
              cases keep with
              | true =>
                go_wp2_with fail
                refine kd.out.mono ?_
                rintro e w6 ⟨vc, N, rfl, pr3, en, k6, m6⟩
                have PT := Lib.hid (Pairs_true pr3 (PP.out.2.keep0 m6) (by rw [en, EM.out, CB.out.kept]) (by have := congrArg List.length en; rw [List.length_map] at this; omega))
                have MF := Lib.hid k6.mods
                obtain ⟨ac, cc, ec, _⟩ := pr3.row.form
                subst ec
                clear pr3 en k6 m6 kd PP CB K1
                go_wp2_with fail
                refine PT.out.mono ?_
                rintro e w7 ⟨rfl, m7⟩
                have M7 := Lib.hid (MF.out.then0 m7)
                clear m7 PT
                go_wp2
                go_ret
                exact ⟨rfl, M7.out⟩
              | false =>
                go_wp2_with fail
                refine kd.out.mono ?_
                rintro e w6 ⟨vc, N, rfl, pr3, en, k6, m6⟩
                have PT := Lib.hid (Pairs_true pr3 (PP.out.1.keep0 m6) (by rw [en, EL.out, CB.out.back.1 rfl]) (by have := congrArg List.length en; rw [List.length_map] at this; omega))
                have MF := Lib.hid k6.mods
                obtain ⟨ac, cc, ec, _⟩ := pr3.row.form
                subst ec
                clear pr3 en k6 m6 kd PP CB K1
                go_wp2_with fail
                refine PT.out.mono ?_
                rintro e w7 ⟨rfl, m7⟩
                have M7 := Lib.hid (MF.out.then0 m7)
                clear m7 PT
                go_wp2
                go_ret
                exact ⟨rfl, M7.out⟩
            · rw [List.length_cons] at DP dw
              obtain ⟨l, hl⟩ : ∃ l, Vs.length = l := ⟨_, rfl⟩
              have HVL := Lib.hid hl
              rw [hl] at DP dw
              rw [List.length_cons, hl] at hl16
              go_wp2_with fail
              refine DP.out.mono ?_
              rintro e vv ⟨rfl, rfl⟩
              go_wp2_with fail
              refine DP.out.mono ?_
              rintro e vv ⟨rfl, rfl⟩
              clear DP
              cases keep with
              | true =>
                go_wp2_with fail
                refine (K1.out.call (cc_commit hp9)).mono ?_
                rintro e w6 ⟨rfl, k6, m6⟩
                have K6 := Lib.hid (show KL w w6 sg _ Vs n p Q2 from k6)
                have NX := Lib.hid (show ∃ F' Ws', KL w w6 sg F' Ws' n p Q2 ∧ KB true F1 F F' Ws' ∧ PRow w6 (.slice av L.length cv) L ∧ PRow w6 (.slice ab M.length cb) M from ⟨_, _, K6.out, by rw [CB.out.kept]; exact KB.t, PP.out.1.keepQ m6 HQ2.out.2.2.1 HQ2.out.2.2.2, PP.out.2.keepQ m6 HQ2.out.1 HQ2.out.2.1⟩)
                have DD := Lib.hid (kl_depth K6.out)
                have dd := depth_of K6.out
                rw [HVL.out] at DD dd
                clear k6 m6 PP CB K6
                go_wp2_with fail
                refine DD.out.mono ?_
                rintro e vv ⟨rfl, rfl⟩
                clear DD
                go_wp2
                go_roundw
                case rel => exact NX
                case measure => rw [dd, dw]; omega
              | false =>
                go_wp2_with fail
                refine (K1.out.call (cc_rollback hp9)).mono ?_
                rintro e w6 ⟨rfl, k6, m6⟩
                have K6 := Lib.hid (show KL w w6 sg _ Vs n p Q2 from k6)
                have NX := Lib.hid (show ∃ F' Ws', KL w w6 sg F' Ws' n p Q2 ∧ KB false F1 F F' Ws' ∧ PRow w6 (.slice av L.length cv) L ∧ PRow w6 (.slice ab M.length cb) M from ⟨_, _, K6.out, KB.f (CB.out.back.next (by simp)), PP.out.1.keepQ m6 HQ2.out.2.2.1 HQ2.out.2.2.2, PP.out.2.keepQ m6 HQ2.out.1 HQ2.out.2.1⟩)
                have DD := Lib.hid (kl_depth K6.out)
                have dd := depth_of K6.out
                rw [HVL.out] at DD dd
                clear k6 m6 PP CB K6
                go_wp2_with fail
                refine DD.out.mono ?_
                rintro e vv ⟨rfl, rfl⟩
                clear DD
                go_wp2
                go_roundw
                case rel => exact NX
                case measure => rw [dd, dw]; omega
namespace kVBack
theorem walk (v0 v1 : Value) (x0 x1 : List KStp) (x2 : Bool) (w : World) (k0 : RdKs w v0 x0) (k1 : RdKs w v1 x1) (k2 : True) : Calls Try.prog 4 #[v0, v1, .bool x2] w fun e w' => e = .returned (.bool true) ∧ Below w.heap.size w w' :=
  (kvback_walk v0 v1 x0 x1 x2 w k0 k1).mono fun e w' ⟨a, m⟩ => ⟨a, m.below⟩
end kVBack
end Go.Proofs.Ytngemlpalkfjeaa

/- KVDeep: P6.2, P6.5: journals within journals. -/
import Derived.Test.YtngemlpalkfjeaaKvBk
namespace Go.Proofs.Ytngemlpalkfjeaa
open Go.Gl Go.RowKit
set_option linter.unusedVariables false
set_option maxRecDepth 100000
theorem step_at {w wr : World} {a0 : Option Addr} {xs : List KStp} (G : ∀ W, Mods noB w W → ∀ i (hi : i < xs.length), ∃ g off, a0 = some ⟨g, off, none⟩ ∧ g < W.heap.size ∧ (∀ j, j < 4 → W.cell? ⟨g, off + i * 4 + j, none⟩ = some (xs[i].cell j)) ∧ xs[i].At W) (m : Mods noB w wr) {i : Nat} (hi : i < xs.length) :
    ∃ g off ak ck av cv, a0 = some ⟨g, off, none⟩ ∧ g < wr.heap.size ∧ wr.cell? ⟨g, off + i * 4, none⟩ = some (.int .i64 xs[i].what) ∧ wr.cell? ⟨g, off + i * 4 + 1, none⟩ = some (.int .i64 xs[i].n) ∧ wr.cell? ⟨g, off + i * 4 + 2, none⟩ = some (.slice ak xs[i].k.length ck) ∧ wr.cell? ⟨g, off + i * 4 + 3, none⟩ = some (.slice av xs[i].v.length cv) ∧ xs[i].kv = .slice ak xs[i].k.length ck ∧ xs[i].vv = .slice av xs[i].v.length cv ∧ xs[i].At w := by
  obtain ⟨g, off, e, hg, hc, hat⟩ := G wr m i hi
  obtain ⟨_, _, _, _, _, h0⟩ := G w (Mods.refl _ _) i hi
  obtain ⟨ak, ck, ek, _⟩ := hat.k.form
  obtain ⟨av, cv, ev, _⟩ := hat.v.form
  exact ⟨g, off, ak, ck, av, cv, e, hg, hc 0 (by omega), hc 1 (by omega), (hc 2 (by omega)).trans (congrArg some ek), (hc 3 (by omega)).trans (congrArg some ev), ek, ev, h0⟩
def DK (keep : Bool) (F2 F G : List Ent) : Prop := (keep = true → G = F) ∧ (keep = false → G = F2)
theorem DK.kept {F2 F G : List Ent} (h : DK true F2 F G) : G = F := h.1 rfl
theorem DK.back {F2 F G : List Ent} (h : DK false F2 F G) : G = F2 := h.2 rfl
theorem DK.t {F2 F : List Ent} : DK true F2 F F := ⟨fun _ => rfl, fun x => (by cases x)⟩
theorem DK.f {F2 F : List Ent} : DK false F2 F F2 := ⟨fun x => (by cases x), fun _ => rfl⟩
def DpI (keep : Bool) (w w' : World) (sg sg2 : Nat) (F1 F2 : List Ent) (Q : Nat → Prop) (v : Value) (L : List EV) (b : Nat) : Prop :=
  ∃ F n p G n2 p2, K2 w w' sg F [F2, F1] n p sg2 G [] n2 p2 Q ∧ PRow w' v L ∧ n ≤ b ∧ p ≤ 2 * b ∧ n2 ≤ b ∧ p2 ≤ 2 * b ∧ DK keep F2 F G
set_option maxHeartbeats 16000000 in
theorem kvdeep_walk (v0 v1 v2 : Value) (xs0 xs1 xs2 : List KStp) (keep : Bool) (w : World) (h0 : RdKs w v0 xs0) (h1 : RdKs w v1 xs1) (h2 : RdKs w v2 xs2) : Calls Try.prog 7 #[v0, v1, v2, .bool keep] w fun e w' => e = .returned (.bool true) ∧ Mods noB w w' := by
  have KN := Lib.hid (kknown_any w)
  have LI := Lib.hid (fun W (m : Mods noB w W) => And.intro (klight_any (h0.keep m)) (And.intro (klight_any (h1.keep m)) (klight_any (h2.keep m))))
  obtain ⟨a0, n0, c0, rfl, hn0, hc0, hb0, g0⟩ := h0.form2
  obtain ⟨a1, n1, c1, rfl, hn1, hc1, hb1, g1⟩ := h1.form2
  obtain ⟨a2, n2, c2, rfl, hn2, hc2, hb2, g2⟩ := h2.form2
  have G0 := Lib.hid g0
  have G1 := Lib.hid g1
  have G2 := Lib.hid g2
  have N0 := Lib.hid hn0
  have N1 := Lib.hid hn1
  have N2 := Lib.hid hn2
  clear h0 h1 h2 g0 g1 g2 hn0 hn1 hn2
  go_enter Try.func7, Try.ntmps7
  go_wp2_with fail
  refine KN.out.mono ?_
  rintro e w1 ⟨rfl, m1⟩
  have M1 := Lib.hid m1
  have L0 := Lib.hid (LI.out w1 m1).1
  clear KN m1
  go_wp2_with fail
  refine L0.out.mono ?_
  rintro e w2 ⟨rfl, q2⟩
  have M2 := Lib.hid (M1.out.then0 (q2.mods noB))
  clear q2 L0 M1
  obtain ⟨B0, hB0⟩ : ∃ B, klightB xs0 = B := ⟨_, rfl⟩
  rw [hB0]
  cases B0 with
  | false =>
    clear hB0 LI
    go_wp2
    go_ret
    exact ⟨rfl, M2.out⟩
  | true =>
  have L1 := Lib.hid (LI.out w2 M2.out).2.1
  go_wp2_with fail
  refine L1.out.mono ?_
  rintro e w3 ⟨rfl, q3⟩
  have M3 := Lib.hid (M2.out.then0 (q3.mods noB))
  clear q3 L1 M2
  obtain ⟨B1, hB1⟩ : ∃ B, klightB xs1 = B := ⟨_, rfl⟩
  rw [hB1]
  cases B1 with
  | false =>
    clear hB0 hB1 LI
    go_wp2
    go_ret
    exact ⟨rfl, M3.out⟩
  | true =>
  have L2 := Lib.hid (LI.out w3 M3.out).2.2
  clear LI
  go_wp2_with fail
  refine L2.out.mono ?_
  rintro e w4 ⟨rfl, q4⟩
  have M4 := Lib.hid (M3.out.then0 (q4.mods noB))
  clear q4 L2 M3
  obtain ⟨B2, hB2⟩ : ∃ B, klightB xs2 = B := ⟨_, rfl⟩
  rw [hB2]
  cases B2 with
  | false =>
    clear hB0 hB1 hB2
    go_wp2
    go_ret
    exact ⟨rfl, M4.out⟩
  | true =>
  obtain ⟨l0, e0⟩ := klight_len hB0
  obtain ⟨l1, e1⟩ := klight_len hB1
  obtain ⟨l2, e2⟩ := klight_len hB2
  have E1 := Lib.hid e1
  have E2 := Lib.hid e2
  have ln0 : n0 ≤ 400 := by have := N0.out; omega
  have ln1 : n1 ≤ 400 := by have := N1.out; omega
  have ln2 : n2 ≤ 400 := by have := N2.out; omega
  clear hB0 hB1 hB2 e0 e1 e2 l0 l1 l2
  go_wp2_with fail
  refine (kl_new (w0 := w) (Q := fun k => k < w.heap.size) (fun _ h => Nat.lt_of_lt_of_le h M4.out.size) (fun _ h => h) M4.out).mono ?_
  rintro e w5 ⟨sg, rfl, k5, m5⟩
  have K5 := Lib.hid k5
  clear k5 m5 M4
  go_wp2_with fail
  refine (k2_new K5.out).mono ?_
  rintro e w6 ⟨sg2, rfl, k6, m6⟩
  have K6 := Lib.hid k6
  clear k6 m6 K5
  go_wp2
  go_loopw [11] (fun x wr => ∃ i : Nat, i ≤ n0 ∧ x = .int .i64 i ∧ Hid (∃ F n p n' p', K2 w wr sg F [] n p sg2 F [] n' p' (fun k => k < w.heap.size) ∧ n ≤ i ∧ p ≤ 2 * i ∧ n' ≤ i ∧ p' ≤ 2 * i)) (fun x _ => n0 - (intOf x).toNat)
  case atStart => exact ⟨0, Nat.zero_le _, rfl, Lib.hid ⟨_, _, _, _, _, K6.out, Nat.le_refl _, Nat.le_refl _, Nat.le_refl _, Nat.le_refl _⟩⟩
  case round =>
    clear K6
    obtain ⟨i, hi, rfl, hI⟩ := hrel
    by_cases hlt : i < n0
    · obtain ⟨F, n, p, n', p', kl, hn, hp, hn', hp'⟩ := hI.out
      have hil : i < xs0.length := by rw [N0.out]; exact hlt
      obtain ⟨g, off, rfl, hg, hc, hat⟩ := G0.out wr kl.one.mods i hil
      have ha0 : (xs0[i]).At w := by obtain ⟨_, _, _, _, _, h⟩ := G0.out w (Mods.refl _ _) i hil; exact h
      have w2c := hc 2 (by omega)
      have w3c := hc 3 (by omega)
      have HA := Lib.hid ha0
      have HG := Lib.hid hg
      have KC := Lib.hid (k2_sets kl ha0 (by omega) (by omega))
      have BB := Lib.hid (And.intro hn (And.intro hp (And.intro hn' hp')))
      generalize xs0[i] = s at *
      obtain ⟨what, sn, kv, vv, ks, vs⟩ := s
      simp only [KStp.cell] at w2c w3c KC
      have C2 := Lib.hid w2c
      have C3 := Lib.hid w3c
      clear hI hc hat ha0 kl hn hp hn' hp' w2c w3c
      go_upto_region 9 with fail
      refine wp_tl (d := .region 9 (opsC 9 Try.f7) true) (by kernel_rfl) ?_
      refine RW.wp (kd9 C2.out C3.out hg hlt (by omega) KC.out ?_)
      intros
      rename_i w7 hx
      have HM := Lib.hid (show Mods (fun k => ¬ k < w.heap.size) wr w7 from hx.2)
      have hgw : g < w.heap.size := by obtain ⟨_, _, ee, hgw, _⟩ := G0.out w (Mods.refl _ _) i hil; cases ee; exact hgw
      have C2' := Lib.hid ((HM.out.cellAt hg (fun x => x hgw) _).trans C2.out)
      have C3' := Lib.hid ((HM.out.cellAt hg (fun x => x hgw) _).trans C3.out)
      have hg7 : g < w7.heap.size := Nat.lt_of_lt_of_le hg HM.out.size
      have K7 := Lib.hid hx.1
      have KC' := Lib.hid (k2_sets K7.out.swap HA.out (by have := BB.out; omega) (by have := BB.out; omega))
      clear hx KC C2 C3 HM
      simp only at KC'
      go_upto_region 10 with fail
      refine wp_tl (d := .region 10 (opsC 10 Try.f7) true) (by kernel_rfl) ?_
      refine RW.wp (kd10 C2'.out C3'.out hg7 hlt (by omega) KC'.out ?_)
      intros
      rename_i w8 hx
      have K8 := Lib.hid hx.1.swap
      clear hx KC' C2' C3' K7
      go_wp2
      go_roundw
      case rel => exact ⟨i + 1, by omega, by go_num, Lib.hid ⟨_, _, _, _, _, K8.out, by have := BB.out; omega, by have := BB.out; omega, by have := BB.out; omega, by have := BB.out; omega⟩⟩
      case measure => simp [intOf]; omega
    · obtain ⟨F1, n, p, n', p', kl, hn, hp, hn', hp'⟩ := hI.out
      have kd := Lib.hid (k2_dump kl (by omega))
      have NPL := Lib.hid (show F1.length ≤ 100000 by have := kl.one.len.1; omega)
      clear hI kl
      go_wp2_with fail
      refine kd.out.mono ?_
      rintro e w7 ⟨va, L, rfl, pr, el, k7, m7⟩
      obtain ⟨Q, hQ⟩ : ∃ Q, Q = QL (fun k => k < w.heap.size) va L := ⟨_, rfl⟩
      rw [← hQ] at k7
      have HQ := Lib.hid (show (∀ k, va.ownBlock = some k → Q k) ∧ (∀ k, MDL L k → Q k) from ⟨fun k hk => by rw [hQ]; exact .inr (.inl hk), fun k hk => by rw [hQ]; exact .inr (.inr hk)⟩)
      have PR := Lib.hid pr
      have EL := Lib.hid el
      have K7 := Lib.hid k7
      obtain ⟨av, cv, rfl, _⟩ := pr.row.form
      clear pr el k7 m7 hQ kd
      go_wp2_with fail
      refine (K7.out.call cc_begin).mono ?_
      rintro e w8 ⟨rfl, k8, m8⟩
      rw [show bgE [] = 0 from rfl]
      have K8 := Lib.hid (show K2 w w8 sg F1 [F1] n p sg2 F1 [] n' p' Q from k8)
      have PR8 := Lib.hid (PR.out.keepQ m8 HQ.out.1 HQ.out.2)
      have NP := Lib.hid (And.intro hn (And.intro hp (And.intro hn' hp')))
      clear k8 m8 K7 PR hn hp hn' hp'
      go_wp2
      go_loopw [13] (fun x wr => ∃ j : Nat, j ≤ n1 ∧ x = .int .i64 j ∧ Hid (∃ F n p n' p', K2 w wr sg F [F1] n p sg2 F [] n' p' Q ∧ PRow wr (.slice av L.length cv) L ∧ n ≤ 400 + j ∧ p ≤ 800 + 2 * j ∧ n' ≤ 400 + j ∧ p' ≤ 800 + 2 * j)) (fun x _ => n1 - (intOf x).toNat)
      case atStart => exact ⟨0, Nat.zero_le _, rfl, Lib.hid ⟨_, _, _, _, _, K8.out, PR8.out, by have := NP.out; omega, by have := NP.out; omega, by have := NP.out; omega, by have := NP.out; omega⟩⟩
      case round =>
        clear K8 PR8 NP
        obtain ⟨j, hj, rfl, hI⟩ := hrel
        by_cases hlt2 : j < n1
        · obtain ⟨F, n, p, n', p', kl, pr, hn, hp, hn', hp'⟩ := hI.out
          have hjl : j < xs1.length := by rw [N1.out]; exact hlt2
          obtain ⟨g, off, ak, ck, av', cv', rfl, hg, w0c, w1c, w2c, w3c, ek, ev, ha0⟩ := step_at G1.out kl.one.mods hjl
          have HA := Lib.hid ha0
          have lk := (E1.out j hjl).1
          have NXT := Lib.hid (step_at G1.out (wr := wr))
          have CS := Lib.hid (cs_change (sg := sg) (F := F) (Ws := [F1]) (n := n) (p := p) (Q := Q) ha0 kl.one.q0 kl.one.mods (by omega) (by omega) (by omega))
          have KK := Lib.hid (And.intro kl pr)
          have BB := Lib.hid (And.intro hn (And.intro hp (And.intro hn' hp')))
          have REST := Lib.hid (fun W' (k : K2 w W' sg (chgF F xs1[j]) [F1] (n + 1) (p + 2) sg2 F [] n' p' Q) => cs_change (sg := sg2) (F := F) (Ws := []) (n := n') (p := p') (Q := Q) ha0 k.swap.one.q0 k.swap.one.mods (by omega) (by omega) (by omega))
          have hgw : g < w.heap.size := by obtain ⟨_, _, ee, hgw, _⟩ := G1.out w (Mods.refl _ _) j hjl; cases ee; exact hgw
          rw [ek, ev] at CS REST
          generalize xs1[j] = s at *
          obtain ⟨what, sn, kv, vv, ks, vs⟩ := s
          simp only at w0c w1c w2c w3c CS REST lk ek ev
          clear hI ha0 kl pr hn hp hn' hp' NXT ek ev
          have CC4 := Lib.hid (And.intro w0c (And.intro w1c (And.intro w2c w3c)))
          go_wp2_with fail
          refine (KK.out.1.call CS.out).mono ?_
          rintro e w9 ⟨rfl, k9, m9⟩
          have c0' := (m9.cellAt hg (fun x => x (KK.out.1.one.q0 _ hgw)) _).trans CC4.out.1
          have c1' := (m9.cellAt hg (fun x => x (KK.out.1.one.q0 _ hgw)) _).trans CC4.out.2.1
          have c2' := (m9.cellAt hg (fun x => x (KK.out.1.one.q0 _ hgw)) _).trans CC4.out.2.2.1
          have c3' := (m9.cellAt hg (fun x => x (KK.out.1.one.q0 _ hgw)) _).trans CC4.out.2.2.2
          have hg9 : g < w9.heap.size := Nat.lt_of_lt_of_le hg m9.size
          have K9 := Lib.hid k9
          have PR9 := Lib.hid (KK.out.2.keepQ m9 HQ.out.1 HQ.out.2)
          clear k9 m9 CS w0c w1c w2c w3c CC4
          go_wp2_with fail
          refine (K9.out.swap.call (REST.out _ K9.out)).mono ?_
          rintro e w10 ⟨rfl, k10, m10⟩
          have K10 := Lib.hid k10.swap
          have PR10 := Lib.hid (PR9.out.keepQ m10 HQ.out.1 HQ.out.2)
          clear k10 m10 REST c0' c1' c2' c3' PR9 K9 KK
          go_wp2
          go_roundw
          case rel => exact ⟨j + 1, by omega, by go_num, Lib.hid ⟨_, _, _, _, _, K10.out, PR10.out, by have := BB.out; omega, by have := BB.out; omega, by have := BB.out; omega, by have := BB.out; omega⟩⟩
          case measure => simp [intOf]; omega
        · obtain ⟨F2, n, p, n', p', kl, pr, hn, hp, hn', hp'⟩ := hI.out
          have K9 := Lib.hid kl
          have PR9 := Lib.hid pr
          have NP := Lib.hid (And.intro hn (And.intro hp (And.intro hn' hp')))
          clear hI kl pr hn hp hn' hp'
          go_wp2_with fail
          refine (K9.out.call cc_begin).mono ?_
          rintro e w10 ⟨rfl, k10, m10⟩
          rw [show bgE [F1] = 0 from rfl]
          have K10 := Lib.hid (show K2 w w10 sg F2 [F2, F1] n p sg2 F2 [] n' p' Q from k10)
          have PR10 := Lib.hid (PR9.out.keepQ m10 HQ.out.1 HQ.out.2)
          clear k10 m10 K9 PR9
          go_wp2
          go_loopw [14] (fun x wr => ∃ j : Nat, j ≤ n2 ∧ x = .int .i64 j ∧ Hid (DpI keep w wr sg sg2 F1 F2 Q (.slice av L.length cv) L (800 + j))) (fun x _ => n2 - (intOf x).toNat)
          case atStart => exact ⟨0, Nat.zero_le _, rfl, Lib.hid ⟨_, _, _, _, _, _, K10.out, PR10.out, by have := NP.out; omega, by have := NP.out; omega, by have := NP.out; omega, by have := NP.out; omega, ⟨fun _ => rfl, fun _ => rfl⟩⟩⟩
          case round =>
            clear K10 PR10 NP
            obtain ⟨j, hj, rfl, hI⟩ := hrel
            by_cases hlt3 : j < n2
            · obtain ⟨F, n, p, G, n', p', kl, pr, hn, hp, hn', hp', hk⟩ := hI.out
              have hjl : j < xs2.length := by rw [N2.out]; exact hlt3
              obtain ⟨g, off, ak, ck, av', cv', rfl, hg, w0c, w1c, w2c, w3c, ek, ev, ha0⟩ := step_at G2.out kl.one.mods hjl
              have lk := (E2.out j hjl).1
              have CS := Lib.hid (cs_change (sg := sg) (F := F) (Ws := [F2, F1]) (n := n) (p := p) (Q := Q) ha0 kl.one.q0 kl.one.mods (by omega) (by omega) (by omega))
              have KK := Lib.hid (And.intro kl pr)
              have HK := Lib.hid hk
              have BB := Lib.hid (And.intro hn (And.intro hp (And.intro hn' hp')))
              have REST := Lib.hid (fun W' (k : K2 w W' sg (chgF F xs2[j]) [F2, F1] (n + 1) (p + 2) sg2 G [] n' p' Q) => cs_change (sg := sg2) (F := G) (Ws := []) (n := n') (p := p') (Q := Q) ha0 k.swap.one.q0 k.swap.one.mods (by omega) (by omega) (by omega))
              have hgw : g < w.heap.size := by obtain ⟨_, _, ee, hgw, _⟩ := G2.out w (Mods.refl _ _) j hjl; cases ee; exact hgw
              rw [ek, ev] at CS REST
              generalize xs2[j] = s at *
              obtain ⟨what, sn, kv, vv, ks, vs⟩ := s
              simp only at w0c w1c w2c w3c CS REST lk ek ev
              clear hI ha0 kl pr hn hp hn' hp' ek ev hk
              have CC4 := Lib.hid (And.intro w0c (And.intro w1c (And.intro w2c w3c)))
              go_wp2_with fail
              refine (KK.out.1.call CS.out).mono ?_
              rintro e w9 ⟨rfl, k9, m9⟩
              have c0' := (m9.cellAt hg (fun x => x (KK.out.1.one.q0 _ hgw)) _).trans CC4.out.1
              have c1' := (m9.cellAt hg (fun x => x (KK.out.1.one.q0 _ hgw)) _).trans CC4.out.2.1
              have c2' := (m9.cellAt hg (fun x => x (KK.out.1.one.q0 _ hgw)) _).trans CC4.out.2.2.1
              have c3' := (m9.cellAt hg (fun x => x (KK.out.1.one.q0 _ hgw)) _).trans CC4.out.2.2.2
              have hg9 : g < w9.heap.size := Nat.lt_of_lt_of_le hg m9.size
              have K9 := Lib.hid k9
              have PR9 := Lib.hid (KK.out.2.keepQ m9 HQ.out.1 HQ.out.2)
              clear k9 m9 CS w0c w1c w2c w3c CC4
              cases keep with
              | true =>
                go_wp2_with fail
                refine (K9.out.swap.call (REST.out _ K9.out)).mono ?_
                rintro e w10 ⟨rfl, k10, m10⟩
                have K10 := Lib.hid (show K2 w w10 sg _ [F2, F1] (n + 1) (p + 2) sg2 _ [] (n' + 1) (p' + 2) Q from k10.swap)
                have PR10 := Lib.hid (PR9.out.keepQ m10 HQ.out.1 HQ.out.2)
                clear k10 m10 REST c0' c1' c2' c3' PR9 K9 KK
                go_wp2
                go_roundw
                case rel => exact ⟨j + 1, by omega, by go_num, Lib.hid ⟨_, _, _, _, _, _, K10.out, PR10.out, by have := BB.out; omega, by have := BB.out; omega, by have := BB.out; omega, by have := BB.out; omega, by rw [HK.out.kept]; exact DK.t⟩⟩
                case measure => simp [intOf]; omega
              | false =>
                clear REST c0' c1' c2' c3' KK
                go_wp2
                go_roundw
                case rel => exact ⟨j + 1, by omega, by go_num, Lib.hid ⟨_, _, _, _, _, _, K9.out, PR9.out, by have := BB.out; omega, by have := BB.out; omega, by have := BB.out; omega, by have := BB.out; omega, by rw [HK.out.back]; exact DK.f⟩⟩
                case measure => simp [intOf]; omega
            · obtain ⟨F, n, p, G, n', p', kl, pr, hn, hp, hn', hp', hk⟩ := hI.out
              have KK := Lib.hid kl
              have PR9 := Lib.hid pr
              have BB := Lib.hid (show n ≤ 1000000000000 ∧ p ≤ 100000 ∧ n' ≤ 1000000000000 ∧ p' ≤ 100000 by omega)
              have HK := Lib.hid hk
              clear hI kl pr hn hp hn' hp' hk
              have hj9 : L.length ≤ 1000000 := by have := congrArg List.length EL.out; rw [List.length_map] at this; have := NPL.out; omega
              have TAIL : ∀ w11 F', K2 w w11 sg F' [F1] n p sg2 F' [] n' p' Q → PRow w11 (.slice av L.length cv) L → Hid (K2 w w11 sg F' [F1] n p sg2 F' [] n' p' Q ∧ PRow w11 (.slice av L.length cv) L) := fun _ _ a b => Lib.hid ⟨a, b⟩
              have TL := Lib.hid TAIL
              clear TAIL
              cases keep with
              | true =>
                obtain rfl := HK.out.kept
                go_wp2_with fail
                refine (KK.out.call (cc_commit BB.out.2.1)).mono ?_
                rintro e w11 ⟨rfl, k11, m11⟩
                have KT := TL.out w11 _ (show K2 w w11 sg _ [F1] n p sg2 _ [] n' p' Q from k11) (PR9.out.keepQ m11 HQ.out.1 HQ.out.2)
                clear k11 m11 KK PR9 HK TL
                have kd := Lib.hid (k2_dump KT.out.1 BB.out.2.1)
                go_wp2_with fail
                refine kd.out.mono ?_
                rintro e w12 ⟨vb, M, rfl, prm, em, k12, m12⟩
                have kd2 := Lib.hid (k2_dump k12.swap BB.out.2.2.2)
                have PRW := Lib.hid (KT.out.2.keep0 m12)
                have PRM := Lib.hid prm
                have EM := Lib.hid em
                obtain ⟨bv, bc, rfl, _⟩ := prm.row.form
                have M12 := Lib.hid k12.one.mods
                have hM : M.length ≤ 1000000 := by have := congrArg List.length em; rw [List.length_map] at this; have := k12.one.len.1; have := BB.out.2.1; omega
                clear KT kd prm em k12 m12
                go_wp2_with fail
                refine kd2.out.mono ?_
                rintro e w13 ⟨vc, N, rfl, prn, en, k13, m13⟩
                obtain ⟨dv, dc, rfl, _⟩ := prn.row.form
                have PT := Lib.hid (Pairs_true (PRM.out.keep0 m13) prn (by rw [EM.out, en]) hM)
                have K13 := Lib.hid k13.swap
                have PRW2 := Lib.hid (PRW.out.keep0 m13)
                clear PRW PRM prn en k13 m13 kd2
                go_wp2_with fail
                refine PT.out.mono ?_
                rintro e w14 ⟨rfl, m14⟩
                have K14 := Lib.hid (K13.out.one.keep0 m14)
                have PRW3 := Lib.hid (PRW2.out.keep0 m14)
                clear PT m14 K13 PRW2
                have DD := Lib.hid (kl_depth K14.out)
                go_wp2_with fail
                refine DD.out.mono ?_
                rintro e vv ⟨rfl, rfl⟩
                clear DD
                go_wp2_with fail
                refine (K14.out.call (cc_rollback BB.out.2.1)).mono ?_
                rintro e w15 ⟨rfl, k15, m15⟩
                have K15 := Lib.hid (show KL w w15 sg F1 [] n p _ from k15)
                have PRW4 := Lib.hid (PRW3.out.keepQ m15 (fun k hk => .inl (.inl (HQ.out.1 k hk))) (fun k hk => .inl (.inl (HQ.out.2 k hk))))
                clear k15 m15 K14 PRW3
                have kd3 := Lib.hid (kl_dump K15.out BB.out.2.1)
                go_wp2_with fail
                refine kd3.out.mono ?_
                rintro e w16 ⟨vd, P, rfl, prp, ep, k16, m16⟩
                obtain ⟨ev', ec', rfl, _⟩ := prp.row.form
                have PT2 := Lib.hid (Pairs_true prp (PRW4.out.keep0 m16) (by rw [ep, EL.out]) (by have := congrArg List.length ep; rw [List.length_map] at this; have := NPL.out; omega))
                have K16 := Lib.hid k16
                clear prp ep k16 m16 PRW4 K15 kd3
                go_wp2_with fail
                refine PT2.out.mono ?_
                rintro e w17 ⟨rfl, m17⟩
                have K17 := Lib.hid (K16.out.keep0 m17)
                clear PT2 m17 K16
                have DD := Lib.hid (kl_depth K17.out)
                go_wp2_with fail
                refine DD.out.mono ?_
                rintro e vv ⟨rfl, rfl⟩
                have MF := Lib.hid K17.out.mods
                clear DD K17
                go_wp2
                go_ret
                exact ⟨rfl, MF.out⟩
              | false =>
                obtain rfl := HK.out.back
                go_wp2_with fail
                refine (KK.out.call (cc_rollback BB.out.2.1)).mono ?_
                rintro e w11 ⟨rfl, k11, m11⟩
                have KT := TL.out w11 _ (show K2 w w11 sg _ [F1] n p sg2 _ [] n' p' Q from k11) (PR9.out.keepQ m11 HQ.out.1 HQ.out.2)
                clear k11 m11 KK PR9 HK TL
                have kd := Lib.hid (k2_dump KT.out.1 BB.out.2.1)
                go_wp2_with fail
                refine kd.out.mono ?_
                rintro e w12 ⟨vb, M, rfl, prm, em, k12, m12⟩
                have kd2 := Lib.hid (k2_dump k12.swap BB.out.2.2.2)
                have PRW := Lib.hid (KT.out.2.keep0 m12)
                have PRM := Lib.hid prm
                have EM := Lib.hid em
                obtain ⟨bv, bc, rfl, _⟩ := prm.row.form
                have M12 := Lib.hid k12.one.mods
                have hM : M.length ≤ 1000000 := by have := congrArg List.length em; rw [List.length_map] at this; have := k12.one.len.1; have := BB.out.2.1; omega
                clear KT kd prm em k12 m12
                go_wp2_with fail
                refine kd2.out.mono ?_
                rintro e w13 ⟨vc, N, rfl, prn, en, k13, m13⟩
                obtain ⟨dv, dc, rfl, _⟩ := prn.row.form
                have PT := Lib.hid (Pairs_true (PRM.out.keep0 m13) prn (by rw [EM.out, en]) hM)
                have K13 := Lib.hid k13.swap
                have PRW2 := Lib.hid (PRW.out.keep0 m13)
                clear PRW PRM prn en k13 m13 kd2
                go_wp2_with fail
                refine PT.out.mono ?_
                rintro e w14 ⟨rfl, m14⟩
                have K14 := Lib.hid (K13.out.one.keep0 m14)
                have PRW3 := Lib.hid (PRW2.out.keep0 m14)
                clear PT m14 K13 PRW2
                have DD := Lib.hid (kl_depth K14.out)
                go_wp2_with fail
                refine DD.out.mono ?_
                rintro e vv ⟨rfl, rfl⟩
                clear DD
                go_wp2_with fail
                refine (K14.out.call (cc_rollback BB.out.2.1)).mono ?_
                rintro e w15 ⟨rfl, k15, m15⟩
                have K15 := Lib.hid (show KL w w15 sg F1 [] n p _ from k15)
                have PRW4 := Lib.hid (PRW3.out.keepQ m15 (fun k hk => .inl (.inl (HQ.out.1 k hk))) (fun k hk => .inl (.inl (HQ.out.2 k hk))))
                clear k15 m15 K14 PRW3
                have kd3 := Lib.hid (kl_dump K15.out BB.out.2.1)
                go_wp2_with fail
                refine kd3.out.mono ?_
                rintro e w16 ⟨vd, P, rfl, prp, ep, k16, m16⟩
                obtain ⟨ev', ec', rfl, _⟩ := prp.row.form
                have PT2 := Lib.hid (Pairs_true prp (PRW4.out.keep0 m16) (by rw [ep, EL.out]) (by have := congrArg List.length ep; rw [List.length_map] at this; have := NPL.out; omega))
                have K16 := Lib.hid k16
                clear prp ep k16 m16 PRW4 K15 kd3
                go_wp2_with fail
                refine PT2.out.mono ?_
                rintro e w17 ⟨rfl, m17⟩
                have K17 := Lib.hid (K16.out.keep0 m17)
                clear PT2 m17 K16
                have DD := Lib.hid (kl_depth K17.out)
                go_wp2_with fail
                refine DD.out.mono ?_
                rintro e vv ⟨rfl, rfl⟩
                have MF := Lib.hid K17.out.mods
                clear DD K17
                go_wp2
                go_ret
                exact ⟨rfl, MF.out⟩
namespace kVDeep
theorem walk (v0 v1 v2 : Value) (x0 x1 x2 : List KStp) (x3 : Bool) (w : World) (k0 : RdKs w v0 x0) (k1 : RdKs w v1 x1) (k2 : RdKs w v2 x2) (k3 : True) : Calls Try.prog 7 #[v0, v1, v2, .bool x3] w fun e w' => e = .returned (.bool true) ∧ Below w.heap.size w w' :=
  (kvdeep_walk v0 v1 v2 x0 x1 x2 x3 w k0 k1 k2).mono fun e w' ⟨a, m⟩ => ⟨a, m.below⟩
end kVDeep
end Go.Proofs.Ytngemlpalkfjeaa

/- AnteTwice: P18.2: what is admitted isn't admitted again; it changes two accounts; what is refused changes nothing. -/
import Derived.Test.YtglkmaalpammcaaAnT0
import Derived.Test.YtglkmaalpammcaaAnLw
import Derived.Test.YtglkmaalpammcaaAnArg
import Derived.Test.YtglkmaalpammcaaBkFr
import Derived.Test.YtglkmaalpammcaaZB
import Derived.Deep.CutBlock
import Derived.Deep.DeepCutAuto
namespace Go.Proofs.Ytglkmaalpammcaa
open Go.Gl Go.RowKit
set_option linter.unusedVariables false
set_option maxRecDepth 100000
theorem tx_row {w : World} {g off i : Nat} {t : TxS} (h : ∀ j, j < 7 → w.cell? ⟨g, off + i * 7 + j, none⟩ = some (t.cell j)) : ∀ j u, t.cells[j]? = some u → w.cell? ⟨g, off + i * 7 + j, none⟩ = some u := fun j u hj => by
  have hl : j < t.cells.length := (List.getElem?_eq_some_iff.1 hj).1
  have hl7 : j < 7 := hl
  rw [h j hl7]
  unfold TxS.cell
  rw [List.getD_eq_getElem?_getD, hj]
  rfl
set_option maxHeartbeats 16000000 in
theorem atwice_walk (fee : Nat) (v1 v2 : Value) (ps : List (Nat × Nat)) (ts : List TxS) (w : World) (hfee : U64 fee) (h1 : RdPu w v1 ps) (h2 : RdTx w v2 ts) : Calls Try.prog 3 #[.int .u64 (fee : Nat), v1, v2] w fun e w' => e = .returned (.bool true) ∧ Mods noB w w' := by
  have KN := Lib.hid (known18_any w)
  obtain ⟨a1, n1, c1, rfl, hn1, hc1, hb1, g1⟩ := h1.form
  obtain ⟨a2, n2, c2, rfl, hn2, hc2, hb2, g2⟩ := h2.form
  have P0 := Lib.hid g1
  have T0 := Lib.hid g2
  have PN := Lib.hid hn1
  have TN := Lib.hid hn2
  have FE := Lib.hid hfee
  clear h1 h2 g1 g2 hn1 hn2 hfee
  go_enter Try.func3, Try.ntmps3
  go_wp2_with fail
  refine KN.out.mono ?_
  rintro e w1 ⟨rfl, m1⟩
  have M1 := Lib.hid m1
  clear KN m1
  by_cases h50 : 50 < n1
  · have i1 : (50 : Int) < (n1 : Int) := by omega
    go_wp2
    go_ret
    exact ⟨rfl, M1.out⟩
  have i1 : ¬ (50 : Int) < (n1 : Int) := by omega
  by_cases h100 : 100 < n2
  · have i2 : (100 : Int) < (n2 : Int) := by omega
    go_wp2
    go_ret
    exact ⟨rfl, M1.out⟩
  have i2 : ¬ (100 : Int) < (n2 : Int) := by omega
  go_wp2_with fail
  refine (ge_new w1).mono ?_
  rintro e w2 ⟨sg, rfl, g2⟩
  have K2 := (g2.base M1.out).less (Q' := fun k => k < w.heap.size) (fun k hk => Nat.lt_of_lt_of_le hk M1.out.size) (fun k hk => hk)
  have C2 := Lib.hid (l_set fee FE.out (by omega) (by omega) K2)
  clear g2 M1 K2
  go_wp2_with fail
  refine C2.out.mono ?_
  rintro e w3 ⟨rfl, g3⟩
  have K3 := Lib.hid g3
  have FF := Lib.hid (fee_set FE.out)
  generalize setFF [] pkey (prmLay 0 0 0 0 0 0 0 0 fee 0) = F0 at *
  clear g3 C2
  go_wp2
  go_loopw [8] (fun x wr => ∃ i : Nat, i ≤ n1 ∧ x = .int .i64 i ∧ Hid (∃ F kn kp, feeF F = fee ∧ G1 w wr (KVe sg F kn kp) (fun k => k < w.heap.size) ∧ kn ≤ 1 + 2 * i ∧ kp ≤ 2 + 2 * i)) (fun x _ => n1 - (intOf x).toNat)
  case atStart => exact ⟨0, Nat.zero_le _, rfl, Lib.hid ⟨_, _, _, FF.out, K3.out, by omega, by omega⟩⟩
  case round =>
    clear K3 FF
    obtain ⟨i, hi, rfl, hI⟩ := hrel
    by_cases hlt : i < n1
    · obtain ⟨F, kn, kp, hfe, kv, hkn, hkp⟩ := hI.out
      have hil : i < ps.length := by rw [PN.out]; exact hlt
      obtain ⟨g, off, rfl, hg, hgw, hc, so⟩ := row_at (m := 2) (cell := purC) (ok := fun p => U64 p.1 ∧ U64 p.2) P0.out kv.mods PN.out hil
      have BB := Lib.hid (And.intro hkn (And.intro hkp hfe))
      generalize ps[i] = p at *
      obtain ⟨id, co⟩ := p
      have w0c : wr.cell? ⟨g, off + i * 2, none⟩ = some (.int .u64 ((id : Nat) : Int)) := hc 0 (by omega)
      have w1c : wr.cell? ⟨g, off + i * 2 + 1, none⟩ = some (.int .u64 ((co : Nat) : Int)) := hc 1 (by omega)
      have HC := Lib.hid (fun b' (mb : Mods noB wr b') => ((kv.keep0 kve_f mb).calls (bMint (id := id) (k := co) so.1 so.2 (by omega) (by omega))).mono (fun e w' ⟨h1, h2, _⟩ => show ∃ v, e = Ending.returned v ∧ G1 w w' (KVe sg (mintF F id co) (kn + 2) (kp + 2)) (fun k => k < w.heap.size) from ⟨_, h1, h2⟩))
      clear hI kv hkn hkp so hc hfe hgw
      go_upto_region 10 with fail
      refine wp_tl (d := .region 10 (opsC 10 Try.f3) true) (by kernel_rfl) ?_
      refine RW.wp (at10 w0c w1c hg hlt (by omega) HC.out ?_)
      intros
      rename_i w7 hx
      have K7 := Lib.hid hx
      clear hx HC w0c w1c
      go_wp2
      go_roundw
      case rel => exact ⟨i + 1, by omega, by go_num, Lib.hid ⟨_, _, _, by rw [fee_mint]; exact BB.out.2.2, K7.out, by have := BB.out.1; omega, by have := BB.out.2.1; omega⟩⟩
      case measure => simp [intOf]; omega
    · have K4 := Lib.hid (show ∃ F kn kp, feeF F = fee ∧ G1 w wr (KVe sg F kn kp) (fun k => k < w.heap.size) ∧ kn ≤ 101 ∧ kp ≤ 102 from by
        obtain ⟨F, kn, kp, hfe, kv, hkn, hkp⟩ := hI.out
        exact ⟨F, kn, kp, hfe, kv, by omega, by omega⟩)
      clear hI
      go_wp2
      go_loopw [9] (fun x wr => ∃ i : Nat, i ≤ n2 ∧ x = .int .i64 i ∧ Hid (∃ F kn kp, feeF F = fee ∧ G1 w wr (KVe sg F kn kp) (fun k => k < w.heap.size) ∧ kn ≤ 101 + 40 * i ∧ kp ≤ 102 + 20 * i)) (fun x _ => n2 - (intOf x).toNat)
      case atStart => exact ⟨0, Nat.zero_le _, rfl, Lib.hid (by
        obtain ⟨F, kn, kp, hfe, kv, hkn, hkp⟩ := K4.out
        exact ⟨F, kn, kp, hfe, kv, by omega, by omega⟩)⟩
      case round =>
        clear K4
        obtain ⟨j, hj, rfl, hI⟩ := hrel
        by_cases hlt2 : j < n2
        · obtain ⟨F, kn, kp, hfe, kv, hkn, hkp⟩ := hI.out
          have hil : j < ts.length := by rw [TN.out]; exact hlt2
          obtain ⟨g, off, rfl, hg, hgw, hc, so⟩ := row_at (m := 7) (cell := TxS.cell) (ok := fun t => U64 t.s ∧ U64 t.q ∧ U64 t.f) T0.out kv.mods TN.out hil
          have hn0 : kn ≤ 10000 := by omega
          have hp0 : kp ≤ 3000 := by omega
          have KB := Lib.hid (And.intro hkn (And.intro hkp hfe))
          have KK := Lib.hid kv
          generalize ts[j] = t at *
          have TR := Lib.hid (tx_row hc)
          obtain ⟨s, q, f, kd, a, b, m⟩ := t
          have SO := Lib.hid (show U64 s ∧ U64 q ∧ U64 f from so)
          have TR2 := Lib.hid (fun W (mq : Mods (fun k => ¬ (k < w.heap.size)) wr W) => show ∀ j' u, (TxS.cells ⟨s, q, f, kd, a, b, m⟩)[j']? = some u → W.cell? ⟨g, off + j * 7 + j', none⟩ = some u from fun j' u hu => (mq.cellAt hg (fun x => x hgw) _).trans (TR.out j' u hu))
          have HL := Lib.hid (kve_len KK.out)
          clear hI kv hkn hkp hfe hc so TR
          go_upto_region 14 with fail
          refine wp_tl (d := .region 14 (opsC 14 Try.f3) true) (by kernel_rfl) ?_
          refine RW.wp (at14 (A := s) (S := fun W => Mods (fun k => ¬ (k < w.heap.size)) wr W) (R := SmR w wr sg kn kp F (fun k => k < w.heap.size) s 1) (fun b' m => TR2.out b' m 0 _ rfl) hlt2 (by omega) (fun _ _ _ _ _ _ _ _ _ _ _ h => smr_s h) (fun _ _ _ _ _ => smr_0 KK.out (Mods.refl noB wr).drew)
            (fun _ _ _ _ _ _ _ _ h => smr_1 (by omega) h) (fun _ _ _ _ _ _ _ _ h => smr_2 SO.out.1 (by omega) (by omega) h) (fun _ _ _ _ _ _ _ _ h => smr_3 (B := 1) (by unfold U64; omega) (by omega) (by omega) h)
            (fun _ _ _ _ _ _ _ _ _ _ _ _ h a b c d => smr_8 h a b c d) (fun _ _ _ _ _ _ _ _ _ _ _ _ h a b c d => smr_9 h a b c d) (fun _ _ _ _ _ _ h => smr_e h) ?_)
          intros
          rename_i v k8 k9 x0 x1 y0 y1 wm wb hR o8 o9 mm hne
          obtain ⟨ea, eb, NV, g3, mq, s8, s9, hd⟩ := smr_d hR KK.out.q0 mm
          obtain ⟨M, pr, em, hm⟩ := hd rfl
          obtain ⟨Q3, hQ3⟩ : ∃ Q3 : Nat → Prop, Q3 = fun k => k < w.heap.size ∨ NV k ∨ k = k8 ∨ k = k9 := ⟨_, rfl⟩
          rw [← hQ3] at g3
          obtain ⟨va, vc, rfl, _⟩ := pr.at
          obtain ⟨vn, hvn⟩ : ∃ q, M.length = q := ⟨_, rfl⟩
          rw [hvn] at pr hm
          rw [hvn]
          have QH := Lib.hid (show Q3 k8 ∧ Q3 k9 ∧ (∀ k, RB6 (.slice va vn vc) M k → Q3 k) ∧ (∀ k, k < w.heap.size → Q3 k) from by
            rw [hQ3]
            exact ⟨.inr (.inr (.inl rfl)), .inr (.inr (.inr rfl)), fun k hk => .inr (.inl (hm k hk)), fun k hk => .inl hk⟩)
          have PR := Lib.hid (And.intro pr (And.intro em (show M.length ≤ 1000000 by have := HL.out; have := len_ents em; omega)))
          have EA := Lib.hid (And.intro ea eb)
          have HB := Lib.hid (show wb.heap[k8]? = _ ∧ wb.heap[k9]? = _ from ⟨o8, o9⟩)
          have TQ := Lib.hid (fun W (mw : Mods (fun k => ¬ Q3 k) wb W) => TR2.out W (mq.trans mw (fun _ _ x => x) (fun i _ x y => x (QH.out.2.2.2 i y))))
          obtain ⟨E, hE⟩ : ∃ E, admE F s q f = E := ⟨_, rfl⟩
          have CA := Lib.hid ((g3.calls (aAdmit (s := s) (q := q) (f := f) (kd := kd) (a := a) (b := b) (m := m) SO.out.1 SO.out.2.1 SO.out.2.2 (by omega) (by omega))).mono (fun e w' ⟨x, y, z⟩ => show e = Ending.returned (.int .i64 ((E : Nat) : Int)) ∧ (G1 w w' (KVe sg (admF F s q f) (kn + 2 + 12) (kp + 10)) Q3 ∧ Mods (fun k => ¬ Q3 k) wb w') from ⟨by rw [x, hE], y, z⟩))
          have HE := Lib.hid hE
          have lE : E ≤ 183 := by rw [← hE]; exact adm_le ..
          clear hR o8 o9 mm ea eb g3 mq s8 s9 hd pr em hm hQ3 hvn hE KK
          by_cases hE0 : E = 0
          · obtain rfl : E = 0 := hE0
            have zz := adm_zero HE.out
            have LW := Lib.hid (adm_law SO.out.1 SO.out.2.1 SO.out.2.2 HE.out)
            obtain ⟨z1, z2, z3, z4, _⟩ := zz
            rw [EA.out.1] at z3 z4
            simp only at z3 z4
            obtain rfl : x1 = q := z4
            have z2' : fee ≤ f := by rw [← KB.out.2.2]; exact z2
            go_upto_region 15 with fail
            refine wp_tl (d := .region 15 (opsC 15 Try.f3) false) (by kernel_rfl) ?_
            refine RW.wp (at15 (E := 0) (B := false) (TQ.out wb (Mods.refl _ _)) hlt2 (by omega) CA.out (by simp) ?_)
            intros
            rename_i wc hx
            have K5 := Lib.hid hx.1
            have M5 := Lib.hid hx.2
            obtain ⟨t, ht⟩ : ∃ t, x0 - f = t := ⟨_, rfl⟩
            obtain ⟨u, hu⟩ : ∃ u, (x1 + 1) % 18446744073709551616 = u := ⟨_, rfl⟩
            obtain ⟨v, hv⟩ : ∃ v, y0 + f = v := ⟨_, rfl⟩
            have lw := LW.out
            rw [EA.out.1, EA.out.2] at lw
            simp only at lw
            rw [ht, hu, hv] at lw
            have lx := acF_lt F s
            rw [EA.out.1] at lx
            have LU := Lib.hid (show U64 x0 ∧ U64 v from ⟨lx.1, by have := lw.2.2.1; unfold U64; omega⟩)
            have LX := Lib.hid lw
            clear hx CA lw lx LW
            go_upto_region 18 with fail
            refine wp_tl (d := .region 18 (opsC 18 Try.f3) true) (by kernel_rfl) ?_
            refine RW.wp (at18 (s := s) (q := x1) (f := f) (fee := fee) (x0 := x0) (y0 := y0) (y1 := y1) (t := t) (u := u) (v := v) (S := fun W => Mods (fun k => ¬ Q3 k) wc W)
              (X1 := fun W => G1 w W (KVe sg (admF F s x1 f) (kn + 2 + 12 + 1) (kp + 10)) Q3 ∧ Mods (fun k => ¬ Q3 k) wc W) (X2 := fun W => G1 w W (KVe sg (admF F s x1 f) (kn + 2 + 12 + 1 + 1) (kp + 10)) Q3 ∧ Mods (fun k => ¬ Q3 k) wc W)
              (fun b' m => TQ.out b' (M5.out.trans m (fun _ _ x => x) (fun _ _ x => x)) 0 _ rfl) (fun b' m => TQ.out b' (M5.out.trans m (fun _ _ x => x) (fun _ _ x => x)) 1 _ rfl) (fun b' m => TQ.out b' (M5.out.trans m (fun _ _ x => x) (fun _ _ x => x)) 2 _ rfl)
              (fun b' m => cells_of (m.heap (M5.out.heap HB.out.1 (fun x => x QH.out.1)) (fun x => x QH.out.1)) 0) (fun b' m => cells_of (m.heap (M5.out.heap HB.out.1 (fun x => x QH.out.1)) (fun x => x QH.out.1)) 1) (fun b' m => cells_of (m.heap (M5.out.heap HB.out.2 (fun x => x QH.out.2.1)) (fun x => x QH.out.2.1)) 0) (fun b' m => cells_of (m.heap (M5.out.heap HB.out.2 (fun x => x QH.out.2.1)) (fun x => x QH.out.2.1)) 1)
              hlt2 (by omega) (Mods.refl _ wc).drew (fun _ h => h.2) (fun _ h => h.2) (decide_eq_false (by omega)) (fun b => u64_sub _ (by omega) b LU.out.1) (fun b => u64_inc _ hu b) (fun b => u64_addn _ hv b LU.out.2) ?c1 ?c2 ?_)
            case c1 =>
              refine ((K5.out.keep0 kve_f (Mods.refl noB wc).drew).calls (bGet (id := s) SO.out.1 (by omega) (by omega))).mono ?_
              rintro e w' ⟨x, y, z⟩
              exact ⟨by rw [x, LX.out.1]; rfl, y, ((Mods.refl (fun k => ¬ Q3 k) wc).drew).trans z (fun _ _ x => x) (fun _ _ x => x)⟩
            case c2 =>
              intro b' h
              refine (h.1.calls (bGet (id := 1) (by unfold U64; omega) (by omega) (by omega))).mono ?_
              rintro e w' ⟨x, y, z⟩
              exact ⟨by rw [x, LX.out.2.1]; rfl, y, h.2.trans z (fun _ _ x => x) (fun _ _ x => x)⟩
            intros
            rename_i wd hx
            have M6 := Lib.hid (M5.out.trans hx.2 (fun _ _ x => x) (fun _ _ x => x))
            obtain ⟨F2, hF2⟩ : ∃ F2, admF F s x1 f = F2 := ⟨_, rfl⟩
            have lx4 := LX.out.2.2.2
            have K6 := hx.1
            rw [hF2] at K6 lx4
            obtain ⟨E2, hE2⟩ : ∃ E2, admE F2 s x1 f = E2 := ⟨_, rfl⟩
            rw [hE2] at lx4
            have CB := Lib.hid ((K6.calls (aAdmit (s := s) (q := x1) (f := f) (kd := kd) (a := a) (b := b) (m := m) SO.out.1 SO.out.2.1 SO.out.2.2 (by omega) (by omega))).mono (fun e w' ⟨x, y, z⟩ => show e = Ending.returned (.int .i64 ((E2 : Nat) : Int)) ∧ G1 w w' (KVe sg F2 (kn + 2 + 12 + 1 + 1 + 12) (kp + 10 + 10)) Q3 from ⟨by rw [x, hE2], by rw [adm_no (by rw [hE2]; exact lx4)] at y; exact y⟩))
            have FE2 := Lib.hid (show feeF F2 = fee from by rw [← hF2, fee_adm]; exact KB.out.2.2)
            clear hx K6 hE2 hF2 K5 LX
            go_upto_region 20 with fail
            refine wp_tl (d := .region 20 (opsC 20 Try.f3) false) (by kernel_rfl) ?_
            refine RW.wp (at20 (E := E2) (B := false) (TQ.out wd M6.out) hlt2 (by omega) CB.out (decide_eq_false (by omega)) ?_)
            intros
            rename_i we hx
            have FIN := Lib.hid (show ∃ F kn kp, feeF F = fee ∧ G1 w we (KVe sg F kn kp) (fun k => k < w.heap.size) ∧ kn ≤ 101 + 40 * (j + 1) ∧ kp ≤ 102 + 20 * (j + 1) from ⟨F2, _, _, FE2.out, hx.less QH.out.2.2.2 (fun k hk => hk), by have := KB.out; omega, by have := KB.out; omega⟩)
            clear hx CB lx4
            go_wp2
            go_roundw
            case rel => exact ⟨j + 1, by omega, by go_num, FIN⟩
            case measure => simp [intOf]; omega
          · go_upto_region 15 with fail
            refine wp_tl (d := .region 15 (opsC 15 Try.f3) false) (by kernel_rfl) ?_
            refine RW.wp (at15 (E := E) (B := true) (TQ.out wb (Mods.refl _ _)) hlt2 (by omega) CA.out (decide_eq_false (by omega)) ?_)
            intros
            rename_i wc hx
            have g5 := hx.1
            rw [adm_no (by rw [HE.out]; exact hE0)] at g5
            have M5 := Lib.hid hx.2
            have CD := Lib.hid (g5.call (ge_dump (by omega)))
            clear hx CA g5
            go_wp2_with fail
            refine CD.out.mono ?_
            rintro e wd ⟨v1, P', Nn, rfl, ⟨M', pr', em', rfl, rfl⟩, g6, _, m6⟩
            have CP := Lib.hid (Pairs_true pr' (prow_off (prow_off PR.out.1 M5.out QH.out.2.2.1) m6 QH.out.2.2.1) (em'.trans PR.out.2.1.symm) (by have := PR.out.2.2; rw [len_ents em', ← len_ents PR.out.2.1]; exact this))
            have K6 := Lib.hid g6
            obtain ⟨b1, d1, rfl, _⟩ := pr'.at
            clear pr' em' g6 m6 CD M5
            go_wp2_with fail
            refine CP.out.mono ?_
            rintro e we ⟨rfl, m7⟩
            have FIN := Lib.hid (show ∃ F kn kp, feeF F = fee ∧ G1 w we (KVe sg F kn kp) (fun k => k < w.heap.size) ∧ kn ≤ 101 + 40 * (j + 1) ∧ kp ≤ 102 + 20 * (j + 1) from ⟨F, _, _, KB.out.2.2, (K6.out.keep0 kve_f m7).less (fun k hk => .inl (QH.out.2.2.2 k hk)) (fun k hk => hk), by have := KB.out; omega, by have := KB.out; omega⟩)
            clear m7 CP K6
            go_wp2
            go_roundw
            case rel => exact ⟨j + 1, by omega, by go_num, FIN⟩
            case measure => simp [intOf]; omega
        · have M := Lib.hid (show Mods noB w wr from by
            obtain ⟨F, kn, kp, hfe, kv, hkn, hkp⟩ := hI.out
            exact kv.mods)
          clear hI
          go_wp2
          go_ret
          exact ⟨rfl, M.out⟩
end Go.Proofs.Ytglkmaalpammcaa

/- AntePlays: P18.1: every beginning, every transactions: answers, and all that lies in the store. -/
import Derived.Test.YtglkmaalpammcaaGreatAnP0
import Derived.Test.YtglkmaalpammcaaGreatAnR
import Derived.Test.YtglkmaalpammcaaGreatAnArg
import Derived.Test.YtglkmaalpammcaaGreatBkSt
import Derived.Deep.CutBlock
import Derived.Deep.DeepCutAuto
namespace Go.Proofs.YtglkmaalpammcaaGreat
open Go.Gl Go.RowKit
set_option linter.unusedVariables false
set_option maxRecDepth 100000
theorem tx_row {w : World} {g off i : Nat} {t : TxS} (h : ∀ j, j < 7 → w.cell? ⟨g, off + i * 7 + j, none⟩ = some (t.cell j)) : ∀ j u, t.cells[j]? = some u → w.cell? ⟨g, off + i * 7 + j, none⟩ = some u := fun j u hj => by
 have hl : j < t.cells.length := (List.getElem?_eq_some_iff.1 hj).1
 have hl7 : j < 7 := hl
 rw [h j hl7]
 unfold TxS.cell
 rw [List.getD_eq_getElem?_getD, hj]
 rfl
section
variable {w0 w : World} {sg rg n p : Nat} {F C : List Ent} {Q : Nat → Prop}
theorem lim_fee {fee : Nat} (h : U64 fee) : Lim [0, 0, 0, 0, 0, 0, 0, 0, fee, 0] := fun x hx => by
 simp only [List.mem_cons, List.not_mem_nil, or_false] at hx
 unfold U64 at h
 omega
theorem p_setS (fee : Nat) (h : U64 fee) (hn : n ≤ 1000) (hp : p ≤ 1000) (g : G1 w0 w (Star (KVe sg F n p) (RFe rg C n)) Q) : Calls Tryz.prog 13 #[.pointer (some ⟨sg, 0, none⟩), .agg #[.int .u64 0, .int .u64 0, .int .u64 0, .int .u64 0, .int .u64 0, .int .u64 0, .int .u64 0, .int .u64 0, .int .u64 (fee : Nat), .int .u64 0]] w fun r w' => r = .returned (.tuple #[]) ∧ G1 w0 w' (Star (KVe sg (setFF F pkey (prmLay 0 0 0 0 0 0 0 0 fee 0)) (n + 1) (p + 2)) (RFe rg C n)) Q := by
 have c := sSet (w := w) (sg := sg) (n := n) (p := p) (F := F) (Q := Q) (n0 := 0) (n1 := 0) (n2 := 0) (n3 := 0) (n4 := 0) (n5 := 0) (n6 := 0) (n7 := 0) (n8 := fee) (n9 := 0) (lim_fee h) (by omega) (by omega)
 exact (g.calls (GS.frame c rfe_f)).mono fun r w' ⟨a, b, _⟩ => ⟨a, b⟩
theorem p_setR (fee : Nat) (h : U64 fee) (hn : n ≤ 1000) (hF : C.length ≤ 100000) (g : G1 w0 w (Star (KVe sg F (n + 1) p) (RFe rg C n)) Q) : Calls Tryz.prog 14 #[.pointer (some ⟨rg, 0, none⟩), .agg #[.int .u64 0, .int .u64 0, .int .u64 0, .int .u64 0, .int .u64 0, .int .u64 0, .int .u64 0, .int .u64 0, .int .u64 (fee : Nat), .int .u64 0]] w fun r w' => r = .returned (.tuple #[]) ∧ G1 w0 w' (Star (KVe sg F (n + 1) p) (RFe rg (setFF C pkey (prmLay 0 0 0 0 0 0 0 0 fee 0)) (n + 1))) Q := by
 have c := rSetP (w := w) (g := rg) (n := n) (F := C) (Q := Q) (n0 := 0) (n1 := 0) (n2 := 0) (n3 := 0) (n4 := 0) (n5 := 0) (n6 := 0) (n7 := 0) (n8 := fee) (n9 := 0) (lim_fee h) (by omega) hF
 exact (g.calls (GS.right c kve_f)).mono fun r w' ⟨a, b, _⟩ => ⟨a, b⟩
end
structure ApE (w wx : World) (sg rg : Nat) : Prop where
 out : ∃ F, G1 w wx (Star (KVe sg F 2 4) (RFe rg F 2)) (fun k => k < w.heap.size)
set_option maxHeartbeats 16000000 in
theorem aplays_walk (fee : Nat) (pb : Bool) (v1 v2 : Value) (ps : List (Nat × Nat)) (ts : List TxS) (w : World) (hfee : U64 fee) (h1 : RdPu w v1 ps) (h2 : RdTx w v2 ts) : Calls Tryz.prog 3 #[.int .u64 (fee : Nat), .bool pb, v1, v2] w fun e w' => e = .returned (.bool true) ∧ Mods noB w w' := by
  have KN := Lib.hid (known18_any w)
  obtain ⟨a1, n1, c1, rfl, hn1, hc1, hb1, g1⟩ := h1.form
  obtain ⟨a2, n2, c2, rfl, hn2, hc2, hb2, g2⟩ := h2.form
  have P0 := Lib.hid g1
  have T0 := Lib.hid g2
  have PN := Lib.hid hn1
  have TN := Lib.hid hn2
  have FE := Lib.hid hfee
  clear h1 h2 g1 g2 hn1 hn2 hfee
  go_enter Tryz.func3, Tryz.ntmps3
  go_wp2_with fail
  refine KN.out.mono ?_
  rintro e w1 ⟨rfl, m1⟩
  have M1 := Lib.hid m1
  clear KN m1
  by_cases h50 : 50 < n1
  · have i1 : (50 : Int) < (n1 : Int) := by omega
    go_wp2
    go_ret
    exact ⟨rfl, M1.out⟩
  have i1 : ¬ (50 : Int) < (n1 : Int) := by omega
  by_cases h100 : 100 < n2
  · have i2 : (100 : Int) < (n2 : Int) := by omega
    go_wp2
    go_ret
    exact ⟨rfl, M1.out⟩
  have i2 : ¬ (100 : Int) < (n2 : Int) := by omega
  go_wp2_with fail
  refine (hNew _).mono ?_
  rintro e w5 ⟨sg, S, D, rfl, kv, m5, hs, hd⟩
  have m6 := (Mods.refl noB w5).alloc (.cells #[.slice none 0 0, .slice none 0 0, .int .i64 0] 32)
  have K5 := Lib.hid (be_new (M1.out.then0 m5) kv (fun k hk => Nat.le_trans M1.out.size (hs k hk)) hd m6 (heap_new w5 _) (Nat.le_refl _))
  clear kv m5 hs hd m6 M1
  go_upto_if 26 with fail
  generalize w5.heap.size = rg at K5 ⊢
  generalize World.alloc w5 _ = w6 at K5 ⊢
  go_cut [] (fun wx => Hid (ApE w wx sg rg))
  case first =>
    cases pb with
    | false =>
      have FN := Lib.hid (show ApE w w6 sg rg from ⟨_, be_more K5.out (by omega) (by omega) (by omega)⟩)
      go_wp2
      go_meet
      case rel => exact FN
    | true =>
      have C1 := Lib.hid (p_setS fee FE.out (by omega) (by omega) K5.out)
      go_wp2_with fail
      refine C1.out.mono ?_
      rintro e w7 ⟨rfl, g7⟩
      have C2 := Lib.hid (p_setR fee FE.out (by omega) (by simp) g7)
      clear g7 C1
      go_wp2_with fail
      refine C2.out.mono ?_
      rintro e w8 ⟨rfl, g8⟩
      have FN := Lib.hid (show ApE w w8 sg rg from ⟨_, be_more g8 (by omega) (by omega) (by omega)⟩)
      clear g8 C2
      go_wp2
      go_meet
      case rel => exact FN
  case rest =>
    have K7 := Lib.hid hcut.out
    clear hcut K5
    go_wp2
    go_loopw [11] (fun x wr => ∃ i : Nat, i ≤ n1 ∧ x = .int .i64 i ∧ Hid (∃ F n p, G1 w wr (Star (KVe sg F n p) (RFe rg F n)) (fun k => k < w.heap.size) ∧ n ≤ 2 + 2 * i ∧ p ≤ 4 + 2 * i)) (fun x _ => n1 - (intOf x).toNat)
    case atStart => exact ⟨0, Nat.zero_le _, rfl, Lib.hid (by
      obtain ⟨F, g⟩ := K7.out.out
      exact ⟨F, _, _, g, by omega, by omega⟩)⟩
    case round =>
      clear K7
      obtain ⟨i, hi, rfl, hI⟩ := hrel
      by_cases hlt : i < n1
      · obtain ⟨F, n, p, kv, hkn, hkp⟩ := hI.out
        have hil : i < ps.length := by rw [PN.out]; exact hlt
        obtain ⟨g, off, rfl, _, hgw, hc, so⟩ := row_at (m := 2) (cell := purC) (ok := fun p => U64 p.1 ∧ U64 p.2) P0.out (Mods.refl noB w) PN.out hil
        have BB := Lib.hid (And.intro hkn hkp)
        generalize ps[i] = pp at *
        obtain ⟨id, co⟩ := pp
        have RC := Lib.hid (fun W (m : Mods noB w W) => show W.cell? ⟨g, off + i * 2, none⟩ = some (.int .u64 ((id : Nat) : Int)) ∧ W.cell? ⟨g, off + i * 2 + 1, none⟩ = some (.int .u64 ((co : Nat) : Int)) ∧ g < W.heap.size from ⟨(m.cellAt hgw (fun x => x) _).trans (hc 0 (by omega)), (m.cellAt hgw (fun x => x) _).trans (hc 1 (by omega)), m.size_of hgw⟩)
        obtain ⟨w0c, w1c, hg⟩ := RC.out wr kv.mods
        have hv := Lib.hid (be_hv kv (by omega))
        have SO := Lib.hid so
        have HC := Lib.hid (fun b' (mb : Mods noB wr b') => ((kv.keep0 (kve_f.star rfe_f) mb).calls (GS.frame (bMint (id := id) (k := co) SO.out.1 SO.out.2 (by omega) (by omega)) rfe_f)).mono (fun e w' ⟨h1, h2, _⟩ => show ∃ v, e = Ending.returned v ∧ G1 w w' (Star (KVe sg (mintF F id co) (n + 2) (p + 2)) (RFe rg F n)) (fun k => k < w.heap.size) from ⟨_, h1, h2⟩))
        have hn0 : n ≤ 1000 := by omega
        clear hI kv hkn hkp so hc hgw
        go_upto_region 12 with fail
        refine wp_tl (d := .region 12 (opsC 12 Tryz.f3) true) (by kernel_rfl) ?_
        refine RW.wp (ap12 w0c w1c hg hlt (by omega) HC.out ?_)
        intros
        rename_i w7 hx
        obtain ⟨w0d, w1d, hg2⟩ := RC.out w7 hx.mods
        have HD := Lib.hid (fun b' (mb : Mods noB w7 b') => ((hx.keep0 (kve_f.star rfe_f) mb).calls (GS.right (rMint (id := id) (k := co) SO.out.1 SO.out.2 (by omega) hv.out.1) kve_f)).mono (fun e w' ⟨h1, h2, _⟩ => show ∃ v, e = Ending.returned v ∧ G1 w w' (Star (KVe sg (mintF F id co) (n + 2) (p + 2)) (RFe rg (mintF F id co) (n + 2))) (fun k => k < w.heap.size) from ⟨_, h1, h2⟩))
        clear hx HC w0c w1c hg
        go_upto_region 13 with fail
        refine wp_tl (d := .region 13 (opsC 13 Tryz.f3) true) (by kernel_rfl) ?_
        refine RW.wp (ap13 w0d w1d hg2 hlt (by omega) HD.out ?_)
        intros
        rename_i w8 hx
        have K8 := Lib.hid hx
        clear hx HD w0d w1d hg2
        go_wp2
        go_roundw
        case rel => exact ⟨i + 1, by omega, by go_num, Lib.hid ⟨_, _, _, K8.out, by have := BB.out.1; omega, by have := BB.out.2; omega⟩⟩
        case measure => simp [intOf]; omega
      · have K4 := Lib.hid (show ∃ F n p, G1 w wr (Star (KVe sg F n p) (RFe rg F n)) (fun k => k < w.heap.size) ∧ n ≤ 102 ∧ p ≤ 104 from by
          obtain ⟨F, n, p, kv, hkn, hkp⟩ := hI.out
          exact ⟨F, n, p, kv, by omega, by omega⟩)
        clear hI
        go_wp2
        go_loopw [12] (fun x wr => ∃ i : Nat, i ≤ n2 ∧ x = .int .i64 i ∧ Hid (∃ F n p, G1 w wr (Star (KVe sg F n p) (RFe rg F n)) (fun k => k < w.heap.size) ∧ n ≤ 102 + 12 * i ∧ p ≤ 104 + 10 * i)) (fun x _ => n2 - (intOf x).toNat)
        case atStart => exact ⟨0, Nat.zero_le _, rfl, Lib.hid (by
          obtain ⟨F, n, p, kv, hkn, hkp⟩ := K4.out
          exact ⟨F, n, p, kv, by omega, by omega⟩)⟩
        case round =>
          clear K4
          obtain ⟨j, hj, rfl, hI⟩ := hrel
          by_cases hlt2 : j < n2
          · obtain ⟨F, n, p, kv, hkn, hkp⟩ := hI.out
            have hil : j < ts.length := by rw [TN.out]; exact hlt2
            obtain ⟨g, off, rfl, hg, hgw, hc, so⟩ := row_at (m := 7) (cell := TxS.cell) (ok := fun t => U64 t.s ∧ U64 t.q ∧ U64 t.f) T0.out kv.mods TN.out hil
            have hn0 : n ≤ 10000 := by omega
            have hp0 : p ≤ 3000 := by omega
            have KB := Lib.hid (And.intro hkn hkp)
            have KK := Lib.hid kv
            generalize ts[j] = t at *
            have TR := Lib.hid (tx_row hc)
            obtain ⟨s, q, f, kd, a, b, m⟩ := t
            have SO := Lib.hid (show U64 s ∧ U64 q ∧ U64 f from so)
            have TR2 := Lib.hid (fun W (mq : Mods (fun k => ¬ (k < w.heap.size)) wr W) => show ∀ j' u, (TxS.cells ⟨s, q, f, kd, a, b, m⟩)[j']? = some u → W.cell? ⟨g, off + j * 7 + j', none⟩ = some u from fun j' u hu => (mq.cellAt hg (fun x => x hgw) _).trans (TR.out j' u hu))
            have HV := Lib.hid (be_hv KK.out (by omega))
            clear hI kv hkn hkp hc so TR
            obtain ⟨E, hE⟩ : ∃ E, admE F s q f = E := ⟨_, rfl⟩
            obtain ⟨F', hF⟩ : ∃ F', admF F s q f = F' := ⟨_, rfl⟩
            have HE := Lib.hid (And.intro hE hF)
            clear hE hF
            go_upto_region 17 with fail
            refine wp_tl (d := .region 17 (opsC 17 Tryz.f3) true) (by kernel_rfl) ?_
            refine RW.wp (ap17 (s := s) (q := q) (f := f) (kd := kd) (a := a) (b := b) (m := m) (E := E) (S := fun W => Mods (fun k => ¬ (k < w.heap.size)) wr W)
              (X1 := fun W => G1 w W (Star (KVe sg F' (n + 12) (p + 10)) (RFe rg F n)) (fun k => k < w.heap.size) ∧ Mods (fun k => ¬ (k < w.heap.size)) wr W)
              (R := fun lv x y u v W => Mods (fun k => ¬ (k < w.heap.size)) wr W ∧ G1 w W (Star (KVe sg F' (n + 12) (p + 10)) (RFe rg F' (n + 12))) (fun k => k < w.heap.size) ∧ W.cell? ⟨rg, 0, none⟩ = some lv ∧ rg < W.heap.size ∧ (∃ L, PRow W lv L ∧ L.map EV.ent = F') ∧ (x = true → ∃ M, PRow W u M ∧ M.map EV.ent = F') ∧ (y = true → v = lv))
              (Y4 := fun W => G1 w W (Star (KVe sg F' (n + 12) (p + 10)) (RFe rg F' (n + 12))) (fun k => k < w.heap.size))
              (fun b' m => TR2.out b' m) hlt2 (by omega) (Mods.refl _ wr).drew (fun _ h => h.2) (fun _ _ _ _ _ _ h => h.1) ?c1 ?c2 ?c3 ?cl (fun _ _ _ _ _ h => h.2.2.2.2.2.2 rfl) ?c4 ?_)
            case c1 =>
              refine ((KK.out.keep0 (kve_f.star rfe_f) (Mods.refl noB wr).drew).calls (GS.frame (aAdmit (s := s) (q := q) (f := f) (kd := kd) (a := a) (b := b) (m := m) SO.out.1 SO.out.2.1 SO.out.2.2 (by omega) (by omega)) rfe_f)).mono ?_
              rintro e w' ⟨x, y, z⟩
              rw [HE.out.1] at x
              rw [HE.out.2] at y
              exact ⟨x, y, ((Mods.refl (fun k => ¬ (k < w.heap.size)) wr).drew).trans z (fun _ _ x => x) (fun _ _ x => x)⟩
            case c2 =>
              intro b' h
              refine (h.1.calls (GS.right (rAdmit (s := s) (q := q) (f := f) (kd := kd) (a := a) (b := b) (m := m) SO.out.1 SO.out.2.1 SO.out.2.2 (by omega) HV.out.1 HV.out.2.1 (by have := HV.out.2.2; omega)) kve_f)).mono ?_
              rintro e w' ⟨x, y, z⟩
              rw [HE.out.1] at x
              rw [HE.out.2] at y
              obtain ⟨lv, L, d0, pr, em, hr⟩ := be_look y
              exact ⟨x, lv, fun u v => ⟨h.2.trans z (fun _ _ x => x) (fun _ _ x => x), y, d0, hr, ⟨L, pr, em⟩, (fun h => by cases h), (fun h => by cases h)⟩⟩
            case c3 =>
              rintro lv b u v b' ⟨h1, h2, h3, h4, ⟨L, h5, h6⟩, _, h8⟩
              refine (be_dump h2 (by omega)).mono ?_
              rintro e w' ⟨d, M, rfl, pr, em, mm⟩
              exact ⟨d, rfl, h1.then0 mm, h2.keep0 (kve_f.star rfe_f) mm, (mm.cellAt h4 (fun x => x) _).trans h3, mm.size_of h4, ⟨L, h5.keep0 mm, h6⟩, fun _ => ⟨M, pr, em⟩, h8⟩
            case cl =>
              rintro lv a u v b' ⟨h1, h2, h3, h4, h5, h7, _⟩
              exact ⟨h3, h1, h2, h3, h4, h5, h7, fun _ => rfl⟩
            case c4 =>
              rintro lv d b' ⟨h1, h2, h3, h4, ⟨L, h5, h6⟩, h7, _⟩
              obtain ⟨M, pr, em⟩ := h7 rfl
              refine (Pairs_true pr h5 (em.trans h6.symm) (by rw [len_ents em]; have := kve_len h2.left; omega)).mono ?_
              rintro e w' ⟨rfl, mm⟩
              exact ⟨rfl, h2.keep0 (kve_f.star rfe_f) mm⟩
            intros
            rename_i wd hx
            have FIN := Lib.hid (show ∃ F n p, G1 w wd (Star (KVe sg F n p) (RFe rg F n)) (fun k => k < w.heap.size) ∧ n ≤ 102 + 12 * (j + 1) ∧ p ≤ 104 + 10 * (j + 1) from ⟨F', _, _, hx, by have := KB.out; omega, by have := KB.out; omega⟩)
            clear hx
            go_wp2
            go_roundw
            case rel => exact ⟨j + 1, by omega, by go_num, FIN⟩
            case measure => simp [intOf]; omega
          · have M := Lib.hid (show Mods noB w wr from by
              obtain ⟨F, n, p, kv, hkn, hkp⟩ := hI.out
              exact kv.mods)
            clear hI
            go_wp2
            go_ret
            exact ⟨rfl, M.out⟩
end Go.Proofs.YtglkmaalpammcaaGreat

/- KVLast: P6.1: the last thing counts. -/
import Derived.Test.YtngemlpalkfjeaaKvDp
import Derived.Test.YtngemlpalkfjeaaKvL1
namespace Go.Proofs.Ytngemlpalkfjeaa
open Go.Gl Go.RowKit
set_option linter.unusedVariables false
set_option maxRecDepth 100000
/-! ### plain -/
def kVal (s : KStp) : Bool := decide (1 ≤ s.k.length) && (decide (s.k.length ≤ 64) && decide (s.v.length ≤ 4096))
def kAct (s : KStp) (key : List UInt8) : Bool := decide (s.k = key) && (!decide (s.what.tmod 2 = 0) || kVal s)
theorem kVal_err (s : KStp) : kVal s = decide (setErr s.k s.v = 0) := by
  unfold kVal setErr
  by_cases h1 : s.k.length < 1 ∨ 64 < s.k.length
  · rw [if_pos h1]
    by_cases h2 : 1 ≤ s.k.length
    · rw [decide_eq_true h2, decide_eq_false (show ¬ s.k.length ≤ 64 by omega)]; rfl
    · rw [decide_eq_false h2]; rfl
  · rw [if_neg h1, decide_eq_true (show 1 ≤ s.k.length by omega), decide_eq_true (show s.k.length ≤ 64 by omega)]
    by_cases h2 : 4096 < s.v.length
    · rw [if_pos h2, decide_eq_false (show ¬ s.v.length ≤ 4096 by omega)]; rfl
    · rw [if_neg h2, decide_eq_true (show s.v.length ≤ 4096 by omega)]; rfl
def lastI (xs : List KStp) (key : List UInt8) : Nat → Int
  | 0 => -1
  | n + 1 => match xs[n]? with
    | some s => bif kAct s key then (n : Int) else lastI xs key n
    | none => lastI xs key n
theorem lastI_succ {xs : List KStp} {key : List UInt8} {n : Nat} (h : n < xs.length) : lastI xs key (n + 1) = bif kAct xs[n] key then (n : Int) else lastI xs key n := by
  rw [lastI, List.getElem?_eq_getElem h]
def foldF (xs : List KStp) (n : Nat) : List Ent := (xs.take n).foldl chgF []
theorem foldF_succ {xs : List KStp} {n : Nat} (h : n < xs.length) : foldF xs (n + 1) = chgF (foldF xs n) xs[n] := by
  unfold foldF
  rw [List.take_add_one, List.getElem?_eq_getElem h, List.foldl_append]
  rfl
theorem get_chg (F : List Ent) (s : KStp) (key : List UInt8) : getL (chgF F s) key = if kAct s key then (if s.what.tmod 2 = 0 then some s.v else none) else getL F key := by
  unfold chgF kAct setF
  rw [kVal_err]
  by_cases hz : s.what.tmod 2 = 0
  · rw [if_pos hz]
    by_cases he : setErr s.k s.v = 0
    · rw [if_pos he, get_ins, decide_eq_true he, decide_eq_true hz]
      by_cases hk : s.k = key
      · rw [if_pos hk, decide_eq_true hk, if_pos (by rfl), if_pos hz]
      · rw [if_neg hk, decide_eq_false hk, if_neg (by simp)]
    · rw [if_neg he]
      simp [hz, he]
  · rw [if_neg hz, get_del]
    by_cases hk : s.k = key
    · simp [hz, hk]
    · simp [hz, hk]
theorem get_last (xs : List KStp) (key : List UInt8) : ∀ n, n ≤ xs.length → (lastI xs key n = -1 ∧ getL (foldF xs n) key = none) ∨ ∃ k, k < n ∧ ∃ hk : k < xs.length, lastI xs key n = (k : Int) ∧ getL (foldF xs n) key = if xs[k].what.tmod 2 = 0 then some xs[k].v else none
  | 0, _ => .inl ⟨rfl, rfl⟩
  | n + 1, h => by
    rw [lastI_succ (by omega), foldF_succ (by omega), get_chg]
    by_cases ha : kAct xs[n] key = true
    · rw [ha, if_pos rfl, cond_true]
      exact .inr ⟨n, by omega, by omega, rfl, rfl⟩
    · rw [Bool.not_eq_true] at ha
      rw [ha, if_neg (by simp), cond_false]
      rcases get_last xs key n (by omega) with h1 | ⟨k, h1, h2⟩
      · exact .inl h1
      · exact .inr ⟨k, by omega, h2⟩
set_option maxHeartbeats 16000000 in
theorem kvlast_walk (v0 : Value) (xs0 : List KStp) (w : World) (h0 : RdKs w v0 xs0) : Calls Try.prog 8 #[v0] w fun e w' => e = .returned (.bool true) ∧ Mods noB w w' := by
  have KN := Lib.hid (kknown_any w)
  have LI := Lib.hid (fun W (m : Mods noB w W) => klight_any (h0.keep m))
  obtain ⟨a0, n0, c0, rfl, hn0, hc0, hb0, g0⟩ := h0.form2
  have G0 := Lib.hid g0
  have N0 := Lib.hid hn0
  clear h0 g0 hn0
  go_enter Try.func8, Try.ntmps8
  go_wp2_with fail
  refine KN.out.mono ?_
  rintro e w1 ⟨rfl, m1⟩
  have M1 := Lib.hid m1
  have L0 := Lib.hid (LI.out w1 m1)
  clear KN m1 LI
  go_wp2_with fail
  refine L0.out.mono ?_
  rintro e w2 ⟨rfl, q2⟩
  have M2 := Lib.hid (M1.out.then0 (q2.mods noB))
  clear q2 L0 M1
  obtain ⟨B0, hB0⟩ : ∃ B, klightB xs0 = B := ⟨_, rfl⟩
  rw [hB0]
  cases B0 with
  | false =>
    clear hB0
    go_wp2
    go_ret
    exact ⟨rfl, M2.out⟩
  | true =>
  obtain ⟨l0, e0⟩ := klight_len hB0
  have E0 := Lib.hid e0
  have ln0 : n0 ≤ 400 := by have := N0.out; omega
  clear hB0 e0 l0
  go_wp2_with fail
  refine (kl_new (w0 := w) (Q := fun k => k < w.heap.size) (fun _ h => Nat.lt_of_lt_of_le h M2.out.size) (fun _ h => h) M2.out).mono ?_
  rintro e w5 ⟨sg, rfl, k5, m5⟩
  have K5 := Lib.hid k5
  clear k5 m5 M2
  go_wp2
  go_loopw [4] (fun x wr => ∃ i : Nat, i ≤ n0 ∧ x = .int .i64 i ∧ Hid (∃ Ws n p, KL w wr sg (foldF xs0 i) Ws n p (fun k => k < w.heap.size) ∧ n ≤ i ∧ p ≤ 2 * i)) (fun x _ => n0 - (intOf x).toNat)
  case atStart => exact ⟨0, Nat.zero_le _, rfl, Lib.hid ⟨_, _, _, K5.out, Nat.le_refl _, Nat.le_refl _⟩⟩
  case round =>
    clear K5
    obtain ⟨i, hi, rfl, hI⟩ := hrel
    by_cases hlt : i < n0
    · obtain ⟨Ws, n, p, kl, hn, hp⟩ := hI.out
      have hil : i < xs0.length := by rw [N0.out]; exact hlt
      obtain ⟨g, off, ak, ck, av', cv', rfl, hg, w0c, w1c, w2c, w3c, ek, ev, ha0⟩ := step_at G0.out kl.mods hil
      have hgw : g < w.heap.size := by obtain ⟨_, _, ee, hgw, _⟩ := G0.out w (Mods.refl _ _) i hil; cases ee; exact hgw
      have lk := (E0.out i hil).1
      have FS := Lib.hid (foldF_succ hil)
      have CC4 := Lib.hid (And.intro w0c (And.intro w1c (And.intro w2c w3c)))
      have REST := Lib.hid (fun W' Ws' (k : KL w W' sg (foldF xs0 i) Ws' n p (fun k => k < w.heap.size)) => cs_change (sg := sg) (F := foldF xs0 i) (Ws := Ws') (n := n) (p := p) (Q := fun k => k < w.heap.size) ha0 k.q0 k.mods (by omega) (by omega) (by omega))
      have KK := Lib.hid kl
      have KEEP := Lib.hid (fun W' (m : Mods (fun k => ¬ k < w.heap.size) wr W') =>
        And.intro ((m.cellAt hg (fun x => x hgw) _).trans CC4.out.1) (And.intro ((m.cellAt hg (fun x => x hgw) _).trans CC4.out.2.1) (And.intro ((m.cellAt hg (fun x => x hgw) _).trans CC4.out.2.2.1) ((m.cellAt hg (fun x => x hgw) _).trans CC4.out.2.2.2))))
      have KGT := Lib.hid (fun W' (m : Mods (fun k => ¬ k < w.heap.size) wr W') => show g < W'.heap.size from Nat.lt_of_lt_of_le hg m.size)
      rw [ek, ev] at REST
      generalize xs0[i] = s at *
      obtain ⟨what, sn, kv, vv, ks, vs⟩ := s
      simp only at w0c w1c w2c w3c REST KEEP CC4 FS lk ek ev
      have BB := Lib.hid (And.intro hn hp)
      have REST2 := Lib.hid (fun W' Ws' (k : KL w W' sg (foldF xs0 i) Ws' n p (fun k => k < w.heap.size)) => k.call (REST.out W' Ws' k))
      clear hI kl hn hp CC4 ha0 ek ev REST
      by_cases h8 : what = 8
      · subst h8
        clear w1c w2c w3c
        go_wp2_with fail
        refine (KK.out.call cc_begin).mono ?_
        rintro e w6 ⟨rfl, k6, m6⟩
        obtain ⟨c0', c1', c2', c3'⟩ := KEEP.out w6 m6
        have hg6 := KGT.out w6 m6
        have K6 := Lib.hid k6
        clear k6 m6 w0c KK KEEP KGT
        go_wp2_with fail
        refine (REST2.out _ _ K6.out).mono ?_
        rintro e w7 ⟨rfl, k7, m7⟩
        rw [← FS.out] at k7
        have K7 := Lib.hid k7
        clear k7 m7 REST2 K6 c0' c1' c2' c3'
        go_wp2
        go_roundw
        case rel => exact ⟨i + 1, by omega, by go_num, Lib.hid ⟨_, _, _, K7.out, by have := BB.out.1; omega, by have := BB.out.2; omega⟩⟩
        case measure => simp [intOf]; omega
      by_cases h9 : what = 9
      · subst h9
        clear w1c w2c w3c
        go_wp2_with fail
        refine (KK.out.call (cc_commit (by have := BB.out.2; omega))).mono ?_
        rintro e w6 ⟨rfl, k6, m6⟩
        obtain ⟨c0', c1', c2', c3'⟩ := KEEP.out w6 m6
        have hg6 := KGT.out w6 m6
        have K6 := Lib.hid k6
        clear k6 m6 w0c KK KEEP KGT
        go_wp2_with fail
        refine (REST2.out _ _ K6.out).mono ?_
        rintro e w7 ⟨rfl, k7, m7⟩
        rw [← FS.out] at k7
        have K7 := Lib.hid k7
        clear k7 m7 REST2 K6 c0' c1' c2' c3'
        go_wp2
        go_roundw
        case rel => exact ⟨i + 1, by omega, by go_num, Lib.hid ⟨_, _, _, K7.out, by have := BB.out.1; omega, by have := BB.out.2; omega⟩⟩
        case measure => simp [intOf]; omega
      clear KEEP KGT
      go_wp2_with fail
      refine (REST2.out _ _ KK.out).mono ?_
      rintro e w7 ⟨rfl, k7, m7⟩
      rw [← FS.out] at k7
      have K7 := Lib.hid k7
      clear k7 m7 REST2 KK w0c w1c w2c w3c
      go_wp2
      go_roundw
      case rel => exact ⟨i + 1, by omega, by go_num, Lib.hid ⟨_, _, _, K7.out, by have := BB.out.1; omega, by have := BB.out.2; omega⟩⟩
      case measure => simp [intOf]; omega
    · obtain ⟨Ws, n, p, kl, hn, hp⟩ := hI.out
      have K6 := Lib.hid kl
      have BB := Lib.hid (show n ≤ 400 ∧ p ≤ 800 by omega)
      obtain rfl : i = n0 := by omega
      clear hI kl hn hp
      go_wp2
      go_loopw [5] (fun x wr => ∃ j : Nat, j ≤ i ∧ x = .int .i64 j ∧ Hid (∃ nn, KL w wr sg (foldF xs0 i) Ws nn p (fun k => k < w.heap.size) ∧ nn ≤ 400 + 2 * j)) (fun x _ => i - (intOf x).toNat)
      case atStart => exact ⟨0, Nat.zero_le _, rfl, Lib.hid ⟨_, K6.out, by have := BB.out.1; omega⟩⟩
      case round =>
        clear K6
        obtain ⟨j, hj, rfl, hI⟩ := hrel
        by_cases hlt2 : j < i
        · obtain ⟨nn, kl, hnn⟩ := hI.out
          have hjl : j < xs0.length := by rw [N0.out]; exact hlt2
          have KK := Lib.hid kl
          have BJ := Lib.hid hnn
          clear hI kl hnn
          go_wp2
          go_loopw [6, 7] (fun y x wr2 => ∃ kk : Nat, kk ≤ i ∧ x = .int .i64 kk ∧ y = .int .i64 (lastI xs0 xs0[j].k kk) ∧ Hid (KL w wr2 sg (foldF xs0 i) Ws nn p (fun k => k < w.heap.size))) (fun _ x _ => i - (intOf x).toNat)
          case atStart => exact ⟨0, Nat.zero_le _, rfl, rfl, KK⟩
          case round =>
            clear KK
            obtain ⟨kk, hkk, rfl, rfl, hI⟩ := hrel
            by_cases hlt3 : kk < i
            · have hkl : kk < xs0.length := by rw [N0.out]; exact hlt3
              have LS := Lib.hid (lastI_succ (key := xs0[j].k) hkl)
              obtain ⟨g, off, ak, ck, av', cv', rfl, hg, u0c, u1c, u2c, u3c, ek, ev, ha0⟩ := step_at G0.out hI.out.mods hjl
              obtain ⟨g', off', bk, dk, bv, dv, e1, hg', w0c, w1c, w2c, w3c, ek2, ev2, ha1⟩ := step_at G0.out hI.out.mods hkl
              cases e1
              have PB := Lib.hid (fun W (m : Mods noB wr W) => (Bytes_any (w := W) ((ha1.keep (hI.out.mods.then0 m)).k) ((ha0.keep (hI.out.mods.then0 m)).k)).mono (fun e w' h => And.intro h.1 (h.2.mods noB)))
              rw [ek, ek2] at PB
              obtain ⟨z1, z2⟩ := And.intro ha1.a1 ha1.a2
              clear ha0 ha1 ek ev ek2 ev2 u0c u1c u3c w1c hg'
              have hkey : xs0[j].k = xs0[j].k := rfl
              generalize lastI xs0 xs0[j].k kk = LA at *
              generalize hB : lastI xs0 xs0[j].k (kk + 1) = LB at *
              clear hkey
              generalize xs0[j].k = key at *
              generalize xs0[kk] = s at *
              obtain ⟨what, sn, kv, vv, ks, vs⟩ := s
              simp only [kAct, kVal] at w0c w2c w3c PB LS z1 z2
              obtain ⟨b0, hb0'⟩ : ∃ b, decide (ks = key) = b := ⟨_, rfl⟩
              obtain ⟨b1, hb1⟩ : ∃ b, decide (what.tmod 2 = 0) = b := ⟨_, rfl⟩
              obtain ⟨b2, hb2⟩ : ∃ b, decide (1 ≤ ks.length) = b := ⟨_, rfl⟩
              obtain ⟨b3, hb3⟩ : ∃ b, decide (ks.length ≤ 64) = b := ⟨_, rfl⟩
              obtain ⟨b4, hb4⟩ : ∃ b, decide (vs.length ≤ 4096) = b := ⟨_, rfl⟩
              rw [hb0', hb1, hb2, hb3, hb4] at LS
              rw [hb0'] at PB
              clear hb0'
              generalize ks.length = lk at *
              generalize vs.length = lv at *
              generalize key.length = ly at *
              have DONE : ∀ (W : World) (q : Mods noB wr W), Hid (KL w W sg (foldF xs0 i) Ws nn p (fun k => k < w.heap.size)) := fun W q => Lib.hid (hI.out.keep0 q)
              have D := Lib.hid DONE
              have i1 : (kk : Int) < (i : Int) := by omega
              have i2 : (j : Int) < (i : Int) := by omega
              clear DONE hI
              cases b0 with
              | false =>
                rw [Bool.false_and, cond_false] at LS
                go_upto_region 21 with fail
                refine wp_tl (d := .region 21 (opsC 21 Try.f8) true) (by kernel_rfl) ?_
                refine RW.wp (kl21a w2c u2c w0c w3c hg hlt3 hlt2 (by omega) PB.out ?_)
                intros
                rename_i w9 q9
                have DD := D.out w9 q9
                clear q9 w0c w2c w3c u2c PB D
                go_wp2
                go_roundw
                case rel => exact ⟨kk + 1, by omega, by go_num, by rw [hB, LS.out], DD⟩
                case measure => simp [intOf]; omega
              | true =>
              rw [Bool.true_and] at LS
              cases b1 with
              | false =>
                rw [Bool.not_false, Bool.true_or, cond_true] at LS
                have hz3 := of_decide_eq_false hb1
                go_upto_region 21 with fail
                refine wp_tl (d := .region 21 (opsC 21 Try.f8) true) (by kernel_rfl) ?_
                refine RW.wp (kl21b w2c u2c w0c w3c hg hlt3 hlt2 (by omega) rfl hz3 PB.out ?_)
                intros
                rename_i w9 q9
                have DD := D.out w9 q9
                clear q9 w0c w2c w3c u2c PB D
                go_wp2
                go_roundw
                case rel => exact ⟨kk + 1, by omega, by go_num, by rw [hB, LS.out], DD⟩
                case measure => simp [intOf]; omega
              | true =>
              rw [Bool.not_true, Bool.false_or] at LS
              have hz := of_decide_eq_true hb1
              cases b2 with
              | false =>
                rw [Bool.false_and, cond_false] at LS
                have hq : lk < 1 := by have := of_decide_eq_false hb2; omega
                go_upto_region 21 with fail
                refine wp_tl (d := .region 21 (opsC 21 Try.f8) true) (by kernel_rfl) ?_
                refine RW.wp (kl21c w2c u2c w0c w3c hg hlt3 hlt2 (by omega) rfl hz hq PB.out ?_)
                intros
                rename_i w9 q9
                have DD := D.out w9 q9
                clear q9 w0c w2c w3c u2c PB D
                go_wp2
                go_roundw
                case rel => exact ⟨kk + 1, by omega, by go_num, by rw [hB, LS.out], DD⟩
                case measure => simp [intOf]; omega
              | true =>
              rw [Bool.true_and] at LS
              have hq2 : 1 ≤ lk := of_decide_eq_true hb2
              cases b3 with
              | false =>
                rw [Bool.false_and, cond_false] at LS
                have hq : 64 < lk := by have := of_decide_eq_false hb3; omega
                go_upto_region 21 with fail
                refine wp_tl (d := .region 21 (opsC 21 Try.f8) true) (by kernel_rfl) ?_
                refine RW.wp (kl21d w2c u2c w0c w3c hg hlt3 hlt2 (by omega) rfl hz hq2 hq PB.out ?_)
                intros
                rename_i w9 q9
                have DD := D.out w9 q9
                clear q9 w0c w2c w3c u2c PB D
                go_wp2
                go_roundw
                case rel => exact ⟨kk + 1, by omega, by go_num, by rw [hB, LS.out], DD⟩
                case measure => simp [intOf]; omega
              | true =>
              rw [Bool.true_and] at LS
              have hq3 : lk ≤ 64 := of_decide_eq_true hb3
              cases b4 with
              | false =>
                rw [cond_false] at LS
                have hq : 4096 < lv := by have := of_decide_eq_false hb4; omega
                go_upto_region 21 with fail
                refine wp_tl (d := .region 21 (opsC 21 Try.f8) true) (by kernel_rfl) ?_
                refine RW.wp (kl21e w2c u2c w0c w3c hg hlt3 hlt2 (by omega) rfl hz hq2 hq3 hq PB.out ?_)
                intros
                rename_i w9 q9
                have DD := D.out w9 q9
                clear q9 w0c w2c w3c u2c PB D
                go_wp2
                go_roundw
                case rel => exact ⟨kk + 1, by omega, by go_num, by rw [hB, LS.out], DD⟩
                case measure => simp [intOf]; omega
              | true =>
                rw [cond_true] at LS
                have hq4 : lv ≤ 4096 := of_decide_eq_true hb4
                go_upto_region 21 with fail
                refine wp_tl (d := .region 21 (opsC 21 Try.f8) true) (by kernel_rfl) ?_
                refine RW.wp (kl21f w2c u2c w0c w3c hg hlt3 hlt2 (by omega) rfl hz hq2 hq3 hq4 PB.out ?_)
                intros
                rename_i w9 q9
                have DD := D.out w9 q9
                clear q9 w0c w2c w3c u2c PB D
                go_wp2
                go_roundw
                case rel => exact ⟨kk + 1, by omega, by go_num, by rw [hB, LS.out], DD⟩
                case measure => simp [intOf]; omega
            · obtain rfl : kk = i := by omega
              obtain ⟨g, off, ak, ck, av', cv', rfl, hg, u0c, u1c, u2c, u3c, ek, ev, ha0⟩ := step_at G0.out hI.out.mods hjl
              have hgw : g < w.heap.size := by obtain ⟨_, _, ee, hgw, _⟩ := G0.out w (Mods.refl _ _) j hjl; cases ee; exact hgw
              have i2 : (j : Int) < (kk : Int) := by omega
              have KG := Lib.hid (kl_get hI.out (ha0.keep hI.out.mods).k (off_old ha0.k hI.out.q0) (by have := BJ.out; omega) (by have := BB.out.2; omega))
              have MK := Lib.hid (fun W Q' n' (k : KL w W sg (foldF xs0 kk) Ws n' p Q') (hn : n' ≤ 2000) => k.call (cc_has ((ha0.keep k.mods).k) (off_old ha0.k k.q0) (by omega) (by have := BB.out.2; omega)))
              have ST := Lib.hid (fun W (m : Mods noB w W) k (hk : k < xs0.length) => step_at G0.out m hk)
              have GL := Lib.hid (get_last xs0 xs0[j].k kk (by rw [N0.out]; exact Nat.le_refl _))
              have hlt4 := hlt2
              rw [ek] at KG MK
              clear u0c u1c u3c ek ev hI ha0
              generalize xs0[j].k = key at *
              generalize lastI xs0 key kk = LA at *
              generalize getL (foldF xs0 kk) key = GG at *
              have FIN : ∀ (W : World) (Q' : Nat → Prop), KL w W sg (foldF xs0 kk) Ws (nn + 1 + 1) p Q' → Hid (∃ nn, KL w W sg (foldF xs0 kk) Ws nn p (fun k => k < w.heap.size) ∧ nn ≤ 400 + 2 * (j + 1)) := fun W Q' k => Lib.hid ⟨_, k.less k.q0 (fun _ h => h), by have := BJ.out; omega⟩
              have FI := Lib.hid FIN
              clear FIN
              rcases GL.out with ⟨rfl, rfl⟩ | ⟨k, hk, hkl, rfl, hGG⟩
              · clear GL
                go_wp2_with fail
                refine KG.out.mono ?_
                rintro e w8 ⟨v', rfl, own, k8, m8, f8⟩
                have c2' := (m8.cellAt hg (fun x => x hgw) _).trans u2c
                have hg8 : g < w8.heap.size := Nat.lt_of_lt_of_le hg m8.size
                have MK8 := Lib.hid (MK.out _ _ _ k8 (by have := BJ.out; omega))
                clear KG MK u2c k8 own f8 m8
                go_wp2_with fail
                refine MK8.out.mono ?_
                rintro e w9 ⟨rfl, k9, m9⟩
                have F9 := FI.out _ _ k9
                clear k9 m9 MK8 FI
                go_wp2
                go_roundw
                case rel => exact ⟨j + 1, by omega, by go_num, F9⟩
                case measure => simp [intOf]; omega
              · obtain ⟨what, hwh⟩ : ∃ z, xs0[k].what = z := ⟨_, rfl⟩
                have hki : (k : Int) < (kk : Int) := by omega
                by_cases hz : what.tmod 2 = 0
                · rw [hwh, if_pos hz] at hGG
                  subst hGG
                  clear GL
                  go_wp2_with fail
                  refine KG.out.mono ?_
                  rintro e w8 ⟨v', rfl, own, k8, m8, f8⟩
                  have c2' := (m8.cellAt hg (fun x => x hgw) _).trans u2c
                  have hg8 : g < w8.heap.size := Nat.lt_of_lt_of_le hg m8.size
                  have MK8 := Lib.hid (MK.out _ _ _ k8 (by have := BJ.out; omega))
                  obtain ⟨g2, off2, ak2, ck2, av2, cv2, e2, hg2, x0c, x1c, x2c, x3c, ek2, ev2, ha2⟩ := ST.out w8 k8.mods k hkl
                  cases e2
                  have AA := Lib.hid (And.intro ha2 ev2)
                  have x3c' := Lib.hid x3c
                  have HOV := Lib.hid own.rd
                  have HOB := Lib.hid (show ∀ i, v'.ownBlock = some i → i < w8.heap.size ∧ (i < w.heap.size ∨ v'.ownBlock = some i) from fun i hi => ⟨own.lt i hi, .inr hi⟩)
                  obtain ⟨ax, cx, rfl, _⟩ := own.rd.form
                  rw [hwh] at x0c
                  clear KG MK u2c k8 own f8 m8 x1c x2c ek2 ev2 ha2 hg2
                  go_wp2_with fail
                  refine MK8.out.mono ?_
                  rintro e w9 ⟨rfl, k9, m9⟩
                  have x3d := (m9.cellAt hg8 (fun x => x (.inl hgw)) _).trans x3c'.out
                  have hg9 : g < w9.heap.size := Nat.lt_of_lt_of_le hg8 m9.size
                  have PB := Lib.hid (Bytes_any (HOV.out.keep m9 (fun i hi x => x (.inr hi))) ((AA.out.1.keep k9.mods).v))
                  have K9 := Lib.hid k9
                  have hlv := AA.out.2
                  rw [hlv, decide_eq_true (by rfl)] at PB
                  clear k9 m9 MK8 x0c c2' x3c x3c' hlv
                  go_wp2_with fail
                  refine PB.out.mono ?_
                  rintro e w10 ⟨rfl, q10⟩
                  have F9 := FI.out _ _ (K9.out.keep0 (q10.mods noB))
                  clear q10 PB K9 FI x3d
                  go_wp2
                  go_roundw
                  case rel => exact ⟨j + 1, by omega, by go_num, F9⟩
                  case measure => simp [intOf]; omega
                · rw [hwh, if_neg hz] at hGG
                  subst hGG
                  clear GL
                  go_wp2_with fail
                  refine KG.out.mono ?_
                  rintro e w8 ⟨v', rfl, own, k8, m8, f8⟩
                  have c2' := (m8.cellAt hg (fun x => x hgw) _).trans u2c
                  have hg8 : g < w8.heap.size := Nat.lt_of_lt_of_le hg m8.size
                  have MK8 := Lib.hid (MK.out _ _ _ k8 (by have := BJ.out; omega))
                  obtain ⟨g2, off2, ak2, ck2, av2, cv2, e2, hg2, x0c, x1c, x2c, x3c, ek2, ev2, ha2⟩ := ST.out w8 k8.mods k hkl
                  cases e2
                  rw [hwh] at x0c
                  clear KG MK u2c k8 own f8 m8 x1c x2c x3c ek2 ev2 ha2 hg2
                  go_wp2_with fail
                  refine MK8.out.mono ?_
                  rintro e w9 ⟨rfl, k9, m9⟩
                  have F9 := FI.out _ _ k9
                  clear k9 m9 MK8 FI x0c c2'
                  go_wp2
                  go_roundw
                  case rel => exact ⟨j + 1, by omega, by go_num, F9⟩
                  case measure => simp [intOf]; omega
        · obtain ⟨nn, kl, hnn⟩ := hI.out
          have MF := Lib.hid kl.mods
          clear hI kl hnn
          go_wp2
          go_ret
          exact ⟨rfl, MF.out⟩
namespace kVLast
theorem walk (v0 : Value) (x0 : List KStp) (w : World) (k0 : RdKs w v0 x0) : Calls Try.prog 8 #[v0] w fun e w' => e = .returned (.bool true) ∧ Below w.heap.size w w' :=
  (kvlast_walk v0 x0 w k0).mono fun e w' ⟨a, m⟩ => ⟨a, m.below⟩
end kVLast
end Go.Proofs.Ytngemlpalkfjeaa

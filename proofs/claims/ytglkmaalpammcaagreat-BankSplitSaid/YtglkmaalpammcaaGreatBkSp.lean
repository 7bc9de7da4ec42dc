/- BankSplit: P9.2: to move n and then m is to move both at once; and back again all is as it was. -/
import Derived.Test.YtglkmaalpammcaaGreatBkSp0
import Derived.Test.YtglkmaalpammcaaGreatBkLw
import Derived.Test.YtglkmaalpammcaaGreatBkArg
import Derived.Test.YtglkmaalpammcaaGreatZB
namespace Go.Proofs.YtglkmaalpammcaaGreat
open Go.Gl Go.RowKit
set_option linter.unusedVariables false
set_option maxRecDepth 100000
theorem prow_off {w w' : World} {v : Value} {M : List EV} {Q : Nat → Prop} (h : PRow w v M) (m : Mods (fun k => ¬ Q k) w w') (hq : ∀ k, RB6 v M k → Q k) : PRow w' v M := h.keep m (fun k hk x => x (hq k (.inl hk))) (fun k hk x => x (hq k (.inr hk)))
section
variable {w w0 : World} {sg cg n p n2 p2 a b k : Nat} {F C : List Ent} {Q : Nat → Prop}
theorem ge_copy (hp : p ≤ 100000) : GC Tryz.prog 31 #[.pointer (some ⟨sg, 0, none⟩)] w (KVe sg F n p) Q (fun w' v P' N => ∃ cg, v = .pointer (some ⟨cg, 0, none⟩) ∧ P' = Star (KVe sg F n p) (KVe cg F n p) ∧ N = fun _ => False) := fun S D ⟨m, q, hm, hq', kv⟩ hQ => by
  have l := kv.lt
  obtain ⟨mg, vo, R, jv, J, km, _, _, _, _, _, eS, eD⟩ := id kv
  refine (hCopy kv (by omega)).mono ?_
  rintro e w' ⟨cg, S2, D2, rfl, kc, mm, hs, hd⟩
  refine ⟨_, _, _, rfl, ⟨cg, rfl, rfl, rfl⟩, fun k => S k ∨ S2 k, fun k => D k ∨ D2 k, ⟨S, D, S2, D2, ⟨m, q, hm, hq', kv.keep0 mm⟩, ⟨0, q, by omega, hq', kc⟩, fun k x y => ?_, fun k x y => ?_, fun k x y => ?_, fun _ => Iff.rfl, fun _ => Iff.rfl⟩, mm.mono (fun _ _ x => x.elim), fun k hk => hk.imp id (hs k), fun k hk => .inl (hk.elim id (hd k)), fun k x => x.elim⟩
  · have := l.1 k x; have := hs k y; omega
  · have := l.2.1 k x; have := hs k y; omega
  · exact km.data k (by rw [← eD]; exact hd k x) (by rw [← eS]; exact y)
theorem sp_mv1 (ha : U64 a) (hb : U64 b) (hk : U64 k) (hn : n ≤ 100000000000) (hp : p ≤ 90000) (g : G1 w0 w (Star (KVe sg F n p) (KVe cg C n2 p2)) Q) : Calls Tryz.prog 22 #[.pointer (some ⟨sg, 0, none⟩), .int .u64 (a : Nat), .int .u64 (b : Nat), .int .u64 (k : Nat)] w fun r w' => r = .returned (.int .i64 (moveE F a b k : Nat)) ∧ G1 w0 w' (Star (KVe sg (moveF F a b k) (n + 4) (p + 4)) (KVe cg C n2 p2)) Q ∧ Mods (fun k => ¬ Q k) w w' :=
  g.calls (GS.frame (bMove ha hb hk hn hp) kve_f)
theorem sp_mv2 (ha : U64 a) (hb : U64 b) (hk : U64 k) (hn : n2 ≤ 100000000000) (hp : p2 ≤ 90000) (g : G1 w0 w (Star (KVe sg F n p) (KVe cg C n2 p2)) Q) : Calls Tryz.prog 22 #[.pointer (some ⟨cg, 0, none⟩), .int .u64 (a : Nat), .int .u64 (b : Nat), .int .u64 (k : Nat)] w fun r w' => r = .returned (.int .i64 (moveE C a b k : Nat)) ∧ G1 w0 w' (Star (KVe sg F n p) (KVe cg (moveF C a b k) (n2 + 4) (p2 + 4))) Q ∧ Mods (fun k => ¬ Q k) w w' :=
  g.calls (GS.right (bMove ha hb hk hn hp) kve_f)
theorem sp_du1 (hp : p ≤ 100000) (g : G1 w0 w (Star (KVe sg F n p) (KVe cg C n2 p2)) Q) : Calls Tryz.prog 20 #[.pointer (some ⟨sg, 0, none⟩)] w fun e w' => ∃ v M, e = .returned v ∧ PRow w' v M ∧ M.map EV.ent = F ∧ G1 w0 w' (Star (KVe sg F n p) (KVe cg C n2 p2)) (fun k => Q k ∨ RB6 v M k) ∧ Mods (fun k => ¬ Q k) w w' := by
  refine (g.call (GC.frame (ge_dump hp) (P2 := KVe cg C n2 p2) kve_f)).mono ?_
  rintro e w' ⟨v, P', N, rfl, ⟨P1, rfl, M, pr, em, rfl, rfl⟩, g', _, m⟩
  exact ⟨v, M, rfl, pr, em, g', m⟩
theorem sp_du2 (hp : p2 ≤ 100000) (g : G1 w0 w (Star (KVe sg F n p) (KVe cg C n2 p2)) Q) : Calls Tryz.prog 20 #[.pointer (some ⟨cg, 0, none⟩)] w fun e w' => ∃ v M, e = .returned v ∧ PRow w' v M ∧ M.map EV.ent = C ∧ G1 w0 w' (Star (KVe sg F n p) (KVe cg C n2 p2)) (fun k => Q k ∨ RB6 v M k) ∧ Mods (fun k => ¬ Q k) w w' := by
  refine (g.call (GC.right (ge_dump hp) (P2 := KVe sg F n p) kve_f)).mono ?_
  rintro e w' ⟨v, P', N, rfl, ⟨P1, rfl, M, pr, em, rfl, rfl⟩, g', _, m⟩
  exact ⟨v, M, rfl, pr, em, g', m⟩
theorem len_ents {M : List EV} (h : M.map EV.ent = F) : M.length = F.length := by rw [← h, List.length_map]
theorem kve_len (g : G1 w0 w (KVe sg F n p) Q) : F.length ≤ p := by
  obtain ⟨S, D, ⟨m, q, hm, hq, kv⟩, _⟩ := g
  have := (KV.len kv).1
  omega
theorem star_len (g : G1 w0 w (Star (KVe sg F n p) (KVe cg C n2 p2)) Q) : F.length ≤ p ∧ C.length ≤ p2 := ⟨kve_len g.left, kve_len g.swap.left⟩
end
theorem modsB' {Q Q' : Nat → Prop} {a b c : World} (h : Mods (fun k => ¬ Q k) a b) (k : Mods (fun k => ¬ Q' k) b c) (hs : ∀ k, Q k → Q' k) : Mods (fun k => ¬ Q k) a c := h.trans k (fun _ _ x => x) (fun i _ x y => x (hs i y))
theorem moveE_cases (F : List Ent) (a b n : Nat) : moveE F a b n ≤ 92 := by
  unfold moveE
  split
  · omega
  · split
    · omega
    · split
      · omega
      · split <;> omega
set_option maxHeartbeats 16000000 in
theorem bsplit_walk (v0 : Value) (xs : List BStp) (a b n m : Nat) (w : World) (h0 : RdBs w v0 xs) (ha : U64 a) (hb : U64 b) (hn : U64 n) (hm : U64 m) : Calls Tryz.prog 5 #[v0, .int .u64 (a : Nat), .int .u64 (b : Nat), .int .u64 (n : Nat), .int .u64 (m : Nat)] w fun e w' => e = .returned (.bool true) ∧ Mods noB w w' := by
  have KN := Lib.hid (known9_any w)
  obtain ⟨a0, N, c0, rfl, hN, hc0, hb0, g0⟩ := h0.form
  have G0 := Lib.hid g0
  have N0 := Lib.hid hN
  have HU := Lib.hid (And.intro ha hb)
  have HN := Lib.hid (And.intro hn hm)
  clear h0 g0 hN ha hb hn hm
  go_enter Tryz.func5, Tryz.ntmps5
  go_wp2_with fail
  refine KN.out.mono ?_
  rintro e w1 ⟨rfl, m1⟩
  have M1 := Lib.hid m1
  clear KN m1
  by_cases h300 : 300 < N
  · have i1 : (300 : Int) < (N : Int) := by omega
    go_wp2
    go_ret
    exact ⟨rfl, M1.out⟩
  have i1 : ¬ (300 : Int) < (N : Int) := by omega
  go_wp2_with fail
  refine (ge_new w1).mono ?_
  rintro e w2 ⟨sg, rfl, g2⟩
  have K2 := Lib.hid (show G1 w w2 (KVe sg [] 0 0) (fun k => k < w.heap.size) from (g2.base M1.out).less (fun k hk => Nat.lt_of_lt_of_le hk M1.out.size) (fun k hk => hk))
  clear g2 M1
  go_wp2
  go_loopw [12] (fun x wr => ∃ i : Nat, i ≤ N ∧ x = .int .i64 i ∧ Hid (∃ F kn kp, AccOk F ∧ G1 w wr (KVe sg F kn kp) (fun k => k < w.heap.size) ∧ kn ≤ 2 * i ∧ kp ≤ 2 * i)) (fun x _ => N - (intOf x).toNat)
  case atStart => exact ⟨0, Nat.zero_le _, rfl, Lib.hid ⟨_, _, _, AccOk.nil, K2.out, Nat.le_refl _, Nat.le_refl _⟩⟩
  case round =>
    clear K2
    obtain ⟨i, hi, rfl, hI⟩ := hrel
    by_cases hlt : i < N
    · obtain ⟨F, kn, kp, ok, kv, hkn, hkp⟩ := hI.out
      have hil : i < xs.length := by rw [N0.out]; exact hlt
      obtain ⟨g, off, rfl, hg, w0c, w1c, w2c, w3c, so⟩ := bstep_at G0.out kv.mods N0.out hil
      have OK := Lib.hid ok
      have KK := Lib.hid kv
      have BB := Lib.hid (And.intro hkn hkp)
      generalize xs[i] = s at *
      obtain ⟨what, sa, sb, sn⟩ := s
      simp only at w0c w1c w2c w3c so
      have SO := Lib.hid so
      by_cases hw : what = 0
      · subst hw
        have HC := Lib.hid (fun b' (mb : Mods noB wr b') => ((kv.keep0 kve_f mb).calls (bMint (id := sa) (k := sn) so.a so.n (by omega) (by omega))).mono (fun e w' ⟨h1, h2, _⟩ => show ∃ v, e = Ending.returned v ∧ G1 w w' (KVe sg (mintF F sa sn) (kn + 2) (kp + 2)) (fun k => k < w.heap.size) from ⟨_, h1, h2⟩))
        clear hI kv ok hkn hkp so w2c
        go_upto_region 10 with fail
        refine wp_tl (d := .region 10 (opsC 10 Tryz.f5) true) (by kernel_rfl) ?_
        refine RW.wp (sp10 w1c w3c hg hlt (by omega) HC.out ?_)
        intros
        rename_i w7 hx
        have K7 := Lib.hid hx
        clear hx HC KK w0c w1c w3c
        go_wp2
        go_roundw
        case rel => exact ⟨i + 1, by omega, by go_num, Lib.hid ⟨_, _, _, mint_ok OK.out SO.out.a, K7.out, by have := BB.out.1; omega, by have := BB.out.2; omega⟩⟩
        case measure => simp [intOf]; omega
      · clear kv ok hkn hkp so w1c w2c w3c KK OK SO BB
        go_wp2
        go_roundw
        case rel => exact ⟨i + 1, by omega, by go_num, Lib.hid (by
          obtain ⟨F, kn, kp, ok, kv, hkn, hkp⟩ := hI.out
          exact ⟨F, kn, kp, ok, kv, by omega, by omega⟩)⟩
        case measure => simp [intOf]; omega
    · obtain ⟨F, kn, kp, ok, kv, hkn, hkp⟩ := hI.out
      have OK := Lib.hid ok
      have hkn' : kn ≤ 600 := by omega
      have hkp' : kp ≤ 600 := by omega
      have KD := Lib.hid (kv.call (ge_dump (by omega)))
      have L0 := Lib.hid (kve_len kv)
      clear hI kv ok hkn hkp
      go_wp2_with fail
      refine KD.out.mono ?_
      rintro e w4 ⟨vw, P', Nn, rfl, ⟨MW, prw, emw, rfl, rfl⟩, g4, _, _⟩
      obtain ⟨aw, cw, rfl, _⟩ := prw.at
      obtain ⟨nw, hnw⟩ : ∃ q, MW.length = q := ⟨_, rfl⟩
      rw [hnw] at prw g4
      rw [hnw]
      obtain ⟨Q, hQ⟩ : ∃ Q : Nat → Prop, Q = fun k => k < w.heap.size ∨ RB6 (.slice aw nw cw) MW k := ⟨_, rfl⟩
      rw [← hQ] at g4
      have QH := Lib.hid hQ
      have PW := Lib.hid (And.intro prw emw)
      have KC := Lib.hid (g4.call (ge_copy (by omega)))
      clear KD prw emw g4 hQ hnw
      go_wp2_with fail
      refine KC.out.mono ?_
      rintro e w5 ⟨vc, P', Nn, rfl, ⟨cg, rfl, rfl, rfl⟩, g5, _, m5⟩
      replace g5 := g5.less (Q' := Q) (fun k hk => .inl hk) (fun k hk => by rw [QH.out]; exact .inl hk)
      have W5 := Lib.hid (m5)
      have K5 := Lib.hid g5
      obtain ⟨n1, hn1⟩ : ∃ q, n % 1000000000000000001 = q := ⟨_, rfl⟩
      obtain ⟨m1, hm1⟩ : ∃ q, m % 1000000000000000001 = q := ⟨_, rfl⟩
      have hn1' : n1 ≤ 1000000000000000000 := by omega
      have hm1' : m1 ≤ 1000000000000000000 := by omega
      have en : (n : Int) % 1000000000000000001 = (n1 : Int) := by omega
      have em : (m : Int) % 1000000000000000001 = (m1 : Int) := by omega
      have C6 := Lib.hid (sp_mv1 (a := a) (b := b) (k := n1) HU.out.1 HU.out.2 (show n1 ≤ 18446744073709551615 by omega) (by omega) (by omega) g5)
      obtain ⟨E1, hE1⟩ : ∃ q, moveE F a b n1 = q := ⟨_, rfl⟩
      obtain ⟨F1, hF1⟩ : ∃ q, moveF F a b n1 = q := ⟨_, rfl⟩
      rw [hE1, hF1] at C6
      have l1 : E1 ≤ 92 := by rw [← hE1]; exact moveE_cases ..
      have H1 := Lib.hid (And.intro hE1 hF1)
      clear KC g5 m5 hn1 hm1 hE1 hF1
      go_wp2_with fail
      rw [en]
      try rw [em]
      refine C6.out.mono ?_
      rintro e w6 ⟨rfl, g6, m6⟩
      have C7 := Lib.hid (sp_mv1 (a := a) (b := b) (k := m1) HU.out.1 HU.out.2 (show m1 ≤ 18446744073709551615 by omega) (by omega) (by omega) g6)
      obtain ⟨E2, hE2⟩ : ∃ q, moveE F1 a b m1 = q := ⟨_, rfl⟩
      obtain ⟨F2, hF2⟩ : ∃ q, moveF F1 a b m1 = q := ⟨_, rfl⟩
      rw [hE2, hF2] at C7
      have l2 : E2 ≤ 92 := by rw [← hE2]; exact moveE_cases ..
      have H2 := Lib.hid (And.intro hE2 hF2)
      have W6 := Lib.hid (modsB' W5.out m6 (fun k hk => hk))
      clear C6 g6 m6 hE2 hF2 W5
      go_wp2_with fail
      try rw [em]
      refine C7.out.mono ?_
      rintro e w7 ⟨rfl, g7, m7⟩
      obtain ⟨t, ht⟩ : ∃ q, n1 + m1 = q := ⟨_, rfl⟩
      have ht' : t ≤ 2000000000000000000 := by omega
      have et : (n1 : Int) + (m1 : Int) = (t : Int) := by omega
      have i3 : (t : Int) ≤ 18446744073709551615 := by omega
      have C8 := Lib.hid (sp_mv2 (a := a) (b := b) (k := t) HU.out.1 HU.out.2 (show t ≤ 18446744073709551615 by omega) (by omega) (by omega) g7)
      obtain ⟨E3, hE3⟩ : ∃ q, moveE F a b t = q := ⟨_, rfl⟩
      obtain ⟨F3, hF3⟩ : ∃ q, moveF F a b t = q := ⟨_, rfl⟩
      rw [hE3, hF3] at C8
      have l3 : E3 ≤ 92 := by rw [← hE3]; exact moveE_cases ..
      have H3 := Lib.hid (And.intro hE3 hF3)
      have W7 := Lib.hid (modsB' W6.out m7 (fun k hk => hk))
      clear C7 g7 m7 hE3 hF3 W6
      go_wp2_with fail
      refine C8.out.mono ?_
      rintro e w8 ⟨rfl, g8, m8⟩
      have K8 := Lib.hid g8
      have M8 := Lib.hid g8.mods
      have W8 := Lib.hid (modsB' W7.out m8 (fun k hk => hk))
      clear C8 g8 m8 W7
      obtain ⟨z, hz⟩ : ∃ q, E1 + E2 = q := ⟨_, rfl⟩
      have ez : (E1 : Int) + (E2 : Int) = (z : Int) := by omega
      have i4 : (z : Int) ≤ 9223372036854775807 := by omega
      by_cases hz0 : z = 0
      rotate_left
      · have i5 : ¬ (z : Int) = 0 := by omega
        clear K8 W8 PW
        go_wp2
        go_ret
        exact ⟨rfl, M8.out⟩
      obtain rfl : E1 = 0 := by omega
      obtain rfl : E2 = 0 := by omega
      obtain rfl : z = 0 := by omega
      clear hz ez i4 hz0
      have LN := Lib.hid (star_len K8.out)
      by_cases hab : a = b
      · subst hab
        obtain rfl : F1 = F := by rw [← H1.out.2]; exact move_self ..
        obtain rfl : F2 = F1 := by rw [← H2.out.2]; exact move_self ..
        have C9 := Lib.hid (sp_mv1 (a := a) (b := a) (k := t) HU.out.1 HU.out.1 (show t ≤ 18446744073709551615 by omega) (by omega) (by omega) K8.out)
        rw [H3.out.1, move_self] at C9
        go_wp2_with fail
        refine C9.out.mono ?_
        rintro e w9 ⟨rfl, g9, m9⟩
        have W9 := Lib.hid (modsB' W8.out m9 (fun k hk => hk))
        have M9 := Lib.hid g9.mods
        by_cases h3 : E3 = 0
        · obtain rfl : E3 = 0 := h3
          have C10 := Lib.hid (sp_du1 (by omega) g9)
          clear g9 m9 C9 K8 W8 M8
          go_wp2_with fail
          refine C10.out.mono ?_
          rintro e w10 ⟨v, M, rfl, pr, em2, g10, m10⟩
          have CP := Lib.hid (Pairs_true pr (prow_off PW.out.1 (modsB' W9.out m10 (fun k hk => hk)) (fun k hk => by rw [QH.out]; exact .inr hk)) (em2.trans PW.out.2.symm) (by rw [len_ents em2]; have := LN.out.1; omega))
          have M10 := Lib.hid g10.mods
          obtain ⟨a2, c2, rfl, _⟩ := pr.at
          clear pr g10 m10 em2 C10 W9 M9
          go_wp2_with fail
          refine CP.out.mono ?_
          rintro e w11 ⟨rfl, m11⟩
          have M11 := Lib.hid (M10.out.then0 m11)
          go_wp2
          go_ret
          exact ⟨rfl, M11.out⟩
        · have i5 : ¬ (E3 : Int) = 0 := by omega
          clear g9 m9 C9 K8 W8 M8 W9 PW
          go_wp2
          go_ret
          exact ⟨rfl, M9.out⟩
      · have i5 : ¬ (a : Int) = (b : Int) := by omega
        have i6 : ¬ (b : Int) = (a : Int) := by omega
        obtain ⟨e1, e2⟩ := H1.out
        obtain ⟨e3, e4⟩ := H2.out
        obtain ⟨e5, e6⟩ := H3.out
        subst e2 e4
        obtain ⟨q1, q2, q3⟩ := split_law OK.out HU.out.1 HU.out.2 hab e1 e3
        rw [show n1 + m1 = t from ht, e5] at q1
        rw [show n1 + m1 = t from ht, e6] at q2
        rw [show n1 + m1 = t from ht] at q3
        obtain rfl : E3 = 0 := q1
        obtain ⟨F2, hF2⟩ : ∃ q, moveF (moveF F a b n1) a b m1 = q := ⟨_, rfl⟩
        rw [hF2] at q2 q3 K8 LN
        subst q2
        have C9 := Lib.hid (sp_du1 (by omega) K8.out)
        clear K8 e1 e3 e5 hF2
        go_wp2_with fail
        refine C9.out.mono ?_
        rintro e w9 ⟨va, MA, rfl, pra, ema, g9, m9⟩
        have C10 := Lib.hid (sp_du2 (by omega) g9)
        have W9 := Lib.hid (modsB' W8.out m9 (fun k hk => hk))
        obtain ⟨a2, c2, rfl, _⟩ := pra.at
        have LA := len_ents ema
        obtain ⟨na, hna⟩ : ∃ q, MA.length = q := ⟨_, rfl⟩
        have PA := Lib.hid (And.intro pra ema)
        rw [hna] at C10 PA
        rw [hna]
        clear g9 m9 C9 W8 pra ema
        go_wp2_with fail
        refine C10.out.mono ?_
        rintro e w10 ⟨vb, MB, rfl, prb, emb, g10, m10⟩
        have CP := Lib.hid (Pairs_true (prow_off PA.out.1 m10 (fun k hk => .inr hk)) prb (PA.out.2.trans emb.symm) (by have := LN.out.1; omega))
        have W10 := Lib.hid (modsB' W9.out m10 (fun k hk => .inl hk))
        obtain ⟨a3, c3, rfl, _⟩ := prb.at
        obtain ⟨nb, hnb⟩ : ∃ q, MB.length = q := ⟨_, rfl⟩
        rw [hnb] at CP g10
        rw [hnb]
        have K10 := Lib.hid g10
        clear g10 m10 C10 W9 prb emb
        go_wp2_with fail
        refine CP.out.mono ?_
        rintro e w11 ⟨rfl, m11⟩
        have g11 := K10.out.keep0 (kve_f.star kve_f) m11
        have W11 := Lib.hid (modsB' W10.out (m11.mono (fun _ _ x => x.elim) : Mods (fun k => ¬ Q k) w10 w11) (fun k hk => hk))
        have C12 := Lib.hid (sp_mv1 (a := b) (b := a) (k := t) HU.out.2 HU.out.1 (show t ≤ 18446744073709551615 by omega) (by omega) (by omega) g11)
        obtain ⟨E4, hE4⟩ : ∃ q, moveE F2 b a t = q := ⟨_, rfl⟩
        have l4 : E4 ≤ 92 := by rw [← hE4]; exact moveE_cases ..
        rw [q3, hE4] at C12
        clear m11 g11 CP K10 W10 hE4
        go_wp2_with fail
        refine C12.out.mono ?_
        rintro e w12 ⟨rfl, g12, m12⟩
        have W12 := Lib.hid (modsB' W11.out m12 (fun k hk => .inl (.inl hk)))
        have C13 := Lib.hid (sp_du1 (by omega) g12)
        clear g12 m12 W11 C12
        by_cases h4 : E4 = 0
        · obtain rfl : E4 = 0 := h4
          go_wp2_with fail
          refine C13.out.mono ?_
          rintro e w13 ⟨v, M, rfl, pr, em2, g13, m13⟩
          have CP := Lib.hid (Pairs_true pr (prow_off PW.out.1 (modsB' W12.out m13 (fun k hk => .inl (.inl hk))) (fun k hk => by rw [QH.out]; exact .inr hk)) (em2.trans PW.out.2.symm) (by rw [len_ents em2]; have := L0.out; omega))
          have M13 := Lib.hid g13.mods
          obtain ⟨a4, c4, rfl, _⟩ := pr.at
          clear pr g13 m13 em2 C13 W12
          go_wp2_with fail
          refine CP.out.mono ?_
          rintro e w14 ⟨rfl, m14⟩
          have M14 := Lib.hid (M13.out.then0 m14)
          go_wp2
          go_ret
          exact ⟨rfl, M14.out⟩
        · have i7 : ¬ (E4 : Int) = 0 := by omega
          go_wp2_with fail
          refine C13.out.mono ?_
          rintro e w13 ⟨v, M, rfl, pr, em2, g13, m13⟩
          have CP := Lib.hid (Pairs_true pr (prow_off PW.out.1 (modsB' W12.out m13 (fun k hk => .inl (.inl hk))) (fun k hk => by rw [QH.out]; exact .inr hk)) (em2.trans PW.out.2.symm) (by rw [len_ents em2]; have := L0.out; omega))
          have M13 := Lib.hid g13.mods
          obtain ⟨a4, c4, rfl, _⟩ := pr.at
          clear pr g13 m13 em2 C13 W12
          go_wp2_with fail
          refine CP.out.mono ?_
          rintro e w14 ⟨rfl, m14⟩
          have M14 := Lib.hid (M13.out.then0 m14)
          go_wp2
          go_ret
          exact ⟨rfl, M14.out⟩
end Go.Proofs.YtglkmaalpammcaaGreat

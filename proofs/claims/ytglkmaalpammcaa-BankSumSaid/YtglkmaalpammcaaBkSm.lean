/- BankSum: P9.3: the sum is what was minted, whatever was moved; a refused call changes nothing. -/
import Derived.Test.YtglkmaalpammcaaBkSm0
import Derived.Test.YtglkmaalpammcaaMid
import Derived.Test.YtglkmaalpammcaaBkLs
import Derived.Test.YtglkmaalpammcaaBkArg
import Derived.Test.YtglkmaalpammcaaZB
import Derived.Test.YtglkmaalpammcaaNAdd
import Derived.Deep.CutBlock
import Derived.Deep.DeepCutAuto
namespace Go.Proofs.Ytglkmaalpammcaa
open Go.Gl Go.RowKit
set_option linter.unusedVariables false
set_option maxRecDepth 100000
def ZAcc : Obj := .cells #[.int .u64 0, .int .u64 0] 38 (0, 0)
def SmR (w w2 : World) (sg kn kp : Nat) (F : List Ent) (Q1 : Nat → Prop) (A B : Nat) (c1 c2 c3 b8 b9 : Bool) (u0 u1 u2 u3 u4 : Value) (w' : World) : Prop :=
  ∃ NV, Fr ZAcc w w2 w' (KVe sg F (kn + c2.toNat + c3.toNat) kp) Q1 NV b8 b9 u3 u4 ∧ (c1 = true → ∃ M, PRow w' u0 M ∧ M.map EV.ent = F ∧ ∀ k, RB6 u0 M k → NV k) ∧ (c2 = true → u1 = acV (acF F A)) ∧ (c3 = true → u2 = acV (acF F B))
section
variable {w w2 w' w'' : World} {sg kn kp A B : Nat} {F : List Ent} {Q1 : Nat → Prop} {c1 c2 c3 b8 b9 : Bool} {u0 u1 u2 u3 u4 : Value}
theorem smr_s (h : SmR w w2 sg kn kp F Q1 A B c1 c2 c3 b8 b9 u0 u1 u2 u3 u4 w') : Mods (fun k => ¬ Q1 k) w2 w' := by obtain ⟨_, f, _⟩ := h; exact f.mods
theorem smr_0 (g : G1 w w2 (KVe sg F kn kp) Q1) (m : Mods noB w2 w') : SmR w w2 sg kn kp F Q1 A B false false false false false u0 u1 u2 u3 u4 w' :=
  ⟨_, Fr.start g kve_f m, (fun h => by cases h), (fun h => by cases h), (fun h => by cases h)⟩
theorem smr_1 (hp : kp ≤ 100000) (h : SmR w w2 sg kn kp F Q1 A B false false false b8 b9 u0 u1 u2 u3 u4 w') : Calls Try.prog 11 #[.pointer (some ⟨sg, 0, none⟩)] w' fun e w'' => ∃ v, e = .returned v ∧ SmR w w2 sg kn kp F Q1 A B true false false b8 b9 v u1 u2 u3 u4 w'' := by
  obtain ⟨NV, f, _⟩ := h
  refine (f.call (fun Q => ge_dump hp)).mono ?_
  rintro e w'' ⟨v, P', N, rfl, ⟨M, pr, em, rfl, rfl⟩, f', _⟩
  exact ⟨v, rfl, _, f', fun _ => ⟨M, pr, em, fun k hk => .inr hk⟩, (fun h => by cases h), (fun h => by cases h)⟩
theorem smr_2 (hA : U64 A) (hn : kn ≤ 100000000) (hp : kp ≤ 100000) (h : SmR w w2 sg kn kp F Q1 A B c1 false false b8 b9 u0 u1 u2 u3 u4 w') : Calls Try.prog 12 #[.pointer (some ⟨sg, 0, none⟩), .int .u64 ((A : Nat) : Int)] w' fun e w'' => ∃ v, e = .returned v ∧ SmR w w2 sg kn kp F Q1 A B c1 true false b8 b9 u0 v u2 u3 u4 w'' := by
  obtain ⟨NV, f, h1, _⟩ := h
  refine (f.call (fun Q => bGet (n := kn) (p := kp) hA (by omega) hp)).mono ?_
  rintro e w'' ⟨v, P', N, rfl, ⟨rfl, rfl, hN⟩, f', m'⟩
  refine ⟨_, rfl, _, f', fun hc => ?_, (fun _ => rfl), (fun h => by cases h)⟩
  obtain ⟨M, pr, em, hq⟩ := h1 hc
  exact ⟨M, pr.keep m' (fun k hk x => x (.inr (hq k (.inl hk)))) (fun k hk x => x (.inr (hq k (.inr hk)))), em, fun k hk => .inl (hq k hk)⟩
theorem smr_3 (hB : U64 B) (hn : kn ≤ 100000000) (hp : kp ≤ 100000) (h : SmR w w2 sg kn kp F Q1 A B c1 true false b8 b9 u0 u1 u2 u3 u4 w') : Calls Try.prog 12 #[.pointer (some ⟨sg, 0, none⟩), .int .u64 ((B : Nat) : Int)] w' fun e w'' => ∃ v, e = .returned v ∧ SmR w w2 sg kn kp F Q1 A B c1 true true b8 b9 u0 u1 v u3 u4 w'' := by
  obtain ⟨NV, f, h1, h2, _⟩ := h
  refine (f.call (fun Q => bGet (n := kn + 1) (p := kp) hB (by omega) hp)).mono ?_
  rintro e w'' ⟨v, P', N, rfl, ⟨rfl, rfl, hN⟩, f', m'⟩
  refine ⟨_, rfl, _, f', fun hc => ?_, h2, (fun _ => rfl)⟩
  obtain ⟨M, pr, em, hq⟩ := h1 hc
  exact ⟨M, pr.keep m' (fun k hk x => x (.inr (hq k (.inl hk)))) (fun k hk x => x (.inr (hq k (.inr hk)))), em, fun k hk => .inl (hq k hk)⟩
theorem smr_8 {k : Nat} (h : SmR w w2 sg kn kp F Q1 A B c1 c2 c3 false b9 u0 u1 u2 u3 u4 w') (hk : k = w'.heap.size) (hO : w''.heap[k]? = some ZAcc) (m : Mods noB w' w'') (hl : k < w''.heap.size) : SmR w w2 sg kn kp F Q1 A B c1 c2 c3 true b9 u0 u1 u2 (.pointer (some ⟨k, 0, none⟩)) u4 w'' := by
  obtain ⟨NV, f, h1, h2, h3⟩ := h
  exact ⟨NV, f.new8 kve_f hk hO m hl, fun hc => by
    obtain ⟨M, pr, em, hq⟩ := h1 hc
    exact ⟨M, pr.keep0 m, em, hq⟩, h2, h3⟩
theorem smr_9 {k : Nat} (h : SmR w w2 sg kn kp F Q1 A B c1 c2 c3 b8 false u0 u1 u2 u3 u4 w') (hk : k = w'.heap.size) (hO : w''.heap[k]? = some ZAcc) (m : Mods noB w' w'') (hl : k < w''.heap.size) : SmR w w2 sg kn kp F Q1 A B c1 c2 c3 b8 true u0 u1 u2 u3 (.pointer (some ⟨k, 0, none⟩)) w'' := by
  obtain ⟨NV, f, h1, h2, h3⟩ := h
  exact ⟨NV, f.new9 kve_f hk hO m hl, fun hc => by
    obtain ⟨M, pr, em, hq⟩ := h1 hc
    exact ⟨M, pr.keep0 m, em, hq⟩, h2, h3⟩
theorem smr_e (h : SmR w w2 sg kn kp F Q1 A B c1 true true true true u0 u1 u2 u3 u4 w') : ∃ k8 k9 x0 x1 y0 y1 : Nat, u3 = .pointer (some ⟨k8, 0, none⟩) ∧ u4 = .pointer (some ⟨k9, 0, none⟩) ∧ u1 = .agg #[.int .u64 ((x0 : Nat) : Int), .int .u64 ((x1 : Nat) : Int)] ∧ u2 = .agg #[.int .u64 ((y0 : Nat) : Int), .int .u64 ((y1 : Nat) : Int)] ∧ w'.heap[k8]? = some (.cells #[.int .u64 0, .int .u64 0] 38 (0, 0)) ∧ w'.heap[k9]? = some (.cells #[.int .u64 0, .int .u64 0] 38 (0, 0)) ∧ k8 ≠ k9 := by
  obtain ⟨NV, f, h1, h2, h3⟩ := h
  obtain ⟨k8, k9, e1, e2, o1, o2, ne⟩ := f.both
  exact ⟨k8, k9, _, _, _, _, e1, e2, h2 rfl, h3 rfl, o1, o2, ne⟩
theorem smr_d {k8 k9 x0 x1 y0 y1 : Nat} (h : SmR w w2 sg kn kp F Q1 A B c1 true true true true u0 (.agg #[.int .u64 ((x0 : Nat) : Int), .int .u64 ((x1 : Nat) : Int)]) (.agg #[.int .u64 ((y0 : Nat) : Int), .int .u64 ((y1 : Nat) : Int)]) (.pointer (some ⟨k8, 0, none⟩)) (.pointer (some ⟨k9, 0, none⟩)) w') (h0 : ∀ k, k < w.heap.size → Q1 k) (m : Mods (fun k => k = k8 ∨ k = k9) w' w'') :
    acF F A = (x0, x1) ∧ acF F B = (y0, y1) ∧ ∃ NV : Nat → Prop, G1 w w'' (KVe sg F (kn + 2) kp) (fun k => Q1 k ∨ NV k ∨ k = k8 ∨ k = k9) ∧ Mods (fun k => ¬ Q1 k) w2 w'' ∧ w2.heap.size ≤ k8 ∧ w2.heap.size ≤ k9 ∧ (c1 = true → ∃ M, PRow w'' u0 M ∧ M.map EV.ent = F ∧ ∀ k, RB6 u0 M k → NV k) := by
  obtain ⟨NV, f, h1, h2, h3⟩ := h
  obtain ⟨g, mq, mn, s8, s9⟩ := f.done kve_f h0 m
  have e2 := h2 rfl
  have e3 := h3 rfl
  unfold acV at e2 e3
  simp only [Value.agg.injEq, Array.mk.injEq, List.cons.injEq, Value.int.injEq, true_and, and_true, Int.ofNat_inj] at e2 e3
  exact ⟨Prod.ext (by simp only; omega) (by simp only; omega), Prod.ext (by simp only; omega) (by simp only; omega), NV, g, mq, s8, s9, fun hc => by
    obtain ⟨M, pr, em, hq⟩ := h1 hc
    exact ⟨M, pr.keep mn (fun k hk x => x (hq k (.inl hk))) (fun k hk x => x (hq k (.inr hk))), em, hq⟩⟩
end
structure SmE (w w3 wx : World) (sg kn kp : Nat) (F : List Ent) (Q3 : Nat → Prop) (av : Value) (E : Int) : Prop where
  out : ∃ F' kn' kp' Q', AccOk F' ∧ sumF F' ≤ (sumF F) + 18446744073709551615 ∧ RN wx av (dig BB (sumF F')) ∧ (∀ k, av.ownBlock = some k → Q' k) ∧ (∀ k, Q3 k → Q' k) ∧ G1 w wx (KVe sg F' kn' kp') Q' ∧ kn' ≤ kn + 8 ∧ kp' ≤ kp + 4 ∧ (E ≠ 0 → F' = F) ∧ Mods (fun k => ¬ Q3 k) w3 wx
theorem dig_small {N : Nat} (h : N ≤ 300 * 18446744073709551615) : (dig 18446744073709551616 N).length ≤ 1000000000 := by
  have h2 : N < BB ^ 2 := by
    have : BB ^ 2 = 340282366920938463463374607431768211456 := by decide
    omega
  have := dig_len2 h2
  have e : BB = 18446744073709551616 := rfl
  rw [e] at this
  omega
theorem moveE_le (F : List Ent) (a b n : Nat) : moveE F a b n ≤ 92 := by
  unfold moveE
  split
  · omega
  · split
    · omega
    · split
      · omega
      · split <;> omega
theorem moveE_short {F : List Ent} {a b n : Nat} (h : moveE F a b n = 90) : (acF F a).1 < n := by
  unfold moveE at h
  split at h
  · omega
  · split at h
    · assumption
    · split at h
      · omega
      · split at h <;> omega
theorem mintE_le (F : List Ent) (id n : Nat) : mintE F id n ≤ 92 := by
  unfold mintE
  split
  · omega
  · split <;> omega
set_option maxHeartbeats 16000000 in
theorem bsum_walk (v0 : Value) (xs : List BStp) (w : World) (h0 : RdBs w v0 xs) : Calls Try.prog 4 #[v0] w fun e w' => e = .returned (.bool true) ∧ Mods noB w w' := by
  have KN := Lib.hid (known9_any w)
  obtain ⟨a0, N, c0, rfl, hN, hc0, hb0, g0⟩ := h0.form
  have G0 := Lib.hid g0
  have N0 := Lib.hid hN
  clear h0 g0 hN
  go_enter Try.func4, Try.ntmps4
  go_wp2_with fail
  refine KN.out.mono ?_
  rintro e w1 ⟨rfl, m1⟩
  have M1 := Lib.hid m1
  clear KN m1
  by_cases h300 : 300 < N
  · have i1 : (300 : Int) < (N : Int) := by omega
    go_wp2
    go_ret
    exact ⟨rfl, M1.out⟩
  have i1 : ¬ (300 : Int) < (N : Int) := by omega
  go_wp2_with fail
  refine (ge_new w1).mono ?_
  rintro e w2 ⟨sg, rfl, g2⟩
  have K2 := Lib.hid (show G1 w w2 (KVe sg [] 0 0) (fun k => k < w.heap.size) from (g2.base M1.out).less (fun k hk => Nat.lt_of_lt_of_le hk M1.out.size) (fun k hk => hk))
  clear g2 M1
  go_wp2
  go_loopw [4, 5] (fun z x wr => ∃ (i : Nat) (av : Value), i ≤ N ∧ av = z ∧ x = .int .i64 i ∧ Hid (∃ F kn kp Q, AccOk F ∧ sumF F ≤ i * 18446744073709551615 ∧ RN wr av (dig BB (sumF F)) ∧ (∀ k, av.ownBlock = some k → Q k) ∧ G1 w wr (KVe sg F kn kp) Q ∧ kn ≤ 2000 * i ∧ kp ≤ 4 * i)) (fun _ x _ => N - (intOf x).toNat)
  case atStart => exact ⟨0, _, Nat.zero_le _, rfl, rfl, Lib.hid ⟨_, _, _, _, AccOk.nil, Nat.le_refl _, by
    rw [sumF_nil]
    exact RdM.nil _ _, fun k hk => by simp [Value.ownBlock] at hk, K2.out, Nat.le_refl _, Nat.le_refl _⟩⟩
  case round =>
    clear K2
    obtain ⟨i, av, hi, rfl, rfl, hI⟩ := hrel
    by_cases hlt : i < N
    · obtain ⟨F, kn, kp, Q, ok, sT, rdv, oav, kv, hkn, hkp⟩ := hI.out
      have hil : i < xs.length := by rw [N0.out]; exact hlt
      obtain ⟨g, off, rfl, hg, w0c, w1c, w2c, w3c, so⟩ := bstep_at G0.out kv.mods N0.out hil
      have OK := Lib.hid ok
      have KK := Lib.hid kv
      have RV := Lib.hid (And.intro rdv oav)
      have ST := Lib.hid sT
      have hn0 : kn ≤ 600000 := by omega
      have hp0 : kp ≤ 1200 := by omega
      have KB := Lib.hid (And.intro hkn hkp)
      generalize xs[i] = s at *
      obtain ⟨what, A, B, n⟩ := s
      simp only at w0c w1c w2c w3c so
      have SO := Lib.hid (show U64 A ∧ U64 B ∧ U64 n from ⟨so.a, so.b, so.n⟩)
      clear hI ok sT rdv oav kv hkn hkp so
      go_upto_region 10 with fail
      refine wp_tl (d := .region 10 (opsC 10 Try.f4) false) (by kernel_rfl) ?_
      refine RW.wp (bs10 w0c w1c w2c w3c hlt (by omega) ?_)
      intros
      rename_i xb wa hxb hX m2
      obtain ⟨Q1, hQ1⟩ : ∃ Q1 : Nat → Prop, Q1 = fun k => Q k ∨ k = xb := ⟨_, rfl⟩
      have g3 : G1 w wa (KVe sg F kn kp) Q1 := KK.out.grow kve_f m2 (fun k hk => by
        rw [hQ1] at hk
        exact hk.imp id (fun e => by subst e; exact ⟨Nat.le_of_eq hxb.symm, lt_of_heap hX⟩)) (fun k hk => by rw [hQ1]; exact .inl (KK.out.q0 k hk))
      have Q1H := Lib.hid (show Q1 xb ∧ ∀ k, Q k → Q1 k from by rw [hQ1]; exact ⟨.inr rfl, fun k hk => .inl hk⟩)
      have RV2 := Lib.hid (show RN wa av (dig BB (sumF F)) ∧ ∀ k, av.ownBlock = some k → Q1 k from ⟨RdM.keep RV.out.1 m2 (fun _ _ x => x), fun k hk => Q1H.out.2 k (RV.out.2 k hk)⟩)
      have K3 := Lib.hid g3
      have HX := Lib.hid hX
      clear w0c w1c w2c w3c hX hxb m2 hQ1 g3 RV KK
      go_upto_region 11 with fail
      refine wp_tl (d := .region 11 (opsC 11 Try.f4) true) (by kernel_rfl) ?_
      refine RW.wp (bs11 (S := fun W => Mods (fun k => ¬ Q1 k) wa W) (R := SmR w wa sg kn kp F Q1 A B) (fun b' m => cells_of (m.heap HX.out (fun x => x Q1H.out.1)) 1) (fun b' m => cells_of (m.heap HX.out (fun x => x Q1H.out.1)) 2) (fun _ _ _ _ _ _ _ _ _ _ _ h => smr_s h) (fun _ _ _ _ _ => smr_0 K3.out (Mods.refl noB wa).drew)
        (fun _ _ _ _ _ _ _ _ h => smr_1 (by omega) h) (fun _ _ _ _ _ _ _ _ h => smr_2 SO.out.1 (by omega) (by omega) h) (fun _ _ _ _ _ _ _ _ h => smr_3 SO.out.2.1 (by omega) (by omega) h)
        (fun _ _ _ _ _ _ _ _ _ _ _ _ h a b c d => smr_8 h a b c d) (fun _ _ _ _ _ _ _ _ _ _ _ _ h a b c d => smr_9 h a b c d) (fun _ _ _ _ _ _ h => smr_e h) ?_)
      intros
      rename_i v k8 k9 x0 x1 y0 y1 wm wb hR o8 o9 mm hne
      obtain ⟨ea, eb, NV, g3, mq, s8, s9, hd⟩ := smr_d hR K3.out.q0 mm
      obtain ⟨M, pr, em, hm⟩ := hd rfl
      obtain ⟨Q3, hQ3⟩ : ∃ Q3 : Nat → Prop, Q3 = fun k => Q1 k ∨ NV k ∨ k = k8 ∨ k = k9 := ⟨_, rfl⟩
      rw [← hQ3] at g3
      obtain ⟨va, vc, rfl, _⟩ := pr.at
      obtain ⟨vn, hvn⟩ : ∃ q, M.length = q := ⟨_, rfl⟩
      rw [hvn] at pr hm
      rw [hvn]
      have QH := Lib.hid (show Q3 xb ∧ Q3 k8 ∧ Q3 k9 ∧ (∀ k, RB6 (.slice va vn vc) M k → Q3 k) ∧ (∀ k, Q1 k → Q3 k) from by
        rw [hQ3]
        exact ⟨.inl Q1H.out.1, .inr (.inr (.inl rfl)), .inr (.inr (.inr rfl)), fun k hk => .inr (.inl (hm k hk)), fun k hk => .inl hk⟩)
      have PR := Lib.hid (And.intro pr (And.intro em (show M.length ≤ 1000000 by have := kve_len K3.out; have := len_ents em; omega)))
      have K4 := Lib.hid g3
      have EA := Lib.hid (And.intro ea eb)
      have HB := Lib.hid (show wb.heap[xb]? = _ ∧ wb.heap[k8]? = _ ∧ wb.heap[k9]? = _ from ⟨mq.heap HX.out (fun x => x Q1H.out.1), o8, o9⟩)
      have RV3 := Lib.hid (show RN wb av (dig BB (sumF F)) ∧ ∀ k, av.ownBlock = some k → Q3 k from ⟨RdM.keep RV2.out.1 mq (fun k hk x => x (RV2.out.2 k hk)), fun k hk => QH.out.2.2.2.2 k (RV2.out.2 k hk)⟩)
      clear hR o8 o9 mm ea eb g3 mq s8 s9 hd pr em hm hQ3 hvn RV2 HX K3 Q1H
      have c0 : wb.cell? ⟨xb, 0, none⟩ = some (.int .i64 what) := cells_of HB.out.1 0
      go_upto_block 2 with fail
      go_cut [4, 10] (fun a4 a10 wx => ∃ (E : Int) (av' : Value), av' = a4 ∧ a10 = .int .i64 E ∧ Hid (SmE w wb wx sg (kn + 2) kp F Q3 av' E))
      case first =>
        have c1 : wb.cell? ⟨xb, 1, none⟩ = some (.int .u64 (A : Nat)) := cells_of HB.out.1 1
        have c2 : wb.cell? ⟨xb, 2, none⟩ = some (.int .u64 (B : Nat)) := cells_of HB.out.1 2
        have c3 : wb.cell? ⟨xb, 3, none⟩ = some (.int .u64 (n : Nat)) := cells_of HB.out.1 3
        have LS := Lib.hid (show sumF F ≤ 300 * 18446744073709551615 from Nat.le_trans ST.out (Nat.mul_le_mul_right _ (by omega)))
        by_cases h0 : what = 0
        · subst h0
          have C1 := Lib.hid (K4.out.calls (bMint (id := A) (k := n) SO.out.1 SO.out.2.2 (by omega) (by omega)))
          obtain ⟨E, hE⟩ : ∃ q, mintE F A n = q := ⟨_, rfl⟩
          rw [hE] at C1
          have HE := Lib.hid hE
          have lE : E ≤ 92 := by rw [← hE]; exact mintE_le ..
          clear hE
          go_wp2_with fail
          refine C1.out.mono ?_
          rintro e wc ⟨rfl, g5, m5⟩
          by_cases hE0 : E = 0
          · obtain rfl : E = 0 := hE0
            have c3' : wc.cell? ⟨xb, 3, none⟩ = some (.int .u64 (n : Nat)) := cells_of (m5.heap HB.out.1 (fun x => x QH.out.1)) 3
            have K5 := Lib.hid g5
            have M5 := Lib.hid m5
            have NO := Lib.hid (natof_any (x := n) wc SO.out.2.2)
            clear g5 m5 C1 c0 c1 c2 c3
            go_wp2_with fail
            refine NO.out.mono ?_
            rintro e wd ⟨v1, rfl, r1, m6, f1⟩
            have NA := Lib.hid (natadd_any (RdM.keep (RdM.keep RV3.out.1 M5.out (fun k hk x => x (RV3.out.2 k hk))) m6 (fun _ _ x => x)) r1 (dig_lim _) (dig_lim _) (dig_small LS.out) (dig_small (Nat.le_trans SO.out.2.2 (by omega))))
            have K6 := Lib.hid (K5.out.keep0 kve_f m6)
            have M6 := Lib.hid (M5.out.then0 m6)
            clear K5 M5 NO r1 f1 m6 c3'
            go_wp2_with fail
            refine NA.out.mono ?_
            rintro e we ⟨v2, rfl, r2, m7, f2⟩
            rw [dval_dig (by omega), dval_dig (by omega), ← sum_mint OK.out SO.out.1 HE.out] at r2
            have FIN := Lib.hid (show SmE w wb we sg (kn + 2) kp F Q3 v2 0 from ⟨⟨_, _, _, fun k => Q3 k ∨ v2.ownBlock = some k, mint_ok OK.out SO.out.1, by rw [sum_mint OK.out SO.out.1 HE.out]; exact Nat.add_le_add_left SO.out.2.2 _, r2, fun k hk => .inr hk, fun k hk => .inl hk, K6.out.grow kve_f m7 (fun k hk => hk.imp id (f2 k)) (fun k hk => .inl (K6.out.q0 k hk)), by omega, by omega, fun h => absurd rfl h, M6.out.then0 m7⟩⟩)
            clear r2 m7 f2 NA K6 M6
            go_wp2
            go_meet
            case rel => exact ⟨0, _, rfl, rfl, FIN⟩
          · have i5 : ¬ (E : Int) = 0 := by omega
            have hF : mintF F A n = F := by unfold mintF; rw [HE.out, if_neg hE0]
            rw [hF] at g5
            have FIN := Lib.hid (show SmE w wb wc sg (kn + 2) kp F Q3 av (E : Nat) from ⟨⟨_, _, _, Q3, OK.out, Nat.le_add_right _ _, RdM.keep RV3.out.1 m5 (fun k hk x => x (RV3.out.2 k hk)), RV3.out.2, fun _ h => h, g5, by omega, by omega, fun _ => rfl, m5⟩⟩)
            clear g5 m5 C1 hF
            go_wp2
            go_meet
            case rel => exact ⟨_, _, rfl, rfl, FIN⟩
        by_cases h12 : what = 1 ∨ what = 2
        · have C1 := Lib.hid (K4.out.calls (bMove (a := A) (b := B) (k := n) SO.out.1 SO.out.2.1 SO.out.2.2 (by omega) (by omega)))
          obtain ⟨E, hE⟩ : ∃ q, moveE F A B n = q := ⟨_, rfl⟩
          obtain ⟨F', hF⟩ : ∃ q, moveF F A B n = q := ⟨_, rfl⟩
          rw [hE, hF] at C1
          have HE := Lib.hid (And.intro hE hF)
          have OK' := Lib.hid (show AccOk F' from by rw [← hF]; exact move_ok OK.out SO.out.1 SO.out.2.1)
          have SS := Lib.hid (show sumF F' = sumF F from by rw [← hF]; exact sum_move OK.out SO.out.1 SO.out.2.1)
          have lE : E ≤ 92 := by rw [← hE]; exact moveE_le ..
          clear hE hF
          rcases h12 with rfl | rfl
          all_goals (
            go_wp2_with fail
            refine C1.out.mono ?_
            rintro e wc ⟨rfl, g5, m5⟩
            have K5 := Lib.hid g5
            have M5 := Lib.hid m5
            clear g5 m5 C1 c0 c1 c2 c3
            go_upto_region 21 with fail
            refine wp_tl (d := .region 21 (opsC 21 Try.f4) true) (by kernel_rfl) ?_
            refine RW.wp (bs21 (S := fun W => Mods (fun k => ¬ Q3 k) wc W) (R := fun c2 c3 b8 b9 u1 u2 u3 u4 => SmR w wc sg (kn + 2 + 4) (kp + 4) F' Q3 A B false c2 c3 b8 b9 undef u1 u2 u3 u4) (fun b' m => cells_of (m.heap (M5.out.heap HB.out.1 (fun x => x QH.out.1)) (fun x => x QH.out.1)) 1) (fun b' m => cells_of (m.heap (M5.out.heap HB.out.1 (fun x => x QH.out.1)) (fun x => x QH.out.1)) 2) (fun _ _ _ _ _ _ _ _ _ h => smr_s h) (fun _ _ _ _ => smr_0 K5.out (Mods.refl noB wc).drew)
              (fun _ _ _ _ _ _ _ h => smr_2 SO.out.1 (by omega) (by omega) h) (fun _ _ _ _ _ _ _ h => smr_3 SO.out.2.1 (by omega) (by omega) h)
              (fun _ _ _ _ _ _ _ _ _ _ h a b c d => smr_8 h a b c d) (fun _ _ _ _ _ _ _ _ _ _ h a b c d => smr_9 h a b c d) (fun _ _ _ _ _ h => smr_e h) ?_)
            intros
            rename_i j8 j9 p0 p1 q0 q1 wm' wd hR o8 o9 mm hne'
            obtain ⟨ea, eb, NV', g6, mq, s8, s9, _⟩ := smr_d hR K5.out.q0 mm
            have MB := M5.out.trans mq (fun _ _ x => x) (fun _ _ x => x)
            have d1 : wd.cell? ⟨xb, 1, none⟩ = some (.int .u64 (A : Nat)) := cells_of (MB.heap HB.out.1 (fun x => x QH.out.1)) 1
            have d2 : wd.cell? ⟨xb, 2, none⟩ = some (.int .u64 (B : Nat)) := cells_of (MB.heap HB.out.1 (fun x => x QH.out.1)) 2
            have d3 : wd.cell? ⟨xb, 3, none⟩ = some (.int .u64 (n : Nat)) := cells_of (MB.heap HB.out.1 (fun x => x QH.out.1)) 3
            have d4 : wd.cell? ⟨k8, 0, none⟩ = some (.int .u64 (x0 : Nat)) := cells_of (MB.heap HB.out.2.1 (fun x => x QH.out.2.1)) 0
            have d5 : wd.cell? ⟨k8, 1, none⟩ = some (.int .u64 (x1 : Nat)) := cells_of (MB.heap HB.out.2.1 (fun x => x QH.out.2.1)) 1
            have d6 : wd.cell? ⟨k9, 0, none⟩ = some (.int .u64 (y0 : Nat)) := cells_of (MB.heap HB.out.2.2 (fun x => x QH.out.2.2.1)) 0
            have d7 : wd.cell? ⟨k9, 1, none⟩ = some (.int .u64 (y1 : Nat)) := cells_of (MB.heap HB.out.2.2 (fun x => x QH.out.2.2.1)) 1
            have d8 : wd.cell? ⟨j8, 0, none⟩ = some (.int .u64 (p0 : Nat)) := cells_of o8 0
            have d9 : wd.cell? ⟨j8, 1, none⟩ = some (.int .u64 (p1 : Nat)) := cells_of o8 1
            have d10 : wd.cell? ⟨j9, 0, none⟩ = some (.int .u64 (q0 : Nat)) := cells_of o9 0
            have d11 : wd.cell? ⟨j9, 1, none⟩ = some (.int .u64 (q1 : Nat)) := cells_of o9 1
            have FIN := Lib.hid (show SmE w wb wd sg (kn + 2) kp F Q3 av (E : Nat) from ⟨⟨_, _, _, Q3, OK'.out, by rw [SS.out]; exact Nat.le_add_right _ _, by rw [SS.out]; exact RdM.keep RV3.out.1 MB (fun k hk x => x (RV3.out.2 k hk)), RV3.out.2, fun _ h => h, g6.less (fun k hk => .inl hk) K4.out.q0, by omega, by omega, fun h => by
              rw [← HE.out.2]
              unfold moveF
              rw [HE.out.1, if_neg (fun x => h (by rw [x.1]; rfl))], MB⟩⟩)
            have EB := Lib.hid (And.intro ea eb)
            clear hR o8 o9 mm hne' ea eb g6 mq s8 s9 MB K5 M5
            by_cases hE0 : E = 0
            · by_cases hab : A = B
              · obtain rfl : E = 0 := hE0
                obtain rfl : A = B := hab
                go_wp2
                go_meet
                case rel => exact ⟨_, _, rfl, rfl, FIN⟩
              · obtain rfl : E = 0 := hE0
                have hz := moveE_zero HE.out.1
                have mvA := ac_move OK.out SO.out.1 SO.out.2.1 SO.out.1 HE.out.1 hab
                have mvB := ac_move OK.out SO.out.1 SO.out.2.1 SO.out.2.1 HE.out.1 hab
                rw [HE.out.2, EA.out.1, EA.out.2, EB.out.1, if_neg (fun x => hab x.symm), if_pos rfl] at mvA
                rw [HE.out.2, EA.out.1, EA.out.2, EB.out.2, if_pos rfl] at mvB
                rw [EA.out.1, EA.out.2] at hz
                simp only [Prod.mk.injEq] at mvA mvB hz
                obtain ⟨z1, z2⟩ := mvA
                obtain ⟨z3, z4⟩ := mvB
                obtain ⟨_, _, z5, z6⟩ := hz
                have z6 := z6 hab
                have lx := ac_le OK.out SO.out.1
                rw [EA.out.1] at lx
                simp only at lx
                obtain rfl : p1 = x1 := z2
                obtain rfl : q1 = y1 := z4
                have t1 : (p0 : Int) + (n : Int) = (x0 : Int) := by omega
                have t2 : (y0 : Int) + (n : Int) = (q0 : Int) := by omega
                have t3 : (x0 : Int) ≤ 18446744073709551615 := by omega
                have t4 : (q0 : Int) ≤ 18446744073709551615 := by omega
                have t5 : ¬ (A : Int) = (B : Int) := by omega
                clear z1 z3 z5 z6 lx
                go_wp2
                go_meet
                case rel => exact ⟨_, _, rfl, rfl, FIN⟩
            · by_cases hE9 : E = 90
              · obtain rfl : E = 90 := hE9
                have hs := moveE_short HE.out.1
                rw [EA.out.1] at hs
                simp only at hs
                have t1 : ¬ (n : Int) ≤ (x0 : Int) := by omega
                go_wp2
                go_meet
                case rel => exact ⟨_, _, rfl, rfl, FIN⟩
              · have t1 : ¬ (E : Int) = 0 := by omega
                have t2 : ¬ (E : Int) = 90 := by omega
                go_wp2
                go_meet
                case rel => exact ⟨_, _, rfl, rfl, FIN⟩)
        have h1 : ¬ what = 1 := fun h => h12 (.inl h)
        have h2 : ¬ what = 2 := fun h => h12 (.inr h)
        clear h12
        by_cases h3 : what = 3
        · subst h3
          have C1 := Lib.hid (K4.out.calls (bBump (id := A) SO.out.1 (by omega) (by omega)))
          have OK' := Lib.hid (bump_ok OK.out SO.out.1)
          have SS := Lib.hid (sum_bump OK.out SO.out.1)
          have lz := acF_lt F A
          rw [EA.out.1] at lz
          obtain ⟨E, hE⟩ : ∃ q, bumpE A = q := ⟨_, rfl⟩
          have HE := Lib.hid hE
          rw [hE] at C1
          go_wp2_with fail
          refine C1.out.mono ?_
          rintro e wc ⟨rfl, g5, m5⟩
          have K5 := Lib.hid g5
          have M5 := Lib.hid m5
          clear g5 m5 C1 c0 c1 c2 c3
          by_cases hE0 : E = 0
          · obtain rfl : E = 0 := hE0
            obtain ⟨t, ht⟩ : ∃ t, (x1 + 1) % 18446744073709551616 = t := ⟨_, rfl⟩
            have hac : acF (bumpF F A) A = (x0, t) := by
              unfold bumpF
              have hb : isB A = true := by
                unfold bumpE at hE
                cases h : isB A with
                | true => rfl
                | false => rw [h] at hE; simp at hE
              rw [hb, if_neg (by simp), EA.out.1]
              simp only [ht]
              rw [ac_lay F (a := (x0, t)) SO.out.1 SO.out.1 lz.1 (show t ≤ 18446744073709551615 by omega), if_pos rfl]
            have CG := Lib.hid (((K5.out.keep0 kve_f (Mods.refl noB wc).drew).calls (bGet (id := A) SO.out.1 (by omega) (by omega))).mono (fun e w' ⟨a, b, c⟩ => show e = Ending.returned (.agg #[.int .u64 ((x0 : Nat) : Int), .int .u64 ((t : Nat) : Int)]) ∧ (G1 w w' (KVe sg (bumpF F A) (kn + 2 + 2 + 1) (kp + 2)) Q3 ∧ Mods (fun k => ¬ Q3 k) wc w') from ⟨by rw [a, hac]; rfl, b, ((Mods.refl (fun k => ¬ Q3 k) wc).drew).trans c (fun _ _ x => x) (fun _ _ x => x)⟩))
            go_upto_region 28 with fail
            refine wp_tl (d := .region 28 (opsC 28 Try.f4) true) (by kernel_rfl) ?_
            refine RW.wp (bs28a (A := A) (c := x0) (q := x1) (q1 := t) (ab := k8) (S := fun W => Mods (fun k => ¬ Q3 k) wc W) (X := fun W => G1 w W (KVe sg (bumpF F A) (kn + 2 + 2 + 1) (kp + 2)) Q3 ∧ Mods (fun k => ¬ Q3 k) wc W) (fun b' m => cells_of (m.heap (M5.out.heap HB.out.1 (fun x => x QH.out.1)) (fun x => x QH.out.1)) 1) (fun b' m => cells_of (m.heap (M5.out.heap HB.out.2.1 (fun x => x QH.out.2.1)) (fun x => x QH.out.2.1)) 0) (fun b' m => cells_of (m.heap (M5.out.heap HB.out.2.1 (fun x => x QH.out.2.1)) (fun x => x QH.out.2.1)) 1)
              (Mods.refl _ wc).drew (fun b' h => h.2) CG.out ht ?_)
            intros
            rename_i wd hx
            have MB := M5.out.trans hx.2 (fun _ _ x => x) (fun _ _ x => x)
            have FIN := Lib.hid (show SmE w wb wd sg (kn + 2) kp F Q3 av 0 from ⟨⟨_, _, _, Q3, OK'.out, by rw [SS.out]; exact Nat.le_add_right _ _, by rw [SS.out]; exact RdM.keep RV3.out.1 MB (fun k hk x => x (RV3.out.2 k hk)), RV3.out.2, fun _ h => h, hx.1, by omega, by omega, fun h => absurd rfl h, MB⟩⟩)
            clear MB hx CG ht hac
            go_wp2
            go_meet
            case rel => exact ⟨_, _, rfl, rfl, FIN⟩
          · obtain rfl : E = 92 := by
              unfold bumpE at hE
              split at hE <;> omega
            have hF : bumpF F A = F := by
              unfold bumpF
              unfold bumpE at hE
              split at hE
              · rw [if_pos (by assumption)]
              · omega
            rw [hF] at K5
            go_upto_region 28 with fail
            refine wp_tl (d := .region 28 (opsC 28 Try.f4) true) (by kernel_rfl) ?_
            refine RW.wp (bs28b ?_)
            intros
            rename_i wd hwd
            have md : Mods noB wc wd := by rw [hwd]; exact (Mods.refl noB wc).drew
            have MB := M5.out.then0 md
            have FIN := Lib.hid (show SmE w wb wd sg (kn + 2) kp F Q3 av 92 from ⟨⟨_, _, _, Q3, OK.out, Nat.le_add_right _ _, RdM.keep RV3.out.1 MB (fun k hk x => x (RV3.out.2 k hk)), RV3.out.2, fun _ h => h, K5.out.keep0 kve_f md, by omega, by omega, fun h => rfl, MB⟩⟩)
            clear MB md hwd
            go_wp2
            go_meet
            case rel => exact ⟨_, _, rfl, rfl, FIN⟩
        have FIN := Lib.hid (show SmE w wb wb sg (kn + 2) kp F Q3 av 0 from ⟨⟨_, _, _, Q3, OK.out, Nat.le_add_right _ _, RV3.out.1, RV3.out.2, fun _ h => h, K4.out, by omega, by omega, fun _ => rfl, Mods.refl _ _⟩⟩)
        go_wp2
        go_meet
        case rel => exact ⟨_, _, rfl, rfl, FIN⟩
      case rest =>
        obtain ⟨E, av', rfl, rfl, hD⟩ := hcut
        obtain ⟨F', kn', kp', Q', ok', sT', rd', oav', hq', g, hkn', hkp', hEF, mm⟩ := hD.out.out
        have OK' := Lib.hid ok'
        have SB := Lib.hid (And.intro sT' (And.intro hkn' hkp'))
        have RV4 := Lib.hid (And.intro rd' (And.intro oav' (And.intro hq' (show ∀ k, k < w.heap.size → Q' k from fun k hk => hq' k (K4.out.q0 k hk)))))
        have K5 := Lib.hid g
        have M5 := Lib.hid mm
        have hn1 : kn' ≤ 700000 := by omega
        have hp1 : kp' ≤ 1300 := by omega
        have HEF := Lib.hid hEF
        clear hD ok' sT' rd' oav' hq' g hkn' hkp' mm c0 hEF
        by_cases hE0 : E = 0
        · subst hE0
          have C1 := Lib.hid (K5.out.call (ge_sum (by omega) (by omega)))
          go_wp2_with fail
          refine C1.out.mono ?_
          rintro e wd ⟨v1, P', Nn, rfl, ⟨rd1, rfl, rfl⟩, g1, _, m1⟩
          have HN := Lib.hid ((HNat_any rd1 (RdM.keep RV4.out.1 m1 (fun k hk x => x (RV4.out.2.1 k hk)))).mono (fun e w' ⟨h1, h2⟩ => show e = Ending.returned (.bool true) ∧ Quiet wd w' from ⟨by rw [h1]; simp, h2⟩))
          have K6 := Lib.hid (g1.less (Q' := Q') (fun k hk => .inl hk) RV4.out.2.2.2)
          have R6 := Lib.hid (RdM.keep RV4.out.1 m1 (fun k hk x => x (RV4.out.2.1 k hk)))
          clear rd1 g1 m1 C1
          go_wp2_with fail
          refine HN.out.mono ?_
          rintro e we ⟨rfl, q2⟩
          have m2 := q2.mods noB
          have FIN := Lib.hid (show ∃ F kn kp Q, AccOk F ∧ sumF F ≤ (i + 1) * 18446744073709551615 ∧ RN we av' (dig BB (sumF F)) ∧ (∀ k, av'.ownBlock = some k → Q k) ∧ G1 w we (KVe sg F kn kp) Q ∧ kn ≤ 2000 * (i + 1) ∧ kp ≤ 4 * (i + 1) from
            ⟨F', kn' + 1 + kp', kp', Q', OK'.out, by have := ST.out; have := SB.out.1; omega, RdM.keep R6.out m2 (fun _ _ x => x), RV4.out.2.1, K6.out.keep0 kve_f m2, by have := KB.out; have := SB.out.2; omega, by have := KB.out; have := SB.out.2; omega⟩)
          clear q2 m2 HN K6 R6
          go_wp2
          go_roundw
          case rel => exact ⟨i + 1, _, by omega, rfl, by go_num, FIN⟩
          case measure => simp [intOf]; omega
        · have hF : F' = F := HEF.out hE0
          have C0 := Lib.hid (K5.out.call (ge_dump (by omega)))
          go_wp2_with fail
          refine C0.out.mono ?_
          rintro e wd ⟨v1, P', Nn, rfl, ⟨M', pr', em', rfl, rfl⟩, g1, _, m1⟩
          have CP := Lib.hid (Pairs_true pr' (prow_off (prow_off PR.out.1 M5.out QH.out.2.2.2.1) m1 (fun k hk => RV4.out.2.2.1 k (QH.out.2.2.2.1 k hk))) (em'.trans (hF.trans PR.out.2.1.symm)) (by have := PR.out.2.2; rw [len_ents em', hF, ← len_ents PR.out.2.1]; exact this))
          have K6 := Lib.hid (g1.less (Q' := Q') (fun k hk => .inl hk) RV4.out.2.2.2)
          have R6 := Lib.hid (RdM.keep RV4.out.1 m1 (fun k hk x => x (RV4.out.2.1 k hk)))
          obtain ⟨a1, c1, rfl, _⟩ := pr'.at
          clear pr' em' g1 m1 C0 K5 M5
          go_wp2_with fail
          refine CP.out.mono ?_
          rintro e we ⟨rfl, m2⟩
          have K7 := Lib.hid (K6.out.keep0 kve_f m2)
          have R7 := Lib.hid (RdM.keep R6.out m2 (fun _ _ x => x))
          have C1 := Lib.hid (K7.out.call (ge_sum (by omega) (by omega)))
          clear m2 CP K6 R6
          go_wp2_with fail
          refine C1.out.mono ?_
          rintro e wf ⟨v1, P', Nn, rfl, ⟨rd1, rfl, rfl⟩, g1, _, m1⟩
          have HN := Lib.hid ((HNat_any rd1 (RdM.keep R7.out m1 (fun k hk x => x (RV4.out.2.1 k hk)))).mono (fun e w' ⟨h1, h2⟩ => show e = Ending.returned (.bool true) ∧ Quiet wf w' from ⟨by rw [h1]; simp, h2⟩))
          have K8 := Lib.hid (g1.less (Q' := Q') (fun k hk => .inl hk) RV4.out.2.2.2)
          have R8 := Lib.hid (RdM.keep R7.out m1 (fun k hk x => x (RV4.out.2.1 k hk)))
          clear rd1 g1 m1 C1 K7 R7
          go_wp2_with fail
          refine HN.out.mono ?_
          rintro e wg ⟨rfl, q2⟩
          have m2 := q2.mods noB
          have FIN := Lib.hid (show ∃ F kn kp Q, AccOk F ∧ sumF F ≤ (i + 1) * 18446744073709551615 ∧ RN wg av' (dig BB (sumF F)) ∧ (∀ k, av'.ownBlock = some k → Q k) ∧ G1 w wg (KVe sg F kn kp) Q ∧ kn ≤ 2000 * (i + 1) ∧ kp ≤ 4 * (i + 1) from
            ⟨F', kn' + 1 + kp', kp', Q', OK'.out, by have := ST.out; have := SB.out.1; omega, RdM.keep R8.out m2 (fun _ _ x => x), RV4.out.2.1, K8.out.keep0 kve_f m2, by have := KB.out; have := SB.out.2; omega, by have := KB.out; have := SB.out.2; omega⟩)
          clear q2 m2 HN K8 R8
          go_wp2
          go_roundw
          case rel => exact ⟨i + 1, _, by omega, rfl, by go_num, FIN⟩
          case measure => simp [intOf]; omega
    · obtain ⟨F, kn, kp, Q, ok, sT, rdv, oav, kv, hkn, hkp⟩ := hI.out
      have M := Lib.hid kv.mods
      clear hI ok sT rdv oav kv hkn hkp
      go_wp2
      go_ret
      exact ⟨rfl, M.out⟩
end Go.Proofs.Ytglkmaalpammcaa

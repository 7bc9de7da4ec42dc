/- gleanlaw6: what its laws share: the steps, Set and Delete of a step, change. -/
import Derived.Test.YtngemlpalkfjeaaKvL0
namespace Go.Proofs.Ytngemlpalkfjeaa
open Go.Gl Go.RowKit
set_option linter.unusedVariables false
set_option maxRecDepth 100000
theorem RdKs.form2 {w : World} {v : Value} {ss : List KStp} (h : RdKs w v ss) : ∃ a n cap, v = .slice a n cap ∧ ss.length = n ∧ n ≤ cap ∧ cap ≤ 9223372036854775807 ∧
    ∀ W, Mods noB w W → ∀ i (hi : i < ss.length), ∃ g off, a = some ⟨g, off, none⟩ ∧ g < W.heap.size ∧ (∀ j, j < 4 → W.cell? ⟨g, off + i * 4 + j, none⟩ = some (ss[i].cell j)) ∧ ss[i].At W := by
  rcases h with ⟨rfl, rfl⟩ | ⟨g, off, cap, hv, h1, h2, h3, h4⟩
  · exact ⟨none, 0, 0, rfl, rfl, Nat.le_refl _, by omega, fun W _ i hi => absurd hi (by simp)⟩
  · exact ⟨_, _, cap, hv, rfl, h1, by simpa [maxLen] using h2, fun W m i hi => ⟨g, off, rfl, m.size_of h3, fun j hj => (m.cellAt h3 (fun x => x) _).trans ((h4 i hi).1 j hj), (h4 i hi).2.keep m⟩⟩
theorem off_old {w0 : World} {Q : Nat → Prop} {v : Value} {xs : List UInt8} (h : Rd w0 v xs) (hQ : ∀ k, k < w0.heap.size → Q k) : Off (fun k => ¬ Q k) v xs := fun hne i hi x => x (hQ i (h.ltn (fun e => hne (List.eq_nil_of_length_eq_zero e)) i hi))
def setF (F : List Ent) (k v : List UInt8) : List Ent := if setErr k v = 0 then insL F k v else F
def chgF (F : List Ent) (s : KStp) : List Ent := if s.what.tmod 2 = 0 then setF F s.k s.v else delL F s.k
section
variable {w0 w : World} {sg n p : Nat} {F : List Ent} {Ws : List (List Ent)} {Q : Nat → Prop}
theorem cs_set {s : KStp} (h0 : s.At w0) (hQ : ∀ k, k < w0.heap.size → Q k) (m : Mods noB w0 w) (hn : n ≤ 1000000000000) (hp : p ≤ 100000) : CC 18 #[.pointer (some ⟨sg, 0, none⟩), s.kv, s.vv] w sg F Ws n p Q (.int .i64 (setErr s.k s.v : Nat)) (setF F s.k s.v) Ws (n + 1) (p + 2) :=
  cc_set (h0.keep m).k (h0.keep m).v (off_old h0.k hQ) (off_old h0.v hQ) hn hp
theorem cs_del {s : KStp} (h0 : s.At w0) (hQ : ∀ k, k < w0.heap.size → Q k) (m : Mods noB w0 w) (lk : s.k.length ≤ 1000000) (hn : n ≤ 1000000000000) (hp : p ≤ 100000) : CC 20 #[.pointer (some ⟨sg, 0, none⟩), s.kv] w sg F Ws n p Q (.bool (getL F s.k).isSome) (delL F s.k) Ws (n + 1) (p + 2) :=
  cc_del (h0.keep m).k (off_old h0.k hQ) lk hn hp
theorem kl_sets {s : KStp} (h : KL w0 w sg F Ws n p Q) (h0 : s.At w0) (hn : n ≤ 1000000000000) (hp : p ≤ 100000) : ∀ b', Mods noB w b' → Calls Try.prog 18 #[.pointer (some ⟨sg, 0, none⟩), s.kv, s.vv] b' fun e w' => ∃ v, e = .returned v ∧ (KL w0 w' sg (setF F s.k s.v) Ws (n + 1) (p + 2) Q ∧ Mods (fun k => ¬ Q k) w w') := fun b' hm => by
  have hb := h.keep0 hm
  refine (hb.call (cs_set h0 hb.q0 hb.mods hn hp)).mono ?_
  rintro e w' ⟨rfl, k', m'⟩
  exact ⟨_, rfl, k', hm.trans m' (fun _ _ x => x.elim) (fun _ _ x => x)⟩
variable {sg2 n2 p2 : Nat} {F2 : List Ent} {Ws2 : List (List Ent)}
theorem k2_sets {s : KStp} (h : K2 w0 w sg F Ws n p sg2 F2 Ws2 n2 p2 Q) (h0 : s.At w0) (hn : n ≤ 1000000000000) (hp : p ≤ 100000) : ∀ b', Mods noB w b' → Calls Try.prog 18 #[.pointer (some ⟨sg, 0, none⟩), s.kv, s.vv] b' fun e w' => ∃ v, e = .returned v ∧ (K2 w0 w' sg (setF F s.k s.v) Ws (n + 1) (p + 2) sg2 F2 Ws2 n2 p2 Q ∧ Mods (fun k => ¬ Q k) w w') := fun b' hm => by
  have hb := h.keep0 hm
  refine (hb.call (cs_set h0 hb.one.q0 hb.one.mods hn hp)).mono ?_
  rintro e w' ⟨rfl, k', m'⟩
  exact ⟨_, rfl, k', hm.trans m' (fun _ _ x => x.elim) (fun _ _ x => x)⟩
set_option maxHeartbeats 1000000 in
theorem cs_change {s : KStp} (h0 : s.At w0) (hQ : ∀ k, k < w0.heap.size → Q k) (m : Mods noB w0 w) (lk : s.k.length ≤ 1000000) (hn : n ≤ 1000000000000) (hp : p ≤ 100000) : CC 27 #[.pointer (some ⟨sg, 0, none⟩), .agg #[.int .i64 s.what, .int .i64 s.n, s.kv, s.vv]] w sg F Ws n p Q (.tuple #[]) (chgF F s) Ws (n + 1) (p + 2) := by
  intro S D kv hQS
  have m1 := (Mods.refl noB w).alloc (.cells #[.int .i64 s.what, .int .i64 s.n, s.kv, s.vv] 34)
  have kv1 := kv.keep0 m1
  have b1 := heap_new w (.cells #[.int .i64 s.what, .int .i64 s.n, s.kv, s.vv] 34)
  have CS := Lib.hid (cs_set (sg := sg) (F := F) (Ws := Ws) (n := n) (p := p) (Q := Q) h0 hQ (m.then0 m1) hn hp S D kv1 hQS)
  have CD := Lib.hid (cs_del (sg := sg) (F := F) (Ws := Ws) (n := n) (p := p) (Q := Q) h0 hQ (m.then0 m1) lk hn hp S D kv1 hQS)
  have fin : ∀ (w' : World) (F' : List Ent), Chg (w.alloc (.cells #[.int .i64 s.what, .int .i64 s.n, s.kv, s.vv] 34)) w' sg S D F' Ws (n + 1) (p + 2) → Chg w w' sg S D F' Ws (n + 1) (p + 2) := by
    rintro w' F' ⟨S', D', k', m', hs, hd⟩
    exact ⟨S', D', k', m1.trans m' (fun _ _ x => x.elim) (fun _ _ x => x), fun k hk => (hs k hk).imp id (fun x => Nat.le_trans m1.size x), fun k hk => (hd k hk).imp id (fun x => Nat.le_trans m1.size x)⟩
  have FIN := Lib.hid fin
  obtain ⟨ak, ck, ek, _⟩ := h0.k.form
  obtain ⟨av, cv, ev, _⟩ := h0.v.form
  obtain ⟨z1, z2⟩ := And.intro h0.a1 h0.a2
  obtain ⟨what, sn, kvv, vvv, ks, vs⟩ := s
  simp only at *
  subst ek ev
  clear h0 kv kv1 fin m1 hQ hQS m
  unfold chgF
  simp only
  by_cases hz : what.tmod 2 = 0
  · rw [if_pos hz]
    clear CD
    go_enter Try.func27, Try.ntmps27
    go_wp2_with fail
    refine CS.out.mono ?_
    rintro e w2 ⟨rfl, c⟩
    have C := Lib.hid (FIN.out _ _ c)
    clear c CS FIN b1
    go_wp2
    go_end0
    exact ⟨rfl, C.out⟩
  · rw [if_neg hz]
    clear CS
    go_enter Try.func27, Try.ntmps27
    go_wp2_with fail
    refine CD.out.mono ?_
    rintro e w2 ⟨rfl, c⟩
    have C := Lib.hid (FIN.out _ _ c)
    clear c CD FIN b1
    go_wp2
    go_end0
    exact ⟨rfl, C.out⟩
end
end Go.Proofs.Ytngemlpalkfjeaa

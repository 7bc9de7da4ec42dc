/- gleanlaw6: what its laws share: the steps, Set and Delete of a step, change. -/
import Derived.Test.YtngemlpalkfjeaaKvL0
namespace Go.Proofs.Ytngemlpalkfjeaa
open Go.Gl Go.RowKit
set_option linter.unusedVariables false
set_option maxRecDepth 100000
theorem RdKs.form2 {w : World} {v : Value} {ss : List KStp} (h : RdKs w v ss) : ∃ a n cap, v = .slice a n cap ∧ ss.length = n ∧ n ≤ cap ∧ cap ≤ 9223372036854775807 ∧
    ∀ W, Mods noB w W → ∀ i (hi : i < ss.length), ∃ g off, a = some ⟨g, off, none⟩ ∧ g < W.heap.size ∧ (∀ j, j < 4 → W.cell? ⟨g, off + i * 4 + j, none⟩ = some (ss[i].cell j)) ∧ ss[i].At W := by
  rcases h with ⟨rfl, rfl⟩ | ⟨g, off, cap, hv, h1, h2, h3, h4⟩
  · exact ⟨none, 0, 0, rfl, rfl, Nat.le_refl _, by omega, fun W _ i hi => absurd hi (by simp)⟩
  · exact ⟨_, _, cap, hv, rfl, h1, by simpa [maxLen] using h2, fun W m i hi => ⟨g, off, rfl, m.size_of h3, fun j hj => (m.cellAt h3 (fun x => x) _).trans ((h4 i hi).1 j hj), (h4 i hi).2.keep m⟩⟩
theorem off_old {w0 : World} {Q : Nat → Prop} {v : Value} {xs : List UInt8} (h : Rd w0 v xs) (hQ : ∀ k, k < w0.heap.size → Q k) : Off (fun k => ¬ Q k) v xs := fun hne i hi x => x (hQ i (h.ltn (fun e => hne (List.eq_nil_of_length_eq_zero e)) i hi))
def setF (F : List Ent) (k v : List UInt8) : List Ent := if setErr k v = 0 then insL F k v else F
section
variable {w0 w : World} {sg n p : Nat} {F : List Ent} {Ws : List (List Ent)} {Q : Nat → Prop}
theorem cs_set {s : KStp} (h0 : s.At w0) (hQ : ∀ k, k < w0.heap.size → Q k) (m : Mods noB w0 w) (hn : n ≤ 1000000000000) (hp : p ≤ 100000) : CC 18 #[.pointer (some ⟨sg, 0, none⟩), s.kv, s.vv] w sg F Ws n p Q (.int .i64 (setErr s.k s.v : Nat)) (setF F s.k s.v) Ws (n + 1) (p + 2) :=
  cc_set (h0.keep m).k (h0.keep m).v (off_old h0.k hQ) (off_old h0.v hQ) hn hp
theorem cs_del {s : KStp} (h0 : s.At w0) (hQ : ∀ k, k < w0.heap.size → Q k) (m : Mods noB w0 w) (lk : s.k.length ≤ 1000000) (hn : n ≤ 1000000000000) (hp : p ≤ 100000) : CC 20 #[.pointer (some ⟨sg, 0, none⟩), s.kv] w sg F Ws n p Q (.bool (getL F s.k).isSome) (delL F s.k) Ws (n + 1) (p + 2) :=
  cc_del (h0.keep m).k (off_old h0.k hQ) lk hn hp
theorem kl_sets {s : KStp} (h : KL w0 w sg F Ws n p Q) (h0 : s.At w0) (hn : n ≤ 1000000000000) (hp : p ≤ 100000) : ∀ b', Mods noB w b' → Calls Try.prog 18 #[.pointer (some ⟨sg, 0, none⟩), s.kv, s.vv] b' fun e w' => ∃ v, e = .returned v ∧ (KL w0 w' sg (setF F s.k s.v) Ws (n + 1) (p + 2) Q ∧ Mods (fun k => ¬ Q k) w w') := fun b' hm => by
  have hb := h.keep0 hm
  refine (hb.call (cs_set h0 hb.q0 hb.mods hn hp)).mono ?_
  rintro e w' ⟨rfl, k', m'⟩
  exact ⟨_, rfl, k', hm.trans m' (fun _ _ x => x.elim) (fun _ _ x => x)⟩
variable {sg2 n2 p2 : Nat} {F2 : List Ent} {Ws2 : List (List Ent)}
end
end Go.Proofs.Ytngemlpalkfjeaa

/- What holds while Dump, Get, Get and two new accounts come in whichever order. -/
import Derived.Test.YtglkmaalpammcaaBkL
import Derived.Test.YtglkmaalpammcaaMid
namespace Go.Proofs.Ytglkmaalpammcaa
open Go.Gl Go.RowKit
set_option linter.unusedVariables false
set_option maxRecDepth 100000
def ZAcc : Obj := .cells #[.int .u64 0, .int .u64 0] 38 (0, 0)
def SmR (w w2 : World) (sg kn kp : Nat) (F : List Ent) (Q1 : Nat → Prop) (A B : Nat) (c1 c2 c3 b8 b9 : Bool) (u0 u1 u2 u3 u4 : Value) (w' : World) : Prop :=
  ∃ NV, Fr ZAcc w w2 w' (KVe sg F (kn + c2.toNat + c3.toNat) kp) Q1 NV b8 b9 u3 u4 ∧ (c1 = true → ∃ M, PRow w' u0 M ∧ M.map EV.ent = F ∧ ∀ k, RB6 u0 M k → NV k) ∧ (c2 = true → u1 = acV (acF F A)) ∧ (c3 = true → u2 = acV (acF F B))
section
variable {w w2 w' w'' : World} {sg kn kp A B : Nat} {F : List Ent} {Q1 : Nat → Prop} {c1 c2 c3 b8 b9 : Bool} {u0 u1 u2 u3 u4 : Value}
theorem smr_s (h : SmR w w2 sg kn kp F Q1 A B c1 c2 c3 b8 b9 u0 u1 u2 u3 u4 w') : Mods (fun k => ¬ Q1 k) w2 w' := by obtain ⟨_, f, _⟩ := h; exact f.mods
theorem smr_0 (g : G1 w w2 (KVe sg F kn kp) Q1) (m : Mods noB w2 w') : SmR w w2 sg kn kp F Q1 A B false false false false false u0 u1 u2 u3 u4 w' :=
  ⟨_, Fr.start g kve_f m, (fun h => by cases h), (fun h => by cases h), (fun h => by cases h)⟩
theorem smr_1 (hp : kp ≤ 100000) (h : SmR w w2 sg kn kp F Q1 A B false false false b8 b9 u0 u1 u2 u3 u4 w') : Calls Try.prog 11 #[.pointer (some ⟨sg, 0, none⟩)] w' fun e w'' => ∃ v, e = .returned v ∧ SmR w w2 sg kn kp F Q1 A B true false false b8 b9 v u1 u2 u3 u4 w'' := by
  obtain ⟨NV, f, _⟩ := h
  refine (f.call (fun Q => ge_dump hp)).mono ?_
  rintro e w'' ⟨v, P', N, rfl, ⟨M, pr, em, rfl, rfl⟩, f', _⟩
  exact ⟨v, rfl, _, f', fun _ => ⟨M, pr, em, fun k hk => .inr hk⟩, (fun h => by cases h), (fun h => by cases h)⟩
theorem smr_2 (hA : U64 A) (hn : kn ≤ 100000000) (hp : kp ≤ 100000) (h : SmR w w2 sg kn kp F Q1 A B c1 false false b8 b9 u0 u1 u2 u3 u4 w') : Calls Try.prog 12 #[.pointer (some ⟨sg, 0, none⟩), .int .u64 ((A : Nat) : Int)] w' fun e w'' => ∃ v, e = .returned v ∧ SmR w w2 sg kn kp F Q1 A B c1 true false b8 b9 u0 v u2 u3 u4 w'' := by
  obtain ⟨NV, f, h1, _⟩ := h
  refine (f.call (fun Q => bGet (n := kn) (p := kp) hA (by omega) hp)).mono ?_
  rintro e w'' ⟨v, P', N, rfl, ⟨rfl, rfl, hN⟩, f', m'⟩
  refine ⟨_, rfl, _, f', fun hc => ?_, (fun _ => rfl), (fun h => by cases h)⟩
  obtain ⟨M, pr, em, hq⟩ := h1 hc
  exact ⟨M, pr.keep m' (fun k hk x => x (.inr (hq k (.inl hk)))) (fun k hk x => x (.inr (hq k (.inr hk)))), em, fun k hk => .inl (hq k hk)⟩
theorem smr_3 (hB : U64 B) (hn : kn ≤ 100000000) (hp : kp ≤ 100000) (h : SmR w w2 sg kn kp F Q1 A B c1 true false b8 b9 u0 u1 u2 u3 u4 w') : Calls Try.prog 12 #[.pointer (some ⟨sg, 0, none⟩), .int .u64 ((B : Nat) : Int)] w' fun e w'' => ∃ v, e = .returned v ∧ SmR w w2 sg kn kp F Q1 A B c1 true true b8 b9 u0 u1 v u3 u4 w'' := by
  obtain ⟨NV, f, h1, h2, _⟩ := h
  refine (f.call (fun Q => bGet (n := kn + 1) (p := kp) hB (by omega) hp)).mono ?_
  rintro e w'' ⟨v, P', N, rfl, ⟨rfl, rfl, hN⟩, f', m'⟩
  refine ⟨_, rfl, _, f', fun hc => ?_, h2, (fun _ => rfl)⟩
  obtain ⟨M, pr, em, hq⟩ := h1 hc
  exact ⟨M, pr.keep m' (fun k hk x => x (.inr (hq k (.inl hk)))) (fun k hk x => x (.inr (hq k (.inr hk)))), em, fun k hk => .inl (hq k hk)⟩
theorem smr_8 {k : Nat} (h : SmR w w2 sg kn kp F Q1 A B c1 c2 c3 false b9 u0 u1 u2 u3 u4 w') (hk : k = w'.heap.size) (hO : w''.heap[k]? = some ZAcc) (m : Mods noB w' w'') (hl : k < w''.heap.size) : SmR w w2 sg kn kp F Q1 A B c1 c2 c3 true b9 u0 u1 u2 (.pointer (some ⟨k, 0, none⟩)) u4 w'' := by
  obtain ⟨NV, f, h1, h2, h3⟩ := h
  exact ⟨NV, f.new8 kve_f hk hO m hl, fun hc => by
    obtain ⟨M, pr, em, hq⟩ := h1 hc
    exact ⟨M, pr.keep0 m, em, hq⟩, h2, h3⟩
theorem smr_9 {k : Nat} (h : SmR w w2 sg kn kp F Q1 A B c1 c2 c3 b8 false u0 u1 u2 u3 u4 w') (hk : k = w'.heap.size) (hO : w''.heap[k]? = some ZAcc) (m : Mods noB w' w'') (hl : k < w''.heap.size) : SmR w w2 sg kn kp F Q1 A B c1 c2 c3 b8 true u0 u1 u2 u3 (.pointer (some ⟨k, 0, none⟩)) w'' := by
  obtain ⟨NV, f, h1, h2, h3⟩ := h
  exact ⟨NV, f.new9 kve_f hk hO m hl, fun hc => by
    obtain ⟨M, pr, em, hq⟩ := h1 hc
    exact ⟨M, pr.keep0 m, em, hq⟩, h2, h3⟩
theorem smr_e (h : SmR w w2 sg kn kp F Q1 A B c1 true true true true u0 u1 u2 u3 u4 w') : ∃ k8 k9 x0 x1 y0 y1 : Nat, u3 = .pointer (some ⟨k8, 0, none⟩) ∧ u4 = .pointer (some ⟨k9, 0, none⟩) ∧ u1 = .agg #[.int .u64 ((x0 : Nat) : Int), .int .u64 ((x1 : Nat) : Int)] ∧ u2 = .agg #[.int .u64 ((y0 : Nat) : Int), .int .u64 ((y1 : Nat) : Int)] ∧ w'.heap[k8]? = some (.cells #[.int .u64 0, .int .u64 0] 38 (0, 0)) ∧ w'.heap[k9]? = some (.cells #[.int .u64 0, .int .u64 0] 38 (0, 0)) ∧ k8 ≠ k9 := by
  obtain ⟨NV, f, h1, h2, h3⟩ := h
  obtain ⟨k8, k9, e1, e2, o1, o2, ne⟩ := f.both
  exact ⟨k8, k9, _, _, _, _, e1, e2, h2 rfl, h3 rfl, o1, o2, ne⟩
theorem smr_d {k8 k9 x0 x1 y0 y1 : Nat} (h : SmR w w2 sg kn kp F Q1 A B c1 true true true true u0 (.agg #[.int .u64 ((x0 : Nat) : Int), .int .u64 ((x1 : Nat) : Int)]) (.agg #[.int .u64 ((y0 : Nat) : Int), .int .u64 ((y1 : Nat) : Int)]) (.pointer (some ⟨k8, 0, none⟩)) (.pointer (some ⟨k9, 0, none⟩)) w') (h0 : ∀ k, k < w.heap.size → Q1 k) (m : Mods (fun k => k = k8 ∨ k = k9) w' w'') :
    acF F A = (x0, x1) ∧ acF F B = (y0, y1) ∧ ∃ NV : Nat → Prop, G1 w w'' (KVe sg F (kn + 2) kp) (fun k => Q1 k ∨ NV k ∨ k = k8 ∨ k = k9) ∧ Mods (fun k => ¬ Q1 k) w2 w'' ∧ w2.heap.size ≤ k8 ∧ w2.heap.size ≤ k9 ∧ (c1 = true → ∃ M, PRow w'' u0 M ∧ M.map EV.ent = F ∧ ∀ k, RB6 u0 M k → NV k) := by
  obtain ⟨NV, f, h1, h2, h3⟩ := h
  obtain ⟨g, mq, mn, s8, s9⟩ := f.done kve_f h0 m
  have e2 := h2 rfl
  have e3 := h3 rfl
  unfold acV at e2 e3
  simp only [Value.agg.injEq, Array.mk.injEq, List.cons.injEq, Value.int.injEq, true_and, and_true, Int.ofNat_inj] at e2 e3
  exact ⟨Prod.ext (by simp only; omega) (by simp only; omega), Prod.ext (by simp only; omega) (by simp only; omega), NV, g, mq, s8, s9, fun hc => by
    obtain ⟨M, pr, em, hq⟩ := h1 hc
    exact ⟨M, pr.keep mn (fun k hk x => x (hq k (.inl hk))) (fun k hk x => x (hq k (.inr hk))), em, hq⟩⟩
end
end Go.Proofs.Ytglkmaalpammcaa

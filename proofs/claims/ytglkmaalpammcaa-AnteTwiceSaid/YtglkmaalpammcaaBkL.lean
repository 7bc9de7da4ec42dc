/- The calls that bank's laws do, on a store of their own (KVe): New, Dump, Copy, bank.Sum. -/
import Derived.Test.YtglkmaalpammcaaBkM
import Derived.Test.YtglkmaalpammcaaBsS
namespace Go.Proofs.Ytglkmaalpammcaa
open Go.Gl Go.RowKit
set_option linter.unusedVariables false
set_option maxRecDepth 100000
theorem prow_off {w w' : World} {v : Value} {M : List EV} {Q : Nat → Prop} (h : PRow w v M) (m : Mods (fun k => ¬ Q k) w w') (hq : ∀ k, RB6 v M k → Q k) : PRow w' v M := h.keep m (fun k hk x => x (hq k (.inl hk))) (fun k hk x => x (hq k (.inr hk)))
section
variable {w w0 : World} {sg n p : Nat} {F : List Ent} {Q : Nat → Prop}
theorem len_ents {M : List EV} (h : M.map EV.ent = F) : M.length = F.length := by rw [← h, List.length_map]
theorem kve_len (g : G1 w0 w (KVe sg F n p) Q) : F.length ≤ p := by
  obtain ⟨S, D, ⟨m, q, hm, hq, kv⟩, _⟩ := g
  have := (KV.len kv).1
  omega
theorem ge_new (w : World) : Calls Try.prog 8 #[] w fun e w' => ∃ sg, e = .returned (.pointer (some ⟨sg, 0, none⟩)) ∧ G1 w w' (KVe sg [] 0 0) (fun k => k < w.heap.size) := by
  refine (hNew w).mono ?_
  rintro e w' ⟨sg, S, D, rfl, kv, m, hs, hd⟩
  exact ⟨sg, rfl, S, D, ⟨0, 0, Nat.le_refl _, Nat.le_refl _, kv⟩, fun k hk => ⟨fun x => by have := hs k x; omega, hd k, Nat.lt_of_lt_of_le hk m.size⟩, fun _ h => h, m⟩
theorem ge_dump (hp : p ≤ 100000) : GC Try.prog 11 #[.pointer (some ⟨sg, 0, none⟩)] w (KVe sg F n p) Q (fun w' v P' N => ∃ M, PRow w' v M ∧ M.map EV.ent = F ∧ P' = KVe sg F n p ∧ N = RB6 v M) := fun S D ⟨m, q, hm, hq', kv⟩ hQ => by
  have l := kv.lt
  refine (hDump kv (by omega)).mono ?_
  rintro e w' ⟨v, M, rfl, g, mm, em⟩
  refine ⟨v, _, _, rfl, ⟨M, g.prow, em, rfl, rfl⟩, S, D, ⟨m, q, hm, hq', kv.keep0 mm⟩, mm.mono (fun _ _ x => x.elim), fun _ => .inl, fun _ => .inl, fun k hk => ?_⟩
  have hk' : w.heap.size ≤ k ∧ k < w'.heap.size := hk.elim (fun x => ⟨g.vf k x, g.lt.1 k x⟩) (fun x => ⟨(g.df k x).1, g.lt.2 k x⟩)
  exact ⟨hk'.1, hk'.2, fun x => by have := l.1 k x; omega, fun x => by have := l.2.1 k x; omega⟩
end
end Go.Proofs.Ytglkmaalpammcaa

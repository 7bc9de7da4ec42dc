/- The calls that bank's laws do, on a store of their own (KVe): New, Dump, Copy, bank.Sum. -/
import Derived.Test.YtglkmaalpammcaaGreatBkM
import Derived.Test.YtglkmaalpammcaaGreatBsS
namespace Go.Proofs.YtglkmaalpammcaaGreat
open Go.Gl Go.RowKit
set_option linter.unusedVariables false
set_option maxRecDepth 100000
section
variable {w w0 : World} {sg n p : Nat} {F : List Ent} {Q : Nat → Prop}
theorem len_ents {M : List EV} (h : M.map EV.ent = F) : M.length = F.length := by rw [← h, List.length_map]
theorem kve_len (g : G1 w0 w (KVe sg F n p) Q) : F.length ≤ p := by
 obtain ⟨S, D, ⟨m, q, hm, hq, kv⟩, _⟩ := g
 have := (KV.len kv).1
 omega
theorem ge_new (w : World) : Calls Tryz.prog 12 #[] w fun e w' => ∃ sg, e = .returned (.pointer (some ⟨sg, 0, none⟩)) ∧ G1 w w' (KVe sg [] 0 0) (fun k => k < w.heap.size) := by
 refine (hNew w).mono ?_
 rintro e w' ⟨sg, S, D, rfl, kv, m, hs, hd⟩
 exact ⟨sg, rfl, S, D, ⟨0, 0, Nat.le_refl _, Nat.le_refl _, kv⟩, fun k hk => ⟨fun x => by have := hs k x; omega, hd k, Nat.lt_of_lt_of_le hk m.size⟩, fun _ h => h, m⟩
theorem ge_dump (hp : p ≤ 100000) : GC Tryz.prog 20 #[.pointer (some ⟨sg, 0, none⟩)] w (KVe sg F n p) Q (fun w' v P' N => ∃ M, PRow w' v M ∧ M.map EV.ent = F ∧ P' = KVe sg F n p ∧ N = RB6 v M) := fun S D ⟨m, q, hm, hq', kv⟩ hQ => by
 have l := kv.lt
 refine (hDump kv (by omega)).mono ?_
 rintro e w' ⟨v, M, rfl, g, mm, em⟩
 refine ⟨v, _, _, rfl, ⟨M, g.prow, em, rfl, rfl⟩, S, D, ⟨m, q, hm, hq', kv.keep0 mm⟩, mm.mono (fun _ _ x => x.elim), fun _ => .inl, fun _ => .inl, fun k hk => ?_⟩
 have hk' : w.heap.size ≤ k ∧ k < w'.heap.size := hk.elim (fun x => ⟨g.vf k x, g.lt.1 k x⟩) (fun x => ⟨(g.df k x).1, g.lt.2 k x⟩)
 exact ⟨hk'.1, hk'.2, fun x => by have := l.1 k x; omega, fun x => by have := l.2.1 k x; omega⟩
theorem ge_sum (hn : n ≤ 1000000000000) (hp : p ≤ 100000) : GC Tryz.prog 29 #[.pointer (some ⟨sg, 0, none⟩)] w (KVe sg F n p) Q (fun w' v P' N => RN w' v (dig BB (sumF F)) ∧ P' = KVe sg F (n + 1 + p) p ∧ N = fun k => v.ownBlock = some k) := fun S D ⟨m, q, hm, hq', kv⟩ hQ => by
 obtain ⟨mg, vo, R, jv, J, km, ok, rfl, hw, hj, hpp, rfl, rfl⟩ := kv
 have l := km.lt
 have ld := km.dlt
 have hb := flat_bound ok
 rw [pgs_length] at hb
 have hlen : (pxL R [97]).length ≤ (pgs R).flatten.length := by
  have h1 : (pxL R [97]).length ≤ (wkL R [97] []).length := List.Sublist.length_le (List.takeWhile_sublist _)
  have := wk_len ok [97] []
  have : cnt (pgs R) = (pgs R).flatten.length := rfl
  omega
 refine (sumk_any km (by omega) (by omega) ok (by omega) (by omega) (fun e he => (wk_lens2 km.pm (fun e he => wkL_in ((List.takeWhile_sublist _).subset he)) e he).2)).mono ?_
 rintro e w' ⟨v, rfl, r, fr, mm, km'⟩
 rw [sumL_ent, px_ents ok] at r
 refine ⟨v, _, _, rfl, ⟨r, rfl, rfl⟩, _, _, ⟨m + 1 + (pxL R [97]).length, q, by omega, hq', mg, vo, R, jv, J, by rw [show ((m + 1 + (pxL R [97]).length : Nat) : Int) = (m : Int) + 1 + ((pxL R [97]).length : Nat) by omega]; exact km', ok, rfl, hw, hj, hpp, rfl, rfl⟩, mm.mono (fun k _ hk => by subst hk; exact .inl rfl), fun _ => .inl, fun _ => .inl, fun k hk => ?_⟩
 have := fr k hk
 exact ⟨this.1, this.2, fun x => by have := l k x; omega, fun x => by have := ld k x; omega⟩
end
end Go.Proofs.YtglkmaalpammcaaGreat

/- Both stores beside one another: begun, told, looked at. -/
import Derived.Test.YtglkmaalpammcaaGreatBkL
import Derived.Test.YtglkmaalpammcaaGreatBkR
import Derived.Test.YtglkmaalpammcaaGreatZB
namespace Go.Proofs.YtglkmaalpammcaaGreat
open Go.Gl Go.RowKit
set_option linter.unusedVariables false
set_option maxRecDepth 100000
theorem be_new {w0 w1 w2 : World} {sg k : Nat} {S D : Nat → Prop} (m0 : Mods noB w0 w1) (kv : KV w1 sg [] [] 0 0 S D) (hs : ∀ k, S k → w0.heap.size ≤ k) (hd : ∀ k, ¬ D k) (m : Mods noB w1 w2) (hk : w2.heap[k]? = some (.cells #[.slice none 0 0, .slice none 0 0, .int .i64 0] 32 (0, 0))) (hk1 : w1.heap.size ≤ k) : G1 w0 w2 (Star (KVe sg [] 0 0) (RFe k [] 0)) (fun k => k < w0.heap.size) := by
 have l := kv.lt
 have s0 := m0.size
 have s1 := m.size
 have hrs : ∀ j, RS6 k (.slice none 0 0) j → j = k := fun j hj => hj.elim id (fun x => by simp [Value.ownBlock] at x)
 have hmd : ∀ j, ¬ RD6 (.slice none 0 0) [] [] j := fun j hj => by
  rcases hj with (hj | ⟨e, he, _⟩) | ⟨q, hq, _⟩
  ·simp [Value.ownBlock] at hj
  ·exact List.not_mem_nil he
  ·exact List.not_mem_nil hq
 exact ⟨_, _, ⟨S, D, _, _, ⟨0, 0, Nat.le_refl _, Nat.le_refl _, kv.keep0 m⟩, ⟨0, Nat.le_refl _, rf_new hk⟩, fun j x y => by have := l.1 j x; have := hrs j y; omega, fun j x => (hd j x).elim, fun j x => (hmd j x).elim, fun _ => Iff.rfl, fun _ => Iff.rfl⟩, fun j hj => ⟨fun x => x.elim (fun y => by have := hs j y; omega) (fun y => by have := hrs j y; omega), fun x => x.elim (hd j) (hmd j), by omega⟩, fun j hj => hj, m0.then0 m⟩
section
variable {w w0 : World} {sg rg n p n2 p2 m a b k : Nat} {F C : List Ent} {Q : Nat → Prop}
theorem be_more (g : G1 w0 w (Star (KVe sg F n p) (RFe rg C m)) Q) (h1 : n ≤ n2) (h2 : p ≤ p2) (h3 : m ≤ n2) : G1 w0 w (Star (KVe sg F n2 p2) (RFe rg C n2)) Q := g.mono fun S D ⟨S1, D1, S2, D2, x, y, r⟩ => ⟨S1, D1, S2, D2, x.more h1 h2, y.more h3, r⟩
theorem be_dump (g : G1 w0 w (Star (KVe sg F n p) (RFe rg C m)) Q) (hp : p ≤ 100000) : Calls Tryz.prog 20 #[.pointer (some ⟨sg, 0, none⟩)] w fun e w' => ∃ v M, e = .returned v ∧ PRow w' v M ∧ M.map EV.ent = F ∧ Mods noB w w' := by
 obtain ⟨S, D, ⟨S1, D1, S2, D2, ⟨c, q, _, hq, kv⟩, rf, _⟩, _⟩ := g
 exact (hDump kv (by omega)).mono (fun e w' ⟨v, M, a, g, mm, em⟩ => ⟨v, M, a, g.prow, em, mm⟩)
theorem be_look (g : G1 w0 w (Star (KVe sg F n p) (RFe rg C m)) Q) : ∃ lv L, w.cell? ⟨rg, 0, none⟩ = some lv ∧ PRow w lv L ∧ L.map EV.ent = C ∧ rg < w.heap.size := by
 obtain ⟨S, D, ⟨S1, D1, S2, D2, kv, ⟨c, _, rf⟩, _⟩, _⟩ := g
 obtain ⟨lv, L, a, c', c0, pr, em, _⟩ := rf.look
 exact ⟨lv, L, c0, pr, em, rf.lt.1 rg rf.lt.2.2.1⟩
theorem be_hv (g : G1 w0 w (Star (KVe sg F n p) (RFe rg F m)) Q) (hp : p ≤ 80000) : HV F ∧ Ris F ∧ F.length ≤ p := by
 obtain ⟨S, D, ⟨S1, D1, S2, D2, ⟨c, q, _, hq, kv⟩, ⟨c2, _, rf⟩, _⟩, _⟩ := g
 have hl := (KV.len kv).1
 obtain ⟨lv, wv, L, H, rs, hr, _⟩ := rf
 exact ⟨⟨by omega, fun k v hg => KV.vlen kv hg⟩, hr, by omega⟩
end
end Go.Proofs.YtglkmaalpammcaaGreat

/- kv.Store: Copy; a store that is new. -/
import Derived.Test.YtngemlpalkfjeaaKvX
import Derived.Test.YtngemlpalkfjeaaPgK
namespace Go.Proofs.Ytngemlpalkfjeaa
open Go.Gl Go.RowKit
set_option linter.unusedVariables false
set_option maxRecDepth 100000
theorem KM.make {w : World} {sg mg : Nat} {vo : Value} {R : List PV} (hb : w.heap[sg]? = some (.cells #[.pointer (some ⟨mg, 0, none⟩), .slice none 0 0, .int .i64 0] 67 (0, 0))) (pm : PM w mg vo R) (hs : ¬ MS mg vo R sg) (hd : ¬ MD R sg) : KM w sg mg vo R (.slice none 0 0) [] 0 := by
  refine ⟨hb, pm, ⟨rfl, .inl ⟨rfl, rfl⟩⟩, fun q hq => (List.not_mem_nil hq).elim, fun q hq => (List.not_mem_nil hq).elim, ⟨hs, by simp [Value.ownBlock], fun q hq => (List.not_mem_nil hq).elim⟩, fun k hk => by simp [Value.ownBlock] at hk, fun q hq => (List.not_mem_nil hq).elim, List.Pairwise.nil, fun k hk hks => ?_, fun k hk => ?_⟩
  · rcases hk with hk | ⟨q, hq, _⟩
    · rcases hks with rfl | hks | hks | ⟨q, hq, _⟩
      · exact hd hk
      · exact pm.data k hk hks
      · simp [Value.ownBlock] at hks
      · exact (List.not_mem_nil hq).elim
    · exact (List.not_mem_nil hq).elim
  · rcases hk with hk | ⟨q, hq, _⟩
    · exact pm.dlt k hk
    · exact (List.not_mem_nil hq).elim
theorem KS.made {sg mg : Nat} {vo : Value} {R : List PV} {k : Nat} (h : KS sg mg vo R (.slice none 0 0) [] k) : k = sg ∨ MS mg vo R k := by
  rcases h with h | h | h | ⟨q, hq, _⟩
  · exact .inl h
  · exact .inr h
  · simp [Value.ownBlock] at h
  · exact (List.not_mem_nil hq).elim
theorem KD.made {R : List PV} {k : Nat} (h : KD R [] k) : MD R k := by
  rcases h with h | ⟨q, hq, _⟩
  · exact h
  · exact (List.not_mem_nil hq).elim
theorem md_same' {R R' : List PV} (h : R'.map (·.es) = R.map (·.es)) {k : Nat} (hk : MD R' k) : MD R k := by
  obtain ⟨p, hp, e, he, hk⟩ := hk
  have : p.es ∈ R.map (·.es) := by rw [← h]; exact List.mem_map_of_mem hp
  obtain ⟨q, hq, hqe⟩ := List.mem_map.1 this
  exact ⟨q, hq, e, by rw [hqe]; exact he, hk⟩
set_option maxHeartbeats 1000000 in
theorem kCopy_any {w : World} {sg mg : Nat} {vo jv : Value} {R : List PV} {J : List JV} {n : Int} (h : KM w sg mg vo R jv J n) (ok : PgOk (pgs R)) (hn : R.length ≤ 900000) :
    Calls Try.prog 12 #[.pointer (some ⟨sg, 0, none⟩)] w fun e w' => ∃ sg2 mg2 vo2 R2, e = .returned (.pointer (some ⟨sg2, 0, none⟩)) ∧ KM w' sg2 mg2 vo2 R2 (.slice none 0 0) [] 0 ∧ pgs R2 = pgs R ∧ Mods noB w w' ∧ (∀ k, KS sg2 mg2 vo2 R2 (.slice none 0 0) [] k → w.heap.size ≤ k) ∧ (∀ k, KD R2 [] k → KD R J k) := by
  have hq : ∀ q ∈ R, ents q.es ∈ pgs R := fun q hq => List.mem_map_of_mem (f := fun p : PV => ents p.es) hq
  have C := Lib.hid (Copy_any h.pm (fun q hq' x => ok.ne _ (hq q hq') (by rw [x]; rfl)) hn (fun q hq' => by have := ok.most _ (hq q hq'); rwa [ents_length] at this))
  have HM := Lib.hid h
  have c0 := h.cells.1
  clear h ok hn hq
  go_enter Try.func12, Try.ntmps12
  go_wp2_with fail
  refine C.out.mono ?_
  rintro e w1 ⟨h2, vo2, R2, rfl, p, es, m, f⟩
  have hb := heap_new w1 (.cells #[.pointer (some ⟨h2, 0, none⟩), .slice none 0 0, .int .i64 0] 67)
  have m2 := (Mods.refl noB w1).alloc (.cells #[.pointer (some ⟨h2, 0, none⟩), .slice none 0 0, .int .i64 0] 67)
  have km := KM.make hb (p.keep0 m2) (fun x => by have := p.lt _ x; omega) (fun x => by have := p.dlt _ x; omega)
  have hp : pgs R2 = pgs R := by
    have : ∀ R : List PV, pgs R = (R.map (·.es)).map ents := fun R => by rw [List.map_map]; rfl
    rw [this, this, es]
  have FIN := Lib.hid (And.intro km (And.intro hp (And.intro (m.then0 m2) (And.intro (show ∀ k, KS w1.heap.size h2 vo2 R2 (.slice none 0 0) [] k → w.heap.size ≤ k from fun k hk => by
    rcases hk.made with rfl | x
    · exact m.size
    · exact f k x) (show ∀ k, KD R2 [] k → KD R J k from fun k hk => .inl (md_same' es hk.made))))))
  clear C p es m f hb m2 km hp HM c0
  go_wp2
  go_ret
  exact ⟨_, _, _, _, rfl, FIN.out⟩
end Go.Proofs.Ytngemlpalkfjeaa

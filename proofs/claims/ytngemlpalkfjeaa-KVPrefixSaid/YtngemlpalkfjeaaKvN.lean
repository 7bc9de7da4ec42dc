/- kv.Store: New, Get, Has, Depth, Ops, Begin. -/
import Derived.Test.YtngemlpalkfjeaaZB
import Derived.Deep.DeepCutAuto
namespace Go.Proofs.Ytngemlpalkfjeaa
open Go.Gl Go.RowKit
set_option linter.unusedVariables false
set_option maxRecDepth 100000
theorem kNew_any (w : World) : Calls Try.prog 11 #[] w fun e w' => ∃ sg mg, e = .returned (.pointer (some ⟨sg, 0, none⟩)) ∧ KM w' sg mg (.slice none 0 0) [] (.slice none 0 0) [] 0 ∧ Mods noB w w' ∧ w.heap.size ≤ sg ∧ w.heap.size ≤ mg := by
  go_enter Try.func11, Try.ntmps11
  go_wp2_with fail
  refine (New_any w).mono ?_
  rintro e w1 ⟨g, rfl, pm, m1, hg⟩
  have hl := pm.lt g (.inl rfl)
  have hb := heap_new w1 (.cells #[.pointer (some ⟨g, 0, none⟩), .slice none 0 0, .int .i64 0] 67)
  have m2 := (Mods.refl noB w1).alloc (.cells #[.pointer (some ⟨g, 0, none⟩), .slice none 0 0, .int .i64 0] 67)
  have PM := Lib.hid (And.intro (pm.keep0 m2) (And.intro (m1.then0 m2) (And.intro hg hl)))
  have HB := Lib.hid hb
  clear pm m1 hg hl hb m2
  go_wp2
  go_ret
  have ms0 : ∀ k, MS g (.slice none 0 0) [] k → k = g := fun k h => by
    rcases h with h | h | ⟨p, hp, _⟩
    · exact h
    · simp [Value.ownBlock] at h
    · exact (List.not_mem_nil hp).elim
  refine ⟨_, g, rfl, ⟨HB.out, PM.out.1, ⟨rfl, .inl ⟨rfl, rfl⟩⟩, fun q hq => (List.not_mem_nil hq).elim, fun q hq => (List.not_mem_nil hq).elim, ⟨fun x => by have := ms0 _ x; have := PM.out.2.2.2; omega, by simp [Value.ownBlock], fun q hq => (List.not_mem_nil hq).elim⟩, fun k hk => by simp [Value.ownBlock] at hk, fun q hq => (List.not_mem_nil hq).elim, List.Pairwise.nil, fun k hk => ?_, fun k hk => ?_⟩, PM.out.2.1, ?_, PM.out.2.2.1⟩
  · rcases hk with ⟨p, hp, _⟩ | ⟨q, hq, _⟩
    · exact (List.not_mem_nil hp).elim
    · exact (List.not_mem_nil hq).elim
  · rcases hk with ⟨p, hp, _⟩ | ⟨q, hq, _⟩
    · exact (List.not_mem_nil hp).elim
    · exact (List.not_mem_nil hq).elim
  · have := PM.out.2.2.1; have := PM.out.2.2.2; omega
def Off (S : Nat → Prop) (q : Value) (ys : List UInt8) : Prop := ys ≠ [] → ∀ i, q.ownBlock = some i → ¬ S i
theorem rd_empty {w w' : World} {q : Value} (h : Rd w q []) : Rd w' q [] := by
  refine ⟨h.1, ?_⟩
  rcases h.2 with x | ⟨g, off, cap, hv, h1, h2, _, _⟩
  · exact .inl x
  · exact .inr ⟨g, off, cap, hv, h1, h2, .inl rfl, fun j u hj => by simp [bv] at hj⟩
theorem Off.keep {T : Nat → Prop} {w w' : World} {q : Value} {ys : List UInt8} (h : Off T q ys) (hq : Rd w q ys) (hm : Mods T w w') : Rd w' q ys := by
  by_cases hy : ys = []
  · subst hy; exact rd_empty hq
  · exact hq.keep hm (h hy)
theorem Off.mono {S T : Nat → Prop} {q : Value} {ys : List UInt8} (h : Off S q ys) (hs : ∀ k, T k → S k) : Off T q ys := fun hy i hi x => h hy i hi (hs i x)
theorem KM.cells {w : World} {sg mg : Nat} {vo jv : Value} {R : List PV} {J : List JV} {n : Int} (h : KM w sg mg vo R jv J n) : w.cell? ⟨sg, 0, none⟩ = some (.pointer (some ⟨mg, 0, none⟩)) ∧ w.cell? ⟨sg, 1, none⟩ = some jv ∧ w.cell? ⟨sg, 2, none⟩ = some (.int .i64 n) ∧ ∀ o, w.frozen? ⟨sg, o, none⟩ = false :=
  ⟨cells_of h.hg 0, cells_of h.hg 1, cells_of h.hg 2, fun o => free_of h.hg o⟩
theorem KM.add {w : World} {sg mg : Nat} {vo jv : Value} {R : List PV} {J : List JV} {n : Int} (h : KM w sg mg vo R jv J n) (h0 : 0 ≤ n) (h1 : n ≤ 4611686018427387904) : Calls Try.prog 45 #[.pointer (some ⟨sg, 2, none⟩), .int .i64 1] w fun e w' => e = .returned (.int .i64 (n + 1)) ∧ KT w w' sg mg vo R jv J vo R jv J (n + 1) ∧ Mods (fun k => k = sg) w w' := by
  obtain ⟨_, _, c, f⟩ := h.cells
  refine (Add_any c (f 2) (by omega) (by omega)).mono ?_
  rintro e w' ⟨rfl, e'⟩
  exact ⟨rfl, h.tick e', by rw [e']; exact (Mods.refl (fun k => k = sg) w).setCell (p := ⟨sg, 2, none⟩) (.inl rfl) _⟩
theorem kDepth_any {w : World} {sg mg : Nat} {vo jv : Value} {R : List PV} {J : List JV} {n : Int} (h : KM w sg mg vo R jv J n) : Calls Try.prog 16 #[.pointer (some ⟨sg, 0, none⟩)] w fun e w' => e = .returned (.int .i64 (J.length : Nat)) ∧ w' = w := by
  obtain ⟨a, c, hjv, _⟩ := h.row.rd.form
  have c1 := h.cells.2.1
  rw [hjv] at c1
  clear h hjv
  generalize J.length = l at *
  go_enter Try.func16, Try.ntmps16
  go_wp2
  go_ret
  exact ⟨rfl, rfl⟩
theorem kOps_any {w : World} {sg mg : Nat} {vo jv : Value} {R : List PV} {J : List JV} {n : Int} (h : KM w sg mg vo R jv J n) (h0 : 0 ≤ n) (h1 : n ≤ 4611686018427387904) : Calls Try.prog 17 #[.pointer (some ⟨sg, 0, none⟩)] w fun e w' => e = .returned (.int .i64 n) ∧ w' = w := by
  have L := Lib.hid (Load_any h.cells.2.2.1)
  clear h
  go_enter Try.func17, Try.ntmps17
  go_wp2_with fail
  refine L.out.mono ?_
  rintro e w' ⟨rfl, rfl⟩
  go_wp2
  go_ret
  exact ⟨rfl, rfl⟩
set_option maxHeartbeats 1000000 in
theorem kGet_any {w : World} {sg mg : Nat} {vo jv q : Value} {R : List PV} {J : List JV} {n : Int} {ys : List UInt8} (h : KM w sg mg vo R jv J n) (hq : Rd w q ys) (ok : PgOk (pgs R)) (hn : R.length ≤ 1000000) (h0 : 0 ≤ n) (h1 : n ≤ 4611686018427387904) (hqs : Off (fun k => k = sg) q ys) :
    Calls Try.prog 28 #[.pointer (some ⟨sg, 0, none⟩), q] w fun e w' => ∃ v', e = .returned (.tuple #[v', .bool (getP (pgs R) ys).isSome]) ∧ Gl.Own w' v' ((getP (pgs R) ys).getD []) ∧ KT w w' sg mg vo R jv J vo R jv J (n + 1) ∧ freshIn w v' := by
  have ADD := Lib.hid (h.add h0 h1)
  have HQ := Lib.hid hq
  have OK := Lib.hid ok
  clear h hq ok h0 h1
  have QS := Lib.hid hqs
  clear hqs
  obtain ⟨aq, cq, rfl, _⟩ := HQ.out.form
  go_enter Try.func28, Try.ntmps28
  go_wp2_with fail
  refine ADD.out.mono ?_
  rintro e w1 ⟨rfl, t1, m1⟩
  have T1 := Lib.hid t1
  have c0 := t1.km.cells.1
  have hq1 := QS.out.keep HQ.out m1
  have CG := Lib.hid (Get_any t1.km.pm hq1 OK.out hn)
  clear t1 m1 hq1 ADD HQ QS
  go_wp2_with fail
  refine CG.out.mono ?_
  rintro e w2 ⟨v', rfl, o2, m2, f2⟩
  have O := Lib.hid (And.intro o2 (And.intro (T1.out.then0 m2) (f2.of T1.out.mods.size)))
  clear o2 m2 f2 CG T1
  go_wp2
  go_ret2
  exact ⟨_, rfl, O.out⟩
end Go.Proofs.Ytngemlpalkfjeaa

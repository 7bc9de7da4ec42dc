/- kv.Store.Dump: all entries, in memory of their own. -/
import Derived.Test.YtngemlpalkfjeaaKvD0
import Derived.Test.YtngemlpalkfjeaaPgY
namespace Go.Proofs.Ytngemlpalkfjeaa
open Go.Gl Go.RowKit
set_option linter.unusedVariables false
set_option maxRecDepth 100000
theorem wk_all {R : List PV} (ok : PgOk (pgs R)) : (wkL R [] []).map EV.ent = (pgs R).flatten := ents_wk_all ok
set_option maxHeartbeats 4000000 in
theorem kDump_any {w : World} {sg mg : Nat} {vo jv : Value} {R : List PV} {J : List JV} {n : Int} (h : KM w sg mg vo R jv J n) (ok : PgOk (pgs R)) (hn : R.length ≤ 1000000) (hc : (pgs R).flatten.length ≤ 100000000) :
    Calls Try.prog 15 #[.pointer (some ⟨sg, 0, none⟩)] w fun e w' => ∃ v L, e = .returned v ∧ WkGot w w' v L ∧ Mods noB w w' ∧ L.map EV.ent = (pgs R).flatten := by
  have hLL : (wkL R [] []).length ≤ 100000000 := by have := congrArg List.length (wk_all ok); rw [List.length_map] at this; omega
  rw [← wk_all ok]
  (refine calls_marks _ Try.func15 rfl ?_; simp only [Try.ntmps15, List.size_toArray, List.length_cons, List.length_nil, Nat.reduceAdd, Nat.reduceSub, Array.replicate_succ, Array.replicate_zero, List.push_toArray, List.append_toArray, List.nil_append, List.cons_append])
  refine wpIn_seq ?_
  refine wpIn_tl (d := .region 0 (opsC 0 Try.f15) false) (by kernel_rfl) ?_
  refine RW.wpIn (dm0 ?_) (by kernel_rfl)
  intro w1 e1
  subst e1
  refine then_n ?_
  refine wpIn_seq ?_
  refine wpIn_tl (d := .region 1 (opsC 1 Try.f15) false) (by kernel_rfl) ?_
  refine RW.wpIn (dm1 ?_) (by kernel_rfl)
  intros
  rename_i ob w2 e2 h2 m2
  refine then_n ?_
  have k2 := h.keep0 m2
  refine wpIn_seq ?_
  refine wpIn_seq ?_
  refine wpIn_tl (d := .region 2 (opsC 2 Try.f15) false) (by kernel_rfl) ?_
  refine RW.wpIn (dm2 k2.cells.1 (Walk_any k2.pm (Rd.nil w2) (Rd.nil w2) (by simp) (by simp)) ?_) (by kernel_rfl)
  intros
  rename_i m bf bt fv tv w3 hr
  refine then_n ?_
  obtain ⟨wp, m3, g3, g4, g5, f3, f4⟩ := hr
  have hlo := lt_of_heap h2
  have s2 := m2.size
  have s3 := m3.size
  have hob3 := m3.heap h2 (fun x => x)
  have nU : ¬ UWk mg vo R m bf bt fv tv ob := fun x => by
    rcases x with (x | x | x | x | x) | x | x
    · have := h.pm.lt ob x; omega
    · have := h.pm.dlt ob x; omega
    · omega
    · omega
    · have := f3 ob x; omega
    · omega
    · have := f4 ob x; omega
  have hI0 : WdI noB (fun _ => False) (fun _ => .deferred none) w1 (wkL R [] []) ob 0 (UWk mg vo R m bf bt fv tv) w3 (.slice none 0 0) [] :=
    ⟨hob3, fun k x => x.elim, ⟨rfl, .inl ⟨rfl, rfl⟩⟩, fun e he => (List.not_mem_nil he).elim, rfl, nU, fun k x => x.elim, fun k hk => by simp [Value.ownBlock] at hk, fun k ⟨e, he, _⟩ => (List.not_mem_nil he).elim, by omega, fun k x => x.elim, fun x => x, m2.then0 m3, fun k x => x.elim⟩
  refine wpIn_block ?_
  refine wpIn_range0 (by rfl) (enters_of Try.func60 (by kernel_rfl) rfl) (walk_iter wp ok hn (by simp)) (Mods.refl _ _) wp.lt (argsOk_wk _ _) (fun i U args W1 hA => by obtain ⟨e, kv, vv, _, rfl, _⟩ := hA; rfl)
    (fun i U Wr => i ≤ (wkL R [] []).length ∧ ∃ v L, WdI noB (fun _ => False) (fun _ => .deferred none) w1 (wkL R [] []) ob i U Wr v L)
    (fun c i U Wr => False)
    ?_ ?_ ⟨Nat.zero_le _, _, _, hI0⟩ ?_ ?_ ?_
  · rintro i U U' A B' ⟨h1, v, L, h3⟩ hm hus hsub
    exact ⟨h1, v, L, h3.frm (by omega) hm hsub⟩
  · rintro c i U U' A B' h1 hm hus hsub
    exact h1
  · -- one round
    intro lp i U args Wr hlp hUlp hi _ ⟨e, kv, vv, hei, hargs, hok, hov, hkU, hvU, hkv, hkB, hvB⟩ hUs hwr _ ⟨hin, v, L, hI⟩ hab
    subst hargs
    obtain ⟨ak, ck, rfl, _⟩ := hok.rd.form
    obtain ⟨av, cv, rfl, _⟩ := hov.rd.form
    simp only [putArgs, List.setIfInBounds_toArray, List.set_cons_succ, List.set_cons_zero]
    refine wpIn_seq ?_
    refine wpIn_tl (d := .region 3 (opsC 3 Try.f15) false) (by kernel_rfl) ?_
    refine RW.wpIn (dm3 ?_) (by kernel_rfl)
    intro w4 e4
    subst e4
    refine then_n ?_
    refine wpIn_tl (d := .region 4 (opsC 4 Try.f15) false) (by kernel_rfl) ?_
    refine RW.wpIn (dm4 ?_) (by kernel_rfl)
    intro w4 e4
    subst e4
    refine then_n ?_
    refine ⟨Mods.refl _ _, ?_⟩
    intro W2 m2' _
    have hI2 := hI.frm (by omega) (B := W2) (base := w3.heap.size) (U' := fun k => U k ∨ argB #[.slice ak e.k.length ck, .slice av e.v.length cv] k) (m2'.mono (fun k _ hk => by subst hk; exact ⟨.inl hUlp, .inr hlp⟩)) (fun k hk => .inl hk)
    have hok2 := hok.keep m2' (fun k hk x => hkU k hk (x ▸ hUlp))
    have hov2 := hov.keep m2' (fun k hk x => hvU k hk (x ▸ hUlp))
    have hUs2 : ∀ k, U k → k < W2.heap.size := fun k hk => Nat.lt_of_lt_of_le (hUs k hk) m2'.size
    have hlen : L.length = i := by
      have := congrArg List.length hI2.eq
      rw [List.length_map, List.length_map, List.length_take] at this
      omega
    have hsz2 : w4.heap.size ≤ W2.heap.size := m2'.size
    refine wpIn_block ?_
    refine wpIn_tl (d := .region 5 (opsC 5 Try.f15) false) (by kernel_rfl) ?_
    refine RW.wpIn (dm5 hI2.hob hI2.row (by omega) (fun x => (hI2.vb ob x).2.1 rfl) ?_) (by kernel_rfl)
    intros
    rename_i v8 w8 w9 o8 m8 f8 h9
    refine block_n ?_
    obtain ⟨hS, hM, _⟩ := hI2.step0 hlen hei hUs2 hI2.mods.size hkU hvU (fun k hk => by have := hkB k hk; omega) (fun k hk => by have := hvB k hk; omega) hok2 hov2 o8 m8 f8 h9
    exact ⟨hM, hi, _, _, hS⟩
  · -- all have come
    rintro D U W5 hD hUD hus ⟨h1, v, L, h3⟩ hdef
    refine block_n ?_
    refine then_n ?_
    refine wpIn_seq ?_
    refine wpIn_tl (d := .region 6 (opsC 6 Try.f15) false) (by kernel_rfl) ?_
    refine RW.wpIn (dm6 (cells_of h3.hob 0) ?_) (by kernel_rfl)
    intros
    rename_i w6 e6
    subst e6
    refine then_n ?_
    refine wpIn_ret ?_
    refine marks_leave hdef (results_tmp rfl _ _ _) ?_
    obtain ⟨g, gm⟩ := h3.got (putObj_mods _ D _) (fun k hk => by subst hk; exact ⟨hUD, by omega⟩)
    refine ⟨v, L, rfl, g, gm, ?_⟩
    rw [h3.eq, List.take_length]
  · rintro D c i U W5 hD hUD hus hi h1 hdef
    exact h1.elim
end Go.Proofs.Ytngemlpalkfjeaa

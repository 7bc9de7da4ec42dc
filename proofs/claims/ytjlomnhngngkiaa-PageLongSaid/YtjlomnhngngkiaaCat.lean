/- slices.Grow of no page, slices.Concat of two pages. -/
import Derived.Test.YtjlomnhngngkiaaZA
namespace Go.Proofs.Ytjlomnhngngkiaa
open Go.Gl Go.RowKit
set_option linter.unusedVariables false
set_option maxRecDepth 100000

set_option maxHeartbeats 1000000 in
theorem Grow_any {w : World} {n : Nat} (h0 : 0 < n) (hn : n ≤ 1000000) :
    Calls Try.prog 62 #[.slice none 0 0, .int .i64 n] w fun r w' => ∃ g cap, r = .returned (.slice (some ⟨g, 0, none⟩) 0 cap) ∧ OB w' 63 2 g 0 0 cap [] ∧ n ≤ cap ∧ Mods noB w w' ∧ w.heap.size ≤ g := by
  obtain ⟨inf, hi, hz, hs, hb⟩ := info_parts info2
  have hge := grownCap_ge w n 0 63
  have hlm := grownCap_le_maxLen w n 0 63 (by unfold maxLen; omega)
  obtain ⟨cap, W2, hr, hob, hm, hc⟩ : ∃ (cap : Nat) (W2 : World), (∀ ty, (Builtin.append_ #[64, 3] ty #[.slice none 0 0, .int .i64 (n : Nat)]).run Try.prog w = .ok (.slice (some ⟨w.heap.size, 0, none⟩) n cap) W2) ∧ OB W2 63 2 w.heap.size 0 0 cap [] ∧ Mods noB w W2 ∧ n ≤ cap := by
    have hr := fun ty => Lib.run_append_nil_zeros (P := Try.prog) w 64 3 ty 63 inf _ .i64 .i64 Try.underlying64 Try.underlying3 hi hz n h0 (by rw [hs]; omega) (by omega) (by rw [hb]; omega)
    have hzc : ∀ k, (Builtin.zeroCells (Value.cells (.agg #[.slice none 0 0, .slice none 0 0])) k).size = k * 2 := fun k => by rw [size_zeroCells]; rfl
    refine ⟨_, _, hr, ⟨rfl, Nat.zero_le _, hlm, _, heap_new w.drew _, ?_, fun j u hj => by simp at hj⟩, ((Mods.refl noB w).drew).alloc _, hge⟩
    simp only [Array.size_append, hzc]
    omega
  have AP := Lib.hid hr
  have HB := Lib.hid (And.intro hob hm)
  have hc63 : cap ≤ 9223372036854775807 := by simpa [maxLen] using hob.hc
  clear hr hob hm hi hz hs hb hge hlm
  go_enter Try.func62, Try.ntmps62
  go_wp2_with (at_builtin; refine stop ?_)
  unfold Stop
  refine Lib.wpList_append_run _ rfl _ _ _ _ rfl _ _ rfl rfl _ _ (AP.out _) ?_
  go_wp2
  go_ret
  exact ⟨_, _, rfl, HB.out.1, hc, HB.out.2, Nat.le_refl _⟩

/-- 'append(v, u...)' on rows of entries -/
theorem apE {w : World} {v : Value} {n m ug uo uc : Nat} {xs ys : List Value} (hv : OwnG w 63 2 v n xs) (hu : OB w 63 2 ug uo m uc ys) (h1 : ∀ y ∈ ys, y.oneCell' = true) (hn : n + m ≤ 1000000)
    (ops : Array Oper) (Q : Exit → Act → World → Prop) (rest : List Oper) (o : Oper) (a : Act) (s x : Operand) (hgd : o.guard = none) (ho : o.op = .call { callee := .builtin .append, args := #[s, x], argTypes := #[64, 64] }) (h2 : a.eval s = v) (h3 : a.eval x = .slice (some ⟨ug, uo, none⟩) m uc)
    (h : ∀ v' w', OwnG w' 63 2 v' (n + m) (xs ++ ys) → Mods (ofV v) w w' → (v'.ownBlock = v.ownBlock ∨ freshIn w v') → wpList Try.prog ops Q rest (a.put o.dst v') w') : wpList Try.prog ops Q (o :: rest) a w := by
  obtain ⟨inf, hi, hz, hs, hb⟩ := info_parts info2
  refine wpList_ap (P := Try.prog) hgd ho Try.underlying64 Try.underlying64 hi hz (by rw [hs]; rfl) h2 (by rw [hs]; exact hv) h3 (by rw [hs]; exact OwnG.rd hu.own) h1 (by unfold maxLen; omega) (by rw [hb]; omega) ?_
  intro v' w' k1 k2 k3
  rw [hs] at k1
  exact h v' w' k1 k2 k3
/-- what has been laid when k pages are over -/
def CatRel (w : World) (xs ys : List Value) (n m k : Nat) (v : Value) (wx : World) : Prop :=
  (if k = 0 then OwnG wx 63 2 v 0 [] else if k = 1 then OwnG wx 63 2 v n xs else OwnG wx 63 2 v (n + m) (xs ++ ys)) ∧ Mods noB w wx ∧ freshIn w v

set_option maxHeartbeats 2000000 in
theorem Cat_any {w : World} {vg pg po pc qg qo qc n m : Nat} {xs ys : List Value} (hrow : w.heap[vg]? = some (.cells #[.slice (some ⟨pg, po, none⟩) n pc, .slice (some ⟨qg, qo, none⟩) m qc] 64 (0, 0)))
    (hp : OB w 63 2 pg po n pc xs) (hq : OB w 63 2 qg qo m qc ys) (h1 : ∀ y ∈ xs, y.oneCell' = true) (h2 : ∀ y ∈ ys, y.oneCell' = true) (hn0 : 0 < n) (hn : n + m ≤ 1000000) :
    Calls Try.prog 53 #[.slice (some ⟨vg, 0, none⟩) 2 2] w fun r w' => ∃ v', r = .returned v' ∧ OwnG w' 63 2 v' (n + m) (xs ++ ys) ∧ Mods noB w w' ∧ freshIn w v' := by
  have HR := Lib.hid hrow
  have HP := Lib.hid hp
  have HQ := Lib.hid hq
  have H1 := Lib.hid h1
  have H2 := Lib.hid h2
  have c0 : w.cell? ⟨vg, 0, none⟩ = some (.slice (some ⟨pg, po, none⟩) n pc) := cells_of hrow 0
  have c1 : w.cell? ⟨vg, 1, none⟩ = some (.slice (some ⟨qg, qo, none⟩) m qc) := cells_of hrow 1
  clear hrow hp hq h1 h2
  go_enter Try.func53, Try.ntmps53
  go_wp2
  go_loopw [3, 11] (fun sz i wr => ∃ k : Nat, k ≤ 2 ∧ i = .int .i64 k ∧ sz = .int .i64 (if k = 0 then 0 else if k = 1 then (n : Int) else (n : Int) + m) ∧ wr = w) (fun _ i _ => 2 - (intOf i).toNat)
  case atStart => exact ⟨0, by omega, rfl, by simp, rfl⟩
  case round =>
    obtain ⟨k, hk, rfl, rfl, rfl⟩ := hrel
    rcases (by omega : k = 0 ∨ k = 1 ∨ k = 2) with rfl | rfl | rfl
    · go_wp2
      go_roundw
      case rel => exact ⟨1, by omega, by simp, by simp, trivial⟩
      case measure => simp [intOf]
    · go_wp2
      go_roundw
      case rel => exact ⟨2, by omega, by simp, by simp, trivial⟩
      case measure => simp [intOf]
    · obtain ⟨wo, rfl⟩ : ∃ wo : World, wo = wr := ⟨_, rfl⟩
      go_wp2_with fail
      rw [show ((n : Int) + (m : Int)) = ((n + m : Nat) : Int) from by omega]
      refine (Grow_any (by omega) hn).mono ?_
      rintro r w1 ⟨g, cap, rfl, ob, hcap, hm, hg⟩
      have OB1 := Lib.hid (show CatRel wo xs ys n m 0 (.slice (some ⟨g, 0, none⟩) 0 cap) w1 from ⟨by rw [if_pos rfl]; exact ob.own, hm, fun k hk => by simp [Value.ownBlock] at hk; omega⟩)
      clear ob hm c0 c1
      go_wp2
      go_loopw [6, 27] (fun v i wx => ∃ k : Nat, k ≤ 2 ∧ i = .int .i64 k ∧ Hid (CatRel wo xs ys n m k v wx)) (fun _ i _ => 2 - (intOf i).toNat)
      case atStart => exact ⟨0, by omega, rfl, OB1⟩
      case round =>
        obtain ⟨k, hk, rfl, hR⟩ := hrel
        have MX := Lib.hid hR.out.2.1
        have c0 : wr.cell? ⟨vg, 0, none⟩ = some (.slice (some ⟨pg, po, none⟩) n pc) := cells_of (MX.out.heap HR.out (fun x => x)) 0
        have c1 : wr.cell? ⟨vg, 1, none⟩ = some (.slice (some ⟨qg, qo, none⟩) m qc) := cells_of (MX.out.heap HR.out (fun x => x)) 1
        rcases (by omega : k = 0 ∨ k = 1 ∨ k = 2) with rfl | rfl | rfl
        · have o := hR.out.1
          rw [if_pos rfl] at o
          have AP := Lib.hid (apE o (HP.out.keep MX.out (fun x => x)) H1.out (by omega))
          obtain ⟨av, cv, hav, _⟩ := (OwnG.rd o).form
          subst hav
          clear o
          go_wp2_with (at_builtin; refine stop ?_)
          unfold Stop
          refine AP.out _ _ _ _ _ _ _ rfl rfl rfl rfl ?_
          intro v' w' o1 m1 f1
          rw [Nat.zero_add, List.nil_append] at o1
          obtain ⟨a1, c1', rfl, _⟩ := (OwnG.rd o1).form
          have R2 := Lib.hid (show CatRel wo xs ys n m 1 (.slice a1 n c1') w' from ⟨by rw [if_neg (by omega), if_pos rfl]; exact o1, MX.out.trans m1 (U := noB) (fun _ _ x => x) (fun b hb e => by have := hR.out.2.2 b e; omega), f1.elim (fun h => by intro b hb; exact hR.out.2.2 b (h ▸ hb)) (fun h => h.of MX.out.size)⟩)
          clear o1 m1 f1 c0 c1
          go_wp2
          go_roundw
          case rel => exact ⟨1, by omega, by simp, R2⟩
          case measure => simp [intOf]
        · have o := hR.out.1
          rw [if_neg (by omega), if_pos rfl] at o
          have AP := Lib.hid (apE o (HQ.out.keep MX.out (fun x => x)) H2.out (by omega))
          obtain ⟨av, cv, hav, _⟩ := (OwnG.rd o).form
          subst hav
          clear o
          go_wp2_with (at_builtin; refine stop ?_)
          unfold Stop
          refine AP.out _ _ _ _ _ _ _ rfl rfl rfl rfl ?_
          intro v' w' o1 m1 f1
          obtain ⟨a1, c1', rfl, _⟩ := (OwnG.rd o1).form
          have R2 := Lib.hid (show CatRel wo xs ys n m 2 (.slice a1 (n + m) c1') w' from ⟨by rw [if_neg (by omega), if_neg (by omega)]; exact o1, MX.out.trans m1 (U := noB) (fun _ _ x => x) (fun b hb e => by have := hR.out.2.2 b e; omega), f1.elim (fun h => by intro b hb; exact hR.out.2.2 b (h ▸ hb)) (fun h => h.of MX.out.size)⟩)
          clear o1 m1 f1 c0 c1
          go_wp2
          go_roundw
          case rel => exact ⟨2, by omega, by simp, R2⟩
          case measure => simp [intOf]
        · have o := hR.out.1
          rw [if_neg (by omega), if_neg (by omega)] at o
          obtain ⟨av, cv, hav, _⟩ := (OwnG.rd o).form
          subst hav
          have R2 := Lib.hid (And.intro o hR.out.2)
          clear o c0 c1
          go_wp2
          go_ret
          exact ⟨_, rfl, R2.out.1, R2.out.2.1, R2.out.2.2⟩

end Go.Proofs.Ytjlomnhngngkiaa

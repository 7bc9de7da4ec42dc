/- gleanref5.Map: All, Shape. -/
import Derived.Test.YtjlomnhngngkiaaPgQf
import Derived.Test.YtjlomnhngngkiaaPgA
namespace Go.Proofs.Ytjlomnhngngkiaa
open Go.Gl Go.RowKit
set_option linter.unusedVariables false
set_option maxRecDepth 100000

theorem infoR : (Try.prog.info? 44).map (fun i => (i.zero, i.size, i.bytes)) = some (some (.slice none 0 0), 1, 24) := by kernel_rfl
/-- 'append(v, x...)' on pairs -/
theorem apP {w : World} {v u : Value} {n m : Nat} {xs ys : List Value} (hv : OwnG w 52 2 v n xs) (hu : RdG w 2 u m ys) (h1 : ∀ y ∈ ys, y.oneCell' = true) (hn : n + m ≤ 1000000000)
    (ops : Array Oper) (Q : Exit → Act → World → Prop) (rest : List Oper) (o : Oper) (a : Act) (s x : Operand) (hgd : o.guard = none) (ho : o.op = .call { callee := .builtin .append, args := #[s, x], argTypes := #[44, 44] }) (h2 : a.eval s = v) (h3 : a.eval x = u)
    (h : ∀ v' w', OwnG w' 52 2 v' (n + m) (xs ++ ys) → Mods (ofV v) w w' → (v'.ownBlock = v.ownBlock ∨ freshIn w v') → wpList Try.prog ops Q rest (a.put o.dst v') w') : wpList Try.prog ops Q (o :: rest) a w := by
  obtain ⟨inf, hi, hz, hs, hb⟩ := info_parts infoP
  refine wpList_ap (P := Try.prog) hgd ho Try.underlying44 Try.underlying44 hi hz (by rw [hs]; rfl) h2 (by rw [hs]; exact hv) h3 (by rw [hs]; exact hu) h1 (by unfold maxLen; omega) (by rw [hb]; omega) ?_
  intro v' w' k1 k2 k3
  rw [hs] at k1
  exact h v' w' k1 k2 k3
/-- .. on pages -/
theorem apR {w : World} {v u : Value} {n m : Nat} {xs ys : List Value} (hv : OwnG w 44 1 v n xs) (hu : RdG w 1 u m ys) (h1 : ∀ y ∈ ys, y.oneCell' = true) (hn : n + m ≤ 1000000000)
    (ops : Array Oper) (Q : Exit → Act → World → Prop) (rest : List Oper) (o : Oper) (a : Act) (s x : Operand) (hgd : o.guard = none) (ho : o.op = .call { callee := .builtin .append, args := #[s, x], argTypes := #[29, 29] }) (h2 : a.eval s = v) (h3 : a.eval x = u)
    (h : ∀ v' w', OwnG w' 44 1 v' (n + m) (xs ++ ys) → Mods (ofV v) w w' → (v'.ownBlock = v.ownBlock ∨ freshIn w v') → wpList Try.prog ops Q rest (a.put o.dst v') w') : wpList Try.prog ops Q (o :: rest) a w := by
  obtain ⟨inf, hi, hz, hs, hb⟩ := info_parts infoR
  refine wpList_ap (P := Try.prog) hgd ho Try.underlying29 Try.underlying29 hi hz (by rw [hs]; rfl) h2 (by rw [hs]; exact hv) h3 (by rw [hs]; exact hu) h1 (by unfold maxLen; omega) (by rw [hb]; omega) ?_
  intro v' w' k1 k2 k3
  rw [hs] at k1
  exact h v' w' k1 k2 k3

/-- all entries as they lie -/
def allE (R : List PV) : List EV := R.flatMap (·.es)
theorem allE_ent (R : List PV) : (allE R).map EV.ent = (pgs R).flatten := by
  unfold allE pgs ents
  induction R with
  | nil => rfl
  | cons p R ih => rw [List.flatMap_cons, List.map_append, ih]; rfl
theorem allE_len (R : List PV) : (allE R).length = cnt (pgs R) := by
  have := congrArg List.length (allE_ent R)
  rwa [List.length_map] at this
theorem allE_take {R : List PV} {k : Nat} (hk : k < R.length) : allE (R.take (k + 1)) = allE (R.take k) ++ (R[k]).es := by
  unfold allE
  rw [List.take_succ_eq_append_getElem hk, List.flatMap_append]
  simp
theorem allE_take_le (R : List PV) (k : Nat) : (allE (R.take k)).length ≤ (allE R).length := by
  have h : allE R = allE (R.take k) ++ allE (R.drop k) := by
    unfold allE
    rw [← List.flatMap_append, List.take_append_drop]
  rw [h, List.length_append]
  omega
theorem GrP.more {w w' w'' : World} {v v8 : Value} {L M : List EV} (h : GrP w w' v L) (o : OwnG w'' 52 2 v8 (L.length + M.length) (ecell L ++ ecell M)) (m : Mods (ofV v) w' w'') (f : v8.ownBlock = v.ownBlock ∨ freshIn w' v8) : GrP w w'' v8 (L ++ M) := by
  refine ⟨?_, h.mods.trans m (fun _ _ x => x) (fun i hi x => by have := h.fr i x; omega), ?_⟩
  · rw [List.length_append, ecell_append]; exact o
  · rcases f with f | f
    · exact fun k hk => h.fr k (f ▸ hk)
    · exact f.of h.mods.size

set_option maxHeartbeats 4000000 in
theorem All_any {w : World} {g : Nat} {vo : Value} {R : List PV} (hm : QM w g vo R) (hn : R.length ≤ 1000000) (hc : cnt (pgs R) ≤ 100000000) :
    Calls Try.prog 45 #[.pointer (some ⟨g, 0, none⟩)] w fun e w' => ∃ v', e = .returned v' ∧ GrP w w' v' (allE R) := by
  obtain ⟨ao, cap, hvo, _⟩ := (OwnG.rd hm.row).form
  have c0 := cells_of hm.hg 0
  rw [hvo] at c0
  rw [← allE_len] at hc
  have HM := Lib.hid hm
  have HC := Lib.hid hc
  obtain ⟨n, hN⟩ : ∃ n, R.length = n := ⟨_, rfl⟩
  have HN := Lib.hid hN
  rw [hN] at c0 hn
  clear hm hN hc
  go_enter Try.func45, Try.ntmps45
  go_wp2
  go_loopw [3, 4] (fun v i wr => ∃ k : Nat, k ≤ n ∧ i = .int .i64 k ∧ Hid (GrP w wr v (allE (R.take k)))) (fun _ i _ => n - (intOf i).toNat)
  case atStart => exact ⟨0, Nat.zero_le _, rfl, Lib.hid (by rw [List.take_zero]; exact GrP.nil w)⟩
  case round =>
    obtain ⟨k, hk, rfl, hI⟩ := hrel
    have d0 := (cells_of (HM.out.keep0 hI.out.mods).hg 0)
    rw [hvo, HN.out] at d0
    clear c0
    by_cases hlt : k < n
    · have lk : k < R.length := by rw [HN.out]; exact hlt
      rcases HM.out.open with ⟨h0, _⟩ | ⟨b, off, cp, hv, _, _, _⟩
      · rw [h0] at lk; simp at lk
      obtain ⟨rfl, rfl⟩ : ao = some ⟨b, off, none⟩ ∧ cap = cp := by simpa using hvo.symm.trans hv
      subst hv
      have c1 := (HM.out.at hI.out.mods lk).c1
      have hp := (HM.out.keep0 hI.out.mods).page (List.getElem_mem lk)
      obtain ⟨a1, k1, e1, _⟩ := hp.row.form
      have h1 := ecell_one hp.ents
      have hrow := hp.row
      rw [e1] at c1 hrow
      have hki : (k : Int) < (n : Int) := by omega
      have HT := Lib.hid (allE_take lk)
      have hle := allE_take_le R (k + 1)
      rw [allE_take lk, List.length_append] at hle
      have HLE := Lib.hid (Nat.le_trans hle HC.out)
      have HR := Lib.hid (And.intro hrow h1)
      clear hp e1 hle hrow h1
      generalize (R[k]).es = es at *
      generalize allE (R.take k) = L at *
      obtain ⟨m, hm⟩ : ∃ m, es.length = m := ⟨_, rfl⟩
      have HMm := Lib.hid hm
      rw [hm] at c1
      clear hm
      go_wp2_with (at_builtin; refine stop ?_)
      unfold Stop
      refine apP (hI.out.row) (by have := HR.out.1; rw [HMm.out] at this; exact this) HR.out.2 (by have := HLE.out; rw [HMm.out] at this; omega) _ _ _ _ _ _ _ rfl rfl rfl rfl ?_
      intro v' w' k1 k2 k3
      have I2 := Lib.hid (hI.out.more (by rw [HMm.out]; exact k1) k2 k3)
      rw [← HT.out] at I2
      clear k1 k2 k3
      go_wp2
      go_roundw
      case rel => exact ⟨k + 1, by omega, by go_num, I2⟩
      case measure => simp [intOf]; omega
    · obtain rfl : k = n := by omega
      go_wp2
      go_ret
      have h := hI.out
      rw [List.take_of_length_le (by rw [HN.out]; exact Nat.le_refl _)] at h
      exact ⟨_, rfl, h⟩

set_option maxHeartbeats 4000000 in
theorem Shape_any {w : World} {g : Nat} {vo : Value} {R : List PV} (hm : QM w g vo R) (hn : R.length ≤ 1000000) :
    Calls Try.prog 46 #[.pointer (some ⟨g, 0, none⟩)] w fun e w' => ∃ v', e = .returned v' ∧ IG w ((pgs R).map List.length) w' v' := by
  obtain ⟨ao, cap, hvo, _⟩ := (OwnG.rd hm.row).form
  have c0 := cells_of hm.hg 0
  rw [hvo] at c0
  have HM := Lib.hid hm
  obtain ⟨n, hN⟩ : ∃ n, R.length = n := ⟨_, rfl⟩
  have HN := Lib.hid hN
  rw [hN] at c0 hn
  clear hm hN
  go_enter Try.func46, Try.ntmps46
  go_wp2
  go_loopw [3, 4] (fun v i wr => ∃ k : Nat, k ≤ n ∧ i = .int .i64 k ∧ Hid (IG w (((pgs R).map List.length).take k) wr v)) (fun _ i _ => n - (intOf i).toNat)
  case atStart => exact ⟨0, Nat.zero_le _, rfl, Lib.hid (by rw [List.take_zero]; exact IG.nil w)⟩
  case round =>
    obtain ⟨k, hk, rfl, hI⟩ := hrel
    have d0 := (cells_of (HM.out.keep0 hI.out.mods).hg 0)
    rw [hvo, HN.out] at d0
    clear c0
    by_cases hlt : k < n
    · have lk : k < R.length := by rw [HN.out]; exact hlt
      rcases HM.out.open with ⟨h0, _⟩ | ⟨b, off, cp, hv, _, _, _⟩
      · rw [h0] at lk; simp at lk
      obtain ⟨rfl, rfl⟩ : ao = some ⟨b, off, none⟩ ∧ cap = cp := by simpa using hvo.symm.trans hv
      subst hv
      have c1 := (HM.out.at hI.out.mods lk).c1
      obtain ⟨a1, k1, e1, _⟩ := (HM.out.page (List.getElem_mem lk)).row.form
      rw [e1] at c1
      have hki : (k : Int) < (n : Int) := by omega
      have hlen : (((pgs R).map List.length).take k).length = k := by rw [List.length_take, List.length_map, pgs_length]; omega
      have htake : ((pgs R).map List.length).take (k + 1) = ((pgs R).map List.length).take k ++ [(R[k]).es.length] := by
        rw [List.take_succ_eq_append_getElem (by rw [List.length_map, pgs_length]; exact lk)]
        congr 2
        simp [pgs, ents]
      have HT := Lib.hid (And.intro hlen htake)
      generalize (R[k]).es.length = m at *
      clear hlen htake e1
      go_wp2_with (at_builtin; refine stop ?_)
      unfold Stop
      refine apI (n := k) (by have := hI.out.own.keep ((Mods.refl noB wr).alloc (.cells #[.int .i64 (m : Int)] 3)) (fun _ _ x => x); rw [HT.out.1] at this; exact this) (ob_new1 (heap_new wr _)) (by simp [Value.oneCell']) (by omega) _ _ _ _ _ _ _ rfl rfl rfl rfl ?_
      intro v' w' k1 k2 k3
      have I2 := Lib.hid (hI.out.push (n := m) ((Mods.refl noB wr).alloc _) (by rw [HT.out.1]; exact k1) k2 k3)
      rw [← HT.out.2] at I2
      clear k1 k2 k3
      go_wp2
      go_roundw
      case rel => exact ⟨k + 1, by omega, by go_num, I2⟩
      case measure => simp [intOf]; omega
    · obtain rfl : k = n := by omega
      go_wp2
      go_ret
      have h := hI.out
      rw [List.take_of_length_le (by rw [List.length_map, pgs_length, HN.out]; exact Nat.le_refl _)] at h
      exact ⟨_, rfl, h⟩

end Go.Proofs.Ytjlomnhngngkiaa

/- page.Map: Pages; lists of ints that grow. -/
import Derived.Test.YtjlomnhngngkiaaPgE
namespace Go.Proofs.Ytjlomnhngngkiaa
open Go.Gl Go.RowKit
set_option linter.unusedVariables false
set_option maxRecDepth 100000

/-- the cells of the row of the pages -/
theorem PM.rowcell {w w' : World} {g b off n cap : Nat} {R : List PV} (h : PM w g (.slice (some ⟨b, off, none⟩) n cap) R) (hm : Mods noB w w') {i : Nat} (hi : i < R.length) : w'.cell? ⟨b, off + i, none⟩ = some (R[i]).pv := by
  have := (h.keep0 hm).open
  rcases this with ⟨h1, _⟩ | ⟨b', off', cap', hv, _, _, hc⟩
  · rw [h1] at hi; simp at hi
  · cases hv
    exact hc i hi

theorem infoInt : (Try.prog.info? 3).map (fun i => (i.zero, i.size, i.bytes)) = some (some (.int .i64 0), 1, 8) := by kernel_rfl
/-- 'append(v, x)' on ints -/
theorem apI {w : World} {v : Value} {n ug uo uc : Nat} {xs ys : List Value} (hv : OwnG w 3 1 v n xs) (hu : OB w 3 1 ug uo 1 uc ys) (h1 : ∀ y ∈ ys, y.oneCell' = true) (hn : n + 1 ≤ 1000000000)
    (ops : Array Oper) (Q : Exit → Act → World → Prop) (rest : List Oper) (o : Oper) (a : Act) (s x : Operand) (hgd : o.guard = none) (ho : o.op = .call { callee := .builtin .append, args := #[s, x], argTypes := #[54, 54] }) (h2 : a.eval s = v) (h3 : a.eval x = .slice (some ⟨ug, uo, none⟩) 1 uc)
    (h : ∀ v' w', OwnG w' 3 1 v' (n + 1) (xs ++ ys) → Mods (ofV v) w w' → (v'.ownBlock = v.ownBlock ∨ freshIn w v') → wpList Try.prog ops Q rest (a.put o.dst v') w') : wpList Try.prog ops Q (o :: rest) a w := by
  obtain ⟨inf, hi, hz, hs, hb⟩ := info_parts infoInt
  refine wpList_ap (P := Try.prog) hgd ho Try.underlying54 Try.underlying54 hi hz (by rw [hs]; rfl) h2 (by rw [hs]; exact hv) h3 (by rw [hs]; exact OwnG.rd hu.own) h1 (by unfold maxLen; omega) (by rw [hb]; omega) ?_
  intro v' w' k1 k2 k3
  rw [hs] at k1
  exact h v' w' k1 k2 k3

def ints (l : List Nat) : List Value := l.map (fun n => .int .i64 (n : Nat))
theorem ints_length (l : List Nat) : (ints l).length = l.length := by simp [ints]
/-- a list of ints that has grown since w0 -/
structure IG (w0 : World) (l : List Nat) (w : World) (v : Value) : Prop where
  own : OwnG w 3 1 v l.length (ints l)
  mods : Mods noB w0 w
  fresh : freshIn w0 v
theorem IG.nil (w : World) : IG w [] w (.slice none 0 0) := ⟨⟨rfl, .inl ⟨rfl, rfl⟩⟩, Mods.refl _ _, fun k hk => by simp [Value.ownBlock] at hk⟩
theorem IG.then0 {w0 w w' : World} {l : List Nat} {v : Value} (h : IG w0 l w v) (hm : Mods noB w w') : IG w0 l w' v := ⟨h.own.keep hm (fun _ _ x => x), h.mods.then0 hm, h.fresh⟩
theorem IG.push {w0 w w1 w' : World} {l : List Nat} {v v' : Value} {n : Nat} (h : IG w0 l w v) (h1 : Mods noB w w1) (h2 : OwnG w' 3 1 v' (l.length + 1) (ints l ++ [.int .i64 (n : Nat)])) (h3 : Mods (ofV v) w1 w') (h4 : v'.ownBlock = v.ownBlock ∨ freshIn w1 v') : IG w0 (l ++ [n]) w' v' := by
  refine ⟨?_, (h.mods.then0 h1).trans h3 (fun _ _ x => x) (fun i hi hk => absurd (h.fresh i hk) (by omega)), fun k hk => ?_⟩
  · have e : ints l ++ [.int .i64 (n : Nat)] = ints (l ++ [n]) := by simp [ints]
    rw [← e, List.length_append, List.length_singleton]
    exact h2
  · rcases h4 with h4 | h4
    · exact h.fresh k (h4 ▸ hk)
    · have := h4 k hk; have := (h.mods.then0 h1).size; omega

set_option maxHeartbeats 4000000 in
theorem Pages_any {w : World} {g : Nat} {vo : Value} {R : List PV} (hm : PM w g vo R) (hn : R.length ≤ 1000000) :
    Calls Try.prog 30 #[.pointer (some ⟨g, 0, none⟩)] w fun e w' => ∃ v', e = .returned v' ∧ IG w ((pgs R).map List.length) w' v' := by
  obtain ⟨ao, cap, hvo, _⟩ := (OwnG.rd hm.row).form
  have c0 := cells_of hm.hg 0
  rw [hvo] at c0
  have HM := Lib.hid hm
  obtain ⟨n, hN⟩ : ∃ n, R.length = n := ⟨_, rfl⟩
  have HN := Lib.hid hN
  rw [hN] at c0 hn
  clear hm hN
  go_enter Try.func30, Try.ntmps30
  go_wp2
  go_loopw [3, 11] (fun v i wr => ∃ k : Nat, k ≤ n ∧ i = .int .i64 k ∧ Hid (IG w (((pgs R).map List.length).take k) wr v)) (fun _ i _ => n - (intOf i).toNat)
  case atStart => exact ⟨0, Nat.zero_le _, rfl, Lib.hid (by rw [List.take_zero]; exact IG.nil w)⟩
  case round =>
    obtain ⟨k, hk, rfl, hI⟩ := hrel
    by_cases hlt : k < n
    · have lk : k < R.length := by rw [HN.out]; exact hlt
      rcases HM.out.open with ⟨h0, _⟩ | ⟨b, off, cp, hv, _, _, _⟩
      · rw [h0] at lk; simp at lk
      obtain ⟨rfl, rfl⟩ : ao = some ⟨b, off, none⟩ ∧ cap = cp := by simpa using hvo.symm.trans hv
      subst hv
      have c1 := HM.out.rowcell hI.out.mods lk
      obtain ⟨a1, k1, e1, _⟩ := (HM.out.page (List.getElem_mem lk)).row.form
      rw [e1] at c1
      have hki : (k : Int) < (n : Int) := by omega
      have hlen : (((pgs R).map List.length).take k).length = k := by rw [List.length_take, List.length_map, pgs_length]; omega
      have htake : ((pgs R).map List.length).take (k + 1) = ((pgs R).map List.length).take k ++ [(R[k]).es.length] := by
        rw [List.take_succ_eq_append_getElem (by rw [List.length_map, pgs_length]; exact lk)]
        congr 2
        simp [pgs, ents]
      have HT := Lib.hid (And.intro hlen htake)
      generalize (R[k]).es.length = m at *

      obtain ⟨av, cv, hav, _⟩ := hI.out.own.rd.form
      rw [hlen] at hav
      subst hav
      clear hlen htake e1 c0
      go_wp2_with (at_builtin; refine stop ?_)
      unfold Stop
      refine apI (n := k) (by have := hI.out.own.keep ((Mods.refl noB wr).alloc (.cells #[.int .i64 (m : Int)] 3)) (fun _ _ x => x); rw [HT.out.1] at this; exact this) (ob_new1 (heap_new wr _)) (by simp [Value.oneCell']) (by omega) _ _ _ _ _ _ _ rfl rfl rfl rfl ?_
      intro v' w' k1 k2 k3
      have I2 := Lib.hid (hI.out.push (n := m) ((Mods.refl noB wr).alloc _) (by rw [HT.out.1]; exact k1) k2 k3)
      rw [← HT.out.2] at I2
      clear k1 k2 k3
      go_wp2
      go_roundw
      case rel => exact ⟨k + 1, by omega, by go_num, I2⟩
      case measure => simp [intOf]; omega
    · obtain rfl : k = n := by omega
      go_wp2
      go_ret
      have h := hI.out
      rw [List.take_of_length_le (by rw [List.length_map, pgs_length, HN.out]; exact Nat.le_refl _)] at h
      exact ⟨_, rfl, h⟩

end Go.Proofs.Ytjlomnhngngkiaa

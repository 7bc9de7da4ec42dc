/- The argument of enc's laws: a script of steps. -/
import Derived.Test.YtngemlpalkfjeaaArgs
import Derived.Test.YtngemlpalkfjeaaNLib
import Derived.Deep.Slices
import Derived.Deep.Fields
import Derived.ChangeSame
import Derived.SizedLaws
namespace Go.Proofs.Ytngemlpalkfjeaa
open Go.Gl Go.RowKit Go.ChangeShapes Go.WideShapes Go.ChangeAt Go.Deep
set_option linter.unusedVariables false
set_option maxRecDepth 100000
theorem list_of {α : Type} {p : Nat → α → Prop} (n : Nat) (h : ∀ i, i < n → ∃ x, p i x) : ∃ xs : List α, xs.length = n ∧ ∀ i (hi : i < xs.length), p i xs[i] := by
  induction n with
  | zero => exact ⟨[], rfl, fun i hi => by simp at hi⟩
  | succ n ih =>
    obtain ⟨xs, h1, h2⟩ := ih (fun i hi => h i (by omega))
    obtain ⟨x, hx⟩ := h n (by omega)
    refine ⟨xs ++ [x], by simp [h1], fun i hi => ?_⟩
    by_cases hin : i < xs.length
    · rw [List.getElem_append_left hin]
      exact h2 i hin
    · have : i = xs.length := by simp at hi; omega
      subst this
      rw [List.getElem_append_right (Nat.le_refl _)]
      simpa [h1] using hx
section
variable {H : Type} {enc : TypeId × Value → H} {P : Program} {w : World} {base : Nat} {spare : Nat → Bool} {held : Bool}
theorem open_slice_fields {t e : TypeId} {fs : Array Field} {fuel : Nat} {cs : List Value} {x : DataW H × List MemPlace} (ht : P.underlying t = some (.slice e)) (he : P.underlying e = some (.struct fs))
    (hone : oneCellFields P fs = true) (hC : P.cellsOf e = fs.size) (h : DataW.trod enc P w base spare held fuel t cs = some x) :
    (cs = [.slice none 0 0] ∧ x = (.nil, [])) ∨
    ∃ (a : Addr) (len cap m : Nat) (D : Nat → DataW H) (Pl : Nat → List MemPlace), cs = [.slice (some a) len cap] ∧ base ≤ a.block ∧ len ≤ cap ∧ cap ≤ maxLen ∧ m = (if spare a.block then cap else len) ∧
      x.1 = .slice ((List.range len).map D) ((List.range (m - len)).map fun j => D (len + j)) ∧
      ∀ i, i < m → ∃ (ys : List (DataW H × List MemPlace)) (n : Nat), D i = .agg (ys.map (·.1)) ∧ Pl i = ys.flatMap (·.2) ∧ ys.length = fs.size ∧
        ∀ (j : Nat) (f : Field), fs[j]? = some f → ∃ (v : Value) (y : DataW H × List MemPlace), w.cell? (a.add (i * fs.size + j)) = some v ∧ ys[j]? = some y ∧ DataW.trod enc P w base spare held n f.type [v] = some y := by
  rcases open_slice ht h with h0 | ⟨a, len, cap, m, n, D, Pl, hcs, hb, hl, hm, hmm, hx, hi⟩
  · exact .inl h0
  · refine .inr ⟨a, len, cap, m, D, Pl, hcs, hb, hl, hm, hmm, by rw [hx], fun i him => ?_⟩
    obtain ⟨cs', hc, ht'⟩ := hi i him
    rw [hC] at hc
    obtain ⟨ys, n', hn', hy, hlen, hyl, hf⟩ := DataW.trod_struct he ht'
    obtain ⟨_, hcl, hat⟩ := World.cells?_some hc
    simp only [Prod.mk.injEq] at hy
    refine ⟨ys, n', hy.1, hy.2, hyl, fun j f hj => ?_⟩
    obtain ⟨ho, hk⟩ := hone_of hone j f hj
    have hjl : j < fs.size := (Array.getElem?_eq_some_iff.1 hj).1
    have hcell := hat j hjl
    have hv : cs'[j]? = some (cs'[j]'(by omega)) := List.getElem?_eq_getElem (by omega)
    have h1 := hf j f hj
    rw [ho, hk] at h1
    have hone' : (cs'.drop j).take 1 = [cs'[j]'(by omega)] := by
      rw [List.drop_eq_getElem_cons (by omega)]
      rfl
    rw [hone'] at h1
    have hys : ys[j]? = some (ys[j]'(by omega)) := List.getElem?_eq_getElem (by omega)
    refine ⟨_, _, ?_, hys, h1.trans hys⟩
    rw [← Go.Deep.add_add, hcell, hv]
end
theorem rdM_of_ints {H : Type} {enc : TypeId × Value → H} {W : World} {t e : TypeId} {k : IntKind} {fuel : Nat} {v : Value} {x : DataW H × List MemPlace} (ht : Try.prog.underlying t = some (.slice e)) (he : Try.prog.underlying e = some (.int k)) (hc : Try.prog.cellsOf e = 1)
    (hf : DataW.trod enc Try.prog W 0 (fun _ => true) true fuel t [v] = some x) (hb : 1 ≤ Try.prog.bytesOf e) (hw : ∀ q ∈ x.1.weights Try.prog t, q ≤ reachBytes) : ∃ zs : List Int, RdM (fun z => Value.int k z) W v zs ∧ (∀ z ∈ zs, (Lit.int k z).wf = true) ∧ zs.length ≤ 140737488355328 := by
  rcases open_ints ht he hc hf with ⟨hcs, _⟩ | ⟨a, l, c, zs, hcs, _, hl, hm, hz, hx, hcell, hwz⟩
  · cases hcs
    exact ⟨[], RdM.nil _ _, fun z hz => (by cases hz), by simp⟩
  · cases hcs
    have hz' : zs.length = c := by simpa using hz
    have hw' := hw (((lits k (zs.take l)).length + (lits k (zs.drop l)).length) * Try.prog.bytesOf e) (by rw [hx]; simp only [DataW.weights, ht]; exact List.mem_cons_self ..)
    have hll : l ≤ 140737488355328 := by
      have h1 : l * 1 ≤ l * Try.prog.bytesOf e := Nat.mul_le_mul_left _ hb
      have h2 := Nat.le_trans (Nat.mul_le_mul_right (Try.prog.bytesOf e) (show l ≤ (lits k (zs.take l)).length + (lits k (zs.drop l)).length from by simp [lits]; omega)) hw'
      have h3 := reachBytes_lt
      omega
    obtain ⟨g, off, sp⟩ := a
    by_cases hc0 : c = 0
    · subst hc0
      obtain rfl : l = 0 := by omega
      refine ⟨[], ⟨rfl, ?_⟩, fun z hz => (by cases hz), by simp⟩
      rcases sp with _ | s
      · exact .inr ⟨g, off, 0, rfl, Nat.le_refl _, by simp, .inl rfl, fun j u hj => by simp at hj⟩
      · exact .inl ⟨.inr ⟨g, off, s, rfl⟩, rfl⟩
    · have h0 := hcell 0 (by omega)
      have hsp : sp = none := by
        rcases sp with _ | s
        · rfl
        · simp only [Addr.add, if_pos, World.cell?] at h0
          split at h0 <;> simp at h0
      subst hsp
      have hg : g < W.heap.size := by
        rcases Nat.lt_or_ge g W.heap.size with hlt | hge
        · exact hlt
        · simp [Addr.add, World.cell?, Array.getElem?_eq_none hge] at h0
      refine ⟨zs.take l, rdM_of (by rw [List.length_take]; omega) hl hm (.inr hg) (fun i hi => ?_), fun z hz => hwz z (List.mem_of_mem_take hz), by rw [List.length_take]; omega⟩
      have hil : i < l := by rw [List.length_take] at hi; omega
      have hc := hcell i (by omega)
      rw [show (⟨g, off, none⟩ : Addr).add i = ⟨g, off + i, none⟩ from Addr.add_lit ..] at hc
      rw [hc, List.getElem_take, List.getD, List.getElem?_eq_getElem (by omega)]
      rfl
theorem RdM.map_of {α β : Type} {f : α → Value} {h : β → Value} {w : World} {v : Value} {xs : List α} (k : α → β) (e : ∀ x ∈ xs, h (k x) = f x) (hr : RdM f w v xs) : RdM h w v (xs.map k) := by
  unfold RdM at *
  rw [List.length_map, List.map_map, show xs.map (h ∘ k) = xs.map f from List.map_congr_left (fun x hx => e x hx)]
  exact hr
theorem weights_all {H : Type} {P : Program} {e : TypeId} : ∀ {l : List (DataW H)} {d : DataW H}, d ∈ l → ∀ n ∈ d.weights P e, n ∈ DataW.weightsAll P e l
  | d0 :: l, d, hd, n, hn => by
    rw [DataW.weightsAll, List.mem_append]
    rcases List.mem_cons.1 hd with rfl | hd
    · exact .inl hn
    · exact .inr (weights_all hd n hn)
theorem weights_field {H : Type} {P : Program} {t e : TypeId} {fs : Array Field} (ht : P.underlying t = some (.slice e)) (he : P.underlying e = some (.struct fs)) {d : DataW H} {len : Nat} {D : Nat → DataW H} {rest : List (DataW H)} (hd : d = .slice ((List.range len).map D) rest)
    (hw : ∀ q ∈ d.weights P t, q ≤ reachBytes) {i : Nat} (hil : i < len) {ys : List (DataW H × List MemPlace)} (hD : D i = .agg (ys.map (·.1))) {j : Nat} {f : Field} {y : DataW H × List MemPlace} (hj : fs[j]? = some f) (hy : ys[j]? = some y) : ∀ q ∈ y.1.weights P f.type, q ≤ reachBytes := by
  intro q hq
  refine hw q ?_
  rw [hd]
  simp only [DataW.weights, ht]
  refine List.mem_cons_of_mem _ (List.mem_append_left _ (weights_all (d := D i) (List.mem_map.2 ⟨i, List.mem_range.2 hil, rfl⟩) q ?_))
  rw [hD]
  simp only [DataW.weights, he]
  exact DataW.weights_mem_each (j := j) (by rw [List.getElem?_map, Array.getElem?_toList, hj]; rfl) (by rw [List.getElem?_map, hy]; rfl) q hq
end Go.Proofs.Ytngemlpalkfjeaa

/- The arguments of ante's laws: purses, transactions. -/
import Derived.Test.YtglkmaalpammcaaGreatSteps
import Derived.Test.YtglkmaalpammcaaGreatBkArg
namespace Go.Proofs.YtglkmaalpammcaaGreat
open Go.Gl Go.RowKit Go.ChangeShapes Go.WideShapes Go.ChangeAt Go.Deep
set_option linter.unusedVariables false
set_option maxRecDepth 100000
def RdRow {α : Type} (m : Nat) (cell : α → Nat → Value) (ok : α → Prop) (w : World) (v : Value) (ss : List α) : Prop :=
 (v = .slice none 0 0 ∧ ss = []) ∨ ∃ g off cap, v = .slice (some ⟨g, off, none⟩) ss.length cap ∧ ss.length ≤ cap ∧ cap ≤ maxLen ∧ g < w.heap.size ∧
  ∀ i (hi : i < ss.length), (∀ j, j < m → w.cell? ⟨g, off + i * m + j, none⟩ = some (cell ss[i] j)) ∧ ok ss[i]
theorem RdRow.form {α : Type} {m : Nat} {cell : α → Nat → Value} {ok : α → Prop} {w : World} {v : Value} {ss : List α} (h : RdRow m cell ok w v ss) : ∃ a n cap, v = .slice a n cap ∧ ss.length = n ∧ n ≤ cap ∧ cap ≤ 9223372036854775807 ∧
  (n = 0 ∨ ∃ g off, a = some ⟨g, off, none⟩ ∧ g < w.heap.size ∧ ∀ i (hi : i < ss.length), (∀ j, j < m → w.cell? ⟨g, off + i * m + j, none⟩ = some (cell ss[i] j)) ∧ ok ss[i]) := by
 rcases h with ⟨rfl, rfl⟩ | ⟨g, off, cap, hv, h1, h2, h3, h4⟩
 ·exact ⟨none, 0, 0, rfl, rfl, Nat.le_refl _, by omega, .inl rfl⟩
 ·exact ⟨_, _, cap, hv, rfl, h1, by simpa [maxLen] using h2, .inr ⟨g, off, rfl, h3, h4⟩⟩
theorem row_at {α : Type} {m : Nat} {cell : α → Nat → Value} {ok : α → Prop} {w wr : World} {a : Option Addr} {n i : Nat} {ss : List α} (G : n = 0 ∨ ∃ g off, a = some ⟨g, off, none⟩ ∧ g < w.heap.size ∧ ∀ i (hi : i < ss.length), (∀ j, j < m → w.cell? ⟨g, off + i * m + j, none⟩ = some (cell ss[i] j)) ∧ ok ss[i]) (mm : Mods noB w wr) (hl : ss.length = n) (hi : i < ss.length) :
  ∃ g off, a = some ⟨g, off, none⟩ ∧ g < wr.heap.size ∧ g < w.heap.size ∧ (∀ j, j < m → wr.cell? ⟨g, off + i * m + j, none⟩ = some (cell ss[i] j)) ∧ ok ss[i] := by
 rcases G with h | ⟨g, off, rfl, hg, h⟩
 ·omega
 ·obtain ⟨h1, h2⟩ := h i hi
  exact ⟨g, off, rfl, mm.size_of hg, hg, fun j hj => (mm.cellAt hg (fun x => x) _).trans (h1 j hj), h2⟩
theorem RdRow.keep {α : Type} {m : Nat} {cell : α → Nat → Value} {ok : α → Prop} {w w' : World} {v : Value} {ss : List α} (h : RdRow m cell ok w v ss) (hm : Mods noB w w') : RdRow m cell ok w' v ss := by
 rcases h with h | ⟨g, off, cap, hv, h1, h2, h3, h4⟩
 ·exact .inl h
 ·exact .inr ⟨g, off, cap, hv, h1, h2, hm.size_of h3, fun i hi => ⟨fun j hj => (hm.cellAt h3 (fun x => x) _).trans ((h4 i hi).1 j hj), (h4 i hi).2⟩⟩
def purC (p : Nat × Nat) : Nat → Value
 | 0 => .int .u64 ((p.1 : Nat) : Int)
 | _ => .int .u64 ((p.2 : Nat) : Int)
def RdPu (w : World) (v : Value) (ps : List (Nat × Nat)) : Prop := RdRow 2 purC (fun p => U64 p.1 ∧ U64 p.2) w v ps
structure TxS where
 s : Nat
 q : Nat
 f : Nat
 kd : Int
 a : Nat
 b : Nat
 m : Nat
def TxS.cells (t : TxS) : List Value := [.int .u64 ((t.s : Nat) : Int), .int .u64 ((t.q : Nat) : Int), .int .u64 ((t.f : Nat) : Int), .int .i64 t.kd, .int .u64 ((t.a : Nat) : Int), .int .u64 ((t.b : Nat) : Int), .int .u64 ((t.m : Nat) : Int)]
def TxS.cell (t : TxS) (j : Nat) : Value := t.cells.getD j undef
def RdTx (w : World) (v : Value) (ts : List TxS) : Prop := RdRow 7 TxS.cell (fun t => U64 t.s ∧ U64 t.q ∧ U64 t.f) w v ts
section
variable {H : Type} {enc : TypeId × Value → H} {W : World} {base : Nat} {spare : Nat → Bool} {held : Bool}
theorem u64_of {fuel : Nat} {v : Value} {x : DataW H × List MemPlace} (h : DataW.trod enc Tryz.prog W base spare held fuel 22 [v] = some x) : ∃ z : Nat, v = .int .u64 ((z : Nat) : Int) ∧ U64 z := by
 obtain ⟨z, e, _, wf⟩ := DataW.trod_int Tryz.underlying22 h
 cases e
 have := bounds_u64 wf
 exact ⟨z.toNat, by rw [Int.toNat_of_nonneg this.1], by unfold U64; omega⟩
theorem i64_of {fuel : Nat} {v : Value} {x : DataW H × List MemPlace} (h : DataW.trod enc Tryz.prog W base spare held fuel 3 [v] = some x) : ∃ z : Int, v = .int .i64 z := by
 obtain ⟨z, e, _, wf⟩ := DataW.trod_int Tryz.underlying3 h
 cases e
 exact ⟨z, rfl⟩
theorem fld {fs : Array Field} {n : Nat} {cs cs' : List Value} {xs : List (DataW H × List MemPlace)} (hf : ∀ (i : Nat) (f : Field), fs[i]? = some f → DataW.trod enc Tryz.prog W base spare held n f.type ((cs.drop f.offset).take (Tryz.prog.cellsOf f.type)) = xs[i]?) (j : Nat) {f : Field} {t : TypeId} (hj : fs[j]? = some f) (ht : f.type = t) (hc : (cs.drop f.offset).take (Tryz.prog.cellsOf t) = cs') (hl : j < xs.length) : DataW.trod enc Tryz.prog W base spare held n t cs' = some xs[j] := by
 subst ht
 rw [← hc, hf j f hj, List.getElem?_eq_getElem hl]
theorem pur_of {fuel : Nat} {cs : List Value} {x : DataW H × List MemPlace} (h : DataW.trod enc Tryz.prog W base spare held fuel 40 cs = some x) : ∃ p : Nat × Nat, cs = [.int .u64 ((p.1 : Nat) : Int), .int .u64 ((p.2 : Nat) : Int)] ∧ U64 p.1 ∧ U64 p.2 := by
  obtain ⟨xs, n, _, _, hlen, hl, hf⟩ := DataW.trod_struct Tryz.underlying40 h
  have hc : Tryz.prog.cellsOf 40 = 2 := by kernel_rfl
  have h1 : Tryz.prog.cellsOf 22 = 1 := by kernel_rfl
  rw [hc] at hlen
  match cs, hlen with
  | [v0, v1], _ =>
    have l2 : xs.length = 2 := hl
    have f0 := fld (t := 22) (cs' := [v0]) hf 0 rfl rfl (by rw [h1]; rfl) (by omega)
    have f1 := fld (t := 22) (cs' := [v1]) hf 1 rfl rfl (by rw [h1]; rfl) (by omega)
    obtain ⟨z0, rfl, b0⟩ := u64_of f0
    obtain ⟨z1, rfl, b1⟩ := u64_of f1
    exact ⟨(z0, z1), rfl, b0, b1⟩
theorem msg_of {fuel : Nat} {cs : List Value} {x : DataW H × List MemPlace} (h : DataW.trod enc Tryz.prog W base spare held fuel 44 cs = some x) : ∃ (kd : Int) (a b m : Nat), cs = [.int .i64 kd, .int .u64 ((a : Nat) : Int), .int .u64 ((b : Nat) : Int), .int .u64 ((m : Nat) : Int)] := by
  obtain ⟨xs, n, _, _, hlen, hl, hf⟩ := DataW.trod_struct Tryz.underlying44 h
  have hc : Tryz.prog.cellsOf 44 = 4 := by kernel_rfl
  have h1 : Tryz.prog.cellsOf 22 = 1 := by kernel_rfl
  have h2 : Tryz.prog.cellsOf 3 = 1 := by kernel_rfl
  rw [hc] at hlen
  match cs, hlen with
  | [v0, v1, v2, v3], _ =>
    have l2 : xs.length = 4 := hl
    have f0 := fld (t := 3) (cs' := [v0]) hf 0 rfl rfl (by rw [h2]; rfl) (by omega)
    have f1 := fld (t := 22) (cs' := [v1]) hf 1 rfl rfl (by rw [h1]; rfl) (by omega)
    have f2 := fld (t := 22) (cs' := [v2]) hf 2 rfl rfl (by rw [h1]; rfl) (by omega)
    have f3 := fld (t := 22) (cs' := [v3]) hf 3 rfl rfl (by rw [h1]; rfl) (by omega)
    obtain ⟨z0, rfl⟩ := i64_of f0
    obtain ⟨z1, rfl, b1⟩ := u64_of f1
    obtain ⟨z2, rfl, b2⟩ := u64_of f2
    obtain ⟨z3, rfl, b3⟩ := u64_of f3
    exact ⟨z0, z1, z2, z3, rfl⟩
theorem tx_of {fuel : Nat} {cs : List Value} {x : DataW H × List MemPlace} (h : DataW.trod enc Tryz.prog W base spare held fuel 46 cs = some x) : ∃ t : TxS, cs = t.cells ∧ U64 t.s ∧ U64 t.q ∧ U64 t.f := by
  obtain ⟨xs, n, _, _, hlen, hl, hf⟩ := DataW.trod_struct Tryz.underlying46 h
  have hc : Tryz.prog.cellsOf 46 = 7 := by kernel_rfl
  have h1 : Tryz.prog.cellsOf 22 = 1 := by kernel_rfl
  have h4 : Tryz.prog.cellsOf 44 = 4 := by kernel_rfl
  rw [hc] at hlen
  match cs, hlen with
  | [v0, v1, v2, v3, v4, v5, v6], _ =>
    have l2 : xs.length = 4 := hl
    have f0 := fld (t := 22) (cs' := [v0]) hf 0 rfl rfl (by rw [h1]; rfl) (by omega)
    have f1 := fld (t := 22) (cs' := [v1]) hf 1 rfl rfl (by rw [h1]; rfl) (by omega)
    have f2 := fld (t := 22) (cs' := [v2]) hf 2 rfl rfl (by rw [h1]; rfl) (by omega)
    have f3 := fld (t := 44) (cs' := [v3, v4, v5, v6]) hf 3 rfl rfl (by rw [h4]; rfl) (by omega)
    obtain ⟨z0, rfl, b0⟩ := u64_of f0
    obtain ⟨z1, rfl, b1⟩ := u64_of f1
    obtain ⟨z2, rfl, b2⟩ := u64_of f2
    obtain ⟨kd, a, b, m, e⟩ := msg_of f3
    simp only [List.cons.injEq, and_true] at e
    obtain ⟨rfl, rfl, rfl, rfl⟩ := e
    exact ⟨⟨z0, z1, z2, kd, a, b, m⟩, rfl, b0, b1, b2⟩
end
theorem rows_of {H : Type} {enc : TypeId × Value → H} {W : World} {base : Nat} {v : Value} {d : DataW H} {p : List MemPlace} {t e : TypeId} {m : Nat} {α : Type} {cell : α → Nat → Value} {ok : α → Prop} {cells : α → List Value} (ht : Tryz.prog.underlying t = some (.slice e)) (hm0 : Tryz.prog.cellsOf e = m) (hcell : ∀ x j, j < m → (cells x)[j]? = some (cell x j))
  (one : ∀ (fuel : Nat) (cs : List Value) (x : DataW H × List MemPlace), DataW.trod enc Tryz.prog W 0 (fun _ => true) true fuel e cs = some x → ∃ a : α, cs = cells a ∧ ok a)
  (hv : Value.okWide Tryz.prog W .any base t v) (h : DataW.Trod enc Tryz.prog W 0 (fun _ => true) true t v d p) : ∃ ss : List α, RdRow m cell ok W v ss := by
 obtain ⟨fuel, hf⟩ := h
 obtain ⟨a0, len0, cap0, rfl⟩ := okWide_slice ht hv
 rcases open_slice ht hf with ⟨hcs, _⟩ | ⟨x, l, c, m', n, D, Pl, hcs, _, hl, hm, hmm, hx, hi⟩
 ·simp [Value.cells] at hcs
  obtain ⟨rfl, rfl, rfl⟩ := hcs
  exact ⟨[], .inl ⟨rfl, rfl⟩⟩
 ·simp [Value.cells] at hcs
  obtain ⟨rfl, rfl, rfl⟩ := hcs
  simp only [Value.okWide, ht, Cell.okWide, Cell.ok] at hv
  obtain ⟨_, _, _, hsp, row, cells', hsh, _⟩ := hv
  obtain ⟨g, off, sp⟩ := x
  simp only at hsp
  subst hsp
  have hmm' : m' = cap0 := by simpa using hmm
  obtain ⟨ss, hs1, hs2⟩ := list_of (p := fun i (s : α) => (∀ j, j < m → W.cell? ⟨g, off + i * m + j, none⟩ = some (cell s j)) ∧ ok s) len0 (fun i hil => by
   obtain ⟨cs', hc, ht'⟩ := hi i (by omega)
   rw [hm0] at hc
   obtain ⟨_, hcl, hat⟩ := World.cells?_some hc
   obtain ⟨a, rfl, hok⟩ := one _ _ _ ht'
   refine ⟨a, fun j hj => ?_, hok⟩
   have h1 := hat j hj
   rw [hcell a j hj] at h1
   rw [← h1, Go.Deep.add_add]
   rw [show (⟨g, off, none⟩ : Addr).add (i * m + j) = ⟨g, off + (i * m + j), none⟩ from Addr.add_lit .., Nat.add_assoc])
  subst hs1
  exact ⟨ss, .inr ⟨g, off, cap0, rfl, hl, hm, lt_of_shape hsh, hs2⟩⟩
theorem purses_of_arg {H : Type} {enc : TypeId × Value → H} {W : World} {base : Nat} {v : Value} {d : DataW H} {p : List MemPlace} (hv : Value.okWide Tryz.prog W .any base 23 v) (h : DataW.Trod enc Tryz.prog W 0 (fun _ => true) true 23 v d p) : ∃ ps, RdPu W v ps :=
  rows_of (cells := fun p : Nat × Nat => [.int .u64 ((p.1 : Nat) : Int), .int .u64 ((p.2 : Nat) : Int)]) Tryz.underlying23 (by kernel_rfl) (fun x j hj => by
    match j, hj with
    | 0, _ => rfl
    | 1, _ => rfl) (fun fuel cs x h => by
      obtain ⟨p, h1, h2⟩ := pur_of h
      exact ⟨p, h1, h2⟩) hv h
theorem txs_of_arg {H : Type} {enc : TypeId × Value → H} {W : World} {base : Nat} {v : Value} {d : DataW H} {p : List MemPlace} (hv : Value.okWide Tryz.prog W .any base 24 v) (h : DataW.Trod enc Tryz.prog W 0 (fun _ => true) true 24 v d p) : ∃ ts, RdTx W v ts :=
  rows_of (cells := TxS.cells) Tryz.underlying24 (by kernel_rfl) (fun x j hj => by
    match j, hj with
    | 0, _ => rfl
    | 1, _ => rfl
    | 2, _ => rfl
    | 3, _ => rfl
    | 4, _ => rfl
    | 5, _ => rfl
    | 6, _ => rfl) (fun fuel cs x h => by
      obtain ⟨t, h1, h2⟩ := tx_of h
      exact ⟨t, h1, h2⟩) hv h
end Go.Proofs.YtglkmaalpammcaaGreat

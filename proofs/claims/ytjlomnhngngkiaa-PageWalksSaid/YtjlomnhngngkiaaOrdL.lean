/- Single operations, run: for regions told in one order (OrdT). -/
import Derived.Test.YtjlomnhngngkiaaOrdF
import Derived.Deep.MidRow
namespace Go.Gl
open Go.RowKit
set_option linter.unusedVariables false

section
variable {P : Program} {w : World} {a : Act} {o : Oper}

theorem load_c {g off : Nat} {ty : TypeId} {d : TypeDesc} {v : Value} (hc : w.cell? ⟨g, off, none⟩ = some v) (hu : P.underlying ty = some d) (hd : (match d with | .struct _ | .array _ _ => true | _ => false) = false) :
    (Instr.loadAt ty (.pointer (some ⟨g, off, none⟩))).run P w = .ok v w := by
  have hagg : (isAgg ty).run P w = .ok false w := by
    unfold isAgg
    rw [Sem.run_bind, run_underlying hu w]
    cases d <;> simp_all
  simp [Instr.loadAt, Instr.sureAddr, loadVar, Sem.run_bind, hagg, hc]
theorem load_a {g off : Nat} {ty : TypeId} {d : TypeDesc} (ys : List Value) (hc : ∀ j u, ys[j]? = some u → w.cell? ⟨g, off + j, none⟩ = some u) (hu : P.underlying ty = some d) (hd : d.isRow = true)
    (hi : (P.info? ty).map (·.size) = some ys.length) : (Instr.loadAt ty (.pointer (some ⟨g, off, none⟩))).run P w = .ok (.agg ys.toArray) w :=
  run_loadAt_mid w g off ty ys d hc hu hd hi
theorem two_cells {g off : Nat} {u v : Value} (h0 : w.cell? ⟨g, off, none⟩ = some u) (h1 : w.cell? ⟨g, off + 1, none⟩ = some v) : ∀ j x, [u, v][j]? = some x → w.cell? ⟨g, off + j, none⟩ = some x := by
  intro j x hj
  rcases j with _ | _ | j
  · simpa using h0.trans (congrArg some (by simpa using hj))
  · simpa using h1.trans (congrArg some (by simpa using hj))
  · simp at hj
theorem of_load {ty : TypeId} {p v : Value} {x : Operand} {b : World} (ho : o.op = .load ty x) (hx : a.eval x = p) (h : (Instr.loadAt ty p).run P b = .ok v b) : (execOp a.eval o).run P b = .ok (.value v) b := by
  unfold execOp
  simp only [ho, hx, Sem.run_bind, h, Sem.run_pure, Result.andThen_ok]
theorem run_sizeOf {e : TypeId} {s : Nat} (h : (P.info? e).map (·.size) = some s) (b : World) : (sizeOf e).run P b = .ok s b := by
  cases hq : P.info? e with
  | none => simp [hq] at h
  | some i =>
    have : i.size = s := by simpa [hq] using h
    simp [sizeOf, typeInfo, hq, this]

/-- s[i], its address -/
theorem run_idx {t e : TypeId} {x y : Operand} {g off n c s : Nat} {i : Int} {b : World} (p : Nat) (ho : o.op = .indexAddr t x y) (hx : a.eval x = .slice (some ⟨g, off, none⟩) n c) (hy : a.eval y = .int .i64 i)
    (hu : P.underlying t = some (.slice e)) (hs : (P.info? e).map (·.size) = some s) (h0 : 0 ≤ i) (h1 : i < n) (hp : off + i.toNat * s = p) : (execOp a.eval o).run P b = .ok (.value (.pointer (some ⟨g, p, none⟩))) b := by
  subst hp
  unfold execOp
  simp [ho, hx, hy, Instr.indexAt, run_underlying hu, asIntOf, h0, h1, run_sizeOf hs, Addr.add_mid]
/-- s[:h] -/
theorem run_slc_h {t e : TypeId} {x y : Operand} {g off n c s : Nat} {i : Int} {b : World} (m : Nat) (ho : o.op = .slice t x none (some y) none) (hx : a.eval x = .slice (some ⟨g, off, none⟩) n c) (hy : a.eval y = .int .i64 i)
    (hu : P.underlying t = some (.slice e)) (hs : (P.info? e).map (·.size) = some s) (hm : i = m) (h1 : m ≤ c) : (execOp a.eval o).run P b = .ok (.value (.slice (some ⟨g, off, none⟩) m c)) b := by
  subst hm
  have he : P.elem t = e := by simp [Program.elem, hu]
  have hu' : P.underlying t = some (.slice (P.elem t)) := by rw [he]; exact hu
  unfold execOp
  simp only [ho, Option.map_some, Option.map_none, hx, hy, Sem.run_bind]
  rw [run_sliceAt_slice (h := hu'), run_slice_h (ht := hu') (h0 := by omega) (h2 := by omega)]
  · simp [he, run_sizeOf hs, sliced, Addr.add_mid]
/-- s[l:] where something is left behind -/
theorem run_slc_l {t e : TypeId} {x y : Operand} {g off n c s : Nat} {i : Int} {b : World} (m p : Nat) (ho : o.op = .slice t x (some y) none none) (hx : a.eval x = .slice (some ⟨g, off, none⟩) n c) (hy : a.eval y = .int .i64 i)
    (hu : P.underlying t = some (.slice e)) (hs : (P.info? e).map (·.size) = some s) (hm : i = m) (h1 : m ≤ n) (h2 : m < c) (hp : off + m * s = p) : (execOp a.eval o).run P b = .ok (.value (.slice (some ⟨g, p, none⟩) (n - m) (c - m))) b := by
  subst hm hp
  have he : P.elem t = e := by simp [Program.elem, hu]
  have hu' : P.underlying t = some (.slice (P.elem t)) := by rw [he]; exact hu
  unfold execOp
  simp only [ho, Option.map_some, Option.map_none, hx, hy, Sem.run_bind]
  rw [run_sliceAt_slice (h := hu'), run_slice_l (ht := hu') (h0 := by omega) (h1 := by omega)]
  · have : ¬ (c = m) := by omega
    simp [he, run_sizeOf hs, sliced, Addr.add_mid, this]
theorem run_addI {t : TypeId} {x y z : Int} (b : World) (h : x + y = z) (h0 : -9223372036854775808 ≤ z) (h1 : z ≤ 9223372036854775807) : (binOp .add t (.int .i64 x) (.int .i64 y)).run P b = .ok (.int .i64 z) b := by
  subst h
  have := IntWalk.i64_in (x + y) ⟨h0, h1⟩
  rw [binOp_add]
  simp [Op.intArith, this]
theorem run_subI {t : TypeId} {x y z : Int} (b : World) (h : x - y = z) (h0 : -9223372036854775808 ≤ z) (h1 : z ≤ 9223372036854775807) : (binOp .sub t (.int .i64 x) (.int .i64 y)).run P b = .ok (.int .i64 z) b := by
  subst h
  have := IntWalk.i64_in (x - y) ⟨h0, h1⟩
  have e : binOp .sub t (.int .i64 x) (.int .i64 y) = Op.intArith .sub .i64 x y := by simp [binOp]
  rw [e]
  simp [Op.intArith, this]
theorem run_lss {t : TypeId} {k : IntKind} {x y : Int} {r : Bool} (b : World) (h : decide (x < y) = r) : (binOp .lss t (.int k x) (.int k y)).run P b = .ok (.bool r) b := by subst h; rw [binOp_lss]; rfl
theorem run_leq {t : TypeId} {k : IntKind} {x y : Int} {r : Bool} (b : World) (h : decide (x ≤ y) = r) : (binOp .leq t (.int k x) (.int k y)).run P b = .ok (.bool r) b := by subst h; rw [binOp_leq]; rfl
theorem run_gtr {t : TypeId} {k : IntKind} {x y : Int} {r : Bool} (b : World) (h : decide (y < x) = r) : (binOp .gtr t (.int k x) (.int k y)).run P b = .ok (.bool r) b := by subst h; rw [binOp_gtr]; rfl
theorem run_geq {t : TypeId} {k : IntKind} {x y : Int} {r : Bool} (b : World) (h : decide (y ≤ x) = r) : (binOp .geq t (.int k x) (.int k y)).run P b = .ok (.bool r) b := by subst h; rw [binOp_geq]; rfl
theorem run_eql {t : TypeId} {k : IntKind} {x y : Int} {r : Bool} (b : World) (h : decide (x = y) = r) : (binOp .eql t (.int k x) (.int k y)).run P b = .ok (.bool r) b := by subst h; rw [binOp_eql]; rfl
theorem run_neq {t : TypeId} {k : IntKind} {x y : Int} {r : Bool} (b : World) (h : decide (x = y) = !r) : (binOp .neq t (.int k x) (.int k y)).run P b = .ok (.bool r) b := by
  obtain rfl : r = !(decide (x = y)) := by rw [h, Bool.not_not]
  rw [binOp_neq]; rfl
theorem run_bin {bo : BinOp} {t t' : TypeId} {x y : Operand} {xv yv v : Value} {b : World} (ho : o.op = .binOp bo t x y t') (hx : a.eval x = xv) (hy : a.eval y = yv) (hg : ∀ b, (eqGuard bo t x y xv yv).run P b = .ok () b) (hv : (binOp bo t xv yv).run P b = .ok v b) :
    (execOp a.eval o).run P b = .ok (.value v) b := by
  unfold execOp
  simp only [ho, hx, hy, Sem.run_bind, hg, hv, Sem.run_pure, Result.andThen_ok]
theorem run_store1 {ty : TypeId} {x y : Operand} {g off : Nat} {v : Value} {b : World} (ho : o.op = .store ty x y) (hx : a.eval x = .pointer (some ⟨g, off, none⟩)) (hy : a.eval y = v) (hs : (P.info? ty).map (·.size) = some 1)
    (hc : (b.cell? ⟨g, off, none⟩).isSome = true) (hf : b.frozen? ⟨g, off, none⟩ = false) (h1 : v.oneCell' = true) : (execOp a.eval o).run P b = .ok .skip (b.setCell ⟨g, off, none⟩ v) := by
  have hv : v.cells = #[v] := by cases v <;> first | rfl | simp [Value.oneCell'] at h1
  have := run_storeCells_cells (P := P) g off [v] 0 b (fun j hj => by obtain rfl : j = 0 := (by simpa using hj); exact hc) (fun j hj => by obtain rfl : j = 0 := (by simpa using hj); exact hf) (fun u hu => by rw [List.mem_singleton.1 hu]; exact h1)
  unfold execOp
  cases hq : P.info? ty with
  | none => simp [hq] at hs
  | some i =>
    have h2 : i.size = 1 := by simpa [hq] using hs
    simp only [Nat.add_zero] at this
    simp [ho, hx, hy, Instr.storeAt, Instr.sureAddr, storeVar, sizeOf, typeInfo, hq, hv, h2, this]
    rfl

theorem of_append {t tx : TypeId} {x y : Operand} {v u v' : Value} {w' : World} (ho : o.op = .call { callee := .builtin .append, args := #[x, y], argTypes := #[t, tx] }) (hx : a.eval x = v) (hy : a.eval y = u) (hr : (Builtin.append_ #[t, tx] o.type #[v, u]).run P w = .ok v' w') :
    (execOp a.eval o).run P w = .ok (.value v') w' := by
  unfold execOp
  simp only [ho, resolve, invoke, builtin, Sem.run_bind, Sem.run_pure, Result.andThen_ok, List.map_toArray, List.map_cons, List.map_nil, hx, hy, hr]

variable {ops : Array Oper} {Q : Exit → Act → World → Prop} {S : World → Prop} {T : List Nat} {i : Nat} {l : List (Nat × Bool)}
/-- a slice of new memory, its block told by a letter -/
theorem wpOrdT_bs (O : Obj) (n : Nat) (d : Option Tmp) (h : OpIs ops i a d true)
    (hx : (execOp a.eval (opN ops i)).run P w = .ok (.value (.slice (some ⟨w.heap.size, 0, none⟩) n n)) (w.alloc O))
    (hr : ∀ k w', k = w.heap.size → w'.heap[k]? = some O → Mods noB w w' → k < w'.heap.size → (T.contains i = false → S w') ∧ wpOrdT P ops Q T S l (a.put d (.slice (some ⟨k, 0, none⟩) n n)) w') : wpOrdT P ops Q T S ((i, false) :: l) a w := by
  obtain ⟨h1, h2⟩ := hr _ _ rfl (heap_new w O) ((Mods.refl noB w).alloc O) (by simp)
  exact wpOrdT_run _ _ d h hx h1 h2
/-- one cell stored -/
theorem wpOrdT_st1 {ty : TypeId} {x y : Operand} {g off : Nat} {v : Value} (d : Option Tmp) (h : OpIs ops i a d true) (ho : (opN ops i).op = .store ty x y) (hx : a.eval x = .pointer (some ⟨g, off, none⟩)) (hy : a.eval y = v) (hs : (P.info? ty).map (·.size) = some 1)
    (hc : (w.cell? ⟨g, off, none⟩).isSome = true) (hf : w.frozen? ⟨g, off, none⟩ = false) (h1 : v.oneCell' = true)
    (hr : ∀ w', w' = w.setCell ⟨g, off, none⟩ v → (T.contains i = false → S w') ∧ wpOrdT P ops Q T S l (a.put d undef) w') : wpOrdT P ops Q T S ((i, false) :: l) a w := by
  obtain ⟨h2, h3⟩ := hr _ rfl
  exact wpOrdT_skip _ d h (run_store1 ho hx hy hs hc hf h1) h2 h3
end
end Go.Gl

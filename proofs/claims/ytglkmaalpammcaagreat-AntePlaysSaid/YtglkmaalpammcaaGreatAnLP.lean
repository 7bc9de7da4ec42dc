/- AntePlays, lifted. -/
import Derived.Test.YtglkmaalpammcaaGreatAnP
namespace Go.Proofs.YtglkmaalpammcaaGreat
open Go.Gl Go.RowKit Go.ChangeShapes Go.WideShapes Go.ChangeAt
set_option maxRecDepth 100000
theorem kbool_of_arg {H : Type} {enc : TypeId × Value → H} {W : World} {base : Nat} {v : Value} {d : DataW H} {p : List MemPlace} (hv : Value.okWide Tryz.prog W .any base 4 v) (h : DataW.Trod enc Tryz.prog W 0 (fun _ => true) true 4 v d p) : ∃ b : Bool, v = .bool b ∧ True := by
 simp only [Value.okWide, Tryz.underlying4, Cell.okWide] at hv
 cases v <;> simp_all [Cell.ok]
end Go.Proofs.YtglkmaalpammcaaGreat
namespace Go.Proofs.YtglkmaalpammcaaGreat.antePlays
open Go.Gl Go.RowKit Go.ChangeShapes Go.WideShapes Go.ChangeAt
set_option linter.unusedVariables false
set_option maxRecDepth 100000
theorem walk (v2 v3 : Value) (x0 : Nat) (x1 : Bool) (x2 : List (Nat × Nat)) (x3 : List TxS) (w : World) (k0 : U64 x0) (k1 : True) (k2 : RdPu w v2 x2) (k3 : RdTx w v3 x3) : Calls Tryz.prog 3 #[.int .u64 (x0 : Nat), .bool x1, v2, v3] w fun e w' => e = .returned (.bool true) ∧ Below w.heap.size w w' :=
 (aplays_walk x0 x1 v2 v3 x2 x3 w k0 k2 k3).mono fun e w' ⟨a, m⟩ => ⟨a, m.below⟩
theorem lifted (os : Os) (started : os.Started) (H : Type) (enc : TypeId × Value → H) :
  ReturnsInHanded {} Tryz.checked os 3 .any (Rows.antePlaysSpec.pre6 enc Tryz.prog Tryz.f3 Rows.antePlaysRow.domain false) (Rows.antePlaysSpec.post enc Tryz.prog Tryz.f3 false true false false) := by
 refine returnsInHanded_of_change_sized (C := Tryz.checked) own started (by kernel_rfl) Tryz.func3
  (ChangeSpec.witness6 (enc := enc) (C := Tryz.checked) false ⟨#[], #[.int .u64 0, .bool false, .slice none 0 0, .slice none 0 0], []⟩ 8 (by kernel_rfl) (by kernel_rfl) (by kernel_rfl) (by kernel_rfl)) ?_
 intro W base args ds gs before hval0 hW hcnd hsz _
 have hval : ∀ (j : Nat) t v, Tryz.f3.params[j]? = some t → args[j]? = some v → Value.okWide Tryz.prog W .any base t v := hval0
 have hW' := hW
 obtain ⟨p, q, hA0, hV, rfl, hfz, hnd⟩ := hW
 have hA : DataW.TrodAll enc Tryz.prog W 0 (fun _ => true) true Tryz.f3.params.toList args.toList ds p := hA0
 replace hsz : (DataW.weightsEach Tryz.prog (Tryz.f3.params.toList ++ Rows.antePlaysSpec.plain.varTypes Tryz.prog) (ds ++ gs)).all (· ≤ reachBytes) = true := hsz
 rw [Tryz.params3] at hA hval hsz
 obtain ⟨v0, vs0, d0, ds0, p0, q0, hargs, rfl, rfl, h0, r0⟩ := trodAll_cons hA
 obtain ⟨v1, vs1, d1, ds1, p1, q1, rfl, rfl, rfl, h1, r1⟩ := trodAll_cons r0
 obtain ⟨v2, vs2, d2, ds2, p2, q2, rfl, rfl, rfl, h2, r2⟩ := trodAll_cons r1
 obtain ⟨v3, vs3, d3, ds3, p3, q3, rfl, rfl, rfl, h3, r3⟩ := trodAll_cons r2
 obtain ⟨rfl, rfl, rfl⟩ := trodAll_nil r3
 obtain rfl : args = #[v0, v1, v2, v3] := by cases args; simp_all
 obtain ⟨rfl, rfl⟩ := trodVars_none hV
 have sz : ∀ (j : Nat) t (d : DataW H), ([22, 4, 23, 24] ++ Rows.antePlaysSpec.plain.varTypes Tryz.prog)[j]? = some t → ([d0, d1, d2, d3] ++ ([] : List (DataW H)))[j]? = some d → ∀ q ∈ d.weights Tryz.prog t, q ≤ reachBytes := by
  intro j t d ht hd q hq
  have := List.all_eq_true.1 hsz q (DataW.weights_mem_each ht hd q hq)
  simpa using this
 obtain ⟨x0, rfl, k0⟩ := pu64_of_arg (hval 0 22 v0 rfl rfl) h0
 obtain ⟨x1, rfl, k1⟩ := kbool_of_arg (hval 1 4 v1 rfl rfl) h1
 obtain ⟨x2, k2⟩ := purses_of_arg (hval 2 23 v2 rfl rfl) h2
 obtain ⟨x3, k3⟩ := txs_of_arg (hval 3 24 v3 rfl rfl) h3
 have j0 := h0
 have j1 := h1
 have j2 := h2
 have j3 := h3
 have lt0 : ∀ x ∈ p0, x.block < W.heap.size := by obtain ⟨m, hm⟩ := j0; exact DataW.trod_lt m _ _ _ hm
 have lt1 : ∀ x ∈ p1, x.block < W.heap.size := by obtain ⟨m, hm⟩ := j1; exact DataW.trod_lt m _ _ _ hm
 have lt2 : ∀ x ∈ p2, x.block < W.heap.size := by obtain ⟨m, hm⟩ := j2; exact DataW.trod_lt m _ _ _ hm
 have lt3 : ∀ x ∈ p3, x.block < W.heap.size := by obtain ⟨m, hm⟩ := j3; exact DataW.trod_lt m _ _ _ hm
 clear hA0 hval0
 refine (walk v2 v3 x0 x1 x2 x3 W k0 k1 k2 k3).mono fun e W' ⟨he, bel⟩ => ?_
 subst he
 exact ⟨_, rfl, _, _, _, [], _, [], hW', trodAll_mk1 (shut_bool Tryz.underlying4 _), (trodAll_cons_mk (Below.trod laidOut (by kernel_rfl) (of_decide_eq_true (by kernel_rfl)) j0 bel lt0) (trodAll_cons_mk (Below.trod laidOut (by kernel_rfl) (of_decide_eq_true (by kernel_rfl)) j1 bel lt1) (trodAll_cons_mk (Below.trod laidOut (by kernel_rfl) (of_decide_eq_true (by kernel_rfl)) j2 bel lt2) (trodAll_cons_mk (Below.trod laidOut (by kernel_rfl) (of_decide_eq_true (by kernel_rfl)) j3 bel lt3) trodAll_mk0)))), rfl, bel.frame _, fun h => by cases h⟩
theorem over : Rows.antePlaysRow.holds Tryz.pinned (OpenSpec.ofChange Rows.antePlaysSpec) :=
 OpenClaim.holds_of_wide 3 Tryz.f3 rfl rfl rfl rfl rfl rfl rfl ⟨rfl, rfl, rfl, rfl, rfl⟩ rfl rfl rfl rfl rfl (by kernel_rfl) Tryz.func3 (by kernel_rfl)
  (of_decide_eq_true (by kernel_rfl)) (by unfold Func.isWrapper; first | (rw [if_pos (by decide +kernel)]; kernel_rfl) | (rw [if_neg (by decide +kernel)]; exact ⟨rfl, rfl⟩))
  (fun os started H enc _ => lifted os started H enc)
theorem proved : Rows.AntePlaysSaid := over
end Go.Proofs.YtglkmaalpammcaaGreat.antePlays

/- A set of records among the arguments (printed by gen_rec.py). -/
import Derived.Test.YtnkbbclcileleaaRecH
import Derived.Test.YtnkbbclcileleaaArgs
import Derived.Test.YtnkbbclcileleaaSteps
namespace Go.Proofs.Ytnkbbclcileleaa
open Go.Gl Go.RowKit Go.ChangeShapes Go.WideShapes Go.ChangeAt
set_option linter.unusedVariables false
set_option maxRecDepth 100000

/-- a set of records, told by its cells -/
structure Recs where
  nP0 : Nat
  nP1 : Nat
  nP2 : Nat
  nP3 : Nat
  nP4 : Nat
  nP5 : Nat
  nP6 : Nat
  nP7 : Nat
  nP8 : Nat
  nP9 : Nat
  nC0 : Nat
  nC1 : Nat
  uD0 : Value
  lD0 : List Nat
  nA0 : Nat
  nA1 : Nat
  nV0 : Nat
  nV1 : Nat
  uV2 : Value
  lV2 : List Nat
  bV3 : Bool
  nV4 : Nat
  bV5 : Bool
  nV6 : Nat
  uV7 : Value
  lV7 : List Nat
  uV8 : Value
  lV8 : List Nat
  uV9 : Value
  lV9 : List Nat
  uG0 : Value
  lG0 : List Nat
  nG1 : Nat
  uG2 : Value
  lG2 : List Nat
  uH0 : Value
  lH0 : List Nat
  nH1 : Nat
  nK0 : Nat
  nK1 : Nat
  nU0 : Nat
  nU1 : Nat
  nU2 : Nat
  nU3 : Nat
  nU4 : Nat
  nU5 : Nat
  nM0 : Nat
  nM1 : Nat
  nM2 : Nat
  nM3 : Nat
  nM4 : Nat
  nM5 : Nat
  uM6 : Value
  lM6 : List Nat
  nN0 : Nat
def Recs.cells (x : Recs) : Array Value := #[.int .u64 x.nP0, .int .u64 x.nP1, .int .u64 x.nP2, .int .u64 x.nP3, .int .u64 x.nP4, .int .u64 x.nP5, .int .u64 x.nP6, .int .u64 x.nP7, .int .u64 x.nP8, .int .u64 x.nP9, .int .u64 x.nC0, .int .u64 x.nC1, x.uD0, .int .u64 x.nA0, .int .u64 x.nA1, .int .u64 x.nV0, .int .u64 x.nV1, x.uV2, .bool x.bV3, .int .u64 x.nV4, .bool x.bV5, .int .u64 x.nV6, x.uV7, x.uV8, x.uV9, x.uG0, .int .u64 x.nG1, x.uG2, x.uH0, .int .u64 x.nH1, .int .u64 x.nK0, .int .u64 x.nK1, .int .u64 x.nU0, .int .u64 x.nU1, .int .u64 x.nU2, .int .u64 x.nU3, .int .u64 x.nU4, .int .u64 x.nU5, .int .u64 x.nM0, .int .u64 x.nM1, .int .u64 x.nM2, .int .u64 x.nM3, .int .u64 x.nM4, .int .u64 x.nM5, x.uM6, .int .u64 x.nN0]
structure Recs.At (w : World) (x : Recs) : Prop where
  nP0 : x.nP0 ≤ 18446744073709551615
  nP1 : x.nP1 ≤ 18446744073709551615
  nP2 : x.nP2 ≤ 18446744073709551615
  nP3 : x.nP3 ≤ 18446744073709551615
  nP4 : x.nP4 ≤ 18446744073709551615
  nP5 : x.nP5 ≤ 18446744073709551615
  nP6 : x.nP6 ≤ 18446744073709551615
  nP7 : x.nP7 ≤ 18446744073709551615
  nP8 : x.nP8 ≤ 18446744073709551615
  nP9 : x.nP9 ≤ 18446744073709551615
  nC0 : x.nC0 ≤ 18446744073709551615
  nC1 : x.nC1 ≤ 18446744073709551615
  dD0 : RN w x.uD0 x.lD0 ∧ Lim x.lD0 ∧ x.lD0.length ≤ 140737488355328
  nA0 : x.nA0 ≤ 18446744073709551615
  nA1 : x.nA1 ≤ 18446744073709551615
  nV0 : x.nV0 ≤ 18446744073709551615
  nV1 : x.nV1 ≤ 18446744073709551615
  dV2 : RN w x.uV2 x.lV2 ∧ Lim x.lV2 ∧ x.lV2.length ≤ 140737488355328
  nV4 : x.nV4 ≤ 18446744073709551615
  nV6 : x.nV6 ≤ 18446744073709551615
  dV7 : RN w x.uV7 x.lV7 ∧ Lim x.lV7 ∧ x.lV7.length ≤ 140737488355328
  dV8 : RN w x.uV8 x.lV8 ∧ Lim x.lV8 ∧ x.lV8.length ≤ 140737488355328
  dV9 : RN w x.uV9 x.lV9 ∧ Lim x.lV9 ∧ x.lV9.length ≤ 140737488355328
  dG0 : RN w x.uG0 x.lG0 ∧ Lim x.lG0 ∧ x.lG0.length ≤ 140737488355328
  nG1 : x.nG1 ≤ 18446744073709551615
  dG2 : RN w x.uG2 x.lG2 ∧ Lim x.lG2 ∧ x.lG2.length ≤ 140737488355328
  dH0 : RN w x.uH0 x.lH0 ∧ Lim x.lH0 ∧ x.lH0.length ≤ 140737488355328
  nH1 : x.nH1 ≤ 18446744073709551615
  nK0 : x.nK0 ≤ 18446744073709551615
  nK1 : x.nK1 ≤ 18446744073709551615
  nU0 : x.nU0 ≤ 18446744073709551615
  nU1 : x.nU1 ≤ 18446744073709551615
  nU2 : x.nU2 ≤ 18446744073709551615
  nU3 : x.nU3 ≤ 18446744073709551615
  nU4 : x.nU4 ≤ 18446744073709551615
  nU5 : x.nU5 ≤ 18446744073709551615
  nM0 : x.nM0 ≤ 18446744073709551615
  nM1 : x.nM1 ≤ 18446744073709551615
  nM2 : x.nM2 ≤ 18446744073709551615
  nM3 : x.nM3 ≤ 18446744073709551615
  nM4 : x.nM4 ≤ 18446744073709551615
  nM5 : x.nM5 ≤ 18446744073709551615
  dM6 : RN w x.uM6 x.lM6 ∧ Lim x.lM6 ∧ x.lM6.length ≤ 140737488355328
  nN0 : x.nN0 ≤ 18446744073709551615

theorem rcell_int {W : World} {r : Reach} {base : Nat} {t : TypeId} {v : Value} {k : IntKind} (ht : Try.prog.underlying t = some (.int k)) (h : Cell.okWide Try.prog W r base t v) : ∃ n, v = .int k n ∧ k.has n = true := by
  simp only [Cell.okWide, ht] at h
  cases v <;> simp_all [Cell.ok]
theorem rcell_u64 {W : World} {r : Reach} {base : Nat} {v : Value} (h : Cell.okWide Try.prog W r base 22 v) : ∃ n : Nat, v = .int .u64 n ∧ n ≤ 18446744073709551615 := by
  obtain ⟨n, rfl, hn⟩ := rcell_int Try.underlying22 h
  simp [IntKind.has, IntKind.min, IntKind.max, IntKind.signed, IntKind.bits] at hn
  obtain ⟨m, rfl⟩ := Int.eq_ofNat_of_zero_le hn.1
  exact ⟨m, rfl, by omega⟩
theorem rcell_bool {W : World} {r : Reach} {base : Nat} {v : Value} (h : Cell.okWide Try.prog W r base 4 v) : ∃ b : Bool, v = .bool b := by
  simp only [Cell.okWide, Try.underlying4] at h
  cases v <;> simp_all [Cell.ok]

/-- a struct's field: its data, its weights -/
theorem trod_fieldW {H : Type} {enc : TypeId × Value → H} {P : Program} {w : World} {base : Nat} {spare : Nat → Bool} {held : Bool} {R : Nat} {t : TypeId} {fs : Array Field} {fuel : Nat} {cs : List Value} {x : DataW H × List MemPlace} (ht : P.underlying t = some (.struct fs)) (h : DataW.trod enc P w base spare held fuel t cs = some x)
    (hw : ∀ q ∈ x.1.weights P t, q ≤ R) (j : Nat) {f : Field} (hj : fs[j]? = some f) {cs' : List Value} (hc : (cs.drop f.offset).take (P.cellsOf f.type) = cs') : ∃ (y : DataW H × List MemPlace) (n : Nat), DataW.trod enc P w base spare held n f.type cs' = some y ∧ ∀ q ∈ y.1.weights P f.type, q ≤ R := by
  obtain ⟨xs, n, _, hx, _, hl, hf⟩ := DataW.trod_struct ht h
  have hjl : j < fs.size := (Array.getElem?_eq_some_iff.1 hj).1
  have hy : xs[j]? = some (xs[j]'(by omega)) := List.getElem?_eq_getElem (by omega)
  refine ⟨_, n, (hc ▸ hf j f hj).trans hy, fun q hq => hw q ?_⟩
  rw [hx]
  simp only [DataW.weights, ht]
  exact DataW.weights_mem_each (j := j) (by rw [List.getElem?_map, Array.getElem?_toList, hj]; rfl) (by rw [List.getElem?_map, hy]; rfl) q hq

/-- a number with places, out of its limbs' slice -/
theorem rn_of_cell {H : Type} {enc : TypeId × Value → H} {W : World} {fuel : Nat} {v : Value} {x : DataW H × List MemPlace} (hf : DataW.trod enc Try.prog W 0 (fun _ => true) true fuel 28 [v] = some x) (hw : ∀ q ∈ x.1.weights Try.prog 28, q ≤ reachBytes) : ∃ l : List Nat, RN W v l ∧ Lim l ∧ l.length ≤ 140737488355328 := by
  obtain ⟨z, r, lz, b⟩ := rdM_of_ints Try.underlying28 Try.underlying22 (by kernel_rfl) hf (of_decide_eq_true (by kernel_rfl)) hw
  refine ⟨z.map Int.toNat, RdM.map_of (h := u64) Int.toNat (fun y hy => by have := bounds_u64 (lz y hy); simp only [u64]; congr 1; omega) r, fun y hy => ?_, by rw [List.length_map]; exact b⟩
  obtain ⟨y', hy', rfl⟩ := List.mem_map.1 hy
  have := bounds_u64 (lz y' hy')
  omega

set_option maxHeartbeats 4000000 in
theorem recs_of_arg {H : Type} {enc : TypeId × Value → H} {W : World} {base : Nat} {v : Value} {d : DataW H} {p : List MemPlace} (hv : Value.okWide Try.prog W .any base 46 v) (h : DataW.Trod enc Try.prog W 0 (fun _ => true) true 46 v d p) (hw : ∀ q ∈ d.weights Try.prog 46, q ≤ reachBytes) : ∃ x : Recs, v = .agg x.cells ∧ x.At W := by
  simp only [Value.okWide, Try.underlying46] at hv
  obtain ⟨cs, rfl, hs, ts, hts, _, hrow⟩ := hv
  have hcs : cs.size = 46 := hs.trans (by kernel_rfl)
  have hts' : Try.prog.cellTypes Try.prog.depth 46 = some [22, 22, 22, 22, 22, 22, 22, 22, 22, 22, 22, 22, 28, 22, 22, 22, 22, 28, 4, 22, 4, 22, 28, 28, 28, 28, 22, 28, 28, 22, 22, 22, 22, 22, 22, 22, 22, 22, 22, 22, 22, 22, 22, 22, 28, 22] := by kernel_rfl
  rw [hts'] at hts
  obtain rfl := Option.some.inj hts
  obtain ⟨l⟩ := cs
  simp only [List.size_toArray] at hcs
  obtain ⟨fuel, hf⟩ := h
  match l, hcs with
  | c0 :: c1 :: c2 :: c3 :: c4 :: c5 :: c6 :: c7 :: c8 :: c9 :: c10 :: c11 :: c12 :: c13 :: c14 :: c15 :: c16 :: c17 :: c18 :: c19 :: c20 :: c21 :: c22 :: c23 :: c24 :: c25 :: c26 :: c27 :: c28 :: c29 :: c30 :: c31 :: c32 :: c33 :: c34 :: c35 :: c36 :: c37 :: c38 :: c39 :: c40 :: c41 :: c42 :: c43 :: c44 :: c45 :: [], _ =>
    obtain ⟨t0, e0, k0⟩ := hrow 0 c0 rfl
    cases e0
    obtain ⟨nP0, rfl, g0⟩ := rcell_u64 k0
    obtain ⟨t1, e1, k1⟩ := hrow 1 c1 rfl
    cases e1
    obtain ⟨nP1, rfl, g1⟩ := rcell_u64 k1
    obtain ⟨t2, e2, k2⟩ := hrow 2 c2 rfl
    cases e2
    obtain ⟨nP2, rfl, g2⟩ := rcell_u64 k2
    obtain ⟨t3, e3, k3⟩ := hrow 3 c3 rfl
    cases e3
    obtain ⟨nP3, rfl, g3⟩ := rcell_u64 k3
    obtain ⟨t4, e4, k4⟩ := hrow 4 c4 rfl
    cases e4
    obtain ⟨nP4, rfl, g4⟩ := rcell_u64 k4
    obtain ⟨t5, e5, k5⟩ := hrow 5 c5 rfl
    cases e5
    obtain ⟨nP5, rfl, g5⟩ := rcell_u64 k5
    obtain ⟨t6, e6, k6⟩ := hrow 6 c6 rfl
    cases e6
    obtain ⟨nP6, rfl, g6⟩ := rcell_u64 k6
    obtain ⟨t7, e7, k7⟩ := hrow 7 c7 rfl
    cases e7
    obtain ⟨nP7, rfl, g7⟩ := rcell_u64 k7
    obtain ⟨t8, e8, k8⟩ := hrow 8 c8 rfl
    cases e8
    obtain ⟨nP8, rfl, g8⟩ := rcell_u64 k8
    obtain ⟨t9, e9, k9⟩ := hrow 9 c9 rfl
    cases e9
    obtain ⟨nP9, rfl, g9⟩ := rcell_u64 k9
    obtain ⟨t10, e10, k10⟩ := hrow 10 c10 rfl
    cases e10
    obtain ⟨nC0, rfl, g10⟩ := rcell_u64 k10
    obtain ⟨t11, e11, k11⟩ := hrow 11 c11 rfl
    cases e11
    obtain ⟨nC1, rfl, g11⟩ := rcell_u64 k11
    obtain ⟨t13, e13, k13⟩ := hrow 13 c13 rfl
    cases e13
    obtain ⟨nA0, rfl, g13⟩ := rcell_u64 k13
    obtain ⟨t14, e14, k14⟩ := hrow 14 c14 rfl
    cases e14
    obtain ⟨nA1, rfl, g14⟩ := rcell_u64 k14
    obtain ⟨t15, e15, k15⟩ := hrow 15 c15 rfl
    cases e15
    obtain ⟨nV0, rfl, g15⟩ := rcell_u64 k15
    obtain ⟨t16, e16, k16⟩ := hrow 16 c16 rfl
    cases e16
    obtain ⟨nV1, rfl, g16⟩ := rcell_u64 k16
    obtain ⟨t18, e18, k18⟩ := hrow 18 c18 rfl
    cases e18
    obtain ⟨bV3, rfl⟩ := rcell_bool k18
    obtain ⟨t19, e19, k19⟩ := hrow 19 c19 rfl
    cases e19
    obtain ⟨nV4, rfl, g19⟩ := rcell_u64 k19
    obtain ⟨t20, e20, k20⟩ := hrow 20 c20 rfl
    cases e20
    obtain ⟨bV5, rfl⟩ := rcell_bool k20
    obtain ⟨t21, e21, k21⟩ := hrow 21 c21 rfl
    cases e21
    obtain ⟨nV6, rfl, g21⟩ := rcell_u64 k21
    obtain ⟨t26, e26, k26⟩ := hrow 26 c26 rfl
    cases e26
    obtain ⟨nG1, rfl, g26⟩ := rcell_u64 k26
    obtain ⟨t29, e29, k29⟩ := hrow 29 c29 rfl
    cases e29
    obtain ⟨nH1, rfl, g29⟩ := rcell_u64 k29
    obtain ⟨t30, e30, k30⟩ := hrow 30 c30 rfl
    cases e30
    obtain ⟨nK0, rfl, g30⟩ := rcell_u64 k30
    obtain ⟨t31, e31, k31⟩ := hrow 31 c31 rfl
    cases e31
    obtain ⟨nK1, rfl, g31⟩ := rcell_u64 k31
    obtain ⟨t32, e32, k32⟩ := hrow 32 c32 rfl
    cases e32
    obtain ⟨nU0, rfl, g32⟩ := rcell_u64 k32
    obtain ⟨t33, e33, k33⟩ := hrow 33 c33 rfl
    cases e33
    obtain ⟨nU1, rfl, g33⟩ := rcell_u64 k33
    obtain ⟨t34, e34, k34⟩ := hrow 34 c34 rfl
    cases e34
    obtain ⟨nU2, rfl, g34⟩ := rcell_u64 k34
    obtain ⟨t35, e35, k35⟩ := hrow 35 c35 rfl
    cases e35
    obtain ⟨nU3, rfl, g35⟩ := rcell_u64 k35
    obtain ⟨t36, e36, k36⟩ := hrow 36 c36 rfl
    cases e36
    obtain ⟨nU4, rfl, g36⟩ := rcell_u64 k36
    obtain ⟨t37, e37, k37⟩ := hrow 37 c37 rfl
    cases e37
    obtain ⟨nU5, rfl, g37⟩ := rcell_u64 k37
    obtain ⟨t38, e38, k38⟩ := hrow 38 c38 rfl
    cases e38
    obtain ⟨nM0, rfl, g38⟩ := rcell_u64 k38
    obtain ⟨t39, e39, k39⟩ := hrow 39 c39 rfl
    cases e39
    obtain ⟨nM1, rfl, g39⟩ := rcell_u64 k39
    obtain ⟨t40, e40, k40⟩ := hrow 40 c40 rfl
    cases e40
    obtain ⟨nM2, rfl, g40⟩ := rcell_u64 k40
    obtain ⟨t41, e41, k41⟩ := hrow 41 c41 rfl
    cases e41
    obtain ⟨nM3, rfl, g41⟩ := rcell_u64 k41
    obtain ⟨t42, e42, k42⟩ := hrow 42 c42 rfl
    cases e42
    obtain ⟨nM4, rfl, g42⟩ := rcell_u64 k42
    obtain ⟨t43, e43, k43⟩ := hrow 43 c43 rfl
    cases e43
    obtain ⟨nM5, rfl, g43⟩ := rcell_u64 k43
    obtain ⟨t45, e45, k45⟩ := hrow 45 c45 rfl
    cases e45
    obtain ⟨nN0, rfl, g45⟩ := rcell_u64 k45
    clear hrow
    obtain ⟨yD, nD, tD, wD⟩ := trod_fieldW Try.underlying46 hf hw 2 rfl (cs' := [c12]) (by kernel_rfl)
    obtain ⟨_, _, tD', wD'⟩ := trod_fieldW Try.underlying30 tD wD 0 rfl (cs' := [c12]) (by kernel_rfl)
    obtain ⟨lD0, rD0⟩ := rn_of_cell tD' wD'
    obtain ⟨yV, nV, tV, wV⟩ := trod_fieldW Try.underlying46 hf hw 4 rfl (cs' := [.int .u64 nV0, .int .u64 nV1, c17, .bool bV3, .int .u64 nV4, .bool bV5, .int .u64 nV6, c22, c23, c24]) (by kernel_rfl)
    obtain ⟨_, _, ta, wa⟩ := trod_fieldW Try.underlying34 tV wV 2 rfl (cs' := [c17]) (by kernel_rfl)
    obtain ⟨_, _, tb, wb⟩ := trod_fieldW Try.underlying30 ta wa 0 rfl (cs' := [c17]) (by kernel_rfl)
    obtain ⟨lV2, rV2⟩ := rn_of_cell tb wb
    clear ta wa tb wb
    obtain ⟨_, _, ta, wa⟩ := trod_fieldW Try.underlying34 tV wV 7 rfl (cs' := [c22]) (by kernel_rfl)
    obtain ⟨_, _, tb, wb⟩ := trod_fieldW Try.underlying30 ta wa 0 rfl (cs' := [c22]) (by kernel_rfl)
    obtain ⟨lV7, rV7⟩ := rn_of_cell tb wb
    clear ta wa tb wb
    obtain ⟨_, _, ta, wa⟩ := trod_fieldW Try.underlying34 tV wV 8 rfl (cs' := [c23]) (by kernel_rfl)
    obtain ⟨_, _, tb, wb⟩ := trod_fieldW Try.underlying30 ta wa 0 rfl (cs' := [c23]) (by kernel_rfl)
    obtain ⟨lV8, rV8⟩ := rn_of_cell tb wb
    clear ta wa tb wb
    obtain ⟨_, _, ta, wa⟩ := trod_fieldW Try.underlying34 tV wV 9 rfl (cs' := [c24]) (by kernel_rfl)
    obtain ⟨_, _, tb, wb⟩ := trod_fieldW Try.underlying30 ta wa 0 rfl (cs' := [c24]) (by kernel_rfl)
    obtain ⟨lV9, rV9⟩ := rn_of_cell tb wb
    clear ta wa tb wb
    obtain ⟨yG, nG, tG, wG⟩ := trod_fieldW Try.underlying46 hf hw 5 rfl (cs' := [c25, .int .u64 nG1, c27]) (by kernel_rfl)
    obtain ⟨_, _, ta, wa⟩ := trod_fieldW Try.underlying36 tG wG 0 rfl (cs' := [c25]) (by kernel_rfl)
    obtain ⟨_, _, tb, wb⟩ := trod_fieldW Try.underlying30 ta wa 0 rfl (cs' := [c25]) (by kernel_rfl)
    obtain ⟨lG0, rG0⟩ := rn_of_cell tb wb
    clear ta wa tb wb
    obtain ⟨_, _, ta, wa⟩ := trod_fieldW Try.underlying36 tG wG 2 rfl (cs' := [c27]) (by kernel_rfl)
    obtain ⟨_, _, tb, wb⟩ := trod_fieldW Try.underlying30 ta wa 0 rfl (cs' := [c27]) (by kernel_rfl)
    obtain ⟨lG2, rG2⟩ := rn_of_cell tb wb
    clear ta wa tb wb
    obtain ⟨yH, nH, tH, wH⟩ := trod_fieldW Try.underlying46 hf hw 6 rfl (cs' := [c28, .int .u64 nH1]) (by kernel_rfl)
    obtain ⟨_, _, ta, wa⟩ := trod_fieldW Try.underlying38 tH wH 0 rfl (cs' := [c28]) (by kernel_rfl)
    obtain ⟨_, _, tb, wb⟩ := trod_fieldW Try.underlying30 ta wa 0 rfl (cs' := [c28]) (by kernel_rfl)
    obtain ⟨lH0, rH0⟩ := rn_of_cell tb wb
    clear ta wa tb wb
    obtain ⟨yM, nM, tM, wM⟩ := trod_fieldW Try.underlying46 hf hw 9 rfl (cs' := [.int .u64 nM0, .int .u64 nM1, .int .u64 nM2, .int .u64 nM3, .int .u64 nM4, .int .u64 nM5, c44]) (by kernel_rfl)
    obtain ⟨_, _, ta, wa⟩ := trod_fieldW Try.underlying44 tM wM 6 rfl (cs' := [c44]) (by kernel_rfl)
    obtain ⟨_, _, tb, wb⟩ := trod_fieldW Try.underlying30 ta wa 0 rfl (cs' := [c44]) (by kernel_rfl)
    obtain ⟨lM6, rM6⟩ := rn_of_cell tb wb
    clear ta wa tb wb
    exact ⟨⟨nP0, nP1, nP2, nP3, nP4, nP5, nP6, nP7, nP8, nP9, nC0, nC1, c12, lD0, nA0, nA1, nV0, nV1, c17, lV2, bV3, nV4, bV5, nV6, c22, lV7, c23, lV8, c24, lV9, c25, lG0, nG1, c27, lG2, c28, lH0, nH1, nK0, nK1, nU0, nU1, nU2, nU3, nU4, nU5, nM0, nM1, nM2, nM3, nM4, nM5, c44, lM6, nN0⟩, rfl, ⟨g0, g1, g2, g3, g4, g5, g6, g7, g8, g9, g10, g11, rD0, g13, g14, g15, g16, rV2, g19, g21, rV7, rV8, rV9, rG0, g26, rG2, rH0, g29, g30, g31, g32, g33, g34, g35, g36, g37, g38, g39, g40, g41, g42, g43, rM6, g45⟩⟩

end Go.Proofs.Ytnkbbclcileleaa

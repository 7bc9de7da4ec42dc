/- An item among the arguments: its numbers. -/
import Derived.Test.YtebknplbghcemaaMEnc
import Derived.Test.YtebknplbghcemaaArgs
namespace Go.Proofs.Ytebknplbghcemaa
open Go.Gl Go.RowKit Go.ChangeShapes Go.WideShapes Go.ChangeAt
set_option linter.unusedVariables false
set_option maxRecDepth 100000

theorem cell_int {W : World} {r : Reach} {base : Nat} {t : TypeId} {v : Value} {k : IntKind} (ht : Try.prog.underlying t = some (.int k)) (h : Cell.okWide Try.prog W r base t v) : ∃ n, v = .int k n ∧ k.has n = true := by
  simp only [Cell.okWide, ht] at h
  cases v <;> simp_all [Cell.ok]

theorem cell_u64 {W : World} {r : Reach} {base : Nat} {v : Value} (h : Cell.okWide Try.prog W r base 22 v) : ∃ n : Nat, v = .int .u64 n ∧ n ≤ 18446744073709551615 := by
  obtain ⟨n, rfl, hn⟩ := cell_int Try.underlying22 h
  simp [IntKind.has, IntKind.min, IntKind.max, IntKind.signed, IntKind.bits] at hn
  obtain ⟨m, rfl⟩ := Int.eq_ofNat_of_zero_le hn.1
  exact ⟨m, rfl, by omega⟩

theorem item_of_arg {W : World} {r : Reach} {base : Nat} {v : Value} (h : Value.okWide Try.prog W r base 30 v) : ∃ i : Itm, v = .agg i.cells ∧ i.Fits := by
  simp only [Value.okWide, Try.underlying30] at h
  obtain ⟨cs, rfl, hs, ts, hts, _, hrow⟩ := h
  have hcs : cs.size = 11 := hs.trans (by kernel_rfl)
  have hts' : Try.prog.cellTypes Try.prog.depth 30 = some [3, 22, 22, 22, 3, 22, 22, 22, 3, 22, 22] := by kernel_rfl
  rw [hts'] at hts
  obtain rfl := Option.some.inj hts
  obtain ⟨l⟩ := cs
  simp only [List.size_toArray] at hcs
  match l, hcs with
  | [c0, c1, c2, c3, c4, c5, c6, c7, c8, c9, c10], _ =>
    obtain ⟨u0, e0, k0⟩ := hrow 0 c0 rfl
    obtain ⟨u1, e1, k1⟩ := hrow 1 c1 rfl
    obtain ⟨u2, e2, k2⟩ := hrow 2 c2 rfl
    obtain ⟨u3, e3, k3⟩ := hrow 3 c3 rfl
    obtain ⟨u4, e4, k4⟩ := hrow 4 c4 rfl
    obtain ⟨u5, e5, k5⟩ := hrow 5 c5 rfl
    obtain ⟨u6, e6, k6⟩ := hrow 6 c6 rfl
    obtain ⟨u7, e7, k7⟩ := hrow 7 c7 rfl
    obtain ⟨u8, e8, k8⟩ := hrow 8 c8 rfl
    obtain ⟨u9, e9, k9⟩ := hrow 9 c9 rfl
    obtain ⟨u10, e10, k10⟩ := hrow 10 c10 rfl
    cases e0; cases e1; cases e2; cases e3; cases e4; cases e5; cases e6; cases e7; cases e8; cases e9; cases e10
    obtain ⟨n0, rfl, _⟩ := cell_int Try.underlying3 k0
    obtain ⟨n1, rfl, b1⟩ := cell_u64 k1
    obtain ⟨n2, rfl, b2⟩ := cell_u64 k2
    obtain ⟨n3, rfl, b3⟩ := cell_u64 k3
    obtain ⟨n4, rfl, _⟩ := cell_int Try.underlying3 k4
    obtain ⟨n5, rfl, b5⟩ := cell_u64 k5
    obtain ⟨n6, rfl, b6⟩ := cell_u64 k6
    obtain ⟨n7, rfl, b7⟩ := cell_u64 k7
    obtain ⟨n8, rfl, _⟩ := cell_int Try.underlying3 k8
    obtain ⟨n9, rfl, b9⟩ := cell_u64 k9
    obtain ⟨n10, rfl, b10⟩ := cell_u64 k10
    exact ⟨⟨n0, n1, n2, n3, n4, n5, n6, n7, n8, n9, n10⟩, rfl, b1, b2, b3, b5, b6, b7, b9, b10⟩

end Go.Proofs.Ytebknplbghcemaa

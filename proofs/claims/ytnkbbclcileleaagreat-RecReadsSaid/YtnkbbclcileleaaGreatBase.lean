/- This seat's program: what its tables say of bytes, and append on byte slices. -/
import Derived.Test.YtnkbbclcileleaaGreatRows
import Derived.Test.YtnkbbclcileleaaGreatLib
namespace Go.Proofs.YtnkbbclcileleaaGreat
open Go.Gl Go.RowKit
set_option linter.unusedVariables false

theorem Tryz.infoU8 : (Tryz.prog.info? 5).map (fun i => (i.zero, i.size, i.bytes)) = some (some (.int .u8 0), 1, 1) := by kernel_rfl

theorem wpList_apb {ops : Array Oper} {Q : Exit → Act → World → Prop} {rest : List Oper} {o : Oper} {a : Act} {w : World} {s x : Operand} (hgd : o.guard = none)
    (ho : o.op = .call { callee := .builtin .append, args := #[s, x], argTypes := #[49, 49] })
    {v u : Value} (xs ys : List UInt8) (hown : Own w v xs) (hrd : Rd w u ys) (hs : a.eval s = v) (hx : a.eval x = u) (hlen : xs.length + ys.length ≤ 140737488355328)
    (h : ∀ v' w', Own w' v' (xs ++ ys) → Mods (ofV v) w w' → (v'.ownBlock = v.ownBlock ∨ freshIn w v') → wpList Tryz.prog ops Q rest (a.put o.dst v') w') : wpList Tryz.prog ops Q (o :: rest) a w := by
  obtain ⟨i, hi, hz, hs1, hb1⟩ := info_parts Tryz.infoU8
  refine wpList_ap hgd ho Tryz.underlying49 Tryz.underlying49 hi hz (by rw [hs1]; rfl) hs (by rw [hs1]; exact hown) hx (by rw [hs1]; exact hrd) (bv_one _) (by simp only [maxLen]; omega) (by rw [hb1]; omega) ?_
  intro v' w' h1 h2 h3
  refine h v' w' ?_ h2 h3
  rw [hs1] at h1
  unfold Own
  rw [bv_append, List.length_append]
  exact h1

end Go.Proofs.YtnkbbclcileleaaGreat

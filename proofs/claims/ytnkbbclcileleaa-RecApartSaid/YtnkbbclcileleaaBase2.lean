/- This seat's program: append on byte slices where there is no room; the same at a step of a region that draws its order. -/
import Derived.Test.YtnkbbclcileleaaZA
namespace Go.Proofs.Ytnkbbclcileleaa
open Go.Gl Go.RowKit
set_option linter.unusedVariables false

theorem wp_apg {Q : Exit → Act → World → Prop} {K : Act → World → Prop} {o : Oper} {a : Act} {w : World} {s x : Operand}
    (ho : o.op = .call { callee := .builtin .append, args := #[s, x], argTypes := #[50, 50] })
    {ad : Option Addr} {n cap : Nat} {u : Value} (xs ys : List UInt8) (hn : xs.length = n) (hown : Rd w (.slice ad n cap) xs) (hrd : Rd w u ys) (hs : a.eval s = .slice ad n cap) (hx : a.eval x = u) (hg : cap < n + ys.length) (hlen : n + ys.length ≤ 140737488355328)
    (h : ∀ v' w', Own w' v' (xs ++ ys) → Mods noB w w' → freshIn w v' → K (a.put o.dst v') w') : o.wp Try.prog a w K Q := by
  subst hn
  obtain ⟨i, hi, hz, hs1, hb1⟩ := info_parts Try.infoU8
  obtain ⟨v', w', hr, h2, h3, h4⟩ := run_ap_grow (P := Try.prog) 50 50 o.type 5 5 i _ Try.underlying50 Try.underlying50 hi hz (by rw [hs1]; rfl) (by rw [hs1]; exact hown) (by rw [hs1]; exact hrd) (bv_one _) hg (by simp only [maxLen]; omega) (by rw [hb1]; omega)
  unfold Oper.wp execOp
  simp only [ho, resolve, invoke, builtin, Sem.run_bind, Sem.run_pure, Result.andThen_ok, List.map_toArray, List.map_cons, List.map_nil, hs, hx, hr]
  refine h v' w' ?_ h3 h4
  rw [hs1] at h2
  unfold Own
  rw [bv_append, List.length_append]
  exact h2

theorem wpList_apg {ops : Array Oper} {Q : Exit → Act → World → Prop} {rest : List Oper} {o : Oper} {a : Act} {w : World} {s x : Operand} (hgd : o.guard = none)
    (ho : o.op = .call { callee := .builtin .append, args := #[s, x], argTypes := #[50, 50] })
    {ad : Option Addr} {n cap : Nat} {u : Value} (xs ys : List UInt8) (hn : xs.length = n) (hown : Rd w (.slice ad n cap) xs) (hrd : Rd w u ys) (hs : a.eval s = .slice ad n cap) (hx : a.eval x = u) (hg : cap < n + ys.length) (hlen : n + ys.length ≤ 140737488355328)
    (h : ∀ v' w', Own w' v' (xs ++ ys) → Mods noB w w' → freshIn w v' → wpList Try.prog ops Q rest (a.put o.dst v') w') : wpList Try.prog ops Q (o :: rest) a w :=
  wpList_plain hgd fun K hK => wp_apg ho xs ys hn hown hrd hs hx hg hlen fun v' w' h1 h2 h3 => hK _ _ (h v' w' h1 h2 h3)

/-- guarded or not, where it is wanted -/
theorem step_apg {ops : Array Oper} {Q : Exit → Act → World → Prop} {K : Act → World → Prop} {E : Prop} {o : Oper} {a : Act} {w : World} {s x : Operand} (hw : Region.wanted o (yielded ops a.tmps) = true)
    (ho : o.op = .call { callee := .builtin .append, args := #[s, x], argTypes := #[50, 50] })
    {ad : Option Addr} {n cap : Nat} {u : Value} (xs ys : List UInt8) (hn : xs.length = n) (hown : Rd w (.slice ad n cap) xs) (hrd : Rd w u ys) (hs : a.eval s = .slice ad n cap) (hx : a.eval x = u) (hg : cap < n + ys.length) (hlen : n + ys.length ≤ 140737488355328)
    (h : ∀ v' w', Own w' v' (xs ++ ys) → Mods noB w w' → freshIn w v' → K (a.put o.dst v') w') :
    if Region.wanted o (yielded ops a.tmps) = true then Oper.wp Try.prog o a w K Q else E := by
  rw [if_pos hw]
  exact wp_apg ho xs ys hn hown hrd hs hx hg hlen h

end Go.Proofs.Ytnkbbclcileleaa

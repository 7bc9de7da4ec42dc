/- make of byte slices: what is made is owned, all noughts. -/
import Derived.Test.YtjlomnhngngkiaaGrow
import Derived.Deep.OwnRows
namespace Go.Proofs.Ytjlomnhngngkiaa
open Go.Gl Go.RowKit
set_option linter.unusedVariables false

theorem made_get (z : Value) (n j : Nat) (h : j < n) : (madeCells #[z] n)[j]? = some z := by
  unfold madeCells
  simp [h, Nat.mod_one]

theorem own_made {w : World} (n : Nat) (hn : n ≤ 140737488355328) : Own (w.alloc (.cells (madeCells #[.int .u8 0] n) 5)) (.slice (some ⟨w.heap.size, 0, none⟩) n n) (List.replicate n 0) := by
  refine own_of (by simp) (heap_new _ _) (Nat.le_refl _) (by simp only [maxLen]; omega) (by rw [size_madeCells]; omega) (fun i hi => ?_)
  rw [List.length_replicate] at hi
  rw [Nat.zero_add, made_get _ _ _ hi]
  simp

theorem wpList_mkb {w : World} {ops : Array Oper} {rest : List Oper} {o : Oper} {a : Act} {Q : Exit → Act → World → Prop}
    (hg : o.guard = none) (l c : Operand) (hop : o.op = Op.makeSlice 33 l c) (kl kc : IntKind) (n : Nat) (hl : a.eval l = .int kl (n : Int)) (hc : a.eval c = .int kc (n : Int)) (hn : n ≤ 140737488355328)
    (hK : ∀ w', Own w' (.slice (some ⟨w.heap.size, 0, none⟩) n n) (List.replicate n 0) → Mods noB w w' → w.heap.size < w'.heap.size → wpList Try.prog ops Q rest (a.put o.dst (.slice (some ⟨w.heap.size, 0, none⟩) n n)) w') :
    wpList Try.prog ops Q (o :: rest) a w := by
  obtain ⟨i, hi, hz, hs1, hb1⟩ := info_parts Try.infoU8
  exact wpList_make_row w hg l c 33 hop 5 i _ Try.underlying33 hi hz hs1 rfl kl kc n hl hc (by rw [hb1]; omega) (by omega) (hK _ (own_made n hn) ((Mods.refl _ _).alloc _) (by simp))

end Go.Proofs.Ytjlomnhngngkiaa

/- slices.Clone of a page. -/
import Derived.Test.YtjlomnhngngkiaaZA
namespace Go.Proofs.Ytjlomnhngngkiaa
open Go.Gl Go.RowKit
set_option linter.unusedVariables false
set_option maxRecDepth 100000

set_option maxHeartbeats 1000000 in
theorem Cln_any {w : World} {g off n c : Nat} {xs : List Value} (hv : OB w 63 2 g off n c xs) (h1 : ∀ y ∈ xs, y.oneCell' = true) (hn : n ≤ 1000000) :
    Calls Try.prog 35 #[.slice (some ⟨g, off, none⟩) n c] w fun r w' => ∃ v', r = .returned v' ∧ OwnG w' 63 2 v' n xs ∧ Mods noB w w' ∧ freshIn w v' := by
  have he := fun (w : World) (a : Option Addr) (n c n' c' : Nat) => Lib.run_eql_slice_nil (P := Try.prog) w 64 63 a n c n' c' Try.underlying64
  obtain ⟨inf, hi, hz, hs, hb⟩ := info_parts info2
  have hrd := OwnG.rd hv.own
  have hlt := hv.lt
  have hown : OwnG (w.alloc (.cells #[] 63)) 63 2 (.slice (some ⟨w.heap.size, 0, none⟩) 0 0) 0 [] := ⟨rfl, .inr ⟨_, 0, 0, _, rfl, heap_new _ _, Nat.le_refl _, by simp [maxLen], by simp, fun j u hj => by simp at hj⟩⟩
  have key := fun (ops : Array Oper) (Q : Exit → Act → World → Prop) (rest : List Oper) (o : Oper) (a : Act) (s x : Operand) (hgd : o.guard = none) (ho : o.op = .call { callee := .builtin .append, args := #[s, x], argTypes := #[64, 64] }) (h2 : a.eval s = .slice (some ⟨w.heap.size, 0, none⟩) 0 0) (h3 : a.eval x = .slice (some ⟨g, off, none⟩) n c) (h) =>
    wpList_ap (P := Try.prog) (ops := ops) (Q := Q) (rest := rest) (w := w.alloc (.cells #[] 63)) hgd ho Try.underlying64 Try.underlying64 hi hz (by rw [hs]; rfl) h2 (by rw [hs]; exact hown) h3 (by rw [hs]; exact RdG.keep hrd ((Mods.refl noB w).alloc _) (fun _ _ x => x)) h1 (by unfold maxLen; omega) (by rw [hb]; omega) h
  have KY := Lib.hid key
  have HS := Lib.hid hs
  clear hv h1 hi hz hs hb key hrd hown
  go_enter Try.func35, Try.ntmps35
  go_wp2_with (at_builtin; refine stop ?_)
  unfold Stop
  refine KY.out _ _ _ _ _ _ _ rfl rfl rfl rfl ?_
  intro v' w' o1 m1 f1
  rw [HS.out, Nat.zero_add, List.nil_append] at o1
  have O := Lib.hid (And.intro o1 (And.intro m1 f1))
  obtain ⟨a1, c1, rfl, _⟩ := (OwnG.rd o1).form
  clear o1 m1 f1
  go_wp2
  go_ret
  refine ⟨_, rfl, O.out.1, ((Mods.refl noB w).alloc _).trans O.out.2.1 (U := noB) (fun _ _ x => x) (fun i hi h => by have := ofV_some h; omega), fun k hk => ?_⟩
  rcases O.out.2.2 with h | h
  · have h2 := h.symm.trans hk
    simp [Value.ownBlock] at h2
    omega
  · have := h k hk
    simp at this
    omega

end Go.Proofs.Ytjlomnhngngkiaa

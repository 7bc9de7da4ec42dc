/- gleanhelp.CopyBytes: the same bytes in new memory. -/
import Derived.Test.YtngemlpalkfjeaaZA
namespace Go.Proofs.Ytngemlpalkfjeaa
open Go.Gl Go.RowKit
set_option linter.unusedVariables false
set_option maxHeartbeats 400000 in
theorem CopyBytes_any {v : Value} {xs : List UInt8} {w : World} (hv : Rd w v xs) (hl : xs.length ≤ 140737488355328) :
    Calls Try.prog 32 #[v] w fun e w' => ∃ v', e = .returned v' ∧ Own w' v' xs ∧ Mods noB w w' ∧ freshIn w v' := by
  go_enter Try.func32, Try.ntmps32
  go_wp2_with (at_builtin; refine stop ?_)
  unfold Stop
  refine wpList_apb rfl rfl [] xs (Own.nil _) hv rfl rfl (by simpa using hl) ?_
  intro v' w' h1 h2 h3
  go_wp2
  go_ret
  refine ⟨_, rfl, h1, h2.mono (fun i _ h => by simp [ofV, Value.ownBlock] at h), fun k hk => ?_⟩
  rcases h3 with h3 | h3
  · exact absurd (h3.symm.trans hk) (by simp [Value.ownBlock])
  · exact h3 k hk
end Go.Proofs.Ytngemlpalkfjeaa

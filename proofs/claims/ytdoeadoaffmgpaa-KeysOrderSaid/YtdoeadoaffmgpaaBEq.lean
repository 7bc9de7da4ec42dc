/- bytes.Equal and slices.Clone of bytes. -/
import Derived.Test.YtdoeadoaffmgpaaHBytes
import Derived.Lib.BufferRead
namespace Go.Proofs.Ytdoeadoaffmgpaa
open Go.Gl Go.RowKit
set_option linter.unusedVariables false

theorem Rd.str {w : World} {v : Value} {xs : List UInt8} (h : Rd w v xs) : (convert 26 9 v).run Try.prog w = .ok (.string ⟨xs.toArray⟩) w := by
  rcases h.open with ⟨rfl, rfl⟩ | ⟨g, off, cap, rfl, h1, h2, _, h3⟩
  · exact Lib.run_convert_nil_bytes w 26 9 5 0 Try.underlying26 Try.underlying5 Try.underlying9
  · refine run_convert_bytes_back w 26 9 5 _ cap xs Try.underlying26 Try.underlying5 Try.underlying9 (fun j hj => ?_)
    rw [show (⟨g, off, none⟩ : Addr).add j = ⟨g, off + j, none⟩ from Addr.add_lit ..]
    exact h3 j hj

theorem lst_eq (xs ys : List UInt8) : (xs == ys) = decide (xs = ys) := by
  by_cases h : xs = ys <;> simp [h]

set_option maxHeartbeats 400000 in
theorem Equal_any {x y : Value} {xs ys : List UInt8} {w : World} (hx : Rd w x xs) (hy : Rd w y ys) :
    Calls Try.prog 31 #[x, y] w fun e w' => e = .returned (.bool (decide (xs = ys))) ∧ Quiet w w' := by
  have k1 := Rd.str hx
  have k2 := Rd.str hy
  go_enter Try.func31, Try.ntmps31
  go_wp2
  go_ret
  exact ⟨ret_bool (lst_eq xs ys), Quiet.refl _⟩

theorem own_empty {w : World} (n : Nat) (hn : n = w.heap.size) : Own (w.alloc (.cells #[] 5)) (.slice (some ⟨n, 0, none⟩) 0 0) [] := by
  subst hn
  exact ⟨rfl, .inr ⟨_, 0, 0, _, rfl, heap_new _ _, Nat.le_refl _, by simp [maxLen], by simp, fun j u hj => by simp [bv] at hj⟩⟩

set_option maxHeartbeats 400000 in
theorem Clone_any {v : Value} {xs : List UInt8} {w : World} (hv : Rd w v xs) (hl : xs.length ≤ 140737488355328) :
    Calls Try.prog 34 #[v] w fun e w' => ∃ v', e = .returned v' ∧ Own w' v' xs ∧ Mods noB w w' ∧ freshIn w v' := by
  have he := fun (w : World) (a : Option Addr) (n c n' c' : Nat) => Lib.run_eql_slice_nil (P := Try.prog) w 26 5 a n c n' c' Try.underlying26
  rcases hv.open with ⟨rfl, rfl⟩ | ⟨g, off, cap, rfl, h1, h2, h3, _⟩
  · go_enter Try.func34, Try.ntmps34
    go_wp2
    go_ret
    exact ⟨_, rfl, Own.nil _, Mods.refl _ _, fun k hk => by simp [Value.ownBlock] at hk⟩
  · have hn := Lib.hid hv
    clear hv h1 h2 h3
    go_enter Try.func34, Try.ntmps34
    go_wp2_with (at_builtin; refine stop ?_)
    unfold Stop
    refine wpList_apb rfl rfl [] xs (own_empty _ (by rfl)) (hn.out.alloc _) rfl rfl (by simpa using hl) ?_
    intro v' w' k1 k2 k3
    go_wp2
    go_ret
    refine ⟨_, rfl, k1, ((Mods.refl _ _).alloc _).trans k2 (fun _ _ x => x) (fun i hi x => by have := ofV_some x; omega), fun k hk => ?_⟩
    rcases k3 with k3 | k3
    · have := k3.symm.trans hk
      simp [Value.ownBlock] at this
      omega
    · have := k3 k hk
      simp at this
      omega

end Go.Proofs.Ytdoeadoaffmgpaa

/- gleanref7.Next: the document's way. (The text of XKNum's Next, the names turned.) -/
import Derived.Test.YtdoeadoaffmgpaaKNum
import Derived.Test.YtdoeadoaffmgpaaHCopy
namespace Go.Proofs.Ytdoeadoaffmgpaa
open Go.Gl Go.RowKit
set_option linter.unusedVariables false

set_option maxHeartbeats 400000 in
theorem RNext_loop (b : List UInt8) (ax : Option Addr) (nx cx : Nat) (w : World) (hx : b.length = nx) (hnx : nx ≤ 140737488355328) (hcx : nx ≤ cx) (hr : Rd w (.slice ax nx cx) b) (kx : nx = 0 ∨ ∃ g off, ax = some ⟨g, off, none⟩ ∧ ∀ i (hi : i < b.length), w.cell? ⟨g, off + i, none⟩ = some (.int .u8 (b[i]).toNat)) :
    Calls Try.prog 16 #[.slice ax nx cx] w fun e w' => ∃ v, e = .returned v ∧ Own w' v (knext b) ∧ Mods noB w w' ∧ freshIn w v := by
  have HX := Lib.hid hx
  have KX := Lib.hid kx
  have HR := Lib.hid hr
  clear hx kx hr
  go_enter Try.func16, Try.ntmps16
  go_wp2
  go_loop [3] (fun n => ∃ k : Nat, k ≤ nx ∧ n = .int .i64 k ∧ Hid (kcut b b.length = kcut b k)) (fun n => (intOf n).toNat)
  case atStart => exact ⟨nx, Nat.le_refl _, rfl, by show _ = _; rw [HX.out]⟩
  case round =>
    obtain ⟨k, hk, rfl, hc⟩ := hrel
    rcases k with _ | k
    · go_wp2
      go_ret
      refine ⟨_, rfl, ?_, Mods.refl _ _, fun k hk => by simp [Value.ownBlock] at hk⟩
      have : knext b = [] := by unfold knext; rw [hc.out]; rfl
      rw [this]
      exact Own.nil _
    · have lx : k < b.length := by rw [HX.out]; omega
      obtain ⟨g, off, hax, c1⟩ := KX.out.resolve_left (by omega)
      have c2 := c1 k lx
      have hb := (b[k]).toNat_lt
      by_cases he : (b[k]).toNat = 255
      · have hd : ((((b[k]).toNat : Nat) : Int) == 255) = true := by simp [he]
        have HE := Lib.hid he
        clear c1 KX he
        subst hax
        go_wp2
        go_round
        case rel =>
          refine ⟨k, by omega, by go_num, ?_⟩
          show _ = _
          rw [hc.out, kcut_hit b k lx HE.out]
        case measure => simp [intOf]
      · have hd : ((((b[k]).toNat : Nat) : Int) == 255) = false := by simp; omega
        have HE := Lib.hid he
        clear c1 KX he
        subst hax
        have hz : (((k : Nat) : Int) + 1 == 0) = false := by simp; omega
        go_wp2_with fail
        refine (CopyBytes_any (HR.out.take' HX.out (by omega)) (by simp [List.length_take]; omega)).mono ?_
        rintro e w1 ⟨v, rfl, h1, h2, h3⟩
        have hkn : knext b = b.take k ++ [b[k] + 1] := by
          have : kcut b b.length = k + 1 := by rw [hc.out, kcut_miss b k lx HE.out]
          unfold knext
          rw [this]
          simp [List.getD, List.getElem?_eq_getElem lx]
        have HK := Lib.hid hkn
        clear hkn
        have hl : (b.take (k + 1)).length = k + 1 := by rw [List.length_take]; omega
        rcases Own.open h1 with ⟨rfl, h4⟩ | ⟨g1, off1, cap1, cur1, rfl, h4, h5, h6, h7, h8⟩
        · rw [h4] at hl; simp at hl
        · rw [hl] at h5 ⊢
          have c5 := (cells_of h4 (off1 + k)).trans (h8 k (by omega))
          have f5 := free_of h4 (off1 + k)
          have e5 : (b.take (k + 1))[k]'(by omega) = b[k] := by simp
          rw [e5] at c5
          have hb2 : ((((b[k]).toNat : Nat) : Int) + 1) ≤ 255 := by have := HE.out; omega
          have F := Lib.hid (show _ ∧ _ ∧ _ ∧ _ ∧ _ ∧ _ ∧ _ from ⟨h2, h3, h4, h5, h6, h7, h8⟩)
          clear h1 h2 h3 h4 h5 h6 h7 h8 e5 c2 hl
          go_wp2
          go_ret
          obtain ⟨h2, h3, h4, h5, h6, h7, h8⟩ := F.out
          have hg1 := h3 g1 rfl
          refine ⟨_, rfl, ?_, h2.setCell (.inr hg1) _, fun k hk => h3 k (by simpa [Value.ownBlock] using hk)⟩
          rw [HK.out]
          refine own_of (by simp; omega) (heap_set h4 _ _) h5 h6 (by simpa using h7) ?_
          intro i hi
          simp only [List.length_append, List.length_take, List.length_cons, List.length_nil] at hi
          by_cases hik : i = k
          · subst hik
            have : off1 + i < cur1.size := by omega
            simp only [Array.getElem?_setIfInBounds_self, this, if_true]
            rw [List.getElem_append_right (by simp; omega)]
            have := HE.out
            simp
            omega
          · rw [Array.getElem?_setIfInBounds_ne (by omega), h8 i (by simp; omega), List.getElem_append_left (by simp; omega)]
            simp

theorem RNext_any {v : Value} {b : List UInt8} {w : World} (hv : Rd w v b) (hl : b.length ≤ 140737488355328) :
    Calls Try.prog 16 #[v] w fun e w' => ∃ v, e = .returned v ∧ Own w' v (knext b) ∧ Mods noB w w' ∧ freshIn w v := by
  obtain ⟨a, ca, rfl, h1, h2, h3, h4⟩ := hv.at'
  exact RNext_loop b a _ ca w rfl hl h1 hv h4

end Go.Proofs.Ytdoeadoaffmgpaa

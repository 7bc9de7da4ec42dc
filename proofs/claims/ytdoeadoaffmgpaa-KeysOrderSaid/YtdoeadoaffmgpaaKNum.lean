/- keys.number and keys.Next. -/
import Derived.Test.YtdoeadoaffmgpaaBEq
import Derived.Test.YtdoeadoaffmgpaaHSpoil
import Derived.Test.YtdoeadoaffmgpaaSpecK
import Derived.Test.YtdoeadoaffmgpaaLib2
namespace Go.Proofs.Ytdoeadoaffmgpaa
open Go.Gl Go.RowKit
set_option linter.unusedVariables false

theorem num_take (xs : List UInt8) (k : Nat) (h : k < xs.length) : num (xs.take (k + 1)) = num (xs.take k) * 256 + (xs[k]).toNat := by
  rw [List.take_succ_eq_append_getElem h, num_snoc]

theorem num_take_lt (xs : List UInt8) (k : Nat) (hx : xs.length ≤ 8) (h : k < xs.length) : num (xs.take k) < 72057594037927936 := by
  have := num_lt (xs.take k)
  have h1 : (xs.take k).length ≤ 7 := by rw [List.length_take]; omega
  have h2 : 256 ^ (xs.take k).length ≤ 256 ^ 7 := Nat.pow_le_pow_right (by decide) h1
  have h3 : (256 : Nat) ^ 7 = 72057594037927936 := by decide
  omega

theorem ret_u64 {a b : Int} (h : a = b) : Ending.returned (.int .u64 a) = .returned (.int .u64 b) := by rw [h]

set_option maxHeartbeats 400000 in
theorem number_walk (ax : Option Addr) (nx cx : Nat) (xs : List UInt8) (w : World) (hx : xs.length = nx) (hnx : nx ≤ 8) (kx : nx = 0 ∨ ∃ g off, ax = some ⟨g, off, none⟩ ∧ ∀ i (hi : i < xs.length), w.cell? ⟨g, off + i, none⟩ = some (.int .u8 (xs[i]).toNat)) :
    Calls Try.prog 30 #[.slice ax nx cx] w fun e w' => e = .returned (.int .u64 (num xs)) ∧ w' = w := by
  have HX := Lib.hid hx
  have KX := Lib.hid kx
  clear hx kx
  go_enter Try.func30, Try.ntmps30
  go_wp2
  go_loop [3, 8] (fun x i => ∃ k : Nat, k ≤ nx ∧ i = .int .i64 k ∧ x = .int .u64 (num (xs.take k))) (fun _ i => nx - (intOf i).toNat)
  case atStart => exact ⟨0, Nat.zero_le _, rfl, rfl⟩
  case round =>
    obtain ⟨k, hk, rfl, rfl⟩ := hrel
    by_cases hlt : k < nx
    · have lx : k < xs.length := by rw [HX.out]; exact hlt
      obtain ⟨g, off, hax, c1⟩ := KX.out.resolve_left (by omega)
      have c2 := c1 k lx
      have hb := (xs[k]).toNat_lt
      have hb0 : (0 : Int) ≤ ((xs[k]).toNat : Int) := by omega
      have hn := num_take_lt xs k (by rw [HX.out]; exact hnx) lx
      have ht := Lib.hid (num_take xs k lx)
      clear c1 KX
      subst hax
      generalize hz : num (xs.take k) = z at *
      have HZ := Lib.hid hz
      clear hz
      have hz1 : ((z : Nat) : Int) < 72057594037927936 := by omega
      go_wp2
      go_round
      case rel =>
        refine ⟨k + 1, by omega, by go_num, ?_⟩
        rw [shl_or_u64 _ _ (by omega) hz1 hb0 (by omega), ht.out]
        simp
      case measure => simp [intOf]; omega
    · obtain rfl : k = nx := by omega
      go_wp2
      go_ret
      refine ⟨ret_u64 ?_, rfl⟩
      rw [List.take_of_length_le (by rw [HX.out]; omega)]

theorem number_any {v : Value} {xs : List UInt8} {w : World} (hv : Rd w v xs) (h8 : xs.length ≤ 8) :
    Calls Try.prog 30 #[v] w fun e w' => e = .returned (.int .u64 (num xs)) ∧ w' = w := by
  obtain ⟨a, ca, rfl, h1, h2⟩ := Rd.at hv
  exact number_walk a _ ca xs w rfl h8 h2

/-- how many bytes stay when the bytes FF at the end go -/
def kcut (b : List UInt8) : Nat → Nat
  | 0 => 0
  | n + 1 => if b[n]? = some 255 then kcut b n else n + 1

/-- What keys.Next tells. -/
def knext (b : List UInt8) : List UInt8 := match kcut b b.length with
  | 0 => []
  | n + 1 => b.take n ++ [b.getD n 0 + 1]

theorem kcut_le (b : List UInt8) (n : Nat) : kcut b n ≤ n := by
  induction n with
  | zero => exact Nat.le_refl _
  | succ n ih => rw [kcut]; split <;> omega

theorem kcut_at (b : List UInt8) (n m : Nat) (h : kcut b n = m + 1) (hn : n ≤ b.length) : ∃ hm : m < b.length, b[m] ≠ 255 := by
  induction n with
  | zero => simp [kcut] at h
  | succ n ih =>
    rw [kcut] at h
    split at h
    · exact ih h (by omega)
    · rename_i hne
      obtain rfl : n = m := by omega
      exact ⟨by omega, fun e => hne (by rw [List.getElem?_eq_getElem (by omega), e])⟩

theorem kcut_hit (b : List UInt8) (n : Nat) (h : n < b.length) (he : (b[n]).toNat = 255) : kcut b (n + 1) = kcut b n := by
  rw [kcut, if_pos (by rw [List.getElem?_eq_getElem h, UInt8.toNat_inj.1 (show (b[n]).toNat = (255 : UInt8).toNat from he)])]
theorem kcut_miss (b : List UInt8) (n : Nat) (h : n < b.length) (he : (b[n]).toNat ≠ 255) : kcut b (n + 1) = n + 1 := by
  rw [kcut, if_neg (by rw [List.getElem?_eq_getElem h]; intro e; exact he (by rw [Option.some.inj e]; rfl))]

set_option maxHeartbeats 400000 in
theorem KNext_loop (b : List UInt8) (ax : Option Addr) (nx cx : Nat) (w : World) (hx : b.length = nx) (hnx : nx ≤ 140737488355328) (hcx : nx ≤ cx) (hr : Rd w (.slice ax nx cx) b) (kx : nx = 0 ∨ ∃ g off, ax = some ⟨g, off, none⟩ ∧ ∀ i (hi : i < b.length), w.cell? ⟨g, off + i, none⟩ = some (.int .u8 (b[i]).toNat)) :
    Calls Try.prog 15 #[.slice ax nx cx] w fun e w' => ∃ v, e = .returned v ∧ Own w' v (knext b) ∧ Mods noB w w' ∧ freshIn w v := by
  have HX := Lib.hid hx
  have KX := Lib.hid kx
  have HR := Lib.hid hr
  clear hx kx hr
  go_enter Try.func15, Try.ntmps15
  go_wp2
  go_loop [3] (fun n => ∃ k : Nat, k ≤ nx ∧ n = .int .i64 k ∧ Hid (kcut b b.length = kcut b k)) (fun n => (intOf n).toNat)
  case atStart => exact ⟨nx, Nat.le_refl _, rfl, by show _ = _; rw [HX.out]⟩
  case round =>
    obtain ⟨k, hk, rfl, hc⟩ := hrel
    rcases k with _ | k
    · go_wp2
      go_ret
      refine ⟨_, rfl, ?_, Mods.refl _ _, fun k hk => by simp [Value.ownBlock] at hk⟩
      have : knext b = [] := by unfold knext; rw [hc.out]; rfl
      rw [this]
      exact Own.nil _
    · have lx : k < b.length := by rw [HX.out]; omega
      obtain ⟨g, off, hax, c1⟩ := KX.out.resolve_left (by omega)
      have c2 := c1 k lx
      have hb := (b[k]).toNat_lt
      by_cases he : (b[k]).toNat = 255
      · have hd : ((((b[k]).toNat : Nat) : Int) == 255) = true := by simp [he]
        have HE := Lib.hid he
        clear c1 KX he
        subst hax
        go_wp2
        go_round
        case rel =>
          refine ⟨k, by omega, by go_num, ?_⟩
          show _ = _
          rw [hc.out, kcut_hit b k lx HE.out]
        case measure => simp [intOf]
      · have hd : ((((b[k]).toNat : Nat) : Int) == 255) = false := by simp; omega
        have HE := Lib.hid he
        clear c1 KX he
        subst hax
        have hz : (((k : Nat) : Int) + 1 == 0) = false := by simp; omega
        go_wp2_with fail
        refine (Clone_any (HR.out.take' HX.out (by omega)) (by simp [List.length_take]; omega)).mono ?_
        rintro e w1 ⟨v, rfl, h1, h2, h3⟩
        have hkn : knext b = b.take k ++ [b[k] + 1] := by
          have : kcut b b.length = k + 1 := by rw [hc.out, kcut_miss b k lx HE.out]
          unfold knext
          rw [this]
          simp [List.getD, List.getElem?_eq_getElem lx]
        have HK := Lib.hid hkn
        clear hkn
        have hl : (b.take (k + 1)).length = k + 1 := by rw [List.length_take]; omega
        rcases Own.open h1 with ⟨rfl, h4⟩ | ⟨g1, off1, cap1, cur1, rfl, h4, h5, h6, h7, h8⟩
        · rw [h4] at hl; simp at hl
        · rw [hl] at h5 ⊢
          have c5 := (cells_of h4 (off1 + k)).trans (h8 k (by omega))
          have f5 := free_of h4 (off1 + k)
          have e5 : (b.take (k + 1))[k]'(by omega) = b[k] := by simp
          rw [e5] at c5
          have hb2 : ((((b[k]).toNat : Nat) : Int) + 1) ≤ 255 := by have := HE.out; omega
          have F := Lib.hid (show _ ∧ _ ∧ _ ∧ _ ∧ _ ∧ _ ∧ _ from ⟨h2, h3, h4, h5, h6, h7, h8⟩)
          clear h1 h2 h3 h4 h5 h6 h7 h8 e5 c2 hl
          go_wp2
          go_ret
          obtain ⟨h2, h3, h4, h5, h6, h7, h8⟩ := F.out
          have hg1 := h3 g1 rfl
          refine ⟨_, rfl, ?_, h2.setCell (.inr hg1) _, fun k hk => h3 k (by simpa [Value.ownBlock] using hk)⟩
          rw [HK.out]
          refine own_of (by simp; omega) (heap_set h4 _ _) h5 h6 (by simpa using h7) ?_
          intro i hi
          simp only [List.length_append, List.length_take, List.length_cons, List.length_nil] at hi
          by_cases hik : i = k
          · subst hik
            have : off1 + i < cur1.size := by omega
            simp only [Array.getElem?_setIfInBounds_self, this, if_true]
            rw [List.getElem_append_right (by simp; omega)]
            have := HE.out
            simp
            omega
          · rw [Array.getElem?_setIfInBounds_ne (by omega), h8 i (by simp; omega), List.getElem_append_left (by simp; omega)]
            simp

theorem KNext_any {v : Value} {b : List UInt8} {w : World} (hv : Rd w v b) (hl : b.length ≤ 140737488355328) :
    Calls Try.prog 15 #[v] w fun e w' => ∃ v, e = .returned v ∧ Own w' v (knext b) ∧ Mods noB w w' ∧ freshIn w v := by
  obtain ⟨a, ca, rfl, h1, h2, h3, h4⟩ := hv.at'
  exact KNext_loop b a _ ca w rfl hl h1 hv h4

end Go.Proofs.Ytdoeadoaffmgpaa

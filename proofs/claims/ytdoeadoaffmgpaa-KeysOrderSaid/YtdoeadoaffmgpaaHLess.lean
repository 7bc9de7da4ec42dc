/- gleanhelp.Less: does one byte slice stand ahead of the other one, byte by byte? -/
import Derived.Test.YtdoeadoaffmgpaaHBytes
import Derived.Test.YtdoeadoaffmgpaaLib2
namespace Go.Proofs.Ytdoeadoaffmgpaa
open Go.Gl Go.RowKit
set_option linter.unusedVariables false

/-- byte by byte; one that is another one's beginning stands ahead of it -/
def lessB : List UInt8 → List UInt8 → Bool
  | _, [] => false
  | [], _ :: _ => true
  | x :: xs, y :: ys => if x = y then lessB xs ys else decide (x.toNat < y.toNat)

theorem lessB_drop (xs ys : List UInt8) (k : Nat) (hx : k < xs.length) (hy : k < ys.length) : lessB (xs.drop k) (ys.drop k) = if (xs[k]).toNat = (ys[k]).toNat then lessB (xs.drop (k + 1)) (ys.drop (k + 1)) else decide ((xs[k]).toNat < (ys[k]).toNat) := by
  rw [List.drop_eq_getElem_cons hx, List.drop_eq_getElem_cons hy]
  simp only [lessB, UInt8.toNat_inj]

theorem lessB_end (xs ys : List UInt8) (k : Nat) (hk : k ≤ xs.length) (hk' : k ≤ ys.length) (h : ¬ (k < xs.length ∧ k < ys.length)) : lessB (xs.drop k) (ys.drop k) = decide (xs.length < ys.length) := by
  by_cases hy : k < ys.length
  · obtain rfl : k = xs.length := by omega
    rw [List.drop_eq_getElem_cons hy, List.drop_length]
    simp [lessB, hy]
  · obtain rfl : k = ys.length := by omega
    rw [List.drop_length]
    cases h2 : xs.drop ys.length <;> simp [lessB] <;> omega

set_option maxHeartbeats 800000 in
theorem Less_walk (ax ay : Option Addr) (nx ny cx cy : Nat) (xs ys : List UInt8) (w : World) (hx : xs.length = nx) (hy : ys.length = ny) (hnx : nx ≤ maxLen) (hny : ny ≤ maxLen)
    (kx : nx = 0 ∨ ∃ g off, ax = some ⟨g, off, none⟩ ∧ ∀ i (hi : i < xs.length), w.cell? ⟨g, off + i, none⟩ = some (.int .u8 (xs[i]).toNat)) (ky : ny = 0 ∨ ∃ g off, ay = some ⟨g, off, none⟩ ∧ ∀ i (hi : i < ys.length), w.cell? ⟨g, off + i, none⟩ = some (.int .u8 (ys[i]).toNat)) :
    Calls Try.prog 20 #[.slice ax nx cx, .slice ay ny cy] w fun e w' => e = .returned (.bool (lessB xs ys)) ∧ Quiet w w' := by
  unfold maxLen at hnx hny
  have HX := Lib.hid hx
  have HY := Lib.hid hy
  have KX := Lib.hid kx
  have KY := Lib.hid ky
  clear hx hy kx ky
  go_enter Try.func20, Try.ntmps20
  go_wp2
  go_loopw [5] (fun i wr => ∃ k : Nat, k ≤ nx ∧ k ≤ ny ∧ i = .int .i64 k ∧ (∃ m, wr = w.drewN m) ∧ Hid (lessB xs ys = lessB (xs.drop k) (ys.drop k))) (fun i _ => nx - (intOf i).toNat)
  case atStart => exact ⟨0, Nat.zero_le _, Nat.zero_le _, rfl, ⟨0, rfl⟩, rfl⟩
  case round =>
    obtain ⟨k, hk, hk', rfl, ⟨m, rfl⟩, he⟩ := hrel
    by_cases hlt : k < nx ∧ k < ny
    · obtain ⟨l1, l2⟩ := hlt
      have lx : k < xs.length := by rw [HX.out]; exact l1
      have ly : k < ys.length := by rw [HY.out]; exact l2
      obtain ⟨g, off, hax, cx⟩ := KX.out.resolve_left (by omega)
      obtain ⟨h, offh, hay, cy⟩ := KY.out.resolve_left (by omega)
      have c1 := cx k lx
      have c2 := cy k ly
      clear cx cy KX KY
      subst hax hay
      have HL := Lib.hid (lessB_drop xs ys k lx ly)
      by_cases hc : (xs[k]).toNat = (ys[k]).toNat
      · have hd : (((xs[k]).toNat : Int) != ((ys[k]).toNat : Int)) = false := by simp [hc]
        have HC := Lib.hid hc
        clear hc
        go_wp2
        go_quiet (fail)
        go_wp2
        go_roundw
        case rel =>
          refine ⟨k + 1, by omega, by omega, by go_num, ⟨_, rfl⟩, ?_⟩
          show _ = _
          rw [he.out, HL.out, if_pos HC.out]
        case measure => simp [intOf]; omega
      · have hd : (((xs[k]).toNat : Int) != ((ys[k]).toNat : Int)) = true := by simp; omega
        have HC := Lib.hid hc
        clear hc
        go_wp2
        go_quiet (fail)
        go_wp2
        go_quiet (fail)
        go_wp2
        go_ret
        refine ⟨ret_bool ?_, .more (.more ⟨_, rfl⟩)⟩
        rw [he.out, HL.out, if_neg HC.out]
    · have hend := Lib.hid (lessB_end xs ys k (by rw [HX.out]; exact hk) (by rw [HY.out]; exact hk') (by rw [HX.out, HY.out]; exact hlt))
      by_cases l1 : k < nx
      · have l2 : ¬ k < ny := fun h => hlt ⟨l1, h⟩
        clear hlt
        go_wp2
        go_ret
        refine ⟨ret_bool ?_, ⟨_, rfl⟩⟩
        rw [he.out, hend.out, HX.out, HY.out]
      · clear hlt
        go_wp2
        go_ret
        refine ⟨ret_bool ?_, ⟨_, rfl⟩⟩
        rw [he.out, hend.out, HX.out, HY.out]

theorem Less_any {x y : Value} {xs ys : List UInt8} {w : World} (hx : Rd w x xs) (hy : Rd w y ys) :
    Calls Try.prog 20 #[x, y] w fun e w' => e = .returned (.bool (lessB xs ys)) ∧ Quiet w w' := by
  obtain ⟨a, ca, rfl, h1, h2⟩ := Rd.at hx
  obtain ⟨b, cb, rfl, k1, k2⟩ := Rd.at hy
  exact Less_walk a b _ _ ca cb xs ys w rfl rfl h1 k1 h2 k2

end Go.Proofs.Ytdoeadoaffmgpaa

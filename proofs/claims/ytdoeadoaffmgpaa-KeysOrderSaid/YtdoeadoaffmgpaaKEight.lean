/- keys.eight: a number's eight bytes, the highest first. -/
import Derived.Test.YtdoeadoaffmgpaaBase
import Derived.Test.YtdoeadoaffmgpaaSpecK
namespace Go.Proofs.Ytdoeadoaffmgpaa
open Go.Gl Go.RowKit
set_option linter.unusedVariables false

theorem bv_be8 (x : Nat) : bv (be 8 x) = [.int .u8 (b8 x 7), .int .u8 (b8 x 6), .int .u8 (b8 x 5), .int .u8 (b8 x 4), .int .u8 (b8 x 3), .int .u8 (b8 x 2), .int .u8 (b8 x 1), .int .u8 (b8 x 0)] := by
  simp only [be, bv, List.map_cons, List.map_nil, UInt8.toNat_ofNat', b8]

theorem agg8 (x : Nat) (hx : x < 18446744073709551616) (a0 a1 a2 a3 a4 a5 a6 a7 : Int) (h : a0 = x / 72057594037927936 ∧ a1 = x / 281474976710656 % 256 ∧ a2 = x / 1099511627776 % 256 ∧ a3 = x / 4294967296 % 256 ∧ a4 = x / 16777216 % 256 ∧ a5 = x / 65536 % 256 ∧ a6 = x / 256 % 256 ∧ a7 = x % 256) :
    a0 = b8 x 7 ∧ a1 = b8 x 6 ∧ a2 = b8 x 5 ∧ a3 = b8 x 4 ∧ a4 = b8 x 3 ∧ a5 = b8 x 2 ∧ a6 = b8 x 1 ∧ a7 = b8 x 0 := by
  obtain ⟨rfl, rfl, rfl, rfl, rfl, rfl, rfl, rfl⟩ := h
  simp only [b8]
  omega

def eightV (x : Nat) : Value := .agg #[.int .u8 (b8 x 7), .int .u8 (b8 x 6), .int .u8 (b8 x 5), .int .u8 (b8 x 4), .int .u8 (b8 x 3), .int .u8 (b8 x 2), .int .u8 (b8 x 1), .int .u8 (b8 x 0)]

theorem eightV_of (x : Nat) (hx : x < 18446744073709551616) : Value.agg #[.int .u8 (x / 72057594037927936), .int .u8 (x / 281474976710656 % 256), .int .u8 (x / 1099511627776 % 256), .int .u8 (x / 4294967296 % 256), .int .u8 (x / 16777216 % 256), .int .u8 (x / 65536 % 256), .int .u8 (x / 256 % 256), .int .u8 (x % 256)] = eightV x := by
  obtain ⟨h0, h1, h2, h3, h4, h5, h6, h7⟩ := agg8 x hx _ _ _ _ _ _ _ _ ⟨rfl, rfl, rfl, rfl, rfl, rfl, rfl, rfl⟩
  unfold eightV
  rw [h0, h1, h2, h3, h4, h5, h6, h7]

set_option maxHeartbeats 1000000 in
theorem eight_any (x : Nat) (w : World) (hx : x < 18446744073709551616) :
    Calls Try.prog 36 #[.int .u64 x] w fun e w' => e = .returned (eightV x) ∧ Mods noB w w' := by
  have H := Lib.hid (eightV_of x hx)
  go_enter Try.func36, Try.ntmps36
  go_wp2
  go_rounds 9
  refine bodyPost_ret (by simp [results, Try.results36, go_sem]; exact H.out) rfl ?_
  exact ⟨rfl, (by repeat' (first | (with_reducible exact Mods.refl _ _) | (with_reducible assumption) | (with_reducible refine Mods.alloc ?_ _) | (with_reducible refine Mods.drew ?_) | (with_reducible refine Mods.drewN ?_ _) | (with_reducible refine Mods.regrown ?_ _ _) | (with_reducible refine Mods.setCell ?_ ?_ _) | (exact .inr (by simp)) | (exact .inr (by simp; omega))))⟩

theorem eight_int (n : Int) (w : World) (h0 : 0 ≤ n) (h1 : n ≤ 18446744073709551615) :
    Calls Try.prog 36 #[.int .u64 n] w fun e w' => e = .returned (.agg #[.int .u8 (b8 n.toNat 7), .int .u8 (b8 n.toNat 6), .int .u8 (b8 n.toNat 5), .int .u8 (b8 n.toNat 4), .int .u8 (b8 n.toNat 3), .int .u8 (b8 n.toNat 2), .int .u8 (b8 n.toNat 1), .int .u8 (b8 n.toNat 0)]) ∧ Mods noB w w' := by
  obtain ⟨x, rfl⟩ := Int.eq_ofNat_of_zero_le h0
  exact eight_any x w (by omega)

/-- A block that holds a number's eight bytes, read as a slice. -/
theorem rd8 {w : World} {g : Nat} {x : Nat} {e : TypeId} {fr : Nat × Nat} (h : w.heap[g]? = some (.cells #[.int .u8 (b8 x 7), .int .u8 (b8 x 6), .int .u8 (b8 x 5), .int .u8 (b8 x 4), .int .u8 (b8 x 3), .int .u8 (b8 x 2), .int .u8 (b8 x 1), .int .u8 (b8 x 0)] e fr)) : Rd w (.slice (some ⟨g, 0, none⟩) 8 8) (be 8 x) := by
  refine ⟨by rw [be_length, bv_length, be_length], .inr ⟨g, 0, 8, by rw [be_length], by rw [be_length]; omega, by simp [maxLen], lt_of_heap h, fun j u hj => ?_⟩⟩
  rw [bv_be8] at hj
  rw [cells_of h, Nat.zero_add]
  simpa using hj

end Go.Proofs.Ytdoeadoaffmgpaa

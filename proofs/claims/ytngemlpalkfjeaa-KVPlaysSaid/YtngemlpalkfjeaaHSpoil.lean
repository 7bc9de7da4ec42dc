/- gleanhelp.SpoilBytes: it writes over the bytes of an owned slice, and over nothing else. -/
import Derived.Test.YtngemlpalkfjeaaZA
namespace Go.Proofs.Ytngemlpalkfjeaa
open Go.Gl Go.RowKit
set_option linter.unusedVariables false
theorem own_set {xs : List UInt8} {cur : Array Value} {off cap k : Nat} {n : Int} (h4 : off + cap ≤ cur.size) (h2 : xs.length ≤ cap) (hk : k < xs.length) (h5 : ∀ i (hi : i < xs.length), cur[off + i]? = some (.int .u8 (xs[i]).toNat)) (h0 : 0 ≤ n) (h1 : n < 256) :
    ∃ ys : List UInt8, ys.length = xs.length ∧ ∀ i (hi : i < ys.length), (cur.setIfInBounds (off + k) (.int .u8 n))[off + i]? = some (.int .u8 (ys[i]).toNat) := by
  refine ⟨xs.set k (UInt8.ofNat n.toNat), by simp, fun i hi => ?_⟩
  simp only [List.length_set] at hi
  by_cases hik : i = k
  · subst hik
    simp only [List.getElem_set_self, Array.getElem?_setIfInBounds, if_true, if_pos (show off + i < cur.size from by omega), UInt8.toNat_ofNat']
    congr 2
    omega
  · rw [Array.getElem?_setIfInBounds_ne (by omega), h5 i hi, List.getElem_set_ne (by omega)]
set_option maxHeartbeats 400000 in
theorem Spoil_none (w : World) : Calls Try.prog 36 #[.slice none 0 0] w fun e w' => e = .returned (.tuple #[]) ∧ w' = w := by
  go_enter Try.func36, Try.ntmps36
  go_wp2
  go_rounds 1
  go_end0
  exact ⟨rfl, rfl⟩
def SpoilRel (w : World) (g off cap n k : Nat) (wr : World) : Prop :=
  ∃ cur, wr.heap[g]? = some (.cells cur 5 (0, 0)) ∧ off + cap ≤ cur.size ∧ Mods (fun b => b = g) w wr ∧ ∃ ys : List UInt8, ys.length = n ∧ ∀ i (hi : i < ys.length), cur[off + i]? = some (.int .u8 (ys[i]).toNat)
set_option maxHeartbeats 400000 in
theorem Spoil_some {g off cap : Nat} {xs : List UInt8} {cur : Array Value} {w : World} (n : Nat) (hx : xs.length = n) (hg : w.heap[g]? = some (.cells cur 5 (0, 0))) (hn : n ≤ cap) (hc : cap ≤ maxLen) (h4 : off + cap ≤ cur.size)
    (h5 : ∀ i (hi : i < xs.length), cur[off + i]? = some (.int .u8 (xs[i]).toNat)) :
    Calls Try.prog 36 #[.slice (some ⟨g, off, none⟩) n cap] w fun e w' => e = .returned (.tuple #[]) ∧ SpoilRel w g off cap n n w' := by
  have H0 : SpoilRel w g off cap n 0 w := ⟨cur, hg, h4, Mods.refl _ _, xs, hx, h5⟩
  clear h5 h4 hg hx
  unfold maxLen at hc
  go_enter Try.func36, Try.ntmps36
  go_wp2
  go_loopw [2] (fun i wr => ∃ k : Nat, k ≤ n ∧ i = .int .i64 k ∧ SpoilRel w g off cap n k wr) (fun i _ => n - (intOf i).toNat)
  case atStart => exact ⟨0, Nat.zero_le _, rfl, H0⟩
  case round =>
    obtain ⟨k, hk, rfl, hR⟩ := hrel
    by_cases hlt : k < n
    · obtain ⟨c1, r1, r2, r3, ys, r4, r5⟩ := hR
      have hky : k < ys.length := by omega
      have hcell : wr.cell? ⟨g, off + k, none⟩ = some (.int .u8 (ys[k]).toNat) := (cells_of r1 _).trans (r5 k hky)
      have hfr : wr.frozen? ⟨g, off + k, none⟩ = false := free_of r1 _
      obtain ⟨z, hz⟩ : ∃ z : Int, z = (ys[k]).toNat := ⟨_, rfl⟩
      have hz0 : 0 ≤ z := by omega
      have hz1 : z < 256 := by have := (ys[k]).toNat_lt; omega
      rw [← hz] at hcell
      have R := Lib.hid (show _ ∧ _ ∧ _ ∧ _ ∧ _ from ⟨r1, r2, r3, r4, r5⟩)
      clear r1 r2 r3 r4 r5 hz H0
      go_wp2
      go_roundw
      case rel =>
        obtain ⟨r1, r2, r3, r4, r5⟩ := R.out
        refine ⟨k + 1, by omega, by go_num, _, heap_set r1 _ _, by simpa using r2, r3.setCell (.inl rfl) _, ?_⟩
        obtain ⟨ys', q1, q2⟩ := own_set (n := bits BinOp.xor IntKind.u8 z 90) r2 (by omega) hky r5 (bounds_u8 (wf_bits _ _ _ _)).1 (by have := (bounds_u8 (wf_bits BinOp.xor IntKind.u8 z 90)).2; omega)
        exact ⟨ys', by omega, q2⟩
      case measure => simp [intOf]; omega
    · obtain rfl : k = n := by omega
      clear H0
      have R := Lib.hid hR
      clear hR
      go_wp2
      go_end0
      exact ⟨rfl, R.out⟩
theorem Spoil_any {v : Value} {xs : List UInt8} {w : World} (hv : Own w v xs) :
    Calls Try.prog 36 #[v] w fun e w' => e = .returned (.tuple #[]) ∧ Mods (ofV v) w w' := by
  rcases Own.open hv with ⟨rfl, rfl⟩ | ⟨g, off, cap, cur, rfl, h1, h2, h3, h4, h5⟩
  · exact (Spoil_none w).mono fun e w' ⟨he, hw⟩ => ⟨he, by rw [hw]; exact Mods.refl _ _⟩
  · refine (Spoil_some xs.length rfl h1 h2 h3 h4 h5).mono fun e w' ⟨he, c, _, _, hm, _⟩ => ⟨he, hm.mono fun i _ hi => by subst hi; rfl⟩
end Go.Proofs.Ytngemlpalkfjeaa

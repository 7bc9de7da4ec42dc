/- gleanref4.Put: n bytes of a number appended, the highest first. -/
import Derived.Test.YtnkbbclcileleaaGreatBase
import Derived.Test.YtnkbbclcileleaaGreatLib2
import Derived.Test.YtnkbbclcileleaaGreatSpecK
namespace Go.Proofs.YtnkbbclcileleaaGreat
open Go.Gl Go.RowKit
set_option linter.unusedVariables false

/-- bytes appended to an owned slice -/
structure Appended (w : World) (v : Value) (xs : List UInt8) (w' : World) (v' : Value) : Prop where
  own : Own w' v' xs
  mods : Mods (ofV v) w w'
  blk : v'.ownBlock = v.ownBlock ∨ freshIn w v'

theorem Appended.trans {w w1 w2 : World} {v v1 v2 : Value} {xs ys : List UInt8} (h : Appended w v xs w1 v1) (k : Appended w1 v1 ys w2 v2) : Appended w v ys w2 v2 :=
  ⟨k.own, h.mods.trans k.mods (fun _ _ x => x) (fun i hi hx => by
      rcases h.blk with hb | hb
      · exact hb.symm.trans hx
      · exact absurd hi (Nat.not_lt.2 (hb i hx))),
    by
      rcases k.blk with kb | kb
      · rcases h.blk with hb | hb
        · exact .inl (kb.trans hb)
        · exact .inr (fun i hi => hb i (kb ▸ hi))
      · exact .inr (kb.of h.mods.size)⟩

theorem Appended.fresh {w w1 : World} {v v1 : Value} {xs : List UInt8} (h : Appended w v xs w1 v1) {w0 : World} (hs : w0.heap.size ≤ w.heap.size) (hv : freshIn w0 v) : freshIn w0 v1 := by
  rcases h.blk with hb | hb
  · exact fun i hi => hv i (hb ▸ hi)
  · exact hb.of hs

theorem Appended.mods0 {w w1 : World} {v v1 : Value} {xs : List UInt8} (h : Appended w v xs w1 v1) {w0 : World} (hm : Mods noB w0 w) (hv : freshIn w0 v) : Mods noB w0 w1 :=
  hm.trans h.mods (fun _ _ x => x) (fun i hi hx => absurd hi (Nat.not_lt.2 (hv i hx)))

theorem shr_byte (x j : Nat) : (x : Int) / 2 ^ (8 * j) % 256 = (((UInt8.ofNat (x / 256 ^ j)).toNat : Nat) : Int) := by
  rw [UInt8.toNat_ofNat', show (256 : Nat) = 2 ^ 8 from rfl, ← Nat.pow_mul]
  simp

set_option maxHeartbeats 1000000 in
theorem Put_any {v : Value} {xs : List UInt8} {w : World} (n x : Nat) (hv : Own w v xs) (hn : n ≤ 8) (hx : x ≤ 18446744073709551615) (hl : xs.length ≤ 100000000000000) :
    Calls Tryz.prog 120 #[v, .int .i64 n, .int .u64 x] w fun e w' => ∃ v', e = .returned v' ∧ Appended w v (xs ++ be n x) w' v' := by
  obtain ⟨out, hgo⟩ : ∃ out, xs ++ be n x = out := ⟨_, rfl⟩
  have R0 : Hid (Appended w v xs w v ∧ xs ++ be n x = out ∧ xs.length + n ≤ 100000000000008) := ⟨⟨hv, Mods.refl _ _, .inl rfl⟩, hgo, by omega⟩
  rw [hgo]
  clear hv hgo hl
  go_enter Tryz.func120, Tryz.ntmps120
  go_wp2
  go_loopw [0, 7] (fun b k wr => ∃ (j : Nat) (ys : List UInt8), j ≤ 8 ∧ k = .int .i64 ((j : Int) - 1) ∧ Hid (Appended w v ys wr b ∧ ys ++ be j x = out ∧ ys.length + j ≤ 100000000000008)) (fun _ k _ => (intOf k + 1).toNat)
  case atStart => exact ⟨n, xs, hn, rfl, R0⟩
  case round =>
    obtain ⟨j, ys, hj, rfl, hR⟩ := hrel
    clear R0
    rcases j with _ | j
    · go_wp2
      go_ret
      obtain ⟨h1, h2, h3⟩ := hR.out
      simp only [be, List.append_nil] at h2
      subst h2
      exact ⟨_, rfl, h1⟩
    · rw [show (((j + 1 : Nat) : Int) - 1) = ((j : Nat) : Int) from by omega]
      have h8 : j ≤ 7 := by omega
      go_wp2_with (at_builtin; refine stop ?_)
      unfold Stop
      rw [shr_byte]
      obtain ⟨h1, h2, h3⟩ := hR.out
      refine wpList_apb rfl rfl ys _ (h1.own.alloc _) (own_at (UInt8.ofNat (x / 256 ^ j)) _ rfl).rd rfl rfl (by simp; omega) ?_
      intro v' w' k1 k2 k3
      have R1 : Hid (Appended w v (ys ++ [UInt8.ofNat (x / 256 ^ j)]) w' v' ∧ (ys ++ [UInt8.ofNat (x / 256 ^ j)]) ++ be j x = out ∧ (ys ++ [UInt8.ofNat (x / 256 ^ j)]).length + j ≤ 100000000000008) :=
        ⟨h1.trans ⟨k1, ((Mods.refl _ _).alloc _).trans k2 (fun _ _ x => x) (fun _ _ x => x), k3.imp_right (fun h => h.of (by simp))⟩, by rw [← h2]; simp [be], by simp; omega⟩
      clear hR h1 h2 h3 k1 k2 k3
      go_wp2
      go_roundw
      case rel => exact ⟨j, _, by omega, rfl, R1⟩
      case measure => simp [intOf]

end Go.Proofs.YtnkbbclcileleaaGreat

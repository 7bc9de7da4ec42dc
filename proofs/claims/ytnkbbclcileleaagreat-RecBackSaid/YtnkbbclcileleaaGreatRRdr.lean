/- gleanref4.Reader: take and U. -/
import Derived.Test.YtnkbbclcileleaaGreatNumT
import Derived.Test.YtnkbbclcileleaaGreatBase2
namespace Go.Proofs.YtnkbbclcileleaaGreat
open Go.Gl Go.RowKit
set_option linter.unusedVariables false

/-- The reference's reader at block g: what is left, its error; its bytes lie elsewhere. -/
structure RR (w : World) (g : Nat) (vB : Value) (xs : List UInt8) (err : Int) : Prop where
  heap : w.heap[g]? = some (.cells #[vB, .int .i64 err] 187 (0, 0))
  rd : Rd w vB xs
  apart : vB.ownBlock ≠ some g

def rtakeY (n : Nat) (xs : List UInt8) (err : Int) : List UInt8 := if err = 0 then (if n ≤ xs.length then xs.take n else []) else []
def rtakeX (n : Nat) (xs : List UInt8) (err : Int) : List UInt8 := if err = 0 then (if n ≤ xs.length then xs.drop n else xs) else xs
def rtakeE (n : Nat) (xs : List UInt8) (err : Int) : Int := if err = 0 then (if n ≤ xs.length then 0 else 40) else err

/-- what a call of the reader leaves: its state, and nothing else turned -/
structure RStep (w : World) (g : Nat) (vB : Value) (xs : List UInt8) (err : Int) (w' : World) : Prop where
  st : ∃ vB', RR w' g vB' xs err ∧ (∀ k, vB'.ownBlock = some k → vB.ownBlock = some k)
  mods : Mods (fun k => k = g) w w'

theorem Mods.one (w : World) (g o : Nat) (u : Value) : Mods (fun k => k = g) w (w.setCell ⟨g, o, none⟩ u) := (Mods.refl (fun k => k = g) w).setCell (.inl (by rfl)) u

theorem RR.lt {w : World} {g : Nat} {vB : Value} {xs : List UInt8} {err : Int} (h : RR w g vB xs err) : g < w.heap.size := lt_of_heap h.heap

theorem RR.keep {S : Nat → Prop} {w w' : World} {g : Nat} {vB : Value} {xs : List UInt8} {err : Int} (h : RR w g vB xs err) (hm : Mods S w w') (hg : ¬ S g) (hv : ∀ k, vB.ownBlock = some k → ¬ S k) : RR w' g vB xs err :=
  ⟨hm.heap h.heap hg, h.rd.keep hm hv, h.apart⟩

theorem Rd.drop {w : World} {g off n cap : Nat} {xs : List UInt8} (h : Rd w (.slice (some ⟨g, off, none⟩) xs.length cap) xs) (hn : n ≤ xs.length) : Rd w (.slice (if cap = n then some ⟨g, off, none⟩ else some ⟨g, off + n, none⟩) (xs.length - n) (cap - n)) (xs.drop n) := by
  rcases h.open with ⟨h1, _⟩ | ⟨g', off', cap', h1, h2, h3, h4, h5⟩
  · exact h1.no.elim
  · cases h1
    by_cases hc : cap = n
    · rw [if_pos hc]
      obtain rfl : n = xs.length := by omega
      rw [List.drop_length, Nat.sub_self]
      exact ⟨rfl, .inr ⟨g, off, _, rfl, Nat.zero_le _, by omega, .inl rfl, fun j u hj => by simp [bv] at hj⟩⟩
    · rw [if_neg hc]
      refine ⟨by rw [bv_length, Nat.mul_one], .inr ⟨_, _, _, by rw [List.length_drop], by rw [List.length_drop]; omega, by omega, h4.imp (fun x => by rw [List.length_drop]; omega) id, fun j u hj => ?_⟩⟩
      have hj' : j < (xs.drop n).length := by have := (List.getElem?_eq_some_iff.1 hj).1; simpa [bv_length] using this
      rw [bv_get _ j hj'] at hj
      rw [← hj, Nat.add_assoc, h5 (n + j) (by rw [List.length_drop] at hj'; omega)]
      simp

set_option maxHeartbeats 800000 in
theorem rtake_err {w : World} {g : Nat} {vB : Value} {xs : List UInt8} {err : Int} (n : Nat) (h : RR w g vB xs err) (he : err ≠ 0) :
    Calls Tryz.prog 152 #[.pointer (some ⟨g, 0, none⟩), .int .i64 n] w fun e w' => e = .returned (.slice none 0 0) ∧ w' = w := by
  have c := cells_of h.heap
  have hb : (err == 0) = false := by simp [he]
  have hb2 : (err != 0) = true := by simp [he]
  clear h he
  go_enter Tryz.func152, Tryz.ntmps152
  go_wp2
  go_ret
  exact ⟨rfl, rfl⟩

set_option maxHeartbeats 800000 in
theorem rtake_short {w : World} {g : Nat} {vB : Value} {xs : List UInt8} (n : Nat) (h : RR w g vB xs 0) (hn : xs.length < n) (hm : n ≤ 9223372036854775807) :
    Calls Tryz.prog 152 #[.pointer (some ⟨g, 0, none⟩), .int .i64 n] w fun e w' => e = .returned (.slice none 0 0) ∧ RStep w g vB xs 40 w' := by
  obtain ⟨a, ca, rfl, h1⟩ := h.rd.form
  have c := cells_of h.heap
  have f := free_of h.heap
  have R := Lib.hid h
  clear h
  generalize hx : xs.length = len at *
  have HX := Lib.hid hx
  clear hx h1
  go_enter Tryz.func152, Tryz.ntmps152
  go_wp2
  go_ret
  have hh := heap_set R.out.heap 1 (.int .i64 40)
  refine ⟨rfl, ⟨_, ⟨by simpa using hh, R.out.rd.keep (Mods.one _ _ _ _) (fun k hk e => R.out.apart (by rw [hk, e])), R.out.apart⟩, fun _ x => x⟩, Mods.one _ _ _ _⟩

theorem RR.setB {w : World} {g : Nat} {vB : Value} {xs : List UInt8} {err : Int} (h : RR w g vB xs err) (v : Value) : (w.setCell ⟨g, 0, none⟩ v).heap[g]? = some (.cells #[v, .int .i64 err] 187 (0, 0)) := by
  have hh := heap_set h.heap 0 v
  simpa using hh
theorem RR.setE {w : World} {g : Nat} {vB : Value} {xs : List UInt8} {err : Int} (h : RR w g vB xs err) (n : Int) : (w.setCell ⟨g, 1, none⟩ (.int .i64 n)).heap[g]? = some (.cells #[vB, .int .i64 n] 187 (0, 0)) := by
  have hh := heap_set h.heap 1 (.int .i64 n)
  simpa using hh

theorem rtake_end {w : World} {g gb off off' ca ca' m : Nat} {xs : List UInt8} {n : Nat} (R : RR w g (.slice (some ⟨gb, off, none⟩) xs.length ca) xs 0) (hn : n ≤ xs.length) (r3 : Rd w (.slice (some ⟨gb, off', none⟩) m ca') (xs.drop n)) :
    ∃ v, Ending.returned (.slice (some ⟨gb, off, none⟩) n ca) = .returned v ∧ Rd (w.setCell ⟨g, 0, none⟩ (.slice (some ⟨gb, off', none⟩) m ca')) v (xs.take n) ∧ (∀ k, v.ownBlock = some k → (Value.slice (some ⟨gb, off, none⟩) xs.length ca).ownBlock = some k) ∧ RStep w g (.slice (some ⟨gb, off, none⟩) xs.length ca) (xs.drop n) 0 (w.setCell ⟨g, 0, none⟩ (.slice (some ⟨gb, off', none⟩) m ca')) := by
  have hne : gb ≠ g := fun e => R.apart (by rw [e]; rfl)
  refine ⟨_, rfl, (R.rd.take hn).keep (Mods.one _ _ _ _) (fun k hk e => ?_), fun k hk => by simpa [Value.ownBlock] using hk, ⟨_, ⟨R.setB _, r3.keep (Mods.one _ _ _ _) (fun k hk e => ?_), fun e => ?_⟩, fun k hk => by simpa [Value.ownBlock] using hk⟩, Mods.one _ _ _ _⟩
  · simp [Value.ownBlock] at hk; omega
  · simp [Value.ownBlock] at hk; omega
  · simp [Value.ownBlock] at e; omega

set_option maxHeartbeats 800000 in
theorem rtake_ok {w : World} {g : Nat} {vB : Value} {xs : List UInt8} (n : Nat) (h : RR w g vB xs 0) (hn : n ≤ xs.length) :
    Calls Tryz.prog 152 #[.pointer (some ⟨g, 0, none⟩), .int .i64 n] w fun e w' => ∃ v, e = .returned v ∧ Rd w' v (xs.take n) ∧ (∀ k, v.ownBlock = some k → vB.ownBlock = some k) ∧ RStep w g vB (xs.drop n) 0 w' := by
  rcases h.rd.open with ⟨h0, rfl⟩ | ⟨gb, off, ca, rfl, h1, h2, h3, _⟩
  · obtain ⟨a0, rfl⟩ := h0.form
    obtain rfl : n = 0 := by simpa using hn
    have c := cells_of h.heap
    have f := free_of h.heap
    have R := Lib.hid h
    clear h hn
    go_enter Tryz.func152, Tryz.ntmps152
    go_wp2
    go_ret
    have hh := heap_set R.out.heap 0 (.slice a0 0 0)
    refine ⟨_, rfl, R.out.rd.any, fun _ x => x, ⟨_, ⟨by simpa using hh, R.out.rd.any, R.out.apart⟩, fun _ x => x⟩, Mods.one _ _ _ _⟩
  · have hm : ca ≤ 9223372036854775807 := by simp only [maxLen] at h2; omega
    have r2 := Rd.drop h.rd hn
    by_cases hcn : ca = n
    · subst hcn
      rw [if_pos rfl, Nat.sub_self, show xs.length - ca = 0 from by omega] at r2
      have c := cells_of h.heap
      have f := free_of h.heap
      have R := Lib.hid (And.intro h r2)
      clear h h2 h3 r2
      go_enter Tryz.func152, Tryz.ntmps152
      go_wp2
      go_ret
      exact rtake_end R.out.1 hn R.out.2
    · rw [if_neg hcn] at r2
      have c := cells_of h.heap
      have f := free_of h.heap
      have R := Lib.hid (And.intro h r2)
      clear h h2 h3 r2
      go_enter Tryz.func152, Tryz.ntmps152
      go_wp2
      go_ret
      exact rtake_end R.out.1 hn R.out.2

theorem rtake_any {w : World} {g : Nat} {vB : Value} {xs : List UInt8} {err : Int} (n : Nat) (h : RR w g vB xs err) (hm : n ≤ 9223372036854775807) :
    Calls Tryz.prog 152 #[.pointer (some ⟨g, 0, none⟩), .int .i64 n] w fun e w' => ∃ v, e = .returned v ∧ Rd w' v (rtakeY n xs err) ∧ RStep w g vB (rtakeX n xs err) (rtakeE n xs err) w' := by
  unfold rtakeX rtakeY rtakeE
  by_cases he : err = 0
  · subst he
    by_cases hn : n ≤ xs.length
    · simp only [if_true, hn]
      exact (rtake_ok n h hn).mono fun e w' ⟨v, he, hr, _, hs⟩ => ⟨v, he, hr, hs⟩
    · simp only [if_true, hn, if_false]
      exact (rtake_short n h (by omega) hm).mono fun e w' ⟨he, hs⟩ => ⟨_, he, Rd.nil _, hs⟩
  · simp only [he, if_false]
    exact (rtake_err n h he).mono fun e w' ⟨hr, hw⟩ => by subst hw; exact ⟨_, hr, Rd.nil _, ⟨vB, h, fun _ x => x⟩, Mods.refl _ _⟩

set_option maxHeartbeats 800000 in
theorem rU_any {w : World} {g : Nat} {vB : Value} {xs : List UInt8} {err : Int} (n : Nat) (h : RR w g vB xs err) (hm : n ≤ 8) :
    Calls Tryz.prog 123 #[.pointer (some ⟨g, 0, none⟩), .int .i64 n] w fun e w' => e = .returned (.int .u64 (num (rtakeY n xs err))) ∧ RStep w g vB (rtakeX n xs err) (rtakeE n xs err) w' := by
  have hy : (rtakeY n xs err).length ≤ 8 := by
    unfold rtakeY
    repeat' split
    · rw [List.length_take]; omega
    · simp
    · simp
  go_enter Tryz.func123, Tryz.ntmps123
  go_wp2_with fail
  refine (rtake_any n h (by omega)).mono ?_
  rintro e w1 ⟨v, rfl, hr, hs⟩
  obtain ⟨ax, cx, rfl, h1, h2⟩ := Rd.at hr
  have HS := Lib.hid hs
  have KX := Lib.hid h2
  generalize hys : rtakeY n xs err = ys at *
  have HY := Lib.hid hys
  clear hr hs h2 h h1 hys
  obtain ⟨nx, hnx⟩ : ∃ nx, ys.length = nx := ⟨_, rfl⟩
  have KX : Hid (nx = 0 ∨ ∃ g off, ax = some ⟨g, off, none⟩ ∧ ∀ i (hi : i < ys.length), w1.cell? ⟨g, off + i, none⟩ = some (.int .u8 (ys[i]).toNat)) := by
    rcases KX.out with h | h
    · exact .inl (by omega)
    · exact .inr h
  rw [hnx] at hy ⊢
  have HX := Lib.hid hnx
  clear hnx
  go_wp2
  go_loop [6, 7] (fun x i => ∃ k : Nat, k ≤ nx ∧ i = .int .i64 k ∧ x = .int .u64 (num (ys.take k))) (fun _ i => nx - (intOf i).toNat)
  case atStart => exact ⟨0, Nat.zero_le _, rfl, rfl⟩
  case round =>
    obtain ⟨k, hk, rfl, rfl⟩ := hrel
    by_cases hlt : k < nx
    · have lx : k < ys.length := by rw [HX.out]; exact hlt
      obtain ⟨g', off, hax, c1⟩ := KX.out.resolve_left (by omega)
      have c2 := c1 k lx
      have hb := (ys[k]).toNat_lt
      have hb0 : (0 : Int) ≤ ((ys[k]).toNat : Int) := by omega
      have hn := num_take_lt ys k (by rw [HX.out]; exact hy) lx
      have ht := Lib.hid (num_take ys k lx)
      clear c1 KX
      subst hax
      generalize hz : num (ys.take k) = z at *
      have HZ := Lib.hid hz
      clear hz
      have hz1 : ((z : Nat) : Int) < 72057594037927936 := by omega
      go_wp2
      go_round
      case rel =>
        refine ⟨k + 1, by omega, by go_num, ?_⟩
        rw [shl_or_u64 _ _ (by omega) hz1 hb0 (by omega), ht.out]
        simp
      case measure => simp [intOf]; omega
    · obtain rfl : k = nx := by omega
      go_wp2
      go_ret
      refine ⟨ret_u64 ?_, HS.out⟩
      rw [List.take_of_length_le (by rw [HX.out]; omega), HY.out]

end Go.Proofs.YtnkbbclcileleaaGreat

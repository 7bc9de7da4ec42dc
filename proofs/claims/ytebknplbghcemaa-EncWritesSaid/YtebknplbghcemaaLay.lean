/- gleanlaw4.lay: what the reference appends for a step. -/
import Derived.Test.YtebknplbghcemaaRWr
import Derived.Test.YtebknplbghcemaaRun
namespace Go.Proofs.Ytebknplbghcemaa
open Go.Gl Go.RowKit
set_option linter.unusedVariables false
set_option maxRecDepth 100000

theorem be_mod (n x : Nat) : be n (x % 256 ^ n) = be n x := by
  have h1 := num_be n x
  have h2 := be_num (be n x)
  rw [be_length, h1] at h2
  exact h2

def layX (s : EStp) (xs : List UInt8) : List UInt8 := if s.long then xs else xs ++ s.lay
def LayRes (w : World) (v : Value) (s : EStp) (xs : List UInt8) (e : Ending) (w' : World) : Prop := ∃ v', e = .returned (.tuple #[v', .bool (!s.long)]) ∧ Appended w v (layX s xs) w' v'

/-- what the walk knows behind the box -/
structure LPre (w : World) (v : Value) (xs : List UInt8) (s : EStp) (wx : World) : Prop where
  own : Own wx v xs
  at' : s.At wx
  away : s.b = [] ∨ ∀ k, k < wx.heap.size → s.bw.ownBlock = some k → v.ownBlock ≠ some k
  mods : Mods noB w wx

theorem LPre.make {w : World} {v : Value} {xs : List UInt8} {s : EStp} (h : Own w v xs) (hs : s.At w) (ha : s.b = [] ∨ ∀ k, k < w.heap.size → s.bw.ownBlock = some k → v.ownBlock ≠ some k) : LPre w v xs s (w.alloc s.box) := by
  have m := (Mods.refl noB w).alloc s.box
  refine ⟨h.keep m (fun _ _ x => x), hs.keep m, ?_, m⟩
  by_cases hb : s.b = []
  · exact .inl hb
  · refine .inr (fun k hk hkb => (ha.resolve_left hb) k ?_ hkb)
    exact hs.b.ltn (fun h0 => hb (List.eq_nil_of_length_eq_zero h0)) k hkb

theorem long_no {s : EStp} (h4 : s.what ≠ 4) (h5 : s.what ≠ 5) : s.long = false := by
  simp [EStp.long, h4, h5]

set_option maxHeartbeats 1000000 in
theorem lay0 {w : World} {v : Value} {xs : List UInt8} {s : EStp} (h : LPre w v xs s (w.alloc s.box)) (hl : xs.length ≤ 1000000000) (hw : s.what = 0) :
    Calls Try.prog 24 #[v, s.val] w (LayRes w v s xs) := by
  have H := Lib.hid h
  have HR := Lib.hid (show (!s.long) = true ∧ layX s xs = xs ++ be 1 (s.n) from by
    have e := long_no (s := s) (by rw [hw]; decide) (by rw [hw]; decide)
    refine ⟨by rw [e]; rfl, ?_⟩
    unfold layX EStp.lay
    rw [e]
    simp only [hw]
    rw [if_neg (by decide), if_pos trivial, show be 1 (s.n % 256) = be 1 s.n from be_mod 1 s.n])
  obtain ⟨what, n, nv, bw, nat, b, most⟩ := s
  simp only at hw
  subst hw
  have hu := h.at'.n
  have f2 := RdM.form h.at'.nat
  have f3 := h.at'.b.form
  simp only at hu f2 f3
  obtain ⟨a2, c2, rfl, _⟩ := f2
  obtain ⟨a3, c3, rfl, _⟩ := f3
  unfold EStp.val
  unfold EStp.box at *
  simp only at H HR ⊢
  clear h
  go_enter Try.func24, Try.ntmps24
  go_wp2_with fail
  refine (Put_any 1 (n) H.out.own (by omega) (by omega) (by omega)).mono ?_
  rintro e w1 ⟨v1, rfl, h1⟩
  have A1 := Lib.hid (Appended.from0 H.out.mods h1)
  clear h1
  go_wp2
  go_ret2
  refine ⟨v1, ?_, ?_⟩
  · rw [HR.out.1]
    rfl
  · rw [HR.out.2]
    exact A1.out

set_option maxHeartbeats 1000000 in
theorem lay1 {w : World} {v : Value} {xs : List UInt8} {s : EStp} (h : LPre w v xs s (w.alloc s.box)) (hl : xs.length ≤ 1000000000) (hw : s.what = 1) :
    Calls Try.prog 24 #[v, s.val] w (LayRes w v s xs) := by
  have H := Lib.hid h
  have HR := Lib.hid (show (!s.long) = true ∧ layX s xs = xs ++ be 4 (s.n) from by
    have e := long_no (s := s) (by rw [hw]; decide) (by rw [hw]; decide)
    refine ⟨by rw [e]; rfl, ?_⟩
    unfold layX EStp.lay
    rw [e]
    simp only [hw]
    rw [if_neg (by decide), if_neg (by decide), if_pos trivial, show be 4 (s.n % 4294967296) = be 4 s.n from be_mod 4 s.n])
  obtain ⟨what, n, nv, bw, nat, b, most⟩ := s
  simp only at hw
  subst hw
  have hu := h.at'.n
  have f2 := RdM.form h.at'.nat
  have f3 := h.at'.b.form
  simp only at hu f2 f3
  obtain ⟨a2, c2, rfl, _⟩ := f2
  obtain ⟨a3, c3, rfl, _⟩ := f3
  unfold EStp.val
  unfold EStp.box at *
  simp only at H HR ⊢
  clear h
  go_enter Try.func24, Try.ntmps24
  go_wp2_with fail
  refine (Put_any 4 (n) H.out.own (by omega) (by omega) (by omega)).mono ?_
  rintro e w1 ⟨v1, rfl, h1⟩
  have A1 := Lib.hid (Appended.from0 H.out.mods h1)
  clear h1
  go_wp2
  go_ret2
  refine ⟨v1, ?_, ?_⟩
  · rw [HR.out.1]
    rfl
  · rw [HR.out.2]
    exact A1.out

set_option maxHeartbeats 1000000 in
theorem lay2 {w : World} {v : Value} {xs : List UInt8} {s : EStp} (h : LPre w v xs s (w.alloc s.box)) (hl : xs.length ≤ 1000000000) (hw : s.what = 2) :
    Calls Try.prog 24 #[v, s.val] w (LayRes w v s xs) := by
  have H := Lib.hid h
  have HR := Lib.hid (show (!s.long) = true ∧ layX s xs = xs ++ be 8 (s.n) from by
    have e := long_no (s := s) (by rw [hw]; decide) (by rw [hw]; decide)
    refine ⟨by rw [e]; rfl, ?_⟩
    unfold layX EStp.lay
    rw [e]
    simp only [hw]
    rw [if_neg (by decide), if_neg (by decide), if_neg (by decide), if_pos trivial])
  obtain ⟨what, n, nv, bw, nat, b, most⟩ := s
  simp only at hw
  subst hw
  have hu := h.at'.n
  have f2 := RdM.form h.at'.nat
  have f3 := h.at'.b.form
  simp only at hu f2 f3
  obtain ⟨a2, c2, rfl, _⟩ := f2
  obtain ⟨a3, c3, rfl, _⟩ := f3
  unfold EStp.val
  unfold EStp.box at *
  simp only at H HR ⊢
  clear h
  go_enter Try.func24, Try.ntmps24
  go_wp2_with fail
  refine (Put_any 8 (n) H.out.own (by omega) (by omega) (by omega)).mono ?_
  rintro e w1 ⟨v1, rfl, h1⟩
  have A1 := Lib.hid (Appended.from0 H.out.mods h1)
  clear h1
  go_wp2
  go_ret2
  refine ⟨v1, ?_, ?_⟩
  · rw [HR.out.1]
    rfl
  · rw [HR.out.2]
    exact A1.out

set_option maxHeartbeats 1000000 in
theorem lay3 {w : World} {v : Value} {xs : List UInt8} {s : EStp} (h : LPre w v xs s (w.alloc s.box)) (hl : xs.length ≤ 1000000000) (hw : s.what = 3) :
    Calls Try.prog 24 #[v, s.val] w (LayRes w v s xs) := by
  have H := Lib.hid h
  have HR := Lib.hid (show (!s.long) = true ∧ layX s xs = xs ++ be 1 (s.n % 2) from by
    have e := long_no (s := s) (by rw [hw]; decide) (by rw [hw]; decide)
    refine ⟨by rw [e]; rfl, ?_⟩
    unfold layX EStp.lay
    rw [e]
    simp only [hw]
    rw [if_neg (by decide), if_neg (by decide), if_neg (by decide), if_neg (by decide), if_pos trivial]
    by_cases h2 : s.n % 2 = 1
    · simp [h2]
    · have h0 : s.n % 2 = 0 := by omega
      simp [h0])
  obtain ⟨what, n, nv, bw, nat, b, most⟩ := s
  simp only at hw
  subst hw
  have hu := h.at'.n
  have f2 := RdM.form h.at'.nat
  have f3 := h.at'.b.form
  simp only at hu f2 f3
  obtain ⟨a2, c2, rfl, _⟩ := f2
  obtain ⟨a3, c3, rfl, _⟩ := f3
  unfold EStp.val
  unfold EStp.box at *
  simp only at H HR ⊢
  clear h
  go_enter Try.func24, Try.ntmps24
  go_wp2_with fail
  refine (Put_any 1 (n % 2) H.out.own (by omega) (by omega) (by omega)).mono ?_
  rintro e w1 ⟨v1, rfl, h1⟩
  have A1 := Lib.hid (Appended.from0 H.out.mods h1)
  clear h1
  go_wp2
  go_ret2
  refine ⟨v1, ?_, ?_⟩
  · rw [HR.out.1]
    rfl
  · rw [HR.out.2]
    exact A1.out

set_option maxHeartbeats 1000000 in
theorem lay4 {w : World} {v : Value} {xs : List UInt8} {s : EStp} (h : LPre w v xs s (w.alloc s.box)) (hl : xs.length ≤ 1000000000) (hn : s.nat.length ≤ 3000) (hw : s.what = 4) :
    Calls Try.prog 24 #[v, s.val] w (LayRes w v s xs) := by
  have H := Lib.hid h
  have HR := Lib.hid (show (!s.long) = decide (blen s.N ≤ 255) ∧ layX s xs = rnatX xs s.N from by
    by_cases hb : blen s.N ≤ 255
    · have e : s.long = false := by simp [EStp.long, hb]
      unfold layX EStp.lay rnatX
      rw [e]
      simp [hw, hb]
    · have e : s.long = true := by simp [EStp.long, hw]; omega
      unfold layX rnatX
      rw [e]
      simp [hb])
  have HN := Lib.hid (show dval 18446744073709551616 s.nat = s.N from rfl)
  obtain ⟨what, n, nv, bw, nat, b, most⟩ := s
  simp only at hw hn
  subst hw
  have hu := h.at'.n
  have f2 := RdM.form h.at'.nat
  have f3 := h.at'.b.form
  simp only at hu f2 f3
  obtain ⟨a2, c2, rfl, _⟩ := f2
  obtain ⟨a3, c3, rfl, _⟩ := f3
  unfold EStp.val
  unfold EStp.box at *
  simp only at H HR HN ⊢
  clear h
  go_enter Try.func24, Try.ntmps24
  go_wp2_with fail
  refine (RWNat_any H.out.own H.out.at'.nat H.out.at'.lim (by simp only; omega) (by omega)).mono ?_
  simp only
  rw [HN.out]
  rintro e w1 ⟨v1, rfl, h1⟩
  have A1 := Lib.hid (Appended.from0 H.out.mods h1)
  clear h1
  go_wp2
  go_ret2
  refine ⟨v1, ?_, ?_⟩
  · rw [HR.out.1]
    rfl
  · rw [HR.out.2]
    exact A1.out

set_option maxHeartbeats 1000000 in
theorem lay5 {w : World} {v : Value} {xs : List UInt8} {s : EStp} (h : LPre w v xs s (w.alloc s.box)) (hl : xs.length ≤ 1000000000) (hn : s.nat.length ≤ 3000) (hw : s.what = 5) :
    Calls Try.prog 24 #[v, s.val] w (LayRes w v s xs) := by
  have H := Lib.hid h
  have HR := Lib.hid (show (!s.long) = decide (blen s.N ≤ 255) ∧ layX s xs = rnatX xs s.N from by
    by_cases hb : blen s.N ≤ 255
    · have e : s.long = false := by simp [EStp.long, hb]
      unfold layX EStp.lay rnatX
      rw [e]
      simp [hw, hb]
    · have e : s.long = true := by simp [EStp.long, hw]; omega
      unfold layX rnatX
      rw [e]
      simp [hb])
  have HN := Lib.hid (show dval 18446744073709551616 s.nat = s.N from rfl)
  obtain ⟨what, n, nv, bw, nat, b, most⟩ := s
  simp only at hw hn
  subst hw
  have hu := h.at'.n
  have f2 := RdM.form h.at'.nat
  have f3 := h.at'.b.form
  simp only at hu f2 f3
  obtain ⟨a2, c2, rfl, _⟩ := f2
  obtain ⟨a3, c3, rfl, _⟩ := f3
  unfold EStp.val
  unfold EStp.box at *
  simp only at H HR HN ⊢
  clear h
  go_enter Try.func24, Try.ntmps24
  go_wp2_with fail
  refine (RWNat_any H.out.own H.out.at'.nat H.out.at'.lim (by simp only; omega) (by omega)).mono ?_
  simp only
  rw [HN.out]
  rintro e w1 ⟨v1, rfl, h1⟩
  have A1 := Lib.hid (Appended.from0 H.out.mods h1)
  clear h1
  go_wp2
  go_ret2
  refine ⟨v1, ?_, ?_⟩
  · rw [HR.out.1]
    rfl
  · rw [HR.out.2]
    exact A1.out

set_option maxHeartbeats 1000000 in
theorem lay6 {w : World} {v : Value} {xs : List UInt8} {s : EStp} (h : LPre w v xs s (w.alloc s.box)) (hl : xs.length ≤ 1000000000) (hb : s.b.length ≤ 3000) (hw : s.what = 6) :
    Calls Try.prog 24 #[v, s.val] w (LayRes w v s xs) := by
  have H := Lib.hid h
  have HR := Lib.hid (show (!s.long) = true ∧ layX s xs = xs ++ rawB s.b from by
    have e := long_no (s := s) (by rw [hw]; decide) (by rw [hw]; decide)
    refine ⟨by rw [e]; rfl, ?_⟩
    unfold layX EStp.lay
    rw [e]
    simp [hw])
  obtain ⟨what, n, nv, bw, nat, b, most⟩ := s
  simp only at hw hb
  subst hw
  have hu := h.at'.n
  have f2 := RdM.form h.at'.nat
  have f3 := h.at'.b.form
  simp only at hu f2 f3
  obtain ⟨a2, c2, rfl, _⟩ := f2
  obtain ⟨a3, c3, rfl, _⟩ := f3
  unfold EStp.val
  unfold EStp.box at *
  simp only at H HR ⊢
  clear h
  go_enter Try.func24, Try.ntmps24
  go_wp2_with fail
  refine (RWRaw_any H.out.own H.out.at'.b H.out.away (by omega) (by simp only; omega)).mono ?_
  simp only
  rintro e w1 ⟨v1, rfl, h1⟩
  have A1 := Lib.hid (Appended.from0 H.out.mods h1)
  clear h1
  go_wp2
  go_ret2
  refine ⟨v1, ?_, ?_⟩
  · rw [HR.out.1]
    rfl
  · rw [HR.out.2]
    exact A1.out

theorem lay_none {w : World} {v : Value} {xs : List UInt8} {s : EStp} (h : LPre w v xs s (w.alloc s.box)) (hw : ∀ k : Nat, k ≤ 6 → s.what ≠ k) :
    Calls Try.prog 24 #[v, s.val] w (LayRes w v s xs) := by
  have H := Lib.hid h
  have n0 : s.what ≠ 0 := hw 0 (by omega)
  have n1 : s.what ≠ 1 := hw 1 (by omega)
  have n2 : s.what ≠ 2 := hw 2 (by omega)
  have n3 : s.what ≠ 3 := hw 3 (by omega)
  have n4 : s.what ≠ 4 := hw 4 (by omega)
  have n5 : s.what ≠ 5 := hw 5 (by omega)
  have n6 : s.what ≠ 6 := hw 6 (by omega)
  have HR := Lib.hid (show (!s.long) = true ∧ layX s xs = xs from by
    have e := long_no (s := s) n4 n5
    refine ⟨by rw [e]; rfl, ?_⟩
    unfold layX EStp.lay
    rw [e]
    simp [n0, n1, n2, n3, n4, n5, n6])
  obtain ⟨what, n, nv, bw, nat, b, most⟩ := s
  simp only at hw n0 n1 n2 n3 n4 n5 n6
  have e0 : (what == 0) = false := by simpa using n0
  have e1 : (what == 1) = false := by simpa using n1
  have e2 : (what == 2) = false := by simpa using n2
  have e3 : (what == 3) = false := by simpa using n3
  have e4 : (what == 4) = false := by simpa using n4
  have e5 : (what == 5) = false := by simpa using n5
  have e6 : (what == 6) = false := by simpa using n6
  have f2 := RdM.form h.at'.nat
  have f3 := h.at'.b.form
  simp only at f2 f3
  obtain ⟨a2, c2, rfl, _⟩ := f2
  obtain ⟨a3, c3, rfl, _⟩ := f3
  unfold EStp.val
  unfold EStp.box at *
  simp only at H HR ⊢
  clear h hw n0 n1 n2 n3 n4 n5 n6
  go_enter Try.func24, Try.ntmps24
  go_wp2
  go_ret2
  refine ⟨v, ?_, ?_⟩
  · rw [HR.out.1]
    rfl
  · rw [HR.out.2]
    exact Appended.from0 H.out.mods (Appended.refl H.out.own)

theorem lay_any {w : World} {v : Value} {xs : List UInt8} {s : EStp} (h : Own w v xs) (hs : s.At w) (ha : s.b = [] ∨ ∀ k, k < w.heap.size → s.bw.ownBlock = some k → v.ownBlock ≠ some k) (hl : xs.length ≤ 1000000000) (hn : s.nat.length ≤ 3000) (hb : s.b.length ≤ 3000) :
    Calls Try.prog 24 #[v, s.val] w (LayRes w v s xs) := by
  have H := LPre.make h hs ha
  by_cases h0 : s.what = 0
  · exact lay0 H hl h0
  by_cases h1 : s.what = 1
  · exact lay1 H hl h1
  by_cases h2 : s.what = 2
  · exact lay2 H hl h2
  by_cases h3 : s.what = 3
  · exact lay3 H hl h3
  by_cases h4 : s.what = 4
  · exact lay4 H hl hn h4
  by_cases h5 : s.what = 5
  · exact lay5 H hl hn h5
  by_cases h6 : s.what = 6
  · exact lay6 H hl hb h6
  exact lay_none H (fun k hk e => by
    match k, hk with
    | 0, _ => exact h0 e
    | 1, _ => exact h1 e
    | 2, _ => exact h2 e
    | 3, _ => exact h3 e
    | 4, _ => exact h4 e
    | 5, _ => exact h5 e
    | 6, _ => exact h6 e)

end Go.Proofs.Ytebknplbghcemaa

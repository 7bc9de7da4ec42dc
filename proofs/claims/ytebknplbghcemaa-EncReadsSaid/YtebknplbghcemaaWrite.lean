/- gleanlaw4.write: a step of a writer. -/
import Derived.Test.YtebknplbghcemaaScript
namespace Go.Proofs.Ytebknplbghcemaa
open Go.Gl Go.RowKit
set_option linter.unusedVariables false
set_option maxRecDepth 100000

/-- a writer's bytes and error -/
abbrev WSt := List UInt8 × Int
/-- the value of a step's number -/
def EStp.N (s : EStp) : Nat := dval 18446744073709551616 s.nat
/-- what a step does to a writer -/
def wstep (s : EStp) (p : WSt) : WSt :=
  if s.what = 0 then (wput p.2 p.1 (be 1 (s.n % 256)), p.2)
  else if s.what = 1 then (wput p.2 p.1 (be 4 (s.n % 4294967296)), p.2)
  else if s.what = 2 then (wput p.2 p.1 (be 8 s.n), p.2)
  else if s.what = 3 then (wput p.2 p.1 (be 1 (if decide (s.n % 2 = 1) then 1 else 0)), p.2)
  else if s.what = 4 then (wnatX p.2 p.1 s.N, wnatE p.2 s.N)
  else if s.what = 5 then (wnatX p.2 p.1 s.N, wnatE p.2 s.N)
  else if s.what = 6 then (wput p.2 p.1 (rawB s.b), p.2)
  else p

/-- a step's slices do not lie in a writer's memory -/
def Away (w : World) (g : Nat) (v : Value) (s : EStp) : Prop := s.b = [] ∨ ∀ k, k < w.heap.size → s.bw.ownBlock = some k → v.ownBlock ≠ some k ∧ k ≠ g

def EStp.val (s : EStp) : Value := .agg #[.int .i64 s.what, .int .u64 s.n, s.nv, s.bw, .int .i64 s.most]
def EStp.box (s : EStp) : Obj := .cells #[.int .i64 s.what, .int .u64 s.n, s.nv, s.bw, .int .i64 s.most] 60

/-- what the walk knows behind the box -/
structure WPre (w : World) (g : Nat) (v : Value) (p : WSt) (s : EStp) (wx : World) : Prop where
  wr : Wr wx g v p.1 p.2
  at' : s.At wx
  away : Away wx g v s
  mods : Mods noB w wx

theorem WPre.make {w : World} {g : Nat} {v : Value} {p : WSt} {s : EStp} (h : Wr w g v p.1 p.2) (hs : s.At w) (ha : Away w g v s) : WPre w g v p s (w.alloc s.box) := by
  have m := (Mods.refl noB w).alloc s.box
  refine ⟨h.then0 m, hs.keep m, ?_, m⟩
  rcases ha with ha | ha
  · exact .inl ha
  · by_cases hb : s.b = []
    · exact .inl hb
    · refine .inr (fun k hk hkb => ha k ?_ hkb)
      exact hs.b.ltn (fun h0 => hb (List.eq_nil_of_length_eq_zero h0)) k hkb

set_option maxHeartbeats 1000000 in
theorem write0 {w : World} {g : Nat} {v : Value} {p : WSt} {s : EStp} (h : WPre w g v p s (w.alloc s.box)) (hl : p.1.length ≤ 1000000000000) (hn : s.nat.length ≤ 3000) (hb : s.b.length ≤ 3000) (hw : s.what = 0) :
    Calls Try.prog 23 #[.pointer (some ⟨g, 0, none⟩), s.val] w (WRes w g v (wput p.2 p.1 (be 1 (s.n % 256))) p.2) := by
  have H := Lib.hid h
  obtain ⟨what, n, nv, bw, nat, b, most⟩ := s
  simp only at hw
  subst hw
  have hu := h.at'.n
  simp only at hu hn hb
  unfold EStp.val
  unfold EStp.box at *
  simp only at H ⊢
  clear h
  go_enter Try.func23, Try.ntmps23
  go_wp2_with fail
  refine (WU8_any (n % 256) H.out.wr (by omega) (by omega)).mono ?_
  rintro e w1 ⟨rfl, v1, h1⟩
  have H1 := Lib.hid (h1.from H.out.mods)
  clear h1
  go_wp2_with fail
  go_end0
  exact ⟨rfl, _, H1.out⟩

set_option maxHeartbeats 1000000 in
theorem write1 {w : World} {g : Nat} {v : Value} {p : WSt} {s : EStp} (h : WPre w g v p s (w.alloc s.box)) (hl : p.1.length ≤ 1000000000000) (hn : s.nat.length ≤ 3000) (hb : s.b.length ≤ 3000) (hw : s.what = 1) :
    Calls Try.prog 23 #[.pointer (some ⟨g, 0, none⟩), s.val] w (WRes w g v (wput p.2 p.1 (be 4 (s.n % 4294967296))) p.2) := by
  have H := Lib.hid h
  obtain ⟨what, n, nv, bw, nat, b, most⟩ := s
  simp only at hw
  subst hw
  have hu := h.at'.n
  simp only at hu hn hb
  unfold EStp.val
  unfold EStp.box at *
  simp only at H ⊢
  clear h
  go_enter Try.func23, Try.ntmps23
  go_wp2_with fail
  refine (WU32_any (n % 4294967296) H.out.wr (by omega) (by omega)).mono ?_
  rintro e w1 ⟨rfl, v1, h1⟩
  have H1 := Lib.hid (h1.from H.out.mods)
  clear h1
  go_wp2_with fail
  go_end0
  exact ⟨rfl, _, H1.out⟩

set_option maxHeartbeats 1000000 in
theorem write2 {w : World} {g : Nat} {v : Value} {p : WSt} {s : EStp} (h : WPre w g v p s (w.alloc s.box)) (hl : p.1.length ≤ 1000000000000) (hn : s.nat.length ≤ 3000) (hb : s.b.length ≤ 3000) (hw : s.what = 2) :
    Calls Try.prog 23 #[.pointer (some ⟨g, 0, none⟩), s.val] w (WRes w g v (wput p.2 p.1 (be 8 s.n)) p.2) := by
  have H := Lib.hid h
  obtain ⟨what, n, nv, bw, nat, b, most⟩ := s
  simp only at hw
  subst hw
  have hu := h.at'.n
  simp only at hu hn hb
  unfold EStp.val
  unfold EStp.box at *
  simp only at H ⊢
  clear h
  go_enter Try.func23, Try.ntmps23
  go_wp2_with fail
  refine (WU64_any n H.out.wr (by omega) (by omega)).mono ?_
  rintro e w1 ⟨rfl, v1, h1⟩
  have H1 := Lib.hid (h1.from H.out.mods)
  clear h1
  go_wp2_with fail
  go_end0
  exact ⟨rfl, _, H1.out⟩

set_option maxHeartbeats 1000000 in
theorem write3t {w : World} {g : Nat} {v : Value} {p : WSt} {s : EStp} (h : WPre w g v p s (w.alloc s.box)) (hl : p.1.length ≤ 1000000000000) (hn : s.nat.length ≤ 3000) (hb : s.b.length ≤ 3000) (hw : s.what = 3) (hq : s.n % 2 = 1) :
    Calls Try.prog 23 #[.pointer (some ⟨g, 0, none⟩), s.val] w (WRes w g v (wput p.2 p.1 (be 1 1)) p.2) := by
  have H := Lib.hid h
  obtain ⟨what, n, nv, bw, nat, b, most⟩ := s
  simp only at hw
  subst hw
  have hu := h.at'.n
  simp only at hu hn hb hq
  have hq' : (((n : Nat) : Int) % 2 == 1) = true := by simp; omega
  unfold EStp.val
  unfold EStp.box at *
  simp only at H ⊢
  clear h
  go_enter Try.func23, Try.ntmps23
  go_wp2_with fail
  refine (WBool_any true H.out.wr (by omega)).mono ?_
  rintro e w1 ⟨rfl, v1, h1⟩
  have H1 := Lib.hid (h1.from H.out.mods)
  clear h1
  go_wp2_with fail
  go_end0
  exact ⟨rfl, _, H1.out⟩

set_option maxHeartbeats 1000000 in
theorem write3f {w : World} {g : Nat} {v : Value} {p : WSt} {s : EStp} (h : WPre w g v p s (w.alloc s.box)) (hl : p.1.length ≤ 1000000000000) (hn : s.nat.length ≤ 3000) (hb : s.b.length ≤ 3000) (hw : s.what = 3) (hq : ¬ s.n % 2 = 1) :
    Calls Try.prog 23 #[.pointer (some ⟨g, 0, none⟩), s.val] w (WRes w g v (wput p.2 p.1 (be 1 0)) p.2) := by
  have H := Lib.hid h
  obtain ⟨what, n, nv, bw, nat, b, most⟩ := s
  simp only at hw
  subst hw
  have hu := h.at'.n
  simp only at hu hn hb hq
  have hq' : (((n : Nat) : Int) % 2 == 1) = false := by simp; omega
  unfold EStp.val
  unfold EStp.box at *
  simp only at H ⊢
  clear h
  go_enter Try.func23, Try.ntmps23
  go_wp2_with fail
  refine (WBool_any false H.out.wr (by omega)).mono ?_
  rintro e w1 ⟨rfl, v1, h1⟩
  have H1 := Lib.hid (h1.from H.out.mods)
  clear h1
  go_wp2_with fail
  go_end0
  exact ⟨rfl, _, H1.out⟩

theorem write3 {w : World} {g : Nat} {v : Value} {p : WSt} {s : EStp} (h : WPre w g v p s (w.alloc s.box)) (hl : p.1.length ≤ 1000000000000) (hn : s.nat.length ≤ 3000) (hb : s.b.length ≤ 3000) (hw : s.what = 3) :
    Calls Try.prog 23 #[.pointer (some ⟨g, 0, none⟩), s.val] w (WRes w g v (wput p.2 p.1 (be 1 (if decide (s.n % 2 = 1) then 1 else 0))) p.2) := by
  by_cases hq : s.n % 2 = 1
  · rw [if_pos (by simpa using hq)]
    exact write3t h hl hn hb hw hq
  · rw [if_neg (by simpa using hq)]
    exact write3f h hl hn hb hw hq

set_option maxHeartbeats 1000000 in
theorem write4 {w : World} {g : Nat} {v : Value} {p : WSt} {s : EStp} (h : WPre w g v p s (w.alloc s.box)) (hl : p.1.length ≤ 1000000000000) (hn : s.nat.length ≤ 3000) (hb : s.b.length ≤ 3000) (hw : s.what = 4) :
    Calls Try.prog 23 #[.pointer (some ⟨g, 0, none⟩), s.val] w (WRes w g v (wnatX p.2 p.1 s.N) (wnatE p.2 s.N)) := by
  have H := Lib.hid h
  obtain ⟨what, n, nv, bw, nat, b, most⟩ := s
  simp only at hw
  subst hw
  have hu := h.at'.n
  simp only at hu hn hb
  unfold EStp.val
  unfold EStp.box at *
  simp only at H ⊢
  clear h
  go_enter Try.func23, Try.ntmps23
  go_wp2_with fail
  refine (WNat_any H.out.wr H.out.at'.nat H.out.at'.lim (by simp only; omega) (by omega)).mono ?_
  rintro e w1 ⟨rfl, v1, h1⟩
  have H1 := Lib.hid (h1.from H.out.mods)
  clear h1
  go_wp2_with fail
  go_end0
  exact ⟨rfl, _, H1.out⟩

set_option maxHeartbeats 1000000 in
theorem write5 {w : World} {g : Nat} {v : Value} {p : WSt} {s : EStp} (h : WPre w g v p s (w.alloc s.box)) (hl : p.1.length ≤ 1000000000000) (hn : s.nat.length ≤ 3000) (hb : s.b.length ≤ 3000) (hw : s.what = 5) :
    Calls Try.prog 23 #[.pointer (some ⟨g, 0, none⟩), s.val] w (WRes w g v (wnatX p.2 p.1 s.N) (wnatE p.2 s.N)) := by
  have H := Lib.hid h
  obtain ⟨what, n, nv, bw, nat, b, most⟩ := s
  simp only at hw
  subst hw
  have hu := h.at'.n
  have hf := RdM.form h.at'.nat
  simp only at hf
  obtain ⟨a2, c2, rfl, _⟩ := hf
  simp only at hu hn hb
  unfold EStp.val
  unfold EStp.box at *
  simp only at H ⊢
  clear h
  go_enter Try.func23, Try.ntmps23
  go_wp2_with fail
  refine (WDec_any H.out.wr H.out.at'.nat H.out.at'.lim (by simp only; omega) (by omega)).mono ?_
  rintro e w1 ⟨rfl, v1, h1⟩
  have H1 := Lib.hid (h1.from H.out.mods)
  clear h1
  go_wp2_with fail
  go_end0
  exact ⟨rfl, _, H1.out⟩

set_option maxHeartbeats 1000000 in
theorem write6 {w : World} {g : Nat} {v : Value} {p : WSt} {s : EStp} (h : WPre w g v p s (w.alloc s.box)) (hl : p.1.length ≤ 1000000000000) (hn : s.nat.length ≤ 3000) (hb : s.b.length ≤ 3000) (hw : s.what = 6) :
    Calls Try.prog 23 #[.pointer (some ⟨g, 0, none⟩), s.val] w (WRes w g v (wput p.2 p.1 (rawB s.b)) p.2) := by
  have H := Lib.hid h
  obtain ⟨what, n, nv, bw, nat, b, most⟩ := s
  simp only at hw
  subst hw
  have hu := h.at'.n
  simp only at hu hn hb
  unfold EStp.val
  unfold EStp.box at *
  simp only at H ⊢
  clear h
  go_enter Try.func23, Try.ntmps23
  go_wp2_with fail
  refine (WRaw_any H.out.wr H.out.at'.b H.out.away (by omega) (by simp only; omega)).mono ?_
  rintro e w1 ⟨rfl, v1, h1⟩
  have H1 := Lib.hid (h1.from H.out.mods)
  clear h1
  go_wp2_with fail
  go_end0
  exact ⟨rfl, _, H1.out⟩

theorem write_none {w : World} {g : Nat} {v : Value} {p : WSt} {s : EStp} (h : WPre w g v p s (w.alloc s.box)) (hw : ∀ k : Nat, k ≤ 6 → s.what ≠ k) :
    Calls Try.prog 23 #[.pointer (some ⟨g, 0, none⟩), s.val] w (WRes w g v p.1 p.2) := by
  have H := Lib.hid (show WStep w g v p.1 p.2 (w.alloc s.box) v from (WStep.refl h.wr).from h.mods)
  obtain ⟨what, n, nv, bw, nat, b, most⟩ := s
  simp only at hw
  have e0 : (what == 0) = false := by simpa using hw 0 (by omega)
  have e1 : (what == 1) = false := by simpa using hw 1 (by omega)
  have e2 : (what == 2) = false := by simpa using hw 2 (by omega)
  have e3 : (what == 3) = false := by simpa using hw 3 (by omega)
  have e4 : (what == 4) = false := by simpa using hw 4 (by omega)
  have e5 : (what == 5) = false := by simpa using hw 5 (by omega)
  have e6 : (what == 6) = false := by simpa using hw 6 (by omega)
  unfold EStp.val
  unfold EStp.box at *
  simp only at H ⊢
  clear h hw
  go_enter Try.func23, Try.ntmps23
  go_wp2_with fail
  go_end0
  exact ⟨rfl, _, H.out⟩

/-- A step of a writer, whatever it is. -/
theorem write_any {w : World} {g : Nat} {v : Value} {p : WSt} {s : EStp} (h : Wr w g v p.1 p.2) (hs : s.At w) (ha : Away w g v s) (hl : p.1.length ≤ 1000000000000) (hn : s.nat.length ≤ 3000) (hb : s.b.length ≤ 3000) :
    Calls Try.prog 23 #[.pointer (some ⟨g, 0, none⟩), s.val] w (WRes w g v (wstep s p).1 (wstep s p).2) := by
  have H := WPre.make h hs ha
  unfold wstep
  by_cases h0 : s.what = 0
  · rw [if_pos h0]; exact write0 H hl hn hb h0
  rw [if_neg h0]
  by_cases h1 : s.what = 1
  · rw [if_pos h1]; exact write1 H hl hn hb h1
  rw [if_neg h1]
  by_cases h2 : s.what = 2
  · rw [if_pos h2]; exact write2 H hl hn hb h2
  rw [if_neg h2]
  by_cases h3 : s.what = 3
  · rw [if_pos h3]; exact write3 H hl hn hb h3
  rw [if_neg h3]
  by_cases h4 : s.what = 4
  · rw [if_pos h4]; exact write4 H hl hn hb h4
  rw [if_neg h4]
  by_cases h5 : s.what = 5
  · rw [if_pos h5]; exact write5 H hl hn hb h5
  rw [if_neg h5]
  by_cases h6 : s.what = 6
  · rw [if_pos h6]; exact write6 H hl hn hb h6
  rw [if_neg h6]
  exact write_none H (fun k hk e => by
    match k, hk with
    | 0, _ => exact h0 e
    | 1, _ => exact h1 e
    | 2, _ => exact h2 e
    | 3, _ => exact h3 e
    | 4, _ => exact h4 e
    | 5, _ => exact h5 e
    | 6, _ => exact h6 e)

end Go.Proofs.Ytebknplbghcemaa

/- gleanlaw4.read: a step of both readers: they tell the same. -/
import Derived.Test.YtebknplbghcemaaRRdB
import Derived.Test.YtebknplbghcemaaRun
import Derived.Test.YtebknplbghcemaaHSpoil
import Derived.Test.YtebknplbghcemaaEKnown2
namespace Go.Proofs.Ytebknplbghcemaa
open Go.Gl Go.RowKit
set_option linter.unusedVariables false
set_option maxRecDepth 100000

/-- what a step does to a reader -/
def rstep (s : EStp) (p : ESt) : ESt :=
  if s.what = 0 then est 1 p
  else if s.what = 1 then est 4 p
  else if s.what = 2 then est 8 p
  else if s.what = 3 then boolS p
  else if s.what = 4 then natT p
  else if s.what = 5 then natT p
  else if s.what = 6 then rawT s.most p
  else if s.what = 8 then (p.1, endS p.1 p.2)
  else p

/-- The program's reader and the reference's, side by side. -/
structure R2 (w : World) (g gx : Nat) (p q : ESt) (v vx : Value) (wx : World) : Prop where
  rr : Rr wx g v p.1 p.2
  rx : RR wx gx vx q.1 q.2
  bx : ∀ k, vx.ownBlock = some k → k < wx.heap.size
  mods : Mods noB w wx
  n1 : w.heap.size ≤ g
  n2 : w.heap.size ≤ gx
  ne : g ≠ gx
  a1 : v.ownBlock ≠ some gx
  a2 : vx.ownBlock ≠ some g

def E2 (w : World) (g gx : Nat) (p q : ESt) (wx : World) : Prop := ∃ v vx, R2 w g gx p q v vx wx

section
variable {w wx wy : World} {g gx : Nat} {p q : ESt}
theorem R2.step1 {v vx v' : Value} {p' : ESt} (h : R2 w g gx p q v vx wx) (k : RStp wx g v p'.1 p'.2 wy v') : R2 w g gx p' q v' vx wy :=
  ⟨k.rr, h.rx.keep k.mods (fun e => h.ne e.symm) (fun i hi e => h.a2 (by rw [hi, e])), fun i hi => Nat.lt_of_lt_of_le (h.bx i hi) k.mods.size, h.mods.trans k.mods (fun _ _ x => x) (fun i hi x => by have := h.n1; omega), h.n1, h.n2, h.ne, fun e => h.a1 (k.blk _ e), h.a2⟩
theorem R2.step2 {v vx : Value} {q' : ESt} (h : R2 w g gx p q v vx wx) (k : RS wx gx vx q' wy) : E2 w g gx p q' wy := by
  obtain ⟨⟨vx', k1, k2⟩, k3⟩ := k
  exact ⟨v, vx', h.rr.keep k3 (fun e => h.ne e) (fun i hi e => h.a1 (by rw [hi, e])), k1, fun i hi => Nat.lt_of_lt_of_le (h.bx i (k2 i hi)) k3.size, h.mods.trans k3 (fun _ _ x => x) (fun i hi x => by have := h.n2; omega), h.n1, h.n2, h.ne, h.a1, fun e => h.a2 (k2 _ e)⟩
theorem E2.mods (h : E2 w g gx p q wx) : Mods noB w wx := by
  obtain ⟨v, vx, h⟩ := h
  exact h.mods
theorem E2.then0 (h : E2 w g gx p q wx) (hm : Mods noB wx wy) : E2 w g gx p q wy := by
  obtain ⟨v, vx, h⟩ := h
  exact ⟨v, vx, h.rr.keep hm (fun x => x) (fun _ _ x => x), h.rx.keep hm (fun x => x) (fun _ _ x => x), fun i hi => Nat.lt_of_lt_of_le (h.bx i hi) hm.size, h.mods.then0 hm, h.n1, h.n2, h.ne, h.a1, h.a2⟩

theorem E2.u8 (h : E2 w g gx p q wx) : Calls Try.prog 32 #[.pointer (some ⟨g, 0, none⟩)] wx fun r w' => r = .returned (.int .u8 (evl 1 p)) ∧ E2 w g gx (est 1 p) q w' := by
  obtain ⟨v, vx, h⟩ := h
  exact (RU8_any h.rr).mono fun r w' ⟨hr, v', hs⟩ => ⟨hr, v', vx, h.step1 (p' := est 1 p) hs⟩
theorem E2.u32 (h : E2 w g gx p q wx) : Calls Try.prog 34 #[.pointer (some ⟨g, 0, none⟩)] wx fun r w' => r = .returned (.int .u32 (evl 4 p)) ∧ E2 w g gx (est 4 p) q w' := by
  obtain ⟨v, vx, h⟩ := h
  exact (RU32_any h.rr).mono fun r w' ⟨hr, v', hs⟩ => ⟨hr, v', vx, h.step1 (p' := est 4 p) hs⟩
theorem E2.u64 (h : E2 w g gx p q wx) : Calls Try.prog 36 #[.pointer (some ⟨g, 0, none⟩)] wx fun r w' => r = .returned (.int .u64 (evl 8 p)) ∧ E2 w g gx (est 8 p) q w' := by
  obtain ⟨v, vx, h⟩ := h
  exact (RU64_any h.rr).mono fun r w' ⟨hr, v', hs⟩ => ⟨hr, v', vx, h.step1 (p' := est 8 p) hs⟩
theorem E2.bool (h : E2 w g gx p q wx) : Calls Try.prog 38 #[.pointer (some ⟨g, 0, none⟩)] wx fun r w' => r = .returned (.bool (decide (evl 1 p = 1))) ∧ E2 w g gx (boolS p) q w' := by
  obtain ⟨v, vx, h⟩ := h
  exact (Bool_any h.rr).mono fun r w' ⟨hr, v', hs⟩ => ⟨hr, v', vx, h.step1 (p' := boolS p) hs⟩
theorem E2.nat (h : E2 w g gx p q wx) (hl : p.1.length ≤ 10000000000) : Calls Try.prog 40 #[.pointer (some ⟨g, 0, none⟩)] wx fun r w' => ∃ u, r = .returned u ∧ RN w' u (natV p) ∧ E2 w g gx (natT p) q w' ∧ ∀ k, u.ownBlock = some k → ¬ k = gx := by
  obtain ⟨v, vx, h⟩ := h
  exact (RNat_any h.rr hl).mono fun r w' ⟨u, v', hr, hn, hf, hs⟩ => ⟨u, hr, hn, ⟨v', vx, h.step1 (p' := natT p) hs⟩, fun k hk e => by have := hf k hk; have := h.rx.lt; omega⟩
theorem E2.dec (h : E2 w g gx p q wx) (hl : p.1.length ≤ 10000000000) : Calls Try.prog 42 #[.pointer (some ⟨g, 0, none⟩)] wx fun r w' => ∃ u, r = .returned (.agg #[u]) ∧ RN w' u (natV p) ∧ E2 w g gx (natT p) q w' ∧ ∀ k, u.ownBlock = some k → ¬ k = gx := by
  obtain ⟨v, vx, h⟩ := h
  exact (RDec_any h.rr hl).mono fun r w' ⟨u, v', hr, hn, hf, hs⟩ => ⟨u, hr, hn, ⟨v', vx, h.step1 (p' := natT p) hs⟩, fun k hk e => by have := hf k hk; have := h.rx.lt; omega⟩
/-- the same, and a value that lies with neither -/
def E2U (w : World) (g gx : Nat) (p q : ESt) (u : Value) (wx : World) : Prop := ∃ v vx, R2 w g gx p q v vx wx ∧ ∀ k, u.ownBlock = some k → w.heap.size ≤ k ∧ k ≠ g ∧ k ≠ gx ∧ v.ownBlock ≠ some k ∧ vx.ownBlock ≠ some k
theorem E2.raw (h : E2 w g gx p q wx) (most : Int) (hmo : most ≤ 9223372036854775807) (hl : p.1.length ≤ 10000000000) : Calls Try.prog 44 #[.pointer (some ⟨g, 0, none⟩), .int .i64 most] wx fun r w' => ∃ u, r = .returned u ∧ Own w' u (rawV most p) ∧ E2U w g gx (rawT most p) q u w' ∧ Mods (fun k => k = g) wx w' := by
  obtain ⟨v, vx, h⟩ := h
  refine (RRaw_any most h.rr hmo hl).mono ?_
  rintro r w' ⟨u, v', hr, hn, hf, hs⟩
  refine ⟨u, hr, hn, ⟨v', vx, h.step1 (p' := rawT most p) hs, fun k hk => ?_⟩, hs.mods⟩
  have h0 := hf k hk
  refine ⟨Nat.le_trans h.mods.size h0, fun e => ?_, fun e => ?_, fun e => ?_, fun e => ?_⟩
  · have := h.rr.lt; omega
  · have := h.rx.lt; omega
  · have := h.rr.blt k (hs.blk k e); omega
  · have := h.bx k e; omega
theorem E2U.then0 {u : Value} (h : E2U w g gx p q u wx) (hm : Mods noB wx wy) : E2U w g gx p q u wy := by
  obtain ⟨v, vx, h, ha⟩ := h
  exact ⟨v, vx, ⟨h.rr.keep hm (fun x => x) (fun _ _ x => x), h.rx.keep hm (fun x => x) (fun _ _ x => x), fun i hi => Nat.lt_of_lt_of_le (h.bx i hi) hm.size, h.mods.then0 hm, h.n1, h.n2, h.ne, h.a1, h.a2⟩, ha⟩
theorem E2U.spoil {u : Value} (h : E2U w g gx p q u wx) (hm : Mods (ofV u) wx wy) : E2 w g gx p q wy := by
  obtain ⟨v, vx, h, ha⟩ := h
  exact ⟨v, vx, h.rr.keep hm (fun x => (ha _ x).2.1 rfl) (fun k hk x => (ha k x).2.2.2.1 hk), h.rx.keep hm (fun x => (ha _ x).2.2.1 rfl) (fun k hk x => (ha k x).2.2.2.2 hk), fun i hi => Nat.lt_of_lt_of_le (h.bx i hi) hm.size, h.mods.trans hm (fun _ _ x => x) (fun i hi x => by have := (ha i x).1; omega), h.n1, h.n2, h.ne, h.a1, h.a2⟩
theorem E2.end (h : E2 w g gx p q wx) : Calls Try.prog 45 #[.pointer (some ⟨g, 0, none⟩)] wx fun r w' => r = .returned (.int .i64 (endS p.1 p.2)) ∧ E2 w g gx (p.1, endS p.1 p.2) q w' := by
  obtain ⟨v, vx, h⟩ := h
  exact (End_any h.rr).mono fun r w' ⟨hr, v', hs⟩ => ⟨hr, v', vx, h.step1 (p' := (p.1, endS p.1 p.2)) hs⟩
theorem E2.left (h : E2 w g gx p q wx) : Calls Try.prog 29 #[.pointer (some ⟨g, 0, none⟩)] wx fun r w' => r = .returned (.int .i64 p.1.length) ∧ w' = wx := by
  obtain ⟨v, vx, h⟩ := h
  exact Left_any h.rr
theorem E2.err (h : E2 w g gx p q wx) : Calls Try.prog 30 #[.pointer (some ⟨g, 0, none⟩)] wx fun r w' => r = .returned (.int .i64 p.2) ∧ w' = wx := by
  obtain ⟨v, vx, h⟩ := h
  exact Err_any h.rr

theorem E2.xu (h : E2 w g gx p q wx) (n : Nat) (hn : n ≤ 8) : Calls Try.prog 53 #[.pointer (some ⟨gx, 0, none⟩), .int .i64 n] wx fun r w' => r = .returned (.int .u64 (evl n q)) ∧ E2 w g gx p (est n q) w' := by
  obtain ⟨v, vx, h⟩ := h
  exact (rU_st n h.rx hn).mono fun r w' ⟨hr, hs⟩ => ⟨hr, h.step2 hs⟩
theorem E2.xbool (h : E2 w g gx p q wx) : Calls Try.prog 57 #[.pointer (some ⟨gx, 0, none⟩)] wx fun r w' => r = .returned (.bool (decide (evl 1 q = 1))) ∧ E2 w g gx p (boolS q) w' := by
  obtain ⟨v, vx, h⟩ := h
  exact (rBool_st h.rx).mono fun r w' ⟨hr, hs⟩ => ⟨hr, h.step2 hs⟩
theorem E2.xnat (h : E2 w g gx p q wx) (hl : q.1.length ≤ 10000000000) : Calls Try.prog 58 #[.pointer (some ⟨gx, 0, none⟩)] wx fun r w' => ∃ u, r = .returned u ∧ RN w' u (natV q) ∧ E2 w g gx p (natT q) w' ∧ Mods (fun k => k = gx) wx w' := by
  obtain ⟨v, vx, h⟩ := h
  exact (rNat_st h.rx hl).mono fun r w' ⟨u, hr, hn, hs, hf⟩ => ⟨u, hr, hn, h.step2 hs, hs.mods⟩
theorem E2.xdec (h : E2 w g gx p q wx) (hl : q.1.length ≤ 10000000000) : Calls Try.prog 60 #[.pointer (some ⟨gx, 0, none⟩)] wx fun r w' => ∃ u, r = .returned (.agg #[u]) ∧ RN w' u (natV q) ∧ E2 w g gx p (natT q) w' ∧ Mods (fun k => k = gx) wx w' := by
  obtain ⟨v, vx, h⟩ := h
  exact (rDec_st h.rx h.bx hl).mono fun r w' ⟨u, hr, hn, hs, hf⟩ => ⟨u, hr, hn, h.step2 hs, hs.mods⟩
theorem E2.xraw (h : E2 w g gx p q wx) (most : Int) (hl : q.1.length ≤ 10000000000) : Calls Try.prog 61 #[.pointer (some ⟨gx, 0, none⟩), .int .i64 most] wx fun r w' => ∃ u, r = .returned u ∧ Own w' u (rawV most q) ∧ E2 w g gx p (rawT most q) w' ∧ Mods (fun k => k = gx) wx w' := by
  obtain ⟨v, vx, h⟩ := h
  exact (rRaw_st most h.rx hl).mono fun r w' ⟨u, hr, hn, hs, hf⟩ => ⟨u, hr, hn, h.step2 hs, hs.mods⟩
theorem E2U.xraw {u : Value} (h : E2U w g gx p q u wx) (most : Int) (hl : q.1.length ≤ 10000000000) : Calls Try.prog 61 #[.pointer (some ⟨gx, 0, none⟩), .int .i64 most] wx fun r w' => ∃ x, r = .returned x ∧ Own w' x (rawV most q) ∧ E2U w g gx p (rawT most q) u w' ∧ (∀ vs, Own wx u vs → Own w' u vs) := by
  obtain ⟨v, vx, h, ha⟩ := h
  refine (rRaw_st most h.rx hl).mono ?_
  rintro r w' ⟨x, hr, hn, ⟨⟨vx', k1, k2⟩, k3⟩, hf⟩
  refine ⟨x, hr, hn, ⟨v, vx', ⟨h.rr.keep k3 (fun e => h.ne e) (fun i hi e => h.a1 (by rw [hi, e])), k1, fun i hi => Nat.lt_of_lt_of_le (h.bx i (k2 i hi)) k3.size, h.mods.trans k3 (fun _ _ x => x) (fun i hi x => by have := h.n2; omega), h.n1, h.n2, h.ne, h.a1, fun e => h.a2 (k2 _ e)⟩, fun k hk => ?_⟩, fun vs ho => ho.keep k3 (fun k hk e => (ha k hk).2.2.1 e)⟩
  obtain ⟨a1, a2, a3, a4, a5⟩ := ha k hk
  exact ⟨a1, a2, a3, a4, fun e => a5 (k2 k e)⟩
theorem E2.xend (h : E2 w g gx p q wx) : Calls Try.prog 54 #[.pointer (some ⟨gx, 0, none⟩)] wx fun r w' => r = .returned (.int .i64 (endS q.1 q.2)) ∧ E2 w g gx p (q.1, endS q.1 q.2) w' := by
  obtain ⟨v, vx, h⟩ := h
  exact (rEndE h.rx).mono fun r w' ⟨hr, hs⟩ => ⟨hr, h.step2 hs⟩
theorem E2.lt (h : E2 w g gx p q wx) : g < wx.heap.size ∧ gx < wx.heap.size := by
  obtain ⟨v, vx, h⟩ := h
  exact ⟨h.rr.lt, h.rx.lt⟩
end

theorem HDec_true {x y : Value} {xs : List Nat} {w : World} (hx : RN w x xs) (hy : RN w y xs) : Calls Try.prog 59 #[.agg #[x], .agg #[y]] w fun e w' => e = .returned (.bool true) ∧ Mods noB w w' :=
  (HDec_any hx hy).mono fun e w' ⟨he, hq⟩ => ⟨by rw [he]; simp, hq⟩

/-- what both tell behind a step -/
def ReadRes (w : World) (g gx : Nat) (s : EStp) (p : ESt) (r : Ending) (w' : World) : Prop := r = .returned (.bool true) ∧ E2 w g gx (rstep s p) (rstep s p) w'

set_option maxHeartbeats 1000000 in
theorem read0 {w wx : World} {g gx : Nat} {s : EStp} {p : ESt} (h : E2 w g gx p p wx) (hs : s.At w) (hl : p.1.length ≤ 3000) (hw : s.what = 0) :
    Calls Try.prog 28 #[.pointer (some ⟨g, 0, none⟩), .pointer (some ⟨gx, 0, none⟩), s.val] wx (ReadRes w g gx s p) := by
  have H := Lib.hid (h.then0 ((Mods.refl noB wx).alloc s.box))
  have HR := Lib.hid (show rstep s p = est 1 p from by unfold rstep; simp [hw])
  obtain ⟨what, n, nv, bw, nat, b, most⟩ := s
  simp only at hw
  subst hw
  have f2 := RdM.form hs.nat
  have f3 := hs.b.form
  have hmo := hs.most
  simp only at f2 f3 hmo
  obtain ⟨a2, c2, rfl, _⟩ := f2
  obtain ⟨a3, c3, rfl, _⟩ := f3
  unfold EStp.val
  unfold EStp.box at *
  simp only at H HR ⊢
  clear h hs
  go_enter Try.func28, Try.ntmps28
  go_wp2_with fail
  refine (H.out.u8).mono ?_
  rintro r w1 ⟨rfl, h1⟩
  have H1 := Lib.hid h1
  have hlt : evl 1 p < 256 ^ 1 := rtake_lt 1 p.1 p.2
  simp at hlt
  clear h1
  go_wp2_with fail
  refine (H1.out.xu 1 (by omega)).mono ?_
  rintro r w2 ⟨rfl, h2⟩
  have H3 := Lib.hid h2
  clear h2 H1
  generalize evl 1 p = z at *
  go_wp2
  go_ret
  refine ⟨rfl, ?_⟩
  rw [HR.out]
  exact H3.out

set_option maxHeartbeats 1000000 in
theorem read1 {w wx : World} {g gx : Nat} {s : EStp} {p : ESt} (h : E2 w g gx p p wx) (hs : s.At w) (hl : p.1.length ≤ 3000) (hw : s.what = 1) :
    Calls Try.prog 28 #[.pointer (some ⟨g, 0, none⟩), .pointer (some ⟨gx, 0, none⟩), s.val] wx (ReadRes w g gx s p) := by
  have H := Lib.hid (h.then0 ((Mods.refl noB wx).alloc s.box))
  have HR := Lib.hid (show rstep s p = est 4 p from by unfold rstep; simp [hw])
  obtain ⟨what, n, nv, bw, nat, b, most⟩ := s
  simp only at hw
  subst hw
  have f2 := RdM.form hs.nat
  have f3 := hs.b.form
  have hmo := hs.most
  simp only at f2 f3 hmo
  obtain ⟨a2, c2, rfl, _⟩ := f2
  obtain ⟨a3, c3, rfl, _⟩ := f3
  unfold EStp.val
  unfold EStp.box at *
  simp only at H HR ⊢
  clear h hs
  go_enter Try.func28, Try.ntmps28
  go_wp2_with fail
  refine (H.out.u32).mono ?_
  rintro r w1 ⟨rfl, h1⟩
  have H1 := Lib.hid h1
  have hlt : evl 4 p < 256 ^ 4 := rtake_lt 4 p.1 p.2
  simp at hlt
  clear h1
  go_wp2_with fail
  refine (H1.out.xu 4 (by omega)).mono ?_
  rintro r w2 ⟨rfl, h2⟩
  have H3 := Lib.hid h2
  clear h2 H1
  generalize evl 4 p = z at *
  go_wp2
  go_ret
  refine ⟨rfl, ?_⟩
  rw [HR.out]
  exact H3.out

set_option maxHeartbeats 1000000 in
theorem read2 {w wx : World} {g gx : Nat} {s : EStp} {p : ESt} (h : E2 w g gx p p wx) (hs : s.At w) (hl : p.1.length ≤ 3000) (hw : s.what = 2) :
    Calls Try.prog 28 #[.pointer (some ⟨g, 0, none⟩), .pointer (some ⟨gx, 0, none⟩), s.val] wx (ReadRes w g gx s p) := by
  have H := Lib.hid (h.then0 ((Mods.refl noB wx).alloc s.box))
  have HR := Lib.hid (show rstep s p = est 8 p from by unfold rstep; simp [hw])
  obtain ⟨what, n, nv, bw, nat, b, most⟩ := s
  simp only at hw
  subst hw
  have f2 := RdM.form hs.nat
  have f3 := hs.b.form
  have hmo := hs.most
  simp only at f2 f3 hmo
  obtain ⟨a2, c2, rfl, _⟩ := f2
  obtain ⟨a3, c3, rfl, _⟩ := f3
  unfold EStp.val
  unfold EStp.box at *
  simp only at H HR ⊢
  clear h hs
  go_enter Try.func28, Try.ntmps28
  go_wp2_with fail
  refine (H.out.u64).mono ?_
  rintro r w1 ⟨rfl, h1⟩
  have H1 := Lib.hid h1
  have hlt : evl 8 p < 256 ^ 8 := rtake_lt 8 p.1 p.2
  simp at hlt
  clear h1
  go_wp2_with fail
  refine (H1.out.xu 8 (by omega)).mono ?_
  rintro r w2 ⟨rfl, h2⟩
  have H3 := Lib.hid h2
  clear h2 H1
  generalize evl 8 p = z at *
  go_wp2
  go_ret
  refine ⟨rfl, ?_⟩
  rw [HR.out]
  exact H3.out

set_option maxHeartbeats 1000000 in
theorem read3 {w wx : World} {g gx : Nat} {s : EStp} {p : ESt} (h : E2 w g gx p p wx) (hs : s.At w) (hl : p.1.length ≤ 3000) (hw : s.what = 3) :
    Calls Try.prog 28 #[.pointer (some ⟨g, 0, none⟩), .pointer (some ⟨gx, 0, none⟩), s.val] wx (ReadRes w g gx s p) := by
  have H := Lib.hid (h.then0 ((Mods.refl noB wx).alloc s.box))
  have HR := Lib.hid (show rstep s p = boolS p from by unfold rstep; simp [hw])
  obtain ⟨what, n, nv, bw, nat, b, most⟩ := s
  simp only at hw
  subst hw
  have f2 := RdM.form hs.nat
  have f3 := hs.b.form
  have hmo := hs.most
  simp only at f2 f3 hmo
  obtain ⟨a2, c2, rfl, _⟩ := f2
  obtain ⟨a3, c3, rfl, _⟩ := f3
  unfold EStp.val
  unfold EStp.box at *
  simp only at H HR ⊢
  clear h hs
  go_enter Try.func28, Try.ntmps28
  go_wp2_with fail
  refine (H.out.bool).mono ?_
  rintro r w1 ⟨rfl, h1⟩
  have H1 := Lib.hid h1
  clear h1
  go_wp2_with fail
  refine (H1.out.xbool).mono ?_
  rintro r w2 ⟨rfl, h2⟩
  have H3 := Lib.hid h2
  clear h2 H1
  generalize decide (evl 1 p = 1) = z at *
  go_wp2
  go_ret
  refine ⟨ret_bool (by simp), ?_⟩
  rw [HR.out]
  exact H3.out

set_option maxHeartbeats 1000000 in
theorem read4 {w wx : World} {g gx : Nat} {s : EStp} {p : ESt} (h : E2 w g gx p p wx) (hs : s.At w) (hl : p.1.length ≤ 3000) (hw : s.what = 4) :
    Calls Try.prog 28 #[.pointer (some ⟨g, 0, none⟩), .pointer (some ⟨gx, 0, none⟩), s.val] wx (ReadRes w g gx s p) := by
  have H := Lib.hid (h.then0 ((Mods.refl noB wx).alloc s.box))
  have HR := Lib.hid (show rstep s p = natT p from by unfold rstep; simp [hw])
  obtain ⟨what, n, nv, bw, nat, b, most⟩ := s
  simp only at hw
  subst hw
  have f2 := RdM.form hs.nat
  have f3 := hs.b.form
  have hmo := hs.most
  simp only at f2 f3 hmo
  obtain ⟨a2, c2, rfl, _⟩ := f2
  obtain ⟨a3, c3, rfl, _⟩ := f3
  unfold EStp.val
  unfold EStp.box at *
  simp only at H HR ⊢
  clear h hs
  go_enter Try.func28, Try.ntmps28
  go_wp2_with fail
  refine (H.out.nat (by omega)).mono ?_
  rintro r w1 ⟨u, rfl, hu, h1, hg⟩
  obtain ⟨ua, uc, rfl, _⟩ := RdM.form hu
  have H1 := Lib.hid h1
  have U := Lib.hid (And.intro hu hg)
  clear h1 hu hg
  go_wp2_with fail
  refine (H1.out.xnat (by omega)).mono ?_
  rintro r w2 ⟨x, rfl, hx, h2, m2⟩
  obtain ⟨xa, xc, rfl, _⟩ := RdM.form hx
  have H2 := Lib.hid h2
  have U2 := Lib.hid (RdM.keep U.out.1 m2 U.out.2)
  have X2 := Lib.hid hx
  clear h2 hx m2 U H1
  go_wp2_with fail
  refine (HNat_true U2.out X2.out).mono ?_
  rintro r w3 ⟨rfl, m3⟩
  have H3 := Lib.hid (H2.out.then0 m3)
  clear m3 H2
  go_wp2
  go_ret
  refine ⟨rfl, ?_⟩
  rw [HR.out]
  exact H3.out

set_option maxHeartbeats 1000000 in
theorem read5 {w wx : World} {g gx : Nat} {s : EStp} {p : ESt} (h : E2 w g gx p p wx) (hs : s.At w) (hl : p.1.length ≤ 3000) (hw : s.what = 5) :
    Calls Try.prog 28 #[.pointer (some ⟨g, 0, none⟩), .pointer (some ⟨gx, 0, none⟩), s.val] wx (ReadRes w g gx s p) := by
  have H := Lib.hid (h.then0 ((Mods.refl noB wx).alloc s.box))
  have HR := Lib.hid (show rstep s p = natT p from by unfold rstep; simp [hw])
  obtain ⟨what, n, nv, bw, nat, b, most⟩ := s
  simp only at hw
  subst hw
  have f2 := RdM.form hs.nat
  have f3 := hs.b.form
  have hmo := hs.most
  simp only at f2 f3 hmo
  obtain ⟨a2, c2, rfl, _⟩ := f2
  obtain ⟨a3, c3, rfl, _⟩ := f3
  unfold EStp.val
  unfold EStp.box at *
  simp only at H HR ⊢
  clear h hs
  go_enter Try.func28, Try.ntmps28
  go_wp2_with fail
  refine (H.out.dec (by omega)).mono ?_
  rintro r w1 ⟨u, rfl, hu, h1, hg⟩
  obtain ⟨ua, uc, rfl, _⟩ := RdM.form hu
  have H1 := Lib.hid h1
  have U := Lib.hid (And.intro hu hg)
  clear h1 hu hg
  go_wp2_with fail
  refine (H1.out.xdec (by omega)).mono ?_
  rintro r w2 ⟨x, rfl, hx, h2, m2⟩
  obtain ⟨xa, xc, rfl, _⟩ := RdM.form hx
  have H2 := Lib.hid h2
  have U2 := Lib.hid (RdM.keep U.out.1 m2 U.out.2)
  have X2 := Lib.hid hx
  clear h2 hx m2 U H1
  go_wp2_with fail
  refine (HDec_true U2.out X2.out).mono ?_
  rintro r w3 ⟨rfl, m3⟩
  have H3 := Lib.hid (H2.out.then0 m3)
  clear m3 H2
  go_wp2
  go_ret
  refine ⟨rfl, ?_⟩
  rw [HR.out]
  exact H3.out

set_option maxHeartbeats 1000000 in
theorem read6 {w wx : World} {g gx : Nat} {s : EStp} {p : ESt} (h : E2 w g gx p p wx) (hs : s.At w) (hl : p.1.length ≤ 3000) (hw : s.what = 6) :
    Calls Try.prog 28 #[.pointer (some ⟨g, 0, none⟩), .pointer (some ⟨gx, 0, none⟩), s.val] wx (ReadRes w g gx s p) := by
  have H := Lib.hid (h.then0 ((Mods.refl noB wx).alloc s.box))
  have HR := Lib.hid (show rstep s p = rawT s.most p from by unfold rstep; simp [hw])
  have hg := Lib.hid (show ¬ wx.heap.size = g from by have := h.lt.1; omega)
  obtain ⟨what, n, nv, bw, nat, b, most⟩ := s
  simp only at hw
  subst hw
  have f2 := RdM.form hs.nat
  have f3 := hs.b.form
  have hmo := hs.most
  simp only at f2 f3 hmo
  obtain ⟨a2, c2, rfl, _⟩ := f2
  obtain ⟨a3, c3, rfl, _⟩ := f3
  unfold EStp.val
  unfold EStp.box at *
  simp only at H HR ⊢
  clear h hs
  go_enter Try.func28, Try.ntmps28
  go_wp2_with fail
  refine (H.out.raw most hmo (by omega)).mono ?_
  rintro r w1 ⟨u, rfl, hu, h1, m1⟩
  obtain ⟨ua, uc, rfl, _⟩ := hu.rd.form
  have d4 := cells_of (m1.heap (heap_new wx (.cells #[.int .i64 6, .int .u64 n, .slice a2 nat.length c2, .slice a3 b.length c3, .int .i64 most] 60)) hg.out) 4
  have H1 := Lib.hid h1
  have U := Lib.hid hu
  clear h1 hu m1 H
  go_wp2_with fail
  refine (H1.out.xraw most (by omega)).mono ?_
  rintro r w2 ⟨x, rfl, hx, h2, k2⟩
  obtain ⟨xa, xc, rfl, _⟩ := hx.rd.form
  have H2 := Lib.hid h2
  have U2 := Lib.hid (k2 _ U.out)
  have X2 := Lib.hid hx
  clear h2 hx k2 U H1 d4
  go_wp2_with fail
  refine (Bytes_true U2.out.rd X2.out.rd).mono ?_
  rintro r w3 ⟨rfl, m3⟩
  have H4 := Lib.hid (H2.out.then0 m3)
  have U4 := Lib.hid (U2.out.keep m3 (fun _ _ x => x))
  clear m3 H2 U2 X2
  go_wp2_with fail
  refine (Spoil_any U4.out).mono ?_
  rintro r w5 ⟨rfl, m5⟩
  have H3 := Lib.hid (H4.out.spoil m5)
  clear m5 H4 U4
  go_wp2
  go_ret
  refine ⟨rfl, ?_⟩
  rw [HR.out]
  exact H3.out

set_option maxHeartbeats 1000000 in
theorem read8 {w wx : World} {g gx : Nat} {s : EStp} {p : ESt} (h : E2 w g gx p p wx) (hs : s.At w) (hl : p.1.length ≤ 3000) (hw : s.what = 8) :
    Calls Try.prog 28 #[.pointer (some ⟨g, 0, none⟩), .pointer (some ⟨gx, 0, none⟩), s.val] wx (ReadRes w g gx s p) := by
  have H := Lib.hid (h.then0 ((Mods.refl noB wx).alloc s.box))
  have HR := Lib.hid (show rstep s p = (p.1, endS p.1 p.2) from by unfold rstep; simp [hw])
  obtain ⟨what, n, nv, bw, nat, b, most⟩ := s
  simp only at hw
  subst hw
  have f2 := RdM.form hs.nat
  have f3 := hs.b.form
  have hmo := hs.most
  simp only at f2 f3 hmo
  obtain ⟨a2, c2, rfl, _⟩ := f2
  obtain ⟨a3, c3, rfl, _⟩ := f3
  unfold EStp.val
  unfold EStp.box at *
  simp only at H HR ⊢
  clear h hs
  go_enter Try.func28, Try.ntmps28
  go_wp2_with fail
  refine (H.out.end).mono ?_
  rintro r w1 ⟨rfl, h1⟩
  have H1 := Lib.hid h1
  clear h1
  go_wp2_with fail
  refine (H1.out.xend).mono ?_
  rintro r w2 ⟨rfl, h2⟩
  have H3 := Lib.hid h2
  clear h2 H1
  go_wp2
  go_ret
  refine ⟨rfl, ?_⟩
  rw [HR.out]
  exact H3.out

theorem read_none {w wx : World} {g gx : Nat} {s : EStp} {p : ESt} (h : E2 w g gx p p wx) (hs : s.At w) (hw : ∀ k : Nat, k ≤ 8 → k ≠ 7 → s.what ≠ k) :
    Calls Try.prog 28 #[.pointer (some ⟨g, 0, none⟩), .pointer (some ⟨gx, 0, none⟩), s.val] wx (ReadRes w g gx s p) := by
  have H := Lib.hid (h.then0 ((Mods.refl noB wx).alloc s.box))
  have n0 : s.what ≠ 0 := hw 0 (by omega) (by omega)
  have n1 : s.what ≠ 1 := hw 1 (by omega) (by omega)
  have n2 : s.what ≠ 2 := hw 2 (by omega) (by omega)
  have n3 : s.what ≠ 3 := hw 3 (by omega) (by omega)
  have n4 : s.what ≠ 4 := hw 4 (by omega) (by omega)
  have n5 : s.what ≠ 5 := hw 5 (by omega) (by omega)
  have n6 : s.what ≠ 6 := hw 6 (by omega) (by omega)
  have n8 : s.what ≠ 8 := hw 8 (by omega) (by omega)
  have HR := Lib.hid (show rstep s p = p from by unfold rstep; simp [n0, n1, n2, n3, n4, n5, n6, n8])
  obtain ⟨what, n, nv, bw, nat, b, most⟩ := s
  simp only at hw n0 n1 n2 n3 n4 n5 n6 n8
  have e0 : (what == 0) = false := by simpa using n0
  have e1 : (what == 1) = false := by simpa using n1
  have e2 : (what == 2) = false := by simpa using n2
  have e3 : (what == 3) = false := by simpa using n3
  have e4 : (what == 4) = false := by simpa using n4
  have e5 : (what == 5) = false := by simpa using n5
  have e6 : (what == 6) = false := by simpa using n6
  have e8 : (what == 8) = false := by simpa using n8
  have f2 := RdM.form hs.nat
  have f3 := hs.b.form
  simp only at f2 f3
  obtain ⟨a2, c2, rfl, _⟩ := f2
  obtain ⟨a3, c3, rfl, _⟩ := f3
  unfold EStp.val
  unfold EStp.box at *
  simp only at H HR ⊢
  clear h hs hw n0 n1 n2 n3 n4 n5 n6 n8
  go_enter Try.func28, Try.ntmps28
  go_wp2
  go_ret
  refine ⟨rfl, ?_⟩
  rw [HR.out]
  exact H.out

/-- A step of both readers. -/
theorem read_any {w wx : World} {g gx : Nat} {s : EStp} {p : ESt} (h : E2 w g gx p p wx) (hs : s.At w) (hl : p.1.length ≤ 3000) :
    Calls Try.prog 28 #[.pointer (some ⟨g, 0, none⟩), .pointer (some ⟨gx, 0, none⟩), s.val] wx (ReadRes w g gx s p) := by
  by_cases h0 : s.what = 0
  · exact read0 h hs hl h0
  by_cases h1 : s.what = 1
  · exact read1 h hs hl h1
  by_cases h2 : s.what = 2
  · exact read2 h hs hl h2
  by_cases h3 : s.what = 3
  · exact read3 h hs hl h3
  by_cases h4 : s.what = 4
  · exact read4 h hs hl h4
  by_cases h5 : s.what = 5
  · exact read5 h hs hl h5
  by_cases h6 : s.what = 6
  · exact read6 h hs hl h6
  by_cases h8 : s.what = 8
  · exact read8 h hs hl h8
  exact read_none h hs (fun k hk h7 e => by
    match k, hk with
    | 0, _ => exact h0 e
    | 1, _ => exact h1 e
    | 2, _ => exact h2 e
    | 3, _ => exact h3 e
    | 4, _ => exact h4 e
    | 5, _ => exact h5 e
    | 6, _ => exact h6 e
    | 7, _ => exact h7 rfl
    | 8, _ => exact h8 e)

end Go.Proofs.Ytebknplbghcemaa

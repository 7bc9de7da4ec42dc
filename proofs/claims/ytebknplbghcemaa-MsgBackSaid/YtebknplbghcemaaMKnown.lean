/- gleanlaw17.known: the chapter's examples hold. -/
import Derived.Test.YtebknplbghcemaaMPlain
import Derived.Test.YtebknplbghcemaaMUsed
import Derived.Test.YtebknplbghcemaaMake
namespace Go.Proofs.Ytebknplbghcemaa
open Go.Gl Go.RowKit
set_option linter.unusedVariables false
set_option maxRecDepth 100000

theorem rd_cells_at {w : World} {g off n c : Nat} {xs : List UInt8} (h : Rd w (.slice (some ⟨g, off, none⟩) n c) xs) (i : Nat) (b : UInt8) (hb : xs[i]? = some b) : w.cell? ⟨g, off + i, none⟩ = some (.int .u8 b.toNat) := by
  rcases h.open with ⟨h1, _⟩ | ⟨g', off', cap, h1, _, _, _, h5⟩
  · cases h1
  · cases h1
    obtain ⟨hi, rfl⟩ := List.getElem?_eq_some_iff.1 hb
    exact h5 i hi

def TrueM (w : World) (e : Ending) (w' : World) : Prop := e = .returned (.bool true) ∧ Mods noB w w'

def kI1 : Itm := ⟨1, 17, 2, 5, 6, 16, 0, 0, 0, 0, 0⟩
def kI2 : Itm := ⟨2, 0, 0, 0, 0, 0, 0, 0, 1, 2, 3⟩
def kB1 : List UInt8 := [84, 0, 0, 0, 0, 0, 0, 0, 17, 0, 0, 0, 0, 0, 0, 0, 2, 0, 0, 0, 0, 0, 0, 0, 5, 6, 0, 0, 0, 0, 0, 0, 0, 16]
def kB2 : List UInt8 := [70, 1, 0, 0, 0, 0, 0, 0, 0, 2, 0, 0, 0, 0, 0, 0, 0, 3]

theorem kI1_may : mayB kI1 = true := by decide
theorem kI2_may : mayB kI2 = true := by decide
theorem kI0_may : mayB itm0 = false := by decide
theorem kI1_bytes : kI1.bytes = kB1 := by decide
theorem kI2_bytes : kI2.bytes = kB2 := by decide
theorem kI1_fits : kI1.Fits := ⟨by decide, by decide, by decide, by decide, by decide, by decide, by decide, by decide⟩
theorem kI2_fits : kI2.Fits := ⟨by decide, by decide, by decide, by decide, by decide, by decide, by decide, by decide⟩
theorem kI0_fits : itm0.Fits := ⟨by decide, by decide, by decide, by decide, by decide, by decide, by decide, by decide⟩

theorem decE_back {xs : List UInt8} (h : isItm xs) (hl : xs.length ≤ 1024) : decE xs = 0 := by
  unfold decE; rw [if_pos hl, if_pos h]
theorem decE_no {xs : List UInt8} (h : ¬ isItm xs) (hl : xs.length ≤ 1024) : decE xs = 170 := by
  unfold decE; rw [if_pos hl, if_neg h]
theorem decI_no {xs : List UInt8} (h : ¬ isItm xs) : decI xs = itm0 := by
  unfold decI; rw [if_neg (fun x => h x.2)]
theorem decI_back (i : Itm) (h : mayB i = true) (hf : i.Fits) (hl : i.bytes.length ≤ 1024) : decI i.bytes = i := by
  have h1 := (isItm_bytes i [] h hf).2 rfl
  have h2 := (readR i [] h hf).1
  rw [List.append_nil] at h1 h2
  unfold decI
  rw [if_pos ⟨hl, h1⟩, h2]

def DR2 (w : World) (cs : Array Value) (n : Int) (e : Ending) (w' : World) : Prop := e = .returned (.tuple #[.agg cs, .int .i64 n]) ∧ Mods noB w w'

theorem kenc1 (w : World) : Calls Try.prog 13 #[.agg #[.int .i64 1, .int .u64 17, .int .u64 2, .int .u64 5, .int .i64 6, .int .u64 16, .int .u64 0, .int .u64 0, .int .i64 0, .int .u64 0, .int .u64 0]] w (BRes w kB1 0) := by
  have := mEnc_any kI1 w kI1_fits
  rw [kI1_may, kI1_bytes] at this
  exact this
theorem kenc2 (w : World) : Calls Try.prog 13 #[.agg #[.int .i64 2, .int .u64 0, .int .u64 0, .int .u64 0, .int .i64 0, .int .u64 0, .int .u64 0, .int .u64 0, .int .i64 1, .int .u64 2, .int .u64 3]] w (BRes w kB2 0) := by
  have := mEnc_any kI2 w kI2_fits
  rw [kI2_may, kI2_bytes] at this
  exact this
theorem kenc0 (w : World) : Calls Try.prog 13 #[.agg #[.int .i64 0, .int .u64 0, .int .u64 0, .int .u64 0, .int .i64 0, .int .u64 0, .int .u64 0, .int .u64 0, .int .i64 0, .int .u64 0, .int .u64 0]] w (BRes w [] 170) := by
  have := mEnc_any itm0 w kI0_fits
  rw [kI0_may] at this
  exact this
theorem kdec1 {v : Value} {w : World} (hv : Rd w v kB1) : Calls Try.prog 19 #[v] w (DR2 w #[.int .i64 1, .int .u64 17, .int .u64 2, .int .u64 5, .int .i64 6, .int .u64 16, .int .u64 0, .int .u64 0, .int .i64 0, .int .u64 0, .int .u64 0] 0) := by
  have := mDec_any hv
  rw [← kI1_bytes, decI_back kI1 kI1_may kI1_fits (by rw [kI1_bytes]; decide), decE_back (by have := (isItm_bytes kI1 [] kI1_may kI1_fits).2 rfl; rwa [List.append_nil] at this) (by rw [kI1_bytes]; decide)] at this
  exact this
theorem kdec2 {v : Value} {w : World} (hv : Rd w v (kB1 ++ [0])) : Calls Try.prog 19 #[v] w (DR2 w #[.int .i64 0, .int .u64 0, .int .u64 0, .int .u64 0, .int .i64 0, .int .u64 0, .int .u64 0, .int .u64 0, .int .i64 0, .int .u64 0, .int .u64 0] 170) := by
  have := mDec_any hv
  have hn : ¬ isItm (kB1 ++ [0]) := by
    rw [← kI1_bytes, isItm_bytes kI1 [0] kI1_may kI1_fits]
    simp
  rw [decI_no hn, decE_no hn (by decide)] at this
  exact this
theorem kdec3 {v : Value} {w : World} (hv : Rd w v (List.replicate 1025 0)) : Calls Try.prog 19 #[v] w (DR2 w #[.int .i64 0, .int .u64 0, .int .u64 0, .int .u64 0, .int .i64 0, .int .u64 0, .int .u64 0, .int .u64 0, .int .i64 0, .int .u64 0, .int .u64 0] 171) := by
  have := mDec_any hv
  unfold decI decE at this
  rw [if_neg (by rw [List.length_replicate]; omega), if_neg (by rw [List.length_replicate]; omega)] at this
  exact this
theorem kuses (w : World) : Calls Try.prog 15 #[.int .i64 1] w fun e w' => e = .returned (.tuple #[.bool true, .bool false, .bool true]) ∧ Mods noB w w' := Uses_any 1 w

set_option maxHeartbeats 8000000 in
theorem mknown_any (w : World) : Calls Try.prog 12 #[] w (TrueM w) := by
  go_enter Try.func12, Try.ntmps12
  go_wp2_with fail
  refine (kenc1 _).mono ?_
  rintro e w1 ⟨v1, rfl, o1, m1, f1⟩
  have g1 := m1.heap (heap_new w (.cells #[.int .i64 1, .int .u64 17, .int .u64 2, .int .u64 5, .int .i64 6, .int .u64 16, .int .u64 0, .int .u64 0, .int .i64 0, .int .u64 0, .int .u64 0] 30)) (fun x => x)
  have mw := m1.after
  clear m1
  go_wp2_with fail
  refine (kdec1 o1.rd).mono ?_
  rintro e w2 ⟨rfl, m2⟩
  have o1 := o1.keep m2 (fun _ _ x => x)
  have g1 := m2.heap g1 (fun x => x)
  have mw := mw.then0 m2
  have hz := lt_of_heap g1
  go_wp2_with fail
  have o1 := o1.alloc (.cells #[.int .i64 1, .int .u64 17, .int .u64 2, .int .u64 5, .int .i64 6, .int .u64 16, .int .u64 0, .int .u64 0, .int .i64 0, .int .u64 0, .int .u64 0] 30)
  have g1 := heap_old g1 (.cells #[.int .i64 1, .int .u64 17, .int .u64 2, .int .u64 5, .int .i64 6, .int .u64 16, .int .u64 0, .int .u64 0, .int .i64 0, .int .u64 0, .int .u64 0] 30)
  have g2 := heap_new w2 (.cells #[.int .i64 1, .int .u64 17, .int .u64 2, .int .u64 5, .int .i64 6, .int .u64 16, .int .u64 0, .int .u64 0, .int .i64 0, .int .u64 0, .int .u64 0] 30)
  have mw := mw.alloc (.cells #[.int .i64 1, .int .u64 17, .int .u64 2, .int .u64 5, .int .i64 6, .int .u64 16, .int .u64 0, .int .u64 0, .int .i64 0, .int .u64 0, .int .u64 0] 30)
  generalize World.alloc w2 _ = w3 at *
  generalize w2.heap.size = k2 at *
  generalize w.heap.size = k1 at *
  refine (kenc2 _).mono ?_
  rintro e w4 ⟨v4, rfl, o4, m4, f4⟩
  have o1 := o1.keep m4 (fun _ _ x => x)
  have g1 := m4.heap g1 (fun x => x)
  have g2 := m4.heap g2 (fun x => x)
  have mw := Lib.hid (mw.then0 m4)
  have O1 := Lib.hid o1
  have O4 := Lib.hid o4
  obtain ⟨a1, c1, hv1, l1⟩ := o1.rd.form
  obtain ⟨a4, c4, hv4, l4⟩ := o4.rd.form
  rw [show kB1.length = 34 from rfl] at hv1
  rw [show kB2.length = 18 from rfl] at hv4
  subst hv1 hv4
  have x1 := cells_of g1
  have x2 := cells_of g2
  obtain ⟨p1, q1, rfl⟩ := o1.rd.addr (by decide)
  obtain ⟨p4, q4, rfl⟩ := o4.rd.addr (by decide)
  have y1 := rd_cells_at o1.rd 0 84 rfl
  have y2 := rd_cells_at o1.rd 25 6 rfl
  have y4 := rd_cells_at o4.rd 0 70 rfl
  simp at y1 y2 y4
  have F1 := Lib.hid f1
  clear o1 o4 g1 g2 m4 m2 f1 f4 l1 l4 hz
  go_wp2_with (at_builtin; refine stop ?_)
  unfold Stop
  refine wpList_apb rfl rfl kB1 [0] (O1.out.alloc _) (own_at 0 _ rfl).rd rfl rfl (by decide) ?_
  intro v5 w5 o5 m5 _
  have M5 := Lib.hid ((mw.out.alloc _).trans m5 (U := noB) (fun _ _ x => x) (fun i hi x => by have := F1.out i x; simp at this; omega))
  have O5 := Lib.hid o5
  clear o5 m5 x1 x2 y1 y2 y4 O1 O4 mw F1
  go_wp2_with fail
  refine (kdec2 O5.out.rd).mono ?_
  rintro e w6 ⟨rfl, m6⟩
  have M6 := Lib.hid (M5.out.then0 m6)
  clear m6 M5 O5
  go_wp2_with (refine wpList_mkb rfl _ _ (by rfl) .i64 .i64 1025 (by rfl) (by rfl) (by omega) ?_; intro w7 o7 m7 hz7; have O7 := Lib.hid o7; have M7 := Lib.hid ((M6.out.alloc _).then0 m7); clear o7 m7 M6)
  refine (kdec3 (by have := O7.out.rd; simpa using this)).mono ?_
  rintro e w8 ⟨rfl, m8⟩
  have M8 := Lib.hid (M7.out.then0 m8)
  clear m8 M7 O7 hz7
  go_wp2_with fail
  refine (kenc0 _).mono ?_
  rintro e w9 ⟨v9, rfl, o9, m9, f9⟩
  have M9 := Lib.hid ((M8.out.alloc _).then0 m9)
  clear o9 m9 f9 M8
  go_wp2_with fail
  refine (kuses _).mono ?_
  rintro e w10 ⟨rfl, m10⟩
  have M10 := Lib.hid (M9.out.then0 m10)
  clear m10 M9
  go_wp2
  go_ret
  exact ⟨rfl, M10.out⟩

end Go.Proofs.Ytebknplbghcemaa

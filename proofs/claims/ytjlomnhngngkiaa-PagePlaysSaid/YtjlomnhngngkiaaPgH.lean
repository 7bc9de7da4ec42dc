/- The argument of page's laws: a script of steps; gleanlaw5.light. -/
import Derived.Test.YtjlomnhngngkiaaSteps
import Derived.Test.YtjlomnhngngkiaaZA
namespace Go.Proofs.Ytjlomnhngngkiaa
open Go.Gl Go.RowKit Go.ChangeShapes Go.WideShapes Go.ChangeAt Go.Deep
set_option linter.unusedVariables false
set_option maxRecDepth 100000

/-- A step: what its fields hold, and what its slices read. -/
structure PStp where
  at_ : Int
  what : Int
  n : Int
  kv : Value
  vv : Value
  k : List UInt8
  v : List UInt8

def PStp.cell (s : PStp) : Nat → Value
  | 0 => .int .i64 s.at_
  | 1 => .int .i64 s.what
  | 2 => .int .i64 s.n
  | 3 => s.kv
  | _ => s.vv

structure PStp.At (w : World) (s : PStp) : Prop where
  k : Rd w s.kv s.k
  v : Rd w s.vv s.v
  a1 : -9223372036854775808 ≤ s.at_
  a2 : s.at_ ≤ 9223372036854775807
  n1 : -9223372036854775808 ≤ s.n
  n2 : s.n ≤ 9223372036854775807
  kl : s.k.length ≤ 140737488355328
  vl : s.v.length ≤ 140737488355328

def RdPs (w : World) (v : Value) (ss : List PStp) : Prop :=
  (v = .slice none 0 0 ∧ ss = []) ∨ ∃ g off cap, v = .slice (some ⟨g, off, none⟩) ss.length cap ∧ ss.length ≤ cap ∧ cap ≤ maxLen ∧ g < w.heap.size ∧
    ∀ i (hi : i < ss.length), (∀ j, j < 5 → w.cell? ⟨g, off + i * 5 + j, none⟩ = some (ss[i].cell j)) ∧ ss[i].At w

theorem PStp.At.keep {w w' : World} {s : PStp} (h : s.At w) (hm : Mods noB w w') : s.At w' :=
  ⟨h.k.keep hm (fun _ _ x => x), h.v.keep hm (fun _ _ x => x), h.a1, h.a2, h.n1, h.n2, h.kl, h.vl⟩

theorem RdPs.keep {w w' : World} {v : Value} {ss : List PStp} (h : RdPs w v ss) (hm : Mods noB w w') : RdPs w' v ss := by
  rcases h with h | ⟨g, off, cap, hv, h1, h2, h3, h4⟩
  · exact .inl h
  · exact .inr ⟨g, off, cap, hv, h1, h2, hm.size_of h3, fun i hi => ⟨fun j hj => (hm.cellAt h3 (fun x => x) _).trans ((h4 i hi).1 j hj), (h4 i hi).2.keep hm⟩⟩

theorem RdPs.form {w : World} {v : Value} {ss : List PStp} (h : RdPs w v ss) : ∃ a n cap, v = .slice a n cap ∧ ss.length = n ∧ n ≤ cap ∧ cap ≤ 9223372036854775807 ∧
    (n = 0 ∨ ∃ g off, a = some ⟨g, off, none⟩ ∧ ∀ i (hi : i < ss.length), (∀ j, j < 5 → w.cell? ⟨g, off + i * 5 + j, none⟩ = some (ss[i].cell j)) ∧ ss[i].At w) := by
  rcases h with ⟨rfl, rfl⟩ | ⟨g, off, cap, hv, h1, h2, h3, h4⟩
  · exact ⟨none, 0, 0, rfl, rfl, Nat.le_refl _, by omega, .inl rfl⟩
  · exact ⟨_, _, cap, hv, rfl, h1, by simpa [maxLen] using h2, .inr ⟨g, off, rfl, h4⟩⟩

theorem psteps_of_arg {H : Type} {enc : TypeId × Value → H} {W : World} {base : Nat} {v : Value} {d : DataW H} {p : List MemPlace} (hv : Value.okWide Try.prog W .any base 22 v) (h : DataW.Trod enc Try.prog W 0 (fun _ => true) true 22 v d p) (hw : ∀ q ∈ d.weights Try.prog 22, q ≤ reachBytes) : ∃ ss, RdPs W v ss := by
  obtain ⟨fuel, hf⟩ := h
  obtain ⟨a0, len0, cap0, rfl⟩ := okWide_slice Try.underlying22 hv
  rcases open_slice_fields Try.underlying22 Try.underlying35 (by kernel_rfl) (by kernel_rfl) hf with ⟨hcs, _⟩ | ⟨x, l, c, m, D, Pl, hcs, _, hl, hm, hmm, hd, hi⟩
  · simp [Value.cells] at hcs
    obtain ⟨rfl, rfl, rfl⟩ := hcs
    exact ⟨[], .inl ⟨rfl, rfl⟩⟩
  · simp [Value.cells] at hcs
    obtain ⟨rfl, rfl, rfl⟩ := hcs
    simp only [Value.okWide, Try.underlying22, Cell.okWide, Cell.ok] at hv
    obtain ⟨_, _, _, hsp, row, cells, hsh, _⟩ := hv
    obtain ⟨g, off, sp⟩ := x
    simp only at hsp
    subst hsp
    have hmm' : m = cap0 := by simpa using hmm
    obtain ⟨ss, hs1, hs2⟩ := list_of (p := fun i (s : PStp) => (∀ j, j < 5 → W.cell? ⟨g, off + i * 5 + j, none⟩ = some (s.cell j)) ∧ s.At W) len0 (fun i hil => by
      obtain ⟨ys, n, hD, _, _, hf⟩ := hi i (by omega)
      obtain ⟨v0, y0, c0, _, t0⟩ := hf 0 _ rfl
      obtain ⟨v1, y1, c1, _, t1⟩ := hf 1 _ rfl
      obtain ⟨v2, y2, c2, _, t2⟩ := hf 2 _ rfl
      obtain ⟨v3, y3, c3, g3, t3⟩ := hf 3 _ rfl
      obtain ⟨v4, y4, c4, g4, t4⟩ := hf 4 _ rfl
      obtain ⟨z0, e0, _, w0⟩ := DataW.trod_int Try.underlying3 t0
      obtain ⟨z1, e1, _, w1⟩ := DataW.trod_int Try.underlying3 t1
      obtain ⟨z2, e2, _, w2⟩ := DataW.trod_int Try.underlying3 t2
      cases e0; cases e1; cases e2
      obtain ⟨z3, r3, l3, b3⟩ := rdM_of_ints Try.underlying33 Try.underlying5 (by kernel_rfl) t3 (of_decide_eq_true (by kernel_rfl)) (weights_field Try.underlying22 Try.underlying35 hd hw hil hD (j := 3) rfl g3)
      obtain ⟨z4, r4, l4, b4⟩ := rdM_of_ints Try.underlying33 Try.underlying5 (by kernel_rfl) t4 (of_decide_eq_true (by kernel_rfl)) (weights_field Try.underlying22 Try.underlying35 hd hw hil hD (j := 4) rfl g4)
      have w0' := bounds_i64 w0
      have w2' := bounds_i64 w2
      have rdb : ∀ {v : Value} {zs : List Int}, RdM (fun z => Value.int .u8 z) W v zs → (∀ z ∈ zs, (Lit.int .u8 z).wf = true) → Rd W v (zs.map (fun z => UInt8.ofNat z.toNat)) := fun {v zs} r l =>
        by
          have h9 := RdM.map_of (h := fun b : UInt8 => Value.int .u8 b.toNat) (fun z => UInt8.ofNat z.toNat) (fun z hz => by have := bounds_u8 (l z hz); simp only [UInt8.toNat_ofNat']; congr 1; omega) r
          exact h9
      refine ⟨⟨z0, z1, z2, v3, v4, z3.map (fun z => UInt8.ofNat z.toNat), z4.map (fun z => UInt8.ofNat z.toNat)⟩, fun j hj => ?_, ⟨rdb r3 l3, rdb r4 l4, w0'.1, w0'.2, w2'.1, w2'.2, by simpa using b3, by simpa using b4⟩⟩
      rw [show (⟨g, off + i * 5 + j, none⟩ : Addr) = (⟨g, off, none⟩ : Addr).add (i * 5 + j) from by rw [show (⟨g, off, none⟩ : Addr).add (i * 5 + j) = ⟨g, off + (i * 5 + j), none⟩ from Addr.add_lit .., Nat.add_assoc]]
      match j, hj with
      | 0, _ => exact c0
      | 1, _ => exact c1
      | 2, _ => exact c2
      | 3, _ => exact c3
      | 4, _ => exact c4)
    subst hs1
    exact ⟨ss, .inr ⟨g, off, cap0, rfl, hl, hm, lt_of_shape hsh, hs2⟩⟩

/-- what a step weighs -/
def PStp.wt (s : PStp) : Nat := s.k.length + s.v.length
def pwts : List PStp → Nat
  | [] => 0
  | s :: ss => s.wt + pwts ss
/-- what light counts from n on: it stops behind the first that is too much -/
def plightN : Nat → List PStp → Nat
  | n, [] => n
  | n, s :: ss => if n ≤ 6000 then plightN (n + s.wt) ss else n

theorem plightN_ge (n : Nat) (ss : List PStp) (h : ¬ n ≤ 6000) : plightN n ss = n := by
  cases ss <;> simp [plightN, h]
theorem plightN_le (n : Nat) (ss : List PStp) : decide (plightN n ss ≤ 6000) = decide (n + pwts ss ≤ 6000) := by
  induction ss generalizing n with
  | nil => rfl
  | cons s ss ih =>
    by_cases h : n ≤ 6000
    · rw [plightN, if_pos h, ih]
      simp only [pwts, Nat.add_assoc]
      rfl
    · rw [plightN_ge _ _ h]
      have : ¬ (n + pwts (s :: ss) ≤ 6000) := by omega
      simp [h, this]
theorem pwts_get {ss : List PStp} {i : Nat} (hi : i < ss.length) : ss[i].wt ≤ pwts ss := by
  induction ss generalizing i with
  | nil => simp at hi
  | cons s ss ih =>
    cases i with
    | zero => simp [pwts]
    | succ i =>
      have := ih (i := i) (by simpa using hi)
      simp only [List.getElem_cons_succ, pwts]
      omega

/-- a script that is looked at -/
def plightB (ss : List PStp) : Bool := decide (ss.length + pwts ss ≤ 6000)

set_option maxHeartbeats 1000000 in
theorem plight_any {w : World} {v : Value} {ss : List PStp} (h : RdPs w v ss) :
    Calls Try.prog 8 #[v] w fun e w' => e = .returned (.bool (plightB ss)) ∧ Quiet w w' := by
  obtain ⟨a, n, c, rfl, hn, h1, h2, h3⟩ := h.form
  have H3 := Lib.hid h3
  have HN := Lib.hid hn
  clear h h3 hn
  go_enter Try.func8, Try.ntmps8
  go_wp2
  go_loopw [3, 4] (fun x y wr => ∃ (i m : Nat), i ≤ n ∧ m ≤ 9223372036854775807 ∧ x = .int .i64 m ∧ y = .int .i64 i ∧ (∃ q, wr = w.drewN q) ∧ Hid (plightN m (ss.drop i) = plightN ss.length ss)) (fun _ y _ => n - (intOf y).toNat)
  case atStart => exact ⟨0, n, Nat.zero_le _, by omega, rfl, rfl, ⟨0, rfl⟩, by rw [← HN.out]; rfl⟩
  case round =>
    obtain ⟨i, m, hi, hm, rfl, rfl, ⟨q, rfl⟩, hR⟩ := hrel
    by_cases hlt : i < n
    · by_cases hm3 : m ≤ 6000
      · have hil : i < ss.length := by rw [HN.out]; exact hlt
        obtain ⟨g, off, rfl, hcc⟩ := H3.out.resolve_left (by omega)
        obtain ⟨hc, hat⟩ := hcc i hil
        clear hcc
        obtain ⟨a2, k2, f2, l2⟩ := hat.k.form
        obtain ⟨a3, k3, f3, l3⟩ := hat.v.form
        have c2 := hc 3 (by omega)
        have c3 := hc 4 (by omega)
        rw [show PStp.cell _ 3 = ss[i].kv from rfl, f2] at c2
        rw [show PStp.cell _ 4 = ss[i].vv from rfl, f3] at c3
        have HS := Lib.hid (show plightN (m + ss[i].wt) (ss.drop (i + 1)) = plightN ss.length ss from by
          have := hR.out
          rw [List.drop_eq_getElem_cons hil, plightN, if_pos hm3] at this
          exact this)
        have bl := hat.kl
        have nl := hat.vl
        have hw : ss[i].wt = ss[i].k.length + ss[i].v.length := rfl
        generalize ss[i].wt = wt at *
        generalize ss[i].k.length = lb at *
        generalize ss[i].v.length = ln at *
        subst hw
        clear hc hat f2 f3 hR
        go_wp2
        go_quiet (fail)
        go_wp2
        go_roundw
        case rel =>
          exact ⟨i + 1, m + (lb + ln), by omega, by omega, by go_num, by go_num, ⟨_, rfl⟩, HS.out⟩
        case measure => simp [intOf]; omega
      · have hR' := hR.out
        rw [plightN_ge _ _ hm3] at hR'
        have HL := Lib.hid (show plightB ss = false from by
          have := plightN_le ss.length ss
          rw [← hR'] at this
          rw [plightB, ← this]
          simpa using hm3)
        have hb : decide ((m : Int) ≤ 6000) = false := by simp; omega
        clear hR hR'
        go_wp2
        go_ret
        exact ⟨ret_bool HL.out.symm, ⟨_, rfl⟩⟩
    · have hR' := hR.out
      rw [List.drop_of_length_le (by rw [HN.out]; omega)] at hR'
      have HL := Lib.hid (show plightB ss = decide ((m : Int) ≤ 6000) from by
        have := plightN_le ss.length ss
        rw [← hR'] at this
        rw [plightB, ← this]
        exact decide_eq_decide.2 (by simp only [plightN]; omega))
      clear hR hR'
      go_wp2
      go_ret
      exact ⟨ret_bool HL.out.symm, ⟨_, rfl⟩⟩


end Go.Proofs.Ytjlomnhngngkiaa

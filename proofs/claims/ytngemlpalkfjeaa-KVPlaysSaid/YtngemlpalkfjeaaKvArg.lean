/- The argument of kv's laws: a script of steps; gleanlaw6.light. -/
import Derived.Test.YtngemlpalkfjeaaSteps
import Derived.Test.YtngemlpalkfjeaaKvH
namespace Go.Proofs.Ytngemlpalkfjeaa
open Go.Gl Go.RowKit Go.ChangeShapes Go.WideShapes Go.ChangeAt Go.Deep
set_option linter.unusedVariables false
set_option maxRecDepth 100000
structure KStp where
  what : Int
  n : Int
  kv : Value
  vv : Value
  k : List UInt8
  v : List UInt8
def KStp.cell (s : KStp) : Nat → Value
  | 0 => .int .i64 s.what
  | 1 => .int .i64 s.n
  | 2 => s.kv
  | _ => s.vv
structure KStp.At (w : World) (s : KStp) : Prop where
  k : Rd w s.kv s.k
  v : Rd w s.vv s.v
  a1 : -9223372036854775808 ≤ s.what
  a2 : s.what ≤ 9223372036854775807
  n1 : -9223372036854775808 ≤ s.n
  n2 : s.n ≤ 9223372036854775807
  kl : s.k.length ≤ 140737488355328
  vl : s.v.length ≤ 140737488355328
def RdKs (w : World) (v : Value) (ss : List KStp) : Prop :=
  (v = .slice none 0 0 ∧ ss = []) ∨ ∃ g off cap, v = .slice (some ⟨g, off, none⟩) ss.length cap ∧ ss.length ≤ cap ∧ cap ≤ maxLen ∧ g < w.heap.size ∧
    ∀ i (hi : i < ss.length), (∀ j, j < 4 → w.cell? ⟨g, off + i * 4 + j, none⟩ = some (ss[i].cell j)) ∧ ss[i].At w
theorem KStp.At.keep {w w' : World} {s : KStp} (h : s.At w) (hm : Mods noB w w') : s.At w' :=
  ⟨h.k.keep hm (fun _ _ x => x), h.v.keep hm (fun _ _ x => x), h.a1, h.a2, h.n1, h.n2, h.kl, h.vl⟩
theorem RdKs.keep {w w' : World} {v : Value} {ss : List KStp} (h : RdKs w v ss) (hm : Mods noB w w') : RdKs w' v ss := by
  rcases h with h | ⟨g, off, cap, hv, h1, h2, h3, h4⟩
  · exact .inl h
  · exact .inr ⟨g, off, cap, hv, h1, h2, hm.size_of h3, fun i hi => ⟨fun j hj => (hm.cellAt h3 (fun x => x) _).trans ((h4 i hi).1 j hj), (h4 i hi).2.keep hm⟩⟩
theorem RdKs.form {w : World} {v : Value} {ss : List KStp} (h : RdKs w v ss) : ∃ a n cap, v = .slice a n cap ∧ ss.length = n ∧ n ≤ cap ∧ cap ≤ 9223372036854775807 ∧
    (n = 0 ∨ ∃ g off, a = some ⟨g, off, none⟩ ∧ ∀ i (hi : i < ss.length), (∀ j, j < 4 → w.cell? ⟨g, off + i * 4 + j, none⟩ = some (ss[i].cell j)) ∧ ss[i].At w) := by
  rcases h with ⟨rfl, rfl⟩ | ⟨g, off, cap, hv, h1, h2, h3, h4⟩
  · exact ⟨none, 0, 0, rfl, rfl, Nat.le_refl _, by omega, .inl rfl⟩
  · exact ⟨_, _, cap, hv, rfl, h1, by simpa [maxLen] using h2, .inr ⟨g, off, rfl, h4⟩⟩
theorem ksteps_of_arg {H : Type} {enc : TypeId × Value → H} {W : World} {base : Nat} {v : Value} {d : DataW H} {p : List MemPlace} (hv : Value.okWide Try.prog W .any base 22 v) (h : DataW.Trod enc Try.prog W 0 (fun _ => true) true 22 v d p) (hw : ∀ q ∈ d.weights Try.prog 22, q ≤ reachBytes) : ∃ ss, RdKs W v ss := by
  obtain ⟨fuel, hf⟩ := h
  obtain ⟨a0, len0, cap0, rfl⟩ := okWide_slice Try.underlying22 hv
  rcases open_slice_fields Try.underlying22 Try.underlying34 (by kernel_rfl) (by kernel_rfl) hf with ⟨hcs, _⟩ | ⟨x, l, c, m, D, Pl, hcs, _, hl, hm, hmm, hd, hi⟩
  · simp [Value.cells] at hcs
    obtain ⟨rfl, rfl, rfl⟩ := hcs
    exact ⟨[], .inl ⟨rfl, rfl⟩⟩
  · simp [Value.cells] at hcs
    obtain ⟨rfl, rfl, rfl⟩ := hcs
    simp only [Value.okWide, Try.underlying22, Cell.okWide, Cell.ok] at hv
    obtain ⟨_, _, _, hsp, row, cells, hsh, _⟩ := hv
    obtain ⟨g, off, sp⟩ := x
    simp only at hsp
    subst hsp
    have hmm' : m = cap0 := by simpa using hmm
    obtain ⟨ss, hs1, hs2⟩ := list_of (p := fun i (s : KStp) => (∀ j, j < 4 → W.cell? ⟨g, off + i * 4 + j, none⟩ = some (s.cell j)) ∧ s.At W) len0 (fun i hil => by
      obtain ⟨ys, n, hD, _, _, hf⟩ := hi i (by omega)
      obtain ⟨v0, y0, c0, _, t0⟩ := hf 0 _ rfl
      obtain ⟨v1, y1, c1, _, t1⟩ := hf 1 _ rfl
      obtain ⟨v2, y2, c2, g2, t2⟩ := hf 2 _ rfl
      obtain ⟨v3, y3, c3, g3, t3⟩ := hf 3 _ rfl
      obtain ⟨z0, e0, _, w0⟩ := DataW.trod_int Try.underlying3 t0
      obtain ⟨z1, e1, _, w1⟩ := DataW.trod_int Try.underlying3 t1
      cases e0; cases e1
      obtain ⟨z3, r3, l3, b3⟩ := rdM_of_ints Try.underlying32 Try.underlying5 (by kernel_rfl) t2 (of_decide_eq_true (by kernel_rfl)) (weights_field Try.underlying22 Try.underlying34 hd hw hil hD (j := 2) rfl g2)
      obtain ⟨z4, r4, l4, b4⟩ := rdM_of_ints Try.underlying32 Try.underlying5 (by kernel_rfl) t3 (of_decide_eq_true (by kernel_rfl)) (weights_field Try.underlying22 Try.underlying34 hd hw hil hD (j := 3) rfl g3)
      have w0' := bounds_i64 w0
      have w1' := bounds_i64 w1
      have rdb : ∀ {v : Value} {zs : List Int}, RdM (fun z => Value.int .u8 z) W v zs → (∀ z ∈ zs, (Lit.int .u8 z).wf = true) → Rd W v (zs.map (fun z => UInt8.ofNat z.toNat)) := fun {v zs} r l =>
        by
          have h9 := RdM.map_of (h := fun b : UInt8 => Value.int .u8 b.toNat) (fun z => UInt8.ofNat z.toNat) (fun z hz => by have := bounds_u8 (l z hz); simp only [UInt8.toNat_ofNat']; congr 1; omega) r
          exact h9
      refine ⟨⟨z0, z1, v2, v3, z3.map (fun z => UInt8.ofNat z.toNat), z4.map (fun z => UInt8.ofNat z.toNat)⟩, fun j hj => ?_, ⟨rdb r3 l3, rdb r4 l4, w0'.1, w0'.2, w1'.1, w1'.2, by simpa using b3, by simpa using b4⟩⟩
      rw [show (⟨g, off + i * 4 + j, none⟩ : Addr) = (⟨g, off, none⟩ : Addr).add (i * 4 + j) from by rw [show (⟨g, off, none⟩ : Addr).add (i * 4 + j) = ⟨g, off + (i * 4 + j), none⟩ from Addr.add_lit .., Nat.add_assoc]]
      match j, hj with
      | 0, _ => exact c0
      | 1, _ => exact c1
      | 2, _ => exact c2
      | 3, _ => exact c3)
    subst hs1
    exact ⟨ss, .inr ⟨g, off, cap0, rfl, hl, hm, lt_of_shape hsh, hs2⟩⟩
def KStp.wt (s : KStp) : Nat := s.k.length + s.v.length
def kwts : List KStp → Nat
  | [] => 0
  | s :: ss => s.wt + kwts ss
def klightN : Nat → List KStp → Nat
  | n, [] => n
  | n, s :: ss => if n ≤ 8000 then klightN (n + s.wt) ss else n
theorem klightN_ge (n : Nat) (ss : List KStp) (h : ¬ n ≤ 8000) : klightN n ss = n := by
  cases ss <;> simp [klightN, h]
theorem klightN_le (n : Nat) (ss : List KStp) : decide (klightN n ss ≤ 8000) = decide (n + kwts ss ≤ 8000) := by
  induction ss generalizing n with
  | nil => rfl
  | cons s ss ih =>
    by_cases h : n ≤ 8000
    · rw [klightN, if_pos h, ih]
      simp only [kwts, Nat.add_assoc]
      rfl
    · rw [klightN_ge _ _ h]
      have : ¬ (n + kwts (s :: ss) ≤ 8000) := by omega
      simp [h, this]
theorem kwts_get {ss : List KStp} {i : Nat} (hi : i < ss.length) : ss[i].wt ≤ kwts ss := by
  induction ss generalizing i with
  | nil => simp at hi
  | cons s ss ih =>
    cases i with
    | zero => simp [kwts]
    | succ i =>
      have := ih (i := i) (by simpa using hi)
      simp only [List.getElem_cons_succ, kwts]
      omega
def klightB (ss : List KStp) : Bool := decide (ss.length + kwts ss ≤ 8000) && decide (ss.length ≤ 400)
set_option maxHeartbeats 1000000 in
theorem klight_any {w : World} {v : Value} {ss : List KStp} (h : RdKs w v ss) :
    Calls Try.prog 10 #[v] w fun e w' => e = .returned (.bool (klightB ss)) ∧ Quiet w w' := by
  obtain ⟨a, n, c, rfl, hn, h1, h2, h3⟩ := h.form
  have H3 := Lib.hid h3
  have HN := Lib.hid hn
  clear h h3 hn
  go_enter Try.func10, Try.ntmps10
  go_wp2
  go_loopw [3, 4] (fun x y wr => ∃ (i m : Nat), i ≤ n ∧ m ≤ 9223372036854775807 ∧ x = .int .i64 m ∧ y = .int .i64 i ∧ (∃ q, wr = w.drewN q) ∧ Hid (klightN m (ss.drop i) = klightN ss.length ss)) (fun _ y _ => n - (intOf y).toNat)
  case atStart => exact ⟨0, n, Nat.zero_le _, by omega, rfl, rfl, ⟨0, rfl⟩, by rw [← HN.out]; rfl⟩
  case round =>
    obtain ⟨i, m, hi, hm, rfl, rfl, ⟨q, rfl⟩, hR⟩ := hrel
    by_cases hlt : i < n
    · by_cases hm3 : m ≤ 8000
      · have hil : i < ss.length := by rw [HN.out]; exact hlt
        obtain ⟨g, off, rfl, hcc⟩ := H3.out.resolve_left (by omega)
        obtain ⟨hc, hat⟩ := hcc i hil
        clear hcc
        obtain ⟨a2, k2, f2, l2⟩ := hat.k.form
        obtain ⟨a3, k3, f3, l3⟩ := hat.v.form
        have c2 := hc 2 (by omega)
        have c3 := hc 3 (by omega)
        rw [show KStp.cell _ 2 = ss[i].kv from rfl, f2] at c2
        rw [show KStp.cell _ 3 = ss[i].vv from rfl, f3] at c3
        have HS := Lib.hid (show klightN (m + ss[i].wt) (ss.drop (i + 1)) = klightN ss.length ss from by
          have := hR.out
          rw [List.drop_eq_getElem_cons hil, klightN, if_pos hm3] at this
          exact this)
        have bl := hat.kl
        have nl := hat.vl
        have hw : ss[i].wt = ss[i].k.length + ss[i].v.length := rfl
        generalize ss[i].wt = wt at *
        generalize ss[i].k.length = lb at *
        generalize ss[i].v.length = ln at *
        subst hw
        clear hc hat f2 f3 hR
        go_wp2
        go_quiet (fail)
        go_wp2
        go_roundw
        case rel =>
          exact ⟨i + 1, m + (lb + ln), by omega, by omega, by go_num, by go_num, ⟨_, rfl⟩, HS.out⟩
        case measure => simp [intOf]; omega
      · have hR' := hR.out
        rw [klightN_ge _ _ hm3] at hR'
        have HL := Lib.hid (show klightB ss = false from by
          have := klightN_le ss.length ss
          rw [← hR'] at this
          rw [klightB, ← this, decide_eq_false hm3]
          rfl)
        have hb : decide ((m : Int) ≤ 8000) = false := by simp; omega
        clear hR hR'
        go_wp2
        go_ret
        exact ⟨ret_bool HL.out.symm, ⟨_, rfl⟩⟩
    · have hR' := hR.out
      rw [List.drop_of_length_le (by rw [HN.out]; omega)] at hR'
      have HL := Lib.hid (show klightB ss = (decide (m ≤ 8000) && decide (n ≤ 400)) from by
        have := klightN_le ss.length ss
        rw [← hR'] at this
        rw [klightB, ← this, HN.out]
        rfl)
      clear hR hR'
      by_cases hm3 : m ≤ 8000
      · rw [decide_eq_true hm3, Bool.true_and] at HL
        go_wp2
        go_ret
        exact ⟨ret_bool (by rw [HL.out]; exact decide_eq_decide.2 (by omega)), ⟨_, rfl⟩⟩
      · rw [decide_eq_false hm3, Bool.false_and] at HL
        go_wp2
        go_ret
        exact ⟨ret_bool HL.out.symm, ⟨_, rfl⟩⟩
end Go.Proofs.Ytngemlpalkfjeaa

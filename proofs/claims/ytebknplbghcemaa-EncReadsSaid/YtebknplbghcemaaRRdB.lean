/- gleanref4.Reader: Dec, Raw. -/
import Derived.Test.YtebknplbghcemaaRRdA
namespace Go.Proofs.Ytebknplbghcemaa
open Go.Gl Go.RowKit
set_option linter.unusedVariables false
set_option maxRecDepth 100000

def RDR (ls : List Nat) (w : World) (g : Nat) (vB : Value) (s : ESt) (r : Ending) (w' : World) : Prop := ∃ u, r = .returned (.agg #[u]) ∧ RN w' u ls ∧ RS w g vB s w' ∧ freshIn w u

theorem rDec_st {w : World} {g : Nat} {vB : Value} {s : ESt} (h : RR w g vB s.1 s.2) (hv : ∀ k, vB.ownBlock = some k → k < w.heap.size) (hll : s.1.length ≤ 10000000000) :
    Calls Try.prog 60 #[.pointer (some ⟨g, 0, none⟩)] w (RDR (natV s) w g vB (natT s)) := by
  have h0 : RR (w.alloc (.cells #[.slice none 0 0] 87)) g vB s.1 s.2 := h.keep ((Mods.refl noB w).alloc _) (fun x => x) (fun _ _ x => x)
  have hg := h.lt
  have H := Lib.hid h0
  clear h0 h
  have HV := Lib.hid hv
  clear hv
  go_enter Try.func60, Try.ntmps60
  go_wp2_with fail
  refine (rNat_st H.out hll).mono ?_
  rintro r w1 ⟨u, rfl, hr, hs, hf⟩
  have g1 := hs.mods.heap (heap_new w (.cells #[.slice none 0 0] 87)) (by omega)
  have c1 := cells_of g1
  have f1 := free_of g1
  obtain ⟨a, c, rfl, _⟩ := RdM.form hr
  have R := Lib.hid (And.intro hr (And.intro hf hs))
  clear hr hf hs g1
  go_wp2
  refine bodyPost_ret (by simp [results, Try.results60, go_sem, c1]; try rfl) rfl ?_
  obtain ⟨hr, hf, hs⟩ := R.out
  have hf' : freshIn w (Value.slice a (natV s).length c) := hf.of (by simp)
  refine ⟨_, rfl, RdM.keep hr (Mods.one w1 w.heap.size 0 _) (fun k hk e => ?_), ?_, hf'⟩
  · have := hf k hk
    simp at this
    omega
  · obtain ⟨⟨v1, k1, k2⟩, k3⟩ := RS.from ((Mods.refl noB w).alloc (.cells #[.slice none 0 0] 87)) hs
    exact ⟨⟨v1, k1.keep (Mods.one w1 w.heap.size 0 _) (by omega) (fun k hk e => by have := HV.out k (k2 k hk); omega), k2⟩, k3.setCell (.inr (Nat.le_refl _)) _⟩

/-- 4 + N bytes taken; what stands behind the fourth of them -/
theorem rtake_cut4 {w : World} {g gb off len ca N : Nat} {xs : List UInt8} (h : RR w g (.slice (some ⟨gb, off, none⟩) len ca) xs 0) (hx : xs.length = len) (hs : 4 + N ≤ len) :
    Calls Try.prog 73 #[.pointer (some ⟨g, 0, none⟩), .int .i64 ((4 + N : Nat) : Int)] w fun e w1 => ∃ (a : Addr) (c : Nat), e = .returned (.slice (some ⟨a.block, a.off, none⟩) (4 + N) c) ∧ 4 + N ≤ c ∧ c ≤ 9223372036854775807 ∧
      Rd w1 (.slice (if c = 4 then some ⟨a.block, a.off, none⟩ else some ⟨a.block, a.off + 4, none⟩) N (c - 4)) ((xs.drop 4).take N) ∧ RS w g (.slice (some ⟨gb, off, none⟩) len ca) (xs.drop (4 + N), 0) w1 := by
  subst hx
  refine (rtake_ok (4 + N) h hs).mono ?_
  rintro e w1 ⟨v, rfl, hr, _, hst⟩
  have hl : (xs.take (4 + N)).length = 4 + N := by rw [List.length_take]; omega
  rcases hr.open with ⟨_, h0⟩ | ⟨g', off', c, rfl, h1, h2, _, _⟩
  · rw [h0] at hl; simp at hl; omega
  · have hd := Rd.drop hr (n := 4) (by omega)
    rw [hl] at h1 hd ⊢
    rw [show 4 + N - 4 = N from by omega, List.drop_take, show 4 + N - 4 = N from by omega] at hd
    exact ⟨⟨g', off', none⟩, c, rfl, h1, by simpa [maxLen] using h2, hd, hst⟩

/-- bytes read by the reference's reader -/
def RBR (bs : List UInt8) (w : World) (g : Nat) (vB : Value) (s : ESt) (r : Ending) (w' : World) : Prop := ∃ u, r = .returned u ∧ Own w' u bs ∧ RS w g vB s w' ∧ freshIn w u

theorem rRaw_err {w : World} {g : Nat} {vB : Value} {xs : List UInt8} {e : Int} (most : Int) (h : RR w g vB xs e) (he : e ≠ 0) :
    Calls Try.prog 61 #[.pointer (some ⟨g, 0, none⟩), .int .i64 most] w (RBR [] w g vB (xs, e)) := by
  have c1 := cells_of h.heap 1
  have H := Lib.hid h
  have hb2 : (e != 0) = true := by simpa using he
  clear h he
  go_enter Try.func61, Try.ntmps61
  go_wp2
  go_ret
  exact ⟨_, rfl, Own.nil _, RS.refl (s := (xs, e)) H.out, freshnil _⟩

theorem rRaw_short {w : World} {g : Nat} {vB : Value} {xs : List UInt8} (most : Int) (h : RR w g vB xs 0) (hl : xs.length < 4) :
    Calls Try.prog 61 #[.pointer (some ⟨g, 0, none⟩), .int .i64 most] w (RBR [] w g vB (xs, 40)) := by
  obtain ⟨a, ca, rfl, h1⟩ := h.rd.form
  have c0 := cells_of h.heap 0
  have c1 := cells_of h.heap 1
  have f := free_of h.heap
  have H := Lib.hid (RS.fail 40 h)
  have hp : (xs.length : Int) < 4 := by omega
  generalize xs.length = len at *
  clear h h1 hl
  go_enter Try.func61, Try.ntmps61
  go_wp2
  go_ret
  exact ⟨_, rfl, Own.nil _, H.out, freshnil _⟩

theorem or_i64 (x y : Nat) (hx : x < 9223372036854775808) (hy : y < 9223372036854775808) : bits .or .i64 (x : Int) (y : Int) = ((x ||| y : Nat) : Int) := by
  unfold bits
  have e1 : (BitVec.ofInt 64 ((x : Nat) : Int)) = BitVec.ofNat 64 x := BitVec.ofInt_natCast ..
  have e2 : (BitVec.ofInt 64 ((y : Nat) : Int)) = BitVec.ofNat 64 y := BitVec.ofInt_natCast ..
  show IntKind.i64.wrap (((BitVec.ofInt 64 (x : Int)) ||| (BitVec.ofInt 64 (y : Int))).toNat : Int) = _
  rw [e1, e2, BitVec.toNat_or, BitVec.toNat_ofNat, BitVec.toNat_ofNat, Nat.mod_eq_of_lt (by omega), Nat.mod_eq_of_lt (by omega)]
  have := Nat.or_lt_two_pow (n := 63) (x := x) (y := y) hx hy
  exact IntWalk.i64_in _ (by omega)

theorem or_hi (c x s : Nat) (h : x < 2 ^ s) : (c * 2 ^ s) ||| x = c * 2 ^ s + x := by
  rw [Nat.or_comm, or_add_pow x c s h, Nat.add_comm]

theorem or4 (b0 b1 b2 b3 : Nat) (l0 : b0 < 256) (l1 : b1 < 256) (l2 : b2 < 256) (l3 : b3 < 256) :
    bits .or .i64 (bits .or .i64 (bits .or .i64 ((b0 : Int) * 16777216) ((b1 : Int) * 65536)) ((b2 : Int) * 256)) (b3 : Int) = ((b0 * 16777216 + b1 * 65536 + b2 * 256 + b3 : Nat) : Int) := by
  have e0 : ((b0 : Int) * 16777216) = ((b0 * 16777216 : Nat) : Int) := by simp
  have e1 : ((b1 : Int) * 65536) = ((b1 * 65536 : Nat) : Int) := by simp
  have e2 : ((b2 : Int) * 256) = ((b2 * 256 : Nat) : Int) := by simp
  rw [e0, e1, e2, or_i64 _ _ (by omega) (by omega)]
  have h1 : (b0 * 16777216) ||| (b1 * 65536) = b0 * 16777216 + b1 * 65536 := or_hi b0 (b1 * 65536) 24 (by omega)
  rw [h1, or_i64 _ _ (by omega) (by omega)]
  have h2 : (b0 * 16777216 + b1 * 65536) ||| (b2 * 256) = b0 * 16777216 + b1 * 65536 + b2 * 256 := by
    have := or_hi (b0 * 256 + b1) (b2 * 256) 16 (by omega)
    rw [show (b0 * 256 + b1) * 2 ^ 16 = b0 * 16777216 + b1 * 65536 from by omega] at this
    exact this
  rw [h2, or_i64 _ _ (by omega) (by omega)]
  have h3 : (b0 * 16777216 + b1 * 65536 + b2 * 256) ||| b3 = b0 * 16777216 + b1 * 65536 + b2 * 256 + b3 := by
    have := or_hi (b0 * 65536 + b1 * 256 + b2) b3 8 (by omega)
    rw [show (b0 * 65536 + b1 * 256 + b2) * 2 ^ 8 = b0 * 16777216 + b1 * 65536 + b2 * 256 from by omega] at this
    exact this
  rw [h3]

theorem num4 {xs : List UInt8} (h : 4 ≤ xs.length) : evl 4 (xs, 0) = (xs[0]'(by omega)).toNat * 16777216 + (xs[1]'(by omega)).toNat * 65536 + (xs[2]'(by omega)).toNat * 256 + (xs[3]'(by omega)).toNat := by
  match xs, h with
  | a :: b :: c :: d :: rest, _ =>
    simp only [evl, rtake, if_true, List.length_cons, show 4 ≤ rest.length + 1 + 1 + 1 + 1 from by omega, List.take_succ_cons, List.take_zero, num, List.foldl_cons, List.foldl_nil, List.getElem_cons_zero, List.getElem_cons_succ]
    omega

set_option maxHeartbeats 1000000 in
theorem rRaw_long {w : World} {g gb off len ca b0 b1 b2 b3 N : Nat} {xs : List UInt8} (most : Int) (h : RR w g (.slice (some ⟨gb, off, none⟩) len ca) xs 0) (hx : xs.length = len) (hl : 4 ≤ len) (hll : len ≤ 10000000000) (l0 : b0 < 256) (l1 : b1 < 256) (l2 : b2 < 256) (l3 : b3 < 256)
    (d0 : w.cell? ⟨gb, off, none⟩ = some (.int .u8 b0)) (d1 : w.cell? ⟨gb, off + 1, none⟩ = some (.int .u8 b1)) (d2 : w.cell? ⟨gb, off + 2, none⟩ = some (.int .u8 b2)) (d3 : w.cell? ⟨gb, off + 3, none⟩ = some (.int .u8 b3))
    (hN : b0 * 16777216 + b1 * 65536 + b2 * 256 + b3 = N) (hm : most < (N : Int)) :
    Calls Try.prog 61 #[.pointer (some ⟨g, 0, none⟩), .int .i64 most] w (RBR [] w g (.slice (some ⟨gb, off, none⟩) len ca) (xs, 42)) := by
  have c0 := cells_of h.heap 0
  have c1 := cells_of h.heap 1
  have f := free_of h.heap
  have H := Lib.hid h
  have HX := Lib.hid hx
  have g1 : (0 : Int) < (len : Int) := by omega
  have g2 : (1 : Int) < (len : Int) := by omega
  have g3 : (2 : Int) < (len : Int) := by omega
  have g4 : (3 : Int) < (len : Int) := by omega
  have ho := or4 b0 b1 b2 b3 l0 l1 l2 l3
  rw [hN] at ho
  have HO := Lib.hid ho
  have HN := Lib.hid hN
  have hNl : N < 4294967296 := by omega
  clear h ho hx
  clear hN
  go_enter Try.func61, Try.ntmps61
  go_wp2
  go_quiet (fail)
  simp only [HO.out]
  go_wp2
  go_ret
  exact ⟨_, rfl, Own.nil _, RS.failq 42 _ H.out, freshnil _⟩

set_option maxHeartbeats 1000000 in
theorem rRaw_cut {w : World} {g gb off len ca b0 b1 b2 b3 N : Nat} {xs : List UInt8} (most : Int) (h : RR w g (.slice (some ⟨gb, off, none⟩) len ca) xs 0) (hx : xs.length = len) (hl : 4 ≤ len) (hll : len ≤ 10000000000) (l0 : b0 < 256) (l1 : b1 < 256) (l2 : b2 < 256) (l3 : b3 < 256)
    (d0 : w.cell? ⟨gb, off, none⟩ = some (.int .u8 b0)) (d1 : w.cell? ⟨gb, off + 1, none⟩ = some (.int .u8 b1)) (d2 : w.cell? ⟨gb, off + 2, none⟩ = some (.int .u8 b2)) (d3 : w.cell? ⟨gb, off + 3, none⟩ = some (.int .u8 b3))
    (hN : b0 * 16777216 + b1 * 65536 + b2 * 256 + b3 = N) (hm : ¬ most < (N : Int)) (hs : len < 4 + N) :
    Calls Try.prog 61 #[.pointer (some ⟨g, 0, none⟩), .int .i64 most] w (RBR [] w g (.slice (some ⟨gb, off, none⟩) len ca) (xs, 40)) := by
  have c0 := cells_of h.heap 0
  have c1 := cells_of h.heap 1
  have f := free_of h.heap
  have H := Lib.hid h
  have HX := Lib.hid hx
  have g1 : (0 : Int) < (len : Int) := by omega
  have g2 : (1 : Int) < (len : Int) := by omega
  have g3 : (2 : Int) < (len : Int) := by omega
  have g4 : (3 : Int) < (len : Int) := by omega
  have ho := or4 b0 b1 b2 b3 l0 l1 l2 l3
  rw [hN] at ho
  have HO := Lib.hid ho
  have HN := Lib.hid hN
  have hNl : N < 4294967296 := by omega
  clear h ho hx
  have hs2 : (len : Int) < 4 + (N : Int) := by omega
  clear hN hs
  go_enter Try.func61, Try.ntmps61
  go_wp2
  go_quiet (fail)
  simp only [HO.out]
  go_wp2
  go_ret
  exact ⟨_, rfl, Own.nil _, RS.failq 40 _ H.out, freshnil _⟩

set_option maxHeartbeats 1000000 in
theorem rRaw_ok {w : World} {g gb off len ca b0 b1 b2 b3 N : Nat} {xs : List UInt8} (most : Int) (h : RR w g (.slice (some ⟨gb, off, none⟩) len ca) xs 0) (hx : xs.length = len) (hl : 4 ≤ len) (hll : len ≤ 10000000000) (l0 : b0 < 256) (l1 : b1 < 256) (l2 : b2 < 256) (l3 : b3 < 256)
    (d0 : w.cell? ⟨gb, off, none⟩ = some (.int .u8 b0)) (d1 : w.cell? ⟨gb, off + 1, none⟩ = some (.int .u8 b1)) (d2 : w.cell? ⟨gb, off + 2, none⟩ = some (.int .u8 b2)) (d3 : w.cell? ⟨gb, off + 3, none⟩ = some (.int .u8 b3))
    (hN : b0 * 16777216 + b1 * 65536 + b2 * 256 + b3 = N) (hm : ¬ most < (N : Int)) (hs : 4 + N ≤ len) :
    Calls Try.prog 61 #[.pointer (some ⟨g, 0, none⟩), .int .i64 most] w (RBR ((xs.drop 4).take N) w g (.slice (some ⟨gb, off, none⟩) len ca) (xs.drop (4 + N), 0)) := by
  have c0 := cells_of h.heap 0
  have c1 := cells_of h.heap 1
  have f := free_of h.heap
  have H := Lib.hid h
  have HX := Lib.hid hx
  have g1 : (0 : Int) < (len : Int) := by omega
  have g2 : (1 : Int) < (len : Int) := by omega
  have g3 : (2 : Int) < (len : Int) := by omega
  have g4 : (3 : Int) < (len : Int) := by omega
  have ho := or4 b0 b1 b2 b3 l0 l1 l2 l3
  rw [hN] at ho
  have HO := Lib.hid ho
  have HN := Lib.hid hN
  have hNl : N < 4294967296 := by omega
  clear h ho hx
  have hs2 : ¬ (len : Int) < 4 + (N : Int) := by omega
  have HT := Lib.hid (fun (q : Nat) => rtake_cut4 (N := N) (H.out.keep ((Mods.refl noB w).drewN q) (fun x => x) (fun _ _ x => x)) HX.out hs)
  have hk : (4 : Int) + (N : Int) = ((4 + N : Nat) : Int) := by omega
  have HK := Lib.hid hk
  clear hN hs hk
  go_enter Try.func61, Try.ntmps61
  go_wp2
  go_quiet (fail)
  simp only [HO.out]
  go_wp2_with fail
  rw [HK.out]
  refine (HT.out _).mono ?_
  rintro r w1 ⟨a, c, rfl, h1, h2, h3, h4⟩
  have R4 := Lib.hid (RS.from ((Mods.refl noB w).drewN _) h4)
  have R3 := Lib.hid h3
  have hln : Hid (((xs.drop 4).take N).length ≤ 4294967296) := Lib.hid (by rw [List.length_take]; omega)
  clear h3 h4 HT
  by_cases hc1 : c = 4
  · rw [if_pos hc1] at R3
    subst hc1
    obtain rfl : N = 0 := by omega
    go_wp2_with (at_builtin; refine stop ?_)
    unfold Stop
    refine wpList_apb rfl rfl [] _ (Own.nil _) R3.out rfl rfl (by have := hln.out; first | (simp; done) | (simp; omega)) ?_
    intro v' w' k1 k2 k3
    have hm0 : Mods noB w1 w' := k2.mono (fun i _ x => (ofV_nil x).elim)
    have R6 := Lib.hid (And.intro k1 (And.intro (R4.out.then0 hm0) (nilfresh (w' := w') rfl k3)))
    have hsz := Lib.hid (R4.out.mods.size)
    clear k1 k2 k3 hm0
    go_wp2
    go_ret
    exact ⟨_, rfl, R6.out.1, R6.out.2.1, R6.out.2.2.of hsz.out⟩
  · rw [if_neg hc1] at R3
    have hc2 : 4 < c := by omega
    clear hc1
    go_wp2_with (at_builtin; refine stop ?_)
    unfold Stop
    refine wpList_apb rfl rfl [] _ (Own.nil _) R3.out rfl rfl (by have := hln.out; first | (simp; done) | (simp; omega)) ?_
    intro v' w' k1 k2 k3
    have hm0 : Mods noB w1 w' := k2.mono (fun i _ x => (ofV_nil x).elim)
    have R6 := Lib.hid (And.intro k1 (And.intro (R4.out.then0 hm0) (nilfresh (w' := w') rfl k3)))
    have hsz := Lib.hid (R4.out.mods.size)
    clear k1 k2 k3 hm0
    go_wp2
    go_ret
    exact ⟨_, rfl, R6.out.1, R6.out.2.1, R6.out.2.2.of hsz.out⟩

theorem rRaw_st {w : World} {g : Nat} {vB : Value} {s : ESt} (most : Int) (h : RR w g vB s.1 s.2) (hll : s.1.length ≤ 10000000000) :
    Calls Try.prog 61 #[.pointer (some ⟨g, 0, none⟩), .int .i64 most] w (RBR (rawV most s) w g vB (rawT most s)) := by
  obtain ⟨xs, e⟩ := s
  simp only at h hll
  unfold rawV rawT bbody
  simp only
  by_cases he : e = 0
  · subst he
    by_cases hl : 4 ≤ xs.length
    · obtain ⟨gb, off, ca, rfl, h1, h2, h3, h4⟩ := h.first (by omega)
      have d0 := h4 0 (by omega)
      have d1 := h4 1 (by omega)
      have d2 := h4 2 (by omega)
      have d3 := h4 3 (by omega)
      have hx := num4 hl
      have l0 := (xs[0]'(by omega)).toNat_lt
      have l1 := (xs[1]'(by omega)).toNat_lt
      have l2 := (xs[2]'(by omega)).toNat_lt
      have l3 := (xs[3]'(by omega)).toNat_lt
      rw [Nat.add_zero] at d0
      generalize evl 4 (xs, 0) = N at *
      by_cases hm : ((N : Nat) : Int) ≤ most
      · by_cases hs : 4 + N ≤ xs.length
        · rw [if_pos ⟨rfl, hl, hm, hs⟩, if_pos rfl, if_pos hl, if_pos hm, if_pos hs]
          exact rRaw_ok most h rfl hl hll (by omega) (by omega) (by omega) (by omega) d0 d1 d2 d3 hx.symm (by omega) hs
        · rw [if_neg (fun x => hs x.2.2.2), if_pos rfl, if_pos hl, if_pos hm, if_neg hs]
          exact rRaw_cut most h rfl hl hll (by omega) (by omega) (by omega) (by omega) d0 d1 d2 d3 hx.symm (by omega) (by omega)
      · rw [if_neg (fun x => hm x.2.2.1), if_pos rfl, if_pos hl, if_neg hm]
        exact rRaw_long most h rfl hl hll (by omega) (by omega) (by omega) (by omega) d0 d1 d2 d3 hx.symm (by omega)
    · rw [if_neg (fun x => hl x.2.1), if_pos rfl, if_neg hl]
      exact rRaw_short most h (by omega)
  · rw [if_neg (fun x => he x.1), if_neg he]
    exact rRaw_err most h he

end Go.Proofs.Ytebknplbghcemaa

/- gleanref4.Reader: Nat, Dec. -/
import Derived.Test.YtebknplbghcemaaRRdN
namespace Go.Proofs.Ytebknplbghcemaa
open Go.Gl Go.RowKit
set_option linter.unusedVariables false
set_option maxRecDepth 100000

theorem RS.then0 {w w1 w2 : World} {g : Nat} {vB : Value} {s : ESt} (h : RS w g vB s w1) (hm : Mods noB w1 w2) : RS w g vB s w2 := by
  obtain ⟨⟨v, h1, h2⟩, h3⟩ := h
  exact ⟨⟨v, h1.keep hm (fun x => x) (fun _ _ x => x), h2⟩, h3.then0 hm⟩

theorem RS.from {w w1 w2 : World} {g : Nat} {vB : Value} {s : ESt} (hm : Mods noB w w1) (h : RS w1 g vB s w2) : RS w g vB s w2 :=
  ⟨h.st, hm.trans h.mods (fun _ _ x => x.elim) (fun _ _ x => x)⟩
theorem RS.failq {w : World} {g : Nat} {vB : Value} {xs : List UInt8} {e : Int} (n : Int) (q : Nat) (h : RR w g vB xs e) : RS w g vB (xs, n) ((w.drewN q).setCell ⟨g, 1, none⟩ (.int .i64 n)) :=
  RS.from ((Mods.refl noB w).drewN q) (RS.fail n (h.keep ((Mods.refl noB w).drewN q) (fun x => x) (fun _ _ x => x)))

/-- a number read by the reference's reader -/
def RNR (ls : List Nat) (w : World) (g : Nat) (vB : Value) (s : ESt) (r : Ending) (w' : World) : Prop := ∃ u, r = .returned u ∧ RN w' u ls ∧ RS w g vB s w' ∧ freshIn w u

theorem freshnil (w : World) : freshIn w (.slice none 0 0) := fun k hk => by simp [Value.ownBlock] at hk

theorem rNat_err {w : World} {g : Nat} {vB : Value} {xs : List UInt8} {e : Int} (h : RR w g vB xs e) (he : e ≠ 0) :
    Calls Try.prog 58 #[.pointer (some ⟨g, 0, none⟩)] w (RNR [] w g vB (xs, e)) := by
  have c0 := cells_of h.heap 0
  have c1 := cells_of h.heap 1
  have H := Lib.hid h
  have hb : (e == 0) = false := by simpa using he
  have hb2 : (e != 0) = true := by simpa using he
  clear h he
  go_enter Try.func58, Try.ntmps58
  go_wp2
  go_quiet (fail)
  go_wp2
  go_ret
  exact ⟨_, rfl, RdM.nil _ _, (RS.refl (s := (xs, e)) H.out).then0 ((Mods.refl _ _).drewN _), freshnil _⟩

theorem rNat_none {w : World} {g : Nat} {vB : Value} (h : RR w g vB [] 0) :
    Calls Try.prog 58 #[.pointer (some ⟨g, 0, none⟩)] w (RNR [] w g vB ([], 40)) := by
  obtain ⟨a, ca, rfl, h1⟩ := h.rd.form
  have c0 := cells_of h.heap 0
  have c1 := cells_of h.heap 1
  have f := free_of h.heap
  have H := Lib.hid h
  simp only [List.length_nil] at *
  clear h h1
  go_enter Try.func58, Try.ntmps58
  go_wp2
  go_quiet (fail)
  go_wp2
  go_ret
  exact ⟨_, rfl, RdM.nil _ _, RS.failq 40 _ H.out, freshnil _⟩

theorem rNat_short {w : World} {g gb off len ca b : Nat} {xs : List UInt8} (h : RR w g (.slice (some ⟨gb, off, none⟩) len ca) xs 0) (hlen : 0 < len) (hm : len ≤ 10000000000) (hb8 : b < 256) (hs : len < 1 + b) (c2 : w.cell? ⟨gb, off, none⟩ = some (.int .u8 b)) :
    Calls Try.prog 58 #[.pointer (some ⟨g, 0, none⟩)] w (RNR [] w g (.slice (some ⟨gb, off, none⟩) len ca) (xs, 40)) := by
  have c0 := cells_of h.heap 0
  have c1 := cells_of h.heap 1
  have f := free_of h.heap
  have H := Lib.hid h
  have g1 : ((len : Int) == 0) = false := by simp; omega
  have g2 : decide ((len : Int) < 1 + (b : Int)) = true := by simp; omega
  have g3 : (0 : Int) < (len : Int) := by omega
  have s1 : IntKind.i64.wrap (1 + (b : Int)) = 1 + (b : Int) := IntWalk.i64_in _ (by omega)
  have s2 : IntKind.i64.wrap (b : Int) = (b : Int) := IntWalk.i64_in _ (by omega)
  clear h
  go_enter Try.func58, Try.ntmps58
  go_wp2
  go_quiet (fail)
  go_wp2
  go_ret
  exact ⟨_, rfl, RdM.nil _ _, RS.failq 40 _ H.out, freshnil _⟩

theorem rNat_form {w : World} {g gb off len ca b : Nat} {xs : List UInt8} (h : RR w g (.slice (some ⟨gb, off, none⟩) len ca) xs 0) (hlen : 1 < len) (hm : len ≤ 10000000000) (hb8 : b < 256) (hb0 : 0 < b) (hs : 1 + b ≤ len) (c2 : w.cell? ⟨gb, off, none⟩ = some (.int .u8 b)) (c3 : w.cell? ⟨gb, off + 1, none⟩ = some (.int .u8 0)) :
    Calls Try.prog 58 #[.pointer (some ⟨g, 0, none⟩)] w (RNR [] w g (.slice (some ⟨gb, off, none⟩) len ca) (xs, 41)) := by
  have c0 := cells_of h.heap 0
  have c1 := cells_of h.heap 1
  have f := free_of h.heap
  have H := Lib.hid h
  have g1 : ((len : Int) == 0) = false := by simp; omega
  have g2 : decide ((len : Int) < 1 + (b : Int)) = false := by simp; omega
  have g3 : (0 : Int) < (len : Int) := by omega
  have g4 : (1 : Int) < (len : Int) := by omega
  have g5 : (0 : Int) < (b : Int) := by omega
  have s1 : IntKind.i64.wrap (1 + (b : Int)) = 1 + (b : Int) := IntWalk.i64_in _ (by omega)
  have s2 : IntKind.i64.wrap (b : Int) = (b : Int) := IntWalk.i64_in _ (by omega)
  clear h
  go_enter Try.func58, Try.ntmps58
  go_wp2
  go_quiet (fail)
  go_wp2
  go_ret
  exact ⟨_, rfl, RdM.nil _ _, RS.failq 41 _ H.out, freshnil _⟩

/-- 1 + b bytes taken; what stands behind the first of them -/
theorem rtake_cut {w : World} {g gb off len ca b : Nat} {xs : List UInt8} (h : RR w g (.slice (some ⟨gb, off, none⟩) len ca) xs 0) (hx : xs.length = len) (hs : 1 + b ≤ len) :
    Calls Try.prog 73 #[.pointer (some ⟨g, 0, none⟩), .int .i64 ((1 + b : Nat) : Int)] w fun e w1 => ∃ (a : Addr) (c : Nat), e = .returned (.slice (some ⟨a.block, a.off, none⟩) (1 + b) c) ∧ 1 + b ≤ c ∧ c ≤ 9223372036854775807 ∧
      Rd w1 (.slice (if c = 1 then some ⟨a.block, a.off, none⟩ else some ⟨a.block, a.off + 1, none⟩) b (c - 1)) ((xs.drop 1).take b) ∧ RS w g (.slice (some ⟨gb, off, none⟩) len ca) (xs.drop (1 + b), 0) w1 := by
  subst hx
  refine (rtake_ok (1 + b) h hs).mono ?_
  rintro e w1 ⟨v, rfl, hr, _, hst⟩
  have hl : (xs.take (1 + b)).length = 1 + b := by rw [List.length_take]; omega
  rcases hr.open with ⟨_, h0⟩ | ⟨g', off', c, rfl, h1, h2, _, _⟩
  · rw [h0] at hl; simp at hl; omega
  · have hd := Rd.drop hr (n := 1) (by omega)
    rw [hl] at h1 hd ⊢
    rw [show 1 + b - 1 = b from by omega, List.drop_take, show 1 + b - 1 = b from by omega] at hd
    exact ⟨⟨g', off', none⟩, c, rfl, h1, by simpa [maxLen] using h2, hd, hst⟩

set_option maxHeartbeats 1000000 in
theorem rNat_zero {w : World} {g gb off len ca : Nat} {xs : List UInt8} (h : RR w g (.slice (some ⟨gb, off, none⟩) len ca) xs 0) (hx : xs.length = len) (hlen : 0 < len) (hm : len ≤ 10000000000) (c2 : w.cell? ⟨gb, off, none⟩ = some (.int .u8 0)) :
    Calls Try.prog 58 #[.pointer (some ⟨g, 0, none⟩)] w (RNR [] w g (.slice (some ⟨gb, off, none⟩) len ca) (xs.drop 1, 0)) := by
  have c0 := cells_of h.heap 0
  have c1 := cells_of h.heap 1
  have f := free_of h.heap
  have HT := Lib.hid (fun (q : Nat) => show Calls Try.prog 73 #[.pointer (some ⟨g, 0, none⟩), .int .i64 1] (w.drewN q) _ from rtake_cut (b := 0) (h.keep ((Mods.refl noB w).drewN q) (fun x => x) (fun _ _ x => x)) hx (by omega))
  have g1 : ((len : Int) == 0) = false := by simp; omega
  have g2 : decide ((len : Int) < 1 + 0) = false := by simp; omega
  have g3 : (0 : Int) < (len : Int) := by omega
  have s1 : IntKind.i64.wrap (1 + 0) = 1 + 0 := IntWalk.i64_in _ (by omega)
  have s2 : IntKind.i64.wrap 0 = 0 := IntWalk.i64_in _ (by omega)
  clear h hx
  go_enter Try.func58, Try.ntmps58
  go_wp2
  go_quiet (fail)
  clear g2 s1 s2
  go_wp2_with fail
  refine (HT.out _).mono ?_
  rintro r w1 ⟨a, c, rfl, h1, h2, h3, h4⟩
  have R4 := Lib.hid (RS.from ((Mods.refl noB w).drewN _) h4)
  have R3 := Lib.hid h3
  clear h3 h4 HT
  by_cases hc1 : c = 1
  · rw [if_pos hc1] at R3
    subst hc1
    go_wp2_with fail
    refine (rFrom_any R3.out (by simp)).mono ?_
    rintro r w2 (⟨h5, _⟩ | ⟨_, u, rfl, h6, h7, h8⟩)
    · exact absurd h5 (by simp)
    have R6 := Lib.hid (And.intro h6 (And.intro (R4.out.then0 h7) h8))
    have hsz := Lib.hid (R4.out.mods.size)
    clear h6 h7 h8
    go_wp2
    go_ret
    exact ⟨u, rfl, R6.out.1, R6.out.2.1, R6.out.2.2.of hsz.out⟩
  · rw [if_neg hc1] at R3
    have hc2 : 1 < c := by omega
    clear hc1
    go_wp2_with fail
    refine (rFrom_any R3.out (by rw [List.length_take]; omega)).mono ?_
    rintro r w2 (⟨h5, _⟩ | ⟨_, u, rfl, h6, h7, h8⟩)
    · exact absurd h5 (by simp)
    have R6 := Lib.hid (And.intro h6 (And.intro (R4.out.then0 h7) h8))
    have hsz := Lib.hid (R4.out.mods.size)
    clear h6 h7 h8
    go_wp2
    go_ret
    exact ⟨u, rfl, R6.out.1, R6.out.2.1, R6.out.2.2.of hsz.out⟩

set_option maxHeartbeats 1000000 in
theorem rNat_many {w : World} {g gb off len ca b : Nat} {xs : List UInt8} (h : RR w g (.slice (some ⟨gb, off, none⟩) len ca) xs 0) (hx : xs.length = len) (hlen : 0 < len) (hm : len ≤ 10000000000) (hb8 : b < 256) (hs : 1 + b ≤ len) (c2 : w.cell? ⟨gb, off, none⟩ = some (.int .u8 b)) {b1 : Nat} (hb0 : 0 < b) (c3 : w.cell? ⟨gb, off + 1, none⟩ = some (.int .u8 b1)) (hb1 : b1 ≠ 0) (hn : ((xs.drop 1).take b)[0]? ≠ some 0) :
    Calls Try.prog 58 #[.pointer (some ⟨g, 0, none⟩)] w (RNR (dig 18446744073709551616 (num ((xs.drop 1).take b))) w g (.slice (some ⟨gb, off, none⟩) len ca) (xs.drop (1 + b), 0)) := by
  have c0 := cells_of h.heap 0
  have c1 := cells_of h.heap 1
  have f := free_of h.heap
  have HT := Lib.hid (fun (q : Nat) => rtake_cut (h.keep ((Mods.refl noB w).drewN q) (fun x => x) (fun _ _ x => x)) hx hs)
  have HN := Lib.hid hn
  have g1 : ((len : Int) == 0) = false := by simp; omega
  have g2 : decide ((len : Int) < 1 + (b : Int)) = false := by simp; omega
  have g3 : (0 : Int) < (len : Int) := by omega
  have g4 : (1 : Int) < (len : Int) := by omega
  have g5 : (0 : Int) < (b : Int) := by omega
  have g6 : ((b1 : Int) == 0) = false := by simp; omega
  have s1 : IntKind.i64.wrap (1 + (b : Int)) = 1 + (b : Int) := IntWalk.i64_in _ (by omega)
  have s2 : IntKind.i64.wrap (b : Int) = (b : Int) := IntWalk.i64_in _ (by omega)
  have hk : (1 : Int) + (b : Int) = ((1 + b : Nat) : Int) := by omega
  have HK := Lib.hid hk
  clear h hn hk hx
  go_enter Try.func58, Try.ntmps58
  go_wp2
  go_quiet (fail)
  clear g2 s1 s2
  go_wp2_with fail
  rw [HK.out]
  refine (HT.out _).mono ?_
  rintro r w1 ⟨a, c, rfl, h1, h2, h3, h4⟩
  have R4 := Lib.hid (RS.from ((Mods.refl noB w).drewN _) h4)
  have R3 := Lib.hid h3
  clear h3 h4 HT
  by_cases hc1 : c = 1
  · rw [if_pos hc1] at R3
    subst hc1
    obtain rfl : b = 0 := by omega
    go_wp2_with fail
    refine (rFrom_any R3.out (by simp)).mono ?_
    rintro r w2 (⟨h5, _⟩ | ⟨_, u, rfl, h6, h7, h8⟩)
    · exact absurd h5 (by simp)
    have R6 := Lib.hid (And.intro h6 (And.intro (R4.out.then0 h7) h8))
    have hsz := Lib.hid (R4.out.mods.size)
    clear h6 h7 h8
    go_wp2
    go_ret
    exact ⟨u, rfl, R6.out.1, R6.out.2.1, R6.out.2.2.of hsz.out⟩
  · rw [if_neg hc1] at R3
    have hc2 : 1 < c := by omega
    clear hc1
    go_wp2_with fail
    refine (rFrom_any R3.out (by rw [List.length_take]; omega)).mono ?_
    rintro r w2 (⟨h5, _⟩ | ⟨_, u, rfl, h6, h7, h8⟩)
    · exact absurd h5 HN.out
    have R6 := Lib.hid (And.intro h6 (And.intro (R4.out.then0 h7) h8))
    have hsz := Lib.hid (R4.out.mods.size)
    clear h6 h7 h8
    go_wp2
    go_ret
    exact ⟨u, rfl, R6.out.1, R6.out.2.1, R6.out.2.2.of hsz.out⟩

theorem nat_at {xs : List UInt8} {b : Nat} (h0 : 0 < b) (hl : 1 < xs.length) : ((xs.drop 1).take b)[0]? = some xs[1] := by
  rw [List.getElem?_take_of_lt h0, List.getElem?_drop, List.getElem?_eq_getElem (by omega)]

theorem rNat_st {w : World} {g : Nat} {vB : Value} {s : ESt} (h : RR w g vB s.1 s.2) (hll : s.1.length ≤ 10000000000) :
    Calls Try.prog 58 #[.pointer (some ⟨g, 0, none⟩)] w (RNR (natV s) w g vB (natT s)) := by
  obtain ⟨xs, e⟩ := s
  simp only at h hll
  unfold natV natT nbody
  simp only
  by_cases he : e = 0
  · subst he
    by_cases hl : 1 ≤ xs.length
    · obtain ⟨gb, off, ca, rfl, h1, h2, h3, h4⟩ := h.first hl
      have c0 := h4 0 (by omega)
      have hx := evl_first hl
      have hb8 := (xs[0]'(by omega)).toNat_lt
      rw [hx]
      generalize (xs[0]'(by omega)).toNat = b at *
      rw [Nat.add_zero] at c0
      by_cases hs : 1 + b ≤ xs.length
      · rcases Nat.eq_zero_or_pos b with rfl | hb
        · rw [if_pos ⟨rfl, hl, hs, by simp⟩, if_pos rfl, if_pos ⟨hl, hs⟩, if_neg (by simp)]
          exact rNat_zero h rfl (by omega) hll c0
        · have hat := nat_at hb (show 1 < xs.length by omega)
          have c1 := h4 1 (by omega)
          by_cases hz : xs[1] = 0
          · rw [hat, hz, if_neg (fun x => x.2.2.2 rfl), if_pos rfl, if_pos ⟨hl, hs⟩, if_pos rfl]
            rw [hz] at c1
            exact rNat_form h (by omega) hll (by omega) hb hs c0 c1
          · have hn : ((xs.drop 1).take b)[0]? ≠ some 0 := by rw [hat]; simpa using hz
            rw [if_pos ⟨rfl, hl, hs, hn⟩, if_pos rfl, if_pos ⟨hl, hs⟩, if_neg hn]
            exact rNat_many h rfl (by omega) hll (by omega) hs c0 hb c1 (fun e => hz (UInt8.toNat_inj.1 (by simpa using e))) hn
      · rw [if_neg (fun x => hs x.2.2.1), if_pos rfl, if_neg (fun x => hs x.2)]
        exact rNat_short h (by omega) hll (by omega) (by omega) c0
    · obtain rfl : xs = [] := List.eq_nil_of_length_eq_zero (by omega)
      rw [if_neg (fun x => hl x.2.1), if_pos rfl, if_neg (fun x => hl x.1)]
      exact rNat_none h
  · rw [if_neg (fun x => he x.1), if_neg he]
    exact rNat_err h he

end Go.Proofs.Ytebknplbghcemaa

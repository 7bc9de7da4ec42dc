/- Items as bytes: what is read back, and that both ways of Decode are one. No walk. -/
import Derived.Test.YtebknplbghcemaaMRDec
namespace Go.Proofs.Ytebknplbghcemaa
open Go.Gl Go.RowKit
set_option linter.unusedVariables false

theorem stp_inv (n : Nat) (s : RSt) (h : (stp n s).2 = 0) : s.2 = 0 ∧ s.1 = be n (val n s) ++ (stp n s).1 := by
  obtain ⟨xs, e⟩ := s
  simp only [stp, rerr] at h
  by_cases he : e = 0
  · subst he
    by_cases hn : n ≤ xs.length
    · refine ⟨rfl, ?_⟩
      simp only [val, stp, rtake, rleft, hn, if_true]
      have hl : (xs.take n).length = n := by rw [List.length_take]; omega
      have := be_num (xs.take n)
      rw [hl] at this
      rw [this, List.take_append_drop]
    · simp [hn] at h
  · rw [if_neg he] at h
    exact absurd h he

theorem stp_be (n x : Nat) (t : List UInt8) (hx : x < 256 ^ n) : stp n (be n x ++ t, 0) = (t, 0) ∧ val n (be n x ++ t, 0) = x := by
  have hl := be_length n x
  have h1 : n ≤ (be n x ++ t).length := by rw [List.length_append, hl]; omega
  simp only [stp, val, rleft, rerr, rtake, h1, if_true]
  rw [List.drop_append_of_le_length (by omega), List.take_append_of_le_length (by omega)]
  have h2 : (be n x).drop n = [] := List.drop_eq_nil_of_le (by omega)
  have h3 : (be n x).take n = be n x := List.take_of_length_le (by omega)
  rw [h2, h3, num_be, Nat.mod_eq_of_lt hx]
  exact ⟨rfl, rfl⟩

def bIf (b : Bool) (x : Nat) : List UInt8 := if b then be 8 x else []

theorem stpIf_inv (b : Bool) (s : RSt) (h : (stpIf b s).2 = 0) : s.2 = 0 ∧ s.1 = bIf b (valIf b s) ++ (stpIf b s).1 := by
  cases b
  · exact ⟨h, rfl⟩
  · exact stp_inv 8 s h

theorem lt64 {x : Nat} (h : x ≤ 18446744073709551615) : x < 256 ^ 8 := by
  have e : (256 : Nat) ^ 8 = 18446744073709551616 := by decide
  omega

theorem stpIf_be (b : Bool) (x : Nat) (t : List UInt8) (hx : x ≤ 18446744073709551615) (hb : b = false → x = 0) : stpIf b (bIf b x ++ t, 0) = (t, 0) ∧ valIf b (bIf b x ++ t, 0) = x := by
  cases b
  · exact ⟨rfl, (hb rfl).symm⟩
  · exact stp_be 8 x t (lt64 hx)

theorem endE_zero (s : RSt) : endE s = 0 ↔ s = ([], 0) := by
  obtain ⟨xs, e⟩ := s
  unfold endE
  by_cases he : e = 0
  · subst he
    by_cases hl : xs.length = 0
    · rw [List.eq_nil_of_length_eq_zero hl]
      simp
    · have : xs ≠ [] := fun h => hl (by rw [h]; rfl)
      simp [this]
  · simp [he]

theorem bytesT_eq (i : Itm) (t : List UInt8) : i.bytesT ++ t = be 1 84 ++ (be 8 i.s ++ (be 8 i.q ++ (be 8 i.f ++ (be 1 i.m.toNat ++ (bIf (usA i.m) i.a ++ (bIf (usB i.m) i.b ++ (bIf (usN i.m) i.n ++ t))))))) := by
  simp [Itm.bytesT, bIf]
theorem bytesF_eq (i : Itm) (t : List UInt8) : i.bytesF ++ t = be 1 70 ++ (be 1 i.fk.toNat ++ (be 8 i.fv ++ (be 8 i.fh ++ t))) := by
  simp [Itm.bytesF]

theorem readT (i : Itm) (t : List UInt8) (hk : i.kind = 1) (hm : i.mayT) (hf : i.Fits) : val 1 (i.bytesT ++ t, 0) = 84 ∧ (mkd (i.bytesT ++ t, 0) : Int) = i.m ∧ itmT (i.bytesT ++ t, 0) = i ∧ endT (i.bytesT ++ t, 0) = (t, 0) := by
  obtain ⟨⟨h1, h2⟩, ⟨h3, h4, h5⟩, h6, h7, h8⟩ := hm
  rw [bytesT_eq]
  obtain ⟨kind, s, q, f, m, a, b, n, fk, fv, fh⟩ := i
  simp only at *
  subst hk h6 h7 h8
  obtain ⟨k, rfl⟩ := Int.eq_ofNat_of_zero_le (show 0 ≤ m by omega)
  rw [Int.toNat_natCast]
  obtain ⟨e1, e2⟩ := stp_be 1 84 (be 8 s ++ (be 8 q ++ (be 8 f ++ (be 1 k ++ (bIf (usA (k : Int)) a ++ (bIf (usB (k : Int)) b ++ (bIf (usN (k : Int)) n ++ t))))))) (by decide)
  obtain ⟨e3, e4⟩ := stp_be 8 s (be 8 q ++ (be 8 f ++ (be 1 k ++ (bIf (usA (k : Int)) a ++ (bIf (usB (k : Int)) b ++ (bIf (usN (k : Int)) n ++ t)))))) (lt64 hf.s)
  obtain ⟨e5, e6⟩ := stp_be 8 q (be 8 f ++ (be 1 k ++ (bIf (usA (k : Int)) a ++ (bIf (usB (k : Int)) b ++ (bIf (usN (k : Int)) n ++ t))))) (lt64 hf.q)
  obtain ⟨e7, e8⟩ := stp_be 8 f (be 1 k ++ (bIf (usA (k : Int)) a ++ (bIf (usB (k : Int)) b ++ (bIf (usN (k : Int)) n ++ t)))) (lt64 hf.f)
  obtain ⟨e9, e10⟩ := stp_be 1 k (bIf (usA (k : Int)) a ++ (bIf (usB (k : Int)) b ++ (bIf (usN (k : Int)) n ++ t))) (by simp; omega)
  obtain ⟨e11, e12⟩ := stpIf_be (usA (k : Int)) a (bIf (usB (k : Int)) b ++ (bIf (usN (k : Int)) n ++ t)) hf.a h3
  obtain ⟨e13, e14⟩ := stpIf_be (usB (k : Int)) b (bIf (usN (k : Int)) n ++ t) hf.b h4
  obtain ⟨e15, e16⟩ := stpIf_be (usN (k : Int)) n t hf.n h5
  have hmk : mkd (be 1 84 ++ (be 8 s ++ (be 8 q ++ (be 8 f ++ (be 1 k ++ (bIf (usA (k : Int)) a ++ (bIf (usB (k : Int)) b ++ (bIf (usN (k : Int)) n ++ t))))))), 0) = k := by
    unfold mkd
    rw [e1, e3, e5, e7, e10]
  refine ⟨e2, by rw [hmk], ?_, ?_⟩
  · unfold itmT
    rw [hmk]
    unfold st5
    rw [e1, e3, e5, e7, e9, e4, e6, e8, e11, e12, e13, e14, e16]
  · unfold endT
    rw [hmk]
    unfold st5
    rw [e1, e3, e5, e7, e9, e11, e13, e15]

theorem readF (i : Itm) (t : List UInt8) (hk : i.kind = 2) (hm : i.mayF) (hf : i.Fits) : val 1 (i.bytesF ++ t, 0) = 70 ∧ itmF (i.bytesF ++ t, 0) = i ∧ endF (i.bytesF ++ t, 0) = (t, 0) := by
  obtain ⟨⟨h1, h2, h3, h4, h5, h6, h7⟩, h8, h9⟩ := hm
  rw [bytesF_eq]
  obtain ⟨kind, s, q, f, m, a, b, n, fk, fv, fh⟩ := i
  simp only at *
  subst hk h1 h2 h3 h4 h5 h6 h7
  obtain ⟨k, rfl⟩ := Int.eq_ofNat_of_zero_le h8
  rw [Int.toNat_natCast]
  obtain ⟨e1, e2⟩ := stp_be 1 70 (be 1 k ++ (be 8 fv ++ (be 8 fh ++ t))) (by decide)
  obtain ⟨e3, e4⟩ := stp_be 1 k (be 8 fv ++ (be 8 fh ++ t)) (by simp; omega)
  obtain ⟨e5, e6⟩ := stp_be 8 fv (be 8 fh ++ t) (lt64 hf.fv)
  obtain ⟨e7, e8⟩ := stp_be 8 fh t (lt64 hf.fh)
  refine ⟨e2, ?_, ?_⟩
  · unfold itmF
    rw [e1, e3, e4, e5, e6, e8]
  · unfold endF
    rw [e1, e3, e5, e7]

theorem mayB_ways (i : Itm) (h : mayB i = true) : (i.kind = 1 ∧ i.mayT ∧ i.bytes = i.bytesT) ∨ (i.kind = 2 ∧ i.mayF ∧ i.bytes = i.bytesF) := by
  unfold mayB at h
  unfold Itm.bytes
  split at h
  · rename_i h1
    exact .inl ⟨h1, of_decide_eq_true h, by rw [if_neg (by omega)]⟩
  · split at h
    · rename_i h1 h2
      exact .inr ⟨h2, of_decide_eq_true h, by rw [if_pos h2]⟩
    · cases h

/-- An item's bytes, whatever stands behind them, read as it. -/
theorem readR (i : Itm) (t : List UInt8) (h : mayB i = true) (hf : i.Fits) : itmR (i.bytes ++ t, 0) = i ∧ endR (i.bytes ++ t, 0) = (t, 0) := by
  unfold itmR endR
  rcases mayB_ways i h with ⟨h1, h2, h3⟩ | ⟨h1, h2, h3⟩
  · obtain ⟨e1, e2, e3, e4⟩ := readT i t h1 h2 hf
    rw [h3]
    simp only [e1, if_true]
    exact ⟨e3, e4⟩
  · obtain ⟨e1, e3, e4⟩ := readF i t h1 h2 hf
    rw [h3]
    simp only [e1, if_true]
    exact ⟨e3, e4⟩

theorem mayT_itmT (s : RSt) (h : 1 ≤ mkd s ∧ mkd s ≤ 10) : (itmT s).mayT := by
  refine ⟨⟨?_, ?_⟩, ⟨?_, ?_, ?_⟩, rfl, rfl, rfl⟩
  · show (1 : Int) ≤ (mkd s : Int); omega
  · show (mkd s : Int) ≤ 10; omega
  · intro h; show valIf (usA (mkd s)) _ = 0; rw [show usA (mkd s) = false from h]; rfl
  · intro h; show valIf (usB (mkd s)) _ = 0; rw [show usB (mkd s) = false from h]; rfl
  · intro h; show valIf (usN (mkd s)) _ = 0; rw [show usN (mkd s) = false from h]; rfl

theorem mayF_itmF (s : RSt) : (itmF s).mayF := by
  have := val_lt 1 (stp 1 s)
  simp at this
  refine ⟨⟨rfl, rfl, rfl, rfl, rfl, rfl, rfl⟩, ?_, ?_⟩
  · show (0 : Int) ≤ (val 1 (stp 1 s) : Int); omega
  · show (val 1 (stp 1 s) : Int) ≤ 255; omega

theorem bytesT_inv (s : RSt) (h1 : val 1 s = 84) (h : endT s = ([], 0)) : s.1 = (itmT s).bytesT := by
  have h0 : (endT s).2 = 0 := by rw [h]
  unfold endT at h0 h
  obtain ⟨a1, b1⟩ := stpIf_inv _ _ h0
  obtain ⟨a2, b2⟩ := stpIf_inv _ _ a1
  obtain ⟨a3, b3⟩ := stpIf_inv _ _ a2
  unfold st5 at a3 b3
  obtain ⟨a4, b4⟩ := stp_inv _ _ a3
  obtain ⟨a5, b5⟩ := stp_inv _ _ a4
  obtain ⟨a6, b6⟩ := stp_inv _ _ a5
  obtain ⟨a7, b7⟩ := stp_inv _ _ a6
  obtain ⟨a8, b8⟩ := stp_inv _ _ a7
  have := bytesT_eq (itmT s) []
  rw [List.append_nil] at this
  rw [this, b8, h1]
  refine congrArg (be 1 84 ++ ·) ?_
  rw [b7]
  refine congrArg (be 8 _ ++ ·) ?_
  rw [b6]
  refine congrArg (be 8 _ ++ ·) ?_
  rw [b5]
  refine congrArg (be 8 _ ++ ·) ?_
  rw [b4]
  show _ = be 1 (mkd s) ++ _
  refine congrArg (be 1 _ ++ ·) ?_
  refine b3.trans ?_
  refine congrArg (bIf _ _ ++ ·) ?_
  refine b2.trans ?_
  refine congrArg (bIf _ _ ++ ·) ?_
  refine b1.trans ?_
  refine congrArg (bIf _ _ ++ ·) ?_
  rw [h]

theorem bytesF_inv (s : RSt) (h1 : val 1 s = 70) (h : endF s = ([], 0)) : s.1 = (itmF s).bytesF := by
  have h0 : (endF s).2 = 0 := by rw [h]
  unfold endF at h0 h
  obtain ⟨a1, b1⟩ := stp_inv _ _ h0
  obtain ⟨a2, b2⟩ := stp_inv _ _ a1
  obtain ⟨a3, b3⟩ := stp_inv _ _ a2
  obtain ⟨a4, b4⟩ := stp_inv _ _ a3
  have := bytesF_eq (itmF s) []
  rw [List.append_nil] at this
  rw [this, b4, h1]
  refine congrArg (be 1 70 ++ ·) ?_
  rw [b3]
  show _ = be 1 (val 1 (stp 1 s)) ++ _
  refine congrArg (be 1 _ ++ ·) ?_
  rw [b2]
  refine congrArg (be 8 _ ++ ·) ?_
  rw [b1]
  refine congrArg (be 8 _ ++ ·) ?_
  rw [h]

/-- Both ways of Decode take the same bytes. -/
theorem rdOk_iff (xs : List UInt8) : rdOk xs ↔ isItm xs := by
  constructor
  · rintro (⟨h1, h2, h3⟩ | ⟨h1, h3⟩)
    · have e : itmR (xs, 0) = itmT (xs, 0) := by unfold itmR; rw [if_pos h1]
      have hk : (itmT (xs, 0)).kind = 1 := rfl
      unfold isItm mayB Itm.bytes
      rw [e, if_pos hk, if_neg (by rw [hk]; decide)]
      exact ⟨decide_eq_true (mayT_itmT _ h2), (bytesT_inv (xs, 0) h1 ((endE_zero _).1 h3)).symm⟩
    · have e : itmR (xs, 0) = itmF (xs, 0) := by unfold itmR; rw [if_neg (by rw [h1]; decide), if_pos h1]
      have hk : (itmF (xs, 0)).kind = 2 := rfl
      unfold isItm mayB Itm.bytes
      rw [e, if_neg (by rw [hk]; decide), if_pos hk, if_pos hk]
      exact ⟨decide_eq_true (mayF_itmF _), (bytesF_inv (xs, 0) h1 ((endE_zero _).1 h3)).symm⟩
  · rintro ⟨h1, h2⟩
    have hf := itmR_fits (xs, 0)
    rcases mayB_ways _ h1 with ⟨k1, k2, k3⟩ | ⟨k1, k2, k3⟩
    · obtain ⟨e1, e2, e3, e4⟩ := readT _ [] k1 k2 hf
      rw [List.append_nil, ← k3, h2] at e1 e2 e3 e4
      have := k2.1
      rw [← e2] at this
      exact .inl ⟨e1, by omega, (endE_zero _).2 e4⟩
    · obtain ⟨e1, e3, e4⟩ := readF _ [] k1 k2 hf
      rw [List.append_nil, ← k3, h2] at e1 e3 e4
      exact .inr ⟨e1, (endE_zero _).2 e4⟩

/-- An item's bytes are that item, and no other bytes that begin so are one. -/
theorem isItm_bytes (i : Itm) (t : List UInt8) (h : mayB i = true) (hf : i.Fits) : isItm (i.bytes ++ t) ↔ t = [] := by
  obtain ⟨e1, e2⟩ := readR i t h hf
  unfold isItm
  rw [e1]
  constructor
  · rintro ⟨_, h2⟩
    have := congrArg List.length h2
    rw [List.length_append] at this
    exact List.eq_nil_of_length_eq_zero (by omega)
  · rintro rfl
    exact ⟨h, by simp⟩

end Go.Proofs.Ytebknplbghcemaa

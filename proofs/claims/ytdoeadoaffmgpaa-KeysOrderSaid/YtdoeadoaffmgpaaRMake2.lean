/- gleanref7.Make at every key; gleanref7.Of, Under, Val. -/
import Derived.Test.YtdoeadoaffmgpaaRMake
namespace Go.Proofs.Ytdoeadoaffmgpaa
open Go.Gl Go.RowKit
set_option linter.unusedVariables false

set_option maxHeartbeats 1000000 in
theorem RMake_no2 (k a b : Nat) (f : KForm) (w : World) (hf : kform k = some f) (hh : f.head.toNat ≠ 0) (hba : f.b = true → f.a = true) (hn : kfit f a b = false) :
    Calls Try.prog 23 #[.agg #[.int .i64 k, .int .u64 a, .int .u64 b]] w (KRes w [] 70) := by
  obtain ⟨hd, md, fa, fb, ft⟩ := f
  have HF := Lib.hid hf
  have hh2 : (((hd.toNat : Nat) : Int) == 0) = false := by simpa using hh
  clear hf hh
  cases fa <;> cases fb <;> simp [kfit] at hn hba
  · by_cases ha : a = 0
    · have hb := hn ha
      subst ha
      have hb2 : (((b : Nat) : Int) != 0) = true := by simp [hb]
      clear hn hb
      go_enter Try.func23, Try.ntmps23
      go_wp2_with (first | (go_at_call 32; refine (rform_yes _ _ _ HF.out).mono ?_; rintro e w1 ⟨rfl, rfl⟩; simp only [kcount]))
      go_returns
      exact KRes.nil (by repeat' (first | (with_reducible exact Mods.refl _ _) | (with_reducible assumption) | (with_reducible refine Mods.alloc ?_ _) | (with_reducible refine Mods.drew ?_) | (with_reducible refine Mods.drewN ?_ _) | (with_reducible refine Mods.regrown ?_ _ _) | (with_reducible refine Mods.setCell ?_ ?_ _) | (exact .inr (by simp)) | (exact .inr (by simp; omega))))
    · have ha2 : (((a : Nat) : Int) != 0) = true := by simp [ha]
      clear hn ha
      go_enter Try.func23, Try.ntmps23
      go_wp2_with (first | (go_at_call 32; refine (rform_yes _ _ _ HF.out).mono ?_; rintro e w1 ⟨rfl, rfl⟩; simp only [kcount]))
      go_returns
      exact KRes.nil (by repeat' (first | (with_reducible exact Mods.refl _ _) | (with_reducible assumption) | (with_reducible refine Mods.alloc ?_ _) | (with_reducible refine Mods.drew ?_) | (with_reducible refine Mods.drewN ?_ _) | (with_reducible refine Mods.regrown ?_ _ _) | (with_reducible refine Mods.setCell ?_ ?_ _) | (exact .inr (by simp)) | (exact .inr (by simp; omega))))
  · have hb2 : (((b : Nat) : Int) != 0) = true := by simp [hn]
    clear hn
    go_enter Try.func23, Try.ntmps23
    go_wp2_with (first | (go_at_call 32; refine (rform_yes _ _ _ HF.out).mono ?_; rintro e w1 ⟨rfl, rfl⟩; simp only [kcount]))
    go_returns
    exact KRes.nil (by repeat' (first | (with_reducible exact Mods.refl _ _) | (with_reducible assumption) | (with_reducible refine Mods.alloc ?_ _) | (with_reducible refine Mods.drew ?_) | (with_reducible refine Mods.drewN ?_ _) | (with_reducible refine Mods.regrown ?_ _ _) | (with_reducible refine Mods.setCell ?_ ?_ _) | (exact .inr (by simp)) | (exact .inr (by simp; omega))))

theorem kform_head {k : Nat} {f : KForm} (hf : kform k = some f) : f.head.toNat ≠ 0 ∧ (f.b = true → f.a = true) := by
  obtain ⟨h1, h2⟩ := kform_range hf
  rcases kinds k h1 h2 with rfl | rfl | rfl | rfl | rfl | rfl | rfl | rfl | rfl | rfl | rfl | rfl | rfl | rfl | rfl | rfl | rfl <;> cases hf <;> decide

theorem RMake_yes (k a b : Nat) (f : KForm) (w : World) (hf : kform k = some f) (hn : kfit f a b = true) (ha : a ≤ 18446744073709551615) (hb : b ≤ 18446744073709551615) :
    Calls Try.prog 23 #[.agg #[.int .i64 k, .int .u64 a, .int .u64 b]] w (KRes w (kbytes f a b) 0) := by
  obtain ⟨h1, h2⟩ := kform_range hf
  have hf' := hf
  rcases kinds k h1 h2 with rfl | rfl | rfl | rfl | rfl | rfl | rfl | rfl | rfl | rfl | rfl | rfl | rfl | rfl | rfl | rfl | rfl <;> cases hf <;> simp only [kfit, Bool.false_or, Bool.true_or, Bool.and_true, Bool.true_and, Bool.and_eq_true, decide_eq_true_eq] at hn
  · exact RMake_0010 _ a b _ _ w hf' (by decide) (by decide) (by decide) hn.1 hn.2 ha hb
  · exact RMake_0010 _ a b _ _ w hf' (by decide) (by decide) (by decide) hn.1 hn.2 ha hb
  · exact RMake_0010 _ a b _ _ w hf' (by decide) (by decide) (by decide) hn.1 hn.2 ha hb
  · exact RMake_1010 _ a b _ _ w hf' (by decide) (by decide) (by decide) hn ha hb
  · exact RMake_1000 _ a b _ _ w hf' (by decide) (by decide) (by decide) hn ha hb
  · exact RMake_1100 _ a b _ _ w hf' (by decide) (by decide) (by decide) ha hb
  · exact RMake_1100 _ a b _ _ w hf' (by decide) (by decide) (by decide) ha hb
  · exact RMake_1100 _ a b _ _ w hf' (by decide) (by decide) (by decide) ha hb
  · exact RMake_1010 _ a b _ _ w hf' (by decide) (by decide) (by decide) hn ha hb
  · exact RMake_1111 _ a b _ _ w hf' (by decide) (by decide) (by decide) ha hb
  · exact RMake_1010 _ a b _ _ w hf' (by decide) (by decide) (by decide) hn ha hb
  · exact RMake_1010 _ a b _ _ w hf' (by decide) (by decide) (by decide) hn ha hb
  · exact RMake_1010 _ a b _ _ w hf' (by decide) (by decide) (by decide) hn ha hb
  · exact RMake_1110 _ a b _ _ w hf' (by decide) (by decide) (by decide) ha hb
  · exact RMake_1110 _ a b _ _ w hf' (by decide) (by decide) (by decide) ha hb
  · exact RMake_1110 _ a b _ _ w hf' (by decide) (by decide) (by decide) ha hb
  · exact RMake_1110 _ a b _ _ w hf' (by decide) (by decide) (by decide) ha hb

theorem RMake_any (n : Int) (a b : Nat) (w : World) (ha : a ≤ 18446744073709551615) (hb : b ≤ 18446744073709551615) :
    Calls Try.prog 23 #[.agg #[.int .i64 n, .int .u64 a, .int .u64 b]] w (KRes w ((kmake n a b).getD []) (if (kmake n a b).isSome then 0 else 70)) := by
  by_cases h : n < 1 ∨ 17 < n
  · have := RMake_no1 n a b w h
    simpa [kmake, kform_none h] using this
  · obtain ⟨k, rfl⟩ := Int.eq_ofNat_of_zero_le (a := n) (by omega)
    obtain ⟨f, hf, _⟩ := formsV_at k (by omega) (by omega)
    obtain ⟨hh, hba⟩ := kform_head hf
    cases hn : kfit f a b
    · have := RMake_no2 k a b f w hf hh hba hn
      simpa [kmake, hf, hn] using this
    · have := RMake_yes k a b f w hf hn ha hb
      simpa [kmake, hf, hn] using this

set_option maxHeartbeats 400000 in
theorem ROf_no (n : Int) (w : World) (h : n < 1 ∨ 17 < n) : Calls Try.prog 24 #[.int .i64 n] w (KRes w [] 70) := by
  have H := Lib.hid h
  clear h
  go_enter Try.func24, Try.ntmps24
  go_wp2_with (go_at_call 32; refine (rform_no _ _ H.out).mono ?_; rintro e w1 ⟨rfl, rfl⟩)
  go_returns
  exact KRes.nil (by repeat' (first | (with_reducible exact Mods.refl _ _) | (with_reducible assumption) | (with_reducible refine Mods.alloc ?_ _) | (with_reducible refine Mods.drew ?_) | (with_reducible refine Mods.drewN ?_ _) | (with_reducible refine Mods.regrown ?_ _ _) | (with_reducible refine Mods.setCell ?_ ?_ _) | (exact .inr (by simp)) | (exact .inr (by simp; omega))))

set_option maxHeartbeats 400000 in
theorem ROf_yes (k : Nat) (f : KForm) (w : World) (hf : kform k = some f) : Calls Try.prog 24 #[.int .i64 k] w (KRes w [f.head] 0) := by
  have H := Lib.hid hf
  have hh2 : (((f.head.toNat : Nat) : Int) == 0) = false := by have := (kform_head hf).1; simpa using this
  clear hf
  go_enter Try.func24, Try.ntmps24
  go_wp2_with (go_at_call 32; refine (rform_yes _ _ _ H.out).mono ?_; rintro e w1 ⟨rfl, rfl⟩)
  go_returns
  exact ⟨_, rfl, own_at _ _ (by simp), (by repeat' (first | (with_reducible exact Mods.refl _ _) | (with_reducible assumption) | (with_reducible refine Mods.alloc ?_ _) | (with_reducible refine Mods.drew ?_) | (with_reducible refine Mods.drewN ?_ _) | (with_reducible refine Mods.regrown ?_ _ _) | (with_reducible refine Mods.setCell ?_ ?_ _) | (exact .inr (by simp)) | (exact .inr (by simp; omega)))), fun k hk => by simp [Value.ownBlock] at hk; omega⟩

theorem ROf_any (n : Int) (w : World) : Calls Try.prog 24 #[.int .i64 n] w (KRes w ((kof n).getD []) (if (kof n).isSome then 0 else 70)) := by
  by_cases h : n < 1 ∨ 17 < n
  · simpa [kof, kform_none h] using ROf_no n w h
  · obtain ⟨k, rfl⟩ := Int.eq_ofNat_of_zero_le (a := n) (by omega)
    obtain ⟨f, hf, _⟩ := formsV_at k (by omega) (by omega)
    simpa [kof, hf] using ROf_yes k f w hf

set_option maxHeartbeats 400000 in
theorem RVal_any (a : Nat) (w : World) (ha : a ≤ 18446744073709551615) :
    Calls Try.prog 11 #[.int .u64 a] w fun e w' => ∃ v, e = .returned v ∧ Own w' v (118 :: be 8 a) ∧ Mods noB w w' ∧ freshIn w v := by
  go_enter Try.func11, Try.ntmps11
  go_wp2_with fail
  refine (Put_any 8 a (own_at 118 w.heap.size rfl) (by decide) ha (by simp)).mono ?_
  rintro e w2 ⟨v, rfl, h1⟩
  go_wp2
  go_returns
  have f0 : freshIn w (.slice (some ⟨w.heap.size, 0, none⟩) 1 1) := fun k hk => by simp [Value.ownBlock] at hk; omega
  exact ⟨v, rfl, h1.own, h1.mods0 ((Mods.refl _ _).alloc _) f0, h1.fresh (by simp) f0⟩

set_option maxHeartbeats 400000 in
theorem RUnder_no1 (n : Int) (a : Nat) (w : World) (h : n < 1 ∨ 17 < n) : Calls Try.prog 25 #[.int .i64 n, .int .u64 a] w (KRes w [] 70) := by
  have H := Lib.hid h
  clear h
  go_enter Try.func25, Try.ntmps25
  go_wp2_with (go_at_call 32; refine (rform_no _ _ H.out).mono ?_; rintro e w1 ⟨rfl, rfl⟩)
  go_returns
  exact KRes.nil (by repeat' (first | (with_reducible exact Mods.refl _ _) | (with_reducible assumption) | (with_reducible refine Mods.alloc ?_ _) | (with_reducible refine Mods.drew ?_) | (with_reducible refine Mods.drewN ?_ _) | (with_reducible refine Mods.regrown ?_ _ _) | (with_reducible refine Mods.setCell ?_ ?_ _) | (exact .inr (by simp)) | (exact .inr (by simp; omega))))

set_option maxHeartbeats 400000 in
theorem RUnder_no2 (k a : Nat) (f : KForm) (w : World) (hf : kform k = some f) (hb : f.b = false) : Calls Try.prog 25 #[.int .i64 k, .int .u64 a] w (KRes w [] 70) := by
  have H := Lib.hid hf
  have hc : ((kcount f : Nat) : Int) < 2 := by obtain ⟨hd, md, fa, fb, ft⟩ := f; cases hb; cases fa <;> simp [kcount]
  clear hf
  go_enter Try.func25, Try.ntmps25
  go_wp2_with (go_at_call 32; refine (rform_yes _ _ _ H.out).mono ?_; rintro e w1 ⟨rfl, rfl⟩)
  go_returns
  exact KRes.nil (by repeat' (first | (with_reducible exact Mods.refl _ _) | (with_reducible assumption) | (with_reducible refine Mods.alloc ?_ _) | (with_reducible refine Mods.drew ?_) | (with_reducible refine Mods.drewN ?_ _) | (with_reducible refine Mods.regrown ?_ _ _) | (with_reducible refine Mods.setCell ?_ ?_ _) | (exact .inr (by simp)) | (exact .inr (by simp; omega))))

set_option maxHeartbeats 400000 in
theorem RUnder_yes (k a : Nat) (f : KForm) (w : World) (hf : kform k = some f) (hb : f.b = true) (ha : a ≤ 18446744073709551615) : Calls Try.prog 25 #[.int .i64 k, .int .u64 a] w (KRes w (kfirst f a) 0) := by
  have H := Lib.hid hf
  obtain ⟨hh, hba⟩ := kform_head hf
  have hc : (2 : Int) ≤ ((kcount f : Nat) : Int) := by obtain ⟨hd, md, fa, fb, ft⟩ := f; cases hb; cases hba rfl; simp [kcount]
  have HC := Lib.hid (RMake_yes k a 0 f · hf (by obtain ⟨hd, md, fa, fb, ft⟩ := f; cases hb; cases hba rfl; rfl) ha (by omega))
  have hl : (kbytes f a 0).length = (kfirst f a).length + 8 := by unfold kbytes; rw [hb]; simp [be_length]
  have HL := Lib.hid hl
  have ht : (kbytes f a 0).take (kfirst f a).length = kfirst f a := by unfold kbytes; rw [List.take_left]
  have HT := Lib.hid ht
  have hfl : (kfirst f a).length ≤ 100 := by unfold kfirst; simp; (repeat' split) <;> simp [be_length]
  clear hf hh hba hl ht hb
  go_enter Try.func25, Try.ntmps25
  go_wp2_with (first | (go_at_call 32; refine (rform_yes _ _ _ H.out).mono ?_; rintro e w1 ⟨rfl, rfl⟩))
  refine (HC.out _).mono ?_
  rintro e w1 ⟨v, rfl, h1, h2, h3⟩
  rcases Own.open h1 with ⟨rfl, h4⟩ | ⟨g, off, cap, cur, rfl, h4, h5, h6, h7, h8⟩
  · rw [h4] at HL; exact absurd HL.out (by simp)
  · have hcap : (kfirst f a).length + 8 ≤ cap := by have := HL.out; omega
    have F := Lib.hid (show _ ∧ _ ∧ _ ∧ _ ∧ _ ∧ _ ∧ _ from ⟨h2, h3, h4, h5, h6, h7, h8⟩)
    rw [HL.out]
    generalize hn : (kfirst f a).length = n at *
    have HN := Lib.hid hn
    clear h1 h2 h3 h4 h5 h6 h7 h8 hn
    have e1 : (((n + 8 : Nat) : Int) - 8) = ((n : Nat) : Int) := by omega
    go_wp2
    go_returns
    obtain ⟨h2, h3, h4, h5, h6, h7, h8⟩ := F.out
    refine ⟨_, rfl, ?_, h2, fun k hk => h3 k (by simpa [Value.ownBlock] using hk)⟩
    refine own_of HN.out h4 (by omega) h6 h7 (fun i hi => ?_)
    rw [HN.out] at hi
    have hi2 : i < (kbytes f a 0).length := by rw [HL.out]; omega
    rw [h8 i hi2]
    have e2 : (kfirst f a)[i]'(by rw [HN.out]; exact hi) = (kbytes f a 0)[i] := by
      have := congrArg (fun l : List UInt8 => l[i]?) HT.out
      simp only [List.getElem?_take, hi, if_true] at this
      rw [List.getElem?_eq_getElem hi2, List.getElem?_eq_getElem (by rw [HN.out]; exact hi)] at this
      exact (Option.some.inj this).symm
    rw [e2]

theorem RUnder_any (n : Int) (a : Nat) (w : World) (ha : a ≤ 18446744073709551615) : Calls Try.prog 25 #[.int .i64 n, .int .u64 a] w (KRes w ((kunder n a).getD []) (if (kunder n a).isSome then 0 else 70)) := by
  by_cases h : n < 1 ∨ 17 < n
  · simpa [kunder, kform_none h] using RUnder_no1 n a w h
  · obtain ⟨k, rfl⟩ := Int.eq_ofNat_of_zero_le (a := n) (by omega)
    obtain ⟨f, hf, _⟩ := formsV_at k (by omega) (by omega)
    cases hn : f.b
    · simpa [kunder, hf, hn] using RUnder_no2 k a f w hf hn
    · simpa [kunder, hf, hn] using RUnder_yes k a f w hf hn ha

end Go.Proofs.Ytdoeadoaffmgpaa

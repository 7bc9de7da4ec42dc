/- enc.Reader: peek that finds its bytes; number, U8, U32, U64. -/
import Derived.Test.YtglkmaalpammcaaZD
namespace Go.Proofs.Ytglkmaalpammcaa
open Go.Gl Go.RowKit
set_option linter.unusedVariables false
set_option maxRecDepth 100000
set_option maxHeartbeats 800000 in
theorem peek_walk {w : World} {g gb off ca len : Nat} {xs : List UInt8} (n : Nat) (h : Rr w g (.slice (some ⟨gb, off, none⟩) len ca) xs 0) (hlen : xs.length = len) (hn1 : 1 ≤ n) (hn : n ≤ len) (hm : n ≤ 8) (hca : len ≤ ca) (hcm : ca ≤ 9223372036854775807) :
    Calls Try.prog 150 #[.pointer (some ⟨g, 0, none⟩), .int .i64 n] w fun r w' => r = .returned (.tuple #[.int .u64 (num (xs.take n)), .bool true]) ∧ w' = w := by
  have c := cells_of h.heap
  have cc : ∀ k, (hk : k < (xs.take n).length) → w.cell? ⟨gb, off + k, none⟩ = some (.int .u8 ((xs.take n)[k]).toNat) := by
    intro k hk
    rw [List.length_take] at hk
    rcases h.rd.open with ⟨h1, _⟩ | ⟨g', off', cap', h1, _, _, _, h5⟩
    · exact h1.no.elim
    · cases h1
      rw [List.getElem_take]
      exact h5 k (by omega)
  have hy8 : (xs.take n).length = n := by rw [List.length_take]; omega
  generalize xs.take n = ys at *
  have HX := Lib.hid hy8
  have KX := Lib.hid cc
  clear h cc hlen hy8
  go_enter Try.func150, Try.ntmps150
  go_wp2
  go_loop [6, 43] (fun x i => ∃ k : Nat, k ≤ n ∧ i = .int .i64 k ∧ x = .int .u64 (num (ys.take k))) (fun _ i => n - (intOf i).toNat)
  case atStart => exact ⟨0, Nat.zero_le _, rfl, rfl⟩
  case round =>
    obtain ⟨k, hk, rfl, rfl⟩ := hrel
    by_cases hlt : k < n
    · have lx : k < ys.length := by rw [HX.out]; exact hlt
      have c2 := KX.out k lx
      have hb := (ys[k]).toNat_lt
      have hb0 : (0 : Int) ≤ ((ys[k]).toNat : Int) := by omega
      have hnl := num_take_lt ys k (by rw [HX.out]; exact hm) lx
      have ht := Lib.hid (num_take ys k lx)
      clear KX
      generalize hz : num (ys.take k) = z at *
      have HZ := Lib.hid hz
      clear hz
      have hz1 : ((z : Nat) : Int) < 72057594037927936 := by omega
      go_wp2
      go_round
      case rel =>
        refine ⟨k + 1, by omega, by go_num, ?_⟩
        rw [shl_or_u64 _ _ (by omega) hz1 hb0 (by omega), ht.out]
        simp
      case measure => simp [intOf]; omega
    · obtain rfl : k = n := by omega
      go_wp2
      go_ret2
      have e : num (ys.take k) = num ys := by rw [List.take_of_length_le (by rw [HX.out]; omega)]
      exact ⟨congrArg (fun z : Nat => Ending.returned (.tuple #[.int .u64 z, .bool true])) e, rfl⟩
theorem peek_ok {w : World} {g : Nat} {v : Value} {xs : List UInt8} (n : Nat) (h : Rr w g v xs 0) (hn1 : 1 ≤ n) (hn : n ≤ xs.length) (hm : n ≤ 8) :
    Calls Try.prog 150 #[.pointer (some ⟨g, 0, none⟩), .int .i64 n] w fun r w' => r = .returned (.tuple #[.int .u64 (num (xs.take n)), .bool true]) ∧ w' = w := by
  rcases h.rd.open with ⟨_, rfl⟩ | ⟨gb, off, ca, rfl, h1, h2, h3, _⟩
  · simp at hn; omega
  · exact peek_walk n h rfl hn1 hn hm h1 (by simp only [maxLen] at h2; omega)
theorem peek_any {w : World} {g : Nat} {v : Value} {xs : List UInt8} {e : Int} (n : Nat) (h : Rr w g v xs e) (hn1 : 1 ≤ n) (hm : n ≤ 8) :
    Calls Try.prog 150 #[.pointer (some ⟨g, 0, none⟩), .int .i64 n] w (RRes (.tuple #[.int .u64 (rtake n xs e), .bool (rok n xs e)]) w g v xs (rerr n xs e)) := by
  by_cases he : e = 0
  · subst he
    by_cases hn : n ≤ xs.length
    · refine (peek_ok n h hn1 hn hm).mono ?_
      rintro r w' ⟨rfl, rfl⟩
      simp only [rtake, rok, rerr, hn, if_true]
      exact ⟨rfl, _, RStp.refl h⟩
    · refine (peek_short n h (by omega) (by omega)).mono ?_
      rintro r w' hr
      simp only [rtake, rok, rerr, hn, if_true, if_false]
      exact hr
  · refine (peek_err n h he).mono ?_
    rintro r w' ⟨rfl, rfl⟩
    simp only [rtake, rok, rerr, he, if_false]
    exact ⟨rfl, _, RStp.refl h⟩
theorem rnum_no {w : World} {g : Nat} {v : Value} {xs : List UInt8} {e : Int} (n : Nat) (h : Rr w g v xs e) (hn1 : 1 ≤ n) (hm : n ≤ 8) (hk : rok n xs e = false) :
    Calls Try.prog 145 #[.pointer (some ⟨g, 0, none⟩), .int .i64 n] w (RRes (.int .u64 (rtake n xs e)) w g v xs (rerr n xs e)) := by
  have H := Lib.hid h
  have HK := Lib.hid hk
  clear h hk
  go_enter Try.func145, Try.ntmps145
  go_wp2_with fail
  refine (peek_any n H.out hn1 hm).mono ?_
  rw [HK.out]
  rintro r w1 ⟨rfl, v1, h1⟩
  have H1 := Lib.hid h1
  clear h1
  go_wp2
  go_ret
  exact ⟨rfl, v1, H1.out⟩
set_option maxHeartbeats 800000 in
theorem rnum_ok {w : World} {g : Nat} {v : Value} {xs : List UInt8} (n : Nat) (h : Rr w g v xs 0) (hn1 : 1 ≤ n) (hm : n ≤ 8) (hn : n ≤ xs.length) :
    Calls Try.prog 145 #[.pointer (some ⟨g, 0, none⟩), .int .i64 n] w (RRes (.int .u64 (num (xs.take n))) w g v (xs.drop n) 0) := by
  rcases h.rd.open with ⟨_, rfl⟩ | ⟨gb, off, ca, rfl, h1, h2, h3, _⟩
  · simp at hn; omega
  have hm : ca ≤ 9223372036854775807 := by simp only [maxLen] at h2; omega
  have r2 := Rd.drop h.rd hn
  obtain ⟨len, hlen⟩ : ∃ len, xs.length = len := ⟨_, rfl⟩
  have HP := Lib.hid (peek_ok n h hn1 hn (by assumption))
  have c := cells_of h.heap
  have f := free_of h.heap
  have H := Lib.hid h
  rw [hlen] at h1 hn r2 H c ⊢
  have HL := Lib.hid hlen
  clear h hlen h2 h3
  by_cases hcn : ca = n
  · subst hcn
    rw [if_pos rfl, Nat.sub_self, show len - ca = 0 from by omega] at r2
    have R := Lib.hid (H.out.set r2)
    clear r2 H
    go_enter Try.func145, Try.ntmps145
    go_wp2_with fail
    refine HP.out.mono ?_
    rintro r w1 ⟨rfl, rfl⟩
    clear HP
    go_wp2
    go_ret
    exact ⟨rfl, _, R.out⟩
  · rw [if_neg hcn] at r2
    have R := Lib.hid (H.out.set r2)
    clear r2 H
    go_enter Try.func145, Try.ntmps145
    go_wp2_with fail
    refine HP.out.mono ?_
    rintro r w1 ⟨rfl, rfl⟩
    clear HP
    go_wp2
    go_ret
    exact ⟨rfl, _, R.out⟩
theorem rnum_any {w : World} {g : Nat} {v : Value} {xs : List UInt8} {e : Int} (n : Nat) (h : Rr w g v xs e) (hn1 : 1 ≤ n) (hm : n ≤ 8) :
    Calls Try.prog 145 #[.pointer (some ⟨g, 0, none⟩), .int .i64 n] w (RRes (.int .u64 (rtake n xs e)) w g v (rleft n xs e) (rerr n xs e)) := by
  by_cases hk : rok n xs e = true
  · simp only [rok, Bool.and_eq_true, decide_eq_true_eq] at hk
    obtain ⟨rfl, hn⟩ := hk
    simp only [rtake, rleft, rerr, hn, if_true]
    exact rnum_ok n h hn1 hm hn
  · have hk2 : rok n xs e = false := by simpa using hk
    have : rleft n xs e = xs := by
      simp only [rok, Bool.and_eq_false_iff, decide_eq_false_iff_not] at hk2
      unfold rleft
      split
      · split
        · exfalso; rcases hk2 with h | h <;> exact h (by assumption)
        · rfl
      · rfl
    rw [this]
    exact rnum_no n h hn1 hm hk2
theorem rtake_lt (n : Nat) (xs : List UInt8) (e : Int) : rtake n xs e < 256 ^ n := by
  have hp : 0 < 256 ^ n := Nat.pow_pos (by decide)
  unfold rtake
  split
  · split
    · have h1 := num_lt (xs.take n)
      have h2 : 256 ^ (xs.take n).length ≤ 256 ^ n := Nat.pow_le_pow_right (by decide) (List.length_take_le _ _)
      omega
    · exact hp
  · exact hp
theorem RU64_any {w : World} {g : Nat} {v : Value} {xs : List UInt8} {e : Int} (h : Rr w g v xs e) :
    Calls Try.prog 129 #[.pointer (some ⟨g, 0, none⟩)] w (RRes (.int .u64 (rtake 8 xs e)) w g v (rleft 8 xs e) (rerr 8 xs e)) := by
  have H := Lib.hid h
  clear h
  go_enter Try.func129, Try.ntmps129
  go_wp2_with fail
  refine (rnum_any 8 H.out (by omega) (by omega)).mono ?_
  rintro r w1 ⟨rfl, hr⟩
  go_wp2
  go_ret
  exact ⟨rfl, hr⟩
end Go.Proofs.Ytglkmaalpammcaa

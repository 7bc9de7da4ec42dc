/- nat.Bytes: a number's bytes. -/
import Derived.Test.YtnkbbclcileleaaNBits
import Derived.LoopN
namespace Go.Gl

theorem dval_get {B : Nat} : ∀ (ds : List Nat), (∀ x ∈ ds, x < B) → ∀ (i : Nat) (hi : i < ds.length), dval B ds / B ^ i % B = ds[i] := by
  intro ds
  induction ds with
  | nil => intro _ i hi; simp at hi
  | cons d ds ih =>
    intro h i hi
    have hd := h d List.mem_cons_self
    have hB : 0 < B := by omega
    rcases i with _ | i
    · simp only [dval, Nat.pow_zero, Nat.div_one, List.getElem_cons_zero]
      rw [Nat.add_mul_mod_self_left, Nat.mod_eq_of_lt hd]
    · simp only [dval, List.getElem_cons_succ]
      rw [Nat.pow_succ, Nat.mul_comm (B ^ i) B, ← Nat.div_div_eq_div_mul, Nat.add_mul_div_left _ _ hB, Nat.div_eq_of_lt hd, Nat.zero_add]
      exact ih (fun x hx => h x (List.mem_cons_of_mem _ hx)) i (by simpa using hi)

/-- the byte of a number that stands at k is in the limb k / 8 -/
theorem byte_of_limb {ls : List Nat} (h : Lim ls) (k : Nat) (hk : k / 8 < ls.length) : dval 18446744073709551616 ls / 256 ^ k % 256 = ls[k / 8] / 2 ^ (8 * (k % 8)) % 256 := by
  rw [← dval_get (B := 18446744073709551616) ls (fun x hx => by have := h x hx; omega) (k / 8) hk]
  generalize dval 18446744073709551616 ls = N
  have e1 : (18446744073709551616 : Nat) = 256 ^ 8 := by decide
  have e2 : (2 : Nat) ^ (8 * (k % 8)) = 256 ^ (k % 8) := by rw [show (256 : Nat) = 2 ^ 8 from rfl, ← Nat.pow_mul]
  rw [e1, e2, ← Nat.pow_mul]
  have hr : k % 8 < 8 := Nat.mod_lt _ (by decide)
  have h8 : (256 : Nat) ^ 8 = 256 ^ (k % 8) * 256 ^ (8 - k % 8) := by rw [← Nat.pow_add]; congr 1; omega
  rw [h8, Nat.mod_mul_right_div_self, Nat.div_div_eq_div_mul, ← Nat.pow_add, show 8 * (k / 8) + k % 8 = k from Nat.div_add_mod k 8]
  rw [Nat.mod_mod_of_dvd]
  exact Nat.dvd_trans (by simp) (Nat.pow_dvd_pow 256 (show 1 ≤ 8 - k % 8 by omega))

/-- the bytes that are laid, the low ones first -/
def laid (n k N : Nat) : List UInt8 := List.replicate (n - k) 0 ++ be k N

theorem laid_length {n k N : Nat} (h : k ≤ n) : (laid n k N).length = n := by
  simp [laid, be_length]
  omega

theorem laid_next {n k N : Nat} (h : k < n) : (laid n k N).set (n - 1 - k) (UInt8.ofNat (N / 256 ^ k)) = laid n (k + 1) N := by
  unfold laid
  rw [List.set_append_left _ _ (by simp; omega)]
  have e : n - k = n - (k + 1) + 1 := by omega
  have e2 : n - 1 - k = n - (k + 1) := by omega
  rw [e, e2, List.replicate_succ', List.set_append_right _ _ (by simp)]
  simp [be]

theorem laid_all (n N : Nat) : laid n n N = be n N := by simp [laid]

end Go.Gl
namespace Go.Proofs.Ytnkbbclcileleaa
open Go.Gl Go.RowKit
set_option linter.unusedVariables false
set_option maxRecDepth 100000

/-- One byte of an owned slice is written. -/
theorem own_put {w : World} {g off cap n : Nat} {xs : List UInt8} (h : Own w (.slice (some ⟨g, off, none⟩) n cap) xs) (hn : xs.length = n) (k : Nat) (hk : k < n) (x : UInt8) :
    Own (w.setCell ⟨g, off + k, none⟩ (.int .u8 x.toNat)) (.slice (some ⟨g, off, none⟩) n cap) (xs.set k x) :=
  ownM_set (f := fun b : UInt8 => .int .u8 b.toNat) h hn k hk x

theorem shr_limb (x j : Nat) : (x : Int) / 2 ^ j % 256 = (((UInt8.ofNat (x / 2 ^ j % 256)).toNat : Nat) : Int) := by
  rw [UInt8.toNat_ofNat']
  simp

/-- bytes in new memory, as a call hands them back -/
def GRes (w : World) (xs : List UInt8) (e : Ending) (w' : World) : Prop := ∃ v, e = .returned v ∧ Own w' v xs ∧ Mods noB w w' ∧ freshIn w v

set_option maxHeartbeats 1000000 in
theorem Bytes_walk {w : World} {ga off n0 c0 : Nat} {ls : List Nat} (h : RN w (.slice (some ⟨ga, off, none⟩) n0 c0) ls) (hL : Lim ls) (hl : ls.length ≤ 10000000000) : Calls Try.prog 35 #[.slice (some ⟨ga, off, none⟩) n0 c0] w (GRes w (natB (dval 18446744073709551616 ls))) := by
  obtain ⟨h1, h2, h3, h4⟩ := RN.cells h
  obtain ⟨N, hN⟩ : ∃ N, dval 18446744073709551616 ls = N := ⟨_, rfl⟩
  have HN := Lib.hid hN
  have H := Lib.hid h
  have HL := Lib.hid hL
  have H1 := Lib.hid h1
  have HB := Lib.hid (Bits_any h hL (by omega))
  rw [hN]
  clear h hL h4 hN h1
  go_enter Try.func35, Try.ntmps35
  go_wp2_with fail
  refine HB.out.mono ?_
  rintro e w' ⟨⟨b, ⟨hb1, hb2⟩, rfl⟩, rfl⟩
  obtain ⟨n, hn⟩ : ∃ n, (b + 7) / 8 = n := ⟨_, rfl⟩
  rw [HN.out] at hb1
  have HB1 := Lib.hid hb1
  have hn8 : n ≤ 8 * ls.length := by omega
  have HNN := Lib.hid hn
  clear hb1
  have hq : ((b : Int) + 7) / 8 = (n : Int) := by omega
  have hn2 : n ≤ 80000000000 := by omega
  go_wp2_with (refine wpList_mkb rfl (.tmp 10) (.tmp 10) (by rfl) .i64 .i64 n (congrArg (Value.int .i64) hq) (congrArg (Value.int .i64) hq) (by omega) ?_; intro w2 o2 m2 z2; have R0 : Hid (Own w2 (.slice (some ⟨w'.heap.size, 0, none⟩) n n) (laid n 0 N) ∧ Mods noB w' w2) := ⟨by rw [show laid n 0 N = List.replicate n 0 from by simp [laid, be]]; exact o2, m2⟩; clear o2 m2 z2)
  clear hq
  go_loopw [13] (fun i wr => ∃ k : Nat, k ≤ n ∧ i = .int .i64 k ∧ Hid (Own wr (.slice (some ⟨w'.heap.size, 0, none⟩) n n) (laid n k N) ∧ Mods noB w' wr)) (fun i _ => n - (intOf i).toNat)
  case atStart => exact ⟨0, Nat.zero_le _, rfl, R0⟩
  case round =>
    obtain ⟨k, hk, rfl, hR⟩ := hrel
    clear R0
    by_cases hlt : k < n
    · have hk8 : k / 8 < ls.length := by omega
      have hro := H.out.keep hR.out.2 (fun _ _ x => x)
      obtain ⟨_, _, _, hcc⟩ := RN.cells hro
      obtain ⟨g', off', hax, hcc⟩ := hcc.resolve_left (by have := H1.out; omega)
      cases hax
      have c1 := hcc (k / 8) hk8
      obtain ⟨gg, oo, cc, cur, hv, hg, _, _, hsz, hcu⟩ := (Own.open hR.out.1).resolve_left (by rintro ⟨hh, _⟩; cases hh)
      have hb2 : ls[k / 8] ≤ 18446744073709551615 := HL.out _ (List.getElem_mem hk8)
      have hby := Lib.hid (byte_of_limb HL.out k hk8)
      rw [laid_length (Nat.le_of_lt hlt)] at hv
      cases hv
      have kcell := hcu (n - 1 - k) (by rw [laid_length (Nat.le_of_lt hlt)]; omega)
      have c2 := (cells_of hg (0 + (n - 1 - k))).trans kcell
      have f2 := free_of hg (0 + (n - 1 - k))
      simp only [Nat.zero_add] at c2 f2
      clear hcu hg hsz kcell hro hcc
      generalize hlx : ls[k / 8] = x at *
      have HLX := Lib.hid hlx
      clear hlx
      have hval : ((x : Int) / 2 ^ (8 * (k % 8)) % 256) = (((UInt8.ofNat (N / 256 ^ k)).toNat : Nat) : Int) := by
        have h9 := hby.out
        rw [HN.out] at h9
        rw [UInt8.toNat_ofNat', show (2 ^ 8 : Nat) = 256 from rfl, h9]
        simp
      have ho := own_put hR.out.1 (laid_length (Nat.le_of_lt hlt)) (n - 1 - k) (by omega) (UInt8.ofNat (N / 256 ^ k))
      rw [laid_next hlt, ← hval, Nat.zero_add] at ho
      have R1 := Lib.hid (And.intro ho (hR.out.2.setCell (p := ⟨w'.heap.size, n - 1 - k, none⟩) (.inr (Nat.le_refl _)) (.int .u8 ((x : Int) / 2 ^ (8 * (k % 8)) % 256))))
      clear hval ho hby
      go_wp2
      go_roundw
      case rel => exact ⟨k + 1, by omega, by go_num, R1⟩
      case measure => simp [intOf]; omega
    · obtain rfl : k = n := by omega
      go_wp2
      go_ret
      obtain ⟨r1, r2⟩ := hR.out
      rw [laid_all] at r1
      have e : k = blen N := HNN.out.symm.trans HB1.out
      unfold natB
      rw [← e]
      exact ⟨_, rfl, r1, r2, fun i hi => by simp [Value.ownBlock] at hi; omega⟩

theorem NBytes_any {w : World} {v : Value} {ls : List Nat} (h : RN w v ls) (hL : Lim ls) (hl : ls.length ≤ 10000000000) : Calls Try.prog 35 #[v] w (GRes w (natB (dval 18446744073709551616 ls))) := by
  rcases RdM.open h with ⟨h0, rfl⟩ | ⟨g, off, cap, rfl, _⟩
  · obtain ⟨a0, rfl⟩ := h0.form
    have HB := Lib.hid (Bits_any h hL (by omega))
    clear h hL
    go_enter Try.func35, Try.ntmps35
    go_wp2_with fail
    refine HB.out.mono ?_
    rintro e w' ⟨⟨b, ⟨hb1, hb2⟩, rfl⟩, rfl⟩
    obtain rfl : b = 0 := by simpa using hb2
    clear HB hb1 hb2
    go_wp2_with (refine wpList_mkb rfl (.tmp 10) (.tmp 10) (by rfl) .i64 .i64 0 (by rfl) (by rfl) (by omega) ?_; intro w2 o2 m2 z2; have R0 := Lib.hid (And.intro o2 m2); clear o2 m2 z2)
    refine wp_loop_rounds 1 ?_
    rw [rounds_succ]
    go_wp2
    go_ret
    exact ⟨_, rfl, R0.out.1, R0.out.2, fun i hi => by simp [Value.ownBlock] at hi; omega⟩
  · exact Bytes_walk h hL hl

end Go.Proofs.Ytnkbbclcileleaa

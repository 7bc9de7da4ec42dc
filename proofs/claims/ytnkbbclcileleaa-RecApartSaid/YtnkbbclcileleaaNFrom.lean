/- nat.FromBytes: the number that bytes say. -/
import Derived.Test.YtnkbbclcileleaaNBytes
import Derived.Test.YtnkbbclcileleaaNumT
import Derived.StillTailTactics
namespace Go.Gl

theorem dval_set {B : Nat} (c : Nat) : ∀ (ds : List Nat) (i : Nat) (hi : i < ds.length), dval B (ds.set i (ds[i] + c)) = dval B ds + c * B ^ i := by
  intro ds
  induction ds with
  | nil => intro i hi; simp at hi
  | cons d ds ih =>
    intro i hi
    rcases i with _ | i
    · simp [dval]; omega
    · have := ih i (by simpa using hi)
      simp only [List.set_cons_succ, List.getElem_cons_succ, dval, this, Nat.mul_add, Nat.pow_succ]
      rw [Nat.add_assoc, Nat.mul_comm B (c * B ^ i), Nat.mul_assoc]

theorem lim_set {ls : List Nat} (h : Lim ls) (i x : Nat) (hx : x ≤ 18446744073709551615) : Lim (ls.set i x) := by
  intro y hy
  rcases List.mem_or_eq_of_mem_set hy with hy | hy
  · exact h y hy
  · omega

theorem num_drop (xs : List UInt8) (k : Nat) (h : k < xs.length) : num (xs.drop (xs.length - (k + 1))) = num (xs.drop (xs.length - k)) + (xs[xs.length - 1 - k]'(by omega)).toNat * 256 ^ k := by
  have e : xs.length - (k + 1) < xs.length := by omega
  rw [List.drop_eq_getElem_cons e, num_cons]
  have e2 : xs.length - (k + 1) + 1 = xs.length - k := by omega
  have e3 : xs.length - 1 - k = xs.length - (k + 1) := by omega
  rw [e2, List.length_drop]
  have e4 : xs.length - (xs.length - k) = k := by omega
  rw [e4]
  simp only [e3]
  omega

/-- the limb that the next byte goes to is not reached above that byte's place -/
theorem limb_small {ls : List Nat} (h : Lim ls) (k : Nat) (hk : k / 8 < ls.length) (hd : dval 18446744073709551616 ls < 256 ^ k) : ls[k / 8] < 256 ^ (k % 8) := by
  have h1 := dval_get (B := 18446744073709551616) ls (fun x hx => by have := h x hx; omega) (k / 8) hk
  rw [← h1]
  refine Nat.lt_of_le_of_lt (Nat.mod_le _ _) ?_
  refine Nat.div_lt_of_lt_mul ?_
  rw [show (18446744073709551616 : Nat) = 256 ^ 8 from by decide, ← Nat.pow_mul, ← Nat.pow_add, show 8 * (k / 8) + k % 8 = k from Nat.div_add_mod k 8]
  exact hd

theorem or_add_pow (x c s : Nat) (h : x < 2 ^ s) : x ||| (c * 2 ^ s) = x + c * 2 ^ s := by
  have := Nat.shiftLeft_add_eq_or_of_lt (b := x) (i := s) h c
  rw [Nat.shiftLeft_eq] at this
  rw [Nat.or_comm, ← this, Nat.add_comm]

end Go.Gl
namespace Go.Proofs.Ytnkbbclcileleaa
open Go.Gl Go.RowKit
set_option linter.unusedVariables false
set_option maxRecDepth 100000

/-- 'x | y' on 64-bit numbers -/
theorem or_u64 (x y : Nat) (hx : x ≤ 18446744073709551615) (hy : y ≤ 18446744073709551615) : bits .or .u64 (x : Int) (y : Int) = ((x ||| y : Nat) : Int) := by
  unfold bits
  have e1 : (BitVec.ofInt 64 ((x : Nat) : Int)) = BitVec.ofNat 64 x := BitVec.ofInt_natCast ..
  have e2 : (BitVec.ofInt 64 ((y : Nat) : Int)) = BitVec.ofNat 64 y := BitVec.ofInt_natCast ..
  show IntKind.u64.wrap (((BitVec.ofInt 64 ((x : Nat) : Int)) ||| (BitVec.ofInt 64 ((y : Nat) : Int))).toNat : Int) = _
  have h2 : x ||| y < 2 ^ 64 := Nat.or_lt_two_pow (by omega) (by omega)
  rw [e1, e2, BitVec.toNat_or, BitVec.toNat_ofNat, BitVec.toNat_ofNat, Nat.mod_eq_of_lt (by omega), Nat.mod_eq_of_lt (by omega), IntKind.wrap_u64]
  omega

theorem from_val (x y r : Nat) (hy : y < 2 ^ 8) (hr : r < 8) (hx : x < 256 ^ r) : bits .or .u64 (x : Int) (IntKind.u64.wrap ((y : Int) * 2 ^ (8 * r))) = ((x + y * 256 ^ r : Nat) : Int) := by
  have e : (256 : Nat) ^ r = 2 ^ (8 * r) := by rw [show (256 : Nat) = 2 ^ 8 from rfl, ← Nat.pow_mul]
  rw [e] at hx ⊢
  have h1 : 2 ^ (8 * r) ≤ 2 ^ 56 := Nat.pow_le_pow_right (by decide) (by omega)
  have h2 : y * 2 ^ (8 * r) ≤ 255 * 2 ^ 56 := Nat.mul_le_mul (by omega) h1
  have h3 : IntKind.u64.wrap ((y : Int) * 2 ^ (8 * r)) = ((y * 2 ^ (8 * r) : Nat) : Int) := by
    have h4 : ((y : Int) * 2 ^ (8 * r)) = ((y * 2 ^ (8 * r) : Nat) : Int) := by simp
    rw [h4, IntKind.wrap_u64]
    omega
  rw [h3, or_u64 _ _ (by omega) (by omega), or_add_pow _ _ _ hx]

theorem from_new (x y k : Nat) (hy : y < 2 ^ 8) (hx : x < 256 ^ (k % 8)) : x + y * 256 ^ (k % 8) ≤ 18446744073709551615 := by
  have h1 : 256 ^ (k % 8) ≤ 256 ^ 7 := Nat.pow_le_pow_right (by decide) (by omega)
  have h2 : y * 256 ^ (k % 8) ≤ 255 * 256 ^ (k % 8) := Nat.mul_le_mul_right _ (by omega)
  have e : (256 : Nat) ^ 7 = 72057594037927936 := by decide
  omega

set_option maxHeartbeats 1000000 in
theorem From_walk {w : World} {ga off n c0 : Nat} {bs : List UInt8} (h : Rd w (.slice (some ⟨ga, off, none⟩) n c0) bs) (hn : bs.length = n) (hl : n ≤ 10000000000) (hpos : 0 < n) (h0 : bs[0]? ≠ some 0) :
    Calls Try.prog 93 #[.slice (some ⟨ga, off, none⟩) n c0] w fun e w' => ∃ v, e = .returned (.tuple #[v, .int .i64 0]) ∧ RN w' v (dig 18446744073709551616 (num bs)) ∧ Mods noB w w' ∧ freshIn w v := by
  have cc : ∀ i (hi : i < bs.length), w.cell? ⟨ga, off + i, none⟩ = some (.int .u8 (bs[i]).toNat) := by
    rcases h.open with ⟨h1, _⟩ | ⟨g', off', cap', h1, _, _, _, h5⟩
    · exact h1.no.elim
    · cases h1; exact h5
  obtain ⟨c, ct0, hcb⟩ : ∃ c : Int, w.cell? ⟨ga, off, none⟩ = some (.int .u8 c) ∧ (c == 0) = false := by
    refine ⟨_, cc 0 (by omega), ?_⟩
    have h1 := h0
    rw [List.getElem?_eq_getElem (by omega)] at h1
    simp only [beq_eq_false_iff_ne]
    intro h2
    exact h1 (by rw [show bs[0] = 0 from UInt8.toNat_inj.1 (by simpa using h2)])
  have HC := Lib.hid cc
  have HN := Lib.hid hn
  have H := Lib.hid h
  have hq : ((n : Int) + 7) / 8 = (((n + 7) / 8 : Nat) : Int) := by omega
  obtain ⟨m, hm⟩ : ∃ m, (n + 7) / 8 = m := ⟨_, rfl⟩
  rw [hm] at hq
  clear cc h h0 hn
  have hnpos : (0 : Int) < (n : Int) := by omega
  go_enter Try.func93, Try.ntmps93
  go_wp2_with (refine wpList_mkn 28 Try.underlying28 rfl (.tmp 18) (.tmp 18) (by rfl) .i64 .i64 m (congrArg (Value.int .i64) hq) (congrArg (Value.int .i64) hq) (by omega) ?_; intro w2 o2 m2 z2; have R0 : Hid (∃ ls : List Nat, ls.length = m ∧ Lim ls ∧ dval 18446744073709551616 ls = num (bs.drop (n - 0)) ∧ ON 22 w2 (.slice (some ⟨w.heap.size, 0, none⟩) m m) ls ∧ Mods noB w w2) := ⟨List.replicate m 0, by simp, fun x hx => by rw [List.eq_of_mem_replicate hx]; omega, by rw [Nat.sub_zero, List.drop_of_length_le (by rw [HN.out]; omega), ← dval_strip, strip_zero (fun x hx => List.eq_of_mem_replicate hx)]; rfl, o2, m2⟩; clear o2 m2 z2)
  clear hq ct0 hcb
  go_loopw [22] (fun i wr => ∃ k : Nat, k ≤ n ∧ i = .int .i64 k ∧ Hid (∃ ls : List Nat, ls.length = m ∧ Lim ls ∧ dval 18446744073709551616 ls = num (bs.drop (n - k)) ∧ ON 22 wr (.slice (some ⟨w.heap.size, 0, none⟩) m m) ls ∧ Mods noB w wr)) (fun i _ => n - (intOf i).toNat)
  case atStart => exact ⟨0, Nat.zero_le _, rfl, R0⟩
  case round =>
    obtain ⟨k, hk, rfl, hR⟩ := hrel
    clear R0
    obtain ⟨ls, l1, l2, l3, l4, l5⟩ := hR.out
    by_cases hlt : k < n
    · have hk8 : k / 8 < m := by omega
      have lb : n - 1 - k < bs.length := by rw [HN.out]; omega
      have c1 := (l5.cellAt (H.out.ltn (by rw [HN.out]; omega) ga rfl) (fun x => x) (off + (n - 1 - k))).trans (HC.out (n - 1 - k) lb)
      have hlq : k / 8 < ls.length := by omega
      obtain ⟨gg, oo, cc, cur, hv, hg, _, _, hsz, hcu⟩ := (OwnM.open l4).resolve_left (by rintro ⟨hh, _⟩; cases hh)
      rw [l1] at hv
      cases hv
      have c2 := (cells_of hg (0 + k / 8)).trans (hcu (k / 8) hlq)
      have f2 := free_of hg (0 + k / 8)
      simp only [Nat.zero_add] at c2 f2
      have hxl : ls[k / 8] ≤ 18446744073709551615 := l2 _ (List.getElem_mem hlq)
      have hnk : n - 1 - k < n := by omega
      have hdp := Lib.hid (num_drop bs k (by rw [HN.out]; exact hlt))
      have hsm := Lib.hid (limb_small l2 k hlq (by rw [l3]; have := num_lt (bs.drop (n - k)); rw [List.length_drop, HN.out, show n - (n - k) = k from by omega] at this; exact this))
      have hb := (bs[n - 1 - k]).toNat_lt
      have L := Lib.hid (And.intro l2 (And.intro l3 (And.intro l4 l5)))
      have L1 := Lib.hid l1
      clear hcu hg hsz l2 l3 l4 l5 l1 hR
      have HBx := Lib.hid (show (bs[n - 1 - k]).toNat = (bs[n - 1 - k]).toNat from rfl)
      generalize hlx : ls[k / 8] = x at *
      generalize hby : (bs[n - 1 - k]).toNat = y at *
      have HX := Lib.hid hlx
      have HY := Lib.hid hby
      clear hlx hby HBx
      go_wp2
      have t1 : ((k : Int) / 8).toNat = k / 8 := by omega
      have t2 : ((n : Int) - 1 - (k : Int)).toNat = n - 1 - k := by omega
      have t3 : (8 * ((k : Int) % 8)).toNat = 8 * (k % 8) := by omega
      have b1 : (0 : Int) ≤ (k : Int) / 8 := by omega
      have b2 : (k : Int) / 8 < (m : Int) := by omega
      have b3 : (0 : Int) ≤ (n : Int) - 1 - (k : Int) := by omega
      have b4 : (n : Int) - 1 - (k : Int) < (n : Int) := by omega
      have b6 : (k : Int) ≤ (n : Int) - 1 := by omega
      have b5 : (0 : Int) ≤ 8 * ((k : Int) % 8) := by omega
      have w1 : IntKind.i64.wrap ((k : Int) / 8) = (k : Int) / 8 := IntWalk.i64_in _ (by omega)
      have w2' : IntKind.i64.wrap ((n : Int) - 1) = (n : Int) - 1 := IntWalk.i64_in _ (by omega)
      have w3 : IntKind.i64.wrap ((n : Int) - 1 - (k : Int)) = (n : Int) - 1 - (k : Int) := IntWalk.i64_in _ (by omega)
      have w4 : IntKind.i64.wrap ((k : Int) % 8) = (k : Int) % 8 := IntWalk.i64_in _ (by omega)
      have w5 : IntKind.i64.wrap (8 * ((k : Int) % 8)) = 8 * ((k : Int) % 8) := IntWalk.i64_in _ (by omega)
      have w6 : ((k : Int)).tmod 8 = (k : Int) % 8 := Int.tmod_eq_emod_of_nonneg (by omega)
      have w7 : IntKind.u64.wrap (y : Int) = (y : Int) := by rw [IntKind.wrap_u64]; omega
      go_still_tail 20, (by kernel_rfl)
      change wpList _ _ _ _ _ wr.drew
      clear t1 t2 t3 b1 b2 b3 b4 b5 b6 w1 w2' w3 w4 w5 w6 w7
      have hval : bits .or .u64 (x : Int) (IntKind.u64.wrap ((y : Int) * 2 ^ (8 * (k % 8)))) = ((x + y * 256 ^ (k % 8) : Nat) : Int) := from_val x y (k % 8) hb (Nat.mod_lt _ (by decide)) hsm.out
      have hnew := from_new x y k hb hsm.out
      rw [hval]
      obtain ⟨l2, l3, l4, l5⟩ := L.out
      have R1 : Hid (∃ ls' : List Nat, ls'.length = m ∧ Lim ls' ∧ dval 18446744073709551616 ls' = num (bs.drop (n - (k + 1))) ∧ ON 22 (wr.drew.setCell ⟨w.heap.size, k / 8, none⟩ (.int .u64 ((x + y * 256 ^ (k % 8) : Nat) : Int))) (.slice (some ⟨w.heap.size, 0, none⟩) m m) ls' ∧ Mods noB w (wr.drew.setCell ⟨w.heap.size, k / 8, none⟩ (.int .u64 ((x + y * 256 ^ (k % 8) : Nat) : Int)))) := by
        refine ⟨ls.set (k / 8) (x + y * 256 ^ (k % 8)), by rw [List.length_set, L1.out], lim_set l2 _ _ hnew, ?_, ?_, (l5.drew).setCell (.inr (Nat.le_refl _)) _⟩
        · have h1 := dval_set (B := 18446744073709551616) (y * 256 ^ (k % 8)) ls (k / 8) hlq
          rw [HX.out] at h1
          have h2 := hdp.out
          simp only [HN.out] at h2
          rw [HY.out] at h2
          rw [h1, l3, h2, Nat.mul_assoc]
          congr 2
          rw [show (18446744073709551616 : Nat) = 256 ^ 8 from by decide, ← Nat.pow_mul, ← Nat.pow_add, Nat.add_comm, show 8 * (k / 8) + k % 8 = k from Nat.div_add_mod k 8]
        · have h1 := ownM_set (f := u64) (OwnM.keep l4 ((Mods.refl noB wr).drew) (fun _ _ x => x)) L1.out (k / 8) hk8 (x + y * 256 ^ (k % 8))
          rw [Nat.zero_add] at h1
          exact h1
      have c3 : wr.drew.cell? ⟨w.heap.size, k / 8, none⟩ = some (u64 x) := c2
      have f3 : wr.drew.frozen? ⟨w.heap.size, k / 8, none⟩ = false := f2
      clear hval hnew l2 l3 l4 l5 c2 f2 c1
      generalize ((x + y * 256 ^ (k % 8) : Nat) : Int) = nv at *
      generalize wr.drew = wd at *
      go_wp2
      go_roundw
      case rel => exact ⟨k + 1, by omega, by go_num, R1⟩
      case measure => simp [intOf]; omega
    · obtain rfl : k = n := by omega
      have R := Lib.hid (And.intro l2 (And.intro l3 (And.intro l4 l5)))
      clear hR l1 l2 l3 l4 l5
      go_wp2_with fail
      refine (trim_any R.out.2.2.1.rd).mono ?_
      rintro e w9 ⟨⟨v9, rfl, hr9, hb9⟩, rfl⟩
      have R9 := Lib.hid (And.intro hr9 hb9)
      clear hr9 hb9
      go_wp2
      go_ret2
      obtain ⟨l2, l3, l4, l5⟩ := R.out
      obtain ⟨r1, r2⟩ := R9.out
      refine ⟨v9, rfl, ?_, l5, fun i hi => ?_⟩
      · rw [strip_dig (B := 18446744073709551616) (by decide) (fun x hx => by have := l2 x hx; omega), l3, Nat.sub_self, List.drop_zero] at r1
        exact r1
      · have := r2 i hi
        simp [Value.ownBlock] at this
        omega

/-- what FromBytes tells -/
def FromRes (bs : List UInt8) (w : World) (e : Ending) (w' : World) : Prop :=
  (bs[0]? = some 0 ∧ e = .returned (.tuple #[.slice none 0 0, .int .i64 13]) ∧ w' = w) ∨
  (bs[0]? ≠ some 0 ∧ ∃ v, e = .returned (.tuple #[v, .int .i64 0]) ∧ RN w' v (dig 18446744073709551616 (num bs)) ∧ Mods noB w w' ∧ freshIn w v)

theorem From_zero {w : World} {ga off n c0 : Nat} {bs : List UInt8} (h : Rd w (.slice (some ⟨ga, off, none⟩) n c0) bs) (hn : bs.length = n) (hl : n ≤ 10000000000) (h0 : bs[0]? = some 0) :
    Calls Try.prog 93 #[.slice (some ⟨ga, off, none⟩) n c0] w fun e w' => e = .returned (.tuple #[.slice none 0 0, .int .i64 13]) ∧ w' = w := by
  have hpos : 0 < n := by
    rcases Nat.eq_zero_or_pos n with hz | hz
    · rw [List.eq_nil_of_length_eq_zero (hn.trans hz)] at h0
      cases h0
    · exact hz
  have cc : w.cell? ⟨ga, off, none⟩ = some (.int .u8 0) := by
    rcases h.open with ⟨h1, _⟩ | ⟨g', off', cap', h1, _, _, _, h5⟩
    · exact h1.no.elim
    · cases h1
      have h2 := h5 0 (by omega)
      rw [List.getElem?_eq_getElem (by omega)] at h0
      rw [Option.some.inj h0] at h2
      exact h2
  have hnpos : (0 : Int) < (n : Int) := by omega
  clear h h0
  go_enter Try.func93, Try.ntmps93
  go_wp2
  go_ret2
  exact ⟨rfl, rfl⟩

theorem From_nil {w : World} {a : Option Addr} {c0 : Nat} :
    Calls Try.prog 93 #[.slice a 0 c0] w fun e w' => ∃ v, e = .returned (.tuple #[v, .int .i64 0]) ∧ RN w' v [] ∧ Mods noB w w' ∧ freshIn w v := by
  go_enter Try.func93, Try.ntmps93
  go_wp2_with (refine wpList_mkn 28 Try.underlying28 rfl (.tmp 18) (.tmp 18) (by rfl) .i64 .i64 0 (by rfl) (by rfl) (by omega) ?_; intro w2 o2 m2 z2; have R := Lib.hid (And.intro o2 m2); clear o2 m2 z2)
  refine wp_loop_rounds 1 ?_
  rw [rounds_succ]
  go_wp2_with fail
  refine (trim_any R.out.1.rd).mono ?_
  rintro e w9 ⟨⟨v9, rfl, hr9, hb9⟩, rfl⟩
  have R9 := Lib.hid (And.intro hr9 hb9)
  clear hr9 hb9
  go_wp2
  go_ret2
  refine ⟨v9, rfl, R9.out.1, R.out.2, fun i hi => ?_⟩
  have := R9.out.2 i hi
  simp [Value.ownBlock] at this
  omega

theorem From_any {w : World} {v : Value} {bs : List UInt8} (h : Rd w v bs) (hl : bs.length ≤ 10000000000) : Calls Try.prog 93 #[v] w (FromRes bs w) := by
  rcases Nat.eq_zero_or_pos bs.length with hz | hz
  · obtain ⟨a, c, rfl, _⟩ := h.form
    rw [hz]
    have e := List.eq_nil_of_length_eq_zero hz
    subst e
    exact From_nil.mono fun e w' he => .inr ⟨by simp, he⟩
  · rcases h.open with ⟨_, rfl⟩ | ⟨g, off, cap, rfl, _⟩
    · simp at hz
    · by_cases h0 : bs[0]? = some 0
      · exact (From_zero h rfl hl h0).mono fun e w' he => .inl ⟨h0, he⟩
      · exact (From_walk h rfl hl hz h0).mono fun e w' he => .inr ⟨h0, he⟩

end Go.Proofs.Ytnkbbclcileleaa

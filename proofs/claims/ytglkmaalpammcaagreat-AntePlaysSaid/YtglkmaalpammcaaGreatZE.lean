/- Parts of the proof, one behind the other: NTrim, Len64, NBits, NBytes, EWrN, NumT, RRdr, ERd, ERd2, NFrom, ERdN, ERdP, ERdS, RStp, RecP, RecG, BkP, An0, SepI, EKnown, Thr, ThrR, RecF, BEq. -/
import Derived.Test.YtglkmaalpammcaaGreatZD
import Derived.Shelf.Strconv.Itoa0
import Derived.Test.YtglkmaalpammcaaGreatProg
import Derived.Lib.ItoaNum
import Derived.LoopN
import Derived.Test.YtglkmaalpammcaaGreatZA
import Derived.StillTailTactics
import Derived.Test.YtglkmaalpammcaaGreatZB
import Derived.Deep.RegionHeld3
import Derived.Lib.BufferRead
set_option linter.unusedSimpArgs false
set_option linter.unusedVariables false
set_option maxRecDepth 100000
namespace Go.Gl
theorem strip_append_zero (ds es : List Nat) (h : ∀ x ∈ es, x = 0) : strip (ds ++ es) = strip ds := by
 induction ds with
 | nil => exact strip_zero h
 | cons d ds ih => rw [List.cons_append, strip, ih, strip]
theorem strip_at_end {ls : List Nat} {k : Nat} (hk : k ≤ ls.length) (h0 : ∀ i (hi : i < ls.length), k ≤ i → ls[i] = 0) (h1 : k = 0 ∨ ∃ hk : k - 1 < ls.length, ls[k - 1] ≠ 0) : strip ls = ls.take k := by
 have e : ls = ls.take k ++ ls.drop k := (List.take_append_drop k ls).symm
 have hz : ∀ x ∈ ls.drop k, x = 0 := by
  intro x hx
  obtain ⟨i, hi, rfl⟩ := List.getElem_of_mem hx
  rw [List.getElem_drop]
  exact h0 _ _ (by omega)
 have e1 : strip ls = strip (ls.take k) := by
  conv => lhs; rw [e]
  exact strip_append_zero _ _ hz
 rw [e1]
 rcases h1 with rfl | ⟨hk2, h2⟩
 ·rfl
 ·rcases k with _ | k
  ·rfl
  ·simp only [Nat.add_sub_cancel] at hk2 h2
   rw [List.take_succ_eq_append_getElem hk2]
   exact strip_last h2
end Go.Gl
namespace Go.Proofs.YtglkmaalpammcaaGreat
open Go.Gl Go.RowKit
theorem rtrim_walk (ax : Option Addr) (nx cx : Nat) (ls : List Nat) (w : World) (hx : ls.length = nx) (hnc : nx ≤ cx) (hcm : cx ≤ 9223372036854775807) (kx : nx = 0 ∨ ∃ g off, ax = some ⟨g, off, none⟩ ∧ ∀ i (hi : i < ls.length), w.cell? ⟨g, off + i, none⟩ = some (u64 ls[i])) :
  Calls Tryz.prog 233 #[.slice ax nx cx] w fun e w' => (∃ k, k ≤ nx ∧ strip ls = ls.take k ∧ e = .returned (.slice ax k cx)) ∧ w' = w := by
 have HX := Lib.hid hx
 have KX := Lib.hid kx
 clear hx kx
 go_enter Tryz.func233, Tryz.ntmps233
 go_wp2
 go_loop [3] (fun n => ∃ k : Nat, k ≤ nx ∧ n = .int .i64 k ∧ Hid (∀ i (hi : i < ls.length), k ≤ i → ls[i] = 0)) (fun n => (intOf n).toNat)
 case atStart => exact ⟨nx, Nat.le_refl _, rfl, fun i hi h => by have := HX.out; omega⟩
 case round =>
  obtain ⟨k, hk, rfl, hR⟩ := hrel
  rcases k with _ | j
  ·go_wp2
   go_ret
   exact ⟨⟨0, Nat.zero_le _, strip_at_end (Nat.zero_le _) hR.out (.inl rfl), rfl⟩, rfl⟩
  ·have lj : j < ls.length := by rw [HX.out]; omega
   obtain ⟨g', off, hax, c1⟩ := KX.out.resolve_left (by omega)
   have c2 := c1 j lj
   clear c1 KX
   subst hax
   by_cases hz : ls[j] = 0
   ·rw [hz] at c2
    have HZ := Lib.hid hz
    clear hz
    go_wp2
    go_round
    case rel =>
     refine ⟨j, by omega, by go_num, fun i hi h => ?_⟩
     by_cases he : i = j
     ·subst he; exact HZ.out
     ·exact hR.out i hi (by omega)
    case measure => simp [intOf]
   ·have hb : (((ls[j] : Nat) : Int) == 0) = false := by simp; omega
    have HZ := Lib.hid hz
    generalize hx : ls[j] = x at *
    have HX2 := Lib.hid hx
    clear hz hx
    go_wp2
    go_ret
    exact ⟨⟨j + 1, hk, strip_at_end (by rw [HX.out]; omega) hR.out (.inr ⟨by simpa using lj, by simpa [HX2.out] using HZ.out⟩), rfl⟩, rfl⟩
theorem RN.cells {w : World} {a : Option Addr} {n c : Nat} {ls : List Nat} (h : RN w (.slice a n c) ls) : ls.length = n ∧ n ≤ c ∧ c ≤ 9223372036854775807 ∧ (n = 0 ∨ ∃ g off, a = some ⟨g, off, none⟩ ∧ ∀ i (hi : i < ls.length), w.cell? ⟨g, off + i, none⟩ = some (u64 ls[i])) := by
 rcases RdM.open h with ⟨h1, rfl⟩ | ⟨g, off, cap, h1, h2, h3, h4, h5⟩
 ·obtain ⟨rfl, rfl⟩ := h1.none
  exact ⟨rfl, Nat.le_refl _, by omega, .inl rfl⟩
 ·cases h1
  exact ⟨rfl, h2, by simp only [maxLen] at h3; omega, .inr ⟨g, off, rfl, h5⟩⟩
theorem RN.take {w : World} {a : Option Addr} {n c : Nat} {ls : List Nat} (h : RN w (.slice a n c) ls) (k c' : Nat) (hk : k ≤ n) (hc : k ≤ c') (hc' : c' ≤ maxLen) (hnil : n = 0 → c = 0 → c' = 0) : RN w (.slice a k c') (ls.take k) := by
 rcases RdM.open h with ⟨h1, rfl⟩ | ⟨g, off, cap, h1, h2, h3, h4, h5⟩
 ·obtain ⟨rfl, rfl⟩ := h1.none
  obtain rfl : k = 0 := by omega
  rw [hnil rfl rfl]
  exact ⟨rfl, .inl ⟨h1, rfl⟩⟩
 ·cases h1
  refine rdM_of (by rw [List.length_take]; omega) hc hc' (h4.imp (fun x => by omega) id) (fun i hi => ?_)
  rw [List.getElem_take]
  exact h5 i (by rw [List.length_take] at hi; omega)
def TrimRes (ls : List Nat) (w : World) (v : Value) (e : Ending) (w' : World) : Prop := (∃ v', e = .returned v' ∧ RN w v' (strip ls) ∧ ∀ k, v'.ownBlock = some k → v.ownBlock = some k) ∧ w' = w
theorem ownBlock_slice {a : Option Addr} {n c n' c' k : Nat} (h : (Value.slice a n c).ownBlock = some k) : (Value.slice a n' c').ownBlock = some k := by cases a <;> exact h
theorem rtrim_any {w : World} {v : Value} {ls : List Nat} (h : RN w v ls) : Calls Tryz.prog 233 #[v] w (TrimRes ls w v) := by
 obtain ⟨a, c, rfl, _⟩ := RdM.form h
 obtain ⟨h1, h2, h3, h4⟩ := RN.cells h
 refine (rtrim_walk a _ c ls w h1 h2 h3 h4).mono ?_
 rintro e w' ⟨⟨k, hk, hs, rfl⟩, rfl⟩
 rw [TrimRes, hs]
 refine ⟨⟨_, rfl, RN.take h k c hk (by omega) (by simp only [maxLen]; omega) (fun _ h => h), fun i hi => ownBlock_slice hi⟩, rfl⟩
end Go.Proofs.YtglkmaalpammcaaGreat
namespace Go.Proofs.YtglkmaalpammcaaGreat
open Go.Shelf
end Go.Proofs.YtglkmaalpammcaaGreat
namespace Go.Gl
theorem dval_snoc (B : Nat) (ds : List Nat) (d : Nat) : dval B (ds ++ [d]) = dval B ds + B ^ ds.length * d := by
 rw [dval_append]; simp [dval]
def blen (N : Nat) : Nat := (dig 256 N).length
def natB (N : Nat) : List UInt8 := be (blen N) N
theorem dig_len {B n N : Nat} (hB : 1 < B) (h1 : N < B ^ (n + 1)) (h2 : B ^ n ≤ N) : (dig B N).length = n + 1 := by
 have hp : 0 < B ^ n := Nat.pow_pos (by omega)
 have hq : N / B ^ n % B ≠ 0 := by
  have h3 : 1 ≤ N / B ^ n := (Nat.one_le_div_iff hp).2 h2
  have h4 : N / B ^ n < B := Nat.div_lt_of_lt_mul (by rw [Nat.pow_succ] at h1; exact h1)
  rw [Nat.mod_eq_of_lt h4]
  omega
 have h5 : ldig B (n + 1) N = (ldig B (n + 1) N).take n ++ [N / B ^ n % B] := by
  have hl := ldig_length B (n + 1) N
  have hg := ldig_get B (n + 1) N n (by omega)
  have hlt : n < (ldig B (n + 1) N).length := by omega
  rw [List.getElem?_eq_getElem hlt] at hg
  have := List.take_succ_eq_append_getElem hlt
  rw [List.take_of_length_le (by omega), Option.some.inj hg] at this
  exact this
 rw [dig_ldig hB h1, h5, strip_last hq]
 simp [ldig_length]
end Go.Gl
namespace Go.Proofs.YtglkmaalpammcaaGreat
open Go.Gl Go.RowKit
end Go.Proofs.YtglkmaalpammcaaGreat
namespace Go.Gl
end Go.Gl
namespace Go.Proofs.YtglkmaalpammcaaGreat
open Go.Gl Go.RowKit
def GRes (w : World) (xs : List UInt8) (e : Ending) (w' : World) : Prop := ∃ v, e = .returned v ∧ Gl.Own w' v xs ∧ Mods noB w w' ∧ freshIn w v
end Go.Proofs.YtglkmaalpammcaaGreat
namespace Go.Proofs.YtglkmaalpammcaaGreat
open Go.Gl Go.RowKit
def natL (N : Nat) : List UInt8 := be 1 (blen N) ++ natB N
theorem natB_length (N : Nat) : (natB N).length = blen N := be_length _ _
theorem Wr.then0 {w wy : World} {g : Nat} {v : Value} {xs : List UInt8} {e : Int} (h : Wr w g v xs e) (hm : Mods noB w wy) : Wr wy g v xs e :=
 ⟨hm.heap h.heap (fun x => x), h.own.keep hm (fun _ _ x => x), h.apart⟩
end Go.Proofs.YtglkmaalpammcaaGreat
namespace Go.Proofs.YtglkmaalpammcaaGreat
open Go.Gl Go.RowKit
theorem num_take (xs : List UInt8) (k : Nat) (h : k < xs.length) : num (xs.take (k + 1)) = num (xs.take k) * 256 + (xs[k]).toNat := by
 rw [List.take_succ_eq_append_getElem h, num_snoc]
theorem num_take_lt (xs : List UInt8) (k : Nat) (hx : xs.length ≤ 8) (h : k < xs.length) : num (xs.take k) < 72057594037927936 := by
 have := num_lt (xs.take k)
 have h1 : (xs.take k).length ≤ 7 := by rw [List.length_take]; omega
 have h2 : 256 ^ (xs.take k).length ≤ 256 ^ 7 := Nat.pow_le_pow_right (by decide) h1
 have h3 : (256 : Nat) ^ 7 = 72057594037927936 := by decide
 omega
theorem ret_u64 {a b : Int} (h : a = b) : Ending.returned (.int .u64 a) = .returned (.int .u64 b) := by rw [h]
end Go.Proofs.YtglkmaalpammcaaGreat
namespace Go.Proofs.YtglkmaalpammcaaGreat
open Go.Gl Go.RowKit
structure RR (w : World) (g : Nat) (vB : Value) (xs : List UInt8) (err : Int) : Prop where
 heap : w.heap[g]? = some (.cells #[vB, .int .i64 err] 249 (0, 0))
 rd : Rd w vB xs
 apart : vB.ownBlock ≠ some g
def rtakeY (n : Nat) (xs : List UInt8) (err : Int) : List UInt8 := if err = 0 then (if n ≤ xs.length then xs.take n else []) else []
def rtakeX (n : Nat) (xs : List UInt8) (err : Int) : List UInt8 := if err = 0 then (if n ≤ xs.length then xs.drop n else xs) else xs
def rtakeE (n : Nat) (xs : List UInt8) (err : Int) : Int := if err = 0 then (if n ≤ xs.length then 0 else 40) else err
structure RStep (w : World) (g : Nat) (vB : Value) (xs : List UInt8) (err : Int) (w' : World) : Prop where
 st : ∃ vB', RR w' g vB' xs err ∧ (∀ k, vB'.ownBlock = some k → vB.ownBlock = some k)
 mods : Mods (fun k => k = g) w w'
theorem Mods.one (w : World) (g o : Nat) (u : Value) : Mods (fun k => k = g) w (w.setCell ⟨g, o, none⟩ u) := (Mods.refl (fun k => k = g) w).setCell (.inl (by rfl)) u
theorem RR.lt {w : World} {g : Nat} {vB : Value} {xs : List UInt8} {err : Int} (h : RR w g vB xs err) : g < w.heap.size := lt_of_heap h.heap
theorem RR.keep {S : Nat → Prop} {w w' : World} {g : Nat} {vB : Value} {xs : List UInt8} {err : Int} (h : RR w g vB xs err) (hm : Mods S w w') (hg : ¬ S g) (hv : ∀ k, vB.ownBlock = some k → ¬ S k) : RR w' g vB xs err :=
 ⟨hm.heap h.heap hg, h.rd.keep hm hv, h.apart⟩
theorem Rd.drop {w : World} {g off n cap : Nat} {xs : List UInt8} (h : Rd w (.slice (some ⟨g, off, none⟩) xs.length cap) xs) (hn : n ≤ xs.length) : Rd w (.slice (if cap = n then some ⟨g, off, none⟩ else some ⟨g, off + n, none⟩) (xs.length - n) (cap - n)) (xs.drop n) := by
 rcases h.open with ⟨h1, _⟩ | ⟨g', off', cap', h1, h2, h3, h4, h5⟩
 ·exact h1.no.elim
 ·cases h1
  by_cases hc : cap = n
  ·rw [if_pos hc]
   obtain rfl : n = xs.length := by omega
   rw [List.drop_length, Nat.sub_self]
   exact ⟨rfl, .inr ⟨g, off, _, rfl, Nat.zero_le _, by omega, .inl rfl, fun j u hj => by simp [bv] at hj⟩⟩
  ·rw [if_neg hc]
   refine ⟨by rw [bv_length, Nat.mul_one], .inr ⟨_, _, _, by rw [List.length_drop], by rw [List.length_drop]; omega, by omega, h4.imp (fun x => by rw [List.length_drop]; omega) id, fun j u hj => ?_⟩⟩
   have hj' : j < (xs.drop n).length := by have := (List.getElem?_eq_some_iff.1 hj).1; simpa [bv_length] using this
   rw [bv_get _ j hj'] at hj
   rw [← hj, Nat.add_assoc, h5 (n + j) (by rw [List.length_drop] at hj'; omega)]
   simp
set_option maxHeartbeats 800000 in
theorem rtake_err {w : World} {g : Nat} {vB : Value} {xs : List UInt8} {err : Int} (n : Nat) (h : RR w g vB xs err) (he : err ≠ 0) :
  Calls Tryz.prog 230 #[.pointer (some ⟨g, 0, none⟩), .int .i64 n] w fun e w' => e = .returned (.slice none 0 0) ∧ w' = w := by
 have c := cells_of h.heap
 have hb : (err == 0) = false := by simp [he]
 have hb2 : (err != 0) = true := by simp [he]
 clear h he
 go_enter Tryz.func230, Tryz.ntmps230
 go_wp2
 go_ret
 exact ⟨rfl, rfl⟩
set_option maxHeartbeats 800000 in
theorem rtake_short {w : World} {g : Nat} {vB : Value} {xs : List UInt8} (n : Nat) (h : RR w g vB xs 0) (hn : xs.length < n) (hm : n ≤ 9223372036854775807) :
  Calls Tryz.prog 230 #[.pointer (some ⟨g, 0, none⟩), .int .i64 n] w fun e w' => e = .returned (.slice none 0 0) ∧ RStep w g vB xs 40 w' := by
 obtain ⟨a, ca, rfl, h1⟩ := h.rd.form
 have c := cells_of h.heap
 have f := free_of h.heap
 have R := Lib.hid h
 clear h
 generalize hx : xs.length = len at *
 have HX := Lib.hid hx
 clear hx h1
 go_enter Tryz.func230, Tryz.ntmps230
 go_wp2
 go_ret
 have hh := heap_set R.out.heap 1 (.int .i64 40)
 refine ⟨rfl, ⟨_, ⟨by simpa using hh, R.out.rd.keep (Mods.one _ _ _ _) (fun k hk e => R.out.apart (by rw [hk, e])), R.out.apart⟩, fun _ x => x⟩, Mods.one _ _ _ _⟩
theorem RR.setB {w : World} {g : Nat} {vB : Value} {xs : List UInt8} {err : Int} (h : RR w g vB xs err) (v : Value) : (w.setCell ⟨g, 0, none⟩ v).heap[g]? = some (.cells #[v, .int .i64 err] 249 (0, 0)) := by
 have hh := heap_set h.heap 0 v
 simpa using hh
theorem RR.setE {w : World} {g : Nat} {vB : Value} {xs : List UInt8} {err : Int} (h : RR w g vB xs err) (n : Int) : (w.setCell ⟨g, 1, none⟩ (.int .i64 n)).heap[g]? = some (.cells #[vB, .int .i64 n] 249 (0, 0)) := by
 have hh := heap_set h.heap 1 (.int .i64 n)
 simpa using hh
theorem rtake_end {w : World} {g gb off off' ca ca' m : Nat} {xs : List UInt8} {n : Nat} (R : RR w g (.slice (some ⟨gb, off, none⟩) xs.length ca) xs 0) (hn : n ≤ xs.length) (r3 : Rd w (.slice (some ⟨gb, off', none⟩) m ca') (xs.drop n)) :
  ∃ v, Ending.returned (.slice (some ⟨gb, off, none⟩) n ca) = .returned v ∧ Rd (w.setCell ⟨g, 0, none⟩ (.slice (some ⟨gb, off', none⟩) m ca')) v (xs.take n) ∧ (∀ k, v.ownBlock = some k → (Value.slice (some ⟨gb, off, none⟩) xs.length ca).ownBlock = some k) ∧ RStep w g (.slice (some ⟨gb, off, none⟩) xs.length ca) (xs.drop n) 0 (w.setCell ⟨g, 0, none⟩ (.slice (some ⟨gb, off', none⟩) m ca')) := by
 have hne : gb ≠ g := fun e => R.apart (by rw [e]; rfl)
 refine ⟨_, rfl, (R.rd.take hn).keep (Mods.one _ _ _ _) (fun k hk e => ?_), fun k hk => by simpa [Value.ownBlock] using hk, ⟨_, ⟨R.setB _, r3.keep (Mods.one _ _ _ _) (fun k hk e => ?_), fun e => ?_⟩, fun k hk => by simpa [Value.ownBlock] using hk⟩, Mods.one _ _ _ _⟩
 ·simp [Value.ownBlock] at hk; omega
 ·simp [Value.ownBlock] at hk; omega
 ·simp [Value.ownBlock] at e; omega
set_option maxHeartbeats 800000 in
theorem rtake_ok {w : World} {g : Nat} {vB : Value} {xs : List UInt8} (n : Nat) (h : RR w g vB xs 0) (hn : n ≤ xs.length) :
  Calls Tryz.prog 230 #[.pointer (some ⟨g, 0, none⟩), .int .i64 n] w fun e w' => ∃ v, e = .returned v ∧ Rd w' v (xs.take n) ∧ (∀ k, v.ownBlock = some k → vB.ownBlock = some k) ∧ RStep w g vB (xs.drop n) 0 w' := by
 rcases h.rd.open with ⟨h0, rfl⟩ | ⟨gb, off, ca, rfl, h1, h2, h3, _⟩
 ·obtain ⟨a0, rfl⟩ := h0.form
  obtain rfl : n = 0 := by simpa using hn
  have c := cells_of h.heap
  have f := free_of h.heap
  have R := Lib.hid h
  clear h hn
  go_enter Tryz.func230, Tryz.ntmps230
  go_wp2
  go_ret
  have hh := heap_set R.out.heap 0 (.slice a0 0 0)
  refine ⟨_, rfl, R.out.rd.any, fun _ x => x, ⟨_, ⟨by simpa using hh, R.out.rd.any, R.out.apart⟩, fun _ x => x⟩, Mods.one _ _ _ _⟩
 ·have hm : ca ≤ 9223372036854775807 := by simp only [maxLen] at h2; omega
  have r2 := Rd.drop h.rd hn
  by_cases hcn : ca = n
  ·subst hcn
   rw [if_pos rfl, Nat.sub_self, show xs.length - ca = 0 from by omega] at r2
   have c := cells_of h.heap
   have f := free_of h.heap
   have R := Lib.hid (And.intro h r2)
   clear h h2 h3 r2
   go_enter Tryz.func230, Tryz.ntmps230
   go_wp2
   go_ret
   exact rtake_end R.out.1 hn R.out.2
  ·rw [if_neg hcn] at r2
   have c := cells_of h.heap
   have f := free_of h.heap
   have R := Lib.hid (And.intro h r2)
   clear h h2 h3 r2
   go_enter Tryz.func230, Tryz.ntmps230
   go_wp2
   go_ret
   exact rtake_end R.out.1 hn R.out.2
theorem rtake_any {w : World} {g : Nat} {vB : Value} {xs : List UInt8} {err : Int} (n : Nat) (h : RR w g vB xs err) (hm : n ≤ 9223372036854775807) :
  Calls Tryz.prog 230 #[.pointer (some ⟨g, 0, none⟩), .int .i64 n] w fun e w' => ∃ v, e = .returned v ∧ Rd w' v (rtakeY n xs err) ∧ RStep w g vB (rtakeX n xs err) (rtakeE n xs err) w' := by
 unfold rtakeX rtakeY rtakeE
 by_cases he : err = 0
 ·subst he
  by_cases hn : n ≤ xs.length
  ·simp only [if_true, hn]
   exact (rtake_ok n h hn).mono fun e w' ⟨v, he, hr, _, hs⟩ => ⟨v, he, hr, hs⟩
  ·simp only [if_true, hn, if_false]
   exact (rtake_short n h (by omega) hm).mono fun e w' ⟨he, hs⟩ => ⟨_, he, Rd.nil _, hs⟩
 ·simp only [he, if_false]
  exact (rtake_err n h he).mono fun e w' ⟨hr, hw⟩ => by subst hw; exact ⟨_, hr, Rd.nil _, ⟨vB, h, fun _ x => x⟩, Mods.refl _ _⟩
set_option maxHeartbeats 800000 in
theorem rU_any {w : World} {g : Nat} {vB : Value} {xs : List UInt8} {err : Int} (n : Nat) (h : RR w g vB xs err) (hm : n ≤ 8) :
  Calls Tryz.prog 165 #[.pointer (some ⟨g, 0, none⟩), .int .i64 n] w fun e w' => e = .returned (.int .u64 (num (rtakeY n xs err))) ∧ RStep w g vB (rtakeX n xs err) (rtakeE n xs err) w' := by
 have hy : (rtakeY n xs err).length ≤ 8 := by
  unfold rtakeY
  repeat' split
  ·rw [List.length_take]; omega
  ·simp
  ·simp
 go_enter Tryz.func165, Tryz.ntmps165
 go_wp2_with fail
 refine (rtake_any n h (by omega)).mono ?_
 rintro e w1 ⟨v, rfl, hr, hs⟩
 obtain ⟨ax, cx, rfl, h1, h2⟩ := Rd.at hr
 have HS := Lib.hid hs
 have KX := Lib.hid h2
 generalize hys : rtakeY n xs err = ys at *
 have HY := Lib.hid hys
 clear hr hs h2 h h1 hys
 obtain ⟨nx, hnx⟩ : ∃ nx, ys.length = nx := ⟨_, rfl⟩
 have KX : Hid (nx = 0 ∨ ∃ g off, ax = some ⟨g, off, none⟩ ∧ ∀ i (hi : i < ys.length), w1.cell? ⟨g, off + i, none⟩ = some (.int .u8 (ys[i]).toNat)) := by
  rcases KX.out with h | h
  ·exact .inl (by omega)
  ·exact .inr h
 rw [hnx] at hy ⊢
 have HX := Lib.hid hnx
 clear hnx
 go_wp2
 go_loop [6, 7] (fun x i => ∃ k : Nat, k ≤ nx ∧ i = .int .i64 k ∧ x = .int .u64 (num (ys.take k))) (fun _ i => nx - (intOf i).toNat)
 case atStart => exact ⟨0, Nat.zero_le _, rfl, rfl⟩
 case round =>
  obtain ⟨k, hk, rfl, rfl⟩ := hrel
  by_cases hlt : k < nx
  ·have lx : k < ys.length := by rw [HX.out]; exact hlt
   obtain ⟨g', off, hax, c1⟩ := KX.out.resolve_left (by omega)
   have c2 := c1 k lx
   have hb := (ys[k]).toNat_lt
   have hb0 : (0 : Int) ≤ ((ys[k]).toNat : Int) := by omega
   have hn := num_take_lt ys k (by rw [HX.out]; exact hy) lx
   have ht := Lib.hid (num_take ys k lx)
   clear c1 KX
   subst hax
   generalize hz : num (ys.take k) = z at *
   have HZ := Lib.hid hz
   clear hz
   have hz1 : ((z : Nat) : Int) < 72057594037927936 := by omega
   go_wp2
   go_round
   case rel =>
    refine ⟨k + 1, by omega, by go_num, ?_⟩
    rw [shl_or_u64 _ _ (by omega) hz1 hb0 (by omega), ht.out]
    simp
   case measure => simp [intOf]; omega
  ·obtain rfl : k = nx := by omega
   go_wp2
   go_ret
   refine ⟨ret_u64 ?_, HS.out⟩
   rw [List.take_of_length_le (by rw [HX.out]; omega), HY.out]
end Go.Proofs.YtglkmaalpammcaaGreat
namespace Go.Proofs.YtglkmaalpammcaaGreat
open Go.Gl Go.RowKit
structure Rr (w : World) (g : Nat) (v : Value) (xs : List UInt8) (e : Int) : Prop where
 heap : w.heap[g]? = some (.cells #[v, .int .i64 e] 357 (0, 0))
 rd : Rd w v xs
 apart : v.ownBlock ≠ some g
 blt : ∀ k, v.ownBlock = some k → k < w.heap.size
structure RStp (w : World) (g : Nat) (v : Value) (xs : List UInt8) (e : Int) (w' : World) (v' : Value) : Prop where
 rr : Rr w' g v' xs e
 mods : Mods (fun k => k = g) w w'
 blk : ∀ k, v'.ownBlock = some k → v.ownBlock = some k
theorem Rr.lt {w : World} {g : Nat} {v : Value} {xs : List UInt8} {e : Int} (h : Rr w g v xs e) : g < w.heap.size := lt_of_heap h.heap
theorem Rr.keep {S : Nat → Prop} {w w' : World} {g : Nat} {v : Value} {xs : List UInt8} {e : Int} (h : Rr w g v xs e) (hm : Mods S w w') (hg : ¬ S g) (hv : ∀ k, v.ownBlock = some k → ¬ S k) : Rr w' g v xs e :=
 ⟨hm.heap h.heap hg, h.rd.keep hm hv, h.apart, fun k hk => Nat.lt_of_lt_of_le (h.blt k hk) hm.size⟩
theorem RStp.refl {w : World} {g : Nat} {v : Value} {xs : List UInt8} {e : Int} (h : Rr w g v xs e) : RStp w g v xs e w v := ⟨h, Mods.refl _ _, fun _ x => x⟩
theorem RStp.trans {w w1 w2 : World} {g : Nat} {v v1 v2 : Value} {xs ys : List UInt8} {e e' : Int} (h : RStp w g v xs e w1 v1) (k : RStp w1 g v1 ys e' w2 v2) : RStp w g v ys e' w2 v2 :=
 ⟨k.rr, h.mods.trans k.mods (fun _ _ x => x) (fun _ _ x => x), fun i hi => h.blk i (k.blk i hi)⟩
theorem Rr.fail {w : World} {g : Nat} {v : Value} {xs : List UInt8} (c : Nat) (h : Rr w g v xs 0) : RStp w g v xs c (w.setCell ⟨g, 1, none⟩ (.int .i64 c)) v :=
 ⟨⟨by have := heap_set h.heap 1 (.int .i64 c); simpa using this, h.rd.keep (Mods.one _ _ _ _) (fun k hk e => h.apart (by rw [hk, e])), h.apart, fun k hk => by have := h.blt k hk; simpa [World.setCell] using this⟩, Mods.one _ _ _ _, fun _ x => x⟩
theorem Rr.set {w : World} {g gb off off' ca ca' n m : Nat} {xs ys : List UInt8} {e : Int} (h : Rr w g (.slice (some ⟨gb, off, none⟩) n ca) xs e) (hr : Rd w (.slice (some ⟨gb, off', none⟩) m ca') ys) :
  RStp w g (.slice (some ⟨gb, off, none⟩) n ca) ys e (w.setCell ⟨g, 0, none⟩ (.slice (some ⟨gb, off', none⟩) m ca')) (.slice (some ⟨gb, off', none⟩) m ca') := by
 have hne : gb ≠ g := fun e => h.apart (by rw [e]; rfl)
 refine ⟨⟨?_, hr.keep (Mods.one _ _ _ _) (fun k hk e => ?_), fun e => ?_, fun k hk => by have := h.blt k hk; simpa [World.setCell] using this⟩, Mods.one _ _ _ _, fun k hk => by simpa [Value.ownBlock] using hk⟩
 ·have := heap_set h.heap 0 (.slice (some ⟨gb, off', none⟩) m ca')
  simpa using this
 ·simp [Value.ownBlock] at hk; omega
 ·simp [Value.ownBlock] at e; omega
def RRes (u : Value) (w : World) (g : Nat) (v : Value) (xs : List UInt8) (e : Int) (r : Ending) (w' : World) : Prop := r = .returned u ∧ ∃ v', RStp w g v xs e w' v'
theorem rfails_any {w : World} {g : Nat} {v : Value} {xs : List UInt8} {e : Int} (c : Nat) (h : Rr w g v xs e) :
  Calls Tryz.prog 264 #[.pointer (some ⟨g, 0, none⟩), .int .i64 c] w (RRes (.tuple #[]) w g v xs (wfail e c)) := by
 by_cases he : e = 0
 ·subst he
  refine (fails_first c h.heap rfl).mono ?_
  rintro r w' ⟨rfl, rfl⟩
  exact ⟨rfl, _, h.fail c⟩
 ·refine (fails_then c h.heap rfl he).mono ?_
  rintro r w' ⟨rfl, rfl⟩
  rw [wfail, if_neg he]
  exact ⟨rfl, _, RStp.refl h⟩
theorem NewReader_any {w : World} {u : Value} {xs : List UInt8} (hu : Rd w u xs) (hl : xs.length ≤ 140737488355328) :
  Calls Tryz.prog 228 #[u] w fun r w' => ∃ g v, r = .returned (.pointer (some ⟨g, 0, none⟩)) ∧ Rr w' g v xs 0 ∧ Mods noB w w' ∧ w.heap.size ≤ g ∧ freshIn w v := by
 have H := Lib.hid hu
 clear hu
 go_enter Tryz.func228, Tryz.ntmps228
 go_wp2_with (at_builtin; refine stop ?_)
 unfold Stop
 refine wpList_apb rfl rfl [] xs (Gl.Own.nil _) H.out rfl rfl (by simpa using hl) ?_
 intro v' w' k1 k2 k3
 have hm : Mods noB w w' := k2.mono (fun i _ x => (ofV_nil x).elim)
 have hf : freshIn w v' := by rcases k3 with k3 | k3; exact (fun k hk => by rw [k3] at hk; simp [Value.ownBlock] at hk); exact k3
 obtain ⟨a', c', rfl, hc'⟩ := k1.rd.form
 have R := Lib.hid (And.intro k1 (And.intro hm hf))
 clear k1 k2 k3 hm hf
 go_wp2
 go_ret
 obtain ⟨k1, k2, k3⟩ := R.out
 refine ⟨_, _, rfl, ⟨heap_new _ _, k1.rd.alloc _, fun e => ?_, fun k hk => by have := k1.lt k hk; simp; omega⟩, k2.alloc _, k2.size, k3⟩
 have := k1.lt _ e
 omega
def rtake (n : Nat) (xs : List UInt8) (e : Int) : Nat := if e = 0 then (if n ≤ xs.length then num (xs.take n) else 0) else 0
def rok (n : Nat) (xs : List UInt8) (e : Int) : Bool := decide (e = 0) && decide (n ≤ xs.length)
def rerr (n : Nat) (xs : List UInt8) (e : Int) : Int := if e = 0 then (if n ≤ xs.length then 0 else 40) else e
def rleft (n : Nat) (xs : List UInt8) (e : Int) : List UInt8 := if e = 0 then (if n ≤ xs.length then xs.drop n else xs) else xs
theorem peek_err {w : World} {g : Nat} {v : Value} {xs : List UInt8} {e : Int} (n : Nat) (h : Rr w g v xs e) (he : e ≠ 0) :
  Calls Tryz.prog 304 #[.pointer (some ⟨g, 0, none⟩), .int .i64 n] w fun r w' => r = .returned (.tuple #[.int .u64 0, .bool false]) ∧ w' = w := by
 have c := cells_of h.heap
 have hb : (e == 0) = false := by simp [he]
 have hb2 : (e != 0) = true := by simp [he]
 clear h he
 go_enter Tryz.func304, Tryz.ntmps304
 go_wp2
 go_ret2
 exact ⟨rfl, rfl⟩
theorem peek_short {w : World} {g : Nat} {v : Value} {xs : List UInt8} (n : Nat) (h : Rr w g v xs 0) (hn : xs.length < n) (hm : n ≤ 9223372036854775807) :
  Calls Tryz.prog 304 #[.pointer (some ⟨g, 0, none⟩), .int .i64 n] w (RRes (.tuple #[.int .u64 0, .bool false]) w g v xs 40) := by
 obtain ⟨a, ca, rfl, h1⟩ := h.rd.form
 have c := cells_of h.heap
 have f := free_of h.heap
 have R := Lib.hid h
 clear h
 generalize hx : xs.length = len at *
 have HX := Lib.hid hx
 clear hx h1
 go_enter Tryz.func304, Tryz.ntmps304
 go_wp2_with fail
 refine (rfails_any 40 R.out).mono ?_
 rintro r w1 ⟨rfl, v1, hs⟩
 have c' := cells_of hs.rr.heap
 have HS := Lib.hid hs
 clear hs
 go_wp2
 go_ret2
 exact ⟨rfl, _, HS.out⟩
end Go.Proofs.YtglkmaalpammcaaGreat
namespace Go.Proofs.YtglkmaalpammcaaGreat
open Go.Gl Go.RowKit
set_option maxHeartbeats 800000 in
theorem peek_walk {w : World} {g gb off ca len : Nat} {xs : List UInt8} (n : Nat) (h : Rr w g (.slice (some ⟨gb, off, none⟩) len ca) xs 0) (hlen : xs.length = len) (hn1 : 1 ≤ n) (hn : n ≤ len) (hm : n ≤ 8) (hca : len ≤ ca) (hcm : ca ≤ 9223372036854775807) :
  Calls Tryz.prog 304 #[.pointer (some ⟨g, 0, none⟩), .int .i64 n] w fun r w' => r = .returned (.tuple #[.int .u64 (num (xs.take n)), .bool true]) ∧ w' = w := by
 have c := cells_of h.heap
 have cc : ∀ k, (hk : k < (xs.take n).length) → w.cell? ⟨gb, off + k, none⟩ = some (.int .u8 ((xs.take n)[k]).toNat) := by
  intro k hk
  rw [List.length_take] at hk
  rcases h.rd.open with ⟨h1, _⟩ | ⟨g', off', cap', h1, _, _, _, h5⟩
  ·exact h1.no.elim
  ·cases h1
   rw [List.getElem_take]
   exact h5 k (by omega)
 have hy8 : (xs.take n).length = n := by rw [List.length_take]; omega
 generalize xs.take n = ys at *
 have HX := Lib.hid hy8
 have KX := Lib.hid cc
 clear h cc hlen hy8
 go_enter Tryz.func304, Tryz.ntmps304
 go_wp2
 go_loop [6, 43] (fun x i => ∃ k : Nat, k ≤ n ∧ i = .int .i64 k ∧ x = .int .u64 (num (ys.take k))) (fun _ i => n - (intOf i).toNat)
 case atStart => exact ⟨0, Nat.zero_le _, rfl, rfl⟩
 case round =>
  obtain ⟨k, hk, rfl, rfl⟩ := hrel
  by_cases hlt : k < n
  ·have lx : k < ys.length := by rw [HX.out]; exact hlt
   have c2 := KX.out k lx
   have hb := (ys[k]).toNat_lt
   have hb0 : (0 : Int) ≤ ((ys[k]).toNat : Int) := by omega
   have hnl := num_take_lt ys k (by rw [HX.out]; exact hm) lx
   have ht := Lib.hid (num_take ys k lx)
   clear KX
   generalize hz : num (ys.take k) = z at *
   have HZ := Lib.hid hz
   clear hz
   have hz1 : ((z : Nat) : Int) < 72057594037927936 := by omega
   go_wp2
   go_round
   case rel =>
    refine ⟨k + 1, by omega, by go_num, ?_⟩
    rw [shl_or_u64 _ _ (by omega) hz1 hb0 (by omega), ht.out]
    simp
   case measure => simp [intOf]; omega
  ·obtain rfl : k = n := by omega
   go_wp2
   go_ret2
   have e : num (ys.take k) = num ys := by rw [List.take_of_length_le (by rw [HX.out]; omega)]
   exact ⟨congrArg (fun z : Nat => Ending.returned (.tuple #[.int .u64 z, .bool true])) e, rfl⟩
theorem peek_ok {w : World} {g : Nat} {v : Value} {xs : List UInt8} (n : Nat) (h : Rr w g v xs 0) (hn1 : 1 ≤ n) (hn : n ≤ xs.length) (hm : n ≤ 8) :
  Calls Tryz.prog 304 #[.pointer (some ⟨g, 0, none⟩), .int .i64 n] w fun r w' => r = .returned (.tuple #[.int .u64 (num (xs.take n)), .bool true]) ∧ w' = w := by
 rcases h.rd.open with ⟨_, rfl⟩ | ⟨gb, off, ca, rfl, h1, h2, h3, _⟩
 ·simp at hn; omega
 ·exact peek_walk n h rfl hn1 hn hm h1 (by simp only [maxLen] at h2; omega)
theorem peek_any {w : World} {g : Nat} {v : Value} {xs : List UInt8} {e : Int} (n : Nat) (h : Rr w g v xs e) (hn1 : 1 ≤ n) (hm : n ≤ 8) :
  Calls Tryz.prog 304 #[.pointer (some ⟨g, 0, none⟩), .int .i64 n] w (RRes (.tuple #[.int .u64 (rtake n xs e), .bool (rok n xs e)]) w g v xs (rerr n xs e)) := by
 by_cases he : e = 0
 ·subst he
  by_cases hn : n ≤ xs.length
  ·refine (peek_ok n h hn1 hn hm).mono ?_
   rintro r w' ⟨rfl, rfl⟩
   simp only [rtake, rok, rerr, hn, if_true]
   exact ⟨rfl, _, RStp.refl h⟩
  ·refine (peek_short n h (by omega) (by omega)).mono ?_
   rintro r w' hr
   simp only [rtake, rok, rerr, hn, if_true, if_false]
   exact hr
 ·refine (peek_err n h he).mono ?_
  rintro r w' ⟨rfl, rfl⟩
  simp only [rtake, rok, rerr, he, if_false]
  exact ⟨rfl, _, RStp.refl h⟩
theorem rnum_no {w : World} {g : Nat} {v : Value} {xs : List UInt8} {e : Int} (n : Nat) (h : Rr w g v xs e) (hn1 : 1 ≤ n) (hm : n ≤ 8) (hk : rok n xs e = false) :
  Calls Tryz.prog 289 #[.pointer (some ⟨g, 0, none⟩), .int .i64 n] w (RRes (.int .u64 (rtake n xs e)) w g v xs (rerr n xs e)) := by
 have H := Lib.hid h
 have HK := Lib.hid hk
 clear h hk
 go_enter Tryz.func289, Tryz.ntmps289
 go_wp2_with fail
 refine (peek_any n H.out hn1 hm).mono ?_
 rw [HK.out]
 rintro r w1 ⟨rfl, v1, h1⟩
 have H1 := Lib.hid h1
 clear h1
 go_wp2
 go_ret
 exact ⟨rfl, v1, H1.out⟩
set_option maxHeartbeats 800000 in
theorem rnum_ok {w : World} {g : Nat} {v : Value} {xs : List UInt8} (n : Nat) (h : Rr w g v xs 0) (hn1 : 1 ≤ n) (hm : n ≤ 8) (hn : n ≤ xs.length) :
  Calls Tryz.prog 289 #[.pointer (some ⟨g, 0, none⟩), .int .i64 n] w (RRes (.int .u64 (num (xs.take n))) w g v (xs.drop n) 0) := by
 rcases h.rd.open with ⟨_, rfl⟩ | ⟨gb, off, ca, rfl, h1, h2, h3, _⟩
 ·simp at hn; omega
 have hm : ca ≤ 9223372036854775807 := by simp only [maxLen] at h2; omega
 have r2 := Rd.drop h.rd hn
 obtain ⟨len, hlen⟩ : ∃ len, xs.length = len := ⟨_, rfl⟩
 have HP := Lib.hid (peek_ok n h hn1 hn (by assumption))
 have c := cells_of h.heap
 have f := free_of h.heap
 have H := Lib.hid h
 rw [hlen] at h1 hn r2 H c ⊢
 have HL := Lib.hid hlen
 clear h hlen h2 h3
 by_cases hcn : ca = n
 ·subst hcn
  rw [if_pos rfl, Nat.sub_self, show len - ca = 0 from by omega] at r2
  have R := Lib.hid (H.out.set r2)
  clear r2 H
  go_enter Tryz.func289, Tryz.ntmps289
  go_wp2_with fail
  refine HP.out.mono ?_
  rintro r w1 ⟨rfl, rfl⟩
  clear HP
  go_wp2
  go_ret
  exact ⟨rfl, _, R.out⟩
 ·rw [if_neg hcn] at r2
  have R := Lib.hid (H.out.set r2)
  clear r2 H
  go_enter Tryz.func289, Tryz.ntmps289
  go_wp2_with fail
  refine HP.out.mono ?_
  rintro r w1 ⟨rfl, rfl⟩
  clear HP
  go_wp2
  go_ret
  exact ⟨rfl, _, R.out⟩
theorem rnum_any {w : World} {g : Nat} {v : Value} {xs : List UInt8} {e : Int} (n : Nat) (h : Rr w g v xs e) (hn1 : 1 ≤ n) (hm : n ≤ 8) :
  Calls Tryz.prog 289 #[.pointer (some ⟨g, 0, none⟩), .int .i64 n] w (RRes (.int .u64 (rtake n xs e)) w g v (rleft n xs e) (rerr n xs e)) := by
 by_cases hk : rok n xs e = true
 ·simp only [rok, Bool.and_eq_true, decide_eq_true_eq] at hk
  obtain ⟨rfl, hn⟩ := hk
  simp only [rtake, rleft, rerr, hn, if_true]
  exact rnum_ok n h hn1 hm hn
 ·have hk2 : rok n xs e = false := by simpa using hk
  have : rleft n xs e = xs := by
   simp only [rok, Bool.and_eq_false_iff, decide_eq_false_iff_not] at hk2
   unfold rleft
   split
   ·split
    ·exfalso; rcases hk2 with h | h <;> exact h (by assumption)
    ·rfl
   ·rfl
  rw [this]
  exact rnum_no n h hn1 hm hk2
theorem rtake_lt (n : Nat) (xs : List UInt8) (e : Int) : rtake n xs e < 256 ^ n := by
 have hp : 0 < 256 ^ n := Nat.pow_pos (by decide)
 unfold rtake
 split
 ·split
  ·have h1 := num_lt (xs.take n)
   have h2 : 256 ^ (xs.take n).length ≤ 256 ^ n := Nat.pow_le_pow_right (by decide) (List.length_take_le _ _)
   omega
  ·exact hp
 ·exact hp
theorem RU64_any {w : World} {g : Nat} {v : Value} {xs : List UInt8} {e : Int} (h : Rr w g v xs e) :
  Calls Tryz.prog 259 #[.pointer (some ⟨g, 0, none⟩)] w (RRes (.int .u64 (rtake 8 xs e)) w g v (rleft 8 xs e) (rerr 8 xs e)) := by
 have H := Lib.hid h
 clear h
 go_enter Tryz.func259, Tryz.ntmps259
 go_wp2_with fail
 refine (rnum_any 8 H.out (by omega) (by omega)).mono ?_
 rintro r w1 ⟨rfl, hr⟩
 go_wp2
 go_ret
 exact ⟨rfl, hr⟩
end Go.Proofs.YtglkmaalpammcaaGreat
namespace Go.Gl
end Go.Gl
namespace Go.Proofs.YtglkmaalpammcaaGreat
open Go.Gl Go.RowKit
end Go.Proofs.YtglkmaalpammcaaGreat
namespace Go.Proofs.YtglkmaalpammcaaGreat
open Go.Gl Go.RowKit
abbrev ESt := List UInt8 × Int
def est (n : Nat) (s : ESt) : ESt := (rleft n s.1 s.2, rerr n s.1 s.2)
def evl (n : Nat) (s : ESt) : Nat := rtake n s.1 s.2
def boolS (s : ESt) : ESt := if s.2 = 0 ∧ 1 < evl 1 s then (s.1, 41) else est 1 s
def endS (xs : List UInt8) (e : Int) : Int := if e = 0 ∧ xs.length ≠ 0 then 43 else e
theorem End_any {w : World} {g : Nat} {v : Value} {xs : List UInt8} {e : Int} (h : Rr w g v xs e) :
  Calls Tryz.prog 229 #[.pointer (some ⟨g, 0, none⟩)] w (RRes (.int .i64 (endS xs e)) w g v xs (endS xs e)) := by
 obtain ⟨a, c, rfl, _⟩ := h.rd.form
 have c := cells_of h.heap
 have H := Lib.hid h
 by_cases hz : xs.length = 0
 ·have he : endS xs e = e := if_neg (fun x => x.2 hz)
  rw [he]
  rw [hz] at c H ⊢
  clear h he hz
  go_enter Tryz.func229, Tryz.ntmps229
  go_wp2
  go_ret
  exact ⟨rfl, _, RStp.refl H.out⟩
 ·have he : endS xs e = wfail e 43 := by
   unfold endS wfail
   by_cases h0 : e = 0
   ·rw [if_pos ⟨h0, hz⟩, if_pos h0]
   ·rw [if_neg (fun x => h0 x.1), if_neg h0]
  rw [he]
  have hpos : (0 : Int) < (xs.length : Int) := by omega
  generalize xs.length = n at *
  clear h he hz
  go_enter Tryz.func229, Tryz.ntmps229
  go_wp2_with fail
  refine (rfails_any 43 H.out).mono ?_
  rintro r w1 ⟨rfl, v1, h1⟩
  have c1 := cells_of h1.rr.heap
  have H1 := Lib.hid h1
  clear h1
  go_wp2
  go_ret
  exact ⟨rfl, v1, H1.out⟩
end Go.Proofs.YtglkmaalpammcaaGreat
namespace Go.Proofs.YtglkmaalpammcaaGreat
open Go.Gl Go.RowKit
theorem RStp.from {w w1 w2 : World} {g : Nat} {v v2 : Value} {xs : List UInt8} {e : Int} (h : RStp w1 g v xs e w2 v2) (hm : Mods noB w w1) : RStp w g v xs e w2 v2 :=
 ⟨h.rr, hm.trans h.mods (fun _ _ x => x.elim) (fun _ _ x => x), h.blk⟩
end Go.Proofs.YtglkmaalpammcaaGreat
namespace Go.Proofs.YtglkmaalpammcaaGreat
open Go.Gl Go.RowKit
def nbody (s : ESt) : List UInt8 := (s.1.drop 1).take (evl 1 s)
def natV (s : ESt) : List Nat := if s.2 = 0 ∧ 1 ≤ s.1.length ∧ 1 + evl 1 s ≤ s.1.length ∧ (nbody s)[0]? ≠ some 0 then dig 18446744073709551616 (num (nbody s)) else []
def natT (s : ESt) : ESt := if s.2 = 0 then (if 1 ≤ s.1.length ∧ 1 + evl 1 s ≤ s.1.length then (if (nbody s)[0]? = some 0 then (s.1, 41) else (s.1.drop (1 + evl 1 s), 0)) else (s.1, 40)) else s
end Go.Proofs.YtglkmaalpammcaaGreat
namespace Go.Proofs.YtglkmaalpammcaaGreat
open Go.Gl Go.RowKit
def StopsOk (p q : ESt) (z : Bool) : Prop := (p.2 ≠ 0 → z = true ∧ q = p) ∧ (p.2 = 0 → q.2 ≠ 0 → z = true ∧ q.1 = p.1) ∧ q.1.length ≤ p.1.length
theorem StopsOk.id (p : ESt) : StopsOk p p true := ⟨fun _ => ⟨rfl, rfl⟩, fun h k => absurd h k, Nat.le_refl _⟩
theorem est_err (n : Nat) (p : ESt) (h : p.2 ≠ 0) : est n p = p ∧ evl n p = 0 := by
 obtain ⟨xs, e⟩ := p
 simp only at h
 simp [est, evl, rleft, rerr, rtake, h]
theorem est_ok (n : Nat) (xs : List UInt8) (h : n ≤ xs.length) : est n (xs, 0) = (xs.drop n, 0) ∧ evl n (xs, 0) = num (xs.take n) := by
 simp [est, evl, rleft, rerr, rtake, h]
theorem est_short (n : Nat) (xs : List UInt8) (h : ¬ n ≤ xs.length) : est n (xs, 0) = (xs, 40) ∧ evl n (xs, 0) = 0 := by
 simp [est, evl, rleft, rerr, rtake, h]
theorem est_stops (n : Nat) (p : ESt) : StopsOk p (est n p) (decide (evl n p = 0)) := by
 obtain ⟨xs, e⟩ := p
 by_cases he : e = 0
 ·subst he
  by_cases hl : n ≤ xs.length
  ·obtain ⟨h1, h2⟩ := est_ok n xs hl
   rw [h1]
   exact ⟨fun x => absurd rfl x, fun _ x => absurd rfl x, by simp⟩
  ·obtain ⟨h1, h2⟩ := est_short n xs hl
   rw [h1, h2]
   exact ⟨fun x => absurd rfl x, fun _ _ => ⟨rfl, rfl⟩, Nat.le_refl _⟩
 ·obtain ⟨h1, h2⟩ := est_err n (xs, e) he
  rw [h1, h2]
  exact ⟨fun _ => ⟨rfl, rfl⟩, fun x => absurd x he, Nat.le_refl _⟩
theorem bool_stops (p : ESt) : StopsOk p (boolS p) (!decide (evl 1 p = 1)) := by
 obtain ⟨xs, e⟩ := p
 by_cases he : e = 0
 ·subst he
  by_cases hl : 1 ≤ xs.length
  ·obtain ⟨h1, h2⟩ := est_ok 1 xs hl
   unfold boolS
   by_cases hb : 1 < evl 1 (xs, 0)
   ·rw [if_pos ⟨rfl, hb⟩]
    exact ⟨fun x => absurd rfl x, fun _ _ => ⟨by simp; omega, rfl⟩, Nat.le_refl _⟩
   ·rw [if_neg (fun x => hb x.2), h1]
    exact ⟨fun x => absurd rfl x, fun _ x => absurd rfl x, by simp⟩
  ·obtain ⟨h1, h2⟩ := est_short 1 xs hl
   unfold boolS
   rw [h2, if_neg (fun x => by omega), h1]
   exact ⟨fun x => absurd rfl x, fun _ _ => ⟨rfl, rfl⟩, Nat.le_refl _⟩
 ·obtain ⟨h1, h2⟩ := est_err 1 (xs, e) he
  unfold boolS
  rw [h2, if_neg (fun x => he x.1), h1]
  exact ⟨fun _ => ⟨rfl, rfl⟩, fun x => absurd x he, Nat.le_refl _⟩
theorem nat_stops (p : ESt) : StopsOk p (natT p) (decide ((natV p).length = 0)) := by
 obtain ⟨xs, e⟩ := p
 unfold natT natV
 by_cases he : e = 0
 ·subst he
  rw [if_pos rfl]
  by_cases hl : 1 ≤ xs.length ∧ 1 + evl 1 (xs, 0) ≤ xs.length
  ·rw [if_pos hl]
   by_cases hb : (nbody (xs, 0))[0]? = some 0
   ·rw [if_pos hb, if_neg (fun x => x.2.2.2 hb)]
    exact ⟨fun x => absurd rfl x, fun _ _ => ⟨rfl, rfl⟩, Nat.le_refl _⟩
   ·rw [if_neg hb]
    exact ⟨fun x => absurd rfl x, fun _ x => absurd rfl x, by simp⟩
  ·rw [if_neg hl, if_neg (fun x => hl ⟨x.2.1, x.2.2.1⟩)]
   exact ⟨fun x => absurd rfl x, fun _ _ => ⟨rfl, rfl⟩, Nat.le_refl _⟩
 ·rw [if_neg he, if_neg (fun x => he x.1)]
  exact ⟨fun _ => ⟨rfl, rfl⟩, fun x => absurd x he, Nat.le_refl _⟩
theorem est_one (n : Nat) (xs : List UInt8) (h : (est n (xs, 0)).2 = 0) : xs = be n (evl n (xs, 0)) ++ (est n (xs, 0)).1 := by
 by_cases hl : n ≤ xs.length
 ·obtain ⟨h1, h2⟩ := est_ok n xs hl
  rw [h1, h2]
  have := be_num (xs.take n)
  rw [List.length_take, Nat.min_eq_left hl] at this
  rw [this, List.take_append_drop]
 ·obtain ⟨h1, h2⟩ := est_short n xs hl
  rw [h1] at h
  cases h
theorem bool_one (xs : List UInt8) (h : (boolS (xs, 0)).2 = 0) : xs = be 1 (if decide (evl 1 (xs, 0) = 1) then 1 else 0) ++ (boolS (xs, 0)).1 := by
 by_cases hb : 1 < evl 1 (xs, 0)
 ·unfold boolS at h
  rw [if_pos ⟨rfl, hb⟩] at h
  cases h
 ·have hS : boolS (xs, 0) = est 1 (xs, 0) := by
   unfold boolS
   rw [if_neg (fun x => hb x.2)]
  rw [hS] at h ⊢
  have := est_one 1 xs h
  have e : (if decide (evl 1 (xs, 0) = 1) = true then 1 else 0) = evl 1 (xs, 0) := by
   by_cases h1 : evl 1 (xs, 0) = 1
   ·simp [h1]
   ·simp [h1]; omega
  rw [e]
  exact this
theorem blen_num (bs : List UInt8) (h : bs[0]? ≠ some 0) : blen (num bs) = bs.length := by
  cases bs with
  | nil => rfl
  | cons c cs =>
    have hc : c.toNat ≠ 0 := fun e => h (by
      have : c = 0 := UInt8.toNat_inj.1 (by simpa using e)
      simp [this])
    have h1 : num (c :: cs) < 256 ^ (cs.length + 1) := num_lt (c :: cs)
    have h2 : 256 ^ cs.length ≤ num (c :: cs) := by
      rw [num_cons]
      have : 1 * 256 ^ cs.length ≤ c.toNat * 256 ^ cs.length := Nat.mul_le_mul_right _ (by omega)
      omega
    exact dig_len (by omega) h1 h2
theorem natB_num (bs : List UInt8) (h : bs[0]? ≠ some 0) : natB (num bs) = bs := by
 unfold natB
 rw [blen_num bs h, be_num]
theorem nbody_len (xs : List UInt8) (h : 1 + evl 1 (xs, 0) ≤ xs.length) : (nbody (xs, 0)).length = evl 1 (xs, 0) := by
 unfold nbody
 rw [List.length_take, List.length_drop]
 simp only
 omega
theorem nat_one (xs : List UInt8) (h : (natT (xs, 0)).2 = 0) : xs = natL (dval 18446744073709551616 (natV (xs, 0))) ++ (natT (xs, 0)).1 ∧ blen (dval 18446744073709551616 (natV (xs, 0))) ≤ 255 := by
 unfold natT natV at *
 rw [if_pos rfl] at h ⊢
 by_cases hl : 1 ≤ xs.length ∧ 1 + evl 1 (xs, 0) ≤ xs.length
 ·rw [if_pos hl] at h ⊢
  by_cases hb : (nbody (xs, 0))[0]? = some 0
  ·rw [if_pos hb] at h; cases h
  ·rw [if_neg hb, if_pos ⟨rfl, hl.1, hl.2, hb⟩, dval_dig (by omega)]
   have hn := nbody_len xs hl.2
   have hlt : evl 1 (xs, 0) < 256 := by have := rtake_lt 1 xs 0; simpa [evl] using this
   have hbl := blen_num _ hb
   refine ⟨?_, by rw [hbl, hn]; omega⟩
   unfold natL
   rw [hbl, hn, natB_num _ hb]
   have h1 := est_one 1 xs (by rw [(est_ok 1 xs hl.1).1])
   rw [(est_ok 1 xs hl.1).1] at h1
   have h2 : xs.drop 1 = nbody (xs, 0) ++ xs.drop (1 + evl 1 (xs, 0)) := by
    unfold nbody
    rw [← List.drop_drop, List.take_append_drop]
   rw [List.append_assoc, ← h2]
   exact h1
 ·rw [if_neg hl] at h; cases h
theorem est_back (n x : Nat) (ys : List UInt8) (hx : x < 256 ^ n) : est n (be n x ++ ys, 0) = (ys, 0) ∧ evl n (be n x ++ ys, 0) = x := by
 obtain ⟨h1, h2⟩ := est_ok n (be n x ++ ys) (by rw [List.length_append, be_length]; omega)
 rw [h1, h2, List.drop_left' (be_length n x), List.take_left' (be_length n x), num_be, Nat.mod_eq_of_lt hx]
 exact ⟨rfl, rfl⟩
theorem bool_back (b : Bool) (ys : List UInt8) : boolS (be 1 (if b = true then 1 else 0) ++ ys, 0) = (ys, 0) ∧ decide (evl 1 (be 1 (if b = true then 1 else 0) ++ ys, 0) = 1) = b := by
 obtain ⟨h1, h2⟩ := est_back 1 (if b = true then 1 else 0) ys (by split <;> simp)
 unfold boolS
 rw [h2, if_neg (fun x => by have := x.2; split at this <;> omega), h1]
 exact ⟨rfl, by cases b <;> simp⟩
theorem blen_first (N : Nat) : (natB N)[0]? ≠ some 0 := by
 intro h
 unfold natB blen at h
 have hlt := dig_lt (B := 256) (by omega) N
 have hv := dval_dig (B := 256) (by omega) N
 generalize hds : dig 256 N = ds at *
 have hs : strip ds = ds := by rw [← hds]; exact strip_strip _
 rcases List.eq_nil_or_concat ds with rfl | ⟨es, d, rfl⟩
 ·simp [be] at h
 ·have hd : d ≠ 0 := by
   rintro rfl
   have : strip (es ++ [0]) = strip es := strip_append_zero es [0] (fun x hx => by simpa using hx)
   have hl := strip_length_le es
   simp only [List.concat_eq_append] at hs
   rw [this] at hs
   rw [hs] at hl
   simp at hl
   omega
  simp only [List.concat_eq_append, List.length_append, List.length_singleton, be, List.getElem?_cons_zero, Option.some.injEq] at h
  have h2 := congrArg UInt8.toNat h
  rw [UInt8.toNat_ofNat'] at h2
  simp only [List.concat_eq_append, dval_snoc] at hv
  have h3 := dval_lt (B := 256) (ds := es) (fun x hx => hlt x (by simp [hx]))
  have h4 := hlt d (by simp)
  have h5 : N / 256 ^ es.length = d := by
   rw [← hv, Nat.add_mul_div_left _ _ (Nat.pow_pos (by omega)), Nat.div_eq_of_lt h3, Nat.zero_add]
  rw [h5, Nat.mod_eq_of_lt h4] at h2
  exact hd (by simpa using h2)
theorem num_natB (N : Nat) : num (natB N) = N := by
 unfold natB blen
 rw [num_be]
 have h := dval_lt (B := 256) (ds := dig 256 N) (dig_lt (by omega) N)
 rw [dval_dig (by omega)] at h
 exact Nat.mod_eq_of_lt h
theorem nat_back (N : Nat) (ys : List UInt8) (h : blen N ≤ 255) : natT (natL N ++ ys, 0) = (ys, 0) ∧ natV (natL N ++ ys, 0) = dig 18446744073709551616 N := by
 obtain ⟨h1, h2⟩ := est_back 1 (blen N) (natB N ++ ys) (by omega)
 have e : natL N ++ ys = be 1 (blen N) ++ (natB N ++ ys) := by simp [natL]
 rw [e]
 have hb : nbody (be 1 (blen N) ++ (natB N ++ ys), 0) = natB N := by
  unfold nbody
  rw [h2]
  simp only
  rw [List.drop_left' (be_length _ _), List.take_left' (natB_length N)]
 have hl : (be 1 (blen N) ++ (natB N ++ ys)).length = 1 + (blen N + ys.length) := by
  rw [List.length_append, List.length_append, be_length, natB_length]
 unfold natT natV
 rw [h2, hb, num_natB]
 simp only [hl]
 rw [if_pos trivial, if_pos (by omega), if_neg (blen_first N), if_pos ⟨trivial, by omega, by omega, blen_first N⟩]
 refine ⟨?_, rfl⟩
 rw [← List.drop_drop, List.drop_left' (be_length _ _), List.drop_left' (natB_length N)]
end Go.Proofs.YtglkmaalpammcaaGreat
namespace Go.Proofs.YtglkmaalpammcaaGreat
open Go.Gl Go.RowKit
structure Fld where
 k : Nat
 n : Nat
 ls : List Nat
def shortN (N : Nat) : Nat := if blen N ≤ 255 then N else 0
theorem shortN_blen (N : Nat) : blen (shortN N) ≤ 255 := by
 unfold shortN
 split
 ·assumption
 ·decide
theorem shortN_short (N : Nat) (h : blen N ≤ 255) : shortN N = N := if_pos h
def Fld.N (f : Fld) : Nat := dval 18446744073709551616 f.ls
def Fld.lay (f : Fld) : List UInt8 := if f.k = 0 then be 8 f.n else if f.k = 1 then be 1 (if decide (f.n = 1) = true then 1 else 0) else natL (shortN f.N)
def recLay (fs : List Fld) : List UInt8 := fs.flatMap Fld.lay
def rdF (k : Nat) (s : ESt) : Fld × ESt :=
 if k = 0 then (⟨0, evl 8 s, []⟩, est 8 s) else if k = 1 then (⟨1, if decide (evl 1 s = 1) = true then 1 else 0, []⟩, boolS s) else (⟨2, 0, natV s⟩, natT s)
def rdAll : List Nat → ESt → List Fld × ESt
 | [], s => ([], s)
 | k :: ks, s => ((rdF k s).1 :: (rdAll ks (rdF k s).2).1, (rdAll ks (rdF k s).2).2)
structure Fld.Ok (f : Fld) : Prop where
 k : f.k ≤ 2
 n : f.n ≤ 18446744073709551615
 b : f.k = 1 → f.n ≤ 1
 ls : Lim f.ls
def Fld.norm (f : Fld) : Fld := if f.k = 0 then ⟨0, f.n, []⟩ else if f.k = 1 then ⟨1, f.n, []⟩ else ⟨2, 0, dig 18446744073709551616 (shortN f.N)⟩
theorem dig_lim (N : Nat) : Lim (dig 18446744073709551616 N) := fun x hx => by
 have := dig_lt (B := 18446744073709551616) (by omega) N x hx
 omega
theorem rdF_back (f : Fld) (h : f.Ok) (ys : List UInt8) : rdF f.k (f.lay ++ ys, 0) = (f.norm, (ys, 0)) := by
 have hn := h.n
 have hb := h.b
 unfold rdF Fld.lay Fld.norm
 by_cases h0 : f.k = 0
 ·simp only [if_pos h0]
  obtain ⟨h1, h2⟩ := est_back 8 f.n ys (by omega)
  rw [h1, h2]
 by_cases h1 : f.k = 1
 ·simp only [if_neg h0, if_pos h1]
  obtain ⟨h2, h3⟩ := bool_back (decide (f.n = 1)) ys
  rw [h2, h3]
  have := hb h1
  rcases (by omega : f.n = 0 ∨ f.n = 1) with h4 | h4
  ·simp [h4]
  ·simp [h4]
 ·simp only [if_neg h0, if_neg h1]
  obtain ⟨h2, h3⟩ := nat_back (shortN f.N) ys (shortN_blen _)
  rw [h2, h3]
theorem rdAll_back (fs : List Fld) (h : ∀ f ∈ fs, f.Ok) (ys : List UInt8) : rdAll (fs.map (·.k)) (recLay fs ++ ys, 0) = (fs.map Fld.norm, (ys, 0)) := by
  induction fs with
  | nil => rfl
  | cons f fs ih =>
    have h1 := rdF_back f (h f (List.mem_cons_self ..)) (recLay fs ++ ys)
    have e : recLay (f :: fs) ++ ys = f.lay ++ (recLay fs ++ ys) := by simp [recLay]
    rw [e, List.map_cons]
    simp only [rdAll, h1, ih (fun g hg => h g (List.mem_cons_of_mem _ hg)), List.map_cons]
theorem rdF_err (k : Nat) (s : ESt) (h : s.2 ≠ 0) : (rdF k s).2 = s := by
 unfold rdF
 split
 ·exact ((est_stops 8 s).1 h).2
 split
 ·exact ((bool_stops s).1 h).2
 ·exact ((nat_stops s).1 h).2
theorem rdAll_err (ks : List Nat) (s : ESt) (h : s.2 ≠ 0) : (rdAll ks s).2 = s := by
  induction ks generalizing s with
  | nil => rfl
  | cons k ks ih =>
    simp only [rdAll]
    have h1 := rdF_err k s h
    rw [h1]
    exact ih s h
theorem rdF_one (k : Nat) (xs : List UInt8) (h : (rdF k (xs, 0)).2.2 = 0) : xs = (rdF k (xs, 0)).1.lay ++ (rdF k (xs, 0)).2.1 := by
 unfold rdF at *
 by_cases h0 : k = 0
 ·simp only [if_pos h0] at h ⊢
  exact est_one 8 xs h
 by_cases h1 : k = 1
 ·simp only [if_neg h0, if_pos h1] at h ⊢
  have := bool_one xs h
  unfold Fld.lay
  simp only [show ¬ (1 : Nat) = 0 from by omega, if_false, if_true]
  by_cases hb : evl 1 (xs, 0) = 1
  ·simp only [hb, decide_true, if_true] at this ⊢
   exact this
  ·simp only [hb, decide_false] at this ⊢
   simpa using this
 ·simp only [if_neg h0, if_neg h1] at h ⊢
  obtain ⟨h2, h3⟩ := nat_one xs h
  unfold Fld.lay Fld.N
  simp only [show ¬ (2 : Nat) = 0 from by omega, show ¬ (2 : Nat) = 1 from by omega, if_false]
  rw [shortN_short _ h3]
  exact h2
theorem rdAll_one (ks : List Nat) (xs : List UInt8) (h : (rdAll ks (xs, 0)).2.2 = 0) : xs = recLay (rdAll ks (xs, 0)).1 ++ (rdAll ks (xs, 0)).2.1 := by
  induction ks generalizing xs with
  | nil => rfl
  | cons k ks ih =>
    simp only [rdAll] at h ⊢
    have h1 : (rdF k (xs, 0)).2.2 = 0 := by
      by_cases he : (rdF k (xs, 0)).2.2 = 0
      · exact he
      · rw [rdAll_err ks _ he] at h
        exact h
    have h2 := rdF_one k xs h1
    have e : (rdF k (xs, 0)).2 = ((rdF k (xs, 0)).2.1, 0) := Prod.ext rfl h1
    rw [e] at h
    have h3 := ih _ h
    rw [e]
    show xs = ((rdF k (xs, 0)).1.lay ++ recLay _) ++ _
    rw [List.append_assoc, ← h3]
    exact h2
theorem rdF_ok (k : Nat) (s : ESt) (hk : k ≤ 2) : (rdF k s).1.Ok ∧ (rdF k s).1.k = k := by
 unfold rdF
 split
 ·have := rtake_lt 8 s.1 s.2
  refine ⟨⟨by simp, ?_, fun x => by simp at x, fun x hx => by cases hx⟩, by simp; omega⟩
  simp only [evl]
  simp at this
  omega
 split
 ·exact ⟨⟨by simp, by simp only; split <;> omega, fun _ => by simp only; split <;> omega, fun x hx => by cases hx⟩, by simp; omega⟩
 ·refine ⟨⟨by simp, by simp, fun x => by simp at x, ?_⟩, by simp only; omega⟩
  unfold natV
  split
  ·exact dig_lim _
  ·intro x hx
   cases hx
theorem rdAll_ok (ks : List Nat) (s : ESt) (hk : ∀ k ∈ ks, k ≤ 2) : (∀ f ∈ (rdAll ks s).1, f.Ok) ∧ (rdAll ks s).1.map (·.k) = ks := by
  induction ks generalizing s with
  | nil => exact ⟨fun f hf => (by cases hf), rfl⟩
  | cons k ks ih =>
    obtain ⟨h1, h2⟩ := rdF_ok k s (hk k (List.mem_cons_self ..))
    obtain ⟨h3, h4⟩ := ih (rdF k s).2 (fun j hj => hk j (List.mem_cons_of_mem _ hj))
    refine ⟨fun f hf => ?_, by simp only [rdAll, List.map_cons, h2, h4]⟩
    rcases List.mem_cons.1 hf with rfl | hf
    · exact h1
    · exact h3 f hf
end Go.Proofs.YtglkmaalpammcaaGreat
namespace Go.Proofs.YtglkmaalpammcaaGreat
open Go.Gl Go.RowKit
def zeroF (k : Nat) : Fld := ⟨k, 0, []⟩
def recGet (ks : List Nat) (xs : List UInt8) : List Fld × Nat :=
 if (rdAll ks (xs, 0)).2 = ([], 0) then ((rdAll ks (xs, 0)).1, 0) else (ks.map zeroF, 80)
theorem endS_zero (s : ESt) : endS s.1 s.2 = 0 ↔ s = ([], 0) := by
 obtain ⟨xs, e⟩ := s
 unfold endS
 constructor
 ·intro h
  by_cases h0 : e = 0 ∧ xs.length ≠ 0
  ·rw [if_pos h0] at h
   omega
  ·rw [if_neg h0] at h
   simp only at h
   subst h
   have : xs = [] := List.eq_nil_of_length_eq_zero (by omega)
   rw [this]
 ·intro h
  cases h
  simp
theorem recGet_yes {ks : List Nat} {xs : List UInt8} {fs : List Fld} (h : rdAll ks (xs, 0) = (fs, ([], 0))) : recGet ks xs = (fs, 0) := by
 unfold recGet
 rw [h, if_pos rfl]
theorem recGet_no {ks : List Nat} {xs : List UInt8} {fs : List Fld} {s : ESt} (h : rdAll ks (xs, 0) = (fs, s)) (hs : s ≠ ([], 0)) : recGet ks xs = (ks.map zeroF, 80) := by
 unfold recGet
 rw [h, if_neg hs]
theorem rdAll_whole {ks : List Nat} {xs : List UInt8} {fs : List Fld} (h : rdAll ks (xs, 0) = (fs, ([], 0))) : recLay fs = xs := by
 have := rdAll_one ks xs (by rw [h])
 rw [h] at this
 simpa using this.symm
theorem recGet_back (fs : List Fld) (h : ∀ f ∈ fs, f.Ok) {ks : List Nat} (hk : fs.map (·.k) = ks) : recGet ks (recLay fs) = (fs.map Fld.norm, 0) := by
 subst hk
 have := rdAll_back fs h []
 rw [List.append_nil] at this
 exact recGet_yes this
theorem recGet_ok {ks : List Nat} {xs : List UInt8} {fs : List Fld} {e : Nat} (hk : ∀ k ∈ ks, k ≤ 2) (h : recGet ks xs = (fs, e)) : (∀ f ∈ fs, f.Ok) ∧ fs.map (·.k) = ks := by
 unfold recGet at h
 split at h <;> cases h
 ·exact rdAll_ok ks _ hk
 ·constructor
  ·intro f hf
   obtain ⟨k, hk', rfl⟩ := List.mem_map.1 hf
   exact ⟨hk k hk', by simp [zeroF], by simp [zeroF], fun x hx => by cases hx⟩
  ·rw [List.map_map]
   exact List.map_id _
end Go.Proofs.YtglkmaalpammcaaGreat
namespace Go.Proofs.YtglkmaalpammcaaGreat
open Go.Gl Go.RowKit
def two (xs : List UInt8) : Nat × Nat := match (recGet [0, 0] xs).1 with
 | [a, b] => (a.n, b.n)
 | _ => (0, 0)
theorem two_of {xs : List UInt8} {a b e : Nat} (h : recGet [0, 0] xs = ([⟨0, a, []⟩, ⟨0, b, []⟩], e)) : two xs = (a, b) := by unfold two; rw [h]
def lay2 (a b : Nat) : List UInt8 := recLay [⟨0, a, []⟩, ⟨0, b, []⟩]
def akey (id : Nat) : List UInt8 := (kmake 4 id 0).getD []
def acF (F : List Ent) (id : Nat) : Nat × Nat := two ((getL F (akey id)).getD [])
def layF (F : List Ent) (id : Nat) (a : Nat × Nat) : List Ent := if a.1 = 0 ∧ a.2 = 0 then delL F (akey id) else setFF F (akey id) (lay2 a.1 a.2)
def isB (id : Nat) : Bool := (decide (1 ≤ id) && decide (id ≤ 4)) || decide (16 ≤ id)
def muchB (c n : Nat) : Bool := decide (1000000000000000000 < c + n)
def mintE (F : List Ent) (id n : Nat) : Nat := if isB id = false then 92 else if muchB (acF F id).1 n then 91 else 0
def mintF (F : List Ent) (id n : Nat) : List Ent := if mintE F id n = 0 then layF F id ((acF F id).1 + n, (acF F id).2) else F
def moveE (F : List Ent) (a b n : Nat) : Nat := if isB a = false ∨ isB b = false then 92 else if (acF F a).1 < n then 90 else if a = b then 0 else if muchB (acF F b).1 n then 91 else 0
def moveF (F : List Ent) (a b n : Nat) : List Ent := if moveE F a b n = 0 ∧ a ≠ b then layF (layF F a ((acF F a).1 - n, (acF F a).2)) b ((acF F b).1 + n, (acF F b).2) else F
def bumpE (id : Nat) : Nat := if isB id = false then 92 else 0
def bumpF (F : List Ent) (id : Nat) : List Ent := if isB id = false then F else layF F id ((acF F id).1, ((acF F id).2 + 1) % 18446744073709551616)
theorem setFF_ris {F : List Ent} (h : Ris F) (k v : List UInt8) : Ris (setFF F k v) := by
 unfold setFF
 split
 ·exact insL_ris h k v
 ·exact h
theorem layF_ris {F : List Ent} (h : Ris F) (id : Nat) (a : Nat × Nat) : Ris (layF F id a) := by
 unfold layF
 split
 ·exact delL_ris h _
 ·exact setFF_ris h _ _
theorem kmake_len (n : Int) (a b : Nat) : ((kmake n a b).getD []).length ≤ 64 := by
  unfold kmake
  cases hf : kform n.toNat with
  | none => simp
  | some f =>
    simp only
    split
    · simp only [Option.getD_some]
      unfold kbytes kfirst
      simp only [List.length_append, List.length_singleton]
      have h1 : (if f.a = true then be 8 (kturn f a) else []).length ≤ 8 := by split <;> simp [be_length]
      have h2 : (if f.mid.toNat = 0 then ([] : List UInt8) else [f.mid]).length ≤ 1 := by split <;> simp
      have h3 : (if f.b = true then be 8 b else []).length ≤ 8 := by split <;> simp [be_length]
      omega
    · simp
theorem akey_len (id : Nat) : (akey id).length ≤ 1000000 := Nat.le_trans (kmake_len 4 id 0) (by omega)
theorem two_lt (xs : List UInt8) : (two xs).1 ≤ 18446744073709551615 ∧ (two xs).2 ≤ 18446744073709551615 := by
 obtain ⟨⟨fs, e⟩, hr⟩ : ∃ q, recGet [0, 0] xs = q := ⟨_, rfl⟩
 have h := (recGet_ok (by simp) hr).1
 unfold two
 rw [hr]
 simp only
 split
 ·rename_i a b
  exact ⟨(h a (by simp)).n, (h b (by simp)).n⟩
 ·exact ⟨by omega, by omega⟩
/-! ### stores, their counts hidden: n, p bounds -/
def KVe (sg : Nat) (F : List Ent) (n p : Nat) : FP := fun w S D => ∃ m q, m ≤ n ∧ q ≤ p ∧ KV w sg F [] m q S D
def RFe (g : Nat) (F : List Ent) (n : Nat) : FP := fun w S D => ∃ m, m ≤ n ∧ R6F w g F [] m S D
theorem kve_f {sg : Nat} {F : List Ent} {n p : Nat} : Framed (KVe sg F n p) := ⟨fun ⟨_, _, _, _, h⟩ => ⟨KV.lt h |>.1, KV.lt h |>.2.1⟩, fun ⟨m, q, a, b, h⟩ mm x y => ⟨m, q, a, b, KV.keep h mm x y⟩⟩
theorem rfe_f {g : Nat} {F : List Ent} {n : Nat} : Framed (RFe g F n) := ⟨fun ⟨_, _, h⟩ => ⟨R6F.lt h |>.1, R6F.lt h |>.2.1⟩, fun ⟨m, a, h⟩ mm x y => ⟨m, a, R6F.keep h mm x y⟩⟩
theorem KVe.more {sg : Nat} {F : List Ent} {n p n' p' : Nat} {w : World} {S D : Nat → Prop} (h : KVe sg F n p w S D) (hn : n ≤ n') (hp : p ≤ p') : KVe sg F n' p' w S D := by
 obtain ⟨m, q, a, b, h⟩ := h
 exact ⟨m, q, by omega, by omega, h⟩
theorem RFe.more {g : Nat} {F : List Ent} {n n' : Nat} {w : World} {S D : Nat → Prop} (h : RFe g F n w S D) (hn : n ≤ n') : RFe g F n' w S D := by
 obtain ⟨m, a, h⟩ := h
 exact ⟨m, by omega, h⟩
theorem GS.any {prog : Program} {f : FuncId} {args : Array Value} {w : World} {Q : Nat → Prop} {r : Value} {ι : Type} {P P' : ι → FP} {R R' : FP} (h : ∀ i, GS prog f args w (P i) Q r (P' i)) (h1 : ∀ S D, R w S D → ∃ i, P i w S D) (h2 : ∀ w' S D i, P' i w' S D → (∀ S D, R w S D → True) → R' w' S D) : GS prog f args w R Q r R' := GS.of fun S D p hQ => by
 obtain ⟨i, hi⟩ := h1 S D p
 refine (h i S D hi hQ).mono ?_
 rintro e w' ⟨v, P1, N, rfl, ⟨rfl, rfl, _⟩, S', D', p', m, s, d, _⟩
 exact ⟨rfl, S', D', h2 _ _ _ i p' (fun _ _ _ => trivial), m, s, d⟩
section
variable {w : World} {sg g n p : Nat} {F : List Ent} {Q : Nat → Prop}
theorem ge_set {q u : Value} {ks vs : List UInt8} (hq : Rd w q ks) (hu : Rd w u vs) (oq : Off (fun k => ¬ Q k) q ks) (ou : Off (fun k => ¬ Q k) u vs) (hn : n ≤ 1000000000000) (hp : p ≤ 100000) : GS Tryz.prog 74 #[.pointer (some ⟨sg, 0, none⟩), q, u] w (KVe sg F n p) Q (.int .i64 (setErr ks vs : Nat)) (KVe sg (setFF F ks vs) (n + 1) (p + 2)) := GS.of fun S D ⟨m, q', hm, hq', kv⟩ hQ => by
 refine (gk_set hq hu oq ou (n := m) (p := q') (by omega) (by omega) S D kv hQ).mono ?_
 rintro e w' ⟨v, P1, N, rfl, ⟨rfl, rfl, _⟩, S', D', p', m', s, d, _⟩
 exact ⟨rfl, S', D', ⟨_, _, by omega, by omega, p'⟩, m', s, d⟩
theorem ge_del {q : Value} {ks : List UInt8} (hq : Rd w q ks) (oq : Off (fun k => ¬ Q k) q ks) (lk : ks.length ≤ 1000000) (hn : n ≤ 1000000000000) (hp : p ≤ 100000) : GS Tryz.prog 145 #[.pointer (some ⟨sg, 0, none⟩), q] w (KVe sg F n p) Q (.bool (getL F ks).isSome) (KVe sg (delL F ks) (n + 1) (p + 2)) := GS.of fun S D ⟨m, q', hm, hq', kv⟩ hQ => by
 refine (gk_del hq oq lk (n := m) (p := q') (by omega) (by omega) S D kv hQ).mono ?_
 rintro e w' ⟨v, P1, N, rfl, ⟨rfl, rfl, _⟩, S', D', p', m', s, d, _⟩
 exact ⟨rfl, S', D', ⟨_, _, by omega, by omega, p'⟩, m', s, d⟩
theorem ge_get {q : Value} {ks : List UInt8} (hq : Rd w q ks) (oq : Off (fun k => ¬ Q k) q ks) (hn : n ≤ 1000000000000) (hp : p ≤ 100000) : GO Tryz.prog 93 #[.pointer (some ⟨sg, 0, none⟩), q] w (KVe sg F n p) Q (fun v => .tuple #[v, .bool (getL F ks).isSome]) ((getL F ks).getD []) (KVe sg F (n + 1) p) := fun S D ⟨m, q', hm, hq', kv⟩ hQ => by
 refine (gk_get hq oq (n := m) (p := q') (by omega) (by omega) S D kv hQ).mono ?_
 rintro e w' ⟨v, P1, N, rfl, ⟨v', rfl, o, rfl, rfl⟩, S', D', p', rest⟩
 exact ⟨_, _, _, rfl, ⟨v', rfl, o, rfl, rfl⟩, S', D', ⟨_, _, by omega, hq', p'⟩, rest⟩
theorem re_set {q u : Value} {ks vs : List UInt8} (hq : Rd w q ks) (hu : Rd w u vs) (oq : Off (fun k => ¬ Q k) q ks) (ou : Off (fun k => ¬ Q k) u vs) (hn : n ≤ 1000000000000) (hF : F.length ≤ 100000) : GS Tryz.prog 43 #[.pointer (some ⟨g, 0, none⟩), q, u] w (RFe g F n) Q (.int .i64 (setErr ks vs : Nat)) (RFe g (setFF F ks vs) (n + 1)) := GS.of fun S D ⟨m, hm, rf⟩ hQ => by
 refine (gr_set hq hu oq ou (n := m) (by omega) hF S D rf hQ).mono ?_
 rintro e w' ⟨v, P1, N, rfl, ⟨rfl, rfl, _⟩, S', D', p', m', s, d, _⟩
 exact ⟨rfl, S', D', ⟨_, by omega, p'⟩, m', s, d⟩
theorem re_del {q : Value} {ks : List UInt8} (hq : Rd w q ks) (oq : Off (fun k => ¬ Q k) q ks) (hn : n ≤ 1000000000000) (hF : F.length ≤ 100000) : GS Tryz.prog 134 #[.pointer (some ⟨g, 0, none⟩), q] w (RFe g F n) Q (.bool (getL F ks).isSome) (RFe g (delL F ks) (n + 1)) := GS.of fun S D ⟨m, hm, rf⟩ hQ => by
 refine (gr_del hq oq (n := m) (by omega) hF S D rf hQ).mono ?_
 rintro e w' ⟨v, P1, N, rfl, ⟨rfl, rfl, _⟩, S', D', p', m', s, d, _⟩
 exact ⟨rfl, S', D', ⟨_, by omega, p'⟩, m', s, d⟩
theorem re_get {q : Value} {ks : List UInt8} (hq : Rd w q ks) (oq : Off (fun k => ¬ Q k) q ks) (hn : n ≤ 1000000000000) (hF : F.length ≤ 100000) (hv : ∀ v, getL F ks = some v → v.length ≤ 140737488355328) : GO Tryz.prog 96 #[.pointer (some ⟨g, 0, none⟩), q] w (RFe g F n) Q (fun v => .tuple #[v, .bool (getL F ks).isSome]) ((getL F ks).getD []) (RFe g F (n + 1)) := fun S D ⟨m, hm, rf⟩ hQ => by
 refine (gr_get hq oq (n := m) (by omega) hF hv S D rf hQ).mono ?_
 rintro e w' ⟨v, P1, N, rfl, ⟨v', rfl, o, rfl, rfl⟩, S', D', p', rest⟩
 exact ⟨_, _, _, rfl, ⟨v', rfl, o, rfl, rfl⟩, S', D', ⟨_, by omega, p'⟩, rest⟩
end
end Go.Proofs.YtglkmaalpammcaaGreat
namespace Go.Proofs.YtglkmaalpammcaaGreat
open Go.Gl Go.RowKit
set_option maxHeartbeats 1000000 in
theorem ansp1 {w : World} {sg ab n0 n1 n2 n3 n4 n5 n6 n7 n8 n9 : Nat} {X : World → Value → Prop} {Y : World → Value → Value → Prop} {Z : World → Prop} (ha : w.heap[ab]? = some (.cells #[.int .u64 ((n0 : Nat) : Int), .int .u64 ((n1 : Nat) : Int), .int .u64 ((n2 : Nat) : Int), .int .u64 ((n3 : Nat) : Int), .int .u64 ((n4 : Nat) : Int), .int .u64 ((n5 : Nat) : Int), .int .u64 ((n6 : Nat) : Int), .int .u64 ((n7 : Nat) : Int), .int .u64 ((n8 : Nat) : Int), .int .u64 ((n9 : Nat) : Int)] 35 (0, 0))) (C1 : ∀ b', Mods noB w b' → Calls Tryz.prog 75 #[.int .i64 1, .int .u64 0, .int .u64 0] b' fun e w' => ∃ f, e = .returned f ∧ X w' f) (C2 : ∀ b' f, X b' f → Calls Tryz.prog 76 #[.agg #[.int .u64 ((n0 : Nat) : Int), .int .u64 ((n1 : Nat) : Int), .int .u64 ((n2 : Nat) : Int), .int .u64 ((n3 : Nat) : Int), .int .u64 ((n4 : Nat) : Int), .int .u64 ((n5 : Nat) : Int), .int .u64 ((n6 : Nat) : Int), .int .u64 ((n7 : Nat) : Int), .int .u64 ((n8 : Nat) : Int), .int .u64 ((n9 : Nat) : Int)]] b' fun e w' => ∃ v, e = .returned v ∧ Y w' f v) (C3 : ∀ b' f v, Y b' f v → Calls Tryz.prog 74 #[.pointer (some ⟨sg, 0, none⟩), f, v] b' fun e w' => ∃ r, e = .returned r ∧ Z w') (h1 : ∀ w' f, X w' f → Mods noB w w') (h2 : ∀ w' f v, Y w' f v → Mods noB w w') {x1 x2 x4 x5 x6 x7 x8 : Value} {df : List Deferred} {Q : Exit → Act → World → Prop}
  (hK : ∀ (y4 y5 y6 y7 y8 : Value)  (w' : World), Z w' → Q .normal ⟨#[.pointer (some ⟨sg, 0, none⟩), x1, x2, .pointer (some ⟨ab, 0, none⟩), y4, y5, y6, y7, y8], df⟩ w') : RW Tryz.prog (opsC 1 Tryz.f13) true Q ⟨#[.pointer (some ⟨sg, 0, none⟩), x1, x2, .pointer (some ⟨ab, 0, none⟩), x4, x5, x6, x7, x8], df⟩ w := by
 have HQ := Lib.hid hK
 clear hK
 have D1 := Lib.hid C1
 have D2 := Lib.hid C2
 have D3 := Lib.hid C3
 have H1 := Lib.hid h1
 have H2 := Lib.hid h2
 clear C1 C2 C3 h1 h2
 have QA := Lib.hid (fun b' (hm : Mods noB w b') => show ∀ j u, [Value.int .u64 ((n0 : Nat) : Int), .int .u64 ((n1 : Nat) : Int), .int .u64 ((n2 : Nat) : Int), .int .u64 ((n3 : Nat) : Int), .int .u64 ((n4 : Nat) : Int), .int .u64 ((n5 : Nat) : Int), .int .u64 ((n6 : Nat) : Int), .int .u64 ((n7 : Nat) : Int), .int .u64 ((n8 : Nat) : Int), .int .u64 ((n9 : Nat) : Int)][j]? = some u → b'.cell? ⟨ab, 0 + j, none⟩ = some u from fun j u hj => by rw [Nat.zero_add]; exact (cells_of (hm.heap ha (fun x => x)) j).trans (by rw [← hj]; exact List.getElem?_toArray))
 clear ha
 have MR := Lib.hid ((Mods.refl noB w).drew)
 refine rw_ordT (S := fun b' => Mods noB w b') [(0, true), (2, true), (1, false), (3, false), (4, false)] [4] (by kernel_rfl) (by kernel_rfl) (by kernel_rfl) (by kernel_rfl) MR.out ?_
 refine wpOrdT_frees [0] [.pointer (some ⟨sg, 0, none⟩)] (rest := [(2, true), (1, false), (3, false), (4, false)]) (by kernel_rfl) (by kernel_rfl) (fun _ => by kernel_rfl) ?_
 refine wpOrdT_free (.agg #[.int .u64 ((n0 : Nat) : Int), .int .u64 ((n1 : Nat) : Int), .int .u64 ((n2 : Nat) : Int), .int .u64 ((n3 : Nat) : Int), .int .u64 ((n4 : Nat) : Int), .int .u64 ((n5 : Nat) : Int), .int .u64 ((n6 : Nat) : Int), .int .u64 ((n7 : Nat) : Int), .int .u64 ((n8 : Nat) : Int), .int .u64 ((n9 : Nat) : Int)]) (some 6) ⟨by kernel_rfl, by kernel_rfl, by kernel_rfl⟩ (fun bb hb => of_load (x := (.tmp 3)) (by kernel_rfl) (by kernel_rfl) (load_a [.int .u64 ((n0 : Nat) : Int), .int .u64 ((n1 : Nat) : Int), .int .u64 ((n2 : Nat) : Int), .int .u64 ((n3 : Nat) : Int), .int .u64 ((n4 : Nat) : Int), .int .u64 ((n5 : Nat) : Int), .int .u64 ((n6 : Nat) : Int), .int .u64 ((n7 : Nat) : Int), .int .u64 ((n8 : Nat) : Int), .int .u64 ((n9 : Nat) : Int)] (QA.out _ hb) Tryz.underlying35 rfl (by kernel_rfl))) ?_
 refine wpOrdT_call (some 5) ⟨by kernel_rfl, by kernel_rfl, by kernel_rfl⟩ (D1.out _ MR.out) (fun _ => by kernel_rfl) ?_
 rintro r w7 ⟨f7, rfl, h7⟩
 replace MR := Lib.hid (H1.out _ _ h7)
 refine ⟨_, rfl, fun _ => MR.out, ?_⟩
 refine wpOrdT_call (some 7) ⟨by kernel_rfl, by kernel_rfl, by kernel_rfl⟩ (D2.out _ _ h7) (fun _ => by kernel_rfl) ?_
 rintro r w8 ⟨v8, rfl, h8⟩
 replace MR := Lib.hid (H2.out _ _ _ h8)
 refine ⟨_, rfl, fun _ => MR.out, ?_⟩
 refine wpOrdT_call (some 8) ⟨by kernel_rfl, by kernel_rfl, by kernel_rfl⟩ (D3.out _ _ _ h8) (fun _ => by kernel_rfl) ?_
 rintro r w9 ⟨v9, rfl, h9⟩
 refine ⟨_, rfl, (fun h => by cases h), ?_⟩
 exact wpOrdT_doneC (act_is (K := Q .normal) (by kernel_rfl) (HQ.out (.pointer (some ⟨sg, 0, none⟩)) (f7) (.agg #[.int .u64 ((n0 : Nat) : Int), .int .u64 ((n1 : Nat) : Int), .int .u64 ((n2 : Nat) : Int), .int .u64 ((n3 : Nat) : Int), .int .u64 ((n4 : Nat) : Int), .int .u64 ((n5 : Nat) : Int), .int .u64 ((n6 : Nat) : Int), .int .u64 ((n7 : Nat) : Int), .int .u64 ((n8 : Nat) : Int), .int .u64 ((n9 : Nat) : Int)]) (v8) (v9) w9 h9))
set_option maxHeartbeats 1000000 in
theorem anad2 {w : World} {sg xt xs f n0 n1 n2 n3 n4 n5 n6 n7 n8 n9 : Nat} {B : Bool} {S X : World → Prop} (hQ1 : ∀ b', S b' → b'.cell? ⟨xt, 2, none⟩ = some (.int .u64 ((f : Nat) : Int))) (hQ2 : ∀ b', S b' → b'.cell? ⟨xs, 0, none⟩ = some (.pointer (some ⟨sg, 0, none⟩))) (hS0 : S w.drew) (hS : ∀ b', X b' → S b') (hC : Calls Tryz.prog 86 #[.pointer (some ⟨sg, 0, none⟩)] w.drew fun e w' => e = .returned (.agg #[.int .u64 ((n0 : Nat) : Int), .int .u64 ((n1 : Nat) : Int), .int .u64 ((n2 : Nat) : Int), .int .u64 ((n3 : Nat) : Int), .int .u64 ((n4 : Nat) : Int), .int .u64 ((n5 : Nat) : Int), .int .u64 ((n6 : Nat) : Int), .int .u64 ((n7 : Nat) : Int), .int .u64 ((n8 : Nat) : Int), .int .u64 ((n9 : Nat) : Int)]) ∧ X w') (hB : decide (((f : Nat) : Int) < ((n8 : Nat) : Int)) = B) {x2 x3 x4 x5 x6 x7 x8 : Value} {df : List Deferred} {Q : Exit → Act → World → Prop}
  (hK : ∀ (y3 y4 y5 y6 y7 y8 : Value)  (w' : World), X w' → Q .normal ⟨#[.pointer (some ⟨xt, 0, none⟩), .pointer (some ⟨xs, 0, none⟩), .bool B, y3, y4, y5, y6, y7, y8], df⟩ w') : RW Tryz.prog (opsC 1 Tryz.f85) true Q ⟨#[.pointer (some ⟨xt, 0, none⟩), .pointer (some ⟨xs, 0, none⟩), x2, x3, x4, x5, x6, x7, x8], df⟩ w := by
 have HQ := Lib.hid hK
 clear hK
 refine rw_ordF (S := S) [(0, true), (1, true), (2, true), (3, false), (4, true), (5, true), (6, true)] [] [(0, 1, 8), (1, 8, 16), (0, 2, 32), (4, 32, 64), (8, 64, 128), (18, 144, 256), (63, 256, 4)] (by kernel_rfl) (by kernel_rfl) (by kernel_rfl) (by kernel_rfl) (by kernel_rfl) hS0 ?_
 refine wpOrdT_frees [0] [.pointer (some ⟨xt, 2, none⟩)] (rest := [(1, true), (2, true), (3, false), (4, true), (5, true), (6, true)]) (by kernel_rfl) (by kernel_rfl) (fun _ => by kernel_rfl) ?_
 refine wpOrdT_free (.int .u64 ((f : Nat) : Int)) (some 4) ⟨by kernel_rfl, by kernel_rfl, by kernel_rfl⟩ (fun bb hb => of_load (x := (.tmp 3)) (by kernel_rfl) (by kernel_rfl) (load_c (hQ1 _ hb) Tryz.underlying22 rfl)) ?_
 refine wpOrdT_free (.pointer (some ⟨sg, 0, none⟩)) (some 5) ⟨by kernel_rfl, by kernel_rfl, by kernel_rfl⟩ (fun bb hb => of_load (x := (.tmp 1)) (by kernel_rfl) (by kernel_rfl) (load_c (hQ2 _ hb) Tryz.underlying26 rfl)) ?_
 refine wpOrdT_call (some 6) ⟨by kernel_rfl, by kernel_rfl, by kernel_rfl⟩ hC (fun _ => by kernel_rfl) ?_
 rintro r w7 ⟨rfl, h7⟩
 refine ⟨_, rfl, fun _ => hS _ h7, ?_⟩
 refine wpOrdT_frees [4] [.int .u64 ((n8 : Nat) : Int)] (rest := [(5, true), (6, true)]) (by kernel_rfl) (by kernel_rfl) (fun _ => by kernel_rfl) ?_
 refine wpOrdT_free (.bool B) (some 8) ⟨by kernel_rfl, by kernel_rfl, by kernel_rfl⟩ (fun bb hb => run_bin (t := 22) (t' := 22) (xv := .int .u64 ((f : Nat) : Int)) (yv := .int .u64 ((n8 : Nat) : Int)) (x := (.tmp 4)) (y := (.tmp 7)) (by kernel_rfl) (by kernel_rfl) (by kernel_rfl) (fun _ => by kernel_rfl) (run_lss _ hB)) ?_
 refine wpOrdT_frees [6] [.bool B] (rest := []) (by kernel_rfl) (by kernel_rfl) (fun _ => by kernel_rfl) ?_
 exact wpOrdT_doneC (act_is (K := Q .normal) (by kernel_rfl) (HQ.out (.pointer (some ⟨xt, 2, none⟩)) (.int .u64 ((f : Nat) : Int)) (.pointer (some ⟨sg, 0, none⟩)) (.agg #[.int .u64 ((n0 : Nat) : Int), .int .u64 ((n1 : Nat) : Int), .int .u64 ((n2 : Nat) : Int), .int .u64 ((n3 : Nat) : Int), .int .u64 ((n4 : Nat) : Int), .int .u64 ((n5 : Nat) : Int), .int .u64 ((n6 : Nat) : Int), .int .u64 ((n7 : Nat) : Int), .int .u64 ((n8 : Nat) : Int), .int .u64 ((n9 : Nat) : Int)]) (.int .u64 ((n8 : Nat) : Int)) (.bool B) _ h7))
end Go.Proofs.YtglkmaalpammcaaGreat
namespace Go.Gl
def GI (w : World) (S0 D0 : Nat → Prop) (w' : World) (P : FP) (N : Nat → Prop) : Prop := ∃ S D, P w' S D ∧ Mods S0 w w' ∧ (∀ k, S k → S0 k ∨ w.heap.size ≤ k) ∧ (∀ k, D k → D0 k ∨ w.heap.size ≤ k) ∧ (∀ k, N k → w.heap.size ≤ k ∧ k < w'.heap.size ∧ ¬ S k ∧ ¬ D k)
def Out (w : World) (S0 N : Nat → Prop) (k : Nat) : Prop := N k ∨ (k < w.heap.size ∧ ¬ S0 k)
section
variable {prog : Program} {f : FuncId} {args : Array Value} {w w1 w2 : World} {S0 D0 N N' : Nat → Prop} {P P' : FP} {r : Value}
theorem GI.start (p : P w S0 D0) : GI w S0 D0 w P (fun _ => False) := ⟨S0, D0, p, Mods.refl _ _, fun _ => .inl, fun _ => .inl, fun _ x => x.elim⟩
theorem GI.mods (h : GI w S0 D0 w1 P N) : Mods S0 w w1 := by obtain ⟨_, _, _, m, _⟩ := h; exact m
theorem GI.keep0 (h : GI w S0 D0 w1 P N) (f : Framed P) (m : Mods noB w1 w2) : GI w S0 D0 w2 P N := by
 obtain ⟨S, D, p, m0, s, d, n⟩ := h
 exact ⟨S, D, f.keep p m (fun _ _ x => x) (fun _ _ x => x), m0.then0 m, s, d, fun k hk => ⟨(n k hk).1, Nat.lt_of_lt_of_le (n k hk).2.1 m.size, (n k hk).2.2⟩⟩
theorem GI.grow (h : GI w S0 D0 w1 P N) (f : Framed P) (m : Mods noB w1 w2) (hn : ∀ k, N' k → N k ∨ (w1.heap.size ≤ k ∧ k < w2.heap.size)) : GI w S0 D0 w2 P N' := by
 obtain ⟨S, D, p, m0, s, d, n⟩ := h
 have l := f.lt p
 refine ⟨S, D, f.keep p m (fun _ _ x => x) (fun _ _ x => x), m0.then0 m, s, d, fun k hk => ?_⟩
 rcases hn k hk with x | ⟨x, y⟩
 ·exact ⟨(n k x).1, Nat.lt_of_lt_of_le (n k x).2.1 m.size, (n k x).2.2⟩
 ·exact ⟨by have := m0.size; omega, y, fun z => by have := l.1 k z; omega, fun z => by have := l.2 k z; omega⟩
theorem GI.turn {T : Nat → Prop} (h : GI w S0 D0 w1 P N) (f : Framed P) (m : Mods T w1 w2) (ht : ∀ k, T k → N k) : GI w S0 D0 w2 P N := by
 obtain ⟨S, D, p, m0, s, d, n⟩ := h
 exact ⟨S, D, f.keep p m (fun k hk x => (n k (ht k x)).2.2.1 hk) (fun k hk x => (n k (ht k x)).2.2.2 hk), m0.trans m (fun _ _ x => x) (fun k hk x => by have := (n k (ht k x)).1; omega), s, d, fun k hk => ⟨(n k hk).1, Nat.lt_of_lt_of_le (n k hk).2.1 m.size, (n k hk).2.2⟩⟩
theorem GI.own (h : GI w S0 D0 w1 P N) (f : Framed P) (m : Mods noB w1 w2) {v : Value} {xs : List UInt8} (o : Own w2 v xs) (fr : freshIn w1 v) : GI w S0 D0 w2 P (fun k => N k ∨ ofV v k) := h.grow f m (fun k hk => hk.imp id (fun x => ⟨fr k x, o.lt k x⟩))
theorem GI.less (h : GI w S0 D0 w1 P N) (hn : ∀ k, N' k → N k) : GI w S0 D0 w1 P N' := by
 obtain ⟨S, D, p, m0, s, d, n⟩ := h
 exact ⟨S, D, p, m0, s, d, fun k hk => n k (hn k hk)⟩
theorem GI.call {R : World → Value → FP → (Nat → Prop) → Prop} (h : GI w S0 D0 w1 P N) (c : GC prog f args w1 P (Out w S0 N) R) : Calls prog f args w1 fun e w' => ∃ v P' N', e = .returned v ∧ R w' v P' N' ∧ GI w S0 D0 w' P' (fun k => N k ∨ N' k) ∧ (∀ k, N' k → w1.heap.size ≤ k) ∧ Mods (fun k => ¬ Out w S0 N k) w1 w' := by
 obtain ⟨S, D, p, m0, s, d, n⟩ := h
 have hq : ∀ k, Out w S0 N k → ¬ S k := fun k hk x => by
  rcases hk with hk | ⟨h1, h2⟩
  ·exact (n k hk).2.2.1 x
  ·rcases s k x with y | y
   ·exact h2 y
   ·omega
 refine (c S D p hq).mono ?_
 rintro e w' ⟨v, P', N', rfl, hR, S', D', p', m, s1, d1, n1⟩
 have hs := m0.size
 refine ⟨v, P', N', rfl, hR, ⟨S', D', p', m0.trans m (fun _ _ x => x) (fun k hk x => (s k x).elim id (fun y => by omega)), fun k hk => (s1 k hk).elim (s k) (fun y => .inr (by omega)), fun k hk => (d1 k hk).elim (d k) (fun y => .inr (by omega)), fun k hk => ?_⟩, fun k hk => (n1 k hk).1, m.mono (fun k _ hk x => hq k x hk)⟩
 rcases hk with hk | hk
 ·have q := n k hk
  refine ⟨q.1, Nat.lt_of_lt_of_le q.2.1 m.size, fun x => ?_, fun x => ?_⟩
  ·rcases s1 k x with y | y
   ·exact q.2.2.1 y
   ·omega
  ·rcases d1 k x with y | y
   ·exact q.2.2.2 y
   ·omega
 ·exact ⟨by have := (n1 k hk).1; omega, (n1 k hk).2⟩
theorem GI.calls (h : GI w S0 D0 w1 P N) (c : GS prog f args w1 P (Out w S0 N) r P') : Calls prog f args w1 fun e w' => e = .returned r ∧ GI w S0 D0 w' P' N ∧ Mods (fun k => ¬ Out w S0 N k) w1 w' := by
 refine (GI.call h c).mono ?_
 rintro e w' ⟨v, P1, N1, rfl, ⟨rfl, rfl, _⟩, g, _, m⟩
 exact ⟨rfl, g.less (fun k hk => .inl hk), m⟩
theorem GI.callo {mk : Value → Value} {xs : List UInt8} (h : GI w S0 D0 w1 P N) (c : GO prog f args w1 P (Out w S0 N) mk xs P') : Calls prog f args w1 fun e w' => ∃ v', e = .returned (mk v') ∧ Own w' v' xs ∧ freshIn w1 v' ∧ GI w S0 D0 w' P' (fun k => N k ∨ ofV v' k) ∧ Mods (fun k => ¬ Out w S0 N k) w1 w' := by
 refine (GI.call h c).mono ?_
 rintro e w' ⟨v, P1, N1, rfl, ⟨v', rfl, o, rfl, rfl⟩, g, hN, m⟩
 exact ⟨v', rfl, o, hN, g, m⟩
def LeftB (w : World) (S D : Nat → Prop) (w' : World) (P' : FP) : Prop := ∃ S' D', P' w' S' D' ∧ Mods S w w' ∧ (∀ k, S' k → S k ∨ w.heap.size ≤ k) ∧ (∀ k, D' k → D k ∨ w.heap.size ≤ k)
theorem GI.done (h : GI w S0 D0 w1 P N) : LeftB w S0 D0 w1 P := by
 obtain ⟨S, D, p, m0, s, d, n⟩ := h
 exact ⟨S, D, p, m0, s, d⟩
theorem GS.walk {Q : Nat → Prop} (h : ∀ S D, P w S D → (∀ k, Q k → ¬ S k) → Calls prog f args w fun e w' => e = .returned r ∧ LeftB w S D w' P') : GS prog f args w P Q r P' := GS.of h
end
end Go.Gl
namespace Go.Proofs.YtglkmaalpammcaaGreat
open Go.Gl Go.RowKit
def KW (w : World) (g : Nat) (xs : List UInt8) (wx : World) : Prop := ∃ v, Wr wx g v xs 0 ∧ (∀ k, v.ownBlock = some k → w.heap.size ≤ k) ∧ Mods noB w wx ∧ w.heap.size ≤ g
theorem KW.start (w wx : World) (hm : Mods noB w wx) : KW w wx.heap.size [] (wx.alloc (.cells #[.slice none 0 0, .int .i64 0] 311)) :=
 ⟨.slice none 0 0, ⟨heap_new _ _, Gl.Own.nil _, by simp [Value.ownBlock]⟩, fun k hk => by simp [Value.ownBlock] at hk, hm.alloc _, hm.size⟩
theorem KW.step {w wx wy : World} {g : Nat} {xs ys : List UInt8} {v v' : Value} (hf : ∀ k, v.ownBlock = some k → w.heap.size ≤ k) (hm : Mods noB w wx) (hg : w.heap.size ≤ g) (h : WStep wx g v ys 0 wy v') : KW w g ys wy := by
 refine ⟨v', h.wr, ?_, hm.trans h.mods (fun _ _ x => x) (fun i hi x => ?_), hg⟩
 ·intro k hk
  rcases h.blk with hb | hb
  ·exact hf k (hb ▸ hk)
  ·exact Nat.le_trans hm.size (hb k hk)
 ·rcases x with x | x
  ·omega
  ·exact absurd hi (Nat.not_lt.2 (hf i x))
theorem KW.then0 {w wx wy : World} {g : Nat} {xs : List UInt8} (h : KW w g xs wx) (hm : Mods noB wx wy) : KW w g xs wy := by
 obtain ⟨v, h1, h2, h3, h4⟩ := h
 exact ⟨v, h1.then0 hm, h2, h3.then0 hm, h4⟩
theorem KW.mods {w wx : World} {g : Nat} {xs : List UInt8} (h : KW w g xs wx) : Mods noB w wx := by
 obtain ⟨v, h1, h2, h3, h4⟩ := h
 exact h3
theorem KW.u8 {w wx : World} {g : Nat} {xs : List UInt8} (h : KW w g xs wx) (x : Nat) (hx : x ≤ 255) (hl : xs.length ≤ 1000) :
  Calls Tryz.prog 309 #[.pointer (some ⟨g, 0, none⟩), .int .u8 x] wx fun r w' => r = .returned (.tuple #[]) ∧ KW w g (xs ++ be 1 x) w' := by
 obtain ⟨v, h1, h2, h3, h4⟩ := h
 exact (WU8_any x h1 hx (by omega)).mono fun r w' ⟨hr, v', hs⟩ => ⟨hr, KW.step (xs := xs) h2 h3 h4 hs⟩
theorem KW.u64 {w wx : World} {g : Nat} {xs : List UInt8} (h : KW w g xs wx) (x : Nat) (hx : x ≤ 18446744073709551615) (hl : xs.length ≤ 1000) :
  Calls Tryz.prog 258 #[.pointer (some ⟨g, 0, none⟩), .int .u64 x] wx fun r w' => r = .returned (.tuple #[]) ∧ KW w g (xs ++ be 8 x) w' := by
 obtain ⟨v, h1, h2, h3, h4⟩ := h
 exact (WU64_any x h1 hx (by omega)).mono fun r w' ⟨hr, v', hs⟩ => ⟨hr, KW.step (xs := xs) h2 h3 h4 hs⟩
theorem KW.out {w wx : World} {g : Nat} {xs : List UInt8} (h : KW w g xs wx) (hl : xs.length ≤ 1000) :
  Calls Tryz.prog 219 #[.pointer (some ⟨g, 0, none⟩)] wx fun r w' => ∃ u, r = .returned (.tuple #[u, .int .i64 0]) ∧ Gl.Own w' u xs ∧ Mods noB w w' ∧ freshIn w u := by
 obtain ⟨v, h1, h2, h3, h4⟩ := h
 refine (WOut_any h1 (by omega)).mono ?_
 rintro r w' ⟨u, rfl, ho, hm, hf⟩
 exact ⟨u, rfl, ho, h3.then0 hm, hf.of h3.size⟩
end Go.Proofs.YtglkmaalpammcaaGreat
namespace Go.Proofs.YtglkmaalpammcaaGreat
open Go.Gl Go.RowKit
def ptr (B : Nat) (o : Nat) : Value := .pointer (some ⟨B, o, none⟩)
structure TW (w : World) (g B : Nat) (v : Value) (cur : Array Value) (T : TypeId) (sl : Value) (os : List Nat) : Prop where
 wr : ∃ xs, Wr w g v xs 0
 box : w.heap[B]? = some (.cells cur T (0, 0))
 ne : ¬ WS g v B
 rd : RdM (ptr B) w sl os
 sb : ∀ k, sl.ownBlock = some k → k < w.heap.size ∧ ¬ WS g v k
theorem wput0' (xs ys : List UInt8) : wput 0 xs ys = xs ++ ys := if_pos rfl
theorem WS_lt {w : World} {g : Nat} {v : Value} {xs : List UInt8} {e : Int} (h : Wr w g v xs e) {k : Nat} (hk : WS g v k) : k < w.heap.size := by
 rcases hk with rfl | hk
 ·exact h.lt
 ·exact h.own.lt k hk
set_option maxHeartbeats 2000000 in
theorem nums_w {w : World} {g B : Nat} {v : Value} {xs : List UInt8} {cur : Array Value} {T : TypeId} {sl : Value} {os ns : List Nat} (h : Wr w g v xs 0) (ht : TW w g B v cur T sl os) (hn : ns.length = os.length) (hc : ∀ (i o x : Nat), os[i]? = some o → ns[i]? = some x → cur[o]? = some (.int .u64 x)) (hu : Lim ns) (hl : xs.length + 8 * ns.length ≤ 100000000) :
  Calls Tryz.prog 220 #[.agg #[.pointer (some ⟨g, 0, none⟩), .pointer none], sl] w fun r w' => r = .returned (.tuple #[]) ∧ ∃ v', WStep w g v (xs ++ ns.flatMap (be 8)) 0 w' v' := by
 obtain ⟨a, c, rfl, hlm⟩ := RdM.form ht.rd
 have HT := Lib.hid ht
 have HC := Lib.hid hc
 have HU := Lib.hid hu
 have b0 := heap_new w (.cells #[.pointer (some ⟨g, 0, none⟩), .pointer none] 314)
 have m0 := Lib.hid ((Mods.refl noB w).alloc (.cells #[.pointer (some ⟨g, 0, none⟩), .pointer none] 314))
 have W0 := Lib.hid (show ∃ v', WStep (w.alloc (.cells #[.pointer (some ⟨g, 0, none⟩), .pointer none] 314)) g v (xs ++ (ns.take 0).flatMap (be 8)) 0 (w.alloc (.cells #[.pointer (some ⟨g, 0, none⟩), .pointer none] 314)) v' from
  ⟨v, by simpa using WStep.refl (h.then0 m0.out)⟩)
 have hsz0 := Lib.hid (show w.heap.size < (w.alloc (.cells #[.pointer (some ⟨g, 0, none⟩), .pointer none] 314)).heap.size from by simp)
 have hws := fun k (hk : WS g v k) => WS_lt h hk
 have HB0 := Lib.hid (show (w.alloc (.cells #[.pointer (some ⟨g, 0, none⟩), .pointer none] 314)).heap[w.heap.size]? = _ from b0)
 have HW := Lib.hid hws
 have HLN := Lib.hid hn
 obtain ⟨n, hos⟩ : ∃ n, os.length = n := ⟨_, rfl⟩
 have HO := Lib.hid hos
 unfold maxLen at hlm
 rw [hos] at hlm ⊢
 clear ht hc hu b0 hws h hn hos
 go_enter Tryz.func220, Tryz.ntmps220
 go_wp2
 generalize World.alloc w _ = w0 at *
 go_loopw [8] (fun i wr => ∃ k : Nat, k ≤ n ∧ i = .int .i64 k ∧ Hid (∃ v', WStep w0 g v (xs ++ (ns.take k).flatMap (be 8)) 0 wr v' ∧ wr.heap[w.heap.size]? = some (.cells #[.pointer (some ⟨g, 0, none⟩), .pointer none] 314 (0, 0)))) (fun i _ => n - (intOf i).toNat)
 case atStart =>
  obtain ⟨v', h⟩ := W0.out
  exact ⟨0, Nat.zero_le _, rfl, Lib.hid ⟨v', h, HB0.out⟩⟩
 case round =>
  clear W0 HB0
  obtain ⟨k, hk, rfl, hR⟩ := hrel
  obtain ⟨v1, r1, r2⟩ := hR.out
  have R := Lib.hid r1
  have c0 := cells_of r2 0
  have c1 := cells_of r2 1
  have HB := Lib.hid r2
  clear hR r1 r2
  by_cases hlt : k < n
  ·have lk : k < os.length := by rw [HO.out]; exact hlt
   have lx : k < ns.length := by rw [HLN.out]; exact lk
   have hx := HU.out _ (List.getElem_mem lx)
   have hcc := HC.out k os[k] ns[k] (List.getElem?_eq_getElem lk) (List.getElem?_eq_getElem lx)
   obtain ⟨g1, off, hsl, hsc⟩ : ∃ g1 off, a = some ⟨g1, off, none⟩ ∧ w.cell? ⟨g1, off + k, none⟩ = some (ptr B os[k]) := by
    rcases RdM.open HT.out.rd with ⟨_, h0⟩ | ⟨g1, off, cap, hv, _, _, _, h5⟩
    ·rw [h0] at lk; simp at lk
    ·cases hv
     exact ⟨g1, off, rfl, h5 k lk⟩
   subst hsl
   obtain ⟨hg1, hg2⟩ := HT.out.sb g1 rfl
   have M1 := Lib.hid (m0.out.trans R.out.mods (U := WS g v) (fun _ _ x => x.elim) (fun _ _ x => x))
   have d0 := (M1.out.cellAt hg1 hg2 (off + k)).trans hsc
   have d1 := (cells_of (M1.out.heap HT.out.box HT.out.ne) os[k]).trans hcc
   have HN1 := Lib.hid (show (ns.take (k + 1)).flatMap (be 8) = (ns.take k).flatMap (be 8) ++ be 8 ns[k] from by rw [List.take_succ_eq_append_getElem lx, List.flatMap_append]; simp)
   have hlk : (xs ++ (ns.take k).flatMap (be 8)).length ≤ 100000000 := by
    have : ∀ l : List Nat, (l.flatMap (be 8)).length = 8 * l.length := by
     intro l
     induction l with
     | nil => rfl
     | cons x l ih => rw [List.flatMap_cons, List.length_append, ih, be_length, List.length_cons]; omega
    rw [List.length_append, this, List.length_take]
    omega
   generalize os[k] = o at *
   generalize ns[k] = x at *
   clear hsc hcc hg1 hg2
   unfold ptr at d0
   go_wp2
   go_still_tail 5, (by kernel_rfl)
   change wpList _ _ _ _ _ wr.drew
   go_wp2_with fail
   refine (WU64_any x R.out.wr.drew hx (by omega)).mono ?_
   rintro r w5 ⟨rfl, v2, s2⟩
   have hb2 := s2.mods.heap (show wr.drew.heap[w.heap.size]? = _ from HB.out) (fun y => by
    rcases y with y | y
    ·have := HW.out g (.inl rfl); omega
    ·rcases R.out.blk with hb | hb
     ·have := HW.out _ (.inr (hb ▸ y)); omega
     ·have := hb _ y; have := hsz0.out; omega)
   have S2 := R.out.trans (s2.from ((Mods.refl noB wr).drew))
   rw [wput0', List.append_assoc, ← HN1.out] at S2
   have R2 := Lib.hid (And.intro S2 hb2)
   clear s2 hb2 S2 R HB d0 d1 c0 c1
   go_wp2
   go_roundw
   case rel => exact ⟨k + 1, by omega, by go_num, Lib.hid ⟨v2, R2.out⟩⟩
   case measure => simp [intOf]; omega
  ·have e : ns.take k = ns := List.take_of_length_le (by rw [HLN.out, HO.out]; omega)
   have hr := R.out.from m0.out
   rw [e] at hr
   have R2 := Lib.hid hr
   clear R hr HB c0 c1
   go_wp2
   go_end0
   exact ⟨rfl, v1, R2.out⟩
theorem RN.keepW {S : Nat → Prop} {w w' : World} {u : Value} {ls : List Nat} (h : RN w u ls) (hm : Mods S w w') (ha : ls = [] ∨ ∀ k, u.ownBlock = some k → ¬ S k) : RN w' u ls := by
 rcases ha with rfl | ha
 ·refine ⟨rfl, ?_⟩
  rcases h.2 with h2 | ⟨g, off, cap, hv, h1, h2, hg, h3⟩
  ·exact .inl h2
  ·exact .inr ⟨g, off, cap, hv, h1, h2, .inl rfl, fun j u hj => by simp at hj⟩
 ·exact RdM.keep h hm ha
def dlay (ls : List Nat) : List UInt8 := natL (shortN (dval 18446744073709551616 ls))
theorem dlay_len (ls : List Nat) : (dlay ls).length ≤ 256 := by
 have := shortN_blen (dval 18446744073709551616 ls)
 unfold dlay
 rw [natL, List.length_append, be_length, natB_length]
 omega
end Go.Proofs.YtglkmaalpammcaaGreat
namespace Go.Proofs.YtglkmaalpammcaaGreat
open Go.Gl Go.RowKit
structure TR (g B : Nat) (T : TypeId) (v : Value) (s : ESt) (cur : Array Value) (wx : World) : Prop where
 rr : Rr wx g v s.1 s.2
 box : wx.heap[B]? = some (.cells cur T (0, 0))
 ne : B ≠ g
 nb : v.ownBlock ≠ some B
def TRs (w : World) (g B : Nat) (T : TypeId) (v : Value) (s : ESt) (cur : Array Value) (wx : World) : Prop :=
 ∃ v', TR g B T v' s cur wx ∧ Mods (fun k => k = g ∨ k = B) w wx ∧ ∀ k, v'.ownBlock = some k → v.ownBlock = some k
theorem TRs.refl {w : World} {g B : Nat} {T : TypeId} {v : Value} {s : ESt} {cur : Array Value} (h : TR g B T v s cur w) : TRs w g B T v s cur w := ⟨v, h, Mods.refl _ _, fun _ x => x⟩
theorem TRs.trans {w w1 w2 : World} {g B : Nat} {T : TypeId} {v v1 : Value} {s t : ESt} {cur cur2 : Array Value} (h : Mods (fun k => k = g ∨ k = B) w w1) (hv : ∀ k, v1.ownBlock = some k → v.ownBlock = some k) (k : TRs w1 g B T v1 t cur2 w2) : TRs w g B T v t cur2 w2 := by
 obtain ⟨v2, k1, k2, k3⟩ := k
 exact ⟨v2, k1, h.trans k2 (fun _ _ x => x) (fun _ _ x => x), fun i hi => hv i (k3 i hi)⟩
theorem TR.alloc {w : World} {g B : Nat} {T : TypeId} {v : Value} {s : ESt} {cur : Array Value} (h : TR g B T v s cur w) (o : Obj) : TR g B T v s cur (w.alloc o) :=
 ⟨h.rr.keep ((Mods.refl noB w).alloc o) (fun x => x) (fun _ _ x => x), heap_old h.box o, h.ne, h.nb⟩
theorem TR.step {w wy : World} {g B : Nat} {T : TypeId} {v v' : Value} {s t : ESt} {cur : Array Value} (h : TR g B T v s cur w) (k : RStp w g v t.1 t.2 wy v') : TR g B T v' t cur wy :=
 ⟨k.rr, k.mods.heap h.box h.ne, h.ne, fun e => h.nb (k.blk _ e)⟩
theorem TR.set {w : World} {g B : Nat} {T : TypeId} {v : Value} {s : ESt} {cur : Array Value} (h : TR g B T v s cur w) (o : Nat) (u : Value) : TR g B T v s (cur.setIfInBounds o u) (w.setCell ⟨B, o, none⟩ u) :=
 ⟨h.rr.keep (Mods.one w B o u) (fun e => h.ne e.symm) (fun k hk e => h.nb (by rw [hk, e])), heap_set h.box o u, h.ne, h.nb⟩
def setAt : Array Value → List Nat → List Value → Array Value
 | cur, o :: os, u :: us => setAt (cur.setIfInBounds o u) os us
 | cur, _, _ => cur
theorem setAt_size (os : List Nat) : ∀ (cur : Array Value) (us : List Value), (setAt cur os us).size = cur.size := by
  induction os with
  | nil => intro cur us; rfl
  | cons o os ih =>
    intro cur us
    cases us with
    | nil => rfl
    | cons u us => exact (ih _ _).trans (Array.size_setIfInBounds ..)
theorem setAt_snoc (os : List Nat) (o : Nat) (u : Value) : ∀ (cur : Array Value) (us : List Value), us.length = os.length → setAt cur (os ++ [o]) (us ++ [u]) = (setAt cur os us).setIfInBounds o u := by
  induction os with
  | nil =>
    intro cur us h
    obtain rfl := List.eq_nil_of_length_eq_zero h
    rfl
  | cons p os ih =>
    intro cur us h
    cases us with
    | nil => simp at h
    | cons x us => exact ih _ _ (by simpa using h)
def nst : Nat → ESt → ESt
 | 0, s => s
 | k + 1, s => est 8 (nst k s)
def nvs : Nat → ESt → List Nat
 | 0, _ => []
 | k + 1, s => nvs k s ++ [evl 8 (nst k s)]
theorem nvs_length (k : Nat) (s : ESt) : (nvs k s).length = k := by
 induction k with
 | zero => rfl
 | succ k ih => rw [nvs, List.length_append, ih]; rfl
def uv (x : Nat) : Value := .int .u64 x
def dst : Nat → ESt → ESt
 | 0, s => s
 | k + 1, s => natT (dst k s)
theorem est_len (n : Nat) (s : ESt) : (est n s).1.length ≤ s.1.length := by
 simp only [est, rleft]
 split
 ·split
  ·simp
  ·exact Nat.le_refl _
 ·exact Nat.le_refl _
theorem nst_len (k : Nat) (s : ESt) : (nst k s).1.length ≤ s.1.length := by
 induction k with
 | zero => exact Nat.le_refl _
 | succ k ih => exact Nat.le_trans (est_len 8 _) ih
set_option maxHeartbeats 2000000 in
theorem nums_r {w : World} {g B : Nat} {T : TypeId} {v : Value} {s : ESt} {cur : Array Value} {sl : Value} {os : List Nat} (h : TR g B T v s cur w) (hp : RdM (ptr B) w sl os) (sb : ∀ k, sl.ownBlock = some k → k < w.heap.size ∧ ¬ (k = g ∨ k = B)) (hc : ∀ (i o : Nat), os[i]? = some o → o < cur.size) :
  Calls Tryz.prog 220 #[.agg #[.pointer none, .pointer (some ⟨g, 0, none⟩)], sl] w fun r w' => r = .returned (.tuple #[]) ∧ TRs w g B T v (nst os.length s) (setAt cur os ((nvs os.length s).map uv)) w' := by
 obtain ⟨a, c, rfl, hlm⟩ := RdM.form hp
 have HP := Lib.hid hp
 have HSB := Lib.hid sb
 have HC := Lib.hid hc
 have b0 := heap_new w (.cells #[.pointer none, .pointer (some ⟨g, 0, none⟩)] 314)
 have m0 := Lib.hid ((Mods.refl noB w).alloc (.cells #[.pointer none, .pointer (some ⟨g, 0, none⟩)] 314))
 have W0 := Lib.hid (TRs.refl (h.alloc (.cells #[.pointer none, .pointer (some ⟨g, 0, none⟩)] 314)))
 have HL := Lib.hid (And.intro h.rr.lt (lt_of_heap h.box))
 have HB0 := Lib.hid b0
 obtain ⟨n, hos⟩ : ∃ n, os.length = n := ⟨_, rfl⟩
 have HO := Lib.hid hos
 unfold maxLen at hlm
 rw [hos] at hlm ⊢
 clear hp sb hc b0 hos h
 go_enter Tryz.func220, Tryz.ntmps220
 go_wp2
 generalize World.alloc w _ = w0 at *
 go_loopw [8] (fun i wr => ∃ k : Nat, k ≤ n ∧ i = .int .i64 k ∧ Hid (TRs w0 g B T v (nst k s) (setAt cur (os.take k) ((nvs k s).map uv)) wr ∧ wr.heap[w.heap.size]? = some (.cells #[.pointer none, .pointer (some ⟨g, 0, none⟩)] 314 (0, 0)))) (fun i _ => n - (intOf i).toNat)
 case atStart => exact ⟨0, Nat.zero_le _, rfl, Lib.hid ⟨W0.out, HB0.out⟩⟩
 case round =>
  clear W0 HB0
  obtain ⟨k, hk, rfl, hR⟩ := hrel
  obtain ⟨⟨v1, r1, rm, rb⟩, r2⟩ := hR.out
  have c0 := cells_of r2 0
  have c1 := cells_of r2 1
  have HB := Lib.hid r2
  have RM := Lib.hid (And.intro rm rb)
  clear hR r2
  by_cases hlt : k < n
  ·have lk : k < os.length := by rw [HO.out]; exact hlt
   have lo := HC.out k os[k] (List.getElem?_eq_getElem lk)
   obtain ⟨g1, off, hsl, hsc⟩ : ∃ g1 off, a = some ⟨g1, off, none⟩ ∧ w.cell? ⟨g1, off + k, none⟩ = some (ptr B os[k]) := by
    rcases RdM.open HP.out with ⟨_, h0⟩ | ⟨g1, off, cap, hv, _, _, _, h5⟩
    ·rw [h0] at lk; simp at lk
    ·cases hv
     exact ⟨g1, off, rfl, h5 k lk⟩
   subst hsl
   obtain ⟨hg1, hg2⟩ := HSB.out g1 rfl
   have M1 := Lib.hid (m0.out.trans RM.out.1 (U := fun k => k = g ∨ k = B) (fun _ _ x => x.elim) (fun _ _ x => x))
   have d0 := (M1.out.cellAt hg1 hg2 (off + k)).trans hsc
   have HN1 := Lib.hid (show setAt cur (os.take (k + 1)) ((nvs (k + 1) s).map uv) = (setAt cur (os.take k) ((nvs k s).map uv)).setIfInBounds os[k] (uv (evl 8 (nst k s))) from by
    rw [List.take_succ_eq_append_getElem lk, nvs, List.map_append]
    exact setAt_snoc _ _ _ _ _ (by rw [List.length_map, nvs_length, List.length_take]; omega))
   have HS1 := Lib.hid (show nst (k + 1) s = est 8 (nst k s) from rfl)
   have hcs : (setAt cur (os.take k) ((nvs k s).map uv)).size = cur.size := setAt_size _ _ _
   generalize setAt cur (os.take k) ((nvs k s).map uv) = ca at *
   generalize nst k s = sa at *
   generalize os[k] = o at *
   obtain ⟨old, hold⟩ : ∃ old, ca[o]? = some old := ⟨_, Array.getElem?_eq_getElem (by omega)⟩
   clear hsc hg1 hg2
   unfold ptr at d0
   have R1 := Lib.hid r1
   clear r1 rm rb lo hcs
   go_wp2_with fail
   refine (RU64_any R1.out.rr).mono ?_
   rintro r w5 ⟨rfl, v2, s2⟩
   have hw := HL.out
   have hw2 := RM.out.1.size
   have hw3 := m0.out.size
   have hb2 := Lib.hid (s2.mods.heap HB.out (by omega))
   have t2 := R1.out.step (t := est 8 sa) s2
   have d1 := (cells_of t2.box o).trans hold
   have f1 := free_of t2.box o
   have T2 := Lib.hid t2
   have S2 := Lib.hid s2
   clear t2 s2 hw hw2 hw3 c0 c1
   go_wp2
   go_roundw
   case rel =>
    refine ⟨k + 1, by omega, by go_num, Lib.hid ⟨⟨v2, ?_, ?_, ?_⟩, ?_⟩⟩
    ·rw [HN1.out, HS1.out]
     exact T2.out.set o _
    ·exact (RM.out.1.trans S2.out.mods (fun _ _ x => x) (fun _ _ x => .inl x)).setCell (.inl (.inr rfl)) _
    ·exact fun i hi => RM.out.2 i (S2.out.blk i hi)
    ·have hw := HL.out
     exact (heap_set_other (by simp only; omega) _).trans hb2.out
   case measure => simp [intOf]; omega
  ·have e : os.take k = os := List.take_of_length_le (by rw [HO.out]; omega)
   obtain rfl : k = n := by omega
   rw [e] at r1
   have R2 := Lib.hid (And.intro r1 (And.intro (m0.out.trans RM.out.1 (U := fun k => k = g ∨ k = B) (fun _ _ x => x.elim) (fun _ _ x => x)) RM.out.2))
   clear r1 HB rm rb
   go_wp2
   go_end0
   exact ⟨rfl, v1, R2.out⟩
end Go.Proofs.YtglkmaalpammcaaGreat
namespace Go.Proofs.YtglkmaalpammcaaGreat
open Go.Gl Go.RowKit
structure WB0 (w : World) (g B : Nat) (v0 : Value) (cur : Array Value) (T : TypeId) : Prop where
 wr : ∃ xs, Wr w g v0 xs 0
 box : w.heap[B]? = some (.cells cur T (0, 0))
 ne : ¬ WS g v0 B
structure WF (w : World) (g tb : Nat) (v0 : Value) (xs : List UInt8) (wx : World) : Prop where
 st : ∃ v', WStep w g v0 xs 0 wx v' ∧ ¬ WS g v' tb
 tbx : wx.heap[tb]? = some (.cells #[.pointer (some ⟨g, 0, none⟩), .pointer none] 314 (0, 0))
 new : w.heap.size ≤ tb
theorem WStep.ws {w wx : World} {g : Nat} {v0 v1 : Value} {xs ys : List UInt8} (h : WStep w g v0 xs 0 wx v1) {k : Nat} (hk : WS g v1 k) : WS g v0 k ∨ w.heap.size ≤ k := by
 rcases hk with rfl | hk
 ·exact .inl (.inl rfl)
 ·rcases h.blk with hb | hb
  ·exact .inl (.inr (hb ▸ hk))
  ·exact .inr (hb k hk)
variable {w wx wy : World} {g B tb : Nat} {v0 : Value} {xs : List UInt8} {cur : Array Value} {T : TypeId}
theorem WF.start (h : Wr w g v0 xs 0) : WF w g w.heap.size v0 xs (w.alloc (.cells #[.pointer (some ⟨g, 0, none⟩), .pointer none] 314)) :=
 ⟨⟨v0, ⟨h.then0 ((Mods.refl noB w).alloc _), (Mods.refl _ w).alloc _, .inl rfl⟩, fun x => by have := WS_lt h x; omega⟩, heap_new _ _, Nat.le_refl _⟩
theorem WF.c (h : WF w g tb v0 xs wx) (o : Nat) : wx.cell? ⟨tb, o, none⟩ = (#[.pointer (some ⟨g, 0, none⟩), .pointer none] : Array Value)[o]? := cells_of h.tbx o
theorem WF.lt (h : WF w g tb v0 xs wx) : tb < wx.heap.size := lt_of_heap h.tbx
theorem rd_ptrs {wy : World} {k n : Nat} {os : List Nat} {e : TypeId} {B : Nat} {cs : Array Value} (hk : wy.heap[k]? = some (.cells cs e (0, 0))) (hc : cs = (os.map (ptr B)).toArray) (hn : os.length = n) (hm : n ≤ 1000) : RdM (ptr B) wy (.slice (some ⟨k, 0, none⟩) n n) os := by
 subst hc
 exact rdM_of hn (Nat.le_refl _) (by unfold maxLen; omega) (.inr (lt_of_heap hk)) (fun i hi => by rw [cells_of hk]; simp [hi])
theorem WF.at (h : WF w g tb v0 xs wx) (hm : Mods noB wx wy) : ∃ v1, WStep w g v0 xs 0 wy v1 ∧ WStep w g v0 xs 0 wx v1 ∧ ∀ ys w' v2, WStep wy g v1 ys 0 w' v2 → WF w g tb v0 ys w' := by
 obtain ⟨⟨v1, h1, h4⟩, h2, h3⟩ := h
 have hy : WStep w g v0 xs 0 wy v1 := ⟨h1.wr.then0 hm, h1.mods.then0 hm, h1.blk⟩
 refine ⟨v1, hy, h1, fun ys w' v2 s => ⟨⟨v2, hy.trans s, fun x => ?_⟩, s.mods.heap (hm.heap h2 (fun x => x)) h4, h3⟩⟩
 rcases x with x | x
 ·exact h4 (.inl x)
 ·rcases s.blk with hb | hb
  ·exact h4 (.inr (hb ▸ x))
  ·have := hb _ x
   have := lt_of_heap h2
   have := hm.size
   omega
theorem WF.tw (h : WF w g tb v0 xs wx) (b : WB0 w g B v0 cur T) (hm : Mods noB wx wy) {k n : Nat} {os : List Nat} (hk : wx.heap.size ≤ k) (hkl : k < wy.heap.size) (hp : RdM (ptr B) wy (.slice (some ⟨k, 0, none⟩) n n) os) :
  ∃ v1, Wr wy g v1 xs 0 ∧ WStep w g v0 xs 0 wx v1 ∧ TW wy g B v1 cur T (.slice (some ⟨k, 0, none⟩) n n) os ∧ ∀ ys w' v2, WStep wy g v1 ys 0 w' v2 → WF w g tb v0 ys w' := by
 obtain ⟨v1, hy, hx, hn⟩ := h.at hm
 have hB := lt_of_heap b.box
 refine ⟨v1, hy.wr, hx, ⟨⟨xs, hy.wr⟩, hy.mods.heap b.box b.ne, fun x => ?_, hp, fun i hi => ?_⟩, hn⟩
 ·rcases hy.ws (ys := xs) x with x | x
  ·exact b.ne x
  ·omega
 ·obtain rfl : k = i := by simpa [Value.ownBlock] using hi
  exact ⟨hkl, fun x => by have := WS_lt hx.wr x; omega⟩
theorem WF.nums (h : WF w g tb v0 xs wx) (b : WB0 w g B v0 cur T) (hm : Mods noB wx wy) {k n : Nat} (os ns : List Nat) (hk : wx.heap.size ≤ k) {e : TypeId} {cs : Array Value} (hkc : wy.heap[k]? = some (.cells cs e (0, 0))) (hcs : cs = (os.map (ptr B)).toArray) (hon : os.length = n) (hn : n ≤ 1000) (hnl : ns.length = os.length)
  (hc : ∀ (i o x : Nat), os[i]? = some o → ns[i]? = some x → cur[o]? = some (.int .u64 x)) (hu : Lim ns) (hl : xs.length ≤ 50000000) :
  Calls Tryz.prog 220 #[.agg #[.pointer (some ⟨g, 0, none⟩), .pointer none], .slice (some ⟨k, 0, none⟩) n n] wy fun r w' => r = .returned (.tuple #[]) ∧ WF w g tb v0 (xs ++ ns.flatMap (be 8)) w' := by
 obtain ⟨v1, s1, _, t1, hnx⟩ := h.tw b hm hk (lt_of_heap hkc) (rd_ptrs hkc hcs hon hn)
 refine (nums_w s1 t1 hnl hc hu (by omega)).mono ?_
 rintro r w' ⟨rfl, v2, s2⟩
 exact ⟨rfl, hnx _ _ _ s2⟩
structure RF (w : World) (g B tb : Nat) (T : TypeId) (v0 : Value) (s : ESt) (cur : Array Value) (ds : List (Value × List Nat)) (wx : World) : Prop where
 st : TRs w g B T v0 s cur wx
 tbx : wx.heap[tb]? = some (.cells #[.pointer none, .pointer (some ⟨g, 0, none⟩)] 314 (0, 0))
 new : w.heap.size ≤ tb
 gB : g < w.heap.size ∧ B < w.heap.size
 ds : ∀ p ∈ ds, RN wx p.1 p.2 ∧ freshIn w p.1
variable {s : ESt} {ds : List (Value × List Nat)}
theorem RF.start {v : Value} (h : TR g B T v s cur w) : RF w g B w.heap.size T v s cur [] (w.alloc (.cells #[.pointer none, .pointer (some ⟨g, 0, none⟩)] 314)) :=
 ⟨⟨v, h.alloc _, (Mods.refl _ w).alloc _, fun _ x => x⟩, heap_new _ _, Nat.le_refl _, ⟨h.rr.lt, lt_of_heap h.box⟩, fun p hp => by cases hp⟩
theorem RF.c (h : RF w g B tb T v0 s cur ds wx) (o : Nat) : wx.cell? ⟨tb, o, none⟩ = (#[.pointer none, .pointer (some ⟨g, 0, none⟩)] : Array Value)[o]? := cells_of h.tbx o
theorem RF.lt (h : RF w g B tb T v0 s cur ds wx) : tb < wx.heap.size := lt_of_heap h.tbx
theorem RF.at (h : RF w g B tb T v0 s cur ds wx) (hm : Mods noB wx wy) : ∃ v1, TR g B T v1 s cur wy ∧ ∀ s' cur' w', TRs wy g B T v1 s' cur' w' → RF w g B tb T v0 s' cur' ds w' := by
 obtain ⟨⟨v1, h1, h2, h3⟩, h4, h5, h6, h7⟩ := h
 have hy : TR g B T v1 s cur wy := ⟨h1.rr.keep hm (fun x => x) (fun _ _ x => x), hm.heap h1.box (fun x => x), h1.ne, h1.nb⟩
 refine ⟨v1, hy, fun s' cur' w' k => ?_⟩
 obtain ⟨v2, k1, k2, k3⟩ := k
 have hz := (h2.then0 hm).size
 refine ⟨⟨v2, k1, (h2.then0 hm).trans k2 (fun _ _ x => x) (fun _ _ x => x), fun i hi => h3 i (k3 i hi)⟩, k2.heap (hm.heap h4 (fun x => x)) (by omega), h5, h6, fun p hp => ?_⟩
 obtain ⟨q1, q2⟩ := h7 p hp
 exact ⟨RdM.keep (RdM.keep q1 hm (fun _ _ x => x)) k2 (fun i hi => by have := q2 i hi; omega), q2⟩
theorem RF.sb (h : RF w g B tb T v0 s cur ds wx) (hm : Mods noB wx wy) {k n : Nat} (hk : wx.heap.size ≤ k) (hkl : k < wy.heap.size) : ∀ i, (Value.slice (some ⟨k, 0, none⟩) n n).ownBlock = some i → i < wy.heap.size ∧ ¬ (i = g ∨ i = B) := by
 intro i hi
 obtain rfl : k = i := by simpa [Value.ownBlock] using hi
 obtain ⟨v1, h1, h2, h3⟩ := h.st
 have := h2.size
 have := h.gB
 exact ⟨hkl, by omega⟩
theorem RF.nums (h : RF w g B tb T v0 s cur ds wx) (hm : Mods noB wx wy) {k n : Nat} (os : List Nat) (hk : wx.heap.size ≤ k) {e : TypeId} {cs : Array Value} (hkc : wy.heap[k]? = some (.cells cs e (0, 0))) (hcs : cs = (os.map (ptr B)).toArray) (hon : os.length = n) (hn : n ≤ 1000)
  (hc : ∀ (i o : Nat), os[i]? = some o → o < cur.size) :
  Calls Tryz.prog 220 #[.agg #[.pointer none, .pointer (some ⟨g, 0, none⟩)], .slice (some ⟨k, 0, none⟩) n n] wy fun r w' => r = .returned (.tuple #[]) ∧ RF w g B tb T v0 (nst n s) (setAt cur os ((nvs n s).map uv)) ds w' := by
 obtain ⟨v1, h1, hnx⟩ := h.at hm
 refine (nums_r h1 (rd_ptrs hkc hcs hon hn) (h.sb hm hk (lt_of_heap hkc)) hc).mono ?_
 rintro r w' ⟨rfl, t⟩
 subst hon
 exact ⟨rfl, hnx _ _ _ t⟩
/-! ### for the printed walks -/
theorem lay_n (n : Nat) : Fld.lay ⟨0, n, []⟩ = be 8 n := rfl
theorem lay_b (b : Bool) : Fld.lay ⟨1, if b then 1 else 0, []⟩ = be 1 (if b then 1 else 0) := by cases b <;> rfl
theorem lay_d (l : List Nat) : Fld.lay ⟨2, 0, l⟩ = dlay l := rfl
theorem tS_step {a b : World} {tb : Nat} {p q : Value} (hm : Mods noB a b) (h1 : a.cell? ⟨tb, 0, none⟩ = some p) (h2 : a.cell? ⟨tb, 1, none⟩ = some q) (h3 : tb < a.heap.size) : b.cell? ⟨tb, 0, none⟩ = some p ∧ b.cell? ⟨tb, 1, none⟩ = some q ∧ tb < b.heap.size :=
 ⟨(hm.cellAt h3 (fun x => x) 0).trans h1, (hm.cellAt h3 (fun x => x) 1).trans h2, hm.size_of h3⟩
theorem WF.tS (h : WF w g tb v0 xs wx) : wx.cell? ⟨tb, 0, none⟩ = some (.pointer (some ⟨g, 0, none⟩)) ∧ wx.cell? ⟨tb, 1, none⟩ = some (.pointer none) ∧ tb < wx.heap.size := ⟨h.c 0, h.c 1, h.lt⟩
theorem RF.tS (h : RF w g B tb T v0 s cur ds wx) : wx.cell? ⟨tb, 0, none⟩ = some (.pointer none) ∧ wx.cell? ⟨tb, 1, none⟩ = some (.pointer (some ⟨g, 0, none⟩)) ∧ tb < wx.heap.size := ⟨h.c 0, h.c 1, h.lt⟩
def allU (cur : Array Value) : List Nat → List Nat → Prop
 | o :: os, x :: xs => cur[o]? = some (.int .u64 x) ∧ allU cur os xs
 | _, _ => True
theorem allU_get {cur : Array Value} : ∀ (os ns : List Nat), allU cur os ns → ∀ (i o x : Nat), os[i]? = some o → ns[i]? = some x → cur[o]? = some (.int .u64 x)
  | [], _, _, i, o, x, h, _ => by simp at h
  | _ :: _, [], _, i, o, x, _, h => by simp at h
  | o' :: os, x' :: ns, h, 0, o, x, h1, h2 => by
    cases h1
    cases h2
    exact h.1
  | o' :: os, x' :: ns, h, i + 1, o, x, h1, h2 => allU_get os ns h.2 i o x h1 h2
theorem allR_get {n : Nat} {os : List Nat} (h : os.all (fun o => decide (o < n)) = true) : ∀ (i o : Nat), os[i]? = some o → o < n := fun i o ho => by
 have := List.all_eq_true.1 h o (List.mem_of_getElem? ho)
 simpa using this
theorem lenU (xs : List UInt8) (ns : List Nat) (h : ns.length ≤ 100) : (xs ++ ns.flatMap (be 8)).length ≤ xs.length + 1000 := by
 have : ∀ l : List Nat, (l.flatMap (be 8)).length = 8 * l.length := by
  intro l
  induction l with
  | nil => rfl
  | cons x l ih => rw [List.flatMap_cons, List.length_append, ih, be_length, List.length_cons]; omega
 rw [List.length_append, this]
 omega
end Go.Proofs.YtglkmaalpammcaaGreat
namespace Go.Proofs.YtglkmaalpammcaaGreat
open Go.Gl Go.RowKit
theorem Rd.str {w : World} {v : Value} {xs : List UInt8} (h : Rd w v xs) : (convert 91 9 v).run Tryz.prog w = .ok (.string ⟨xs.toArray⟩) w := by
 rcases h.open with ⟨h0, rfl⟩ | ⟨g, off, cap, rfl, h1, h2, _, h3⟩
 ·rcases h0 with rfl | ⟨g, off, s, rfl⟩
  ·exact Lib.run_convert_nil_bytes w 91 9 5 0 Tryz.underlying91 Tryz.underlying5 Tryz.underlying9
  ·exact run_convert_bytes_back w 91 9 5 ⟨g, off, some s⟩ 0 [] Tryz.underlying91 Tryz.underlying5 Tryz.underlying9 (fun j hj => by simp at hj)
 ·refine run_convert_bytes_back w 91 9 5 _ cap xs Tryz.underlying91 Tryz.underlying5 Tryz.underlying9 (fun j hj => ?_)
  rw [show (⟨g, off, none⟩ : Addr).add j = ⟨g, off + j, none⟩ from Addr.add_lit ..]
  exact h3 j hj
theorem lst_eq (xs ys : List UInt8) : (xs == ys) = decide (xs = ys) := by
 by_cases h : xs = ys <;> simp [h]
set_option maxHeartbeats 400000 in
theorem Equal_any {x y : Value} {xs ys : List UInt8} {w : World} (hx : Rd w x xs) (hy : Rd w y ys) :
  Calls Tryz.prog 211 #[x, y] w fun e w' => e = .returned (.bool (decide (xs = ys))) ∧ Quiet w w' := by
 have k1 := Rd.str hx
 have k2 := Rd.str hy
 go_enter Tryz.func211, Tryz.ntmps211
 go_wp2
 go_ret
 exact ⟨ret_bool (lst_eq xs ys), Quiet.refl _⟩
end Go.Proofs.YtglkmaalpammcaaGreat

/- gleanlaw4.known: the chapter's examples hold. -/
import Derived.Test.YtebknplbghcemaaEKnown
import Derived.Test.YtebknplbghcemaaHNat
import Derived.Lib.SlBytesConst
namespace Go.Proofs.Ytebknplbghcemaa
open Go.Gl Go.RowKit
set_option linter.unusedVariables false
set_option maxRecDepth 100000

def TrueM (w : World) (e : Ending) (w' : World) : Prop := e = .returned (.bool true) ∧ Mods noB w w'

theorem Bytes_true {x y : Value} {xs : List UInt8} {w : World} (hx : Rd w x xs) (hy : Rd w y xs) : Calls Try.prog 17 #[x, y] w fun e w' => e = .returned (.bool true) ∧ Mods noB w w' :=
  (Bytes_any hx hy).mono fun e w' ⟨he, hq⟩ => ⟨by rw [he]; simp, hq.mods _⟩
theorem HNat_true {x y : Value} {xs : List Nat} {w : World} (hx : RN w x xs) (hy : RN w y xs) : Calls Try.prog 46 #[x, y] w fun e w' => e = .returned (.bool true) ∧ Mods noB w w' :=
  (HNat_any hx hy).mono fun e w' ⟨he, hq⟩ => ⟨by rw [he]; simp, hq.mods _⟩

theorem onlit (x : Nat) {w : World} (n : Nat) (hn : n = w.heap.size) : RN (w.alloc (.cells #[.int .u64 x] 22)) (.slice (some ⟨n, 0, none⟩) 1 1) [x] := by
  subst hn
  exact rdM_of rfl (Nat.le_refl _) (by simp [maxLen]) (by simp) (fun i hi => by
    have : i = 0 := by simpa using hi
    subst this
    exact cells_of (heap_new w _) 0)

theorem kLim : Lim [256] := fun x hx => by simp at hx; omega

theorem ks1 : evl 1 (kb0, 0) = 7 ∧ est 1 (kb0, 0) = (kb0.drop 1, 0) := by decide
theorem ks2 : evl 4 (kb0.drop 1, 0) = 258 ∧ est 4 (kb0.drop 1, 0) = (kb0.drop 5, 0) := by decide
theorem ks3 : decide (evl 1 (kb0.drop 5, 0) = 1) = true ∧ boolS (kb0.drop 5, 0) = (kb0.drop 6, 0) := by decide
theorem ks4 : natV (kb0.drop 6, 0) = [256] ∧ natT (kb0.drop 6, 0) = (kb0.drop 9, 0) := by decide +kernel
theorem ks5 : rawV 2 (kb0.drop 9, 0) = [97, 98] ∧ rawT 2 (kb0.drop 9, 0) = ([], 0) := by decide
theorem ks6 : natT ([2, 0, 5], 0) = ([2, 0, 5], 41) ∧ natV ([2, 0, 5], 0) = [] := by decide +kernel
theorem ks7 : rawT 1 ([0, 0, 0, 2, 97, 98], 0) = ([0, 0, 0, 2, 97, 98], 42) ∧ rawV 1 ([0, 0, 0, 2, 97, 98], 0) = [] := by decide

theorem rd_at_lit (xs : List UInt8) {w : World} (n len : Nat) (cs : Array Value) {e : TypeId} {fr : Nat × Nat} (hw : w.heap[n]? = some (.cells cs e fr)) (hl : xs.length = len) (hm : Nat.ble len 1000 = true) (hc : cs.toList = bv xs) : Rd w (.slice (some ⟨n, 0, none⟩) len len) xs := by
  subst hl
  refine ⟨by rw [bv_length, Nat.mul_one], .inr ⟨_, 0, _, rfl, Nat.le_refl _, by have := Nat.le_of_ble_eq_true hm; simp only [maxLen]; omega, .inr (lt_of_heap hw), fun j u hj => ?_⟩⟩
  rw [Nat.zero_add, cells_of hw, ← Array.getElem?_toList, hc]
  exact hj

/-- Two readers that the call itself has made. -/
structure K2 (w : World) (gx : Nat) (sx : ESt) (gy : Nat) (sy : ESt) (vx vy : Value) (wx : World) : Prop where
  rx : Rr wx gx vx sx.1 sx.2
  ry : Rr wx gy vy sy.1 sy.2
  mods : Mods noB w wx
  bx : w.heap.size ≤ gx
  b_y : w.heap.size ≤ gy
  ne : gx ≠ gy
  nx : vx.ownBlock ≠ some gy
  ny : vy.ownBlock ≠ some gx

theorem K2.make {w w1 w2 w3 : World} {gx gy : Nat} {xs ys : List UInt8} {o : Obj} (hm : Mods noB w w1) (h1 : ∃ v, Rr w2 gx v xs 0 ∧ Mods noB w1 w2 ∧ w1.heap.size ≤ gx ∧ freshIn w1 v) (h2 : ∃ v, Rr w3 gy v ys 0 ∧ Mods noB (w2.alloc o) w3 ∧ (w2.alloc o).heap.size ≤ gy ∧ freshIn (w2.alloc o) v) : ∃ vx vy, K2 w gx (xs, 0) gy (ys, 0) vx vy w3 := by
  obtain ⟨v, k1, k2, k3, k4⟩ := h1
  obtain ⟨v', q1, q2, q3, q4⟩ := h2
  have m := ((Mods.refl noB w2).alloc o).then0 q2
  have hs : w2.heap.size < (w2.alloc o).heap.size := by simp
  refine ⟨v, v', k1.keep m (fun x => x) (fun _ _ x => x), q1, (hm.then0 k2).then0 m, Nat.le_trans hm.size k3, Nat.le_trans (Nat.le_trans (hm.then0 k2).size (Nat.le_of_lt hs)) q3, by have := k1.lt; omega, fun e => ?_, fun e => ?_⟩
  · have := k1.blt _ e; omega
  · have := q4 _ e; have := k1.lt; omega

theorem K2.stepx {w wx wy : World} {gx gy : Nat} {sx sy s' : ESt} {vx vy v' : Value} (h : K2 w gx sx gy sy vx vy wx) (k : RStp wx gx vx s'.1 s'.2 wy v') : K2 w gx s' gy sy v' vy wy :=
  ⟨k.rr, h.ry.keep k.mods (fun e => h.ne e.symm) (fun i hi e => h.ny (by rw [hi, e])), h.mods.trans k.mods (fun _ _ x => x) (fun i hi x => by have := h.bx; omega), h.bx, h.b_y, h.ne, fun e => h.nx (k.blk _ e), h.ny⟩
theorem K2.stepy {w wx wy : World} {gx gy : Nat} {sx sy s' : ESt} {vx vy v' : Value} (h : K2 w gx sx gy sy vx vy wx) (k : RStp wx gy vy s'.1 s'.2 wy v') : K2 w gx sx gy s' vx v' wy :=
  ⟨h.rx.keep k.mods (fun e => h.ne e) (fun i hi e => h.nx (by rw [hi, e])), k.rr, h.mods.trans k.mods (fun _ _ x => x) (fun i hi x => by have := h.b_y; omega), h.bx, h.b_y, h.ne, h.nx, fun e => h.ny (k.blk _ e)⟩
theorem K2.then0 {w wx wy : World} {gx gy : Nat} {sx sy : ESt} {vx vy : Value} (h : K2 w gx sx gy sy vx vy wx) (m : Mods noB wx wy) : K2 w gx sx gy sy vx vy wy :=
  ⟨h.rx.keep m (fun x => x) (fun _ _ x => x), h.ry.keep m (fun x => x) (fun _ _ x => x), h.mods.then0 m, h.bx, h.b_y, h.ne, h.nx, h.ny⟩

set_option maxHeartbeats 8000000 in
theorem eknown_any (w : World) : Calls Try.prog 21 #[] w (TrueM w) := by
  have hcv := fun (w : World) (C : Array Value) (n c : Nat) => Lib.run_convert_bytes_const (P := Try.prog) w 32 5 C n c Try.underlying32 Try.underlying5
  go_enter Try.func21, Try.ntmps21
  go_wp2_with fail
  have hk := KW.start w w (Mods.refl _ _)
  refine (hk.u8 7 (by omega) (by simp)).mono ?_
  rintro e w1 ⟨rfl, hk⟩
  go_wp2_with fail
  refine (hk.u32 258 (by omega) (by simp [be_length])).mono ?_
  rintro e w2 ⟨rfl, hk⟩
  go_wp2_with fail
  refine (hk.bool (by simp [be_length])).mono ?_
  rintro e w3 ⟨rfl, hk⟩
  go_wp2_with fail
  have hk := hk.then0 ((Mods.refl noB w3).alloc (.cells #[.int .u64 256] 22))
  refine (hk.nat (onlit 256 _ rfl) kLim (by simp) (by rw [kv256]; exact kblen) (by simp [be_length])).mono ?_
  rw [kv256]
  rintro e w4 ⟨rfl, hk⟩
  go_wp2_with fail
  refine (hk.raw (ys := [97, 98]) (.cells #[.int .u8 97, .int .u8 98] 5 (2, 3)) rfl (rd_at_lit [97, 98] _ 2 #[.int .u8 97, .int .u8 98] (heap_new _ _) rfl rfl rfl) (by simp) ?_).mono ?_
  next => have := kblen; simp [be_length, natL, natB_length]; omega
  rintro e w5 ⟨rfl, hk⟩
  rw [List.nil_append, kb0_is] at hk
  go_wp2_with fail
  refine (hk.out (by decide)).mono ?_
  rintro e w6 ⟨vb, rfl, ob, mb, fb⟩
  have M6 := Lib.hid mb
  have OB := Lib.hid ob
  clear hk mb ob fb
  go_wp2_with fail
  have M7 := Lib.hid (M6.out.alloc (.cells #[.int .u8 7, .int .u8 0, .int .u8 0, .int .u8 1, .int .u8 2, .int .u8 1, .int .u8 2, .int .u8 1, .int .u8 0, .int .u8 0, .int .u8 0, .int .u8 0, .int .u8 2, .int .u8 97, .int .u8 98] 5))
  have OB7 := Lib.hid (OB.out.alloc (.cells #[.int .u8 7, .int .u8 0, .int .u8 0, .int .u8 1, .int .u8 2, .int .u8 1, .int .u8 2, .int .u8 1, .int .u8 0, .int .u8 0, .int .u8 0, .int .u8 0, .int .u8 2, .int .u8 97, .int .u8 98] 5))
  refine (Bytes_true OB7.out.rd (own_at_lit kb0 _ 15 #[.int .u8 7, .int .u8 0, .int .u8 0, .int .u8 1, .int .u8 2, .int .u8 1, .int .u8 2, .int .u8 1, .int .u8 0, .int .u8 0, .int .u8 0, .int .u8 0, .int .u8 2, .int .u8 97, .int .u8 98] (heap_new w6 _) rfl rfl rfl).rd).mono ?_
  rintro e w8 ⟨rfl, m8⟩
  have M8 := Lib.hid (M7.out.then0 m8)
  have OB8 := Lib.hid (OB7.out.keep m8 (fun _ _ x => x))
  clear M6 OB M7 OB7 m8
  go_wp2_with fail
  refine (KR.new M8.out OB8.out.rd (by decide)).mono ?_
  rintro e w9 ⟨gr, rfl, hk, _⟩
  have HK := Lib.hid hk
  clear hk M8 OB8
  go_wp2_with fail
  refine (HK.out.u8 ks1.1 ks1.2).mono ?_
  rintro e w10 ⟨rfl, hk⟩
  replace HK := Lib.hid hk
  clear hk
  go_wp2_with fail
  refine (HK.out.u32 ks2.1 ks2.2).mono ?_
  rintro e w11 ⟨rfl, hk⟩
  replace HK := Lib.hid hk
  clear hk
  go_wp2_with fail
  refine (HK.out.bool ks3.1 ks3.2).mono ?_
  rintro e w12 ⟨rfl, hk⟩
  replace HK := Lib.hid hk
  clear hk
  go_wp2_with fail
  refine (HK.out.nat (by decide) ks4.1 ks4.2).mono ?_
  rintro e w13 ⟨un, rfl, hn, hk⟩
  obtain ⟨an, cn, rfl, _⟩ := RdM.form hn
  have HK := Lib.hid (hk.then0 ((Mods.refl noB w13).alloc (.cells #[.int .u64 256] 22)))
  have HN := Lib.hid (hn.keep ((Mods.refl noB w13).alloc (.cells #[.int .u64 256] 22)) (fun _ _ x => x))
  clear hk hn
  go_wp2_with fail
  refine (HNat_true HN.out (onlit 256 _ rfl)).mono ?_
  rintro e w14 ⟨rfl, m14⟩
  replace HK := Lib.hid (HK.out.then0 m14)
  clear m14 HN
  go_wp2_with fail
  refine (HK.out.left (n := 6) rfl).mono ?_
  rintro e w15 ⟨rfl, rfl⟩
  go_wp2_with fail
  refine (HK.out.raw 2 (by omega) (by decide) ks5.1 ks5.2).mono ?_
  rintro e w16 ⟨ur, rfl, orr, hk⟩
  obtain ⟨ar, cr, rfl, _⟩ := orr.rd.form
  have HK := Lib.hid (hk.then0 ((Mods.refl noB w16).alloc (.cells #[.int .u8 97, .int .u8 98] 5 (2, 3))))
  have OR := Lib.hid (orr.alloc (.cells #[.int .u8 97, .int .u8 98] 5 (2, 3)))
  clear hk orr
  go_wp2_with fail
  refine (Bytes_true OR.out.rd (rd_at_lit [97, 98] _ 2 #[.int .u8 97, .int .u8 98] (heap_new w16 _) rfl rfl rfl)).mono ?_
  rintro e w17 ⟨rfl, m17⟩
  replace HK := Lib.hid (HK.out.then0 m17)
  clear m17 OR
  go_wp2_with fail
  refine (HK.out.end (n := 0) rfl).mono ?_
  rintro e w18 ⟨rfl, m18⟩
  have M18 := Lib.hid m18
  clear m18 HK
  go_wp2_with fail
  have M19 := Lib.hid (M18.out.alloc (.cells #[.int .u8 2, .int .u8 0, .int .u8 5] 5))
  have l19 := own_at_lit [2, 0, 5] w18.heap.size 3 #[.int .u8 2, .int .u8 0, .int .u8 5] (heap_new w18 (.cells #[.int .u8 2, .int .u8 0, .int .u8 5] 5)) rfl rfl rfl
  generalize World.alloc w18 _ = w19 at *
  refine (NewReader_any l19.rd (by decide)).mono ?_
  rintro e w20 ⟨gx, vx, rfl, hx1, hx2, hx3, hx4⟩
  have HX := Lib.hid (show ∃ v, Rr w20 gx v [2, 0, 5] 0 ∧ Mods noB w19 w20 ∧ w19.heap.size ≤ gx ∧ freshIn w19 v from ⟨vx, hx1, hx2, hx3, hx4⟩)
  clear hx1 hx2 hx3 hx4 l19 M18
  go_wp2_with fail
  refine (NewReader_any (own_at_lit [0, 0, 0, 2, 97, 98] w20.heap.size 6 #[.int .u8 0, .int .u8 0, .int .u8 0, .int .u8 2, .int .u8 97, .int .u8 98] (heap_new w20 _) rfl rfl rfl).rd (by decide)).mono ?_
  rintro e w21 ⟨gy, vy, rfl, hy1, hy2, hy3, hy4⟩
  obtain ⟨ux, uy, hk⟩ := K2.make M19.out HX.out ⟨vy, hy1, hy2, hy3, hy4⟩
  have HK := Lib.hid hk
  clear hk hy1 hy2 hy3 hy4 HX M19
  go_wp2_with fail
  refine (RNat_any (s := ([2, 0, 5], 0)) HK.out.rx (by decide)).mono ?_
  rw [ks6.1]
  rintro e w22 ⟨u22, v22, rfl, _, _, hs⟩
  obtain ⟨a22, c22, rfl, _⟩ := RdM.form (by assumption)
  replace HK := Lib.hid (HK.out.stepx (s' := ([2, 0, 5], 41)) hs)
  clear hs
  go_wp2_with fail
  refine (RRaw_any (s := ([0, 0, 0, 2, 97, 98], 0)) 1 HK.out.ry (by omega) (by decide)).mono ?_
  rw [ks7.1]
  rintro e w23 ⟨u23, v23, rfl, ho23, _, hs⟩
  obtain ⟨a23, c23, rfl, _⟩ := ho23.rd.form
  replace HK := Lib.hid (HK.out.stepy (s' := ([0, 0, 0, 2, 97, 98], 42)) hs)
  clear hs ho23
  go_wp2_with fail
  have hk := KW.start w23 w23 (Mods.refl _ _)
  refine (hk.u64 1 (by omega) (by simp)).mono ?_
  rintro e w24 ⟨rfl, hk⟩
  go_wp2_with fail
  refine (hk.dec (RdM.nil _ _) (fun x hx => by cases hx) (by simp) (by decide) (by simp [be_length])).mono ?_
  rintro e w25 ⟨rfl, hk⟩
  rw [List.nil_append, show be 8 1 ++ natL (dval 18446744073709551616 []) = kc0 from kc0_is] at hk
  go_wp2_with fail
  refine (hk.out (by decide)).mono ?_
  rintro e w26 ⟨vb, rfl, ob, mb, fb⟩
  replace HK := Lib.hid (HK.out.then0 mb)
  have OB := Lib.hid ob
  clear hk mb ob fb
  obtain ⟨ab, cb, rfl, _⟩ := OB.out.rd.form
  go_wp2_with fail
  refine (Err_any HK.out.rx).mono ?_
  rintro e w27 ⟨rfl, rfl⟩
  go_wp2_with fail
  refine (Err_any HK.out.ry).mono ?_
  rintro e w28 ⟨rfl, rfl⟩
  go_wp2_with fail
  refine (Left_any HK.out.ry).mono ?_
  rintro e w29 ⟨rfl, rfl⟩
  go_wp2_with (go_at_call 17; refine (Bytes_true (OB.out.alloc (.cells #[.int .u8 0, .int .u8 0, .int .u8 0, .int .u8 0, .int .u8 0, .int .u8 0, .int .u8 0, .int .u8 1, .int .u8 0] 5)).rd (own_at_lit kc0 _ 9 #[.int .u8 0, .int .u8 0, .int .u8 0, .int .u8 0, .int .u8 0, .int .u8 0, .int .u8 0, .int .u8 1, .int .u8 0] (heap_new w29 _) rfl rfl rfl).rd).mono ?_; rintro e w30 ⟨rfl, m30⟩)
  go_ret
  exact ⟨rfl, (HK.out.mods.alloc _).then0 m30⟩

end Go.Proofs.Ytebknplbghcemaa

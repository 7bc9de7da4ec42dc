/- Parts of the proof, one behind the other: HNat, RHlp, EKnown2, RKnw. -/
import Derived.Test.YtnkbbclcileleaaGreatNLib
import Derived.Test.YtnkbbclcileleaaGreatHBytes
import Derived.Test.YtnkbbclcileleaaGreatRecH
import Derived.Test.YtnkbbclcileleaaGreatEKnown
import Derived.Lib.SlBytesConst
import Derived.Test.YtnkbbclcileleaaGreatRqCut
import Derived.Test.YtnkbbclcileleaaGreatRqAccount
import Derived.Test.YtnkbbclcileleaaGreatRqVal
import Derived.Test.YtnkbbclcileleaaGreatRqHistory
import Derived.Test.YtnkbbclcileleaaGreatRqNumber
import Derived.Test.YtnkbbclcileleaaGreatRqPool

/- gleanhelp.Nat, gleanhelp.Dec: are two numbers' limbs the same ones? Whatever they share. -/
namespace Go.Proofs.YtnkbbclcileleaaGreat
open Go.Gl Go.RowKit
set_option linter.unusedVariables false

set_option maxHeartbeats 400000 in
theorem HNat_ne (a b : Option Addr) (la ca lb cb : Nat) (w : World) (h : la ≠ lb) (ha : la ≤ maxLen) (hb : lb ≤ maxLen) :
    Calls Tryz.prog 102 #[.slice a la ca, .slice b lb cb] w fun e w' => e = .returned (.bool false) ∧ w' = w := by
  unfold maxLen at ha hb
  go_enter Tryz.func102, Tryz.ntmps102
  go_wp2
  go_ret
  exact ⟨rfl, rfl⟩

set_option maxHeartbeats 400000 in
theorem HNat_nil (a b : Option Addr) (ca cb : Nat) (w : World) :
    Calls Tryz.prog 102 #[.slice a 0 ca, .slice b 0 cb] w fun e w' => e = .returned (.bool true) ∧ w' = w := by
  go_enter Tryz.func102, Tryz.ntmps102
  go_wp2
  go_rounds 1
  go_ret
  exact ⟨rfl, rfl⟩

set_option maxHeartbeats 400000 in
theorem HNat_eq (g off ca h offh cb n : Nat) (xs ys : List Nat) (w : World) (hx : xs.length = n) (hy : ys.length = n) (hn : n ≤ maxLen)
    (cx : ∀ i (hi : i < xs.length), w.cell? ⟨g, off + i, none⟩ = some (u64 xs[i])) (cy : ∀ i (hi : i < ys.length), w.cell? ⟨h, offh + i, none⟩ = some (u64 ys[i])) :
    Calls Tryz.prog 102 #[.slice (some ⟨g, off, none⟩) n ca, .slice (some ⟨h, offh, none⟩) n cb] w fun e w' => e = .returned (.bool (decide (xs = ys))) ∧ Quiet w w' := by
  unfold maxLen at hn
  have HX := Lib.hid hx
  have HY := Lib.hid hy
  have CX := Lib.hid cx
  have CY := Lib.hid cy
  clear hx hy cx cy
  go_enter Tryz.func102, Tryz.ntmps102
  go_wp2
  go_loopw [5] (fun i wr => ∃ k : Nat, k ≤ n ∧ i = .int .i64 k ∧ (∃ m, wr = w.drewN m) ∧ Hid (xs.take k = ys.take k)) (fun i _ => n - (intOf i).toNat)
  case atStart => exact ⟨0, Nat.zero_le _, rfl, ⟨0, rfl⟩, rfl⟩
  case round =>
    obtain ⟨k, hk, rfl, ⟨m, rfl⟩, he⟩ := hrel
    by_cases hlt : k < n
    · have lx : k < xs.length := by rw [HX.out]; exact hlt
      have ly : k < ys.length := by rw [HY.out]; exact hlt
      have c1 := CX.out k lx
      have c2 := CY.out k ly
      by_cases hc : xs[k] = ys[k]
      · have hd : ((xs[k] : Int) != (ys[k] : Int)) = false := by simp [hc]
        have HC := Lib.hid hc
        clear hc
        go_wp2
        go_quiet (fail)
        go_wp2
        go_roundw
        case rel =>
          refine ⟨k + 1, by omega, by go_num, ⟨_, rfl⟩, ?_⟩
          show _ = _
          rw [List.take_succ_eq_append_getElem lx, List.take_succ_eq_append_getElem ly, he.out, HC.out]
        case measure => simp [intOf]; omega
      · have hd : ((xs[k] : Int) != (ys[k] : Int)) = true := by simp; omega
        have HC := Lib.hid hc
        clear hc
        go_wp2
        go_quiet (fail)
        go_wp2
        go_ret
        refine ⟨ret_bool ?_, ⟨_, World.drewN_drewN ..⟩⟩
        symm
        rw [decide_eq_false_iff_not]
        rintro rfl
        exact HC.out rfl
    · go_wp2
      go_ret
      refine ⟨ret_bool ?_, ⟨_, rfl⟩⟩
      symm
      rw [decide_eq_true_iff]
      have h1 := he.out
      rw [List.take_of_length_le (by rw [HX.out]; omega), List.take_of_length_le (by rw [HY.out]; omega)] at h1
      exact h1

theorem HNat_any {x y : Value} {xs ys : List Nat} {w : World} (hx : RN w x xs) (hy : RN w y ys) :
    Calls Tryz.prog 102 #[x, y] w fun e w' => e = .returned (.bool (decide (xs = ys))) ∧ Quiet w w' := by
  by_cases hl : xs.length = ys.length
  · rcases RdM.open hx with ⟨h0, rfl⟩ | ⟨g, off, ca, rfl, h1, h2, _, cx⟩
    · obtain ⟨a0, rfl⟩ := h0.form
      obtain rfl : ys = [] := List.eq_nil_of_length_eq_zero hl.symm
      obtain ⟨b, cb, rfl, _⟩ := RdM.form hy
      exact (HNat_nil a0 b 0 cb w).mono fun e w' ⟨he, hw⟩ => ⟨by rw [he]; rfl, ⟨0, hw⟩⟩
    · rcases RdM.open hy with ⟨h0, rfl⟩ | ⟨h, offh, cb, rfl, k1, k2, _, cy⟩
      · obtain ⟨b0, rfl⟩ := h0.form
        obtain rfl : xs = [] := List.eq_nil_of_length_eq_zero hl
        exact (HNat_nil _ b0 _ 0 w).mono fun e w' ⟨he, hw⟩ => ⟨by rw [he]; rfl, ⟨0, hw⟩⟩
      · have := HNat_eq g off ca h offh cb xs.length xs ys w rfl hl.symm (by omega) cx cy
        rw [← hl]
        exact this
  · obtain ⟨a, ca, rfl, h1⟩ := RdM.form hx
    obtain ⟨b, cb, rfl, h2⟩ := RdM.form hy
    refine (HNat_ne a b _ ca _ cb w hl h1 h2).mono fun e w' ⟨he, hw⟩ => ⟨?_, ⟨0, hw⟩⟩
    rw [he]
    refine ret_bool ?_
    symm
    rw [decide_eq_false_iff_not]
    rintro rfl
    exact hl rfl

theorem HDec_any {x y : Value} {xs ys : List Nat} {w : World} (hx : RN w x xs) (hy : RN w y ys) :
    Calls Tryz.prog 48 #[.agg #[x], .agg #[y]] w fun e w' => e = .returned (.bool (decide (xs = ys))) ∧ Mods noB w w' := by
  obtain ⟨a, ca, rfl, h1⟩ := RdM.form hx
  obtain ⟨b, cb, rfl, h2⟩ := RdM.form hy
  have HX := Lib.hid hx
  have HY := Lib.hid hy
  clear hx hy
  go_enter Tryz.func48, Tryz.ntmps48
  go_wp2_with fail
  refine (HNat_any (HX.out.keep ((((Mods.refl noB w).alloc _).alloc _)) (fun _ _ x => x)) (HY.out.keep ((((Mods.refl noB w).alloc _).alloc _)) (fun _ _ x => x))).mono ?_
  rintro e w' ⟨rfl, nq, rfl⟩
  go_wp2
  go_ret
  exact ⟨rfl, (by repeat' (first | (with_reducible exact Mods.refl _ _) | (with_reducible assumption) | (with_reducible refine Mods.alloc ?_ _) | (with_reducible refine Mods.drew ?_) | (with_reducible refine Mods.drewN ?_ _) | (with_reducible refine Mods.regrown ?_ _ _) | (with_reducible refine Mods.setCell ?_ ?_ _) | (refine .inr ?_; first | (simp; done) | (simp; omega) | omega)))⟩

end Go.Proofs.YtnkbbclcileleaaGreat

/- gleanhelp: records that are alike are told alike (printed by gen_rec.py). -/
namespace Go.Proofs.YtnkbbclcileleaaGreat
open Go.Gl Go.RowKit
set_option linter.unusedVariables false
set_option maxRecDepth 100000

theorem HDec_true {w : World} {x y : Value} {l : List Nat} (hx : RN w x l) (hy : RN w y l) : Calls Tryz.prog 48 #[.agg #[x], .agg #[y]] w fun r w' => r = .returned (.bool true) ∧ Mods noB w w' :=
  (HDec_any hx hy).mono fun r w' ⟨h1, h2⟩ => ⟨by rw [h1, decide_eq_true rfl], h2⟩

set_option maxHeartbeats 1000000 in
theorem val_true {w : World} {n0 n1 n4 n6 : Nat} {b3 b5 : Bool} {u2 u7 u8 u9 : Value} {l2 l7 l8 l9 : List Nat} {y2 y7 y8 y9 : Value} (hx2 : RN w u2 l2) (hy2 : RN w y2 l2) (hx7 : RN w u7 l7) (hy7 : RN w y7 l7) (hx8 : RN w u8 l8) (hy8 : RN w y8 l8) (hx9 : RN w u9 l9) (hy9 : RN w y9 l9) : Calls Tryz.prog 50 #[.agg #[.int .u64 n0, .int .u64 n1, u2, .bool b3, .int .u64 n4, .bool b5, .int .u64 n6, u7, u8, u9], .agg #[.int .u64 n0, .int .u64 n1, y2, .bool b3, .int .u64 n4, .bool b5, .int .u64 n6, y7, y8, y9]] w fun r w' => r = .returned (.bool true) ∧ Mods noB w w' := by
  obtain ⟨ax2, cx2, rfl, _⟩ := hx2.form
  obtain ⟨ay2, cy2, rfl, _⟩ := hy2.form
  have X2 := Lib.hid (And.intro hx2 hy2)
  clear hx2 hy2
  obtain ⟨ax7, cx7, rfl, _⟩ := hx7.form
  obtain ⟨ay7, cy7, rfl, _⟩ := hy7.form
  have X7 := Lib.hid (And.intro hx7 hy7)
  clear hx7 hy7
  obtain ⟨ax8, cx8, rfl, _⟩ := hx8.form
  obtain ⟨ay8, cy8, rfl, _⟩ := hy8.form
  have X8 := Lib.hid (And.intro hx8 hy8)
  clear hx8 hy8
  obtain ⟨ax9, cx9, rfl, _⟩ := hx9.form
  obtain ⟨ay9, cy9, rfl, _⟩ := hy9.form
  have X9 := Lib.hid (And.intro hx9 hy9)
  clear hx9 hy9
  have b1 := heap_old (heap_new w (.cells #[.int .u64 n0, .int .u64 n1, .slice ax2 l2.length cx2, .bool b3, .int .u64 n4, .bool b5, .int .u64 n6, .slice ax7 l7.length cx7, .slice ax8 l8.length cx8, .slice ax9 l9.length cx9] 34)) (.cells #[.int .u64 n0, .int .u64 n1, .slice ay2 l2.length cy2, .bool b3, .int .u64 n4, .bool b5, .int .u64 n6, .slice ay7 l7.length cy7, .slice ay8 l8.length cy8, .slice ay9 l9.length cy9] 34)
  have b2 := heap_new (w.alloc (.cells #[.int .u64 n0, .int .u64 n1, .slice ax2 l2.length cx2, .bool b3, .int .u64 n4, .bool b5, .int .u64 n6, .slice ax7 l7.length cx7, .slice ax8 l8.length cx8, .slice ax9 l9.length cx9] 34)) (.cells #[.int .u64 n0, .int .u64 n1, .slice ay2 l2.length cy2, .bool b3, .int .u64 n4, .bool b5, .int .u64 n6, .slice ay7 l7.length cy7, .slice ay8 l8.length cy8, .slice ay9 l9.length cy9] 34)
  have m2 := ((Mods.refl noB w).alloc (.cells #[.int .u64 n0, .int .u64 n1, .slice ax2 l2.length cx2, .bool b3, .int .u64 n4, .bool b5, .int .u64 n6, .slice ax7 l7.length cx7, .slice ax8 l8.length cx8, .slice ax9 l9.length cx9] 34)).alloc (.cells #[.int .u64 n0, .int .u64 n1, .slice ay2 l2.length cy2, .bool b3, .int .u64 n4, .bool b5, .int .u64 n6, .slice ay7 l7.length cy7, .slice ay8 l8.length cy8, .slice ay9 l9.length cy9] 34)
  simp only [World.size_alloc] at b2
  have P := Lib.hid (And.intro b1 (And.intro b2 m2))
  clear b1 b2 m2
  go_enter Tryz.func50, Tryz.ntmps50
  go_wp2_with fail
  generalize World.alloc (World.alloc w _) _ = w1 at *
  refine (HDec_true (X2.out.1.keep P.out.2.2 (fun _ _ x => x)) (X2.out.2.keep P.out.2.2 (fun _ _ x => x))).mono ?_
  rintro r v2 ⟨rfl, hm⟩
  replace P := Lib.hid (And.intro (blk_step hm P.out.1) (And.intro (blk_step hm P.out.2.1) (P.out.2.2.then0 hm)))
  have d1 := cells_of P.out.1
  have d2 := cells_of P.out.2.1
  clear hm
  go_wp2_with fail
  refine (HDec_true (X7.out.1.keep P.out.2.2 (fun _ _ x => x)) (X7.out.2.keep P.out.2.2 (fun _ _ x => x))).mono ?_
  rintro r v7 ⟨rfl, hm⟩
  clear d1 d2
  replace P := Lib.hid (And.intro (blk_step hm P.out.1) (And.intro (blk_step hm P.out.2.1) (P.out.2.2.then0 hm)))
  have d1 := cells_of P.out.1
  have d2 := cells_of P.out.2.1
  clear hm
  go_wp2_with fail
  refine (HDec_true (X8.out.1.keep P.out.2.2 (fun _ _ x => x)) (X8.out.2.keep P.out.2.2 (fun _ _ x => x))).mono ?_
  rintro r v8 ⟨rfl, hm⟩
  clear d1 d2
  replace P := Lib.hid (And.intro (blk_step hm P.out.1) (And.intro (blk_step hm P.out.2.1) (P.out.2.2.then0 hm)))
  have d1 := cells_of P.out.1
  have d2 := cells_of P.out.2.1
  clear hm
  go_wp2_with fail
  refine (HDec_true (X9.out.1.keep P.out.2.2 (fun _ _ x => x)) (X9.out.2.keep P.out.2.2 (fun _ _ x => x))).mono ?_
  rintro r v9 ⟨rfl, hm⟩
  clear d1 d2
  replace P := Lib.hid (And.intro (blk_step hm P.out.1) (And.intro (blk_step hm P.out.2.1) (P.out.2.2.then0 hm)))
  have d1 := cells_of P.out.1
  have d2 := cells_of P.out.2.1
  clear hm
  go_wp2_with fail
  go_ret
  exact ⟨rfl, P.out.2.2⟩

set_option maxHeartbeats 1000000 in
theorem delegation_true {w : World} {n1 : Nat} {u0 u2 : Value} {l0 l2 : List Nat} {y0 y2 : Value} (hx0 : RN w u0 l0) (hy0 : RN w y0 l0) (hx2 : RN w u2 l2) (hy2 : RN w y2 l2) : Calls Tryz.prog 51 #[.agg #[u0, .int .u64 n1, u2], .agg #[y0, .int .u64 n1, y2]] w fun r w' => r = .returned (.bool true) ∧ Mods noB w w' := by
  obtain ⟨ax0, cx0, rfl, _⟩ := hx0.form
  obtain ⟨ay0, cy0, rfl, _⟩ := hy0.form
  have X0 := Lib.hid (And.intro hx0 hy0)
  clear hx0 hy0
  obtain ⟨ax2, cx2, rfl, _⟩ := hx2.form
  obtain ⟨ay2, cy2, rfl, _⟩ := hy2.form
  have X2 := Lib.hid (And.intro hx2 hy2)
  clear hx2 hy2
  have b1 := heap_old (heap_new w (.cells #[.slice ax0 l0.length cx0, .int .u64 n1, .slice ax2 l2.length cx2] 36)) (.cells #[.slice ay0 l0.length cy0, .int .u64 n1, .slice ay2 l2.length cy2] 36)
  have b2 := heap_new (w.alloc (.cells #[.slice ax0 l0.length cx0, .int .u64 n1, .slice ax2 l2.length cx2] 36)) (.cells #[.slice ay0 l0.length cy0, .int .u64 n1, .slice ay2 l2.length cy2] 36)
  have m2 := ((Mods.refl noB w).alloc (.cells #[.slice ax0 l0.length cx0, .int .u64 n1, .slice ax2 l2.length cx2] 36)).alloc (.cells #[.slice ay0 l0.length cy0, .int .u64 n1, .slice ay2 l2.length cy2] 36)
  simp only [World.size_alloc] at b2
  have P := Lib.hid (And.intro b1 (And.intro b2 m2))
  clear b1 b2 m2
  go_enter Tryz.func51, Tryz.ntmps51
  go_wp2_with fail
  generalize World.alloc (World.alloc w _) _ = w1 at *
  refine (HDec_true (X0.out.1.keep P.out.2.2 (fun _ _ x => x)) (X0.out.2.keep P.out.2.2 (fun _ _ x => x))).mono ?_
  rintro r v0 ⟨rfl, hm⟩
  replace P := Lib.hid (And.intro (blk_step hm P.out.1) (And.intro (blk_step hm P.out.2.1) (P.out.2.2.then0 hm)))
  have d1 := cells_of P.out.1
  have d2 := cells_of P.out.2.1
  clear hm
  go_wp2_with fail
  refine (HDec_true (X2.out.1.keep P.out.2.2 (fun _ _ x => x)) (X2.out.2.keep P.out.2.2 (fun _ _ x => x))).mono ?_
  rintro r v2 ⟨rfl, hm⟩
  clear d1 d2
  replace P := Lib.hid (And.intro (blk_step hm P.out.1) (And.intro (blk_step hm P.out.2.1) (P.out.2.2.then0 hm)))
  have d1 := cells_of P.out.1
  have d2 := cells_of P.out.2.1
  clear hm
  go_wp2_with fail
  go_ret
  exact ⟨rfl, P.out.2.2⟩

set_option maxHeartbeats 1000000 in
theorem history_true {w : World} {n1 : Nat} {u0 : Value} {l0 : List Nat} {y0 : Value} (hx0 : RN w u0 l0) (hy0 : RN w y0 l0) : Calls Tryz.prog 52 #[.agg #[u0, .int .u64 n1], .agg #[y0, .int .u64 n1]] w fun r w' => r = .returned (.bool true) ∧ Mods noB w w' := by
  obtain ⟨ax0, cx0, rfl, _⟩ := hx0.form
  obtain ⟨ay0, cy0, rfl, _⟩ := hy0.form
  have X0 := Lib.hid (And.intro hx0 hy0)
  clear hx0 hy0
  have b1 := heap_old (heap_new w (.cells #[.slice ax0 l0.length cx0, .int .u64 n1] 38)) (.cells #[.slice ay0 l0.length cy0, .int .u64 n1] 38)
  have b2 := heap_new (w.alloc (.cells #[.slice ax0 l0.length cx0, .int .u64 n1] 38)) (.cells #[.slice ay0 l0.length cy0, .int .u64 n1] 38)
  have m2 := ((Mods.refl noB w).alloc (.cells #[.slice ax0 l0.length cx0, .int .u64 n1] 38)).alloc (.cells #[.slice ay0 l0.length cy0, .int .u64 n1] 38)
  simp only [World.size_alloc] at b2
  have P := Lib.hid (And.intro b1 (And.intro b2 m2))
  clear b1 b2 m2
  go_enter Tryz.func52, Tryz.ntmps52
  go_wp2_with fail
  generalize World.alloc (World.alloc w _) _ = w1 at *
  refine (HDec_true (X0.out.1.keep P.out.2.2 (fun _ _ x => x)) (X0.out.2.keep P.out.2.2 (fun _ _ x => x))).mono ?_
  rintro r v0 ⟨rfl, hm⟩
  replace P := Lib.hid (And.intro (blk_step hm P.out.1) (And.intro (blk_step hm P.out.2.1) (P.out.2.2.then0 hm)))
  have d1 := cells_of P.out.1
  have d2 := cells_of P.out.2.1
  clear hm
  go_wp2_with fail
  go_ret
  exact ⟨rfl, P.out.2.2⟩

set_option maxHeartbeats 1000000 in
theorem move_true {w : World} {n0 n1 n2 n3 n4 n5 : Nat} {u6 : Value} {l6 : List Nat} {y6 : Value} (hx6 : RN w u6 l6) (hy6 : RN w y6 l6) : Calls Tryz.prog 53 #[.agg #[.int .u64 n0, .int .u64 n1, .int .u64 n2, .int .u64 n3, .int .u64 n4, .int .u64 n5, u6], .agg #[.int .u64 n0, .int .u64 n1, .int .u64 n2, .int .u64 n3, .int .u64 n4, .int .u64 n5, y6]] w fun r w' => r = .returned (.bool true) ∧ Mods noB w w' := by
  obtain ⟨ax6, cx6, rfl, _⟩ := hx6.form
  obtain ⟨ay6, cy6, rfl, _⟩ := hy6.form
  have X6 := Lib.hid (And.intro hx6 hy6)
  clear hx6 hy6
  have b1 := heap_old (heap_new w (.cells #[.int .u64 n0, .int .u64 n1, .int .u64 n2, .int .u64 n3, .int .u64 n4, .int .u64 n5, .slice ax6 l6.length cx6] 44)) (.cells #[.int .u64 n0, .int .u64 n1, .int .u64 n2, .int .u64 n3, .int .u64 n4, .int .u64 n5, .slice ay6 l6.length cy6] 44)
  have b2 := heap_new (w.alloc (.cells #[.int .u64 n0, .int .u64 n1, .int .u64 n2, .int .u64 n3, .int .u64 n4, .int .u64 n5, .slice ax6 l6.length cx6] 44)) (.cells #[.int .u64 n0, .int .u64 n1, .int .u64 n2, .int .u64 n3, .int .u64 n4, .int .u64 n5, .slice ay6 l6.length cy6] 44)
  have m2 := ((Mods.refl noB w).alloc (.cells #[.int .u64 n0, .int .u64 n1, .int .u64 n2, .int .u64 n3, .int .u64 n4, .int .u64 n5, .slice ax6 l6.length cx6] 44)).alloc (.cells #[.int .u64 n0, .int .u64 n1, .int .u64 n2, .int .u64 n3, .int .u64 n4, .int .u64 n5, .slice ay6 l6.length cy6] 44)
  simp only [World.size_alloc] at b2
  have P := Lib.hid (And.intro b1 (And.intro b2 m2))
  clear b1 b2 m2
  go_enter Tryz.func53, Tryz.ntmps53
  go_wp2_with fail
  generalize World.alloc (World.alloc w _) _ = w1 at *
  refine (HDec_true (X6.out.1.keep P.out.2.2 (fun _ _ x => x)) (X6.out.2.keep P.out.2.2 (fun _ _ x => x))).mono ?_
  rintro r v6 ⟨rfl, hm⟩
  replace P := Lib.hid (And.intro (blk_step hm P.out.1) (And.intro (blk_step hm P.out.2.1) (P.out.2.2.then0 hm)))
  have d1 := cells_of P.out.1
  have d2 := cells_of P.out.2.1
  clear hm
  go_wp2_with fail
  go_ret
  exact ⟨rfl, P.out.2.2⟩

end Go.Proofs.YtnkbbclcileleaaGreat

/- gleanlaw4.known: the chapter's examples hold. -/
namespace Go.Proofs.YtnkbbclcileleaaGreat
open Go.Gl Go.RowKit
set_option linter.unusedVariables false
set_option maxRecDepth 100000

def TrueM (w : World) (e : Ending) (w' : World) : Prop := e = .returned (.bool true) ∧ Mods noB w w'

theorem Bytes_true {x y : Value} {xs : List UInt8} {w : World} (hx : Rd w x xs) (hy : Rd w y xs) : Calls Tryz.prog 36 #[x, y] w fun e w' => e = .returned (.bool true) ∧ Mods noB w w' :=
  (Bytes_any hx hy).mono fun e w' ⟨he, hq⟩ => ⟨by rw [he]; simp, hq.mods _⟩
theorem HNat_true {x y : Value} {xs : List Nat} {w : World} (hx : RN w x xs) (hy : RN w y xs) : Calls Tryz.prog 102 #[x, y] w fun e w' => e = .returned (.bool true) ∧ Mods noB w w' :=
  (HNat_any hx hy).mono fun e w' ⟨he, hq⟩ => ⟨by rw [he]; simp, hq.mods _⟩

theorem onlit (x : Nat) {w : World} (n : Nat) (hn : n = w.heap.size) : RN (w.alloc (.cells #[.int .u64 x] 22)) (.slice (some ⟨n, 0, none⟩) 1 1) [x] := by
  subst hn
  exact rdM_of rfl (Nat.le_refl _) (by simp [maxLen]) (by simp) (fun i hi => by
    have : i = 0 := by simpa using hi
    subst this
    exact cells_of (heap_new w _) 0)

theorem kLim : Lim [256] := fun x hx => by simp at hx; omega

theorem ks1 : evl 1 (kb0, 0) = 7 ∧ est 1 (kb0, 0) = (kb0.drop 1, 0) := by decide
theorem ks2 : evl 4 (kb0.drop 1, 0) = 258 ∧ est 4 (kb0.drop 1, 0) = (kb0.drop 5, 0) := by decide
theorem ks3 : decide (evl 1 (kb0.drop 5, 0) = 1) = true ∧ boolS (kb0.drop 5, 0) = (kb0.drop 6, 0) := by decide
theorem ks4 : natV (kb0.drop 6, 0) = [256] ∧ natT (kb0.drop 6, 0) = (kb0.drop 9, 0) := by decide +kernel
theorem ks5 : rawV 2 (kb0.drop 9, 0) = [97, 98] ∧ rawT 2 (kb0.drop 9, 0) = ([], 0) := by decide
theorem ks6 : natT ([2, 0, 5], 0) = ([2, 0, 5], 41) ∧ natV ([2, 0, 5], 0) = [] := by decide +kernel
theorem ks7 : rawT 1 ([0, 0, 0, 2, 97, 98], 0) = ([0, 0, 0, 2, 97, 98], 42) ∧ rawV 1 ([0, 0, 0, 2, 97, 98], 0) = [] := by decide

theorem rd_at_lit (xs : List UInt8) {w : World} (n len : Nat) (cs : Array Value) {e : TypeId} {fr : Nat × Nat} (hw : w.heap[n]? = some (.cells cs e fr)) (hl : xs.length = len) (hm : Nat.ble len 1000 = true) (hc : cs.toList = bv xs) : Rd w (.slice (some ⟨n, 0, none⟩) len len) xs := by
  subst hl
  refine ⟨by rw [bv_length, Nat.mul_one], .inr ⟨_, 0, _, rfl, Nat.le_refl _, by have := Nat.le_of_ble_eq_true hm; simp only [maxLen]; omega, .inr (lt_of_heap hw), fun j u hj => ?_⟩⟩
  rw [Nat.zero_add, cells_of hw, ← Array.getElem?_toList, hc]
  exact hj

/-- Two readers that the call itself has made. -/
structure K2 (w : World) (gx : Nat) (sx : ESt) (gy : Nat) (sy : ESt) (vx vy : Value) (wx : World) : Prop where
  rx : Rr wx gx vx sx.1 sx.2
  ry : Rr wx gy vy sy.1 sy.2
  mods : Mods noB w wx
  bx : w.heap.size ≤ gx
  b_y : w.heap.size ≤ gy
  ne : gx ≠ gy
  nx : vx.ownBlock ≠ some gy
  ny : vy.ownBlock ≠ some gx

theorem K2.make {w w1 w2 w3 : World} {gx gy : Nat} {xs ys : List UInt8} {o : Obj} (hm : Mods noB w w1) (h1 : ∃ v, Rr w2 gx v xs 0 ∧ Mods noB w1 w2 ∧ w1.heap.size ≤ gx ∧ freshIn w1 v) (h2 : ∃ v, Rr w3 gy v ys 0 ∧ Mods noB (w2.alloc o) w3 ∧ (w2.alloc o).heap.size ≤ gy ∧ freshIn (w2.alloc o) v) : ∃ vx vy, K2 w gx (xs, 0) gy (ys, 0) vx vy w3 := by
  obtain ⟨v, k1, k2, k3, k4⟩ := h1
  obtain ⟨v', q1, q2, q3, q4⟩ := h2
  have m := ((Mods.refl noB w2).alloc o).then0 q2
  have hs : w2.heap.size < (w2.alloc o).heap.size := by simp
  refine ⟨v, v', k1.keep m (fun x => x) (fun _ _ x => x), q1, (hm.then0 k2).then0 m, Nat.le_trans hm.size k3, Nat.le_trans (Nat.le_trans (hm.then0 k2).size (Nat.le_of_lt hs)) q3, by have := k1.lt; omega, fun e => ?_, fun e => ?_⟩
  · have := k1.blt _ e; omega
  · have := q4 _ e; have := k1.lt; omega

theorem K2.stepx {w wx wy : World} {gx gy : Nat} {sx sy s' : ESt} {vx vy v' : Value} (h : K2 w gx sx gy sy vx vy wx) (k : RStp wx gx vx s'.1 s'.2 wy v') : K2 w gx s' gy sy v' vy wy :=
  ⟨k.rr, h.ry.keep k.mods (fun e => h.ne e.symm) (fun i hi e => h.ny (by rw [hi, e])), h.mods.trans k.mods (fun _ _ x => x) (fun i hi x => by have := h.bx; omega), h.bx, h.b_y, h.ne, fun e => h.nx (k.blk _ e), h.ny⟩
theorem K2.stepy {w wx wy : World} {gx gy : Nat} {sx sy s' : ESt} {vx vy v' : Value} (h : K2 w gx sx gy sy vx vy wx) (k : RStp wx gy vy s'.1 s'.2 wy v') : K2 w gx sx gy s' vx v' wy :=
  ⟨h.rx.keep k.mods (fun e => h.ne e) (fun i hi e => h.nx (by rw [hi, e])), k.rr, h.mods.trans k.mods (fun _ _ x => x) (fun i hi x => by have := h.b_y; omega), h.bx, h.b_y, h.ne, h.nx, fun e => h.ny (k.blk _ e)⟩
theorem K2.then0 {w wx wy : World} {gx gy : Nat} {sx sy : ESt} {vx vy : Value} (h : K2 w gx sx gy sy vx vy wx) (m : Mods noB wx wy) : K2 w gx sx gy sy vx vy wy :=
  ⟨h.rx.keep m (fun x => x) (fun _ _ x => x), h.ry.keep m (fun x => x) (fun _ _ x => x), h.mods.then0 m, h.bx, h.b_y, h.ne, h.nx, h.ny⟩


end Go.Proofs.YtnkbbclcileleaaGreat

/- gleanlaw8.known: the chapter's examples hold. -/
namespace Go.Proofs.YtnkbbclcileleaaGreat
open Go.Gl Go.RowKit
set_option linter.unusedVariables false
set_option maxRecDepth 100000

/-- blocks that stand while only new memory is made -/
structure GB (w : World) (bs : List (Nat × Obj)) (wx : World) : Prop where
  blk : ∀ p ∈ bs, wx.heap[p.1]? = some p.2
  mods : Mods noB w wx
theorem GB.step {w wx wy : World} {bs : List (Nat × Obj)} (h : GB w bs wx) (hm : Mods noB wx wy) : GB w bs wy := ⟨fun p hp => blk_step hm (h.blk p hp), h.mods.then0 hm⟩
theorem GB.push {w wx : World} {bs : List (Nat × Obj)} (h : GB w bs wx) (o : Obj) : GB w ((wx.heap.size, o) :: bs) (wx.alloc o) :=
  ⟨fun p hp => by
    rcases List.mem_cons.1 hp with rfl | hp
    · exact heap_new _ _
    · exact heap_old (h.blk p hp) o, h.mods.alloc o⟩
theorem GB.app {w w3 w4 w5 : World} {bs : List (Nat × Obj)} {v : Value} (h : GB w bs w3) (hf : freshIn w3 v) (m : Mods noB w3 w4) (k : Mods (ofV v) w4 w5) : GB w bs w5 :=
  ⟨fun p hp => k.heap (blk_step m (h.blk p hp)) (fun x => by have := hf _ x; have := lt_of_heap (h.blk p hp); omega), (h.mods.then0 m).trans k (fun _ _ x => x) (fun i hi x => by have := hf _ x; have := h.mods.size; omega)⟩
theorem GB.get {w wx : World} {bs : List (Nat × Obj)} (h : GB w bs wx) (i : Nat) {p : Nat × Obj} (hi : bs[i]? = some p) : wx.heap[p.1]? = some p.2 := h.blk p (List.mem_of_getElem? hi)
theorem GB.start (w : World) : GB w [] w := ⟨fun p hp => (by cases hp), Mods.refl _ _⟩

theorem okN {n : Nat} (h : n ≤ 18446744073709551615) : Fld.Ok ⟨0, n, []⟩ := ⟨by simp, h, fun x => by simp at x, fun x hx => by cases hx⟩
theorem okB (b : Bool) : Fld.Ok ⟨1, if b then 1 else 0, []⟩ := ⟨by simp, by simp only; split <;> omega, fun _ => by simp only; split <;> omega, fun x hx => by cases hx⟩
theorem okD {l : List Nat} (h : Lim l) : Fld.Ok ⟨2, 0, l⟩ := ⟨by simp, by simp, fun x => by simp at x, h⟩
theorem ok0 : ∀ f ∈ ([] : List Fld), f.Ok := fun f hf => by cases hf
theorem okC {f : Fld} {fs : List Fld} (h : f.Ok) (k : ∀ g ∈ fs, g.Ok) : ∀ g ∈ f :: fs, g.Ok := fun g hg => by
  rcases List.mem_cons.1 hg with rfl | hg
  · exact h
  · exact k g hg

theorem lim7 : Lim [7] := fun x hx => by simp at hx; omega
theorem norm7 : Fld.norm ⟨2, 0, [7]⟩ = ⟨2, 0, [7]⟩ := by
  have : dig 18446744073709551616 (shortN (dval 18446744073709551616 [7])) = [7] := by decide +kernel
  simp only [Fld.norm, Fld.N, this]
  rfl
theorem norm0 : Fld.norm ⟨2, 0, []⟩ = ⟨2, 0, []⟩ := by
  have : dig 18446744073709551616 (shortN (dval 18446744073709551616 [])) = [] := by decide +kernel
  simp only [Fld.norm, Fld.N, this]
  rfl
theorem normN (n : Nat) : Fld.norm ⟨0, n, []⟩ = ⟨0, n, []⟩ := rfl
theorem normB (n : Nat) : Fld.norm ⟨1, n, []⟩ = ⟨1, n, []⟩ := rfl

theorem k_cut {n0 n1 e : Nat} (h : recGet [0, 0] (recLay [⟨0, 3, []⟩, ⟨0, 2, []⟩]) = ([⟨0, n0, []⟩, ⟨0, n1, []⟩], e)) : n0 = 3 ∧ n1 = 2 ∧ e = 0 := by
  have hb := recGet_back (ks := [0, 0]) [⟨0, 3, []⟩, ⟨0, 2, []⟩] (okC (okN (by omega)) (okC (okN (by omega)) ok0)) rfl
  rw [hb] at h
  clear hb
  simp [normN] at h
  omega
theorem k_acc {n0 n1 e : Nat} (h : recGet [0, 0] (recLay [⟨0, 1, []⟩, ⟨0, 0, []⟩] ++ [0]) = ([⟨0, n0, []⟩, ⟨0, n1, []⟩], e)) : e = 80 := by
  have hb := rdAll_back [⟨0, 1, []⟩, ⟨0, 0, []⟩] (okC (okN (by omega)) (okC (okN (by omega)) ok0)) [0]
  have hc := recGet_no (ks := [0, 0]) (s := ([0], 0)) hb (by simp)
  rw [hc] at h
  exact (Prod.mk.inj h).2.symm
theorem k_val {n0 n1 n4 n6 e : Nat} {b3 b5 : Bool} {l2 l7 l8 l9 : List Nat} (h : recGet [0, 0, 2, 1, 0, 1, 0, 2, 2, 2] (recLay [⟨0, 5, []⟩, ⟨0, 6, []⟩, ⟨2, 0, [7]⟩, ⟨1, if true then 1 else 0, []⟩, ⟨0, 8, []⟩, ⟨1, if true then 1 else 0, []⟩, ⟨0, 9, []⟩, ⟨2, 0, []⟩, ⟨2, 0, [7]⟩, ⟨2, 0, []⟩]) = ([⟨0, n0, []⟩, ⟨0, n1, []⟩, ⟨2, 0, l2⟩, ⟨1, if b3 then 1 else 0, []⟩, ⟨0, n4, []⟩, ⟨1, if b5 then 1 else 0, []⟩, ⟨0, n6, []⟩, ⟨2, 0, l7⟩, ⟨2, 0, l8⟩, ⟨2, 0, l9⟩], e)) :
    n0 = 5 ∧ n1 = 6 ∧ l2 = [7] ∧ b3 = true ∧ n4 = 8 ∧ b5 = true ∧ n6 = 9 ∧ l7 = [] ∧ l8 = [7] ∧ l9 = [] ∧ e = 0 := by
  have hb := recGet_back (ks := [0, 0, 2, 1, 0, 1, 0, 2, 2, 2]) [⟨0, 5, []⟩, ⟨0, 6, []⟩, ⟨2, 0, [7]⟩, ⟨1, if true then 1 else 0, []⟩, ⟨0, 8, []⟩, ⟨1, if true then 1 else 0, []⟩, ⟨0, 9, []⟩, ⟨2, 0, []⟩, ⟨2, 0, [7]⟩, ⟨2, 0, []⟩] (okC (okN (by omega)) (okC (okN (by omega)) (okC (okD lim7) (okC (okB true) (okC (okN (by omega)) (okC (okB true) (okC (okN (by omega)) (okC (okD limN) (okC (okD lim7) (okC (okD limN) ok0)))))))))) rfl
  rw [hb] at h
  clear hb
  simp only [List.map_cons, List.map_nil, normN, normB, norm7, norm0] at h
  cases b3 <;> cases b5 <;> simp at h ⊢
  obtain ⟨⟨h1, h2, h3, h4, h5, h6, h7, h8⟩, h9⟩ := h
  exact ⟨h1.symm, h2.symm, h3.symm, h4.symm, h5.symm, h6, h7.symm, h8, h9.symm⟩
theorem k_his {n1 e : Nat} {l0 : List Nat} (h : recGet [2, 0] (recLay [⟨2, 0, [7]⟩, ⟨0, 4, []⟩]) = ([⟨2, 0, l0⟩, ⟨0, n1, []⟩], e)) : l0 = [7] ∧ n1 = 4 ∧ e = 0 := by
  have hb := recGet_back (ks := [2, 0]) [⟨2, 0, [7]⟩, ⟨0, 4, []⟩] (okC (okD lim7) (okC (okN (by omega)) ok0)) rfl
  rw [hb] at h
  clear hb
  simp only [List.map_cons, List.map_nil, normN, norm7] at h
  simp at h
  obtain ⟨⟨h1, h2⟩, h3⟩ := h
  exact ⟨h1.symm, h2.symm, h3.symm⟩
theorem k_num {n0 e : Nat} (h : recGet [0] (recLay [⟨0, 77, []⟩]) = ([⟨0, n0, []⟩], e)) : n0 = 77 ∧ e = 0 := by
  have hb := recGet_back (ks := [0]) [⟨0, 77, []⟩] (okC (okN (by omega)) ok0) rfl
  rw [hb] at h
  clear hb
  simp [normN] at h
  omega
theorem k_lay : recLay [⟨0, 3, []⟩, ⟨0, 2, []⟩] = [0, 0, 0, 0, 0, 0, 0, 3, 0, 0, 0, 0, 0, 0, 0, 2] := by decide +kernel
theorem k_lay0 : recLay [⟨2, 0, []⟩] = [0] := by decide +kernel

set_option maxHeartbeats 4000000 in
theorem rknown_any (w : World) : Calls Tryz.prog 7 #[] w (TrueM w) := by
  go_enter Tryz.func7, Tryz.ntmps7
  go_wp2_with fail
  refine (cut_put (n0 := 3) (n1 := 2) (limC (by omega) (limC (by omega) limN))).mono ?_
  rintro r w1 ⟨v1, rfl, o1, m1, f1⟩
  go_wp2_with fail
  refine (cut_get o1.rd (Nat.le_trans (recLay_len _) (by simp))).mono ?_
  rintro r w2 ⟨n0, n1, e1, rfl, hg, m2⟩
  obtain ⟨rfl, rfl, rfl⟩ := k_cut hg
  have G := Lib.hid (((GB.start w).step (m1.then0 m2)).push (.cells #[.int .u64 3, .int .u64 2] 40))
  clear hg o1 m1 f1 m2
  go_wp2_with fail
  generalize World.alloc w2 _ = w3 at *
  refine (account_put (n0 := 1) (n1 := 0) (limC (by omega) (limC (by omega) limN))).mono ?_
  rintro r w4 ⟨v1, rfl, o1, m1, f1⟩
  obtain ⟨ua, uc, rfl, _⟩ := o1.rd.form
  have O := Lib.hid o1
  have M := Lib.hid (And.intro m1 f1)
  clear o1 m1 f1
  go_wp2_with (at_builtin; refine stop ?_)
  unfold Stop
  refine wpList_apb rfl rfl (recLay [⟨0, 1, []⟩, ⟨0, 0, []⟩]) [0] (O.out.alloc _) (own_at 0 _ rfl).rd rfl rfl (by simp [recLay, lay_n, be_length]) ?_
  intro v2 w5 k1 k2 k3
  replace G := Lib.hid (G.out.app M.out.2 (M.out.1.alloc _) k2)
  have O2 := Lib.hid k1
  clear O k1 k2 k3 M
  go_wp2_with fail
  refine (account_get O2.out.rd (by simp [recLay, lay_n, be_length])).mono ?_
  rintro r w6 ⟨n0, n1, e1, rfl, hg, m2⟩
  obtain rfl := k_acc hg
  replace G := Lib.hid ((G.out.step m2).push (.cells #[.int .u64 n0, .int .u64 n1] 32))
  clear hg m2 O2
  go_wp2_with fail
  have L7 := Lib.hid (show RN (((w6.alloc (.cells #[.int .u64 n0, .int .u64 n1] 32)).alloc (.cells #[.int .u64 7] 22)).alloc (.cells #[.slice (some ⟨w6.heap.size + 1, 0, none⟩) 1 1] 30)) (.slice (some ⟨w6.heap.size + 1, 0, none⟩) 1 1) [7] from (onlit 7 _ (by simp)).keep ((Mods.refl noB _).alloc _) (fun _ _ x => x))
  have hbs : ((w6.alloc (.cells #[.int .u64 n0, .int .u64 n1] 32)).alloc (.cells #[.int .u64 7] 22)).heap.size = w6.heap.size + 1 + 1 := by simp
  replace G := Lib.hid ((G.out.push (.cells #[.int .u64 7] 22)).push (.cells #[.slice (some ⟨w6.heap.size + 1, 0, none⟩) 1 1] 30))
  rw [hbs] at G
  clear hbs
  generalize World.alloc (World.alloc (World.alloc w6 _) _) _ = w7 at *
  refine (val_put (n0 := 5) (n1 := 6) (b3 := true) (n4 := 8) (b5 := true) (n6 := 9) (l2 := [7]) (l7 := []) (l8 := [7]) (l9 := []) (limC (by omega) (limC (by omega) (limC (by omega) (limC (by omega) limN)))) ⟨L7.out, lim7, by simp⟩ ⟨RdM.nil _ _, limN, by simp⟩ ⟨L7.out, lim7, by simp⟩ ⟨RdM.nil _ _, limN, by simp⟩).mono ?_
  rintro r w8 ⟨v1, rfl, o1, m1, f1⟩
  have d5 := cells_of ((G.out.step m1).get 0 rfl)
  go_wp2_with fail
  refine (val_get o1.rd (Nat.le_trans (recLay_len _) (by simp))).mono ?_
  rintro r w9 ⟨n0', n1', n4, n6, b3, b5, u2, u7, u8, u9, l2, l7, l8, l9, e2, rfl, hg, m2, ⟨h2, _⟩, ⟨h7, _⟩, ⟨h8, _⟩, ⟨h9, _⟩⟩
  obtain ⟨rfl, rfl, rfl, rfl, rfl, rfl, rfl, rfl, rfl, rfl, rfl⟩ := k_val hg
  obtain ⟨a2, c2, rfl, _⟩ := h2.form
  obtain ⟨a7, c7, rfl, _⟩ := h7.form
  obtain ⟨a8, c8, rfl, _⟩ := h8.form
  obtain ⟨a9, c9, rfl, _⟩ := h9.form
  replace L7 := Lib.hid (L7.out.keep (m1.then0 m2) (fun _ _ x => x))
  replace G := Lib.hid (G.out.step (m1.then0 m2))
  have HV := Lib.hid (And.intro h2 (And.intro h7 (And.intro h8 h9)))
  clear hg o1 f1 m1 m2 d5 h2 h7 h8 h9
  replace G := Lib.hid (G.out.push (.cells #[.int .u64 5, .int .u64 6, .slice a2 1 c2, .bool true, .int .u64 8, .bool true, .int .u64 9, .slice a7 0 c7, .slice a8 1 c8, .slice a9 0 c9] 34))
  have d5 := cells_of (G.out.get 1 rfl)
  replace L7 := Lib.hid (L7.out.keep ((Mods.refl noB _).alloc (.cells #[.int .u64 5, .int .u64 6, .slice a2 1 c2, .bool true, .int .u64 8, .bool true, .int .u64 9, .slice a7 0 c7, .slice a8 1 c8, .slice a9 0 c9] 34)) (fun _ _ x => x))
  replace HV := Lib.hid (show RN (w9.alloc (.cells #[.int .u64 5, .int .u64 6, .slice a2 1 c2, .bool true, .int .u64 8, .bool true, .int .u64 9, .slice a7 0 c7, .slice a8 1 c8, .slice a9 0 c9] 34)) (.slice a2 1 c2) [7] ∧ RN (w9.alloc (.cells #[.int .u64 5, .int .u64 6, .slice a2 1 c2, .bool true, .int .u64 8, .bool true, .int .u64 9, .slice a7 0 c7, .slice a8 1 c8, .slice a9 0 c9] 34)) (.slice a7 0 c7) [] ∧ RN (w9.alloc (.cells #[.int .u64 5, .int .u64 6, .slice a2 1 c2, .bool true, .int .u64 8, .bool true, .int .u64 9, .slice a7 0 c7, .slice a8 1 c8, .slice a9 0 c9] 34)) (.slice a8 1 c8) [7] ∧ RN (w9.alloc (.cells #[.int .u64 5, .int .u64 6, .slice a2 1 c2, .bool true, .int .u64 8, .bool true, .int .u64 9, .slice a7 0 c7, .slice a8 1 c8, .slice a9 0 c9] 34)) (.slice a9 0 c9) [] from ⟨HV.out.1.keep ((Mods.refl noB _).alloc _) (fun _ _ x => x), HV.out.2.1.keep ((Mods.refl noB _).alloc _) (fun _ _ x => x), HV.out.2.2.1.keep ((Mods.refl noB _).alloc _) (fun _ _ x => x), HV.out.2.2.2.keep ((Mods.refl noB _).alloc _) (fun _ _ x => x)⟩)
  go_wp2_with fail
  generalize World.alloc w9 _ = w10 at *
  refine (history_put (n1 := 4) (l0 := [7]) (limC (by omega) limN) ⟨L7.out, lim7, by simp⟩).mono ?_
  rintro r w11 ⟨v1, rfl, o1, m1, f1⟩
  clear d5
  go_wp2_with fail
  refine (history_get o1.rd (Nat.le_trans (recLay_len _) (by simp))).mono ?_
  rintro r w12 ⟨n1'', u0, l0, e3, rfl, hg, m2, ⟨h0, _⟩⟩
  obtain ⟨rfl, rfl, rfl⟩ := k_his hg
  obtain ⟨a0, c0, rfl, _⟩ := h0.form
  have M := (m1.then0 m2).alloc (.cells #[.slice a0 1 c0, .int .u64 4] 38)
  replace L7 := Lib.hid (L7.out.keep M (fun _ _ x => x))
  replace HV := Lib.hid (And.intro (HV.out.1.keep M (fun _ _ x => x)) (And.intro (HV.out.2.1.keep M (fun _ _ x => x)) (And.intro (HV.out.2.2.1.keep M (fun _ _ x => x)) (HV.out.2.2.2.keep M (fun _ _ x => x)))))
  have HH := Lib.hid (h0.keep ((Mods.refl noB _).alloc (.cells #[.slice a0 1 c0, .int .u64 4] 38)) (fun _ _ x => x))
  replace G := Lib.hid ((G.out.step (m1.then0 m2)).push (.cells #[.slice a0 1 c0, .int .u64 4] 38))
  clear hg o1 f1 m1 m2 h0 M
  go_wp2_with fail
  generalize World.alloc w12 _ = w13 at *
  refine (one_put (n0 := 77) (limC (by omega) limN)).mono ?_
  rintro r w14 ⟨v1, rfl, o1, m1, f1⟩
  go_wp2_with fail
  refine (one_get o1.rd (Nat.le_trans (recLay_len _) (by simp))).mono ?_
  rintro r w15 ⟨n0'', e4, rfl, hg, m2⟩
  obtain ⟨rfl, rfl⟩ := k_num hg
  have M := m1.then0 m2
  replace L7 := Lib.hid (L7.out.keep M (fun _ _ x => x))
  replace HV := Lib.hid (And.intro (HV.out.1.keep M (fun _ _ x => x)) (And.intro (HV.out.2.1.keep M (fun _ _ x => x)) (And.intro (HV.out.2.2.1.keep M (fun _ _ x => x)) (HV.out.2.2.2.keep M (fun _ _ x => x)))))
  replace HH := Lib.hid (HH.out.keep M (fun _ _ x => x))
  replace G := Lib.hid (G.out.step M)
  have d0 := cells_of (G.out.get 0 rfl)
  have d5 := cells_of (G.out.get 2 rfl)
  have d1 := cells_of (G.out.get 5 rfl)
  clear hg o1 f1 m1 m2 M
  go_wp2_with fail
  refine (history_true HH.out L7.out).mono ?_
  rintro r w16 ⟨rfl, M⟩
  clear d0 d5 d1
  replace L7 := Lib.hid (L7.out.keep M (fun _ _ x => x))
  replace HV := Lib.hid (And.intro (HV.out.1.keep M (fun _ _ x => x)) (And.intro (HV.out.2.1.keep M (fun _ _ x => x)) (And.intro (HV.out.2.2.1.keep M (fun _ _ x => x)) (HV.out.2.2.2.keep M (fun _ _ x => x)))))
  replace G := Lib.hid (G.out.step M)
  have d1 := cells_of (G.out.get 5 rfl)
  clear M HH
  go_wp2_with fail
  refine (cut_put (n0 := 3) (n1 := 2) (limC (by omega) (limC (by omega) limN))).mono ?_
  rintro r w17 ⟨v1, rfl, o1, m1, f1⟩
  rw [k_lay] at o1
  have M := m1.alloc (.cells #[.int .u8 0, .int .u8 0, .int .u8 0, .int .u8 0, .int .u8 0, .int .u8 0, .int .u8 0, .int .u8 3, .int .u8 0, .int .u8 0, .int .u8 0, .int .u8 0, .int .u8 0, .int .u8 0, .int .u8 0, .int .u8 2] 5)
  replace L7 := Lib.hid (L7.out.keep M (fun _ _ x => x))
  replace HV := Lib.hid (And.intro (HV.out.1.keep M (fun _ _ x => x)) (And.intro (HV.out.2.1.keep M (fun _ _ x => x)) (And.intro (HV.out.2.2.1.keep M (fun _ _ x => x)) (HV.out.2.2.2.keep M (fun _ _ x => x)))))
  replace G := Lib.hid (G.out.step M)
  have O1 := Lib.hid (o1.rd.alloc (.cells #[.int .u8 0, .int .u8 0, .int .u8 0, .int .u8 0, .int .u8 0, .int .u8 0, .int .u8 0, .int .u8 3, .int .u8 0, .int .u8 0, .int .u8 0, .int .u8 0, .int .u8 0, .int .u8 0, .int .u8 0, .int .u8 2] 5))
  clear d1 o1 m1 f1 M
  go_wp2_with fail
  refine (Bytes_true O1.out (rd_at_lit [0, 0, 0, 0, 0, 0, 0, 3, 0, 0, 0, 0, 0, 0, 0, 2] _ 16 #[.int .u8 0, .int .u8 0, .int .u8 0, .int .u8 0, .int .u8 0, .int .u8 0, .int .u8 0, .int .u8 3, .int .u8 0, .int .u8 0, .int .u8 0, .int .u8 0, .int .u8 0, .int .u8 0, .int .u8 0, .int .u8 2] (heap_new w17 _) rfl rfl rfl)).mono ?_
  rintro r w18 ⟨rfl, M⟩
  replace L7 := Lib.hid (L7.out.keep M (fun _ _ x => x))
  replace HV := Lib.hid (And.intro (HV.out.1.keep M (fun _ _ x => x)) (And.intro (HV.out.2.1.keep M (fun _ _ x => x)) (And.intro (HV.out.2.2.1.keep M (fun _ _ x => x)) (HV.out.2.2.2.keep M (fun _ _ x => x)))))
  replace G := Lib.hid (G.out.step M)
  clear O1 M
  go_wp2_with fail
  refine (pool_put (l0 := []) ⟨RdM.nil _ _, limN, by simp⟩).mono ?_
  rintro r w19 ⟨v1, rfl, o1, m1, f1⟩
  rw [k_lay0] at o1
  have M := m1.alloc (.cells #[.int .u8 0] 5)
  replace L7 := Lib.hid (L7.out.keep M (fun _ _ x => x))
  replace HV := Lib.hid (And.intro (HV.out.1.keep M (fun _ _ x => x)) (And.intro (HV.out.2.1.keep M (fun _ _ x => x)) (And.intro (HV.out.2.2.1.keep M (fun _ _ x => x)) (HV.out.2.2.2.keep M (fun _ _ x => x)))))
  replace G := Lib.hid (G.out.step M)
  have O1 := Lib.hid (o1.rd.alloc (.cells #[.int .u8 0] 5))
  clear o1 m1 f1 M
  go_wp2_with fail
  refine (Bytes_true O1.out (rd_at_lit [0] _ 1 #[.int .u8 0] (heap_new w19 _) rfl rfl rfl)).mono ?_
  rintro r w20 ⟨rfl, M⟩
  replace L7 := Lib.hid (L7.out.keep M (fun _ _ x => x))
  replace HV := Lib.hid (And.intro (HV.out.1.keep M (fun _ _ x => x)) (And.intro (HV.out.2.1.keep M (fun _ _ x => x)) (And.intro (HV.out.2.2.1.keep M (fun _ _ x => x)) (HV.out.2.2.2.keep M (fun _ _ x => x)))))
  replace G := Lib.hid (G.out.step M)
  have d6 := cells_of (G.out.get 1 rfl)
  have d5 := cells_of (G.out.get 2 rfl)
  clear O1 M
  go_wp2_with fail
  refine (val_true HV.out.1 L7.out HV.out.2.1 (RdM.nil _ _) HV.out.2.2.1 L7.out HV.out.2.2.2 (RdM.nil _ _)).mono ?_
  rintro r w21 ⟨rfl, M⟩
  replace G := Lib.hid (G.out.step M)
  clear d5 d6 M L7 HV
  go_wp2_with fail
  go_ret
  exact ⟨rfl, G.out.mods⟩

end Go.Proofs.YtnkbbclcileleaaGreat

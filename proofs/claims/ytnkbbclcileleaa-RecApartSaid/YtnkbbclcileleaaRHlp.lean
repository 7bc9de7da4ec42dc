/- gleanhelp: records that are alike are told alike (printed by gen_rec.py). -/
import Derived.Test.YtnkbbclcileleaaRecH
import Derived.Test.YtnkbbclcileleaaHNat
namespace Go.Proofs.Ytnkbbclcileleaa
open Go.Gl Go.RowKit
set_option linter.unusedVariables false
set_option maxRecDepth 100000

theorem HDec_true {w : World} {x y : Value} {l : List Nat} (hx : RN w x l) (hy : RN w y l) : Calls Try.prog 11 #[.agg #[x], .agg #[y]] w fun r w' => r = .returned (.bool true) ∧ Mods noB w w' :=
  (HDec_any hx hy).mono fun r w' ⟨h1, h2⟩ => ⟨by rw [h1, decide_eq_true rfl], h2⟩

set_option maxHeartbeats 1000000 in
theorem val_true {w : World} {n0 n1 n4 n6 : Nat} {b3 b5 : Bool} {u2 u7 u8 u9 : Value} {l2 l7 l8 l9 : List Nat} {y2 y7 y8 y9 : Value} (hx2 : RN w u2 l2) (hy2 : RN w y2 l2) (hx7 : RN w u7 l7) (hy7 : RN w y7 l7) (hx8 : RN w u8 l8) (hy8 : RN w y8 l8) (hx9 : RN w u9 l9) (hy9 : RN w y9 l9) : Calls Try.prog 24 #[.agg #[.int .u64 n0, .int .u64 n1, u2, .bool b3, .int .u64 n4, .bool b5, .int .u64 n6, u7, u8, u9], .agg #[.int .u64 n0, .int .u64 n1, y2, .bool b3, .int .u64 n4, .bool b5, .int .u64 n6, y7, y8, y9]] w fun r w' => r = .returned (.bool true) ∧ Mods noB w w' := by
  obtain ⟨ax2, cx2, rfl, _⟩ := hx2.form
  obtain ⟨ay2, cy2, rfl, _⟩ := hy2.form
  have X2 := Lib.hid (And.intro hx2 hy2)
  clear hx2 hy2
  obtain ⟨ax7, cx7, rfl, _⟩ := hx7.form
  obtain ⟨ay7, cy7, rfl, _⟩ := hy7.form
  have X7 := Lib.hid (And.intro hx7 hy7)
  clear hx7 hy7
  obtain ⟨ax8, cx8, rfl, _⟩ := hx8.form
  obtain ⟨ay8, cy8, rfl, _⟩ := hy8.form
  have X8 := Lib.hid (And.intro hx8 hy8)
  clear hx8 hy8
  obtain ⟨ax9, cx9, rfl, _⟩ := hx9.form
  obtain ⟨ay9, cy9, rfl, _⟩ := hy9.form
  have X9 := Lib.hid (And.intro hx9 hy9)
  clear hx9 hy9
  have b1 := heap_old (heap_new w (.cells #[.int .u64 n0, .int .u64 n1, .slice ax2 l2.length cx2, .bool b3, .int .u64 n4, .bool b5, .int .u64 n6, .slice ax7 l7.length cx7, .slice ax8 l8.length cx8, .slice ax9 l9.length cx9] 34)) (.cells #[.int .u64 n0, .int .u64 n1, .slice ay2 l2.length cy2, .bool b3, .int .u64 n4, .bool b5, .int .u64 n6, .slice ay7 l7.length cy7, .slice ay8 l8.length cy8, .slice ay9 l9.length cy9] 34)
  have b2 := heap_new (w.alloc (.cells #[.int .u64 n0, .int .u64 n1, .slice ax2 l2.length cx2, .bool b3, .int .u64 n4, .bool b5, .int .u64 n6, .slice ax7 l7.length cx7, .slice ax8 l8.length cx8, .slice ax9 l9.length cx9] 34)) (.cells #[.int .u64 n0, .int .u64 n1, .slice ay2 l2.length cy2, .bool b3, .int .u64 n4, .bool b5, .int .u64 n6, .slice ay7 l7.length cy7, .slice ay8 l8.length cy8, .slice ay9 l9.length cy9] 34)
  have m2 := ((Mods.refl noB w).alloc (.cells #[.int .u64 n0, .int .u64 n1, .slice ax2 l2.length cx2, .bool b3, .int .u64 n4, .bool b5, .int .u64 n6, .slice ax7 l7.length cx7, .slice ax8 l8.length cx8, .slice ax9 l9.length cx9] 34)).alloc (.cells #[.int .u64 n0, .int .u64 n1, .slice ay2 l2.length cy2, .bool b3, .int .u64 n4, .bool b5, .int .u64 n6, .slice ay7 l7.length cy7, .slice ay8 l8.length cy8, .slice ay9 l9.length cy9] 34)
  simp only [World.size_alloc] at b2
  have P := Lib.hid (And.intro b1 (And.intro b2 m2))
  clear b1 b2 m2
  go_enter Try.func24, Try.ntmps24
  go_wp2_with fail
  generalize World.alloc (World.alloc w _) _ = w1 at *
  refine (HDec_true (X2.out.1.keep P.out.2.2 (fun _ _ x => x)) (X2.out.2.keep P.out.2.2 (fun _ _ x => x))).mono ?_
  rintro r v2 ⟨rfl, hm⟩
  replace P := Lib.hid (And.intro (blk_step hm P.out.1) (And.intro (blk_step hm P.out.2.1) (P.out.2.2.then0 hm)))
  have d1 := cells_of P.out.1
  have d2 := cells_of P.out.2.1
  clear hm
  go_wp2_with fail
  refine (HDec_true (X7.out.1.keep P.out.2.2 (fun _ _ x => x)) (X7.out.2.keep P.out.2.2 (fun _ _ x => x))).mono ?_
  rintro r v7 ⟨rfl, hm⟩
  clear d1 d2
  replace P := Lib.hid (And.intro (blk_step hm P.out.1) (And.intro (blk_step hm P.out.2.1) (P.out.2.2.then0 hm)))
  have d1 := cells_of P.out.1
  have d2 := cells_of P.out.2.1
  clear hm
  go_wp2_with fail
  refine (HDec_true (X8.out.1.keep P.out.2.2 (fun _ _ x => x)) (X8.out.2.keep P.out.2.2 (fun _ _ x => x))).mono ?_
  rintro r v8 ⟨rfl, hm⟩
  clear d1 d2
  replace P := Lib.hid (And.intro (blk_step hm P.out.1) (And.intro (blk_step hm P.out.2.1) (P.out.2.2.then0 hm)))
  have d1 := cells_of P.out.1
  have d2 := cells_of P.out.2.1
  clear hm
  go_wp2_with fail
  refine (HDec_true (X9.out.1.keep P.out.2.2 (fun _ _ x => x)) (X9.out.2.keep P.out.2.2 (fun _ _ x => x))).mono ?_
  rintro r v9 ⟨rfl, hm⟩
  clear d1 d2
  replace P := Lib.hid (And.intro (blk_step hm P.out.1) (And.intro (blk_step hm P.out.2.1) (P.out.2.2.then0 hm)))
  have d1 := cells_of P.out.1
  have d2 := cells_of P.out.2.1
  clear hm
  go_wp2_with fail
  go_ret
  exact ⟨rfl, P.out.2.2⟩


set_option maxHeartbeats 1000000 in
theorem history_true {w : World} {n1 : Nat} {u0 : Value} {l0 : List Nat} {y0 : Value} (hx0 : RN w u0 l0) (hy0 : RN w y0 l0) : Calls Try.prog 23 #[.agg #[u0, .int .u64 n1], .agg #[y0, .int .u64 n1]] w fun r w' => r = .returned (.bool true) ∧ Mods noB w w' := by
  obtain ⟨ax0, cx0, rfl, _⟩ := hx0.form
  obtain ⟨ay0, cy0, rfl, _⟩ := hy0.form
  have X0 := Lib.hid (And.intro hx0 hy0)
  clear hx0 hy0
  have b1 := heap_old (heap_new w (.cells #[.slice ax0 l0.length cx0, .int .u64 n1] 38)) (.cells #[.slice ay0 l0.length cy0, .int .u64 n1] 38)
  have b2 := heap_new (w.alloc (.cells #[.slice ax0 l0.length cx0, .int .u64 n1] 38)) (.cells #[.slice ay0 l0.length cy0, .int .u64 n1] 38)
  have m2 := ((Mods.refl noB w).alloc (.cells #[.slice ax0 l0.length cx0, .int .u64 n1] 38)).alloc (.cells #[.slice ay0 l0.length cy0, .int .u64 n1] 38)
  simp only [World.size_alloc] at b2
  have P := Lib.hid (And.intro b1 (And.intro b2 m2))
  clear b1 b2 m2
  go_enter Try.func23, Try.ntmps23
  go_wp2_with fail
  generalize World.alloc (World.alloc w _) _ = w1 at *
  refine (HDec_true (X0.out.1.keep P.out.2.2 (fun _ _ x => x)) (X0.out.2.keep P.out.2.2 (fun _ _ x => x))).mono ?_
  rintro r v0 ⟨rfl, hm⟩
  replace P := Lib.hid (And.intro (blk_step hm P.out.1) (And.intro (blk_step hm P.out.2.1) (P.out.2.2.then0 hm)))
  have d1 := cells_of P.out.1
  have d2 := cells_of P.out.2.1
  clear hm
  go_wp2_with fail
  go_ret
  exact ⟨rfl, P.out.2.2⟩


end Go.Proofs.Ytnkbbclcileleaa

/- RecReads: all bytes, read as every kind: P8.2. No conditions. -/
import Derived.Test.YtnkbbclcileleaaGreatZA
import Derived.Test.YtnkbbclcileleaaGreatRqParams
import Derived.Test.YtnkbbclcileleaaGreatRqPool
import Derived.Test.YtnkbbclcileleaaGreatRqVal
import Derived.Test.YtnkbbclcileleaaGreatRqDelegation
import Derived.Test.YtnkbbclcileleaaGreatRqHistory
import Derived.Test.YtnkbbclcileleaaGreatRqUnbonding
import Derived.Test.YtnkbbclcileleaaGreatRqMove
import Derived.Test.YtnkbbclcileleaaGreatRqAccount
import Derived.Test.YtnkbbclcileleaaGreatRqChain
import Derived.Test.YtnkbbclcileleaaGreatRqCut
import Derived.Test.YtnkbbclcileleaaGreatRqNumber
import Derived.Test.YtnkbbclcileleaaGreatZB
import Derived.Test.YtnkbbclcileleaaGreatZC
namespace Go.Proofs.YtnkbbclcileleaaGreat.recReads
open Go.Gl Go.RowKit Go.ChangeShapes Go.WideShapes Go.ChangeAt
set_option linter.unusedVariables false
set_option maxRecDepth 100000

theorem ifb {b c : Bool} (h : (if b then 1 else 0 : Nat) = if c then 1 else 0) : b = c := by cases b <;> cases c <;> simp at h ⊢
theorem HDec_tt {w : World} {x y : Value} {l : List Nat} (hx : RN w x l) (hy : RN w y l) : Calls Tryz.prog 48 #[.agg #[x], .agg #[y]] w fun r w' => r = .returned (.bool true) ∧ Mods noB w w' := HDec_true hx hy
theorem rd_of_argB {H : Type} {enc : TypeId × Value → H} {W : World} {base : Nat} {a : Option Addr} {len cap : Nat} {d : DataW H} {p : List MemPlace} (hv : Value.okWide Tryz.prog W .any base 49 (.slice a len cap)) (h : DataW.Trod enc Tryz.prog W 0 (fun _ => true) true 49 (.slice a len cap) d p) : ∃ xs, RdB W (.slice a len cap) xs := by
  obtain ⟨xs, hx⟩ := rd_of_arg hv h
  refine ⟨xs, hx, fun k hk => ?_⟩
  cases a with
  | none => simp [Value.ownBlock] at hk
  | some x =>
    simp only [Value.okWide, Tryz.underlying49, Cell.okWide, Cell.ok] at hv
    obtain ⟨_, _, _, hsp, row, cells, hsh, _⟩ := hv
    obtain rfl : x.block = k := by simpa [Value.ownBlock] using hk
    exact lt_of_shape hsh

abbrev PostT (w : World) : Ending → World → Prop := fun e w' => e = .returned (.bool true) ∧ Mods noB w w'

set_option maxHeartbeats 4000000 in
theorem reads4 {w wx : World} {a a1 : Option Addr} {n c c1 : Nat} {b : List UInt8} (HX : Hid (Rd w (.slice a n c) b)) (HY : Hid (RdB w (.slice a1 n c1) b)) (HL : Hid (b.length ≤ 1000000)) (M : Hid (Mods noB w wx)) (x2 x3 x4 x5 x6 x7 x8 x9 x10 x11 x12 x13 x14 x15 x16 x17 x18 x19 x20 x21 x22 x23 x24 x25 x26 x27 x28 x29 x30 x31 x32 x33 x34 x35 x36 x37 x38 x39 x40 x41 x42 x43 x44 x45 x46 x47 x48 x49 x50 x51 x52 x53 x54 x55 x56 x57 x58 x59 x60 x61 x62 x63 x64 x65 x66 x67 x68 x69 x70 x71 x72 x73 x74 x75 x76 x77 x78 x79 x80 x81 x82 x83 x84 x85 x86 x87 x88 x89 x90 x91 x92 x93 x94 x95 x96 x97 x98 x99 x100 x101 x102 x103 x104 x105 x106 x107 : Value) : Code.wp Tryz.prog (tl 13 (bodyOf Tryz.f34)) (bodyPost Tryz.prog Tryz.f34 (PostT w)) ⟨#[.slice a n c, .slice a1 n c1, x2, x3, x4, x5, x6, x7, x8, x9, x10, x11, x12, x13, x14, x15, x16, x17, x18, x19, x20, x21, x22, x23, x24, x25, x26, x27, x28, x29, x30, x31, x32, x33, x34, x35, x36, x37, x38, x39, x40, x41, x42, x43, x44, x45, x46, x47, x48, x49, x50, x51, x52, x53, x54, x55, x56, x57, x58, x59, x60, x61, x62, x63, x64, x65, x66, x67, x68, x69, x70, x71, x72, x73, x74, x75, x76, x77, x78, x79, x80, x81, x82, x83, x84, x85, x86, x87, x88, x89, x90, x91, x92, x93, x94, x95, x96, x97, x98, x99, x100, x101, x102, x103, x104, x105, x106, x107], []⟩ wx := by
  refine wp_tl (d := .seq _ (.seq _ (.seq _ _))) (by rfl) ?_
  have G := Lib.hid (show GB w [] wx from ⟨fun p hp => (by cases hp), M.out⟩)
  clear M
  refine wp_seq_h fun K HK => ?_
  go_wp2_with fail
  refine (val_get (HX.out.keep G.out.mods (fun _ _ x => x)) HL.out).mono ?_
  rintro r w2 ⟨n0, n1, n4, n6, b3, b5, u2, u7, u8, u9, l2, l7, l8, l9, e, rfl, hg, hm, ⟨e2, f2⟩, ⟨e7, f7⟩, ⟨e8, f8⟩, ⟨e9, f9⟩⟩
  obtain ⟨ad2, cp2, rfl, _⟩ := e2.form
  obtain ⟨ad7, cp7, rfl, _⟩ := e7.form
  obtain ⟨ad8, cp8, rfl, _⟩ := e8.form
  obtain ⟨ad9, cp9, rfl, _⟩ := e9.form
  have HA := Lib.hid hg
  replace G := Lib.hid ((G.out.step hm).push (.cells #[.int .u64 n0, .int .u64 n1, .slice ad2 l2.length cp2, .bool b3, .int .u64 n4, .bool b5, .int .u64 n6, .slice ad7 l7.length cp7, .slice ad8 l8.length cp8, .slice ad9 l9.length cp9] 34))
  have E2 := Lib.hid (e2.keep ((Mods.refl noB w2).alloc (.cells #[.int .u64 n0, .int .u64 n1, .slice ad2 l2.length cp2, .bool b3, .int .u64 n4, .bool b5, .int .u64 n6, .slice ad7 l7.length cp7, .slice ad8 l8.length cp8, .slice ad9 l9.length cp9] 34)) (fun _ _ x => x))
  clear e2 f2
  have E7 := Lib.hid (e7.keep ((Mods.refl noB w2).alloc (.cells #[.int .u64 n0, .int .u64 n1, .slice ad2 l2.length cp2, .bool b3, .int .u64 n4, .bool b5, .int .u64 n6, .slice ad7 l7.length cp7, .slice ad8 l8.length cp8, .slice ad9 l9.length cp9] 34)) (fun _ _ x => x))
  clear e7 f7
  have E8 := Lib.hid (e8.keep ((Mods.refl noB w2).alloc (.cells #[.int .u64 n0, .int .u64 n1, .slice ad2 l2.length cp2, .bool b3, .int .u64 n4, .bool b5, .int .u64 n6, .slice ad7 l7.length cp7, .slice ad8 l8.length cp8, .slice ad9 l9.length cp9] 34)) (fun _ _ x => x))
  clear e8 f8
  have E9 := Lib.hid (e9.keep ((Mods.refl noB w2).alloc (.cells #[.int .u64 n0, .int .u64 n1, .slice ad2 l2.length cp2, .bool b3, .int .u64 n4, .bool b5, .int .u64 n6, .slice ad7 l7.length cp7, .slice ad8 l8.length cp8, .slice ad9 l9.length cp9] 34)) (fun _ _ x => x))
  clear e9 f9
  clear hg hm
  go_wp2
  refine HK.out _ _ ?_
  clear K HK
  generalize World.alloc w2 _ = w3 at *
  refine wp_seq_h fun K HK => ?_
  go_wp2_with fail
  refine (val_ref (HY.out.keep G.out.mods) HL.out).mono ?_
  rintro r w4 ⟨m0, m1, m4, m6, p3, p5, v2, v7, v8, v9, k2, k7, k8, k9, e', rfl, hg, hm, q2, q7, q8, q9⟩
  have hi := HA.out.symm.trans hg
  simp only [Prod.mk.injEq, List.cons.injEq, Fld.mk.injEq, and_true, true_and] at hi
  obtain ⟨⟨rfl, rfl, rfl, hb3, rfl, hb5, rfl, rfl, rfl, rfl⟩, rfl⟩ := hi
  obtain rfl := ifb hb3
  obtain rfl := ifb hb5
  obtain ⟨bd2, cq2, rfl, _⟩ := q2.form
  obtain ⟨bd7, cq7, rfl, _⟩ := q7.form
  obtain ⟨bd8, cq8, rfl, _⟩ := q8.form
  obtain ⟨bd9, cq9, rfl, _⟩ := q9.form
  replace G := Lib.hid ((G.out.step hm).push (.cells #[.int .u64 n0, .int .u64 n1, .slice bd2 l2.length cq2, .bool b3, .int .u64 n4, .bool b5, .int .u64 n6, .slice bd7 l7.length cq7, .slice bd8 l8.length cq8, .slice bd9 l9.length cq9] 34))
  replace E2 := Lib.hid (E2.out.keep (hm.alloc (.cells #[.int .u64 n0, .int .u64 n1, .slice bd2 l2.length cq2, .bool b3, .int .u64 n4, .bool b5, .int .u64 n6, .slice bd7 l7.length cq7, .slice bd8 l8.length cq8, .slice bd9 l9.length cq9] 34)) (fun _ _ x => x))
  have V2 := Lib.hid (q2.keep ((Mods.refl noB w4).alloc (.cells #[.int .u64 n0, .int .u64 n1, .slice bd2 l2.length cq2, .bool b3, .int .u64 n4, .bool b5, .int .u64 n6, .slice bd7 l7.length cq7, .slice bd8 l8.length cq8, .slice bd9 l9.length cq9] 34)) (fun _ _ x => x))
  clear q2
  replace E7 := Lib.hid (E7.out.keep (hm.alloc (.cells #[.int .u64 n0, .int .u64 n1, .slice bd2 l2.length cq2, .bool b3, .int .u64 n4, .bool b5, .int .u64 n6, .slice bd7 l7.length cq7, .slice bd8 l8.length cq8, .slice bd9 l9.length cq9] 34)) (fun _ _ x => x))
  have V7 := Lib.hid (q7.keep ((Mods.refl noB w4).alloc (.cells #[.int .u64 n0, .int .u64 n1, .slice bd2 l2.length cq2, .bool b3, .int .u64 n4, .bool b5, .int .u64 n6, .slice bd7 l7.length cq7, .slice bd8 l8.length cq8, .slice bd9 l9.length cq9] 34)) (fun _ _ x => x))
  clear q7
  replace E8 := Lib.hid (E8.out.keep (hm.alloc (.cells #[.int .u64 n0, .int .u64 n1, .slice bd2 l2.length cq2, .bool b3, .int .u64 n4, .bool b5, .int .u64 n6, .slice bd7 l7.length cq7, .slice bd8 l8.length cq8, .slice bd9 l9.length cq9] 34)) (fun _ _ x => x))
  have V8 := Lib.hid (q8.keep ((Mods.refl noB w4).alloc (.cells #[.int .u64 n0, .int .u64 n1, .slice bd2 l2.length cq2, .bool b3, .int .u64 n4, .bool b5, .int .u64 n6, .slice bd7 l7.length cq7, .slice bd8 l8.length cq8, .slice bd9 l9.length cq9] 34)) (fun _ _ x => x))
  clear q8
  replace E9 := Lib.hid (E9.out.keep (hm.alloc (.cells #[.int .u64 n0, .int .u64 n1, .slice bd2 l2.length cq2, .bool b3, .int .u64 n4, .bool b5, .int .u64 n6, .slice bd7 l7.length cq7, .slice bd8 l8.length cq8, .slice bd9 l9.length cq9] 34)) (fun _ _ x => x))
  have V9 := Lib.hid (q9.keep ((Mods.refl noB w4).alloc (.cells #[.int .u64 n0, .int .u64 n1, .slice bd2 l2.length cq2, .bool b3, .int .u64 n4, .bool b5, .int .u64 n6, .slice bd7 l7.length cq7, .slice bd8 l8.length cq8, .slice bd9 l9.length cq9] 34)) (fun _ _ x => x))
  clear q9
  clear hg hm HA
  go_wp2
  refine HK.out _ _ ?_
  clear K HK
  generalize World.alloc w4 _ = w5 at *
  have c0 := cells_of (G.out.get 0 rfl)
  have c1 := cells_of (G.out.get 1 rfl)
  go_wp2_with fail
  refine (val_true E2.out V2.out E7.out V7.out E8.out V8.out E9.out V9.out).mono ?_
  rintro r w6 ⟨rfl, m⟩
  replace G := Lib.hid (G.out.step m)
  clear c0 c1 m
  go_wp2_with fail
  go_ret
  exact ⟨rfl, G.out.mods⟩

set_option maxHeartbeats 4000000 in
theorem reads3 {w wx : World} {a a1 : Option Addr} {n c c1 : Nat} {b : List UInt8} (HX : Hid (Rd w (.slice a n c) b)) (HY : Hid (RdB w (.slice a1 n c1) b)) (HL : Hid (b.length ≤ 1000000)) (M : Hid (Mods noB w wx)) (x2 x3 x4 x5 x6 x7 x8 x9 x10 x11 x12 x13 x14 x15 x16 x17 x18 x19 x20 x21 x22 x23 x24 x25 x26 x27 x28 x29 x30 x31 x32 x33 x34 x35 x36 x37 x38 x39 x40 x41 x42 x43 x44 x45 x46 x47 x48 x49 x50 x51 x52 x53 x54 x55 x56 x57 x58 x59 x60 x61 x62 x63 x64 x65 x66 x67 x68 x69 x70 x71 x72 x73 x74 x75 x76 x77 x78 x79 x80 x81 x82 x83 x84 x85 x86 x87 x88 x89 x90 x91 x92 x93 x94 x95 x96 x97 x98 x99 x100 x101 x102 x103 x104 x105 x106 x107 : Value) : Code.wp Tryz.prog (tl 10 (bodyOf Tryz.f34)) (bodyPost Tryz.prog Tryz.f34 (PostT w)) ⟨#[.slice a n c, .slice a1 n c1, x2, x3, x4, x5, x6, x7, x8, x9, x10, x11, x12, x13, x14, x15, x16, x17, x18, x19, x20, x21, x22, x23, x24, x25, x26, x27, x28, x29, x30, x31, x32, x33, x34, x35, x36, x37, x38, x39, x40, x41, x42, x43, x44, x45, x46, x47, x48, x49, x50, x51, x52, x53, x54, x55, x56, x57, x58, x59, x60, x61, x62, x63, x64, x65, x66, x67, x68, x69, x70, x71, x72, x73, x74, x75, x76, x77, x78, x79, x80, x81, x82, x83, x84, x85, x86, x87, x88, x89, x90, x91, x92, x93, x94, x95, x96, x97, x98, x99, x100, x101, x102, x103, x104, x105, x106, x107], []⟩ wx := by
  refine wp_tl (d := .seq _ (.seq _ (.seq _ _))) (by rfl) ?_
  have G := Lib.hid (show GB w [] wx from ⟨fun p hp => (by cases hp), M.out⟩)
  clear M
  refine wp_seq_h fun K HK => ?_
  go_wp2_with fail
  refine (account_get (HX.out.keep G.out.mods (fun _ _ x => x)) HL.out).mono ?_
  rintro r w2 ⟨n0, n1, e, rfl, hg, hm⟩
  have HA := Lib.hid hg
  replace G := Lib.hid ((G.out.step hm).push (.cells #[.int .u64 n0, .int .u64 n1] 32))
  clear hg hm
  go_wp2
  refine HK.out _ _ ?_
  clear K HK
  generalize World.alloc w2 _ = w3 at *
  refine wp_seq_h fun K HK => ?_
  go_wp2_with fail
  refine (account_ref (HY.out.keep G.out.mods) HL.out).mono ?_
  rintro r w4 ⟨m0, m1, e', rfl, hg, hm⟩
  have hi := HA.out.symm.trans hg
  simp only [Prod.mk.injEq, List.cons.injEq, Fld.mk.injEq, and_true, true_and] at hi
  obtain ⟨⟨rfl, rfl⟩, rfl⟩ := hi
  replace G := Lib.hid ((G.out.step hm).push (.cells #[.int .u64 n0, .int .u64 n1] 32))
  clear hg hm HA
  go_wp2
  refine HK.out _ _ ?_
  clear K HK
  generalize World.alloc w4 _ = w5 at *
  refine wp_seq_h fun K HK => ?_
  have c0 := cells_of (G.out.get 0 rfl)
  have c1 := cells_of (G.out.get 1 rfl)
  go_wp2
  refine HK.out _ _ ?_
  exact reads4 HX HY HL (Lib.hid G.out.mods) _ _ _ _ _ _ _ _ _ _ _ _ _ _ _ _ _ _ _ _ _ _ _ _ _ _ _ _ _ _ _ _ _ _ _ _ _ _ _ _ _ _ _ _ _ _ _ _ _ _ _ _ _ _ _ _ _ _ _ _ _ _ _ _ _ _ _ _ _ _ _ _ _ _ _ _ _ _ _ _ _ _ _ _ _ _ _ _ _ _ _ _ _ _ _ _ _ _ _ _ _ _ _ _ _ _

set_option maxHeartbeats 4000000 in
theorem reads2 {w wx : World} {a a1 : Option Addr} {n c c1 : Nat} {b : List UInt8} (HX : Hid (Rd w (.slice a n c) b)) (HY : Hid (RdB w (.slice a1 n c1) b)) (HL : Hid (b.length ≤ 1000000)) (M : Hid (Mods noB w wx)) (x2 x3 x4 x5 x6 x7 x8 x9 x10 x11 x12 x13 x14 x15 x16 x17 x18 x19 x20 x21 x22 x23 x24 x25 x26 x27 x28 x29 x30 x31 x32 x33 x34 x35 x36 x37 x38 x39 x40 x41 x42 x43 x44 x45 x46 x47 x48 x49 x50 x51 x52 x53 x54 x55 x56 x57 x58 x59 x60 x61 x62 x63 x64 x65 x66 x67 x68 x69 x70 x71 x72 x73 x74 x75 x76 x77 x78 x79 x80 x81 x82 x83 x84 x85 x86 x87 x88 x89 x90 x91 x92 x93 x94 x95 x96 x97 x98 x99 x100 x101 x102 x103 x104 x105 x106 x107 : Value) : Code.wp Tryz.prog (tl 7 (bodyOf Tryz.f34)) (bodyPost Tryz.prog Tryz.f34 (PostT w)) ⟨#[.slice a n c, .slice a1 n c1, x2, x3, x4, x5, x6, x7, x8, x9, x10, x11, x12, x13, x14, x15, x16, x17, x18, x19, x20, x21, x22, x23, x24, x25, x26, x27, x28, x29, x30, x31, x32, x33, x34, x35, x36, x37, x38, x39, x40, x41, x42, x43, x44, x45, x46, x47, x48, x49, x50, x51, x52, x53, x54, x55, x56, x57, x58, x59, x60, x61, x62, x63, x64, x65, x66, x67, x68, x69, x70, x71, x72, x73, x74, x75, x76, x77, x78, x79, x80, x81, x82, x83, x84, x85, x86, x87, x88, x89, x90, x91, x92, x93, x94, x95, x96, x97, x98, x99, x100, x101, x102, x103, x104, x105, x106, x107], []⟩ wx := by
  refine wp_tl (d := .seq _ (.seq _ (.seq _ _))) (by rfl) ?_
  have G := Lib.hid (show GB w [] wx from ⟨fun p hp => (by cases hp), M.out⟩)
  clear M
  refine wp_seq_h fun K HK => ?_
  go_wp2_with fail
  refine (pool_get (HX.out.keep G.out.mods (fun _ _ x => x)) HL.out).mono ?_
  rintro r w2 ⟨u0, l0, e, rfl, hg, hm, ⟨e0, f0⟩⟩
  obtain ⟨ad0, cp0, rfl, _⟩ := e0.form
  have HA := Lib.hid hg
  replace G := Lib.hid ((G.out.step hm).push (.cells #[.slice ad0 l0.length cp0] 30))
  have E0 := Lib.hid (e0.keep ((Mods.refl noB w2).alloc (.cells #[.slice ad0 l0.length cp0] 30)) (fun _ _ x => x))
  clear e0 f0
  clear hg hm
  go_wp2
  refine HK.out _ _ ?_
  clear K HK
  generalize World.alloc w2 _ = w3 at *
  refine wp_seq_h fun K HK => ?_
  go_wp2_with fail
  refine (pool_ref (HY.out.keep G.out.mods) HL.out).mono ?_
  rintro r w4 ⟨v0, k0, e', rfl, hg, hm, q0⟩
  have hi := HA.out.symm.trans hg
  simp only [Prod.mk.injEq, List.cons.injEq, Fld.mk.injEq, and_true, true_and] at hi
  obtain ⟨rfl, rfl⟩ := hi
  obtain ⟨bd0, cq0, rfl, _⟩ := q0.form
  replace G := Lib.hid ((G.out.step hm).push (.cells #[.slice bd0 l0.length cq0] 30))
  replace E0 := Lib.hid (E0.out.keep (hm.alloc (.cells #[.slice bd0 l0.length cq0] 30)) (fun _ _ x => x))
  have V0 := Lib.hid (q0.keep ((Mods.refl noB w4).alloc (.cells #[.slice bd0 l0.length cq0] 30)) (fun _ _ x => x))
  clear q0
  clear hg hm HA
  go_wp2
  refine HK.out _ _ ?_
  clear K HK
  generalize World.alloc w4 _ = w5 at *
  refine wp_seq_h fun K HK => ?_
  have c0 := cells_of (G.out.get 0 rfl)
  have c1 := cells_of (G.out.get 1 rfl)
  go_wp2_with fail
  refine (HDec_tt E0.out V0.out).mono ?_
  rintro r w6 ⟨rfl, m⟩
  replace G := Lib.hid (G.out.step m)
  clear c0 c1 m
  go_wp2
  refine HK.out _ _ ?_
  exact reads3 HX HY HL (Lib.hid G.out.mods) _ _ _ _ _ _ _ _ _ _ _ _ _ _ _ _ _ _ _ _ _ _ _ _ _ _ _ _ _ _ _ _ _ _ _ _ _ _ _ _ _ _ _ _ _ _ _ _ _ _ _ _ _ _ _ _ _ _ _ _ _ _ _ _ _ _ _ _ _ _ _ _ _ _ _ _ _ _ _ _ _ _ _ _ _ _ _ _ _ _ _ _ _ _ _ _ _ _ _ _ _ _ _ _ _ _

set_option maxHeartbeats 4000000 in
theorem reads1 {w wx : World} {a a1 : Option Addr} {n c c1 : Nat} {b : List UInt8} (HX : Hid (Rd w (.slice a n c) b)) (HY : Hid (RdB w (.slice a1 n c1) b)) (HL : Hid (b.length ≤ 1000000)) (M : Hid (Mods noB w wx)) (x2 x3 x4 x5 x6 x7 x8 x9 x10 x11 x12 x13 x14 x15 x16 x17 x18 x19 x20 x21 x22 x23 x24 x25 x26 x27 x28 x29 x30 x31 x32 x33 x34 x35 x36 x37 x38 x39 x40 x41 x42 x43 x44 x45 x46 x47 x48 x49 x50 x51 x52 x53 x54 x55 x56 x57 x58 x59 x60 x61 x62 x63 x64 x65 x66 x67 x68 x69 x70 x71 x72 x73 x74 x75 x76 x77 x78 x79 x80 x81 x82 x83 x84 x85 x86 x87 x88 x89 x90 x91 x92 x93 x94 x95 x96 x97 x98 x99 x100 x101 x102 x103 x104 x105 x106 x107 : Value) : Code.wp Tryz.prog (tl 4 (bodyOf Tryz.f34)) (bodyPost Tryz.prog Tryz.f34 (PostT w)) ⟨#[.slice a n c, .slice a1 n c1, x2, x3, x4, x5, x6, x7, x8, x9, x10, x11, x12, x13, x14, x15, x16, x17, x18, x19, x20, x21, x22, x23, x24, x25, x26, x27, x28, x29, x30, x31, x32, x33, x34, x35, x36, x37, x38, x39, x40, x41, x42, x43, x44, x45, x46, x47, x48, x49, x50, x51, x52, x53, x54, x55, x56, x57, x58, x59, x60, x61, x62, x63, x64, x65, x66, x67, x68, x69, x70, x71, x72, x73, x74, x75, x76, x77, x78, x79, x80, x81, x82, x83, x84, x85, x86, x87, x88, x89, x90, x91, x92, x93, x94, x95, x96, x97, x98, x99, x100, x101, x102, x103, x104, x105, x106, x107], []⟩ wx := by
  refine wp_tl (d := .seq _ (.seq _ (.seq _ _))) (by rfl) ?_
  have G := Lib.hid (show GB w [] wx from ⟨fun p hp => (by cases hp), M.out⟩)
  clear M
  refine wp_seq_h fun K HK => ?_
  go_wp2_with fail
  refine (chain_get (HX.out.keep G.out.mods (fun _ _ x => x)) HL.out).mono ?_
  rintro r w2 ⟨n0, n1, e, rfl, hg, hm⟩
  have HA := Lib.hid hg
  replace G := Lib.hid ((G.out.step hm).push (.cells #[.int .u64 n0, .int .u64 n1] 26))
  clear hg hm
  go_wp2
  refine HK.out _ _ ?_
  clear K HK
  generalize World.alloc w2 _ = w3 at *
  refine wp_seq_h fun K HK => ?_
  go_wp2_with fail
  refine (chain_ref (HY.out.keep G.out.mods) HL.out).mono ?_
  rintro r w4 ⟨m0, m1, e', rfl, hg, hm⟩
  have hi := HA.out.symm.trans hg
  simp only [Prod.mk.injEq, List.cons.injEq, Fld.mk.injEq, and_true, true_and] at hi
  obtain ⟨⟨rfl, rfl⟩, rfl⟩ := hi
  replace G := Lib.hid ((G.out.step hm).push (.cells #[.int .u64 n0, .int .u64 n1] 26))
  clear hg hm HA
  go_wp2
  refine HK.out _ _ ?_
  clear K HK
  generalize World.alloc w4 _ = w5 at *
  refine wp_seq_h fun K HK => ?_
  have c0 := cells_of (G.out.get 0 rfl)
  have c1 := cells_of (G.out.get 1 rfl)
  go_wp2
  refine HK.out _ _ ?_
  exact reads2 HX HY HL (Lib.hid G.out.mods) _ _ _ _ _ _ _ _ _ _ _ _ _ _ _ _ _ _ _ _ _ _ _ _ _ _ _ _ _ _ _ _ _ _ _ _ _ _ _ _ _ _ _ _ _ _ _ _ _ _ _ _ _ _ _ _ _ _ _ _ _ _ _ _ _ _ _ _ _ _ _ _ _ _ _ _ _ _ _ _ _ _ _ _ _ _ _ _ _ _ _ _ _ _ _ _ _ _ _ _ _ _ _ _ _ _

set_option maxHeartbeats 4000000 in
theorem reads0 {w wx : World} {a a1 : Option Addr} {n c c1 : Nat} {b : List UInt8} (HX : Hid (Rd w (.slice a n c) b)) (HY : Hid (RdB w (.slice a1 n c1) b)) (HL : Hid (b.length ≤ 1000000)) (M : Hid (Mods noB w wx)) (x2 x3 x4 x5 x6 x7 x8 x9 x10 x11 x12 x13 x14 x15 x16 x17 x18 x19 x20 x21 x22 x23 x24 x25 x26 x27 x28 x29 x30 x31 x32 x33 x34 x35 x36 x37 x38 x39 x40 x41 x42 x43 x44 x45 x46 x47 x48 x49 x50 x51 x52 x53 x54 x55 x56 x57 x58 x59 x60 x61 x62 x63 x64 x65 x66 x67 x68 x69 x70 x71 x72 x73 x74 x75 x76 x77 x78 x79 x80 x81 x82 x83 x84 x85 x86 x87 x88 x89 x90 x91 x92 x93 x94 x95 x96 x97 x98 x99 x100 x101 x102 x103 x104 x105 x106 x107 : Value) : Code.wp Tryz.prog (tl 1 (bodyOf Tryz.f34)) (bodyPost Tryz.prog Tryz.f34 (PostT w)) ⟨#[.slice a n c, .slice a1 n c1, x2, x3, x4, x5, x6, x7, x8, x9, x10, x11, x12, x13, x14, x15, x16, x17, x18, x19, x20, x21, x22, x23, x24, x25, x26, x27, x28, x29, x30, x31, x32, x33, x34, x35, x36, x37, x38, x39, x40, x41, x42, x43, x44, x45, x46, x47, x48, x49, x50, x51, x52, x53, x54, x55, x56, x57, x58, x59, x60, x61, x62, x63, x64, x65, x66, x67, x68, x69, x70, x71, x72, x73, x74, x75, x76, x77, x78, x79, x80, x81, x82, x83, x84, x85, x86, x87, x88, x89, x90, x91, x92, x93, x94, x95, x96, x97, x98, x99, x100, x101, x102, x103, x104, x105, x106, x107], []⟩ wx := by
  refine wp_tl (d := .seq _ (.seq _ (.seq _ _))) (by rfl) ?_
  have G := Lib.hid (show GB w [] wx from ⟨fun p hp => (by cases hp), M.out⟩)
  clear M
  refine wp_seq_h fun K HK => ?_
  go_wp2_with fail
  refine (params_get (HX.out.keep G.out.mods (fun _ _ x => x)) HL.out).mono ?_
  rintro r w2 ⟨n0, n1, n2, n3, n4, n5, n6, n7, n8, n9, e, rfl, hg, hm⟩
  have HA := Lib.hid hg
  replace G := Lib.hid ((G.out.step hm).push (.cells #[.int .u64 n0, .int .u64 n1, .int .u64 n2, .int .u64 n3, .int .u64 n4, .int .u64 n5, .int .u64 n6, .int .u64 n7, .int .u64 n8, .int .u64 n9] 24))
  clear hg hm
  go_wp2
  refine HK.out _ _ ?_
  clear K HK
  generalize World.alloc w2 _ = w3 at *
  refine wp_seq_h fun K HK => ?_
  go_wp2_with fail
  refine (params_ref (HY.out.keep G.out.mods) HL.out).mono ?_
  rintro r w4 ⟨m0, m1, m2, m3, m4, m5, m6, m7, m8, m9, e', rfl, hg, hm⟩
  have hi := HA.out.symm.trans hg
  simp only [Prod.mk.injEq, List.cons.injEq, Fld.mk.injEq, and_true, true_and] at hi
  obtain ⟨⟨rfl, rfl, rfl, rfl, rfl, rfl, rfl, rfl, rfl, rfl⟩, rfl⟩ := hi
  replace G := Lib.hid ((G.out.step hm).push (.cells #[.int .u64 n0, .int .u64 n1, .int .u64 n2, .int .u64 n3, .int .u64 n4, .int .u64 n5, .int .u64 n6, .int .u64 n7, .int .u64 n8, .int .u64 n9] 24))
  clear hg hm HA
  go_wp2
  refine HK.out _ _ ?_
  clear K HK
  generalize World.alloc w4 _ = w5 at *
  refine wp_seq_h fun K HK => ?_
  have c0 := cells_of (G.out.get 0 rfl)
  have c1 := cells_of (G.out.get 1 rfl)
  go_wp2
  refine HK.out _ _ ?_
  exact reads1 HX HY HL (Lib.hid G.out.mods) _ _ _ _ _ _ _ _ _ _ _ _ _ _ _ _ _ _ _ _ _ _ _ _ _ _ _ _ _ _ _ _ _ _ _ _ _ _ _ _ _ _ _ _ _ _ _ _ _ _ _ _ _ _ _ _ _ _ _ _ _ _ _ _ _ _ _ _ _ _ _ _ _ _ _ _ _ _ _ _ _ _ _ _ _ _ _ _ _ _ _ _ _ _ _ _ _ _ _ _ _ _ _ _ _ _

theorem reads_any {w : World} {a a1 : Option Addr} {n c c1 : Nat} {b : List UInt8} (HX : Hid (Rd w (.slice a n c) b)) (HY : Hid (RdB w (.slice a1 n c1) b)) (HL : Hid (b.length ≤ 1000000)) : Calls Tryz.prog 34 #[.slice a n c, .slice a1 n c1] w (PostT w) := by
  go_enter Tryz.func34, Tryz.ntmps34
  refine wp_seq_h fun K HK => ?_
  go_wp2
  refine HK.out _ _ ?_
  exact reads0 HX HY HL (Lib.hid (Mods.refl _ _)) _ _ _ _ _ _ _ _ _ _ _ _ _ _ _ _ _ _ _ _ _ _ _ _ _ _ _ _ _ _ _ _ _ _ _ _ _ _ _ _ _ _ _ _ _ _ _ _ _ _ _ _ _ _ _ _ _ _ _ _ _ _ _ _ _ _ _ _ _ _ _ _ _ _ _ _ _ _ _ _ _ _ _ _ _ _ _ _ _ _ _ _ _ _ _ _ _ _ _ _ _ _ _ _ _ _

set_option maxHeartbeats 4000000 in
theorem more5 {w wx : World} {a a1 : Option Addr} {n c c1 : Nat} {b : List UInt8} (HX : Hid (Rd w (.slice a n c) b)) (HY : Hid (RdB w (.slice a1 n c1) b)) (HL : Hid (b.length ≤ 1000000)) (M : Hid (Mods noB w wx)) (x2 x3 x4 x5 x6 x7 x8 x9 x10 x11 x12 x13 x14 x15 x16 x17 x18 x19 x20 x21 x22 x23 x24 x25 x26 x27 x28 x29 x30 x31 x32 x33 x34 x35 x36 x37 x38 x39 x40 x41 x42 x43 x44 x45 x46 x47 x48 x49 x50 x51 x52 x53 x54 x55 x56 x57 x58 x59 x60 x61 x62 x63 x64 x65 x66 x67 x68 x69 x70 x71 x72 x73 x74 x75 x76 x77 x78 x79 x80 x81 x82 x83 x84 x85 x86 x87 x88 x89 x90 x91 x92 x93 x94 x95 x96 x97 x98 x99 x100 x101 x102 x103 x104 x105 x106 x107 x108 x109 x110 x111 x112 x113 x114 x115 x116 x117 x118 x119 x120 x121 x122 x123 x124 x125 x126 x127 x128 x129 : Value) : Code.wp Tryz.prog (tl 16 (bodyOf Tryz.f35)) (bodyPost Tryz.prog Tryz.f35 (PostT w)) ⟨#[.slice a n c, .slice a1 n c1, x2, x3, x4, x5, x6, x7, x8, x9, x10, x11, x12, x13, x14, x15, x16, x17, x18, x19, x20, x21, x22, x23, x24, x25, x26, x27, x28, x29, x30, x31, x32, x33, x34, x35, x36, x37, x38, x39, x40, x41, x42, x43, x44, x45, x46, x47, x48, x49, x50, x51, x52, x53, x54, x55, x56, x57, x58, x59, x60, x61, x62, x63, x64, x65, x66, x67, x68, x69, x70, x71, x72, x73, x74, x75, x76, x77, x78, x79, x80, x81, x82, x83, x84, x85, x86, x87, x88, x89, x90, x91, x92, x93, x94, x95, x96, x97, x98, x99, x100, x101, x102, x103, x104, x105, x106, x107, x108, x109, x110, x111, x112, x113, x114, x115, x116, x117, x118, x119, x120, x121, x122, x123, x124, x125, x126, x127, x128, x129], []⟩ wx := by
  refine wp_tl (d := .seq _ (.seq _ (.seq _ _))) (by rfl) ?_
  have G := Lib.hid (show GB w [] wx from ⟨fun p hp => (by cases hp), M.out⟩)
  clear M
  refine wp_seq_h fun K HK => ?_
  go_wp2_with fail
  refine (one_get (HX.out.keep G.out.mods (fun _ _ x => x)) HL.out).mono ?_
  rintro r w2 ⟨n0, e, rfl, hg, hm⟩
  have HA := Lib.hid hg
  replace G := Lib.hid (G.out.step hm)
  clear hg hm
  go_wp2
  refine HK.out _ _ ?_
  clear K HK
  refine wp_seq_h fun K HK => ?_
  go_wp2_with fail
  refine (one_ref (HY.out.keep G.out.mods) HL.out).mono ?_
  rintro r w4 ⟨m0, e', rfl, hg, hm⟩
  have hi := HA.out.symm.trans hg
  simp only [Prod.mk.injEq, List.cons.injEq, Fld.mk.injEq, and_true, true_and] at hi
  obtain ⟨rfl, rfl⟩ := hi
  replace G := Lib.hid (G.out.step hm)
  clear hg hm HA
  go_wp2
  refine HK.out _ _ ?_
  clear K HK
  go_wp2_with fail
  go_ret
  exact ⟨rfl, G.out.mods⟩

set_option maxHeartbeats 4000000 in
theorem more4 {w wx : World} {a a1 : Option Addr} {n c c1 : Nat} {b : List UInt8} (HX : Hid (Rd w (.slice a n c) b)) (HY : Hid (RdB w (.slice a1 n c1) b)) (HL : Hid (b.length ≤ 1000000)) (M : Hid (Mods noB w wx)) (x2 x3 x4 x5 x6 x7 x8 x9 x10 x11 x12 x13 x14 x15 x16 x17 x18 x19 x20 x21 x22 x23 x24 x25 x26 x27 x28 x29 x30 x31 x32 x33 x34 x35 x36 x37 x38 x39 x40 x41 x42 x43 x44 x45 x46 x47 x48 x49 x50 x51 x52 x53 x54 x55 x56 x57 x58 x59 x60 x61 x62 x63 x64 x65 x66 x67 x68 x69 x70 x71 x72 x73 x74 x75 x76 x77 x78 x79 x80 x81 x82 x83 x84 x85 x86 x87 x88 x89 x90 x91 x92 x93 x94 x95 x96 x97 x98 x99 x100 x101 x102 x103 x104 x105 x106 x107 x108 x109 x110 x111 x112 x113 x114 x115 x116 x117 x118 x119 x120 x121 x122 x123 x124 x125 x126 x127 x128 x129 : Value) : Code.wp Tryz.prog (tl 13 (bodyOf Tryz.f35)) (bodyPost Tryz.prog Tryz.f35 (PostT w)) ⟨#[.slice a n c, .slice a1 n c1, x2, x3, x4, x5, x6, x7, x8, x9, x10, x11, x12, x13, x14, x15, x16, x17, x18, x19, x20, x21, x22, x23, x24, x25, x26, x27, x28, x29, x30, x31, x32, x33, x34, x35, x36, x37, x38, x39, x40, x41, x42, x43, x44, x45, x46, x47, x48, x49, x50, x51, x52, x53, x54, x55, x56, x57, x58, x59, x60, x61, x62, x63, x64, x65, x66, x67, x68, x69, x70, x71, x72, x73, x74, x75, x76, x77, x78, x79, x80, x81, x82, x83, x84, x85, x86, x87, x88, x89, x90, x91, x92, x93, x94, x95, x96, x97, x98, x99, x100, x101, x102, x103, x104, x105, x106, x107, x108, x109, x110, x111, x112, x113, x114, x115, x116, x117, x118, x119, x120, x121, x122, x123, x124, x125, x126, x127, x128, x129], []⟩ wx := by
  refine wp_tl (d := .seq _ (.seq _ (.seq _ _))) (by rfl) ?_
  have G := Lib.hid (show GB w [] wx from ⟨fun p hp => (by cases hp), M.out⟩)
  clear M
  refine wp_seq_h fun K HK => ?_
  go_wp2_with fail
  refine (move_get (HX.out.keep G.out.mods (fun _ _ x => x)) HL.out).mono ?_
  rintro r w2 ⟨n0, n1, n2, n3, n4, n5, u6, l6, e, rfl, hg, hm, ⟨e6, f6⟩⟩
  obtain ⟨ad6, cp6, rfl, _⟩ := e6.form
  have HA := Lib.hid hg
  replace G := Lib.hid ((G.out.step hm).push (.cells #[.int .u64 n0, .int .u64 n1, .int .u64 n2, .int .u64 n3, .int .u64 n4, .int .u64 n5, .slice ad6 l6.length cp6] 44))
  have E6 := Lib.hid (e6.keep ((Mods.refl noB w2).alloc (.cells #[.int .u64 n0, .int .u64 n1, .int .u64 n2, .int .u64 n3, .int .u64 n4, .int .u64 n5, .slice ad6 l6.length cp6] 44)) (fun _ _ x => x))
  clear e6 f6
  clear hg hm
  go_wp2
  refine HK.out _ _ ?_
  clear K HK
  generalize World.alloc w2 _ = w3 at *
  refine wp_seq_h fun K HK => ?_
  go_wp2_with fail
  refine (move_ref (HY.out.keep G.out.mods) HL.out).mono ?_
  rintro r w4 ⟨m0, m1, m2, m3, m4, m5, v6, k6, e', rfl, hg, hm, q6⟩
  have hi := HA.out.symm.trans hg
  simp only [Prod.mk.injEq, List.cons.injEq, Fld.mk.injEq, and_true, true_and] at hi
  obtain ⟨⟨rfl, rfl, rfl, rfl, rfl, rfl, rfl⟩, rfl⟩ := hi
  obtain ⟨bd6, cq6, rfl, _⟩ := q6.form
  replace G := Lib.hid ((G.out.step hm).push (.cells #[.int .u64 n0, .int .u64 n1, .int .u64 n2, .int .u64 n3, .int .u64 n4, .int .u64 n5, .slice bd6 l6.length cq6] 44))
  replace E6 := Lib.hid (E6.out.keep (hm.alloc (.cells #[.int .u64 n0, .int .u64 n1, .int .u64 n2, .int .u64 n3, .int .u64 n4, .int .u64 n5, .slice bd6 l6.length cq6] 44)) (fun _ _ x => x))
  have V6 := Lib.hid (q6.keep ((Mods.refl noB w4).alloc (.cells #[.int .u64 n0, .int .u64 n1, .int .u64 n2, .int .u64 n3, .int .u64 n4, .int .u64 n5, .slice bd6 l6.length cq6] 44)) (fun _ _ x => x))
  clear q6
  clear hg hm HA
  go_wp2
  refine HK.out _ _ ?_
  clear K HK
  generalize World.alloc w4 _ = w5 at *
  refine wp_seq_h fun K HK => ?_
  have c0 := cells_of (G.out.get 0 rfl)
  have c1 := cells_of (G.out.get 1 rfl)
  go_wp2_with fail
  refine (move_true E6.out V6.out).mono ?_
  rintro r w6 ⟨rfl, m⟩
  replace G := Lib.hid (G.out.step m)
  clear c0 c1 m
  go_wp2
  refine HK.out _ _ ?_
  exact more5 HX HY HL (Lib.hid G.out.mods) _ _ _ _ _ _ _ _ _ _ _ _ _ _ _ _ _ _ _ _ _ _ _ _ _ _ _ _ _ _ _ _ _ _ _ _ _ _ _ _ _ _ _ _ _ _ _ _ _ _ _ _ _ _ _ _ _ _ _ _ _ _ _ _ _ _ _ _ _ _ _ _ _ _ _ _ _ _ _ _ _ _ _ _ _ _ _ _ _ _ _ _ _ _ _ _ _ _ _ _ _ _ _ _ _ _ _ _ _ _ _ _ _ _ _ _ _ _ _ _ _ _ _ _ _ _ _ _

set_option maxHeartbeats 4000000 in
theorem more3 {w wx : World} {a a1 : Option Addr} {n c c1 : Nat} {b : List UInt8} (HX : Hid (Rd w (.slice a n c) b)) (HY : Hid (RdB w (.slice a1 n c1) b)) (HL : Hid (b.length ≤ 1000000)) (M : Hid (Mods noB w wx)) (x2 x3 x4 x5 x6 x7 x8 x9 x10 x11 x12 x13 x14 x15 x16 x17 x18 x19 x20 x21 x22 x23 x24 x25 x26 x27 x28 x29 x30 x31 x32 x33 x34 x35 x36 x37 x38 x39 x40 x41 x42 x43 x44 x45 x46 x47 x48 x49 x50 x51 x52 x53 x54 x55 x56 x57 x58 x59 x60 x61 x62 x63 x64 x65 x66 x67 x68 x69 x70 x71 x72 x73 x74 x75 x76 x77 x78 x79 x80 x81 x82 x83 x84 x85 x86 x87 x88 x89 x90 x91 x92 x93 x94 x95 x96 x97 x98 x99 x100 x101 x102 x103 x104 x105 x106 x107 x108 x109 x110 x111 x112 x113 x114 x115 x116 x117 x118 x119 x120 x121 x122 x123 x124 x125 x126 x127 x128 x129 : Value) : Code.wp Tryz.prog (tl 10 (bodyOf Tryz.f35)) (bodyPost Tryz.prog Tryz.f35 (PostT w)) ⟨#[.slice a n c, .slice a1 n c1, x2, x3, x4, x5, x6, x7, x8, x9, x10, x11, x12, x13, x14, x15, x16, x17, x18, x19, x20, x21, x22, x23, x24, x25, x26, x27, x28, x29, x30, x31, x32, x33, x34, x35, x36, x37, x38, x39, x40, x41, x42, x43, x44, x45, x46, x47, x48, x49, x50, x51, x52, x53, x54, x55, x56, x57, x58, x59, x60, x61, x62, x63, x64, x65, x66, x67, x68, x69, x70, x71, x72, x73, x74, x75, x76, x77, x78, x79, x80, x81, x82, x83, x84, x85, x86, x87, x88, x89, x90, x91, x92, x93, x94, x95, x96, x97, x98, x99, x100, x101, x102, x103, x104, x105, x106, x107, x108, x109, x110, x111, x112, x113, x114, x115, x116, x117, x118, x119, x120, x121, x122, x123, x124, x125, x126, x127, x128, x129], []⟩ wx := by
  refine wp_tl (d := .seq _ (.seq _ (.seq _ _))) (by rfl) ?_
  have G := Lib.hid (show GB w [] wx from ⟨fun p hp => (by cases hp), M.out⟩)
  clear M
  refine wp_seq_h fun K HK => ?_
  go_wp2_with fail
  refine (unbonding_get (HX.out.keep G.out.mods (fun _ _ x => x)) HL.out).mono ?_
  rintro r w2 ⟨n0, n1, n2, n3, n4, n5, e, rfl, hg, hm⟩
  have HA := Lib.hid hg
  replace G := Lib.hid ((G.out.step hm).push (.cells #[.int .u64 n0, .int .u64 n1, .int .u64 n2, .int .u64 n3, .int .u64 n4, .int .u64 n5] 42))
  clear hg hm
  go_wp2
  refine HK.out _ _ ?_
  clear K HK
  generalize World.alloc w2 _ = w3 at *
  refine wp_seq_h fun K HK => ?_
  go_wp2_with fail
  refine (unbonding_ref (HY.out.keep G.out.mods) HL.out).mono ?_
  rintro r w4 ⟨m0, m1, m2, m3, m4, m5, e', rfl, hg, hm⟩
  have hi := HA.out.symm.trans hg
  simp only [Prod.mk.injEq, List.cons.injEq, Fld.mk.injEq, and_true, true_and] at hi
  obtain ⟨⟨rfl, rfl, rfl, rfl, rfl, rfl⟩, rfl⟩ := hi
  replace G := Lib.hid ((G.out.step hm).push (.cells #[.int .u64 n0, .int .u64 n1, .int .u64 n2, .int .u64 n3, .int .u64 n4, .int .u64 n5] 42))
  clear hg hm HA
  go_wp2
  refine HK.out _ _ ?_
  clear K HK
  generalize World.alloc w4 _ = w5 at *
  refine wp_seq_h fun K HK => ?_
  have c0 := cells_of (G.out.get 0 rfl)
  have c1 := cells_of (G.out.get 1 rfl)
  go_wp2
  refine HK.out _ _ ?_
  exact more4 HX HY HL (Lib.hid G.out.mods) _ _ _ _ _ _ _ _ _ _ _ _ _ _ _ _ _ _ _ _ _ _ _ _ _ _ _ _ _ _ _ _ _ _ _ _ _ _ _ _ _ _ _ _ _ _ _ _ _ _ _ _ _ _ _ _ _ _ _ _ _ _ _ _ _ _ _ _ _ _ _ _ _ _ _ _ _ _ _ _ _ _ _ _ _ _ _ _ _ _ _ _ _ _ _ _ _ _ _ _ _ _ _ _ _ _ _ _ _ _ _ _ _ _ _ _ _ _ _ _ _ _ _ _ _ _ _ _

set_option maxHeartbeats 4000000 in
theorem more2 {w wx : World} {a a1 : Option Addr} {n c c1 : Nat} {b : List UInt8} (HX : Hid (Rd w (.slice a n c) b)) (HY : Hid (RdB w (.slice a1 n c1) b)) (HL : Hid (b.length ≤ 1000000)) (M : Hid (Mods noB w wx)) (x2 x3 x4 x5 x6 x7 x8 x9 x10 x11 x12 x13 x14 x15 x16 x17 x18 x19 x20 x21 x22 x23 x24 x25 x26 x27 x28 x29 x30 x31 x32 x33 x34 x35 x36 x37 x38 x39 x40 x41 x42 x43 x44 x45 x46 x47 x48 x49 x50 x51 x52 x53 x54 x55 x56 x57 x58 x59 x60 x61 x62 x63 x64 x65 x66 x67 x68 x69 x70 x71 x72 x73 x74 x75 x76 x77 x78 x79 x80 x81 x82 x83 x84 x85 x86 x87 x88 x89 x90 x91 x92 x93 x94 x95 x96 x97 x98 x99 x100 x101 x102 x103 x104 x105 x106 x107 x108 x109 x110 x111 x112 x113 x114 x115 x116 x117 x118 x119 x120 x121 x122 x123 x124 x125 x126 x127 x128 x129 : Value) : Code.wp Tryz.prog (tl 7 (bodyOf Tryz.f35)) (bodyPost Tryz.prog Tryz.f35 (PostT w)) ⟨#[.slice a n c, .slice a1 n c1, x2, x3, x4, x5, x6, x7, x8, x9, x10, x11, x12, x13, x14, x15, x16, x17, x18, x19, x20, x21, x22, x23, x24, x25, x26, x27, x28, x29, x30, x31, x32, x33, x34, x35, x36, x37, x38, x39, x40, x41, x42, x43, x44, x45, x46, x47, x48, x49, x50, x51, x52, x53, x54, x55, x56, x57, x58, x59, x60, x61, x62, x63, x64, x65, x66, x67, x68, x69, x70, x71, x72, x73, x74, x75, x76, x77, x78, x79, x80, x81, x82, x83, x84, x85, x86, x87, x88, x89, x90, x91, x92, x93, x94, x95, x96, x97, x98, x99, x100, x101, x102, x103, x104, x105, x106, x107, x108, x109, x110, x111, x112, x113, x114, x115, x116, x117, x118, x119, x120, x121, x122, x123, x124, x125, x126, x127, x128, x129], []⟩ wx := by
  refine wp_tl (d := .seq _ (.seq _ (.seq _ _))) (by rfl) ?_
  have G := Lib.hid (show GB w [] wx from ⟨fun p hp => (by cases hp), M.out⟩)
  clear M
  refine wp_seq_h fun K HK => ?_
  go_wp2_with fail
  refine (cut_get (HX.out.keep G.out.mods (fun _ _ x => x)) HL.out).mono ?_
  rintro r w2 ⟨n0, n1, e, rfl, hg, hm⟩
  have HA := Lib.hid hg
  replace G := Lib.hid ((G.out.step hm).push (.cells #[.int .u64 n0, .int .u64 n1] 40))
  clear hg hm
  go_wp2
  refine HK.out _ _ ?_
  clear K HK
  generalize World.alloc w2 _ = w3 at *
  refine wp_seq_h fun K HK => ?_
  go_wp2_with fail
  refine (cut_ref (HY.out.keep G.out.mods) HL.out).mono ?_
  rintro r w4 ⟨m0, m1, e', rfl, hg, hm⟩
  have hi := HA.out.symm.trans hg
  simp only [Prod.mk.injEq, List.cons.injEq, Fld.mk.injEq, and_true, true_and] at hi
  obtain ⟨⟨rfl, rfl⟩, rfl⟩ := hi
  replace G := Lib.hid ((G.out.step hm).push (.cells #[.int .u64 n0, .int .u64 n1] 40))
  clear hg hm HA
  go_wp2
  refine HK.out _ _ ?_
  clear K HK
  generalize World.alloc w4 _ = w5 at *
  refine wp_seq_h fun K HK => ?_
  have c0 := cells_of (G.out.get 0 rfl)
  have c1 := cells_of (G.out.get 1 rfl)
  go_wp2
  refine HK.out _ _ ?_
  exact more3 HX HY HL (Lib.hid G.out.mods) _ _ _ _ _ _ _ _ _ _ _ _ _ _ _ _ _ _ _ _ _ _ _ _ _ _ _ _ _ _ _ _ _ _ _ _ _ _ _ _ _ _ _ _ _ _ _ _ _ _ _ _ _ _ _ _ _ _ _ _ _ _ _ _ _ _ _ _ _ _ _ _ _ _ _ _ _ _ _ _ _ _ _ _ _ _ _ _ _ _ _ _ _ _ _ _ _ _ _ _ _ _ _ _ _ _ _ _ _ _ _ _ _ _ _ _ _ _ _ _ _ _ _ _ _ _ _ _

set_option maxHeartbeats 4000000 in
theorem more1 {w wx : World} {a a1 : Option Addr} {n c c1 : Nat} {b : List UInt8} (HX : Hid (Rd w (.slice a n c) b)) (HY : Hid (RdB w (.slice a1 n c1) b)) (HL : Hid (b.length ≤ 1000000)) (M : Hid (Mods noB w wx)) (x2 x3 x4 x5 x6 x7 x8 x9 x10 x11 x12 x13 x14 x15 x16 x17 x18 x19 x20 x21 x22 x23 x24 x25 x26 x27 x28 x29 x30 x31 x32 x33 x34 x35 x36 x37 x38 x39 x40 x41 x42 x43 x44 x45 x46 x47 x48 x49 x50 x51 x52 x53 x54 x55 x56 x57 x58 x59 x60 x61 x62 x63 x64 x65 x66 x67 x68 x69 x70 x71 x72 x73 x74 x75 x76 x77 x78 x79 x80 x81 x82 x83 x84 x85 x86 x87 x88 x89 x90 x91 x92 x93 x94 x95 x96 x97 x98 x99 x100 x101 x102 x103 x104 x105 x106 x107 x108 x109 x110 x111 x112 x113 x114 x115 x116 x117 x118 x119 x120 x121 x122 x123 x124 x125 x126 x127 x128 x129 : Value) : Code.wp Tryz.prog (tl 4 (bodyOf Tryz.f35)) (bodyPost Tryz.prog Tryz.f35 (PostT w)) ⟨#[.slice a n c, .slice a1 n c1, x2, x3, x4, x5, x6, x7, x8, x9, x10, x11, x12, x13, x14, x15, x16, x17, x18, x19, x20, x21, x22, x23, x24, x25, x26, x27, x28, x29, x30, x31, x32, x33, x34, x35, x36, x37, x38, x39, x40, x41, x42, x43, x44, x45, x46, x47, x48, x49, x50, x51, x52, x53, x54, x55, x56, x57, x58, x59, x60, x61, x62, x63, x64, x65, x66, x67, x68, x69, x70, x71, x72, x73, x74, x75, x76, x77, x78, x79, x80, x81, x82, x83, x84, x85, x86, x87, x88, x89, x90, x91, x92, x93, x94, x95, x96, x97, x98, x99, x100, x101, x102, x103, x104, x105, x106, x107, x108, x109, x110, x111, x112, x113, x114, x115, x116, x117, x118, x119, x120, x121, x122, x123, x124, x125, x126, x127, x128, x129], []⟩ wx := by
  refine wp_tl (d := .seq _ (.seq _ (.seq _ _))) (by rfl) ?_
  have G := Lib.hid (show GB w [] wx from ⟨fun p hp => (by cases hp), M.out⟩)
  clear M
  refine wp_seq_h fun K HK => ?_
  go_wp2_with fail
  refine (history_get (HX.out.keep G.out.mods (fun _ _ x => x)) HL.out).mono ?_
  rintro r w2 ⟨n1, u0, l0, e, rfl, hg, hm, ⟨e0, f0⟩⟩
  obtain ⟨ad0, cp0, rfl, _⟩ := e0.form
  have HA := Lib.hid hg
  replace G := Lib.hid ((G.out.step hm).push (.cells #[.slice ad0 l0.length cp0, .int .u64 n1] 38))
  have E0 := Lib.hid (e0.keep ((Mods.refl noB w2).alloc (.cells #[.slice ad0 l0.length cp0, .int .u64 n1] 38)) (fun _ _ x => x))
  clear e0 f0
  clear hg hm
  go_wp2
  refine HK.out _ _ ?_
  clear K HK
  generalize World.alloc w2 _ = w3 at *
  refine wp_seq_h fun K HK => ?_
  go_wp2_with fail
  refine (history_ref (HY.out.keep G.out.mods) HL.out).mono ?_
  rintro r w4 ⟨m1, v0, k0, e', rfl, hg, hm, q0⟩
  have hi := HA.out.symm.trans hg
  simp only [Prod.mk.injEq, List.cons.injEq, Fld.mk.injEq, and_true, true_and] at hi
  obtain ⟨⟨rfl, rfl⟩, rfl⟩ := hi
  obtain ⟨bd0, cq0, rfl, _⟩ := q0.form
  replace G := Lib.hid ((G.out.step hm).push (.cells #[.slice bd0 l0.length cq0, .int .u64 n1] 38))
  replace E0 := Lib.hid (E0.out.keep (hm.alloc (.cells #[.slice bd0 l0.length cq0, .int .u64 n1] 38)) (fun _ _ x => x))
  have V0 := Lib.hid (q0.keep ((Mods.refl noB w4).alloc (.cells #[.slice bd0 l0.length cq0, .int .u64 n1] 38)) (fun _ _ x => x))
  clear q0
  clear hg hm HA
  go_wp2
  refine HK.out _ _ ?_
  clear K HK
  generalize World.alloc w4 _ = w5 at *
  refine wp_seq_h fun K HK => ?_
  have c0 := cells_of (G.out.get 0 rfl)
  have c1 := cells_of (G.out.get 1 rfl)
  go_wp2_with fail
  refine (history_true E0.out V0.out).mono ?_
  rintro r w6 ⟨rfl, m⟩
  replace G := Lib.hid (G.out.step m)
  clear c0 c1 m
  go_wp2
  refine HK.out _ _ ?_
  exact more2 HX HY HL (Lib.hid G.out.mods) _ _ _ _ _ _ _ _ _ _ _ _ _ _ _ _ _ _ _ _ _ _ _ _ _ _ _ _ _ _ _ _ _ _ _ _ _ _ _ _ _ _ _ _ _ _ _ _ _ _ _ _ _ _ _ _ _ _ _ _ _ _ _ _ _ _ _ _ _ _ _ _ _ _ _ _ _ _ _ _ _ _ _ _ _ _ _ _ _ _ _ _ _ _ _ _ _ _ _ _ _ _ _ _ _ _ _ _ _ _ _ _ _ _ _ _ _ _ _ _ _ _ _ _ _ _ _ _

set_option maxHeartbeats 4000000 in
theorem more0 {w wx : World} {a a1 : Option Addr} {n c c1 : Nat} {b : List UInt8} (HX : Hid (Rd w (.slice a n c) b)) (HY : Hid (RdB w (.slice a1 n c1) b)) (HL : Hid (b.length ≤ 1000000)) (M : Hid (Mods noB w wx)) (x2 x3 x4 x5 x6 x7 x8 x9 x10 x11 x12 x13 x14 x15 x16 x17 x18 x19 x20 x21 x22 x23 x24 x25 x26 x27 x28 x29 x30 x31 x32 x33 x34 x35 x36 x37 x38 x39 x40 x41 x42 x43 x44 x45 x46 x47 x48 x49 x50 x51 x52 x53 x54 x55 x56 x57 x58 x59 x60 x61 x62 x63 x64 x65 x66 x67 x68 x69 x70 x71 x72 x73 x74 x75 x76 x77 x78 x79 x80 x81 x82 x83 x84 x85 x86 x87 x88 x89 x90 x91 x92 x93 x94 x95 x96 x97 x98 x99 x100 x101 x102 x103 x104 x105 x106 x107 x108 x109 x110 x111 x112 x113 x114 x115 x116 x117 x118 x119 x120 x121 x122 x123 x124 x125 x126 x127 x128 x129 : Value) : Code.wp Tryz.prog (tl 1 (bodyOf Tryz.f35)) (bodyPost Tryz.prog Tryz.f35 (PostT w)) ⟨#[.slice a n c, .slice a1 n c1, x2, x3, x4, x5, x6, x7, x8, x9, x10, x11, x12, x13, x14, x15, x16, x17, x18, x19, x20, x21, x22, x23, x24, x25, x26, x27, x28, x29, x30, x31, x32, x33, x34, x35, x36, x37, x38, x39, x40, x41, x42, x43, x44, x45, x46, x47, x48, x49, x50, x51, x52, x53, x54, x55, x56, x57, x58, x59, x60, x61, x62, x63, x64, x65, x66, x67, x68, x69, x70, x71, x72, x73, x74, x75, x76, x77, x78, x79, x80, x81, x82, x83, x84, x85, x86, x87, x88, x89, x90, x91, x92, x93, x94, x95, x96, x97, x98, x99, x100, x101, x102, x103, x104, x105, x106, x107, x108, x109, x110, x111, x112, x113, x114, x115, x116, x117, x118, x119, x120, x121, x122, x123, x124, x125, x126, x127, x128, x129], []⟩ wx := by
  refine wp_tl (d := .seq _ (.seq _ (.seq _ _))) (by rfl) ?_
  have G := Lib.hid (show GB w [] wx from ⟨fun p hp => (by cases hp), M.out⟩)
  clear M
  refine wp_seq_h fun K HK => ?_
  go_wp2_with fail
  refine (delegation_get (HX.out.keep G.out.mods (fun _ _ x => x)) HL.out).mono ?_
  rintro r w2 ⟨n1, u0, u2, l0, l2, e, rfl, hg, hm, ⟨e0, f0⟩, ⟨e2, f2⟩⟩
  obtain ⟨ad0, cp0, rfl, _⟩ := e0.form
  obtain ⟨ad2, cp2, rfl, _⟩ := e2.form
  have HA := Lib.hid hg
  replace G := Lib.hid ((G.out.step hm).push (.cells #[.slice ad0 l0.length cp0, .int .u64 n1, .slice ad2 l2.length cp2] 36))
  have E0 := Lib.hid (e0.keep ((Mods.refl noB w2).alloc (.cells #[.slice ad0 l0.length cp0, .int .u64 n1, .slice ad2 l2.length cp2] 36)) (fun _ _ x => x))
  clear e0 f0
  have E2 := Lib.hid (e2.keep ((Mods.refl noB w2).alloc (.cells #[.slice ad0 l0.length cp0, .int .u64 n1, .slice ad2 l2.length cp2] 36)) (fun _ _ x => x))
  clear e2 f2
  clear hg hm
  go_wp2
  refine HK.out _ _ ?_
  clear K HK
  generalize World.alloc w2 _ = w3 at *
  refine wp_seq_h fun K HK => ?_
  go_wp2_with fail
  refine (delegation_ref (HY.out.keep G.out.mods) HL.out).mono ?_
  rintro r w4 ⟨m1, v0, v2, k0, k2, e', rfl, hg, hm, q0, q2⟩
  have hi := HA.out.symm.trans hg
  simp only [Prod.mk.injEq, List.cons.injEq, Fld.mk.injEq, and_true, true_and] at hi
  obtain ⟨⟨rfl, rfl, rfl⟩, rfl⟩ := hi
  obtain ⟨bd0, cq0, rfl, _⟩ := q0.form
  obtain ⟨bd2, cq2, rfl, _⟩ := q2.form
  replace G := Lib.hid ((G.out.step hm).push (.cells #[.slice bd0 l0.length cq0, .int .u64 n1, .slice bd2 l2.length cq2] 36))
  replace E0 := Lib.hid (E0.out.keep (hm.alloc (.cells #[.slice bd0 l0.length cq0, .int .u64 n1, .slice bd2 l2.length cq2] 36)) (fun _ _ x => x))
  have V0 := Lib.hid (q0.keep ((Mods.refl noB w4).alloc (.cells #[.slice bd0 l0.length cq0, .int .u64 n1, .slice bd2 l2.length cq2] 36)) (fun _ _ x => x))
  clear q0
  replace E2 := Lib.hid (E2.out.keep (hm.alloc (.cells #[.slice bd0 l0.length cq0, .int .u64 n1, .slice bd2 l2.length cq2] 36)) (fun _ _ x => x))
  have V2 := Lib.hid (q2.keep ((Mods.refl noB w4).alloc (.cells #[.slice bd0 l0.length cq0, .int .u64 n1, .slice bd2 l2.length cq2] 36)) (fun _ _ x => x))
  clear q2
  clear hg hm HA
  go_wp2
  refine HK.out _ _ ?_
  clear K HK
  generalize World.alloc w4 _ = w5 at *
  refine wp_seq_h fun K HK => ?_
  have c0 := cells_of (G.out.get 0 rfl)
  have c1 := cells_of (G.out.get 1 rfl)
  go_wp2_with fail
  refine (delegation_true E0.out V0.out E2.out V2.out).mono ?_
  rintro r w6 ⟨rfl, m⟩
  replace G := Lib.hid (G.out.step m)
  clear c0 c1 m
  go_wp2
  refine HK.out _ _ ?_
  exact more1 HX HY HL (Lib.hid G.out.mods) _ _ _ _ _ _ _ _ _ _ _ _ _ _ _ _ _ _ _ _ _ _ _ _ _ _ _ _ _ _ _ _ _ _ _ _ _ _ _ _ _ _ _ _ _ _ _ _ _ _ _ _ _ _ _ _ _ _ _ _ _ _ _ _ _ _ _ _ _ _ _ _ _ _ _ _ _ _ _ _ _ _ _ _ _ _ _ _ _ _ _ _ _ _ _ _ _ _ _ _ _ _ _ _ _ _ _ _ _ _ _ _ _ _ _ _ _ _ _ _ _ _ _ _ _ _ _ _

theorem more_any {w : World} {a a1 : Option Addr} {n c c1 : Nat} {b : List UInt8} (HX : Hid (Rd w (.slice a n c) b)) (HY : Hid (RdB w (.slice a1 n c1) b)) (HL : Hid (b.length ≤ 1000000)) : Calls Tryz.prog 35 #[.slice a n c, .slice a1 n c1] w (PostT w) := by
  go_enter Tryz.func35, Tryz.ntmps35
  refine wp_seq_h fun K HK => ?_
  go_wp2
  refine HK.out _ _ ?_
  exact more0 HX HY HL (Lib.hid (Mods.refl _ _)) _ _ _ _ _ _ _ _ _ _ _ _ _ _ _ _ _ _ _ _ _ _ _ _ _ _ _ _ _ _ _ _ _ _ _ _ _ _ _ _ _ _ _ _ _ _ _ _ _ _ _ _ _ _ _ _ _ _ _ _ _ _ _ _ _ _ _ _ _ _ _ _ _ _ _ _ _ _ _ _ _ _ _ _ _ _ _ _ _ _ _ _ _ _ _ _ _ _ _ _ _ _ _ _ _ _ _ _ _ _ _ _ _ _ _ _ _ _ _ _ _ _ _ _ _ _ _ _

set_option maxHeartbeats 4000000 in
theorem walk (x : Value) (b : List UInt8) (w : World) (hx : RdB w x b) :
    Calls Tryz.prog 4 #[x] w fun e w' => e = .returned (.bool true) ∧ Below w.heap.size w w' := by
  obtain ⟨a, c, rfl, hlm⟩ := hx.1.form
  obtain ⟨n, hn⟩ : ∃ n, b.length = n := ⟨_, rfl⟩
  rw [hn] at hx ⊢
  have HX := Lib.hid hx
  have HN := Lib.hid hn
  clear hx hn hlm
  go_enter Tryz.func4, Tryz.ntmps4
  go_wp2_with fail
  refine (rknown_any _).mono ?_
  rintro e w1 ⟨rfl, m1⟩
  have M := Lib.hid m1
  clear m1
  by_cases hbig : 3000 < n
  · go_wp2_with fail
    go_ret
    exact ⟨rfl, M.out.below⟩
  have HL := Lib.hid (show b.length ≤ 1000000 from by rw [HN.out]; omega)
  go_wp2_with fail
  refine (CopyBytes_any (HX.out.keep M.out).1 (Nat.le_trans HL.out (Nat.le_of_ble_eq_true rfl))).mono ?_
  rintro r w2 ⟨v, rfl, o1, m2, _⟩
  obtain ⟨a2, c2, rfl, _⟩ := o1.rd.form
  have o2 := o1.rd
  rw [HN.out] at o2 ⊢
  replace M := Lib.hid (M.out.then0 m2)
  have O := Lib.hid o2
  have Y := Lib.hid (HX.out.keep M.out)
  clear o1 m2 o2
  go_wp2_with fail
  refine (reads_any O Y HL).mono ?_
  rintro r w3 ⟨rfl, m3⟩
  replace M := Lib.hid (M.out.then0 m3)
  replace O := Lib.hid (O.out.keep m3 (fun _ _ x => x))
  replace Y := Lib.hid (Y.out.keep m3)
  clear m3
  go_wp2_with fail
  refine (more_any O Y HL).mono ?_
  rintro r w4 ⟨rfl, m4⟩
  replace M := Lib.hid (M.out.then0 m4)
  replace O := Lib.hid (O.out.keep m4 (fun _ _ x => x))
  replace Y := Lib.hid (Y.out.keep m4)
  clear m4
  go_wp2_with fail
  refine (Bytes_true O.out Y.out.1).mono ?_
  rintro r w5 ⟨rfl, m5⟩
  replace M := Lib.hid (M.out.then0 m5)
  clear m5 O Y
  go_wp2_with fail
  go_ret
  exact ⟨rfl, M.out.below⟩

theorem lifted (os : Os) (started : os.Started) (H : Type) (enc : TypeId × Value → H) :
    ReturnsInHanded {} Tryz.checked os 4 .any (Rows.recReadsSpec.pre6 enc Tryz.prog Tryz.f4 Rows.recReadsRow.domain false) (Rows.recReadsSpec.post enc Tryz.prog Tryz.f4 false true false false) := by
  refine returnsInHanded_of_change_sized (C := Tryz.checked) own started (by kernel_rfl) Tryz.func4
    (ChangeSpec.witness6 (enc := enc) (C := Tryz.checked) false ⟨#[], #[.slice none 0 0], []⟩ 8 (by kernel_rfl) (by kernel_rfl) (by kernel_rfl) (by kernel_rfl)) ?_
  intro W base args ds gs before hval0 hW hcnd hsz _
  have hval : ∀ (j : Nat) t v, Tryz.f4.params[j]? = some t → args[j]? = some v → Value.okWide Tryz.prog W .any base t v := hval0
  have hW' := hW
  obtain ⟨p, q, hA0, hV, rfl, hfz, hnd⟩ := hW
  have hA : DataW.TrodAll enc Tryz.prog W 0 (fun _ => true) true Tryz.f4.params.toList args.toList ds p := hA0
  replace hsz : (DataW.weightsEach Tryz.prog (Tryz.f4.params.toList ++ Rows.recReadsSpec.plain.varTypes Tryz.prog) (ds ++ gs)).all (· ≤ reachBytes) = true := hsz
  rw [Tryz.params4] at hA hval hsz
  obtain ⟨v0, vs0, d0, ds0, p0, q0, hargs, rfl, rfl, h0, r0⟩ := trodAll_cons hA
  obtain ⟨rfl, rfl, rfl⟩ := trodAll_nil r0
  obtain rfl : args = #[v0] := by cases args; simp_all
  obtain ⟨rfl, rfl⟩ := trodVars_none hV
  have sz : ∀ (j : Nat) t (d : DataW H), ([49] ++ Rows.recReadsSpec.plain.varTypes Tryz.prog)[j]? = some t → ([d0] ++ ([] : List (DataW H)))[j]? = some d → ∀ q ∈ d.weights Tryz.prog t, q ≤ reachBytes := by
    intro j t d ht hd q hq
    have := List.all_eq_true.1 hsz q (DataW.weights_mem_each ht hd q hq)
    simpa using this
  obtain ⟨ad0, ln0, cp0, rfl⟩ := okWide_slice Tryz.underlying49 (hval 0 49 v0 rfl rfl)
  obtain ⟨x0, k0⟩ := rd_of_argB (hval 0 49 _ rfl rfl) h0
  have j0 := h0
  have lt0 : ∀ x ∈ p0, x.block < W.heap.size := by obtain ⟨m, hm⟩ := j0; exact DataW.trod_lt m _ _ _ hm
  clear hA0 hval0
  refine (walk _ x0 W k0).mono fun e W' ⟨he, bel⟩ => ?_
  subst he
  exact ⟨_, rfl, _, _, _, [], _, [], hW', trodAll_mk1 (shut_bool Tryz.underlying4 _), (trodAll_cons_mk (Below.trod laidOut (by kernel_rfl) (of_decide_eq_true (by kernel_rfl)) j0 bel lt0) trodAll_mk0), rfl, bel.frame _, fun h => by cases h⟩

theorem over : Rows.recReadsRow.holds Tryz.pinned (OpenSpec.ofChange Rows.recReadsSpec) :=
  OpenClaim.holds_of_wide 4 Tryz.f4 rfl rfl rfl rfl rfl rfl rfl ⟨rfl, rfl, rfl, rfl, rfl⟩ rfl rfl rfl rfl rfl (by kernel_rfl) Tryz.func4 (by kernel_rfl)
    (of_decide_eq_true (by kernel_rfl)) (by unfold Func.isWrapper; first | (rw [if_pos (by decide +kernel)]; kernel_rfl) | (rw [if_neg (by decide +kernel)]; exact ⟨rfl, rfl⟩))
    (fun os started H enc _ => lifted os started H enc)

theorem proved : Rows.RecReadsSaid := over
#print axioms proved
end Go.Proofs.YtnkbbclcileleaaGreat.recReads

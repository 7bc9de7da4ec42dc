/- Parts of the proof, one behind the other: PgI0, PgI, PgT, PgQ, PgB0, PgB, PgY, R6W, KvI0, IterC, IterP, KvI, KvP1, KvV, KvWd, HSpoil, KvD0, KvT, KvD, KvB, KvE, KvX, KvY, KvH, KvL, KvSr, KForm, SpecK, KEight, KFirst, KEq, KMake, RPut, EWr, EWr2, EWr3, Grow, Make, NLib, NPlain. -/
import Derived.Test.YtglkmaalpammcaaGreatZC
import Derived.Shelf.Abstract
import Derived.Deep.DeepCutAuto
import Derived.Test.YtglkmaalpammcaaGreatZB
import Derived.Test.YtglkmaalpammcaaGreatZA
import Derived.Deep.WholeRow
import Derived.KernelRfl
import Derived.Deep.RegionLaw
import Derived.Deep.DrawnRows
import Derived.Deep.OwnRows
set_option linter.unusedSimpArgs false
set_option linter.unusedVariables false
set_option maxRecDepth 100000
namespace Go.Proofs.YtglkmaalpammcaaGreat
open Go.Gl Go.RowKit
def FrR (df : List Deferred) (v0 v1 v2 v4 v5 : Value) (a : Act) : Prop := ∃ x3 x6 x7 x8 x9 x10 x11 x12 x13 x14 x15 x16 x17 x18 x19 x20 x21 x22 x23 x24 x25 x26 x27 x28 x29 x30 x31 x32 x33 x34 x35 x36 x37 x38 x39 x40 x41 x42 x43 x44 x45 x46 x47 x48 x49 x50 x51 x52 x53 x54 x55 x56 x57 x58 x59 x60 x61 : Value, a = ⟨#[v0, v1, v2, x3, v4, v5, x6, x7, x8, x9, x10, x11, x12, x13, x14, x15, x16, x17, x18, x19, x20, x21, x22, x23, x24, x25, x26, x27, x28, x29, x30, x31, x32, x33, x34, x35, x36, x37, x38, x39, x40, x41, x42, x43, x44, x45, x46, x47, x48, x49, x50, x51, x52, x53, x54, x55, x56, x57, x58, x59, x60, x61], df⟩
theorem FrR.mk {df : List Deferred} {v0 v1 v2 v4 v5 x3 x6 x7 x8 x9 x10 x11 x12 x13 x14 x15 x16 x17 x18 x19 x20 x21 x22 x23 x24 x25 x26 x27 x28 x29 x30 x31 x32 x33 x34 x35 x36 x37 x38 x39 x40 x41 x42 x43 x44 x45 x46 x47 x48 x49 x50 x51 x52 x53 x54 x55 x56 x57 x58 x59 x60 x61 : Value} : FrR df v0 v1 v2 v4 v5 ⟨#[v0, v1, v2, x3, v4, v5, x6, x7, x8, x9, x10, x11, x12, x13, x14, x15, x16, x17, x18, x19, x20, x21, x22, x23, x24, x25, x26, x27, x28, x29, x30, x31, x32, x33, x34, x35, x36, x37, x38, x39, x40, x41, x42, x43, x44, x45, x46, x47, x48, x49, x50, x51, x52, x53, x54, x55, x56, x57, x58, x59, x60, x61], df⟩ := ⟨x3, x6, x7, x8, x9, x10, x11, x12, x13, x14, x15, x16, x17, x18, x19, x20, x21, x22, x23, x24, x25, x26, x27, x28, x29, x30, x31, x32, x33, x34, x35, x36, x37, x38, x39, x40, x41, x42, x43, x44, x45, x46, x47, x48, x49, x50, x51, x52, x53, x54, x55, x56, x57, x58, x59, x60, x61, rfl⟩
theorem FrR.elim {df : List Deferred} {v0 v1 v2 v4 v5 : Value} {a : Act} {C : Act → Prop} (h : FrR df v0 v1 v2 v4 v5 a) (k : ∀ x3 x6 x7 x8 x9 x10 x11 x12 x13 x14 x15 x16 x17 x18 x19 x20 x21 x22 x23 x24 x25 x26 x27 x28 x29 x30 x31 x32 x33 x34 x35 x36 x37 x38 x39 x40 x41 x42 x43 x44 x45 x46 x47 x48 x49 x50 x51 x52 x53 x54 x55 x56 x57 x58 x59 x60 x61 : Value, C ⟨#[v0, v1, v2, x3, v4, v5, x6, x7, x8, x9, x10, x11, x12, x13, x14, x15, x16, x17, x18, x19, x20, x21, x22, x23, x24, x25, x26, x27, x28, x29, x30, x31, x32, x33, x34, x35, x36, x37, x38, x39, x40, x41, x42, x43, x44, x45, x46, x47, x48, x49, x50, x51, x52, x53, x54, x55, x56, x57, x58, x59, x60, x61], df⟩) : C a := by
 obtain ⟨x3, x6, x7, x8, x9, x10, x11, x12, x13, x14, x15, x16, x17, x18, x19, x20, x21, x22, x23, x24, x25, x26, x27, x28, x29, x30, x31, x32, x33, x34, x35, x36, x37, x38, x39, x40, x41, x42, x43, x44, x45, x46, x47, x48, x49, x50, x51, x52, x53, x54, x55, x56, x57, x58, x59, x60, x61, rfl⟩ := h
 exact k _ _ _ _ _ _ _ _ _ _ _ _ _ _ _ _ _ _ _ _ _ _ _ _ _ _ _ _ _ _ _ _ _ _ _ _ _ _ _ _ _ _ _ _ _ _ _ _ _ _ _ _ _ _ _ _ _
set_option maxHeartbeats 1000000 in
theorem ris0e {w : World} {m g cap n : Nat} {ao : Option Addr} (c1 : w.cell? ⟨m, 0, none⟩ = some (.pointer (some ⟨g, 0, none⟩))) (c2 : w.cell? ⟨g, 0, none⟩ = some (.slice ao n cap)) (hn : n = 0) {x0 x2 x3 x4 x5 x6 x7 x8 x9 x10 x11 x12 x13 x14 x15 x16 x17 x18 x19 x20 x21 x22 x23 x24 x25 x26 x27 x28 x29 x30 x31 x32 x33 x34 x35 x36 x37 x38 x39 x40 x41 x42 x43 x44 x45 x46 x47 x48 x49 x50 x51 x52 x53 x54 x55 x56 x57 x58 x59 x60 x61 : Value} {df : List Deferred} {Q : Exit → Act → World → Prop}
  (hK : ∀ (y7 y8 y9 y10 y11 : Value)  (w' : World), w' = w → Q .normal ⟨#[x0, .pointer (some ⟨m, 0, none⟩), x2, x3, x4, x5, x6, y7, y8, y9, y10, y11, .bool true, x13, x14, x15, x16, x17, x18, x19, x20, x21, x22, x23, x24, x25, x26, x27, x28, x29, x30, x31, x32, x33, x34, x35, x36, x37, x38, x39, x40, x41, x42, x43, x44, x45, x46, x47, x48, x49, x50, x51, x52, x53, x54, x55, x56, x57, x58, x59, x60, x61], df⟩ w') : RW Tryz.prog (opsC 0 Tryz.f223) false Q ⟨#[x0, .pointer (some ⟨m, 0, none⟩), x2, x3, x4, x5, x6, x7, x8, x9, x10, x11, x12, x13, x14, x15, x16, x17, x18, x19, x20, x21, x22, x23, x24, x25, x26, x27, x28, x29, x30, x31, x32, x33, x34, x35, x36, x37, x38, x39, x40, x41, x42, x43, x44, x45, x46, x47, x48, x49, x50, x51, x52, x53, x54, x55, x56, x57, x58, x59, x60, x61], df⟩ w := by
 have HQ := Lib.hid hK
 clear hK
 refine rw_lin [(0, false), (1, false), (2, false), (3, false), (4, false), (5, false)] (by kernel_rfl) ?_
 refine wpOrdT_run (.pointer (some ⟨g, 0, none⟩)) _ (some 7) ⟨by kernel_rfl, by kernel_rfl, by kernel_rfl⟩ (of_load (x := (.tmp 1)) (by kernel_rfl) (by kernel_rfl) (load_c ((fun _ => c1) (trivial)) Tryz.underlying129 rfl)) (fun _ => trivial) ?_
 refine wpOrdT_freesB [1, 2] [.pointer (some ⟨g, 0, none⟩), .pointer (some ⟨g, 0, none⟩)] (rest := [(3, false), (4, false), (5, false)]) (by kernel_rfl) (by kernel_rfl) (by kernel_rfl) (.inr trivial) ?_
 refine wpOrdT_run ((.slice ao n cap)) _ (some 10) ⟨by kernel_rfl, by kernel_rfl, by kernel_rfl⟩ (of_load (x := (.tmp 9)) (by kernel_rfl) (by kernel_rfl) (load_c ((fun _ => c2) (trivial)) Tryz.underlying228 rfl)) (fun _ => trivial) ?_
 refine wpOrdT_freesB [4] [.int .i64 ((n : Nat) : Int)] (rest := [(5, false)]) (by kernel_rfl) (by kernel_rfl) (by kernel_rfl) (.inr trivial) ?_
 refine wpOrdT_run (.bool true) _ (some 12) ⟨by kernel_rfl, by kernel_rfl, by kernel_rfl⟩ (run_bin (t := 3) (t' := 3) (xv := .int .i64 ((n : Nat) : Int)) (yv := .int .i64 0) (x := (.tmp 11)) (y := (.const (.int .i64 0))) (by kernel_rfl) (by kernel_rfl) (by kernel_rfl) (fun _ => by kernel_rfl) (run_eql _ (decide_eq_true (by omega)))) (fun _ => trivial) ?_
 exact wpOrdT_doneC (act_is (K := Q .normal) (by kernel_rfl) (HQ.out (.pointer (some ⟨g, 0, none⟩)) (.pointer (some ⟨g, 0, none⟩)) (.pointer (some ⟨g, 0, none⟩)) ((.slice ao n cap)) (.int .i64 ((n : Nat) : Int)) _ rfl))
set_option maxHeartbeats 1000000 in
theorem ris0n {w : World} {m g cap n : Nat} {ao : Option Addr} (c1 : w.cell? ⟨m, 0, none⟩ = some (.pointer (some ⟨g, 0, none⟩))) (c2 : w.cell? ⟨g, 0, none⟩ = some (.slice ao n cap)) (hn : ¬ n = 0) {x0 x2 x3 x4 x5 x6 x7 x8 x9 x10 x11 x12 x13 x14 x15 x16 x17 x18 x19 x20 x21 x22 x23 x24 x25 x26 x27 x28 x29 x30 x31 x32 x33 x34 x35 x36 x37 x38 x39 x40 x41 x42 x43 x44 x45 x46 x47 x48 x49 x50 x51 x52 x53 x54 x55 x56 x57 x58 x59 x60 x61 : Value} {df : List Deferred} {Q : Exit → Act → World → Prop}
  (hK : ∀ (y7 y8 y9 y10 y11 : Value)  (w' : World), w' = w → Q .normal ⟨#[x0, .pointer (some ⟨m, 0, none⟩), x2, x3, x4, x5, x6, y7, y8, y9, y10, y11, .bool false, x13, x14, x15, x16, x17, x18, x19, x20, x21, x22, x23, x24, x25, x26, x27, x28, x29, x30, x31, x32, x33, x34, x35, x36, x37, x38, x39, x40, x41, x42, x43, x44, x45, x46, x47, x48, x49, x50, x51, x52, x53, x54, x55, x56, x57, x58, x59, x60, x61], df⟩ w') : RW Tryz.prog (opsC 0 Tryz.f223) false Q ⟨#[x0, .pointer (some ⟨m, 0, none⟩), x2, x3, x4, x5, x6, x7, x8, x9, x10, x11, x12, x13, x14, x15, x16, x17, x18, x19, x20, x21, x22, x23, x24, x25, x26, x27, x28, x29, x30, x31, x32, x33, x34, x35, x36, x37, x38, x39, x40, x41, x42, x43, x44, x45, x46, x47, x48, x49, x50, x51, x52, x53, x54, x55, x56, x57, x58, x59, x60, x61], df⟩ w := by
 have HQ := Lib.hid hK
 clear hK
 refine rw_lin [(0, false), (1, false), (2, false), (3, false), (4, false), (5, false)] (by kernel_rfl) ?_
 refine wpOrdT_run (.pointer (some ⟨g, 0, none⟩)) _ (some 7) ⟨by kernel_rfl, by kernel_rfl, by kernel_rfl⟩ (of_load (x := (.tmp 1)) (by kernel_rfl) (by kernel_rfl) (load_c ((fun _ => c1) (trivial)) Tryz.underlying129 rfl)) (fun _ => trivial) ?_
 refine wpOrdT_freesB [1, 2] [.pointer (some ⟨g, 0, none⟩), .pointer (some ⟨g, 0, none⟩)] (rest := [(3, false), (4, false), (5, false)]) (by kernel_rfl) (by kernel_rfl) (by kernel_rfl) (.inr trivial) ?_
 refine wpOrdT_run ((.slice ao n cap)) _ (some 10) ⟨by kernel_rfl, by kernel_rfl, by kernel_rfl⟩ (of_load (x := (.tmp 9)) (by kernel_rfl) (by kernel_rfl) (load_c ((fun _ => c2) (trivial)) Tryz.underlying228 rfl)) (fun _ => trivial) ?_
 refine wpOrdT_freesB [4] [.int .i64 ((n : Nat) : Int)] (rest := [(5, false)]) (by kernel_rfl) (by kernel_rfl) (by kernel_rfl) (.inr trivial) ?_
 refine wpOrdT_run (.bool false) _ (some 12) ⟨by kernel_rfl, by kernel_rfl, by kernel_rfl⟩ (run_bin (t := 3) (t' := 3) (xv := .int .i64 ((n : Nat) : Int)) (yv := .int .i64 0) (x := (.tmp 11)) (y := (.const (.int .i64 0))) (by kernel_rfl) (by kernel_rfl) (by kernel_rfl) (fun _ => by kernel_rfl) (run_eql _ (decide_eq_false (by omega)))) (fun _ => trivial) ?_
 exact wpOrdT_doneC (act_is (K := Q .normal) (by kernel_rfl) (HQ.out (.pointer (some ⟨g, 0, none⟩)) (.pointer (some ⟨g, 0, none⟩)) (.pointer (some ⟨g, 0, none⟩)) ((.slice ao n cap)) (.int .i64 ((n : Nat) : Int)) _ rfl))
set_option maxHeartbeats 1000000 in
theorem ris1 {w : World} {m bf g p : Nat} {fv : Value} (c1 : w.cell? ⟨m, 0, none⟩ = some (.pointer (some ⟨g, 0, none⟩))) (c2 : w.cell? ⟨bf, 0, none⟩ = some fv) (hC : Calls Tryz.prog 224 #[.pointer (some ⟨g, 0, none⟩), fv] w fun e w' => e = .returned (.int .i64 (p : Nat)) ∧ Mods noB w w') {x0 x3 x4 x5 x6 x7 x8 x9 x10 x11 x12 x13 x14 x15 x16 x17 x18 x19 x20 x21 x22 x23 x24 x25 x26 x27 x28 x29 x30 x31 x32 x33 x34 x35 x36 x37 x38 x39 x40 x41 x42 x43 x44 x45 x46 x47 x48 x49 x50 x51 x52 x53 x54 x55 x56 x57 x58 x59 x60 x61 : Value} {df : List Deferred} {Q : Exit → Act → World → Prop}
  (hK : ∀ (y13 y14 y15 : Value)  (w' : World), Mods noB w w' → Q .normal ⟨#[x0, .pointer (some ⟨m, 0, none⟩), .pointer (some ⟨bf, 0, none⟩), x3, .int .i64 ((p : Nat) : Int), x5, x6, x7, x8, x9, x10, x11, x12, y13, y14, y15, x16, x17, x18, x19, x20, x21, x22, x23, x24, x25, x26, x27, x28, x29, x30, x31, x32, x33, x34, x35, x36, x37, x38, x39, x40, x41, x42, x43, x44, x45, x46, x47, x48, x49, x50, x51, x52, x53, x54, x55, x56, x57, x58, x59, x60, x61], df⟩ w') : RW Tryz.prog (opsC 1 Tryz.f223) false Q ⟨#[x0, .pointer (some ⟨m, 0, none⟩), .pointer (some ⟨bf, 0, none⟩), x3, x4, x5, x6, x7, x8, x9, x10, x11, x12, x13, x14, x15, x16, x17, x18, x19, x20, x21, x22, x23, x24, x25, x26, x27, x28, x29, x30, x31, x32, x33, x34, x35, x36, x37, x38, x39, x40, x41, x42, x43, x44, x45, x46, x47, x48, x49, x50, x51, x52, x53, x54, x55, x56, x57, x58, x59, x60, x61], df⟩ w := by
 have HQ := Lib.hid hK
 clear hK
 refine rw_lin [(0, false), (1, false), (2, false), (3, false)] (by kernel_rfl) ?_
 refine wpOrdT_run (.pointer (some ⟨g, 0, none⟩)) _ (some 13) ⟨by kernel_rfl, by kernel_rfl, by kernel_rfl⟩ (of_load (x := (.tmp 1)) (by kernel_rfl) (by kernel_rfl) (load_c ((fun _ => c1) (trivial)) Tryz.underlying129 rfl)) (fun _ => trivial) ?_
 refine wpOrdT_run (fv) _ (some 14) ⟨by kernel_rfl, by kernel_rfl, by kernel_rfl⟩ (of_load (x := (.tmp 2)) (by kernel_rfl) (by kernel_rfl) (load_c ((fun _ => c2) (trivial)) Tryz.underlying91 rfl)) (fun _ => trivial) ?_
 refine wpOrdT_call (some 15) ⟨by kernel_rfl, by kernel_rfl, by kernel_rfl⟩ hC (fun _ => by kernel_rfl) ?_
 rintro r w7 ⟨rfl, m7⟩
 refine ⟨_, rfl, fun _ => trivial, ?_⟩
 refine wpOrdT_freesB [3] [.int .i64 ((p : Nat) : Int)] (rest := []) (by kernel_rfl) (by kernel_rfl) (by kernel_rfl) (.inr trivial) ?_
 exact wpOrdT_doneC (act_is (K := Q .normal) (by kernel_rfl) (HQ.out (.pointer (some ⟨g, 0, none⟩)) (fv) (.int .i64 ((p : Nat) : Int)) w7 m7))
set_option maxHeartbeats 1000000 in
theorem ris2 {w : World} {m bf g p b off n cap i pc k : Nat} {ap : Option Addr} {fv : Value} {B : Bool} (c1 : ∀ b', Mods noB w b' → b'.cell? ⟨m, 0, none⟩ = some (.pointer (some ⟨g, 0, none⟩))) (c2 : ∀ b', Mods noB w b' → b'.cell? ⟨g, 0, none⟩ = some (.slice (some ⟨b, off, none⟩) n cap)) (c3 : ∀ b', Mods noB w b' → b'.cell? ⟨b, off + p, none⟩ = some (.slice ap k pc)) (c4 : ∀ b', Mods noB w b' → b'.cell? ⟨bf, 0, none⟩ = some fv) (hp : p < n) (hC : ∀ b', Mods noB w b' → Calls Tryz.prog 225 #[.slice ap k pc, fv] b' fun e w' => e = .returned (.tuple #[.int .i64 (i : Nat), .bool B]) ∧ Mods noB b' w') {x0 x3 x5 x6 x7 x8 x9 x10 x11 x12 x13 x14 x15 x16 x17 x18 x19 x20 x21 x22 x23 x24 x25 x26 x27 x28 x29 x30 x31 x32 x33 x34 x35 x36 x37 x38 x39 x40 x41 x42 x43 x44 x45 x46 x47 x48 x49 x50 x51 x52 x53 x54 x55 x56 x57 x58 x59 x60 x61 : Value} {df : List Deferred} {Q : Exit → Act → World → Prop}
  (hK : ∀ (y6 y16 y17 y18 y19 y20 y21 y22 y23 y24 y25 y26 y27 : Value)  (w' : World), Mods noB w w' → Q .normal ⟨#[x0, .pointer (some ⟨m, 0, none⟩), .pointer (some ⟨bf, 0, none⟩), x3, .int .i64 ((p : Nat) : Int), .int .i64 ((i : Nat) : Int), y6, x7, x8, x9, x10, x11, x12, x13, x14, x15, y16, y17, y18, y19, y20, y21, y22, y23, y24, y25, y26, y27, x28, x29, x30, x31, x32, x33, x34, x35, x36, x37, x38, x39, x40, x41, x42, x43, x44, x45, x46, x47, x48, x49, x50, x51, x52, x53, x54, x55, x56, x57, x58, x59, x60, x61], df⟩ w') : RW Tryz.prog (opsC 2 Tryz.f223) true Q ⟨#[x0, .pointer (some ⟨m, 0, none⟩), .pointer (some ⟨bf, 0, none⟩), x3, .int .i64 ((p : Nat) : Int), x5, x6, x7, x8, x9, x10, x11, x12, x13, x14, x15, x16, x17, x18, x19, x20, x21, x22, x23, x24, x25, x26, x27, x28, x29, x30, x31, x32, x33, x34, x35, x36, x37, x38, x39, x40, x41, x42, x43, x44, x45, x46, x47, x48, x49, x50, x51, x52, x53, x54, x55, x56, x57, x58, x59, x60, x61], df⟩ w := by
 have HQ := Lib.hid hK
 clear hK
 have HC := Lib.hid hC
 have Q1 := Lib.hid c1
 have Q2 := Lib.hid c2
 have Q3 := Lib.hid c3
 have Q4 := Lib.hid c4
 clear hC c1 c2 c3 c4
 have MR := Lib.hid ((Mods.refl noB w).drew)
 refine rw_ordF (S := fun b' => Mods noB w b') [(0, true), (1, true), (2, true), (3, true), (4, true), (5, true), (6, true), (7, true), (8, false), (9, true), (10, true), (11, true), (12, true), (13, true)] [] [(0, 2, 131072), (1, 131072, 262144), (2, 262144, 524288), (4, 524288, 1048576), (0, 16, 2097152), (24, 3145728, 4194304), (32, 4194304, 8388608), (0, 4, 16777216), (192, 25165824, 33554432), (256, 33554432, 65536), (512, 65536, 67108864), (512, 65536, 134217728), (2047, 67108864, 32), (8191, 134217728, 64)] (by kernel_rfl) (by kernel_rfl) (by kernel_rfl) (by kernel_rfl) (by kernel_rfl) MR.out ?_
 refine wpOrdT_free (.pointer (some ⟨g, 0, none⟩)) (some 17) ⟨by kernel_rfl, by kernel_rfl, by kernel_rfl⟩ (fun bb hb => of_load (x := (.tmp 1)) (by kernel_rfl) (by kernel_rfl) (load_c (Q1.out _ hb) Tryz.underlying129 rfl)) ?_
 refine wpOrdT_frees [1, 2] [.pointer (some ⟨g, 0, none⟩), .pointer (some ⟨g, 0, none⟩)] (rest := [(3, true), (4, true), (5, true), (6, true), (7, true), (8, false), (9, true), (10, true), (11, true), (12, true), (13, true)]) (by kernel_rfl) (by kernel_rfl) (fun _ => by kernel_rfl) ?_
 refine wpOrdT_free (.slice (some ⟨b, off, none⟩) n cap) (some 20) ⟨by kernel_rfl, by kernel_rfl, by kernel_rfl⟩ (fun bb hb => of_load (x := (.tmp 19)) (by kernel_rfl) (by kernel_rfl) (load_c (Q2.out _ hb) Tryz.underlying228 rfl)) ?_
 refine wpOrdT_frees [4] [.int .i64 ((p : Nat) : Int)] (rest := [(5, true), (6, true), (7, true), (8, false), (9, true), (10, true), (11, true), (12, true), (13, true)]) (by kernel_rfl) (by kernel_rfl) (fun _ => by kernel_rfl) ?_
 refine wpOrdT_free (.pointer (some ⟨b, off + p, none⟩)) (some 22) ⟨by kernel_rfl, by kernel_rfl, by kernel_rfl⟩ (fun bb hb => run_idx (s := 1) (e := 258) (g := b) (off := off) (n := n) (c := cap) (i := ((p : Nat) : Int)) (x := (.tmp 20)) (y := (.tmp 21)) (off + p) (by kernel_rfl) (by kernel_rfl) (by kernel_rfl) Tryz.underlying228 (by kernel_rfl) (by omega) (by omega) (by omega)) ?_
 refine wpOrdT_free ((.slice ap k pc)) (some 23) ⟨by kernel_rfl, by kernel_rfl, by kernel_rfl⟩ (fun bb hb => of_load (x := (.tmp 22)) (by kernel_rfl) (by kernel_rfl) (load_c (Q3.out _ hb) Tryz.underlying258 rfl)) ?_
 refine wpOrdT_free (fv) (some 24) ⟨by kernel_rfl, by kernel_rfl, by kernel_rfl⟩ (fun bb hb => of_load (x := (.tmp 2)) (by kernel_rfl) (by kernel_rfl) (load_c (Q4.out _ hb) Tryz.underlying91 rfl)) ?_
 refine wpOrdT_call (some 25) ⟨by kernel_rfl, by kernel_rfl, by kernel_rfl⟩ (HC.out _ MR.out) (fun _ => by kernel_rfl) ?_
 rintro r w7 ⟨rfl, m7⟩
 replace MR := Lib.hid (MR.out.then0 m7)
 refine ⟨_, rfl, fun _ => MR.out, ?_⟩
 refine wpOrdT_frees [9, 10, 11, 12, 13] [.tuple #[.int .i64 ((i : Nat) : Int), .bool B], .int .i64 ((i : Nat) : Int), .bool B, .int .i64 ((i : Nat) : Int), .bool B] (rest := []) (by kernel_rfl) (by kernel_rfl) (fun _ => by kernel_rfl) ?_
 exact wpOrdT_doneC (act_is (K := Q .normal) (by kernel_rfl) (HQ.out (.bool B) (.tuple #[.int .i64 ((i : Nat) : Int), .bool B]) (.pointer (some ⟨g, 0, none⟩)) (.pointer (some ⟨g, 0, none⟩)) (.pointer (some ⟨g, 0, none⟩)) (.slice (some ⟨b, off, none⟩) n cap) (.int .i64 ((p : Nat) : Int)) (.pointer (some ⟨b, off + p, none⟩)) ((.slice ap k pc)) (fv) (.tuple #[.int .i64 ((i : Nat) : Int), .bool B]) (.int .i64 ((i : Nat) : Int)) (.bool B) _ MR.out))
set_option maxHeartbeats 1000000 in
theorem ris3t {w : World} {m g cap n p : Nat} {ao : Option Addr} (c1 : w.cell? ⟨m, 0, none⟩ = some (.pointer (some ⟨g, 0, none⟩))) (c2 : w.cell? ⟨g, 0, none⟩ = some (.slice ao n cap)) (hn : p < n) {x0 x2 x3 x5 x6 x7 x8 x9 x10 x11 x12 x13 x14 x15 x16 x17 x18 x19 x20 x21 x22 x23 x24 x25 x26 x27 x28 x29 x30 x31 x32 x33 x34 x35 x36 x37 x38 x39 x40 x41 x42 x43 x44 x45 x46 x47 x48 x49 x50 x51 x52 x53 x54 x55 x56 x57 x58 x59 x60 x61 : Value} {df : List Deferred} {Q : Exit → Act → World → Prop}
  (hK : ∀ (y28 y29 y30 y31 y32 y33 : Value)  (w' : World), w' = w → Q .normal ⟨#[x0, .pointer (some ⟨m, 0, none⟩), x2, x3, .int .i64 ((p : Nat) : Int), x5, x6, x7, x8, x9, x10, x11, x12, x13, x14, x15, x16, x17, x18, x19, x20, x21, x22, x23, x24, x25, x26, x27, y28, y29, y30, y31, y32, y33, .bool true, x35, x36, x37, x38, x39, x40, x41, x42, x43, x44, x45, x46, x47, x48, x49, x50, x51, x52, x53, x54, x55, x56, x57, x58, x59, x60, x61], df⟩ w') : RW Tryz.prog (opsC 3 Tryz.f223) false Q ⟨#[x0, .pointer (some ⟨m, 0, none⟩), x2, x3, .int .i64 ((p : Nat) : Int), x5, x6, x7, x8, x9, x10, x11, x12, x13, x14, x15, x16, x17, x18, x19, x20, x21, x22, x23, x24, x25, x26, x27, x28, x29, x30, x31, x32, x33, x34, x35, x36, x37, x38, x39, x40, x41, x42, x43, x44, x45, x46, x47, x48, x49, x50, x51, x52, x53, x54, x55, x56, x57, x58, x59, x60, x61], df⟩ w := by
 have HQ := Lib.hid hK
 clear hK
 refine rw_lin [(0, false), (1, false), (2, false), (3, false), (4, false), (5, false), (6, false)] (by kernel_rfl) ?_
 refine wpOrdT_freesB [0] [.int .i64 ((p : Nat) : Int)] (rest := [(1, false), (2, false), (3, false), (4, false), (5, false), (6, false)]) (by kernel_rfl) (by kernel_rfl) (by kernel_rfl) (.inr trivial) ?_
 refine wpOrdT_run (.pointer (some ⟨g, 0, none⟩)) _ (some 29) ⟨by kernel_rfl, by kernel_rfl, by kernel_rfl⟩ (of_load (x := (.tmp 1)) (by kernel_rfl) (by kernel_rfl) (load_c ((fun _ => c1) (trivial)) Tryz.underlying129 rfl)) (fun _ => trivial) ?_
 refine wpOrdT_freesB [2, 3] [.pointer (some ⟨g, 0, none⟩), .pointer (some ⟨g, 0, none⟩)] (rest := [(4, false), (5, false), (6, false)]) (by kernel_rfl) (by kernel_rfl) (by kernel_rfl) (.inr trivial) ?_
 refine wpOrdT_run ((.slice ao n cap)) _ (some 32) ⟨by kernel_rfl, by kernel_rfl, by kernel_rfl⟩ (of_load (x := (.tmp 31)) (by kernel_rfl) (by kernel_rfl) (load_c ((fun _ => c2) (trivial)) Tryz.underlying228 rfl)) (fun _ => trivial) ?_
 refine wpOrdT_freesB [5] [.int .i64 ((n : Nat) : Int)] (rest := [(6, false)]) (by kernel_rfl) (by kernel_rfl) (by kernel_rfl) (.inr trivial) ?_
 refine wpOrdT_run (.bool true) _ (some 34) ⟨by kernel_rfl, by kernel_rfl, by kernel_rfl⟩ (run_bin (t := 3) (t' := 3) (xv := .int .i64 ((p : Nat) : Int)) (yv := .int .i64 ((n : Nat) : Int)) (x := (.tmp 28)) (y := (.tmp 33)) (by kernel_rfl) (by kernel_rfl) (by kernel_rfl) (fun _ => by kernel_rfl) (run_lss _ (decide_eq_true (by omega)))) (fun _ => trivial) ?_
 exact wpOrdT_doneC (act_is (K := Q .normal) (by kernel_rfl) (HQ.out (.int .i64 ((p : Nat) : Int)) (.pointer (some ⟨g, 0, none⟩)) (.pointer (some ⟨g, 0, none⟩)) (.pointer (some ⟨g, 0, none⟩)) ((.slice ao n cap)) (.int .i64 ((n : Nat) : Int)) _ rfl))
set_option maxHeartbeats 1000000 in
theorem ris3f {w : World} {m g cap n p : Nat} {ao : Option Addr} (c1 : w.cell? ⟨m, 0, none⟩ = some (.pointer (some ⟨g, 0, none⟩))) (c2 : w.cell? ⟨g, 0, none⟩ = some (.slice ao n cap)) (hn : ¬ p < n) {x0 x2 x3 x5 x6 x7 x8 x9 x10 x11 x12 x13 x14 x15 x16 x17 x18 x19 x20 x21 x22 x23 x24 x25 x26 x27 x28 x29 x30 x31 x32 x33 x34 x35 x36 x37 x38 x39 x40 x41 x42 x43 x44 x45 x46 x47 x48 x49 x50 x51 x52 x53 x54 x55 x56 x57 x58 x59 x60 x61 : Value} {df : List Deferred} {Q : Exit → Act → World → Prop}
  (hK : ∀ (y28 y29 y30 y31 y32 y33 : Value)  (w' : World), w' = w → Q .normal ⟨#[x0, .pointer (some ⟨m, 0, none⟩), x2, x3, .int .i64 ((p : Nat) : Int), x5, x6, x7, x8, x9, x10, x11, x12, x13, x14, x15, x16, x17, x18, x19, x20, x21, x22, x23, x24, x25, x26, x27, y28, y29, y30, y31, y32, y33, .bool false, x35, x36, x37, x38, x39, x40, x41, x42, x43, x44, x45, x46, x47, x48, x49, x50, x51, x52, x53, x54, x55, x56, x57, x58, x59, x60, x61], df⟩ w') : RW Tryz.prog (opsC 3 Tryz.f223) false Q ⟨#[x0, .pointer (some ⟨m, 0, none⟩), x2, x3, .int .i64 ((p : Nat) : Int), x5, x6, x7, x8, x9, x10, x11, x12, x13, x14, x15, x16, x17, x18, x19, x20, x21, x22, x23, x24, x25, x26, x27, x28, x29, x30, x31, x32, x33, x34, x35, x36, x37, x38, x39, x40, x41, x42, x43, x44, x45, x46, x47, x48, x49, x50, x51, x52, x53, x54, x55, x56, x57, x58, x59, x60, x61], df⟩ w := by
 have HQ := Lib.hid hK
 clear hK
 refine rw_lin [(0, false), (1, false), (2, false), (3, false), (4, false), (5, false), (6, false)] (by kernel_rfl) ?_
 refine wpOrdT_freesB [0] [.int .i64 ((p : Nat) : Int)] (rest := [(1, false), (2, false), (3, false), (4, false), (5, false), (6, false)]) (by kernel_rfl) (by kernel_rfl) (by kernel_rfl) (.inr trivial) ?_
 refine wpOrdT_run (.pointer (some ⟨g, 0, none⟩)) _ (some 29) ⟨by kernel_rfl, by kernel_rfl, by kernel_rfl⟩ (of_load (x := (.tmp 1)) (by kernel_rfl) (by kernel_rfl) (load_c ((fun _ => c1) (trivial)) Tryz.underlying129 rfl)) (fun _ => trivial) ?_
 refine wpOrdT_freesB [2, 3] [.pointer (some ⟨g, 0, none⟩), .pointer (some ⟨g, 0, none⟩)] (rest := [(4, false), (5, false), (6, false)]) (by kernel_rfl) (by kernel_rfl) (by kernel_rfl) (.inr trivial) ?_
 refine wpOrdT_run ((.slice ao n cap)) _ (some 32) ⟨by kernel_rfl, by kernel_rfl, by kernel_rfl⟩ (of_load (x := (.tmp 31)) (by kernel_rfl) (by kernel_rfl) (load_c ((fun _ => c2) (trivial)) Tryz.underlying228 rfl)) (fun _ => trivial) ?_
 refine wpOrdT_freesB [5] [.int .i64 ((n : Nat) : Int)] (rest := [(6, false)]) (by kernel_rfl) (by kernel_rfl) (by kernel_rfl) (.inr trivial) ?_
 refine wpOrdT_run (.bool false) _ (some 34) ⟨by kernel_rfl, by kernel_rfl, by kernel_rfl⟩ (run_bin (t := 3) (t' := 3) (xv := .int .i64 ((p : Nat) : Int)) (yv := .int .i64 ((n : Nat) : Int)) (x := (.tmp 28)) (y := (.tmp 33)) (by kernel_rfl) (by kernel_rfl) (by kernel_rfl) (fun _ => by kernel_rfl) (run_lss _ (decide_eq_false (by omega)))) (fun _ => trivial) ?_
 exact wpOrdT_doneC (act_is (K := Q .normal) (by kernel_rfl) (HQ.out (.int .i64 ((p : Nat) : Int)) (.pointer (some ⟨g, 0, none⟩)) (.pointer (some ⟨g, 0, none⟩)) (.pointer (some ⟨g, 0, none⟩)) ((.slice ao n cap)) (.int .i64 ((n : Nat) : Int)) _ rfl))
set_option maxHeartbeats 1000000 in
theorem ris5t {w : World} {m g b off cap n p k i pc : Nat} {ap : Option Addr} (c1 : w.cell? ⟨m, 0, none⟩ = some (.pointer (some ⟨g, 0, none⟩))) (c2 : w.cell? ⟨g, 0, none⟩ = some (.slice (some ⟨b, off, none⟩) n cap)) (c3 : w.cell? ⟨b, off + p, none⟩ = some (.slice ap k pc)) (hp : p < n) (hn : i < k) {x0 x2 x3 x6 x7 x8 x9 x10 x11 x12 x13 x14 x15 x16 x17 x18 x19 x20 x21 x22 x23 x24 x25 x26 x27 x28 x29 x30 x31 x32 x33 x34 x35 x36 x37 x38 x39 x40 x41 x42 x43 x44 x45 x46 x47 x48 x49 x50 x51 x52 x53 x54 x55 x56 x57 x58 x59 x60 x61 : Value} {df : List Deferred} {Q : Exit → Act → World → Prop}
  (hK : ∀ (y37 y38 y39 y40 y41 y42 y43 y44 y45 : Value)  (w' : World), w' = w → Q .normal ⟨#[x0, .pointer (some ⟨m, 0, none⟩), x2, x3, .int .i64 ((p : Nat) : Int), .int .i64 ((i : Nat) : Int), x6, x7, x8, x9, x10, x11, x12, x13, x14, x15, x16, x17, x18, x19, x20, x21, x22, x23, x24, x25, x26, x27, x28, x29, x30, x31, x32, x33, x34, x35, x36, y37, y38, y39, y40, y41, y42, y43, y44, y45, .bool true, x47, x48, x49, x50, x51, x52, x53, x54, x55, x56, x57, x58, x59, x60, x61], df⟩ w') : RW Tryz.prog (opsC 5 Tryz.f223) false Q ⟨#[x0, .pointer (some ⟨m, 0, none⟩), x2, x3, .int .i64 ((p : Nat) : Int), .int .i64 ((i : Nat) : Int), x6, x7, x8, x9, x10, x11, x12, x13, x14, x15, x16, x17, x18, x19, x20, x21, x22, x23, x24, x25, x26, x27, x28, x29, x30, x31, x32, x33, x34, x35, x36, x37, x38, x39, x40, x41, x42, x43, x44, x45, x46, x47, x48, x49, x50, x51, x52, x53, x54, x55, x56, x57, x58, x59, x60, x61], df⟩ w := by
 have HQ := Lib.hid hK
 clear hK
 refine rw_lin [(0, false), (1, false), (2, false), (3, false), (4, false), (5, false), (6, false), (7, false), (8, false), (9, false)] (by kernel_rfl) ?_
 refine wpOrdT_freesB [0] [.int .i64 ((i : Nat) : Int)] (rest := [(1, false), (2, false), (3, false), (4, false), (5, false), (6, false), (7, false), (8, false), (9, false)]) (by kernel_rfl) (by kernel_rfl) (by kernel_rfl) (.inr trivial) ?_
 refine wpOrdT_run (.pointer (some ⟨g, 0, none⟩)) _ (some 38) ⟨by kernel_rfl, by kernel_rfl, by kernel_rfl⟩ (of_load (x := (.tmp 1)) (by kernel_rfl) (by kernel_rfl) (load_c ((fun _ => c1) (trivial)) Tryz.underlying129 rfl)) (fun _ => trivial) ?_
 refine wpOrdT_freesB [2, 3] [.pointer (some ⟨g, 0, none⟩), .pointer (some ⟨g, 0, none⟩)] (rest := [(4, false), (5, false), (6, false), (7, false), (8, false), (9, false)]) (by kernel_rfl) (by kernel_rfl) (by kernel_rfl) (.inr trivial) ?_
 refine wpOrdT_run (.slice (some ⟨b, off, none⟩) n cap) _ (some 41) ⟨by kernel_rfl, by kernel_rfl, by kernel_rfl⟩ (of_load (x := (.tmp 40)) (by kernel_rfl) (by kernel_rfl) (load_c ((fun _ => c2) (trivial)) Tryz.underlying228 rfl)) (fun _ => trivial) ?_
 refine wpOrdT_freesB [5] [.int .i64 ((p : Nat) : Int)] (rest := [(6, false), (7, false), (8, false), (9, false)]) (by kernel_rfl) (by kernel_rfl) (by kernel_rfl) (.inr trivial) ?_
 refine wpOrdT_run (.pointer (some ⟨b, off + p, none⟩)) _ (some 43) ⟨by kernel_rfl, by kernel_rfl, by kernel_rfl⟩ (run_idx (s := 1) (e := 258) (g := b) (off := off) (n := n) (c := cap) (i := ((p : Nat) : Int)) (x := (.tmp 41)) (y := (.tmp 42)) (off + p) (by kernel_rfl) (by kernel_rfl) (by kernel_rfl) Tryz.underlying228 (by kernel_rfl) (by omega) (by omega) (by omega)) (fun _ => trivial) ?_
 refine wpOrdT_run ((.slice ap k pc)) _ (some 44) ⟨by kernel_rfl, by kernel_rfl, by kernel_rfl⟩ (of_load (x := (.tmp 43)) (by kernel_rfl) (by kernel_rfl) (load_c ((fun _ => c3) (trivial)) Tryz.underlying258 rfl)) (fun _ => trivial) ?_
 refine wpOrdT_freesB [8] [.int .i64 ((k : Nat) : Int)] (rest := [(9, false)]) (by kernel_rfl) (by kernel_rfl) (by kernel_rfl) (.inr trivial) ?_
 refine wpOrdT_run (.bool true) _ (some 46) ⟨by kernel_rfl, by kernel_rfl, by kernel_rfl⟩ (run_bin (t := 3) (t' := 3) (xv := .int .i64 ((i : Nat) : Int)) (yv := .int .i64 ((k : Nat) : Int)) (x := (.tmp 37)) (y := (.tmp 45)) (by kernel_rfl) (by kernel_rfl) (by kernel_rfl) (fun _ => by kernel_rfl) (run_lss _ (decide_eq_true (by omega)))) (fun _ => trivial) ?_
 exact wpOrdT_doneC (act_is (K := Q .normal) (by kernel_rfl) (HQ.out (.int .i64 ((i : Nat) : Int)) (.pointer (some ⟨g, 0, none⟩)) (.pointer (some ⟨g, 0, none⟩)) (.pointer (some ⟨g, 0, none⟩)) (.slice (some ⟨b, off, none⟩) n cap) (.int .i64 ((p : Nat) : Int)) (.pointer (some ⟨b, off + p, none⟩)) ((.slice ap k pc)) (.int .i64 ((k : Nat) : Int)) _ rfl))
set_option maxHeartbeats 1000000 in
theorem ris5f {w : World} {m g b off cap n p k i pc : Nat} {ap : Option Addr} (c1 : w.cell? ⟨m, 0, none⟩ = some (.pointer (some ⟨g, 0, none⟩))) (c2 : w.cell? ⟨g, 0, none⟩ = some (.slice (some ⟨b, off, none⟩) n cap)) (c3 : w.cell? ⟨b, off + p, none⟩ = some (.slice ap k pc)) (hp : p < n) (hn : ¬ i < k) {x0 x2 x3 x6 x7 x8 x9 x10 x11 x12 x13 x14 x15 x16 x17 x18 x19 x20 x21 x22 x23 x24 x25 x26 x27 x28 x29 x30 x31 x32 x33 x34 x35 x36 x37 x38 x39 x40 x41 x42 x43 x44 x45 x46 x47 x48 x49 x50 x51 x52 x53 x54 x55 x56 x57 x58 x59 x60 x61 : Value} {df : List Deferred} {Q : Exit → Act → World → Prop}
  (hK : ∀ (y37 y38 y39 y40 y41 y42 y43 y44 y45 : Value)  (w' : World), w' = w → Q .normal ⟨#[x0, .pointer (some ⟨m, 0, none⟩), x2, x3, .int .i64 ((p : Nat) : Int), .int .i64 ((i : Nat) : Int), x6, x7, x8, x9, x10, x11, x12, x13, x14, x15, x16, x17, x18, x19, x20, x21, x22, x23, x24, x25, x26, x27, x28, x29, x30, x31, x32, x33, x34, x35, x36, y37, y38, y39, y40, y41, y42, y43, y44, y45, .bool false, x47, x48, x49, x50, x51, x52, x53, x54, x55, x56, x57, x58, x59, x60, x61], df⟩ w') : RW Tryz.prog (opsC 5 Tryz.f223) false Q ⟨#[x0, .pointer (some ⟨m, 0, none⟩), x2, x3, .int .i64 ((p : Nat) : Int), .int .i64 ((i : Nat) : Int), x6, x7, x8, x9, x10, x11, x12, x13, x14, x15, x16, x17, x18, x19, x20, x21, x22, x23, x24, x25, x26, x27, x28, x29, x30, x31, x32, x33, x34, x35, x36, x37, x38, x39, x40, x41, x42, x43, x44, x45, x46, x47, x48, x49, x50, x51, x52, x53, x54, x55, x56, x57, x58, x59, x60, x61], df⟩ w := by
 have HQ := Lib.hid hK
 clear hK
 refine rw_lin [(0, false), (1, false), (2, false), (3, false), (4, false), (5, false), (6, false), (7, false), (8, false), (9, false)] (by kernel_rfl) ?_
 refine wpOrdT_freesB [0] [.int .i64 ((i : Nat) : Int)] (rest := [(1, false), (2, false), (3, false), (4, false), (5, false), (6, false), (7, false), (8, false), (9, false)]) (by kernel_rfl) (by kernel_rfl) (by kernel_rfl) (.inr trivial) ?_
 refine wpOrdT_run (.pointer (some ⟨g, 0, none⟩)) _ (some 38) ⟨by kernel_rfl, by kernel_rfl, by kernel_rfl⟩ (of_load (x := (.tmp 1)) (by kernel_rfl) (by kernel_rfl) (load_c ((fun _ => c1) (trivial)) Tryz.underlying129 rfl)) (fun _ => trivial) ?_
 refine wpOrdT_freesB [2, 3] [.pointer (some ⟨g, 0, none⟩), .pointer (some ⟨g, 0, none⟩)] (rest := [(4, false), (5, false), (6, false), (7, false), (8, false), (9, false)]) (by kernel_rfl) (by kernel_rfl) (by kernel_rfl) (.inr trivial) ?_
 refine wpOrdT_run (.slice (some ⟨b, off, none⟩) n cap) _ (some 41) ⟨by kernel_rfl, by kernel_rfl, by kernel_rfl⟩ (of_load (x := (.tmp 40)) (by kernel_rfl) (by kernel_rfl) (load_c ((fun _ => c2) (trivial)) Tryz.underlying228 rfl)) (fun _ => trivial) ?_
 refine wpOrdT_freesB [5] [.int .i64 ((p : Nat) : Int)] (rest := [(6, false), (7, false), (8, false), (9, false)]) (by kernel_rfl) (by kernel_rfl) (by kernel_rfl) (.inr trivial) ?_
 refine wpOrdT_run (.pointer (some ⟨b, off + p, none⟩)) _ (some 43) ⟨by kernel_rfl, by kernel_rfl, by kernel_rfl⟩ (run_idx (s := 1) (e := 258) (g := b) (off := off) (n := n) (c := cap) (i := ((p : Nat) : Int)) (x := (.tmp 41)) (y := (.tmp 42)) (off + p) (by kernel_rfl) (by kernel_rfl) (by kernel_rfl) Tryz.underlying228 (by kernel_rfl) (by omega) (by omega) (by omega)) (fun _ => trivial) ?_
 refine wpOrdT_run ((.slice ap k pc)) _ (some 44) ⟨by kernel_rfl, by kernel_rfl, by kernel_rfl⟩ (of_load (x := (.tmp 43)) (by kernel_rfl) (by kernel_rfl) (load_c ((fun _ => c3) (trivial)) Tryz.underlying258 rfl)) (fun _ => trivial) ?_
 refine wpOrdT_freesB [8] [.int .i64 ((k : Nat) : Int)] (rest := [(9, false)]) (by kernel_rfl) (by kernel_rfl) (by kernel_rfl) (.inr trivial) ?_
 refine wpOrdT_run (.bool false) _ (some 46) ⟨by kernel_rfl, by kernel_rfl, by kernel_rfl⟩ (run_bin (t := 3) (t' := 3) (xv := .int .i64 ((i : Nat) : Int)) (yv := .int .i64 ((k : Nat) : Int)) (x := (.tmp 37)) (y := (.tmp 45)) (by kernel_rfl) (by kernel_rfl) (by kernel_rfl) (fun _ => by kernel_rfl) (run_lss _ (decide_eq_false (by omega)))) (fun _ => trivial) ?_
 exact wpOrdT_doneC (act_is (K := Q .normal) (by kernel_rfl) (HQ.out (.int .i64 ((i : Nat) : Int)) (.pointer (some ⟨g, 0, none⟩)) (.pointer (some ⟨g, 0, none⟩)) (.pointer (some ⟨g, 0, none⟩)) (.slice (some ⟨b, off, none⟩) n cap) (.int .i64 ((p : Nat) : Int)) (.pointer (some ⟨b, off + p, none⟩)) ((.slice ap k pc)) (.int .i64 ((k : Nat) : Int)) _ rfl))
set_option maxHeartbeats 1000000 in
theorem ris7 {w : World} {l m g b off cap n p k i pb po pc : Nat} {u v : Value} (c1 : w.cell? ⟨m, 0, none⟩ = some (.pointer (some ⟨g, 0, none⟩))) (c2 : w.cell? ⟨g, 0, none⟩ = some (.slice (some ⟨b, off, none⟩) n cap)) (c3 : w.cell? ⟨b, off + p, none⟩ = some (.slice (some ⟨pb, po, none⟩) k pc)) (c4 : w.cell? ⟨pb, po + i * 2, none⟩ = some u) (c5 : w.cell? ⟨pb, po + i * 2 + 1, none⟩ = some v) (hp : p < n) (hi : i < k) {x2 x3 x6 x7 x8 x9 x10 x11 x12 x13 x14 x15 x16 x17 x18 x19 x20 x21 x22 x23 x24 x25 x26 x27 x28 x29 x30 x31 x32 x33 x34 x35 x36 x37 x38 x39 x40 x41 x42 x43 x44 x45 x46 x47 x48 x49 x50 x51 x52 x53 x54 x55 x56 x57 x58 x59 x60 x61 : Value} {df : List Deferred} {Q : Exit → Act → World → Prop}
  (hK : ∀ (y50 y51 y52 y53 y54 y55 y56 y57 y58 : Value)  (w' : World), w' = w → Q .normal ⟨#[.func (.yield l) #[] #[], .pointer (some ⟨m, 0, none⟩), x2, x3, .int .i64 ((p : Nat) : Int), .int .i64 ((i : Nat) : Int), x6, x7, x8, x9, x10, x11, x12, x13, x14, x15, x16, x17, x18, x19, x20, x21, x22, x23, x24, x25, x26, x27, x28, x29, x30, x31, x32, x33, x34, x35, x36, x37, x38, x39, x40, x41, x42, x43, x44, x45, x46, x47, x48, .func (.yield l) #[] #[], y50, y51, y52, y53, y54, y55, y56, y57, y58, .agg #[u, v], x60, x61], df⟩ w') : RW Tryz.prog ((opsC 7 Tryz.f223).toList.take 11).toArray false Q ⟨#[.func (.yield l) #[] #[], .pointer (some ⟨m, 0, none⟩), x2, x3, .int .i64 ((p : Nat) : Int), .int .i64 ((i : Nat) : Int), x6, x7, x8, x9, x10, x11, x12, x13, x14, x15, x16, x17, x18, x19, x20, x21, x22, x23, x24, x25, x26, x27, x28, x29, x30, x31, x32, x33, x34, x35, x36, x37, x38, x39, x40, x41, x42, x43, x44, x45, x46, x47, x48, x49, x50, x51, x52, x53, x54, x55, x56, x57, x58, x59, x60, x61], df⟩ w := by
 have HQ := Lib.hid hK
 clear hK
 refine rw_lin [(0, false), (1, false), (2, false), (3, false), (4, false), (5, false), (6, false), (7, false), (8, false), (9, false), (10, false)] (by kernel_rfl) ?_
 refine wpOrdT_freesB [0] [.func (.yield l) #[] #[]] (rest := [(1, false), (2, false), (3, false), (4, false), (5, false), (6, false), (7, false), (8, false), (9, false), (10, false)]) (by kernel_rfl) (by kernel_rfl) (by kernel_rfl) (.inr trivial) ?_
 refine wpOrdT_run (.pointer (some ⟨g, 0, none⟩)) _ (some 50) ⟨by kernel_rfl, by kernel_rfl, by kernel_rfl⟩ (of_load (x := (.tmp 1)) (by kernel_rfl) (by kernel_rfl) (load_c ((fun _ => c1) (trivial)) Tryz.underlying129 rfl)) (fun _ => trivial) ?_
 refine wpOrdT_freesB [2, 3] [.pointer (some ⟨g, 0, none⟩), .pointer (some ⟨g, 0, none⟩)] (rest := [(4, false), (5, false), (6, false), (7, false), (8, false), (9, false), (10, false)]) (by kernel_rfl) (by kernel_rfl) (by kernel_rfl) (.inr trivial) ?_
 refine wpOrdT_run (.slice (some ⟨b, off, none⟩) n cap) _ (some 53) ⟨by kernel_rfl, by kernel_rfl, by kernel_rfl⟩ (of_load (x := (.tmp 52)) (by kernel_rfl) (by kernel_rfl) (load_c ((fun _ => c2) (trivial)) Tryz.underlying228 rfl)) (fun _ => trivial) ?_
 refine wpOrdT_freesB [5] [.int .i64 ((p : Nat) : Int)] (rest := [(6, false), (7, false), (8, false), (9, false), (10, false)]) (by kernel_rfl) (by kernel_rfl) (by kernel_rfl) (.inr trivial) ?_
 refine wpOrdT_run (.pointer (some ⟨b, off + p, none⟩)) _ (some 55) ⟨by kernel_rfl, by kernel_rfl, by kernel_rfl⟩ (run_idx (s := 1) (e := 258) (g := b) (off := off) (n := n) (c := cap) (i := ((p : Nat) : Int)) (x := (.tmp 53)) (y := (.tmp 54)) (off + p) (by kernel_rfl) (by kernel_rfl) (by kernel_rfl) Tryz.underlying228 (by kernel_rfl) (by omega) (by omega) (by omega)) (fun _ => trivial) ?_
 refine wpOrdT_run (.slice (some ⟨pb, po, none⟩) k pc) _ (some 56) ⟨by kernel_rfl, by kernel_rfl, by kernel_rfl⟩ (of_load (x := (.tmp 55)) (by kernel_rfl) (by kernel_rfl) (load_c ((fun _ => c3) (trivial)) Tryz.underlying258 rfl)) (fun _ => trivial) ?_
 refine wpOrdT_freesB [8] [.int .i64 ((i : Nat) : Int)] (rest := [(9, false), (10, false)]) (by kernel_rfl) (by kernel_rfl) (by kernel_rfl) (.inr trivial) ?_
 refine wpOrdT_run (.pointer (some ⟨pb, po + i * 2, none⟩)) _ (some 58) ⟨by kernel_rfl, by kernel_rfl, by kernel_rfl⟩ (run_idx (s := 2) (e := 244) (g := pb) (off := po) (n := k) (c := pc) (i := ((i : Nat) : Int)) (x := (.tmp 56)) (y := (.tmp 57)) (po + i * 2) (by kernel_rfl) (by kernel_rfl) (by kernel_rfl) Tryz.underlying258 (by kernel_rfl) (by omega) (by omega) (by omega)) (fun _ => trivial) ?_
 refine wpOrdT_run (.agg #[u, v]) _ (some 59) ⟨by kernel_rfl, by kernel_rfl, by kernel_rfl⟩ (of_load (x := (.tmp 58)) (by kernel_rfl) (by kernel_rfl) (load_a [u, v] ((fun _ => two_cells c4 c5) (trivial)) Tryz.underlying244 rfl (by kernel_rfl))) (fun _ => trivial) ?_
 exact wpOrdT_doneC (act_is (K := Q .normal) (by kernel_rfl) (HQ.out (.pointer (some ⟨g, 0, none⟩)) (.pointer (some ⟨g, 0, none⟩)) (.pointer (some ⟨g, 0, none⟩)) (.slice (some ⟨b, off, none⟩) n cap) (.int .i64 ((p : Nat) : Int)) (.pointer (some ⟨b, off + p, none⟩)) (.slice (some ⟨pb, po, none⟩) k pc) (.int .i64 ((i : Nat) : Int)) (.pointer (some ⟨pb, po + i * 2, none⟩)) _ rfl))
set_option maxHeartbeats 1000000 in
theorem ris6 {w : World} {i : Nat} (hi : i ≤ 1000000000) {x0 x1 x2 x3 x4 x6 x7 x8 x9 x10 x11 x12 x13 x14 x15 x16 x17 x18 x19 x20 x21 x22 x23 x24 x25 x26 x27 x28 x29 x30 x31 x32 x33 x34 x35 x36 x37 x38 x39 x40 x41 x42 x43 x44 x45 x46 x47 x48 x49 x50 x51 x52 x53 x54 x55 x56 x57 x58 x59 x60 x61 : Value} {df : List Deferred} {Q : Exit → Act → World → Prop}
  (hK : ∀ (y47 y48 : Value)  (w' : World), w' = w → Q .normal ⟨#[x0, x1, x2, x3, x4, .int .i64 (((i + 1) : Nat) : Int), x6, x7, x8, x9, x10, x11, x12, x13, x14, x15, x16, x17, x18, x19, x20, x21, x22, x23, x24, x25, x26, x27, x28, x29, x30, x31, x32, x33, x34, x35, x36, x37, x38, x39, x40, x41, x42, x43, x44, x45, x46, y47, y48, x49, x50, x51, x52, x53, x54, x55, x56, x57, x58, x59, x60, x61], df⟩ w') : RW Tryz.prog (opsC 6 Tryz.f223) false Q ⟨#[x0, x1, x2, x3, x4, .int .i64 ((i : Nat) : Int), x6, x7, x8, x9, x10, x11, x12, x13, x14, x15, x16, x17, x18, x19, x20, x21, x22, x23, x24, x25, x26, x27, x28, x29, x30, x31, x32, x33, x34, x35, x36, x37, x38, x39, x40, x41, x42, x43, x44, x45, x46, x47, x48, x49, x50, x51, x52, x53, x54, x55, x56, x57, x58, x59, x60, x61], df⟩ w := by
 have HQ := Lib.hid hK
 clear hK
 refine rw_lin [(0, false), (1, false), (2, false)] (by kernel_rfl) ?_
 refine wpOrdT_freesB [0] [.int .i64 ((i : Nat) : Int)] (rest := [(1, false), (2, false)]) (by kernel_rfl) (by kernel_rfl) (by kernel_rfl) (.inr trivial) ?_
 refine wpOrdT_run (.int .i64 (((i + 1) : Nat) : Int)) _ (some 48) ⟨by kernel_rfl, by kernel_rfl, by kernel_rfl⟩ (run_bin (t := 3) (t' := 3) (xv := .int .i64 ((i : Nat) : Int)) (yv := .int .i64 1) (x := (.tmp 47)) (y := (.const (.int .i64 1))) (by kernel_rfl) (by kernel_rfl) (by kernel_rfl) (fun _ => by kernel_rfl) (run_addI _ (by omega) (by omega) (by omega))) (fun _ => trivial) ?_
 refine wpOrdT_freesB [2] [.int .i64 (((i + 1) : Nat) : Int)] (rest := []) (by kernel_rfl) (by kernel_rfl) (by kernel_rfl) (.inr trivial) ?_
 exact wpOrdT_doneC (act_is (K := Q .normal) (by kernel_rfl) (HQ.out (.int .i64 ((i : Nat) : Int)) (.int .i64 (((i + 1) : Nat) : Int)) _ rfl))
set_option maxHeartbeats 1000000 in
theorem ris4 {w : World} {p : Nat} (hi : p ≤ 1000000000) {x0 x1 x2 x3 x5 x6 x7 x8 x9 x10 x11 x12 x13 x14 x15 x16 x17 x18 x19 x20 x21 x22 x23 x24 x25 x26 x27 x28 x29 x30 x31 x32 x33 x34 x35 x36 x37 x38 x39 x40 x41 x42 x43 x44 x45 x46 x47 x48 x49 x50 x51 x52 x53 x54 x55 x56 x57 x58 x59 x60 x61 : Value} {df : List Deferred} {Q : Exit → Act → World → Prop}
  (hK : ∀ (y35 y36 : Value)  (w' : World), w' = w → Q .normal ⟨#[x0, x1, x2, x3, .int .i64 (((p + 1) : Nat) : Int), .int .i64 0, x6, x7, x8, x9, x10, x11, x12, x13, x14, x15, x16, x17, x18, x19, x20, x21, x22, x23, x24, x25, x26, x27, x28, x29, x30, x31, x32, x33, x34, y35, y36, x37, x38, x39, x40, x41, x42, x43, x44, x45, x46, x47, x48, x49, x50, x51, x52, x53, x54, x55, x56, x57, x58, x59, x60, x61], df⟩ w') : RW Tryz.prog (opsC 4 Tryz.f223) false Q ⟨#[x0, x1, x2, x3, .int .i64 ((p : Nat) : Int), x5, x6, x7, x8, x9, x10, x11, x12, x13, x14, x15, x16, x17, x18, x19, x20, x21, x22, x23, x24, x25, x26, x27, x28, x29, x30, x31, x32, x33, x34, x35, x36, x37, x38, x39, x40, x41, x42, x43, x44, x45, x46, x47, x48, x49, x50, x51, x52, x53, x54, x55, x56, x57, x58, x59, x60, x61], df⟩ w := by
 have HQ := Lib.hid hK
 clear hK
 refine rw_lin [(0, false), (1, false), (2, false), (3, false)] (by kernel_rfl) ?_
 refine wpOrdT_freesB [0] [.int .i64 ((p : Nat) : Int)] (rest := [(1, false), (2, false), (3, false)]) (by kernel_rfl) (by kernel_rfl) (by kernel_rfl) (.inr trivial) ?_
 refine wpOrdT_run (.int .i64 (((p + 1) : Nat) : Int)) _ (some 36) ⟨by kernel_rfl, by kernel_rfl, by kernel_rfl⟩ (run_bin (t := 3) (t' := 3) (xv := .int .i64 ((p : Nat) : Int)) (yv := .int .i64 1) (x := (.tmp 35)) (y := (.const (.int .i64 1))) (by kernel_rfl) (by kernel_rfl) (by kernel_rfl) (fun _ => by kernel_rfl) (run_addI _ (by omega) (by omega) (by omega))) (fun _ => trivial) ?_
 refine wpOrdT_freesB [2, 3] [.int .i64 (((p + 1) : Nat) : Int), .int .i64 0] (rest := []) (by kernel_rfl) (by kernel_rfl) (by kernel_rfl) (.inr trivial) ?_
 exact wpOrdT_doneC (act_is (K := Q .normal) (by kernel_rfl) (HQ.out (.int .i64 ((p : Nat) : Int)) (.int .i64 (((p + 1) : Nat) : Int)) _ rfl))
set_option maxHeartbeats 1000000 in
theorem wk0 {w : World} {l : Nat} {x1 x2 x3 x4 x5 x6 x7 x8 x9 x10 x11 x12 x13 x14 x15 x16 x17 x18 x19 x20 x21 x22 x23 x24 x25 x26 x27 x28 x29 x30 : Value} {df : List Deferred} {Q : Exit → Act → World → Prop}
  (hK : ∀ (bq : Nat) (w' : World), bq = w.heap.size → w'.heap[bq]? = some (.cells #[.func (.yield l) #[] #[]] 150) → Mods noB w w' → Q .normal ⟨#[.func (.yield l) #[] #[], x1, x2, x3, .pointer (some ⟨bq, 0, none⟩), x5, x6, x7, x8, x9, x10, x11, x12, x13, x14, x15, x16, x17, x18, x19, x20, x21, x22, x23, x24, x25, x26, x27, x28, x29, x30], df⟩ w') : RW Tryz.prog (opsC 0 Tryz.f159) false Q ⟨#[.func (.yield l) #[] #[], x1, x2, x3, x4, x5, x6, x7, x8, x9, x10, x11, x12, x13, x14, x15, x16, x17, x18, x19, x20, x21, x22, x23, x24, x25, x26, x27, x28, x29, x30], df⟩ w := by
 have HQ := Lib.hid hK
 clear hK
 refine rw_lin [(0, false)] (by kernel_rfl) ?_
 refine wpOrdT_alloc (.cells #[.func (.yield l) #[] #[]] 150) (some 4) ⟨by kernel_rfl, by kernel_rfl, by kernel_rfl⟩ (by kernel_rfl) ?_
 intro k1 w_k1 hk_k1 hO_k1 hm_k1 hl_k1
 refine ⟨fun _ => trivial, ?_⟩
 exact wpOrdT_doneC (act_is (K := Q .normal) (by kernel_rfl) (HQ.out  k1 w_k1 hk_k1 hO_k1 hm_k1))
set_option maxHeartbeats 1000000 in
theorem wk1 {w : World} {m bf g : Nat} {fv : Value} {X : Nat → Nat → World → Prop} (c1 : w.cell? ⟨m, 0, none⟩ = some (.pointer (some ⟨g, 0, none⟩))) (c2 : w.cell? ⟨bf, 0, none⟩ = some fv) (hC : Calls Tryz.prog 160 #[.pointer (some ⟨g, 0, none⟩), fv] w fun e w' => ∃ ma bf : Nat, e = .returned (.func (.func 223) #[] #[.pointer (some ⟨ma, 0, none⟩), .pointer (some ⟨bf, 0, none⟩)]) ∧ X ma bf w') {x0 x3 x4 x5 x6 x7 x8 x9 x10 x11 x12 x13 x14 x15 x16 x17 x18 x19 x20 x21 x22 x23 x24 x25 x26 x27 x28 x29 x30 : Value} {df : List Deferred} {Q : Exit → Act → World → Prop}
  (hK : ∀ (y6 y7 : Value) (ma bq : Nat) (w' : World), X ma bq w' → Q .normal ⟨#[x0, .pointer (some ⟨m, 0, none⟩), .pointer (some ⟨bf, 0, none⟩), x3, x4, x5, y6, y7, .func (.func 223) #[] #[.pointer (some ⟨ma, 0, none⟩), .pointer (some ⟨bq, 0, none⟩)], x9, x10, x11, x12, x13, x14, x15, x16, x17, x18, x19, x20, x21, x22, x23, x24, x25, x26, x27, x28, x29, x30], df⟩ w') : RW Tryz.prog (opsC 1 Tryz.f159) false Q ⟨#[x0, .pointer (some ⟨m, 0, none⟩), .pointer (some ⟨bf, 0, none⟩), x3, x4, x5, x6, x7, x8, x9, x10, x11, x12, x13, x14, x15, x16, x17, x18, x19, x20, x21, x22, x23, x24, x25, x26, x27, x28, x29, x30], df⟩ w := by
 have HQ := Lib.hid hK
 clear hK
 refine rw_lin [(0, false), (1, false), (2, false)] (by kernel_rfl) ?_
 refine wpOrdT_run (.pointer (some ⟨g, 0, none⟩)) _ (some 6) ⟨by kernel_rfl, by kernel_rfl, by kernel_rfl⟩ (of_load (x := (.tmp 1)) (by kernel_rfl) (by kernel_rfl) (load_c ((fun _ => c1) (trivial)) Tryz.underlying129 rfl)) (fun _ => trivial) ?_
 refine wpOrdT_run (fv) _ (some 7) ⟨by kernel_rfl, by kernel_rfl, by kernel_rfl⟩ (of_load (x := (.tmp 2)) (by kernel_rfl) (by kernel_rfl) (load_c ((fun _ => c2) (trivial)) Tryz.underlying91 rfl)) (fun _ => trivial) ?_
 refine wpOrdT_call (some 8) ⟨by kernel_rfl, by kernel_rfl, by kernel_rfl⟩ hC (fun _ => by kernel_rfl) ?_
 rintro r w7 ⟨ma, bf, rfl, hh⟩
 refine ⟨_, rfl, fun _ => trivial, ?_⟩
 exact wpOrdT_doneC (act_is (K := Q .normal) (by kernel_rfl) (HQ.out (.pointer (some ⟨g, 0, none⟩)) (fv) ma bf w7 hh))
set_option maxHeartbeats 1000000 in
theorem wk2 {w : World} {u v : Value} (hu : u.oneCell' = true) (hv : v.oneCell' = true) {x0 x1 x2 x3 x4 x5 x6 x7 x8 x10 x11 x12 x13 x14 x15 x16 x17 x18 x19 x20 x21 x22 x23 x24 x25 x26 x27 x28 x29 x30 : Value} {df : List Deferred} {Q : Exit → Act → World → Prop}
  (hK : ∀ (bq : Nat) (w' : World), w.heap.size ≤ bq → w'.heap[bq]? = some (.cells #[u, v] 244 (0, 0)) → Mods noB w w' → Q .normal ⟨#[x0, x1, x2, x3, x4, .pointer (some ⟨bq, 0, none⟩), x6, x7, x8, .agg #[u, v], x10, x11, x12, x13, x14, x15, x16, x17, x18, x19, x20, x21, x22, x23, x24, x25, x26, x27, x28, x29, x30], df⟩ w') : RW Tryz.prog (opsC 2 Tryz.f159) false Q ⟨#[x0, x1, x2, x3, x4, x5, x6, x7, x8, .agg #[u, v], x10, x11, x12, x13, x14, x15, x16, x17, x18, x19, x20, x21, x22, x23, x24, x25, x26, x27, x28, x29, x30], df⟩ w := by
 have HQ := Lib.hid hK
 clear hK
 refine rw_lin [(0, false), (1, false)] (by kernel_rfl) ?_
 refine wpOrdT_alloc (.cells #[.slice none 0 0, .slice none 0 0] 244) (some 5) ⟨by kernel_rfl, by kernel_rfl, by kernel_rfl⟩ (by kernel_rfl) ?_
 intro k1 w_k1 hk_k1 hO_k1 hm_k1 hl_k1
 refine ⟨fun _ => trivial, ?_⟩
 refine wpOrdT_store (off := 0) (ty := 244) (x := (.tmp 5)) (y := (.tmp 9)) (cells := #[u, v]) #[u, v] none ⟨by kernel_rfl, by kernel_rfl, by kernel_rfl⟩ (by kernel_rfl) (by kernel_rfl) (by kernel_rfl) hO_k1 (by kernel_rfl) (by kernel_rfl) (by simp [hu, hv]) (by kernel_rfl) ?_
 intro w9 hO9 hm9 hs9
 refine ⟨fun _ => trivial, ?_⟩
 have hM := hm_k1.trans hm9 (U := noB) (fun _ _ x => x) (fun i hi e => by omega)
 exact wpOrdT_doneC (act_is (K := Q .normal) (by kernel_rfl) (HQ.out  k1 w9 (Nat.le_of_eq hk_k1.symm) hO9 hM))
set_option maxHeartbeats 1000000 in
theorem wk3s {w : World} {l x bt by1 : Nat} {at1 : Option Addr} {ct : Nat} {u v : Value} {ks vs ts : List UInt8} (q1 : w.heap[x]? = some (.cells #[u, v] 244 (0, 0))) (q2 : w.cell? ⟨bt, 0, none⟩ = some (.slice at1 ts.length ct)) (q3 : bt < w.heap.size) (hu : Rd w u ks) (hv : Rd w v vs) (ht : Rd w (.slice at1 ts.length ct) ts) (lk : ks.length ≤ 1000000) (lv : vs.length ≤ 1000000) (h1 : ts ≠ []) (h2 : 0 ≤ Lib.compareBytes ks ts) {x0 x1 x2 x6 x7 x8 x9 x10 x11 x12 x13 x14 x15 x16 x17 x18 x19 x20 x21 x22 x23 x24 x25 x26 x27 x28 x29 x30 : Value} {df : List Deferred} {Q : Exit → Act → World → Prop}
  (hK : ∀ (y10 y11 y12 y13 y14 y15 y16 y17 y18 y19 y20 y21 y22 y23 y24 y25 y26 y27 y28 y29 : Value)  (w' : World), Mods noB w w' → Q .normal ⟨#[x0, x1, x2, .pointer (some ⟨bt, 0, none⟩), .pointer (some ⟨by1, 0, none⟩), .pointer (some ⟨x, 0, none⟩), x6, x7, x8, x9, y10, y11, y12, y13, y14, y15, y16, y17, y18, y19, y20, y21, y22, y23, y24, y25, y26, y27, y28, y29, .bool true], df⟩ w') : RW Tryz.prog (opsC 3 Tryz.f159) true Q ⟨#[x0, x1, x2, .pointer (some ⟨bt, 0, none⟩), .pointer (some ⟨by1, 0, none⟩), .pointer (some ⟨x, 0, none⟩), x6, x7, x8, x9, x10, x11, x12, x13, x14, x15, x16, x17, x18, x19, x20, x21, x22, x23, x24, x25, x26, x27, x28, x29, x30], df⟩ w := by
 have HQ := Lib.hid hK
 clear hK
 have L1 : 0 < ts.length := List.length_pos_iff.2 h1
 have HU := Lib.hid hu
 have HV := Lib.hid hv
 have HT := Lib.hid ht
 have MR := Lib.hid ((Mods.refl noB w).drew)
 have Q1 := Lib.hid (fun b' (hm : Mods noB w b') => show b'.cell? ⟨x, 0, none⟩ = some u from cells_of (hm.heap q1 (fun x => x)) 0)
 have Q6 := Lib.hid (fun b' (hm : Mods noB w b') => show b'.cell? ⟨x, 1, none⟩ = some v from cells_of (hm.heap q1 (fun x => x)) 1)
 have Q2 := Lib.hid (fun b' (hm : Mods noB w b') => show b'.cell? ⟨bt, 0, none⟩ = some (.slice at1 ts.length ct) from (hm.cellAt q3 (fun x => x) 0).trans q2)
 clear hu hv ht q1 q2 q3
 refine rw_ordF (S := fun b' => Mods noB w b') [(0, true), (1, true), (2, true), (3, true), (4, true), (5, true), (6, true), (7, false), (8, true), (9, true), (10, true), (11, true), (12, true), (13, true), (15, true), (16, true), (14, false), (17, false), (18, false), (19, true), (20, true)] [] [(0, 8, 1024), (1, 1024, 2048), (2, 2048, 4096), (4, 4096, 8192), (8, 8224, 16384), (24, 24576, 32768), (8, 8200, 65536), (104, 106496, 131072), (136, 139264, 262144), (264, 270336, 524288), (640, 524288, 1048576), (1024, 1048592, 2097152), (1024, 1048608, 4194304), (5120, 5242880, 8388608), (9216, 9437184, 16777216), (1024, 1048608, 33554432), (33792, 34603008, 67108864), (82944, 68157440, 134217728), (150528, 154140672, 268435456), (263168, 269484032, 536870912), (525312, 537919488, 1073741824)] (by kernel_rfl) (by kernel_rfl) (by kernel_rfl) (by kernel_rfl) (by kernel_rfl) MR.out ?_
 refine wpOrdT_free ((.slice at1 ts.length ct)) (some 10) ⟨by kernel_rfl, by kernel_rfl, by kernel_rfl⟩ (fun bb hb => of_load (x := (.tmp 3)) (by kernel_rfl) (by kernel_rfl) (load_c (Q2.out _ hb) Tryz.underlying91 rfl)) ?_
 refine wpOrdT_frees [1] [.int .i64 ((ts.length : Nat) : Int)] (rest := [(2, true), (3, true), (4, true), (5, true), (6, true), (7, false), (8, true), (9, true), (10, true), (11, true), (12, true), (13, true), (15, true), (16, true), (14, false), (17, false), (18, false), (19, true), (20, true)]) (by kernel_rfl) (by kernel_rfl) (fun _ => by kernel_rfl) ?_
 refine wpOrdT_free (.bool true) (some 12) ⟨by kernel_rfl, by kernel_rfl, by kernel_rfl⟩ (fun bb hb => run_bin (t := 3) (t' := 3) (xv := .int .i64 ((ts.length : Nat) : Int)) (yv := .int .i64 0) (x := (.tmp 11)) (y := (.const (.int .i64 0))) (by kernel_rfl) (by kernel_rfl) (by kernel_rfl) (fun _ => by kernel_rfl) (run_gtr _ (decide_eq_true (by omega)))) ?_
 refine wpOrdT_frees [3, 4] [.bool true, .pointer (some ⟨x, 0, none⟩)] (rest := [(5, true), (6, true), (7, false), (8, true), (9, true), (10, true), (11, true), (12, true), (13, true), (15, true), (16, true), (14, false), (17, false), (18, false), (19, true), (20, true)]) (by kernel_rfl) (by kernel_rfl) (fun _ => by kernel_rfl) ?_
 refine wpOrdT_free (u) (some 15) ⟨by kernel_rfl, by kernel_rfl, by kernel_rfl⟩ (fun bb hb => of_load (x := (.tmp 14)) (by kernel_rfl) (by kernel_rfl) (load_c (Q1.out _ hb) Tryz.underlying91 rfl)) ?_
 refine wpOrdT_free ((.slice at1 ts.length ct)) (some 16) ⟨by kernel_rfl, by kernel_rfl, by kernel_rfl⟩ (fun bb hb => of_load (x := (.tmp 3)) (by kernel_rfl) (by kernel_rfl) (load_c (Q2.out _ hb) Tryz.underlying91 rfl)) ?_
 refine wpOrdT_call (some 17) ⟨by kernel_rfl, by kernel_rfl, by kernel_rfl⟩ (Compare_any (HU.out.keep MR.out (fun _ _ x => x)) (HT.out.keep MR.out (fun _ _ x => x))) (fun _ => by kernel_rfl) ?_
 rintro r wc ⟨rfl, rfl⟩
 refine ⟨_, rfl, fun _ => MR.out, ?_⟩
 refine wpOrdT_free (.bool true) (some 18) ⟨by kernel_rfl, by kernel_rfl, by kernel_rfl⟩ (fun bb hb => run_bin (t := 3) (t' := 3) (xv := .int .i64 (Lib.compareBytes ks ts)) (yv := .int .i64 0) (x := (.tmp 17)) (y := (.const (.int .i64 0))) (by kernel_rfl) (by kernel_rfl) (by kernel_rfl) (fun _ => by kernel_rfl) (run_geq _ (decide_eq_true (by omega)))) ?_
 refine wpOrdT_frees [9, 10, 11, 12, 13, 15, 16] [.bool true, .bool true, undef, undef, undef, undef, undef] (rest := [(14, false), (17, false), (18, false), (19, true), (20, true)]) (by kernel_rfl) (by kernel_rfl) (fun _ => by kernel_rfl) ?_
 refine wpOrdT_notB (some 24) ⟨by kernel_rfl, by kernel_rfl, by kernel_rfl⟩ (fun _ => MR.out) ?_
 refine wpOrdT_notB (some 27) ⟨by kernel_rfl, by kernel_rfl, by kernel_rfl⟩ (fun _ => MR.out) ?_
 refine wpOrdT_notB (some 28) ⟨by kernel_rfl, by kernel_rfl, by kernel_rfl⟩ (fun _ => MR.out) ?_
 refine wpOrdT_frees [19, 20] [undef, .bool true] (rest := []) (by kernel_rfl) (by kernel_rfl) (fun _ => by kernel_rfl) ?_
 exact wpOrdT_doneC (act_is (K := Q .normal) (by kernel_rfl) (HQ.out ((.slice at1 ts.length ct)) (.int .i64 ((ts.length : Nat) : Int)) (.bool true) (.bool true) (.pointer (some ⟨x, 0, none⟩)) (u) ((.slice at1 ts.length ct)) (.int .i64 (Lib.compareBytes ks ts)) (.bool true) (.bool true) (.bool true) (undef) (undef) (undef) (undef) (undef) (undef) (undef) (undef) (undef) _ MR.out))
set_option maxHeartbeats 1000000 in
theorem wk3a {w : World} {l x bt by1 : Nat} {at1 : Option Addr} {ct : Nat} {u v : Value} {ks vs ts : List UInt8} (q1 : w.heap[x]? = some (.cells #[u, v] 244 (0, 0))) (q2 : w.cell? ⟨bt, 0, none⟩ = some (.slice at1 ts.length ct)) (q3 : bt < w.heap.size) (hu : Rd w u ks) (hv : Rd w v vs) (ht : Rd w (.slice at1 ts.length ct) ts) (lk : ks.length ≤ 1000000) (lv : vs.length ≤ 1000000) (h1 : ts = []) (q4 : w.cell? ⟨by1, 0, none⟩ = some (.func (.yield l) #[] #[])) (q5 : by1 < w.heap.size) {x0 x1 x2 x6 x7 x8 x9 x10 x11 x12 x13 x14 x15 x16 x17 x18 x19 x20 x21 x22 x23 x24 x25 x26 x27 x28 x29 x30 : Value} {df : List Deferred} {Q : Exit → Act → World → Prop}
  (hK : ∀ (y10 y11 y12 y13 y14 y15 y16 y17 y18 y19 y22 y23 y25 y26 : Value) (d1 d2 : Value) (w' : World), Gl.Own w' d1 ks → Gl.Own w' d2 vs → freshIn w d1 → freshIn w d2 → (∀ k, d1.ownBlock = some k → d2.ownBlock ≠ some k) → Mods noB w w' → Q .normal ⟨#[x0, x1, x2, .pointer (some ⟨bt, 0, none⟩), .pointer (some ⟨by1, 0, none⟩), .pointer (some ⟨x, 0, none⟩), x6, x7, x8, x9, y10, y11, y12, y13, y14, y15, y16, y17, y18, y19, .bool false, .func (.yield l) #[] #[], y22, y23, d1, y25, y26, d2, x28, x29, x30], df⟩ w') : RW Tryz.prog ((opsC 3 Tryz.f159).toList.take 18).toArray true Q ⟨#[x0, x1, x2, .pointer (some ⟨bt, 0, none⟩), .pointer (some ⟨by1, 0, none⟩), .pointer (some ⟨x, 0, none⟩), x6, x7, x8, x9, x10, x11, x12, x13, x14, x15, x16, x17, x18, x19, x20, x21, x22, x23, x24, x25, x26, x27, x28, x29, x30], df⟩ w := by
 have HQ := Lib.hid hK
 clear hK
 have L1 : ¬ 0 < ts.length := by rw [h1]; simp
 have HU := Lib.hid hu
 have HV := Lib.hid hv
 have HT := Lib.hid ht
 have MR := Lib.hid ((Mods.refl noB w).drew)
 have Q1 := Lib.hid (fun b' (hm : Mods noB w b') => show b'.cell? ⟨x, 0, none⟩ = some u from cells_of (hm.heap q1 (fun x => x)) 0)
 have Q6 := Lib.hid (fun b' (hm : Mods noB w b') => show b'.cell? ⟨x, 1, none⟩ = some v from cells_of (hm.heap q1 (fun x => x)) 1)
 have Q2 := Lib.hid (fun b' (hm : Mods noB w b') => show b'.cell? ⟨bt, 0, none⟩ = some (.slice at1 ts.length ct) from (hm.cellAt q3 (fun x => x) 0).trans q2)
 have Q4 := Lib.hid (fun b' (hm : Mods noB w b') => show b'.cell? ⟨by1, 0, none⟩ = some (.func (.yield l) #[] #[]) from (hm.cellAt q5 (fun x => x) 0).trans q4)
 clear hu hv ht q1 q2 q3 q4 q5
 refine rw_ordF (S := fun b' => Mods noB w b') [(0, true), (1, true), (2, true), (3, true), (4, true), (5, true), (6, true), (7, false), (8, true), (9, true), (10, true), (11, true), (12, true), (13, true), (15, true), (16, true), (14, false), (17, false)] [] [(0, 8, 1024), (1, 1024, 2048), (2, 2048, 4096), (4, 4096, 8192), (8, 8224, 16384), (24, 24576, 32768), (8, 8200, 65536), (104, 106496, 131072), (136, 139264, 262144), (264, 270336, 524288), (640, 524288, 1048576), (1024, 1048592, 2097152), (1024, 1048608, 4194304), (5120, 5242880, 8388608), (9216, 9437184, 16777216), (1024, 1048608, 33554432), (33792, 34603008, 67108864), (82944, 68157440, 134217728)] (by kernel_rfl) (by kernel_rfl) (by kernel_rfl) (by kernel_rfl) (by kernel_rfl) MR.out ?_
 refine wpOrdT_free ((.slice at1 ts.length ct)) (some 10) ⟨by kernel_rfl, by kernel_rfl, by kernel_rfl⟩ (fun bb hb => of_load (x := (.tmp 3)) (by kernel_rfl) (by kernel_rfl) (load_c (Q2.out _ hb) Tryz.underlying91 rfl)) ?_
 refine wpOrdT_frees [1] [.int .i64 ((ts.length : Nat) : Int)] (rest := [(2, true), (3, true), (4, true), (5, true), (6, true), (7, false), (8, true), (9, true), (10, true), (11, true), (12, true), (13, true), (15, true), (16, true), (14, false), (17, false)]) (by kernel_rfl) (by kernel_rfl) (fun _ => by kernel_rfl) ?_
 refine wpOrdT_free (.bool false) (some 12) ⟨by kernel_rfl, by kernel_rfl, by kernel_rfl⟩ (fun bb hb => run_bin (t := 3) (t' := 3) (xv := .int .i64 ((ts.length : Nat) : Int)) (yv := .int .i64 0) (x := (.tmp 11)) (y := (.const (.int .i64 0))) (by kernel_rfl) (by kernel_rfl) (by kernel_rfl) (fun _ => by kernel_rfl) (run_gtr _ (decide_eq_false (by omega)))) ?_
 refine wpOrdT_frees [3, 4, 5, 6] [.bool false, undef, undef, undef] (rest := [(7, false), (8, true), (9, true), (10, true), (11, true), (12, true), (13, true), (15, true), (16, true), (14, false), (17, false)]) (by kernel_rfl) (by kernel_rfl) (fun _ => by kernel_rfl) ?_
 refine wpOrdT_notB (some 17) ⟨by kernel_rfl, by kernel_rfl, by kernel_rfl⟩ (fun _ => MR.out) ?_
 refine wpOrdT_frees [8, 9, 10] [undef, .bool false, .bool false] (rest := [(11, true), (12, true), (13, true), (15, true), (16, true), (14, false), (17, false)]) (by kernel_rfl) (by kernel_rfl) (fun _ => by kernel_rfl) ?_
 refine wpOrdT_free (.func (.yield l) #[] #[]) (some 21) ⟨by kernel_rfl, by kernel_rfl, by kernel_rfl⟩ (fun bb hb => of_load (x := (.tmp 4)) (by kernel_rfl) (by kernel_rfl) (load_c (Q4.out _ hb) Tryz.underlying150 rfl)) ?_
 refine wpOrdT_frees [12] [.pointer (some ⟨x, 0, none⟩)] (rest := [(13, true), (15, true), (16, true), (14, false), (17, false)]) (by kernel_rfl) (by kernel_rfl) (fun _ => by kernel_rfl) ?_
 refine wpOrdT_free (u) (some 23) ⟨by kernel_rfl, by kernel_rfl, by kernel_rfl⟩ (fun bb hb => of_load (x := (.tmp 22)) (by kernel_rfl) (by kernel_rfl) (load_c (Q1.out _ hb) Tryz.underlying91 rfl)) ?_
 refine wpOrdT_frees [15] [.pointer (some ⟨x, 1, none⟩)] (rest := [(16, true), (14, false), (17, false)]) (by kernel_rfl) (by kernel_rfl) (fun _ => by kernel_rfl) ?_
 refine wpOrdT_free (v) (some 26) ⟨by kernel_rfl, by kernel_rfl, by kernel_rfl⟩ (fun bb hb => of_load (x := (.tmp 25)) (by kernel_rfl) (by kernel_rfl) (load_c (Q6.out _ hb) Tryz.underlying91 rfl)) ?_
 refine wpOrdT_call (some 24) ⟨by kernel_rfl, by kernel_rfl, by kernel_rfl⟩ (owned_any (HU.out.keep MR.out (fun _ _ x => x)) (by omega)) (fun _ => by kernel_rfl) ?_
 rintro r wd1 ⟨d1, rfl, o1, n1, f1⟩
 have F1 := Lib.hid (f1.of MR.out.size)
 have S1 := MR.out.size
 replace MR := Lib.hid (MR.out.then0 n1)
 refine ⟨_, rfl, fun _ => MR.out, ?_⟩
 refine wpOrdT_call (some 27) ⟨by kernel_rfl, by kernel_rfl, by kernel_rfl⟩ (owned_any (HV.out.keep MR.out (fun _ _ x => x)) (by omega)) (fun _ => by kernel_rfl) ?_
 rintro r wd2 ⟨d2, rfl, o2, n2, f2⟩
 have F2 := Lib.hid (f2.of MR.out.size)
 have S2 := MR.out.size
 replace MR := Lib.hid (MR.out.then0 n2)
 refine ⟨_, rfl, fun _ => MR.out, ?_⟩
 exact wpOrdT_doneC (act_is (K := Q .normal) (by kernel_rfl) (HQ.out ((.slice at1 ts.length ct)) (.int .i64 ((ts.length : Nat) : Int)) (.bool false) (.bool false) (undef) (undef) (undef) (undef) (undef) (.bool false) (.pointer (some ⟨x, 0, none⟩)) (u) (.pointer (some ⟨x, 1, none⟩)) (v) d1 d2 _ (o1.keep n2 (fun _ _ x => x)) o2 F1.out F2.out (fun k hk hk2 => by have := o1.lt k hk; have := f2 k hk2; omega) MR.out))
set_option maxHeartbeats 1000000 in
theorem wk3b {w : World} {l x bt by1 : Nat} {at1 : Option Addr} {ct : Nat} {u v : Value} {ks vs ts : List UInt8} (q1 : w.heap[x]? = some (.cells #[u, v] 244 (0, 0))) (q2 : w.cell? ⟨bt, 0, none⟩ = some (.slice at1 ts.length ct)) (q3 : bt < w.heap.size) (hu : Rd w u ks) (hv : Rd w v vs) (ht : Rd w (.slice at1 ts.length ct) ts) (lk : ks.length ≤ 1000000) (lv : vs.length ≤ 1000000) (h1 : ts ≠ []) (h2 : ¬ 0 ≤ Lib.compareBytes ks ts) (q4 : w.cell? ⟨by1, 0, none⟩ = some (.func (.yield l) #[] #[])) (q5 : by1 < w.heap.size) {x0 x1 x2 x6 x7 x8 x9 x10 x11 x12 x13 x14 x15 x16 x17 x18 x19 x20 x21 x22 x23 x24 x25 x26 x27 x28 x29 x30 : Value} {df : List Deferred} {Q : Exit → Act → World → Prop}
  (hK : ∀ (y10 y11 y12 y13 y14 y15 y16 y17 y18 y19 y22 y23 y25 y26 : Value) (d1 d2 : Value) (w' : World), Gl.Own w' d1 ks → Gl.Own w' d2 vs → freshIn w d1 → freshIn w d2 → (∀ k, d1.ownBlock = some k → d2.ownBlock ≠ some k) → Mods noB w w' → Q .normal ⟨#[x0, x1, x2, .pointer (some ⟨bt, 0, none⟩), .pointer (some ⟨by1, 0, none⟩), .pointer (some ⟨x, 0, none⟩), x6, x7, x8, x9, y10, y11, y12, y13, y14, y15, y16, y17, y18, y19, .bool false, .func (.yield l) #[] #[], y22, y23, d1, y25, y26, d2, x28, x29, x30], df⟩ w') : RW Tryz.prog ((opsC 3 Tryz.f159).toList.take 18).toArray true Q ⟨#[x0, x1, x2, .pointer (some ⟨bt, 0, none⟩), .pointer (some ⟨by1, 0, none⟩), .pointer (some ⟨x, 0, none⟩), x6, x7, x8, x9, x10, x11, x12, x13, x14, x15, x16, x17, x18, x19, x20, x21, x22, x23, x24, x25, x26, x27, x28, x29, x30], df⟩ w := by
 have HQ := Lib.hid hK
 clear hK
 have L1 : 0 < ts.length := List.length_pos_iff.2 h1
 have HU := Lib.hid hu
 have HV := Lib.hid hv
 have HT := Lib.hid ht
 have MR := Lib.hid ((Mods.refl noB w).drew)
 have Q1 := Lib.hid (fun b' (hm : Mods noB w b') => show b'.cell? ⟨x, 0, none⟩ = some u from cells_of (hm.heap q1 (fun x => x)) 0)
 have Q6 := Lib.hid (fun b' (hm : Mods noB w b') => show b'.cell? ⟨x, 1, none⟩ = some v from cells_of (hm.heap q1 (fun x => x)) 1)
 have Q2 := Lib.hid (fun b' (hm : Mods noB w b') => show b'.cell? ⟨bt, 0, none⟩ = some (.slice at1 ts.length ct) from (hm.cellAt q3 (fun x => x) 0).trans q2)
 have Q4 := Lib.hid (fun b' (hm : Mods noB w b') => show b'.cell? ⟨by1, 0, none⟩ = some (.func (.yield l) #[] #[]) from (hm.cellAt q5 (fun x => x) 0).trans q4)
 clear hu hv ht q1 q2 q3 q4 q5
 refine rw_ordF (S := fun b' => Mods noB w b') [(0, true), (1, true), (2, true), (3, true), (4, true), (5, true), (6, true), (7, false), (8, true), (9, true), (10, true), (11, true), (12, true), (13, true), (15, true), (16, true), (14, false), (17, false)] [] [(0, 8, 1024), (1, 1024, 2048), (2, 2048, 4096), (4, 4096, 8192), (8, 8224, 16384), (24, 24576, 32768), (8, 8200, 65536), (104, 106496, 131072), (136, 139264, 262144), (264, 270336, 524288), (640, 524288, 1048576), (1024, 1048592, 2097152), (1024, 1048608, 4194304), (5120, 5242880, 8388608), (9216, 9437184, 16777216), (1024, 1048608, 33554432), (33792, 34603008, 67108864), (82944, 68157440, 134217728)] (by kernel_rfl) (by kernel_rfl) (by kernel_rfl) (by kernel_rfl) (by kernel_rfl) MR.out ?_
 refine wpOrdT_free ((.slice at1 ts.length ct)) (some 10) ⟨by kernel_rfl, by kernel_rfl, by kernel_rfl⟩ (fun bb hb => of_load (x := (.tmp 3)) (by kernel_rfl) (by kernel_rfl) (load_c (Q2.out _ hb) Tryz.underlying91 rfl)) ?_
 refine wpOrdT_frees [1] [.int .i64 ((ts.length : Nat) : Int)] (rest := [(2, true), (3, true), (4, true), (5, true), (6, true), (7, false), (8, true), (9, true), (10, true), (11, true), (12, true), (13, true), (15, true), (16, true), (14, false), (17, false)]) (by kernel_rfl) (by kernel_rfl) (fun _ => by kernel_rfl) ?_
 refine wpOrdT_free (.bool true) (some 12) ⟨by kernel_rfl, by kernel_rfl, by kernel_rfl⟩ (fun bb hb => run_bin (t := 3) (t' := 3) (xv := .int .i64 ((ts.length : Nat) : Int)) (yv := .int .i64 0) (x := (.tmp 11)) (y := (.const (.int .i64 0))) (by kernel_rfl) (by kernel_rfl) (by kernel_rfl) (fun _ => by kernel_rfl) (run_gtr _ (decide_eq_true (by omega)))) ?_
 refine wpOrdT_frees [3, 4] [.bool true, .pointer (some ⟨x, 0, none⟩)] (rest := [(5, true), (6, true), (7, false), (8, true), (9, true), (10, true), (11, true), (12, true), (13, true), (15, true), (16, true), (14, false), (17, false)]) (by kernel_rfl) (by kernel_rfl) (fun _ => by kernel_rfl) ?_
 refine wpOrdT_free (u) (some 15) ⟨by kernel_rfl, by kernel_rfl, by kernel_rfl⟩ (fun bb hb => of_load (x := (.tmp 14)) (by kernel_rfl) (by kernel_rfl) (load_c (Q1.out _ hb) Tryz.underlying91 rfl)) ?_
 refine wpOrdT_free ((.slice at1 ts.length ct)) (some 16) ⟨by kernel_rfl, by kernel_rfl, by kernel_rfl⟩ (fun bb hb => of_load (x := (.tmp 3)) (by kernel_rfl) (by kernel_rfl) (load_c (Q2.out _ hb) Tryz.underlying91 rfl)) ?_
 refine wpOrdT_call (some 17) ⟨by kernel_rfl, by kernel_rfl, by kernel_rfl⟩ (Compare_any (HU.out.keep MR.out (fun _ _ x => x)) (HT.out.keep MR.out (fun _ _ x => x))) (fun _ => by kernel_rfl) ?_
 rintro r wc ⟨rfl, rfl⟩
 refine ⟨_, rfl, fun _ => MR.out, ?_⟩
 refine wpOrdT_free (.bool false) (some 18) ⟨by kernel_rfl, by kernel_rfl, by kernel_rfl⟩ (fun bb hb => run_bin (t := 3) (t' := 3) (xv := .int .i64 (Lib.compareBytes ks ts)) (yv := .int .i64 0) (x := (.tmp 17)) (y := (.const (.int .i64 0))) (by kernel_rfl) (by kernel_rfl) (by kernel_rfl) (fun _ => by kernel_rfl) (run_geq _ (decide_eq_false (by omega)))) ?_
 refine wpOrdT_frees [9, 10] [.bool false, .bool false] (rest := [(11, true), (12, true), (13, true), (15, true), (16, true), (14, false), (17, false)]) (by kernel_rfl) (by kernel_rfl) (fun _ => by kernel_rfl) ?_
 refine wpOrdT_free (.func (.yield l) #[] #[]) (some 21) ⟨by kernel_rfl, by kernel_rfl, by kernel_rfl⟩ (fun bb hb => of_load (x := (.tmp 4)) (by kernel_rfl) (by kernel_rfl) (load_c (Q4.out _ hb) Tryz.underlying150 rfl)) ?_
 refine wpOrdT_frees [12] [.pointer (some ⟨x, 0, none⟩)] (rest := [(13, true), (15, true), (16, true), (14, false), (17, false)]) (by kernel_rfl) (by kernel_rfl) (fun _ => by kernel_rfl) ?_
 refine wpOrdT_free (u) (some 23) ⟨by kernel_rfl, by kernel_rfl, by kernel_rfl⟩ (fun bb hb => of_load (x := (.tmp 22)) (by kernel_rfl) (by kernel_rfl) (load_c (Q1.out _ hb) Tryz.underlying91 rfl)) ?_
 refine wpOrdT_frees [15] [.pointer (some ⟨x, 1, none⟩)] (rest := [(16, true), (14, false), (17, false)]) (by kernel_rfl) (by kernel_rfl) (fun _ => by kernel_rfl) ?_
 refine wpOrdT_free (v) (some 26) ⟨by kernel_rfl, by kernel_rfl, by kernel_rfl⟩ (fun bb hb => of_load (x := (.tmp 25)) (by kernel_rfl) (by kernel_rfl) (load_c (Q6.out _ hb) Tryz.underlying91 rfl)) ?_
 refine wpOrdT_call (some 24) ⟨by kernel_rfl, by kernel_rfl, by kernel_rfl⟩ (owned_any (HU.out.keep MR.out (fun _ _ x => x)) (by omega)) (fun _ => by kernel_rfl) ?_
 rintro r wd1 ⟨d1, rfl, o1, n1, f1⟩
 have F1 := Lib.hid (f1.of MR.out.size)
 have S1 := MR.out.size
 replace MR := Lib.hid (MR.out.then0 n1)
 refine ⟨_, rfl, fun _ => MR.out, ?_⟩
 refine wpOrdT_call (some 27) ⟨by kernel_rfl, by kernel_rfl, by kernel_rfl⟩ (owned_any (HV.out.keep MR.out (fun _ _ x => x)) (by omega)) (fun _ => by kernel_rfl) ?_
 rintro r wd2 ⟨d2, rfl, o2, n2, f2⟩
 have F2 := Lib.hid (f2.of MR.out.size)
 have S2 := MR.out.size
 replace MR := Lib.hid (MR.out.then0 n2)
 refine ⟨_, rfl, fun _ => MR.out, ?_⟩
 exact wpOrdT_doneC (act_is (K := Q .normal) (by kernel_rfl) (HQ.out ((.slice at1 ts.length ct)) (.int .i64 ((ts.length : Nat) : Int)) (.bool true) (.bool true) (.pointer (some ⟨x, 0, none⟩)) (u) ((.slice at1 ts.length ct)) (.int .i64 (Lib.compareBytes ks ts)) (.bool false) (.bool false) (.pointer (some ⟨x, 0, none⟩)) (u) (.pointer (some ⟨x, 1, none⟩)) (v) d1 d2 _ (o1.keep n2 (fun _ _ x => x)) o2 F1.out F2.out (fun k hk hk2 => by have := o1.lt k hk; have := f2 k hk2; omega) MR.out))
set_option maxHeartbeats 1000000 in
theorem wkOwn {w : World} {bf bt : Nat} {fv tv : Value} {xs ts : List UInt8} {t1 t2 : TypeId} (q1 : w.heap[bf]? = some (.cells #[fv] t1 (0, 0))) (q2 : w.heap[bt]? = some (.cells #[tv] t2 (0, 0))) (hne : ¬ bf = bt) (hu : Rd w fv xs) (hv : Rd w tv ts) (lk : xs.length ≤ 140737488355328) (lv : ts.length ≤ 140737488355328) {x0 x1 x2 x3 x6 x7 x8 x9 x10 x11 : Value} {df : List Deferred} {Q : Exit → Act → World → Prop}
  (hK : ∀ (y7 y8 y9 y10 : Value) (d1 d2 : Value) (w' : World), w'.heap[bf]? = some (.cells #[d1] t1 (0, 0)) → w'.heap[bt]? = some (.cells #[d2] t2 (0, 0)) → Gl.Own w' d1 xs → Gl.Own w' d2 ts → freshIn w d1 → freshIn w d2 → Mods (fun k => k = bf ∨ k = bt) w w' → Q .normal ⟨#[x0, x1, x2, x3, .pointer (some ⟨bf, 0, none⟩), .pointer (some ⟨bt, 0, none⟩), x6, y7, y8, y9, y10, x11], df⟩ w') : RW Tryz.prog (opsC 1 Tryz.f91) true Q ⟨#[x0, x1, x2, x3, .pointer (some ⟨bf, 0, none⟩), .pointer (some ⟨bt, 0, none⟩), x6, x7, x8, x9, x10, x11], df⟩ w := by
 have HQ := Lib.hid hK
 clear hK
 have HU := Lib.hid hu
 have HV := Lib.hid hv
 have Q1 := Lib.hid (fun b' (hm : Mods noB w b') => show b'.cell? ⟨bf, 0, none⟩ = some fv from cells_of (hm.heap q1 (fun x => x)) 0)
 have Q2 := Lib.hid (fun b' (hm : Mods noB w b') => show b'.cell? ⟨bt, 0, none⟩ = some tv from cells_of (hm.heap q2 (fun x => x)) 0)
 clear hu hv
 have MR := Lib.hid ((Mods.refl noB w).drew)
 refine rw_ordT (S := fun b' => Mods noB w b') [(0, true), (2, true), (1, false), (3, false), (4, false), (5, false)] [4, 5] (by kernel_rfl) (by kernel_rfl) (by kernel_rfl) (by kernel_rfl) MR.out ?_
 refine wpOrdT_free (fv) (some 7) ⟨by kernel_rfl, by kernel_rfl, by kernel_rfl⟩ (fun bb hb => of_load (x := (.tmp 4)) (by kernel_rfl) (by kernel_rfl) (load_c (Q1.out _ hb) Tryz.underlying91 rfl)) ?_
 refine wpOrdT_free (tv) (some 9) ⟨by kernel_rfl, by kernel_rfl, by kernel_rfl⟩ (fun bb hb => of_load (x := (.tmp 5)) (by kernel_rfl) (by kernel_rfl) (load_c (Q2.out _ hb) Tryz.underlying91 rfl)) ?_
 refine wpOrdT_call (some 8) ⟨by kernel_rfl, by kernel_rfl, by kernel_rfl⟩ (owned_any (HU.out.keep MR.out (fun _ _ x => x)) lk) (fun _ => by kernel_rfl) ?_
 rintro r wd1 ⟨d1, rfl, o1, n1, f1⟩
 have F1 := Lib.hid (f1.of MR.out.size)
 replace MR := Lib.hid (MR.out.then0 n1)
 obtain ⟨ad1, cd1, ed1, _⟩ := o1.rd.form
 have od1 : d1.oneCell' = true := by rw [ed1]; rfl
 refine ⟨_, rfl, fun _ => MR.out, ?_⟩
 refine wpOrdT_call (some 10) ⟨by kernel_rfl, by kernel_rfl, by kernel_rfl⟩ (owned_any (HV.out.keep MR.out (fun _ _ x => x)) lv) (fun _ => by kernel_rfl) ?_
 rintro r wd2 ⟨d2, rfl, o2, n2, f2⟩
 have F2 := Lib.hid (f2.of MR.out.size)
 replace MR := Lib.hid (MR.out.then0 n2)
 obtain ⟨ad2, cd2, ed2, _⟩ := o2.rd.form
 have od2 : d2.oneCell' = true := by rw [ed2]; rfl
 refine ⟨_, rfl, fun _ => MR.out, ?_⟩
 have hb1 := MR.out.heap q1 (fun x => x)
 have hb2 := MR.out.heap q2 (fun x => x)
 refine wpOrdT_st1 (ty := 91) (x := (.tmp 4)) (y := (.tmp 8)) (g := bf) (off := 0) (v := d1) none ⟨by kernel_rfl, by kernel_rfl, by kernel_rfl⟩ (by kernel_rfl) (by kernel_rfl) (by kernel_rfl) (by kernel_rfl) (by rw [cells_of hb1]; rfl) (free_of hb1 _) od1 ?_
 intro w91 hw91
 refine ⟨(fun h => by cases h), ?_⟩
 have m91 : Mods (fun k => k = bf) wd2 w91 := by rw [hw91]; exact (Mods.refl (fun k => k = bf) wd2).setCell (p := ⟨bf, 0, none⟩) (.inl rfl) d1
 have hc1 : w91.heap[bf]? = some (.cells #[d1] t1 (0, 0)) := by rw [hw91]; exact heap_set hb1 0 d1
 have hc2 := m91.heap hb2 (fun e => hne e.symm)
 refine wpOrdT_st1 (ty := 91) (x := (.tmp 5)) (y := (.tmp 10)) (g := bt) (off := 0) (v := d2) none ⟨by kernel_rfl, by kernel_rfl, by kernel_rfl⟩ (by kernel_rfl) (by kernel_rfl) (by kernel_rfl) (by kernel_rfl) (by rw [cells_of hc2]; rfl) (free_of hc2 _) od2 ?_
 intro w92 hw92
 refine ⟨(fun h => by cases h), ?_⟩
 have m92 : Mods (fun k => k = bt) w91 w92 := by rw [hw92]; exact (Mods.refl (fun k => k = bt) w91).setCell (p := ⟨bt, 0, none⟩) (.inl rfl) d2
 have he2 : w92.heap[bt]? = some (.cells #[d2] t2 (0, 0)) := by rw [hw92]; exact heap_set hc2 0 d2
 have he1 := m92.heap hc1 hne
 have hbl := lt_of_heap q1
 have htl := lt_of_heap q2
 have p1 := ((o1.keep n2 (fun _ _ x => x)).keep m91 (fun k hk e => by have := F1.out k hk; omega)).keep m92 (fun k hk e => by have := F1.out k hk; omega)
 have p2 := (o2.keep m91 (fun k hk e => by have := F2.out k hk; omega)).keep m92 (fun k hk e => by have := F2.out k hk; omega)
 have pm := (MR.out.trans m91 (U := fun k => k = bf ∨ k = bt) (fun _ _ x => x.elim) (fun _ _ x => .inl x)).trans m92 (U := fun k => k = bf ∨ k = bt) (fun _ _ x => x) (fun _ _ x => .inr x)
 exact wpOrdT_doneC (act_is (K := Q .normal) (by kernel_rfl) (HQ.out (fv) (d1) (tv) (d2) d1 d2 w92 he1 he2 p1 p2 F1.out F2.out pm))
open Go.Gl Go.RowKit
def rest (R : List PV) (p i : Nat) : List EV := ((R.drop p).flatMap (·.es)).drop i
def risL (R : List PV) (xs : List UInt8) : List EV := rest R (findP (pgs R) xs).1 (findP (pgs R) xs).2.1
theorem rest_in {R : List PV} {p i : Nat} (hp : p < R.length) (hi : i ≤ (R[p]).es.length) : rest R p i = (R[p]).es.drop i ++ rest R (p + 1) 0 := by
 unfold rest
 rw [List.drop_eq_getElem_cons hp, List.flatMap_cons, List.drop_append_of_le_length hi, List.drop_zero]
theorem rest_end {R : List PV} {p i : Nat} (hp : R.length ≤ p) : rest R p i = [] := by
 unfold rest
 rw [List.drop_of_length_le hp]; simp
theorem rest_cons {R : List PV} {p i : Nat} (hp : p < R.length) (hi : i < (R[p]).es.length) : rest R p i = (R[p]).es[i] :: rest R p (i + 1) := by
 rw [rest_in hp (Nat.le_of_lt hi), rest_in hp hi, List.drop_eq_getElem_cons hi, List.cons_append]
theorem rest_next {R : List PV} {p : Nat} (hp : p < R.length) : rest R p (R[p]).es.length = rest R (p + 1) 0 := by
 rw [rest_in hp (Nat.le_refl _), List.drop_of_length_le (Nat.le_refl _), List.nil_append]
def URis (g : Nat) (vo : Value) (R : List PV) (m bf : Nat) (fv : Value) (k : Nat) : Prop := MS g vo R k ∨ MD R k ∨ k = m ∨ k = bf ∨ fv.ownBlock = some k
def ARis (R : List PV) (xs : List UInt8) (i : Nat) (_ : Nat → Prop) (args : Array Value) (_ : World) : Prop := ∃ e, (risL R xs)[i]? = some e ∧ args = #[.agg #[e.kv, e.vv]]
theorem argB_agg {vs : Array Value} {k : Nat} (h : argB #[.agg vs] k) : False := by
 obtain ⟨v, hv, hk⟩ := h
 have : v = .agg vs := by simpa using hv
 rw [this] at hk
 simp [Value.ownBlock] at hk
structure RisPre (w : World) (g : Nat) (vo : Value) (R : List PV) (m bf : Nat) (fv : Value) (xs : List UInt8) : Prop where
 pm : PM w g vo R
 bm : ∃ t, w.heap[m]? = some (.cells #[.pointer (some ⟨g, 0, none⟩)] t (0, 0))
 bfr : ∃ t, w.heap[bf]? = some (.cells #[fv] t (0, 0))
 fr : Gl.Own w fv xs
theorem RisPre.keep {w w' : World} {g : Nat} {vo : Value} {R : List PV} {m bf : Nat} {fv : Value} {xs : List UInt8} (h : RisPre w g vo R m bf fv xs) (hm : Mods (fun k => ¬ URis g vo R m bf fv k) w w') : RisPre w' g vo R m bf fv xs := by
 obtain ⟨t1, h1⟩ := h.bm
 obtain ⟨t2, h2⟩ := h.bfr
 exact ⟨h.pm.keep hm (fun k hk x => x (.inl hk)) (fun k hk x => x (.inr (.inl hk))), ⟨t1, hm.heap h1 (fun x => x (.inr (.inr (.inl rfl))))⟩, ⟨t2, hm.heap h2 (fun x => x (.inr (.inr (.inr (.inl rfl)))))⟩, h.fr.keep hm (fun k hk x => x (.inr (.inr (.inr (.inr hk)))))⟩
theorem RisPre.lt {w : World} {g : Nat} {vo : Value} {R : List PV} {m bf : Nat} {fv : Value} {xs : List UInt8} (h : RisPre w g vo R m bf fv xs) : ∀ k, URis g vo R m bf fv k → k < w.heap.size := by
 obtain ⟨t1, h1⟩ := h.bm
 obtain ⟨t2, h2⟩ := h.bfr
 rintro k (hk | hk | rfl | rfl | hk)
 ·exact h.pm.lt k hk
 ·exact h.pm.dlt k hk
 ·exact lt_of_heap h1
 ·exact lt_of_heap h2
 ·exact h.fr.lt k hk
set_option maxHeartbeats 4000000 in
theorem rising_iter {w : World} {g : Nat} {vo : Value} {R : List PV} {m bf : Nat} {fv : Value} {xs : List UInt8} (h : RisPre w g vo R m bf fv xs) (ok : PgOk (pgs R)) (hn : R.length ≤ 1000000) :
  Iter Tryz.prog 223 #[.pointer (some ⟨m, 0, none⟩), .pointer (some ⟨bf, 0, none⟩)] (risL R xs).length (ARis R xs) (URis g vo R m bf fv) noB w := by
 intro l J Jx W hW hJ hJx hY h0
 have pre := h.keep hW
 obtain ⟨SZ, hSZ⟩ : ∃ SZ, W.heap.size = SZ := ⟨_, rfl⟩
 rw [hSZ] at hY
 have hs0 : SZ ≤ W.heap.size := Nat.le_of_eq hSZ.symm
 clear h hW hSZ
 have hlen : ∀ q ∈ R, q.es.length ≤ 32 := fun q hq => by
  have := ok.most (ents q.es) (List.mem_map_of_mem (f := fun p => ents p.es) hq)
  rwa [ents_length] at this
 have hne : ∀ q ∈ R, q.es ≠ [] := fun q hq e => by
  have := ok.ne (ents q.es) (List.mem_map_of_mem (f := fun p => ents p.es) hq)
  rw [e] at this
  exact this rfl
 -- what holds between two rounds
 have keepJ : ∀ i A B, J i (URis g vo R m bf fv) A → RisPre A g vo R m bf fv xs → Mods noB A B → J i (URis g vo R m bf fv) B := fun i A B hj hp hm => hJ i _ _ A B hj (hm.mono (fun _ _ x => x.elim)) hp.lt (fun k hk => .inl hk)
 have keepX : ∀ i A B, Jx i (URis g vo R m bf fv) A → RisPre A g vo R m bf fv xs → Mods noB A B → Jx i (URis g vo R m bf fv) B := fun i A B hj hp hm => hJx i _ _ A B hj (hm.mono (fun _ _ x => x.elim)) hp.lt (fun k hk => .inl hk)
 obtain ⟨tm, hbm⟩ := pre.bm
 obtain ⟨tf, hbf⟩ := pre.bfr
 obtain ⟨ao, cap, hvo, _⟩ := (OwnG.rd pre.pm.row).form
 have c1 : W.cell? ⟨m, 0, none⟩ = some (.pointer (some ⟨g, 0, none⟩)) := cells_of hbm 0
 have c2 : W.cell? ⟨g, 0, none⟩ = some (.slice ao R.length cap) := by rw [← hvo]; exact cells_of pre.pm.hg 0
 by_cases hR : R = []
 ·have hz : R.length = 0 := by rw [hR]; rfl
  have hr0 : risL R xs = [] := by rw [hR]; rfl
  (refine calls_in _ Tryz.func223 rfl ?_; simp only [Tryz.ntmps223, List.size_toArray, List.length_cons, List.length_nil, Nat.reduceAdd, Nat.reduceSub, Array.replicate_succ, Array.replicate_zero, List.push_toArray, List.append_toArray, List.nil_append, List.cons_append])
  refine wpIn_seq ?_
  refine wpIn_seq ?_
  refine wpIn_tl (d := .region 0 (opsC 0 Tryz.f223) false) (by kernel_rfl) ?_
  refine RW.wpIn (ris0e c1 c2 hz ?_) (by kernel_rfl)
  intros
  rename_i hw
  subst hw
  refine then_n ?_
  refine wpIn_cond_true rfl ?_
  refine wpIn_ret ?_
  repeat (refine then_r ?_)
  refine bodyPost_ret (results_none rfl _ _ _) rfl ?_
  refine ⟨⟨_, rfl⟩, .inl ⟨_, ?_, pre.lt⟩⟩
  rw [hr0]
  exact h0
 ·obtain ⟨hp0, hi0⟩ := lies_at (ys := xs) hR
  obtain ⟨b, off, rfl⟩ : ∃ b off, ao = some ⟨b, off, none⟩ := by
   rcases pre.pm.open with ⟨h1, _⟩ | ⟨b, off, cp, hv, _, _, _⟩
   ·exact absurd h1 hR
   ·rw [hvo] at hv; cases hv; exact ⟨_, _, rfl⟩
  have hne' : pgs R ≠ [] := fun h => hR (by cases R with | nil => rfl | cons a b => simp [pgs] at h)
  have HP := Lib.hid (fun (wr : World) (hp : RisPre wr g vo R m bf fv xs) => pageOf_any hp.pm hp.fr.rd ok hn)
  have PL := Lib.hid (fun (wr : World) (hp : RisPre wr g vo R m bf fv xs) (p : Nat) (hlt : p < R.length) => place_any (hp.pm.page (List.getElem_mem hlt)) hp.fr.rd (by have := ok.page (i := p) (by rw [pgs_length]; exact hlt); simpa [pgs] using this) (by have := hlen _ (List.getElem_mem hlt); omega))
  have hfind := findP_ne hne' xs
  have hrl : risL R xs = rest R (findP (pgs R) xs).1 (findP (pgs R) xs).2.1 := rfl
  generalize findP (pgs R) xs = F at *
  obtain ⟨P, I, B⟩ := F
  simp only at hp0 hi0 hrl
  have hF1 : P = pgOf (pgs R) xs := congrArg Prod.fst hfind
  have hF2 : I = plOf (ents (R[P]).es) xs := by
   have := congrArg (fun x => x.2.1) hfind
   simp only at this
   rw [← hF1, pgs_getD hp0] at this
   exact this
  have keepM : ∀ A B, RisPre A g vo R m bf fv xs → Mods noB A B → RisPre B g vo R m bf fv xs := fun A B hp hm => hp.keep (hm.mono (fun _ _ x => x.elim))
  -- the cells
  have k1 : ∀ wr, RisPre wr g vo R m bf fv xs → wr.cell? ⟨m, 0, none⟩ = some (.pointer (some ⟨g, 0, none⟩)) := fun wr hp => by obtain ⟨t, h⟩ := hp.bm; exact cells_of h 0
  have k2 : ∀ wr, RisPre wr g vo R m bf fv xs → wr.cell? ⟨g, 0, none⟩ = some (.slice (some ⟨b, off, none⟩) R.length cap) := fun wr hp => by rw [← hvo]; exact cells_of hp.pm.hg 0
  have k3 : ∀ wr, RisPre wr g vo R m bf fv xs → wr.cell? ⟨bf, 0, none⟩ = some fv := fun wr hp => by obtain ⟨t, h⟩ := hp.bfr; exact cells_of h 0
  have k4 : ∀ wr, RisPre wr g vo R m bf fv xs → ∀ p (hp : p < R.length), wr.cell? ⟨b, off + p, none⟩ = some (R[p]).pv := fun wr hp p hlt => by have := hp.pm; rw [hvo] at this; exact this.rowcell (Mods.refl noB wr) hlt
  have KK := Lib.hid (And.intro k1 (And.intro k2 (And.intro k3 k4)))
  clear k1 k2 k3 k4 hfind c1 hbm hbf
  (refine calls_in _ Tryz.func223 rfl ?_; simp only [Tryz.ntmps223, List.size_toArray, List.length_cons, List.length_nil, Nat.reduceAdd, Nat.reduceSub, Array.replicate_succ, Array.replicate_zero, List.push_toArray, List.append_toArray, List.nil_append, List.cons_append])
  refine wpIn_seq ?_
  refine wpIn_seq ?_
  refine wpIn_tl (d := .region 0 (opsC 0 Tryz.f223) false) (by kernel_rfl) ?_
  refine RW.wpIn (ris0n (KK.out.1 _ pre) c2 (fun h => hR (List.length_eq_zero_iff.1 h)) ?_) (by kernel_rfl)
  intros
  rename_i hw
  subst hw
  refine then_n ?_
  refine wpIn_cond_false rfl ?_
  refine wpIn_skip ?_
  refine then_n ?_
  refine wpIn_seq ?_
  refine wpIn_tl (d := .region 1 (opsC 1 Tryz.f223) false) (by kernel_rfl) ?_
  refine RW.wpIn (ris1 (KK.out.1 _ pre) (KK.out.2.2.1 _ pre) (HP.out _ pre) ?_) (by kernel_rfl)
  intros
  rename_i w1 m1
  have pre1 := keepM _ _ pre m1
  have h1 := keepJ _ _ _ h0 pre m1
  clear h0 pre c2
  rw [← hF1]
  refine then_n ?_
  refine wpIn_seq ?_
  obtain ⟨ap, pc, hpv, _⟩ := (pre1.pm.page (List.getElem_mem hp0)).row.form
  refine wpIn_tl (d := .region 2 (opsC 2 Tryz.f223) true) (by kernel_rfl) ?_
  refine RW.wpIn (ris2 (fun b' hb => KK.out.1 _ (keepM _ _ pre1 hb)) (fun b' hb => KK.out.2.1 _ (keepM _ _ pre1 hb)) (fun b' hb => (KK.out.2.2.2 _ (keepM _ _ pre1 hb) P hp0).trans (congrArg some hpv)) (fun b' hb => KK.out.2.2.1 _ (keepM _ _ pre1 hb)) hp0 (fun b' hb => by have := PL.out _ (keepM _ _ pre1 hb) P hp0; rw [hpv] at this; exact this) ?_) (by kernel_rfl)
  intros
  rename_i w2 m2
  have pre2 := keepM _ _ pre1 m2
  have h2 := keepJ _ _ _ h1 pre1 m2
  have hs2 := Nat.le_trans hs0 (Nat.le_trans m1.size m2.size)
  clear h1 pre1 m1 m2
  rw [← hF2]
  refine then_n ?_
  refine wpIn_block ?_
  refine wpIn_loop (fun a wr => ∃ p i j : Nat, FrR [] (.func (.yield l) #[] #[]) (.pointer (some ⟨m, 0, none⟩)) (.pointer (some ⟨bf, 0, none⟩)) (.int .i64 ((p : Nat) : Int)) (.int .i64 ((i : Nat) : Int)) a ∧ p ≤ R.length ∧ (∀ hp : p < R.length, i ≤ (R[p]).es.length) ∧ j ≤ (risL R xs).length ∧ (risL R xs).drop j = rest R p i ∧ J j (URis g vo R m bf fv) wr ∧ RisPre wr g vo R m bf fv xs ∧ SZ ≤ wr.heap.size)
   (fun a _ => R.length - (intOf (a.tmps.getD 4 undef)).toNat) ⟨P, I, 0, FrR.mk, Nat.le_of_lt hp0, fun _ => hi0, Nat.zero_le _, by rw [List.drop_zero, hrl], h2, pre2, hs2⟩ ?_
  clear h2 pre2 hs2
  rintro a wr ⟨p, i, j, hfr, hpl, hil, hjl, hdj, hJj, hpre, hws⟩
  have g4 : a.tmps.getD 4 undef = .int .i64 ((p : Nat) : Int) := hfr.elim (C := fun a => a.tmps.getD 4 undef = .int .i64 ((p : Nat) : Int)) (by intros; rfl)
  refine hfr.elim (C := fun a => Code.wpIn _ _ _ _ _ a _) ?_
  intros
  refine wpIn_seq ?_
  refine wpIn_seq ?_
  refine wpIn_tl (d := .region 3 (opsC 3 Tryz.f223) false) (by kernel_rfl) ?_
  by_cases hlt : p < R.length
  ·have hil := hil hlt
   have hmem := List.getElem_mem hlt
   obtain ⟨pb, po, pc1, hpv1, ob1⟩ := hpre.pm.pageOB hmem (hne _ hmem)
   refine RW.wpIn (ris3t (KK.out.1 _ hpre) (KK.out.2.1 _ hpre) hlt ?_) (by kernel_rfl)
   intros
   rename_i hw
   subst hw
   refine then_n ?_
   refine wpIn_cond_true rfl ?_
   refine wpIn_skip ?_
   refine then_n ?_
   refine wpIn_seq ?_
   refine wpIn_block ?_
   refine wpIn_block ?_
   refine wpIn_loop (fun a wr => ∃ i j : Nat, FrR [] (.func (.yield l) #[] #[]) (.pointer (some ⟨m, 0, none⟩)) (.pointer (some ⟨bf, 0, none⟩)) (.int .i64 ((p : Nat) : Int)) (.int .i64 ((i : Nat) : Int)) a ∧ i ≤ (R[p]).es.length ∧ j ≤ (risL R xs).length ∧ (risL R xs).drop j = rest R p i ∧ J j (URis g vo R m bf fv) wr ∧ RisPre wr g vo R m bf fv xs ∧ SZ ≤ wr.heap.size)
    (fun a _ => (R[p]).es.length - (intOf (a.tmps.getD 5 undef)).toNat) ⟨i, j, FrR.mk, hil, hjl, hdj, hJj, hpre, hws⟩ ?_
   clear hil hjl hdj hJj hpre ob1 hpv1 hws
   rintro a5 wr ⟨i, j, hfr, hil, hjl, hdj, hJj, hpre, hws⟩
   have g5 : a5.tmps.getD 5 undef = .int .i64 ((i : Nat) : Int) := hfr.elim (C := fun a => a.tmps.getD 5 undef = .int .i64 ((i : Nat) : Int)) (by intros; rfl)
   obtain ⟨pb, po, pc1, hpv1, ob1⟩ := hpre.pm.pageOB hmem (hne _ hmem)
   refine hfr.elim (C := fun a => Code.wpIn _ _ _ _ _ a _) ?_
   intros
   refine wpIn_seq ?_
   refine wpIn_seq ?_
   refine wpIn_tl (d := .region 5 (opsC 5 Tryz.f223) false) (by kernel_rfl) ?_
   have c3 := (KK.out.2.2.2 _ hpre p hlt).trans (congrArg some hpv1)
   by_cases hin : i < (R[p]).es.length
   ·refine RW.wpIn (ris5t (KK.out.1 _ hpre) (KK.out.2.1 _ hpre) c3 hlt hin ?_) (by kernel_rfl)
    intros
    rename_i hw
    subst hw
    refine then_n ?_
    refine wpIn_cond_true rfl ?_
    refine wpIn_skip ?_
    refine then_n ?_
    refine wpIn_seq ?_
    refine wpIn_block ?_
    refine wpIn_seq ?_
    refine wpIn_tl (d := .region 7 (opsC 7 Tryz.f223) false) (by kernel_rfl) ?_
    have hcs := ecell_get (R[p]).es i hin
    have hjlt : j < (risL R xs).length := by
     rcases Nat.lt_or_ge j (risL R xs).length with h | h
     ·exact h
     ·rw [List.drop_of_length_le h, rest_cons hlt hin] at hdj; cases hdj
    have hdj' := hdj
    rw [rest_cons hlt hin, List.drop_eq_getElem_cons hjlt] at hdj'
    obtain ⟨hd1, hd2⟩ := List.cons.inj hdj'
    refine wpIn_region_yieldA (Q1 := fun _ a' w' => wpOpsIn _ _ _ _ _ _ a' w') 11 (by kernel_rfl) (ris7 (KK.out.1 _ hpre) (KK.out.2.1 _ hpre) c3 (by have := ob1.cell hcs.1; exact this) (by have := ob1.cell hcs.2; rw [Nat.add_assoc]; exact this) hlt hin ?_) (fun _ _ h => h)
    intros
    rename_i hw
    subst hw
    have hY1 := hY j (URis g vo R m bf fv) #[.agg #[((R[p]).es[i]).kv, ((R[p]).es[i]).vv]] _ hjlt hJj ⟨(R[p]).es[i], by rw [List.getElem?_eq_getElem hjlt, hd1], rfl⟩ hpre.lt hws (hJ _ _ _ _ _ hJj (Mods.refl _ _) hpre.lt (fun k hk => .inl (hk.elim id (fun h => (argB_agg h).elim)))) (fun k hk => (argB_agg hk).elim)
    refine wpOpsIn_yield (some 60) ⟨by kernel_rfl, by kernel_rfl, by kernel_rfl⟩ (by kernel_rfl) (by kernel_rfl) hY1 ?_
    rintro e w3 (⟨rfl, hJ3, m3⟩ | ⟨rfl, hJ3, m3⟩)
    ·have pre3 := hpre.keep m3
     refine ⟨_, rfl, ?_⟩
     refine wpOpsIn_val (.bool false) (some 61) ⟨by kernel_rfl, by kernel_rfl, by kernel_rfl⟩ (by kernel_rfl) (by kernel_rfl) ?_
     refine then_n ?_
     refine wpIn_cond_false rfl ?_
     refine wpIn_skip ?_
     refine block_n ?_
     refine then_n ?_
     refine wpIn_tl (d := .region 6 (opsC 6 Tryz.f223) false) (by kernel_rfl) ?_
     refine RW.wpIn (ris6 (by have := hlen _ hmem; omega) ?_) (by kernel_rfl)
     intros
     rename_i hw
     subst hw
     refine then_n ?_
     refine ⟨⟨i + 1, j + 1, FrR.mk, hin, hjlt, hd2, hJ3, pre3, Nat.le_trans hws m3.size⟩, ?_⟩
     rw [g5]
     show (R[p]).es.length - (i + 1) < (R[p]).es.length - i
     omega
    ·have pre3 := hpre.keep m3
     refine ⟨_, rfl, ?_⟩
     refine wpOpsIn_val (.bool true) (some 61) ⟨by kernel_rfl, by kernel_rfl, by kernel_rfl⟩ (by kernel_rfl) (by kernel_rfl) ?_
     refine then_n ?_
     refine wpIn_cond_true rfl ?_
     refine wpIn_ret ?_
     repeat (first | refine then_r ?_ | refine block_r ?_)
     refine bodyPost_ret (results_none rfl _ _ _) rfl ?_
     exact ⟨⟨_, rfl⟩, .inr ⟨j, _, hjlt, hJ3, pre3.lt⟩⟩
   ·obtain rfl : i = (R[p]).es.length := by omega
    refine RW.wpIn (ris5f (KK.out.1 _ hpre) (KK.out.2.1 _ hpre) c3 hlt hin ?_) (by kernel_rfl)
    intros
    rename_i hw
    subst hw
    refine then_n ?_
    refine wpIn_cond_false rfl ?_
    refine wpIn_exit ?_
    repeat (refine then_x ?_)
    refine block_x ?_
    refine block_n ?_
    refine then_n ?_
    refine wpIn_tl (d := .region 4 (opsC 4 Tryz.f223) false) (by kernel_rfl) ?_
    refine RW.wpIn (ris4 (by omega) ?_) (by kernel_rfl)
    intros
    rename_i hw
    subst hw
    refine then_n ?_
    refine ⟨⟨p + 1, 0, j, FrR.mk, hlt, fun _ => Nat.zero_le _, hjl, by rw [hdj, rest_next hlt], hJj, hpre, hws⟩, ?_⟩
    rw [g4]
    show R.length - (p + 1) < R.length - p
    omega
  ·refine RW.wpIn (ris3f (KK.out.1 _ hpre) (KK.out.2.1 _ hpre) hlt ?_) (by kernel_rfl)
   intros
   rename_i hw
   subst hw
   refine then_n ?_
   refine wpIn_cond_false rfl ?_
   refine wpIn_exit ?_
   repeat (refine then_x ?_)
   refine block_x ?_
   refine bodyPost_end (results_none rfl _ _ _) rfl ?_
   have hj : j = (risL R xs).length := by
    rw [rest_end (by omega)] at hdj
    have := List.drop_eq_nil_iff.1 hdj
    omega
   subst hj
   exact ⟨⟨_, rfl⟩, .inl ⟨_, hJj, hpre.lt⟩⟩
open Go.Gl Go.RowKit
def under (ts : List UInt8) (e : EV) : Bool := ts.isEmpty || lessB e.k ts
def wkL (R : List PV) (xs ts : List UInt8) : List EV := (risL R xs).takeWhile (under ts)
theorem wkL_le (R : List PV) (xs ts : List UInt8) : (wkL R xs ts).length ≤ (risL R xs).length := List.Sublist.length_le (List.takeWhile_sublist _)
theorem takeWhile_get {α : Type} (p : α → Bool) (l : List α) : ∀ (i : Nat) (e : α), i ≤ (l.takeWhile p).length → l[i]? = some e → (p e = true ↔ i < (l.takeWhile p).length) ∧ (i < (l.takeWhile p).length → (l.takeWhile p)[i]? = some e) := by
  induction l with
  | nil => intro i e _ h; simp at h
  | cons a l ih =>
    intro i e hi he
    rw [List.takeWhile_cons] at hi ⊢
    cases hp : p a with
    | true =>
      rw [hp] at hi
      simp only [if_true] at hi ⊢
      rcases i with _ | i
      · obtain rfl : a = e := by simpa using he
        exact ⟨⟨fun _ => by simp, fun _ => hp⟩, fun _ => rfl⟩
      · obtain ⟨h1, h2⟩ := ih i e (by simpa using hi) (by simpa using he)
        exact ⟨⟨fun h => (by have := h1.1 h; simp; omega), fun h => h1.2 (by simpa using h)⟩, fun h => (by simpa using h2 (by simpa using h))⟩
    | false =>
      rw [hp] at hi
      simp only [Bool.false_eq_true, if_false, List.length_nil, Nat.le_zero] at hi ⊢
      subst hi
      obtain rfl : a = e := by simpa using he
      exact ⟨⟨fun h => (by rw [hp] at h; cases h), fun h => (by omega)⟩, fun h => (by omega)⟩
def AWk (B : Nat) (L : List EV) (i : Nat) (U : Nat → Prop) (args : Array Value) (W : World) : Prop :=
 ∃ e kv vv, L[i]? = some e ∧ args = #[kv, vv] ∧ Gl.Own W kv e.k ∧ Gl.Own W vv e.v ∧ (∀ k, kv.ownBlock = some k → ¬ U k) ∧ (∀ k, vv.ownBlock = some k → ¬ U k) ∧ (∀ k, kv.ownBlock = some k → vv.ownBlock ≠ some k) ∧ (∀ k, kv.ownBlock = some k → B ≤ k) ∧ (∀ k, vv.ownBlock = some k → B ≤ k)
theorem own_cells {W : World} {v : Value} {xs : List UInt8} (h : Gl.Own W v xs) {k : Nat} (hk : v.ownBlock = some k) : ∃ o, W.heap[k]? = some o ∧ o.isCells = true := by
 rcases h.2 with ⟨rfl, _⟩ | ⟨g, off, cap, cur, rfl, hg, _⟩
 ·simp [Value.ownBlock] at hk
 ·simp [Value.ownBlock] at hk
  subst hk
  exact ⟨_, hg, rfl⟩
theorem argsOk_wk (B : Nat) (L : List EV) : ArgsOk (AWk B L) := by
 rintro i U args W l o ⟨e, kv, vv, h1, h2, h3, h4, h5, h6, h7, h8, h9⟩ hl hc
 have key : ∀ {v : Value} {xs : List UInt8}, Gl.Own W v xs → v.ownBlock ≠ some l := fun h hk => by
  obtain ⟨o', ho, hc'⟩ := own_cells h hk
  rw [hl] at ho
  cases ho
  rw [hc] at hc'
  cases hc'
 exact ⟨e, kv, vv, h1, h2, h3, h4, fun k hk hu => by rcases hu with hu | rfl; exact h5 k hk hu; exact key h3 hk, fun k hk hu => by rcases hu with hu | rfl; exact h6 k hk hu; exact key h4 hk, h7, h8, h9⟩
theorem argsOk_ris (R : List PV) (xs : List UInt8) : ArgsOk (ARis R xs) := fun i U args W l o h _ _ => h
theorem argB_two {a b : Value} {k : Nat} (h : argB #[a, b] k) : a.ownBlock = some k ∨ b.ownBlock = some k := by
 obtain ⟨v, hv, hk⟩ := h
 have : v = a ∨ v = b := by simpa using hv
 rcases this with rfl | rfl
 ·exact .inl hk
 ·exact .inr hk
def UWk (g : Nat) (vo : Value) (R : List PV) (m bf bt : Nat) (fv tv : Value) (k : Nat) : Prop := URis g vo R m bf fv k ∨ k = bt ∨ tv.ownBlock = some k
structure WkPre (w : World) (g : Nat) (vo : Value) (R : List PV) (m bf bt : Nat) (fv tv : Value) (xs ts : List UInt8) : Prop where
 ris : RisPre w g vo R m bf fv xs
 bt : ∃ t, w.heap[bt]? = some (.cells #[tv] t (0, 0))
 tv : Gl.Own w tv ts
theorem WkPre.keep {w w' : World} {g : Nat} {vo : Value} {R : List PV} {m bf bt : Nat} {fv tv : Value} {xs ts : List UInt8} (h : WkPre w g vo R m bf bt fv tv xs ts) (hm : Mods (fun k => ¬ UWk g vo R m bf bt fv tv k) w w') : WkPre w' g vo R m bf bt fv tv xs ts := by
 obtain ⟨t1, h1⟩ := h.bt
 exact ⟨h.ris.keep (hm.mono (fun k _ hk x => hk (.inl x))), ⟨t1, hm.heap h1 (fun x => x (.inr (.inl rfl)))⟩, h.tv.keep hm (fun k hk x => x (.inr (.inr hk)))⟩
theorem WkPre.lt {w : World} {g : Nat} {vo : Value} {R : List PV} {m bf bt : Nat} {fv tv : Value} {xs ts : List UInt8} (h : WkPre w g vo R m bf bt fv tv xs ts) : ∀ k, UWk g vo R m bf bt fv tv k → k < w.heap.size := by
 obtain ⟨t1, h1⟩ := h.bt
 rintro k (hk | rfl | hk)
 ·exact h.ris.lt k hk
 ·exact lt_of_heap h1
 ·exact h.tv.lt k hk
def RisRes (w : World) (g : Nat) (fv : Value) (m bf : Nat) (w' : World) : Prop :=
 (∃ t, w'.heap[m]? = some (.cells #[.pointer (some ⟨g, 0, none⟩)] t (0, 0))) ∧ (∃ t, w'.heap[bf]? = some (.cells #[fv] t (0, 0))) ∧ Mods noB w w' ∧ w.heap.size ≤ m ∧ w.heap.size ≤ bf
theorem Rising_any {w : World} {g : Nat} {fv : Value} {xs : List UInt8} (hf : Rd w fv xs) :
  Calls Tryz.prog 160 #[.pointer (some ⟨g, 0, none⟩), fv] w fun e w' => ∃ m bf : Nat, e = .returned (.func (.func 223) #[] #[.pointer (some ⟨m, 0, none⟩), .pointer (some ⟨bf, 0, none⟩)]) ∧ RisRes w g fv m bf w' := by
 obtain ⟨a, c, rfl, _⟩ := hf.form
 clear hf
 go_enter Tryz.func160, Tryz.ntmps160
 go_wp2
 go_ret
 refine ⟨_, _, rfl, ⟨129, heap_old (heap_new w _) _⟩, ⟨91, ?_⟩, ((Mods.refl noB w).alloc _).alloc _, Nat.le_refl _, by omega⟩
 have := heap_new (w.alloc (.cells #[.pointer (some ⟨g, 0, none⟩)] 129)) (.cells #[.slice a xs.length c] 91)
 rw [World.size_alloc] at this
 exact this
theorem risL_mem {R : List PV} {xs : List UInt8} {i : Nat} {e : EV} (h : (risL R xs)[i]? = some e) : ∃ p ∈ R, e ∈ p.es := by
 have h1 : e ∈ risL R xs := List.mem_of_getElem? h
 unfold risL rest at h1
 have h2 := List.mem_of_mem_drop h1
 obtain ⟨p, hp, he⟩ := List.mem_flatMap.1 h2
 exact ⟨p, List.mem_of_mem_drop hp, he⟩
def UoW (UW : Nat → Prop) (by1 : Nat) (U : Nat → Prop) (k : Nat) : Prop := UW k ∨ U k ∨ k = by1
set_option maxHeartbeats 4000000 in
theorem walk_iter {w : World} {g : Nat} {vo : Value} {R : List PV} {m bf bt : Nat} {fv tv : Value} {xs ts : List UInt8} (h : WkPre w g vo R m bf bt fv tv xs ts) (ok : PgOk (pgs R)) (hn : R.length ≤ 1000000) (hts : ts.length ≤ 1000000) :
  Iter Tryz.prog 159 #[.pointer (some ⟨m, 0, none⟩), .pointer (some ⟨bf, 0, none⟩), .pointer (some ⟨bt, 0, none⟩)] (wkL R xs ts).length (AWk w.heap.size (wkL R xs ts)) (UWk g vo R m bf bt fv tv) noB w := by
 intro l J Jx W hW hJ hJx hY h0
 have pre := h.keep hW
 have hwW : w.heap.size ≤ W.heap.size := hW.size
 clear h hW
 obtain ⟨tm, hbm⟩ := pre.ris.bm
 obtain ⟨tf, hbf⟩ := pre.ris.bfr
 obtain ⟨a1, ct, htv, _⟩ := pre.tv.rd.form
 obtain ⟨UW, hUW⟩ : ∃ UW, UWk g vo R m bf bt fv tv = UW := ⟨_, rfl⟩
 rw [hUW] at h0
 have hUl : ∀ k, UW k → k < W.heap.size := fun k hk => by rw [← hUW] at hk; exact pre.lt k hk
 have keepP : ∀ A B, WkPre A g vo R m bf bt fv tv xs ts → Mods (fun k => ¬ UW k) A B → WkPre B g vo R m bf bt fv tv xs ts := fun A B hp hm => hp.keep (by rw [hUW]; exact hm)
 have SW := Lib.hid hUW
 (refine calls_marks _ Tryz.func159 rfl ?_; simp only [Tryz.ntmps159, List.size_toArray, List.length_cons, List.length_nil, Nat.reduceAdd, Nat.reduceSub, Array.replicate_succ, Array.replicate_zero, List.push_toArray, List.append_toArray, List.nil_append, List.cons_append])
 refine wpIn_seq ?_
 refine wpIn_tl (d := .region 0 (opsC 0 Tryz.f159) false) (by kernel_rfl) ?_
 refine RW.wpIn (wk0 ?_) (by kernel_rfl)
 intro by1 w1 hby hbO m1
 refine then_n ?_
 have pre1 := keepP _ _ pre (m1.mono (fun _ _ x => x.elim))
 refine wpIn_seq ?_
 refine wpIn_tl (d := .region 1 (opsC 1 Tryz.f159) false) (by kernel_rfl) ?_
 refine RW.wpIn (wk1 (cells_of (m1.heap hbm (fun x => x)) 0) (cells_of (m1.heap hbf (fun x => x)) 0) (Rising_any pre1.ris.fr.rd) ?_) (by kernel_rfl)
 intros
 rename_i ma bq w2 hres
 obtain ⟨⟨t1, e1⟩, ⟨t2, e2⟩, m2, s1, s2⟩ := hres
 refine then_n ?_
 have m12 := m1.then0 m2
 have pre2 := keepP _ _ pre (m12.mono (fun _ _ x => x.elim))
 have rp : RisPre w2 g vo R ma bq fv xs := ⟨pre2.ris.pm, ⟨_, e1⟩, ⟨_, e2⟩, pre2.ris.fr⟩
 have hbO2 := m2.heap hbO (fun x => x)
 have hby2 : by1 < w2.heap.size := lt_of_heap hbO2
 have hs12 : W.heap.size ≤ w2.heap.size := m12.size
 have hUo : ∀ U : Nat → Prop, (∀ k, U k → k < w2.heap.size) → ∀ k, UoW UW by1 U k → k < w2.heap.size := fun U hU k hk => by
  rcases hk with hk | hk | rfl
  ·have := hUl k hk; omega
  ·exact hU k hk
  ·exact hby2
 -- the blocks of the inner iterator, seen from the outer walk
 have hsub0 : ∀ k, UoW UW by1 (URis g vo R ma bq fv) k → UW k ∨ W.heap.size ≤ k := fun k hk => by
  rcases hk with hk | hk | rfl
  ·exact .inl hk
  ·rcases hk with hk | hk | rfl | rfl | hk
   ·exact .inl (by rw [← SW.out]; exact .inl (.inl hk))
   ·exact .inl (by rw [← SW.out]; exact .inl (.inr (.inl hk)))
   ·right; have := m1.size; omega
   ·right; have := m1.size; omega
   ·exact .inl (by rw [← SW.out]; exact .inl (.inr (.inr (.inr (.inr hk)))))
  ·right; omega
 have h2 : J 0 (UoW UW by1 (URis g vo R ma bq fv)) w2 := hJ _ _ _ _ _ h0 (m12.mono (fun _ _ x => x.elim)) hUl hsub0
 -- what the range keeps
 have frm : ∀ (X : Nat → (Nat → Prop) → World → Prop), Frm W.heap.size noB X → ∀ i U U' A B, X i (UoW UW by1 U) A → w2.heap.size ≤ A.heap.size → Mods (fun k => U k ∧ (noB k ∨ w2.heap.size ≤ k)) A B → (∀ k, U k → k < A.heap.size) → (∀ k, U' k → U k ∨ A.heap.size ≤ k) → X i (UoW UW by1 U') B := fun X hX i U U' A B hx hsz hm hus hsub => by
  refine hX _ _ _ _ _ hx (hm.mono (fun k _ hk => ⟨.inr (.inl hk.1), hk.2.imp id (fun h => by omega)⟩)) (fun k hk => ?_) (fun k hk => ?_)
  ·rcases hk with hk | hk | rfl
   ·have := hUl k hk; omega
   ·exact hus k hk
   ·omega
  ·rcases hk with hk | hk | hk
   ·exact .inl (.inl hk)
   ·exact (hsub k hk).imp (fun h => .inr (.inl h)) id
   ·exact .inl (.inr (.inr hk))
 have keep2 : ∀ (U : Nat → Prop) (A B : World), Mods (fun k => U k ∧ (noB k ∨ w2.heap.size ≤ k)) A B → WkPre A g vo R m bf bt fv tv xs ts ∧ A.heap[by1]? = some (.cells #[.func (.yield l) #[] #[]] 150 (0, 0)) → WkPre B g vo R m bf bt fv tv xs ts ∧ B.heap[by1]? = some (.cells #[.func (.yield l) #[] #[]] 150 (0, 0)) := fun U A B hm hp => by
  refine ⟨keepP _ _ hp.1 (hm.mono (fun k _ hk hu => ?_)), hm.heap hp.2 (fun hk => ?_)⟩
  ·rcases hk.2 with h | h
   ·exact h
   ·have := hUl k hu; omega
  ·rcases hk.2 with h | h
   ·exact h
   ·omega
 refine wpIn_block ?_
 refine wpIn_range0 (by rfl) (enters_of Tryz.func223 (by kernel_rfl) rfl) (rising_iter rp ok hn) (Mods.refl _ _) rp.lt (argsOk_ris R xs) (fun i U args W1 hA => by obtain ⟨e, _, rfl⟩ := hA; rfl)
  (fun i U Wr => i ≤ (wkL R xs ts).length ∧ J i (UoW UW by1 U) Wr ∧ (WkPre Wr g vo R m bf bt fv tv xs ts ∧ Wr.heap[by1]? = some (.cells #[.func (.yield l) #[] #[]] 150 (0, 0))) ∧ w2.heap.size ≤ Wr.heap.size)
  (fun c i U Wr => c = .ret ∧ ((i = (wkL R xs ts).length + 1 ∧ J (wkL R xs ts).length (UoW UW by1 U) Wr) ∨ (∃ j, i = j + 1 ∧ j < (wkL R xs ts).length ∧ Jx (j + 1) (UoW UW by1 U) Wr)) ∧ w2.heap.size ≤ Wr.heap.size)
  ?_ ?_ ⟨Nat.zero_le _, h2, ⟨pre2, hbO2⟩, Nat.le_refl _⟩ ?_ ?_ ?_
 ·rintro i U U' A B ⟨h1, h2, h3, h4⟩ hm hus hsub
  exact ⟨h1, frm J hJ _ _ _ _ _ h2 h4 hm hus hsub, keep2 U _ _ hm h3, Nat.le_trans h4 hm.size⟩
 ·rintro c i U U' A B ⟨h1, h2, h4⟩ hm hus hsub
  refine ⟨h1, h2.imp (fun x => ⟨x.1, frm J hJ _ _ _ _ _ x.2 h4 hm hus hsub⟩) (fun ⟨j, x1, x2, x3⟩ => ⟨j, x1, x2, frm Jx hJx _ _ _ _ _ x3 h4 hm hus hsub⟩), Nat.le_trans h4 hm.size⟩
 ·-- one round
  intro lp i U args Wr hlp hUlp hi ⟨hin, hJi, ⟨hpr, hbyr⟩, hszr⟩ ⟨e, hei, hargs⟩ hUs _ _ _ _
  subst hargs
  obtain ⟨hq1, hq2⟩ := takeWhile_get (under ts) (risL R xs) i e hin hei
  obtain ⟨pg1, hpg1, hepg⟩ := risL_mem hei
  have he1 := hpr.ris.pm.ents pg1 hpg1 e hepg
  obtain ⟨ak, ck, hak, _⟩ := he1.k.form
  obtain ⟨av, cv, hav, _⟩ := he1.v.form
  simp only [putArgs, List.setIfInBounds_toArray, List.set_cons_succ, List.set_cons_zero]
  refine wpIn_tl (d := .region 2 (opsC 2 Tryz.f159) false) (by kernel_rfl) ?_
  refine RW.wpIn (wk2 (u := e.kv) (v := e.vv) (by rw [hak]; rfl) (by rw [hav]; rfl) ?_) (by kernel_rfl)
  intro bx w3 hbx hbxO m3
  refine then_n ?_
  refine ⟨m3.mono (fun _ _ x => x.elim), ?_⟩
  intro w4 m4 _
  have hxl : bx ≠ lp := fun e => by have := hUs lp hUlp; omega
  have hbx4 := m4.heap hbxO hxl
  have m34 := m3.trans m4 (U := fun k => k = lp) (fun _ _ x => x.elim) (fun _ _ x => x)
  have hkl : Mods (fun k => U k ∧ (noB k ∨ w2.heap.size ≤ k)) Wr w4 := m34.mono (fun k _ hk => by subst hk; exact ⟨hUlp, .inr hlp⟩)
  obtain ⟨hp4, hby4⟩ := keep2 U _ _ hkl ⟨hpr, hbyr⟩
  have hJ4 := frm J hJ _ _ _ _ _ hJi hszr hkl hUs (fun k hk => .inl hk)
  have hsz4 := Nat.le_trans hszr m34.size
  have he4 := hp4.ris.pm.ents pg1 hpg1 e hepg
  have hUs4 : ∀ k, U k → k < w4.heap.size := fun k hk => Nat.lt_of_lt_of_le (hUs k hk) m34.size
  have hUo4 : ∀ k, UoW UW by1 U k → k < w4.heap.size := fun k hk => by
   rcases hk with hk | hk | rfl
   ·have := hUl k hk; omega
   ·exact hUs4 k hk
   ·omega
  have hbt4 : w4.cell? ⟨bt, 0, none⟩ = some (.slice a1 ts.length ct) := by obtain ⟨t, ht⟩ := hp4.bt; rw [← htv]; exact cells_of ht 0
  have hbtl : bt < w4.heap.size := by obtain ⟨t, ht⟩ := hp4.bt; exact lt_of_heap ht
  have htr : Rd w4 (.slice a1 ts.length ct) ts := by rw [← htv]; exact hp4.tv.rd
  have hbyc : w4.cell? ⟨by1, 0, none⟩ = some (.func (.yield l) #[] #[]) := cells_of hby4 0
  have hbyl : by1 < w4.heap.size := lt_of_heap hby4
  clear hpr hbyr hJi hbxO m3 hkl he1
  refine wpIn_block ?_
  refine wpIn_seq ?_
  refine wpIn_tl (d := .region 3 (opsC 3 Tryz.f159) true) (by kernel_rfl) ?_
  -- behind the two copies: yield, and what follows
  have go : ∀ (hu : under ts e = true) (d1 d2 : Value) (w5 : World), Gl.Own w5 d1 e.k → Gl.Own w5 d2 e.v → freshIn w4 d1 → freshIn w4 d2 → (∀ k, d1.ownBlock = some k → d2.ownBlock ≠ some k) → Mods noB w4 w5 →
    YAt Tryz.prog l #[d1, d2] w5 fun r w6 => (r = .returned (.bool true) ∧ (i + 1 ≤ (wkL R xs ts).length ∧ J (i + 1) (UoW UW by1 U) w6 ∧ (WkPre w6 g vo R m bf bt fv tv xs ts ∧ w6.heap[by1]? = some (.cells #[.func (.yield l) #[] #[]] 150 (0, 0))) ∧ w2.heap.size ≤ w6.heap.size) ∧ Mods (fun k => ¬ U k) w4 w6) ∨
     (r = .returned (.bool false) ∧ (i < (wkL R xs ts).length ∧ Jx (i + 1) (UoW UW by1 U) w6) ∧ Mods (fun k => ¬ U k) w4 w6 ∧ w2.heap.size ≤ w6.heap.size) := by
   intro hu d1 d2 w5 o1 o2 f1 f2 dd m5
   have hlt := hq1.1 hu
   have hJ5 := frm J hJ _ _ _ _ _ hJ4 hsz4 (m5.mono (fun _ _ x => x.elim)) hUs4 (fun k hk => .inl hk)
   have hY5 := hY i (UoW UW by1 U) #[d1, d2] w5 hlt hJ5 ⟨e, d1, d2, hq2 hlt, rfl, o1, o2, fun k hk hu => by have := f1 k hk; have := hUo4 k hu; omega, fun k hk hu => by have := f2 k hk; have := hUo4 k hu; omega, dd, fun k hk => by have := f1 k hk; omega, fun k hk => by have := f2 k hk; omega⟩ (fun k hk => Nat.lt_of_lt_of_le (hUo4 k hk) m5.size) (by have := m5.size; omega)
    (hJ _ _ _ _ _ hJ4 (m5.mono (fun _ _ x => x.elim)) hUo4 (fun k hk => hk.imp id (fun h => by rcases argB_two h with h | h; exact f1 k h; exact f2 k h))) (fun k hk => by rcases argB_two hk with h | h; exact o1.lt k h; exact o2.lt k h)
   obtain ⟨fn, tm, asg, bd, hy, hR⟩ := hY5
   refine ⟨fn, tm, asg, bd, hy, hR.mono ?_⟩
   rintro r w6 (⟨rfl, k1, k2⟩ | ⟨rfl, k1, k2⟩)
   ·have k3 := (m5.trans k2 (U := fun k => ¬ UoW UW by1 U k) (fun _ _ x => x.elim) (fun _ _ x => x))
    refine .inl ⟨rfl, ⟨hlt, k1, ⟨keepP _ _ hp4 (k3.mono (fun k _ hk hu => hk (.inl hu))), k3.heap hby4 (fun hk => hk (.inr (.inr rfl)))⟩, Nat.le_trans hsz4 k3.size⟩, k3.mono (fun k _ hk hu => hk (.inr (.inl hu)))⟩
   ·have k3 := (m5.trans k2 (U := fun k => ¬ UoW UW by1 U k) (fun _ _ x => x.elim) (fun _ _ x => x))
    exact .inr ⟨rfl, ⟨hlt, k1⟩, k3.mono (fun k _ hk hu => hk (.inr (.inl hu))), Nat.le_trans hsz4 k3.size⟩
  by_cases hte : ts = []
  ·have hu : under ts e = true := by rw [hte]; rfl
   refine wpIn_region_yieldA (Q1 := fun _ a' w' => wpOpsIn _ _ _ _ _ _ a' w') 18 (by kernel_rfl) (wk3a hbx4 hbt4 hbtl he4.k he4.v htr he4.lk he4.lv hte hbyc hbyl ?_) (fun _ _ h => h)
   intros
   rename_i d1 d2 w5 o1 o2 f1 f2 dd m5
   refine wpOpsIn_yield (some 28) ⟨by kernel_rfl, by kernel_rfl, by kernel_rfl⟩ (by kernel_rfl) (by kernel_rfl) (go hu d1 d2 w5 o1 o2 f1 f2 dd m5) ?_
   rintro r w6 (⟨rfl, k1, k2⟩ | ⟨rfl, k1, k2, k3⟩)
   ·refine ⟨_, rfl, ?_⟩
    refine wpOpsIn_val (.bool false) (some 29) ⟨by kernel_rfl, by kernel_rfl, by kernel_rfl⟩ (by kernel_rfl) (by kernel_rfl) ?_
    refine wpOpsIn_val (.bool false) (some 30) ⟨by kernel_rfl, by kernel_rfl, by kernel_rfl⟩ (by kernel_rfl) (by kernel_rfl) ?_
    refine then_n ?_
    refine wpIn_cond_false rfl ?_
    refine wpIn_skip ?_
    refine block_n ?_
    exact ⟨k2, k1⟩
   ·refine ⟨_, rfl, ?_⟩
    refine wpOpsIn_val (.bool true) (some 29) ⟨by kernel_rfl, by kernel_rfl, by kernel_rfl⟩ (by kernel_rfl) (by kernel_rfl) ?_
    refine wpOpsIn_val (.bool true) (some 30) ⟨by kernel_rfl, by kernel_rfl, by kernel_rfl⟩ (by kernel_rfl) (by kernel_rfl) ?_
    refine then_n ?_
    refine wpIn_cond_true rfl ?_
    refine wpIn_ret ?_
    repeat (first | refine then_r ?_ | refine block_r ?_)
    exact ⟨k2, rfl, .inr ⟨i, rfl, k1.1, k1.2⟩, k3⟩
  ·have hemp : ts.isEmpty = false := by cases ts with | nil => exact absurd rfl hte | cons a b => rfl
   by_cases hcmp : 0 ≤ Lib.compareBytes e.k ts
   ·have hu : ¬ under ts e = true := by
     unfold under
     rw [hemp, Bool.false_or, ← cmp_lt]
     simpa using hcmp
    have hie : i = (wkL R xs ts).length := by
     have : ¬ i < (wkL R xs ts).length := fun h => hu (hq1.2 h)
     omega
    refine RW.wpIn (wk3s (l := l) hbx4 hbt4 hbtl he4.k he4.v htr he4.lk he4.lv hte hcmp ?_) (by kernel_rfl)
    intros
    rename_i w5 m5
    refine then_n ?_
    refine wpIn_cond_true rfl ?_
    refine wpIn_ret ?_
    repeat (first | refine then_r ?_ | refine block_r ?_)
    have hJ5 := frm J hJ _ _ _ _ _ hJ4 hsz4 (m5.mono (fun _ _ x => x.elim)) hUs4 (fun k hk => .inl hk)
    rw [hie] at hJ5
    exact ⟨m5.mono (fun _ _ x => x.elim), rfl, .inl ⟨by rw [hie], hJ5⟩, Nat.le_trans hsz4 m5.size⟩
   ·have hu : under ts e = true := by
     unfold under
     rw [hemp, Bool.false_or, ← cmp_lt]
     simpa using hcmp
    refine wpIn_region_yieldA (Q1 := fun _ a' w' => wpOpsIn _ _ _ _ _ _ a' w') 18 (by kernel_rfl) (wk3b hbx4 hbt4 hbtl he4.k he4.v htr he4.lk he4.lv hte hcmp hbyc hbyl ?_) (fun _ _ h => h)
    intros
    rename_i d1 d2 w5 o1 o2 f1 f2 dd m5
    refine wpOpsIn_yield (some 28) ⟨by kernel_rfl, by kernel_rfl, by kernel_rfl⟩ (by kernel_rfl) (by kernel_rfl) (go hu d1 d2 w5 o1 o2 f1 f2 dd m5) ?_
    rintro r w6 (⟨rfl, k1, k2⟩ | ⟨rfl, k1, k2, k3⟩)
    ·refine ⟨_, rfl, ?_⟩
     refine wpOpsIn_val (.bool false) (some 29) ⟨by kernel_rfl, by kernel_rfl, by kernel_rfl⟩ (by kernel_rfl) (by kernel_rfl) ?_
     refine wpOpsIn_val (.bool false) (some 30) ⟨by kernel_rfl, by kernel_rfl, by kernel_rfl⟩ (by kernel_rfl) (by kernel_rfl) ?_
     refine then_n ?_
     refine wpIn_cond_false rfl ?_
     refine wpIn_skip ?_
     refine block_n ?_
     exact ⟨k2, k1⟩
    ·refine ⟨_, rfl, ?_⟩
     refine wpOpsIn_val (.bool true) (some 29) ⟨by kernel_rfl, by kernel_rfl, by kernel_rfl⟩ (by kernel_rfl) (by kernel_rfl) ?_
     refine wpOpsIn_val (.bool true) (some 30) ⟨by kernel_rfl, by kernel_rfl, by kernel_rfl⟩ (by kernel_rfl) (by kernel_rfl) ?_
     refine then_n ?_
     refine wpIn_cond_true rfl ?_
     refine wpIn_ret ?_
     repeat (first | refine then_r ?_ | refine block_r ?_)
     exact ⟨k2, rfl, .inr ⟨i, rfl, k1.1, k1.2⟩, k3⟩
 ·-- all have come
  rintro D U W5 hD hUD hus ⟨h1, h2, h3, h4⟩ hdef
  refine block_n ?_
  refine marks_leave hdef (results_none rfl _ _ _) ?_
  have hj : (risL R xs).length = (wkL R xs ts).length := by have := wkL_le R xs ts; omega
  rw [hj] at h2
  have hD5 := lt_of_heap hdef
  refine ⟨⟨_, rfl⟩, .inl ⟨UoW UW by1 U, frm J hJ _ _ _ _ _ h2 h4 ((putObj_mods W5 D _).mono (fun k _ hk => by subst hk; exact ⟨hUD, .inr hD⟩)) hus (fun k hk => .inl hk), fun k hk => ?_⟩⟩
  rw [World.putObj_size]
  rcases hk with hk | hk | rfl
  ·have := hUl k hk; omega
  ·exact hus k hk
  ·omega
 ·-- a round has left
  rintro D c i U W5 hD hUD hus hi ⟨rfl, h2, h4⟩ hdef
  have hbd : ∀ k, UoW UW by1 U k → k < (W5.putObj D (.deferred none)).heap.size := fun k hk => by
   rw [World.putObj_size]
   rcases hk with hk | hk | rfl
   ·have := hUl k hk; omega
   ·exact hus k hk
   ·omega
  have hmD : Mods (fun k => U k ∧ (noB k ∨ w2.heap.size ≤ k)) W5 (W5.putObj D (.deferred none)) := (putObj_mods W5 D _).mono (fun k _ hk => by subst hk; exact ⟨hUD, .inr hD⟩)
  refine wpIn_ret ?_
  refine block_r ?_
  refine marks_leave hdef (results_none rfl _ _ _) ?_
  rcases h2 with ⟨_, h2⟩ | ⟨j, hj, hjl, h2⟩
  ·exact ⟨⟨_, rfl⟩, .inl ⟨UoW UW by1 U, frm J hJ _ _ _ _ _ h2 h4 hmD hus (fun k hk => .inl hk), hbd⟩⟩
  ·exact ⟨⟨_, rfl⟩, .inr ⟨j, UoW UW by1 U, hjl, frm Jx hJx _ _ _ _ _ h2 h4 hmD hus (fun k hk => .inl hk), hbd⟩⟩
open Go.Gl Go.RowKit
def WkRes (w : World) (g : Nat) (vo : Value) (R : List PV) (xs ts : List UInt8) (m bf bt : Nat) (fv tv : Value) (w' : World) : Prop :=
 WkPre w' g vo R m bf bt fv tv xs ts ∧ Mods noB w w' ∧ w.heap.size ≤ m ∧ w.heap.size ≤ bf ∧ w.heap.size ≤ bt ∧ freshIn w fv ∧ freshIn w tv
set_option maxHeartbeats 1000000 in
theorem Walk_any {w : World} {g : Nat} {vo fv tv : Value} {R : List PV} {xs ts : List UInt8} (hm : PM w g vo R) (hf : Rd w fv xs) (ht : Rd w tv ts) (lx : xs.length ≤ 1000000) (lt : ts.length ≤ 1000000) :
  Calls Tryz.prog 91 #[.pointer (some ⟨g, 0, none⟩), fv, tv] w fun e w' => ∃ m bf bt fv' tv', e = .returned (.func (.func 159) #[] #[.pointer (some ⟨m, 0, none⟩), .pointer (some ⟨bf, 0, none⟩), .pointer (some ⟨bt, 0, none⟩)]) ∧ WkRes w g vo R xs ts m bf bt fv' tv' w' := by
 obtain ⟨a1, c1, rfl, _⟩ := hf.form
 obtain ⟨a2, c2, rfl, _⟩ := ht.form
 have HM := Lib.hid hm
 have HF := Lib.hid hf
 have HT := Lib.hid ht
 have hgl := lt_of_heap hm.hg
 clear hm hf ht
 go_enter Tryz.func91, Tryz.ntmps91
 go_upto_region 1 with fail
 have h1 := heap_new w (.cells #[.pointer (some ⟨g, 0, none⟩)] 129)
 have h2 := heap_new (w.alloc (.cells #[.pointer (some ⟨g, 0, none⟩)] 129)) (.cells #[.slice a1 xs.length c1] 91)
 have h3 := heap_new ((w.alloc (.cells #[.pointer (some ⟨g, 0, none⟩)] 129)).alloc (.cells #[.slice a1 xs.length c1] 91)) (.cells #[.slice a2 ts.length c2] 91)
 have h1' := heap_old (heap_old h1 (.cells #[.slice a1 xs.length c1] 91)) (.cells #[.slice a2 ts.length c2] 91)
 have h2' := heap_old h2 (.cells #[.slice a2 ts.length c2] 91)
 have m1 := (((Mods.refl noB w).alloc (.cells #[.pointer (some ⟨g, 0, none⟩)] 129)).alloc (.cells #[.slice a1 xs.length c1] 91)).alloc (.cells #[.slice a2 ts.length c2] 91)
 simp only [World.size_alloc] at h2 h3 h1' h2'
 generalize World.alloc (World.alloc (World.alloc w _) _) _ = w1 at *
 refine wp_tl (d := .region 1 (opsC 1 Tryz.f91) true) (by kernel_rfl) ?_
 refine RW.wp (wkOwn h2' h3 (by omega) (HF.out.keep m1 (fun _ _ x => x)) (HT.out.keep m1 (fun _ _ x => x)) (by omega) (by omega) ?_)
 intros
 rename_i d1 d2 w2 e1 e2 o1 o2 f1 f2 m2
 have hs1 : w.heap.size ≤ w1.heap.size := m1.size
 have hw1 : w.heap.size + 2 < w1.heap.size := lt_of_heap h3
 have pm : PM w2 g vo R := (HM.out.keep0 m1).keep m2 (fun k hk e => by have := HM.out.lt k hk; omega) (fun k hk e => by have := HM.out.dlt k hk; omega)
 have hm3 := m2.heap h1' (fun e => by omega)
 have m12 : Mods noB w w2 := m1.trans m2 (fun _ _ x => x) (fun i hi e => by omega)
 have RES := Lib.hid (show WkRes w g vo R xs ts w.heap.size (w.heap.size + 1) (w.heap.size + 1 + 1) d1 d2 w2 from ⟨⟨⟨pm, ⟨_, hm3⟩, ⟨_, e1⟩, o1⟩, ⟨_, e2⟩, o2⟩, m12, Nat.le_refl _, by omega, by omega, f1.of hs1, f2.of hs1⟩)
 clear h1 h2 h3 h1' h2' m1 m2 e1 e2 o1 o2 f1 f2 pm hm3 m12
 go_wp2
 go_ret
 exact ⟨_, _, _, _, _, rfl, RES.out⟩
open Go.Gl Go.RowKit
open Go.Gl Go.RowKit
open Go.Gl
theorem ents_rest (R : List PV) (p i : Nat) : ents (rest R p i) = ((pgs R).drop p).flatten.drop i := by
 unfold rest ents pgs
 rw [List.map_drop, List.map_flatMap, List.flatMap_def, List.map_drop]
 rfl
theorem ents_ris {R : List PV} (ok : PgOk (pgs R)) (xs : List UInt8) : ents (risL R xs) = (pgs R).flatten.filter (fun e => !lessB e.1 xs) := by
 unfold risL
 rw [ents_rest]
 by_cases hne : pgs R = []
 ·rw [hne]; simp
 obtain ⟨A, l, C, i, h⟩ := lies ok hne xs
 rw [h.fst, h.snd, h.flat]
 rw [List.filter_append, filter_none (l := A.flatten ++ l.take i) (fun e he => by rcases List.mem_append.1 he with he | he; rw [h.lo e he]; rfl; rw [h.plo e he]; rfl), List.nil_append,
  filter_all (l := l.drop i ++ C.flatten) (fun e he => by rcases List.mem_append.1 he with he | he; rw [h.phi e he]; rfl; rw [lessB_asym (h.hi e he)]; rfl)]
 rw [h.eq, List.append_assoc A, List.drop_left' rfl, List.flatten_append, List.flatten_singleton, List.drop_append_of_le_length h.il]
theorem ents_tw (p : Ent → Bool) : ∀ L : List EV, ents (L.takeWhile (fun e => p (e.k, e.v))) = (ents L).takeWhile p
  | [] => rfl
  | e :: L => by
    have ih := ents_tw p L
    unfold ents at ih ⊢
    rw [List.takeWhile_cons, List.map_cons, List.takeWhile_cons]
    cases hp : p (e.k, e.v) with
    | true => rw [show p e.ent = true from hp]; simp only [if_true]; rw [List.map_cons, ih]
    | false => rw [show p e.ent = false from hp]; rfl
def btw (xs ts : List UInt8) (e : Ent) : Bool := !lessB e.1 xs && (ts.isEmpty || lessB e.1 ts)
theorem ents_wk {R : List PV} (ok : PgOk (pgs R)) (xs ts : List UInt8) : ents (wkL R xs ts) = (pgs R).flatten.filter (btw xs ts) := by
  have h1 : wkL R xs ts = (risL R xs).takeWhile (fun e => (fun x : Ent => ts.isEmpty || lessB x.1 ts) (e.k, e.v)) := rfl
  rw [h1, ents_tw (fun x : Ent => ts.isEmpty || lessB x.1 ts), ents_ris ok]
  have hr : Ris ((pgs R).flatten.filter (fun e => !lessB e.1 xs)) := List.Pairwise.filter _ ok.ris
  have h2 : ((pgs R).flatten.filter (fun e => !lessB e.1 xs)).takeWhile (fun x => ts.isEmpty || lessB x.1 ts) = ((pgs R).flatten.filter (fun e => !lessB e.1 xs)).filter (fun x => ts.isEmpty || lessB x.1 ts) := by
    cases ts with
    | nil =>
      simp only [List.isEmpty_nil, Bool.true_or]
      rw [List.filter_eq_self.2 (fun _ _ => rfl)]
      generalize List.filter _ _ = l
      induction l with
      | nil => rfl
      | cons a l ih => rw [List.takeWhile_cons_of_pos rfl, ih]
    | cons a b =>
      simp only [List.isEmpty_cons, Bool.false_or]
      exact (hr.split _).1
  rw [h2, List.filter_filter]
  congr 1
  funext e
  exact Bool.and_comm _ _
theorem ents_wk_all {R : List PV} (ok : PgOk (pgs R)) : ents (wkL R [] []) = (pgs R).flatten := by
 rw [ents_wk ok]
 refine filter_all (fun e _ => ?_)
 have : lessB e.1 [] = false := by cases e.1 <;> rfl
 unfold btw
 rw [this]
 rfl
open Go.Gl Go.RowKit
section
variable {w : World} {g n : Nat} {F : List Ent} {Ws : List (List Ent)} {S D : Nat → Prop}
end
open Go.Gl Go.RowKit
end Go.Proofs.YtglkmaalpammcaaGreat
namespace Go.Gl
open Go.RowKit
section
variable {P : Program} {r : Option Nat}
end
open Go.RowKit
section
variable {P : Program} {r : Option Nat}
end
end Go.Gl
namespace Go.Proofs.YtglkmaalpammcaaGreat
open Go.Gl Go.RowKit
open Go.Gl Go.RowKit
open Go.Gl Go.RowKit
theorem AWk.mono {B B' : Nat} {L : List EV} {i : Nat} {U : Nat → Prop} {args : Array Value} {W : World} (h : AWk B L i U args W) (hb : B' ≤ B) : AWk B' L i U args W := by
 obtain ⟨e, kv, vv, h1, h2, h3, h4, h5, h6, h7, h8, h9⟩ := h
 exact ⟨e, kv, vv, h1, h2, h3, h4, h5, h6, h7, fun k hk => Nat.le_trans hb (h8 k hk), fun k hk => Nat.le_trans hb (h9 k hk)⟩
open Go.Gl Go.RowKit
structure WdI (Sx X : Nat → Prop) (H : Nat → Obj) (w : World) (LL : List EV) (ob : Nat) (i : Nat) (U : Nat → Prop) (W : World) (v : Value) (L : List EV) : Prop where
 hob : W.heap[ob]? = some (.cells #[v] 29 (0, 0))
 hx : ∀ k, X k → W.heap[k]? = some (H k)
 row : OwnG W 152 2 v L.length (ecell L)
 own : ∀ e ∈ L, Gl.Own W e.kv e.k ∧ Gl.Own W e.vv e.v
 eq : L.map EV.ent = (LL.take i).map EV.ent
 u1 : ¬ U ob
 u2 : ∀ k, X k → ¬ U k
 vb : ∀ k, v.ownBlock = some k → w.heap.size ≤ k ∧ k ≠ ob ∧ ¬ X k ∧ ¬ U k
 db : ∀ k, MDL L k → w.heap.size ≤ k ∧ k ≠ ob ∧ ¬ X k ∧ v.ownBlock ≠ some k ∧ ¬ U k
 g1 : w.heap.size ≤ ob
 g2 : ∀ k, X k → w.heap.size ≤ k
 ne : ¬ X ob
 mods : Mods Sx w W
 sx : ∀ k, Sx k → k < w.heap.size
section
variable {Sx X : Nat → Prop} {H : Nat → Obj}
theorem WdI.dlt {w W : World} {LL L : List EV} {ob i : Nat} {U : Nat → Prop} {v : Value} (h : WdI Sx X H w LL ob i U W v L) {k : Nat} (hk : MDL L k) : k < W.heap.size := by
 obtain ⟨e, he, hk | hk⟩ := hk
 ·exact (h.own e he).1.lt k hk
 ·exact (h.own e he).2.lt k hk
theorem WdI.keep {w W W' : World} {LL L : List EV} {ob i : Nat} {U U' T : Nat → Prop} {v : Value} (h : WdI Sx X H w LL ob i U W v L) (hm : Mods T W W') (h1 : ¬ T ob) (h2 : ∀ k, X k → ¬ T k) (h3 : ∀ k, v.ownBlock = some k → ¬ T k) (h4 : ∀ k, MDL L k → ¬ T k) (h5 : ∀ k, T k → Sx k ∨ w.heap.size ≤ k)
  (hU : ∀ k, U' k → U k ∨ W.heap.size ≤ k) : WdI Sx X H w LL ob i U' W' v L := by
 have hl1 := lt_of_heap h.hob
 refine ⟨hm.heap h.hob h1, fun k hk => hm.heap (h.hx k hk) (h2 k hk), h.row.keep hm h3, fun e he => ⟨(h.own e he).1.keep hm (fun k hk => h4 k ⟨e, he, .inl hk⟩), (h.own e he).2.keep hm (fun k hk => h4 k ⟨e, he, .inr hk⟩)⟩, h.eq, fun hu => ?_, fun k hk hu => ?_, fun k hk => ?_, fun k hk => ?_, h.g1, h.g2, h.ne, h.mods.trans hm (fun _ _ x => x) (fun k hk ht => by
  rcases h5 k ht with x | x
  ·exact x
  ·omega), h.sx⟩
 ·rcases hU _ hu with x | x
  ·exact h.u1 x
  ·omega
 ·rcases hU _ hu with x | x
  ·exact h.u2 k hk x
  ·have := lt_of_heap (h.hx k hk); omega
 ·obtain ⟨a, b, c, d⟩ := h.vb k hk
  refine ⟨a, b, c, fun hu => ?_⟩
  rcases hU _ hu with x | x
  ·exact d x
  ·have := h.row.lt k hk; omega
 ·obtain ⟨a, b, c, d, e⟩ := h.db k hk
  refine ⟨a, b, c, d, fun hu => ?_⟩
  rcases hU _ hu with x | x
  ·exact e x
  ·have := h.dlt hk; omega
theorem WdI.frm {w A B : World} {LL L : List EV} {ob i base : Nat} {U U' : Nat → Prop} {v : Value} (h : WdI Sx X H w LL ob i U A v L) (hb : w.heap.size ≤ base) (hm : Mods (fun k => U k ∧ (noB k ∨ base ≤ k)) A B) (hsub : ∀ k, U' k → U k ∨ A.heap.size ≤ k) : WdI Sx X H w LL ob i U' B v L :=
 h.keep hm (fun x => h.u1 x.1) (fun k hk x => h.u2 k hk x.1) (fun k hk x => (h.vb k hk).2.2.2 x.1) (fun k hk x => (h.db k hk).2.2.2.2 x.1) (fun k x => by rcases x.2 with y | y; exact y.elim; exact .inr (by omega)) hsub
theorem WdI.turn {w A B : World} {LL L : List EV} {ob i : Nat} {U : Nat → Prop} {v : Value} (h : WdI Sx X H w LL ob i U A v L) (hm : Mods Sx A B) : WdI Sx X H w LL ob i U B v L :=
 h.keep hm (fun x => by have := h.sx _ x; have := h.g1; omega) (fun k hk x => by have := h.sx k x; have := h.g2 k hk; omega) (fun k hk x => by have := h.sx k x; have := (h.vb k hk).1; omega) (fun k hk x => by have := h.sx k x; have := (h.db k hk).1; omega) (fun k x => .inl x) (fun k hk => .inl hk)
theorem WdI.step {w W w7 w8 w9 w10 w11 : World} {LL L : List EV} {ob i : Nat} {U : Nat → Prop} {v kv vv d1 d2 v8 : Value} {e : EV} (h : WdI Sx X H w LL ob i (fun k => U k ∨ argB #[kv, vv] k) W v L) (hlen : L.length = i) (hget : LL[i]? = some e) (hus : ∀ k, U k → k < W.heap.size) (hws : w.heap.size ≤ W.heap.size)
  (hk : ∀ k, kv.ownBlock = some k → ¬ U k) (hv : ∀ k, vv.ownBlock = some k → ¬ U k) (bk : ∀ k, kv.ownBlock = some k → w.heap.size ≤ k ∧ k < W.heap.size) (bv : ∀ k, vv.ownBlock = some k → w.heap.size ≤ k ∧ k < W.heap.size)
  (o1 : Gl.Own w7 d1 e.k) (o2 : Gl.Own w7 d2 e.v) (f1 : freshIn W d1) (f2 : freshIn W d2) (m7 : Mods noB W w7) (o8 : OwnG w8 152 2 v8 (L.length + 1) (ecell L ++ [d1, d2])) (m8 : Mods (ofV v) w7 w8) (f8 : v8.ownBlock = v.ownBlock ∨ freshIn w7 v8) (h9 : w9 = w8.setCell ⟨ob, 0, none⟩ v8)
  (m10 : Mods (ofV kv) w9 w10) (m11 : Mods (ofV vv) w10 w11) : WdI Sx X H w LL ob (i + 1) U w11 v8 (L ++ [⟨d1, d2, e.k, e.v⟩]) ∧ Mods (fun k => ¬ U k) W w11 ∧ (∀ T : Nat → Prop, (∀ k, T k → k < w.heap.size) → Mods (fun k => ¬ T k) W w11) := by
 have m9 : Mods (fun k => k = ob) w8 w9 := by rw [h9]; exact (Mods.refl (fun k => k = ob) w8).setCell (p := ⟨ob, 0, none⟩) (.inl rfl) v8
 have hlo := lt_of_heap h.hob
 have s7 := m7.size
 have s8 := m8.size
 have aK : ∀ k, kv.ownBlock = some k → argB #[kv, vv] k := fun k hk => ⟨kv, by simp, hk⟩
 have aV : ∀ k, vv.ownBlock = some k → argB #[kv, vv] k := fun k hk => ⟨vv, by simp, hk⟩
 have xl : ∀ k, X k → k < W.heap.size := fun k hk => lt_of_heap (h.hx k hk)
 have b8 : ∀ k, v8.ownBlock = some k → w.heap.size ≤ k ∧ k ≠ ob ∧ ¬ X k ∧ ¬ U k ∧ kv.ownBlock ≠ some k ∧ vv.ownBlock ≠ some k := fun k hk8 => by
  rcases f8 with f | f
  ·obtain ⟨a, b, c, d⟩ := h.vb k (f ▸ hk8)
   exact ⟨a, b, c, fun x => d (.inl x), fun x => d (.inr (aK k x)), fun x => d (.inr (aV k x))⟩
  ·have := f k hk8
   exact ⟨by omega, by omega, fun x => by have := xl k x; omega, fun x => by have := hus k x; omega, fun x => by have := bk k x; omega, fun x => by have := bv k x; omega⟩
 have dlt : ∀ k, MDL (L ++ [⟨d1, d2, e.k, e.v⟩]) k → MDL L k ∨ ((d1.ownBlock = some k ∨ d2.ownBlock = some k) ∧ W.heap.size ≤ k ∧ k < w7.heap.size) := fun k hk => by
  obtain ⟨x, hx, hk⟩ := hk
  rw [List.mem_append, List.mem_singleton] at hx
  rcases hx with hx | rfl
  ·exact .inl ⟨x, hx, hk⟩
  ·rcases hk with hk | hk
   ·exact .inr ⟨.inl hk, f1 k hk, o1.lt k hk⟩
   ·exact .inr ⟨.inr hk, f2 k hk, o2.lt k hk⟩
 have bd : ∀ k, MDL (L ++ [⟨d1, d2, e.k, e.v⟩]) k → w.heap.size ≤ k ∧ k ≠ ob ∧ ¬ X k ∧ v.ownBlock ≠ some k ∧ v8.ownBlock ≠ some k ∧ ¬ U k ∧ kv.ownBlock ≠ some k ∧ vv.ownBlock ≠ some k := fun k hkd => by
  rcases dlt k hkd with hm | ⟨_, h1, h2⟩
  ·obtain ⟨a, b, c, d, e⟩ := h.db k hm
   have := h.dlt hm
   refine ⟨a, b, c, d, fun x => ?_, fun x => e (.inl x), fun x => e (.inr (aK k x)), fun x => e (.inr (aV k x))⟩
   rcases f8 with f | f
   ·exact d (f ▸ x)
   ·have := f k x; omega
  ·refine ⟨by omega, by omega, fun x => by have := xl k x; omega, fun x => by have := h.row.lt k x; omega, fun x => ?_, fun x => by have := hus k x; omega, fun x => by have := bk k x; omega, fun x => by have := bv k x; omega⟩
   rcases f8 with f | f
   ·have := h.row.lt k (f ▸ x); omega
   ·have := f k x; omega
 have tot : Mods (fun k => k = ob ∨ v.ownBlock = some k ∨ kv.ownBlock = some k ∨ vv.ownBlock = some k) W w11 :=
  (((m7.trans m8 (U := fun k => k = ob ∨ v.ownBlock = some k ∨ kv.ownBlock = some k ∨ vv.ownBlock = some k) (fun _ _ x => x.elim) (fun k _ x => .inr (.inl x))).trans m9 (fun _ _ x => x) (fun k _ x => .inl x)).trans m10 (fun _ _ x => x) (fun k _ x => .inr (.inr (.inl x)))).trans m11 (fun _ _ x => x) (fun k _ x => .inr (.inr (.inr x)))
 have nob : ¬ ofV kv ob := fun x => h.u1 (.inr (aK _ x))
 have vob : ¬ ofV vv ob := fun x => h.u1 (.inr (aV _ x))
 refine ⟨⟨?_, fun k hk => ?_, ?_, ?_, ?_, fun x => h.u1 (.inl x), fun k hk x => h.u2 k hk (.inl x), fun k hk => ?_, fun k hk => ?_, h.g1, h.g2, h.ne, ?_, h.sx⟩, tot.mono ?_, fun T hT => tot.mono ?_⟩
 ·refine m11.heap (m10.heap ?_ nob) vob
  rw [h9]
  exact heap_set (m8.heap (m7.heap h.hob (fun x => x)) (fun x => (h.vb ob x).2.1 rfl)) 0 v8
 ·exact m11.heap (m10.heap (m9.heap (m8.heap (m7.heap (h.hx k hk) (fun x => x)) (fun x => (h.vb k x).2.2.1 hk)) (fun x => h.ne (x ▸ hk))) (fun x => h.u2 k hk (.inr (aK k x)))) (fun x => h.u2 k hk (.inr (aV k x)))
 ·rw [List.length_append, List.length_singleton, ecell_append]
  exact ((o8.keep m9 (fun k hk x => (b8 k hk).2.1 x)).keep m10 (fun k hk x => (b8 k hk).2.2.2.2.1 x)).keep m11 (fun k hk x => (b8 k hk).2.2.2.2.2 x)
 ·have m911 : Mods (fun k => k = ob ∨ v.ownBlock = some k ∨ kv.ownBlock = some k ∨ vv.ownBlock = some k) w7 w11 :=
   ((m8.trans m9 (U := fun k => k = ob ∨ v.ownBlock = some k ∨ kv.ownBlock = some k ∨ vv.ownBlock = some k) (fun k _ x => .inr (.inl x)) (fun k _ x => .inl x)).trans m10 (fun _ _ x => x) (fun k _ x => .inr (.inr (.inl x)))).trans m11 (fun _ _ x => x) (fun k _ x => .inr (.inr (.inr x)))
  have nt : ∀ k, MDL (L ++ [⟨d1, d2, e.k, e.v⟩]) k → ¬ (k = ob ∨ v.ownBlock = some k ∨ kv.ownBlock = some k ∨ vv.ownBlock = some k) := fun k hk x => by
   obtain ⟨_, a, _, b, _, _, c, d⟩ := bd k hk
   rcases x with x | x | x | x
   ·exact a x
   ·exact b x
   ·exact c x
   ·exact d x
  intro x hx
  have hx' := hx
  rw [List.mem_append, List.mem_singleton] at hx
  rcases hx with hx | rfl
  ·exact ⟨((h.own x hx).1.keep m7 (fun _ _ y => y)).keep m911 (fun k hk => nt k ⟨x, hx', .inl hk⟩), ((h.own x hx).2.keep m7 (fun _ _ y => y)).keep m911 (fun k hk => nt k ⟨x, hx', .inr hk⟩)⟩
  ·exact ⟨o1.keep m911 (fun k hk => nt k ⟨_, hx', .inl hk⟩), o2.keep m911 (fun k hk => nt k ⟨_, hx', .inr hk⟩)⟩
 ·rw [List.take_add_one, hget, List.map_append, List.map_append, h.eq]
  rfl
 ·obtain ⟨a, b, c, d, _⟩ := b8 k hk
  exact ⟨a, b, c, d⟩
 ·obtain ⟨a, b, c, _, d, e, _⟩ := bd k hk
  exact ⟨a, b, c, d, e⟩
 ·refine h.mods.trans tot (fun _ _ x => x) (fun k hk x => ?_)
  rcases x with rfl | x | x | x
  ·have := h.g1; omega
  ·have := (h.vb k x).1; omega
  ·have := (bk k x).1; omega
  ·have := (bv k x).1; omega
 ·intro k _ x hu
  rcases x with rfl | x | x | x
  ·exact h.u1 (.inl hu)
  ·exact (h.vb k x).2.2.2 (.inl hu)
  ·exact hk k x hu
  ·exact hv k x hu
 ·intro k _ x hu
  have hk0 := hT k hu
  rcases x with rfl | x | x | x
  ·have := h.g1; omega
  ·have := (h.vb k x).1; omega
  ·have := (bk k x).1; omega
  ·have := (bv k x).1; omega
theorem WdI.step0 {w W w8 w9 : World} {LL L : List EV} {ob i : Nat} {U : Nat → Prop} {v kv vv v8 : Value} {e : EV} (h : WdI Sx X H w LL ob i (fun k => U k ∨ argB #[kv, vv] k) W v L) (hlen : L.length = i) (hget : LL[i]? = some e) (hus : ∀ k, U k → k < W.heap.size) (hws : w.heap.size ≤ W.heap.size)
  (hk : ∀ k, kv.ownBlock = some k → ¬ U k) (hv : ∀ k, vv.ownBlock = some k → ¬ U k) (bk : ∀ k, kv.ownBlock = some k → w.heap.size ≤ k) (bv : ∀ k, vv.ownBlock = some k → w.heap.size ≤ k)
  (o1 : Gl.Own W kv e.k) (o2 : Gl.Own W vv e.v) (o8 : OwnG w8 152 2 v8 (L.length + 1) (ecell L ++ [kv, vv])) (m8 : Mods (ofV v) W w8) (f8 : v8.ownBlock = v.ownBlock ∨ freshIn W v8) (h9 : w9 = w8.setCell ⟨ob, 0, none⟩ v8) :
  WdI Sx X H w LL ob (i + 1) U w9 v8 (L ++ [⟨kv, vv, e.k, e.v⟩]) ∧ Mods (fun k => ¬ U k) W w9 ∧ (∀ T : Nat → Prop, (∀ k, T k → k < w.heap.size) → Mods (fun k => ¬ T k) W w9) := by
 have m9 : Mods (fun k => k = ob) w8 w9 := by rw [h9]; exact (Mods.refl (fun k => k = ob) w8).setCell (p := ⟨ob, 0, none⟩) (.inl rfl) v8
 have hlo := lt_of_heap h.hob
 have aK : ∀ k, kv.ownBlock = some k → argB #[kv, vv] k := fun k hk => ⟨kv, by simp, hk⟩
 have aV : ∀ k, vv.ownBlock = some k → argB #[kv, vv] k := fun k hk => ⟨vv, by simp, hk⟩
 have xl : ∀ k, X k → k < W.heap.size := fun k hk => lt_of_heap (h.hx k hk)
 have b8 : ∀ k, v8.ownBlock = some k → w.heap.size ≤ k ∧ k ≠ ob ∧ ¬ X k ∧ ¬ U k ∧ kv.ownBlock ≠ some k ∧ vv.ownBlock ≠ some k := fun k hk8 => by
  rcases f8 with f | f
  ·obtain ⟨a, b, c, d⟩ := h.vb k (f ▸ hk8)
   exact ⟨a, b, c, fun x => d (.inl x), fun x => d (.inr (aK k x)), fun x => d (.inr (aV k x))⟩
  ·have := f k hk8
   exact ⟨by omega, by omega, fun x => by have := xl k x; omega, fun x => by have := hus k x; omega, fun x => by have := o1.lt k x; omega, fun x => by have := o2.lt k x; omega⟩
 have dc : ∀ k, MDL (L ++ [⟨kv, vv, e.k, e.v⟩]) k → MDL L k ∨ kv.ownBlock = some k ∨ vv.ownBlock = some k := fun k hk => by
  obtain ⟨x, hx, hk⟩ := hk
  rw [List.mem_append, List.mem_singleton] at hx
  rcases hx with hx | rfl
  ·exact .inl ⟨x, hx, hk⟩
  ·exact .inr hk
 have bd : ∀ k, MDL (L ++ [⟨kv, vv, e.k, e.v⟩]) k → w.heap.size ≤ k ∧ k ≠ ob ∧ ¬ X k ∧ v.ownBlock ≠ some k ∧ v8.ownBlock ≠ some k ∧ ¬ U k := fun k hkd => by
  rcases dc k hkd with hm | hm | hm
  ·obtain ⟨a, b, c, d, e⟩ := h.db k hm
   have := h.dlt hm
   refine ⟨a, b, c, d, fun x => ?_, fun x => e (.inl x)⟩
   rcases f8 with f | f
   ·exact d (f ▸ x)
   ·have := f k x; omega
  ·exact ⟨bk k hm, fun x => h.u1 (.inr (x ▸ aK k hm)), fun x => h.u2 k x (.inr (aK k hm)), fun x => (h.vb k x).2.2.2 (.inr (aK k hm)), fun x => (b8 k x).2.2.2.2.1 hm, hk k hm⟩
  ·exact ⟨bv k hm, fun x => h.u1 (.inr (x ▸ aV k hm)), fun x => h.u2 k x (.inr (aV k hm)), fun x => (h.vb k x).2.2.2 (.inr (aV k hm)), fun x => (b8 k x).2.2.2.2.2 hm, hv k hm⟩
 have tot : Mods (fun k => k = ob ∨ v.ownBlock = some k) W w9 := m8.trans m9 (fun _ _ x => .inr x) (fun k _ x => .inl x)
 have nt : ∀ k, MDL (L ++ [⟨kv, vv, e.k, e.v⟩]) k → ¬ (k = ob ∨ v.ownBlock = some k) := fun k hk x => by
  obtain ⟨_, a, _, b, _, _⟩ := bd k hk
  rcases x with x | x
  ·exact a x
  ·exact b x
 refine ⟨⟨?_, fun k hk => ?_, ?_, fun x hx => ?_, ?_, fun x => h.u1 (.inl x), fun k hk x => h.u2 k hk (.inl x), fun k hk => ?_, fun k hk => ?_, h.g1, h.g2, h.ne, ?_, h.sx⟩, tot.mono ?_, fun T hT => tot.mono ?_⟩
 ·rw [h9]
  exact heap_set (m8.heap h.hob (fun x => (h.vb ob x).2.1 rfl)) 0 v8
 ·exact tot.heap (h.hx k hk) (fun x => by
   rcases x with x | x
   ·exact h.ne (x ▸ hk)
   ·exact (h.vb k x).2.2.1 hk)
 ·rw [List.length_append, List.length_singleton, ecell_append]
  exact o8.keep m9 (fun k hk x => (b8 k hk).2.1 x)
 ·have hx' := hx
  rw [List.mem_append, List.mem_singleton] at hx
  rcases hx with hx | rfl
  ·exact ⟨(h.own x hx).1.keep tot (fun k hk => nt k ⟨x, hx', .inl hk⟩), (h.own x hx).2.keep tot (fun k hk => nt k ⟨x, hx', .inr hk⟩)⟩
  ·exact ⟨o1.keep tot (fun k hk => nt k ⟨_, hx', .inl hk⟩), o2.keep tot (fun k hk => nt k ⟨_, hx', .inr hk⟩)⟩
 ·rw [List.take_add_one, hget, List.map_append, List.map_append, h.eq]
  rfl
 ·obtain ⟨a, b, c, d, _⟩ := b8 k hk
  exact ⟨a, b, c, d⟩
 ·obtain ⟨a, b, c, _, d, e⟩ := bd k hk
  exact ⟨a, b, c, d, e⟩
 ·refine h.mods.trans tot (fun _ _ x => x) (fun k hk x => ?_)
  rcases x with rfl | x
  ·have := h.g1; omega
  ·have := (h.vb k x).1; omega
 ·intro k _ x hu
  rcases x with rfl | x
  ·exact h.u1 (.inl hu)
  ·exact (h.vb k x).2.2.2 (.inl hu)
 ·intro k _ x hu
  have hk0 := hT k hu
  rcases x with rfl | x
  ·have := h.g1; omega
  ·have := (h.vb k x).1; omega
end
structure WkGot (w w' : World) (v : Value) (L : List EV) : Prop where
 row : OwnG w' 152 2 v L.length (ecell L)
 own : ∀ e ∈ L, Gl.Own w' e.kv e.k ∧ Gl.Own w' e.vv e.v
 vf : freshIn w v
 df : ∀ k, MDL L k → w.heap.size ≤ k ∧ v.ownBlock ≠ some k
theorem WdI.got {Sx X : Nat → Prop} {H : Nat → Obj} {T : Nat → Prop} {w W : World} {LL L : List EV} {ob i : Nat} {U : Nat → Prop} {v : Value} (h : WdI Sx X H w LL ob i U W v L) {W' : World} (hm : Mods T W W') (hT : ∀ k, T k → U k ∧ w.heap.size ≤ k) : WkGot w W' v L ∧ Mods Sx w W' :=
 have h' := h.keep hm (fun x => h.u1 (hT _ x).1) (fun k hk x => h.u2 k hk (hT _ x).1) (fun k hk x => (h.vb k hk).2.2.2 (hT _ x).1) (fun k hk x => (h.db k hk).2.2.2.2 (hT _ x).1) (fun k x => .inr (hT k x).2) (U' := U) (fun k hk => .inl hk)
 ⟨⟨h'.row, h'.own, fun k hk => (h'.vb k hk).1, fun k hk => ⟨(h'.db k hk).1, (h'.db k hk).2.2.2.1⟩⟩, h'.mods⟩
theorem WkGot.prow {w w' : World} {v : Value} {L : List EV} (h : WkGot w w' v L) : PRow w' v L := ⟨h.row.rd, fun e he => ⟨(h.own e he).1.rd, (h.own e he).2.rd⟩⟩
theorem WkGot.lt {w w' : World} {v : Value} {L : List EV} (h : WkGot w w' v L) : (∀ k, v.ownBlock = some k → k < w'.heap.size) ∧ ∀ k, MDL L k → k < w'.heap.size := ⟨h.row.lt, fun k ⟨e, he, hk⟩ => by
 rcases hk with hk | hk
 ·exact (h.own e he).1.lt k hk
 ·exact (h.own e he).2.lt k hk⟩
open Go.Gl Go.RowKit
open Go.Gl Go.RowKit
theorem infoPr : (Tryz.prog.info? 152).map (fun i => (i.zero, i.size, i.bytes)) = some (some (.agg #[.slice none 0 0, .slice none 0 0]), 2, 48) := by kernel_rfl
set_option maxHeartbeats 1000000 in
theorem dm0 {w : World} {x0 x1 x2 x3 x4 x5 x6 x7 x8 x9 x10 x11 x12 x13 x14 x15 x16 x17 x18 x19 : Value} {df : List Deferred} {Q : Exit → Act → World → Prop}
  (hK : ∀  (w' : World), w' = w → Q .normal ⟨#[x0, x1, .slice none 0 0, x3, x4, x5, x6, x7, x8, x9, x10, x11, x12, x13, x14, x15, x16, x17, x18, x19], df⟩ w') : RW Tryz.prog (opsC 0 Tryz.f20) false Q ⟨#[x0, x1, x2, x3, x4, x5, x6, x7, x8, x9, x10, x11, x12, x13, x14, x15, x16, x17, x18, x19], df⟩ w := by
 have HQ := Lib.hid hK
 clear hK
 refine rw_lin [(0, false)] (by kernel_rfl) ?_
 refine wpOrdT_freesB [0] [(.slice none 0 0)] (rest := []) (by kernel_rfl) (by kernel_rfl) (by kernel_rfl) (.inr trivial) ?_
 exact wpOrdT_doneC (act_is (K := Q .normal) (by kernel_rfl) (HQ.out  _ rfl))
set_option maxHeartbeats 1000000 in
theorem dm1 {w : World} {x0 x1 x2 x3 x4 x5 x6 x7 x8 x9 x10 x11 x12 x13 x14 x15 x16 x17 x18 x19 : Value} {df : List Deferred} {Q : Exit → Act → World → Prop}
  (hK : ∀ (bq : Nat) (w' : World), bq = w.heap.size → w'.heap[bq]? = some (.cells #[.slice none 0 0] 29 (0, 0)) → Mods noB w w' → Q .normal ⟨#[x0, x1, x2, .pointer (some ⟨bq, 0, none⟩), x4, x5, x6, x7, x8, x9, x10, x11, x12, x13, x14, x15, x16, x17, x18, x19], df⟩ w') : RW Tryz.prog (opsC 1 Tryz.f20) false Q ⟨#[x0, x1, x2, x3, x4, x5, x6, x7, x8, x9, x10, x11, x12, x13, x14, x15, x16, x17, x18, x19], df⟩ w := by
 have HQ := Lib.hid hK
 clear hK
 refine rw_lin [(0, false)] (by kernel_rfl) ?_
 refine wpOrdT_alloc (.cells #[.slice none 0 0] 29) (some 3) ⟨by kernel_rfl, by kernel_rfl, by kernel_rfl⟩ (by kernel_rfl) ?_
 intro k1 w_k1 hk_k1 hO_k1 hm_k1 hl_k1
 refine ⟨fun _ => trivial, ?_⟩
 exact wpOrdT_doneC (act_is (K := Q .normal) (by kernel_rfl) (HQ.out  k1 w_k1 hk_k1 hO_k1 hm_k1))
set_option maxHeartbeats 1000000 in
theorem dm2 {w : World} {sg mg : Nat} {X : Nat → Nat → Nat → Value → Value → World → Prop} (c1 : w.cell? ⟨sg, 0, none⟩ = some (.pointer (some ⟨mg, 0, none⟩))) (hC : Calls Tryz.prog 91 #[.pointer (some ⟨mg, 0, none⟩), .slice none 0 0, .slice none 0 0] w fun e w' => ∃ m bf bt fv' tv', e = .returned (.func (.func 159) #[] #[.pointer (some ⟨m, 0, none⟩), .pointer (some ⟨bf, 0, none⟩), .pointer (some ⟨bt, 0, none⟩)]) ∧ X m bf bt fv' tv' w') {x1 x2 x3 x4 x5 x6 x7 x8 x9 x10 x11 x12 x13 x14 x15 x16 x17 x18 x19 : Value} {df : List Deferred} {Q : Exit → Act → World → Prop}
  (hK : ∀ (y6 y7 y8 y9 : Value) (m bf bt : Nat) (fv' tv' : Value) (w' : World), X m bf bt fv' tv' w' → Q .normal ⟨#[.pointer (some ⟨sg, 0, none⟩), x1, x2, x3, x4, x5, y6, y7, y8, y9, .func (.func 159) #[] #[.pointer (some ⟨m, 0, none⟩), .pointer (some ⟨bf, 0, none⟩), .pointer (some ⟨bt, 0, none⟩)], x11, x12, x13, x14, x15, x16, x17, x18, x19], df⟩ w') : RW Tryz.prog (opsC 2 Tryz.f20) false Q ⟨#[.pointer (some ⟨sg, 0, none⟩), x1, x2, x3, x4, x5, x6, x7, x8, x9, x10, x11, x12, x13, x14, x15, x16, x17, x18, x19], df⟩ w := by
 have HQ := Lib.hid hK
 clear hK
 refine rw_lin [(0, false), (1, false), (2, false), (3, false), (4, false)] (by kernel_rfl) ?_
 refine wpOrdT_freesB [0, 1, 2] [.pointer (some ⟨sg, 0, none⟩), .pointer (some ⟨sg, 0, none⟩), .pointer (some ⟨sg, 0, none⟩)] (rest := [(3, false), (4, false)]) (by kernel_rfl) (by kernel_rfl) (by kernel_rfl) (.inr trivial) ?_
 refine wpOrdT_run (.pointer (some ⟨mg, 0, none⟩)) _ (some 9) ⟨by kernel_rfl, by kernel_rfl, by kernel_rfl⟩ (of_load (x := (.tmp 8)) (by kernel_rfl) (by kernel_rfl) (load_c ((fun _ => c1) (trivial)) Tryz.underlying129 rfl)) (fun _ => trivial) ?_
 refine wpOrdT_call (some 10) ⟨by kernel_rfl, by kernel_rfl, by kernel_rfl⟩ hC (fun _ => by kernel_rfl) ?_
 rintro r w7 ⟨m, bf, bt, fv', tv', rfl, hh⟩
 refine ⟨_, rfl, fun _ => trivial, ?_⟩
 exact wpOrdT_doneC (act_is (K := Q .normal) (by kernel_rfl) (HQ.out (.pointer (some ⟨sg, 0, none⟩)) (.pointer (some ⟨sg, 0, none⟩)) (.pointer (some ⟨sg, 0, none⟩)) (.pointer (some ⟨mg, 0, none⟩)) m bf bt fv' tv' w7 hh))
set_option maxHeartbeats 1000000 in
theorem dm3 {w : World} {v : Value} {x0 x1 x2 x3 x4 x5 x6 x7 x8 x9 x10 x12 x13 x14 x15 x16 x17 x18 x19 : Value} {df : List Deferred} {Q : Exit → Act → World → Prop}
  (hK : ∀  (w' : World), w' = w → Q .normal ⟨#[x0, x1, x2, x3, v, x5, x6, x7, x8, x9, x10, v, x12, x13, x14, x15, x16, x17, x18, x19], df⟩ w') : RW Tryz.prog (opsC 3 Tryz.f20) false Q ⟨#[x0, x1, x2, x3, x4, x5, x6, x7, x8, x9, x10, v, x12, x13, x14, x15, x16, x17, x18, x19], df⟩ w := by
 have HQ := Lib.hid hK
 clear hK
 refine rw_lin [(0, false)] (by kernel_rfl) ?_
 refine wpOrdT_freesB [0] [v] (rest := []) (by kernel_rfl) (by kernel_rfl) (by kernel_rfl) (.inr trivial) ?_
 exact wpOrdT_doneC (act_is (K := Q .normal) (by kernel_rfl) (HQ.out  _ rfl))
set_option maxHeartbeats 1000000 in
theorem dm4 {w : World} {v : Value} {x0 x1 x2 x3 x4 x5 x6 x7 x8 x9 x10 x11 x13 x14 x15 x16 x17 x18 x19 : Value} {df : List Deferred} {Q : Exit → Act → World → Prop}
  (hK : ∀  (w' : World), w' = w → Q .normal ⟨#[x0, x1, x2, x3, x4, v, x6, x7, x8, x9, x10, x11, v, x13, x14, x15, x16, x17, x18, x19], df⟩ w') : RW Tryz.prog (opsC 4 Tryz.f20) false Q ⟨#[x0, x1, x2, x3, x4, x5, x6, x7, x8, x9, x10, x11, v, x13, x14, x15, x16, x17, x18, x19], df⟩ w := by
 have HQ := Lib.hid hK
 clear hK
 refine rw_lin [(0, false)] (by kernel_rfl) ?_
 refine wpOrdT_freesB [0] [v] (rest := []) (by kernel_rfl) (by kernel_rfl) (by kernel_rfl) (.inr trivial) ?_
 exact wpOrdT_doneC (act_is (K := Q .normal) (by kernel_rfl) (HQ.out  _ rfl))
set_option maxHeartbeats 1000000 in
theorem dm5 {w : World} {ob n nk ck nv cv : Nat} {ak av : Option Addr} {vo : Value} {pcs : List Value} {t : TypeId} (hg : w.heap[ob]? = some (.cells #[vo] t (0, 0))) (hr : OwnG w 152 2 vo n pcs) (hn : n ≤ 100000000) (hvo : ¬ ofV vo ob) {x0 x1 x2 x6 x7 x8 x9 x10 x11 x12 x13 x14 x15 x16 x17 x18 x19 : Value} {df : List Deferred} {Q : Exit → Act → World → Prop}
  (hK : ∀ (y13 y14 y15 y16 y17 y18 : Value) (v8 : Value) (w8 : World) (w' : World), OwnG w8 152 2 v8 (n + 1) (pcs ++ [(.slice ak nk ck), (.slice av nv cv)]) → Mods (ofV vo) w w8 → (v8.ownBlock = vo.ownBlock ∨ freshIn w v8) → w' = w8.setCell ⟨ob, 0, none⟩ v8 → Q .normal ⟨#[x0, x1, x2, .pointer (some ⟨ob, 0, none⟩), (.slice ak nk ck), (.slice av nv cv), x6, x7, x8, x9, x10, x11, x12, y13, y14, y15, y16, y17, y18, x19], df⟩ w') : RW Tryz.prog (opsC 5 Tryz.f20) false Q ⟨#[x0, x1, x2, .pointer (some ⟨ob, 0, none⟩), (.slice ak nk ck), (.slice av nv cv), x6, x7, x8, x9, x10, x11, x12, x13, x14, x15, x16, x17, x18, x19], df⟩ w := by
 have HQ := Lib.hid hK
 clear hK
 have HR := Lib.hid hr
 have HG := Lib.hid hg
 have q0 : w.cell? ⟨ob, 0, none⟩ = some vo := cells_of hg 0
 clear hr hg
 have MR := Lib.hid (Mods.refl noB w)
 refine rw_lin [(0, false), (1, false), (2, false), (3, false), (4, false), (5, false), (6, false)] (by kernel_rfl) ?_
 refine wpOrdT_run (vo) _ (some 13) ⟨by kernel_rfl, by kernel_rfl, by kernel_rfl⟩ (of_load (x := (.tmp 3)) (by kernel_rfl) (by kernel_rfl) (load_c ((fun _ => q0) (trivial)) Tryz.underlying29 rfl)) (fun _ => trivial) ?_
 refine wpOrdT_freesB [1, 2, 3] [(.slice ak nk ck), (.slice av nv cv), .agg #[(.slice ak nk ck), (.slice av nv cv)]] (rest := [(4, false), (5, false), (6, false)]) (by kernel_rfl) (by kernel_rfl) (by kernel_rfl) (.inr trivial) ?_
 refine wpOrdT_bs (.cells #[(.slice ak nk ck), (.slice av nv cv)] 152) 1 (some 17) ⟨by kernel_rfl, by kernel_rfl, by kernel_rfl⟩ (by kernel_rfl) ?_
 intro k1 w_k1 hk_k1 hO_k1 hm_k1 hl_k1
 have MZ := MR.out.size
 replace MR := Lib.hid (MR.out.then0 hm_k1)
 refine ⟨fun _ => trivial, ?_⟩
 obtain ⟨inf, hi, hz, hs, hby⟩ := info_parts infoPr
 obtain ⟨v8, w8, hr8, o8, m8, f8⟩ := run_ap (P := Tryz.prog) 29 29 29 152 152 inf (.agg #[.slice none 0 0, .slice none 0 0]) Tryz.underlying29 Tryz.underlying29 hi hz (by rw [hs]; rfl) (by rw [hs]; exact HR.out.keep MR.out (fun _ _ x => x)) (m := 1) (ys := [(.slice ak nk ck), (.slice av nv cv)]) (by rw [hs]; exact OwnG.rd (ob_new hO_k1).own) (by intro y hy; simp at hy; rcases hy with rfl | rfl <;> rfl) (by unfold maxLen; omega) (by rw [hby]; omega)
 rw [hs] at o8
 refine wpOrdT_run v8 w8 (some 18) ⟨by kernel_rfl, by kernel_rfl, by kernel_rfl⟩ (of_append (x := (.tmp 13)) (y := (.tmp 17)) (by kernel_rfl) (by kernel_rfl) (by kernel_rfl) hr8) (fun _ => trivial) ?_
 have m78 := hm_k1.trans m8 (U := ofV vo) (fun _ _ x => x.elim) (fun _ _ x => x)
 have f9 := f8.imp id (fun h => h.of hm_k1.size)
 have hg8 := m78.heap HG.out hvo
 obtain ⟨a8, c8, e8, _⟩ := o8.rd.form
 have h18 : v8.oneCell' = true := by rw [e8]; rfl
 clear e8
 refine wpOrdT_st1 (ty := 29) (x := (.tmp 3)) (y := (.tmp 18)) (g := ob) (off := 0) (v := v8) none ⟨by kernel_rfl, by kernel_rfl, by kernel_rfl⟩ (by kernel_rfl) (by kernel_rfl) (by kernel_rfl) (by kernel_rfl) (by rw [cells_of hg8]; rfl) (free_of hg8 _) (h18) ?_
 intro w9 hw9
 refine ⟨(fun h => by first | (cases h; done) | exact trivial), ?_⟩
 exact wpOrdT_doneC (act_is (K := Q .normal) (by kernel_rfl) (HQ.out (vo) ((.slice ak nk ck)) ((.slice av nv cv)) (.agg #[(.slice ak nk ck), (.slice av nv cv)]) (.slice (some ⟨k1, 0, none⟩) 1 1) (v8) v8 w8 w9 o8 m78 f9 hw9))
set_option maxHeartbeats 1000000 in
theorem dm6 {w : World} {ob : Nat} {v : Value} (q0 : w.cell? ⟨ob, 0, none⟩ = some v) {x0 x1 x2 x4 x5 x6 x7 x8 x9 x10 x11 x12 x13 x14 x15 x16 x17 x18 x19 : Value} {df : List Deferred} {Q : Exit → Act → World → Prop}
  (hK : ∀ (y19 : Value)  (w' : World), w' = w → Q .normal ⟨#[x0, x1, v, .pointer (some ⟨ob, 0, none⟩), x4, x5, x6, x7, x8, x9, x10, x11, x12, x13, x14, x15, x16, x17, x18, y19], df⟩ w') : RW Tryz.prog (opsC 6 Tryz.f20) false Q ⟨#[x0, x1, x2, .pointer (some ⟨ob, 0, none⟩), x4, x5, x6, x7, x8, x9, x10, x11, x12, x13, x14, x15, x16, x17, x18, x19], df⟩ w := by
 have HQ := Lib.hid hK
 clear hK
 refine rw_lin [(0, false), (1, false)] (by kernel_rfl) ?_
 refine wpOrdT_run (v) _ (some 19) ⟨by kernel_rfl, by kernel_rfl, by kernel_rfl⟩ (of_load (x := (.tmp 3)) (by kernel_rfl) (by kernel_rfl) (load_c ((fun _ => q0) (trivial)) Tryz.underlying29 rfl)) (fun _ => trivial) ?_
 refine wpOrdT_freesB [1] [v] (rest := []) (by kernel_rfl) (by kernel_rfl) (by kernel_rfl) (.inr trivial) ?_
 exact wpOrdT_doneC (act_is (K := Q .normal) (by kernel_rfl) (HQ.out (v) _ rfl))
open Go.Gl Go.RowKit
open Go.Gl Go.RowKit
theorem wk_all {R : List PV} (ok : PgOk (pgs R)) : (wkL R [] []).map EV.ent = (pgs R).flatten := ents_wk_all ok
set_option maxHeartbeats 4000000 in
theorem kDump_any {w : World} {sg mg : Nat} {vo jv : Value} {R : List PV} {J : List JV} {n : Int} (h : KM w sg mg vo R jv J n) (ok : PgOk (pgs R)) (hn : R.length ≤ 1000000) (hc : (pgs R).flatten.length ≤ 100000000) :
  Calls Tryz.prog 20 #[.pointer (some ⟨sg, 0, none⟩)] w fun e w' => ∃ v L, e = .returned v ∧ WkGot w w' v L ∧ Mods noB w w' ∧ L.map EV.ent = (pgs R).flatten := by
 have hLL : (wkL R [] []).length ≤ 100000000 := by have := congrArg List.length (wk_all ok); rw [List.length_map] at this; omega
 rw [← wk_all ok]
 (refine calls_marks _ Tryz.func20 rfl ?_; simp only [Tryz.ntmps20, List.size_toArray, List.length_cons, List.length_nil, Nat.reduceAdd, Nat.reduceSub, Array.replicate_succ, Array.replicate_zero, List.push_toArray, List.append_toArray, List.nil_append, List.cons_append])
 refine wpIn_seq ?_
 refine wpIn_tl (d := .region 0 (opsC 0 Tryz.f20) false) (by kernel_rfl) ?_
 refine RW.wpIn (dm0 ?_) (by kernel_rfl)
 intro w1 e1
 subst e1
 refine then_n ?_
 refine wpIn_seq ?_
 refine wpIn_tl (d := .region 1 (opsC 1 Tryz.f20) false) (by kernel_rfl) ?_
 refine RW.wpIn (dm1 ?_) (by kernel_rfl)
 intros
 rename_i ob w2 e2 h2 m2
 refine then_n ?_
 have k2 := h.keep0 m2
 refine wpIn_seq ?_
 refine wpIn_seq ?_
 refine wpIn_tl (d := .region 2 (opsC 2 Tryz.f20) false) (by kernel_rfl) ?_
 refine RW.wpIn (dm2 k2.cells.1 (Walk_any k2.pm (Rd.nil w2) (Rd.nil w2) (by simp) (by simp)) ?_) (by kernel_rfl)
 intros
 rename_i m bf bt fv tv w3 hr
 refine then_n ?_
 obtain ⟨wp, m3, g3, g4, g5, f3, f4⟩ := hr
 have hlo := lt_of_heap h2
 have s2 := m2.size
 have s3 := m3.size
 have hob3 := m3.heap h2 (fun x => x)
 have nU : ¬ UWk mg vo R m bf bt fv tv ob := fun x => by
  rcases x with (x | x | x | x | x) | x | x
  ·have := h.pm.lt ob x; omega
  ·have := h.pm.dlt ob x; omega
  ·omega
  ·omega
  ·have := f3 ob x; omega
  ·omega
  ·have := f4 ob x; omega
 have hI0 : WdI noB (fun _ => False) (fun _ => .deferred none) w1 (wkL R [] []) ob 0 (UWk mg vo R m bf bt fv tv) w3 (.slice none 0 0) [] :=
  ⟨hob3, fun k x => x.elim, ⟨rfl, .inl ⟨rfl, rfl⟩⟩, fun e he => (List.not_mem_nil he).elim, rfl, nU, fun k x => x.elim, fun k hk => by simp [Value.ownBlock] at hk, fun k ⟨e, he, _⟩ => (List.not_mem_nil he).elim, by omega, fun k x => x.elim, fun x => x, m2.then0 m3, fun k x => x.elim⟩
 refine wpIn_block ?_
 refine wpIn_range0 (by rfl) (enters_of Tryz.func159 (by kernel_rfl) rfl) (walk_iter wp ok hn (by simp)) (Mods.refl _ _) wp.lt (argsOk_wk _ _) (fun i U args W1 hA => by obtain ⟨e, kv, vv, _, rfl, _⟩ := hA; rfl)
  (fun i U Wr => i ≤ (wkL R [] []).length ∧ ∃ v L, WdI noB (fun _ => False) (fun _ => .deferred none) w1 (wkL R [] []) ob i U Wr v L)
  (fun c i U Wr => False)
  ?_ ?_ ⟨Nat.zero_le _, _, _, hI0⟩ ?_ ?_ ?_
 ·rintro i U U' A B' ⟨h1, v, L, h3⟩ hm hus hsub
  exact ⟨h1, v, L, h3.frm (by omega) hm hsub⟩
 ·rintro c i U U' A B' h1 hm hus hsub
  exact h1
 ·-- one round
  intro lp i U args Wr hlp hUlp hi _ ⟨e, kv, vv, hei, hargs, hok, hov, hkU, hvU, hkv, hkB, hvB⟩ hUs hwr _ ⟨hin, v, L, hI⟩ hab
  subst hargs
  obtain ⟨ak, ck, rfl, _⟩ := hok.rd.form
  obtain ⟨av, cv, rfl, _⟩ := hov.rd.form
  simp only [putArgs, List.setIfInBounds_toArray, List.set_cons_succ, List.set_cons_zero]
  refine wpIn_seq ?_
  refine wpIn_tl (d := .region 3 (opsC 3 Tryz.f20) false) (by kernel_rfl) ?_
  refine RW.wpIn (dm3 ?_) (by kernel_rfl)
  intro w4 e4
  subst e4
  refine then_n ?_
  refine wpIn_tl (d := .region 4 (opsC 4 Tryz.f20) false) (by kernel_rfl) ?_
  refine RW.wpIn (dm4 ?_) (by kernel_rfl)
  intro w4 e4
  subst e4
  refine then_n ?_
  refine ⟨Mods.refl _ _, ?_⟩
  intro W2 m2' _
  have hI2 := hI.frm (by omega) (B := W2) (base := w3.heap.size) (U' := fun k => U k ∨ argB #[.slice ak e.k.length ck, .slice av e.v.length cv] k) (m2'.mono (fun k _ hk => by subst hk; exact ⟨.inl hUlp, .inr hlp⟩)) (fun k hk => .inl hk)
  have hok2 := hok.keep m2' (fun k hk x => hkU k hk (x ▸ hUlp))
  have hov2 := hov.keep m2' (fun k hk x => hvU k hk (x ▸ hUlp))
  have hUs2 : ∀ k, U k → k < W2.heap.size := fun k hk => Nat.lt_of_lt_of_le (hUs k hk) m2'.size
  have hlen : L.length = i := by
   have := congrArg List.length hI2.eq
   rw [List.length_map, List.length_map, List.length_take] at this
   omega
  have hsz2 : w4.heap.size ≤ W2.heap.size := m2'.size
  refine wpIn_block ?_
  refine wpIn_tl (d := .region 5 (opsC 5 Tryz.f20) false) (by kernel_rfl) ?_
  refine RW.wpIn (dm5 hI2.hob hI2.row (by omega) (fun x => (hI2.vb ob x).2.1 rfl) ?_) (by kernel_rfl)
  intros
  rename_i v8 w8 w9 o8 m8 f8 h9
  refine block_n ?_
  obtain ⟨hS, hM, _⟩ := hI2.step0 hlen hei hUs2 hI2.mods.size hkU hvU (fun k hk => by have := hkB k hk; omega) (fun k hk => by have := hvB k hk; omega) hok2 hov2 o8 m8 f8 h9
  exact ⟨hM, hi, _, _, hS⟩
 ·-- all have come
  rintro D U W5 hD hUD hus ⟨h1, v, L, h3⟩ hdef
  refine block_n ?_
  refine then_n ?_
  refine wpIn_seq ?_
  refine wpIn_tl (d := .region 6 (opsC 6 Tryz.f20) false) (by kernel_rfl) ?_
  refine RW.wpIn (dm6 (cells_of h3.hob 0) ?_) (by kernel_rfl)
  intros
  rename_i w6 e6
  subst e6
  refine then_n ?_
  refine wpIn_ret ?_
  refine marks_leave hdef (results_tmp rfl _ _ _) ?_
  obtain ⟨g, gm⟩ := h3.got (putObj_mods _ D _) (fun k hk => by subst hk; exact ⟨hUD, by omega⟩)
  refine ⟨v, L, rfl, g, gm, ?_⟩
  rw [h3.eq, List.take_length]
 ·rintro D c i U W5 hD hUD hus hi h1 hdef
  exact h1.elim
open Go.Gl Go.RowKit
open Go.Gl Go.RowKit
open Go.Gl Go.RowKit
theorem flat_bound {ps : Pgs} (ok : PgOk ps) : ps.length ≤ ps.flatten.length := by
  have key : ∀ qs : Pgs, (∀ p ∈ qs, p ≠ []) → qs.length ≤ qs.flatten.length := fun qs => by
    induction qs with
    | nil => intro _; simp
    | cons q qs ih =>
      intro h
      have h1 := ih (fun p hp => h p (List.mem_cons_of_mem _ hp))
      have h2 := h q (List.mem_cons_self ..)
      have h3 : q.length ≠ 0 := fun e => h2 (List.eq_nil_of_length_eq_zero e)
      rw [List.flatten_cons, List.length_append, List.length_cons]
      omega
  exact key ps ok.ne
theorem insL_len {l : List Ent} (h : Ris l) (k v : List UInt8) : (insL l k v).length ≤ l.length + 1 := by
 have h3 := congrArg List.length (ris_three h k)
 rw [List.length_append, List.length_append] at h3
 have h4 : (insL l k v).length = (l.filter (fun e => lessB e.1 k)).length + ((l.filter (fun e => lessB k e.1)).length + 1) := by unfold insL; rw [List.length_append, List.length_cons]
 rw [h4]
 omega
theorem delL_len {l : List Ent} (h : Ris l) (k : List UInt8) : (delL l k).length ≤ l.length := by
 have h3 := congrArg List.length (ris_three h k)
 rw [List.length_append, List.length_append] at h3
 have h4 : (delL l k).length = (l.filter (fun e => lessB e.1 k)).length + (l.filter (fun e => lessB k e.1)).length := by unfold delL; rw [List.length_append]
 rw [h4]
 omega
open Go.Gl Go.RowKit
theorem KS.made {sg mg : Nat} {vo : Value} {R : List PV} {k : Nat} (h : KS sg mg vo R (.slice none 0 0) [] k) : k = sg ∨ MS mg vo R k := by
 rcases h with h | h | h | ⟨q, hq, _⟩
 ·exact .inl h
 ·exact .inr h
 ·simp [Value.ownBlock] at h
 ·exact (List.not_mem_nil hq).elim
theorem KD.made {R : List PV} {k : Nat} (h : KD R [] k) : MD R k := by
 rcases h with h | ⟨q, hq, _⟩
 ·exact h
 ·exact (List.not_mem_nil hq).elim
open Go.Gl Go.RowKit
def JU (J : List JV) : List (List Und) := (J.map (fun q => q.us.map (·.u))).reverse
def totJ (J : List JV) : Nat := (J.map (fun q => q.us.length)).sum
theorem snaps_len (ls : List (List Und)) : ∀ F, (snaps ls F).length = ls.length := by
 induction ls with
 | nil => intro F; rfl
 | cons l ls ih => intro F; simp [snaps, ih]
theorem JU_len (J : List JV) : (JU J).length = J.length := by simp [JU]
theorem JU_snoc (A : List JV) (q : JV) : JU (A ++ [q]) = q.us.map (·.u) :: JU A := by simp [JU]
theorem tot_snoc (A : List JV) (q : JV) : totJ (A ++ [q]) = totJ A + q.us.length := by simp [totJ]
theorem tot_mem {J : List JV} {q : JV} (h : q ∈ J) : q.us.length ≤ totJ J := by
  induction J with
  | nil => cases h
  | cons a J ih =>
    have e : totJ (a :: J) = a.us.length + totJ J := by simp [totJ]
    rcases List.mem_cons.1 h with rfl | h
    · omega
    · have := ih h; omega
def KV (w : World) (sg : Nat) (F : List Ent) (Ws : List (List Ent)) (n p : Nat) (S D : Nat → Prop) : Prop :=
 ∃ mg vo R jv J, KM w sg mg vo R jv J (n : Int) ∧ PgOk (pgs R) ∧ (pgs R).flatten = F ∧ snaps (JU J) F = Ws ∧ J.length ≤ 16 ∧ F.length + totJ J ≤ p ∧ S = KS sg mg vo R jv J ∧ D = KD R J
theorem KV.ris {w : World} {sg : Nat} {F : List Ent} {Ws : List (List Ent)} {n p : Nat} {S D : Nat → Prop} (h : KV w sg F Ws n p S D) : Ris F := by
 obtain ⟨mg, vo, R, jv, J, km, ok, rfl, _⟩ := h
 exact ok.ris
theorem KV.lt {w : World} {sg : Nat} {F : List Ent} {Ws : List (List Ent)} {n p : Nat} {S D : Nat → Prop} (h : KV w sg F Ws n p S D) : (∀ k, S k → k < w.heap.size) ∧ (∀ k, D k → k < w.heap.size) ∧ S sg := by
 obtain ⟨mg, vo, R, jv, J, km, ok, hf, hw, hj, hp, rfl, rfl⟩ := h
 exact ⟨km.lt, km.dlt, .inl rfl⟩
theorem KV.keep {w w' : World} {sg : Nat} {F : List Ent} {Ws : List (List Ent)} {n p : Nat} {S D T : Nat → Prop} (h : KV w sg F Ws n p S D) (hm : Mods T w w') (h1 : ∀ k, S k → ¬ T k) (h2 : ∀ k, D k → ¬ T k) : KV w' sg F Ws n p S D := by
 obtain ⟨mg, vo, R, jv, J, km, ok, hf, hw, hj, hp, rfl, rfl⟩ := h
 exact ⟨mg, vo, R, jv, J, km.keep hm h1 h2, ok, hf, hw, hj, hp, rfl, rfl⟩
theorem KV.keep0 {w w' : World} {sg : Nat} {F : List Ent} {Ws : List (List Ent)} {n p : Nat} {S D : Nat → Prop} (h : KV w sg F Ws n p S D) (hm : Mods noB w w') : KV w' sg F Ws n p S D := h.keep hm (fun _ _ x => x) (fun _ _ x => x)
theorem KV.more {w : World} {sg : Nat} {F : List Ent} {Ws : List (List Ent)} {n p p' : Nat} {S D : Nat → Prop} (h : KV w sg F Ws n p S D) (hp' : p ≤ p') : KV w sg F Ws n p' S D := by
 obtain ⟨mg, vo, R, jv, J, km, ok, hf, hw, hj, hp, hs, hd⟩ := h
 exact ⟨mg, vo, R, jv, J, km, ok, hf, hw, hj, by omega, hs, hd⟩
theorem KV.len {w : World} {sg : Nat} {F : List Ent} {Ws : List (List Ent)} {n p : Nat} {S D : Nat → Prop} (h : KV w sg F Ws n p S D) : F.length ≤ p ∧ Ws.length ≤ 16 := by
 obtain ⟨mg, vo, R, jv, J, km, ok, hf, hw, hj, hp, hs, hd⟩ := h
 exact ⟨by omega, by rw [← hw, snaps_len, JU_len]; exact hj⟩
def Chg (w w' : World) (sg : Nat) (S D : Nat → Prop) (F' : List Ent) (Ws' : List (List Ent)) (n' p' : Nat) : Prop :=
 ∃ S' D', KV w' sg F' Ws' n' p' S' D' ∧ Mods S w w' ∧ (∀ k, S' k → S k ∨ w.heap.size ≤ k) ∧ (∀ k, D' k → D k ∨ w.heap.size ≤ k)
theorem chg_of {w w' : World} {sg mg : Nat} {vo jv vo' jv' : Value} {R R' : List PV} {J J' : List JV} {n' p' : Nat} (t : KT w w' sg mg vo R jv J vo' R' jv' J' (n' : Int)) (ok : PgOk (pgs R')) (hj : J'.length ≤ 16) (hp : (pgs R').flatten.length + totJ J' ≤ p') {F' : List Ent} {Ws' : List (List Ent)} (hf : (pgs R').flatten = F') (hw : snaps (JU J') F' = Ws') :
  Chg w w' sg (KS sg mg vo R jv J) (KD R J) F' Ws' n' p' :=
 ⟨_, _, ⟨mg, vo', R', jv', J', t.km, ok, hf, hw, hj, by rw [← hf]; exact hp, rfl, rfl⟩, t.mods, t.ks, t.kd⟩
theorem val_len {w : World} {sg mg : Nat} {vo jv : Value} {R : List PV} {J : List JV} {n : Int} (h : KM w sg mg vo R jv J n) (ok : PgOk (pgs R)) {k v : List UInt8} (hg : getP (pgs R) k = some v) : v.length ≤ 1000000 := by
 rw [getP_eq ok] at hg
 have hm := (getL_filter (pgs R).flatten k ok.ris).2 v hg
 obtain ⟨l, hl, he⟩ := List.mem_flatten.1 hm
 obtain ⟨p, hp, rfl⟩ := List.mem_map.1 hl
 obtain ⟨e, hee, hev⟩ := List.mem_map.1 he
 have := (h.pm.ents p hp e hee).lv
 have h2 : e.v = v := congrArg Prod.snd hev
 rw [← h2]
 exact this
theorem found_get {ps : Pgs} (ok : PgOk ps) (k : List UInt8) : (findP ps k).2.2 = (getL ps.flatten k).isSome := by
 rw [← getP_eq ok]
 unfold getP
 cases (findP ps k).2.2 <;> rfl
theorem snaps_noted {J J' : List JV} {k : List UInt8} {F F' : List Ent} (old : Option (List UInt8)) (h : Noted J J' k old) (hu : undo1 ⟨k, old⟩ F' = F) : snaps (JU J') F' = snaps (JU J) F ∧ J'.length = J.length ∧ totJ J' ≤ totJ J + 1 := by
 rcases h with ⟨rfl, rfl⟩ | ⟨A, q0, v, x, rfl, rfl, hx⟩
 ·exact ⟨rfl, rfl, by omega⟩
 ·refine ⟨?_, by simp, ?_⟩
  ·rw [JU_snoc, JU_snoc, List.map_append, List.map_singleton, hx]
   exact snaps_note hu _ _
  ·rw [tot_snoc, tot_snoc, List.length_append, List.length_singleton]
   omega
/-! ### the calls -/
theorem hNew (w : World) : Calls Tryz.prog 12 #[] w fun e w' => ∃ sg S D, e = .returned (.pointer (some ⟨sg, 0, none⟩)) ∧ KV w' sg [] [] 0 0 S D ∧ Mods noB w w' ∧ (∀ k, S k → w.heap.size ≤ k) ∧ (∀ k, ¬ D k) := by
 refine (kNew_any w).mono ?_
 rintro e w' ⟨sg, mg, rfl, km, m, g1, g2⟩
 refine ⟨sg, _, _, rfl, ⟨mg, _, [], _, [], km, ⟨List.Pairwise.nil, fun p hp => (List.not_mem_nil hp).elim, fun p hp => (List.not_mem_nil hp).elim⟩, rfl, rfl, by simp, by simp [totJ], rfl, rfl⟩, m, fun k hk => ?_, fun k hk => ?_⟩
 ·rcases hk.made with rfl | hk
  ·exact g1
  ·rcases hk with rfl | hk | ⟨p, hp, _⟩
   ·exact g2
   ·simp [Value.ownBlock] at hk
   ·exact (List.not_mem_nil hp).elim
 ·obtain ⟨p, hp, _⟩ := hk.made
  exact (List.not_mem_nil hp).elim
section
variable {w : World} {sg n p : Nat} {F : List Ent} {Ws : List (List Ent)} {S D : Nat → Prop}
theorem hSet {q u : Value} {ks vs : List UInt8} (h : KV w sg F Ws n p S D) (hq : Rd w q ks) (hu : Rd w u vs) (hqs : Off S q ks) (hus : Off S u vs) (hn : n ≤ 1000000000000) (hp : p ≤ 100000) :
  Calls Tryz.prog 74 #[.pointer (some ⟨sg, 0, none⟩), q, u] w fun e w' => e = .returned (.int .i64 (setErr ks vs : Nat)) ∧ Chg w w' sg S D (if setErr ks vs = 0 then insL F ks vs else F) Ws (n + 1) (p + 2) := by
 obtain ⟨mg, vo, R, jv, J, km, ok, rfl, rfl, hj, hpp, rfl, rfl⟩ := h
 have hb := flat_bound ok
 rw [pgs_length] at hb
 refine (kSet_any km hq hu hqs hus (by omega) (by omega) ok (by omega) (by have : cnt (pgs R) = (pgs R).flatten.length := rfl; omega) (by omega) (fun q hq => by have := tot_mem hq; omega) (fun v hv => val_len km ok hv)).mono ?_
 rintro e w' ⟨rfl, ⟨h0, t⟩ | ⟨h0, vo', R', J', t, e1, nt⟩⟩
 ·refine ⟨rfl, ?_⟩
  rw [if_neg h0]
  exact chg_of t ok hj (by omega) rfl rfl
 ·refine ⟨rfl, ?_⟩
  rw [if_pos h0]
  rw [getP_eq ok] at nt
  obtain ⟨s1, s2, s3⟩ := snaps_noted _ nt (undo_set ok.ris ks vs)
  have ef : (pgs R').flatten = insL (pgs R).flatten ks vs := by rw [e1]; exact setP_flat ok _ _
  refine chg_of t (by rw [e1]; exact setP_ok ok _ _) (by omega) ?_ ef s1
  rw [ef]
  have := insL_len ok.ris ks vs
  omega
theorem hDelete {q : Value} {ks : List UInt8} (h : KV w sg F Ws n p S D) (hq : Rd w q ks) (hqs : Off S q ks) (lk : ks.length ≤ 1000000) (hn : n ≤ 1000000000000) (hp : p ≤ 100000) :
  Calls Tryz.prog 145 #[.pointer (some ⟨sg, 0, none⟩), q] w fun e w' => e = .returned (.bool (getL F ks).isSome) ∧ Chg w w' sg S D (delL F ks) Ws (n + 1) (p + 2) := by
 obtain ⟨mg, vo, R, jv, J, km, ok, rfl, rfl, hj, hpp, rfl, rfl⟩ := h
 have hb := flat_bound ok
 rw [pgs_length] at hb
 refine (kDelete_any km hq hqs lk (by omega) (by omega) ok (by omega) (by have : cnt (pgs R) = (pgs R).flatten.length := rfl; omega) (by omega) (fun q hq => by have := tot_mem hq; omega) (fun v hv => val_len km ok hv)).mono ?_
 rintro e w' ⟨rfl, vo', R', J', t, e1, nt⟩
 rw [found_get ok]
 refine ⟨rfl, ?_⟩
 rw [getP_eq ok] at nt
 obtain ⟨s1, s2, s3⟩ := snaps_noted _ nt (undo_del ok.ris ks)
 have ef : (pgs R').flatten = delL (pgs R).flatten ks := by rw [e1]; exact delP_flat ok _
 refine chg_of t (by rw [e1]; exact delP_ok ok _) (by omega) ?_ ef s1
 rw [ef]
 have := delL_len ok.ris ks
 omega
theorem hGet {q : Value} {ks : List UInt8} (h : KV w sg F Ws n p S D) (hq : Rd w q ks) (hqs : Off S q ks) (hn : n ≤ 1000000000000) (hp : p ≤ 100000) :
  Calls Tryz.prog 93 #[.pointer (some ⟨sg, 0, none⟩), q] w fun e w' => ∃ v', e = .returned (.tuple #[v', .bool (getL F ks).isSome]) ∧ Gl.Own w' v' ((getL F ks).getD []) ∧ KV w' sg F Ws (n + 1) p S D ∧ Mods S w w' ∧ freshIn w v' := by
 obtain ⟨mg, vo, R, jv, J, km, ok, rfl, rfl, hj, hpp, rfl, rfl⟩ := h
 have hb := flat_bound ok
 rw [pgs_length] at hb
 have := kGet_any km hq ok (by omega) (by omega) (by omega) (hqs.mono (fun k e => .inl e))
 rw [getP_eq ok] at this
 refine this.mono ?_
 rintro e w' ⟨v', rfl, o, t, f⟩
 exact ⟨v', rfl, o, ⟨mg, vo, R, jv, J, t.km, ok, rfl, rfl, hj, hpp, rfl, rfl⟩, t.mods, f⟩
theorem hDump (h : KV w sg F Ws n p S D) (hp : p ≤ 100000) : Calls Tryz.prog 20 #[.pointer (some ⟨sg, 0, none⟩)] w fun e w' => ∃ v L, e = .returned v ∧ WkGot w w' v L ∧ Mods noB w w' ∧ L.map EV.ent = F := by
 obtain ⟨mg, vo, R, jv, J, km, ok, rfl, rfl, hj, hpp, rfl, rfl⟩ := h
 have hb := flat_bound ok
 rw [pgs_length] at hb
 exact kDump_any km ok (by omega) (by omega)
end
section
variable {w : World} {sg n p : Nat} {F : List Ent} {Ws : List (List Ent)} {S D : Nat → Prop}
end
open Go.Gl Go.RowKit
def KL (w0 w : World) (sg : Nat) (F : List Ent) (Ws : List (List Ent)) (n p : Nat) (Q : Nat → Prop) : Prop :=
 ∃ S D, KV w sg F Ws n p S D ∧ (∀ k, Q k → ¬ S k ∧ ¬ D k ∧ k < w.heap.size) ∧ (∀ k, k < w0.heap.size → Q k) ∧ Mods noB w0 w
def K2 (w0 w : World) (sg : Nat) (F : List Ent) (Ws : List (List Ent)) (n p : Nat) (sg2 : Nat) (F2 : List Ent) (Ws2 : List (List Ent)) (n2 p2 : Nat) (Q : Nat → Prop) : Prop :=
 ∃ S D S2 D2, KV w sg F Ws n p S D ∧ KV w sg2 F2 Ws2 n2 p2 S2 D2 ∧ (∀ k, Q k → ¬ S k ∧ ¬ D k ∧ ¬ S2 k ∧ ¬ D2 k ∧ k < w.heap.size) ∧ (∀ k, k < w0.heap.size → Q k) ∧ (∀ k, S k → ¬ S2 k) ∧ (∀ k, D k → ¬ S2 k) ∧ (∀ k, D2 k → ¬ S k) ∧ Mods noB w0 w
theorem Chg.refl {w : World} {sg n p : Nat} {F : List Ent} {Ws : List (List Ent)} {S D : Nat → Prop} (h : KV w sg F Ws n p S D) : Chg w w sg S D F Ws n p := ⟨S, D, h, Mods.refl _ _, fun _ => .inl, fun _ => .inl⟩
def CC (f : FuncId) (args : Array Value) (w : World) (sg : Nat) (F : List Ent) (Ws : List (List Ent)) (n p : Nat) (Q : Nat → Prop) (r : Value) (F' : List Ent) (Ws' : List (List Ent)) (n' p' : Nat) : Prop :=
 ∀ S D, KV w sg F Ws n p S D → (∀ k, Q k → ¬ S k) → Calls Tryz.prog f args w fun e w' => e = .returned r ∧ Chg w w' sg S D F' Ws' n' p'
section
variable {w0 w : World} {sg n p n' p' : Nat} {F F' : List Ent} {Ws Ws' : List (List Ent)} {Q : Nat → Prop}
theorem KL.call {f : FuncId} {args : Array Value} {r : Value} (h : KL w0 w sg F Ws n p Q) (c : CC f args w sg F Ws n p Q r F' Ws' n' p') : Calls Tryz.prog f args w fun e w' => e = .returned r ∧ KL w0 w' sg F' Ws' n' p' Q ∧ Mods (fun k => ¬ Q k) w w' := by
 obtain ⟨S, D, kv, hq, h0, m0⟩ := h
 refine (c S D kv (fun k hk => (hq k hk).1)).mono ?_
 rintro e w' ⟨rfl, S', D', kv', m, hs, hd⟩
 refine ⟨rfl, ⟨S', D', kv', fun k hk => ⟨fun x => ?_, fun x => ?_, Nat.lt_of_lt_of_le (hq k hk).2.2 m.size⟩, h0, m0.trans m (fun _ _ x => x) (fun k hk x => (hq k (h0 k hk)).1 x)⟩, m.mono (fun k _ hk x => (hq k x).1 hk)⟩
 ·rcases hs k x with y | y
  ·exact (hq k hk).1 y
  ·have := (hq k hk).2.2; omega
 ·rcases hd k x with y | y
  ·exact (hq k hk).2.1 y
  ·have := (hq k hk).2.2; omega
theorem KL.keep0 {w' : World} (h : KL w0 w sg F Ws n p Q) (m : Mods noB w w') : KL w0 w' sg F Ws n p Q := by
 obtain ⟨S, D, kv, hq, h0, m0⟩ := h
 exact ⟨S, D, kv.keep0 m, fun k hk => ⟨(hq k hk).1, (hq k hk).2.1, Nat.lt_of_lt_of_le (hq k hk).2.2 m.size⟩, h0, m0.then0 m⟩
theorem KL.grow {w' : World} {Q' : Nat → Prop} (h : KL w0 w sg F Ws n p Q) (m : Mods noB w w') (hq' : ∀ k, Q' k → Q k ∨ (w.heap.size ≤ k ∧ k < w'.heap.size)) (h1 : ∀ k, k < w0.heap.size → Q' k) : KL w0 w' sg F Ws n p Q' := by
 obtain ⟨S, D, kv, hq, h0, m0⟩ := h
 refine ⟨S, D, kv.keep0 m, fun k hk => ?_, h1, m0.then0 m⟩
 rcases hq' k hk with x | ⟨x, y⟩
 ·exact ⟨(hq k x).1, (hq k x).2.1, Nat.lt_of_lt_of_le (hq k x).2.2 m.size⟩
 ·exact ⟨fun z => by have := kv.lt.1 k z; omega, fun z => by have := kv.lt.2.1 k z; omega, y⟩
theorem KL.turn {w' : World} {T : Nat → Prop} (h : KL w0 w sg F Ws n p Q) (m : Mods T w w') (ht : ∀ k, T k → Q k ∧ w0.heap.size ≤ k) : KL w0 w' sg F Ws n p Q := by
 obtain ⟨S, D, kv, hq, h0, m0⟩ := h
 exact ⟨S, D, kv.keep m (fun k hk x => (hq k (ht k x).1).1 hk) (fun k hk x => (hq k (ht k x).1).2.1 hk), fun k hk => ⟨(hq k hk).1, (hq k hk).2.1, Nat.lt_of_lt_of_le (hq k hk).2.2 m.size⟩, h0, m0.trans m (fun _ _ x => x) (fun k hk x => by have := (ht k x).2; omega)⟩
theorem KL.more {p2 : Nat} (h : KL w0 w sg F Ws n p Q) (hp : p ≤ p2) : KL w0 w sg F Ws n p2 Q := by
 obtain ⟨S, D, kv, r⟩ := h
 exact ⟨S, D, kv.more hp, r⟩
theorem KL.less {Q' : Nat → Prop} (h : KL w0 w sg F Ws n p Q) (hq : ∀ k, Q' k → Q k) (h1 : ∀ k, k < w0.heap.size → Q' k) : KL w0 w sg F Ws n p Q' := by
 obtain ⟨S, D, kv, q, h0, m0⟩ := h
 exact ⟨S, D, kv, fun k hk => q k (hq k hk), h1, m0⟩
theorem KL.mods (h : KL w0 w sg F Ws n p Q) : Mods noB w0 w := by obtain ⟨_, _, _, _, _, m⟩ := h; exact m
theorem KL.ris (h : KL w0 w sg F Ws n p Q) : Ris F := by obtain ⟨_, _, kv, _⟩ := h; exact kv.ris
theorem KL.len (h : KL w0 w sg F Ws n p Q) : F.length ≤ p ∧ Ws.length ≤ 16 := by obtain ⟨_, _, kv, _⟩ := h; exact kv.len
theorem KL.q0 (h : KL w0 w sg F Ws n p Q) : ∀ k, k < w0.heap.size → Q k := by obtain ⟨_, _, _, _, a, _⟩ := h; exact a
variable {sg2 n2 p2 : Nat} {F2 : List Ent} {Ws2 : List (List Ent)}
theorem K2.swap (h : K2 w0 w sg F Ws n p sg2 F2 Ws2 n2 p2 Q) : K2 w0 w sg2 F2 Ws2 n2 p2 sg F Ws n p Q := by
 obtain ⟨S, D, S2, D2, kv, kv2, hq, h0, a1, a2, a3, m0⟩ := h
 exact ⟨S2, D2, S, D, kv2, kv, fun k hk => ⟨(hq k hk).2.2.1, (hq k hk).2.2.2.1, (hq k hk).1, (hq k hk).2.1, (hq k hk).2.2.2.2⟩, h0, fun k x y => a1 k y x, a3, a2, m0⟩
theorem K2.one (h : K2 w0 w sg F Ws n p sg2 F2 Ws2 n2 p2 Q) : KL w0 w sg F Ws n p Q := by
 obtain ⟨S, D, S2, D2, kv, kv2, hq, h0, a1, a2, a3, m0⟩ := h
 exact ⟨S, D, kv, fun k hk => ⟨(hq k hk).1, (hq k hk).2.1, (hq k hk).2.2.2.2⟩, h0, m0⟩
theorem K2.call {f : FuncId} {args : Array Value} {r : Value} (h : K2 w0 w sg F Ws n p sg2 F2 Ws2 n2 p2 Q) (c : CC f args w sg F Ws n p Q r F' Ws' n' p') : Calls Tryz.prog f args w fun e w' => e = .returned r ∧ K2 w0 w' sg F' Ws' n' p' sg2 F2 Ws2 n2 p2 Q ∧ Mods (fun k => ¬ Q k) w w' := by
 obtain ⟨S, D, S2, D2, kv, kv2, hq, h0, a1, a2, a3, m0⟩ := h
 refine (c S D kv (fun k hk => (hq k hk).1)).mono ?_
 rintro e w' ⟨rfl, S', D', kv', m, hs, hd⟩
 have l2 := kv2.lt
 refine ⟨rfl, ⟨S', D', S2, D2, kv', kv2.keep m (fun k hk x => a1 k x hk) (fun k hk x => a3 k hk x), fun k hk => ⟨fun x => ?_, fun x => ?_, (hq k hk).2.2.1, (hq k hk).2.2.2.1, Nat.lt_of_lt_of_le (hq k hk).2.2.2.2 m.size⟩, h0, fun k x y => ?_, fun k x y => ?_, fun k x y => ?_, m0.trans m (fun _ _ x => x) (fun k hk x => (hq k (h0 k hk)).1 x)⟩, m.mono (fun k _ hk x => (hq k x).1 hk)⟩
 ·rcases hs k x with y | y
  ·exact (hq k hk).1 y
  ·have := (hq k hk).2.2.2.2; omega
 ·rcases hd k x with y | y
  ·exact (hq k hk).2.1 y
  ·have := (hq k hk).2.2.2.2; omega
 ·rcases hs k x with z | z
  ·exact a1 k z y
  ·have := l2.1 k y; omega
 ·rcases hd k x with z | z
  ·exact a2 k z y
  ·have := l2.1 k y; omega
 ·rcases hs k y with z | z
  ·exact a3 k x z
  ·have := l2.2.1 k x; omega
theorem K2.keep0 {w' : World} (h : K2 w0 w sg F Ws n p sg2 F2 Ws2 n2 p2 Q) (m : Mods noB w w') : K2 w0 w' sg F Ws n p sg2 F2 Ws2 n2 p2 Q := by
 obtain ⟨S, D, S2, D2, kv, kv2, hq, h0, a1, a2, a3, m0⟩ := h
 exact ⟨S, D, S2, D2, kv.keep0 m, kv2.keep0 m, fun k hk => ⟨(hq k hk).1, (hq k hk).2.1, (hq k hk).2.2.1, (hq k hk).2.2.2.1, Nat.lt_of_lt_of_le (hq k hk).2.2.2.2 m.size⟩, h0, a1, a2, a3, m0.then0 m⟩
theorem K2.grow {w' : World} {Q' : Nat → Prop} (h : K2 w0 w sg F Ws n p sg2 F2 Ws2 n2 p2 Q) (m : Mods noB w w') (hq' : ∀ k, Q' k → Q k ∨ (w.heap.size ≤ k ∧ k < w'.heap.size)) (h1 : ∀ k, k < w0.heap.size → Q' k) : K2 w0 w' sg F Ws n p sg2 F2 Ws2 n2 p2 Q' := by
 obtain ⟨S, D, S2, D2, kv, kv2, hq, h0, a1, a2, a3, m0⟩ := h
 refine ⟨S, D, S2, D2, kv.keep0 m, kv2.keep0 m, fun k hk => ?_, h1, a1, a2, a3, m0.then0 m⟩
 rcases hq' k hk with x | ⟨x, y⟩
 ·exact ⟨(hq k x).1, (hq k x).2.1, (hq k x).2.2.1, (hq k x).2.2.2.1, Nat.lt_of_lt_of_le (hq k x).2.2.2.2 m.size⟩
 ·exact ⟨fun z => by have := kv.lt.1 k z; omega, fun z => by have := kv.lt.2.1 k z; omega, fun z => by have := kv2.lt.1 k z; omega, fun z => by have := kv2.lt.2.1 k z; omega, y⟩
theorem K2.more {q q2 : Nat} (h : K2 w0 w sg F Ws n p sg2 F2 Ws2 n2 p2 Q) (hp : p ≤ q) (hp2 : p2 ≤ q2) : K2 w0 w sg F Ws n q sg2 F2 Ws2 n2 q2 Q := by
 obtain ⟨S, D, S2, D2, kv, kv2, r⟩ := h
 exact ⟨S, D, S2, D2, kv.more hp, kv2.more hp2, r⟩
/-! ### the calls -/
theorem cc_set {q u : Value} {ks vs : List UInt8} (hq : Rd w q ks) (hu : Rd w u vs) (oq : Off (fun k => ¬ Q k) q ks) (ou : Off (fun k => ¬ Q k) u vs) (hn : n ≤ 1000000000000) (hp : p ≤ 100000) : CC 74 #[.pointer (some ⟨sg, 0, none⟩), q, u] w sg F Ws n p Q (.int .i64 (setErr ks vs : Nat)) (if setErr ks vs = 0 then insL F ks vs else F) Ws (n + 1) (p + 2) :=
 fun S D kv hQ => hSet kv hq hu (oq.mono (fun k hk x => hQ k x hk)) (ou.mono (fun k hk x => hQ k x hk)) hn hp
theorem cc_del {q : Value} {ks : List UInt8} (hq : Rd w q ks) (oq : Off (fun k => ¬ Q k) q ks) (lk : ks.length ≤ 1000000) (hn : n ≤ 1000000000000) (hp : p ≤ 100000) : CC 145 #[.pointer (some ⟨sg, 0, none⟩), q] w sg F Ws n p Q (.bool (getL F ks).isSome) (delL F ks) Ws (n + 1) (p + 2) :=
 fun S D kv hQ => hDelete kv hq (oq.mono (fun k hk x => hQ k x hk)) lk hn hp
/-! ### iterators -/
end
open Go.Gl Go.RowKit
def KVp (sg : Nat) (F : List Ent) (Ws : List (List Ent)) (n p : Nat) : FP := fun w S D => KV w sg F Ws n p S D
def RFp (g : Nat) (F : List Ent) (Ws : List (List Ent)) (n : Nat) : FP := fun w S D => R6F w g F Ws n S D
theorem kvp_f {sg : Nat} {F : List Ent} {Ws : List (List Ent)} {n p : Nat} : Framed (KVp sg F Ws n p) := ⟨fun h => ⟨KV.lt h |>.1, KV.lt h |>.2.1⟩, fun h m a b => KV.keep h m a b⟩
theorem rfp_f {g : Nat} {F : List Ent} {Ws : List (List Ent)} {n : Nat} : Framed (RFp g F Ws n) := ⟨fun h => ⟨R6F.lt h |>.1, R6F.lt h |>.2.1⟩, fun h m a b => R6F.keep h m a b⟩
def setFF (F : List Ent) (k v : List UInt8) : List Ent := if setErr k v = 0 then insL F k v else F
theorem KV.vlen {w : World} {sg : Nat} {F : List Ent} {Ws : List (List Ent)} {n p : Nat} {S D : Nat → Prop} (h : KV w sg F Ws n p S D) {k v : List UInt8} (hg : getL F k = some v) : v.length ≤ 1000000 := by
 obtain ⟨mg, vo, R, jv, J, km, ok, rfl, _⟩ := h
 exact val_len km ok (by rw [getP_eq ok]; exact hg)
section
variable {w : World} {sg g n p : Nat} {F : List Ent} {Ws : List (List Ent)} {Q : Nat → Prop}
/-! ### kv.Store -/
theorem CC.gs {f : FuncId} {args : Array Value} {r : Value} {F' : List Ent} {Ws' : List (List Ent)} {n' p' : Nat} (c : CC f args w sg F Ws n p Q r F' Ws' n' p') : GS Tryz.prog f args w (KVp sg F Ws n p) Q r (KVp sg F' Ws' n' p') := GS.of c
theorem gk_set {q u : Value} {ks vs : List UInt8} (hq : Rd w q ks) (hu : Rd w u vs) (oq : Off (fun k => ¬ Q k) q ks) (ou : Off (fun k => ¬ Q k) u vs) (hn : n ≤ 1000000000000) (hp : p ≤ 100000) : GS Tryz.prog 74 #[.pointer (some ⟨sg, 0, none⟩), q, u] w (KVp sg F Ws n p) Q (.int .i64 (setErr ks vs : Nat)) (KVp sg (setFF F ks vs) Ws (n + 1) (p + 2)) := CC.gs (cc_set hq hu oq ou hn hp)
theorem gk_del {q : Value} {ks : List UInt8} (hq : Rd w q ks) (oq : Off (fun k => ¬ Q k) q ks) (lk : ks.length ≤ 1000000) (hn : n ≤ 1000000000000) (hp : p ≤ 100000) : GS Tryz.prog 145 #[.pointer (some ⟨sg, 0, none⟩), q] w (KVp sg F Ws n p) Q (.bool (getL F ks).isSome) (KVp sg (delL F ks) Ws (n + 1) (p + 2)) := CC.gs (cc_del hq oq lk hn hp)
theorem gk_get {q : Value} {ks : List UInt8} (hq : Rd w q ks) (oq : Off (fun k => ¬ Q k) q ks) (hn : n ≤ 1000000000000) (hp : p ≤ 100000) : GO Tryz.prog 93 #[.pointer (some ⟨sg, 0, none⟩), q] w (KVp sg F Ws n p) Q (fun v => .tuple #[v, .bool (getL F ks).isSome]) ((getL F ks).getD []) (KVp sg F Ws (n + 1) p) :=
 GO.of kvp_f (fun S D kv hQ => (hGet kv hq (oq.mono (fun k hk x => hQ k x hk)) hn hp).mono (fun e w' ⟨v', a, b, c, d, f⟩ => ⟨v', a, b, ⟨S, D, c, d, fun _ h => h, fun _ h => h⟩, f⟩)) kvp_f
/-! ### gleanref6.Store -/
theorem gr_set {q u : Value} {ks vs : List UInt8} (hq : Rd w q ks) (hu : Rd w u vs) (oq : Off (fun k => ¬ Q k) q ks) (ou : Off (fun k => ¬ Q k) u vs) (hn : n ≤ 1000000000000) (hF : F.length ≤ 100000) : GS Tryz.prog 43 #[.pointer (some ⟨g, 0, none⟩), q, u] w (RFp g F Ws n) Q (.int .i64 (setErr ks vs : Nat)) (RFp g (setFF F ks vs) Ws (n + 1)) :=
 GS.of fun S D rf hQ => rSet6 rf hq hu (oq.mono (fun k hk x => hQ k x hk)) (ou.mono (fun k hk x => hQ k x hk)) hn hF
theorem gr_del {q : Value} {ks : List UInt8} (hq : Rd w q ks) (oq : Off (fun k => ¬ Q k) q ks) (hn : n ≤ 1000000000000) (hF : F.length ≤ 100000) : GS Tryz.prog 134 #[.pointer (some ⟨g, 0, none⟩), q] w (RFp g F Ws n) Q (.bool (getL F ks).isSome) (RFp g (delL F ks) Ws (n + 1)) :=
 GS.of fun S D rf hQ => rDelete6 rf hq (oq.mono (fun k hk x => hQ k x hk)) hn hF
theorem gr_get {q : Value} {ks : List UInt8} (hq : Rd w q ks) (oq : Off (fun k => ¬ Q k) q ks) (hn : n ≤ 1000000000000) (hF : F.length ≤ 100000) (hv : ∀ v, getL F ks = some v → v.length ≤ 140737488355328) : GO Tryz.prog 96 #[.pointer (some ⟨g, 0, none⟩), q] w (RFp g F Ws n) Q (fun v => .tuple #[v, .bool (getL F ks).isSome]) ((getL F ks).getD []) (RFp g F Ws (n + 1)) :=
 GO.of rfp_f (fun S D rf hQ => (rGet6 rf hq (oq.mono (fun k hk x => hQ k x hk)) hn hF hv).mono (fun e w' ⟨v', a, b, c, d, f⟩ => ⟨v', a, b, ⟨S, D, c, d, fun _ h => h, fun _ h => h⟩, f⟩)) rfp_f
end
open Go.Gl Go.RowKit
structure KForm where
 head : UInt8
 mid : UInt8
 a : Bool
 b : Bool
 turned : Bool
def kform : Nat → Option KForm
 | 1 => some ⟨112, 0, false, false, false⟩
 | 2 => some ⟨99, 0, false, false, false⟩
 | 3 => some ⟨109, 0, false, false, false⟩
 | 4 => some ⟨97, 0, true, false, false⟩
 | 5 => some ⟨118, 48, true, false, false⟩
 | 6 => some ⟨118, 100, true, true, false⟩
 | 7 => some ⟨118, 104, true, true, false⟩
 | 8 => some ⟨118, 115, true, true, false⟩
 | 9 => some ⟨116, 0, true, false, false⟩
 | 10 => some ⟨105, 0, true, true, true⟩
 | 11 => some ⟨98, 0, true, false, false⟩
 | 12 => some ⟨117, 0, true, false, false⟩
 | 13 => some ⟨114, 0, true, false, false⟩
 | 14 => some ⟨113, 0, true, true, false⟩
 | 15 => some ⟨101, 0, true, true, false⟩
 | 16 => some ⟨110, 0, true, true, false⟩
 | 17 => some ⟨107, 0, true, true, false⟩
 | _ => none
def fcells (f : KForm) : List Value := [.int .u8 f.head.toNat, .int .u8 f.mid.toNat, .bool f.a, .bool f.b, .bool f.turned]
def fv (f : KForm) : Value := .agg (fcells f).toArray
def formsV : Array Value := ((List.range 17).flatMap fun k => ((kform (k + 1)).map fcells).getD []).toArray
def formsZ : Array Value := ((List.range 17).flatMap fun _ => fcells ⟨0, 0, false, false, false⟩).toArray
set_option maxRecDepth 100000 in
set_option maxHeartbeats 1000000 in
theorem forms_any (w : World) :
  Calls Tryz.prog 234 #[] w fun e w' => e = .returned (.agg formsV) ∧ w' = w.alloc (.cells formsV 329) := by
 have hz : ∀ w : World, (zeroValue 329).run Tryz.prog w = .ok (.agg formsZ) w := fun _ => by kernel_rfl
 go_enter Tryz.func234, Tryz.ntmps234
 go_wp2_with (refine wpList_build rfl 329 _ rfl (by as_aux_lemma => kernel_rfl) (stop ?_))
 unfold Stop
 refine wpList_store_row rfl 329 _ _ rfl w.heap.size formsV rfl (by as_aux_lemma => kernel_rfl) 329 formsZ (heap_new _ _) (by as_aux_lemma => kernel_rfl) (by as_aux_lemma => kernel_rfl) (by as_aux_lemma => kernel_rfl) ?_
 rw [World.setRow_alloc_new]
 go_wp2
 refine bodyPost_ret (results_cell_row rfl _ _ w.heap.size 329 formsV (0, 0) _ rfl (heap_new _ _) Tryz.underlying329 rfl (by as_aux_lemma => kernel_rfl)) rfl ⟨rfl, rfl⟩
theorem formsV_at (k : Nat) (h1 : 1 ≤ k) (h2 : k ≤ 17) : ∃ f, kform k = some f ∧ ∀ w : World, (Instr.index 329 (.agg formsV) (.int .i64 ((k : Int) - 1))).run Tryz.prog w = .ok (.agg #[.int .u8 f.head.toNat, .int .u8 f.mid.toNat, .bool f.a, .bool f.b, .bool f.turned]) w := by
 have h17 : k = 1 ∨ k = 2 ∨ k = 3 ∨ k = 4 ∨ k = 5 ∨ k = 6 ∨ k = 7 ∨ k = 8 ∨ k = 9 ∨ k = 10 ∨ k = 11 ∨ k = 12 ∨ k = 13 ∨ k = 14 ∨ k = 15 ∨ k = 16 ∨ k = 17 := by omega
 rcases h17 with rfl | rfl | rfl | rfl | rfl | rfl | rfl | rfl | rfl | rfl | rfl | rfl | rfl | rfl | rfl | rfl | rfl <;> exact ⟨_, rfl, fun _ => by kernel_rfl⟩
set_option maxHeartbeats 400000 in
theorem formOf_no (n : Int) (w : World) (h : n < 1 ∨ 17 < n) :
  Calls Tryz.prog 175 #[.int .i64 n] w fun e w' => e = .returned (.tuple #[fv ⟨0, 0, false, false, false⟩, .bool false]) ∧ Mods noB w w' := by
 rcases h with h | h
 ·go_enter Tryz.func175, Tryz.ntmps175
  go_wp2
  go_returns
  exact ⟨rfl, (by repeat' (first | (with_reducible exact Mods.refl _ _) | (with_reducible assumption) | (with_reducible refine Mods.alloc ?_ _) | (with_reducible refine Mods.drew ?_) | (with_reducible refine Mods.drewN ?_ _) | (with_reducible refine Mods.regrown ?_ _ _) | (with_reducible refine Mods.setCell ?_ ?_ _) | (refine .inr ?_; first | (simp; done) | (simp; omega) | omega)))⟩
 ·have h1 : ¬ n < 1 := by omega
  go_enter Tryz.func175, Tryz.ntmps175
  go_wp2
  go_returns
  exact ⟨rfl, (by repeat' (first | (with_reducible exact Mods.refl _ _) | (with_reducible assumption) | (with_reducible refine Mods.alloc ?_ _) | (with_reducible refine Mods.drew ?_) | (with_reducible refine Mods.drewN ?_ _) | (with_reducible refine Mods.regrown ?_ _ _) | (with_reducible refine Mods.setCell ?_ ?_ _) | (refine .inr ?_; first | (simp; done) | (simp; omega) | omega)))⟩
set_option maxHeartbeats 400000 in
theorem formOf_yes (k : Nat) (f : KForm) (w : World) (hf : kform k = some f) :
  Calls Tryz.prog 175 #[.int .i64 k] w fun e w' => e = .returned (.tuple #[fv f, .bool true]) ∧ Mods noB w w' := by
 have hk : 1 ≤ k ∧ k ≤ 17 := by
  rcases Nat.lt_or_ge k 18 with h | h
  ·rcases Nat.eq_zero_or_pos k with rfl | h0
   ·simp [kform] at hf
   ·omega
  ·obtain ⟨j, rfl⟩ : ∃ j, k = j + 18 := ⟨k - 18, by omega⟩
   simp [kform] at hf
 obtain ⟨h1, h2⟩ := hk
 obtain ⟨f', hf', hi⟩ := formsV_at k h1 h2
 obtain rfl : f = f' := by rw [hf] at hf'; simpa using hf'
 clear hf' hf
 go_enter Tryz.func175, Tryz.ntmps175
 go_wp2_with (go_at_call 234; refine (forms_any _).mono ?_; rintro e w' ⟨rfl, rfl⟩)
 go_returns
 exact ⟨rfl, (by repeat' (first | (with_reducible exact Mods.refl _ _) | (with_reducible assumption) | (with_reducible refine Mods.alloc ?_ _) | (with_reducible refine Mods.drew ?_) | (with_reducible refine Mods.drewN ?_ _) | (with_reducible refine Mods.regrown ?_ _ _) | (with_reducible refine Mods.setCell ?_ ?_ _) | (refine .inr ?_; first | (simp; done) | (simp; omega) | omega)))⟩
end Go.Proofs.YtglkmaalpammcaaGreat
namespace Go.Gl
def be : Nat → Nat → List UInt8
 | 0, _ => []
 | n + 1, x => UInt8.ofNat (x / 256 ^ n) :: be n x
def num (xs : List UInt8) : Nat := xs.foldl (fun a c => a * 256 + c.toNat) 0
theorem be_length (n x : Nat) : (be n x).length = n := by
 induction n with
 | zero => rfl
 | succ n ih => simp [be, ih]
theorem num_snoc (xs : List UInt8) (c : UInt8) : num (xs ++ [c]) = num xs * 256 + c.toNat := by simp [num]
theorem num_lt (xs : List UInt8) : num xs < 256 ^ xs.length := by
  suffices h : ∀ ys : List UInt8, num ys.reverse < 256 ^ ys.length by
    have := h xs.reverse
    simpa using this
  intro ys
  induction ys with
  | nil => simp [num]
  | cons c ys ih =>
    rw [List.reverse_cons, num_snoc, List.length_cons, Nat.pow_succ]
    have := c.toNat_lt
    omega
theorem foldl_num (xs : List UInt8) (a : Nat) : xs.foldl (fun a c => a * 256 + c.toNat) a = a * 256 ^ xs.length + num xs := by
  induction xs generalizing a with
  | nil => simp [num]
  | cons c xs ih =>
    rw [num, List.foldl_cons, List.foldl_cons, List.length_cons, ih, ih (0 * 256 + c.toNat), Nat.pow_succ, Nat.zero_mul, Nat.zero_add, Nat.add_mul, Nat.mul_comm (256 ^ xs.length) 256, ← Nat.mul_assoc, Nat.add_assoc]
theorem num_cons (c : UInt8) (xs : List UInt8) : num (c :: xs) = c.toNat * 256 ^ xs.length + num xs := by
 rw [num, List.foldl_cons, foldl_num]
 simp
theorem num_be (n x : Nat) : num (be n x) = x % 256 ^ n := by
  induction n with
  | zero => simp [be, num, Nat.mod_one]
  | succ n ih =>
    rw [be, num_cons, be_length, ih, UInt8.toNat_ofNat']
    have h := Nat.mod_mul (x := x) (a := 256 ^ n) (b := 256)
    rw [Nat.pow_succ 256 n, h, show (2 ^ 8 : Nat) = 256 from rfl, Nat.mul_comm (256 ^ n)]
    omega
theorem be_num (xs : List UInt8) : be xs.length (num xs) = xs := by
  suffices h : ∀ (xs : List UInt8) (q : Nat), be xs.length (q * 256 ^ xs.length + num xs) = xs by simpa using h xs 0
  intro xs
  induction xs with
  | nil => intro q; rfl
  | cons c xs ih =>
    intro q
    have hl := num_lt xs
    have hp : 0 < 256 ^ xs.length := Nat.pow_pos (by decide)
    rw [List.length_cons, be, num_cons]
    have e : q * 256 ^ (xs.length + 1) + (c.toNat * 256 ^ xs.length + num xs) = (q * 256 + c.toNat) * 256 ^ xs.length + num xs := by
      rw [Nat.pow_succ, Nat.add_mul, Nat.mul_assoc, Nat.mul_comm (256 ^ xs.length) 256]; omega
    rw [e, ih]
    congr 1
    rw [Nat.mul_comm, Nat.mul_add_div hp, Nat.div_eq_of_lt hl, Nat.add_zero]
    apply UInt8.toNat_inj.1
    rw [UInt8.toNat_ofNat']
    have := c.toNat_lt
    omega
theorem num_be8 (x : Nat) (h : x < 18446744073709551616) : num (be 8 x) = x := by
 rw [num_be]
 exact Nat.mod_eq_of_lt (by simpa using h)
def b8 (x i : Nat) : Int := ((x / 256 ^ i % 256 : Nat) : Int)
end Go.Gl
namespace Go.Proofs.YtglkmaalpammcaaGreat
open Go.Gl Go.RowKit
theorem bv_be8 (x : Nat) : bv (be 8 x) = [.int .u8 (b8 x 7), .int .u8 (b8 x 6), .int .u8 (b8 x 5), .int .u8 (b8 x 4), .int .u8 (b8 x 3), .int .u8 (b8 x 2), .int .u8 (b8 x 1), .int .u8 (b8 x 0)] := by
 simp only [be, bv, List.map_cons, List.map_nil, UInt8.toNat_ofNat', b8]
theorem agg8 (x : Nat) (hx : x < 18446744073709551616) (a0 a1 a2 a3 a4 a5 a6 a7 : Int) (h : a0 = x / 72057594037927936 ∧ a1 = x / 281474976710656 % 256 ∧ a2 = x / 1099511627776 % 256 ∧ a3 = x / 4294967296 % 256 ∧ a4 = x / 16777216 % 256 ∧ a5 = x / 65536 % 256 ∧ a6 = x / 256 % 256 ∧ a7 = x % 256) :
  a0 = b8 x 7 ∧ a1 = b8 x 6 ∧ a2 = b8 x 5 ∧ a3 = b8 x 4 ∧ a4 = b8 x 3 ∧ a5 = b8 x 2 ∧ a6 = b8 x 1 ∧ a7 = b8 x 0 := by
 obtain ⟨rfl, rfl, rfl, rfl, rfl, rfl, rfl, rfl⟩ := h
 simp only [b8]
 omega
def eightV (x : Nat) : Value := .agg #[.int .u8 (b8 x 7), .int .u8 (b8 x 6), .int .u8 (b8 x 5), .int .u8 (b8 x 4), .int .u8 (b8 x 3), .int .u8 (b8 x 2), .int .u8 (b8 x 1), .int .u8 (b8 x 0)]
theorem eightV_of (x : Nat) (hx : x < 18446744073709551616) : Value.agg #[.int .u8 (x / 72057594037927936), .int .u8 (x / 281474976710656 % 256), .int .u8 (x / 1099511627776 % 256), .int .u8 (x / 4294967296 % 256), .int .u8 (x / 16777216 % 256), .int .u8 (x / 65536 % 256), .int .u8 (x / 256 % 256), .int .u8 (x % 256)] = eightV x := by
 obtain ⟨h0, h1, h2, h3, h4, h5, h6, h7⟩ := agg8 x hx _ _ _ _ _ _ _ _ ⟨rfl, rfl, rfl, rfl, rfl, rfl, rfl, rfl⟩
 unfold eightV
 rw [h0, h1, h2, h3, h4, h5, h6, h7]
set_option maxHeartbeats 1000000 in
theorem eight_any (x : Nat) (w : World) (hx : x < 18446744073709551616) :
  Calls Tryz.prog 178 #[.int .u64 x] w fun e w' => e = .returned (eightV x) ∧ Mods noB w w' := by
 have H := Lib.hid (eightV_of x hx)
 go_enter Tryz.func178, Tryz.ntmps178
 go_wp2
 go_rounds 9
 refine bodyPost_ret (by simp [results, Tryz.results178, go_sem]; exact H.out) rfl ?_
 exact ⟨rfl, (by repeat' (first | (with_reducible exact Mods.refl _ _) | (with_reducible assumption) | (with_reducible refine Mods.alloc ?_ _) | (with_reducible refine Mods.drew ?_) | (with_reducible refine Mods.drewN ?_ _) | (with_reducible refine Mods.regrown ?_ _ _) | (with_reducible refine Mods.setCell ?_ ?_ _) | (refine .inr ?_; first | (simp; done) | (simp; omega) | omega)))⟩
theorem eight_int (n : Int) (w : World) (h0 : 0 ≤ n) (h1 : n ≤ 18446744073709551615) :
  Calls Tryz.prog 178 #[.int .u64 n] w fun e w' => e = .returned (.agg #[.int .u8 (b8 n.toNat 7), .int .u8 (b8 n.toNat 6), .int .u8 (b8 n.toNat 5), .int .u8 (b8 n.toNat 4), .int .u8 (b8 n.toNat 3), .int .u8 (b8 n.toNat 2), .int .u8 (b8 n.toNat 1), .int .u8 (b8 n.toNat 0)]) ∧ Mods noB w w' := by
 obtain ⟨x, rfl⟩ := Int.eq_ofNat_of_zero_le h0
 exact eight_any x w (by omega)
theorem rd8 {w : World} {g : Nat} {x : Nat} {e : TypeId} {fr : Nat × Nat} (h : w.heap[g]? = some (.cells #[.int .u8 (b8 x 7), .int .u8 (b8 x 6), .int .u8 (b8 x 5), .int .u8 (b8 x 4), .int .u8 (b8 x 3), .int .u8 (b8 x 2), .int .u8 (b8 x 1), .int .u8 (b8 x 0)] e fr)) : Rd w (.slice (some ⟨g, 0, none⟩) 8 8) (be 8 x) := by
 refine ⟨by rw [be_length, bv_length, be_length], .inr ⟨g, 0, 8, by rw [be_length], by rw [be_length]; omega, by simp [maxLen], .inr (lt_of_heap h), fun j u hj => ?_⟩⟩
 rw [bv_be8] at hj
 rw [cells_of h, Nat.zero_add]
 simpa using hj
open Go.Gl Go.RowKit
def kturn (f : KForm) (a : Nat) : Nat := if f.turned then 18446744073709551615 - a else a
def kfirst (f : KForm) (a : Nat) : List UInt8 := [f.head] ++ (if f.a then be 8 (kturn f a) else []) ++ (if f.mid.toNat = 0 then [] else [f.mid])
set_option maxHeartbeats 1000000 in
theorem first_any (f : KForm) (a : Nat) (w : World) (ha : a ≤ 18446744073709551615) :
  Calls Tryz.prog 177 #[.agg #[.int .u8 f.head.toNat, .int .u8 f.mid.toNat, .bool f.a, .bool f.b, .bool f.turned], .int .u64 a] w fun e w' => ∃ v, e = .returned v ∧ Gl.Own w' v (kfirst f a) ∧ Mods noB w w' ∧ freshIn w v := by
 obtain ⟨hd, md, fa, fb, ft⟩ := f
 have hfin : Hid (∀ t : Nat, t = kturn ⟨hd, md, fa, fb, ft⟩ a → kfirst ⟨hd, md, fa, fb, ft⟩ a = [hd] ++ (if fa then be 8 t else []) ++ (if md.toNat = 0 then [] else [md])) := by
  intro t ht; rw [ht]; rfl
 have hmd : md.toNat < 256 := md.toNat_lt
 have fin : ∀ (W : World) (v : Value) (b : Nat), w.heap.size ≤ b → (v.ownBlock = some b ∨ freshIn W v) → w.heap.size ≤ W.heap.size → freshIn w v := by
  intro W v b hb hv hW k hk
  rcases hv with hv | hv
  ·rw [hv] at hk; simp at hk; omega
  ·have := hv k hk; omega
 have F := Lib.hid fin
 clear fin
 have M : (((md.toNat : Nat) : Int) != 0) = false ∧ md.toNat = 0 ∨ (((md.toNat : Nat) : Int) != 0) = true ∧ md.toNat ≠ 0 := by
  by_cases h : md.toNat = 0
  ·exact .inl ⟨by simp [h], h⟩
  ·exact .inr ⟨by simp [h], h⟩
 cases ft
 all_goals
  go_enter Tryz.func177, Tryz.ntmps177
  go_wp2_with fail
  try rw [not_u64 _ (by omega) (by omega)]
  refine (eight_int _ _ (by omega) (by omega)).mono ?_
  rintro e w1 ⟨rfl, hm1⟩
  have B0 := cells_of (hm1.heap (g := w.heap.size) (heap_old (heap_new _ _) _) (fun x => x))
  have o1 : Gl.Own w1 (.slice (some ⟨w.heap.size + 1, 0, none⟩) 1 1) [hd] := by
   have h := fun o => own_at hd (w := w.alloc o) (w.heap.size + 1) (by simp)
   exact (h _).keep hm1 (fun _ _ x => x)
  have hz1 : w.heap.size + 1 < w1.heap.size := by have := hm1.size; simp at this; omega
  have hz0 : w.heap.size < w1.heap.size := by omega
  have m1 : Mods noB w w1 := ((((Mods.refl _ _).alloc _).alloc _).trans hm1 (fun _ _ x => x) (fun _ _ x => x))
  rcases M with ⟨hb, hM⟩ | ⟨hb, hM⟩
  all_goals
   have HM := Lib.hid hM
   clear hM hm1
   cases fa
 case inl.false | inr.inl.false =>
  go_wp2_with (at_builtin; refine stop ?_)
  go_ret
  refine ⟨_, rfl, ?_, m1.alloc _, F.out w1 _ _ (Nat.le_succ _) (.inl rfl) m1.size⟩
  rw [hfin.out _ rfl, if_pos HM.out]
  exact o1.alloc _
 case inr.false | inr.inr.false =>
  go_wp2_with (at_builtin; refine stop ?_)
  unfold Stop
  refine wpList_apb rfl rfl [hd] [md] ((o1.alloc _).alloc _) (own_at md _ (by simp)).rd rfl rfl (by simp) ?_
  intro v2 w2 h1 h2 h3
  go_wp2
  go_ret
  refine ⟨_, rfl, ?_, ((m1.alloc _).alloc _).trans h2 (fun _ _ x => x) (fun i hi x => by have := (ofV_some x); omega), F.out _ _ _ (Nat.le_succ _) h3 (by simp; omega)⟩
  rw [hfin.out _ rfl, if_neg HM.out]
  exact h1
 case inl.true | inr.inl.true =>
  go_wp2_with (at_builtin; refine stop ?_)
  unfold Stop
  refine wpList_apb rfl rfl [hd] _ (o1.alloc _) (rd8 (heap_new _ _)) rfl rfl (by simp [be_length]) ?_
  intro v2 w2 h1 h2 h3
  have B2 : ∀ o, w2.cell? ⟨w.heap.size, o, none⟩ = _ := fun o => (h2.cellAt (g := w.heap.size) (by simp; omega) (fun x => by have := ofV_some x; omega) o).trans ((World.cell?_alloc_past _ _ _ hz0).trans (B0 o))
  have F2 := Lib.hid (show _ ∧ _ ∧ _ from ⟨h1, h2, h3⟩)
  clear h1 h2 h3
  go_wp2_with (at_builtin; refine stop ?_)
  go_ret
  obtain ⟨h1, h2, h3⟩ := F2.out
  refine ⟨_, rfl, ?_, (m1.alloc _).trans h2 (fun _ _ x => x) (fun i hi x => by have := (ofV_some x); omega), F.out _ _ _ (Nat.le_succ _) h3 (by simp; omega)⟩
  rw [hfin.out _ rfl, if_pos HM.out]
  simpa [kturn] using h1
 case inr.true | inr.inr.true =>
  go_wp2_with (at_builtin; refine stop ?_)
  unfold Stop
  refine wpList_apb rfl rfl [hd] _ (o1.alloc _) (rd8 (heap_new _ _)) rfl rfl (by simp [be_length]) ?_
  intro v2 w2 h1 h2 h3
  have B2 : ∀ o, w2.cell? ⟨w.heap.size, o, none⟩ = _ := fun o => (h2.cellAt (g := w.heap.size) (by simp; omega) (fun x => by have := ofV_some x; omega) o).trans ((World.cell?_alloc_past _ _ _ hz0).trans (B0 o))
  have F2 := Lib.hid (show _ ∧ _ ∧ _ from ⟨h1, h2, h3⟩)
  clear h1 h2 h3
  go_wp2_with (at_builtin; refine stop ?_)
  unfold Stop
  obtain ⟨h1, h2, h3⟩ := F2.out
  have hs2 := h2.size
  simp only [World.size_alloc] at hs2
  refine wpList_apb rfl rfl _ [md] (h1.alloc _) (own_at md _ (by simp)).rd rfl rfl (by simp [be_length]) ?_
  intro v3 w3 k1 k2 k3
  go_wp2
  go_ret
  have hv2 : freshIn w v2 := F.out _ _ _ (Nat.le_succ _) h3 (by simp; omega)
  refine ⟨_, rfl, ?_, (((m1.alloc _).trans h2 (U := noB) (fun _ _ x => x) (fun i hi x => by have := (ofV_some x); omega)).alloc _).trans k2 (fun _ _ x => x) (fun i hi x => by have := hv2 i x; omega), fun k hk => ?_⟩
  ·rw [hfin.out _ rfl, if_neg HM.out]
   simpa [kturn] using k1
  ·rcases k3 with k3 | k3
   ·exact hv2 k (k3.symm.trans hk)
   ·have := k3 k hk
    simp at this
    omega
open Go.Gl Go.RowKit
theorem key_eqIn (d : Nat) (k a b k' a' b' : Int) (w : World) : (Op.equalIn (d + 2) 173 (.agg #[.int .i64 k, .int .u64 a, .int .u64 b]) (.agg #[.int .i64 k', .int .u64 a', .int .u64 b'])).run Tryz.prog w = .ok (k == k' && (a == a' && b == b')) w := by
 simp [go_sem]
 by_cases h1 : k = k' <;> by_cases h2 : a = a' <;> by_cases h3 : b = b' <;> simp [h1, h2, h3]
theorem key_neq (k a b k' a' b' : Int) (w : World) : (binOp .neq 173 (.agg #[.int .i64 k, .int .u64 a, .int .u64 b]) (.agg #[.int .i64 k', .int .u64 a', .int .u64 b'])).run Tryz.prog w = .ok (.bool (!(k == k' && (a == a' && b == b')))) w := by
 rw [run_neq_struct, key_eqIn 9998]
 rfl
open Go.Gl Go.RowKit
def kuse (c : Bool) (a : Nat) : Int := ((if c then a else 0 : Nat) : Int)
set_option maxHeartbeats 400000 in
theorem used_any (f : KForm) (k : Int) (a b : Nat) (w : World) :
  Calls Tryz.prog 176 #[.agg #[.int .u8 f.head.toNat, .int .u8 f.mid.toNat, .bool f.a, .bool f.b, .bool f.turned], .agg #[.int .i64 k, .int .u64 a, .int .u64 b]] w fun e w' => e = .returned (.agg #[.int .i64 k, .int .u64 (kuse f.a a), .int .u64 (kuse f.b b)]) ∧ Mods noB w w' := by
 obtain ⟨hd, md, fa, fb, ft⟩ := f
 cases fa <;> cases fb
 all_goals
  go_enter Tryz.func176, Tryz.ntmps176
  go_wp2
  go_returns
  exact ⟨rfl, (by repeat' (first | (with_reducible exact Mods.refl _ _) | (with_reducible assumption) | (with_reducible refine Mods.alloc ?_ _) | (with_reducible refine Mods.drew ?_) | (with_reducible refine Mods.drewN ?_ _) | (with_reducible refine Mods.regrown ?_ _ _) | (with_reducible refine Mods.setCell ?_ ?_ _) | (refine .inr ?_; first | (simp; done) | (simp; omega) | omega)))⟩
def KRes (w : World) (xs : List UInt8) (n : Int) (e : Ending) (w' : World) : Prop := ∃ v, e = .returned (.tuple #[v, .int .i64 n]) ∧ Gl.Own w' v xs ∧ Mods noB w w' ∧ freshIn w v
theorem KRes.nil {w w' : World} {n : Int} (hm : Mods noB w w') : KRes w [] n (.returned (.tuple #[.slice none 0 0, .int .i64 n])) w' := ⟨_, rfl, Gl.Own.nil _, hm, fun k hk => by simp [Value.ownBlock] at hk⟩
def kbytes (f : KForm) (a b : Nat) : List UInt8 := kfirst f a ++ if f.b then be 8 b else []
def kfit (f : KForm) (a b : Nat) : Bool := (f.a || decide (a = 0)) && (f.b || decide (b = 0))
set_option maxHeartbeats 400000 in
theorem Make_no1 (n : Int) (a b : Nat) (w : World) (h : n < 1 ∨ 17 < n) :
  Calls Tryz.prog 106 #[.agg #[.int .i64 n, .int .u64 a, .int .u64 b]] w (KRes w [] 70) := by
 have H := Lib.hid h
 clear h
 go_enter Tryz.func106, Tryz.ntmps106
 go_wp2_with (go_at_call 175; refine (formOf_no _ _ H.out).mono ?_; rintro e w1 ⟨rfl, hm⟩; unfold fv fcells)
 refine wp_region_quiet_below (by kernel_rfl) (by kernel_rfl) ?_
 repeat (quiet_step (fail))
 refine wpQuiet_nil ?_
 intro _ hw'
 obtain ⟨⟨dq, osq⟩, hw''⟩ := hw'
 subst hw''
 go_wp2
 go_returns
 have m1 := hm.after
 exact KRes.nil (by repeat' (first | (with_reducible exact Mods.refl _ _) | (with_reducible assumption) | (with_reducible refine Mods.alloc ?_ _) | (with_reducible refine Mods.drew ?_) | (with_reducible refine Mods.drewN ?_ _) | (with_reducible refine Mods.regrown ?_ _ _) | (with_reducible refine Mods.setCell ?_ ?_ _) | (refine .inr ?_; first | (simp; done) | (simp; omega) | omega)))
theorem fit_eq (f : KForm) (k a b : Nat) : (!(((k : Int) == (k : Int)) && (((kuse f.a a) == (a : Int)) && ((kuse f.b b) == (b : Int))))) = !kfit f a b := by
 obtain ⟨hd, md, fa, fb, ft⟩ := f
 cases fa <;> cases fb <;> simp [kfit, kuse] <;> by_cases h1 : a = 0 <;> by_cases h2 : b = 0 <;> simp_all <;> omega
set_option maxHeartbeats 400000 in
theorem Make_no2 (k a b : Nat) (f : KForm) (w : World) (hf : kform k = some f) (hn : kfit f a b = false) :
  Calls Tryz.prog 106 #[.agg #[.int .i64 k, .int .u64 a, .int .u64 b]] w (KRes w [] 70) := by
 have hne := fun w => (key_neq (k : Int) (kuse f.a a) (kuse f.b b) (k : Int) (a : Int) (b : Int) w).trans (by rw [fit_eq, hn])
 have H := Lib.hid hf
 clear hf hn
 obtain ⟨hd, md, fa, fb, ft⟩ := f
 go_enter Tryz.func106, Tryz.ntmps106
 go_wp2_with (go_at_call 175; refine (formOf_yes _ _ _ H.out).mono ?_; rintro e w1 ⟨rfl, hm⟩; unfold fv fcells)
 have m1 := hm.after
 have c1 := hm.cellAt (g := w.heap.size) (by simp) (fun x => x)
 have hz : w.heap.size < w1.heap.size := hm.size_of (by simp)
 have c0 : ∀ o, (w1.alloc (.cells #[.int .u8 hd.toNat, .int .u8 md.toNat, .bool fa, .bool fb, .bool ft] 261)).cell? ⟨w.heap.size, o, none⟩ = #[.int .i64 (k : Int), .int .u64 (a : Int), .int .u64 (b : Int)][o]? := fun o => (World.cell?_alloc_past _ _ _ hz).trans ((c1 o).trans (by simp))
 have c2 := cells_regrown c0 (by simp; omega)
 have c3 := cells_regrown (cells_of (heap_new w1 (.cells #[.int .u8 hd.toNat, .int .u8 md.toNat, .bool fa, .bool fb, .bool ft] 261))) (by simp)
 clear c0 c1
 refine wp_region_quiet_below (by kernel_rfl) (by kernel_rfl) ?_
 repeat (quiet_step ((go_at_call 176; exact Calls.quiet_mods (used_any ⟨hd, md, fa, fb, ft⟩ _ _ _ _))))
 refine wpQuiet_nil ?_
 intro _ hw'
 obtain ⟨⟨dq, osq⟩, hw''⟩ := hw'
 subst hw''
 clear c2 c3
 go_wp2
 go_returns
 exact KRes.nil (by repeat' (first | (with_reducible exact Mods.refl _ _) | (with_reducible assumption) | (with_reducible refine Mods.alloc ?_ _) | (with_reducible refine Mods.drew ?_) | (with_reducible refine Mods.drewN ?_ _) | (with_reducible refine Mods.regrown ?_ _ _) | (with_reducible refine Mods.setCell ?_ ?_ _) | (refine .inr ?_; first | (simp; done) | (simp; omega) | omega)))
set_option maxHeartbeats 400000 in
theorem Make_yes (k a b : Nat) (f : KForm) (w : World) (hf : kform k = some f) (hn : kfit f a b = true) (ha : a ≤ 18446744073709551615) (hb : b ≤ 18446744073709551615) :
  Calls Tryz.prog 106 #[.agg #[.int .i64 k, .int .u64 a, .int .u64 b]] w (KRes w (kbytes f a b) 0) := by
 have hne := fun w => (key_neq (k : Int) (kuse f.a a) (kuse f.b b) (k : Int) (a : Int) (b : Int) w).trans (by rw [fit_eq, hn])
 have H := Lib.hid hf
 clear hf hn
 obtain ⟨hd, md, fa, fb, ft⟩ := f
 go_enter Tryz.func106, Tryz.ntmps106
 go_wp2_with (go_at_call 175; refine (formOf_yes _ _ _ H.out).mono ?_; rintro e w1 ⟨rfl, hm⟩; unfold fv fcells)
 have m1 := hm.after
 have c1 := hm.cellAt (g := w.heap.size) (by simp) (fun x => x)
 have hz : w.heap.size < w1.heap.size := hm.size_of (by simp)
 have c0 : ∀ o, (w1.alloc (.cells #[.int .u8 hd.toNat, .int .u8 md.toNat, .bool fa, .bool fb, .bool ft] 261)).cell? ⟨w.heap.size, o, none⟩ = #[.int .i64 (k : Int), .int .u64 (a : Int), .int .u64 (b : Int)][o]? := fun o => (World.cell?_alloc_past _ _ _ hz).trans ((c1 o).trans (by simp))
 have c2 := cells_regrown c0 (by simp; omega)
 have c3 := cells_regrown (cells_of (heap_new w1 (.cells #[.int .u8 hd.toNat, .int .u8 md.toNat, .bool fa, .bool fb, .bool ft] 261))) (by simp)
 clear c0 c1
 refine wp_region_quiet_below (by kernel_rfl) (by kernel_rfl) ?_
 repeat (quiet_step ((go_at_call 176; exact Calls.quiet_mods (used_any ⟨hd, md, fa, fb, ft⟩ _ _ _ _))))
 refine wpQuiet_nil ?_
 intro _ hw'
 obtain ⟨⟨dq, osq⟩, hw''⟩ := hw'
 subst hw''
 have d2 := c2 dq osq
 have d3 := c3 dq osq
 have hs2 := (mods_regrown (w1.alloc (.cells #[.int .u8 hd.toNat, .int .u8 md.toNat, .bool fa, .bool fb, .bool ft] 261)) dq osq).size
 have m2 := (m1.alloc (.cells #[.int .u8 hd.toNat, .int .u8 md.toNat, .bool fa, .bool fb, .bool ft] 261)).regrown dq osq
 simp only [World.size_alloc] at hs2
 clear c2 c3 hne hm
 generalize Sort.grow _ osq = w2 at *
 go_wp2_with fail
 refine (first_any ⟨hd, md, fa, fb, ft⟩ a _ ha).mono ?_
 rintro e w3 ⟨v, rfl, h1, h2, h3⟩
 have hs3 := h2.size
 have b0 : w.heap.size < w2.heap.size := by omega
 have b1 : w1.heap.size < w2.heap.size := by omega
 have e2 := fun o => (h2.cellAt b0 (fun x => x) o).trans (d2 o)
 have e3 := fun o => (h2.cellAt b1 (fun x => x) o).trans (d3 o)
 clear d2 d3
 go_wp2_with fail
 refine (eight_int _ _ (by omega) (by omega)).mono ?_
 rintro e w4 ⟨rfl, h4⟩
 have hs4 := h4.size
 have f3 := fun o => (h4.cellAt (g := w1.heap.size) (by omega) (fun x => x) o).trans (e3 o)
 have b4 : w1.heap.size < w4.heap.size := by omega
 have m4 := (m2.then0 h2).then0 h4
 have o4 := h1.keep h4 (fun _ _ x => x)
 have fr : freshIn w v := h3.of (by omega)
 clear e2 e3
 cases fb
 ·go_wp2_with (at_builtin; refine stop ?_)
  go_returns
  refine ⟨v, rfl, ?_, m4.alloc _, fr⟩
  simpa [kbytes] using o4.alloc _
 ·go_wp2_with (at_builtin; refine stop ?_)
  unfold Stop
  refine wpList_apb rfl rfl _ _ (o4.alloc _) (rd8 (heap_new _ _)) rfl rfl (by simp [be_length, kfirst]; repeat' split <;> simp [be_length]) ?_
  intro v5 w5 k1 k2 k3
  go_wp2
  go_returns
  refine ⟨v5, rfl, by simpa [kbytes] using k1, (m4.alloc _).trans k2 (fun _ _ x => x) (fun i hi x => by have := fr i x; omega), fun k hk => ?_⟩
  rcases k3 with k3 | k3
  ·exact fr k (k3.symm.trans hk)
  ·have := k3 k hk
   simp at this
   omega
theorem kform_none {n : Int} (h : n < 1 ∨ 17 < n) : kform n.toNat = none := by
 rcases h with h | h
 ·rw [show n.toNat = 0 from by omega]; rfl
 ·obtain ⟨j, hj⟩ : ∃ j, n.toNat = j + 18 := ⟨n.toNat - 18, by omega⟩
  rw [hj]; rfl
def kmake (n : Int) (a b : Nat) : Option (List UInt8) := match kform n.toNat with
 | none => none
 | some f => if kfit f a b then some (kbytes f a b) else none
theorem Make_any (n : Int) (a b : Nat) (w : World) (ha : a ≤ 18446744073709551615) (hb : b ≤ 18446744073709551615) :
  Calls Tryz.prog 106 #[.agg #[.int .i64 n, .int .u64 a, .int .u64 b]] w (KRes w ((kmake n a b).getD []) (if (kmake n a b).isSome then 0 else 70)) := by
 by_cases h : n < 1 ∨ 17 < n
 ·have := Make_no1 n a b w h
  simpa [kmake, kform_none h] using this
 ·obtain ⟨k, rfl⟩ := Int.eq_ofNat_of_zero_le (a := n) (by omega)
  obtain ⟨f, hf, _⟩ := formsV_at k (by omega) (by omega)
  cases hn : kfit f a b
  ·have := Make_no2 k a b f w hf hn
   simpa [kmake, hf, hn] using this
  ·have := Make_yes k a b f w hf hn ha hb
   simpa [kmake, hf, hn] using this
open Go.Gl Go.RowKit
structure Appended (w : World) (v : Value) (xs : List UInt8) (w' : World) (v' : Value) : Prop where
 own : Gl.Own w' v' xs
 mods : Mods (ofV v) w w'
 blk : v'.ownBlock = v.ownBlock ∨ freshIn w v'
theorem Appended.trans {w w1 w2 : World} {v v1 v2 : Value} {xs ys : List UInt8} (h : Appended w v xs w1 v1) (k : Appended w1 v1 ys w2 v2) : Appended w v ys w2 v2 :=
 ⟨k.own, h.mods.trans k.mods (fun _ _ x => x) (fun i hi hx => by
   rcases h.blk with hb | hb
   ·exact hb.symm.trans hx
   ·exact absurd hi (Nat.not_lt.2 (hb i hx))),
  by
   rcases k.blk with kb | kb
   ·rcases h.blk with hb | hb
    ·exact .inl (kb.trans hb)
    ·exact .inr (fun i hi => hb i (kb ▸ hi))
   ·exact .inr (kb.of h.mods.size)⟩
theorem Appended.fresh {w w1 : World} {v v1 : Value} {xs : List UInt8} (h : Appended w v xs w1 v1) {w0 : World} (hs : w0.heap.size ≤ w.heap.size) (hv : freshIn w0 v) : freshIn w0 v1 := by
 rcases h.blk with hb | hb
 ·exact fun i hi => hv i (hb ▸ hi)
 ·exact hb.of hs
theorem Appended.mods0 {w w1 : World} {v v1 : Value} {xs : List UInt8} (h : Appended w v xs w1 v1) {w0 : World} (hm : Mods noB w0 w) (hv : freshIn w0 v) : Mods noB w0 w1 :=
 hm.trans h.mods (fun _ _ x => x) (fun i hi hx => absurd hi (Nat.not_lt.2 (hv i hx)))
theorem shr_byte (x j : Nat) : (x : Int) / 2 ^ (8 * j) % 256 = (((UInt8.ofNat (x / 256 ^ j)).toNat : Nat) : Int) := by
 rw [UInt8.toNat_ofNat', show (256 : Nat) = 2 ^ 8 from rfl, ← Nat.pow_mul]
 simp
set_option maxHeartbeats 1000000 in
theorem Put_any {v : Value} {xs : List UInt8} {w : World} (n x : Nat) (hv : Gl.Own w v xs) (hn : n ≤ 8) (hx : x ≤ 18446744073709551615) (hl : xs.length ≤ 100000000000000) :
  Calls Tryz.prog 199 #[v, .int .i64 n, .int .u64 x] w fun e w' => ∃ v', e = .returned v' ∧ Appended w v (xs ++ be n x) w' v' := by
 obtain ⟨out, hgo⟩ : ∃ out, xs ++ be n x = out := ⟨_, rfl⟩
 have R0 : Hid (Appended w v xs w v ∧ xs ++ be n x = out ∧ xs.length + n ≤ 100000000000008) := ⟨⟨hv, Mods.refl _ _, .inl rfl⟩, hgo, by omega⟩
 rw [hgo]
 clear hv hgo hl
 go_enter Tryz.func199, Tryz.ntmps199
 go_wp2
 go_loopw [0, 7] (fun b k wr => ∃ (j : Nat) (ys : List UInt8), j ≤ 8 ∧ k = .int .i64 ((j : Int) - 1) ∧ Hid (Appended w v ys wr b ∧ ys ++ be j x = out ∧ ys.length + j ≤ 100000000000008)) (fun _ k _ => (intOf k + 1).toNat)
 case atStart => exact ⟨n, xs, hn, rfl, R0⟩
 case round =>
  obtain ⟨j, ys, hj, rfl, hR⟩ := hrel
  clear R0
  rcases j with _ | j
  ·go_wp2
   go_ret
   obtain ⟨h1, h2, h3⟩ := hR.out
   simp only [be, List.append_nil] at h2
   subst h2
   exact ⟨_, rfl, h1⟩
  ·rw [show (((j + 1 : Nat) : Int) - 1) = ((j : Nat) : Int) from by omega]
   have h8 : j ≤ 7 := by omega
   go_wp2_with (at_builtin; refine stop ?_)
   unfold Stop
   rw [shr_byte]
   obtain ⟨h1, h2, h3⟩ := hR.out
   refine wpList_apb rfl rfl ys _ (h1.own.alloc _) (own_at (UInt8.ofNat (x / 256 ^ j)) _ rfl).rd rfl rfl (by simp; omega) ?_
   intro v' w' k1 k2 k3
   have R1 : Hid (Appended w v (ys ++ [UInt8.ofNat (x / 256 ^ j)]) w' v' ∧ (ys ++ [UInt8.ofNat (x / 256 ^ j)]) ++ be j x = out ∧ (ys ++ [UInt8.ofNat (x / 256 ^ j)]).length + j ≤ 100000000000008) :=
    ⟨h1.trans ⟨k1, ((Mods.refl _ _).alloc _).trans k2 (fun _ _ x => x) (fun _ _ x => x), k3.imp_right (fun h => h.of (by simp))⟩, by rw [← h2]; simp [be], by simp; omega⟩
   clear hR h1 h2 h3 k1 k2 k3
   go_wp2
   go_roundw
   case rel => exact ⟨j, _, by omega, rfl, R1⟩
   case measure => simp [intOf]
open Go.Gl Go.RowKit
structure Wr (w : World) (g : Nat) (v : Value) (xs : List UInt8) (e : Int) : Prop where
 heap : w.heap[g]? = some (.cells #[v, .int .i64 e] 311 (0, 0))
 own : Gl.Own w v xs
 apart : v.ownBlock ≠ some g
def WS (g : Nat) (v : Value) : Nat → Prop := fun k => k = g ∨ v.ownBlock = some k
structure WStep (w : World) (g : Nat) (v : Value) (xs : List UInt8) (e : Int) (w' : World) (v' : Value) : Prop where
 wr : Wr w' g v' xs e
 mods : Mods (WS g v) w w'
 blk : v'.ownBlock = v.ownBlock ∨ freshIn w v'
theorem WStep.trans {w w1 w2 : World} {g : Nat} {v v1 v2 : Value} {xs ys : List UInt8} {e e' : Int} (h : WStep w g v xs e w1 v1) (k : WStep w1 g v1 ys e' w2 v2) : WStep w g v ys e' w2 v2 :=
 ⟨k.wr, h.mods.trans k.mods (fun _ _ x => x) (fun i hi hx => by
   rcases hx with hx | hx
   ·exact .inl hx
   ·rcases h.blk with hb | hb
    ·exact .inr (hb.symm.trans hx)
    ·exact absurd hi (Nat.not_lt.2 (hb i hx))),
  by
   rcases k.blk with kb | kb
   ·rcases h.blk with hb | hb
    ·exact .inl (kb.trans hb)
    ·exact .inr (fun i hi => hb i (kb ▸ hi))
   ·exact .inr (kb.of h.mods.size)⟩
theorem WStep.refl {w : World} {g : Nat} {v : Value} {xs : List UInt8} {e : Int} (h : Wr w g v xs e) : WStep w g v xs e w v := ⟨h, Mods.refl _ _, .inl rfl⟩
theorem Wr.lt {w : World} {g : Nat} {v : Value} {xs : List UInt8} {e : Int} (h : Wr w g v xs e) : g < w.heap.size := lt_of_heap h.heap
theorem Wr.set {w w' : World} {g : Nat} {v v' : Value} {xs ys : List UInt8} {e : Int} (h : Wr w g v xs e) (ho : Gl.Own w' v' ys) (hm : Mods (ofV v) w w') (hb : v'.ownBlock = v.ownBlock ∨ freshIn w v') :
  WStep w g v ys e (w'.setCell ⟨g, 0, none⟩ v') v' := by
 have hv' : v'.ownBlock ≠ some g := by
  rcases hb with hb | hb
  ·rw [hb]; exact h.apart
  ·exact hb.not h.lt
 have h1 := hm.heap h.heap (fun x => h.apart x)
 refine ⟨⟨?_, ho.keep ((Mods.refl (fun k => k = g) w').setCell (.inl rfl) v') (fun k hk e => hv' (by rw [hk, e])), hv'⟩, (hm.mono (T := WS g v) (fun i _ x => .inr x)).setCell (.inl (.inl rfl)) v', hb⟩
 have := heap_set h1 0 v'
 simpa using this
open Go.Gl Go.RowKit
attribute [local go_sem ↓] Go.wp_at_zero Go.wp_at_succ
theorem step_apb {ops : Array Oper} {Q : Exit → Act → World → Prop} {K : Act → World → Prop} {E : Prop} {o : Oper} {a : Act} {w : World} {s x : Operand} (hw : Region.wanted o (yielded ops a.tmps) = true)
  (ho : o.op = .call { callee := .builtin .append, args := #[s, x], argTypes := #[91, 91] })
  {v u : Value} (xs ys : List UInt8) (hown : Gl.Own w v xs) (hrd : Rd w u ys) (hs : a.eval s = v) (hx : a.eval x = u) (hlen : xs.length + ys.length ≤ 140737488355328)
  (h : ∀ v' w', Gl.Own w' v' (xs ++ ys) → Mods (ofV v) w w' → (v'.ownBlock = v.ownBlock ∨ freshIn w v') → K (a.put o.dst v') w') :
  if Region.wanted o (yielded ops a.tmps) = true then Oper.wp Tryz.prog o a w K Q else E := by
 rw [if_pos hw]
 obtain ⟨i, hi, hz, hs1, hb1⟩ := info_parts Tryz.infoU8
 obtain ⟨v', w', hr, h2, h3, h4⟩ := run_ap (P := Tryz.prog) 91 91 o.type 5 5 i _ Tryz.underlying91 Tryz.underlying91 hi hz (by rw [hs1]; rfl) (by rw [hs1]; exact hown) (by rw [hs1]; exact hrd) (bv_one _) (by simp only [maxLen]; omega) (by rw [hb1]; omega)
 unfold Oper.wp execOp
 simp only [ho, resolve, invoke, builtin, Sem.run_bind, Sem.run_pure, Result.andThen_ok, List.map_toArray, List.map_cons, List.map_nil, hs, hx, hr]
 refine h v' w' ?_ h3 h4
 rw [hs1] at h2
 unfold Gl.Own
 rw [bv_append, List.length_append]
 exact h2
theorem own_atI (c : UInt8) {z : Int} (hz : z = c.toNat) {w : World} (n : Nat) (hn : n = w.heap.size) : Gl.Own (w.alloc (.cells #[.int .u8 z] 5)) (.slice (some ⟨n, 0, none⟩) 1 1) [c] := by
 subst hz
 exact own_at c n hn
theorem wnum_err {w : World} {g : Nat} {v : Value} {xs : List UInt8} {e : Int} (n x : Nat) (h : Wr w g v xs e) (he : e ≠ 0) :
  Calls Tryz.prog 288 #[.pointer (some ⟨g, 0, none⟩), .int .u64 x, .int .i64 n] w fun r w' => r = .returned (.tuple #[]) ∧ w' = w := by
 have c := cells_of h.heap
 have hb : (e != 0) = true := by simp [he]
 clear h he
 go_enter Tryz.func288, Tryz.ntmps288
 go_wp2
 first | go_end0 | (refine bodyPost_ret (by simp [results, Tryz.results288, go_sem]; try rfl) rfl ?_)
 exact ⟨rfl, rfl⟩
theorem Wr.drewN {w : World} {g : Nat} {v : Value} {xs : List UInt8} {e : Int} (h : Wr w g v xs e) (n : Nat) : Wr (w.drewN n) g v xs e := ⟨h.heap, h.own.quiet ⟨n, rfl⟩, h.apart⟩
theorem Wr.alloc {w : World} {g : Nat} {v : Value} {xs : List UInt8} {e : Int} (h : Wr w g v xs e) (o : Obj) : Wr (w.alloc o) g v xs e := ⟨heap_old h.heap o, h.own.alloc o, h.apart⟩
theorem Wr.drew {w : World} {g : Nat} {v : Value} {xs : List UInt8} {e : Int} (h : Wr w g v xs e) : Wr w.drew g v xs e := ⟨h.heap, h.own.quiet ⟨1, rfl⟩, h.apart⟩
theorem WStep.from {w w1 w2 : World} {g : Nat} {v v2 : Value} {xs : List UInt8} {e : Int} (h : WStep w1 g v xs e w2 v2) (hm : Mods noB w w1) : WStep w g v xs e w2 v2 :=
 ⟨h.wr, hm.trans h.mods (fun _ _ x => x.elim) (fun _ _ x => x), h.blk.imp_right (fun k => k.of hm.size)⟩
set_option maxHeartbeats 2000000 in
theorem wnum_ok {w : World} {g : Nat} {v : Value} {xs : List UInt8} (n x : Nat) (h : Wr w g v xs 0) (hn : n ≤ 8) (hx : x ≤ 18446744073709551615) (hl : xs.length ≤ 100000000000000) :
  Calls Tryz.prog 288 #[.pointer (some ⟨g, 0, none⟩), .int .u64 x, .int .i64 n] w fun r w' => r = .returned (.tuple #[]) ∧ ∃ v', WStep w g v (xs ++ be n x) 0 w' v' := by
 obtain ⟨out, hgo⟩ : ∃ out, xs ++ be n x = out := ⟨_, rfl⟩
 have R0 : Hid (WStep w g v xs 0 w v ∧ xs ++ be n x = out ∧ xs.length + n ≤ 100000000000008) := ⟨WStep.refl h, hgo, by omega⟩
 rw [hgo]
 have c := cells_of h.heap
 clear h hgo hl
 go_enter Tryz.func288, Tryz.ntmps288
 go_wp2
 clear c
 go_loopw [6] (fun k wr => ∃ (j : Nat) (b : Value) (ys : List UInt8), j ≤ 8 ∧ k = .int .i64 ((j : Int) - 1) ∧ Hid (WStep w g v ys 0 wr b ∧ ys ++ be j x = out ∧ ys.length + j ≤ 100000000000008)) (fun k _ => (intOf k + 1).toNat)
 case atStart => exact ⟨n, v, xs, hn, rfl, R0⟩
 case round =>
  obtain ⟨j, b, ys, hj, rfl, hR⟩ := hrel
  clear R0
  rcases j with _ | j
  ·go_wp2
   go_end0
   obtain ⟨h1, h2, h3⟩ := hR.out
   simp only [be, List.append_nil] at h2
   subst h2
   exact ⟨rfl, _, h1⟩
  ·rw [show (((j + 1 : Nat) : Int) - 1) = ((j : Nat) : Int) from by omega]
   have h8 : j ≤ 7 := by omega
   have c := cells_of hR.out.1.wr.heap
   have f := free_of hR.out.1.wr.heap
   go_wp2
   have s1 : IntKind.i64.wrap (8 * (j : Int)) = 8 * (j : Int) := IntWalk.i64_in _ (by omega)
   have s2 : (0 : Int) ≤ 8 * (j : Int) := by omega
   have s3 : (8 * (j : Int)).toNat = 8 * j := by omega
   have hgl := hR.out.1.wr.lt
   have hgn : wr.heap.size ≠ g := by omega
   have hgm : g ≠ wr.heap.size := by omega
   go_region_law ((refine step_apb (by rfl) (by rfl) ys [UInt8.ofNat (x / 256 ^ j)] ?_ ?_ (by rfl) (by rfl) ?_ ?_; (next => exact (hR.out.1.wr.own.quiet ⟨1, rfl⟩).alloc _); (next => exact (own_atI (UInt8.ofNat (x / 256 ^ j)) (shr_byte x j) _ rfl).rd); (next => have := hR.out.2.2; simp; omega); intro v' w' k1 k2 k3; obtain ⟨a', cap', rfl, hm'⟩ := k1.rd.form; have H1 := cells_of (k2.heap (heap_old (w := wr.drew) hR.out.1.wr.heap _) hR.out.1.wr.apart); have F1 := free_of (k2.heap (heap_old (w := wr.drew) hR.out.1.wr.heap _) hR.out.1.wr.apart)))
   all_goals
    have R1 : Hid (WStep w g v (ys ++ [UInt8.ofNat (x / 256 ^ j)]) 0 (w'.setCell ⟨g, 0, none⟩ (.slice a' (ys.length + 1) cap')) (.slice a' (ys.length + 1) cap') ∧ (ys ++ [UInt8.ofNat (x / 256 ^ j)]) ++ be j x = out ∧ (ys ++ [UInt8.ofNat (x / 256 ^ j)]).length + j ≤ 100000000000008) := by
     have hh := hR.out
     refine ⟨hh.1.trans ((((hh.1.wr.drew.alloc _).set (by simpa using k1) k2 (by first | exact k3 | (rw [List.length_append] at k3; exact k3))).from (((Mods.refl noB wr).drew).alloc _))), by rw [← hh.2.1]; simp [be], by have := hh.2.2; simp; omega⟩
    clear hR k1 k2 k3 H1 F1 c f s1 s2 s3
    go_wp2
    go_roundw
    case rel => exact ⟨j, _, _, by omega, rfl, R1⟩
    case measure => simp [intOf]
def wput (e : Int) (xs ys : List UInt8) : List UInt8 := if e = 0 then xs ++ ys else xs
def WRes (w : World) (g : Nat) (v : Value) (xs : List UInt8) (e : Int) (r : Ending) (w' : World) : Prop := r = .returned (.tuple #[]) ∧ ∃ v', WStep w g v xs e w' v'
theorem wnum_any {w : World} {g : Nat} {v : Value} {xs : List UInt8} {e : Int} (n x : Nat) (h : Wr w g v xs e) (hn : n ≤ 8) (hx : x ≤ 18446744073709551615) (hl : xs.length ≤ 100000000000000) :
  Calls Tryz.prog 288 #[.pointer (some ⟨g, 0, none⟩), .int .u64 x, .int .i64 n] w (WRes w g v (wput e xs (be n x)) e) := by
 by_cases he : e = 0
 ·subst he
  exact wnum_ok n x h hn hx hl
 ·refine (wnum_err n x h he).mono ?_
  rintro r w' ⟨rfl, rfl⟩
  rw [wput, if_neg he]
  exact ⟨rfl, _, WStep.refl h⟩
theorem WU8_any {w : World} {g : Nat} {v : Value} {xs : List UInt8} {e : Int} (x : Nat) (h : Wr w g v xs e) (hx : x ≤ 255) (hl : xs.length ≤ 100000000000000) :
  Calls Tryz.prog 309 #[.pointer (some ⟨g, 0, none⟩), .int .u8 x] w (WRes w g v (wput e xs (be 1 x)) e) := by
 have H := Lib.hid h
 clear h
 go_enter Tryz.func309, Tryz.ntmps309
 go_wp2_with (go_at_call 288; refine (wnum_any 1 x H.out (by omega) (by omega) hl).mono ?_; rintro r w' ⟨rfl, hr⟩)
 go_end0
 exact ⟨rfl, hr⟩
theorem WU64_any {w : World} {g : Nat} {v : Value} {xs : List UInt8} {e : Int} (x : Nat) (h : Wr w g v xs e) (hx : x ≤ 18446744073709551615) (hl : xs.length ≤ 100000000000000) :
  Calls Tryz.prog 258 #[.pointer (some ⟨g, 0, none⟩), .int .u64 x] w (WRes w g v (wput e xs (be 8 x)) e) := by
 have H := Lib.hid h
 clear h
 go_enter Tryz.func258, Tryz.ntmps258
 go_wp2_with (go_at_call 288; refine (wnum_any 8 x H.out (by omega) (by omega) hl).mono ?_; rintro r w' ⟨rfl, hr⟩)
 go_end0
 exact ⟨rfl, hr⟩
open Go.Gl Go.RowKit
theorem fails_first {w : World} {g : Nat} {cur : Array Value} {t : TypeId} (c : Nat) (h : w.heap[g]? = some (.cells cur t (0, 0))) (h1 : cur[1]? = some (.int .i64 0)) :
  Calls Tryz.prog 264 #[.pointer (some ⟨g, 0, none⟩), .int .i64 c] w fun r w' => r = .returned (.tuple #[]) ∧ w' = w.setCell ⟨g, 1, none⟩ (.int .i64 c) := by
 have c1 := cells_of h 1
 have f1 := free_of h 1
 rw [h1] at c1
 clear h h1
 go_enter Tryz.func264, Tryz.ntmps264
 go_wp2
 go_end0
 exact ⟨rfl, rfl⟩
theorem fails_then {w : World} {g : Nat} {cur : Array Value} {t : TypeId} {e : Int} (c : Nat) (h : w.heap[g]? = some (.cells cur t (0, 0))) (h1 : cur[1]? = some (.int .i64 e)) (he : e ≠ 0) :
  Calls Tryz.prog 264 #[.pointer (some ⟨g, 0, none⟩), .int .i64 c] w fun r w' => r = .returned (.tuple #[]) ∧ w' = w := by
 have c1 := cells_of h 1
 rw [h1] at c1
 have hb : (e == 0) = false := by simp [he]
 clear h h1 he
 go_enter Tryz.func264, Tryz.ntmps264
 go_wp2
 go_end0
 exact ⟨rfl, rfl⟩
def wfail (e c : Int) : Int := if e = 0 then c else e
theorem Wr.fail {w : World} {g : Nat} {v : Value} {xs : List UInt8} (c : Nat) (h : Wr w g v xs 0) : WStep w g v xs c (w.setCell ⟨g, 1, none⟩ (.int .i64 c)) v :=
 ⟨⟨by have := heap_set h.heap 1 (.int .i64 c); simpa using this, h.own.keep ((Mods.refl (fun k => k = g) w).setCell (.inl rfl) _) (fun k hk e => h.apart (by rw [hk, e])), h.apart⟩, (Mods.refl (WS g v) w).setCell (.inl (.inl rfl)) _, .inl rfl⟩
theorem wout_ok {w : World} {g : Nat} {v : Value} {xs : List UInt8} (h : Wr w g v xs 0) (hl : xs.length ≤ 140737488355328) :
  Calls Tryz.prog 219 #[.pointer (some ⟨g, 0, none⟩)] w fun r w' => ∃ u, r = .returned (.tuple #[u, .int .i64 0]) ∧ Gl.Own w' u xs ∧ Mods noB w w' ∧ freshIn w u := by
 have H := Lib.hid h
 have c := cells_of h.heap
 clear h
 go_enter Tryz.func219, Tryz.ntmps219
 go_wp2_with (at_builtin; refine stop ?_)
 unfold Stop
 refine wpList_apb rfl rfl [] xs (Gl.Own.nil _) H.out.own.rd rfl rfl (by simpa using hl) ?_
 intro v' w' k1 k2 k3
 have R := Lib.hid (And.intro k1 (And.intro k2 k3))
 clear k1 k2 k3
 go_wp2
 go_ret2
 obtain ⟨k1, k2, k3⟩ := R.out
 exact ⟨v', rfl, k1, k2.mono (fun i _ x => (ofV_nil x).elim), by rcases k3 with k3 | k3; exact (fun k hk => by rw [k3] at hk; simp [Value.ownBlock] at hk); exact k3⟩
theorem wout_err {w : World} {g : Nat} {v : Value} {xs : List UInt8} {e : Int} (h : Wr w g v xs e) (he : e ≠ 0) :
  Calls Tryz.prog 219 #[.pointer (some ⟨g, 0, none⟩)] w fun r w' => r = .returned (.tuple #[.slice none 0 0, .int .i64 e]) ∧ Quiet w w' := by
 have c := cells_of h.heap
 have hb : (e != 0) = true := by simp [he]
 clear h he
 go_enter Tryz.func219, Tryz.ntmps219
 go_wp2
 go_quiet (fail)
 go_wp2
 go_ret2
 exact ⟨rfl, _, rfl⟩
def woutB (e : Int) (xs : List UInt8) : List UInt8 := if e = 0 then xs else []
def OutRes (w : World) (xs : List UInt8) (e : Int) (r : Ending) (w' : World) : Prop := ∃ u, r = .returned (.tuple #[u, .int .i64 e]) ∧ Gl.Own w' u (woutB e xs) ∧ Mods noB w w' ∧ freshIn w u
theorem WOut_any {w : World} {g : Nat} {v : Value} {xs : List UInt8} {e : Int} (h : Wr w g v xs e) (hl : xs.length ≤ 140737488355328) :
  Calls Tryz.prog 219 #[.pointer (some ⟨g, 0, none⟩)] w (OutRes w xs e) := by
 by_cases he : e = 0
 ·subst he
  exact wout_ok h hl
 ·refine (wout_err h he).mono ?_
  rintro r w' ⟨rfl, hq⟩
  exact ⟨_, rfl, by rw [woutB, if_neg he]; exact Gl.Own.nil _, hq.mods _, fun k hk => by simp [Value.ownBlock] at hk⟩
open Go.Gl Go.RowKit
structure Grow (W0 : World) (xs : List UInt8) (w : World) (v : Value) : Prop where
 own : Gl.Own w v xs
 mods : Mods noB W0 w
 fresh : freshIn W0 v
theorem freshIn.nil (w : World) : freshIn w (.slice none 0 0) := fun k hk => by simp [Value.ownBlock] at hk
theorem Grow.nil (w : World) : Grow w [] w (.slice none 0 0) := ⟨Gl.Own.nil _, Mods.refl _ _, freshIn.nil _⟩
theorem Grow.then0 {W0 w w1 : World} {xs : List UInt8} {v : Value} (h : Grow W0 xs w v) (hm : Mods noB w w1) : Grow W0 xs w1 v := ⟨h.own.keep hm (fun _ _ x => x), h.mods.then0 hm, h.fresh⟩
theorem Grow.more {W0 w w1 : World} {xs ys : List UInt8} {v v' : Value} (h : Grow W0 xs w v) (ho : Gl.Own w1 v' ys) (hm : Mods (ofV v) w w1) (hb : v'.ownBlock = v.ownBlock ∨ freshIn w v') : Grow W0 ys w1 v' :=
 ⟨ho, h.mods.trans hm (fun _ _ x => x) (fun i hi x => absurd hi (Nat.not_lt.2 (h.fresh i x))), by
  rcases hb with hb | hb
  ·exact fun k hk => h.fresh k (hb ▸ hk)
  ·exact hb.of h.mods.size⟩
theorem Grow.put {W0 w : World} {xs : List UInt8} {v : Value} (h : Grow W0 xs w v) (n x : Nat) (hn : n ≤ 8) (hx : x ≤ 18446744073709551615) (hl : xs.length ≤ 100000000000000) :
  Calls Tryz.prog 199 #[v, .int .i64 n, .int .u64 x] w fun e w' => ∃ v', e = .returned v' ∧ Grow W0 (xs ++ be n x) w' v' :=
 (Put_any n x h.own hn hx hl).mono fun e w' ⟨v', he, ha⟩ => ⟨v', he, h.more ha.own ha.mods ha.blk⟩
open Go.Gl Go.RowKit
end Go.Proofs.YtglkmaalpammcaaGreat
namespace Go.Gl
open Go.RowKit
def RdM {α : Type} (f : α → Value) (w : World) (v : Value) (xs : List α) : Prop := RdG w 1 v xs.length (xs.map f)
def OwnM {α : Type} (e : TypeId) (f : α → Value) (w : World) (v : Value) (xs : List α) : Prop := OwnG w e 1 v xs.length (xs.map f)
theorem OwnM.rd {α : Type} {e : TypeId} {f : α → Value} {w : World} {v : Value} {xs : List α} (h : OwnM e f w v xs) : RdM f w v xs := OwnG.rd h
theorem RdM.nil {α : Type} (f : α → Value) (w : World) : RdM f w (.slice none 0 0) [] := ⟨rfl, .inl ⟨.nil, rfl⟩⟩
theorem OwnM.nil {α : Type} (e : TypeId) (f : α → Value) (w : World) : OwnM e f w (.slice none 0 0) [] := ⟨rfl, .inl ⟨rfl, rfl⟩⟩
theorem RdM.form {α : Type} {f : α → Value} {w : World} {v : Value} {xs : List α} (h : RdM f w v xs) : ∃ a cap, v = .slice a xs.length cap ∧ xs.length ≤ maxLen := RdG.form h
theorem RdM.keep {α : Type} {f : α → Value} {S : Nat → Prop} {w w' : World} {v : Value} {xs : List α} (h : RdM f w v xs) (hm : Mods S w w') (hs : ∀ k, v.ownBlock = some k → ¬ S k) : RdM f w' v xs := RdG.keep h hm hs
theorem OwnM.keep {α : Type} {e : TypeId} {f : α → Value} {S : Nat → Prop} {w w' : World} {v : Value} {xs : List α} (h : OwnM e f w v xs) (hm : Mods S w w') (hs : ∀ k, v.ownBlock = some k → ¬ S k) : OwnM e f w' v xs := OwnG.keep h hm hs
theorem RdM.ltn {α : Type} {f : α → Value} {w : World} {v : Value} {xs : List α} (h : RdM f w v xs) (hn : xs.length ≠ 0) : ∀ k, v.ownBlock = some k → k < w.heap.size := RdG.ltn h hn
theorem RdM.keepL {α : Type} {f : α → Value} {S : Nat → Prop} {w w' : World} {v : Value} {xs : List α} (h : RdM f w v xs) (hm : Mods S w w') (hs : ∀ k, k < w.heap.size → v.ownBlock = some k → ¬ S k) : RdM f w' v xs := RdG.keepL h hm hs
theorem OwnM.lt {α : Type} {e : TypeId} {f : α → Value} {w : World} {v : Value} {xs : List α} (h : OwnM e f w v xs) : ∀ k, v.ownBlock = some k → k < w.heap.size := OwnG.lt h
theorem RdM.open {α : Type} {f : α → Value} {w : World} {v : Value} {xs : List α} (h : RdM f w v xs) :
  (Nil0 v ∧ xs = []) ∨ ∃ g off cap, v = .slice (some ⟨g, off, none⟩) xs.length cap ∧ xs.length ≤ cap ∧ cap ≤ maxLen ∧ (xs.length = 0 ∨ g < w.heap.size) ∧ ∀ i (hi : i < xs.length), w.cell? ⟨g, off + i, none⟩ = some (f xs[i]) := by
 rcases h.2 with ⟨h0, hn⟩ | ⟨g, off, cap, hv, h1, h2, hg, h3⟩
 ·exact .inl ⟨h0, List.eq_nil_of_length_eq_zero hn⟩
 ·exact .inr ⟨g, off, cap, hv, h1, h2, hg, fun i hi => h3 i _ (by simp [hi])⟩
theorem rdM_of {α : Type} {f : α → Value} {w : World} {g off cap n : Nat} {xs : List α} (hn : xs.length = n) (h1 : n ≤ cap) (h2 : cap ≤ maxLen) (h3 : n = 0 ∨ g < w.heap.size) (h4 : ∀ i (hi : i < xs.length), w.cell? ⟨g, off + i, none⟩ = some (f xs[i])) : RdM f w (.slice (some ⟨g, off, none⟩) n cap) xs := by
 subst hn
 refine ⟨by simp, .inr ⟨g, off, cap, rfl, h1, h2, h3, fun j u hj => ?_⟩⟩
 have hj' : j < xs.length := by have := (List.getElem?_eq_some_iff.1 hj).1; simpa using this
 rw [List.getElem?_map, List.getElem?_eq_getElem hj'] at hj
 rw [h4 j hj']
 exact hj
theorem OwnM.open {α : Type} {e : TypeId} {f : α → Value} {w : World} {v : Value} {xs : List α} (h : OwnM e f w v xs) :
  (v = .slice none 0 0 ∧ xs = []) ∨ ∃ g off cap cur, v = .slice (some ⟨g, off, none⟩) xs.length cap ∧ w.heap[g]? = some (.cells cur e (0, 0)) ∧ xs.length ≤ cap ∧ cap ≤ maxLen ∧ off + cap ≤ cur.size ∧ ∀ i (hi : i < xs.length), cur[off + i]? = some (f xs[i]) := by
 rcases h.2 with ⟨rfl, hn⟩ | ⟨g, off, cap, cur, hv, h1, h2, h3, h4, h5⟩
 ·exact .inl ⟨rfl, List.eq_nil_of_length_eq_zero hn⟩
 ·exact .inr ⟨g, off, cap, cur, hv, h1, h2, h3, by omega, fun i hi => h5 i _ (by simp [hi])⟩
theorem ownM_of {α : Type} {e : TypeId} {f : α → Value} {w : World} {g off cap n : Nat} {cur : Array Value} {xs : List α} (hn : xs.length = n) (h1 : w.heap[g]? = some (.cells cur e (0, 0))) (h2 : n ≤ cap) (h3 : cap ≤ maxLen) (h4 : off + cap ≤ cur.size)
  (h5 : ∀ i (hi : i < xs.length), cur[off + i]? = some (f xs[i])) : OwnM e f w (.slice (some ⟨g, off, none⟩) n cap) xs := by
 subst hn
 refine ⟨by simp, .inr ⟨g, off, cap, cur, rfl, h1, h2, h3, by omega, fun j u hj => ?_⟩⟩
 have hj' : j < xs.length := by have := (List.getElem?_eq_some_iff.1 hj).1; simpa using this
 rw [List.getElem?_map, List.getElem?_eq_getElem hj'] at hj
 rw [h5 j hj']
 exact hj
abbrev u64 (n : Nat) : Value := .int .u64 n
abbrev RN (w : World) (v : Value) (ls : List Nat) : Prop := RdM u64 w v ls
abbrev ON (e : TypeId) (w : World) (v : Value) (ls : List Nat) : Prop := OwnM e u64 w v ls
def Lim (ls : List Nat) : Prop := ∀ x ∈ ls, x ≤ 18446744073709551615
end Go.Gl
namespace Go.Proofs.YtglkmaalpammcaaGreat
open Go.Gl Go.RowKit
theorem Tryz.infoU64 : (Tryz.prog.info? 22).map (fun i => (i.zero, i.size, i.bytes)) = some (some (.int .u64 0), 1, 8) := by kernel_rfl
theorem u64_one (xs : List Nat) : ∀ u ∈ xs.map u64, u.oneCell' = true := by
 intro u hu
 obtain ⟨b, _, rfl⟩ := List.mem_map.1 hu
 rfl
end Go.Proofs.YtglkmaalpammcaaGreat
namespace Go.Gl
def dval (B : Nat) : List Nat → Nat
 | [] => 0
 | d :: ds => d + B * dval B ds
def strip : List Nat → List Nat
 | [] => []
 | d :: ds => if d = 0 ∧ strip ds = [] then [] else d :: strip ds
theorem strip_strip (ds : List Nat) : strip (strip ds) = strip ds := by
  induction ds with
  | nil => rfl
  | cons d ds ih =>
    by_cases h : d = 0 ∧ strip ds = []
    · rw [strip, if_pos h]; rfl
    · rw [strip, if_neg h, strip, ih, if_neg h]
theorem strip_length_le (ds : List Nat) : (strip ds).length ≤ ds.length := by
  induction ds with
  | nil => exact Nat.le_refl _
  | cons d ds ih =>
    unfold strip
    split
    · simp
    · simp only [List.length_cons]
      omega
theorem dval_strip (B : Nat) (ds : List Nat) : dval B (strip ds) = dval B ds := by
  induction ds with
  | nil => rfl
  | cons d ds ih =>
    unfold strip
    split
    · rename_i h
      have := ih
      rw [h.2] at this
      simp only [dval] at this ⊢
      rw [h.1, ← this]
      rfl
    · simp only [dval, ih]
theorem strip_mem {ds : List Nat} {x : Nat} (h : x ∈ strip ds) : x ∈ ds := by
  induction ds with
  | nil => exact h
  | cons d ds ih =>
    unfold strip at h
    split at h
    · cases h
    · rcases List.mem_cons.1 h with h | h
      · exact h ▸ List.mem_cons_self
      · exact List.mem_cons_of_mem _ (ih h)
theorem strip_zero {ds : List Nat} (h : ∀ x ∈ ds, x = 0) : strip ds = [] := by
  induction ds with
  | nil => rfl
  | cons d ds ih =>
    unfold strip
    rw [if_pos ⟨h d List.mem_cons_self, ih (fun x hx => h x (List.mem_cons_of_mem _ hx))⟩]
theorem dval_pos {B : Nat} (hB : 0 < B) {ds : List Nat} (h : strip ds ≠ []) : 0 < dval B ds := by
  induction ds with
  | nil => exact absurd rfl h
  | cons d ds ih =>
    unfold strip at h
    simp only [dval]
    by_cases hd : d = 0
    · have : strip ds ≠ [] := fun e => h (by rw [if_pos ⟨hd, e⟩])
      have := Nat.mul_pos hB (ih this)
      omega
    · omega
theorem digits_inj {B : Nat} (hB : 1 < B) : ∀ (ds es : List Nat), (∀ x ∈ ds, x < B) → (∀ x ∈ es, x < B) → strip ds = ds → strip es = es → dval B ds = dval B es → ds = es := by
  intro ds
  induction ds with
  | nil =>
    intro es _ _ _ h4 h5
    rcases es with _ | ⟨e, es⟩
    · rfl
    · exfalso
      have := dval_pos (B := B) (by omega) (ds := e :: es) (by rw [h4]; simp)
      simp only [dval] at h5 this
      omega
  | cons d ds ih =>
    intro es h1 h2 h3 h4 h5
    rcases es with _ | ⟨e, es⟩
    · exfalso
      have := dval_pos (B := B) (by omega) (ds := d :: ds) (by rw [h3]; simp)
      simp only [dval] at h5 this
      omega
    · have hd := h1 d List.mem_cons_self
      have he := h2 e List.mem_cons_self
      simp only [dval] at h5
      have e1 : d = e := by
        have := congrArg (· % B) h5
        simpa [Nat.add_mul_mod_self_left, Nat.mod_eq_of_lt hd, Nat.mod_eq_of_lt he] using this
      subst e1
      have e2 : dval B ds = dval B es := Nat.eq_of_mul_eq_mul_left (by omega) (Nat.add_left_cancel h5)
      have n1 : strip ds = ds := by
        unfold strip at h3
        split at h3
        · cases h3
        · exact (List.cons.inj h3).2
      have n2 : strip es = es := by
        unfold strip at h4
        split at h4
        · cases h4
        · exact (List.cons.inj h4).2
      rw [ih es (fun x hx => h1 x (List.mem_cons_of_mem _ hx)) (fun x hx => h2 x (List.mem_cons_of_mem _ hx)) n1 n2 e2]
theorem strip_inj {B : Nat} (hB : 1 < B) {ds es : List Nat} (h1 : ∀ x ∈ ds, x < B) (h2 : ∀ x ∈ es, x < B) (h : dval B ds = dval B es) : strip ds = strip es :=
 digits_inj hB _ _ (fun x hx => h1 x (strip_mem hx)) (fun x hx => h2 x (strip_mem hx)) (strip_strip _) (strip_strip _) (by rw [dval_strip, dval_strip, h])
theorem dval_append (B : Nat) (ds es : List Nat) : dval B (ds ++ es) = dval B ds + B ^ ds.length * dval B es := by
  induction ds with
  | nil => simp [dval]
  | cons d ds ih =>
    simp only [List.cons_append, dval, ih, List.length_cons, Nat.pow_succ, Nat.mul_add]
    rw [← Nat.mul_assoc, Nat.mul_comm B (B ^ ds.length), Nat.add_assoc]
theorem dval_lt {B : Nat} {ds : List Nat} (h : ∀ x ∈ ds, x < B) : dval B ds < B ^ ds.length := by
  induction ds with
  | nil => simp [dval]
  | cons d ds ih =>
    have h1 := h d List.mem_cons_self
    have h2 := ih (fun x hx => h x (List.mem_cons_of_mem _ hx))
    simp only [dval, List.length_cons, Nat.pow_succ]
    have h3 : B * (dval B ds + 1) ≤ B * B ^ ds.length := Nat.mul_le_mul_left _ h2
    rw [Nat.mul_add, Nat.mul_one] at h3
    rw [Nat.mul_comm (B ^ ds.length)]
    omega
def ldig (B : Nat) : Nat → Nat → List Nat
 | 0, _ => []
 | n + 1, x => x % B :: ldig B n (x / B)
theorem ldig_length (B n x : Nat) : (ldig B n x).length = n := by
 induction n generalizing x with
 | zero => rfl
 | succ n ih => simp [ldig, ih]
theorem ldig_lt {B : Nat} (hB : 0 < B) (n x : Nat) : ∀ d ∈ ldig B n x, d < B := by
  induction n generalizing x with
  | zero => intro d hd; cases hd
  | succ n ih =>
    intro d hd
    rcases List.mem_cons.1 hd with hd | hd
    · exact hd ▸ Nat.mod_lt _ hB
    · exact ih _ d hd
theorem dval_ldig {B : Nat} (n x : Nat) : dval B (ldig B n x) = x % B ^ n := by
  induction n generalizing x with
  | zero => simp [ldig, dval, Nat.mod_one]
  | succ n ih =>
    rw [ldig, dval, ih, Nat.pow_succ, Nat.mul_comm (B ^ n) B, Nat.mod_mul]
theorem ldig_get (B n x i : Nat) (h : i < n) : (ldig B n x)[i]? = some (x / B ^ i % B) := by
  induction n generalizing x i with
  | zero => omega
  | succ n ih =>
    rcases i with _ | i
    · simp [ldig]
    · rw [ldig, List.getElem?_cons_succ, ih _ _ (by omega), Nat.pow_succ, Nat.mul_comm (B ^ i) B, Nat.div_div_eq_div_mul]
def dig (B x : Nat) : List Nat := strip (ldig B x x)
theorem lt_pow_self {B : Nat} (hB : 1 < B) (x : Nat) : x < B ^ x := Nat.lt_pow_self hB
theorem dval_dig {B : Nat} (hB : 1 < B) (x : Nat) : dval B (dig B x) = x := by
 unfold dig
 rw [dval_strip, dval_ldig, Nat.mod_eq_of_lt (lt_pow_self hB x)]
theorem dig_lt {B : Nat} (hB : 1 < B) (x : Nat) : ∀ d ∈ dig B x, d < B := fun d hd => ldig_lt (by omega) _ _ d (strip_mem hd)
theorem strip_dig {B : Nat} (hB : 1 < B) {ds : List Nat} (h : ∀ x ∈ ds, x < B) : strip ds = dig B (dval B ds) := by
 rw [show dig B (dval B ds) = strip (dig B (dval B ds)) from (strip_strip _).symm]
 exact strip_inj hB h (dig_lt hB _) (dval_dig hB _).symm
theorem dig_ldig {B : Nat} (hB : 1 < B) {n x : Nat} (h : x < B ^ n) : dig B x = strip (ldig B n x) := by
 rw [strip_dig hB (ldig_lt (by omega) n x), dval_ldig, Nat.mod_eq_of_lt h]
theorem strip_last {ds : List Nat} {d : Nat} (h : d ≠ 0) : strip (ds ++ [d]) = ds ++ [d] := by
  induction ds with
  | nil => simp [strip, h]
  | cons e ds ih =>
    rw [List.cons_append, strip, ih, if_neg (by simp)]
end Go.Gl

/- page.Map.rising: the regions of its closure (printed by gen_iter.py). -/
import Derived.Test.YtngemlpalkfjeaaPgK
import Derived.Test.YtngemlpalkfjeaaIter
namespace Go.Proofs.Ytngemlpalkfjeaa
open Go.Gl Go.RowKit
set_option linter.unusedVariables false
set_option linter.unusedSimpArgs false
set_option maxRecDepth 100000
def FrR (df : List Deferred) (v0 v1 v2 v4 v5 : Value) (a : Act) : Prop := ∃ x3 x6 x7 x8 x9 x10 x11 x12 x13 x14 x15 x16 x17 x18 x19 x20 x21 x22 x23 x24 x25 x26 x27 x28 x29 x30 x31 x32 x33 x34 x35 x36 x37 x38 x39 x40 x41 x42 x43 x44 x45 x46 x47 x48 x49 x50 x51 x52 x53 x54 x55 x56 x57 x58 x59 x60 x61 : Value, a = ⟨#[v0, v1, v2, x3, v4, v5, x6, x7, x8, x9, x10, x11, x12, x13, x14, x15, x16, x17, x18, x19, x20, x21, x22, x23, x24, x25, x26, x27, x28, x29, x30, x31, x32, x33, x34, x35, x36, x37, x38, x39, x40, x41, x42, x43, x44, x45, x46, x47, x48, x49, x50, x51, x52, x53, x54, x55, x56, x57, x58, x59, x60, x61], df⟩
theorem FrR.mk {df : List Deferred} {v0 v1 v2 v4 v5 x3 x6 x7 x8 x9 x10 x11 x12 x13 x14 x15 x16 x17 x18 x19 x20 x21 x22 x23 x24 x25 x26 x27 x28 x29 x30 x31 x32 x33 x34 x35 x36 x37 x38 x39 x40 x41 x42 x43 x44 x45 x46 x47 x48 x49 x50 x51 x52 x53 x54 x55 x56 x57 x58 x59 x60 x61 : Value} : FrR df v0 v1 v2 v4 v5 ⟨#[v0, v1, v2, x3, v4, v5, x6, x7, x8, x9, x10, x11, x12, x13, x14, x15, x16, x17, x18, x19, x20, x21, x22, x23, x24, x25, x26, x27, x28, x29, x30, x31, x32, x33, x34, x35, x36, x37, x38, x39, x40, x41, x42, x43, x44, x45, x46, x47, x48, x49, x50, x51, x52, x53, x54, x55, x56, x57, x58, x59, x60, x61], df⟩ := ⟨x3, x6, x7, x8, x9, x10, x11, x12, x13, x14, x15, x16, x17, x18, x19, x20, x21, x22, x23, x24, x25, x26, x27, x28, x29, x30, x31, x32, x33, x34, x35, x36, x37, x38, x39, x40, x41, x42, x43, x44, x45, x46, x47, x48, x49, x50, x51, x52, x53, x54, x55, x56, x57, x58, x59, x60, x61, rfl⟩
theorem FrR.elim {df : List Deferred} {v0 v1 v2 v4 v5 : Value} {a : Act} {C : Act → Prop} (h : FrR df v0 v1 v2 v4 v5 a) (k : ∀ x3 x6 x7 x8 x9 x10 x11 x12 x13 x14 x15 x16 x17 x18 x19 x20 x21 x22 x23 x24 x25 x26 x27 x28 x29 x30 x31 x32 x33 x34 x35 x36 x37 x38 x39 x40 x41 x42 x43 x44 x45 x46 x47 x48 x49 x50 x51 x52 x53 x54 x55 x56 x57 x58 x59 x60 x61 : Value, C ⟨#[v0, v1, v2, x3, v4, v5, x6, x7, x8, x9, x10, x11, x12, x13, x14, x15, x16, x17, x18, x19, x20, x21, x22, x23, x24, x25, x26, x27, x28, x29, x30, x31, x32, x33, x34, x35, x36, x37, x38, x39, x40, x41, x42, x43, x44, x45, x46, x47, x48, x49, x50, x51, x52, x53, x54, x55, x56, x57, x58, x59, x60, x61], df⟩) : C a := by
  obtain ⟨x3, x6, x7, x8, x9, x10, x11, x12, x13, x14, x15, x16, x17, x18, x19, x20, x21, x22, x23, x24, x25, x26, x27, x28, x29, x30, x31, x32, x33, x34, x35, x36, x37, x38, x39, x40, x41, x42, x43, x44, x45, x46, x47, x48, x49, x50, x51, x52, x53, x54, x55, x56, x57, x58, x59, x60, x61, rfl⟩ := h
  exact k _ _ _ _ _ _ _ _ _ _ _ _ _ _ _ _ _ _ _ _ _ _ _ _ _ _ _ _ _ _ _ _ _ _ _ _ _ _ _ _ _ _ _ _ _ _ _ _ _ _ _ _ _ _ _ _ _
set_option maxHeartbeats 1000000 in
theorem ris0e {w : World} {m g cap n : Nat} {ao : Option Addr} (c1 : w.cell? ⟨m, 0, none⟩ = some (.pointer (some ⟨g, 0, none⟩))) (c2 : w.cell? ⟨g, 0, none⟩ = some (.slice ao n cap)) (hn : n = 0) {x0 x2 x3 x4 x5 x6 x7 x8 x9 x10 x11 x12 x13 x14 x15 x16 x17 x18 x19 x20 x21 x22 x23 x24 x25 x26 x27 x28 x29 x30 x31 x32 x33 x34 x35 x36 x37 x38 x39 x40 x41 x42 x43 x44 x45 x46 x47 x48 x49 x50 x51 x52 x53 x54 x55 x56 x57 x58 x59 x60 x61 : Value} {df : List Deferred} {Q : Exit → Act → World → Prop}
    (hK : ∀ (y7 y8 y9 y10 y11 : Value)  (w' : World), w' = w → Q .normal ⟨#[x0, .pointer (some ⟨m, 0, none⟩), x2, x3, x4, x5, x6, y7, y8, y9, y10, y11, .bool true, x13, x14, x15, x16, x17, x18, x19, x20, x21, x22, x23, x24, x25, x26, x27, x28, x29, x30, x31, x32, x33, x34, x35, x36, x37, x38, x39, x40, x41, x42, x43, x44, x45, x46, x47, x48, x49, x50, x51, x52, x53, x54, x55, x56, x57, x58, x59, x60, x61], df⟩ w') : RW Try.prog (opsC 0 Try.f75) false Q ⟨#[x0, .pointer (some ⟨m, 0, none⟩), x2, x3, x4, x5, x6, x7, x8, x9, x10, x11, x12, x13, x14, x15, x16, x17, x18, x19, x20, x21, x22, x23, x24, x25, x26, x27, x28, x29, x30, x31, x32, x33, x34, x35, x36, x37, x38, x39, x40, x41, x42, x43, x44, x45, x46, x47, x48, x49, x50, x51, x52, x53, x54, x55, x56, x57, x58, x59, x60, x61], df⟩ w := by
  have HQ := Lib.hid hK
  clear hK
  refine rw_lin [(0, false), (1, false), (2, false), (3, false), (4, false), (5, false)] (by kernel_rfl) ?_
  refine wpOrdT_run (.pointer (some ⟨g, 0, none⟩)) _ (some 7) ⟨by kernel_rfl, by kernel_rfl, by kernel_rfl⟩ (of_load (x := (.tmp 1)) (by kernel_rfl) (by kernel_rfl) (load_c ((fun _ => c1) (trivial)) Try.underlying58 rfl)) (fun _ => trivial) ?_
  refine wpOrdT_freesB [1, 2] [.pointer (some ⟨g, 0, none⟩), .pointer (some ⟨g, 0, none⟩)] (rest := [(3, false), (4, false), (5, false)]) (by kernel_rfl) (by kernel_rfl) (by kernel_rfl) (.inr trivial) ?_
  refine wpOrdT_run ((.slice ao n cap)) _ (some 10) ⟨by kernel_rfl, by kernel_rfl, by kernel_rfl⟩ (of_load (x := (.tmp 9)) (by kernel_rfl) (by kernel_rfl) (load_c ((fun _ => c2) (trivial)) Try.underlying82 rfl)) (fun _ => trivial) ?_
  refine wpOrdT_freesB [4] [.int .i64 ((n : Nat) : Int)] (rest := [(5, false)]) (by kernel_rfl) (by kernel_rfl) (by kernel_rfl) (.inr trivial) ?_
  refine wpOrdT_run (.bool true) _ (some 12) ⟨by kernel_rfl, by kernel_rfl, by kernel_rfl⟩ (run_bin (t := 3) (t' := 3) (xv := .int .i64 ((n : Nat) : Int)) (yv := .int .i64 0) (x := (.tmp 11)) (y := (.const (.int .i64 0))) (by kernel_rfl) (by kernel_rfl) (by kernel_rfl) (fun _ => by kernel_rfl) (run_eql _ (decide_eq_true (by omega)))) (fun _ => trivial) ?_
  exact wpOrdT_doneC (act_is (K := Q .normal) (by kernel_rfl) (HQ.out (.pointer (some ⟨g, 0, none⟩)) (.pointer (some ⟨g, 0, none⟩)) (.pointer (some ⟨g, 0, none⟩)) ((.slice ao n cap)) (.int .i64 ((n : Nat) : Int)) _ rfl))
set_option maxHeartbeats 1000000 in
theorem ris0n {w : World} {m g cap n : Nat} {ao : Option Addr} (c1 : w.cell? ⟨m, 0, none⟩ = some (.pointer (some ⟨g, 0, none⟩))) (c2 : w.cell? ⟨g, 0, none⟩ = some (.slice ao n cap)) (hn : ¬ n = 0) {x0 x2 x3 x4 x5 x6 x7 x8 x9 x10 x11 x12 x13 x14 x15 x16 x17 x18 x19 x20 x21 x22 x23 x24 x25 x26 x27 x28 x29 x30 x31 x32 x33 x34 x35 x36 x37 x38 x39 x40 x41 x42 x43 x44 x45 x46 x47 x48 x49 x50 x51 x52 x53 x54 x55 x56 x57 x58 x59 x60 x61 : Value} {df : List Deferred} {Q : Exit → Act → World → Prop}
    (hK : ∀ (y7 y8 y9 y10 y11 : Value)  (w' : World), w' = w → Q .normal ⟨#[x0, .pointer (some ⟨m, 0, none⟩), x2, x3, x4, x5, x6, y7, y8, y9, y10, y11, .bool false, x13, x14, x15, x16, x17, x18, x19, x20, x21, x22, x23, x24, x25, x26, x27, x28, x29, x30, x31, x32, x33, x34, x35, x36, x37, x38, x39, x40, x41, x42, x43, x44, x45, x46, x47, x48, x49, x50, x51, x52, x53, x54, x55, x56, x57, x58, x59, x60, x61], df⟩ w') : RW Try.prog (opsC 0 Try.f75) false Q ⟨#[x0, .pointer (some ⟨m, 0, none⟩), x2, x3, x4, x5, x6, x7, x8, x9, x10, x11, x12, x13, x14, x15, x16, x17, x18, x19, x20, x21, x22, x23, x24, x25, x26, x27, x28, x29, x30, x31, x32, x33, x34, x35, x36, x37, x38, x39, x40, x41, x42, x43, x44, x45, x46, x47, x48, x49, x50, x51, x52, x53, x54, x55, x56, x57, x58, x59, x60, x61], df⟩ w := by
  have HQ := Lib.hid hK
  clear hK
  refine rw_lin [(0, false), (1, false), (2, false), (3, false), (4, false), (5, false)] (by kernel_rfl) ?_
  refine wpOrdT_run (.pointer (some ⟨g, 0, none⟩)) _ (some 7) ⟨by kernel_rfl, by kernel_rfl, by kernel_rfl⟩ (of_load (x := (.tmp 1)) (by kernel_rfl) (by kernel_rfl) (load_c ((fun _ => c1) (trivial)) Try.underlying58 rfl)) (fun _ => trivial) ?_
  refine wpOrdT_freesB [1, 2] [.pointer (some ⟨g, 0, none⟩), .pointer (some ⟨g, 0, none⟩)] (rest := [(3, false), (4, false), (5, false)]) (by kernel_rfl) (by kernel_rfl) (by kernel_rfl) (.inr trivial) ?_
  refine wpOrdT_run ((.slice ao n cap)) _ (some 10) ⟨by kernel_rfl, by kernel_rfl, by kernel_rfl⟩ (of_load (x := (.tmp 9)) (by kernel_rfl) (by kernel_rfl) (load_c ((fun _ => c2) (trivial)) Try.underlying82 rfl)) (fun _ => trivial) ?_
  refine wpOrdT_freesB [4] [.int .i64 ((n : Nat) : Int)] (rest := [(5, false)]) (by kernel_rfl) (by kernel_rfl) (by kernel_rfl) (.inr trivial) ?_
  refine wpOrdT_run (.bool false) _ (some 12) ⟨by kernel_rfl, by kernel_rfl, by kernel_rfl⟩ (run_bin (t := 3) (t' := 3) (xv := .int .i64 ((n : Nat) : Int)) (yv := .int .i64 0) (x := (.tmp 11)) (y := (.const (.int .i64 0))) (by kernel_rfl) (by kernel_rfl) (by kernel_rfl) (fun _ => by kernel_rfl) (run_eql _ (decide_eq_false (by omega)))) (fun _ => trivial) ?_
  exact wpOrdT_doneC (act_is (K := Q .normal) (by kernel_rfl) (HQ.out (.pointer (some ⟨g, 0, none⟩)) (.pointer (some ⟨g, 0, none⟩)) (.pointer (some ⟨g, 0, none⟩)) ((.slice ao n cap)) (.int .i64 ((n : Nat) : Int)) _ rfl))
set_option maxHeartbeats 1000000 in
theorem ris1 {w : World} {m bf g p : Nat} {fv : Value} (c1 : w.cell? ⟨m, 0, none⟩ = some (.pointer (some ⟨g, 0, none⟩))) (c2 : w.cell? ⟨bf, 0, none⟩ = some fv) (hC : Calls Try.prog 76 #[.pointer (some ⟨g, 0, none⟩), fv] w fun e w' => e = .returned (.int .i64 (p : Nat)) ∧ Mods noB w w') {x0 x3 x4 x5 x6 x7 x8 x9 x10 x11 x12 x13 x14 x15 x16 x17 x18 x19 x20 x21 x22 x23 x24 x25 x26 x27 x28 x29 x30 x31 x32 x33 x34 x35 x36 x37 x38 x39 x40 x41 x42 x43 x44 x45 x46 x47 x48 x49 x50 x51 x52 x53 x54 x55 x56 x57 x58 x59 x60 x61 : Value} {df : List Deferred} {Q : Exit → Act → World → Prop}
    (hK : ∀ (y13 y14 y15 : Value)  (w' : World), Mods noB w w' → Q .normal ⟨#[x0, .pointer (some ⟨m, 0, none⟩), .pointer (some ⟨bf, 0, none⟩), x3, .int .i64 ((p : Nat) : Int), x5, x6, x7, x8, x9, x10, x11, x12, y13, y14, y15, x16, x17, x18, x19, x20, x21, x22, x23, x24, x25, x26, x27, x28, x29, x30, x31, x32, x33, x34, x35, x36, x37, x38, x39, x40, x41, x42, x43, x44, x45, x46, x47, x48, x49, x50, x51, x52, x53, x54, x55, x56, x57, x58, x59, x60, x61], df⟩ w') : RW Try.prog (opsC 1 Try.f75) false Q ⟨#[x0, .pointer (some ⟨m, 0, none⟩), .pointer (some ⟨bf, 0, none⟩), x3, x4, x5, x6, x7, x8, x9, x10, x11, x12, x13, x14, x15, x16, x17, x18, x19, x20, x21, x22, x23, x24, x25, x26, x27, x28, x29, x30, x31, x32, x33, x34, x35, x36, x37, x38, x39, x40, x41, x42, x43, x44, x45, x46, x47, x48, x49, x50, x51, x52, x53, x54, x55, x56, x57, x58, x59, x60, x61], df⟩ w := by
  have HQ := Lib.hid hK
  clear hK
  refine rw_lin [(0, false), (1, false), (2, false), (3, false)] (by kernel_rfl) ?_
  refine wpOrdT_run (.pointer (some ⟨g, 0, none⟩)) _ (some 13) ⟨by kernel_rfl, by kernel_rfl, by kernel_rfl⟩ (of_load (x := (.tmp 1)) (by kernel_rfl) (by kernel_rfl) (load_c ((fun _ => c1) (trivial)) Try.underlying58 rfl)) (fun _ => trivial) ?_
  refine wpOrdT_run (fv) _ (some 14) ⟨by kernel_rfl, by kernel_rfl, by kernel_rfl⟩ (of_load (x := (.tmp 2)) (by kernel_rfl) (by kernel_rfl) (load_c ((fun _ => c2) (trivial)) Try.underlying32 rfl)) (fun _ => trivial) ?_
  refine wpOrdT_call (some 15) ⟨by kernel_rfl, by kernel_rfl, by kernel_rfl⟩ hC (fun _ => by kernel_rfl) ?_
  rintro r w7 ⟨rfl, m7⟩
  refine ⟨_, rfl, fun _ => trivial, ?_⟩
  refine wpOrdT_freesB [3] [.int .i64 ((p : Nat) : Int)] (rest := []) (by kernel_rfl) (by kernel_rfl) (by kernel_rfl) (.inr trivial) ?_
  exact wpOrdT_doneC (act_is (K := Q .normal) (by kernel_rfl) (HQ.out (.pointer (some ⟨g, 0, none⟩)) (fv) (.int .i64 ((p : Nat) : Int)) w7 m7))
set_option maxHeartbeats 1000000 in
theorem ris2 {w : World} {m bf g p b off n cap i pc k : Nat} {ap : Option Addr} {fv : Value} {B : Bool} (c1 : ∀ b', Mods noB w b' → b'.cell? ⟨m, 0, none⟩ = some (.pointer (some ⟨g, 0, none⟩))) (c2 : ∀ b', Mods noB w b' → b'.cell? ⟨g, 0, none⟩ = some (.slice (some ⟨b, off, none⟩) n cap)) (c3 : ∀ b', Mods noB w b' → b'.cell? ⟨b, off + p, none⟩ = some (.slice ap k pc)) (c4 : ∀ b', Mods noB w b' → b'.cell? ⟨bf, 0, none⟩ = some fv) (hp : p < n) (hC : ∀ b', Mods noB w b' → Calls Try.prog 77 #[.slice ap k pc, fv] b' fun e w' => e = .returned (.tuple #[.int .i64 (i : Nat), .bool B]) ∧ Mods noB b' w') {x0 x3 x5 x6 x7 x8 x9 x10 x11 x12 x13 x14 x15 x16 x17 x18 x19 x20 x21 x22 x23 x24 x25 x26 x27 x28 x29 x30 x31 x32 x33 x34 x35 x36 x37 x38 x39 x40 x41 x42 x43 x44 x45 x46 x47 x48 x49 x50 x51 x52 x53 x54 x55 x56 x57 x58 x59 x60 x61 : Value} {df : List Deferred} {Q : Exit → Act → World → Prop}
    (hK : ∀ (y6 y16 y17 y18 y19 y20 y21 y22 y23 y24 y25 y26 y27 : Value)  (w' : World), Mods noB w w' → Q .normal ⟨#[x0, .pointer (some ⟨m, 0, none⟩), .pointer (some ⟨bf, 0, none⟩), x3, .int .i64 ((p : Nat) : Int), .int .i64 ((i : Nat) : Int), y6, x7, x8, x9, x10, x11, x12, x13, x14, x15, y16, y17, y18, y19, y20, y21, y22, y23, y24, y25, y26, y27, x28, x29, x30, x31, x32, x33, x34, x35, x36, x37, x38, x39, x40, x41, x42, x43, x44, x45, x46, x47, x48, x49, x50, x51, x52, x53, x54, x55, x56, x57, x58, x59, x60, x61], df⟩ w') : RW Try.prog (opsC 2 Try.f75) true Q ⟨#[x0, .pointer (some ⟨m, 0, none⟩), .pointer (some ⟨bf, 0, none⟩), x3, .int .i64 ((p : Nat) : Int), x5, x6, x7, x8, x9, x10, x11, x12, x13, x14, x15, x16, x17, x18, x19, x20, x21, x22, x23, x24, x25, x26, x27, x28, x29, x30, x31, x32, x33, x34, x35, x36, x37, x38, x39, x40, x41, x42, x43, x44, x45, x46, x47, x48, x49, x50, x51, x52, x53, x54, x55, x56, x57, x58, x59, x60, x61], df⟩ w := by
  have HQ := Lib.hid hK
  clear hK
  have HC := Lib.hid hC
  have Q1 := Lib.hid c1
  have Q2 := Lib.hid c2
  have Q3 := Lib.hid c3
  have Q4 := Lib.hid c4
  clear hC c1 c2 c3 c4
  have MR := Lib.hid ((Mods.refl noB w).drew)
  refine rw_ordF (S := fun b' => Mods noB w b') [(0, true), (1, true), (2, true), (3, true), (4, true), (5, true), (6, true), (7, true), (8, false), (9, true), (10, true), (11, true), (12, true), (13, true)] [] [(0, 2, 131072), (1, 131072, 262144), (2, 262144, 524288), (4, 524288, 1048576), (0, 16, 2097152), (24, 3145728, 4194304), (32, 4194304, 8388608), (0, 4, 16777216), (192, 25165824, 33554432), (256, 33554432, 65536), (512, 65536, 67108864), (512, 65536, 134217728), (2047, 67108864, 32), (8191, 134217728, 64)] (by kernel_rfl) (by kernel_rfl) (by kernel_rfl) (by kernel_rfl) (by kernel_rfl) MR.out ?_
  refine wpOrdT_free (.pointer (some ⟨g, 0, none⟩)) (some 17) ⟨by kernel_rfl, by kernel_rfl, by kernel_rfl⟩ (fun bb hb => of_load (x := (.tmp 1)) (by kernel_rfl) (by kernel_rfl) (load_c (Q1.out _ hb) Try.underlying58 rfl)) ?_
  refine wpOrdT_frees [1, 2] [.pointer (some ⟨g, 0, none⟩), .pointer (some ⟨g, 0, none⟩)] (rest := [(3, true), (4, true), (5, true), (6, true), (7, true), (8, false), (9, true), (10, true), (11, true), (12, true), (13, true)]) (by kernel_rfl) (by kernel_rfl) (fun _ => by kernel_rfl) ?_
  refine wpOrdT_free (.slice (some ⟨b, off, none⟩) n cap) (some 20) ⟨by kernel_rfl, by kernel_rfl, by kernel_rfl⟩ (fun bb hb => of_load (x := (.tmp 19)) (by kernel_rfl) (by kernel_rfl) (load_c (Q2.out _ hb) Try.underlying82 rfl)) ?_
  refine wpOrdT_frees [4] [.int .i64 ((p : Nat) : Int)] (rest := [(5, true), (6, true), (7, true), (8, false), (9, true), (10, true), (11, true), (12, true), (13, true)]) (by kernel_rfl) (by kernel_rfl) (fun _ => by kernel_rfl) ?_
  refine wpOrdT_free (.pointer (some ⟨b, off + p, none⟩)) (some 22) ⟨by kernel_rfl, by kernel_rfl, by kernel_rfl⟩ (fun bb hb => run_idx (s := 1) (e := 85) (g := b) (off := off) (n := n) (c := cap) (i := ((p : Nat) : Int)) (x := (.tmp 20)) (y := (.tmp 21)) (off + p) (by kernel_rfl) (by kernel_rfl) (by kernel_rfl) Try.underlying82 (by kernel_rfl) (by omega) (by omega) (by omega)) ?_
  refine wpOrdT_free ((.slice ap k pc)) (some 23) ⟨by kernel_rfl, by kernel_rfl, by kernel_rfl⟩ (fun bb hb => of_load (x := (.tmp 22)) (by kernel_rfl) (by kernel_rfl) (load_c (Q3.out _ hb) Try.underlying85 rfl)) ?_
  refine wpOrdT_free (fv) (some 24) ⟨by kernel_rfl, by kernel_rfl, by kernel_rfl⟩ (fun bb hb => of_load (x := (.tmp 2)) (by kernel_rfl) (by kernel_rfl) (load_c (Q4.out _ hb) Try.underlying32 rfl)) ?_
  refine wpOrdT_call (some 25) ⟨by kernel_rfl, by kernel_rfl, by kernel_rfl⟩ (HC.out _ MR.out) (fun _ => by kernel_rfl) ?_
  rintro r w7 ⟨rfl, m7⟩
  replace MR := Lib.hid (MR.out.then0 m7)
  refine ⟨_, rfl, fun _ => MR.out, ?_⟩
  refine wpOrdT_frees [9, 10, 11, 12, 13] [.tuple #[.int .i64 ((i : Nat) : Int), .bool B], .int .i64 ((i : Nat) : Int), .bool B, .int .i64 ((i : Nat) : Int), .bool B] (rest := []) (by kernel_rfl) (by kernel_rfl) (fun _ => by kernel_rfl) ?_
  exact wpOrdT_doneC (act_is (K := Q .normal) (by kernel_rfl) (HQ.out (.bool B) (.tuple #[.int .i64 ((i : Nat) : Int), .bool B]) (.pointer (some ⟨g, 0, none⟩)) (.pointer (some ⟨g, 0, none⟩)) (.pointer (some ⟨g, 0, none⟩)) (.slice (some ⟨b, off, none⟩) n cap) (.int .i64 ((p : Nat) : Int)) (.pointer (some ⟨b, off + p, none⟩)) ((.slice ap k pc)) (fv) (.tuple #[.int .i64 ((i : Nat) : Int), .bool B]) (.int .i64 ((i : Nat) : Int)) (.bool B) _ MR.out))
set_option maxHeartbeats 1000000 in
theorem ris3t {w : World} {m g cap n p : Nat} {ao : Option Addr} (c1 : w.cell? ⟨m, 0, none⟩ = some (.pointer (some ⟨g, 0, none⟩))) (c2 : w.cell? ⟨g, 0, none⟩ = some (.slice ao n cap)) (hn : p < n) {x0 x2 x3 x5 x6 x7 x8 x9 x10 x11 x12 x13 x14 x15 x16 x17 x18 x19 x20 x21 x22 x23 x24 x25 x26 x27 x28 x29 x30 x31 x32 x33 x34 x35 x36 x37 x38 x39 x40 x41 x42 x43 x44 x45 x46 x47 x48 x49 x50 x51 x52 x53 x54 x55 x56 x57 x58 x59 x60 x61 : Value} {df : List Deferred} {Q : Exit → Act → World → Prop}
    (hK : ∀ (y28 y29 y30 y31 y32 y33 : Value)  (w' : World), w' = w → Q .normal ⟨#[x0, .pointer (some ⟨m, 0, none⟩), x2, x3, .int .i64 ((p : Nat) : Int), x5, x6, x7, x8, x9, x10, x11, x12, x13, x14, x15, x16, x17, x18, x19, x20, x21, x22, x23, x24, x25, x26, x27, y28, y29, y30, y31, y32, y33, .bool true, x35, x36, x37, x38, x39, x40, x41, x42, x43, x44, x45, x46, x47, x48, x49, x50, x51, x52, x53, x54, x55, x56, x57, x58, x59, x60, x61], df⟩ w') : RW Try.prog (opsC 3 Try.f75) false Q ⟨#[x0, .pointer (some ⟨m, 0, none⟩), x2, x3, .int .i64 ((p : Nat) : Int), x5, x6, x7, x8, x9, x10, x11, x12, x13, x14, x15, x16, x17, x18, x19, x20, x21, x22, x23, x24, x25, x26, x27, x28, x29, x30, x31, x32, x33, x34, x35, x36, x37, x38, x39, x40, x41, x42, x43, x44, x45, x46, x47, x48, x49, x50, x51, x52, x53, x54, x55, x56, x57, x58, x59, x60, x61], df⟩ w := by
  have HQ := Lib.hid hK
  clear hK
  refine rw_lin [(0, false), (1, false), (2, false), (3, false), (4, false), (5, false), (6, false)] (by kernel_rfl) ?_
  refine wpOrdT_freesB [0] [.int .i64 ((p : Nat) : Int)] (rest := [(1, false), (2, false), (3, false), (4, false), (5, false), (6, false)]) (by kernel_rfl) (by kernel_rfl) (by kernel_rfl) (.inr trivial) ?_
  refine wpOrdT_run (.pointer (some ⟨g, 0, none⟩)) _ (some 29) ⟨by kernel_rfl, by kernel_rfl, by kernel_rfl⟩ (of_load (x := (.tmp 1)) (by kernel_rfl) (by kernel_rfl) (load_c ((fun _ => c1) (trivial)) Try.underlying58 rfl)) (fun _ => trivial) ?_
  refine wpOrdT_freesB [2, 3] [.pointer (some ⟨g, 0, none⟩), .pointer (some ⟨g, 0, none⟩)] (rest := [(4, false), (5, false), (6, false)]) (by kernel_rfl) (by kernel_rfl) (by kernel_rfl) (.inr trivial) ?_
  refine wpOrdT_run ((.slice ao n cap)) _ (some 32) ⟨by kernel_rfl, by kernel_rfl, by kernel_rfl⟩ (of_load (x := (.tmp 31)) (by kernel_rfl) (by kernel_rfl) (load_c ((fun _ => c2) (trivial)) Try.underlying82 rfl)) (fun _ => trivial) ?_
  refine wpOrdT_freesB [5] [.int .i64 ((n : Nat) : Int)] (rest := [(6, false)]) (by kernel_rfl) (by kernel_rfl) (by kernel_rfl) (.inr trivial) ?_
  refine wpOrdT_run (.bool true) _ (some 34) ⟨by kernel_rfl, by kernel_rfl, by kernel_rfl⟩ (run_bin (t := 3) (t' := 3) (xv := .int .i64 ((p : Nat) : Int)) (yv := .int .i64 ((n : Nat) : Int)) (x := (.tmp 28)) (y := (.tmp 33)) (by kernel_rfl) (by kernel_rfl) (by kernel_rfl) (fun _ => by kernel_rfl) (run_lss _ (decide_eq_true (by omega)))) (fun _ => trivial) ?_
  exact wpOrdT_doneC (act_is (K := Q .normal) (by kernel_rfl) (HQ.out (.int .i64 ((p : Nat) : Int)) (.pointer (some ⟨g, 0, none⟩)) (.pointer (some ⟨g, 0, none⟩)) (.pointer (some ⟨g, 0, none⟩)) ((.slice ao n cap)) (.int .i64 ((n : Nat) : Int)) _ rfl))
set_option maxHeartbeats 1000000 in
theorem ris3f {w : World} {m g cap n p : Nat} {ao : Option Addr} (c1 : w.cell? ⟨m, 0, none⟩ = some (.pointer (some ⟨g, 0, none⟩))) (c2 : w.cell? ⟨g, 0, none⟩ = some (.slice ao n cap)) (hn : ¬ p < n) {x0 x2 x3 x5 x6 x7 x8 x9 x10 x11 x12 x13 x14 x15 x16 x17 x18 x19 x20 x21 x22 x23 x24 x25 x26 x27 x28 x29 x30 x31 x32 x33 x34 x35 x36 x37 x38 x39 x40 x41 x42 x43 x44 x45 x46 x47 x48 x49 x50 x51 x52 x53 x54 x55 x56 x57 x58 x59 x60 x61 : Value} {df : List Deferred} {Q : Exit → Act → World → Prop}
    (hK : ∀ (y28 y29 y30 y31 y32 y33 : Value)  (w' : World), w' = w → Q .normal ⟨#[x0, .pointer (some ⟨m, 0, none⟩), x2, x3, .int .i64 ((p : Nat) : Int), x5, x6, x7, x8, x9, x10, x11, x12, x13, x14, x15, x16, x17, x18, x19, x20, x21, x22, x23, x24, x25, x26, x27, y28, y29, y30, y31, y32, y33, .bool false, x35, x36, x37, x38, x39, x40, x41, x42, x43, x44, x45, x46, x47, x48, x49, x50, x51, x52, x53, x54, x55, x56, x57, x58, x59, x60, x61], df⟩ w') : RW Try.prog (opsC 3 Try.f75) false Q ⟨#[x0, .pointer (some ⟨m, 0, none⟩), x2, x3, .int .i64 ((p : Nat) : Int), x5, x6, x7, x8, x9, x10, x11, x12, x13, x14, x15, x16, x17, x18, x19, x20, x21, x22, x23, x24, x25, x26, x27, x28, x29, x30, x31, x32, x33, x34, x35, x36, x37, x38, x39, x40, x41, x42, x43, x44, x45, x46, x47, x48, x49, x50, x51, x52, x53, x54, x55, x56, x57, x58, x59, x60, x61], df⟩ w := by
  have HQ := Lib.hid hK
  clear hK
  refine rw_lin [(0, false), (1, false), (2, false), (3, false), (4, false), (5, false), (6, false)] (by kernel_rfl) ?_
  refine wpOrdT_freesB [0] [.int .i64 ((p : Nat) : Int)] (rest := [(1, false), (2, false), (3, false), (4, false), (5, false), (6, false)]) (by kernel_rfl) (by kernel_rfl) (by kernel_rfl) (.inr trivial) ?_
  refine wpOrdT_run (.pointer (some ⟨g, 0, none⟩)) _ (some 29) ⟨by kernel_rfl, by kernel_rfl, by kernel_rfl⟩ (of_load (x := (.tmp 1)) (by kernel_rfl) (by kernel_rfl) (load_c ((fun _ => c1) (trivial)) Try.underlying58 rfl)) (fun _ => trivial) ?_
  refine wpOrdT_freesB [2, 3] [.pointer (some ⟨g, 0, none⟩), .pointer (some ⟨g, 0, none⟩)] (rest := [(4, false), (5, false), (6, false)]) (by kernel_rfl) (by kernel_rfl) (by kernel_rfl) (.inr trivial) ?_
  refine wpOrdT_run ((.slice ao n cap)) _ (some 32) ⟨by kernel_rfl, by kernel_rfl, by kernel_rfl⟩ (of_load (x := (.tmp 31)) (by kernel_rfl) (by kernel_rfl) (load_c ((fun _ => c2) (trivial)) Try.underlying82 rfl)) (fun _ => trivial) ?_
  refine wpOrdT_freesB [5] [.int .i64 ((n : Nat) : Int)] (rest := [(6, false)]) (by kernel_rfl) (by kernel_rfl) (by kernel_rfl) (.inr trivial) ?_
  refine wpOrdT_run (.bool false) _ (some 34) ⟨by kernel_rfl, by kernel_rfl, by kernel_rfl⟩ (run_bin (t := 3) (t' := 3) (xv := .int .i64 ((p : Nat) : Int)) (yv := .int .i64 ((n : Nat) : Int)) (x := (.tmp 28)) (y := (.tmp 33)) (by kernel_rfl) (by kernel_rfl) (by kernel_rfl) (fun _ => by kernel_rfl) (run_lss _ (decide_eq_false (by omega)))) (fun _ => trivial) ?_
  exact wpOrdT_doneC (act_is (K := Q .normal) (by kernel_rfl) (HQ.out (.int .i64 ((p : Nat) : Int)) (.pointer (some ⟨g, 0, none⟩)) (.pointer (some ⟨g, 0, none⟩)) (.pointer (some ⟨g, 0, none⟩)) ((.slice ao n cap)) (.int .i64 ((n : Nat) : Int)) _ rfl))
set_option maxHeartbeats 1000000 in
theorem ris5t {w : World} {m g b off cap n p k i pc : Nat} {ap : Option Addr} (c1 : w.cell? ⟨m, 0, none⟩ = some (.pointer (some ⟨g, 0, none⟩))) (c2 : w.cell? ⟨g, 0, none⟩ = some (.slice (some ⟨b, off, none⟩) n cap)) (c3 : w.cell? ⟨b, off + p, none⟩ = some (.slice ap k pc)) (hp : p < n) (hn : i < k) {x0 x2 x3 x6 x7 x8 x9 x10 x11 x12 x13 x14 x15 x16 x17 x18 x19 x20 x21 x22 x23 x24 x25 x26 x27 x28 x29 x30 x31 x32 x33 x34 x35 x36 x37 x38 x39 x40 x41 x42 x43 x44 x45 x46 x47 x48 x49 x50 x51 x52 x53 x54 x55 x56 x57 x58 x59 x60 x61 : Value} {df : List Deferred} {Q : Exit → Act → World → Prop}
    (hK : ∀ (y37 y38 y39 y40 y41 y42 y43 y44 y45 : Value)  (w' : World), w' = w → Q .normal ⟨#[x0, .pointer (some ⟨m, 0, none⟩), x2, x3, .int .i64 ((p : Nat) : Int), .int .i64 ((i : Nat) : Int), x6, x7, x8, x9, x10, x11, x12, x13, x14, x15, x16, x17, x18, x19, x20, x21, x22, x23, x24, x25, x26, x27, x28, x29, x30, x31, x32, x33, x34, x35, x36, y37, y38, y39, y40, y41, y42, y43, y44, y45, .bool true, x47, x48, x49, x50, x51, x52, x53, x54, x55, x56, x57, x58, x59, x60, x61], df⟩ w') : RW Try.prog (opsC 5 Try.f75) false Q ⟨#[x0, .pointer (some ⟨m, 0, none⟩), x2, x3, .int .i64 ((p : Nat) : Int), .int .i64 ((i : Nat) : Int), x6, x7, x8, x9, x10, x11, x12, x13, x14, x15, x16, x17, x18, x19, x20, x21, x22, x23, x24, x25, x26, x27, x28, x29, x30, x31, x32, x33, x34, x35, x36, x37, x38, x39, x40, x41, x42, x43, x44, x45, x46, x47, x48, x49, x50, x51, x52, x53, x54, x55, x56, x57, x58, x59, x60, x61], df⟩ w := by
  have HQ := Lib.hid hK
  clear hK
  refine rw_lin [(0, false), (1, false), (2, false), (3, false), (4, false), (5, false), (6, false), (7, false), (8, false), (9, false)] (by kernel_rfl) ?_
  refine wpOrdT_freesB [0] [.int .i64 ((i : Nat) : Int)] (rest := [(1, false), (2, false), (3, false), (4, false), (5, false), (6, false), (7, false), (8, false), (9, false)]) (by kernel_rfl) (by kernel_rfl) (by kernel_rfl) (.inr trivial) ?_
  refine wpOrdT_run (.pointer (some ⟨g, 0, none⟩)) _ (some 38) ⟨by kernel_rfl, by kernel_rfl, by kernel_rfl⟩ (of_load (x := (.tmp 1)) (by kernel_rfl) (by kernel_rfl) (load_c ((fun _ => c1) (trivial)) Try.underlying58 rfl)) (fun _ => trivial) ?_
  refine wpOrdT_freesB [2, 3] [.pointer (some ⟨g, 0, none⟩), .pointer (some ⟨g, 0, none⟩)] (rest := [(4, false), (5, false), (6, false), (7, false), (8, false), (9, false)]) (by kernel_rfl) (by kernel_rfl) (by kernel_rfl) (.inr trivial) ?_
  refine wpOrdT_run (.slice (some ⟨b, off, none⟩) n cap) _ (some 41) ⟨by kernel_rfl, by kernel_rfl, by kernel_rfl⟩ (of_load (x := (.tmp 40)) (by kernel_rfl) (by kernel_rfl) (load_c ((fun _ => c2) (trivial)) Try.underlying82 rfl)) (fun _ => trivial) ?_
  refine wpOrdT_freesB [5] [.int .i64 ((p : Nat) : Int)] (rest := [(6, false), (7, false), (8, false), (9, false)]) (by kernel_rfl) (by kernel_rfl) (by kernel_rfl) (.inr trivial) ?_
  refine wpOrdT_run (.pointer (some ⟨b, off + p, none⟩)) _ (some 43) ⟨by kernel_rfl, by kernel_rfl, by kernel_rfl⟩ (run_idx (s := 1) (e := 85) (g := b) (off := off) (n := n) (c := cap) (i := ((p : Nat) : Int)) (x := (.tmp 41)) (y := (.tmp 42)) (off + p) (by kernel_rfl) (by kernel_rfl) (by kernel_rfl) Try.underlying82 (by kernel_rfl) (by omega) (by omega) (by omega)) (fun _ => trivial) ?_
  refine wpOrdT_run ((.slice ap k pc)) _ (some 44) ⟨by kernel_rfl, by kernel_rfl, by kernel_rfl⟩ (of_load (x := (.tmp 43)) (by kernel_rfl) (by kernel_rfl) (load_c ((fun _ => c3) (trivial)) Try.underlying85 rfl)) (fun _ => trivial) ?_
  refine wpOrdT_freesB [8] [.int .i64 ((k : Nat) : Int)] (rest := [(9, false)]) (by kernel_rfl) (by kernel_rfl) (by kernel_rfl) (.inr trivial) ?_
  refine wpOrdT_run (.bool true) _ (some 46) ⟨by kernel_rfl, by kernel_rfl, by kernel_rfl⟩ (run_bin (t := 3) (t' := 3) (xv := .int .i64 ((i : Nat) : Int)) (yv := .int .i64 ((k : Nat) : Int)) (x := (.tmp 37)) (y := (.tmp 45)) (by kernel_rfl) (by kernel_rfl) (by kernel_rfl) (fun _ => by kernel_rfl) (run_lss _ (decide_eq_true (by omega)))) (fun _ => trivial) ?_
  exact wpOrdT_doneC (act_is (K := Q .normal) (by kernel_rfl) (HQ.out (.int .i64 ((i : Nat) : Int)) (.pointer (some ⟨g, 0, none⟩)) (.pointer (some ⟨g, 0, none⟩)) (.pointer (some ⟨g, 0, none⟩)) (.slice (some ⟨b, off, none⟩) n cap) (.int .i64 ((p : Nat) : Int)) (.pointer (some ⟨b, off + p, none⟩)) ((.slice ap k pc)) (.int .i64 ((k : Nat) : Int)) _ rfl))
set_option maxHeartbeats 1000000 in
theorem ris5f {w : World} {m g b off cap n p k i pc : Nat} {ap : Option Addr} (c1 : w.cell? ⟨m, 0, none⟩ = some (.pointer (some ⟨g, 0, none⟩))) (c2 : w.cell? ⟨g, 0, none⟩ = some (.slice (some ⟨b, off, none⟩) n cap)) (c3 : w.cell? ⟨b, off + p, none⟩ = some (.slice ap k pc)) (hp : p < n) (hn : ¬ i < k) {x0 x2 x3 x6 x7 x8 x9 x10 x11 x12 x13 x14 x15 x16 x17 x18 x19 x20 x21 x22 x23 x24 x25 x26 x27 x28 x29 x30 x31 x32 x33 x34 x35 x36 x37 x38 x39 x40 x41 x42 x43 x44 x45 x46 x47 x48 x49 x50 x51 x52 x53 x54 x55 x56 x57 x58 x59 x60 x61 : Value} {df : List Deferred} {Q : Exit → Act → World → Prop}
    (hK : ∀ (y37 y38 y39 y40 y41 y42 y43 y44 y45 : Value)  (w' : World), w' = w → Q .normal ⟨#[x0, .pointer (some ⟨m, 0, none⟩), x2, x3, .int .i64 ((p : Nat) : Int), .int .i64 ((i : Nat) : Int), x6, x7, x8, x9, x10, x11, x12, x13, x14, x15, x16, x17, x18, x19, x20, x21, x22, x23, x24, x25, x26, x27, x28, x29, x30, x31, x32, x33, x34, x35, x36, y37, y38, y39, y40, y41, y42, y43, y44, y45, .bool false, x47, x48, x49, x50, x51, x52, x53, x54, x55, x56, x57, x58, x59, x60, x61], df⟩ w') : RW Try.prog (opsC 5 Try.f75) false Q ⟨#[x0, .pointer (some ⟨m, 0, none⟩), x2, x3, .int .i64 ((p : Nat) : Int), .int .i64 ((i : Nat) : Int), x6, x7, x8, x9, x10, x11, x12, x13, x14, x15, x16, x17, x18, x19, x20, x21, x22, x23, x24, x25, x26, x27, x28, x29, x30, x31, x32, x33, x34, x35, x36, x37, x38, x39, x40, x41, x42, x43, x44, x45, x46, x47, x48, x49, x50, x51, x52, x53, x54, x55, x56, x57, x58, x59, x60, x61], df⟩ w := by
  have HQ := Lib.hid hK
  clear hK
  refine rw_lin [(0, false), (1, false), (2, false), (3, false), (4, false), (5, false), (6, false), (7, false), (8, false), (9, false)] (by kernel_rfl) ?_
  refine wpOrdT_freesB [0] [.int .i64 ((i : Nat) : Int)] (rest := [(1, false), (2, false), (3, false), (4, false), (5, false), (6, false), (7, false), (8, false), (9, false)]) (by kernel_rfl) (by kernel_rfl) (by kernel_rfl) (.inr trivial) ?_
  refine wpOrdT_run (.pointer (some ⟨g, 0, none⟩)) _ (some 38) ⟨by kernel_rfl, by kernel_rfl, by kernel_rfl⟩ (of_load (x := (.tmp 1)) (by kernel_rfl) (by kernel_rfl) (load_c ((fun _ => c1) (trivial)) Try.underlying58 rfl)) (fun _ => trivial) ?_
  refine wpOrdT_freesB [2, 3] [.pointer (some ⟨g, 0, none⟩), .pointer (some ⟨g, 0, none⟩)] (rest := [(4, false), (5, false), (6, false), (7, false), (8, false), (9, false)]) (by kernel_rfl) (by kernel_rfl) (by kernel_rfl) (.inr trivial) ?_
  refine wpOrdT_run (.slice (some ⟨b, off, none⟩) n cap) _ (some 41) ⟨by kernel_rfl, by kernel_rfl, by kernel_rfl⟩ (of_load (x := (.tmp 40)) (by kernel_rfl) (by kernel_rfl) (load_c ((fun _ => c2) (trivial)) Try.underlying82 rfl)) (fun _ => trivial) ?_
  refine wpOrdT_freesB [5] [.int .i64 ((p : Nat) : Int)] (rest := [(6, false), (7, false), (8, false), (9, false)]) (by kernel_rfl) (by kernel_rfl) (by kernel_rfl) (.inr trivial) ?_
  refine wpOrdT_run (.pointer (some ⟨b, off + p, none⟩)) _ (some 43) ⟨by kernel_rfl, by kernel_rfl, by kernel_rfl⟩ (run_idx (s := 1) (e := 85) (g := b) (off := off) (n := n) (c := cap) (i := ((p : Nat) : Int)) (x := (.tmp 41)) (y := (.tmp 42)) (off + p) (by kernel_rfl) (by kernel_rfl) (by kernel_rfl) Try.underlying82 (by kernel_rfl) (by omega) (by omega) (by omega)) (fun _ => trivial) ?_
  refine wpOrdT_run ((.slice ap k pc)) _ (some 44) ⟨by kernel_rfl, by kernel_rfl, by kernel_rfl⟩ (of_load (x := (.tmp 43)) (by kernel_rfl) (by kernel_rfl) (load_c ((fun _ => c3) (trivial)) Try.underlying85 rfl)) (fun _ => trivial) ?_
  refine wpOrdT_freesB [8] [.int .i64 ((k : Nat) : Int)] (rest := [(9, false)]) (by kernel_rfl) (by kernel_rfl) (by kernel_rfl) (.inr trivial) ?_
  refine wpOrdT_run (.bool false) _ (some 46) ⟨by kernel_rfl, by kernel_rfl, by kernel_rfl⟩ (run_bin (t := 3) (t' := 3) (xv := .int .i64 ((i : Nat) : Int)) (yv := .int .i64 ((k : Nat) : Int)) (x := (.tmp 37)) (y := (.tmp 45)) (by kernel_rfl) (by kernel_rfl) (by kernel_rfl) (fun _ => by kernel_rfl) (run_lss _ (decide_eq_false (by omega)))) (fun _ => trivial) ?_
  exact wpOrdT_doneC (act_is (K := Q .normal) (by kernel_rfl) (HQ.out (.int .i64 ((i : Nat) : Int)) (.pointer (some ⟨g, 0, none⟩)) (.pointer (some ⟨g, 0, none⟩)) (.pointer (some ⟨g, 0, none⟩)) (.slice (some ⟨b, off, none⟩) n cap) (.int .i64 ((p : Nat) : Int)) (.pointer (some ⟨b, off + p, none⟩)) ((.slice ap k pc)) (.int .i64 ((k : Nat) : Int)) _ rfl))
set_option maxHeartbeats 1000000 in
theorem ris7 {w : World} {l m g b off cap n p k i pb po pc : Nat} {u v : Value} (c1 : w.cell? ⟨m, 0, none⟩ = some (.pointer (some ⟨g, 0, none⟩))) (c2 : w.cell? ⟨g, 0, none⟩ = some (.slice (some ⟨b, off, none⟩) n cap)) (c3 : w.cell? ⟨b, off + p, none⟩ = some (.slice (some ⟨pb, po, none⟩) k pc)) (c4 : w.cell? ⟨pb, po + i * 2, none⟩ = some u) (c5 : w.cell? ⟨pb, po + i * 2 + 1, none⟩ = some v) (hp : p < n) (hi : i < k) {x2 x3 x6 x7 x8 x9 x10 x11 x12 x13 x14 x15 x16 x17 x18 x19 x20 x21 x22 x23 x24 x25 x26 x27 x28 x29 x30 x31 x32 x33 x34 x35 x36 x37 x38 x39 x40 x41 x42 x43 x44 x45 x46 x47 x48 x49 x50 x51 x52 x53 x54 x55 x56 x57 x58 x59 x60 x61 : Value} {df : List Deferred} {Q : Exit → Act → World → Prop}
    (hK : ∀ (y50 y51 y52 y53 y54 y55 y56 y57 y58 : Value)  (w' : World), w' = w → Q .normal ⟨#[.func (.yield l) #[] #[], .pointer (some ⟨m, 0, none⟩), x2, x3, .int .i64 ((p : Nat) : Int), .int .i64 ((i : Nat) : Int), x6, x7, x8, x9, x10, x11, x12, x13, x14, x15, x16, x17, x18, x19, x20, x21, x22, x23, x24, x25, x26, x27, x28, x29, x30, x31, x32, x33, x34, x35, x36, x37, x38, x39, x40, x41, x42, x43, x44, x45, x46, x47, x48, .func (.yield l) #[] #[], y50, y51, y52, y53, y54, y55, y56, y57, y58, .agg #[u, v], x60, x61], df⟩ w') : RW Try.prog ((opsC 7 Try.f75).toList.take 11).toArray false Q ⟨#[.func (.yield l) #[] #[], .pointer (some ⟨m, 0, none⟩), x2, x3, .int .i64 ((p : Nat) : Int), .int .i64 ((i : Nat) : Int), x6, x7, x8, x9, x10, x11, x12, x13, x14, x15, x16, x17, x18, x19, x20, x21, x22, x23, x24, x25, x26, x27, x28, x29, x30, x31, x32, x33, x34, x35, x36, x37, x38, x39, x40, x41, x42, x43, x44, x45, x46, x47, x48, x49, x50, x51, x52, x53, x54, x55, x56, x57, x58, x59, x60, x61], df⟩ w := by
  have HQ := Lib.hid hK
  clear hK
  refine rw_lin [(0, false), (1, false), (2, false), (3, false), (4, false), (5, false), (6, false), (7, false), (8, false), (9, false), (10, false)] (by kernel_rfl) ?_
  refine wpOrdT_freesB [0] [.func (.yield l) #[] #[]] (rest := [(1, false), (2, false), (3, false), (4, false), (5, false), (6, false), (7, false), (8, false), (9, false), (10, false)]) (by kernel_rfl) (by kernel_rfl) (by kernel_rfl) (.inr trivial) ?_
  refine wpOrdT_run (.pointer (some ⟨g, 0, none⟩)) _ (some 50) ⟨by kernel_rfl, by kernel_rfl, by kernel_rfl⟩ (of_load (x := (.tmp 1)) (by kernel_rfl) (by kernel_rfl) (load_c ((fun _ => c1) (trivial)) Try.underlying58 rfl)) (fun _ => trivial) ?_
  refine wpOrdT_freesB [2, 3] [.pointer (some ⟨g, 0, none⟩), .pointer (some ⟨g, 0, none⟩)] (rest := [(4, false), (5, false), (6, false), (7, false), (8, false), (9, false), (10, false)]) (by kernel_rfl) (by kernel_rfl) (by kernel_rfl) (.inr trivial) ?_
  refine wpOrdT_run (.slice (some ⟨b, off, none⟩) n cap) _ (some 53) ⟨by kernel_rfl, by kernel_rfl, by kernel_rfl⟩ (of_load (x := (.tmp 52)) (by kernel_rfl) (by kernel_rfl) (load_c ((fun _ => c2) (trivial)) Try.underlying82 rfl)) (fun _ => trivial) ?_
  refine wpOrdT_freesB [5] [.int .i64 ((p : Nat) : Int)] (rest := [(6, false), (7, false), (8, false), (9, false), (10, false)]) (by kernel_rfl) (by kernel_rfl) (by kernel_rfl) (.inr trivial) ?_
  refine wpOrdT_run (.pointer (some ⟨b, off + p, none⟩)) _ (some 55) ⟨by kernel_rfl, by kernel_rfl, by kernel_rfl⟩ (run_idx (s := 1) (e := 85) (g := b) (off := off) (n := n) (c := cap) (i := ((p : Nat) : Int)) (x := (.tmp 53)) (y := (.tmp 54)) (off + p) (by kernel_rfl) (by kernel_rfl) (by kernel_rfl) Try.underlying82 (by kernel_rfl) (by omega) (by omega) (by omega)) (fun _ => trivial) ?_
  refine wpOrdT_run (.slice (some ⟨pb, po, none⟩) k pc) _ (some 56) ⟨by kernel_rfl, by kernel_rfl, by kernel_rfl⟩ (of_load (x := (.tmp 55)) (by kernel_rfl) (by kernel_rfl) (load_c ((fun _ => c3) (trivial)) Try.underlying85 rfl)) (fun _ => trivial) ?_
  refine wpOrdT_freesB [8] [.int .i64 ((i : Nat) : Int)] (rest := [(9, false), (10, false)]) (by kernel_rfl) (by kernel_rfl) (by kernel_rfl) (.inr trivial) ?_
  refine wpOrdT_run (.pointer (some ⟨pb, po + i * 2, none⟩)) _ (some 58) ⟨by kernel_rfl, by kernel_rfl, by kernel_rfl⟩ (run_idx (s := 2) (e := 88) (g := pb) (off := po) (n := k) (c := pc) (i := ((i : Nat) : Int)) (x := (.tmp 56)) (y := (.tmp 57)) (po + i * 2) (by kernel_rfl) (by kernel_rfl) (by kernel_rfl) Try.underlying85 (by kernel_rfl) (by omega) (by omega) (by omega)) (fun _ => trivial) ?_
  refine wpOrdT_run (.agg #[u, v]) _ (some 59) ⟨by kernel_rfl, by kernel_rfl, by kernel_rfl⟩ (of_load (x := (.tmp 58)) (by kernel_rfl) (by kernel_rfl) (load_a [u, v] ((fun _ => two_cells c4 c5) (trivial)) Try.underlying88 rfl (by kernel_rfl))) (fun _ => trivial) ?_
  exact wpOrdT_doneC (act_is (K := Q .normal) (by kernel_rfl) (HQ.out (.pointer (some ⟨g, 0, none⟩)) (.pointer (some ⟨g, 0, none⟩)) (.pointer (some ⟨g, 0, none⟩)) (.slice (some ⟨b, off, none⟩) n cap) (.int .i64 ((p : Nat) : Int)) (.pointer (some ⟨b, off + p, none⟩)) (.slice (some ⟨pb, po, none⟩) k pc) (.int .i64 ((i : Nat) : Int)) (.pointer (some ⟨pb, po + i * 2, none⟩)) _ rfl))
set_option maxHeartbeats 1000000 in
theorem ris6 {w : World} {i : Nat} (hi : i ≤ 1000000000) {x0 x1 x2 x3 x4 x6 x7 x8 x9 x10 x11 x12 x13 x14 x15 x16 x17 x18 x19 x20 x21 x22 x23 x24 x25 x26 x27 x28 x29 x30 x31 x32 x33 x34 x35 x36 x37 x38 x39 x40 x41 x42 x43 x44 x45 x46 x47 x48 x49 x50 x51 x52 x53 x54 x55 x56 x57 x58 x59 x60 x61 : Value} {df : List Deferred} {Q : Exit → Act → World → Prop}
    (hK : ∀ (y47 y48 : Value)  (w' : World), w' = w → Q .normal ⟨#[x0, x1, x2, x3, x4, .int .i64 (((i + 1) : Nat) : Int), x6, x7, x8, x9, x10, x11, x12, x13, x14, x15, x16, x17, x18, x19, x20, x21, x22, x23, x24, x25, x26, x27, x28, x29, x30, x31, x32, x33, x34, x35, x36, x37, x38, x39, x40, x41, x42, x43, x44, x45, x46, y47, y48, x49, x50, x51, x52, x53, x54, x55, x56, x57, x58, x59, x60, x61], df⟩ w') : RW Try.prog (opsC 6 Try.f75) false Q ⟨#[x0, x1, x2, x3, x4, .int .i64 ((i : Nat) : Int), x6, x7, x8, x9, x10, x11, x12, x13, x14, x15, x16, x17, x18, x19, x20, x21, x22, x23, x24, x25, x26, x27, x28, x29, x30, x31, x32, x33, x34, x35, x36, x37, x38, x39, x40, x41, x42, x43, x44, x45, x46, x47, x48, x49, x50, x51, x52, x53, x54, x55, x56, x57, x58, x59, x60, x61], df⟩ w := by
  have HQ := Lib.hid hK
  clear hK
  refine rw_lin [(0, false), (1, false), (2, false)] (by kernel_rfl) ?_
  refine wpOrdT_freesB [0] [.int .i64 ((i : Nat) : Int)] (rest := [(1, false), (2, false)]) (by kernel_rfl) (by kernel_rfl) (by kernel_rfl) (.inr trivial) ?_
  refine wpOrdT_run (.int .i64 (((i + 1) : Nat) : Int)) _ (some 48) ⟨by kernel_rfl, by kernel_rfl, by kernel_rfl⟩ (run_bin (t := 3) (t' := 3) (xv := .int .i64 ((i : Nat) : Int)) (yv := .int .i64 1) (x := (.tmp 47)) (y := (.const (.int .i64 1))) (by kernel_rfl) (by kernel_rfl) (by kernel_rfl) (fun _ => by kernel_rfl) (run_addI _ (by omega) (by omega) (by omega))) (fun _ => trivial) ?_
  refine wpOrdT_freesB [2] [.int .i64 (((i + 1) : Nat) : Int)] (rest := []) (by kernel_rfl) (by kernel_rfl) (by kernel_rfl) (.inr trivial) ?_
  exact wpOrdT_doneC (act_is (K := Q .normal) (by kernel_rfl) (HQ.out (.int .i64 ((i : Nat) : Int)) (.int .i64 (((i + 1) : Nat) : Int)) _ rfl))
set_option maxHeartbeats 1000000 in
theorem ris4 {w : World} {p : Nat} (hi : p ≤ 1000000000) {x0 x1 x2 x3 x5 x6 x7 x8 x9 x10 x11 x12 x13 x14 x15 x16 x17 x18 x19 x20 x21 x22 x23 x24 x25 x26 x27 x28 x29 x30 x31 x32 x33 x34 x35 x36 x37 x38 x39 x40 x41 x42 x43 x44 x45 x46 x47 x48 x49 x50 x51 x52 x53 x54 x55 x56 x57 x58 x59 x60 x61 : Value} {df : List Deferred} {Q : Exit → Act → World → Prop}
    (hK : ∀ (y35 y36 : Value)  (w' : World), w' = w → Q .normal ⟨#[x0, x1, x2, x3, .int .i64 (((p + 1) : Nat) : Int), .int .i64 0, x6, x7, x8, x9, x10, x11, x12, x13, x14, x15, x16, x17, x18, x19, x20, x21, x22, x23, x24, x25, x26, x27, x28, x29, x30, x31, x32, x33, x34, y35, y36, x37, x38, x39, x40, x41, x42, x43, x44, x45, x46, x47, x48, x49, x50, x51, x52, x53, x54, x55, x56, x57, x58, x59, x60, x61], df⟩ w') : RW Try.prog (opsC 4 Try.f75) false Q ⟨#[x0, x1, x2, x3, .int .i64 ((p : Nat) : Int), x5, x6, x7, x8, x9, x10, x11, x12, x13, x14, x15, x16, x17, x18, x19, x20, x21, x22, x23, x24, x25, x26, x27, x28, x29, x30, x31, x32, x33, x34, x35, x36, x37, x38, x39, x40, x41, x42, x43, x44, x45, x46, x47, x48, x49, x50, x51, x52, x53, x54, x55, x56, x57, x58, x59, x60, x61], df⟩ w := by
  have HQ := Lib.hid hK
  clear hK
  refine rw_lin [(0, false), (1, false), (2, false), (3, false)] (by kernel_rfl) ?_
  refine wpOrdT_freesB [0] [.int .i64 ((p : Nat) : Int)] (rest := [(1, false), (2, false), (3, false)]) (by kernel_rfl) (by kernel_rfl) (by kernel_rfl) (.inr trivial) ?_
  refine wpOrdT_run (.int .i64 (((p + 1) : Nat) : Int)) _ (some 36) ⟨by kernel_rfl, by kernel_rfl, by kernel_rfl⟩ (run_bin (t := 3) (t' := 3) (xv := .int .i64 ((p : Nat) : Int)) (yv := .int .i64 1) (x := (.tmp 35)) (y := (.const (.int .i64 1))) (by kernel_rfl) (by kernel_rfl) (by kernel_rfl) (fun _ => by kernel_rfl) (run_addI _ (by omega) (by omega) (by omega))) (fun _ => trivial) ?_
  refine wpOrdT_freesB [2, 3] [.int .i64 (((p + 1) : Nat) : Int), .int .i64 0] (rest := []) (by kernel_rfl) (by kernel_rfl) (by kernel_rfl) (.inr trivial) ?_
  exact wpOrdT_doneC (act_is (K := Q .normal) (by kernel_rfl) (HQ.out (.int .i64 ((p : Nat) : Int)) (.int .i64 (((p + 1) : Nat) : Int)) _ rfl))
set_option maxHeartbeats 1000000 in
theorem wk0 {w : World} {l : Nat} {x1 x2 x3 x4 x5 x6 x7 x8 x9 x10 x11 x12 x13 x14 x15 x16 x17 x18 x19 x20 x21 x22 x23 x24 x25 x26 x27 x28 x29 x30 : Value} {df : List Deferred} {Q : Exit → Act → World → Prop}
    (hK : ∀ (bq : Nat) (w' : World), bq = w.heap.size → w'.heap[bq]? = some (.cells #[.func (.yield l) #[] #[]] 46) → Mods noB w w' → Q .normal ⟨#[.func (.yield l) #[] #[], x1, x2, x3, .pointer (some ⟨bq, 0, none⟩), x5, x6, x7, x8, x9, x10, x11, x12, x13, x14, x15, x16, x17, x18, x19, x20, x21, x22, x23, x24, x25, x26, x27, x28, x29, x30], df⟩ w') : RW Try.prog (opsC 0 Try.f60) false Q ⟨#[.func (.yield l) #[] #[], x1, x2, x3, x4, x5, x6, x7, x8, x9, x10, x11, x12, x13, x14, x15, x16, x17, x18, x19, x20, x21, x22, x23, x24, x25, x26, x27, x28, x29, x30], df⟩ w := by
  have HQ := Lib.hid hK
  clear hK
  refine rw_lin [(0, false)] (by kernel_rfl) ?_
  refine wpOrdT_alloc (.cells #[.func (.yield l) #[] #[]] 46) (some 4) ⟨by kernel_rfl, by kernel_rfl, by kernel_rfl⟩ (by kernel_rfl) ?_
  intro k1 w_k1 hk_k1 hO_k1 hm_k1 hl_k1
  refine ⟨fun _ => trivial, ?_⟩
  exact wpOrdT_doneC (act_is (K := Q .normal) (by kernel_rfl) (HQ.out  k1 w_k1 hk_k1 hO_k1 hm_k1))
set_option maxHeartbeats 1000000 in
theorem wk1 {w : World} {m bf g : Nat} {fv : Value} {X : Nat → Nat → World → Prop} (c1 : w.cell? ⟨m, 0, none⟩ = some (.pointer (some ⟨g, 0, none⟩))) (c2 : w.cell? ⟨bf, 0, none⟩ = some fv) (hC : Calls Try.prog 61 #[.pointer (some ⟨g, 0, none⟩), fv] w fun e w' => ∃ ma bf : Nat, e = .returned (.func (.func 75) #[] #[.pointer (some ⟨ma, 0, none⟩), .pointer (some ⟨bf, 0, none⟩)]) ∧ X ma bf w') {x0 x3 x4 x5 x6 x7 x8 x9 x10 x11 x12 x13 x14 x15 x16 x17 x18 x19 x20 x21 x22 x23 x24 x25 x26 x27 x28 x29 x30 : Value} {df : List Deferred} {Q : Exit → Act → World → Prop}
    (hK : ∀ (y6 y7 : Value) (ma bq : Nat) (w' : World), X ma bq w' → Q .normal ⟨#[x0, .pointer (some ⟨m, 0, none⟩), .pointer (some ⟨bf, 0, none⟩), x3, x4, x5, y6, y7, .func (.func 75) #[] #[.pointer (some ⟨ma, 0, none⟩), .pointer (some ⟨bq, 0, none⟩)], x9, x10, x11, x12, x13, x14, x15, x16, x17, x18, x19, x20, x21, x22, x23, x24, x25, x26, x27, x28, x29, x30], df⟩ w') : RW Try.prog (opsC 1 Try.f60) false Q ⟨#[x0, .pointer (some ⟨m, 0, none⟩), .pointer (some ⟨bf, 0, none⟩), x3, x4, x5, x6, x7, x8, x9, x10, x11, x12, x13, x14, x15, x16, x17, x18, x19, x20, x21, x22, x23, x24, x25, x26, x27, x28, x29, x30], df⟩ w := by
  have HQ := Lib.hid hK
  clear hK
  refine rw_lin [(0, false), (1, false), (2, false)] (by kernel_rfl) ?_
  refine wpOrdT_run (.pointer (some ⟨g, 0, none⟩)) _ (some 6) ⟨by kernel_rfl, by kernel_rfl, by kernel_rfl⟩ (of_load (x := (.tmp 1)) (by kernel_rfl) (by kernel_rfl) (load_c ((fun _ => c1) (trivial)) Try.underlying58 rfl)) (fun _ => trivial) ?_
  refine wpOrdT_run (fv) _ (some 7) ⟨by kernel_rfl, by kernel_rfl, by kernel_rfl⟩ (of_load (x := (.tmp 2)) (by kernel_rfl) (by kernel_rfl) (load_c ((fun _ => c2) (trivial)) Try.underlying32 rfl)) (fun _ => trivial) ?_
  refine wpOrdT_call (some 8) ⟨by kernel_rfl, by kernel_rfl, by kernel_rfl⟩ hC (fun _ => by kernel_rfl) ?_
  rintro r w7 ⟨ma, bf, rfl, hh⟩
  refine ⟨_, rfl, fun _ => trivial, ?_⟩
  exact wpOrdT_doneC (act_is (K := Q .normal) (by kernel_rfl) (HQ.out (.pointer (some ⟨g, 0, none⟩)) (fv) ma bf w7 hh))
set_option maxHeartbeats 1000000 in
theorem wk2 {w : World} {u v : Value} (hu : u.oneCell' = true) (hv : v.oneCell' = true) {x0 x1 x2 x3 x4 x5 x6 x7 x8 x10 x11 x12 x13 x14 x15 x16 x17 x18 x19 x20 x21 x22 x23 x24 x25 x26 x27 x28 x29 x30 : Value} {df : List Deferred} {Q : Exit → Act → World → Prop}
    (hK : ∀ (bq : Nat) (w' : World), w.heap.size ≤ bq → w'.heap[bq]? = some (.cells #[u, v] 88 (0, 0)) → Mods noB w w' → Q .normal ⟨#[x0, x1, x2, x3, x4, .pointer (some ⟨bq, 0, none⟩), x6, x7, x8, .agg #[u, v], x10, x11, x12, x13, x14, x15, x16, x17, x18, x19, x20, x21, x22, x23, x24, x25, x26, x27, x28, x29, x30], df⟩ w') : RW Try.prog (opsC 2 Try.f60) false Q ⟨#[x0, x1, x2, x3, x4, x5, x6, x7, x8, .agg #[u, v], x10, x11, x12, x13, x14, x15, x16, x17, x18, x19, x20, x21, x22, x23, x24, x25, x26, x27, x28, x29, x30], df⟩ w := by
  have HQ := Lib.hid hK
  clear hK
  refine rw_lin [(0, false), (1, false)] (by kernel_rfl) ?_
  refine wpOrdT_alloc (.cells #[.slice none 0 0, .slice none 0 0] 88) (some 5) ⟨by kernel_rfl, by kernel_rfl, by kernel_rfl⟩ (by kernel_rfl) ?_
  intro k1 w_k1 hk_k1 hO_k1 hm_k1 hl_k1
  refine ⟨fun _ => trivial, ?_⟩
  refine wpOrdT_store (off := 0) (ty := 88) (x := (.tmp 5)) (y := (.tmp 9)) (cells := #[u, v]) #[u, v] none ⟨by kernel_rfl, by kernel_rfl, by kernel_rfl⟩ (by kernel_rfl) (by kernel_rfl) (by kernel_rfl) hO_k1 (by kernel_rfl) (by kernel_rfl) (by simp [hu, hv]) (by kernel_rfl) ?_
  intro w9 hO9 hm9 hs9
  refine ⟨fun _ => trivial, ?_⟩
  have hM := hm_k1.trans hm9 (U := noB) (fun _ _ x => x) (fun i hi e => by omega)
  exact wpOrdT_doneC (act_is (K := Q .normal) (by kernel_rfl) (HQ.out  k1 w9 (Nat.le_of_eq hk_k1.symm) hO9 hM))
set_option maxHeartbeats 1000000 in
theorem wk3s {w : World} {l x bt by1 : Nat} {at1 : Option Addr} {ct : Nat} {u v : Value} {ks vs ts : List UInt8} (q1 : w.heap[x]? = some (.cells #[u, v] 88 (0, 0))) (q2 : w.cell? ⟨bt, 0, none⟩ = some (.slice at1 ts.length ct)) (q3 : bt < w.heap.size) (hu : Rd w u ks) (hv : Rd w v vs) (ht : Rd w (.slice at1 ts.length ct) ts) (lk : ks.length ≤ 1000000) (lv : vs.length ≤ 1000000) (h1 : ts ≠ []) (h2 : 0 ≤ Lib.compareBytes ks ts) {x0 x1 x2 x6 x7 x8 x9 x10 x11 x12 x13 x14 x15 x16 x17 x18 x19 x20 x21 x22 x23 x24 x25 x26 x27 x28 x29 x30 : Value} {df : List Deferred} {Q : Exit → Act → World → Prop}
    (hK : ∀ (y10 y11 y12 y13 y14 y15 y16 y17 y18 y19 y20 y21 y22 y23 y24 y25 y26 y27 y28 y29 : Value)  (w' : World), Mods noB w w' → Q .normal ⟨#[x0, x1, x2, .pointer (some ⟨bt, 0, none⟩), .pointer (some ⟨by1, 0, none⟩), .pointer (some ⟨x, 0, none⟩), x6, x7, x8, x9, y10, y11, y12, y13, y14, y15, y16, y17, y18, y19, y20, y21, y22, y23, y24, y25, y26, y27, y28, y29, .bool true], df⟩ w') : RW Try.prog (opsC 3 Try.f60) true Q ⟨#[x0, x1, x2, .pointer (some ⟨bt, 0, none⟩), .pointer (some ⟨by1, 0, none⟩), .pointer (some ⟨x, 0, none⟩), x6, x7, x8, x9, x10, x11, x12, x13, x14, x15, x16, x17, x18, x19, x20, x21, x22, x23, x24, x25, x26, x27, x28, x29, x30], df⟩ w := by
  have HQ := Lib.hid hK
  clear hK
  have L1 : 0 < ts.length := List.length_pos_iff.2 h1
  have HU := Lib.hid hu
  have HV := Lib.hid hv
  have HT := Lib.hid ht
  have MR := Lib.hid ((Mods.refl noB w).drew)
  have Q1 := Lib.hid (fun b' (hm : Mods noB w b') => show b'.cell? ⟨x, 0, none⟩ = some u from cells_of (hm.heap q1 (fun x => x)) 0)
  have Q6 := Lib.hid (fun b' (hm : Mods noB w b') => show b'.cell? ⟨x, 1, none⟩ = some v from cells_of (hm.heap q1 (fun x => x)) 1)
  have Q2 := Lib.hid (fun b' (hm : Mods noB w b') => show b'.cell? ⟨bt, 0, none⟩ = some (.slice at1 ts.length ct) from (hm.cellAt q3 (fun x => x) 0).trans q2)
  clear hu hv ht q1 q2 q3
  refine rw_ordF (S := fun b' => Mods noB w b') [(0, true), (1, true), (2, true), (3, true), (4, true), (5, true), (6, true), (7, false), (8, true), (9, true), (10, true), (11, true), (12, true), (13, true), (15, true), (16, true), (14, false), (17, false), (18, false), (19, true), (20, true)] [] [(0, 8, 1024), (1, 1024, 2048), (2, 2048, 4096), (4, 4096, 8192), (8, 8224, 16384), (24, 24576, 32768), (8, 8200, 65536), (104, 106496, 131072), (136, 139264, 262144), (264, 270336, 524288), (640, 524288, 1048576), (1024, 1048592, 2097152), (1024, 1048608, 4194304), (5120, 5242880, 8388608), (9216, 9437184, 16777216), (1024, 1048608, 33554432), (33792, 34603008, 67108864), (82944, 68157440, 134217728), (150528, 154140672, 268435456), (263168, 269484032, 536870912), (525312, 537919488, 1073741824)] (by kernel_rfl) (by kernel_rfl) (by kernel_rfl) (by kernel_rfl) (by kernel_rfl) MR.out ?_
  refine wpOrdT_free ((.slice at1 ts.length ct)) (some 10) ⟨by kernel_rfl, by kernel_rfl, by kernel_rfl⟩ (fun bb hb => of_load (x := (.tmp 3)) (by kernel_rfl) (by kernel_rfl) (load_c (Q2.out _ hb) Try.underlying32 rfl)) ?_
  refine wpOrdT_frees [1] [.int .i64 ((ts.length : Nat) : Int)] (rest := [(2, true), (3, true), (4, true), (5, true), (6, true), (7, false), (8, true), (9, true), (10, true), (11, true), (12, true), (13, true), (15, true), (16, true), (14, false), (17, false), (18, false), (19, true), (20, true)]) (by kernel_rfl) (by kernel_rfl) (fun _ => by kernel_rfl) ?_
  refine wpOrdT_free (.bool true) (some 12) ⟨by kernel_rfl, by kernel_rfl, by kernel_rfl⟩ (fun bb hb => run_bin (t := 3) (t' := 3) (xv := .int .i64 ((ts.length : Nat) : Int)) (yv := .int .i64 0) (x := (.tmp 11)) (y := (.const (.int .i64 0))) (by kernel_rfl) (by kernel_rfl) (by kernel_rfl) (fun _ => by kernel_rfl) (run_gtr _ (decide_eq_true (by omega)))) ?_
  refine wpOrdT_frees [3, 4] [.bool true, .pointer (some ⟨x, 0, none⟩)] (rest := [(5, true), (6, true), (7, false), (8, true), (9, true), (10, true), (11, true), (12, true), (13, true), (15, true), (16, true), (14, false), (17, false), (18, false), (19, true), (20, true)]) (by kernel_rfl) (by kernel_rfl) (fun _ => by kernel_rfl) ?_
  refine wpOrdT_free (u) (some 15) ⟨by kernel_rfl, by kernel_rfl, by kernel_rfl⟩ (fun bb hb => of_load (x := (.tmp 14)) (by kernel_rfl) (by kernel_rfl) (load_c (Q1.out _ hb) Try.underlying32 rfl)) ?_
  refine wpOrdT_free ((.slice at1 ts.length ct)) (some 16) ⟨by kernel_rfl, by kernel_rfl, by kernel_rfl⟩ (fun bb hb => of_load (x := (.tmp 3)) (by kernel_rfl) (by kernel_rfl) (load_c (Q2.out _ hb) Try.underlying32 rfl)) ?_
  refine wpOrdT_call (some 17) ⟨by kernel_rfl, by kernel_rfl, by kernel_rfl⟩ (Compare_any (HU.out.keep MR.out (fun _ _ x => x)) (HT.out.keep MR.out (fun _ _ x => x))) (fun _ => by kernel_rfl) ?_
  rintro r wc ⟨rfl, rfl⟩
  refine ⟨_, rfl, fun _ => MR.out, ?_⟩
  refine wpOrdT_free (.bool true) (some 18) ⟨by kernel_rfl, by kernel_rfl, by kernel_rfl⟩ (fun bb hb => run_bin (t := 3) (t' := 3) (xv := .int .i64 (Lib.compareBytes ks ts)) (yv := .int .i64 0) (x := (.tmp 17)) (y := (.const (.int .i64 0))) (by kernel_rfl) (by kernel_rfl) (by kernel_rfl) (fun _ => by kernel_rfl) (run_geq _ (decide_eq_true (by omega)))) ?_
  refine wpOrdT_frees [9, 10, 11, 12, 13, 15, 16] [.bool true, .bool true, undef, undef, undef, undef, undef] (rest := [(14, false), (17, false), (18, false), (19, true), (20, true)]) (by kernel_rfl) (by kernel_rfl) (fun _ => by kernel_rfl) ?_
  refine wpOrdT_notB (some 24) ⟨by kernel_rfl, by kernel_rfl, by kernel_rfl⟩ (fun _ => MR.out) ?_
  refine wpOrdT_notB (some 27) ⟨by kernel_rfl, by kernel_rfl, by kernel_rfl⟩ (fun _ => MR.out) ?_
  refine wpOrdT_notB (some 28) ⟨by kernel_rfl, by kernel_rfl, by kernel_rfl⟩ (fun _ => MR.out) ?_
  refine wpOrdT_frees [19, 20] [undef, .bool true] (rest := []) (by kernel_rfl) (by kernel_rfl) (fun _ => by kernel_rfl) ?_
  exact wpOrdT_doneC (act_is (K := Q .normal) (by kernel_rfl) (HQ.out ((.slice at1 ts.length ct)) (.int .i64 ((ts.length : Nat) : Int)) (.bool true) (.bool true) (.pointer (some ⟨x, 0, none⟩)) (u) ((.slice at1 ts.length ct)) (.int .i64 (Lib.compareBytes ks ts)) (.bool true) (.bool true) (.bool true) (undef) (undef) (undef) (undef) (undef) (undef) (undef) (undef) (undef) _ MR.out))
set_option maxHeartbeats 1000000 in
theorem wk3a {w : World} {l x bt by1 : Nat} {at1 : Option Addr} {ct : Nat} {u v : Value} {ks vs ts : List UInt8} (q1 : w.heap[x]? = some (.cells #[u, v] 88 (0, 0))) (q2 : w.cell? ⟨bt, 0, none⟩ = some (.slice at1 ts.length ct)) (q3 : bt < w.heap.size) (hu : Rd w u ks) (hv : Rd w v vs) (ht : Rd w (.slice at1 ts.length ct) ts) (lk : ks.length ≤ 1000000) (lv : vs.length ≤ 1000000) (h1 : ts = []) (q4 : w.cell? ⟨by1, 0, none⟩ = some (.func (.yield l) #[] #[])) (q5 : by1 < w.heap.size) {x0 x1 x2 x6 x7 x8 x9 x10 x11 x12 x13 x14 x15 x16 x17 x18 x19 x20 x21 x22 x23 x24 x25 x26 x27 x28 x29 x30 : Value} {df : List Deferred} {Q : Exit → Act → World → Prop}
    (hK : ∀ (y10 y11 y12 y13 y14 y15 y16 y17 y18 y19 y22 y23 y25 y26 : Value) (d1 d2 : Value) (w' : World), Gl.Own w' d1 ks → Gl.Own w' d2 vs → freshIn w d1 → freshIn w d2 → (∀ k, d1.ownBlock = some k → d2.ownBlock ≠ some k) → Mods noB w w' → Q .normal ⟨#[x0, x1, x2, .pointer (some ⟨bt, 0, none⟩), .pointer (some ⟨by1, 0, none⟩), .pointer (some ⟨x, 0, none⟩), x6, x7, x8, x9, y10, y11, y12, y13, y14, y15, y16, y17, y18, y19, .bool false, .func (.yield l) #[] #[], y22, y23, d1, y25, y26, d2, x28, x29, x30], df⟩ w') : RW Try.prog ((opsC 3 Try.f60).toList.take 18).toArray true Q ⟨#[x0, x1, x2, .pointer (some ⟨bt, 0, none⟩), .pointer (some ⟨by1, 0, none⟩), .pointer (some ⟨x, 0, none⟩), x6, x7, x8, x9, x10, x11, x12, x13, x14, x15, x16, x17, x18, x19, x20, x21, x22, x23, x24, x25, x26, x27, x28, x29, x30], df⟩ w := by
  have HQ := Lib.hid hK
  clear hK
  have L1 : ¬ 0 < ts.length := by rw [h1]; simp
  have HU := Lib.hid hu
  have HV := Lib.hid hv
  have HT := Lib.hid ht
  have MR := Lib.hid ((Mods.refl noB w).drew)
  have Q1 := Lib.hid (fun b' (hm : Mods noB w b') => show b'.cell? ⟨x, 0, none⟩ = some u from cells_of (hm.heap q1 (fun x => x)) 0)
  have Q6 := Lib.hid (fun b' (hm : Mods noB w b') => show b'.cell? ⟨x, 1, none⟩ = some v from cells_of (hm.heap q1 (fun x => x)) 1)
  have Q2 := Lib.hid (fun b' (hm : Mods noB w b') => show b'.cell? ⟨bt, 0, none⟩ = some (.slice at1 ts.length ct) from (hm.cellAt q3 (fun x => x) 0).trans q2)
  have Q4 := Lib.hid (fun b' (hm : Mods noB w b') => show b'.cell? ⟨by1, 0, none⟩ = some (.func (.yield l) #[] #[]) from (hm.cellAt q5 (fun x => x) 0).trans q4)
  clear hu hv ht q1 q2 q3 q4 q5
  refine rw_ordF (S := fun b' => Mods noB w b') [(0, true), (1, true), (2, true), (3, true), (4, true), (5, true), (6, true), (7, false), (8, true), (9, true), (10, true), (11, true), (12, true), (13, true), (15, true), (16, true), (14, false), (17, false)] [] [(0, 8, 1024), (1, 1024, 2048), (2, 2048, 4096), (4, 4096, 8192), (8, 8224, 16384), (24, 24576, 32768), (8, 8200, 65536), (104, 106496, 131072), (136, 139264, 262144), (264, 270336, 524288), (640, 524288, 1048576), (1024, 1048592, 2097152), (1024, 1048608, 4194304), (5120, 5242880, 8388608), (9216, 9437184, 16777216), (1024, 1048608, 33554432), (33792, 34603008, 67108864), (82944, 68157440, 134217728)] (by kernel_rfl) (by kernel_rfl) (by kernel_rfl) (by kernel_rfl) (by kernel_rfl) MR.out ?_
  refine wpOrdT_free ((.slice at1 ts.length ct)) (some 10) ⟨by kernel_rfl, by kernel_rfl, by kernel_rfl⟩ (fun bb hb => of_load (x := (.tmp 3)) (by kernel_rfl) (by kernel_rfl) (load_c (Q2.out _ hb) Try.underlying32 rfl)) ?_
  refine wpOrdT_frees [1] [.int .i64 ((ts.length : Nat) : Int)] (rest := [(2, true), (3, true), (4, true), (5, true), (6, true), (7, false), (8, true), (9, true), (10, true), (11, true), (12, true), (13, true), (15, true), (16, true), (14, false), (17, false)]) (by kernel_rfl) (by kernel_rfl) (fun _ => by kernel_rfl) ?_
  refine wpOrdT_free (.bool false) (some 12) ⟨by kernel_rfl, by kernel_rfl, by kernel_rfl⟩ (fun bb hb => run_bin (t := 3) (t' := 3) (xv := .int .i64 ((ts.length : Nat) : Int)) (yv := .int .i64 0) (x := (.tmp 11)) (y := (.const (.int .i64 0))) (by kernel_rfl) (by kernel_rfl) (by kernel_rfl) (fun _ => by kernel_rfl) (run_gtr _ (decide_eq_false (by omega)))) ?_
  refine wpOrdT_frees [3, 4, 5, 6] [.bool false, undef, undef, undef] (rest := [(7, false), (8, true), (9, true), (10, true), (11, true), (12, true), (13, true), (15, true), (16, true), (14, false), (17, false)]) (by kernel_rfl) (by kernel_rfl) (fun _ => by kernel_rfl) ?_
  refine wpOrdT_notB (some 17) ⟨by kernel_rfl, by kernel_rfl, by kernel_rfl⟩ (fun _ => MR.out) ?_
  refine wpOrdT_frees [8, 9, 10] [undef, .bool false, .bool false] (rest := [(11, true), (12, true), (13, true), (15, true), (16, true), (14, false), (17, false)]) (by kernel_rfl) (by kernel_rfl) (fun _ => by kernel_rfl) ?_
  refine wpOrdT_free (.func (.yield l) #[] #[]) (some 21) ⟨by kernel_rfl, by kernel_rfl, by kernel_rfl⟩ (fun bb hb => of_load (x := (.tmp 4)) (by kernel_rfl) (by kernel_rfl) (load_c (Q4.out _ hb) Try.underlying46 rfl)) ?_
  refine wpOrdT_frees [12] [.pointer (some ⟨x, 0, none⟩)] (rest := [(13, true), (15, true), (16, true), (14, false), (17, false)]) (by kernel_rfl) (by kernel_rfl) (fun _ => by kernel_rfl) ?_
  refine wpOrdT_free (u) (some 23) ⟨by kernel_rfl, by kernel_rfl, by kernel_rfl⟩ (fun bb hb => of_load (x := (.tmp 22)) (by kernel_rfl) (by kernel_rfl) (load_c (Q1.out _ hb) Try.underlying32 rfl)) ?_
  refine wpOrdT_frees [15] [.pointer (some ⟨x, 1, none⟩)] (rest := [(16, true), (14, false), (17, false)]) (by kernel_rfl) (by kernel_rfl) (fun _ => by kernel_rfl) ?_
  refine wpOrdT_free (v) (some 26) ⟨by kernel_rfl, by kernel_rfl, by kernel_rfl⟩ (fun bb hb => of_load (x := (.tmp 25)) (by kernel_rfl) (by kernel_rfl) (load_c (Q6.out _ hb) Try.underlying32 rfl)) ?_
  refine wpOrdT_call (some 24) ⟨by kernel_rfl, by kernel_rfl, by kernel_rfl⟩ (owned_any (HU.out.keep MR.out (fun _ _ x => x)) (by omega)) (fun _ => by kernel_rfl) ?_
  rintro r wd1 ⟨d1, rfl, o1, n1, f1⟩
  have F1 := Lib.hid (f1.of MR.out.size)
  have S1 := MR.out.size
  replace MR := Lib.hid (MR.out.then0 n1)
  refine ⟨_, rfl, fun _ => MR.out, ?_⟩
  refine wpOrdT_call (some 27) ⟨by kernel_rfl, by kernel_rfl, by kernel_rfl⟩ (owned_any (HV.out.keep MR.out (fun _ _ x => x)) (by omega)) (fun _ => by kernel_rfl) ?_
  rintro r wd2 ⟨d2, rfl, o2, n2, f2⟩
  have F2 := Lib.hid (f2.of MR.out.size)
  have S2 := MR.out.size
  replace MR := Lib.hid (MR.out.then0 n2)
  refine ⟨_, rfl, fun _ => MR.out, ?_⟩
  exact wpOrdT_doneC (act_is (K := Q .normal) (by kernel_rfl) (HQ.out ((.slice at1 ts.length ct)) (.int .i64 ((ts.length : Nat) : Int)) (.bool false) (.bool false) (undef) (undef) (undef) (undef) (undef) (.bool false) (.pointer (some ⟨x, 0, none⟩)) (u) (.pointer (some ⟨x, 1, none⟩)) (v) d1 d2 _ (o1.keep n2 (fun _ _ x => x)) o2 F1.out F2.out (fun k hk hk2 => by have := o1.lt k hk; have := f2 k hk2; omega) MR.out))
set_option maxHeartbeats 1000000 in
theorem wk3b {w : World} {l x bt by1 : Nat} {at1 : Option Addr} {ct : Nat} {u v : Value} {ks vs ts : List UInt8} (q1 : w.heap[x]? = some (.cells #[u, v] 88 (0, 0))) (q2 : w.cell? ⟨bt, 0, none⟩ = some (.slice at1 ts.length ct)) (q3 : bt < w.heap.size) (hu : Rd w u ks) (hv : Rd w v vs) (ht : Rd w (.slice at1 ts.length ct) ts) (lk : ks.length ≤ 1000000) (lv : vs.length ≤ 1000000) (h1 : ts ≠ []) (h2 : ¬ 0 ≤ Lib.compareBytes ks ts) (q4 : w.cell? ⟨by1, 0, none⟩ = some (.func (.yield l) #[] #[])) (q5 : by1 < w.heap.size) {x0 x1 x2 x6 x7 x8 x9 x10 x11 x12 x13 x14 x15 x16 x17 x18 x19 x20 x21 x22 x23 x24 x25 x26 x27 x28 x29 x30 : Value} {df : List Deferred} {Q : Exit → Act → World → Prop}
    (hK : ∀ (y10 y11 y12 y13 y14 y15 y16 y17 y18 y19 y22 y23 y25 y26 : Value) (d1 d2 : Value) (w' : World), Gl.Own w' d1 ks → Gl.Own w' d2 vs → freshIn w d1 → freshIn w d2 → (∀ k, d1.ownBlock = some k → d2.ownBlock ≠ some k) → Mods noB w w' → Q .normal ⟨#[x0, x1, x2, .pointer (some ⟨bt, 0, none⟩), .pointer (some ⟨by1, 0, none⟩), .pointer (some ⟨x, 0, none⟩), x6, x7, x8, x9, y10, y11, y12, y13, y14, y15, y16, y17, y18, y19, .bool false, .func (.yield l) #[] #[], y22, y23, d1, y25, y26, d2, x28, x29, x30], df⟩ w') : RW Try.prog ((opsC 3 Try.f60).toList.take 18).toArray true Q ⟨#[x0, x1, x2, .pointer (some ⟨bt, 0, none⟩), .pointer (some ⟨by1, 0, none⟩), .pointer (some ⟨x, 0, none⟩), x6, x7, x8, x9, x10, x11, x12, x13, x14, x15, x16, x17, x18, x19, x20, x21, x22, x23, x24, x25, x26, x27, x28, x29, x30], df⟩ w := by
  have HQ := Lib.hid hK
  clear hK
  have L1 : 0 < ts.length := List.length_pos_iff.2 h1
  have HU := Lib.hid hu
  have HV := Lib.hid hv
  have HT := Lib.hid ht
  have MR := Lib.hid ((Mods.refl noB w).drew)
  have Q1 := Lib.hid (fun b' (hm : Mods noB w b') => show b'.cell? ⟨x, 0, none⟩ = some u from cells_of (hm.heap q1 (fun x => x)) 0)
  have Q6 := Lib.hid (fun b' (hm : Mods noB w b') => show b'.cell? ⟨x, 1, none⟩ = some v from cells_of (hm.heap q1 (fun x => x)) 1)
  have Q2 := Lib.hid (fun b' (hm : Mods noB w b') => show b'.cell? ⟨bt, 0, none⟩ = some (.slice at1 ts.length ct) from (hm.cellAt q3 (fun x => x) 0).trans q2)
  have Q4 := Lib.hid (fun b' (hm : Mods noB w b') => show b'.cell? ⟨by1, 0, none⟩ = some (.func (.yield l) #[] #[]) from (hm.cellAt q5 (fun x => x) 0).trans q4)
  clear hu hv ht q1 q2 q3 q4 q5
  refine rw_ordF (S := fun b' => Mods noB w b') [(0, true), (1, true), (2, true), (3, true), (4, true), (5, true), (6, true), (7, false), (8, true), (9, true), (10, true), (11, true), (12, true), (13, true), (15, true), (16, true), (14, false), (17, false)] [] [(0, 8, 1024), (1, 1024, 2048), (2, 2048, 4096), (4, 4096, 8192), (8, 8224, 16384), (24, 24576, 32768), (8, 8200, 65536), (104, 106496, 131072), (136, 139264, 262144), (264, 270336, 524288), (640, 524288, 1048576), (1024, 1048592, 2097152), (1024, 1048608, 4194304), (5120, 5242880, 8388608), (9216, 9437184, 16777216), (1024, 1048608, 33554432), (33792, 34603008, 67108864), (82944, 68157440, 134217728)] (by kernel_rfl) (by kernel_rfl) (by kernel_rfl) (by kernel_rfl) (by kernel_rfl) MR.out ?_
  refine wpOrdT_free ((.slice at1 ts.length ct)) (some 10) ⟨by kernel_rfl, by kernel_rfl, by kernel_rfl⟩ (fun bb hb => of_load (x := (.tmp 3)) (by kernel_rfl) (by kernel_rfl) (load_c (Q2.out _ hb) Try.underlying32 rfl)) ?_
  refine wpOrdT_frees [1] [.int .i64 ((ts.length : Nat) : Int)] (rest := [(2, true), (3, true), (4, true), (5, true), (6, true), (7, false), (8, true), (9, true), (10, true), (11, true), (12, true), (13, true), (15, true), (16, true), (14, false), (17, false)]) (by kernel_rfl) (by kernel_rfl) (fun _ => by kernel_rfl) ?_
  refine wpOrdT_free (.bool true) (some 12) ⟨by kernel_rfl, by kernel_rfl, by kernel_rfl⟩ (fun bb hb => run_bin (t := 3) (t' := 3) (xv := .int .i64 ((ts.length : Nat) : Int)) (yv := .int .i64 0) (x := (.tmp 11)) (y := (.const (.int .i64 0))) (by kernel_rfl) (by kernel_rfl) (by kernel_rfl) (fun _ => by kernel_rfl) (run_gtr _ (decide_eq_true (by omega)))) ?_
  refine wpOrdT_frees [3, 4] [.bool true, .pointer (some ⟨x, 0, none⟩)] (rest := [(5, true), (6, true), (7, false), (8, true), (9, true), (10, true), (11, true), (12, true), (13, true), (15, true), (16, true), (14, false), (17, false)]) (by kernel_rfl) (by kernel_rfl) (fun _ => by kernel_rfl) ?_
  refine wpOrdT_free (u) (some 15) ⟨by kernel_rfl, by kernel_rfl, by kernel_rfl⟩ (fun bb hb => of_load (x := (.tmp 14)) (by kernel_rfl) (by kernel_rfl) (load_c (Q1.out _ hb) Try.underlying32 rfl)) ?_
  refine wpOrdT_free ((.slice at1 ts.length ct)) (some 16) ⟨by kernel_rfl, by kernel_rfl, by kernel_rfl⟩ (fun bb hb => of_load (x := (.tmp 3)) (by kernel_rfl) (by kernel_rfl) (load_c (Q2.out _ hb) Try.underlying32 rfl)) ?_
  refine wpOrdT_call (some 17) ⟨by kernel_rfl, by kernel_rfl, by kernel_rfl⟩ (Compare_any (HU.out.keep MR.out (fun _ _ x => x)) (HT.out.keep MR.out (fun _ _ x => x))) (fun _ => by kernel_rfl) ?_
  rintro r wc ⟨rfl, rfl⟩
  refine ⟨_, rfl, fun _ => MR.out, ?_⟩
  refine wpOrdT_free (.bool false) (some 18) ⟨by kernel_rfl, by kernel_rfl, by kernel_rfl⟩ (fun bb hb => run_bin (t := 3) (t' := 3) (xv := .int .i64 (Lib.compareBytes ks ts)) (yv := .int .i64 0) (x := (.tmp 17)) (y := (.const (.int .i64 0))) (by kernel_rfl) (by kernel_rfl) (by kernel_rfl) (fun _ => by kernel_rfl) (run_geq _ (decide_eq_false (by omega)))) ?_
  refine wpOrdT_frees [9, 10] [.bool false, .bool false] (rest := [(11, true), (12, true), (13, true), (15, true), (16, true), (14, false), (17, false)]) (by kernel_rfl) (by kernel_rfl) (fun _ => by kernel_rfl) ?_
  refine wpOrdT_free (.func (.yield l) #[] #[]) (some 21) ⟨by kernel_rfl, by kernel_rfl, by kernel_rfl⟩ (fun bb hb => of_load (x := (.tmp 4)) (by kernel_rfl) (by kernel_rfl) (load_c (Q4.out _ hb) Try.underlying46 rfl)) ?_
  refine wpOrdT_frees [12] [.pointer (some ⟨x, 0, none⟩)] (rest := [(13, true), (15, true), (16, true), (14, false), (17, false)]) (by kernel_rfl) (by kernel_rfl) (fun _ => by kernel_rfl) ?_
  refine wpOrdT_free (u) (some 23) ⟨by kernel_rfl, by kernel_rfl, by kernel_rfl⟩ (fun bb hb => of_load (x := (.tmp 22)) (by kernel_rfl) (by kernel_rfl) (load_c (Q1.out _ hb) Try.underlying32 rfl)) ?_
  refine wpOrdT_frees [15] [.pointer (some ⟨x, 1, none⟩)] (rest := [(16, true), (14, false), (17, false)]) (by kernel_rfl) (by kernel_rfl) (fun _ => by kernel_rfl) ?_
  refine wpOrdT_free (v) (some 26) ⟨by kernel_rfl, by kernel_rfl, by kernel_rfl⟩ (fun bb hb => of_load (x := (.tmp 25)) (by kernel_rfl) (by kernel_rfl) (load_c (Q6.out _ hb) Try.underlying32 rfl)) ?_
  refine wpOrdT_call (some 24) ⟨by kernel_rfl, by kernel_rfl, by kernel_rfl⟩ (owned_any (HU.out.keep MR.out (fun _ _ x => x)) (by omega)) (fun _ => by kernel_rfl) ?_
  rintro r wd1 ⟨d1, rfl, o1, n1, f1⟩
  have F1 := Lib.hid (f1.of MR.out.size)
  have S1 := MR.out.size
  replace MR := Lib.hid (MR.out.then0 n1)
  refine ⟨_, rfl, fun _ => MR.out, ?_⟩
  refine wpOrdT_call (some 27) ⟨by kernel_rfl, by kernel_rfl, by kernel_rfl⟩ (owned_any (HV.out.keep MR.out (fun _ _ x => x)) (by omega)) (fun _ => by kernel_rfl) ?_
  rintro r wd2 ⟨d2, rfl, o2, n2, f2⟩
  have F2 := Lib.hid (f2.of MR.out.size)
  have S2 := MR.out.size
  replace MR := Lib.hid (MR.out.then0 n2)
  refine ⟨_, rfl, fun _ => MR.out, ?_⟩
  exact wpOrdT_doneC (act_is (K := Q .normal) (by kernel_rfl) (HQ.out ((.slice at1 ts.length ct)) (.int .i64 ((ts.length : Nat) : Int)) (.bool true) (.bool true) (.pointer (some ⟨x, 0, none⟩)) (u) ((.slice at1 ts.length ct)) (.int .i64 (Lib.compareBytes ks ts)) (.bool false) (.bool false) (.pointer (some ⟨x, 0, none⟩)) (u) (.pointer (some ⟨x, 1, none⟩)) (v) d1 d2 _ (o1.keep n2 (fun _ _ x => x)) o2 F1.out F2.out (fun k hk hk2 => by have := o1.lt k hk; have := f2 k hk2; omega) MR.out))
set_option maxHeartbeats 1000000 in
theorem wkOwn {w : World} {bf bt : Nat} {fv tv : Value} {xs ts : List UInt8} {t1 t2 : TypeId} (q1 : w.heap[bf]? = some (.cells #[fv] t1 (0, 0))) (q2 : w.heap[bt]? = some (.cells #[tv] t2 (0, 0))) (hne : ¬ bf = bt) (hu : Rd w fv xs) (hv : Rd w tv ts) (lk : xs.length ≤ 140737488355328) (lv : ts.length ≤ 140737488355328) {x0 x1 x2 x3 x6 x7 x8 x9 x10 x11 : Value} {df : List Deferred} {Q : Exit → Act → World → Prop}
    (hK : ∀ (y7 y8 y9 y10 : Value) (d1 d2 : Value) (w' : World), w'.heap[bf]? = some (.cells #[d1] t1 (0, 0)) → w'.heap[bt]? = some (.cells #[d2] t2 (0, 0)) → Gl.Own w' d1 xs → Gl.Own w' d2 ts → freshIn w d1 → freshIn w d2 → Mods (fun k => k = bf ∨ k = bt) w w' → Q .normal ⟨#[x0, x1, x2, x3, .pointer (some ⟨bf, 0, none⟩), .pointer (some ⟨bt, 0, none⟩), x6, y7, y8, y9, y10, x11], df⟩ w') : RW Try.prog (opsC 1 Try.f43) true Q ⟨#[x0, x1, x2, x3, .pointer (some ⟨bf, 0, none⟩), .pointer (some ⟨bt, 0, none⟩), x6, x7, x8, x9, x10, x11], df⟩ w := by
  have HQ := Lib.hid hK
  clear hK
  have HU := Lib.hid hu
  have HV := Lib.hid hv
  have Q1 := Lib.hid (fun b' (hm : Mods noB w b') => show b'.cell? ⟨bf, 0, none⟩ = some fv from cells_of (hm.heap q1 (fun x => x)) 0)
  have Q2 := Lib.hid (fun b' (hm : Mods noB w b') => show b'.cell? ⟨bt, 0, none⟩ = some tv from cells_of (hm.heap q2 (fun x => x)) 0)
  clear hu hv
  have MR := Lib.hid ((Mods.refl noB w).drew)
  refine rw_ordT (S := fun b' => Mods noB w b') [(0, true), (2, true), (1, false), (3, false), (4, false), (5, false)] [4, 5] (by kernel_rfl) (by kernel_rfl) (by kernel_rfl) (by kernel_rfl) MR.out ?_
  refine wpOrdT_free (fv) (some 7) ⟨by kernel_rfl, by kernel_rfl, by kernel_rfl⟩ (fun bb hb => of_load (x := (.tmp 4)) (by kernel_rfl) (by kernel_rfl) (load_c (Q1.out _ hb) Try.underlying32 rfl)) ?_
  refine wpOrdT_free (tv) (some 9) ⟨by kernel_rfl, by kernel_rfl, by kernel_rfl⟩ (fun bb hb => of_load (x := (.tmp 5)) (by kernel_rfl) (by kernel_rfl) (load_c (Q2.out _ hb) Try.underlying32 rfl)) ?_
  refine wpOrdT_call (some 8) ⟨by kernel_rfl, by kernel_rfl, by kernel_rfl⟩ (owned_any (HU.out.keep MR.out (fun _ _ x => x)) lk) (fun _ => by kernel_rfl) ?_
  rintro r wd1 ⟨d1, rfl, o1, n1, f1⟩
  have F1 := Lib.hid (f1.of MR.out.size)
  replace MR := Lib.hid (MR.out.then0 n1)
  obtain ⟨ad1, cd1, ed1, _⟩ := o1.rd.form
  have od1 : d1.oneCell' = true := by rw [ed1]; rfl
  refine ⟨_, rfl, fun _ => MR.out, ?_⟩
  refine wpOrdT_call (some 10) ⟨by kernel_rfl, by kernel_rfl, by kernel_rfl⟩ (owned_any (HV.out.keep MR.out (fun _ _ x => x)) lv) (fun _ => by kernel_rfl) ?_
  rintro r wd2 ⟨d2, rfl, o2, n2, f2⟩
  have F2 := Lib.hid (f2.of MR.out.size)
  replace MR := Lib.hid (MR.out.then0 n2)
  obtain ⟨ad2, cd2, ed2, _⟩ := o2.rd.form
  have od2 : d2.oneCell' = true := by rw [ed2]; rfl
  refine ⟨_, rfl, fun _ => MR.out, ?_⟩
  have hb1 := MR.out.heap q1 (fun x => x)
  have hb2 := MR.out.heap q2 (fun x => x)
  refine wpOrdT_st1 (ty := 32) (x := (.tmp 4)) (y := (.tmp 8)) (g := bf) (off := 0) (v := d1) none ⟨by kernel_rfl, by kernel_rfl, by kernel_rfl⟩ (by kernel_rfl) (by kernel_rfl) (by kernel_rfl) (by kernel_rfl) (by rw [cells_of hb1]; rfl) (free_of hb1 _) od1 ?_
  intro w91 hw91
  refine ⟨(fun h => by cases h), ?_⟩
  have m91 : Mods (fun k => k = bf) wd2 w91 := by rw [hw91]; exact (Mods.refl (fun k => k = bf) wd2).setCell (p := ⟨bf, 0, none⟩) (.inl rfl) d1
  have hc1 : w91.heap[bf]? = some (.cells #[d1] t1 (0, 0)) := by rw [hw91]; exact heap_set hb1 0 d1
  have hc2 := m91.heap hb2 (fun e => hne e.symm)
  refine wpOrdT_st1 (ty := 32) (x := (.tmp 5)) (y := (.tmp 10)) (g := bt) (off := 0) (v := d2) none ⟨by kernel_rfl, by kernel_rfl, by kernel_rfl⟩ (by kernel_rfl) (by kernel_rfl) (by kernel_rfl) (by kernel_rfl) (by rw [cells_of hc2]; rfl) (free_of hc2 _) od2 ?_
  intro w92 hw92
  refine ⟨(fun h => by cases h), ?_⟩
  have m92 : Mods (fun k => k = bt) w91 w92 := by rw [hw92]; exact (Mods.refl (fun k => k = bt) w91).setCell (p := ⟨bt, 0, none⟩) (.inl rfl) d2
  have he2 : w92.heap[bt]? = some (.cells #[d2] t2 (0, 0)) := by rw [hw92]; exact heap_set hc2 0 d2
  have he1 := m92.heap hc1 hne
  have hbl := lt_of_heap q1
  have htl := lt_of_heap q2
  have p1 := ((o1.keep n2 (fun _ _ x => x)).keep m91 (fun k hk e => by have := F1.out k hk; omega)).keep m92 (fun k hk e => by have := F1.out k hk; omega)
  have p2 := (o2.keep m91 (fun k hk e => by have := F2.out k hk; omega)).keep m92 (fun k hk e => by have := F2.out k hk; omega)
  have pm := (MR.out.trans m91 (U := fun k => k = bf ∨ k = bt) (fun _ _ x => x.elim) (fun _ _ x => .inl x)).trans m92 (U := fun k => k = bf ∨ k = bt) (fun _ _ x => x) (fun _ _ x => .inr x)
  exact wpOrdT_doneC (act_is (K := Q .normal) (by kernel_rfl) (HQ.out (fv) (d1) (tv) (d2) d1 d2 w92 he1 he2 p1 p2 F1.out F2.out pm))
end Go.Proofs.Ytngemlpalkfjeaa

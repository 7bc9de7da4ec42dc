/- page.Map.Back: the regions of its closure (printed by gen_back5.py). -/
import Derived.Test.YtjlomnhngngkiaaPgQ
namespace Go.Proofs.Ytjlomnhngngkiaa
open Go.Gl Go.RowKit
set_option linter.unusedVariables false
set_option linter.unusedSimpArgs false
set_option maxRecDepth 100000

def FrB (df : List Deferred) (v0 v1 v2 v3 v5 v7 : Value) (a : Act) : Prop := ∃ x4 x6 x8 x9 x10 x11 x12 x13 x14 x15 x16 x17 x18 x19 x20 x21 x22 x23 x24 x25 x26 x27 x28 x29 x30 x31 x32 x33 x34 x35 x36 x37 x38 x39 x40 x41 x42 x43 x44 x45 x46 x47 : Value, a = ⟨#[v0, v1, v2, v3, x4, v5, x6, v7, x8, x9, x10, x11, x12, x13, x14, x15, x16, x17, x18, x19, x20, x21, x22, x23, x24, x25, x26, x27, x28, x29, x30, x31, x32, x33, x34, x35, x36, x37, x38, x39, x40, x41, x42, x43, x44, x45, x46, x47], df⟩
theorem FrB.mk {df : List Deferred} {v0 v1 v2 v3 v5 v7 x4 x6 x8 x9 x10 x11 x12 x13 x14 x15 x16 x17 x18 x19 x20 x21 x22 x23 x24 x25 x26 x27 x28 x29 x30 x31 x32 x33 x34 x35 x36 x37 x38 x39 x40 x41 x42 x43 x44 x45 x46 x47 : Value} : FrB df v0 v1 v2 v3 v5 v7 ⟨#[v0, v1, v2, v3, x4, v5, x6, v7, x8, x9, x10, x11, x12, x13, x14, x15, x16, x17, x18, x19, x20, x21, x22, x23, x24, x25, x26, x27, x28, x29, x30, x31, x32, x33, x34, x35, x36, x37, x38, x39, x40, x41, x42, x43, x44, x45, x46, x47], df⟩ := ⟨x4, x6, x8, x9, x10, x11, x12, x13, x14, x15, x16, x17, x18, x19, x20, x21, x22, x23, x24, x25, x26, x27, x28, x29, x30, x31, x32, x33, x34, x35, x36, x37, x38, x39, x40, x41, x42, x43, x44, x45, x46, x47, rfl⟩
theorem FrB.elim {df : List Deferred} {v0 v1 v2 v3 v5 v7 : Value} {a : Act} {C : Act → Prop} (h : FrB df v0 v1 v2 v3 v5 v7 a) (k : ∀ x4 x6 x8 x9 x10 x11 x12 x13 x14 x15 x16 x17 x18 x19 x20 x21 x22 x23 x24 x25 x26 x27 x28 x29 x30 x31 x32 x33 x34 x35 x36 x37 x38 x39 x40 x41 x42 x43 x44 x45 x46 x47 : Value, C ⟨#[v0, v1, v2, v3, x4, v5, x6, v7, x8, x9, x10, x11, x12, x13, x14, x15, x16, x17, x18, x19, x20, x21, x22, x23, x24, x25, x26, x27, x28, x29, x30, x31, x32, x33, x34, x35, x36, x37, x38, x39, x40, x41, x42, x43, x44, x45, x46, x47], df⟩) : C a := by
  obtain ⟨x4, x6, x8, x9, x10, x11, x12, x13, x14, x15, x16, x17, x18, x19, x20, x21, x22, x23, x24, x25, x26, x27, x28, x29, x30, x31, x32, x33, x34, x35, x36, x37, x38, x39, x40, x41, x42, x43, x44, x45, x46, x47, rfl⟩ := h
  exact k _ _ _ _ _ _ _ _ _ _ _ _ _ _ _ _ _ _ _ _ _ _ _ _ _ _ _ _ _ _ _ _ _ _ _ _ _ _ _ _ _ _
set_option maxHeartbeats 1000000 in
theorem bk0 {w : World} {x0 x1 x2 x3 x4 x5 x6 x7 x8 x9 x10 x11 x12 x13 x14 x15 x16 x17 x18 x19 x20 x21 x22 x23 x24 x25 x26 x27 x28 x29 x30 x31 x32 x33 x34 x35 x36 x37 x38 x39 x40 x41 x42 x43 x44 x45 x46 x47 : Value} {df : List Deferred} {Q : Exit → Act → World → Prop}
    (hK : ∀ (bl : Nat) (w' : World), bl = w.heap.size → w'.heap[bl]? = some (.cells #[.slice none 0 0] 64 (0, 0)) → Mods noB w w' → Q .normal ⟨#[x0, x1, x2, x3, x4, .pointer (some ⟨bl, 0, none⟩), x6, x7, x8, x9, x10, x11, x12, x13, x14, x15, x16, x17, x18, x19, x20, x21, x22, x23, x24, x25, x26, x27, x28, x29, x30, x31, x32, x33, x34, x35, x36, x37, x38, x39, x40, x41, x42, x43, x44, x45, x46, x47], df⟩ w') : RW Try.prog (opsC 0 Try.f57) false Q ⟨#[x0, x1, x2, x3, x4, x5, x6, x7, x8, x9, x10, x11, x12, x13, x14, x15, x16, x17, x18, x19, x20, x21, x22, x23, x24, x25, x26, x27, x28, x29, x30, x31, x32, x33, x34, x35, x36, x37, x38, x39, x40, x41, x42, x43, x44, x45, x46, x47], df⟩ w := by
  have HQ := Lib.hid hK
  clear hK
  refine rw_lin [(0, false)] (by kernel_rfl) ?_
  refine wpOrdT_alloc (.cells #[.slice none 0 0] 64) (some 5) ⟨by kernel_rfl, by kernel_rfl, by kernel_rfl⟩ (by kernel_rfl) ?_
  intro k1 w_k1 hk_k1 hO_k1 hm_k1 hl_k1
  refine ⟨fun _ => trivial, ?_⟩
  exact wpOrdT_doneC (act_is (K := Q .normal) (by kernel_rfl) (HQ.out  k1 w_k1 hk_k1 hO_k1 hm_k1))

set_option maxHeartbeats 1000000 in
theorem bk1 {w : World} {m bf g : Nat} {fv : Value} {X : Nat → Nat → World → Prop} (c1 : w.cell? ⟨m, 0, none⟩ = some (.pointer (some ⟨g, 0, none⟩))) (c2 : w.cell? ⟨bf, 0, none⟩ = some fv) (hC : Calls Try.prog 55 #[.pointer (some ⟨g, 0, none⟩), fv] w fun e w' => ∃ ma bf : Nat, e = .returned (.func (.func 63) #[] #[.pointer (some ⟨ma, 0, none⟩), .pointer (some ⟨bf, 0, none⟩)]) ∧ X ma bf w') {x0 x3 x4 x5 x6 x7 x8 x9 x10 x11 x12 x13 x14 x15 x16 x17 x18 x19 x20 x21 x22 x23 x24 x25 x26 x27 x28 x29 x30 x31 x32 x33 x34 x35 x36 x37 x38 x39 x40 x41 x42 x43 x44 x45 x46 x47 : Value} {df : List Deferred} {Q : Exit → Act → World → Prop}
    (hK : ∀ (y8 y9 : Value) (ma bq : Nat) (w' : World), X ma bq w' → Q .normal ⟨#[x0, .pointer (some ⟨m, 0, none⟩), .pointer (some ⟨bf, 0, none⟩), x3, x4, x5, x6, x7, y8, y9, .func (.func 63) #[] #[.pointer (some ⟨ma, 0, none⟩), .pointer (some ⟨bq, 0, none⟩)], x11, x12, x13, x14, x15, x16, x17, x18, x19, x20, x21, x22, x23, x24, x25, x26, x27, x28, x29, x30, x31, x32, x33, x34, x35, x36, x37, x38, x39, x40, x41, x42, x43, x44, x45, x46, x47], df⟩ w') : RW Try.prog (opsC 1 Try.f57) false Q ⟨#[x0, .pointer (some ⟨m, 0, none⟩), .pointer (some ⟨bf, 0, none⟩), x3, x4, x5, x6, x7, x8, x9, x10, x11, x12, x13, x14, x15, x16, x17, x18, x19, x20, x21, x22, x23, x24, x25, x26, x27, x28, x29, x30, x31, x32, x33, x34, x35, x36, x37, x38, x39, x40, x41, x42, x43, x44, x45, x46, x47], df⟩ w := by
  have HQ := Lib.hid hK
  clear hK
  refine rw_lin [(0, false), (1, false), (2, false)] (by kernel_rfl) ?_
  refine wpOrdT_run (.pointer (some ⟨g, 0, none⟩)) _ (some 8) ⟨by kernel_rfl, by kernel_rfl, by kernel_rfl⟩ (of_load (x := (.tmp 1)) (by kernel_rfl) (by kernel_rfl) (load_c ((fun _ => c1) (trivial)) Try.underlying25 rfl)) (fun _ => trivial) ?_
  refine wpOrdT_run (fv) _ (some 9) ⟨by kernel_rfl, by kernel_rfl, by kernel_rfl⟩ (of_load (x := (.tmp 2)) (by kernel_rfl) (by kernel_rfl) (load_c ((fun _ => c2) (trivial)) Try.underlying33 rfl)) (fun _ => trivial) ?_
  refine wpOrdT_call (some 10) ⟨by kernel_rfl, by kernel_rfl, by kernel_rfl⟩ hC (fun _ => by kernel_rfl) ?_
  rintro r w7 ⟨ma, bf, rfl, hh⟩
  refine ⟨_, rfl, fun _ => trivial, ?_⟩
  exact wpOrdT_doneC (act_is (K := Q .normal) (by kernel_rfl) (HQ.out (.pointer (some ⟨g, 0, none⟩)) (fv) ma bf w7 hh))

set_option maxHeartbeats 1000000 in
theorem bk2 {w : World} {u v : Value} (hu : u.oneCell' = true) (hv : v.oneCell' = true) {x0 x1 x2 x3 x4 x5 x6 x7 x8 x9 x10 x12 x13 x14 x15 x16 x17 x18 x19 x20 x21 x22 x23 x24 x25 x26 x27 x28 x29 x30 x31 x32 x33 x34 x35 x36 x37 x38 x39 x40 x41 x42 x43 x44 x45 x46 x47 : Value} {df : List Deferred} {Q : Exit → Act → World → Prop}
    (hK : ∀ (bq : Nat) (w' : World), w.heap.size ≤ bq → w'.heap[bq]? = some (.cells #[u, v] 63 (0, 0)) → Mods noB w w' → Q .normal ⟨#[x0, x1, x2, x3, x4, x5, .pointer (some ⟨bq, 0, none⟩), x7, x8, x9, x10, .agg #[u, v], x12, x13, x14, x15, x16, x17, x18, x19, x20, x21, x22, x23, x24, x25, x26, x27, x28, x29, x30, x31, x32, x33, x34, x35, x36, x37, x38, x39, x40, x41, x42, x43, x44, x45, x46, x47], df⟩ w') : RW Try.prog (opsC 2 Try.f57) false Q ⟨#[x0, x1, x2, x3, x4, x5, x6, x7, x8, x9, x10, .agg #[u, v], x12, x13, x14, x15, x16, x17, x18, x19, x20, x21, x22, x23, x24, x25, x26, x27, x28, x29, x30, x31, x32, x33, x34, x35, x36, x37, x38, x39, x40, x41, x42, x43, x44, x45, x46, x47], df⟩ w := by
  have HQ := Lib.hid hK
  clear hK
  refine rw_lin [(0, false), (1, false)] (by kernel_rfl) ?_
  refine wpOrdT_alloc (.cells #[.slice none 0 0, .slice none 0 0] 63) (some 6) ⟨by kernel_rfl, by kernel_rfl, by kernel_rfl⟩ (by kernel_rfl) ?_
  intro k1 w_k1 hk_k1 hO_k1 hm_k1 hl_k1
  refine ⟨fun _ => trivial, ?_⟩
  refine wpOrdT_store (off := 0) (ty := 63) (x := (.tmp 6)) (y := (.tmp 11)) (cells := #[u, v]) #[u, v] none ⟨by kernel_rfl, by kernel_rfl, by kernel_rfl⟩ (by kernel_rfl) (by kernel_rfl) (by kernel_rfl) hO_k1 (by kernel_rfl) (by kernel_rfl) (by simp [hu, hv]) (by kernel_rfl) ?_
  intro w9 hO9 hm9 hs9
  refine ⟨fun _ => trivial, ?_⟩
  have hM := hm_k1.trans hm9 (U := noB) (fun _ _ x => x) (fun i hi e => by omega)
  exact wpOrdT_doneC (act_is (K := Q .normal) (by kernel_rfl) (HQ.out  k1 w9 (Nat.le_of_eq hk_k1.symm) hO9 hM))

set_option maxHeartbeats 1000000 in
theorem bk3s {w : World} {x bt : Nat} {at1 : Option Addr} {ct : Nat} {u v : Value} {ks ts : List UInt8} (q1 : w.heap[x]? = some (.cells #[u, v] 63 (0, 0))) (q2 : w.cell? ⟨bt, 0, none⟩ = some (.slice at1 ts.length ct)) (hu : Rd w u ks) (ht : Rd w (.slice at1 ts.length ct) ts) (h1 : ts ≠ []) (h2 : 0 ≤ Lib.compareBytes ks ts) {x0 x1 x2 x4 x5 x7 x8 x9 x10 x11 x12 x13 x14 x15 x16 x17 x18 x19 x20 x21 x22 x23 x24 x25 x26 x27 x28 x29 x30 x31 x32 x33 x34 x35 x36 x37 x38 x39 x40 x41 x42 x43 x44 x45 x46 x47 : Value} {df : List Deferred} {Q : Exit → Act → World → Prop}
    (hK : ∀ (y12 y13 y14 y15 y16 y17 y18 y19 y20 : Value)  (w' : World), w' = w → Q .normal ⟨#[x0, x1, x2, .pointer (some ⟨bt, 0, none⟩), x4, x5, .pointer (some ⟨x, 0, none⟩), x7, x8, x9, x10, x11, y12, y13, y14, y15, y16, y17, y18, y19, y20, .bool true, x22, x23, x24, x25, x26, x27, x28, x29, x30, x31, x32, x33, x34, x35, x36, x37, x38, x39, x40, x41, x42, x43, x44, x45, x46, x47], df⟩ w') : RW Try.prog (opsC 3 Try.f57) false Q ⟨#[x0, x1, x2, .pointer (some ⟨bt, 0, none⟩), x4, x5, .pointer (some ⟨x, 0, none⟩), x7, x8, x9, x10, x11, x12, x13, x14, x15, x16, x17, x18, x19, x20, x21, x22, x23, x24, x25, x26, x27, x28, x29, x30, x31, x32, x33, x34, x35, x36, x37, x38, x39, x40, x41, x42, x43, x44, x45, x46, x47], df⟩ w := by
  have HQ := Lib.hid hK
  clear hK
  have L1 : 0 < ts.length := List.length_pos_iff.2 h1
  have Q1 : w.cell? ⟨x, 0, none⟩ = some u := cells_of q1 0
  refine rw_lin [(0, false), (1, false), (2, false), (3, false), (4, false), (5, false), (6, false), (7, false), (8, false), (9, false)] (by kernel_rfl) ?_
  refine wpOrdT_run ((.slice at1 ts.length ct)) _ (some 12) ⟨by kernel_rfl, by kernel_rfl, by kernel_rfl⟩ (of_load (x := (.tmp 3)) (by kernel_rfl) (by kernel_rfl) (load_c ((fun _ => q2) (trivial)) Try.underlying33 rfl)) (fun _ => trivial) ?_
  refine wpOrdT_freesB [1] [.int .i64 ((ts.length : Nat) : Int)] (rest := [(2, false), (3, false), (4, false), (5, false), (6, false), (7, false), (8, false), (9, false)]) (by kernel_rfl) (by kernel_rfl) (by kernel_rfl) (.inr trivial) ?_
  refine wpOrdT_run (.bool true) _ (some 14) ⟨by kernel_rfl, by kernel_rfl, by kernel_rfl⟩ (run_bin (t := 3) (t' := 3) (xv := .int .i64 ((ts.length : Nat) : Int)) (yv := .int .i64 0) (x := (.tmp 13)) (y := (.const (.int .i64 0))) (by kernel_rfl) (by kernel_rfl) (by kernel_rfl) (fun _ => by kernel_rfl) (run_gtr _ (decide_eq_true (by omega)))) (fun _ => trivial) ?_
  refine wpOrdT_freesB [3, 4] [.bool true, .pointer (some ⟨x, 0, none⟩)] (rest := [(5, false), (6, false), (7, false), (8, false), (9, false)]) (by kernel_rfl) (by kernel_rfl) (by kernel_rfl) (.inr trivial) ?_
  refine wpOrdT_run (u) _ (some 17) ⟨by kernel_rfl, by kernel_rfl, by kernel_rfl⟩ (of_load (x := (.tmp 16)) (by kernel_rfl) (by kernel_rfl) (load_c ((fun _ => Q1) (trivial)) Try.underlying33 rfl)) (fun _ => trivial) ?_
  refine wpOrdT_run ((.slice at1 ts.length ct)) _ (some 18) ⟨by kernel_rfl, by kernel_rfl, by kernel_rfl⟩ (of_load (x := (.tmp 3)) (by kernel_rfl) (by kernel_rfl) (load_c ((fun _ => q2) (trivial)) Try.underlying33 rfl)) (fun _ => trivial) ?_
  refine wpOrdT_call (some 19) ⟨by kernel_rfl, by kernel_rfl, by kernel_rfl⟩ (Compare_any hu ht) (fun _ => by kernel_rfl) ?_
  rintro r wc ⟨rfl, rfl⟩
  refine ⟨_, rfl, fun _ => trivial, ?_⟩
  refine wpOrdT_run (.bool true) _ (some 20) ⟨by kernel_rfl, by kernel_rfl, by kernel_rfl⟩ (run_bin (t := 3) (t' := 3) (xv := .int .i64 (Lib.compareBytes ks ts)) (yv := .int .i64 0) (x := (.tmp 19)) (y := (.const (.int .i64 0))) (by kernel_rfl) (by kernel_rfl) (by kernel_rfl) (fun _ => by kernel_rfl) (run_geq _ (decide_eq_true (by omega)))) (fun _ => trivial) ?_
  refine wpOrdT_freesB [9] [.bool true] (rest := []) (by kernel_rfl) (by kernel_rfl) (by kernel_rfl) (.inr trivial) ?_
  exact wpOrdT_doneC (act_is (K := Q .normal) (by kernel_rfl) (HQ.out ((.slice at1 ts.length ct)) (.int .i64 ((ts.length : Nat) : Int)) (.bool true) (.bool true) (.pointer (some ⟨x, 0, none⟩)) (u) ((.slice at1 ts.length ct)) (.int .i64 (Lib.compareBytes ks ts)) (.bool true) _ rfl))

set_option maxHeartbeats 1000000 in
theorem bk3a {w : World} {x bt : Nat} {at1 : Option Addr} {ct : Nat} {u v : Value} {ks ts : List UInt8} (q1 : w.heap[x]? = some (.cells #[u, v] 63 (0, 0))) (q2 : w.cell? ⟨bt, 0, none⟩ = some (.slice at1 ts.length ct)) (hu : Rd w u ks) (ht : Rd w (.slice at1 ts.length ct) ts) (h1 : ts = []) {x0 x1 x2 x4 x5 x7 x8 x9 x10 x11 x12 x13 x14 x15 x16 x17 x18 x19 x20 x21 x22 x23 x24 x25 x26 x27 x28 x29 x30 x31 x32 x33 x34 x35 x36 x37 x38 x39 x40 x41 x42 x43 x44 x45 x46 x47 : Value} {df : List Deferred} {Q : Exit → Act → World → Prop}
    (hK : ∀ (y12 y13 y14 y15 y16 y17 y18 y19 y20 : Value)  (w' : World), w' = w → Q .normal ⟨#[x0, x1, x2, .pointer (some ⟨bt, 0, none⟩), x4, x5, .pointer (some ⟨x, 0, none⟩), x7, x8, x9, x10, x11, y12, y13, y14, y15, y16, y17, y18, y19, y20, .bool false, x22, x23, x24, x25, x26, x27, x28, x29, x30, x31, x32, x33, x34, x35, x36, x37, x38, x39, x40, x41, x42, x43, x44, x45, x46, x47], df⟩ w') : RW Try.prog (opsC 3 Try.f57) false Q ⟨#[x0, x1, x2, .pointer (some ⟨bt, 0, none⟩), x4, x5, .pointer (some ⟨x, 0, none⟩), x7, x8, x9, x10, x11, x12, x13, x14, x15, x16, x17, x18, x19, x20, x21, x22, x23, x24, x25, x26, x27, x28, x29, x30, x31, x32, x33, x34, x35, x36, x37, x38, x39, x40, x41, x42, x43, x44, x45, x46, x47], df⟩ w := by
  have HQ := Lib.hid hK
  clear hK
  have L1 : ¬ 0 < ts.length := by rw [h1]; simp
  have Q1 : w.cell? ⟨x, 0, none⟩ = some u := cells_of q1 0
  refine rw_lin [(0, false), (1, false), (2, false), (3, false), (4, false), (5, false), (6, false), (7, false), (8, false), (9, false)] (by kernel_rfl) ?_
  refine wpOrdT_run ((.slice at1 ts.length ct)) _ (some 12) ⟨by kernel_rfl, by kernel_rfl, by kernel_rfl⟩ (of_load (x := (.tmp 3)) (by kernel_rfl) (by kernel_rfl) (load_c ((fun _ => q2) (trivial)) Try.underlying33 rfl)) (fun _ => trivial) ?_
  refine wpOrdT_freesB [1] [.int .i64 ((ts.length : Nat) : Int)] (rest := [(2, false), (3, false), (4, false), (5, false), (6, false), (7, false), (8, false), (9, false)]) (by kernel_rfl) (by kernel_rfl) (by kernel_rfl) (.inr trivial) ?_
  refine wpOrdT_run (.bool false) _ (some 14) ⟨by kernel_rfl, by kernel_rfl, by kernel_rfl⟩ (run_bin (t := 3) (t' := 3) (xv := .int .i64 ((ts.length : Nat) : Int)) (yv := .int .i64 0) (x := (.tmp 13)) (y := (.const (.int .i64 0))) (by kernel_rfl) (by kernel_rfl) (by kernel_rfl) (fun _ => by kernel_rfl) (run_gtr _ (decide_eq_false (by omega)))) (fun _ => trivial) ?_
  refine wpOrdT_freesB [3, 4, 5, 6, 7, 8, 9] [.bool false, undef, undef, undef, undef, undef, .bool false] (rest := []) (by kernel_rfl) (by kernel_rfl) (by kernel_rfl) (.inr trivial) ?_
  exact wpOrdT_doneC (act_is (K := Q .normal) (by kernel_rfl) (HQ.out ((.slice at1 ts.length ct)) (.int .i64 ((ts.length : Nat) : Int)) (.bool false) (.bool false) (undef) (undef) (undef) (undef) (undef) _ rfl))

set_option maxHeartbeats 1000000 in
theorem bk3b {w : World} {x bt : Nat} {at1 : Option Addr} {ct : Nat} {u v : Value} {ks ts : List UInt8} (q1 : w.heap[x]? = some (.cells #[u, v] 63 (0, 0))) (q2 : w.cell? ⟨bt, 0, none⟩ = some (.slice at1 ts.length ct)) (hu : Rd w u ks) (ht : Rd w (.slice at1 ts.length ct) ts) (h1 : ts ≠ []) (h2 : ¬ 0 ≤ Lib.compareBytes ks ts) {x0 x1 x2 x4 x5 x7 x8 x9 x10 x11 x12 x13 x14 x15 x16 x17 x18 x19 x20 x21 x22 x23 x24 x25 x26 x27 x28 x29 x30 x31 x32 x33 x34 x35 x36 x37 x38 x39 x40 x41 x42 x43 x44 x45 x46 x47 : Value} {df : List Deferred} {Q : Exit → Act → World → Prop}
    (hK : ∀ (y12 y13 y14 y15 y16 y17 y18 y19 y20 : Value)  (w' : World), w' = w → Q .normal ⟨#[x0, x1, x2, .pointer (some ⟨bt, 0, none⟩), x4, x5, .pointer (some ⟨x, 0, none⟩), x7, x8, x9, x10, x11, y12, y13, y14, y15, y16, y17, y18, y19, y20, .bool false, x22, x23, x24, x25, x26, x27, x28, x29, x30, x31, x32, x33, x34, x35, x36, x37, x38, x39, x40, x41, x42, x43, x44, x45, x46, x47], df⟩ w') : RW Try.prog (opsC 3 Try.f57) false Q ⟨#[x0, x1, x2, .pointer (some ⟨bt, 0, none⟩), x4, x5, .pointer (some ⟨x, 0, none⟩), x7, x8, x9, x10, x11, x12, x13, x14, x15, x16, x17, x18, x19, x20, x21, x22, x23, x24, x25, x26, x27, x28, x29, x30, x31, x32, x33, x34, x35, x36, x37, x38, x39, x40, x41, x42, x43, x44, x45, x46, x47], df⟩ w := by
  have HQ := Lib.hid hK
  clear hK
  have L1 : 0 < ts.length := List.length_pos_iff.2 h1
  have Q1 : w.cell? ⟨x, 0, none⟩ = some u := cells_of q1 0
  refine rw_lin [(0, false), (1, false), (2, false), (3, false), (4, false), (5, false), (6, false), (7, false), (8, false), (9, false)] (by kernel_rfl) ?_
  refine wpOrdT_run ((.slice at1 ts.length ct)) _ (some 12) ⟨by kernel_rfl, by kernel_rfl, by kernel_rfl⟩ (of_load (x := (.tmp 3)) (by kernel_rfl) (by kernel_rfl) (load_c ((fun _ => q2) (trivial)) Try.underlying33 rfl)) (fun _ => trivial) ?_
  refine wpOrdT_freesB [1] [.int .i64 ((ts.length : Nat) : Int)] (rest := [(2, false), (3, false), (4, false), (5, false), (6, false), (7, false), (8, false), (9, false)]) (by kernel_rfl) (by kernel_rfl) (by kernel_rfl) (.inr trivial) ?_
  refine wpOrdT_run (.bool true) _ (some 14) ⟨by kernel_rfl, by kernel_rfl, by kernel_rfl⟩ (run_bin (t := 3) (t' := 3) (xv := .int .i64 ((ts.length : Nat) : Int)) (yv := .int .i64 0) (x := (.tmp 13)) (y := (.const (.int .i64 0))) (by kernel_rfl) (by kernel_rfl) (by kernel_rfl) (fun _ => by kernel_rfl) (run_gtr _ (decide_eq_true (by omega)))) (fun _ => trivial) ?_
  refine wpOrdT_freesB [3, 4] [.bool true, .pointer (some ⟨x, 0, none⟩)] (rest := [(5, false), (6, false), (7, false), (8, false), (9, false)]) (by kernel_rfl) (by kernel_rfl) (by kernel_rfl) (.inr trivial) ?_
  refine wpOrdT_run (u) _ (some 17) ⟨by kernel_rfl, by kernel_rfl, by kernel_rfl⟩ (of_load (x := (.tmp 16)) (by kernel_rfl) (by kernel_rfl) (load_c ((fun _ => Q1) (trivial)) Try.underlying33 rfl)) (fun _ => trivial) ?_
  refine wpOrdT_run ((.slice at1 ts.length ct)) _ (some 18) ⟨by kernel_rfl, by kernel_rfl, by kernel_rfl⟩ (of_load (x := (.tmp 3)) (by kernel_rfl) (by kernel_rfl) (load_c ((fun _ => q2) (trivial)) Try.underlying33 rfl)) (fun _ => trivial) ?_
  refine wpOrdT_call (some 19) ⟨by kernel_rfl, by kernel_rfl, by kernel_rfl⟩ (Compare_any hu ht) (fun _ => by kernel_rfl) ?_
  rintro r wc ⟨rfl, rfl⟩
  refine ⟨_, rfl, fun _ => trivial, ?_⟩
  refine wpOrdT_run (.bool false) _ (some 20) ⟨by kernel_rfl, by kernel_rfl, by kernel_rfl⟩ (run_bin (t := 3) (t' := 3) (xv := .int .i64 (Lib.compareBytes ks ts)) (yv := .int .i64 0) (x := (.tmp 19)) (y := (.const (.int .i64 0))) (by kernel_rfl) (by kernel_rfl) (by kernel_rfl) (fun _ => by kernel_rfl) (run_geq _ (decide_eq_false (by omega)))) (fun _ => trivial) ?_
  refine wpOrdT_freesB [9] [.bool false] (rest := []) (by kernel_rfl) (by kernel_rfl) (by kernel_rfl) (.inr trivial) ?_
  exact wpOrdT_doneC (act_is (K := Q .normal) (by kernel_rfl) (HQ.out ((.slice at1 ts.length ct)) (.int .i64 ((ts.length : Nat) : Int)) (.bool true) (.bool true) (.pointer (some ⟨x, 0, none⟩)) (u) ((.slice at1 ts.length ct)) (.int .i64 (Lib.compareBytes ks ts)) (.bool false) _ rfl))

set_option maxHeartbeats 1000000 in
theorem bk4 {w : World} {bl x n : Nat} {vl u v : Value} {t : TypeId} {ys : List Value} (q0 : w.heap[bl]? = some (.cells #[vl] t (0, 0))) (q1 : w.heap[x]? = some (.cells #[u, v] 63 (0, 0))) (hr : OwnG w 63 2 vl n ys) (hu : u.oneCell' = true) (hv : v.oneCell' = true) (hn : n ≤ 100000000) (hvl : ¬ ofV vl bl) {x0 x1 x2 x3 x4 x7 x8 x9 x10 x11 x12 x13 x14 x15 x16 x17 x18 x19 x20 x21 x22 x23 x24 x25 x26 x27 x28 x29 x30 x31 x32 x33 x34 x35 x36 x37 x38 x39 x40 x41 x42 x43 x44 x45 x46 x47 : Value} {df : List Deferred} {Q : Exit → Act → World → Prop}
    (hK : ∀ (y22 y23 y24 y25 : Value) (v8 : Value) (w8 : World) (w' : World), OwnG w8 63 2 v8 (n + 1) (ys ++ [u, v]) → Mods (ofV vl) w w8 → (v8.ownBlock = vl.ownBlock ∨ freshIn w v8) → w' = w8.setCell ⟨bl, 0, none⟩ v8 → Q .normal ⟨#[x0, x1, x2, x3, x4, .pointer (some ⟨bl, 0, none⟩), .pointer (some ⟨x, 0, none⟩), x7, x8, x9, x10, x11, x12, x13, x14, x15, x16, x17, x18, x19, x20, x21, y22, y23, y24, y25, x26, x27, x28, x29, x30, x31, x32, x33, x34, x35, x36, x37, x38, x39, x40, x41, x42, x43, x44, x45, x46, x47], df⟩ w') : RW Try.prog (opsC 4 Try.f57) false Q ⟨#[x0, x1, x2, x3, x4, .pointer (some ⟨bl, 0, none⟩), .pointer (some ⟨x, 0, none⟩), x7, x8, x9, x10, x11, x12, x13, x14, x15, x16, x17, x18, x19, x20, x21, x22, x23, x24, x25, x26, x27, x28, x29, x30, x31, x32, x33, x34, x35, x36, x37, x38, x39, x40, x41, x42, x43, x44, x45, x46, x47], df⟩ w := by
  have HQ := Lib.hid hK
  clear hK
  have Q0 : w.cell? ⟨bl, 0, none⟩ = some vl := cells_of q0 0
  have Q1 := two_cells (w := w) (g := x) (off := 0) (cells_of q1 0) (cells_of q1 1)
  refine rw_lin [(0, false), (1, false), (2, false), (3, false), (4, false)] (by kernel_rfl) ?_
  refine wpOrdT_run (vl) _ (some 22) ⟨by kernel_rfl, by kernel_rfl, by kernel_rfl⟩ (of_load (x := (.tmp 5)) (by kernel_rfl) (by kernel_rfl) (load_c ((fun _ => Q0) (trivial)) Try.underlying64 rfl)) (fun _ => trivial) ?_
  refine wpOrdT_run (.agg #[u, v]) _ (some 23) ⟨by kernel_rfl, by kernel_rfl, by kernel_rfl⟩ (of_load (x := (.tmp 6)) (by kernel_rfl) (by kernel_rfl) (load_a [u, v] ((fun _ => Q1) (trivial)) Try.underlying63 rfl (by kernel_rfl))) (fun _ => trivial) ?_
  refine wpOrdT_bs (.cells #[u, v] 63) 1 (some 24) ⟨by kernel_rfl, by kernel_rfl, by kernel_rfl⟩ (by kernel_rfl) ?_
  intro k1 w_k1 hk_k1 hO_k1 hm_k1 hl_k1
  refine ⟨fun _ => trivial, ?_⟩
  obtain ⟨inf, hi, hz, hs, hby⟩ := info_parts info2
  obtain ⟨v8, w8, hr8, o8, m8, f8⟩ := run_ap (P := Try.prog) 64 64 64 63 63 inf (.agg #[.slice none 0 0, .slice none 0 0]) Try.underlying64 Try.underlying64 hi hz (by rw [hs]; rfl) (by rw [hs]; exact hr.keep hm_k1 (fun _ _ x => x)) (m := 1) (ys := [u, v]) (by rw [hs]; exact OwnG.rd (ob_new hO_k1).own) (by intro y hy; simp at hy; rcases hy with rfl | rfl <;> assumption) (by unfold maxLen; omega) (by rw [hby]; omega)
  rw [hs] at o8
  refine wpOrdT_run v8 w8 (some 25) ⟨by kernel_rfl, by kernel_rfl, by kernel_rfl⟩ (of_append (x := (.tmp 22)) (y := (.tmp 24)) (by kernel_rfl) (by kernel_rfl) (by kernel_rfl) hr8) (fun _ => trivial) ?_
  have m78 := hm_k1.trans m8 (U := ofV vl) (fun _ _ x => x.elim) (fun _ _ x => x)
  have f9 := f8.imp id (fun h => h.of hm_k1.size)
  have hg8 := m78.heap q0 hvl
  obtain ⟨a8, c8, e8, _⟩ := o8.rd.form
  have h18 : v8.oneCell' = true := by rw [e8]; rfl
  clear e8
  refine wpOrdT_st1 (ty := 64) (x := (.tmp 5)) (y := (.tmp 25)) (g := bl) (off := 0) (v := v8) none ⟨by kernel_rfl, by kernel_rfl, by kernel_rfl⟩ (by kernel_rfl) (by kernel_rfl) (by kernel_rfl) (by kernel_rfl) (by rw [cells_of hg8]; rfl) (free_of hg8 _) (h18) ?_
  intro w9 hw9
  refine ⟨(fun h => by first | (cases h; done) | exact trivial), ?_⟩
  exact wpOrdT_doneC (act_is (K := Q .normal) (by kernel_rfl) (HQ.out (vl) (.agg #[u, v]) (.slice (some ⟨k1, 0, none⟩) 1 1) (v8) v8 w8 w9 o8 m78 f9 hw9))

set_option maxHeartbeats 1000000 in
theorem bk5 {w : World} {bl n c : Nat} {ao : Option Addr} (q0 : w.cell? ⟨bl, 0, none⟩ = some (.slice ao n c)) (hn : n ≤ 100000000) {x0 x1 x2 x3 x4 x6 x7 x8 x9 x10 x11 x12 x13 x14 x15 x16 x17 x18 x19 x20 x21 x22 x23 x24 x25 x26 x27 x28 x29 x30 x31 x32 x33 x34 x35 x36 x37 x38 x39 x40 x41 x42 x43 x44 x45 x46 x47 : Value} {df : List Deferred} {Q : Exit → Act → World → Prop}
    (hK : ∀ (y26 y27 y28 : Value)  (w' : World), w' = w → Q .normal ⟨#[x0, x1, x2, x3, x4, .pointer (some ⟨bl, 0, none⟩), x6, .int .i64 ((n : Int) - 1), x8, x9, x10, x11, x12, x13, x14, x15, x16, x17, x18, x19, x20, x21, x22, x23, x24, x25, y26, y27, y28, x29, x30, x31, x32, x33, x34, x35, x36, x37, x38, x39, x40, x41, x42, x43, x44, x45, x46, x47], df⟩ w') : RW Try.prog (opsC 5 Try.f57) false Q ⟨#[x0, x1, x2, x3, x4, .pointer (some ⟨bl, 0, none⟩), x6, x7, x8, x9, x10, x11, x12, x13, x14, x15, x16, x17, x18, x19, x20, x21, x22, x23, x24, x25, x26, x27, x28, x29, x30, x31, x32, x33, x34, x35, x36, x37, x38, x39, x40, x41, x42, x43, x44, x45, x46, x47], df⟩ w := by
  have HQ := Lib.hid hK
  clear hK
  refine rw_lin [(0, false), (1, false), (2, false), (3, false)] (by kernel_rfl) ?_
  refine wpOrdT_run ((.slice ao n c)) _ (some 26) ⟨by kernel_rfl, by kernel_rfl, by kernel_rfl⟩ (of_load (x := (.tmp 5)) (by kernel_rfl) (by kernel_rfl) (load_c ((fun _ => q0) (trivial)) Try.underlying64 rfl)) (fun _ => trivial) ?_
  refine wpOrdT_freesB [1] [.int .i64 ((n : Nat) : Int)] (rest := [(2, false), (3, false)]) (by kernel_rfl) (by kernel_rfl) (by kernel_rfl) (.inr trivial) ?_
  refine wpOrdT_run (.int .i64 ((n : Int) - 1)) _ (some 28) ⟨by kernel_rfl, by kernel_rfl, by kernel_rfl⟩ (run_bin (t := 3) (t' := 3) (xv := .int .i64 ((n : Nat) : Int)) (yv := .int .i64 1) (x := (.tmp 27)) (y := (.const (.int .i64 1))) (by kernel_rfl) (by kernel_rfl) (by kernel_rfl) (fun _ => by kernel_rfl) (run_subI _ (by omega) (by omega) (by omega))) (fun _ => trivial) ?_
  refine wpOrdT_freesB [3] [.int .i64 ((n : Int) - 1)] (rest := []) (by kernel_rfl) (by kernel_rfl) (by kernel_rfl) (.inr trivial) ?_
  exact wpOrdT_doneC (act_is (K := Q .normal) (by kernel_rfl) (HQ.out ((.slice ao n c)) (.int .i64 ((n : Nat) : Int)) (.int .i64 ((n : Int) - 1)) _ rfl))

set_option maxHeartbeats 1000000 in
theorem bk6t {w : World} {j : Int} (hj : 0 ≤ j) {x0 x1 x2 x3 x4 x5 x6 x8 x9 x10 x11 x12 x13 x14 x15 x16 x17 x18 x19 x20 x21 x22 x23 x24 x25 x26 x27 x28 x29 x30 x31 x32 x33 x34 x35 x36 x37 x38 x39 x40 x41 x42 x43 x44 x45 x46 x47 : Value} {df : List Deferred} {Q : Exit → Act → World → Prop}
    (hK : ∀ (y29 : Value)  (w' : World), w' = w → Q .normal ⟨#[x0, x1, x2, x3, x4, x5, x6, .int .i64 (j), x8, x9, x10, x11, x12, x13, x14, x15, x16, x17, x18, x19, x20, x21, x22, x23, x24, x25, x26, x27, x28, y29, .bool true, x31, x32, x33, x34, x35, x36, x37, x38, x39, x40, x41, x42, x43, x44, x45, x46, x47], df⟩ w') : RW Try.prog (opsC 6 Try.f57) false Q ⟨#[x0, x1, x2, x3, x4, x5, x6, .int .i64 (j), x8, x9, x10, x11, x12, x13, x14, x15, x16, x17, x18, x19, x20, x21, x22, x23, x24, x25, x26, x27, x28, x29, x30, x31, x32, x33, x34, x35, x36, x37, x38, x39, x40, x41, x42, x43, x44, x45, x46, x47], df⟩ w := by
  have HQ := Lib.hid hK
  clear hK
  refine rw_lin [(0, false), (1, false)] (by kernel_rfl) ?_
  refine wpOrdT_freesB [0] [.int .i64 (j)] (rest := [(1, false)]) (by kernel_rfl) (by kernel_rfl) (by kernel_rfl) (.inr trivial) ?_
  refine wpOrdT_run (.bool true) _ (some 30) ⟨by kernel_rfl, by kernel_rfl, by kernel_rfl⟩ (run_bin (t := 3) (t' := 3) (xv := .int .i64 (j)) (yv := .int .i64 0) (x := (.tmp 29)) (y := (.const (.int .i64 0))) (by kernel_rfl) (by kernel_rfl) (by kernel_rfl) (fun _ => by kernel_rfl) (run_geq _ (decide_eq_true (by omega)))) (fun _ => trivial) ?_
  exact wpOrdT_doneC (act_is (K := Q .normal) (by kernel_rfl) (HQ.out (.int .i64 (j)) _ rfl))

set_option maxHeartbeats 1000000 in
theorem bk6f {w : World} {j : Int} (hj : ¬ 0 ≤ j) {x0 x1 x2 x3 x4 x5 x6 x8 x9 x10 x11 x12 x13 x14 x15 x16 x17 x18 x19 x20 x21 x22 x23 x24 x25 x26 x27 x28 x29 x30 x31 x32 x33 x34 x35 x36 x37 x38 x39 x40 x41 x42 x43 x44 x45 x46 x47 : Value} {df : List Deferred} {Q : Exit → Act → World → Prop}
    (hK : ∀ (y29 : Value)  (w' : World), w' = w → Q .normal ⟨#[x0, x1, x2, x3, x4, x5, x6, .int .i64 (j), x8, x9, x10, x11, x12, x13, x14, x15, x16, x17, x18, x19, x20, x21, x22, x23, x24, x25, x26, x27, x28, y29, .bool false, x31, x32, x33, x34, x35, x36, x37, x38, x39, x40, x41, x42, x43, x44, x45, x46, x47], df⟩ w') : RW Try.prog (opsC 6 Try.f57) false Q ⟨#[x0, x1, x2, x3, x4, x5, x6, .int .i64 (j), x8, x9, x10, x11, x12, x13, x14, x15, x16, x17, x18, x19, x20, x21, x22, x23, x24, x25, x26, x27, x28, x29, x30, x31, x32, x33, x34, x35, x36, x37, x38, x39, x40, x41, x42, x43, x44, x45, x46, x47], df⟩ w := by
  have HQ := Lib.hid hK
  clear hK
  refine rw_lin [(0, false), (1, false)] (by kernel_rfl) ?_
  refine wpOrdT_freesB [0] [.int .i64 (j)] (rest := [(1, false)]) (by kernel_rfl) (by kernel_rfl) (by kernel_rfl) (.inr trivial) ?_
  refine wpOrdT_run (.bool false) _ (some 30) ⟨by kernel_rfl, by kernel_rfl, by kernel_rfl⟩ (run_bin (t := 3) (t' := 3) (xv := .int .i64 (j)) (yv := .int .i64 0) (x := (.tmp 29)) (y := (.const (.int .i64 0))) (by kernel_rfl) (by kernel_rfl) (by kernel_rfl) (fun _ => by kernel_rfl) (run_geq _ (decide_eq_false (by omega)))) (fun _ => trivial) ?_
  exact wpOrdT_doneC (act_is (K := Q .normal) (by kernel_rfl) (HQ.out (.int .i64 (j)) _ rfl))

set_option maxHeartbeats 1000000 in
theorem bk7 {w : World} {j : Nat} (hj : j ≤ 100000000) {x0 x1 x2 x3 x4 x5 x6 x8 x9 x10 x11 x12 x13 x14 x15 x16 x17 x18 x19 x20 x21 x22 x23 x24 x25 x26 x27 x28 x29 x30 x31 x32 x33 x34 x35 x36 x37 x38 x39 x40 x41 x42 x43 x44 x45 x46 x47 : Value} {df : List Deferred} {Q : Exit → Act → World → Prop}
    (hK : ∀ (y31 y32 : Value)  (w' : World), w' = w → Q .normal ⟨#[x0, x1, x2, x3, x4, x5, x6, .int .i64 ((j : Int) - 1), x8, x9, x10, x11, x12, x13, x14, x15, x16, x17, x18, x19, x20, x21, x22, x23, x24, x25, x26, x27, x28, x29, x30, y31, y32, x33, x34, x35, x36, x37, x38, x39, x40, x41, x42, x43, x44, x45, x46, x47], df⟩ w') : RW Try.prog (opsC 7 Try.f57) false Q ⟨#[x0, x1, x2, x3, x4, x5, x6, .int .i64 ((j : Nat) : Int), x8, x9, x10, x11, x12, x13, x14, x15, x16, x17, x18, x19, x20, x21, x22, x23, x24, x25, x26, x27, x28, x29, x30, x31, x32, x33, x34, x35, x36, x37, x38, x39, x40, x41, x42, x43, x44, x45, x46, x47], df⟩ w := by
  have HQ := Lib.hid hK
  clear hK
  refine rw_lin [(0, false), (1, false), (2, false)] (by kernel_rfl) ?_
  refine wpOrdT_freesB [0] [.int .i64 ((j : Nat) : Int)] (rest := [(1, false), (2, false)]) (by kernel_rfl) (by kernel_rfl) (by kernel_rfl) (.inr trivial) ?_
  refine wpOrdT_run (.int .i64 ((j : Int) - 1)) _ (some 32) ⟨by kernel_rfl, by kernel_rfl, by kernel_rfl⟩ (run_bin (t := 3) (t' := 3) (xv := .int .i64 ((j : Nat) : Int)) (yv := .int .i64 1) (x := (.tmp 31)) (y := (.const (.int .i64 1))) (by kernel_rfl) (by kernel_rfl) (by kernel_rfl) (fun _ => by kernel_rfl) (run_subI _ (by omega) (by omega) (by omega))) (fun _ => trivial) ?_
  refine wpOrdT_freesB [2] [.int .i64 ((j : Int) - 1)] (rest := []) (by kernel_rfl) (by kernel_rfl) (by kernel_rfl) (.inr trivial) ?_
  exact wpOrdT_doneC (act_is (K := Q .normal) (by kernel_rfl) (HQ.out (.int .i64 ((j : Nat) : Int)) (.int .i64 ((j : Int) - 1)) _ rfl))

set_option maxHeartbeats 1000000 in
theorem bk8 {w : World} {l bl j n pb po pc : Nat} {u v : Value} {t : TypeId} {ys : List Value} {ks vs : List UInt8} (q0 : w.heap[bl]? = some (.cells #[.slice (some ⟨pb, po, none⟩) n pc] t (0, 0))) (hr : OB w 63 2 pb po n pc ys) (hj : j < n) (h1 : ys[j * 2]? = some u) (h2 : ys[j * 2 + 1]? = some v) (hu : Rd w u ks) (hv : Rd w v vs) (lk : ks.length ≤ 1000000) (lv : vs.length ≤ 1000000) {x1 x2 x3 x4 x6 x8 x9 x10 x11 x12 x13 x14 x15 x16 x17 x18 x19 x20 x21 x22 x23 x24 x25 x26 x27 x28 x29 x30 x31 x32 x33 x34 x35 x36 x37 x38 x39 x40 x41 x42 x43 x44 x45 x46 x47 : Value} {df : List Deferred} {Q : Exit → Act → World → Prop}
    (hK : ∀ (y34 y35 y36 y37 y38 y40 y41 y42 y43 y44 : Value) (d1 d2 : Value) (w' : World), Gl.Own w' d1 ks → Gl.Own w' d2 vs → freshIn w d1 → freshIn w d2 → (∀ k, d1.ownBlock = some k → d2.ownBlock ≠ some k) → Mods noB w w' → Q .normal ⟨#[.func (.yield l) #[] #[], x1, x2, x3, x4, .pointer (some ⟨bl, 0, none⟩), x6, .int .i64 ((j : Nat) : Int), x8, x9, x10, x11, x12, x13, x14, x15, x16, x17, x18, x19, x20, x21, x22, x23, x24, x25, x26, x27, x28, x29, x30, x31, x32, .func (.yield l) #[] #[], y34, y35, y36, y37, y38, d1, y40, y41, y42, y43, y44, d2, x46, x47], df⟩ w') : RW Try.prog ((opsC 8 Try.f57).toList.take 13).toArray true Q ⟨#[.func (.yield l) #[] #[], x1, x2, x3, x4, .pointer (some ⟨bl, 0, none⟩), x6, .int .i64 ((j : Nat) : Int), x8, x9, x10, x11, x12, x13, x14, x15, x16, x17, x18, x19, x20, x21, x22, x23, x24, x25, x26, x27, x28, x29, x30, x31, x32, x33, x34, x35, x36, x37, x38, x39, x40, x41, x42, x43, x44, x45, x46, x47], df⟩ w := by
  have HQ := Lib.hid hK
  clear hK
  have HU := Lib.hid hu
  have HV := Lib.hid hv
  have HR := Lib.hid hr
  have MR := Lib.hid ((Mods.refl noB w).drew)
  have Q0 := Lib.hid (fun b' (hm : Mods noB w b') => show b'.cell? ⟨bl, 0, none⟩ = some (.slice (some ⟨pb, po, none⟩) n pc) from cells_of (hm.heap q0 (fun x => x)) 0)
  have Q1 := Lib.hid (fun b' (hm : Mods noB w b') => show b'.cell? ⟨pb, po + j * 2, none⟩ = some u from (hr.keep hm (fun x => x)).cell h1)
  have Q2 := Lib.hid (fun b' (hm : Mods noB w b') => show b'.cell? ⟨pb, po + j * 2 + 1, none⟩ = some v from by rw [Nat.add_assoc]; exact (hr.keep hm (fun x => x)).cell h2)
  clear hu hv hr q0 h1 h2
  refine rw_ordF (S := fun b' => Mods noB w b') [(0, true), (1, true), (2, true), (3, true), (4, true), (5, true), (7, true), (8, true), (9, true), (10, true), (11, true), (6, false), (12, false)] [] [(0, 1, 8589934592), (0, 32, 17179869184), (0, 128, 34359738368), (6, 51539607552, 68719476736), (8, 68719476736, 137438953472), (16, 137438953472, 274877906944), (32, 274877906944, 549755813888), (0, 32, 1099511627776), (0, 128, 2199023255552), (384, 3298534883328, 4398046511104), (512, 4398046511104, 8796093022208), (1024, 8796093022208, 17592186044416), (2112, 17592186044416, 35184372088832)] (by kernel_rfl) (by kernel_rfl) (by kernel_rfl) (by kernel_rfl) (by kernel_rfl) MR.out ?_
  refine wpOrdT_frees [0] [.func (.yield l) #[] #[]] (rest := [(1, true), (2, true), (3, true), (4, true), (5, true), (7, true), (8, true), (9, true), (10, true), (11, true), (6, false), (12, false)]) (by kernel_rfl) (by kernel_rfl) (fun _ => by kernel_rfl) ?_
  refine wpOrdT_free (.slice (some ⟨pb, po, none⟩) n pc) (some 34) ⟨by kernel_rfl, by kernel_rfl, by kernel_rfl⟩ (fun bb hb => of_load (x := (.tmp 5)) (by kernel_rfl) (by kernel_rfl) (load_c (Q0.out _ hb) Try.underlying64 rfl)) ?_
  refine wpOrdT_frees [2] [.int .i64 ((j : Nat) : Int)] (rest := [(3, true), (4, true), (5, true), (7, true), (8, true), (9, true), (10, true), (11, true), (6, false), (12, false)]) (by kernel_rfl) (by kernel_rfl) (fun _ => by kernel_rfl) ?_
  refine wpOrdT_free (.pointer (some ⟨pb, po + j * 2, none⟩)) (some 36) ⟨by kernel_rfl, by kernel_rfl, by kernel_rfl⟩ (fun bb hb => run_idx (s := 2) (e := 63) (g := pb) (off := po) (n := n) (c := pc) (i := ((j : Nat) : Int)) (x := (.tmp 34)) (y := (.tmp 35)) (po + j * 2) (by kernel_rfl) (by kernel_rfl) (by kernel_rfl) Try.underlying64 (by kernel_rfl) (by omega) (by omega) (by omega)) ?_
  refine wpOrdT_frees [4] [.pointer (some ⟨pb, po + j * 2, none⟩)] (rest := [(5, true), (7, true), (8, true), (9, true), (10, true), (11, true), (6, false), (12, false)]) (by kernel_rfl) (by kernel_rfl) (fun _ => by kernel_rfl) ?_
  refine wpOrdT_free (u) (some 38) ⟨by kernel_rfl, by kernel_rfl, by kernel_rfl⟩ (fun bb hb => of_load (x := (.tmp 37)) (by kernel_rfl) (by kernel_rfl) (load_c (Q1.out _ hb) Try.underlying33 rfl)) ?_
  refine wpOrdT_free (.slice (some ⟨pb, po, none⟩) n pc) (some 40) ⟨by kernel_rfl, by kernel_rfl, by kernel_rfl⟩ (fun bb hb => of_load (x := (.tmp 5)) (by kernel_rfl) (by kernel_rfl) (load_c (Q0.out _ hb) Try.underlying64 rfl)) ?_
  refine wpOrdT_frees [8] [.int .i64 ((j : Nat) : Int)] (rest := [(9, true), (10, true), (11, true), (6, false), (12, false)]) (by kernel_rfl) (by kernel_rfl) (fun _ => by kernel_rfl) ?_
  refine wpOrdT_free (.pointer (some ⟨pb, po + j * 2, none⟩)) (some 42) ⟨by kernel_rfl, by kernel_rfl, by kernel_rfl⟩ (fun bb hb => run_idx (s := 2) (e := 63) (g := pb) (off := po) (n := n) (c := pc) (i := ((j : Nat) : Int)) (x := (.tmp 40)) (y := (.tmp 41)) (po + j * 2) (by kernel_rfl) (by kernel_rfl) (by kernel_rfl) Try.underlying64 (by kernel_rfl) (by omega) (by omega) (by omega)) ?_
  refine wpOrdT_frees [10] [.pointer (some ⟨pb, po + j * 2 + 1, none⟩)] (rest := [(11, true), (6, false), (12, false)]) (by kernel_rfl) (by kernel_rfl) (fun _ => by kernel_rfl) ?_
  refine wpOrdT_free (v) (some 44) ⟨by kernel_rfl, by kernel_rfl, by kernel_rfl⟩ (fun bb hb => of_load (x := (.tmp 43)) (by kernel_rfl) (by kernel_rfl) (load_c (Q2.out _ hb) Try.underlying33 rfl)) ?_
  refine wpOrdT_call (some 39) ⟨by kernel_rfl, by kernel_rfl, by kernel_rfl⟩ (owned_any (HU.out.keep MR.out (fun _ _ x => x)) (by omega)) (fun _ => by kernel_rfl) ?_
  rintro r wd1 ⟨d1, rfl, o1, n1, f1⟩
  have F1 := Lib.hid (f1.of MR.out.size)
  have S1 := MR.out.size
  replace MR := Lib.hid (MR.out.then0 n1)
  refine ⟨_, rfl, fun _ => MR.out, ?_⟩
  refine wpOrdT_call (some 45) ⟨by kernel_rfl, by kernel_rfl, by kernel_rfl⟩ (owned_any (HV.out.keep MR.out (fun _ _ x => x)) (by omega)) (fun _ => by kernel_rfl) ?_
  rintro r wd2 ⟨d2, rfl, o2, n2, f2⟩
  have F2 := Lib.hid (f2.of MR.out.size)
  have S2 := MR.out.size
  replace MR := Lib.hid (MR.out.then0 n2)
  refine ⟨_, rfl, fun _ => MR.out, ?_⟩
  exact wpOrdT_doneC (act_is (K := Q .normal) (by kernel_rfl) (HQ.out (.slice (some ⟨pb, po, none⟩) n pc) (.int .i64 ((j : Nat) : Int)) (.pointer (some ⟨pb, po + j * 2, none⟩)) (.pointer (some ⟨pb, po + j * 2, none⟩)) (u) (.slice (some ⟨pb, po, none⟩) n pc) (.int .i64 ((j : Nat) : Int)) (.pointer (some ⟨pb, po + j * 2, none⟩)) (.pointer (some ⟨pb, po + j * 2 + 1, none⟩)) (v) d1 d2 _ (o1.keep n2 (fun _ _ x => x)) o2 F1.out F2.out (fun k hk hk2 => by have := o1.lt k hk; have := f2 k hk2; omega) MR.out))

set_option maxHeartbeats 1000000 in
theorem bkOwn {w : World} {bf bt : Nat} {fv tv : Value} {xs ts : List UInt8} {t1 t2 : TypeId} (q1 : w.heap[bf]? = some (.cells #[fv] t1 (0, 0))) (q2 : w.heap[bt]? = some (.cells #[tv] t2 (0, 0))) (hne : ¬ bf = bt) (hu : Rd w fv xs) (hv : Rd w tv ts) (lk : xs.length ≤ 140737488355328) (lv : ts.length ≤ 140737488355328) {x0 x1 x2 x3 x6 x7 x8 x9 x10 x11 : Value} {df : List Deferred} {Q : Exit → Act → World → Prop}
    (hK : ∀ (y7 y8 y9 y10 : Value) (d1 d2 : Value) (w' : World), w'.heap[bf]? = some (.cells #[d1] t1 (0, 0)) → w'.heap[bt]? = some (.cells #[d2] t2 (0, 0)) → Gl.Own w' d1 xs → Gl.Own w' d2 ts → freshIn w d1 → freshIn w d2 → Mods (fun k => k = bf ∨ k = bt) w w' → Q .normal ⟨#[x0, x1, x2, x3, .pointer (some ⟨bf, 0, none⟩), .pointer (some ⟨bt, 0, none⟩), x6, y7, y8, y9, y10, x11], df⟩ w') : RW Try.prog (opsC 1 Try.f44) true Q ⟨#[x0, x1, x2, x3, .pointer (some ⟨bf, 0, none⟩), .pointer (some ⟨bt, 0, none⟩), x6, x7, x8, x9, x10, x11], df⟩ w := by
  have HQ := Lib.hid hK
  clear hK
  have HU := Lib.hid hu
  have HV := Lib.hid hv
  have Q1 := Lib.hid (fun b' (hm : Mods noB w b') => show b'.cell? ⟨bf, 0, none⟩ = some fv from cells_of (hm.heap q1 (fun x => x)) 0)
  have Q2 := Lib.hid (fun b' (hm : Mods noB w b') => show b'.cell? ⟨bt, 0, none⟩ = some tv from cells_of (hm.heap q2 (fun x => x)) 0)
  clear hu hv
  have MR := Lib.hid ((Mods.refl noB w).drew)
  refine rw_ordT (S := fun b' => Mods noB w b') [(0, true), (2, true), (1, false), (3, false), (4, false), (5, false)] [4, 5] (by kernel_rfl) (by kernel_rfl) (by kernel_rfl) (by kernel_rfl) MR.out ?_
  refine wpOrdT_free (fv) (some 7) ⟨by kernel_rfl, by kernel_rfl, by kernel_rfl⟩ (fun bb hb => of_load (x := (.tmp 4)) (by kernel_rfl) (by kernel_rfl) (load_c (Q1.out _ hb) Try.underlying33 rfl)) ?_
  refine wpOrdT_free (tv) (some 9) ⟨by kernel_rfl, by kernel_rfl, by kernel_rfl⟩ (fun bb hb => of_load (x := (.tmp 5)) (by kernel_rfl) (by kernel_rfl) (load_c (Q2.out _ hb) Try.underlying33 rfl)) ?_
  refine wpOrdT_call (some 8) ⟨by kernel_rfl, by kernel_rfl, by kernel_rfl⟩ (owned_any (HU.out.keep MR.out (fun _ _ x => x)) lk) (fun _ => by kernel_rfl) ?_
  rintro r wd1 ⟨d1, rfl, o1, n1, f1⟩
  have F1 := Lib.hid (f1.of MR.out.size)
  replace MR := Lib.hid (MR.out.then0 n1)
  obtain ⟨ad1, cd1, ed1, _⟩ := o1.rd.form
  have od1 : d1.oneCell' = true := by rw [ed1]; rfl
  refine ⟨_, rfl, fun _ => MR.out, ?_⟩
  refine wpOrdT_call (some 10) ⟨by kernel_rfl, by kernel_rfl, by kernel_rfl⟩ (owned_any (HV.out.keep MR.out (fun _ _ x => x)) lv) (fun _ => by kernel_rfl) ?_
  rintro r wd2 ⟨d2, rfl, o2, n2, f2⟩
  have F2 := Lib.hid (f2.of MR.out.size)
  replace MR := Lib.hid (MR.out.then0 n2)
  obtain ⟨ad2, cd2, ed2, _⟩ := o2.rd.form
  have od2 : d2.oneCell' = true := by rw [ed2]; rfl
  refine ⟨_, rfl, fun _ => MR.out, ?_⟩
  have hb1 := MR.out.heap q1 (fun x => x)
  have hb2 := MR.out.heap q2 (fun x => x)
  refine wpOrdT_st1 (ty := 33) (x := (.tmp 4)) (y := (.tmp 8)) (g := bf) (off := 0) (v := d1) none ⟨by kernel_rfl, by kernel_rfl, by kernel_rfl⟩ (by kernel_rfl) (by kernel_rfl) (by kernel_rfl) (by kernel_rfl) (by rw [cells_of hb1]; rfl) (free_of hb1 _) od1 ?_
  intro w91 hw91
  refine ⟨(fun h => by cases h), ?_⟩
  have m91 : Mods (fun k => k = bf) wd2 w91 := by rw [hw91]; exact (Mods.refl (fun k => k = bf) wd2).setCell (p := ⟨bf, 0, none⟩) (.inl rfl) d1
  have hc1 : w91.heap[bf]? = some (.cells #[d1] t1 (0, 0)) := by rw [hw91]; exact heap_set hb1 0 d1
  have hc2 := m91.heap hb2 (fun e => hne e.symm)
  refine wpOrdT_st1 (ty := 33) (x := (.tmp 5)) (y := (.tmp 10)) (g := bt) (off := 0) (v := d2) none ⟨by kernel_rfl, by kernel_rfl, by kernel_rfl⟩ (by kernel_rfl) (by kernel_rfl) (by kernel_rfl) (by kernel_rfl) (by rw [cells_of hc2]; rfl) (free_of hc2 _) od2 ?_
  intro w92 hw92
  refine ⟨(fun h => by cases h), ?_⟩
  have m92 : Mods (fun k => k = bt) w91 w92 := by rw [hw92]; exact (Mods.refl (fun k => k = bt) w91).setCell (p := ⟨bt, 0, none⟩) (.inl rfl) d2
  have he2 : w92.heap[bt]? = some (.cells #[d2] t2 (0, 0)) := by rw [hw92]; exact heap_set hc2 0 d2
  have he1 := m92.heap hc1 hne
  have hbl := lt_of_heap q1
  have htl := lt_of_heap q2
  have p1 := ((o1.keep n2 (fun _ _ x => x)).keep m91 (fun k hk e => by have := F1.out k hk; omega)).keep m92 (fun k hk e => by have := F1.out k hk; omega)
  have p2 := (o2.keep m91 (fun k hk e => by have := F2.out k hk; omega)).keep m92 (fun k hk e => by have := F2.out k hk; omega)
  have pm := (MR.out.trans m91 (U := fun k => k = bf ∨ k = bt) (fun _ _ x => x.elim) (fun _ _ x => .inl x)).trans m92 (U := fun k => k = bf ∨ k = bt) (fun _ _ x => x) (fun _ _ x => .inr x)
  exact wpOrdT_doneC (act_is (K := Q .normal) (by kernel_rfl) (HQ.out (fv) (d1) (tv) (d2) d1 d2 w92 he1 he2 p1 p2 F1.out F2.out pm))

end Go.Proofs.Ytjlomnhngngkiaa

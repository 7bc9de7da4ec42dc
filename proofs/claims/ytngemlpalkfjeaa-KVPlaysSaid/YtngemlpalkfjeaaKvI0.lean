/- kv.Store: the regions of its iterators' closures (printed by gen_kvit.py). -/
import Derived.Test.YtngemlpalkfjeaaZC
import Derived.Test.YtngemlpalkfjeaaPgT
namespace Go.Proofs.Ytngemlpalkfjeaa
open Go.Gl Go.RowKit
set_option linter.unusedVariables false
set_option linter.unusedSimpArgs false
set_option maxRecDepth 100000
set_option maxHeartbeats 1000000 in
theorem kc0 {w : World} {l : Nat} {x1 x2 x3 x4 x5 x6 x7 x8 x9 x10 x11 x12 x13 x14 x15 x16 x17 x18 x19 x20 x21 : Value} {df : List Deferred} {Q : Exit → Act → World → Prop}
    (hK : ∀ (bq : Nat) (w' : World), bq = w.heap.size → w'.heap[bq]? = some (.cells #[.func (.yield l) #[] #[]] 46 (0, 0)) → Mods noB w w' → Q .normal ⟨#[.func (.yield l) #[] #[], x1, x2, .pointer (some ⟨bq, 0, none⟩), x4, x5, x6, x7, x8, x9, x10, x11, x12, x13, x14, x15, x16, x17, x18, x19, x20, x21], df⟩ w') : RW Try.prog (opsC 0 Try.f73) false Q ⟨#[.func (.yield l) #[] #[], x1, x2, x3, x4, x5, x6, x7, x8, x9, x10, x11, x12, x13, x14, x15, x16, x17, x18, x19, x20, x21], df⟩ w := by
  have HQ := Lib.hid hK
  clear hK
  refine rw_lin [(0, false)] (by kernel_rfl) ?_
  refine wpOrdT_alloc (.cells #[.func (.yield l) #[] #[]] 46) (some 3) ⟨by kernel_rfl, by kernel_rfl, by kernel_rfl⟩ (by kernel_rfl) ?_
  intro k1 w_k1 hk_k1 hO_k1 hm_k1 hl_k1
  refine ⟨fun _ => trivial, ?_⟩
  exact wpOrdT_doneC (act_is (K := Q .normal) (by kernel_rfl) (HQ.out  k1 w_k1 hk_k1 hO_k1 hm_k1))
set_option maxHeartbeats 1000000 in
theorem kc1 {w : World} {bs sg : Nat} {X : World → Prop} (c1 : w.cell? ⟨bs, 0, none⟩ = some (.pointer (some ⟨sg, 0, none⟩))) (hC : Calls Try.prog 45 #[.pointer (some ⟨sg, 2, none⟩), .int .i64 1] w fun e w' => ∃ v, e = .returned v ∧ X w') {x0 x2 x3 x4 x5 x6 x7 x8 x9 x10 x11 x12 x13 x14 x15 x16 x17 x18 x19 x20 x21 : Value} {df : List Deferred} {Q : Exit → Act → World → Prop}
    (hK : ∀ (y6 y7 y8 y9 : Value)  (w' : World), X w' → Q .normal ⟨#[x0, .pointer (some ⟨bs, 0, none⟩), x2, x3, x4, x5, y6, y7, y8, y9, x10, x11, x12, x13, x14, x15, x16, x17, x18, x19, x20, x21], df⟩ w') : RW Try.prog (opsC 1 Try.f73) false Q ⟨#[x0, .pointer (some ⟨bs, 0, none⟩), x2, x3, x4, x5, x6, x7, x8, x9, x10, x11, x12, x13, x14, x15, x16, x17, x18, x19, x20, x21], df⟩ w := by
  have HQ := Lib.hid hK
  clear hK
  refine rw_lin [(0, false), (1, false), (2, false), (3, false)] (by kernel_rfl) ?_
  refine wpOrdT_run (.pointer (some ⟨sg, 0, none⟩)) _ (some 6) ⟨by kernel_rfl, by kernel_rfl, by kernel_rfl⟩ (of_load (x := (.tmp 1)) (by kernel_rfl) (by kernel_rfl) (load_c ((fun _ => c1) (trivial)) Try.underlying25 rfl)) (fun _ => trivial) ?_
  refine wpOrdT_freesB [1, 2] [.pointer (some ⟨sg, 0, none⟩), .pointer (some ⟨sg, 2, none⟩)] (rest := [(3, false)]) (by kernel_rfl) (by kernel_rfl) (by kernel_rfl) (.inr trivial) ?_
  refine wpOrdT_call (some 9) ⟨by kernel_rfl, by kernel_rfl, by kernel_rfl⟩ hC (fun _ => by kernel_rfl) ?_
  rintro r w7 ⟨v7, rfl, hh⟩
  refine ⟨_, rfl, fun _ => trivial, ?_⟩
  exact wpOrdT_doneC (act_is (K := Q .normal) (by kernel_rfl) (HQ.out (.pointer (some ⟨sg, 0, none⟩)) (.pointer (some ⟨sg, 0, none⟩)) (.pointer (some ⟨sg, 2, none⟩)) (v7) w7 hh))
set_option maxHeartbeats 1000000 in
theorem kc2 {w : World} {bw gf : Nat} {lb : Array Value} (c1 : w.cell? ⟨bw, 0, none⟩ = some (.func (.func gf) #[] lb)) {x0 x1 x3 x4 x5 x6 x7 x8 x9 x10 x11 x12 x13 x14 x15 x16 x17 x18 x19 x20 x21 : Value} {df : List Deferred} {Q : Exit → Act → World → Prop}
    (hK : ∀  (w' : World), w' = w → Q .normal ⟨#[x0, x1, .pointer (some ⟨bw, 0, none⟩), x3, x4, x5, x6, x7, x8, x9, .func (.func gf) #[] lb, x11, x12, x13, x14, x15, x16, x17, x18, x19, x20, x21], df⟩ w') : RW Try.prog (opsC 2 Try.f73) false Q ⟨#[x0, x1, .pointer (some ⟨bw, 0, none⟩), x3, x4, x5, x6, x7, x8, x9, x10, x11, x12, x13, x14, x15, x16, x17, x18, x19, x20, x21], df⟩ w := by
  have HQ := Lib.hid hK
  clear hK
  refine rw_lin [(0, false)] (by kernel_rfl) ?_
  refine wpOrdT_run (.func (.func gf) #[] lb) _ (some 10) ⟨by kernel_rfl, by kernel_rfl, by kernel_rfl⟩ (of_load (x := (.tmp 2)) (by kernel_rfl) (by kernel_rfl) (load_c ((fun _ => c1) (trivial)) Try.underlying49 rfl)) (fun _ => trivial) ?_
  exact wpOrdT_doneC (act_is (K := Q .normal) (by kernel_rfl) (HQ.out  _ rfl))
set_option maxHeartbeats 1000000 in
theorem kc3 {w : World} {u : Value} {x0 x1 x2 x3 x4 x5 x6 x7 x8 x9 x10 x12 x13 x14 x15 x16 x17 x18 x19 x20 x21 : Value} {df : List Deferred} {Q : Exit → Act → World → Prop}
    (hK : ∀  (w' : World), w' = w → Q .normal ⟨#[x0, x1, x2, x3, u, x5, x6, x7, x8, x9, x10, u, x12, x13, x14, x15, x16, x17, x18, x19, x20, x21], df⟩ w') : RW Try.prog (opsC 3 Try.f73) false Q ⟨#[x0, x1, x2, x3, x4, x5, x6, x7, x8, x9, x10, u, x12, x13, x14, x15, x16, x17, x18, x19, x20, x21], df⟩ w := by
  have HQ := Lib.hid hK
  clear hK
  refine rw_lin [(0, false)] (by kernel_rfl) ?_
  refine wpOrdT_freesB [0] [u] (rest := []) (by kernel_rfl) (by kernel_rfl) (by kernel_rfl) (.inr trivial) ?_
  exact wpOrdT_doneC (act_is (K := Q .normal) (by kernel_rfl) (HQ.out  _ rfl))
set_option maxHeartbeats 1000000 in
theorem kc4 {w : World} {u : Value} {x0 x1 x2 x3 x4 x5 x6 x7 x8 x9 x10 x11 x13 x14 x15 x16 x17 x18 x19 x20 x21 : Value} {df : List Deferred} {Q : Exit → Act → World → Prop}
    (hK : ∀  (w' : World), w' = w → Q .normal ⟨#[x0, x1, x2, x3, x4, u, x6, x7, x8, x9, x10, x11, u, x13, x14, x15, x16, x17, x18, x19, x20, x21], df⟩ w') : RW Try.prog (opsC 4 Try.f73) false Q ⟨#[x0, x1, x2, x3, x4, x5, x6, x7, x8, x9, x10, x11, u, x13, x14, x15, x16, x17, x18, x19, x20, x21], df⟩ w := by
  have HQ := Lib.hid hK
  clear hK
  refine rw_lin [(0, false)] (by kernel_rfl) ?_
  refine wpOrdT_freesB [0] [u] (rest := []) (by kernel_rfl) (by kernel_rfl) (by kernel_rfl) (.inr trivial) ?_
  exact wpOrdT_doneC (act_is (K := Q .normal) (by kernel_rfl) (HQ.out  _ rfl))
set_option maxHeartbeats 1000000 in
theorem kc5 {w : World} {bs sg : Nat} {X : World → Prop} (c1 : w.cell? ⟨bs, 0, none⟩ = some (.pointer (some ⟨sg, 0, none⟩))) (hC : Calls Try.prog 45 #[.pointer (some ⟨sg, 2, none⟩), .int .i64 1] w fun e w' => ∃ v, e = .returned v ∧ X w') {x0 x2 x3 x4 x5 x6 x7 x8 x9 x10 x11 x12 x13 x14 x15 x16 x17 x18 x19 x20 x21 : Value} {df : List Deferred} {Q : Exit → Act → World → Prop}
    (hK : ∀ (y13 y14 y15 y16 : Value)  (w' : World), X w' → Q .normal ⟨#[x0, .pointer (some ⟨bs, 0, none⟩), x2, x3, x4, x5, x6, x7, x8, x9, x10, x11, x12, y13, y14, y15, y16, x17, x18, x19, x20, x21], df⟩ w') : RW Try.prog (opsC 5 Try.f73) false Q ⟨#[x0, .pointer (some ⟨bs, 0, none⟩), x2, x3, x4, x5, x6, x7, x8, x9, x10, x11, x12, x13, x14, x15, x16, x17, x18, x19, x20, x21], df⟩ w := by
  have HQ := Lib.hid hK
  clear hK
  refine rw_lin [(0, false), (1, false), (2, false), (3, false)] (by kernel_rfl) ?_
  refine wpOrdT_run (.pointer (some ⟨sg, 0, none⟩)) _ (some 13) ⟨by kernel_rfl, by kernel_rfl, by kernel_rfl⟩ (of_load (x := (.tmp 1)) (by kernel_rfl) (by kernel_rfl) (load_c ((fun _ => c1) (trivial)) Try.underlying25 rfl)) (fun _ => trivial) ?_
  refine wpOrdT_freesB [1, 2] [.pointer (some ⟨sg, 0, none⟩), .pointer (some ⟨sg, 2, none⟩)] (rest := [(3, false)]) (by kernel_rfl) (by kernel_rfl) (by kernel_rfl) (.inr trivial) ?_
  refine wpOrdT_call (some 16) ⟨by kernel_rfl, by kernel_rfl, by kernel_rfl⟩ hC (fun _ => by kernel_rfl) ?_
  rintro r w7 ⟨v7, rfl, hh⟩
  refine ⟨_, rfl, fun _ => trivial, ?_⟩
  exact wpOrdT_doneC (act_is (K := Q .normal) (by kernel_rfl) (HQ.out (.pointer (some ⟨sg, 0, none⟩)) (.pointer (some ⟨sg, 0, none⟩)) (.pointer (some ⟨sg, 2, none⟩)) (v7) w7 hh))
set_option maxHeartbeats 1000000 in
theorem kc6 {w : World} {by1 l : Nat} {u v : Value} (c1 : w.cell? ⟨by1, 0, none⟩ = some (.func (.yield l) #[] #[])) {x0 x1 x2 x6 x7 x8 x9 x10 x11 x12 x13 x14 x15 x16 x17 x18 x19 x20 x21 : Value} {df : List Deferred} {Q : Exit → Act → World → Prop}
    (hK : ∀  (w' : World), w' = w → Q .normal ⟨#[x0, x1, x2, .pointer (some ⟨by1, 0, none⟩), u, v, x6, x7, x8, x9, x10, x11, x12, x13, x14, x15, x16, .func (.yield l) #[] #[], u, v, x20, x21], df⟩ w') : RW Try.prog ((opsC 6 Try.f73).toList.take 3).toArray false Q ⟨#[x0, x1, x2, .pointer (some ⟨by1, 0, none⟩), u, v, x6, x7, x8, x9, x10, x11, x12, x13, x14, x15, x16, x17, x18, x19, x20, x21], df⟩ w := by
  have HQ := Lib.hid hK
  clear hK
  refine rw_lin [(0, false), (1, false), (2, false)] (by kernel_rfl) ?_
  refine wpOrdT_run (.func (.yield l) #[] #[]) _ (some 17) ⟨by kernel_rfl, by kernel_rfl, by kernel_rfl⟩ (of_load (x := (.tmp 3)) (by kernel_rfl) (by kernel_rfl) (load_c ((fun _ => c1) (trivial)) Try.underlying46 rfl)) (fun _ => trivial) ?_
  refine wpOrdT_freesB [1, 2] [u, v] (rest := []) (by kernel_rfl) (by kernel_rfl) (by kernel_rfl) (.inr trivial) ?_
  exact wpOrdT_doneC (act_is (K := Q .normal) (by kernel_rfl) (HQ.out  _ rfl))
set_option maxHeartbeats 1000000 in
theorem kp0 {w : World} {l : Nat} {x1 x2 x3 x4 x5 x6 x7 x8 x9 x10 x11 x12 x13 x14 x15 x16 x17 x18 x19 x20 x21 x22 x23 x24 : Value} {df : List Deferred} {Q : Exit → Act → World → Prop}
    (hK : ∀ (bq : Nat) (w' : World), bq = w.heap.size → w'.heap[bq]? = some (.cells #[.func (.yield l) #[] #[]] 46 (0, 0)) → Mods noB w w' → Q .normal ⟨#[.func (.yield l) #[] #[], x1, x2, .pointer (some ⟨bq, 0, none⟩), x4, x5, x6, x7, x8, x9, x10, x11, x12, x13, x14, x15, x16, x17, x18, x19, x20, x21, x22, x23, x24], df⟩ w') : RW Try.prog (opsC 0 Try.f52) false Q ⟨#[.func (.yield l) #[] #[], x1, x2, x3, x4, x5, x6, x7, x8, x9, x10, x11, x12, x13, x14, x15, x16, x17, x18, x19, x20, x21, x22, x23, x24], df⟩ w := by
  have HQ := Lib.hid hK
  clear hK
  refine rw_lin [(0, false)] (by kernel_rfl) ?_
  refine wpOrdT_alloc (.cells #[.func (.yield l) #[] #[]] 46) (some 3) ⟨by kernel_rfl, by kernel_rfl, by kernel_rfl⟩ (by kernel_rfl) ?_
  intro k1 w_k1 hk_k1 hO_k1 hm_k1 hl_k1
  refine ⟨fun _ => trivial, ?_⟩
  exact wpOrdT_doneC (act_is (K := Q .normal) (by kernel_rfl) (HQ.out  k1 w_k1 hk_k1 hO_k1 hm_k1))
set_option maxHeartbeats 1000000 in
theorem kp1 {w : World} {bs bp sg mg : Nat} {pv : Value} {X : Nat → Nat → Nat → World → Prop} (b1 : w.heap[bs]? = some (.cells #[.pointer (some ⟨sg, 0, none⟩)] 25 (0, 0))) (b2 : w.heap[bp]? = some (.cells #[pv] 32 (0, 0))) (b3 : w.cell? ⟨sg, 0, none⟩ = some (.pointer (some ⟨mg, 0, none⟩))) (b4 : sg < w.heap.size) (hC : ∀ b', Mods noB w b' → Calls Try.prog 43 #[.pointer (some ⟨mg, 0, none⟩), pv, .slice none 0 0] b' fun e w' => ∃ m bf bt, e = .returned (.func (.func 60) #[] #[.pointer (some ⟨m, 0, none⟩), .pointer (some ⟨bf, 0, none⟩), .pointer (some ⟨bt, 0, none⟩)]) ∧ X m bf bt w') {x0 x3 x4 x5 x6 x7 x8 x9 x10 x11 x12 x13 x14 x15 x16 x17 x18 x19 x20 x21 x22 x23 x24 : Value} {df : List Deferred} {Q : Exit → Act → World → Prop}
    (hK : ∀ (y6 y7 y8 y9 y10 : Value) (m bf bt : Nat) (w' : World), X m bf bt w' → Q .normal ⟨#[x0, .pointer (some ⟨bs, 0, none⟩), .pointer (some ⟨bp, 0, none⟩), x3, x4, x5, y6, y7, y8, y9, y10, .func (.func 60) #[] #[.pointer (some ⟨m, 0, none⟩), .pointer (some ⟨bf, 0, none⟩), .pointer (some ⟨bt, 0, none⟩)], x12, x13, x14, x15, x16, x17, x18, x19, x20, x21, x22, x23, x24], df⟩ w') : RW Try.prog (opsC 1 Try.f52) true Q ⟨#[x0, .pointer (some ⟨bs, 0, none⟩), .pointer (some ⟨bp, 0, none⟩), x3, x4, x5, x6, x7, x8, x9, x10, x11, x12, x13, x14, x15, x16, x17, x18, x19, x20, x21, x22, x23, x24], df⟩ w := by
  have HQ := Lib.hid hK
  clear hK
  have HC := Lib.hid hC
  have Q1 := Lib.hid (fun b' (hm : Mods noB w b') => cells_of (hm.heap b1 (fun x => x)) 0)
  have Q2 := Lib.hid (fun b' (hm : Mods noB w b') => cells_of (hm.heap b2 (fun x => x)) 0)
  have Q3 := Lib.hid (fun b' (hm : Mods noB w b') => (hm.cellAt b4 (fun x => x) 0).trans b3)
  clear hC b1 b2 b3
  have MR := Lib.hid ((Mods.refl noB w).drew)
  refine rw_ordT (S := fun b' => Mods noB w b') [(0, true), (1, true), (2, true), (3, true), (4, true), (5, false)] [5] (by kernel_rfl) (by kernel_rfl) (by kernel_rfl) (by kernel_rfl) MR.out ?_
  refine wpOrdT_free (.pointer (some ⟨sg, 0, none⟩)) (some 6) ⟨by kernel_rfl, by kernel_rfl, by kernel_rfl⟩ (fun bb hb => of_load (x := (.tmp 1)) (by kernel_rfl) (by kernel_rfl) (load_c (Q1.out _ hb) Try.underlying25 rfl)) ?_
  refine wpOrdT_frees [1, 2] [.pointer (some ⟨sg, 0, none⟩), .pointer (some ⟨sg, 0, none⟩)] (rest := [(3, true), (4, true), (5, false)]) (by kernel_rfl) (by kernel_rfl) (fun _ => by kernel_rfl) ?_
  refine wpOrdT_free (.pointer (some ⟨mg, 0, none⟩)) (some 9) ⟨by kernel_rfl, by kernel_rfl, by kernel_rfl⟩ (fun bb hb => of_load (x := (.tmp 8)) (by kernel_rfl) (by kernel_rfl) (load_c (Q3.out _ hb) Try.underlying58 rfl)) ?_
  refine wpOrdT_free (pv) (some 10) ⟨by kernel_rfl, by kernel_rfl, by kernel_rfl⟩ (fun bb hb => of_load (x := (.tmp 2)) (by kernel_rfl) (by kernel_rfl) (load_c (Q2.out _ hb) Try.underlying32 rfl)) ?_
  refine wpOrdT_call (some 11) ⟨by kernel_rfl, by kernel_rfl, by kernel_rfl⟩ (HC.out _ MR.out) (fun _ => by kernel_rfl) ?_
  rintro r w7 ⟨m, bf, bt, rfl, hx⟩
  refine ⟨_, rfl, (fun h => by cases h), ?_⟩
  exact wpOrdT_doneC (act_is (K := Q .normal) (by kernel_rfl) (HQ.out (.pointer (some ⟨sg, 0, none⟩)) (.pointer (some ⟨sg, 0, none⟩)) (.pointer (some ⟨sg, 0, none⟩)) (.pointer (some ⟨mg, 0, none⟩)) (pv) m bf bt w7 hx))
set_option maxHeartbeats 1000000 in
theorem kp2 {w : World} {u : Value} {x0 x1 x2 x3 x4 x5 x6 x7 x8 x9 x10 x11 x13 x14 x15 x16 x17 x18 x19 x20 x21 x22 x23 x24 : Value} {df : List Deferred} {Q : Exit → Act → World → Prop}
    (hK : ∀  (w' : World), w' = w → Q .normal ⟨#[x0, x1, x2, x3, u, x5, x6, x7, x8, x9, x10, x11, u, x13, x14, x15, x16, x17, x18, x19, x20, x21, x22, x23, x24], df⟩ w') : RW Try.prog (opsC 2 Try.f52) false Q ⟨#[x0, x1, x2, x3, x4, x5, x6, x7, x8, x9, x10, x11, u, x13, x14, x15, x16, x17, x18, x19, x20, x21, x22, x23, x24], df⟩ w := by
  have HQ := Lib.hid hK
  clear hK
  refine rw_lin [(0, false)] (by kernel_rfl) ?_
  refine wpOrdT_freesB [0] [u] (rest := []) (by kernel_rfl) (by kernel_rfl) (by kernel_rfl) (.inr trivial) ?_
  exact wpOrdT_doneC (act_is (K := Q .normal) (by kernel_rfl) (HQ.out  _ rfl))
set_option maxHeartbeats 1000000 in
theorem kp3 {w : World} {u : Value} {x0 x1 x2 x3 x4 x5 x6 x7 x8 x9 x10 x11 x12 x14 x15 x16 x17 x18 x19 x20 x21 x22 x23 x24 : Value} {df : List Deferred} {Q : Exit → Act → World → Prop}
    (hK : ∀  (w' : World), w' = w → Q .normal ⟨#[x0, x1, x2, x3, x4, u, x6, x7, x8, x9, x10, x11, x12, u, x14, x15, x16, x17, x18, x19, x20, x21, x22, x23, x24], df⟩ w') : RW Try.prog (opsC 3 Try.f52) false Q ⟨#[x0, x1, x2, x3, x4, x5, x6, x7, x8, x9, x10, x11, x12, u, x14, x15, x16, x17, x18, x19, x20, x21, x22, x23, x24], df⟩ w := by
  have HQ := Lib.hid hK
  clear hK
  refine rw_lin [(0, false)] (by kernel_rfl) ?_
  refine wpOrdT_freesB [0] [u] (rest := []) (by kernel_rfl) (by kernel_rfl) (by kernel_rfl) (.inr trivial) ?_
  exact wpOrdT_doneC (act_is (K := Q .normal) (by kernel_rfl) (HQ.out  _ rfl))
set_option maxHeartbeats 1000000 in
theorem kp4t {w : World} {bp by1 l : Nat} {pv u v : Value} (c1 : w.cell? ⟨bp, 0, none⟩ = some pv) (c2 : w.cell? ⟨by1, 0, none⟩ = some (.func (.yield l) #[] #[])) (hC : Calls Try.prog 53 #[u, pv] w fun e w' => e = .returned (.bool true) ∧ w' = w) {x0 x1 x6 x7 x8 x9 x10 x11 x12 x13 x14 x15 x16 x17 x18 x19 x20 x21 x22 x23 x24 : Value} {df : List Deferred} {Q : Exit → Act → World → Prop}
    (hK : ∀ (y14 y15 y16 y17 : Value)  (w' : World), w' = w → Q .normal ⟨#[x0, x1, .pointer (some ⟨bp, 0, none⟩), .pointer (some ⟨by1, 0, none⟩), u, v, x6, x7, x8, x9, x10, x11, x12, x13, y14, y15, y16, y17, .bool false, .func (.yield l) #[] #[], u, v, x22, x23, x24], df⟩ w') : RW Try.prog ((opsC 4 Try.f52).toList.take 8).toArray false Q ⟨#[x0, x1, .pointer (some ⟨bp, 0, none⟩), .pointer (some ⟨by1, 0, none⟩), u, v, x6, x7, x8, x9, x10, x11, x12, x13, x14, x15, x16, x17, x18, x19, x20, x21, x22, x23, x24], df⟩ w := by
  have HQ := Lib.hid hK
  clear hK
  refine rw_lin [(0, false), (1, false), (2, false), (3, false), (4, false), (5, false), (6, false), (7, false)] (by kernel_rfl) ?_
  refine wpOrdT_freesB [0] [u] (rest := [(1, false), (2, false), (3, false), (4, false), (5, false), (6, false), (7, false)]) (by kernel_rfl) (by kernel_rfl) (by kernel_rfl) (.inr trivial) ?_
  refine wpOrdT_run (pv) _ (some 15) ⟨by kernel_rfl, by kernel_rfl, by kernel_rfl⟩ (of_load (x := (.tmp 2)) (by kernel_rfl) (by kernel_rfl) (load_c ((fun _ => c1) (trivial)) Try.underlying32 rfl)) (fun _ => trivial) ?_
  refine wpOrdT_call (some 16) ⟨by kernel_rfl, by kernel_rfl, by kernel_rfl⟩ hC (fun _ => by kernel_rfl) ?_
  rintro r w7 ⟨rfl, rfl⟩
  refine ⟨_, rfl, fun _ => trivial, ?_⟩
  refine wpOrdT_freesB [3, 4] [.bool false, .bool false] (rest := [(5, false), (6, false), (7, false)]) (by kernel_rfl) (by kernel_rfl) (by kernel_rfl) (.inr trivial) ?_
  refine wpOrdT_run (.func (.yield l) #[] #[]) _ (some 19) ⟨by kernel_rfl, by kernel_rfl, by kernel_rfl⟩ (of_load (x := (.tmp 3)) (by kernel_rfl) (by kernel_rfl) (load_c ((fun _ => c2) (trivial)) Try.underlying46 rfl)) (fun _ => trivial) ?_
  refine wpOrdT_freesB [6, 7] [u, v] (rest := []) (by kernel_rfl) (by kernel_rfl) (by kernel_rfl) (.inr trivial) ?_
  exact wpOrdT_doneC (act_is (K := Q .normal) (by kernel_rfl) (HQ.out (u) (pv) (.bool true) (.bool false) _ rfl))
set_option maxHeartbeats 1000000 in
theorem kp4f {w : World} {bp by1 l : Nat} {pv u v : Value} (c1 : w.cell? ⟨bp, 0, none⟩ = some pv) (c2 : w.cell? ⟨by1, 0, none⟩ = some (.func (.yield l) #[] #[])) (hC : Calls Try.prog 53 #[u, pv] w fun e w' => e = .returned (.bool false) ∧ w' = w) {x0 x1 x6 x7 x8 x9 x10 x11 x12 x13 x14 x15 x16 x17 x18 x19 x20 x21 x22 x23 x24 : Value} {df : List Deferred} {Q : Exit → Act → World → Prop}
    (hK : ∀ (y14 y15 y16 y17 y18 y19 y20 y21 y22 y23 : Value)  (w' : World), w' = w → Q .normal ⟨#[x0, x1, .pointer (some ⟨bp, 0, none⟩), .pointer (some ⟨by1, 0, none⟩), u, v, x6, x7, x8, x9, x10, x11, x12, x13, y14, y15, y16, y17, y18, y19, y20, y21, y22, y23, .bool true], df⟩ w') : RW Try.prog (opsC 4 Try.f52) false Q ⟨#[x0, x1, .pointer (some ⟨bp, 0, none⟩), .pointer (some ⟨by1, 0, none⟩), u, v, x6, x7, x8, x9, x10, x11, x12, x13, x14, x15, x16, x17, x18, x19, x20, x21, x22, x23, x24], df⟩ w := by
  have HQ := Lib.hid hK
  clear hK
  refine rw_lin [(0, false), (1, false), (2, false), (3, false), (4, false), (5, false), (6, false), (7, false), (8, false), (9, false), (10, false)] (by kernel_rfl) ?_
  refine wpOrdT_freesB [0] [u] (rest := [(1, false), (2, false), (3, false), (4, false), (5, false), (6, false), (7, false), (8, false), (9, false), (10, false)]) (by kernel_rfl) (by kernel_rfl) (by kernel_rfl) (.inr trivial) ?_
  refine wpOrdT_run (pv) _ (some 15) ⟨by kernel_rfl, by kernel_rfl, by kernel_rfl⟩ (of_load (x := (.tmp 2)) (by kernel_rfl) (by kernel_rfl) (load_c ((fun _ => c1) (trivial)) Try.underlying32 rfl)) (fun _ => trivial) ?_
  refine wpOrdT_call (some 16) ⟨by kernel_rfl, by kernel_rfl, by kernel_rfl⟩ hC (fun _ => by kernel_rfl) ?_
  rintro r w7 ⟨rfl, rfl⟩
  refine ⟨_, rfl, fun _ => trivial, ?_⟩
  refine wpOrdT_freesB [3, 4, 5, 6, 7, 8, 9, 10] [.bool true, .bool true, undef, undef, undef, undef, undef, .bool true] (rest := []) (by kernel_rfl) (by kernel_rfl) (by kernel_rfl) (.inr trivial) ?_
  exact wpOrdT_doneC (act_is (K := Q .normal) (by kernel_rfl) (HQ.out (u) (pv) (.bool false) (.bool true) (.bool true) (undef) (undef) (undef) (undef) (undef) _ rfl))
end Go.Proofs.Ytngemlpalkfjeaa

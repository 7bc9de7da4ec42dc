/- bank.coins, bank.Sum: their regions (printed by gen_cns.py). -/
import Derived.Test.YtglkmaalpammcaaGreatZE
import Derived.Test.YtglkmaalpammcaaGreatZC
import Derived.Test.YtglkmaalpammcaaGreatZB
namespace Go.Proofs.YtglkmaalpammcaaGreat
open Go.Gl Go.RowKit
set_option linter.unusedVariables false
set_option linter.unusedSimpArgs false
set_option maxRecDepth 100000
set_option maxHeartbeats 1000000 in
theorem cn0 {w : World} {l : Nat} {x1 x2 x3 x4 x5 x6 x7 x8 x9 x10 x11 x12 x13 x14 x15 x16 x17 x18 x19 x20 x21 x22 : Value} {df : List Deferred} {Q : Exit → Act → World → Prop}
  (hK : ∀ (bq : Nat) (w' : World), bq = w.heap.size → w'.heap[bq]? = some (.cells #[.func (.yield l) #[] #[]] 141 (0, 0)) → Mods noB w w' → Q .normal ⟨#[.func (.yield l) #[] #[], x1, x2, .pointer (some ⟨bq, 0, none⟩), x4, x5, x6, x7, x8, x9, x10, x11, x12, x13, x14, x15, x16, x17, x18, x19, x20, x21, x22], df⟩ w') : RW Tryz.prog (opsC 0 Tryz.f167) false Q ⟨#[.func (.yield l) #[] #[], x1, x2, x3, x4, x5, x6, x7, x8, x9, x10, x11, x12, x13, x14, x15, x16, x17, x18, x19, x20, x21, x22], df⟩ w := by
 have HQ := Lib.hid hK
 clear hK
 refine rw_lin [(0, false)] (by kernel_rfl) ?_
 refine wpOrdT_alloc (.cells #[.func (.yield l) #[] #[]] 141) (some 3) ⟨by kernel_rfl, by kernel_rfl, by kernel_rfl⟩ (by kernel_rfl) ?_
 intro k1 w_k1 hk_k1 hO_k1 hm_k1 hl_k1
 refine ⟨fun _ => trivial, ?_⟩
 exact wpOrdT_doneC (act_is (K := Q .normal) (by kernel_rfl) (HQ.out  k1 w_k1 hk_k1 hO_k1 hm_k1))
set_option maxHeartbeats 1000000 in
theorem cn1 {w : World} {bs bh sg : Nat} {pv : Value} {X : Array Value → World → Prop} (c1 : w.cell? ⟨bs, 0, none⟩ = some (.pointer (some ⟨sg, 0, none⟩))) (c2 : w.cell? ⟨bh, 0, none⟩ = some pv) (hC : Calls Tryz.prog 114 #[.pointer (some ⟨sg, 0, none⟩), pv] w fun e w' => ∃ lb, e = .returned (.func (.func 244) #[] lb) ∧ X lb w') {x0 x3 x4 x5 x6 x7 x8 x9 x10 x11 x12 x13 x14 x15 x16 x17 x18 x19 x20 x21 x22 : Value} {df : List Deferred} {Q : Exit → Act → World → Prop}
  (hK : ∀ (y8 y9 : Value) (lb : Array Value) (w' : World), X lb w' → Q .normal ⟨#[x0, .pointer (some ⟨bs, 0, none⟩), .pointer (some ⟨bh, 0, none⟩), x3, x4, x5, x6, x7, y8, y9, .func (.func 244) #[] lb, x11, x12, x13, x14, x15, x16, x17, x18, x19, x20, x21, x22], df⟩ w') : RW Tryz.prog (opsC 1 Tryz.f167) false Q ⟨#[x0, .pointer (some ⟨bs, 0, none⟩), .pointer (some ⟨bh, 0, none⟩), x3, x4, x5, x6, x7, x8, x9, x10, x11, x12, x13, x14, x15, x16, x17, x18, x19, x20, x21, x22], df⟩ w := by
 have HQ := Lib.hid hK
 clear hK
 refine rw_lin [(0, false), (1, false), (2, false)] (by kernel_rfl) ?_
 refine wpOrdT_run (.pointer (some ⟨sg, 0, none⟩)) _ (some 8) ⟨by kernel_rfl, by kernel_rfl, by kernel_rfl⟩ (of_load (x := (.tmp 1)) (by kernel_rfl) (by kernel_rfl) (load_c ((fun _ => c1) (trivial)) Tryz.underlying26 rfl)) (fun _ => trivial) ?_
 refine wpOrdT_run (pv) _ (some 9) ⟨by kernel_rfl, by kernel_rfl, by kernel_rfl⟩ (of_load (x := (.tmp 2)) (by kernel_rfl) (by kernel_rfl) (load_c ((fun _ => c2) (trivial)) Tryz.underlying91 rfl)) (fun _ => trivial) ?_
 refine wpOrdT_call (some 10) ⟨by kernel_rfl, by kernel_rfl, by kernel_rfl⟩ hC (fun _ => by kernel_rfl) ?_
 rintro r w7 ⟨lb, rfl, hx⟩
 refine ⟨_, rfl, fun _ => trivial, ?_⟩
 exact wpOrdT_doneC (act_is (K := Q .normal) (by kernel_rfl) (HQ.out (.pointer (some ⟨sg, 0, none⟩)) (pv) lb w7 hx))
set_option maxHeartbeats 1000000 in
theorem cn2 {w : World} {u : Value} {x0 x1 x2 x3 x4 x5 x6 x7 x8 x9 x10 x11 x13 x14 x15 x16 x17 x18 x19 x20 x21 x22 : Value} {df : List Deferred} {Q : Exit → Act → World → Prop}
  (hK : ∀  (w' : World), w' = w → Q .normal ⟨#[x0, x1, x2, x3, x4, u, x6, x7, x8, x9, x10, x11, u, x13, x14, x15, x16, x17, x18, x19, x20, x21, x22], df⟩ w') : RW Tryz.prog (opsC 2 Tryz.f167) false Q ⟨#[x0, x1, x2, x3, x4, x5, x6, x7, x8, x9, x10, x11, u, x13, x14, x15, x16, x17, x18, x19, x20, x21, x22], df⟩ w := by
 have HQ := Lib.hid hK
 clear hK
 refine rw_lin [(0, false)] (by kernel_rfl) ?_
 refine wpOrdT_freesB [0] [u] (rest := []) (by kernel_rfl) (by kernel_rfl) (by kernel_rfl) (.inr trivial) ?_
 exact wpOrdT_doneC (act_is (K := Q .normal) (by kernel_rfl) (HQ.out  _ rfl))
set_option maxHeartbeats 1000000 in
theorem cn3 {w : World} {u : Value} {X : Nat → Nat → World → Prop} (hC : Calls Tryz.prog 95 #[u] w fun e w' => ∃ (n0 n1 : Nat) (er : Value), e = .returned (.tuple #[.agg #[.int .u64 ((n0 : Nat) : Int), .int .u64 ((n1 : Nat) : Int)], er]) ∧ X n0 n1 w') {x0 x1 x2 x3 x4 x6 x7 x8 x9 x10 x11 x12 x13 x14 x15 x16 x17 x18 x19 x20 x21 x22 : Value} {df : List Deferred} {Q : Exit → Act → World → Prop}
  (hK : ∀ (y7 y13 y14 y15 y16 y17 : Value) (n0 n1 bq : Nat) (wc : World) (w' : World), X n0 n1 wc → wc.heap.size ≤ bq → w'.heap[bq]? = some (.cells #[.int .u64 ((n0 : Nat) : Int), .int .u64 ((n1 : Nat) : Int)] 59 (0, 0)) → Mods noB wc w' → Q .normal ⟨#[x0, x1, x2, x3, x4, u, .pointer (some ⟨bq, 0, none⟩), y7, x8, x9, x10, x11, x12, y13, y14, y15, y16, y17, x18, x19, x20, x21, x22], df⟩ w') : RW Tryz.prog (opsC 3 Tryz.f167) false Q ⟨#[x0, x1, x2, x3, x4, u, x6, x7, x8, x9, x10, x11, x12, x13, x14, x15, x16, x17, x18, x19, x20, x21, x22], df⟩ w := by
 have HQ := Lib.hid hK
 clear hK
 refine rw_lin [(0, false), (1, false), (2, false), (3, false), (4, false), (5, false), (6, false), (7, false)] (by kernel_rfl) ?_
 refine wpOrdT_freesB [0] [u] (rest := [(1, false), (2, false), (3, false), (4, false), (5, false), (6, false), (7, false)]) (by kernel_rfl) (by kernel_rfl) (by kernel_rfl) (.inr trivial) ?_
 refine wpOrdT_call (some 15) ⟨by kernel_rfl, by kernel_rfl, by kernel_rfl⟩ hC (fun _ => by kernel_rfl) ?_
 rintro r w7 ⟨n0, n1, er, rfl, hx⟩
 refine ⟨_, rfl, fun _ => trivial, ?_⟩
 refine wpOrdT_freesB [2, 3, 4] [.tuple #[.agg #[.int .u64 ((n0 : Nat) : Int), .int .u64 ((n1 : Nat) : Int)], er], .agg #[.int .u64 ((n0 : Nat) : Int), .int .u64 ((n1 : Nat) : Int)], er] (rest := [(5, false), (6, false), (7, false)]) (by kernel_rfl) (by kernel_rfl) (by kernel_rfl) (.inr trivial) ?_
 refine wpOrdT_alloc (.cells #[.int .u64 0, .int .u64 0] 59) (some 6) ⟨by kernel_rfl, by kernel_rfl, by kernel_rfl⟩ (by kernel_rfl) ?_
 intro k1 w_k1 hk_k1 hO_k1 hm_k1 hl_k1
 refine ⟨fun _ => trivial, ?_⟩
 refine wpOrdT_store (off := 0) (ty := 59) (x := (.tmp 6)) (y := (.tmp 16)) (cells := #[.int .u64 ((n0 : Nat) : Int), .int .u64 ((n1 : Nat) : Int)]) #[.int .u64 ((n0 : Nat) : Int), .int .u64 ((n1 : Nat) : Int)] none ⟨by kernel_rfl, by kernel_rfl, by kernel_rfl⟩ (by kernel_rfl) (by kernel_rfl) (by kernel_rfl) hO_k1 (by kernel_rfl) (by kernel_rfl) (by kernel_rfl) (by kernel_rfl) ?_
 intro w9 hO9 hm9 hs9
 refine ⟨fun _ => trivial, ?_⟩
 have hM := hm_k1.trans hm9 (U := noB) (fun _ _ x => x) (fun i hi e => by omega)
 refine wpOrdT_freesB [7] [er] (rest := []) (by kernel_rfl) (by kernel_rfl) (by kernel_rfl) (.inr trivial) ?_
 exact wpOrdT_doneC (act_is (K := Q .normal) (by kernel_rfl) (HQ.out (er) (.tuple #[.agg #[.int .u64 ((n0 : Nat) : Int), .int .u64 ((n1 : Nat) : Int)], er]) (u) (.tuple #[.agg #[.int .u64 ((n0 : Nat) : Int), .int .u64 ((n1 : Nat) : Int)], er]) (.agg #[.int .u64 ((n0 : Nat) : Int), .int .u64 ((n1 : Nat) : Int)]) (er) n0 n1 k1 w7 w9 hx (Nat.le_of_eq hk_k1.symm) hO9 hM))
set_option maxHeartbeats 1000000 in
theorem cn4 {w : World} {by1 ba l : Nat} {u : Value} (c1 : w.cell? ⟨by1, 0, none⟩ = some (.func (.yield l) #[] #[])) (c2 : w.cell? ⟨ba, 0, none⟩ = some u) {x0 x1 x2 x4 x5 x7 x8 x9 x10 x11 x12 x13 x14 x15 x16 x17 x18 x19 x20 x21 x22 : Value} {df : List Deferred} {Q : Exit → Act → World → Prop}
  (hK : ∀ (y19 : Value)  (w' : World), w' = w → Q .normal ⟨#[x0, x1, x2, .pointer (some ⟨by1, 0, none⟩), x4, x5, .pointer (some ⟨ba, 0, none⟩), x7, x8, x9, x10, x11, x12, x13, x14, x15, x16, x17, .func (.yield l) #[] #[], y19, u, x21, x22], df⟩ w') : RW Tryz.prog ((opsC 4 Tryz.f167).toList.take 3).toArray false Q ⟨#[x0, x1, x2, .pointer (some ⟨by1, 0, none⟩), x4, x5, .pointer (some ⟨ba, 0, none⟩), x7, x8, x9, x10, x11, x12, x13, x14, x15, x16, x17, x18, x19, x20, x21, x22], df⟩ w := by
 have HQ := Lib.hid hK
 clear hK
 refine rw_lin [(0, false), (1, false), (2, false)] (by kernel_rfl) ?_
 refine wpOrdT_run (.func (.yield l) #[] #[]) _ (some 18) ⟨by kernel_rfl, by kernel_rfl, by kernel_rfl⟩ (of_load (x := (.tmp 3)) (by kernel_rfl) (by kernel_rfl) (load_c ((fun _ => c1) (trivial)) Tryz.underlying141 rfl)) (fun _ => trivial) ?_
 refine wpOrdT_freesB [1] [.pointer (some ⟨ba, 0, none⟩)] (rest := [(2, false)]) (by kernel_rfl) (by kernel_rfl) (by kernel_rfl) (.inr trivial) ?_
 refine wpOrdT_run (u) _ (some 20) ⟨by kernel_rfl, by kernel_rfl, by kernel_rfl⟩ (of_load (x := (.tmp 19)) (by kernel_rfl) (by kernel_rfl) (load_c ((fun _ => c2) (trivial)) Tryz.underlying22 rfl)) (fun _ => trivial) ?_
 exact wpOrdT_doneC (act_is (K := Q .normal) (by kernel_rfl) (HQ.out (.pointer (some ⟨ba, 0, none⟩)) _ rfl))
set_option maxHeartbeats 1000000 in
theorem su0 {w : World} {x0 x1 x2 x3 x4 x5 x6 x7 x8 x9 x10 x11 x12 : Value} {df : List Deferred} {Q : Exit → Act → World → Prop}
  (hK : ∀  (w' : World), w' = w → Q .normal ⟨#[x0, x1, .slice none 0 0, x3, x4, x5, x6, x7, x8, x9, x10, x11, x12], df⟩ w') : RW Tryz.prog (opsC 0 Tryz.f29) false Q ⟨#[x0, x1, x2, x3, x4, x5, x6, x7, x8, x9, x10, x11, x12], df⟩ w := by
 have HQ := Lib.hid hK
 clear hK
 refine rw_lin [(0, false)] (by kernel_rfl) ?_
 refine wpOrdT_freesB [0] [(.slice none 0 0)] (rest := []) (by kernel_rfl) (by kernel_rfl) (by kernel_rfl) (.inr trivial) ?_
 exact wpOrdT_doneC (act_is (K := Q .normal) (by kernel_rfl) (HQ.out  _ rfl))
set_option maxHeartbeats 1000000 in
theorem su1 {w : World} {x0 x1 x2 x3 x4 x5 x6 x7 x8 x9 x10 x11 x12 : Value} {df : List Deferred} {Q : Exit → Act → World → Prop}
  (hK : ∀ (bq : Nat) (w' : World), bq = w.heap.size → w'.heap[bq]? = some (.cells #[.slice none 0 0] 64 (0, 0)) → Mods noB w w' → Q .normal ⟨#[x0, x1, x2, .pointer (some ⟨bq, 0, none⟩), x4, x5, x6, x7, x8, x9, x10, x11, x12], df⟩ w') : RW Tryz.prog (opsC 1 Tryz.f29) false Q ⟨#[x0, x1, x2, x3, x4, x5, x6, x7, x8, x9, x10, x11, x12], df⟩ w := by
 have HQ := Lib.hid hK
 clear hK
 refine rw_lin [(0, false)] (by kernel_rfl) ?_
 refine wpOrdT_alloc (.cells #[.slice none 0 0] 64) (some 3) ⟨by kernel_rfl, by kernel_rfl, by kernel_rfl⟩ (by kernel_rfl) ?_
 intro k1 w_k1 hk_k1 hO_k1 hm_k1 hl_k1
 refine ⟨fun _ => trivial, ?_⟩
 exact wpOrdT_doneC (act_is (K := Q .normal) (by kernel_rfl) (HQ.out  k1 w_k1 hk_k1 hO_k1 hm_k1))
set_option maxHeartbeats 1000000 in
theorem su2 {w : World} {u : Value} {X : Array Value → World → Prop} (hC : Calls Tryz.prog 98 #[u] w fun e w' => ∃ lb, e = .returned (.func (.func 167) #[] lb) ∧ X lb w') {x1 x2 x3 x4 x5 x6 x7 x8 x9 x10 x11 x12 : Value} {df : List Deferred} {Q : Exit → Act → World → Prop}
  (hK : ∀ (y5 : Value) (lb : Array Value) (w' : World), X lb w' → Q .normal ⟨#[u, x1, x2, x3, x4, y5, .func (.func 167) #[] lb, x7, x8, x9, x10, x11, x12], df⟩ w') : RW Tryz.prog (opsC 2 Tryz.f29) false Q ⟨#[u, x1, x2, x3, x4, x5, x6, x7, x8, x9, x10, x11, x12], df⟩ w := by
 have HQ := Lib.hid hK
 clear hK
 refine rw_lin [(0, false), (1, false)] (by kernel_rfl) ?_
 refine wpOrdT_freesB [0] [u] (rest := [(1, false)]) (by kernel_rfl) (by kernel_rfl) (by kernel_rfl) (.inr trivial) ?_
 refine wpOrdT_call (some 6) ⟨by kernel_rfl, by kernel_rfl, by kernel_rfl⟩ hC (fun _ => by kernel_rfl) ?_
 rintro r w7 ⟨lb, rfl, hx⟩
 refine ⟨_, rfl, fun _ => trivial, ?_⟩
 exact wpOrdT_doneC (act_is (K := Q .normal) (by kernel_rfl) (HQ.out (u) lb w7 hx))
set_option maxHeartbeats 1000000 in
theorem su3 {w : World} {u : Value} {x0 x1 x2 x3 x4 x5 x6 x8 x9 x10 x11 x12 : Value} {df : List Deferred} {Q : Exit → Act → World → Prop}
  (hK : ∀  (w' : World), w' = w → Q .normal ⟨#[x0, x1, x2, x3, u, x5, x6, u, x8, x9, x10, x11, x12], df⟩ w') : RW Tryz.prog (opsC 3 Tryz.f29) false Q ⟨#[x0, x1, x2, x3, x4, x5, x6, u, x8, x9, x10, x11, x12], df⟩ w := by
 have HQ := Lib.hid hK
 clear hK
 refine rw_lin [(0, false)] (by kernel_rfl) ?_
 refine wpOrdT_freesB [0] [u] (rest := []) (by kernel_rfl) (by kernel_rfl) (by kernel_rfl) (.inr trivial) ?_
 exact wpOrdT_doneC (act_is (K := Q .normal) (by kernel_rfl) (HQ.out  _ rfl))
set_option maxHeartbeats 1000000 in
theorem su4 {w : World} {ob : Nat} {u x : Value} {X : World → Value → Prop} {Y : World → Value → Prop} (ha : w.heap[ob]? = some (.cells #[u] 64 (0, 0))) (C1 : ∀ b', Mods noB w b' → Calls Tryz.prog 100 #[x] b' fun e w' => ∃ f, e = .returned f ∧ X w' f) (C2 : ∀ b' f, X b' f → Calls Tryz.prog 99 #[u, f] b' fun e w' => ∃ v, e = .returned v ∧ Y w' v) (h1 : ∀ w' f, X w' f → Mods noB w w') (h2 : ∀ w' v, Y w' v → w'.cell? ⟨ob, 0, none⟩ = some u) (h3 : ∀ w' v, Y w' v → w'.frozen? ⟨ob, 0, none⟩ = false) (h4 : ∀ w' v, Y w' v → v.oneCell' = true) {x0 x1 x2 x5 x6 x7 x8 x9 x10 x11 x12 : Value} {df : List Deferred} {Q : Exit → Act → World → Prop}
  (hK : ∀ (y8 y9 y10 y11 : Value) (v : Value) (wc : World) (w' : World), Y wc v → w' = wc.setCell ⟨ob, 0, none⟩ v → Q .normal ⟨#[x0, x1, x2, .pointer (some ⟨ob, 0, none⟩), x, x5, x6, x7, y8, y9, y10, y11, x12], df⟩ w') : RW Tryz.prog (opsC 4 Tryz.f29) true Q ⟨#[x0, x1, x2, .pointer (some ⟨ob, 0, none⟩), x, x5, x6, x7, x8, x9, x10, x11, x12], df⟩ w := by
 have HQ := Lib.hid hK
 clear hK
 have D1 := Lib.hid C1
 have D2 := Lib.hid C2
 have H1 := Lib.hid h1
 have G1 := Lib.hid h2
 have G2 := Lib.hid h3
 have G3 := Lib.hid h4
 clear C1 C2 h1 h2 h3 h4
 have QA := Lib.hid (fun b' (hm : Mods noB w b') => cells_of (hm.heap ha (fun x => x)) 0)
 clear ha
 have MR := Lib.hid ((Mods.refl noB w).drew)
 refine rw_ordT (S := fun b' => Mods noB w b') [(0, true), (1, true), (2, false), (3, false), (4, false)] [3, 4] (by kernel_rfl) (by kernel_rfl) (by kernel_rfl) (by kernel_rfl) MR.out ?_
 refine wpOrdT_free (u) (some 8) ⟨by kernel_rfl, by kernel_rfl, by kernel_rfl⟩ (fun bb hb => of_load (x := (.tmp 3)) (by kernel_rfl) (by kernel_rfl) (load_c (QA.out _ hb) Tryz.underlying64 rfl)) ?_
 refine wpOrdT_frees [1] [x] (rest := [(2, false), (3, false), (4, false)]) (by kernel_rfl) (by kernel_rfl) (fun _ => by kernel_rfl) ?_
 refine wpOrdT_call (some 10) ⟨by kernel_rfl, by kernel_rfl, by kernel_rfl⟩ (D1.out _ MR.out) (fun _ => by kernel_rfl) ?_
 rintro r w7 ⟨f7, rfl, h7⟩
 replace MR := Lib.hid (H1.out _ _ h7)
 refine ⟨_, rfl, fun _ => MR.out, ?_⟩
 refine wpOrdT_call (some 11) ⟨by kernel_rfl, by kernel_rfl, by kernel_rfl⟩ (D2.out _ _ h7) (fun _ => by kernel_rfl) ?_
 rintro r w8 ⟨v8, rfl, h8⟩
 refine ⟨_, rfl, (fun h => by cases h), ?_⟩
 refine wpOrdT_st1 (ty := 64) (x := (.tmp 3)) (y := (.tmp 11)) (g := ob) (off := 0) (v := v8) none ⟨by kernel_rfl, by kernel_rfl, by kernel_rfl⟩ (by kernel_rfl) (by kernel_rfl) (by kernel_rfl) (by kernel_rfl) (by rw [G1.out _ _ h8]; rfl) (G2.out _ _ h8) (G3.out _ _ h8) ?_
 intro w9 hw9
 refine ⟨(fun h => by first | (cases h; done) | exact trivial), ?_⟩
 exact wpOrdT_doneC (act_is (K := Q .normal) (by kernel_rfl) (HQ.out (u) (x) (f7) (v8) v8 w8 w9 h8 hw9))
set_option maxHeartbeats 1000000 in
theorem su5 {w : World} {ob : Nat} {v : Value} (q0 : w.cell? ⟨ob, 0, none⟩ = some v) {x0 x1 x2 x4 x5 x6 x7 x8 x9 x10 x11 x12 : Value} {df : List Deferred} {Q : Exit → Act → World → Prop}
  (hK : ∀ (y12 : Value)  (w' : World), w' = w → Q .normal ⟨#[x0, x1, v, .pointer (some ⟨ob, 0, none⟩), x4, x5, x6, x7, x8, x9, x10, x11, y12], df⟩ w') : RW Tryz.prog (opsC 5 Tryz.f29) false Q ⟨#[x0, x1, x2, .pointer (some ⟨ob, 0, none⟩), x4, x5, x6, x7, x8, x9, x10, x11, x12], df⟩ w := by
 have HQ := Lib.hid hK
 clear hK
 refine rw_lin [(0, false), (1, false)] (by kernel_rfl) ?_
 refine wpOrdT_run (v) _ (some 12) ⟨by kernel_rfl, by kernel_rfl, by kernel_rfl⟩ (of_load (x := (.tmp 3)) (by kernel_rfl) (by kernel_rfl) (load_c ((fun _ => q0) (trivial)) Tryz.underlying64 rfl)) (fun _ => trivial) ?_
 refine wpOrdT_freesB [1] [v] (rest := []) (by kernel_rfl) (by kernel_rfl) (by kernel_rfl) (.inr trivial) ?_
 exact wpOrdT_doneC (act_is (K := Q .normal) (by kernel_rfl) (HQ.out (v) _ rfl))
end Go.Proofs.YtglkmaalpammcaaGreat

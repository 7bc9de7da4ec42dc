/- kv.Store.Dump, gleanlaw6.taken: their regions (printed by gen_kvdm.py). -/
import Derived.Test.YtngemlpalkfjeaaKvWd
import Derived.Test.YtngemlpalkfjeaaZC
import Derived.Test.YtngemlpalkfjeaaHSpoil
import Derived.Test.YtngemlpalkfjeaaZB
namespace Go.Proofs.Ytngemlpalkfjeaa
open Go.Gl Go.RowKit
set_option linter.unusedVariables false
set_option linter.unusedSimpArgs false
set_option maxRecDepth 100000
theorem infoPr : (Try.prog.info? 45).map (fun i => (i.zero, i.size, i.bytes)) = some (some (.agg #[.slice none 0 0, .slice none 0 0]), 2, 48) := by kernel_rfl
set_option maxHeartbeats 1000000 in
theorem dm0 {w : World} {x0 x1 x2 x3 x4 x5 x6 x7 x8 x9 x10 x11 x12 x13 x14 x15 x16 x17 x18 x19 : Value} {df : List Deferred} {Q : Exit → Act → World → Prop}
    (hK : ∀  (w' : World), w' = w → Q .normal ⟨#[x0, x1, .slice none 0 0, x3, x4, x5, x6, x7, x8, x9, x10, x11, x12, x13, x14, x15, x16, x17, x18, x19], df⟩ w') : RW Try.prog (opsC 0 Try.f15) false Q ⟨#[x0, x1, x2, x3, x4, x5, x6, x7, x8, x9, x10, x11, x12, x13, x14, x15, x16, x17, x18, x19], df⟩ w := by
  have HQ := Lib.hid hK
  clear hK
  refine rw_lin [(0, false)] (by kernel_rfl) ?_
  refine wpOrdT_freesB [0] [(.slice none 0 0)] (rest := []) (by kernel_rfl) (by kernel_rfl) (by kernel_rfl) (.inr trivial) ?_
  exact wpOrdT_doneC (act_is (K := Q .normal) (by kernel_rfl) (HQ.out  _ rfl))
set_option maxHeartbeats 1000000 in
theorem dm1 {w : World} {x0 x1 x2 x3 x4 x5 x6 x7 x8 x9 x10 x11 x12 x13 x14 x15 x16 x17 x18 x19 : Value} {df : List Deferred} {Q : Exit → Act → World → Prop}
    (hK : ∀ (bq : Nat) (w' : World), bq = w.heap.size → w'.heap[bq]? = some (.cells #[.slice none 0 0] 28 (0, 0)) → Mods noB w w' → Q .normal ⟨#[x0, x1, x2, .pointer (some ⟨bq, 0, none⟩), x4, x5, x6, x7, x8, x9, x10, x11, x12, x13, x14, x15, x16, x17, x18, x19], df⟩ w') : RW Try.prog (opsC 1 Try.f15) false Q ⟨#[x0, x1, x2, x3, x4, x5, x6, x7, x8, x9, x10, x11, x12, x13, x14, x15, x16, x17, x18, x19], df⟩ w := by
  have HQ := Lib.hid hK
  clear hK
  refine rw_lin [(0, false)] (by kernel_rfl) ?_
  refine wpOrdT_alloc (.cells #[.slice none 0 0] 28) (some 3) ⟨by kernel_rfl, by kernel_rfl, by kernel_rfl⟩ (by kernel_rfl) ?_
  intro k1 w_k1 hk_k1 hO_k1 hm_k1 hl_k1
  refine ⟨fun _ => trivial, ?_⟩
  exact wpOrdT_doneC (act_is (K := Q .normal) (by kernel_rfl) (HQ.out  k1 w_k1 hk_k1 hO_k1 hm_k1))
set_option maxHeartbeats 1000000 in
theorem dm2 {w : World} {sg mg : Nat} {X : Nat → Nat → Nat → Value → Value → World → Prop} (c1 : w.cell? ⟨sg, 0, none⟩ = some (.pointer (some ⟨mg, 0, none⟩))) (hC : Calls Try.prog 43 #[.pointer (some ⟨mg, 0, none⟩), .slice none 0 0, .slice none 0 0] w fun e w' => ∃ m bf bt fv' tv', e = .returned (.func (.func 60) #[] #[.pointer (some ⟨m, 0, none⟩), .pointer (some ⟨bf, 0, none⟩), .pointer (some ⟨bt, 0, none⟩)]) ∧ X m bf bt fv' tv' w') {x1 x2 x3 x4 x5 x6 x7 x8 x9 x10 x11 x12 x13 x14 x15 x16 x17 x18 x19 : Value} {df : List Deferred} {Q : Exit → Act → World → Prop}
    (hK : ∀ (y6 y7 y8 y9 : Value) (m bf bt : Nat) (fv' tv' : Value) (w' : World), X m bf bt fv' tv' w' → Q .normal ⟨#[.pointer (some ⟨sg, 0, none⟩), x1, x2, x3, x4, x5, y6, y7, y8, y9, .func (.func 60) #[] #[.pointer (some ⟨m, 0, none⟩), .pointer (some ⟨bf, 0, none⟩), .pointer (some ⟨bt, 0, none⟩)], x11, x12, x13, x14, x15, x16, x17, x18, x19], df⟩ w') : RW Try.prog (opsC 2 Try.f15) false Q ⟨#[.pointer (some ⟨sg, 0, none⟩), x1, x2, x3, x4, x5, x6, x7, x8, x9, x10, x11, x12, x13, x14, x15, x16, x17, x18, x19], df⟩ w := by
  have HQ := Lib.hid hK
  clear hK
  refine rw_lin [(0, false), (1, false), (2, false), (3, false), (4, false)] (by kernel_rfl) ?_
  refine wpOrdT_freesB [0, 1, 2] [.pointer (some ⟨sg, 0, none⟩), .pointer (some ⟨sg, 0, none⟩), .pointer (some ⟨sg, 0, none⟩)] (rest := [(3, false), (4, false)]) (by kernel_rfl) (by kernel_rfl) (by kernel_rfl) (.inr trivial) ?_
  refine wpOrdT_run (.pointer (some ⟨mg, 0, none⟩)) _ (some 9) ⟨by kernel_rfl, by kernel_rfl, by kernel_rfl⟩ (of_load (x := (.tmp 8)) (by kernel_rfl) (by kernel_rfl) (load_c ((fun _ => c1) (trivial)) Try.underlying58 rfl)) (fun _ => trivial) ?_
  refine wpOrdT_call (some 10) ⟨by kernel_rfl, by kernel_rfl, by kernel_rfl⟩ hC (fun _ => by kernel_rfl) ?_
  rintro r w7 ⟨m, bf, bt, fv', tv', rfl, hh⟩
  refine ⟨_, rfl, fun _ => trivial, ?_⟩
  exact wpOrdT_doneC (act_is (K := Q .normal) (by kernel_rfl) (HQ.out (.pointer (some ⟨sg, 0, none⟩)) (.pointer (some ⟨sg, 0, none⟩)) (.pointer (some ⟨sg, 0, none⟩)) (.pointer (some ⟨mg, 0, none⟩)) m bf bt fv' tv' w7 hh))
set_option maxHeartbeats 1000000 in
theorem dm3 {w : World} {v : Value} {x0 x1 x2 x3 x4 x5 x6 x7 x8 x9 x10 x12 x13 x14 x15 x16 x17 x18 x19 : Value} {df : List Deferred} {Q : Exit → Act → World → Prop}
    (hK : ∀  (w' : World), w' = w → Q .normal ⟨#[x0, x1, x2, x3, v, x5, x6, x7, x8, x9, x10, v, x12, x13, x14, x15, x16, x17, x18, x19], df⟩ w') : RW Try.prog (opsC 3 Try.f15) false Q ⟨#[x0, x1, x2, x3, x4, x5, x6, x7, x8, x9, x10, v, x12, x13, x14, x15, x16, x17, x18, x19], df⟩ w := by
  have HQ := Lib.hid hK
  clear hK
  refine rw_lin [(0, false)] (by kernel_rfl) ?_
  refine wpOrdT_freesB [0] [v] (rest := []) (by kernel_rfl) (by kernel_rfl) (by kernel_rfl) (.inr trivial) ?_
  exact wpOrdT_doneC (act_is (K := Q .normal) (by kernel_rfl) (HQ.out  _ rfl))
set_option maxHeartbeats 1000000 in
theorem dm4 {w : World} {v : Value} {x0 x1 x2 x3 x4 x5 x6 x7 x8 x9 x10 x11 x13 x14 x15 x16 x17 x18 x19 : Value} {df : List Deferred} {Q : Exit → Act → World → Prop}
    (hK : ∀  (w' : World), w' = w → Q .normal ⟨#[x0, x1, x2, x3, x4, v, x6, x7, x8, x9, x10, x11, v, x13, x14, x15, x16, x17, x18, x19], df⟩ w') : RW Try.prog (opsC 4 Try.f15) false Q ⟨#[x0, x1, x2, x3, x4, x5, x6, x7, x8, x9, x10, x11, v, x13, x14, x15, x16, x17, x18, x19], df⟩ w := by
  have HQ := Lib.hid hK
  clear hK
  refine rw_lin [(0, false)] (by kernel_rfl) ?_
  refine wpOrdT_freesB [0] [v] (rest := []) (by kernel_rfl) (by kernel_rfl) (by kernel_rfl) (.inr trivial) ?_
  exact wpOrdT_doneC (act_is (K := Q .normal) (by kernel_rfl) (HQ.out  _ rfl))
set_option maxHeartbeats 1000000 in
theorem dm5 {w : World} {ob n nk ck nv cv : Nat} {ak av : Option Addr} {vo : Value} {pcs : List Value} {t : TypeId} (hg : w.heap[ob]? = some (.cells #[vo] t (0, 0))) (hr : OwnG w 45 2 vo n pcs) (hn : n ≤ 100000000) (hvo : ¬ ofV vo ob) {x0 x1 x2 x6 x7 x8 x9 x10 x11 x12 x13 x14 x15 x16 x17 x18 x19 : Value} {df : List Deferred} {Q : Exit → Act → World → Prop}
    (hK : ∀ (y13 y14 y15 y16 y17 y18 : Value) (v8 : Value) (w8 : World) (w' : World), OwnG w8 45 2 v8 (n + 1) (pcs ++ [(.slice ak nk ck), (.slice av nv cv)]) → Mods (ofV vo) w w8 → (v8.ownBlock = vo.ownBlock ∨ freshIn w v8) → w' = w8.setCell ⟨ob, 0, none⟩ v8 → Q .normal ⟨#[x0, x1, x2, .pointer (some ⟨ob, 0, none⟩), (.slice ak nk ck), (.slice av nv cv), x6, x7, x8, x9, x10, x11, x12, y13, y14, y15, y16, y17, y18, x19], df⟩ w') : RW Try.prog (opsC 5 Try.f15) false Q ⟨#[x0, x1, x2, .pointer (some ⟨ob, 0, none⟩), (.slice ak nk ck), (.slice av nv cv), x6, x7, x8, x9, x10, x11, x12, x13, x14, x15, x16, x17, x18, x19], df⟩ w := by
  have HQ := Lib.hid hK
  clear hK
  have HR := Lib.hid hr
  have HG := Lib.hid hg
  have q0 : w.cell? ⟨ob, 0, none⟩ = some vo := cells_of hg 0
  clear hr hg
  have MR := Lib.hid (Mods.refl noB w)
  refine rw_lin [(0, false), (1, false), (2, false), (3, false), (4, false), (5, false), (6, false)] (by kernel_rfl) ?_
  refine wpOrdT_run (vo) _ (some 13) ⟨by kernel_rfl, by kernel_rfl, by kernel_rfl⟩ (of_load (x := (.tmp 3)) (by kernel_rfl) (by kernel_rfl) (load_c ((fun _ => q0) (trivial)) Try.underlying28 rfl)) (fun _ => trivial) ?_
  refine wpOrdT_freesB [1, 2, 3] [(.slice ak nk ck), (.slice av nv cv), .agg #[(.slice ak nk ck), (.slice av nv cv)]] (rest := [(4, false), (5, false), (6, false)]) (by kernel_rfl) (by kernel_rfl) (by kernel_rfl) (.inr trivial) ?_
  refine wpOrdT_bs (.cells #[(.slice ak nk ck), (.slice av nv cv)] 45) 1 (some 17) ⟨by kernel_rfl, by kernel_rfl, by kernel_rfl⟩ (by kernel_rfl) ?_
  intro k1 w_k1 hk_k1 hO_k1 hm_k1 hl_k1
  have MZ := MR.out.size
  replace MR := Lib.hid (MR.out.then0 hm_k1)
  refine ⟨fun _ => trivial, ?_⟩
  obtain ⟨inf, hi, hz, hs, hby⟩ := info_parts infoPr
  obtain ⟨v8, w8, hr8, o8, m8, f8⟩ := run_ap (P := Try.prog) 28 28 28 45 45 inf (.agg #[.slice none 0 0, .slice none 0 0]) Try.underlying28 Try.underlying28 hi hz (by rw [hs]; rfl) (by rw [hs]; exact HR.out.keep MR.out (fun _ _ x => x)) (m := 1) (ys := [(.slice ak nk ck), (.slice av nv cv)]) (by rw [hs]; exact OwnG.rd (ob_new hO_k1).own) (by intro y hy; simp at hy; rcases hy with rfl | rfl <;> rfl) (by unfold maxLen; omega) (by rw [hby]; omega)
  rw [hs] at o8
  refine wpOrdT_run v8 w8 (some 18) ⟨by kernel_rfl, by kernel_rfl, by kernel_rfl⟩ (of_append (x := (.tmp 13)) (y := (.tmp 17)) (by kernel_rfl) (by kernel_rfl) (by kernel_rfl) hr8) (fun _ => trivial) ?_
  have m78 := hm_k1.trans m8 (U := ofV vo) (fun _ _ x => x.elim) (fun _ _ x => x)
  have f9 := f8.imp id (fun h => h.of hm_k1.size)
  have hg8 := m78.heap HG.out hvo
  obtain ⟨a8, c8, e8, _⟩ := o8.rd.form
  have h18 : v8.oneCell' = true := by rw [e8]; rfl
  clear e8
  refine wpOrdT_st1 (ty := 28) (x := (.tmp 3)) (y := (.tmp 18)) (g := ob) (off := 0) (v := v8) none ⟨by kernel_rfl, by kernel_rfl, by kernel_rfl⟩ (by kernel_rfl) (by kernel_rfl) (by kernel_rfl) (by kernel_rfl) (by rw [cells_of hg8]; rfl) (free_of hg8 _) (h18) ?_
  intro w9 hw9
  refine ⟨(fun h => by first | (cases h; done) | exact trivial), ?_⟩
  exact wpOrdT_doneC (act_is (K := Q .normal) (by kernel_rfl) (HQ.out (vo) ((.slice ak nk ck)) ((.slice av nv cv)) (.agg #[(.slice ak nk ck), (.slice av nv cv)]) (.slice (some ⟨k1, 0, none⟩) 1 1) (v8) v8 w8 w9 o8 m78 f9 hw9))
set_option maxHeartbeats 1000000 in
theorem dm6 {w : World} {ob : Nat} {v : Value} (q0 : w.cell? ⟨ob, 0, none⟩ = some v) {x0 x1 x2 x4 x5 x6 x7 x8 x9 x10 x11 x12 x13 x14 x15 x16 x17 x18 x19 : Value} {df : List Deferred} {Q : Exit → Act → World → Prop}
    (hK : ∀ (y19 : Value)  (w' : World), w' = w → Q .normal ⟨#[x0, x1, v, .pointer (some ⟨ob, 0, none⟩), x4, x5, x6, x7, x8, x9, x10, x11, x12, x13, x14, x15, x16, x17, x18, y19], df⟩ w') : RW Try.prog (opsC 6 Try.f15) false Q ⟨#[x0, x1, x2, .pointer (some ⟨ob, 0, none⟩), x4, x5, x6, x7, x8, x9, x10, x11, x12, x13, x14, x15, x16, x17, x18, x19], df⟩ w := by
  have HQ := Lib.hid hK
  clear hK
  refine rw_lin [(0, false), (1, false)] (by kernel_rfl) ?_
  refine wpOrdT_run (v) _ (some 19) ⟨by kernel_rfl, by kernel_rfl, by kernel_rfl⟩ (of_load (x := (.tmp 3)) (by kernel_rfl) (by kernel_rfl) (load_c ((fun _ => q0) (trivial)) Try.underlying28 rfl)) (fun _ => trivial) ?_
  refine wpOrdT_freesB [1] [v] (rest := []) (by kernel_rfl) (by kernel_rfl) (by kernel_rfl) (.inr trivial) ?_
  exact wpOrdT_doneC (act_is (K := Q .normal) (by kernel_rfl) (HQ.out (v) _ rfl))
set_option maxHeartbeats 1000000 in
theorem tk0 {w : World} {N : Int} {x0 x2 x3 x4 x5 x6 x7 x8 x9 x10 x11 x12 x13 x14 x15 x16 x17 x18 x19 x20 x21 x22 x23 x24 x25 x26 x27 : Value} {df : List Deferred} {Q : Exit → Act → World → Prop}
    (hK : ∀ (bq : Nat) (w' : World), bq = w.heap.size → w'.heap[bq]? = some (.cells #[.int .i64 N] 3 (0, 0)) → Mods noB w w' → Q .normal ⟨#[x0, .int .i64 (N), x2, .pointer (some ⟨bq, 0, none⟩), .slice none 0 0, x5, x6, x7, x8, x9, x10, x11, x12, x13, x14, x15, x16, x17, x18, x19, x20, x21, x22, x23, x24, x25, x26, x27], df⟩ w') : RW Try.prog (opsC 0 Try.f24) false Q ⟨#[x0, .int .i64 (N), x2, x3, x4, x5, x6, x7, x8, x9, x10, x11, x12, x13, x14, x15, x16, x17, x18, x19, x20, x21, x22, x23, x24, x25, x26, x27], df⟩ w := by
  have HQ := Lib.hid hK
  clear hK
  refine rw_lin [(0, false), (1, false)] (by kernel_rfl) ?_
  refine wpOrdT_alloc (.cells #[.int .i64 (N)] 3) (some 3) ⟨by kernel_rfl, by kernel_rfl, by kernel_rfl⟩ (by kernel_rfl) ?_
  intro k1 w_k1 hk_k1 hO_k1 hm_k1 hl_k1
  refine ⟨fun _ => trivial, ?_⟩
  refine wpOrdT_freesB [1] [(.slice none 0 0)] (rest := []) (by kernel_rfl) (by kernel_rfl) (by kernel_rfl) (.inr trivial) ?_
  exact wpOrdT_doneC (act_is (K := Q .normal) (by kernel_rfl) (HQ.out  k1 w_k1 hk_k1 hO_k1 hm_k1))
set_option maxHeartbeats 1000000 in
theorem tk1 {w : World} {x0 x1 x2 x3 x4 x5 x6 x7 x8 x9 x10 x11 x12 x13 x14 x15 x16 x17 x18 x19 x20 x21 x22 x23 x24 x25 x26 x27 : Value} {df : List Deferred} {Q : Exit → Act → World → Prop}
    (hK : ∀ (bq : Nat) (w' : World), bq = w.heap.size → w'.heap[bq]? = some (.cells #[.slice none 0 0] 28 (0, 0)) → Mods noB w w' → Q .normal ⟨#[x0, x1, x2, x3, x4, .pointer (some ⟨bq, 0, none⟩), x6, x7, x8, x9, x10, x11, x12, x13, x14, x15, x16, x17, x18, x19, x20, x21, x22, x23, x24, x25, x26, x27], df⟩ w') : RW Try.prog (opsC 1 Try.f24) false Q ⟨#[x0, x1, x2, x3, x4, x5, x6, x7, x8, x9, x10, x11, x12, x13, x14, x15, x16, x17, x18, x19, x20, x21, x22, x23, x24, x25, x26, x27], df⟩ w := by
  have HQ := Lib.hid hK
  clear hK
  refine rw_lin [(0, false)] (by kernel_rfl) ?_
  refine wpOrdT_alloc (.cells #[.slice none 0 0] 28) (some 5) ⟨by kernel_rfl, by kernel_rfl, by kernel_rfl⟩ (by kernel_rfl) ?_
  intro k1 w_k1 hk_k1 hO_k1 hm_k1 hl_k1
  refine ⟨fun _ => trivial, ?_⟩
  exact wpOrdT_doneC (act_is (K := Q .normal) (by kernel_rfl) (HQ.out  k1 w_k1 hk_k1 hO_k1 hm_k1))
set_option maxHeartbeats 1000000 in
theorem tk2 {w : World} {v : Value} {x1 x2 x3 x4 x5 x6 x7 x8 x9 x10 x11 x12 x13 x14 x15 x16 x17 x18 x19 x20 x21 x22 x23 x24 x25 x26 x27 : Value} {df : List Deferred} {Q : Exit → Act → World → Prop}
    (hK : ∀  (w' : World), w' = w → Q .normal ⟨#[v, x1, x2, x3, x4, x5, x6, x7, v, x9, x10, x11, x12, x13, x14, x15, x16, x17, x18, x19, x20, x21, x22, x23, x24, x25, x26, x27], df⟩ w') : RW Try.prog (opsC 2 Try.f24) false Q ⟨#[v, x1, x2, x3, x4, x5, x6, x7, x8, x9, x10, x11, x12, x13, x14, x15, x16, x17, x18, x19, x20, x21, x22, x23, x24, x25, x26, x27], df⟩ w := by
  have HQ := Lib.hid hK
  clear hK
  refine rw_lin [(0, false)] (by kernel_rfl) ?_
  refine wpOrdT_freesB [0] [v] (rest := []) (by kernel_rfl) (by kernel_rfl) (by kernel_rfl) (.inr trivial) ?_
  exact wpOrdT_doneC (act_is (K := Q .normal) (by kernel_rfl) (HQ.out  _ rfl))
set_option maxHeartbeats 1000000 in
theorem tk3 {w : World} {v : Value} {x0 x1 x2 x3 x4 x5 x6 x7 x8 x10 x11 x12 x13 x14 x15 x16 x17 x18 x19 x20 x21 x22 x23 x24 x25 x26 x27 : Value} {df : List Deferred} {Q : Exit → Act → World → Prop}
    (hK : ∀  (w' : World), w' = w → Q .normal ⟨#[x0, x1, x2, x3, x4, x5, v, x7, x8, v, x10, x11, x12, x13, x14, x15, x16, x17, x18, x19, x20, x21, x22, x23, x24, x25, x26, x27], df⟩ w') : RW Try.prog (opsC 3 Try.f24) false Q ⟨#[x0, x1, x2, x3, x4, x5, x6, x7, x8, v, x10, x11, x12, x13, x14, x15, x16, x17, x18, x19, x20, x21, x22, x23, x24, x25, x26, x27], df⟩ w := by
  have HQ := Lib.hid hK
  clear hK
  refine rw_lin [(0, false)] (by kernel_rfl) ?_
  refine wpOrdT_freesB [0] [v] (rest := []) (by kernel_rfl) (by kernel_rfl) (by kernel_rfl) (.inr trivial) ?_
  exact wpOrdT_doneC (act_is (K := Q .normal) (by kernel_rfl) (HQ.out  _ rfl))
set_option maxHeartbeats 1000000 in
theorem tk4 {w : World} {v : Value} {x0 x1 x2 x3 x4 x5 x6 x7 x8 x9 x11 x12 x13 x14 x15 x16 x17 x18 x19 x20 x21 x22 x23 x24 x25 x26 x27 : Value} {df : List Deferred} {Q : Exit → Act → World → Prop}
    (hK : ∀  (w' : World), w' = w → Q .normal ⟨#[x0, x1, x2, x3, x4, x5, x6, v, x8, x9, v, x11, x12, x13, x14, x15, x16, x17, x18, x19, x20, x21, x22, x23, x24, x25, x26, x27], df⟩ w') : RW Try.prog (opsC 4 Try.f24) false Q ⟨#[x0, x1, x2, x3, x4, x5, x6, x7, x8, x9, v, x11, x12, x13, x14, x15, x16, x17, x18, x19, x20, x21, x22, x23, x24, x25, x26, x27], df⟩ w := by
  have HQ := Lib.hid hK
  clear hK
  refine rw_lin [(0, false)] (by kernel_rfl) ?_
  refine wpOrdT_freesB [0] [v] (rest := []) (by kernel_rfl) (by kernel_rfl) (by kernel_rfl) (.inr trivial) ?_
  exact wpOrdT_doneC (act_is (K := Q .normal) (by kernel_rfl) (HQ.out  _ rfl))
set_option maxHeartbeats 1000000 in
theorem tk5 {w : World} {ob n : Nat} {vo kv vv : Value} {ks vs : List UInt8} {pcs : List Value} {t : TypeId} (hg : w.heap[ob]? = some (.cells #[vo] t (0, 0))) (hr : OwnG w 45 2 vo n pcs) (hu : Rd w kv ks) (hv : Rd w vv vs) (lk : ks.length ≤ 1000000) (lv : vs.length ≤ 1000000) (hn : n ≤ 100000000) (hvo : ¬ ofV vo ob) {x0 x1 x2 x3 x4 x8 x9 x10 x11 x12 x13 x14 x15 x16 x17 x18 x19 x20 x21 x22 x23 x24 x25 x26 x27 : Value} {df : List Deferred} {Q : Exit → Act → World → Prop}
    (hK : ∀ (y11 y12 y13 y14 y15 y16 y17 y18 : Value) (d1 d2 v8 : Value) (w7 w8 : World) (w' : World), Gl.Own w7 d1 ks → Gl.Own w7 d2 vs → freshIn w d1 → freshIn w d2 → Mods noB w w7 → OwnG w8 45 2 v8 (n + 1) (pcs ++ [d1, d2]) → Mods (ofV vo) w7 w8 → (v8.ownBlock = vo.ownBlock ∨ freshIn w7 v8) → w' = w8.setCell ⟨ob, 0, none⟩ v8 → Q .normal ⟨#[x0, x1, x2, x3, x4, .pointer (some ⟨ob, 0, none⟩), kv, vv, x8, x9, x10, y11, y12, y13, y14, y15, y16, y17, y18, x19, x20, x21, x22, x23, x24, x25, x26, x27], df⟩ w') : RW Try.prog (opsC 5 Try.f24) true Q ⟨#[x0, x1, x2, x3, x4, .pointer (some ⟨ob, 0, none⟩), kv, vv, x8, x9, x10, x11, x12, x13, x14, x15, x16, x17, x18, x19, x20, x21, x22, x23, x24, x25, x26, x27], df⟩ w := by
  have HQ := Lib.hid hK
  clear hK
  have HU := Lib.hid hu
  have HV := Lib.hid hv
  have HR := Lib.hid hr
  have HG := Lib.hid hg
  have Q0 := Lib.hid (fun b' (hm : Mods (ofV vo) w b') => show b'.cell? ⟨ob, 0, none⟩ = some vo from cells_of (hm.heap hg hvo) 0)
  clear hu hv hr hg
  have MR := Lib.hid ((Mods.refl noB w).drew)
  refine rw_ordT (S := fun b' => Mods (ofV vo) w b') [(0, true), (1, true), (3, true), (2, false), (4, false), (5, true), (6, false), (7, false), (8, false)] [8] (by kernel_rfl) (by kernel_rfl) (by kernel_rfl) (by kernel_rfl) (MR.out.mono (fun _ _ x => x.elim)) ?_
  refine wpOrdT_free (vo) (some 11) ⟨by kernel_rfl, by kernel_rfl, by kernel_rfl⟩ (fun bb hb => of_load (x := (.tmp 5)) (by kernel_rfl) (by kernel_rfl) (load_c (Q0.out _ hb) Try.underlying28 rfl)) ?_
  refine wpOrdT_frees [1, 3] [kv, vv] (rest := [(2, false), (4, false), (5, true), (6, false), (7, false), (8, false)]) (by kernel_rfl) (by kernel_rfl) (fun _ => by kernel_rfl) ?_
  refine wpOrdT_call (some 13) ⟨by kernel_rfl, by kernel_rfl, by kernel_rfl⟩ (CopyBytes_any (HU.out.keep MR.out (fun _ _ x => x)) (by omega)) (fun _ => by kernel_rfl) ?_
  rintro r wd1 ⟨d1, rfl, o1, n1, f1⟩
  have F1 := Lib.hid (f1.of MR.out.size)
  replace MR := Lib.hid (MR.out.then0 n1)
  obtain ⟨ad1, cd1, rfl, _⟩ := o1.rd.form
  refine ⟨_, rfl, fun _ => MR.out.mono (fun _ _ x => x.elim), ?_⟩
  refine wpOrdT_call (some 15) ⟨by kernel_rfl, by kernel_rfl, by kernel_rfl⟩ (CopyBytes_any (HV.out.keep MR.out (fun _ _ x => x)) (by omega)) (fun _ => by kernel_rfl) ?_
  rintro r wd2 ⟨d2, rfl, o2, n2, f2⟩
  have F2 := Lib.hid (f2.of MR.out.size)
  replace MR := Lib.hid (MR.out.then0 n2)
  obtain ⟨ad2, cd2, rfl, _⟩ := o2.rd.form
  refine ⟨_, rfl, fun _ => MR.out.mono (fun _ _ x => x.elim), ?_⟩
  have O1 := Lib.hid (o1.keep n2 (fun _ _ x => x))
  have M7 := Lib.hid MR.out
  refine wpOrdT_frees [5] [.agg #[(.slice ad1 ks.length cd1), (.slice ad2 vs.length cd2)]] (rest := [(6, false), (7, false), (8, false)]) (by kernel_rfl) (by kernel_rfl) (fun _ => by kernel_rfl) ?_
  refine wpOrdT_bs (.cells #[(.slice ad1 ks.length cd1), (.slice ad2 vs.length cd2)] 45) 1 (some 17) ⟨by kernel_rfl, by kernel_rfl, by kernel_rfl⟩ (by kernel_rfl) ?_
  intro k1 w_k1 hk_k1 hO_k1 hm_k1 hl_k1
  have MZ := MR.out.size
  replace MR := Lib.hid (MR.out.then0 hm_k1)
  refine ⟨fun _ => (MR.out.mono (fun _ _ x => x.elim)), ?_⟩
  obtain ⟨inf, hi, hz, hs, hby⟩ := info_parts infoPr
  obtain ⟨v8, w8, hr8, o8, m8, f8⟩ := run_ap (P := Try.prog) 28 28 28 45 45 inf (.agg #[.slice none 0 0, .slice none 0 0]) Try.underlying28 Try.underlying28 hi hz (by rw [hs]; rfl) (by rw [hs]; exact HR.out.keep MR.out (fun _ _ x => x)) (m := 1) (ys := [(.slice ad1 ks.length cd1), (.slice ad2 vs.length cd2)]) (by rw [hs]; exact OwnG.rd (ob_new hO_k1).own) (by intro y hy; simp at hy; rcases hy with rfl | rfl <;> rfl) (by unfold maxLen; omega) (by rw [hby]; omega)
  rw [hs] at o8
  refine wpOrdT_run v8 w8 (some 18) ⟨by kernel_rfl, by kernel_rfl, by kernel_rfl⟩ (of_append (x := (.tmp 11)) (y := (.tmp 17)) (by kernel_rfl) (by kernel_rfl) (by kernel_rfl) hr8) (fun _ => MR.out.trans m8 (fun _ _ x => x.elim) (fun _ _ x => x)) ?_
  have m78 := hm_k1.trans m8 (U := ofV vo) (fun _ _ x => x.elim) (fun _ _ x => x)
  have f9 := f8.imp id (fun h => h.of hm_k1.size)
  have M8 := Lib.hid (MR.out.trans m8 (U := ofV vo) (fun _ _ x => x.elim) (fun _ _ x => x))
  have hg8 := M8.out.heap HG.out hvo
  obtain ⟨a8, c8, e8, _⟩ := o8.rd.form
  have h18 : v8.oneCell' = true := by rw [e8]; rfl
  clear e8
  refine wpOrdT_st1 (ty := 28) (x := (.tmp 5)) (y := (.tmp 18)) (g := ob) (off := 0) (v := v8) none ⟨by kernel_rfl, by kernel_rfl, by kernel_rfl⟩ (by kernel_rfl) (by kernel_rfl) (by kernel_rfl) (by kernel_rfl) (by rw [cells_of hg8]; rfl) (free_of hg8 _) (h18) ?_
  intro w9 hw9
  refine ⟨(fun h => by first | (cases h; done) | exact trivial), ?_⟩
  exact wpOrdT_doneC (act_is (K := Q .normal) (by kernel_rfl) (HQ.out (vo) (kv) ((.slice ad1 ks.length cd1)) (vv) ((.slice ad2 vs.length cd2)) (.agg #[(.slice ad1 ks.length cd1), (.slice ad2 vs.length cd2)]) (.slice (some ⟨k1, 0, none⟩) 1 1) (v8) (.slice ad1 ks.length cd1) (.slice ad2 vs.length cd2) v8 wd2 w8 w9 O1.out o2 F1.out F2.out M7.out o8 m78 f9 hw9))
set_option maxHeartbeats 1000000 in
theorem tk6 {w : World} {v : Value} {xs : List UInt8} (h : Gl.Own w v xs) {x0 x1 x2 x3 x4 x5 x7 x8 x9 x10 x11 x12 x13 x14 x15 x16 x17 x18 x19 x20 x21 x22 x23 x24 x25 x26 x27 : Value} {df : List Deferred} {Q : Exit → Act → World → Prop}
    (hK : ∀ (y19 y20 : Value)  (w' : World), Mods (ofV v) w w' → Q .normal ⟨#[x0, x1, x2, x3, x4, x5, v, x7, x8, x9, x10, x11, x12, x13, x14, x15, x16, x17, x18, y19, y20, x21, x22, x23, x24, x25, x26, x27], df⟩ w') : RW Try.prog (opsC 6 Try.f24) false Q ⟨#[x0, x1, x2, x3, x4, x5, v, x7, x8, x9, x10, x11, x12, x13, x14, x15, x16, x17, x18, x19, x20, x21, x22, x23, x24, x25, x26, x27], df⟩ w := by
  have HQ := Lib.hid hK
  clear hK
  refine rw_lin [(0, false), (1, false)] (by kernel_rfl) ?_
  refine wpOrdT_freesB [0] [v] (rest := [(1, false)]) (by kernel_rfl) (by kernel_rfl) (by kernel_rfl) (.inr trivial) ?_
  refine wpOrdT_call (some 20) ⟨by kernel_rfl, by kernel_rfl, by kernel_rfl⟩ (Spoil_any h) (fun _ => by kernel_rfl) ?_
  rintro r w7 ⟨rfl, m7⟩
  refine ⟨_, rfl, fun _ => trivial, ?_⟩
  exact wpOrdT_doneC (act_is (K := Q .normal) (by kernel_rfl) (HQ.out (v) ((.tuple #[])) w7 m7))
set_option maxHeartbeats 1000000 in
theorem tk7 {w : World} {v : Value} {xs : List UInt8} (h : Gl.Own w v xs) {x0 x1 x2 x3 x4 x5 x6 x8 x9 x10 x11 x12 x13 x14 x15 x16 x17 x18 x19 x20 x21 x22 x23 x24 x25 x26 x27 : Value} {df : List Deferred} {Q : Exit → Act → World → Prop}
    (hK : ∀ (y21 y22 : Value)  (w' : World), Mods (ofV v) w w' → Q .normal ⟨#[x0, x1, x2, x3, x4, x5, x6, v, x8, x9, x10, x11, x12, x13, x14, x15, x16, x17, x18, x19, x20, y21, y22, x23, x24, x25, x26, x27], df⟩ w') : RW Try.prog (opsC 7 Try.f24) false Q ⟨#[x0, x1, x2, x3, x4, x5, x6, v, x8, x9, x10, x11, x12, x13, x14, x15, x16, x17, x18, x19, x20, x21, x22, x23, x24, x25, x26, x27], df⟩ w := by
  have HQ := Lib.hid hK
  clear hK
  refine rw_lin [(0, false), (1, false)] (by kernel_rfl) ?_
  refine wpOrdT_freesB [0] [v] (rest := [(1, false)]) (by kernel_rfl) (by kernel_rfl) (by kernel_rfl) (.inr trivial) ?_
  refine wpOrdT_call (some 22) ⟨by kernel_rfl, by kernel_rfl, by kernel_rfl⟩ (Spoil_any h) (fun _ => by kernel_rfl) ?_
  rintro r w7 ⟨rfl, m7⟩
  refine ⟨_, rfl, fun _ => trivial, ?_⟩
  exact wpOrdT_doneC (act_is (K := Q .normal) (by kernel_rfl) (HQ.out (v) ((.tuple #[])) w7 m7))
set_option maxHeartbeats 1000000 in
theorem tk8t {w : World} {ob nb n c : Nat} {N : Int} {ao : Option Addr} (q0 : w.cell? ⟨ob, 0, none⟩ = some (.slice ao n c)) (q1 : w.cell? ⟨nb, 0, none⟩ = some (.int .i64 N)) (hn : N ≤ (n : Int)) {x0 x1 x2 x4 x6 x7 x8 x9 x10 x11 x12 x13 x14 x15 x16 x17 x18 x19 x20 x21 x22 x23 x24 x25 x26 x27 : Value} {df : List Deferred} {Q : Exit → Act → World → Prop}
    (hK : ∀ (y23 y24 y25 : Value)  (w' : World), w' = w → Q .normal ⟨#[x0, x1, x2, .pointer (some ⟨nb, 0, none⟩), x4, .pointer (some ⟨ob, 0, none⟩), x6, x7, x8, x9, x10, x11, x12, x13, x14, x15, x16, x17, x18, x19, x20, x21, x22, y23, y24, y25, .bool true, x27], df⟩ w') : RW Try.prog (opsC 8 Try.f24) false Q ⟨#[x0, x1, x2, .pointer (some ⟨nb, 0, none⟩), x4, .pointer (some ⟨ob, 0, none⟩), x6, x7, x8, x9, x10, x11, x12, x13, x14, x15, x16, x17, x18, x19, x20, x21, x22, x23, x24, x25, x26, x27], df⟩ w := by
  have HQ := Lib.hid hK
  clear hK
  refine rw_lin [(0, false), (1, false), (2, false), (3, false)] (by kernel_rfl) ?_
  refine wpOrdT_run ((.slice ao n c)) _ (some 23) ⟨by kernel_rfl, by kernel_rfl, by kernel_rfl⟩ (of_load (x := (.tmp 5)) (by kernel_rfl) (by kernel_rfl) (load_c ((fun _ => q0) (trivial)) Try.underlying28 rfl)) (fun _ => trivial) ?_
  refine wpOrdT_freesB [1] [.int .i64 ((n : Nat) : Int)] (rest := [(2, false), (3, false)]) (by kernel_rfl) (by kernel_rfl) (by kernel_rfl) (.inr trivial) ?_
  refine wpOrdT_run (.int .i64 (N)) _ (some 25) ⟨by kernel_rfl, by kernel_rfl, by kernel_rfl⟩ (of_load (x := (.tmp 3)) (by kernel_rfl) (by kernel_rfl) (load_c ((fun _ => q1) (trivial)) Try.underlying3 rfl)) (fun _ => trivial) ?_
  refine wpOrdT_run (.bool true) _ (some 26) ⟨by kernel_rfl, by kernel_rfl, by kernel_rfl⟩ (run_bin (t := 3) (t' := 3) (xv := .int .i64 ((n : Nat) : Int)) (yv := .int .i64 (N)) (x := (.tmp 24)) (y := (.tmp 25)) (by kernel_rfl) (by kernel_rfl) (by kernel_rfl) (fun _ => by kernel_rfl) (run_geq _ (decide_eq_true (by omega)))) (fun _ => trivial) ?_
  exact wpOrdT_doneC (act_is (K := Q .normal) (by kernel_rfl) (HQ.out ((.slice ao n c)) (.int .i64 ((n : Nat) : Int)) (.int .i64 (N)) _ rfl))
set_option maxHeartbeats 1000000 in
theorem tk8f {w : World} {ob nb n c : Nat} {N : Int} {ao : Option Addr} (q0 : w.cell? ⟨ob, 0, none⟩ = some (.slice ao n c)) (q1 : w.cell? ⟨nb, 0, none⟩ = some (.int .i64 N)) (hn : ¬ N ≤ (n : Int)) {x0 x1 x2 x4 x6 x7 x8 x9 x10 x11 x12 x13 x14 x15 x16 x17 x18 x19 x20 x21 x22 x23 x24 x25 x26 x27 : Value} {df : List Deferred} {Q : Exit → Act → World → Prop}
    (hK : ∀ (y23 y24 y25 : Value)  (w' : World), w' = w → Q .normal ⟨#[x0, x1, x2, .pointer (some ⟨nb, 0, none⟩), x4, .pointer (some ⟨ob, 0, none⟩), x6, x7, x8, x9, x10, x11, x12, x13, x14, x15, x16, x17, x18, x19, x20, x21, x22, y23, y24, y25, .bool false, x27], df⟩ w') : RW Try.prog (opsC 8 Try.f24) false Q ⟨#[x0, x1, x2, .pointer (some ⟨nb, 0, none⟩), x4, .pointer (some ⟨ob, 0, none⟩), x6, x7, x8, x9, x10, x11, x12, x13, x14, x15, x16, x17, x18, x19, x20, x21, x22, x23, x24, x25, x26, x27], df⟩ w := by
  have HQ := Lib.hid hK
  clear hK
  refine rw_lin [(0, false), (1, false), (2, false), (3, false)] (by kernel_rfl) ?_
  refine wpOrdT_run ((.slice ao n c)) _ (some 23) ⟨by kernel_rfl, by kernel_rfl, by kernel_rfl⟩ (of_load (x := (.tmp 5)) (by kernel_rfl) (by kernel_rfl) (load_c ((fun _ => q0) (trivial)) Try.underlying28 rfl)) (fun _ => trivial) ?_
  refine wpOrdT_freesB [1] [.int .i64 ((n : Nat) : Int)] (rest := [(2, false), (3, false)]) (by kernel_rfl) (by kernel_rfl) (by kernel_rfl) (.inr trivial) ?_
  refine wpOrdT_run (.int .i64 (N)) _ (some 25) ⟨by kernel_rfl, by kernel_rfl, by kernel_rfl⟩ (of_load (x := (.tmp 3)) (by kernel_rfl) (by kernel_rfl) (load_c ((fun _ => q1) (trivial)) Try.underlying3 rfl)) (fun _ => trivial) ?_
  refine wpOrdT_run (.bool false) _ (some 26) ⟨by kernel_rfl, by kernel_rfl, by kernel_rfl⟩ (run_bin (t := 3) (t' := 3) (xv := .int .i64 ((n : Nat) : Int)) (yv := .int .i64 (N)) (x := (.tmp 24)) (y := (.tmp 25)) (by kernel_rfl) (by kernel_rfl) (by kernel_rfl) (fun _ => by kernel_rfl) (run_geq _ (decide_eq_false (by omega)))) (fun _ => trivial) ?_
  exact wpOrdT_doneC (act_is (K := Q .normal) (by kernel_rfl) (HQ.out ((.slice ao n c)) (.int .i64 ((n : Nat) : Int)) (.int .i64 (N)) _ rfl))
set_option maxHeartbeats 1000000 in
theorem tk9 {w : World} {ob : Nat} {v : Value} (q0 : w.cell? ⟨ob, 0, none⟩ = some v) {x0 x1 x2 x3 x4 x6 x7 x8 x9 x10 x11 x12 x13 x14 x15 x16 x17 x18 x19 x20 x21 x22 x23 x24 x25 x26 x27 : Value} {df : List Deferred} {Q : Exit → Act → World → Prop}
    (hK : ∀ (y27 : Value)  (w' : World), w' = w → Q .normal ⟨#[x0, x1, x2, x3, v, .pointer (some ⟨ob, 0, none⟩), x6, x7, x8, x9, x10, x11, x12, x13, x14, x15, x16, x17, x18, x19, x20, x21, x22, x23, x24, x25, x26, y27], df⟩ w') : RW Try.prog (opsC 9 Try.f24) false Q ⟨#[x0, x1, x2, x3, x4, .pointer (some ⟨ob, 0, none⟩), x6, x7, x8, x9, x10, x11, x12, x13, x14, x15, x16, x17, x18, x19, x20, x21, x22, x23, x24, x25, x26, x27], df⟩ w := by
  have HQ := Lib.hid hK
  clear hK
  refine rw_lin [(0, false), (1, false)] (by kernel_rfl) ?_
  refine wpOrdT_run (v) _ (some 27) ⟨by kernel_rfl, by kernel_rfl, by kernel_rfl⟩ (of_load (x := (.tmp 5)) (by kernel_rfl) (by kernel_rfl) (load_c ((fun _ => q0) (trivial)) Try.underlying28 rfl)) (fun _ => trivial) ?_
  refine wpOrdT_freesB [1] [v] (rest := []) (by kernel_rfl) (by kernel_rfl) (by kernel_rfl) (.inr trivial) ?_
  exact wpOrdT_doneC (act_is (K := Q .normal) (by kernel_rfl) (HQ.out (v) _ rfl))
end Go.Proofs.Ytngemlpalkfjeaa

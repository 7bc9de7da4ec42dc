/- kv.Store: its drawn regions (printed by gen_kv.py). -/
import Derived.Test.YtngemlpalkfjeaaKvN
import Derived.Test.YtngemlpalkfjeaaZB
import Derived.Test.YtngemlpalkfjeaaOrd2
namespace Go.Proofs.Ytngemlpalkfjeaa
open Go.Gl Go.RowKit
set_option linter.unusedVariables false
set_option linter.unusedSimpArgs false
set_option maxRecDepth 100000
theorem infoC : (Try.prog.info? 80).map (fun i => (i.zero, i.size, i.bytes)) = some (some (.agg #[.nilFunc]), 1, 8) := by kernel_rfl
set_option maxHeartbeats 1000000 in
theorem kvn4t {w : World} {sbx kbx sg mg : Nat} {kv : Value} (b1 : w.heap[sbx]? = some (.cells #[.pointer (some ⟨sg, 0, none⟩)] 25 (0, 0))) (b2 : w.heap[kbx]? = some (.cells #[kv] 32 (0, 0))) (b3 : w.cell? ⟨sg, 0, none⟩ = some (.pointer (some ⟨mg, 0, none⟩))) (b4 : sg < w.heap.size) {xs : List UInt8} (hC : ∀ b', Mods noB w b' → Calls Try.prog 54 #[.pointer (some ⟨mg, 0, none⟩), kv] b' fun e w' => ∃ v', e = .returned (.tuple #[v', .bool true]) ∧ Gl.Own w' v' xs ∧ Mods noB b' w' ∧ freshIn b' v') {x0 x1 x4 x5 x6 x7 x8 x9 x10 x11 x12 x13 x14 x15 x16 x17 x18 x19 x20 x21 x22 x23 x24 x25 x26 x27 x28 x29 x30 x31 x32 x33 x34 x35 x36 x37 x38 x39 x40 x41 x42 x43 x44 x45 x46 x47 : Value} {df : List Deferred} {Q : Exit → Act → World → Prop}
    (hK : ∀ (y17 y18 y19 y20 y21 y22 y23 y24 y25 : Value) (obx : Nat) (v7 : Value) (w' : World), w.heap.size ≤ obx → w'.heap[obx]? = some (.cells #[v7] 32 (0, 0)) → Gl.Own w' v7 xs → freshIn w v7 → Mods noB w w' → v7.ownBlock ≠ some obx → Q .normal ⟨#[x0, x1, .pointer (some ⟨sbx, 0, none⟩), .pointer (some ⟨kbx, 0, none⟩), x4, .pointer (some ⟨obx, 0, none⟩), .bool true, x7, x8, x9, x10, x11, x12, x13, x14, x15, x16, y17, y18, y19, y20, y21, y22, y23, y24, y25, x26, x27, x28, x29, x30, x31, x32, x33, x34, x35, x36, x37, x38, x39, x40, x41, x42, x43, x44, x45, x46, x47], df⟩ w') : RW Try.prog (opsC 4 Try.f46) true Q ⟨#[x0, x1, .pointer (some ⟨sbx, 0, none⟩), .pointer (some ⟨kbx, 0, none⟩), x4, x5, x6, x7, x8, x9, x10, x11, x12, x13, x14, x15, x16, x17, x18, x19, x20, x21, x22, x23, x24, x25, x26, x27, x28, x29, x30, x31, x32, x33, x34, x35, x36, x37, x38, x39, x40, x41, x42, x43, x44, x45, x46, x47], df⟩ w := by
  have HQ := Lib.hid hK
  clear hK
  have HC := Lib.hid hC
  have Q1 := Lib.hid (fun b' (hm : Mods noB w b') => cells_of (hm.heap b1 (fun x => x)) 0)
  have Q2 := Lib.hid (fun b' (hm : Mods noB w b') => cells_of (hm.heap b2 (fun x => x)) 0)
  have Q3 := Lib.hid (fun b' (hm : Mods noB w b') => (hm.cellAt b4 (fun x => x) 0).trans b3)
  clear hC b1 b2 b3
  have MR := Lib.hid ((Mods.refl noB w).drew)
  refine rw_ord2 (S := fun b' => Mods noB w b') [(0, true), (1, true), (2, true), (3, true), (4, true)] 5 9 [(6, true), (7, true), (8, true), (9, false), (10, false), (11, true)] [(5, false), (6, true), (7, true), (8, true), (10, false), (11, true)] [] (by kernel_rfl) (by kernel_rfl) (by kernel_rfl) (by kernel_rfl) (by kernel_rfl) MR.out ?_
  refine wpOrdT_free (.pointer (some ⟨sg, 0, none⟩)) (some 18) ⟨by kernel_rfl, by kernel_rfl, by kernel_rfl⟩ (fun bb hb => of_load (x := (.tmp 2)) (by kernel_rfl) (by kernel_rfl) (load_c (Q1.out _ hb) Try.underlying25 rfl)) ?_
  refine wpOrdT_frees [1, 2] [.pointer (some ⟨sg, 0, none⟩), .pointer (some ⟨sg, 0, none⟩)] (rest := [(3, true), (4, true)]) (by kernel_rfl) (by kernel_rfl) (fun _ => by kernel_rfl) ?_
  refine wpOrdT_free (.pointer (some ⟨mg, 0, none⟩)) (some 21) ⟨by kernel_rfl, by kernel_rfl, by kernel_rfl⟩ (fun bb hb => of_load (x := (.tmp 20)) (by kernel_rfl) (by kernel_rfl) (load_c (Q3.out _ hb) Try.underlying58 rfl)) ?_
  refine wpOrdT_free (kv) (some 22) ⟨by kernel_rfl, by kernel_rfl, by kernel_rfl⟩ (fun bb hb => of_load (x := (.tmp 3)) (by kernel_rfl) (by kernel_rfl) (load_c (Q2.out _ hb) Try.underlying32 rfl)) ?_
  refine wpOrd2_split ?_ ?_
  · skip
    refine wpOrdT_call (some 23) ⟨by kernel_rfl, by kernel_rfl, by kernel_rfl⟩ (HC.out _ MR.out) (fun _ => by kernel_rfl) ?_
    rintro r w7 ⟨v7, rfl, o7, m7, f7⟩
    have F7 := f7.of MR.out.size
    replace MR := Lib.hid (MR.out.then0 m7)
    obtain ⟨a7, c7, e7, _⟩ := o7.rd.form
    have h17 : v7.oneCell' = true := by rw [e7]; rfl
    clear e7
    have F7L := o7.lt
    refine ⟨_, rfl, fun _ => MR.out, ?_⟩
    refine wpOrdT_frees [6, 7, 8] [.tuple #[v7, .bool true], v7, .bool true] (rest := [(9, false), (10, false), (11, true)]) (by kernel_rfl) (by kernel_rfl) (fun _ => by kernel_rfl) ?_
    refine wpOrdT_alloc (.cells #[.slice none 0 0] 32) (some 5) ⟨by kernel_rfl, by kernel_rfl, by kernel_rfl⟩ (by kernel_rfl) ?_
    intro k1 w_k1 hk_k1 hO_k1 hm_k1 hl_k1
    have MZ := MR.out.size
    replace MR := Lib.hid (MR.out.then0 hm_k1)
    refine ⟨fun _ => MR.out, ?_⟩
    have o7 := o7.keep hm_k1 (fun _ _ x => x)
    have N7 : v7.ownBlock ≠ some k1 := fun e => by have := F7L _ e; omega
    refine wpOrdT_st1 (ty := 32) (x := (.tmp 5)) (y := (.tmp 24)) (g := k1) (off := 0) (v := v7) none ⟨by kernel_rfl, by kernel_rfl, by kernel_rfl⟩ (by kernel_rfl) (by kernel_rfl) (by kernel_rfl) (by kernel_rfl) (by rw [cells_of hO_k1]; rfl) (free_of hO_k1 _) (h17) ?_
    intro w9 hw9
    refine ⟨(fun h => by first | (cases h; done) | exact (by rw [hw9]; exact MR.out.setCell (p := ⟨k1, 0, none⟩) (.inr (show w.heap.size ≤ k1 by omega)) v7)), ?_⟩
    refine wpOrdT_frees [11] [.bool true] (rest := []) (by kernel_rfl) (by kernel_rfl) (fun _ => by kernel_rfl) ?_
    exact wpOrdT_doneC (act_is (K := Q .normal) (by kernel_rfl) (HQ.out (.tuple #[v7, .bool true]) (.pointer (some ⟨sg, 0, none⟩)) (.pointer (some ⟨sg, 0, none⟩)) (.pointer (some ⟨sg, 0, none⟩)) (.pointer (some ⟨mg, 0, none⟩)) (kv) (.tuple #[v7, .bool true]) (v7) (.bool true) k1 v7 w9 (by omega) (by rw [hw9]; exact heap_set hO_k1 0 v7) (Own.keep (S := fun k => k = k1) o7 (by rw [hw9]; exact (Mods.refl (fun k => k = k1) _).setCell (p := ⟨k1, 0, none⟩) (.inl rfl) v7) (fun k hk e => N7 (e ▸ hk))) F7 (by rw [hw9]; exact MR.out.setCell (p := ⟨k1, 0, none⟩) (.inr (show w.heap.size ≤ k1 by omega)) v7) N7))
  · skip
    refine wpOrdT_alloc (.cells #[.slice none 0 0] 32) (some 5) ⟨by kernel_rfl, by kernel_rfl, by kernel_rfl⟩ (by kernel_rfl) ?_
    intro k1 w_k1 hk_k1 hO_k1 hm_k1 hl_k1
    have MZ := MR.out.size
    replace MR := Lib.hid (MR.out.then0 hm_k1)
    refine ⟨fun _ => MR.out, ?_⟩
    refine wpOrdT_call (some 23) ⟨by kernel_rfl, by kernel_rfl, by kernel_rfl⟩ (HC.out _ MR.out) (fun _ => by kernel_rfl) ?_
    rintro r w7 ⟨v7, rfl, o7, m7, f7⟩
    have F7 := f7.of MR.out.size
    have hO_k1 := m7.heap hO_k1 (fun x => x)
    have N7 : v7.ownBlock ≠ some k1 := fun e => by have := f7 _ e; omega
    have hs7 := m7.size
    replace MR := Lib.hid (MR.out.then0 m7)
    obtain ⟨a7, c7, e7, _⟩ := o7.rd.form
    have h17 : v7.oneCell' = true := by rw [e7]; rfl
    clear e7
    refine ⟨_, rfl, fun _ => MR.out, ?_⟩
    refine wpOrdT_frees [6, 7, 8] [.tuple #[v7, .bool true], v7, .bool true] (rest := [(10, false), (11, true)]) (by kernel_rfl) (by kernel_rfl) (fun _ => by kernel_rfl) ?_
    refine wpOrdT_st1 (ty := 32) (x := (.tmp 5)) (y := (.tmp 24)) (g := k1) (off := 0) (v := v7) none ⟨by kernel_rfl, by kernel_rfl, by kernel_rfl⟩ (by kernel_rfl) (by kernel_rfl) (by kernel_rfl) (by kernel_rfl) (by rw [cells_of hO_k1]; rfl) (free_of hO_k1 _) (h17) ?_
    intro w9 hw9
    refine ⟨(fun h => by first | (cases h; done) | exact (by rw [hw9]; exact MR.out.setCell (p := ⟨k1, 0, none⟩) (.inr (show w.heap.size ≤ k1 by omega)) v7)), ?_⟩
    refine wpOrdT_frees [11] [.bool true] (rest := []) (by kernel_rfl) (by kernel_rfl) (fun _ => by kernel_rfl) ?_
    exact wpOrdT_doneC (act_is (K := Q .normal) (by kernel_rfl) (HQ.out (.tuple #[v7, .bool true]) (.pointer (some ⟨sg, 0, none⟩)) (.pointer (some ⟨sg, 0, none⟩)) (.pointer (some ⟨sg, 0, none⟩)) (.pointer (some ⟨mg, 0, none⟩)) (kv) (.tuple #[v7, .bool true]) (v7) (.bool true) k1 v7 w9 (by omega) (by rw [hw9]; exact heap_set hO_k1 0 v7) (Own.keep (S := fun k => k = k1) o7 (by rw [hw9]; exact (Mods.refl (fun k => k = k1) _).setCell (p := ⟨k1, 0, none⟩) (.inl rfl) v7) (fun k hk e => N7 (e ▸ hk))) F7 (by rw [hw9]; exact MR.out.setCell (p := ⟨k1, 0, none⟩) (.inr (show w.heap.size ≤ k1 by omega)) v7) N7))
set_option maxHeartbeats 1000000 in
theorem kvn4f {w : World} {sbx kbx sg mg : Nat} {kv : Value} (b1 : w.heap[sbx]? = some (.cells #[.pointer (some ⟨sg, 0, none⟩)] 25 (0, 0))) (b2 : w.heap[kbx]? = some (.cells #[kv] 32 (0, 0))) (b3 : w.cell? ⟨sg, 0, none⟩ = some (.pointer (some ⟨mg, 0, none⟩))) (b4 : sg < w.heap.size) {xs : List UInt8} (hC : ∀ b', Mods noB w b' → Calls Try.prog 54 #[.pointer (some ⟨mg, 0, none⟩), kv] b' fun e w' => ∃ v', e = .returned (.tuple #[v', .bool false]) ∧ Gl.Own w' v' xs ∧ Mods noB b' w' ∧ freshIn b' v') {x0 x1 x4 x5 x6 x7 x8 x9 x10 x11 x12 x13 x14 x15 x16 x17 x18 x19 x20 x21 x22 x23 x24 x25 x26 x27 x28 x29 x30 x31 x32 x33 x34 x35 x36 x37 x38 x39 x40 x41 x42 x43 x44 x45 x46 x47 : Value} {df : List Deferred} {Q : Exit → Act → World → Prop}
    (hK : ∀ (y17 y18 y19 y20 y21 y22 y23 y24 y25 : Value) (obx : Nat) (v7 : Value) (w' : World), w.heap.size ≤ obx → w'.heap[obx]? = some (.cells #[v7] 32 (0, 0)) → Gl.Own w' v7 xs → freshIn w v7 → Mods noB w w' → v7.ownBlock ≠ some obx → Q .normal ⟨#[x0, x1, .pointer (some ⟨sbx, 0, none⟩), .pointer (some ⟨kbx, 0, none⟩), x4, .pointer (some ⟨obx, 0, none⟩), .bool false, x7, x8, x9, x10, x11, x12, x13, x14, x15, x16, y17, y18, y19, y20, y21, y22, y23, y24, y25, x26, x27, x28, x29, x30, x31, x32, x33, x34, x35, x36, x37, x38, x39, x40, x41, x42, x43, x44, x45, x46, x47], df⟩ w') : RW Try.prog (opsC 4 Try.f46) true Q ⟨#[x0, x1, .pointer (some ⟨sbx, 0, none⟩), .pointer (some ⟨kbx, 0, none⟩), x4, x5, x6, x7, x8, x9, x10, x11, x12, x13, x14, x15, x16, x17, x18, x19, x20, x21, x22, x23, x24, x25, x26, x27, x28, x29, x30, x31, x32, x33, x34, x35, x36, x37, x38, x39, x40, x41, x42, x43, x44, x45, x46, x47], df⟩ w := by
  have HQ := Lib.hid hK
  clear hK
  have HC := Lib.hid hC
  have Q1 := Lib.hid (fun b' (hm : Mods noB w b') => cells_of (hm.heap b1 (fun x => x)) 0)
  have Q2 := Lib.hid (fun b' (hm : Mods noB w b') => cells_of (hm.heap b2 (fun x => x)) 0)
  have Q3 := Lib.hid (fun b' (hm : Mods noB w b') => (hm.cellAt b4 (fun x => x) 0).trans b3)
  clear hC b1 b2 b3
  have MR := Lib.hid ((Mods.refl noB w).drew)
  refine rw_ord2 (S := fun b' => Mods noB w b') [(0, true), (1, true), (2, true), (3, true), (4, true)] 5 9 [(6, true), (7, true), (8, true), (9, false), (10, false), (11, true)] [(5, false), (6, true), (7, true), (8, true), (10, false), (11, true)] [] (by kernel_rfl) (by kernel_rfl) (by kernel_rfl) (by kernel_rfl) (by kernel_rfl) MR.out ?_
  refine wpOrdT_free (.pointer (some ⟨sg, 0, none⟩)) (some 18) ⟨by kernel_rfl, by kernel_rfl, by kernel_rfl⟩ (fun bb hb => of_load (x := (.tmp 2)) (by kernel_rfl) (by kernel_rfl) (load_c (Q1.out _ hb) Try.underlying25 rfl)) ?_
  refine wpOrdT_frees [1, 2] [.pointer (some ⟨sg, 0, none⟩), .pointer (some ⟨sg, 0, none⟩)] (rest := [(3, true), (4, true)]) (by kernel_rfl) (by kernel_rfl) (fun _ => by kernel_rfl) ?_
  refine wpOrdT_free (.pointer (some ⟨mg, 0, none⟩)) (some 21) ⟨by kernel_rfl, by kernel_rfl, by kernel_rfl⟩ (fun bb hb => of_load (x := (.tmp 20)) (by kernel_rfl) (by kernel_rfl) (load_c (Q3.out _ hb) Try.underlying58 rfl)) ?_
  refine wpOrdT_free (kv) (some 22) ⟨by kernel_rfl, by kernel_rfl, by kernel_rfl⟩ (fun bb hb => of_load (x := (.tmp 3)) (by kernel_rfl) (by kernel_rfl) (load_c (Q2.out _ hb) Try.underlying32 rfl)) ?_
  refine wpOrd2_split ?_ ?_
  · skip
    refine wpOrdT_call (some 23) ⟨by kernel_rfl, by kernel_rfl, by kernel_rfl⟩ (HC.out _ MR.out) (fun _ => by kernel_rfl) ?_
    rintro r w7 ⟨v7, rfl, o7, m7, f7⟩
    have F7 := f7.of MR.out.size
    replace MR := Lib.hid (MR.out.then0 m7)
    obtain ⟨a7, c7, e7, _⟩ := o7.rd.form
    have h17 : v7.oneCell' = true := by rw [e7]; rfl
    clear e7
    have F7L := o7.lt
    refine ⟨_, rfl, fun _ => MR.out, ?_⟩
    refine wpOrdT_frees [6, 7, 8] [.tuple #[v7, .bool false], v7, .bool false] (rest := [(9, false), (10, false), (11, true)]) (by kernel_rfl) (by kernel_rfl) (fun _ => by kernel_rfl) ?_
    refine wpOrdT_alloc (.cells #[.slice none 0 0] 32) (some 5) ⟨by kernel_rfl, by kernel_rfl, by kernel_rfl⟩ (by kernel_rfl) ?_
    intro k1 w_k1 hk_k1 hO_k1 hm_k1 hl_k1
    have MZ := MR.out.size
    replace MR := Lib.hid (MR.out.then0 hm_k1)
    refine ⟨fun _ => MR.out, ?_⟩
    have o7 := o7.keep hm_k1 (fun _ _ x => x)
    have N7 : v7.ownBlock ≠ some k1 := fun e => by have := F7L _ e; omega
    refine wpOrdT_st1 (ty := 32) (x := (.tmp 5)) (y := (.tmp 24)) (g := k1) (off := 0) (v := v7) none ⟨by kernel_rfl, by kernel_rfl, by kernel_rfl⟩ (by kernel_rfl) (by kernel_rfl) (by kernel_rfl) (by kernel_rfl) (by rw [cells_of hO_k1]; rfl) (free_of hO_k1 _) (h17) ?_
    intro w9 hw9
    refine ⟨(fun h => by first | (cases h; done) | exact (by rw [hw9]; exact MR.out.setCell (p := ⟨k1, 0, none⟩) (.inr (show w.heap.size ≤ k1 by omega)) v7)), ?_⟩
    refine wpOrdT_frees [11] [.bool false] (rest := []) (by kernel_rfl) (by kernel_rfl) (fun _ => by kernel_rfl) ?_
    exact wpOrdT_doneC (act_is (K := Q .normal) (by kernel_rfl) (HQ.out (.tuple #[v7, .bool false]) (.pointer (some ⟨sg, 0, none⟩)) (.pointer (some ⟨sg, 0, none⟩)) (.pointer (some ⟨sg, 0, none⟩)) (.pointer (some ⟨mg, 0, none⟩)) (kv) (.tuple #[v7, .bool false]) (v7) (.bool false) k1 v7 w9 (by omega) (by rw [hw9]; exact heap_set hO_k1 0 v7) (Own.keep (S := fun k => k = k1) o7 (by rw [hw9]; exact (Mods.refl (fun k => k = k1) _).setCell (p := ⟨k1, 0, none⟩) (.inl rfl) v7) (fun k hk e => N7 (e ▸ hk))) F7 (by rw [hw9]; exact MR.out.setCell (p := ⟨k1, 0, none⟩) (.inr (show w.heap.size ≤ k1 by omega)) v7) N7))
  · skip
    refine wpOrdT_alloc (.cells #[.slice none 0 0] 32) (some 5) ⟨by kernel_rfl, by kernel_rfl, by kernel_rfl⟩ (by kernel_rfl) ?_
    intro k1 w_k1 hk_k1 hO_k1 hm_k1 hl_k1
    have MZ := MR.out.size
    replace MR := Lib.hid (MR.out.then0 hm_k1)
    refine ⟨fun _ => MR.out, ?_⟩
    refine wpOrdT_call (some 23) ⟨by kernel_rfl, by kernel_rfl, by kernel_rfl⟩ (HC.out _ MR.out) (fun _ => by kernel_rfl) ?_
    rintro r w7 ⟨v7, rfl, o7, m7, f7⟩
    have F7 := f7.of MR.out.size
    have hO_k1 := m7.heap hO_k1 (fun x => x)
    have N7 : v7.ownBlock ≠ some k1 := fun e => by have := f7 _ e; omega
    have hs7 := m7.size
    replace MR := Lib.hid (MR.out.then0 m7)
    obtain ⟨a7, c7, e7, _⟩ := o7.rd.form
    have h17 : v7.oneCell' = true := by rw [e7]; rfl
    clear e7
    refine ⟨_, rfl, fun _ => MR.out, ?_⟩
    refine wpOrdT_frees [6, 7, 8] [.tuple #[v7, .bool false], v7, .bool false] (rest := [(10, false), (11, true)]) (by kernel_rfl) (by kernel_rfl) (fun _ => by kernel_rfl) ?_
    refine wpOrdT_st1 (ty := 32) (x := (.tmp 5)) (y := (.tmp 24)) (g := k1) (off := 0) (v := v7) none ⟨by kernel_rfl, by kernel_rfl, by kernel_rfl⟩ (by kernel_rfl) (by kernel_rfl) (by kernel_rfl) (by kernel_rfl) (by rw [cells_of hO_k1]; rfl) (free_of hO_k1 _) (h17) ?_
    intro w9 hw9
    refine ⟨(fun h => by first | (cases h; done) | exact (by rw [hw9]; exact MR.out.setCell (p := ⟨k1, 0, none⟩) (.inr (show w.heap.size ≤ k1 by omega)) v7)), ?_⟩
    refine wpOrdT_frees [11] [.bool false] (rest := []) (by kernel_rfl) (by kernel_rfl) (fun _ => by kernel_rfl) ?_
    exact wpOrdT_doneC (act_is (K := Q .normal) (by kernel_rfl) (HQ.out (.tuple #[v7, .bool false]) (.pointer (some ⟨sg, 0, none⟩)) (.pointer (some ⟨sg, 0, none⟩)) (.pointer (some ⟨sg, 0, none⟩)) (.pointer (some ⟨mg, 0, none⟩)) (kv) (.tuple #[v7, .bool false]) (v7) (.bool false) k1 v7 w9 (by omega) (by rw [hw9]; exact heap_set hO_k1 0 v7) (Own.keep (S := fun k => k = k1) o7 (by rw [hw9]; exact (Mods.refl (fun k => k = k1) _).setCell (p := ⟨k1, 0, none⟩) (.inl rfl) v7) (fun k hk e => N7 (e ▸ hk))) F7 (by rw [hw9]; exact MR.out.setCell (p := ⟨k1, 0, none⟩) (.inr (show w.heap.size ≤ k1 by omega)) v7) N7))
set_option maxHeartbeats 1000000 in
theorem kvn8 {w : World} {sbx sg b off m cap l : Nat} {qv : Value} {fn : Nat} {bd : Array Value} {pvs us : List Value} (b1 : w.heap[sbx]? = some (.cells #[.pointer (some ⟨sg, 0, none⟩)] 25 (0, 0))) (b3 : w.cell? ⟨sg, 1, none⟩ = some (.slice (some ⟨b, off, none⟩) (m + 1) cap)) (b4 : sg < w.heap.size) (hB : OB w 76 1 b off (m + 1) cap pvs) (hp : pvs[m]? = some qv) (hQ : OwnG w 80 1 qv l us) (hm : m ≤ 1000000) (hl : l ≤ 1000000) (hqb : ¬ ofV qv b) (hqs : ¬ ofV qv sbx) (hqg : ¬ ofV qv sg) {x0 x1 x3 x5 x6 x8 x9 x10 x11 x12 x13 x14 x15 x16 x17 x18 x19 x20 x21 x22 x23 x24 x25 x26 x27 x28 x29 x30 x31 x32 x33 x34 x35 x36 x37 x38 x39 x40 x41 x42 x43 x44 x45 x46 x47 : Value} {df : List Deferred} {Q : Exit → Act → World → Prop}
    (hK : ∀ (y29 y30 y31 y32 y33 y34 y35 y36 y37 y38 y39 y40 y41 y42 y43 y44 y45 y46 y47 : Value) (v8 : Value) (w8 : World) (w' : World), OwnG w8 80 1 v8 (l + 1) (us ++ [.func (.func fn) #[] bd]) → Mods (ofV qv) w w8 → (v8.ownBlock = qv.ownBlock ∨ freshIn w v8) → w' = w8.setCell ⟨b, off + m, none⟩ v8 → Q .normal ⟨#[x0, x1, .pointer (some ⟨sbx, 0, none⟩), x3, .int .i64 (((m + 1) : Nat) : Int), x5, x6, .func (.func fn) #[] bd, x8, x9, x10, x11, x12, x13, x14, x15, x16, x17, x18, x19, x20, x21, x22, x23, x24, x25, x26, x27, x28, y29, y30, y31, y32, y33, y34, y35, y36, y37, y38, y39, y40, y41, y42, y43, y44, y45, y46, y47], df⟩ w') : RW Try.prog (opsC 8 Try.f46) true Q ⟨#[x0, x1, .pointer (some ⟨sbx, 0, none⟩), x3, .int .i64 (((m + 1) : Nat) : Int), x5, x6, .func (.func fn) #[] bd, x8, x9, x10, x11, x12, x13, x14, x15, x16, x17, x18, x19, x20, x21, x22, x23, x24, x25, x26, x27, x28, x29, x30, x31, x32, x33, x34, x35, x36, x37, x38, x39, x40, x41, x42, x43, x44, x45, x46, x47], df⟩ w := by
  have HQ := Lib.hid hK
  clear hK
  have Q1 := Lib.hid (fun b' (hm : Mods (ofV qv) w b') => cells_of (hm.heap b1 hqs) 0)
  have Q3 := Lib.hid (fun b' (hm : Mods (ofV qv) w b') => (hm.cellAt b4 hqg 1).trans b3)
  have Q4 := Lib.hid (fun b' (hm : Mods (ofV qv) w b') => (hB.keep hm hqb).cell hp)
  have HQv := Lib.hid hQ
  have HB := Lib.hid hB
  have hcap := hB.hn
  clear b1 b3 hB hp hQ
  have MR := Lib.hid ((Mods.refl noB w).drew)
  refine rw_ordT (S := fun b' => Mods (ofV qv) w b') [(0, true), (1, true), (2, true), (3, true), (4, true), (5, true), (6, true), (7, true), (8, true), (9, true), (10, true), (11, true), (12, true), (13, true), (14, true), (15, true), (16, false), (17, false), (18, true), (19, false)] [19] (by kernel_rfl) (by kernel_rfl) (by kernel_rfl) (by kernel_rfl) (MR.out.mono (fun _ _ x => x.elim)) ?_
  refine wpOrdT_free (.pointer (some ⟨sg, 0, none⟩)) (some 29) ⟨by kernel_rfl, by kernel_rfl, by kernel_rfl⟩ (fun bb hb => of_load (x := (.tmp 2)) (by kernel_rfl) (by kernel_rfl) (load_c (Q1.out _ hb) Try.underlying25 rfl)) ?_
  refine wpOrdT_frees [1, 2] [.pointer (some ⟨sg, 0, none⟩), .pointer (some ⟨sg, 1, none⟩)] (rest := [(3, true), (4, true), (5, true), (6, true), (7, true), (8, true), (9, true), (10, true), (11, true), (12, true), (13, true), (14, true), (15, true), (16, false), (17, false), (18, true), (19, false)]) (by kernel_rfl) (by kernel_rfl) (fun _ => by kernel_rfl) ?_
  refine wpOrdT_free (.slice (some ⟨b, off, none⟩) (m + 1) cap) (some 32) ⟨by kernel_rfl, by kernel_rfl, by kernel_rfl⟩ (fun bb hb => of_load (x := (.tmp 31)) (by kernel_rfl) (by kernel_rfl) (load_c (Q3.out _ hb) Try.underlying60 rfl)) ?_
  refine wpOrdT_frees [4] [.int .i64 (((m + 1) : Nat) : Int)] (rest := [(5, true), (6, true), (7, true), (8, true), (9, true), (10, true), (11, true), (12, true), (13, true), (14, true), (15, true), (16, false), (17, false), (18, true), (19, false)]) (by kernel_rfl) (by kernel_rfl) (fun _ => by kernel_rfl) ?_
  refine wpOrdT_free (.int .i64 ((m : Nat) : Int)) (some 34) ⟨by kernel_rfl, by kernel_rfl, by kernel_rfl⟩ (fun bb hb => run_bin (t := 3) (t' := 3) (xv := .int .i64 (((m + 1) : Nat) : Int)) (yv := .int .i64 1) (x := (.tmp 33)) (y := (.const (.int .i64 1))) (by kernel_rfl) (by kernel_rfl) (by kernel_rfl) (fun _ => by kernel_rfl) (run_subI _ (by omega) (by omega) (by omega))) ?_
  refine wpOrdT_free (.pointer (some ⟨sg, 0, none⟩)) (some 35) ⟨by kernel_rfl, by kernel_rfl, by kernel_rfl⟩ (fun bb hb => of_load (x := (.tmp 2)) (by kernel_rfl) (by kernel_rfl) (load_c (Q1.out _ hb) Try.underlying25 rfl)) ?_
  refine wpOrdT_frees [7, 8] [.pointer (some ⟨sg, 0, none⟩), .pointer (some ⟨sg, 1, none⟩)] (rest := [(9, true), (10, true), (11, true), (12, true), (13, true), (14, true), (15, true), (16, false), (17, false), (18, true), (19, false)]) (by kernel_rfl) (by kernel_rfl) (fun _ => by kernel_rfl) ?_
  refine wpOrdT_free (.slice (some ⟨b, off, none⟩) (m + 1) cap) (some 38) ⟨by kernel_rfl, by kernel_rfl, by kernel_rfl⟩ (fun bb hb => of_load (x := (.tmp 37)) (by kernel_rfl) (by kernel_rfl) (load_c (Q3.out _ hb) Try.underlying60 rfl)) ?_
  refine wpOrdT_frees [10] [.int .i64 (((m + 1) : Nat) : Int)] (rest := [(11, true), (12, true), (13, true), (14, true), (15, true), (16, false), (17, false), (18, true), (19, false)]) (by kernel_rfl) (by kernel_rfl) (fun _ => by kernel_rfl) ?_
  refine wpOrdT_free (.int .i64 ((m : Nat) : Int)) (some 40) ⟨by kernel_rfl, by kernel_rfl, by kernel_rfl⟩ (fun bb hb => run_bin (t := 3) (t' := 3) (xv := .int .i64 (((m + 1) : Nat) : Int)) (yv := .int .i64 1) (x := (.tmp 39)) (y := (.const (.int .i64 1))) (by kernel_rfl) (by kernel_rfl) (by kernel_rfl) (fun _ => by kernel_rfl) (run_subI _ (by omega) (by omega) (by omega))) ?_
  refine wpOrdT_free (.pointer (some ⟨b, off + m, none⟩)) (some 41) ⟨by kernel_rfl, by kernel_rfl, by kernel_rfl⟩ (fun bb hb => run_idx (s := 1) (e := 76) (g := b) (off := off) (n := (m + 1)) (c := cap) (i := ((m : Nat) : Int)) (x := (.tmp 38)) (y := (.tmp 40)) (off + m) (by kernel_rfl) (by kernel_rfl) (by kernel_rfl) Try.underlying60 (by kernel_rfl) (by omega) (by omega) (by omega)) ?_
  refine wpOrdT_free (qv) (some 42) ⟨by kernel_rfl, by kernel_rfl, by kernel_rfl⟩ (fun bb hb => of_load (x := (.tmp 41)) (by kernel_rfl) (by kernel_rfl) (load_c (Q4.out _ hb) Try.underlying76 rfl)) ?_
  refine wpOrdT_frees [14, 15] [.func (.func fn) #[] bd, .agg #[.func (.func fn) #[] bd]] (rest := [(16, false), (17, false), (18, true), (19, false)]) (by kernel_rfl) (by kernel_rfl) (fun _ => by kernel_rfl) ?_
  refine wpOrdT_bs (.cells #[.func (.func fn) #[] bd] 80) 1 (some 45) ⟨by kernel_rfl, by kernel_rfl, by kernel_rfl⟩ (by kernel_rfl) ?_
  intro k1 w_k1 hk_k1 hO_k1 hm_k1 hl_k1
  have MZ := MR.out.size
  replace MR := Lib.hid (MR.out.then0 hm_k1)
  refine ⟨fun _ => (MR.out.mono (fun _ _ x => x.elim)), ?_⟩
  obtain ⟨inf, hi, hz, hs, hby⟩ := info_parts infoC
  obtain ⟨v8, w8, hr8, o8, m8, f8⟩ := run_ap (P := Try.prog) 76 76 76 80 80 inf (.agg #[.nilFunc]) Try.underlying76 Try.underlying76 hi hz (by rw [hs]; rfl) (by rw [hs]; exact HQv.out.keep MR.out (fun _ _ x => x)) (m := 1) (ys := [.func (.func fn) #[] bd]) (by rw [hs]; exact OwnG.rd (ob_new1 hO_k1).own) (by intro y hy; rw [List.mem_singleton.1 hy]; rfl) (by unfold maxLen; omega) (by rw [hby]; omega)
  rw [hs] at o8
  refine wpOrdT_run v8 w8 (some 46) ⟨by kernel_rfl, by kernel_rfl, by kernel_rfl⟩ (of_append (x := (.tmp 42)) (y := (.tmp 45)) (by kernel_rfl) (by kernel_rfl) (by kernel_rfl) hr8) (fun _ => MR.out.trans m8 (fun _ _ x => x.elim) (fun _ _ x => x)) ?_
  have f9 := f8.imp id (fun h => h.of MR.out.size)
  have M8 := Lib.hid (MR.out.trans m8 (U := ofV qv) (fun _ _ x => x.elim) (fun _ _ x => x))
  have ob8 := HB.out.keep M8.out hqb
  obtain ⟨a8, c8, e8, _⟩ := o8.rd.form
  have h18 : v8.oneCell' = true := by rw [e8]; rfl
  clear e8
  refine wpOrdT_free (.pointer (some ⟨b, off + m, none⟩)) (some 47) ⟨by kernel_rfl, by kernel_rfl, by kernel_rfl⟩ (fun bb hb => run_idx (s := 1) (e := 76) (g := b) (off := off) (n := (m + 1)) (c := cap) (i := ((m : Nat) : Int)) (x := (.tmp 32)) (y := (.tmp 34)) (off + m) (by kernel_rfl) (by kernel_rfl) (by kernel_rfl) Try.underlying60 (by kernel_rfl) (by omega) (by omega) (by omega)) ?_
  refine wpOrdT_st1 (ty := 76) (x := (.tmp 47)) (y := (.tmp 46)) (g := b) (off := off + m) (v := v8) none ⟨by kernel_rfl, by kernel_rfl, by kernel_rfl⟩ (by kernel_rfl) (by kernel_rfl) (by kernel_rfl) (by kernel_rfl) (ob8.there (by have := ob8.hn; omega)) (ob8.free _) (h18) ?_
  intro w9 hw9
  refine ⟨(fun h => by first | (cases h; done) | exact trivial), ?_⟩
  exact wpOrdT_doneC (act_is (K := Q .normal) (by kernel_rfl) (HQ.out (.pointer (some ⟨sg, 0, none⟩)) (.pointer (some ⟨sg, 0, none⟩)) (.pointer (some ⟨sg, 1, none⟩)) (.slice (some ⟨b, off, none⟩) (m + 1) cap) (.int .i64 (((m + 1) : Nat) : Int)) (.int .i64 ((m : Nat) : Int)) (.pointer (some ⟨sg, 0, none⟩)) (.pointer (some ⟨sg, 0, none⟩)) (.pointer (some ⟨sg, 1, none⟩)) (.slice (some ⟨b, off, none⟩) (m + 1) cap) (.int .i64 (((m + 1) : Nat) : Int)) (.int .i64 ((m : Nat) : Int)) (.pointer (some ⟨b, off + m, none⟩)) (qv) (.func (.func fn) #[] bd) (.agg #[.func (.func fn) #[] bd]) (.slice (some ⟨k1, 0, none⟩) 1 1) (v8) (.pointer (some ⟨b, off + m, none⟩)) v8 w8 w9 o8 M8.out f9 hw9))
set_option maxHeartbeats 1000000 in
theorem kvb1 {w : World} {X : World → Prop} {sbx kbx sg mg : Nat} {kv : Value} (b1 : w.heap[sbx]? = some (.cells #[.pointer (some ⟨sg, 0, none⟩)] 25 (0, 0))) (b2 : w.heap[kbx]? = some (.cells #[kv] 32 (0, 0))) (b3 : w.cell? ⟨sg, 0, none⟩ = some (.pointer (some ⟨mg, 0, none⟩))) (b4 : sg < w.heap.size) (hC : ∀ b', Mods noB w b' → Calls Try.prog 48 #[.pointer (some ⟨mg, 0, none⟩), kv] b' fun e w' => ∃ v, e = .returned v ∧ X w') {x2 x3 x4 x5 x6 x7 : Value} {df : List Deferred} {Q : Exit → Act → World → Prop}
    (hK : ∀ (y2 y3 y4 y5 y6 y7 : Value) (v7 : Value) (w' : World), X w' → Q .normal ⟨#[.pointer (some ⟨sbx, 0, none⟩), .pointer (some ⟨kbx, 0, none⟩), y2, y3, y4, y5, y6, y7], df⟩ w') : RW Try.prog (opsC 0 Try.f65) true Q ⟨#[.pointer (some ⟨sbx, 0, none⟩), .pointer (some ⟨kbx, 0, none⟩), x2, x3, x4, x5, x6, x7], df⟩ w := by
  have HQ := Lib.hid hK
  clear hK
  have HC := Lib.hid hC
  have Q1 := Lib.hid (fun b' (hm : Mods noB w b') => cells_of (hm.heap b1 (fun x => x)) 0)
  have Q2 := Lib.hid (fun b' (hm : Mods noB w b') => cells_of (hm.heap b2 (fun x => x)) 0)
  have Q3 := Lib.hid (fun b' (hm : Mods noB w b') => (hm.cellAt b4 (fun x => x) 0).trans b3)
  clear hC b1 b2 b3
  have MR := Lib.hid ((Mods.refl noB w).drew)
  refine rw_ordT (S := fun b' => Mods noB w b') [(0, true), (1, true), (2, true), (3, true), (4, true), (5, false)] [5] (by kernel_rfl) (by kernel_rfl) (by kernel_rfl) (by kernel_rfl) MR.out ?_
  refine wpOrdT_free (.pointer (some ⟨sg, 0, none⟩)) (some 2) ⟨by kernel_rfl, by kernel_rfl, by kernel_rfl⟩ (fun bb hb => of_load (x := (.tmp 0)) (by kernel_rfl) (by kernel_rfl) (load_c (Q1.out _ hb) Try.underlying25 rfl)) ?_
  refine wpOrdT_frees [1, 2] [.pointer (some ⟨sg, 0, none⟩), .pointer (some ⟨sg, 0, none⟩)] (rest := [(3, true), (4, true), (5, false)]) (by kernel_rfl) (by kernel_rfl) (fun _ => by kernel_rfl) ?_
  refine wpOrdT_free (.pointer (some ⟨mg, 0, none⟩)) (some 5) ⟨by kernel_rfl, by kernel_rfl, by kernel_rfl⟩ (fun bb hb => of_load (x := (.tmp 4)) (by kernel_rfl) (by kernel_rfl) (load_c (Q3.out _ hb) Try.underlying58 rfl)) ?_
  refine wpOrdT_free (kv) (some 6) ⟨by kernel_rfl, by kernel_rfl, by kernel_rfl⟩ (fun bb hb => of_load (x := (.tmp 1)) (by kernel_rfl) (by kernel_rfl) (load_c (Q2.out _ hb) Try.underlying32 rfl)) ?_
  refine wpOrdT_call (some 7) ⟨by kernel_rfl, by kernel_rfl, by kernel_rfl⟩ (HC.out _ MR.out) (fun _ => by kernel_rfl) ?_
  rintro r w7 ⟨v7, rfl, hx⟩
  refine ⟨_, rfl, (fun h => by cases h), ?_⟩
  exact wpOrdT_doneC (act_is (K := Q .normal) (by kernel_rfl) (HQ.out (.pointer (some ⟨sg, 0, none⟩)) (.pointer (some ⟨sg, 0, none⟩)) (.pointer (some ⟨sg, 0, none⟩)) (.pointer (some ⟨mg, 0, none⟩)) (kv) (v7) v7 w7 hx))
set_option maxHeartbeats 1000000 in
theorem kvb2 {w : World} {X : World → Prop} {obx : Nat} {ov : Value} {sbx kbx sg mg : Nat} {kv : Value} (b1 : w.heap[sbx]? = some (.cells #[.pointer (some ⟨sg, 0, none⟩)] 25 (0, 0))) (b2 : w.heap[kbx]? = some (.cells #[kv] 32 (0, 0))) (b3 : w.cell? ⟨sg, 0, none⟩ = some (.pointer (some ⟨mg, 0, none⟩))) (b4 : sg < w.heap.size) (b5 : w.heap[obx]? = some (.cells #[ov] 32 (0, 0))) (hC : ∀ b', Mods noB w b' → Calls Try.prog 47 #[.pointer (some ⟨mg, 0, none⟩), kv, ov] b' fun e w' => ∃ v, e = .returned v ∧ X w') {x3 x4 x5 x6 x7 x8 x9 : Value} {df : List Deferred} {Q : Exit → Act → World → Prop}
    (hK : ∀ (y3 y4 y5 y6 y7 y8 y9 : Value) (v7 : Value) (w' : World), X w' → Q .normal ⟨#[.pointer (some ⟨sbx, 0, none⟩), .pointer (some ⟨kbx, 0, none⟩), .pointer (some ⟨obx, 0, none⟩), y3, y4, y5, y6, y7, y8, y9], df⟩ w') : RW Try.prog (opsC 0 Try.f66) true Q ⟨#[.pointer (some ⟨sbx, 0, none⟩), .pointer (some ⟨kbx, 0, none⟩), .pointer (some ⟨obx, 0, none⟩), x3, x4, x5, x6, x7, x8, x9], df⟩ w := by
  have HQ := Lib.hid hK
  clear hK
  have HC := Lib.hid hC
  have Q5 := Lib.hid (fun b' (hm : Mods noB w b') => cells_of (hm.heap b5 (fun x => x)) 0)
  have Q1 := Lib.hid (fun b' (hm : Mods noB w b') => cells_of (hm.heap b1 (fun x => x)) 0)
  have Q2 := Lib.hid (fun b' (hm : Mods noB w b') => cells_of (hm.heap b2 (fun x => x)) 0)
  have Q3 := Lib.hid (fun b' (hm : Mods noB w b') => (hm.cellAt b4 (fun x => x) 0).trans b3)
  clear hC b1 b2 b3 b5
  have MR := Lib.hid ((Mods.refl noB w).drew)
  refine rw_ordT (S := fun b' => Mods noB w b') [(0, true), (1, true), (2, true), (3, true), (4, true), (5, true), (6, false)] [6] (by kernel_rfl) (by kernel_rfl) (by kernel_rfl) (by kernel_rfl) MR.out ?_
  refine wpOrdT_free (.pointer (some ⟨sg, 0, none⟩)) (some 3) ⟨by kernel_rfl, by kernel_rfl, by kernel_rfl⟩ (fun bb hb => of_load (x := (.tmp 0)) (by kernel_rfl) (by kernel_rfl) (load_c (Q1.out _ hb) Try.underlying25 rfl)) ?_
  refine wpOrdT_frees [1, 2] [.pointer (some ⟨sg, 0, none⟩), .pointer (some ⟨sg, 0, none⟩)] (rest := [(3, true), (4, true), (5, true), (6, false)]) (by kernel_rfl) (by kernel_rfl) (fun _ => by kernel_rfl) ?_
  refine wpOrdT_free (.pointer (some ⟨mg, 0, none⟩)) (some 6) ⟨by kernel_rfl, by kernel_rfl, by kernel_rfl⟩ (fun bb hb => of_load (x := (.tmp 5)) (by kernel_rfl) (by kernel_rfl) (load_c (Q3.out _ hb) Try.underlying58 rfl)) ?_
  refine wpOrdT_free (kv) (some 7) ⟨by kernel_rfl, by kernel_rfl, by kernel_rfl⟩ (fun bb hb => of_load (x := (.tmp 1)) (by kernel_rfl) (by kernel_rfl) (load_c (Q2.out _ hb) Try.underlying32 rfl)) ?_
  refine wpOrdT_free (ov) (some 8) ⟨by kernel_rfl, by kernel_rfl, by kernel_rfl⟩ (fun bb hb => of_load (x := (.tmp 2)) (by kernel_rfl) (by kernel_rfl) (load_c (Q5.out _ hb) Try.underlying32 rfl)) ?_
  refine wpOrdT_call (some 9) ⟨by kernel_rfl, by kernel_rfl, by kernel_rfl⟩ (HC.out _ MR.out) (fun _ => by kernel_rfl) ?_
  rintro r w7 ⟨v7, rfl, hx⟩
  refine ⟨_, rfl, (fun h => by cases h), ?_⟩
  exact wpOrdT_doneC (act_is (K := Q .normal) (by kernel_rfl) (HQ.out (.pointer (some ⟨sg, 0, none⟩)) (.pointer (some ⟨sg, 0, none⟩)) (.pointer (some ⟨sg, 0, none⟩)) (.pointer (some ⟨mg, 0, none⟩)) (kv) (ov) (v7) v7 w7 hx))
set_option maxHeartbeats 1000000 in
theorem kvc6 {w : World} {sg b off m cap l l2 : Nat} {qv q2 : Value} {pvs us us2 : List Value} (b3 : w.cell? ⟨sg, 1, none⟩ = some (.slice (some ⟨b, off, none⟩) (m + 1) cap)) (b4 : sg < w.heap.size) (hB : OB w 76 1 b off (m + 1) cap pvs) (hp : pvs[m]? = some qv) (hQ : OwnG w 80 1 qv l us) (h2 : RdG w 1 q2 l2 us2) (hc2 : ∀ y ∈ us2, y.oneCell' = true) (hm : m ≤ 1000000) (hl : l ≤ 1000000) (hl2 : l2 ≤ 1000000) (hqb : ¬ ofV qv b) (hqg : ¬ ofV qv sg) {x1 x2 x4 x6 x7 x8 x9 x10 x11 x12 x13 x14 x15 x16 x17 x18 x19 x20 x21 x22 x23 x24 x25 x26 x27 x28 x29 x30 x31 x32 x33 x34 x35 x36 : Value} {df : List Deferred} {Q : Exit → Act → World → Prop}
    (hK : ∀ (y20 y21 y22 y23 y24 y25 y26 y27 y28 y29 y30 y31 y32 y33 y34 y35 y36 : Value) (v8 : Value) (w8 : World) (w' : World), OwnG w8 80 1 v8 (l + l2) (us ++ us2) → Mods (ofV qv) w w8 → (v8.ownBlock = qv.ownBlock ∨ freshIn w v8) → w' = w8.setCell ⟨b, off + m, none⟩ v8 → Q .normal ⟨#[.pointer (some ⟨sg, 0, none⟩), x1, x2, q2, x4, .int .i64 (((m + 1) : Nat) : Int), x6, x7, x8, x9, x10, x11, x12, x13, x14, x15, x16, x17, x18, x19, y20, y21, y22, y23, y24, y25, y26, y27, y28, y29, y30, y31, y32, y33, y34, y35, y36], df⟩ w') : RW Try.prog (opsC 6 Try.f21) true Q ⟨#[.pointer (some ⟨sg, 0, none⟩), x1, x2, q2, x4, .int .i64 (((m + 1) : Nat) : Int), x6, x7, x8, x9, x10, x11, x12, x13, x14, x15, x16, x17, x18, x19, x20, x21, x22, x23, x24, x25, x26, x27, x28, x29, x30, x31, x32, x33, x34, x35, x36], df⟩ w := by
  have HQ := Lib.hid hK
  clear hK
  have Q3 := Lib.hid (fun b' (hm : Mods (ofV qv) w b') => (hm.cellAt b4 hqg 1).trans b3)
  have Q4 := Lib.hid (fun b' (hm : Mods (ofV qv) w b') => (hB.keep hm hqb).cell hp)
  have HQv := Lib.hid hQ
  have H2 := Lib.hid h2
  have HB := Lib.hid hB
  have hcap := hB.hn
  clear b3 hB hp hQ h2
  have MR := Lib.hid ((Mods.refl noB w).drew)
  refine rw_ordT (S := fun b' => Mods (ofV qv) w b') [(0, true), (1, true), (2, true), (3, true), (4, true), (5, true), (6, true), (7, true), (8, true), (9, true), (10, true), (11, true), (12, true), (13, true), (14, true), (15, false), (16, true), (17, false)] [17] (by kernel_rfl) (by kernel_rfl) (by kernel_rfl) (by kernel_rfl) (MR.out.mono (fun _ _ x => x.elim)) ?_
  refine wpOrdT_frees [0, 1, 2] [.pointer (some ⟨sg, 0, none⟩), .pointer (some ⟨sg, 0, none⟩), .pointer (some ⟨sg, 1, none⟩)] (rest := [(3, true), (4, true), (5, true), (6, true), (7, true), (8, true), (9, true), (10, true), (11, true), (12, true), (13, true), (14, true), (15, false), (16, true), (17, false)]) (by kernel_rfl) (by kernel_rfl) (fun _ => by kernel_rfl) ?_
  refine wpOrdT_free (.slice (some ⟨b, off, none⟩) (m + 1) cap) (some 23) ⟨by kernel_rfl, by kernel_rfl, by kernel_rfl⟩ (fun bb hb => of_load (x := (.tmp 22)) (by kernel_rfl) (by kernel_rfl) (load_c (Q3.out _ hb) Try.underlying60 rfl)) ?_
  refine wpOrdT_frees [4] [.int .i64 (((m + 1) : Nat) : Int)] (rest := [(5, true), (6, true), (7, true), (8, true), (9, true), (10, true), (11, true), (12, true), (13, true), (14, true), (15, false), (16, true), (17, false)]) (by kernel_rfl) (by kernel_rfl) (fun _ => by kernel_rfl) ?_
  refine wpOrdT_free (.int .i64 ((m : Nat) : Int)) (some 25) ⟨by kernel_rfl, by kernel_rfl, by kernel_rfl⟩ (fun bb hb => run_bin (t := 3) (t' := 3) (xv := .int .i64 (((m + 1) : Nat) : Int)) (yv := .int .i64 1) (x := (.tmp 24)) (y := (.const (.int .i64 1))) (by kernel_rfl) (by kernel_rfl) (by kernel_rfl) (fun _ => by kernel_rfl) (run_subI _ (by omega) (by omega) (by omega))) ?_
  refine wpOrdT_frees [6, 7, 8] [.pointer (some ⟨sg, 0, none⟩), .pointer (some ⟨sg, 0, none⟩), .pointer (some ⟨sg, 1, none⟩)] (rest := [(9, true), (10, true), (11, true), (12, true), (13, true), (14, true), (15, false), (16, true), (17, false)]) (by kernel_rfl) (by kernel_rfl) (fun _ => by kernel_rfl) ?_
  refine wpOrdT_free (.slice (some ⟨b, off, none⟩) (m + 1) cap) (some 29) ⟨by kernel_rfl, by kernel_rfl, by kernel_rfl⟩ (fun bb hb => of_load (x := (.tmp 28)) (by kernel_rfl) (by kernel_rfl) (load_c (Q3.out _ hb) Try.underlying60 rfl)) ?_
  refine wpOrdT_frees [10] [.int .i64 (((m + 1) : Nat) : Int)] (rest := [(11, true), (12, true), (13, true), (14, true), (15, false), (16, true), (17, false)]) (by kernel_rfl) (by kernel_rfl) (fun _ => by kernel_rfl) ?_
  refine wpOrdT_free (.int .i64 ((m : Nat) : Int)) (some 31) ⟨by kernel_rfl, by kernel_rfl, by kernel_rfl⟩ (fun bb hb => run_bin (t := 3) (t' := 3) (xv := .int .i64 (((m + 1) : Nat) : Int)) (yv := .int .i64 1) (x := (.tmp 30)) (y := (.const (.int .i64 1))) (by kernel_rfl) (by kernel_rfl) (by kernel_rfl) (fun _ => by kernel_rfl) (run_subI _ (by omega) (by omega) (by omega))) ?_
  refine wpOrdT_free (.pointer (some ⟨b, off + m, none⟩)) (some 32) ⟨by kernel_rfl, by kernel_rfl, by kernel_rfl⟩ (fun bb hb => run_idx (s := 1) (e := 76) (g := b) (off := off) (n := (m + 1)) (c := cap) (i := ((m : Nat) : Int)) (x := (.tmp 29)) (y := (.tmp 31)) (off + m) (by kernel_rfl) (by kernel_rfl) (by kernel_rfl) Try.underlying60 (by kernel_rfl) (by omega) (by omega) (by omega)) ?_
  refine wpOrdT_free (qv) (some 33) ⟨by kernel_rfl, by kernel_rfl, by kernel_rfl⟩ (fun bb hb => of_load (x := (.tmp 32)) (by kernel_rfl) (by kernel_rfl) (load_c (Q4.out _ hb) Try.underlying76 rfl)) ?_
  refine wpOrdT_frees [14] [q2] (rest := [(15, false), (16, true), (17, false)]) (by kernel_rfl) (by kernel_rfl) (fun _ => by kernel_rfl) ?_
  obtain ⟨inf, hi, hz, hs, hby⟩ := info_parts infoC
  obtain ⟨v8, w8, hr8, o8, m8, f8⟩ := run_ap (P := Try.prog) 76 76 76 80 80 inf (.agg #[.nilFunc]) Try.underlying76 Try.underlying76 hi hz (by rw [hs]; rfl) (by rw [hs]; exact HQv.out.keep MR.out (fun _ _ x => x)) (m := l2) (ys := us2) (by rw [hs]; exact RdG.keep H2.out MR.out (fun _ _ x => x)) hc2 (by unfold maxLen; omega) (by rw [hby]; omega)
  rw [hs] at o8
  refine wpOrdT_run v8 w8 (some 35) ⟨by kernel_rfl, by kernel_rfl, by kernel_rfl⟩ (of_append (x := (.tmp 33)) (y := (.tmp 34)) (by kernel_rfl) (by kernel_rfl) (by kernel_rfl) hr8) (fun _ => MR.out.trans m8 (fun _ _ x => x.elim) (fun _ _ x => x)) ?_
  have f9 := f8.imp id (fun h => h.of MR.out.size)
  have M8 := Lib.hid (MR.out.trans m8 (U := ofV qv) (fun _ _ x => x.elim) (fun _ _ x => x))
  have ob8 := HB.out.keep M8.out hqb
  obtain ⟨a8, c8, e8, _⟩ := o8.rd.form
  have h18 : v8.oneCell' = true := by rw [e8]; rfl
  clear e8
  refine wpOrdT_free (.pointer (some ⟨b, off + m, none⟩)) (some 36) ⟨by kernel_rfl, by kernel_rfl, by kernel_rfl⟩ (fun bb hb => run_idx (s := 1) (e := 76) (g := b) (off := off) (n := (m + 1)) (c := cap) (i := ((m : Nat) : Int)) (x := (.tmp 23)) (y := (.tmp 25)) (off + m) (by kernel_rfl) (by kernel_rfl) (by kernel_rfl) Try.underlying60 (by kernel_rfl) (by omega) (by omega) (by omega)) ?_
  refine wpOrdT_st1 (ty := 76) (x := (.tmp 36)) (y := (.tmp 35)) (g := b) (off := off + m) (v := v8) none ⟨by kernel_rfl, by kernel_rfl, by kernel_rfl⟩ (by kernel_rfl) (by kernel_rfl) (by kernel_rfl) (by kernel_rfl) (ob8.there (by have := ob8.hn; omega)) (ob8.free _) (h18) ?_
  intro w9 hw9
  refine ⟨(fun h => by first | (cases h; done) | exact trivial), ?_⟩
  exact wpOrdT_doneC (act_is (K := Q .normal) (by kernel_rfl) (HQ.out (.pointer (some ⟨sg, 0, none⟩)) (.pointer (some ⟨sg, 0, none⟩)) (.pointer (some ⟨sg, 1, none⟩)) (.slice (some ⟨b, off, none⟩) (m + 1) cap) (.int .i64 (((m + 1) : Nat) : Int)) (.int .i64 ((m : Nat) : Int)) (.pointer (some ⟨sg, 0, none⟩)) (.pointer (some ⟨sg, 0, none⟩)) (.pointer (some ⟨sg, 1, none⟩)) (.slice (some ⟨b, off, none⟩) (m + 1) cap) (.int .i64 (((m + 1) : Nat) : Int)) (.int .i64 ((m : Nat) : Int)) (.pointer (some ⟨b, off + m, none⟩)) (qv) (q2) (v8) (.pointer (some ⟨b, off + m, none⟩)) v8 w8 w9 o8 M8.out f9 hw9))
end Go.Proofs.Ytngemlpalkfjeaa

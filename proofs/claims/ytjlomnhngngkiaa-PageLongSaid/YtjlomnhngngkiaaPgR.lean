/- page.Map.Set at a new key: its drawn regions (printed by gen_set.py). -/
import Derived.Test.YtjlomnhngngkiaaZB
import Derived.Test.YtjlomnhngngkiaaIn
namespace Go.Proofs.Ytjlomnhngngkiaa
open Go.Gl Go.RowKit
set_option linter.unusedVariables false
set_option linter.unusedSimpArgs false
set_option maxRecDepth 100000

theorem ob_new {w : World} {k : Nat} {u v : Value} {e : TypeId} (h : w.heap[k]? = some (.cells #[u, v] e (0, 0))) : OB w e 2 k 0 1 1 [u, v] :=
  ⟨rfl, Nat.le_refl _, by simp [maxLen], _, h, by simp, fun j x hj => by rw [Nat.zero_add]; simpa using hj⟩
theorem ob_new1 {w : World} {k : Nat} {u : Value} {e : TypeId} (h : w.heap[k]? = some (.cells #[u] e (0, 0))) : OB w e 1 k 0 1 1 [u] :=
  ⟨rfl, Nat.le_refl _, by simp [maxLen], _, h, by simp, fun j x hj => by rw [Nat.zero_add]; simpa using hj⟩
theorem ob_cut {w : World} {e : TypeId} {s g off n cap m : Nat} {xs : List Value} (h : OB w e s g off n cap xs) (hm : m ≤ n) : OB w e s g off m cap (xs.take (m * s)) := by
  obtain ⟨cur, h1, h2, h3⟩ := h.row
  refine ⟨by rw [List.length_take, h.hl]; exact Nat.min_eq_left (Nat.mul_le_mul_right _ hm), Nat.le_trans hm h.hn, h.hc, cur, h1, h2, fun j u hj => h3 j u ?_⟩
  have hlt := (List.getElem?_eq_some_iff.1 hj).1
  rw [List.length_take] at hlt
  rwa [List.getElem?_take_of_lt (by omega)] at hj
theorem ob_rest {w : World} {e : TypeId} {s g off n cap m : Nat} {xs : List Value} (h : OB w e s g off n cap xs) (hm : m ≤ n) : OB w e s g (off + m * s) (n - m) (cap - m) (xs.drop (m * s)) := by
  obtain ⟨cur, h1, h2, h3⟩ := h.row
  have hn := h.hn
  refine ⟨by rw [List.length_drop, h.hl, Nat.sub_mul], by omega, by have := h.hc; omega, cur, h1, ?_, fun j u hj => ?_⟩
  · rw [Nat.sub_mul]
    have : m * s ≤ cap * s := Nat.mul_le_mul_right _ (by omega)
    omega
  · rw [List.getElem?_drop] at hj
    rw [Nat.add_assoc]
    exact h3 _ u hj

set_option maxHeartbeats 1000000 in
theorem set10 {w : World} {g b off n cap p : Nat} {vn : Value} {pvs : List Value} (hg : w.heap[g]? = some (.cells #[.slice (some ⟨b, off, none⟩) n cap, vn] 61 (0, 0))) (hr : OB w 64 1 b off n cap pvs) (hp : p < n) {E i pb po m pc : Nat} {u v : Value} {xs : List Value} (hP : pvs[p]? = some (.slice (some ⟨pb, po, none⟩) m pc)) (hl : OB w 63 2 pb po m pc xs) (h0 : ∀ y ∈ xs, y.oneCell' = true) (he : w.heap[E]? = some (.cells #[u, v] 63 (0, 0))) (hu : u.oneCell' = true) (hv : v.oneCell' = true) (hi : i ≤ m) (hL : m ≤ 1000000) {x1 x2 x3 x4 x5 x6 x10 x11 x12 x13 x14 x15 x16 x17 x18 x19 x20 x21 x22 x23 x24 x25 x26 x27 x28 x29 x30 x31 x32 x33 x34 x35 x36 x37 x38 x39 x40 x41 x42 x43 x44 x45 x46 x47 x48 x49 x50 x51 x52 x53 x54 x55 x56 x57 x58 x59 x60 x61 x62 x63 x64 x65 x66 x67 x68 x69 x70 x71 x72 x73 x74 x75 x76 x77 x78 x79 x80 x81 x82 x83 x84 x85 x86 x87 x88 x89 x90 x91 x92 x93 x94 x95 x96 x97 x98 x99 x100 : Value} {df : List Deferred} {Q : Exit → Act → World → Prop}
    (hK : ∀ (y57 y58 y59 y60 y61 y62 y63 y64 y65 y66 y67 : Value) (v7 : Value) (w' : World), OwnG w' 63 2 v7 (m + 1) (xs.take (i * 2) ++ [u, v] ++ xs.drop (i * 2)) → Mods (fun k => k = pb) w w' → (v7.ownBlock = some pb ∨ freshIn w v7) → Q .normal ⟨#[.pointer (some ⟨g, 0, none⟩), x1, x2, x3, x4, x5, x6, .pointer (some ⟨E, 0, none⟩), .int .i64 ((p : Nat) : Int), .int .i64 ((i : Nat) : Int), x10, v7, x12, x13, x14, x15, x16, x17, x18, x19, x20, x21, x22, x23, x24, x25, x26, x27, x28, x29, x30, x31, x32, x33, x34, x35, x36, x37, x38, x39, x40, x41, x42, x43, x44, x45, x46, x47, x48, x49, x50, x51, x52, x53, x54, x55, x56, y57, y58, y59, y60, y61, y62, y63, y64, y65, y66, y67, x68, x69, x70, x71, x72, x73, x74, x75, x76, x77, x78, x79, x80, x81, x82, x83, x84, x85, x86, x87, x88, x89, x90, x91, x92, x93, x94, x95, x96, x97, x98, x99, x100], df⟩ w') : RW Try.prog (opsC 10 Try.f12) true Q ⟨#[.pointer (some ⟨g, 0, none⟩), x1, x2, x3, x4, x5, x6, .pointer (some ⟨E, 0, none⟩), .int .i64 ((p : Nat) : Int), .int .i64 ((i : Nat) : Int), x10, x11, x12, x13, x14, x15, x16, x17, x18, x19, x20, x21, x22, x23, x24, x25, x26, x27, x28, x29, x30, x31, x32, x33, x34, x35, x36, x37, x38, x39, x40, x41, x42, x43, x44, x45, x46, x47, x48, x49, x50, x51, x52, x53, x54, x55, x56, x57, x58, x59, x60, x61, x62, x63, x64, x65, x66, x67, x68, x69, x70, x71, x72, x73, x74, x75, x76, x77, x78, x79, x80, x81, x82, x83, x84, x85, x86, x87, x88, x89, x90, x91, x92, x93, x94, x95, x96, x97, x98, x99, x100], df⟩ w := by
  have HQ := Lib.hid hK
  clear hK
  have Q2 := Lib.hid (fun b' (hm : Mods noB w b') => show b'.cell? ⟨g, 0, none⟩ = some (.slice (some ⟨b, off, none⟩) n cap) from cells_of (hm.heap hg (fun x => x)) 0)
  have Q3 := Lib.hid (fun b' (hm : Mods noB w b') => show b'.cell? ⟨b, off + p, none⟩ = some (.slice (some ⟨pb, po, none⟩) m pc) from (hr.keep hm (fun x => x)).cell hP)
  have Q0 := Lib.hid (fun b' (hm : Mods noB w b') => two_cells (off := 0) (cells_of (hm.heap he (fun x => x)) 0) (cells_of (hm.heap he (fun x => x)) 1))
  have HL := Lib.hid hl
  have H0 := Lib.hid h0
  have H1 := Lib.hid (show ∀ y ∈ [u, v], y.oneCell' = true from fun y hy => by simp at hy; rcases hy with rfl | rfl <;> assumption)
  clear hg hr hP hl h0 he hu hv
  have MR := Lib.hid ((Mods.refl noB w).drew)
  refine rw_ordT (S := fun b' => Mods noB w b') [(0, true), (1, true), (2, true), (3, true), (4, true), (5, true), (6, true), (7, true), (8, true), (9, false), (10, false), (11, false)] [10, 11] (by kernel_rfl) (by kernel_rfl) (by kernel_rfl) (by kernel_rfl) MR.out ?_
  refine wpOrdT_frees [0, 1, 2] [.pointer (some ⟨g, 0, none⟩), .pointer (some ⟨g, 0, none⟩), .pointer (some ⟨g, 0, none⟩)] (rest := [(3, true), (4, true), (5, true), (6, true), (7, true), (8, true), (9, false), (10, false), (11, false)]) (by kernel_rfl) (by kernel_rfl) (fun _ => by kernel_rfl) ?_
  refine wpOrdT_free (.slice (some ⟨b, off, none⟩) n cap) (some 60) ⟨by kernel_rfl, by kernel_rfl, by kernel_rfl⟩ (fun bb hb => of_load (x := (.tmp 59)) (by kernel_rfl) (by kernel_rfl) (load_c (Q2.out _ hb) Try.underlying59 rfl)) ?_
  refine wpOrdT_frees [4] [.int .i64 ((p : Nat) : Int)] (rest := [(5, true), (6, true), (7, true), (8, true), (9, false), (10, false), (11, false)]) (by kernel_rfl) (by kernel_rfl) (fun _ => by kernel_rfl) ?_
  refine wpOrdT_free (.pointer (some ⟨b, off + p, none⟩)) (some 62) ⟨by kernel_rfl, by kernel_rfl, by kernel_rfl⟩ (fun bb hb => run_idx (s := 1) (e := 64) (g := b) (off := off) (n := n) (c := cap) (i := ((p : Nat) : Int)) (x := (.tmp 60)) (y := (.tmp 61)) (off + p) (by kernel_rfl) (by kernel_rfl) (by kernel_rfl) Try.underlying59 (by kernel_rfl) (by omega) (by omega) (by omega)) ?_
  refine wpOrdT_free (.slice (some ⟨pb, po, none⟩) m pc) (some 63) ⟨by kernel_rfl, by kernel_rfl, by kernel_rfl⟩ (fun bb hb => of_load (x := (.tmp 62)) (by kernel_rfl) (by kernel_rfl) (load_c (Q3.out _ hb) Try.underlying64 rfl)) ?_
  refine wpOrdT_frees [7] [.int .i64 ((i : Nat) : Int)] (rest := [(8, true), (9, false), (10, false), (11, false)]) (by kernel_rfl) (by kernel_rfl) (fun _ => by kernel_rfl) ?_
  refine wpOrdT_free (.agg #[u, v]) (some 65) ⟨by kernel_rfl, by kernel_rfl, by kernel_rfl⟩ (fun bb hb => of_load (x := (.tmp 7)) (by kernel_rfl) (by kernel_rfl) (load_a [u, v] (Q0.out _ hb) Try.underlying63 rfl (by kernel_rfl))) ?_
  refine wpOrdT_bs (.cells #[u, v] 63) 1 (some 66) ⟨by kernel_rfl, by kernel_rfl, by kernel_rfl⟩ (by kernel_rfl) ?_
  intro k1 w_k1 hk_k1 hO_k1 hm_k1 hl_k1
  have MZ := MR.out.size
  replace MR := Lib.hid (MR.out.then0 hm_k1)
  refine ⟨fun _ => MR.out, ?_⟩
  have MO := Lib.hid (show pb ≠ k1 from by have := HL.out.lt; have h : w.heap.size ≤ w.drew.heap.size := Nat.le_refl _; omega)
  refine wpOrdT_call (some 67) ⟨by kernel_rfl, by kernel_rfl, by kernel_rfl⟩ (Ins2_any (xs := xs) (ys := [u, v]) (ug := k1) (uo := 0) (uc := 1) (HL.out.keep MR.out (fun x => x)).own (ob_new hO_k1) (by intro h; have := MO.out; simp [Value.ownBlock] at h; omega) H0.out H1.out hi hL) (fun _ => by kernel_rfl) ?_
  rintro r w7 ⟨v7, rfl, o7, m7, f7⟩
  refine ⟨_, rfl, (fun h => by cases h), ?_⟩
  refine wpOrdT_freesB [11] [v7] (rest := []) (by kernel_rfl) (by kernel_rfl) (by kernel_rfl) (.inl (by kernel_rfl)) ?_
  exact wpOrdT_doneC (act_is (K := Q .normal) (by kernel_rfl) (HQ.out (.pointer (some ⟨g, 0, none⟩)) (.pointer (some ⟨g, 0, none⟩)) (.pointer (some ⟨g, 0, none⟩)) (.slice (some ⟨b, off, none⟩) n cap) (.int .i64 ((p : Nat) : Int)) (.pointer (some ⟨b, off + p, none⟩)) (.slice (some ⟨pb, po, none⟩) m pc) (.int .i64 ((i : Nat) : Int)) (.agg #[u, v]) (.slice (some ⟨k1, 0, none⟩) 1 1) (v7) v7 w7 o7 (MR.out.trans m7 (fun _ _ x => x.elim) (fun k _ hk => by have := ofV_some hk; omega)) (f7.imp id (fun h => h.of MR.out.size))))

set_option maxHeartbeats 1000000 in
theorem set13 {w : World} {g b off n cap p : Nat} {vn : Value} {pvs : List Value} (hg : w.heap[g]? = some (.cells #[.slice (some ⟨b, off, none⟩) n cap, vn] 61 (0, 0))) (hr : OB w 64 1 b off n cap pvs) (hp : p < n) {lg lo m lc : Nat} {xs : List Value} (hl : OB w 63 2 lg lo m lc xs) (h0 : ∀ y ∈ xs, y.oneCell' = true) (hm16 : 16 ≤ m) (hL : m ≤ 1000000) {x1 x2 x3 x4 x5 x6 x7 x9 x10 x12 x13 x14 x15 x16 x17 x18 x19 x20 x21 x22 x23 x24 x25 x26 x27 x28 x29 x30 x31 x32 x33 x34 x35 x36 x37 x38 x39 x40 x41 x42 x43 x44 x45 x46 x47 x48 x49 x50 x51 x52 x53 x54 x55 x56 x57 x58 x59 x60 x61 x62 x63 x64 x65 x66 x67 x68 x69 x70 x71 x72 x73 x74 x75 x76 x77 x78 x79 x80 x81 x82 x83 x84 x85 x86 x87 x88 x89 x90 x91 x92 x93 x94 x95 x96 x97 x98 x99 x100 : Value} {df : List Deferred} {Q : Exit → Act → World → Prop}
    (hK : ∀ (y78 y79 y80 y81 y82 y83 y84 y85 y86 : Value) (v7 : Value) (w7 : World) (w' : World), OwnG w7 63 2 v7 16 (xs.take (16 * 2)) → Mods noB w w7 → freshIn w v7 → w' = w7.setCell ⟨b, off + p, none⟩ v7 → Q .normal ⟨#[.pointer (some ⟨g, 0, none⟩), x1, x2, x3, x4, x5, x6, x7, .int .i64 ((p : Nat) : Int), x9, x10, .slice (some ⟨lg, lo, none⟩) m lc, x12, x13, x14, x15, x16, x17, x18, x19, x20, x21, x22, x23, x24, x25, x26, x27, x28, x29, x30, x31, x32, x33, x34, x35, x36, x37, x38, x39, x40, x41, x42, x43, x44, x45, x46, x47, x48, x49, x50, x51, x52, x53, x54, x55, x56, x57, x58, x59, x60, x61, x62, x63, x64, x65, x66, x67, x68, x69, x70, x71, x72, x73, x74, x75, x76, x77, y78, y79, y80, y81, y82, y83, y84, y85, y86, x87, x88, x89, x90, x91, x92, x93, x94, x95, x96, x97, x98, x99, x100], df⟩ w') : RW Try.prog (opsC 13 Try.f12) true Q ⟨#[.pointer (some ⟨g, 0, none⟩), x1, x2, x3, x4, x5, x6, x7, .int .i64 ((p : Nat) : Int), x9, x10, .slice (some ⟨lg, lo, none⟩) m lc, x12, x13, x14, x15, x16, x17, x18, x19, x20, x21, x22, x23, x24, x25, x26, x27, x28, x29, x30, x31, x32, x33, x34, x35, x36, x37, x38, x39, x40, x41, x42, x43, x44, x45, x46, x47, x48, x49, x50, x51, x52, x53, x54, x55, x56, x57, x58, x59, x60, x61, x62, x63, x64, x65, x66, x67, x68, x69, x70, x71, x72, x73, x74, x75, x76, x77, x78, x79, x80, x81, x82, x83, x84, x85, x86, x87, x88, x89, x90, x91, x92, x93, x94, x95, x96, x97, x98, x99, x100], df⟩ w := by
  have HQ := Lib.hid hK
  clear hK
  have Q2 := Lib.hid (fun b' (hm : Mods noB w b') => show b'.cell? ⟨g, 0, none⟩ = some (.slice (some ⟨b, off, none⟩) n cap) from cells_of (hm.heap hg (fun x => x)) 0)
  have HL := Lib.hid hl
  have HR := Lib.hid hr
  have H0 := Lib.hid h0
  have hlc := hl.hn
  clear hg hr hl h0
  have MR := Lib.hid ((Mods.refl noB w).drew)
  refine rw_ordT (S := fun b' => Mods noB w b') [(0, true), (1, true), (2, true), (3, true), (4, true), (5, true), (6, true), (7, false), (8, true), (9, false)] [9] (by kernel_rfl) (by kernel_rfl) (by kernel_rfl) (by kernel_rfl) MR.out ?_
  refine wpOrdT_frees [0, 1, 2] [.pointer (some ⟨g, 0, none⟩), .pointer (some ⟨g, 0, none⟩), .pointer (some ⟨g, 0, none⟩)] (rest := [(3, true), (4, true), (5, true), (6, true), (7, false), (8, true), (9, false)]) (by kernel_rfl) (by kernel_rfl) (fun _ => by kernel_rfl) ?_
  refine wpOrdT_free (.slice (some ⟨b, off, none⟩) n cap) (some 81) ⟨by kernel_rfl, by kernel_rfl, by kernel_rfl⟩ (fun bb hb => of_load (x := (.tmp 80)) (by kernel_rfl) (by kernel_rfl) (load_c (Q2.out _ hb) Try.underlying59 rfl)) ?_
  refine wpOrdT_frees [4, 5] [.int .i64 ((p : Nat) : Int), .slice (some ⟨lg, lo, none⟩) m lc] (rest := [(6, true), (7, false), (8, true), (9, false)]) (by kernel_rfl) (by kernel_rfl) (fun _ => by kernel_rfl) ?_
  refine wpOrdT_free (.slice (some ⟨lg, lo, none⟩) 16 lc) (some 84) ⟨by kernel_rfl, by kernel_rfl, by kernel_rfl⟩ (fun bb hb => run_slc_h (s := 2) (e := 63) (g := lg) (off := lo) (n := m) (c := lc) (i := (16 : Int)) (x := (.tmp 83)) (y := (.const (.int .i64 16))) (16) (by kernel_rfl) (by kernel_rfl) (by kernel_rfl) Try.underlying64 (by kernel_rfl) (by omega) (by omega)) ?_
  refine wpOrdT_call (some 85) ⟨by kernel_rfl, by kernel_rfl, by kernel_rfl⟩ (Cln_any ((ob_cut HL.out (by omega : 16 ≤ m)).keep MR.out (fun x => x)) (fun y hy => H0.out y (List.mem_of_mem_take hy)) (by omega)) (fun _ => by kernel_rfl) ?_
  rintro r w7 ⟨v7, rfl, o7, m7, f7⟩
  replace MR := Lib.hid (MR.out.then0 m7)
  have O7 := Lib.hid o7
  have F7 := Lib.hid (f7.of (show w.heap.size ≤ _ from Nat.le_refl _))
  obtain ⟨a7, c7, e7, _⟩ := o7.rd.form
  have h17 : v7.oneCell' = true := by rw [e7]; rfl
  clear o7 m7 f7 e7
  refine ⟨_, rfl, fun _ => MR.out, ?_⟩
  refine wpOrdT_free (.pointer (some ⟨b, off + p, none⟩)) (some 86) ⟨by kernel_rfl, by kernel_rfl, by kernel_rfl⟩ (fun bb hb => run_idx (s := 1) (e := 64) (g := b) (off := off) (n := n) (c := cap) (i := ((p : Nat) : Int)) (x := (.tmp 81)) (y := (.tmp 82)) (off + p) (by kernel_rfl) (by kernel_rfl) (by kernel_rfl) Try.underlying59 (by kernel_rfl) (by omega) (by omega) (by omega)) ?_
  refine wpOrdT_st1 (ty := 64) (x := (.tmp 86)) (y := (.tmp 85)) (g := b) (off := off + p) (v := v7) none ⟨by kernel_rfl, by kernel_rfl, by kernel_rfl⟩ (by kernel_rfl) (by kernel_rfl) (by kernel_rfl) (by kernel_rfl) ((HR.out.keep MR.out (fun x => x)).there (by have := HR.out.hn; omega)) ((HR.out.keep MR.out (fun x => x)).free _) (h17) ?_
  intro w9 hw9
  refine ⟨(fun h => by first | (cases h; done) | exact trivial), ?_⟩
  exact wpOrdT_doneC (act_is (K := Q .normal) (by kernel_rfl) (HQ.out (.pointer (some ⟨g, 0, none⟩)) (.pointer (some ⟨g, 0, none⟩)) (.pointer (some ⟨g, 0, none⟩)) (.slice (some ⟨b, off, none⟩) n cap) (.int .i64 ((p : Nat) : Int)) (.slice (some ⟨lg, lo, none⟩) m lc) (.slice (some ⟨lg, lo, none⟩) 16 lc) (v7) (.pointer (some ⟨b, off + p, none⟩)) v7 w7 w9 O7.out MR.out F7.out hw9))

set_option maxHeartbeats 1000000 in
theorem set14 {w : World} {g b off n cap p : Nat} {vn : Value} {pvs : List Value} (hg : w.heap[g]? = some (.cells #[.slice (some ⟨b, off, none⟩) n cap, vn] 61 (0, 0))) (hr : OB w 64 1 b off n cap pvs) (hp : p < n) {lg lo m lc : Nat} {xs : List Value} (hl : OB w 63 2 lg lo m lc xs) (h0 : ∀ y ∈ xs, y.oneCell' = true) (h2 : ∀ y ∈ pvs, y.oneCell' = true) (hm16 : 16 < m) (hL : m ≤ 1000000) (hn : n ≤ 1000000) (hbg : ¬ g = b) {x1 x2 x3 x4 x5 x6 x7 x9 x10 x12 x13 x14 x15 x16 x17 x18 x19 x20 x21 x22 x23 x24 x25 x26 x27 x28 x29 x30 x31 x32 x33 x34 x35 x36 x37 x38 x39 x40 x41 x42 x43 x44 x45 x46 x47 x48 x49 x50 x51 x52 x53 x54 x55 x56 x57 x58 x59 x60 x61 x62 x63 x64 x65 x66 x67 x68 x69 x70 x71 x72 x73 x74 x75 x76 x77 x78 x79 x80 x81 x82 x83 x84 x85 x86 x87 x88 x89 x90 x91 x92 x93 x94 x95 x96 x97 x98 x99 x100 : Value} {df : List Deferred} {Q : Exit → Act → World → Prop}
    (hK : ∀ (y87 y88 y89 y90 y91 y92 y93 y94 y95 y96 y97 y98 y99 y100 : Value) (v7 v8 : Value) (w7 w8 : World) (w' : World), OwnG w7 63 2 v7 (m - 16) (xs.drop (16 * 2)) → Mods noB w w7 → freshIn w v7 → v7.oneCell' = true → OwnG w8 64 1 v8 (n + 1) (pvs.take ((p + 1) * 1) ++ [v7] ++ pvs.drop ((p + 1) * 1)) → Mods (fun k => k = b) w7 w8 → (v8.ownBlock = some b ∨ freshIn w7 v8) → w' = w8.setCell ⟨g, 0, none⟩ v8 → Q .normal ⟨#[.pointer (some ⟨g, 0, none⟩), x1, x2, x3, x4, x5, x6, x7, .int .i64 ((p : Nat) : Int), x9, x10, .slice (some ⟨lg, lo, none⟩) m lc, x12, x13, x14, x15, x16, x17, x18, x19, x20, x21, x22, x23, x24, x25, x26, x27, x28, x29, x30, x31, x32, x33, x34, x35, x36, x37, x38, x39, x40, x41, x42, x43, x44, x45, x46, x47, x48, x49, x50, x51, x52, x53, x54, x55, x56, x57, x58, x59, x60, x61, x62, x63, x64, x65, x66, x67, x68, x69, x70, x71, x72, x73, x74, x75, x76, x77, x78, x79, x80, x81, x82, x83, x84, x85, x86, y87, y88, y89, y90, y91, y92, y93, y94, y95, y96, y97, y98, y99, y100], df⟩ w') : RW Try.prog (opsC 14 Try.f12) true Q ⟨#[.pointer (some ⟨g, 0, none⟩), x1, x2, x3, x4, x5, x6, x7, .int .i64 ((p : Nat) : Int), x9, x10, .slice (some ⟨lg, lo, none⟩) m lc, x12, x13, x14, x15, x16, x17, x18, x19, x20, x21, x22, x23, x24, x25, x26, x27, x28, x29, x30, x31, x32, x33, x34, x35, x36, x37, x38, x39, x40, x41, x42, x43, x44, x45, x46, x47, x48, x49, x50, x51, x52, x53, x54, x55, x56, x57, x58, x59, x60, x61, x62, x63, x64, x65, x66, x67, x68, x69, x70, x71, x72, x73, x74, x75, x76, x77, x78, x79, x80, x81, x82, x83, x84, x85, x86, x87, x88, x89, x90, x91, x92, x93, x94, x95, x96, x97, x98, x99, x100], df⟩ w := by
  have HQ := Lib.hid hK
  clear hK
  have Q2 := Lib.hid (fun b' (hm : Mods (fun k => k = b) w b') => show b'.cell? ⟨g, 0, none⟩ = some (.slice (some ⟨b, off, none⟩) n cap) from cells_of (hm.heap hg hbg) 0)
  have HL := Lib.hid hl
  have HR := Lib.hid hr
  have HG := Lib.hid hg
  have H0 := Lib.hid h0
  have H2 := Lib.hid h2
  have hlc := hl.hn
  clear hg hr hl h0 h2
  have MR := Lib.hid ((Mods.refl noB w).drew)
  refine rw_ordT (S := fun b' => Mods (fun k => k = b) w b') [(0, true), (1, true), (2, true), (3, true), (4, true), (5, true), (6, true), (7, true), (8, true), (9, false), (10, false), (11, false), (12, false), (13, false), (14, false)] [12, 13, 14] (by kernel_rfl) (by kernel_rfl) (by kernel_rfl) (by kernel_rfl) (MR.out.mono (fun _ _ x => x.elim)) ?_
  refine wpOrdT_frees [0, 1, 2, 3] [.pointer (some ⟨g, 0, none⟩), .pointer (some ⟨g, 0, none⟩), .pointer (some ⟨g, 0, none⟩), .pointer (some ⟨g, 0, none⟩)] (rest := [(4, true), (5, true), (6, true), (7, true), (8, true), (9, false), (10, false), (11, false), (12, false), (13, false), (14, false)]) (by kernel_rfl) (by kernel_rfl) (fun _ => by kernel_rfl) ?_
  refine wpOrdT_free (.slice (some ⟨b, off, none⟩) n cap) (some 91) ⟨by kernel_rfl, by kernel_rfl, by kernel_rfl⟩ (fun bb hb => of_load (x := (.tmp 90)) (by kernel_rfl) (by kernel_rfl) (load_c (Q2.out _ hb) Try.underlying59 rfl)) ?_
  refine wpOrdT_frees [5] [.int .i64 ((p : Nat) : Int)] (rest := [(6, true), (7, true), (8, true), (9, false), (10, false), (11, false), (12, false), (13, false), (14, false)]) (by kernel_rfl) (by kernel_rfl) (fun _ => by kernel_rfl) ?_
  refine wpOrdT_free (.int .i64 (((p + 1) : Nat) : Int)) (some 93) ⟨by kernel_rfl, by kernel_rfl, by kernel_rfl⟩ (fun bb hb => run_bin (t := 3) (t' := 3) (xv := .int .i64 ((p : Nat) : Int)) (yv := .int .i64 1) (x := (.tmp 92)) (y := (.const (.int .i64 1))) (by kernel_rfl) (by kernel_rfl) (by kernel_rfl) (fun _ => by kernel_rfl) (run_addI _ (by omega) (by omega) (by omega))) ?_
  refine wpOrdT_frees [7] [.slice (some ⟨lg, lo, none⟩) m lc] (rest := [(8, true), (9, false), (10, false), (11, false), (12, false), (13, false), (14, false)]) (by kernel_rfl) (by kernel_rfl) (fun _ => by kernel_rfl) ?_
  refine wpOrdT_free (.slice (some ⟨lg, lo + 16 * 2, none⟩) (m - 16) (lc - 16)) (some 95) ⟨by kernel_rfl, by kernel_rfl, by kernel_rfl⟩ (fun bb hb => run_slc_l (s := 2) (e := 63) (g := lg) (off := lo) (n := m) (c := lc) (i := (16 : Int)) (x := (.tmp 94)) (y := (.const (.int .i64 16))) (16) (lo + 16 * 2) (by kernel_rfl) (by kernel_rfl) (by kernel_rfl) Try.underlying64 (by kernel_rfl) (by omega) (by omega) (by omega) (by omega)) ?_
  refine wpOrdT_call (some 96) ⟨by kernel_rfl, by kernel_rfl, by kernel_rfl⟩ (Cln_any ((ob_rest HL.out (by omega : 16 ≤ m)).keep MR.out (fun x => x)) (fun y hy => H0.out y (List.mem_of_mem_drop hy)) (by omega)) (fun _ => by kernel_rfl) ?_
  rintro r w7 ⟨v7, rfl, o7, m7, f7⟩
  replace MR := Lib.hid (MR.out.then0 m7)
  have O7 := Lib.hid o7
  have F7 := Lib.hid (f7.of (show w.heap.size ≤ _ from Nat.le_refl _))
  obtain ⟨a7, c7, rfl, _⟩ := o7.rd.form
  have h17 : (Value.slice a7 (m - 16) c7).oneCell' = true := rfl
  have M7 := Lib.hid (And.intro MR.out f7)
  have z7 := m7.size
  clear o7 m7 f7
  refine ⟨_, rfl, fun _ => MR.out.mono (fun _ _ x => x.elim), ?_⟩
  refine wpOrdT_bs (.cells #[(.slice a7 (m - 16) c7)] 64) 1 (some 97) ⟨by kernel_rfl, by kernel_rfl, by kernel_rfl⟩ (by kernel_rfl) ?_
  intro k1 w_k1 hk_k1 hO_k1 hm_k1 hl_k1
  have MZ := MR.out.size
  replace MR := Lib.hid (MR.out.then0 hm_k1)
  refine ⟨fun _ => (MR.out.mono (fun _ _ x => x.elim)), ?_⟩
  have MO := Lib.hid (show b ≠ k1 from by have := HR.out.lt; have h := MR.out.size; have h2 := hk_k1; have h3 := MZ; omega)
  refine wpOrdT_call (some 98) ⟨by kernel_rfl, by kernel_rfl, by kernel_rfl⟩ (Ins1_any (xs := pvs) (ys := [.slice a7 (m - 16) c7]) (ug := k1) (uo := 0) (uc := 1) (HR.out.keep MR.out (fun x => x)).own (ob_new1 hO_k1) (by intro h; have := MO.out; simp [Value.ownBlock] at h; omega) H2.out (by intro y hy; rw [List.mem_singleton.1 hy]; exact h17) (i := p + 1) (by omega) hn) (fun _ => by kernel_rfl) ?_
  rintro r w8 ⟨v8, rfl, o8, m8, f8⟩
  have m78 := hm_k1.trans m8 (U := fun k => k = b) (fun _ _ x => x.elim) (fun k _ hk => by have := ofV_some hk; omega)
  replace m8 := MR.out.trans m8 (U := fun k => k = b) (fun _ _ x => x.elim) (fun k _ hk => by have := ofV_some hk; omega)
  have O8 := Lib.hid (And.intro o8 (And.intro m8 (And.intro m78 (f8.imp id (fun h => h.of hm_k1.size)))))
  have hg8 := m8.heap HG.out hbg
  obtain ⟨a8, c8, e8, _⟩ := o8.rd.form
  have h18 : v8.oneCell' = true := by rw [e8]; rfl
  clear o8 m8 f8 e8 m78
  refine ⟨_, rfl, fun _ => O8.out.2.1, ?_⟩
  refine wpOrdT_freesB [12, 13] [.pointer (some ⟨g, 0, none⟩), .pointer (some ⟨g, 0, none⟩)] (rest := [(14, false)]) (by kernel_rfl) (by kernel_rfl) (by kernel_rfl) (.inl (by kernel_rfl)) ?_
  refine wpOrdT_st1 (ty := 59) (x := (.tmp 100)) (y := (.tmp 98)) (g := g) (off := 0) (v := v8) none ⟨by kernel_rfl, by kernel_rfl, by kernel_rfl⟩ (by kernel_rfl) (by kernel_rfl) (by kernel_rfl) (by kernel_rfl) (by rw [cells_of hg8]; rfl) (free_of hg8 _) (h18) ?_
  intro w9 hw9
  refine ⟨(fun h => by first | (cases h; done) | exact trivial), ?_⟩
  exact wpOrdT_doneC (act_is (K := Q .normal) (by kernel_rfl) (HQ.out (.pointer (some ⟨g, 0, none⟩)) (.pointer (some ⟨g, 0, none⟩)) (.pointer (some ⟨g, 0, none⟩)) (.pointer (some ⟨g, 0, none⟩)) (.slice (some ⟨b, off, none⟩) n cap) (.int .i64 ((p : Nat) : Int)) (.int .i64 (((p + 1) : Nat) : Int)) (.slice (some ⟨lg, lo, none⟩) m lc) (.slice (some ⟨lg, lo + 16 * 2, none⟩) (m - 16) (lc - 16)) ((.slice a7 (m - 16) c7)) (.slice (some ⟨k1, 0, none⟩) 1 1) (v8) (.pointer (some ⟨g, 0, none⟩)) (.pointer (some ⟨g, 0, none⟩)) (.slice a7 (m - 16) c7) v8 w7 w8 w9 O7.out M7.out.1 F7.out h17 O8.out.1 O8.out.2.2.1 O8.out.2.2.2 hw9))

end Go.Proofs.Ytjlomnhngngkiaa

/- gleanlaw5.PageShape: its drawn regions (printed by gen_sh.py). -/
import Derived.Test.YtjlomnhngngkiaaPgKn
import Derived.Test.YtjlomnhngngkiaaPgH
namespace Go.Proofs.Ytjlomnhngngkiaa
open Go.Gl Go.RowKit
set_option linter.unusedVariables false
set_option linter.unusedSimpArgs false
set_option maxRecDepth 100000

set_option maxHeartbeats 1000000 in
theorem psh10 {w : World} {g b off n cap i : Nat} {kv vv : Value} {X : Bool → World → Prop} (c3 : w.cell? ⟨b, off + i * 5 + 3, none⟩ = some kv) (c4 : w.cell? ⟨b, off + i * 5 + 4, none⟩ = some vv) (hb : b < w.heap.size) (hi : i < n) (hC : ∀ b', Mods noB w b' → Calls Try.prog 12 #[.pointer (some ⟨g, 0, none⟩), kv, vv] b' fun e w' => ∃ B, e = .returned (.bool B) ∧ X B w') {x1 x2 x5 x6 x7 x8 x9 x10 x11 x12 x13 x14 x15 x16 x17 x18 x19 x20 x21 x22 x23 x24 x25 x26 x27 x28 x29 x30 x31 x32 x33 x34 x35 x36 x37 x38 x39 x40 x41 x42 x43 x44 x45 x46 x47 x48 x49 x50 x51 x52 x53 x54 x55 x56 x57 x58 x59 x60 x61 x62 x63 x64 x65 x66 x67 x68 x69 x70 x71 x72 : Value} {df : List Deferred} {Q : Exit → Act → World → Prop}
    (hK : ∀ (y25 y26 y27 y28 y29 y30 y31 y32 y33 y34 y35 y36 : Value) (B : Bool) (w' : World), X B w' → Q .normal ⟨#[.slice (some ⟨b, off, none⟩) n cap, x1, x2, .pointer (some ⟨g, 0, none⟩), .int .i64 ((i : Nat) : Int), x5, x6, x7, x8, x9, x10, x11, x12, x13, x14, x15, x16, x17, x18, x19, x20, x21, x22, x23, x24, y25, y26, y27, y28, y29, y30, y31, y32, y33, y34, y35, y36, x37, x38, x39, x40, x41, x42, x43, x44, x45, x46, x47, x48, x49, x50, x51, x52, x53, x54, x55, x56, x57, x58, x59, x60, x61, x62, x63, x64, x65, x66, x67, x68, x69, x70, x71, x72], df⟩ w') : RW Try.prog (opsC 10 Try.f4) true Q ⟨#[.slice (some ⟨b, off, none⟩) n cap, x1, x2, .pointer (some ⟨g, 0, none⟩), .int .i64 ((i : Nat) : Int), x5, x6, x7, x8, x9, x10, x11, x12, x13, x14, x15, x16, x17, x18, x19, x20, x21, x22, x23, x24, x25, x26, x27, x28, x29, x30, x31, x32, x33, x34, x35, x36, x37, x38, x39, x40, x41, x42, x43, x44, x45, x46, x47, x48, x49, x50, x51, x52, x53, x54, x55, x56, x57, x58, x59, x60, x61, x62, x63, x64, x65, x66, x67, x68, x69, x70, x71, x72], df⟩ w := by
  have HQ := Lib.hid hK
  clear hK
  have HC := Lib.hid hC
  have Q3 := Lib.hid (fun b' (hm : Mods noB w b') => (hm.cellAt hb (fun x => x) _).trans c3)
  have Q4 := Lib.hid (fun b' (hm : Mods noB w b') => (hm.cellAt hb (fun x => x) _).trans c4)
  clear hC c3 c4
  have MR := Lib.hid ((Mods.refl noB w).drew)
  refine rw_ordT (S := fun b' => Mods noB w b') [(0, true), (1, true), (2, true), (3, true), (4, true), (5, true), (6, true), (7, true), (8, true), (9, true), (10, true), (11, false)] [11] (by kernel_rfl) (by kernel_rfl) (by kernel_rfl) (by kernel_rfl) MR.out ?_
  refine wpOrdT_frees [0, 1, 2] [.pointer (some ⟨g, 0, none⟩), .slice (some ⟨b, off, none⟩) n cap, .int .i64 ((i : Nat) : Int)] (rest := [(3, true), (4, true), (5, true), (6, true), (7, true), (8, true), (9, true), (10, true), (11, false)]) (by kernel_rfl) (by kernel_rfl) (fun _ => by kernel_rfl) ?_
  refine wpOrdT_free (.pointer (some ⟨b, off + i * 5, none⟩)) (some 28) ⟨by kernel_rfl, by kernel_rfl, by kernel_rfl⟩ (fun bb hb => run_idx (s := 5) (e := 35) (g := b) (off := off) (n := n) (c := cap) (i := ((i : Nat) : Int)) (x := (.tmp 26)) (y := (.tmp 27)) (off + i * 5) (by kernel_rfl) (by kernel_rfl) (by kernel_rfl) Try.underlying22 (by kernel_rfl) (by omega) (by omega) (by omega)) ?_
  refine wpOrdT_frees [4] [.pointer (some ⟨b, off + i * 5 + 3, none⟩)] (rest := [(5, true), (6, true), (7, true), (8, true), (9, true), (10, true), (11, false)]) (by kernel_rfl) (by kernel_rfl) (fun _ => by kernel_rfl) ?_
  refine wpOrdT_free (kv) (some 30) ⟨by kernel_rfl, by kernel_rfl, by kernel_rfl⟩ (fun bb hb => of_load (x := (.tmp 29)) (by kernel_rfl) (by kernel_rfl) (load_c (Q3.out _ hb) Try.underlying33 rfl)) ?_
  refine wpOrdT_frees [6, 7] [.slice (some ⟨b, off, none⟩) n cap, .int .i64 ((i : Nat) : Int)] (rest := [(8, true), (9, true), (10, true), (11, false)]) (by kernel_rfl) (by kernel_rfl) (fun _ => by kernel_rfl) ?_
  refine wpOrdT_free (.pointer (some ⟨b, off + i * 5, none⟩)) (some 33) ⟨by kernel_rfl, by kernel_rfl, by kernel_rfl⟩ (fun bb hb => run_idx (s := 5) (e := 35) (g := b) (off := off) (n := n) (c := cap) (i := ((i : Nat) : Int)) (x := (.tmp 31)) (y := (.tmp 32)) (off + i * 5) (by kernel_rfl) (by kernel_rfl) (by kernel_rfl) Try.underlying22 (by kernel_rfl) (by omega) (by omega) (by omega)) ?_
  refine wpOrdT_frees [9] [.pointer (some ⟨b, off + i * 5 + 4, none⟩)] (rest := [(10, true), (11, false)]) (by kernel_rfl) (by kernel_rfl) (fun _ => by kernel_rfl) ?_
  refine wpOrdT_free (vv) (some 35) ⟨by kernel_rfl, by kernel_rfl, by kernel_rfl⟩ (fun bb hb => of_load (x := (.tmp 34)) (by kernel_rfl) (by kernel_rfl) (load_c (Q4.out _ hb) Try.underlying33 rfl)) ?_
  refine wpOrdT_call (some 36) ⟨by kernel_rfl, by kernel_rfl, by kernel_rfl⟩ (HC.out _ MR.out) (fun _ => by kernel_rfl) ?_
  rintro r w7 ⟨B, rfl, hx⟩
  refine ⟨_, rfl, (fun h => by cases h), ?_⟩
  exact wpOrdT_doneC (act_is (K := Q .normal) (by kernel_rfl) (HQ.out (.pointer (some ⟨g, 0, none⟩)) (.slice (some ⟨b, off, none⟩) n cap) (.int .i64 ((i : Nat) : Int)) (.pointer (some ⟨b, off + i * 5, none⟩)) (.pointer (some ⟨b, off + i * 5 + 3, none⟩)) (kv) (.slice (some ⟨b, off, none⟩) n cap) (.int .i64 ((i : Nat) : Int)) (.pointer (some ⟨b, off + i * 5, none⟩)) (.pointer (some ⟨b, off + i * 5 + 4, none⟩)) (vv) (.bool B) B w7 hx))

set_option maxHeartbeats 1000000 in
theorem psh18 {w : World} {b off n cap j : Nat} {u v : Value} {xs ys : List UInt8} (c3 : w.cell? ⟨b, off + j * 2, none⟩ = some u) (c4 : w.cell? ⟨b, off + (j + 1) * 2, none⟩ = some v) (hb : b < w.heap.size) (hi : j + 1 < n) (hn : n ≤ 1000000000) (hu : Rd w u xs) (hv : Rd w v ys) (hl : lessB xs ys = true) {x0 x1 x2 x3 x4 x7 x8 x9 x10 x11 x12 x13 x14 x15 x16 x17 x18 x19 x20 x21 x22 x23 x24 x25 x26 x27 x28 x29 x30 x31 x32 x33 x34 x35 x36 x37 x38 x39 x40 x41 x42 x43 x44 x45 x46 x47 x48 x49 x50 x51 x52 x53 x54 x55 x56 x57 x58 x59 x60 x61 x62 x63 x64 x65 x66 x67 x68 x69 x70 x71 x72 : Value} {df : List Deferred} {Q : Exit → Act → World → Prop}
    (hK : ∀ (y55 y56 y57 y58 y59 y60 y61 y62 y63 y64 y65 y66 : Value)  (w' : World), Mods noB w w' → Q .normal ⟨#[x0, x1, x2, x3, x4, .slice (some ⟨b, off, none⟩) n cap, .int .i64 (((j + 1) : Nat) : Int), x7, x8, x9, x10, x11, x12, x13, x14, x15, x16, x17, x18, x19, x20, x21, x22, x23, x24, x25, x26, x27, x28, x29, x30, x31, x32, x33, x34, x35, x36, x37, x38, x39, x40, x41, x42, x43, x44, x45, x46, x47, x48, x49, x50, x51, x52, x53, x54, y55, y56, y57, y58, y59, y60, y61, y62, y63, y64, y65, y66, .bool false, x68, x69, x70, x71, x72], df⟩ w') : RW Try.prog (opsC 18 Try.f4) true Q ⟨#[x0, x1, x2, x3, x4, .slice (some ⟨b, off, none⟩) n cap, .int .i64 (((j + 1) : Nat) : Int), x7, x8, x9, x10, x11, x12, x13, x14, x15, x16, x17, x18, x19, x20, x21, x22, x23, x24, x25, x26, x27, x28, x29, x30, x31, x32, x33, x34, x35, x36, x37, x38, x39, x40, x41, x42, x43, x44, x45, x46, x47, x48, x49, x50, x51, x52, x53, x54, x55, x56, x57, x58, x59, x60, x61, x62, x63, x64, x65, x66, x67, x68, x69, x70, x71, x72], df⟩ w := by
  have HQ := Lib.hid hK
  clear hK
  have HU := Lib.hid hu
  have HV := Lib.hid hv
  have HL := Lib.hid hl
  have Q3 := Lib.hid (fun b' (hm : Mods noB w b') => (hm.cellAt hb (fun x => x) _).trans c3)
  have Q4 := Lib.hid (fun b' (hm : Mods noB w b') => (hm.cellAt hb (fun x => x) _).trans c4)
  clear hu hv hl c3 c4
  have MR := Lib.hid ((Mods.refl noB w).drew)
  refine rw_ordF (S := fun b' => Mods noB w b') [(0, true), (1, true), (2, true), (3, true), (4, true), (5, true), (6, true), (7, true), (8, true), (9, true), (10, true), (11, false), (12, true)] [] [(0, 32, 36028797018963968), (0, 64, 72057594037927936), (2, 72057594037927936, 144115188075855872), (5, 180143985094819840, 288230376151711744), (8, 288230376151711744, 576460752303423488), (16, 576460752303423488, 1152921504606846976), (0, 32, 2305843009213693952), (0, 64, 4611686018427387904), (192, 6917529027641081856, 9223372036854775808), (256, 9223372036854775808, 18446744073709551616), (512, 18446744073709551616, 36893488147419103232), (1056, 38046409652025950208, 73786976294838206464), (2048, 73786976294838206464, 147573952589676412928)] (by kernel_rfl) (by kernel_rfl) (by kernel_rfl) (by kernel_rfl) (by kernel_rfl) MR.out ?_
  refine wpOrdT_frees [0, 1] [.slice (some ⟨b, off, none⟩) n cap, .int .i64 (((j + 1) : Nat) : Int)] (rest := [(2, true), (3, true), (4, true), (5, true), (6, true), (7, true), (8, true), (9, true), (10, true), (11, false), (12, true)]) (by kernel_rfl) (by kernel_rfl) (fun _ => by kernel_rfl) ?_
  refine wpOrdT_free (.int .i64 ((j : Nat) : Int)) (some 57) ⟨by kernel_rfl, by kernel_rfl, by kernel_rfl⟩ (fun bb hb => run_bin (t := 3) (t' := 3) (xv := .int .i64 (((j + 1) : Nat) : Int)) (yv := .int .i64 1) (x := (.tmp 56)) (y := (.const (.int .i64 1))) (by kernel_rfl) (by kernel_rfl) (by kernel_rfl) (fun _ => by kernel_rfl) (run_subI _ (by omega) (by omega) (by omega))) ?_
  refine wpOrdT_free (.pointer (some ⟨b, off + j * 2, none⟩)) (some 58) ⟨by kernel_rfl, by kernel_rfl, by kernel_rfl⟩ (fun bb hb => run_idx (s := 2) (e := 52) (g := b) (off := off) (n := n) (c := cap) (i := ((j : Nat) : Int)) (x := (.tmp 55)) (y := (.tmp 57)) (off + j * 2) (by kernel_rfl) (by kernel_rfl) (by kernel_rfl) Try.underlying44 (by kernel_rfl) (by omega) (by omega) (by omega)) ?_
  refine wpOrdT_frees [4] [.pointer (some ⟨b, off + j * 2, none⟩)] (rest := [(5, true), (6, true), (7, true), (8, true), (9, true), (10, true), (11, false), (12, true)]) (by kernel_rfl) (by kernel_rfl) (fun _ => by kernel_rfl) ?_
  refine wpOrdT_free (u) (some 60) ⟨by kernel_rfl, by kernel_rfl, by kernel_rfl⟩ (fun bb hb => of_load (x := (.tmp 59)) (by kernel_rfl) (by kernel_rfl) (load_c (Q3.out _ hb) Try.underlying33 rfl)) ?_
  refine wpOrdT_frees [6, 7] [.slice (some ⟨b, off, none⟩) n cap, .int .i64 (((j + 1) : Nat) : Int)] (rest := [(8, true), (9, true), (10, true), (11, false), (12, true)]) (by kernel_rfl) (by kernel_rfl) (fun _ => by kernel_rfl) ?_
  refine wpOrdT_free (.pointer (some ⟨b, off + (j + 1) * 2, none⟩)) (some 63) ⟨by kernel_rfl, by kernel_rfl, by kernel_rfl⟩ (fun bb hb => run_idx (s := 2) (e := 52) (g := b) (off := off) (n := n) (c := cap) (i := (((j + 1) : Nat) : Int)) (x := (.tmp 61)) (y := (.tmp 62)) (off + (j + 1) * 2) (by kernel_rfl) (by kernel_rfl) (by kernel_rfl) Try.underlying44 (by kernel_rfl) (by omega) (by omega) (by omega)) ?_
  refine wpOrdT_frees [9] [.pointer (some ⟨b, off + (j + 1) * 2, none⟩)] (rest := [(10, true), (11, false), (12, true)]) (by kernel_rfl) (by kernel_rfl) (fun _ => by kernel_rfl) ?_
  refine wpOrdT_free (v) (some 65) ⟨by kernel_rfl, by kernel_rfl, by kernel_rfl⟩ (fun bb hb => of_load (x := (.tmp 64)) (by kernel_rfl) (by kernel_rfl) (load_c (Q4.out _ hb) Try.underlying33 rfl)) ?_
  refine wpOrdT_call (some 66) ⟨by kernel_rfl, by kernel_rfl, by kernel_rfl⟩ (Less_any (HU.out.keep MR.out (fun _ _ x => x)) (HV.out.keep MR.out (fun _ _ x => x))) (fun _ => by kernel_rfl) ?_
  rintro r w7 ⟨rfl, q7⟩
  replace MR := Lib.hid (MR.out.then0 (q7.mods noB))
  refine ⟨_, rfl, fun _ => MR.out, ?_⟩
  rw [HL.out]
  refine wpOrdT_frees [12] [.bool false] (rest := []) (by kernel_rfl) (by kernel_rfl) (fun _ => by kernel_rfl) ?_
  exact wpOrdT_doneC (act_is (K := Q .normal) (by kernel_rfl) (HQ.out (.slice (some ⟨b, off, none⟩) n cap) (.int .i64 (((j + 1) : Nat) : Int)) (.int .i64 ((j : Nat) : Int)) (.pointer (some ⟨b, off + j * 2, none⟩)) (.pointer (some ⟨b, off + j * 2, none⟩)) (u) (.slice (some ⟨b, off, none⟩) n cap) (.int .i64 (((j + 1) : Nat) : Int)) (.pointer (some ⟨b, off + (j + 1) * 2, none⟩)) (.pointer (some ⟨b, off + (j + 1) * 2, none⟩)) (v) (.bool true) _ MR.out))

end Go.Proofs.Ytjlomnhngngkiaa

/- gleanlaw9: drawn regions of its laws (printed by gen_bksp.py). -/
import Derived.Test.YtglkmaalpammcaaGreatBkN
namespace Go.Proofs.YtglkmaalpammcaaGreat
open Go.Gl Go.RowKit
set_option linter.unusedVariables false
set_option linter.unusedSimpArgs false
set_option maxRecDepth 100000
set_option maxHeartbeats 1000000 in
theorem sp10 {w : World} {sg g off n cap i : Nat} {kv vv : Value} {X : World → Prop} (c2 : w.cell? ⟨g, off + i * 4 + 1, none⟩ = some kv) (c3 : w.cell? ⟨g, off + i * 4 + 3, none⟩ = some vv) (hg : g < w.heap.size) (hi : i < n) (hn : n ≤ 1000) (hC : ∀ b', Mods noB w b' → Calls Tryz.prog 15 #[.pointer (some ⟨sg, 0, none⟩), kv, vv] b' fun e w' => ∃ v, e = .returned v ∧ X w') {x1 x2 x3 x4 x5 x6 x7 x8 x9 x10 x13 x14 x15 x16 x17 x18 x19 x20 x21 x22 x23 x24 x25 x26 x27 x28 x29 x30 x31 x32 x33 x34 x35 x36 x37 x38 x39 x40 x41 x42 x43 x44 x45 x46 x47 x48 x49 x50 x51 x52 x53 x54 x55 x56 x57 x58 x59 x60 x61 x62 x63 x64 x65 x66 x67 x68 x69 x70 x71 x72 x73 x74 x75 x76 x77 x78 x79 x80 x81 x82 x83 x84 x85 x86 x87 x88 x89 x90 x91 x92 x93 x94 x95 x96 x97 x98 x99 x100 x101 x102 x103 x104 x105 x106 x107 x108 x109 x110 : Value} {df : List Deferred} {Q : Exit → Act → World → Prop}
    (hK : ∀ (y36 y37 y38 y39 y40 y41 y42 y43 y44 y45 y46 y47 : Value)  (w' : World), X w' → Q .normal ⟨#[.slice (some ⟨g, off, none⟩) n cap, x1, x2, x3, x4, x5, x6, x7, x8, x9, x10, .pointer (some ⟨sg, 0, none⟩), .int .i64 ((i : Nat) : Int), x13, x14, x15, x16, x17, x18, x19, x20, x21, x22, x23, x24, x25, x26, x27, x28, x29, x30, x31, x32, x33, x34, x35, y36, y37, y38, y39, y40, y41, y42, y43, y44, y45, y46, y47, x48, x49, x50, x51, x52, x53, x54, x55, x56, x57, x58, x59, x60, x61, x62, x63, x64, x65, x66, x67, x68, x69, x70, x71, x72, x73, x74, x75, x76, x77, x78, x79, x80, x81, x82, x83, x84, x85, x86, x87, x88, x89, x90, x91, x92, x93, x94, x95, x96, x97, x98, x99, x100, x101, x102, x103, x104, x105, x106, x107, x108, x109, x110], df⟩ w') : RW Tryz.prog (opsC 10 Tryz.f5) true Q ⟨#[.slice (some ⟨g, off, none⟩) n cap, x1, x2, x3, x4, x5, x6, x7, x8, x9, x10, .pointer (some ⟨sg, 0, none⟩), .int .i64 ((i : Nat) : Int), x13, x14, x15, x16, x17, x18, x19, x20, x21, x22, x23, x24, x25, x26, x27, x28, x29, x30, x31, x32, x33, x34, x35, x36, x37, x38, x39, x40, x41, x42, x43, x44, x45, x46, x47, x48, x49, x50, x51, x52, x53, x54, x55, x56, x57, x58, x59, x60, x61, x62, x63, x64, x65, x66, x67, x68, x69, x70, x71, x72, x73, x74, x75, x76, x77, x78, x79, x80, x81, x82, x83, x84, x85, x86, x87, x88, x89, x90, x91, x92, x93, x94, x95, x96, x97, x98, x99, x100, x101, x102, x103, x104, x105, x106, x107, x108, x109, x110], df⟩ w := by
  have HQ := Lib.hid hK
  clear hK
  have HC := Lib.hid hC
  have Q2 := Lib.hid (fun b' (hm : Mods noB w b') => (hm.cellAt hg (fun x => x) _).trans c2)
  have Q3 := Lib.hid (fun b' (hm : Mods noB w b') => (hm.cellAt hg (fun x => x) _).trans c3)
  clear hC c2 c3
  have MR := Lib.hid ((Mods.refl noB w).drew)
  refine rw_ordT (S := fun b' => Mods noB w b') [(0, true), (1, true), (2, true), (3, true), (4, true), (5, true), (6, true), (7, true), (8, true), (9, true), (10, true), (11, false)] [11] (by kernel_rfl) (by kernel_rfl) (by kernel_rfl) (by kernel_rfl) MR.out ?_
  refine wpOrdT_frees [0, 1, 2] [.pointer (some ⟨sg, 0, none⟩), .slice (some ⟨g, off, none⟩) n cap, .int .i64 ((i : Nat) : Int)] (rest := [(3, true), (4, true), (5, true), (6, true), (7, true), (8, true), (9, true), (10, true), (11, false)]) (by kernel_rfl) (by kernel_rfl) (fun _ => by kernel_rfl) ?_
  refine wpOrdT_free (.pointer (some ⟨g, off + i * 4, none⟩)) (some 39) ⟨by kernel_rfl, by kernel_rfl, by kernel_rfl⟩ (fun bb hb => run_idx (s := 4) (e := 53) (g := g) (off := off) (n := n) (c := cap) (i := ((i : Nat) : Int)) (x := (.tmp 37)) (y := (.tmp 38)) (off + i * 4) (by kernel_rfl) (by kernel_rfl) (by kernel_rfl) Tryz.underlying51 (by kernel_rfl) (by omega) (by omega) (by omega)) ?_
  refine wpOrdT_frees [4] [.pointer (some ⟨g, off + i * 4 + 1, none⟩)] (rest := [(5, true), (6, true), (7, true), (8, true), (9, true), (10, true), (11, false)]) (by kernel_rfl) (by kernel_rfl) (fun _ => by kernel_rfl) ?_
  refine wpOrdT_free (kv) (some 41) ⟨by kernel_rfl, by kernel_rfl, by kernel_rfl⟩ (fun bb hb => of_load (x := (.tmp 40)) (by kernel_rfl) (by kernel_rfl) (load_c (Q2.out _ hb) Tryz.underlying22 rfl)) ?_
  refine wpOrdT_frees [6, 7] [.slice (some ⟨g, off, none⟩) n cap, .int .i64 ((i : Nat) : Int)] (rest := [(8, true), (9, true), (10, true), (11, false)]) (by kernel_rfl) (by kernel_rfl) (fun _ => by kernel_rfl) ?_
  refine wpOrdT_free (.pointer (some ⟨g, off + i * 4, none⟩)) (some 44) ⟨by kernel_rfl, by kernel_rfl, by kernel_rfl⟩ (fun bb hb => run_idx (s := 4) (e := 53) (g := g) (off := off) (n := n) (c := cap) (i := ((i : Nat) : Int)) (x := (.tmp 42)) (y := (.tmp 43)) (off + i * 4) (by kernel_rfl) (by kernel_rfl) (by kernel_rfl) Tryz.underlying51 (by kernel_rfl) (by omega) (by omega) (by omega)) ?_
  refine wpOrdT_frees [9] [.pointer (some ⟨g, off + i * 4 + 3, none⟩)] (rest := [(10, true), (11, false)]) (by kernel_rfl) (by kernel_rfl) (fun _ => by kernel_rfl) ?_
  refine wpOrdT_free (vv) (some 46) ⟨by kernel_rfl, by kernel_rfl, by kernel_rfl⟩ (fun bb hb => of_load (x := (.tmp 45)) (by kernel_rfl) (by kernel_rfl) (load_c (Q3.out _ hb) Tryz.underlying22 rfl)) ?_
  refine wpOrdT_call (some 47) ⟨by kernel_rfl, by kernel_rfl, by kernel_rfl⟩ (HC.out _ MR.out) (fun _ => by kernel_rfl) ?_
  rintro r w7 ⟨v7, rfl, hx⟩
  refine ⟨_, rfl, (fun h => by cases h), ?_⟩
  exact wpOrdT_doneC (act_is (K := Q .normal) (by kernel_rfl) (HQ.out (.pointer (some ⟨sg, 0, none⟩)) (.slice (some ⟨g, off, none⟩) n cap) (.int .i64 ((i : Nat) : Int)) (.pointer (some ⟨g, off + i * 4, none⟩)) (.pointer (some ⟨g, off + i * 4 + 1, none⟩)) (kv) (.slice (some ⟨g, off, none⟩) n cap) (.int .i64 ((i : Nat) : Int)) (.pointer (some ⟨g, off + i * 4, none⟩)) (.pointer (some ⟨g, off + i * 4 + 3, none⟩)) (vv) (v7) w7 hx))
end Go.Proofs.YtglkmaalpammcaaGreat

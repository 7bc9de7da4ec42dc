/- KVPrefix: want = append(want, all[i]) (printed by gen_kvpx.py). -/
import Derived.Test.YtngemlpalkfjeaaKvL0
namespace Go.Proofs.Ytngemlpalkfjeaa
open Go.Gl Go.RowKit
set_option linter.unusedVariables false
set_option linter.unusedSimpArgs false
set_option maxRecDepth 100000
set_option maxHeartbeats 1000000 in
theorem kx16 {w : World} {b off cap n i m : Nat} {vo u v : Value} {ys : List Value} (c1 : w.cell? ⟨b, off + i * 2, none⟩ = some u) (c2 : w.cell? ⟨b, off + i * 2 + 1, none⟩ = some v) (hr : OwnG w 45 2 vo m ys) (hu : u.oneCell' = true) (hv : v.oneCell' = true) (hi : i < n) (hn : n ≤ 100000000) (hm : m ≤ 100000000) {x0 x1 x2 x3 x4 x5 x6 x10 x11 x12 x13 x14 x15 x16 x17 x18 x19 x20 x21 x22 x23 x24 x25 x26 x27 x28 x29 x30 x31 x32 x33 x34 x35 x36 x37 x38 x39 x40 x41 x42 x43 x44 x45 x46 x47 x48 x49 x50 x51 x52 x53 x54 x55 x56 x57 x58 x59 x60 x61 x62 x63 x64 x65 x66 x67 x68 x69 x70 x71 x72 x73 x74 x75 x76 x77 x78 x79 x80 x81 x82 x83 x84 x85 x86 x87 x88 x89 x90 x91 x92 x93 x94 x95 x96 x97 x98 x99 x100 x101 x102 x103 x104 x105 x106 x107 x108 x109 x110 x111 x112 x113 x114 x115 x116 x117 x118 x119 x120 x121 : Value} {df : List Deferred} {Q : Exit → Act → World → Prop}
    (hK : ∀ (y70 y71 y72 y73 y74 y75 y76 : Value) (v8 : Value) (w' : World), OwnG w' 45 2 v8 (m + 1) (ys ++ [u, v]) → Mods (ofV vo) w w' → (v8.ownBlock = vo.ownBlock ∨ freshIn w v8) → Q .normal ⟨#[x0, x1, x2, x3, x4, x5, x6, .slice (some ⟨b, off, none⟩) n cap, v8, .int .i64 ((i : Nat) : Int), x10, x11, x12, x13, x14, x15, x16, x17, x18, x19, x20, x21, x22, x23, x24, x25, x26, x27, x28, x29, x30, x31, x32, x33, x34, x35, x36, x37, x38, x39, x40, x41, x42, x43, x44, x45, x46, x47, x48, x49, x50, x51, x52, x53, x54, x55, x56, x57, x58, x59, x60, x61, x62, x63, x64, x65, x66, x67, x68, x69, y70, y71, y72, y73, y74, y75, y76, x77, x78, x79, x80, x81, x82, x83, x84, x85, x86, x87, x88, x89, x90, x91, x92, x93, x94, x95, x96, x97, x98, x99, x100, x101, x102, x103, x104, x105, x106, x107, x108, x109, x110, x111, x112, x113, x114, x115, x116, x117, x118, x119, x120, x121], df⟩ w') : RW Try.prog (opsC 16 Try.f5) false Q ⟨#[x0, x1, x2, x3, x4, x5, x6, .slice (some ⟨b, off, none⟩) n cap, vo, .int .i64 ((i : Nat) : Int), x10, x11, x12, x13, x14, x15, x16, x17, x18, x19, x20, x21, x22, x23, x24, x25, x26, x27, x28, x29, x30, x31, x32, x33, x34, x35, x36, x37, x38, x39, x40, x41, x42, x43, x44, x45, x46, x47, x48, x49, x50, x51, x52, x53, x54, x55, x56, x57, x58, x59, x60, x61, x62, x63, x64, x65, x66, x67, x68, x69, x70, x71, x72, x73, x74, x75, x76, x77, x78, x79, x80, x81, x82, x83, x84, x85, x86, x87, x88, x89, x90, x91, x92, x93, x94, x95, x96, x97, x98, x99, x100, x101, x102, x103, x104, x105, x106, x107, x108, x109, x110, x111, x112, x113, x114, x115, x116, x117, x118, x119, x120, x121], df⟩ w := by
  have HQ := Lib.hid hK
  clear hK
  have Q1 := two_cells (w := w) (g := b) (off := off + i * 2) c1 c2
  refine rw_lin [(0, false), (1, false), (2, false), (3, false), (4, false), (5, false), (6, false), (7, false)] (by kernel_rfl) ?_
  refine wpOrdT_freesB [0, 1, 2] [vo, .slice (some ⟨b, off, none⟩) n cap, .int .i64 ((i : Nat) : Int)] (rest := [(3, false), (4, false), (5, false), (6, false), (7, false)]) (by kernel_rfl) (by kernel_rfl) (by kernel_rfl) (.inr trivial) ?_
  refine wpOrdT_run (.pointer (some ⟨b, off + i * 2, none⟩)) _ (some 73) ⟨by kernel_rfl, by kernel_rfl, by kernel_rfl⟩ (run_idx (s := 2) (e := 45) (g := b) (off := off) (n := n) (c := cap) (i := ((i : Nat) : Int)) (x := (.tmp 71)) (y := (.tmp 72)) (off + i * 2) (by kernel_rfl) (by kernel_rfl) (by kernel_rfl) Try.underlying28 (by kernel_rfl) (by omega) (by omega) (by omega)) (fun _ => trivial) ?_
  refine wpOrdT_run (.agg #[u, v]) _ (some 74) ⟨by kernel_rfl, by kernel_rfl, by kernel_rfl⟩ (of_load (x := (.tmp 73)) (by kernel_rfl) (by kernel_rfl) (load_a [u, v] ((fun _ => Q1) (trivial)) Try.underlying45 rfl (by kernel_rfl))) (fun _ => trivial) ?_
  refine wpOrdT_bs (.cells #[u, v] 45) 1 (some 75) ⟨by kernel_rfl, by kernel_rfl, by kernel_rfl⟩ (by kernel_rfl) ?_
  intro k1 w_k1 hk_k1 hO_k1 hm_k1 hl_k1
  refine ⟨fun _ => trivial, ?_⟩
  obtain ⟨inf, hi', hz, hs, hby⟩ := info_parts infoPr
  obtain ⟨v8, w8, hr8, o8, m8, f8⟩ := run_ap (P := Try.prog) 28 28 28 45 45 inf (.agg #[.slice none 0 0, .slice none 0 0]) Try.underlying28 Try.underlying28 hi' hz (by rw [hs]; rfl) (by rw [hs]; exact hr.keep hm_k1 (fun _ _ x => x)) (m := 1) (ys := [u, v]) (by rw [hs]; exact OwnG.rd (ob_new hO_k1).own) (by intro y hy; simp at hy; rcases hy with rfl | rfl <;> assumption) (by unfold maxLen; omega) (by rw [hby]; omega)
  rw [hs] at o8
  refine wpOrdT_run v8 w8 (some 76) ⟨by kernel_rfl, by kernel_rfl, by kernel_rfl⟩ (of_append (x := (.tmp 70)) (y := (.tmp 75)) (by kernel_rfl) (by kernel_rfl) (by kernel_rfl) hr8) (fun _ => trivial) ?_
  have m78 := hm_k1.trans m8 (U := ofV vo) (fun _ _ x => x.elim) (fun _ _ x => x)
  have f9 := f8.imp id (fun h => h.of hm_k1.size)
  refine wpOrdT_freesB [7] [v8] (rest := []) (by kernel_rfl) (by kernel_rfl) (by kernel_rfl) (.inr trivial) ?_
  exact wpOrdT_doneC (act_is (K := Q .normal) (by kernel_rfl) (HQ.out (vo) (.slice (some ⟨b, off, none⟩) n cap) (.int .i64 ((i : Nat) : Int)) (.pointer (some ⟨b, off + i * 2, none⟩)) (.agg #[u, v]) (.slice (some ⟨k1, 0, none⟩) 1 1) (v8) v8 w8 o8 m78 f9))
end Go.Proofs.Ytngemlpalkfjeaa

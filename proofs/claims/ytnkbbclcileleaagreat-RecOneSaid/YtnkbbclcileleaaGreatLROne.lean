/- RecOne: bytes that are read as a record are laid again as they were: P8.2, P8.3. No conditions. -/
import Derived.Test.YtnkbbclcileleaaGreatRqParams
import Derived.Test.YtnkbbclcileleaaGreatRqPool
import Derived.Test.YtnkbbclcileleaaGreatRqVal
import Derived.Test.YtnkbbclcileleaaGreatRqDelegation
import Derived.Test.YtnkbbclcileleaaGreatRqHistory
import Derived.Test.YtnkbbclcileleaaGreatRqUnbonding
import Derived.Test.YtnkbbclcileleaaGreatRqMove
import Derived.Test.YtnkbbclcileleaaGreatRqAccount
import Derived.Test.YtnkbbclcileleaaGreatRqChain
import Derived.Test.YtnkbbclcileleaaGreatRqCut
import Derived.Test.YtnkbbclcileleaaGreatRqNumber
import Derived.Test.YtnkbbclcileleaaGreatRKnw
import Derived.Test.YtnkbbclcileleaaGreatTail
import Derived.Test.YtnkbbclcileleaaGreatArgs
import Derived.Deep.CutBlock
import Derived.Deep.DeepCutAuto
import Derived.Outline
namespace Go.Proofs.YtnkbbclcileleaaGreat.recOne
open Go.Gl Go.RowKit Go.ChangeShapes Go.WideShapes Go.ChangeAt
set_option linter.unusedVariables false
set_option maxRecDepth 100000

theorem len16 {xs : List UInt8} {n0 n1 e : Nat} (h : recGet [0, 0] xs = ([⟨0, n0, []⟩, ⟨0, n1, []⟩], e)) : e = 0 ↔ xs.length = 16 := by
  constructor
  · rintro rfl
    have := recGet_one h
    rw [← this]
    simp [recLay, lay_n, be_length]
  · intro hl
    have h1 := est_ok 8 xs (by omega)
    have h2 := est_ok 8 (xs.drop 8) (by rw [List.length_drop]; omega)
    have h3 : (xs.drop 8).drop 8 = [] := List.eq_nil_of_length_eq_zero (by simp; omega)
    have : rdAll [0, 0] (xs, 0) = ((rdAll [0, 0] (xs, 0)).1, ([], 0)) := by
      refine Prod.ext rfl ?_
      show est 8 (est 8 (xs, 0)) = ([], 0)
      rw [h1.1, h2.1, h3]
    rw [recGet_yes this] at h
    exact (Prod.mk.inj h).2.symm
theorem len8 {xs : List UInt8} {n0 e : Nat} (h : recGet [0] xs = ([⟨0, n0, []⟩], e)) : e = 0 ↔ xs.length = 8 := by
  constructor
  · rintro rfl
    have := recGet_one h
    rw [← this]
    simp [recLay, lay_n, be_length]
  · intro hl
    have h1 := est_ok 8 xs (by omega)
    have h3 : xs.drop 8 = [] := List.eq_nil_of_length_eq_zero (by simp; omega)
    have : rdAll [0] (xs, 0) = ((rdAll [0] (xs, 0)).1, ([], 0)) := by
      refine Prod.ext rfl ?_
      show est 8 (xs, 0) = ([], 0)
      rw [h1.1, h3]
    rw [recGet_yes this] at h
    exact (Prod.mk.inj h).2.symm

abbrev PostR (w : World) : Ending → World → Prop := fun e w' => e = .returned (.bool true) ∧ Below w.heap.size w w'

set_option maxHeartbeats 4000000 in
theorem tail10 {w wx : World} {a : Option Addr} {n c : Nat} {b : List UInt8} (HX : Hid (Rd w (.slice a n c) b)) (HN : Hid (b.length = n)) (HL : Hid (b.length ≤ 1000000)) (M : Hid (Mods noB w wx)) (x1 x2 x3 x4 x5 x6 x7 x8 x9 x10 x11 x12 x13 x14 x15 x16 x17 x18 x19 x20 x21 x22 x23 x24 x25 x26 x27 x28 x29 x30 x31 x32 x33 x34 x35 x36 x37 x38 x39 x40 x41 x42 x43 x44 x45 x46 x47 x48 x49 x50 x51 x52 x53 x54 x55 x56 x57 x58 x59 x60 x61 x62 x63 x64 x65 x66 x67 x68 x69 x70 x71 x72 x73 x74 x75 x76 x77 x78 x79 x80 x81 x82 x83 x84 x85 x86 x87 x88 x89 x90 x91 x92 x93 x94 x95 x96 x97 x98 x99 x100 x101 x102 x103 x104 x105 x106 x107 x108 x109 x110 x111 x112 x113 x114 x115 x116 x117 x118 x119 x120 x121 x122 x123 x124 x125 x126 x127 x128 x129 x130 x131 x132 x133 x134 x135 x136 x137 x138 x139 x140 x141 x142 x143 x144 x145 x146 x147 x148 x149 x150 x151 x152 x153 x154 x155 x156 x157 x158 x159 x160 x161 x162 x163 x164 x165 x166 x167 x168 x169 x170 x171 x172 x173 x174 x175 x176 x177 x178 x179 x180 x181 x182 x183 x184 x185 x186 x187 x188 x189 x190 x191 x192 x193 x194 x195 x196 x197 x198 x199 x200 x201 x202 x203 x204 x205 x206 x207 x208 x209 : Value) : Code.wp Tryz.prog (tl 10 (bodyOf Tryz.f5)) (bodyPost Tryz.prog Tryz.f5 (PostR w)) ⟨#[.slice a n c, x1, x2, x3, x4, x5, x6, x7, x8, x9, x10, x11, x12, x13, x14, x15, x16, x17, x18, x19, x20, x21, x22, x23, x24, x25, x26, x27, x28, x29, x30, x31, x32, x33, x34, x35, x36, x37, x38, x39, x40, x41, x42, x43, x44, x45, x46, x47, x48, x49, x50, x51, x52, x53, x54, x55, x56, x57, x58, x59, x60, x61, x62, x63, x64, x65, x66, x67, x68, x69, x70, x71, x72, x73, x74, x75, x76, x77, x78, x79, x80, x81, x82, x83, x84, x85, x86, x87, x88, x89, x90, x91, x92, x93, x94, x95, x96, x97, x98, x99, x100, x101, x102, x103, x104, x105, x106, x107, x108, x109, x110, x111, x112, x113, x114, x115, x116, x117, x118, x119, x120, x121, x122, x123, x124, x125, x126, x127, x128, x129, x130, x131, x132, x133, x134, x135, x136, x137, x138, x139, x140, x141, x142, x143, x144, x145, x146, x147, x148, x149, x150, x151, x152, x153, x154, x155, x156, x157, x158, x159, x160, x161, x162, x163, x164, x165, x166, x167, x168, x169, x170, x171, x172, x173, x174, x175, x176, x177, x178, x179, x180, x181, x182, x183, x184, x185, x186, x187, x188, x189, x190, x191, x192, x193, x194, x195, x196, x197, x198, x199, x200, x201, x202, x203, x204, x205, x206, x207, x208, x209], []⟩ wx := by
  refine wp_tl (d := .seq _ _) (by rfl) ?_
  have G := Lib.hid (show GB w [] wx from ⟨fun p hp => (by cases hp), M.out⟩)
  clear M
  go_wp2_with fail
  refine (account_get (HX.out.keep G.out.mods (fun _ _ x => x)) HL.out).mono ?_
  rintro r w2 ⟨n0, n1, e, rfl, hg, hm⟩
  have A := Lib.hid hg
  replace G := Lib.hid ((G.out.step hm).push (.cells #[.int .u64 n0, .int .u64 n1] 32))
  clear hg hm
  go_wp2_with fail
  generalize World.alloc w2 _ = w3 at *
  refine (chain_get (HX.out.keep G.out.mods (fun _ _ x => x)) HL.out).mono ?_
  rintro r w4 ⟨m0, m1, e', rfl, hg, hm⟩
  obtain ⟨⟨rfl, rfl⟩, rfl⟩ : (n0 = m0 ∧ n1 = m1) ∧ e = e' := by simpa using A.out.symm.trans hg
  replace G := Lib.hid ((G.out.step hm).push (.cells #[.int .u64 n0, .int .u64 n1] 26))
  clear hg hm
  go_wp2_with fail
  generalize World.alloc w4 _ = w5 at *
  refine (cut_get (HX.out.keep G.out.mods (fun _ _ x => x)) HL.out).mono ?_
  rintro r w6 ⟨m0, m1, e', rfl, hg, hm⟩
  obtain ⟨⟨rfl, rfl⟩, rfl⟩ : (n0 = m0 ∧ n1 = m1) ∧ e = e' := by simpa using A.out.symm.trans hg
  replace G := Lib.hid ((G.out.step hm).push (.cells #[.int .u64 n0, .int .u64 n1] 40))
  clear hg hm
  go_wp2_with fail
  generalize World.alloc w6 _ = w7 at *
  refine (one_get (HX.out.keep G.out.mods (fun _ _ x => x)) HL.out).mono ?_
  rintro r w8 ⟨k0, f, rfl, hg, hm⟩
  have B := Lib.hid hg
  replace G := Lib.hid (G.out.step hm)
  have c3 := cells_of (G.out.get 0 rfl)
  have c2 := cells_of (G.out.get 1 rfl)
  have c1 := cells_of (G.out.get 2 rfl)
  have h16 := len16 A.out
  have h8 := len8 B.out
  rw [HN.out] at h16 h8
  clear hg hm
  rcases recGet_err A.out with rfl | rfl
  · obtain rfl : n = 16 := h16.1 rfl
    obtain rfl : f = 80 := (recGet_err B.out).resolve_left (fun e => by have := h8.1 e; omega)
    have ho := (recGet_ok (by decide) A.out).1
    have HO := Lib.hid (show Lim [n0, n1] from (limC (ho ⟨0, n0, []⟩ (List.mem_of_getElem? (i := 0) rfl)).n (limC (ho ⟨0, n1, []⟩ (List.mem_of_getElem? (i := 1) rfl)).n limN)))
    clear h16 h8 ho
    go_wp2_with fail
    refine (account_put HO.out).mono ?_
    rintro r w9 ⟨v, rfl, o1, m1, f1⟩
    rw [recGet_one A.out] at o1
    replace G := Lib.hid (G.out.step m1)
    have O := Lib.hid (And.intro o1.rd (HX.out.keep G.out.mods (fun _ _ x => x)))
    clear o1 m1 f1 c1 c2 c3
    go_wp2_with fail
    refine (Bytes_true O.out.1 O.out.2).mono ?_
    rintro r w10 ⟨rfl, m3⟩
    replace G := Lib.hid (G.out.step m3)
    have c2 := cells_of (G.out.get 1 rfl)
    clear m3 O
    go_wp2_with fail
    refine (chain_put HO.out).mono ?_
    rintro r w11 ⟨v, rfl, o1, m1, f1⟩
    rw [recGet_one A.out] at o1
    replace G := Lib.hid (G.out.step m1)
    have O := Lib.hid (And.intro o1.rd (HX.out.keep G.out.mods (fun _ _ x => x)))
    clear o1 m1 f1 c2
    go_wp2_with fail
    refine (Bytes_true O.out.1 O.out.2).mono ?_
    rintro r w12 ⟨rfl, m3⟩
    replace G := Lib.hid (G.out.step m3)
    have c3 := cells_of (G.out.get 0 rfl)
    clear m3 O
    go_wp2_with fail
    refine (cut_put HO.out).mono ?_
    rintro r w13 ⟨v, rfl, o1, m1, f1⟩
    rw [recGet_one A.out] at o1
    replace G := Lib.hid (G.out.step m1)
    have O := Lib.hid (And.intro o1.rd (HX.out.keep G.out.mods (fun _ _ x => x)))
    clear o1 m1 f1 c3
    go_wp2_with fail
    refine (Bytes_true O.out.1 O.out.2).mono ?_
    rintro r w14 ⟨rfl, m3⟩
    replace G := Lib.hid (G.out.step m3)
    clear m3 O
    go_wp2_with fail
    go_ret
    exact ⟨rfl, G.out.mods.below⟩
  · have n16 : n ≠ 16 := fun e => by have := h16.2 e; omega
    have b16 : ((n : Int) == 16) = false := by simp; omega
    clear c1 c2 c3
    rcases recGet_err B.out with rfl | rfl
    · obtain rfl : n = 8 := h8.1 rfl
      have ho := (recGet_ok (by decide) B.out).1
      have HO := Lib.hid (show Lim [k0] from limC (ho ⟨0, k0, []⟩ (List.mem_of_getElem? (i := 0) rfl)).n limN)
      clear h16 h8 ho n16 b16
      go_wp2_with fail
      refine (one_put HO.out).mono ?_
      rintro r w9 ⟨v, rfl, o1, m1, f1⟩
      rw [recGet_one B.out] at o1
      replace G := Lib.hid (G.out.step m1)
      have O := Lib.hid (And.intro o1.rd (HX.out.keep G.out.mods (fun _ _ x => x)))
      clear o1 m1 f1
      go_wp2_with fail
      refine (Bytes_true O.out.1 O.out.2).mono ?_
      rintro r w10 ⟨rfl, m3⟩
      replace G := Lib.hid (G.out.step m3)
      clear m3 O
      go_wp2_with fail
      go_ret
      exact ⟨rfl, G.out.mods.below⟩
    · have n8 : n ≠ 8 := fun e => by have := h8.2 e; omega
      have b8 : ((n : Int) == 8) = false := by simp; omega
      clear h16 h8
      go_wp2_with fail
      go_ret
      exact ⟨rfl, G.out.mods.below⟩

set_option maxHeartbeats 4000000 in
theorem tail9 {w wx : World} {a : Option Addr} {n c : Nat} {b : List UInt8} (HX : Hid (Rd w (.slice a n c) b)) (HN : Hid (b.length = n)) (HL : Hid (b.length ≤ 1000000)) (M : Hid (Mods noB w wx)) (x1 x2 x3 x4 x5 x6 x7 x8 x9 x10 x11 x12 x13 x14 x15 x16 x17 x18 x19 x20 x21 x22 x23 x24 x25 x26 x27 x28 x29 x30 x31 x32 x33 x34 x35 x36 x37 x38 x39 x40 x41 x42 x43 x44 x45 x46 x47 x48 x49 x50 x51 x52 x53 x54 x55 x56 x57 x58 x59 x60 x61 x62 x63 x64 x65 x66 x67 x68 x69 x70 x71 x72 x73 x74 x75 x76 x77 x78 x79 x80 x81 x82 x83 x84 x85 x86 x87 x88 x89 x90 x91 x92 x93 x94 x95 x96 x97 x98 x99 x100 x101 x102 x103 x104 x105 x106 x107 x108 x109 x110 x111 x112 x113 x114 x115 x116 x117 x118 x119 x120 x121 x122 x123 x124 x125 x126 x127 x128 x129 x130 x131 x132 x133 x134 x135 x136 x137 x138 x139 x140 x141 x142 x143 x144 x145 x146 x147 x148 x149 x150 x151 x152 x153 x154 x155 x156 x157 x158 x159 x160 x161 x162 x163 x164 x165 x166 x167 x168 x169 x170 x171 x172 x173 x174 x175 x176 x177 x178 x179 x180 x181 x182 x183 x184 x185 x186 x187 x188 x189 x190 x191 x192 x193 x194 x195 x196 x197 x198 x199 x200 x201 x202 x203 x204 x205 x206 x207 x208 x209 : Value) : Code.wp Tryz.prog (tl 9 (bodyOf Tryz.f5)) (bodyPost Tryz.prog Tryz.f5 (PostR w)) ⟨#[.slice a n c, x1, x2, x3, x4, x5, x6, x7, x8, x9, x10, x11, x12, x13, x14, x15, x16, x17, x18, x19, x20, x21, x22, x23, x24, x25, x26, x27, x28, x29, x30, x31, x32, x33, x34, x35, x36, x37, x38, x39, x40, x41, x42, x43, x44, x45, x46, x47, x48, x49, x50, x51, x52, x53, x54, x55, x56, x57, x58, x59, x60, x61, x62, x63, x64, x65, x66, x67, x68, x69, x70, x71, x72, x73, x74, x75, x76, x77, x78, x79, x80, x81, x82, x83, x84, x85, x86, x87, x88, x89, x90, x91, x92, x93, x94, x95, x96, x97, x98, x99, x100, x101, x102, x103, x104, x105, x106, x107, x108, x109, x110, x111, x112, x113, x114, x115, x116, x117, x118, x119, x120, x121, x122, x123, x124, x125, x126, x127, x128, x129, x130, x131, x132, x133, x134, x135, x136, x137, x138, x139, x140, x141, x142, x143, x144, x145, x146, x147, x148, x149, x150, x151, x152, x153, x154, x155, x156, x157, x158, x159, x160, x161, x162, x163, x164, x165, x166, x167, x168, x169, x170, x171, x172, x173, x174, x175, x176, x177, x178, x179, x180, x181, x182, x183, x184, x185, x186, x187, x188, x189, x190, x191, x192, x193, x194, x195, x196, x197, x198, x199, x200, x201, x202, x203, x204, x205, x206, x207, x208, x209], []⟩ wx := by
  refine wp_tl (d := .seq _ _) (by rfl) ?_
  refine wp_seq_h fun K HK => ?_
  go_wp2_with fail
  refine (move_get (HX.out.keep M.out (fun _ _ x => x)) HL.out).mono ?_
  rintro r w2 ⟨n0, n1, n2, n3, n4, n5, u6, l6, e, rfl, hg, hm, ⟨e6, f6⟩⟩
  obtain ⟨ad6, cp6, rfl, _⟩ := e6.form
  have E6 := Lib.hid (e6.keep ((Mods.refl noB w2).alloc (.cells #[.int .u64 n0, .int .u64 n1, .int .u64 n2, .int .u64 n3, .int .u64 n4, .int .u64 n5, .slice ad6 l6.length cp6] 44)) (fun _ _ x => x))
  clear e6 f6
  have HG := Lib.hid hg
  replace M := Lib.hid ((M.out.then0 hm).alloc (.cells #[.int .u64 n0, .int .u64 n1, .int .u64 n2, .int .u64 n3, .int .u64 n4, .int .u64 n5, .slice ad6 l6.length cp6] 44))
  have d := cells_of (heap_new w2 (.cells #[.int .u64 n0, .int .u64 n1, .int .u64 n2, .int .u64 n3, .int .u64 n4, .int .u64 n5, .slice ad6 l6.length cp6] 44))
  clear hg hm
  rcases recGet_err HG.out with rfl | rfl
  · have ho := (recGet_ok (by decide) HG.out).1
    have hz := recGet_ls HG.out
    have HO := Lib.hid (show Lim [n0, n1, n2, n3, n4, n5] from (limC (ho ⟨0, n0, []⟩ (List.mem_of_getElem? (i := 0) rfl)).n (limC (ho ⟨0, n1, []⟩ (List.mem_of_getElem? (i := 1) rfl)).n (limC (ho ⟨0, n2, []⟩ (List.mem_of_getElem? (i := 2) rfl)).n (limC (ho ⟨0, n3, []⟩ (List.mem_of_getElem? (i := 3) rfl)).n (limC (ho ⟨0, n4, []⟩ (List.mem_of_getElem? (i := 4) rfl)).n (limC (ho ⟨0, n5, []⟩ (List.mem_of_getElem? (i := 5) rfl)).n limN)))))))
    have K6 := Lib.hid (show DN (w2.alloc (.cells #[.int .u64 n0, .int .u64 n1, .int .u64 n2, .int .u64 n3, .int .u64 n4, .int .u64 n5, .slice ad6 l6.length cp6] 44)) (.slice ad6 l6.length cp6) l6 from ⟨E6.out, (ho ⟨2, 0, l6⟩ (List.mem_of_getElem? (i := 6) rfl)).ls, Nat.le_trans (hz ⟨2, 0, l6⟩ (List.mem_of_getElem? (i := 6) rfl)) (Nat.le_of_ble_eq_true rfl)⟩)
    clear ho hz
    go_wp2_with fail
    refine (move_put HO.out K6.out).mono ?_
    rintro r w4 ⟨v, rfl, o1, m1, f1⟩
    rw [recGet_one HG.out] at o1
    replace M := Lib.hid (M.out.then0 m1)
    have O := Lib.hid (And.intro o1.rd (HX.out.keep M.out (fun _ _ x => x)))
    clear o1 m1 f1 d HG K6 E6
    go_wp2_with fail
    refine (Bytes_true O.out.1 O.out.2).mono ?_
    rintro r w5 ⟨rfl, m3⟩
    replace M := Lib.hid (M.out.then0 m3)
    clear m3 O
    go_wp2
    refine HK.out _ _ ?_
    exact tail10 HX HN HL M _ _ _ _ _ _ _ _ _ _ _ _ _ _ _ _ _ _ _ _ _ _ _ _ _ _ _ _ _ _ _ _ _ _ _ _ _ _ _ _ _ _ _ _ _ _ _ _ _ _ _ _ _ _ _ _ _ _ _ _ _ _ _ _ _ _ _ _ _ _ _ _ _ _ _ _ _ _ _ _ _ _ _ _ _ _ _ _ _ _ _ _ _ _ _ _ _ _ _ _ _ _ _ _ _ _ _ _ _ _ _ _ _ _ _ _ _ _ _ _ _ _ _ _ _ _ _ _ _ _ _ _ _ _ _ _ _ _ _ _ _ _ _ _ _ _ _ _ _ _ _ _ _ _ _ _ _ _ _ _ _ _ _ _ _ _ _ _ _ _ _ _ _ _ _ _ _ _ _ _ _ _ _ _ _ _ _ _ _ _ _ _ _ _ _ _ _ _ _ _ _ _ _ _ _ _ _ _ _
  · clear d HG E6
    go_wp2
    refine HK.out _ _ ?_
    exact tail10 HX HN HL M _ _ _ _ _ _ _ _ _ _ _ _ _ _ _ _ _ _ _ _ _ _ _ _ _ _ _ _ _ _ _ _ _ _ _ _ _ _ _ _ _ _ _ _ _ _ _ _ _ _ _ _ _ _ _ _ _ _ _ _ _ _ _ _ _ _ _ _ _ _ _ _ _ _ _ _ _ _ _ _ _ _ _ _ _ _ _ _ _ _ _ _ _ _ _ _ _ _ _ _ _ _ _ _ _ _ _ _ _ _ _ _ _ _ _ _ _ _ _ _ _ _ _ _ _ _ _ _ _ _ _ _ _ _ _ _ _ _ _ _ _ _ _ _ _ _ _ _ _ _ _ _ _ _ _ _ _ _ _ _ _ _ _ _ _ _ _ _ _ _ _ _ _ _ _ _ _ _ _ _ _ _ _ _ _ _ _ _ _ _ _ _ _ _ _ _ _ _ _ _ _ _ _ _ _ _ _ _ _

set_option maxHeartbeats 4000000 in
theorem tail8 {w wx : World} {a : Option Addr} {n c : Nat} {b : List UInt8} (HX : Hid (Rd w (.slice a n c) b)) (HN : Hid (b.length = n)) (HL : Hid (b.length ≤ 1000000)) (M : Hid (Mods noB w wx)) (x1 x2 x3 x4 x5 x6 x7 x8 x9 x10 x11 x12 x13 x14 x15 x16 x17 x18 x19 x20 x21 x22 x23 x24 x25 x26 x27 x28 x29 x30 x31 x32 x33 x34 x35 x36 x37 x38 x39 x40 x41 x42 x43 x44 x45 x46 x47 x48 x49 x50 x51 x52 x53 x54 x55 x56 x57 x58 x59 x60 x61 x62 x63 x64 x65 x66 x67 x68 x69 x70 x71 x72 x73 x74 x75 x76 x77 x78 x79 x80 x81 x82 x83 x84 x85 x86 x87 x88 x89 x90 x91 x92 x93 x94 x95 x96 x97 x98 x99 x100 x101 x102 x103 x104 x105 x106 x107 x108 x109 x110 x111 x112 x113 x114 x115 x116 x117 x118 x119 x120 x121 x122 x123 x124 x125 x126 x127 x128 x129 x130 x131 x132 x133 x134 x135 x136 x137 x138 x139 x140 x141 x142 x143 x144 x145 x146 x147 x148 x149 x150 x151 x152 x153 x154 x155 x156 x157 x158 x159 x160 x161 x162 x163 x164 x165 x166 x167 x168 x169 x170 x171 x172 x173 x174 x175 x176 x177 x178 x179 x180 x181 x182 x183 x184 x185 x186 x187 x188 x189 x190 x191 x192 x193 x194 x195 x196 x197 x198 x199 x200 x201 x202 x203 x204 x205 x206 x207 x208 x209 : Value) : Code.wp Tryz.prog (tl 8 (bodyOf Tryz.f5)) (bodyPost Tryz.prog Tryz.f5 (PostR w)) ⟨#[.slice a n c, x1, x2, x3, x4, x5, x6, x7, x8, x9, x10, x11, x12, x13, x14, x15, x16, x17, x18, x19, x20, x21, x22, x23, x24, x25, x26, x27, x28, x29, x30, x31, x32, x33, x34, x35, x36, x37, x38, x39, x40, x41, x42, x43, x44, x45, x46, x47, x48, x49, x50, x51, x52, x53, x54, x55, x56, x57, x58, x59, x60, x61, x62, x63, x64, x65, x66, x67, x68, x69, x70, x71, x72, x73, x74, x75, x76, x77, x78, x79, x80, x81, x82, x83, x84, x85, x86, x87, x88, x89, x90, x91, x92, x93, x94, x95, x96, x97, x98, x99, x100, x101, x102, x103, x104, x105, x106, x107, x108, x109, x110, x111, x112, x113, x114, x115, x116, x117, x118, x119, x120, x121, x122, x123, x124, x125, x126, x127, x128, x129, x130, x131, x132, x133, x134, x135, x136, x137, x138, x139, x140, x141, x142, x143, x144, x145, x146, x147, x148, x149, x150, x151, x152, x153, x154, x155, x156, x157, x158, x159, x160, x161, x162, x163, x164, x165, x166, x167, x168, x169, x170, x171, x172, x173, x174, x175, x176, x177, x178, x179, x180, x181, x182, x183, x184, x185, x186, x187, x188, x189, x190, x191, x192, x193, x194, x195, x196, x197, x198, x199, x200, x201, x202, x203, x204, x205, x206, x207, x208, x209], []⟩ wx := by
  refine wp_tl (d := .seq _ _) (by rfl) ?_
  refine wp_seq_h fun K HK => ?_
  go_wp2_with fail
  refine (unbonding_get (HX.out.keep M.out (fun _ _ x => x)) HL.out).mono ?_
  rintro r w2 ⟨n0, n1, n2, n3, n4, n5, e, rfl, hg, hm⟩
  have HG := Lib.hid hg
  replace M := Lib.hid ((M.out.then0 hm).alloc (.cells #[.int .u64 n0, .int .u64 n1, .int .u64 n2, .int .u64 n3, .int .u64 n4, .int .u64 n5] 42))
  have d := cells_of (heap_new w2 (.cells #[.int .u64 n0, .int .u64 n1, .int .u64 n2, .int .u64 n3, .int .u64 n4, .int .u64 n5] 42))
  clear hg hm
  rcases recGet_err HG.out with rfl | rfl
  · have ho := (recGet_ok (by decide) HG.out).1
    have HO := Lib.hid (show Lim [n0, n1, n2, n3, n4, n5] from (limC (ho ⟨0, n0, []⟩ (List.mem_of_getElem? (i := 0) rfl)).n (limC (ho ⟨0, n1, []⟩ (List.mem_of_getElem? (i := 1) rfl)).n (limC (ho ⟨0, n2, []⟩ (List.mem_of_getElem? (i := 2) rfl)).n (limC (ho ⟨0, n3, []⟩ (List.mem_of_getElem? (i := 3) rfl)).n (limC (ho ⟨0, n4, []⟩ (List.mem_of_getElem? (i := 4) rfl)).n (limC (ho ⟨0, n5, []⟩ (List.mem_of_getElem? (i := 5) rfl)).n limN)))))))
    clear ho
    go_wp2_with fail
    refine (unbonding_put HO.out).mono ?_
    rintro r w4 ⟨v, rfl, o1, m1, f1⟩
    rw [recGet_one HG.out] at o1
    replace M := Lib.hid (M.out.then0 m1)
    have O := Lib.hid (And.intro o1.rd (HX.out.keep M.out (fun _ _ x => x)))
    clear o1 m1 f1 d HG
    go_wp2_with fail
    refine (Bytes_true O.out.1 O.out.2).mono ?_
    rintro r w5 ⟨rfl, m3⟩
    replace M := Lib.hid (M.out.then0 m3)
    clear m3 O
    go_wp2
    refine HK.out _ _ ?_
    exact tail9 HX HN HL M _ _ _ _ _ _ _ _ _ _ _ _ _ _ _ _ _ _ _ _ _ _ _ _ _ _ _ _ _ _ _ _ _ _ _ _ _ _ _ _ _ _ _ _ _ _ _ _ _ _ _ _ _ _ _ _ _ _ _ _ _ _ _ _ _ _ _ _ _ _ _ _ _ _ _ _ _ _ _ _ _ _ _ _ _ _ _ _ _ _ _ _ _ _ _ _ _ _ _ _ _ _ _ _ _ _ _ _ _ _ _ _ _ _ _ _ _ _ _ _ _ _ _ _ _ _ _ _ _ _ _ _ _ _ _ _ _ _ _ _ _ _ _ _ _ _ _ _ _ _ _ _ _ _ _ _ _ _ _ _ _ _ _ _ _ _ _ _ _ _ _ _ _ _ _ _ _ _ _ _ _ _ _ _ _ _ _ _ _ _ _ _ _ _ _ _ _ _ _ _ _ _ _ _ _ _ _ _ _
  · clear d HG
    go_wp2
    refine HK.out _ _ ?_
    exact tail9 HX HN HL M _ _ _ _ _ _ _ _ _ _ _ _ _ _ _ _ _ _ _ _ _ _ _ _ _ _ _ _ _ _ _ _ _ _ _ _ _ _ _ _ _ _ _ _ _ _ _ _ _ _ _ _ _ _ _ _ _ _ _ _ _ _ _ _ _ _ _ _ _ _ _ _ _ _ _ _ _ _ _ _ _ _ _ _ _ _ _ _ _ _ _ _ _ _ _ _ _ _ _ _ _ _ _ _ _ _ _ _ _ _ _ _ _ _ _ _ _ _ _ _ _ _ _ _ _ _ _ _ _ _ _ _ _ _ _ _ _ _ _ _ _ _ _ _ _ _ _ _ _ _ _ _ _ _ _ _ _ _ _ _ _ _ _ _ _ _ _ _ _ _ _ _ _ _ _ _ _ _ _ _ _ _ _ _ _ _ _ _ _ _ _ _ _ _ _ _ _ _ _ _ _ _ _ _ _ _ _ _ _

set_option maxHeartbeats 4000000 in
theorem tail7 {w wx : World} {a : Option Addr} {n c : Nat} {b : List UInt8} (HX : Hid (Rd w (.slice a n c) b)) (HN : Hid (b.length = n)) (HL : Hid (b.length ≤ 1000000)) (M : Hid (Mods noB w wx)) (x1 x2 x3 x4 x5 x6 x7 x8 x9 x10 x11 x12 x13 x14 x15 x16 x17 x18 x19 x20 x21 x22 x23 x24 x25 x26 x27 x28 x29 x30 x31 x32 x33 x34 x35 x36 x37 x38 x39 x40 x41 x42 x43 x44 x45 x46 x47 x48 x49 x50 x51 x52 x53 x54 x55 x56 x57 x58 x59 x60 x61 x62 x63 x64 x65 x66 x67 x68 x69 x70 x71 x72 x73 x74 x75 x76 x77 x78 x79 x80 x81 x82 x83 x84 x85 x86 x87 x88 x89 x90 x91 x92 x93 x94 x95 x96 x97 x98 x99 x100 x101 x102 x103 x104 x105 x106 x107 x108 x109 x110 x111 x112 x113 x114 x115 x116 x117 x118 x119 x120 x121 x122 x123 x124 x125 x126 x127 x128 x129 x130 x131 x132 x133 x134 x135 x136 x137 x138 x139 x140 x141 x142 x143 x144 x145 x146 x147 x148 x149 x150 x151 x152 x153 x154 x155 x156 x157 x158 x159 x160 x161 x162 x163 x164 x165 x166 x167 x168 x169 x170 x171 x172 x173 x174 x175 x176 x177 x178 x179 x180 x181 x182 x183 x184 x185 x186 x187 x188 x189 x190 x191 x192 x193 x194 x195 x196 x197 x198 x199 x200 x201 x202 x203 x204 x205 x206 x207 x208 x209 : Value) : Code.wp Tryz.prog (tl 7 (bodyOf Tryz.f5)) (bodyPost Tryz.prog Tryz.f5 (PostR w)) ⟨#[.slice a n c, x1, x2, x3, x4, x5, x6, x7, x8, x9, x10, x11, x12, x13, x14, x15, x16, x17, x18, x19, x20, x21, x22, x23, x24, x25, x26, x27, x28, x29, x30, x31, x32, x33, x34, x35, x36, x37, x38, x39, x40, x41, x42, x43, x44, x45, x46, x47, x48, x49, x50, x51, x52, x53, x54, x55, x56, x57, x58, x59, x60, x61, x62, x63, x64, x65, x66, x67, x68, x69, x70, x71, x72, x73, x74, x75, x76, x77, x78, x79, x80, x81, x82, x83, x84, x85, x86, x87, x88, x89, x90, x91, x92, x93, x94, x95, x96, x97, x98, x99, x100, x101, x102, x103, x104, x105, x106, x107, x108, x109, x110, x111, x112, x113, x114, x115, x116, x117, x118, x119, x120, x121, x122, x123, x124, x125, x126, x127, x128, x129, x130, x131, x132, x133, x134, x135, x136, x137, x138, x139, x140, x141, x142, x143, x144, x145, x146, x147, x148, x149, x150, x151, x152, x153, x154, x155, x156, x157, x158, x159, x160, x161, x162, x163, x164, x165, x166, x167, x168, x169, x170, x171, x172, x173, x174, x175, x176, x177, x178, x179, x180, x181, x182, x183, x184, x185, x186, x187, x188, x189, x190, x191, x192, x193, x194, x195, x196, x197, x198, x199, x200, x201, x202, x203, x204, x205, x206, x207, x208, x209], []⟩ wx := by
  refine wp_tl (d := .seq _ _) (by rfl) ?_
  refine wp_seq_h fun K HK => ?_
  go_wp2_with fail
  refine (history_get (HX.out.keep M.out (fun _ _ x => x)) HL.out).mono ?_
  rintro r w2 ⟨n1, u0, l0, e, rfl, hg, hm, ⟨e0, f0⟩⟩
  obtain ⟨ad0, cp0, rfl, _⟩ := e0.form
  have E0 := Lib.hid (e0.keep ((Mods.refl noB w2).alloc (.cells #[.slice ad0 l0.length cp0, .int .u64 n1] 38)) (fun _ _ x => x))
  clear e0 f0
  have HG := Lib.hid hg
  replace M := Lib.hid ((M.out.then0 hm).alloc (.cells #[.slice ad0 l0.length cp0, .int .u64 n1] 38))
  have d := cells_of (heap_new w2 (.cells #[.slice ad0 l0.length cp0, .int .u64 n1] 38))
  clear hg hm
  rcases recGet_err HG.out with rfl | rfl
  · have ho := (recGet_ok (by decide) HG.out).1
    have hz := recGet_ls HG.out
    have HO := Lib.hid (show Lim [n1] from (limC (ho ⟨0, n1, []⟩ (List.mem_of_getElem? (i := 1) rfl)).n limN))
    have K0 := Lib.hid (show DN (w2.alloc (.cells #[.slice ad0 l0.length cp0, .int .u64 n1] 38)) (.slice ad0 l0.length cp0) l0 from ⟨E0.out, (ho ⟨2, 0, l0⟩ (List.mem_of_getElem? (i := 0) rfl)).ls, Nat.le_trans (hz ⟨2, 0, l0⟩ (List.mem_of_getElem? (i := 0) rfl)) (Nat.le_of_ble_eq_true rfl)⟩)
    clear ho hz
    go_wp2_with fail
    refine (history_put HO.out K0.out).mono ?_
    rintro r w4 ⟨v, rfl, o1, m1, f1⟩
    rw [recGet_one HG.out] at o1
    replace M := Lib.hid (M.out.then0 m1)
    have O := Lib.hid (And.intro o1.rd (HX.out.keep M.out (fun _ _ x => x)))
    clear o1 m1 f1 d HG K0 E0
    go_wp2_with fail
    refine (Bytes_true O.out.1 O.out.2).mono ?_
    rintro r w5 ⟨rfl, m3⟩
    replace M := Lib.hid (M.out.then0 m3)
    clear m3 O
    go_wp2
    refine HK.out _ _ ?_
    exact tail8 HX HN HL M _ _ _ _ _ _ _ _ _ _ _ _ _ _ _ _ _ _ _ _ _ _ _ _ _ _ _ _ _ _ _ _ _ _ _ _ _ _ _ _ _ _ _ _ _ _ _ _ _ _ _ _ _ _ _ _ _ _ _ _ _ _ _ _ _ _ _ _ _ _ _ _ _ _ _ _ _ _ _ _ _ _ _ _ _ _ _ _ _ _ _ _ _ _ _ _ _ _ _ _ _ _ _ _ _ _ _ _ _ _ _ _ _ _ _ _ _ _ _ _ _ _ _ _ _ _ _ _ _ _ _ _ _ _ _ _ _ _ _ _ _ _ _ _ _ _ _ _ _ _ _ _ _ _ _ _ _ _ _ _ _ _ _ _ _ _ _ _ _ _ _ _ _ _ _ _ _ _ _ _ _ _ _ _ _ _ _ _ _ _ _ _ _ _ _ _ _ _ _ _ _ _ _ _ _ _ _ _ _
  · clear d HG E0
    go_wp2
    refine HK.out _ _ ?_
    exact tail8 HX HN HL M _ _ _ _ _ _ _ _ _ _ _ _ _ _ _ _ _ _ _ _ _ _ _ _ _ _ _ _ _ _ _ _ _ _ _ _ _ _ _ _ _ _ _ _ _ _ _ _ _ _ _ _ _ _ _ _ _ _ _ _ _ _ _ _ _ _ _ _ _ _ _ _ _ _ _ _ _ _ _ _ _ _ _ _ _ _ _ _ _ _ _ _ _ _ _ _ _ _ _ _ _ _ _ _ _ _ _ _ _ _ _ _ _ _ _ _ _ _ _ _ _ _ _ _ _ _ _ _ _ _ _ _ _ _ _ _ _ _ _ _ _ _ _ _ _ _ _ _ _ _ _ _ _ _ _ _ _ _ _ _ _ _ _ _ _ _ _ _ _ _ _ _ _ _ _ _ _ _ _ _ _ _ _ _ _ _ _ _ _ _ _ _ _ _ _ _ _ _ _ _ _ _ _ _ _ _ _ _ _

set_option maxHeartbeats 4000000 in
theorem tail6 {w wx : World} {a : Option Addr} {n c : Nat} {b : List UInt8} (HX : Hid (Rd w (.slice a n c) b)) (HN : Hid (b.length = n)) (HL : Hid (b.length ≤ 1000000)) (M : Hid (Mods noB w wx)) (x1 x2 x3 x4 x5 x6 x7 x8 x9 x10 x11 x12 x13 x14 x15 x16 x17 x18 x19 x20 x21 x22 x23 x24 x25 x26 x27 x28 x29 x30 x31 x32 x33 x34 x35 x36 x37 x38 x39 x40 x41 x42 x43 x44 x45 x46 x47 x48 x49 x50 x51 x52 x53 x54 x55 x56 x57 x58 x59 x60 x61 x62 x63 x64 x65 x66 x67 x68 x69 x70 x71 x72 x73 x74 x75 x76 x77 x78 x79 x80 x81 x82 x83 x84 x85 x86 x87 x88 x89 x90 x91 x92 x93 x94 x95 x96 x97 x98 x99 x100 x101 x102 x103 x104 x105 x106 x107 x108 x109 x110 x111 x112 x113 x114 x115 x116 x117 x118 x119 x120 x121 x122 x123 x124 x125 x126 x127 x128 x129 x130 x131 x132 x133 x134 x135 x136 x137 x138 x139 x140 x141 x142 x143 x144 x145 x146 x147 x148 x149 x150 x151 x152 x153 x154 x155 x156 x157 x158 x159 x160 x161 x162 x163 x164 x165 x166 x167 x168 x169 x170 x171 x172 x173 x174 x175 x176 x177 x178 x179 x180 x181 x182 x183 x184 x185 x186 x187 x188 x189 x190 x191 x192 x193 x194 x195 x196 x197 x198 x199 x200 x201 x202 x203 x204 x205 x206 x207 x208 x209 : Value) : Code.wp Tryz.prog (tl 6 (bodyOf Tryz.f5)) (bodyPost Tryz.prog Tryz.f5 (PostR w)) ⟨#[.slice a n c, x1, x2, x3, x4, x5, x6, x7, x8, x9, x10, x11, x12, x13, x14, x15, x16, x17, x18, x19, x20, x21, x22, x23, x24, x25, x26, x27, x28, x29, x30, x31, x32, x33, x34, x35, x36, x37, x38, x39, x40, x41, x42, x43, x44, x45, x46, x47, x48, x49, x50, x51, x52, x53, x54, x55, x56, x57, x58, x59, x60, x61, x62, x63, x64, x65, x66, x67, x68, x69, x70, x71, x72, x73, x74, x75, x76, x77, x78, x79, x80, x81, x82, x83, x84, x85, x86, x87, x88, x89, x90, x91, x92, x93, x94, x95, x96, x97, x98, x99, x100, x101, x102, x103, x104, x105, x106, x107, x108, x109, x110, x111, x112, x113, x114, x115, x116, x117, x118, x119, x120, x121, x122, x123, x124, x125, x126, x127, x128, x129, x130, x131, x132, x133, x134, x135, x136, x137, x138, x139, x140, x141, x142, x143, x144, x145, x146, x147, x148, x149, x150, x151, x152, x153, x154, x155, x156, x157, x158, x159, x160, x161, x162, x163, x164, x165, x166, x167, x168, x169, x170, x171, x172, x173, x174, x175, x176, x177, x178, x179, x180, x181, x182, x183, x184, x185, x186, x187, x188, x189, x190, x191, x192, x193, x194, x195, x196, x197, x198, x199, x200, x201, x202, x203, x204, x205, x206, x207, x208, x209], []⟩ wx := by
  refine wp_tl (d := .seq _ _) (by rfl) ?_
  refine wp_seq_h fun K HK => ?_
  go_wp2_with fail
  refine (delegation_get (HX.out.keep M.out (fun _ _ x => x)) HL.out).mono ?_
  rintro r w2 ⟨n1, u0, u2, l0, l2, e, rfl, hg, hm, ⟨e0, f0⟩, ⟨e2, f2⟩⟩
  obtain ⟨ad0, cp0, rfl, _⟩ := e0.form
  obtain ⟨ad2, cp2, rfl, _⟩ := e2.form
  have E0 := Lib.hid (e0.keep ((Mods.refl noB w2).alloc (.cells #[.slice ad0 l0.length cp0, .int .u64 n1, .slice ad2 l2.length cp2] 36)) (fun _ _ x => x))
  clear e0 f0
  have E2 := Lib.hid (e2.keep ((Mods.refl noB w2).alloc (.cells #[.slice ad0 l0.length cp0, .int .u64 n1, .slice ad2 l2.length cp2] 36)) (fun _ _ x => x))
  clear e2 f2
  have HG := Lib.hid hg
  replace M := Lib.hid ((M.out.then0 hm).alloc (.cells #[.slice ad0 l0.length cp0, .int .u64 n1, .slice ad2 l2.length cp2] 36))
  have d := cells_of (heap_new w2 (.cells #[.slice ad0 l0.length cp0, .int .u64 n1, .slice ad2 l2.length cp2] 36))
  clear hg hm
  rcases recGet_err HG.out with rfl | rfl
  · have ho := (recGet_ok (by decide) HG.out).1
    have hz := recGet_ls HG.out
    have HO := Lib.hid (show Lim [n1] from (limC (ho ⟨0, n1, []⟩ (List.mem_of_getElem? (i := 1) rfl)).n limN))
    have K0 := Lib.hid (show DN (w2.alloc (.cells #[.slice ad0 l0.length cp0, .int .u64 n1, .slice ad2 l2.length cp2] 36)) (.slice ad0 l0.length cp0) l0 from ⟨E0.out, (ho ⟨2, 0, l0⟩ (List.mem_of_getElem? (i := 0) rfl)).ls, Nat.le_trans (hz ⟨2, 0, l0⟩ (List.mem_of_getElem? (i := 0) rfl)) (Nat.le_of_ble_eq_true rfl)⟩)
    have K2 := Lib.hid (show DN (w2.alloc (.cells #[.slice ad0 l0.length cp0, .int .u64 n1, .slice ad2 l2.length cp2] 36)) (.slice ad2 l2.length cp2) l2 from ⟨E2.out, (ho ⟨2, 0, l2⟩ (List.mem_of_getElem? (i := 2) rfl)).ls, Nat.le_trans (hz ⟨2, 0, l2⟩ (List.mem_of_getElem? (i := 2) rfl)) (Nat.le_of_ble_eq_true rfl)⟩)
    clear ho hz
    go_wp2_with fail
    refine (delegation_put HO.out K0.out K2.out).mono ?_
    rintro r w4 ⟨v, rfl, o1, m1, f1⟩
    rw [recGet_one HG.out] at o1
    replace M := Lib.hid (M.out.then0 m1)
    have O := Lib.hid (And.intro o1.rd (HX.out.keep M.out (fun _ _ x => x)))
    clear o1 m1 f1 d HG K0 E0 K2 E2
    go_wp2_with fail
    refine (Bytes_true O.out.1 O.out.2).mono ?_
    rintro r w5 ⟨rfl, m3⟩
    replace M := Lib.hid (M.out.then0 m3)
    clear m3 O
    go_wp2
    refine HK.out _ _ ?_
    exact tail7 HX HN HL M _ _ _ _ _ _ _ _ _ _ _ _ _ _ _ _ _ _ _ _ _ _ _ _ _ _ _ _ _ _ _ _ _ _ _ _ _ _ _ _ _ _ _ _ _ _ _ _ _ _ _ _ _ _ _ _ _ _ _ _ _ _ _ _ _ _ _ _ _ _ _ _ _ _ _ _ _ _ _ _ _ _ _ _ _ _ _ _ _ _ _ _ _ _ _ _ _ _ _ _ _ _ _ _ _ _ _ _ _ _ _ _ _ _ _ _ _ _ _ _ _ _ _ _ _ _ _ _ _ _ _ _ _ _ _ _ _ _ _ _ _ _ _ _ _ _ _ _ _ _ _ _ _ _ _ _ _ _ _ _ _ _ _ _ _ _ _ _ _ _ _ _ _ _ _ _ _ _ _ _ _ _ _ _ _ _ _ _ _ _ _ _ _ _ _ _ _ _ _ _ _ _ _ _ _ _ _ _ _
  · clear d HG E0 E2
    go_wp2
    refine HK.out _ _ ?_
    exact tail7 HX HN HL M _ _ _ _ _ _ _ _ _ _ _ _ _ _ _ _ _ _ _ _ _ _ _ _ _ _ _ _ _ _ _ _ _ _ _ _ _ _ _ _ _ _ _ _ _ _ _ _ _ _ _ _ _ _ _ _ _ _ _ _ _ _ _ _ _ _ _ _ _ _ _ _ _ _ _ _ _ _ _ _ _ _ _ _ _ _ _ _ _ _ _ _ _ _ _ _ _ _ _ _ _ _ _ _ _ _ _ _ _ _ _ _ _ _ _ _ _ _ _ _ _ _ _ _ _ _ _ _ _ _ _ _ _ _ _ _ _ _ _ _ _ _ _ _ _ _ _ _ _ _ _ _ _ _ _ _ _ _ _ _ _ _ _ _ _ _ _ _ _ _ _ _ _ _ _ _ _ _ _ _ _ _ _ _ _ _ _ _ _ _ _ _ _ _ _ _ _ _ _ _ _ _ _ _ _ _ _ _ _

set_option maxHeartbeats 4000000 in
theorem tail5 {w wx : World} {a : Option Addr} {n c : Nat} {b : List UInt8} (HX : Hid (Rd w (.slice a n c) b)) (HN : Hid (b.length = n)) (HL : Hid (b.length ≤ 1000000)) (M : Hid (Mods noB w wx)) (x1 x2 x3 x4 x5 x6 x7 x8 x9 x10 x11 x12 x13 x14 x15 x16 x17 x18 x19 x20 x21 x22 x23 x24 x25 x26 x27 x28 x29 x30 x31 x32 x33 x34 x35 x36 x37 x38 x39 x40 x41 x42 x43 x44 x45 x46 x47 x48 x49 x50 x51 x52 x53 x54 x55 x56 x57 x58 x59 x60 x61 x62 x63 x64 x65 x66 x67 x68 x69 x70 x71 x72 x73 x74 x75 x76 x77 x78 x79 x80 x81 x82 x83 x84 x85 x86 x87 x88 x89 x90 x91 x92 x93 x94 x95 x96 x97 x98 x99 x100 x101 x102 x103 x104 x105 x106 x107 x108 x109 x110 x111 x112 x113 x114 x115 x116 x117 x118 x119 x120 x121 x122 x123 x124 x125 x126 x127 x128 x129 x130 x131 x132 x133 x134 x135 x136 x137 x138 x139 x140 x141 x142 x143 x144 x145 x146 x147 x148 x149 x150 x151 x152 x153 x154 x155 x156 x157 x158 x159 x160 x161 x162 x163 x164 x165 x166 x167 x168 x169 x170 x171 x172 x173 x174 x175 x176 x177 x178 x179 x180 x181 x182 x183 x184 x185 x186 x187 x188 x189 x190 x191 x192 x193 x194 x195 x196 x197 x198 x199 x200 x201 x202 x203 x204 x205 x206 x207 x208 x209 : Value) : Code.wp Tryz.prog (tl 5 (bodyOf Tryz.f5)) (bodyPost Tryz.prog Tryz.f5 (PostR w)) ⟨#[.slice a n c, x1, x2, x3, x4, x5, x6, x7, x8, x9, x10, x11, x12, x13, x14, x15, x16, x17, x18, x19, x20, x21, x22, x23, x24, x25, x26, x27, x28, x29, x30, x31, x32, x33, x34, x35, x36, x37, x38, x39, x40, x41, x42, x43, x44, x45, x46, x47, x48, x49, x50, x51, x52, x53, x54, x55, x56, x57, x58, x59, x60, x61, x62, x63, x64, x65, x66, x67, x68, x69, x70, x71, x72, x73, x74, x75, x76, x77, x78, x79, x80, x81, x82, x83, x84, x85, x86, x87, x88, x89, x90, x91, x92, x93, x94, x95, x96, x97, x98, x99, x100, x101, x102, x103, x104, x105, x106, x107, x108, x109, x110, x111, x112, x113, x114, x115, x116, x117, x118, x119, x120, x121, x122, x123, x124, x125, x126, x127, x128, x129, x130, x131, x132, x133, x134, x135, x136, x137, x138, x139, x140, x141, x142, x143, x144, x145, x146, x147, x148, x149, x150, x151, x152, x153, x154, x155, x156, x157, x158, x159, x160, x161, x162, x163, x164, x165, x166, x167, x168, x169, x170, x171, x172, x173, x174, x175, x176, x177, x178, x179, x180, x181, x182, x183, x184, x185, x186, x187, x188, x189, x190, x191, x192, x193, x194, x195, x196, x197, x198, x199, x200, x201, x202, x203, x204, x205, x206, x207, x208, x209], []⟩ wx := by
  refine wp_tl (d := .seq _ _) (by rfl) ?_
  refine wp_seq_h fun K HK => ?_
  go_wp2_with fail
  refine (val_get (HX.out.keep M.out (fun _ _ x => x)) HL.out).mono ?_
  rintro r w2 ⟨n0, n1, n4, n6, b3, b5, u2, u7, u8, u9, l2, l7, l8, l9, e, rfl, hg, hm, ⟨e2, f2⟩, ⟨e7, f7⟩, ⟨e8, f8⟩, ⟨e9, f9⟩⟩
  obtain ⟨ad2, cp2, rfl, _⟩ := e2.form
  obtain ⟨ad7, cp7, rfl, _⟩ := e7.form
  obtain ⟨ad8, cp8, rfl, _⟩ := e8.form
  obtain ⟨ad9, cp9, rfl, _⟩ := e9.form
  have E2 := Lib.hid (e2.keep ((Mods.refl noB w2).alloc (.cells #[.int .u64 n0, .int .u64 n1, .slice ad2 l2.length cp2, .bool b3, .int .u64 n4, .bool b5, .int .u64 n6, .slice ad7 l7.length cp7, .slice ad8 l8.length cp8, .slice ad9 l9.length cp9] 34)) (fun _ _ x => x))
  clear e2 f2
  have E7 := Lib.hid (e7.keep ((Mods.refl noB w2).alloc (.cells #[.int .u64 n0, .int .u64 n1, .slice ad2 l2.length cp2, .bool b3, .int .u64 n4, .bool b5, .int .u64 n6, .slice ad7 l7.length cp7, .slice ad8 l8.length cp8, .slice ad9 l9.length cp9] 34)) (fun _ _ x => x))
  clear e7 f7
  have E8 := Lib.hid (e8.keep ((Mods.refl noB w2).alloc (.cells #[.int .u64 n0, .int .u64 n1, .slice ad2 l2.length cp2, .bool b3, .int .u64 n4, .bool b5, .int .u64 n6, .slice ad7 l7.length cp7, .slice ad8 l8.length cp8, .slice ad9 l9.length cp9] 34)) (fun _ _ x => x))
  clear e8 f8
  have E9 := Lib.hid (e9.keep ((Mods.refl noB w2).alloc (.cells #[.int .u64 n0, .int .u64 n1, .slice ad2 l2.length cp2, .bool b3, .int .u64 n4, .bool b5, .int .u64 n6, .slice ad7 l7.length cp7, .slice ad8 l8.length cp8, .slice ad9 l9.length cp9] 34)) (fun _ _ x => x))
  clear e9 f9
  have HG := Lib.hid hg
  replace M := Lib.hid ((M.out.then0 hm).alloc (.cells #[.int .u64 n0, .int .u64 n1, .slice ad2 l2.length cp2, .bool b3, .int .u64 n4, .bool b5, .int .u64 n6, .slice ad7 l7.length cp7, .slice ad8 l8.length cp8, .slice ad9 l9.length cp9] 34))
  have d := cells_of (heap_new w2 (.cells #[.int .u64 n0, .int .u64 n1, .slice ad2 l2.length cp2, .bool b3, .int .u64 n4, .bool b5, .int .u64 n6, .slice ad7 l7.length cp7, .slice ad8 l8.length cp8, .slice ad9 l9.length cp9] 34))
  clear hg hm
  rcases recGet_err HG.out with rfl | rfl
  · have ho := (recGet_ok (by decide) HG.out).1
    have hz := recGet_ls HG.out
    have HO := Lib.hid (show Lim [n0, n1, n4, n6] from (limC (ho ⟨0, n0, []⟩ (List.mem_of_getElem? (i := 0) rfl)).n (limC (ho ⟨0, n1, []⟩ (List.mem_of_getElem? (i := 1) rfl)).n (limC (ho ⟨0, n4, []⟩ (List.mem_of_getElem? (i := 4) rfl)).n (limC (ho ⟨0, n6, []⟩ (List.mem_of_getElem? (i := 6) rfl)).n limN)))))
    have K2 := Lib.hid (show DN (w2.alloc (.cells #[.int .u64 n0, .int .u64 n1, .slice ad2 l2.length cp2, .bool b3, .int .u64 n4, .bool b5, .int .u64 n6, .slice ad7 l7.length cp7, .slice ad8 l8.length cp8, .slice ad9 l9.length cp9] 34)) (.slice ad2 l2.length cp2) l2 from ⟨E2.out, (ho ⟨2, 0, l2⟩ (List.mem_of_getElem? (i := 2) rfl)).ls, Nat.le_trans (hz ⟨2, 0, l2⟩ (List.mem_of_getElem? (i := 2) rfl)) (Nat.le_of_ble_eq_true rfl)⟩)
    have K7 := Lib.hid (show DN (w2.alloc (.cells #[.int .u64 n0, .int .u64 n1, .slice ad2 l2.length cp2, .bool b3, .int .u64 n4, .bool b5, .int .u64 n6, .slice ad7 l7.length cp7, .slice ad8 l8.length cp8, .slice ad9 l9.length cp9] 34)) (.slice ad7 l7.length cp7) l7 from ⟨E7.out, (ho ⟨2, 0, l7⟩ (List.mem_of_getElem? (i := 7) rfl)).ls, Nat.le_trans (hz ⟨2, 0, l7⟩ (List.mem_of_getElem? (i := 7) rfl)) (Nat.le_of_ble_eq_true rfl)⟩)
    have K8 := Lib.hid (show DN (w2.alloc (.cells #[.int .u64 n0, .int .u64 n1, .slice ad2 l2.length cp2, .bool b3, .int .u64 n4, .bool b5, .int .u64 n6, .slice ad7 l7.length cp7, .slice ad8 l8.length cp8, .slice ad9 l9.length cp9] 34)) (.slice ad8 l8.length cp8) l8 from ⟨E8.out, (ho ⟨2, 0, l8⟩ (List.mem_of_getElem? (i := 8) rfl)).ls, Nat.le_trans (hz ⟨2, 0, l8⟩ (List.mem_of_getElem? (i := 8) rfl)) (Nat.le_of_ble_eq_true rfl)⟩)
    have K9 := Lib.hid (show DN (w2.alloc (.cells #[.int .u64 n0, .int .u64 n1, .slice ad2 l2.length cp2, .bool b3, .int .u64 n4, .bool b5, .int .u64 n6, .slice ad7 l7.length cp7, .slice ad8 l8.length cp8, .slice ad9 l9.length cp9] 34)) (.slice ad9 l9.length cp9) l9 from ⟨E9.out, (ho ⟨2, 0, l9⟩ (List.mem_of_getElem? (i := 9) rfl)).ls, Nat.le_trans (hz ⟨2, 0, l9⟩ (List.mem_of_getElem? (i := 9) rfl)) (Nat.le_of_ble_eq_true rfl)⟩)
    clear ho hz
    go_wp2_with fail
    refine (val_put HO.out K2.out K7.out K8.out K9.out).mono ?_
    rintro r w4 ⟨v, rfl, o1, m1, f1⟩
    rw [recGet_one HG.out] at o1
    replace M := Lib.hid (M.out.then0 m1)
    have O := Lib.hid (And.intro o1.rd (HX.out.keep M.out (fun _ _ x => x)))
    clear o1 m1 f1 d HG K2 E2 K7 E7 K8 E8 K9 E9
    go_wp2_with fail
    refine (Bytes_true O.out.1 O.out.2).mono ?_
    rintro r w5 ⟨rfl, m3⟩
    replace M := Lib.hid (M.out.then0 m3)
    clear m3 O
    go_wp2
    refine HK.out _ _ ?_
    exact tail6 HX HN HL M _ _ _ _ _ _ _ _ _ _ _ _ _ _ _ _ _ _ _ _ _ _ _ _ _ _ _ _ _ _ _ _ _ _ _ _ _ _ _ _ _ _ _ _ _ _ _ _ _ _ _ _ _ _ _ _ _ _ _ _ _ _ _ _ _ _ _ _ _ _ _ _ _ _ _ _ _ _ _ _ _ _ _ _ _ _ _ _ _ _ _ _ _ _ _ _ _ _ _ _ _ _ _ _ _ _ _ _ _ _ _ _ _ _ _ _ _ _ _ _ _ _ _ _ _ _ _ _ _ _ _ _ _ _ _ _ _ _ _ _ _ _ _ _ _ _ _ _ _ _ _ _ _ _ _ _ _ _ _ _ _ _ _ _ _ _ _ _ _ _ _ _ _ _ _ _ _ _ _ _ _ _ _ _ _ _ _ _ _ _ _ _ _ _ _ _ _ _ _ _ _ _ _ _ _ _ _ _ _
  · clear d HG E2 E7 E8 E9
    go_wp2
    refine HK.out _ _ ?_
    exact tail6 HX HN HL M _ _ _ _ _ _ _ _ _ _ _ _ _ _ _ _ _ _ _ _ _ _ _ _ _ _ _ _ _ _ _ _ _ _ _ _ _ _ _ _ _ _ _ _ _ _ _ _ _ _ _ _ _ _ _ _ _ _ _ _ _ _ _ _ _ _ _ _ _ _ _ _ _ _ _ _ _ _ _ _ _ _ _ _ _ _ _ _ _ _ _ _ _ _ _ _ _ _ _ _ _ _ _ _ _ _ _ _ _ _ _ _ _ _ _ _ _ _ _ _ _ _ _ _ _ _ _ _ _ _ _ _ _ _ _ _ _ _ _ _ _ _ _ _ _ _ _ _ _ _ _ _ _ _ _ _ _ _ _ _ _ _ _ _ _ _ _ _ _ _ _ _ _ _ _ _ _ _ _ _ _ _ _ _ _ _ _ _ _ _ _ _ _ _ _ _ _ _ _ _ _ _ _ _ _ _ _ _ _

set_option maxHeartbeats 4000000 in
theorem tail4 {w wx : World} {a : Option Addr} {n c : Nat} {b : List UInt8} (HX : Hid (Rd w (.slice a n c) b)) (HN : Hid (b.length = n)) (HL : Hid (b.length ≤ 1000000)) (M : Hid (Mods noB w wx)) (x1 x2 x3 x4 x5 x6 x7 x8 x9 x10 x11 x12 x13 x14 x15 x16 x17 x18 x19 x20 x21 x22 x23 x24 x25 x26 x27 x28 x29 x30 x31 x32 x33 x34 x35 x36 x37 x38 x39 x40 x41 x42 x43 x44 x45 x46 x47 x48 x49 x50 x51 x52 x53 x54 x55 x56 x57 x58 x59 x60 x61 x62 x63 x64 x65 x66 x67 x68 x69 x70 x71 x72 x73 x74 x75 x76 x77 x78 x79 x80 x81 x82 x83 x84 x85 x86 x87 x88 x89 x90 x91 x92 x93 x94 x95 x96 x97 x98 x99 x100 x101 x102 x103 x104 x105 x106 x107 x108 x109 x110 x111 x112 x113 x114 x115 x116 x117 x118 x119 x120 x121 x122 x123 x124 x125 x126 x127 x128 x129 x130 x131 x132 x133 x134 x135 x136 x137 x138 x139 x140 x141 x142 x143 x144 x145 x146 x147 x148 x149 x150 x151 x152 x153 x154 x155 x156 x157 x158 x159 x160 x161 x162 x163 x164 x165 x166 x167 x168 x169 x170 x171 x172 x173 x174 x175 x176 x177 x178 x179 x180 x181 x182 x183 x184 x185 x186 x187 x188 x189 x190 x191 x192 x193 x194 x195 x196 x197 x198 x199 x200 x201 x202 x203 x204 x205 x206 x207 x208 x209 : Value) : Code.wp Tryz.prog (tl 4 (bodyOf Tryz.f5)) (bodyPost Tryz.prog Tryz.f5 (PostR w)) ⟨#[.slice a n c, x1, x2, x3, x4, x5, x6, x7, x8, x9, x10, x11, x12, x13, x14, x15, x16, x17, x18, x19, x20, x21, x22, x23, x24, x25, x26, x27, x28, x29, x30, x31, x32, x33, x34, x35, x36, x37, x38, x39, x40, x41, x42, x43, x44, x45, x46, x47, x48, x49, x50, x51, x52, x53, x54, x55, x56, x57, x58, x59, x60, x61, x62, x63, x64, x65, x66, x67, x68, x69, x70, x71, x72, x73, x74, x75, x76, x77, x78, x79, x80, x81, x82, x83, x84, x85, x86, x87, x88, x89, x90, x91, x92, x93, x94, x95, x96, x97, x98, x99, x100, x101, x102, x103, x104, x105, x106, x107, x108, x109, x110, x111, x112, x113, x114, x115, x116, x117, x118, x119, x120, x121, x122, x123, x124, x125, x126, x127, x128, x129, x130, x131, x132, x133, x134, x135, x136, x137, x138, x139, x140, x141, x142, x143, x144, x145, x146, x147, x148, x149, x150, x151, x152, x153, x154, x155, x156, x157, x158, x159, x160, x161, x162, x163, x164, x165, x166, x167, x168, x169, x170, x171, x172, x173, x174, x175, x176, x177, x178, x179, x180, x181, x182, x183, x184, x185, x186, x187, x188, x189, x190, x191, x192, x193, x194, x195, x196, x197, x198, x199, x200, x201, x202, x203, x204, x205, x206, x207, x208, x209], []⟩ wx := by
  refine wp_tl (d := .seq _ _) (by rfl) ?_
  refine wp_seq_h fun K HK => ?_
  go_wp2_with fail
  refine (pool_get (HX.out.keep M.out (fun _ _ x => x)) HL.out).mono ?_
  rintro r w2 ⟨u0, l0, e, rfl, hg, hm, ⟨e0, f0⟩⟩
  obtain ⟨ad0, cp0, rfl, _⟩ := e0.form
  have E0 := Lib.hid (e0.keep ((Mods.refl noB w2).alloc (.cells #[.slice ad0 l0.length cp0] 30)) (fun _ _ x => x))
  clear e0 f0
  have HG := Lib.hid hg
  replace M := Lib.hid ((M.out.then0 hm).alloc (.cells #[.slice ad0 l0.length cp0] 30))
  have d := cells_of (heap_new w2 (.cells #[.slice ad0 l0.length cp0] 30))
  clear hg hm
  rcases recGet_err HG.out with rfl | rfl
  · have ho := (recGet_ok (by decide) HG.out).1
    have hz := recGet_ls HG.out
    have K0 := Lib.hid (show DN (w2.alloc (.cells #[.slice ad0 l0.length cp0] 30)) (.slice ad0 l0.length cp0) l0 from ⟨E0.out, (ho ⟨2, 0, l0⟩ (List.mem_of_getElem? (i := 0) rfl)).ls, Nat.le_trans (hz ⟨2, 0, l0⟩ (List.mem_of_getElem? (i := 0) rfl)) (Nat.le_of_ble_eq_true rfl)⟩)
    clear ho hz
    go_wp2_with fail
    refine (pool_put K0.out).mono ?_
    rintro r w4 ⟨v, rfl, o1, m1, f1⟩
    rw [recGet_one HG.out] at o1
    replace M := Lib.hid (M.out.then0 m1)
    have O := Lib.hid (And.intro o1.rd (HX.out.keep M.out (fun _ _ x => x)))
    clear o1 m1 f1 d HG K0 E0
    go_wp2_with fail
    refine (Bytes_true O.out.1 O.out.2).mono ?_
    rintro r w5 ⟨rfl, m3⟩
    replace M := Lib.hid (M.out.then0 m3)
    clear m3 O
    go_wp2
    refine HK.out _ _ ?_
    exact tail5 HX HN HL M _ _ _ _ _ _ _ _ _ _ _ _ _ _ _ _ _ _ _ _ _ _ _ _ _ _ _ _ _ _ _ _ _ _ _ _ _ _ _ _ _ _ _ _ _ _ _ _ _ _ _ _ _ _ _ _ _ _ _ _ _ _ _ _ _ _ _ _ _ _ _ _ _ _ _ _ _ _ _ _ _ _ _ _ _ _ _ _ _ _ _ _ _ _ _ _ _ _ _ _ _ _ _ _ _ _ _ _ _ _ _ _ _ _ _ _ _ _ _ _ _ _ _ _ _ _ _ _ _ _ _ _ _ _ _ _ _ _ _ _ _ _ _ _ _ _ _ _ _ _ _ _ _ _ _ _ _ _ _ _ _ _ _ _ _ _ _ _ _ _ _ _ _ _ _ _ _ _ _ _ _ _ _ _ _ _ _ _ _ _ _ _ _ _ _ _ _ _ _ _ _ _ _ _ _ _ _ _ _
  · clear d HG E0
    go_wp2
    refine HK.out _ _ ?_
    exact tail5 HX HN HL M _ _ _ _ _ _ _ _ _ _ _ _ _ _ _ _ _ _ _ _ _ _ _ _ _ _ _ _ _ _ _ _ _ _ _ _ _ _ _ _ _ _ _ _ _ _ _ _ _ _ _ _ _ _ _ _ _ _ _ _ _ _ _ _ _ _ _ _ _ _ _ _ _ _ _ _ _ _ _ _ _ _ _ _ _ _ _ _ _ _ _ _ _ _ _ _ _ _ _ _ _ _ _ _ _ _ _ _ _ _ _ _ _ _ _ _ _ _ _ _ _ _ _ _ _ _ _ _ _ _ _ _ _ _ _ _ _ _ _ _ _ _ _ _ _ _ _ _ _ _ _ _ _ _ _ _ _ _ _ _ _ _ _ _ _ _ _ _ _ _ _ _ _ _ _ _ _ _ _ _ _ _ _ _ _ _ _ _ _ _ _ _ _ _ _ _ _ _ _ _ _ _ _ _ _ _ _ _ _

set_option maxHeartbeats 4000000 in
theorem tail3 {w wx : World} {a : Option Addr} {n c : Nat} {b : List UInt8} (HX : Hid (Rd w (.slice a n c) b)) (HN : Hid (b.length = n)) (HL : Hid (b.length ≤ 1000000)) (M : Hid (Mods noB w wx)) (x1 x2 x3 x4 x5 x6 x7 x8 x9 x10 x11 x12 x13 x14 x15 x16 x17 x18 x19 x20 x21 x22 x23 x24 x25 x26 x27 x28 x29 x30 x31 x32 x33 x34 x35 x36 x37 x38 x39 x40 x41 x42 x43 x44 x45 x46 x47 x48 x49 x50 x51 x52 x53 x54 x55 x56 x57 x58 x59 x60 x61 x62 x63 x64 x65 x66 x67 x68 x69 x70 x71 x72 x73 x74 x75 x76 x77 x78 x79 x80 x81 x82 x83 x84 x85 x86 x87 x88 x89 x90 x91 x92 x93 x94 x95 x96 x97 x98 x99 x100 x101 x102 x103 x104 x105 x106 x107 x108 x109 x110 x111 x112 x113 x114 x115 x116 x117 x118 x119 x120 x121 x122 x123 x124 x125 x126 x127 x128 x129 x130 x131 x132 x133 x134 x135 x136 x137 x138 x139 x140 x141 x142 x143 x144 x145 x146 x147 x148 x149 x150 x151 x152 x153 x154 x155 x156 x157 x158 x159 x160 x161 x162 x163 x164 x165 x166 x167 x168 x169 x170 x171 x172 x173 x174 x175 x176 x177 x178 x179 x180 x181 x182 x183 x184 x185 x186 x187 x188 x189 x190 x191 x192 x193 x194 x195 x196 x197 x198 x199 x200 x201 x202 x203 x204 x205 x206 x207 x208 x209 : Value) : Code.wp Tryz.prog (tl 3 (bodyOf Tryz.f5)) (bodyPost Tryz.prog Tryz.f5 (PostR w)) ⟨#[.slice a n c, x1, x2, x3, x4, x5, x6, x7, x8, x9, x10, x11, x12, x13, x14, x15, x16, x17, x18, x19, x20, x21, x22, x23, x24, x25, x26, x27, x28, x29, x30, x31, x32, x33, x34, x35, x36, x37, x38, x39, x40, x41, x42, x43, x44, x45, x46, x47, x48, x49, x50, x51, x52, x53, x54, x55, x56, x57, x58, x59, x60, x61, x62, x63, x64, x65, x66, x67, x68, x69, x70, x71, x72, x73, x74, x75, x76, x77, x78, x79, x80, x81, x82, x83, x84, x85, x86, x87, x88, x89, x90, x91, x92, x93, x94, x95, x96, x97, x98, x99, x100, x101, x102, x103, x104, x105, x106, x107, x108, x109, x110, x111, x112, x113, x114, x115, x116, x117, x118, x119, x120, x121, x122, x123, x124, x125, x126, x127, x128, x129, x130, x131, x132, x133, x134, x135, x136, x137, x138, x139, x140, x141, x142, x143, x144, x145, x146, x147, x148, x149, x150, x151, x152, x153, x154, x155, x156, x157, x158, x159, x160, x161, x162, x163, x164, x165, x166, x167, x168, x169, x170, x171, x172, x173, x174, x175, x176, x177, x178, x179, x180, x181, x182, x183, x184, x185, x186, x187, x188, x189, x190, x191, x192, x193, x194, x195, x196, x197, x198, x199, x200, x201, x202, x203, x204, x205, x206, x207, x208, x209], []⟩ wx := by
  refine wp_tl (d := .seq _ _) (by rfl) ?_
  refine wp_seq_h fun K HK => ?_
  go_wp2_with fail
  refine (params_get (HX.out.keep M.out (fun _ _ x => x)) HL.out).mono ?_
  rintro r w2 ⟨n0, n1, n2, n3, n4, n5, n6, n7, n8, n9, e, rfl, hg, hm⟩
  have HG := Lib.hid hg
  replace M := Lib.hid ((M.out.then0 hm).alloc (.cells #[.int .u64 n0, .int .u64 n1, .int .u64 n2, .int .u64 n3, .int .u64 n4, .int .u64 n5, .int .u64 n6, .int .u64 n7, .int .u64 n8, .int .u64 n9] 24))
  have d := cells_of (heap_new w2 (.cells #[.int .u64 n0, .int .u64 n1, .int .u64 n2, .int .u64 n3, .int .u64 n4, .int .u64 n5, .int .u64 n6, .int .u64 n7, .int .u64 n8, .int .u64 n9] 24))
  clear hg hm
  rcases recGet_err HG.out with rfl | rfl
  · have ho := (recGet_ok (by decide) HG.out).1
    have HO := Lib.hid (show Lim [n0, n1, n2, n3, n4, n5, n6, n7, n8, n9] from (limC (ho ⟨0, n0, []⟩ (List.mem_of_getElem? (i := 0) rfl)).n (limC (ho ⟨0, n1, []⟩ (List.mem_of_getElem? (i := 1) rfl)).n (limC (ho ⟨0, n2, []⟩ (List.mem_of_getElem? (i := 2) rfl)).n (limC (ho ⟨0, n3, []⟩ (List.mem_of_getElem? (i := 3) rfl)).n (limC (ho ⟨0, n4, []⟩ (List.mem_of_getElem? (i := 4) rfl)).n (limC (ho ⟨0, n5, []⟩ (List.mem_of_getElem? (i := 5) rfl)).n (limC (ho ⟨0, n6, []⟩ (List.mem_of_getElem? (i := 6) rfl)).n (limC (ho ⟨0, n7, []⟩ (List.mem_of_getElem? (i := 7) rfl)).n (limC (ho ⟨0, n8, []⟩ (List.mem_of_getElem? (i := 8) rfl)).n (limC (ho ⟨0, n9, []⟩ (List.mem_of_getElem? (i := 9) rfl)).n limN)))))))))))
    clear ho
    go_wp2_with fail
    refine (params_put HO.out).mono ?_
    rintro r w4 ⟨v, rfl, o1, m1, f1⟩
    rw [recGet_one HG.out] at o1
    replace M := Lib.hid (M.out.then0 m1)
    have O := Lib.hid (And.intro o1.rd (HX.out.keep M.out (fun _ _ x => x)))
    clear o1 m1 f1 d HG
    go_wp2_with fail
    refine (Bytes_true O.out.1 O.out.2).mono ?_
    rintro r w5 ⟨rfl, m3⟩
    replace M := Lib.hid (M.out.then0 m3)
    clear m3 O
    go_wp2
    refine HK.out _ _ ?_
    exact tail4 HX HN HL M _ _ _ _ _ _ _ _ _ _ _ _ _ _ _ _ _ _ _ _ _ _ _ _ _ _ _ _ _ _ _ _ _ _ _ _ _ _ _ _ _ _ _ _ _ _ _ _ _ _ _ _ _ _ _ _ _ _ _ _ _ _ _ _ _ _ _ _ _ _ _ _ _ _ _ _ _ _ _ _ _ _ _ _ _ _ _ _ _ _ _ _ _ _ _ _ _ _ _ _ _ _ _ _ _ _ _ _ _ _ _ _ _ _ _ _ _ _ _ _ _ _ _ _ _ _ _ _ _ _ _ _ _ _ _ _ _ _ _ _ _ _ _ _ _ _ _ _ _ _ _ _ _ _ _ _ _ _ _ _ _ _ _ _ _ _ _ _ _ _ _ _ _ _ _ _ _ _ _ _ _ _ _ _ _ _ _ _ _ _ _ _ _ _ _ _ _ _ _ _ _ _ _ _ _ _ _ _ _
  · clear d HG
    go_wp2
    refine HK.out _ _ ?_
    exact tail4 HX HN HL M _ _ _ _ _ _ _ _ _ _ _ _ _ _ _ _ _ _ _ _ _ _ _ _ _ _ _ _ _ _ _ _ _ _ _ _ _ _ _ _ _ _ _ _ _ _ _ _ _ _ _ _ _ _ _ _ _ _ _ _ _ _ _ _ _ _ _ _ _ _ _ _ _ _ _ _ _ _ _ _ _ _ _ _ _ _ _ _ _ _ _ _ _ _ _ _ _ _ _ _ _ _ _ _ _ _ _ _ _ _ _ _ _ _ _ _ _ _ _ _ _ _ _ _ _ _ _ _ _ _ _ _ _ _ _ _ _ _ _ _ _ _ _ _ _ _ _ _ _ _ _ _ _ _ _ _ _ _ _ _ _ _ _ _ _ _ _ _ _ _ _ _ _ _ _ _ _ _ _ _ _ _ _ _ _ _ _ _ _ _ _ _ _ _ _ _ _ _ _ _ _ _ _ _ _ _ _ _ _

set_option maxHeartbeats 4000000 in
theorem walk (x : Value) (b : List UInt8) (w : World) (hx : Rd w x b) :
    Calls Tryz.prog 5 #[x] w fun e w' => e = .returned (.bool true) ∧ Below w.heap.size w w' := by
  obtain ⟨a, c, rfl, hlm⟩ := hx.form
  obtain ⟨n, hn⟩ : ∃ n, b.length = n := ⟨_, rfl⟩
  rw [hn] at hx ⊢
  have HX := Lib.hid hx
  have HN := Lib.hid hn
  clear hx hn hlm
  go_enter Tryz.func5, Tryz.ntmps5
  refine wp_seq_h fun K HK => ?_
  go_wp2
  refine HK.out _ _ ?_
  clear K HK
  refine wp_seq_h fun K HK => ?_
  go_wp2_with fail
  refine (rknown_any _).mono ?_
  rintro e w1 ⟨rfl, m1⟩
  have M := Lib.hid m1
  clear m1
  go_wp2
  refine HK.out _ _ ?_
  clear K HK
  refine wp_seq_h fun K HK => ?_
  by_cases hbig : 3000 < n
  · go_wp2_with fail
    go_ret
    exact ⟨rfl, M.out.below⟩
  have HL := Lib.hid (show b.length ≤ 1000000 from by rw [HN.out]; omega)
  go_wp2
  refine HK.out _ _ ?_
  exact tail3 HX HN HL M _ _ _ _ _ _ _ _ _ _ _ _ _ _ _ _ _ _ _ _ _ _ _ _ _ _ _ _ _ _ _ _ _ _ _ _ _ _ _ _ _ _ _ _ _ _ _ _ _ _ _ _ _ _ _ _ _ _ _ _ _ _ _ _ _ _ _ _ _ _ _ _ _ _ _ _ _ _ _ _ _ _ _ _ _ _ _ _ _ _ _ _ _ _ _ _ _ _ _ _ _ _ _ _ _ _ _ _ _ _ _ _ _ _ _ _ _ _ _ _ _ _ _ _ _ _ _ _ _ _ _ _ _ _ _ _ _ _ _ _ _ _ _ _ _ _ _ _ _ _ _ _ _ _ _ _ _ _ _ _ _ _ _ _ _ _ _ _ _ _ _ _ _ _ _ _ _ _ _ _ _ _ _ _ _ _ _ _ _ _ _ _ _ _ _ _ _ _ _ _ _ _ _ _ _ _ _ _ _

theorem lifted (os : Os) (started : os.Started) (H : Type) (enc : TypeId × Value → H) :
    ReturnsInHanded {} Tryz.checked os 5 .any (Rows.recOneSpec.pre6 enc Tryz.prog Tryz.f5 Rows.recOneRow.domain false) (Rows.recOneSpec.post enc Tryz.prog Tryz.f5 false true false false) := by
  refine returnsInHanded_of_change_sized (C := Tryz.checked) own started (by kernel_rfl) Tryz.func5
    (ChangeSpec.witness6 (enc := enc) (C := Tryz.checked) false ⟨#[], #[.slice none 0 0], []⟩ 8 (by kernel_rfl) (by kernel_rfl) (by kernel_rfl) (by kernel_rfl)) ?_
  intro W base args ds gs before hval0 hW hcnd hsz _
  have hval : ∀ (j : Nat) t v, Tryz.f5.params[j]? = some t → args[j]? = some v → Value.okWide Tryz.prog W .any base t v := hval0
  have hW' := hW
  obtain ⟨p, q, hA0, hV, rfl, hfz, hnd⟩ := hW
  have hA : DataW.TrodAll enc Tryz.prog W 0 (fun _ => true) true Tryz.f5.params.toList args.toList ds p := hA0
  replace hsz : (DataW.weightsEach Tryz.prog (Tryz.f5.params.toList ++ Rows.recOneSpec.plain.varTypes Tryz.prog) (ds ++ gs)).all (· ≤ reachBytes) = true := hsz
  rw [Tryz.params5] at hA hval hsz
  obtain ⟨v0, vs0, d0, ds0, p0, q0, hargs, rfl, rfl, h0, r0⟩ := trodAll_cons hA
  obtain ⟨rfl, rfl, rfl⟩ := trodAll_nil r0
  obtain rfl : args = #[v0] := by cases args; simp_all
  obtain ⟨rfl, rfl⟩ := trodVars_none hV
  have sz : ∀ (j : Nat) t (d : DataW H), ([49] ++ Rows.recOneSpec.plain.varTypes Tryz.prog)[j]? = some t → ([d0] ++ ([] : List (DataW H)))[j]? = some d → ∀ q ∈ d.weights Tryz.prog t, q ≤ reachBytes := by
    intro j t d ht hd q hq
    have := List.all_eq_true.1 hsz q (DataW.weights_mem_each ht hd q hq)
    simpa using this
  obtain ⟨ad0, ln0, cp0, rfl⟩ := okWide_slice Tryz.underlying49 (hval 0 49 v0 rfl rfl)
  obtain ⟨x0, k0⟩ := rd_of_arg (hval 0 49 _ rfl rfl) h0
  have j0 := h0
  have lt0 : ∀ x ∈ p0, x.block < W.heap.size := by obtain ⟨m, hm⟩ := j0; exact DataW.trod_lt m _ _ _ hm
  clear hA0 hval0
  refine (walk _ x0 W k0).mono fun e W' ⟨he, bel⟩ => ?_
  subst he
  exact ⟨_, rfl, _, _, _, [], _, [], hW', trodAll_mk1 (shut_bool Tryz.underlying4 _), (trodAll_cons_mk (Below.trod laidOut (by kernel_rfl) (of_decide_eq_true (by kernel_rfl)) j0 bel lt0) trodAll_mk0), rfl, bel.frame _, fun h => by cases h⟩

theorem over : Rows.recOneRow.holds Tryz.pinned (OpenSpec.ofChange Rows.recOneSpec) :=
  OpenClaim.holds_of_wide 5 Tryz.f5 rfl rfl rfl rfl rfl rfl rfl ⟨rfl, rfl, rfl, rfl, rfl⟩ rfl rfl rfl rfl rfl (by kernel_rfl) Tryz.func5 (by kernel_rfl)
    (of_decide_eq_true (by kernel_rfl)) (by unfold Func.isWrapper; first | (rw [if_pos (by decide +kernel)]; kernel_rfl) | (rw [if_neg (by decide +kernel)]; exact ⟨rfl, rfl⟩))
    (fun os started H enc _ => lifted os started H enc)

theorem proved : Rows.RecOneSaid := over
#print axioms proved
end Go.Proofs.YtnkbbclcileleaaGreat.recOne

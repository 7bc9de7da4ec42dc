/- RecBack: every record comes back as it was laid: P8.3. No conditions. -/
import Derived.Test.YtnkbbclcileleaaGreatRqParams
import Derived.Test.YtnkbbclcileleaaGreatRqChain
import Derived.Test.YtnkbbclcileleaaGreatRqPool
import Derived.Test.YtnkbbclcileleaaGreatRqAccount
import Derived.Test.YtnkbbclcileleaaGreatRqVal
import Derived.Test.YtnkbbclcileleaaGreatRqDelegation
import Derived.Test.YtnkbbclcileleaaGreatRqHistory
import Derived.Test.YtnkbbclcileleaaGreatRqCut
import Derived.Test.YtnkbbclcileleaaGreatRqUnbonding
import Derived.Test.YtnkbbclcileleaaGreatRqMove
import Derived.Test.YtnkbbclcileleaaGreatRqNumber
import Derived.Test.YtnkbbclcileleaaGreatRKnw
import Derived.Test.YtnkbbclcileleaaGreatRLgt
import Derived.Test.YtnkbbclcileleaaGreatRHlp
import Derived.Test.YtnkbbclcileleaaGreatRecE
import Derived.Test.YtnkbbclcileleaaGreatOrd
import Derived.Test.YtnkbbclcileleaaGreatOrdT
namespace Go.Proofs.YtnkbbclcileleaaGreat.recBack
open Go.Gl Go.RowKit Go.ChangeShapes Go.WideShapes Go.ChangeAt
set_option linter.unusedVariables false
set_option linter.unusedSimpArgs false
set_option maxRecDepth 100000

theorem ifb {b c : Bool} (h : (if b then 1 else 0 : Nat) = if c then 1 else 0) : b = c := by cases b <;> cases c <;> simp at h ⊢
theorem allL {l : List Value} (h : l.all (·.oneCell') = true) : l.toArray.all (·.oneCell') = true := by rw [← h, ← Array.all_toList]
theorem consAll {u : Value} {l : List Value} (h : u.oneCell' = true) (k : l.all (·.oneCell') = true) : (u :: l).all (·.oneCell') = true := by rw [List.all_cons, h, k]; rfl
theorem rn_one {w : World} {u : Value} {l : List Nat} (h : RN w u l) : u.oneCell' = true := by
  obtain ⟨a, c, rfl, _⟩ := h.form
  rfl
theorem decT {l : List Nat} {w : World} {p q : Value} (hp : RN w p l) (hq : RN w q l) : Calls Tryz.prog 48 #[.agg #[p], .agg #[q]] w fun e w' => e = .returned (.bool true) ∧ Mods noB w w' := HDec_true hp hq

set_option maxHeartbeats 4000000 in
theorem bk5 {w wx : World} {g : Nat} (x : Recs) (hx : x.At w) (lx : lightB x = true) (M : Mods noB w wx) (hg : wx.heap[g]? = some (.cells x.cells 46 (0, 0)))  (x0 x2 x3 x4 x5 x6 x7 x8 x9 x10 x11 x12 x13 x14 x15 x16 x17 x18 x19 x20 x21 x22 x23 x24 x25 x26 x27 x28 x29 x30 x31 x32 x33 x34 x35 x36 x37 x38 x39 x40 x41 x42 x43 x44 x45 x46 x47 x48 x49 x50 x51 x52 x53 x54 x55 x56 x57 x58 x59 x60 x61 x62 x63 x64 x65 x66 x67 x68 x69 x70 x71 x72 x73 x74 x75 x76 x77 x78 x79 x80 x81 x82 x83 x84 x85 x86 x87 x88 x89 x90 x91 x92 x93 x94 x95 x96 x97 x98 x99 x100 x101 x102 x103 x104 x105 x106 x107 x108 x109 x110 x111 x112 x113 x114 x115 x116 x117 x118 x119 x120 x121 x122 x123 x124 x125 x126 x127 x128 x129 x130 x131 x132 x133 x134 x135 x136 x137 x138 x139 x140 x141 x142 x143 x144 x145 x146 x147 x148 x149 x150 x151 x152 x153 x154 x155 x156 x157 x158 x159 x160 x161 x162 x163 x164 x165 x166 x167 x168 x169 x170 x171 x172 x173 x174 x175 x176 x177 x178 x179 x180 x181 x182 x183 x184 x185 x186 x187 x188 x189 x190 x191 x192 x193 x194 x195 x196 x197 x198 x199 x200 x201 x202 x203 x204 x205 x206 x207 x208 x209 x210 x211 x212 x213 x214 x215 x216 x217 x218 x219 x220 x221 x222 x223 x224 x225 x226 x227 x228 x229 x230 x231 x232 : Value) {K : Act → World → Prop} {Q : Exit → Act → World → Prop}
    (hK : ∀ (y28 y29 y30 y31 y32 y33 y34 : Value) (kk : Nat)  (w' : World), Mods noB wx w' → w'.heap[kk]? = some (.cells #[.int .u64 x.nP0, .int .u64 x.nP1, .int .u64 x.nP2, .int .u64 x.nP3, .int .u64 x.nP4, .int .u64 x.nP5, .int .u64 x.nP6, .int .u64 x.nP7, .int .u64 x.nP8, .int .u64 x.nP9] 24 (0, 0)) → K ⟨#[x0, .pointer (some ⟨g, 0, none⟩), x2, .pointer (some ⟨kk, 0, none⟩), .int .i64 0, x5, x6, x7, x8, x9, x10, x11, x12, x13, x14, x15, x16, x17, x18, x19, x20, x21, x22, x23, x24, x25, x26, x27, y28, y29, y30, y31, y32, y33, y34, x35, x36, x37, x38, x39, x40, x41, x42, x43, x44, x45, x46, x47, x48, x49, x50, x51, x52, x53, x54, x55, x56, x57, x58, x59, x60, x61, x62, x63, x64, x65, x66, x67, x68, x69, x70, x71, x72, x73, x74, x75, x76, x77, x78, x79, x80, x81, x82, x83, x84, x85, x86, x87, x88, x89, x90, x91, x92, x93, x94, x95, x96, x97, x98, x99, x100, x101, x102, x103, x104, x105, x106, x107, x108, x109, x110, x111, x112, x113, x114, x115, x116, x117, x118, x119, x120, x121, x122, x123, x124, x125, x126, x127, x128, x129, x130, x131, x132, x133, x134, x135, x136, x137, x138, x139, x140, x141, x142, x143, x144, x145, x146, x147, x148, x149, x150, x151, x152, x153, x154, x155, x156, x157, x158, x159, x160, x161, x162, x163, x164, x165, x166, x167, x168, x169, x170, x171, x172, x173, x174, x175, x176, x177, x178, x179, x180, x181, x182, x183, x184, x185, x186, x187, x188, x189, x190, x191, x192, x193, x194, x195, x196, x197, x198, x199, x200, x201, x202, x203, x204, x205, x206, x207, x208, x209, x210, x211, x212, x213, x214, x215, x216, x217, x218, x219, x220, x221, x222, x223, x224, x225, x226, x227, x228, x229, x230, x231, x232], []⟩ w') : Code.wp Tryz.prog (.region 5 (opsC 5 Tryz.f6) false) (Exit.then K Q) ⟨#[x0, .pointer (some ⟨g, 0, none⟩), x2, x3, x4, x5, x6, x7, x8, x9, x10, x11, x12, x13, x14, x15, x16, x17, x18, x19, x20, x21, x22, x23, x24, x25, x26, x27, x28, x29, x30, x31, x32, x33, x34, x35, x36, x37, x38, x39, x40, x41, x42, x43, x44, x45, x46, x47, x48, x49, x50, x51, x52, x53, x54, x55, x56, x57, x58, x59, x60, x61, x62, x63, x64, x65, x66, x67, x68, x69, x70, x71, x72, x73, x74, x75, x76, x77, x78, x79, x80, x81, x82, x83, x84, x85, x86, x87, x88, x89, x90, x91, x92, x93, x94, x95, x96, x97, x98, x99, x100, x101, x102, x103, x104, x105, x106, x107, x108, x109, x110, x111, x112, x113, x114, x115, x116, x117, x118, x119, x120, x121, x122, x123, x124, x125, x126, x127, x128, x129, x130, x131, x132, x133, x134, x135, x136, x137, x138, x139, x140, x141, x142, x143, x144, x145, x146, x147, x148, x149, x150, x151, x152, x153, x154, x155, x156, x157, x158, x159, x160, x161, x162, x163, x164, x165, x166, x167, x168, x169, x170, x171, x172, x173, x174, x175, x176, x177, x178, x179, x180, x181, x182, x183, x184, x185, x186, x187, x188, x189, x190, x191, x192, x193, x194, x195, x196, x197, x198, x199, x200, x201, x202, x203, x204, x205, x206, x207, x208, x209, x210, x211, x212, x213, x214, x215, x216, x217, x218, x219, x220, x221, x222, x223, x224, x225, x226, x227, x228, x229, x230, x231, x232], []⟩ wx := by
  obtain ⟨nP0, nP1, nP2, nP3, nP4, nP5, nP6, nP7, nP8, nP9, nC0, nC1, uD0, lD0, nA0, nA1, nV0, nV1, uV2, lV2, bV3, nV4, bV5, nV6, uV7, lV7, uV8, lV8, uV9, lV9, uG0, lG0, nG1, uG2, lG2, uH0, lH0, nH1, nK0, nK1, nU0, nU1, nU2, nU3, nU4, nU5, nM0, nM1, nM2, nM3, nM4, nM5, uM6, lM6, nN0⟩ := x
  unfold Recs.cells at hg
  simp only at hg
  have hll := lx
  simp only [lightB, List.all_cons, List.all_nil, Bool.and_true, Bool.and_eq_true, decide_eq_true_eq] at hll
  have HP := Lib.hid (params_put (w := wx) (n0 := nP0) (n1 := nP1) (n2 := nP2) (n3 := nP3) (n4 := nP4) (n5 := nP5) (n6 := nP6) (n7 := nP7) (n8 := nP8) (n9 := nP9) (limC hx.nP0 (limC hx.nP1 (limC hx.nP2 (limC hx.nP3 (limC hx.nP4 (limC hx.nP5 (limC hx.nP6 (limC hx.nP7 (limC hx.nP8 (limC hx.nP9 limN)))))))))) )
  have hb := recGet_back [⟨0, nP0, []⟩, ⟨0, nP1, []⟩, ⟨0, nP2, []⟩, ⟨0, nP3, []⟩, ⟨0, nP4, []⟩, ⟨0, nP5, []⟩, ⟨0, nP6, []⟩, ⟨0, nP7, []⟩, ⟨0, nP8, []⟩, ⟨0, nP9, []⟩] (okC (okN hx.nP0) (okC (okN hx.nP1) (okC (okN hx.nP2) (okC (okN hx.nP3) (okC (okN hx.nP4) (okC (okN hx.nP5) (okC (okN hx.nP6) (okC (okN hx.nP7) (okC (okN hx.nP8) (okC (okN hx.nP9) okZ)))))))))) (ks := [0, 0, 0, 0, 0, 0, 0, 0, 0, 0]) rfl
  have hz : (recLay [⟨0, nP0, []⟩, ⟨0, nP1, []⟩, ⟨0, nP2, []⟩, ⟨0, nP3, []⟩, ⟨0, nP4, []⟩, ⟨0, nP5, []⟩, ⟨0, nP6, []⟩, ⟨0, nP7, []⟩, ⟨0, nP8, []⟩, ⟨0, nP9, []⟩]).length ≤ 1000000 := Nat.le_trans (recLay_len _) (Nat.le_of_ble_eq_true rfl)
  simp only [List.map_cons, List.map_nil, normN, normB, normD] at hb
  generalize recLay [⟨0, nP0, []⟩, ⟨0, nP1, []⟩, ⟨0, nP2, []⟩, ⟨0, nP3, []⟩, ⟨0, nP4, []⟩, ⟨0, nP5, []⟩, ⟨0, nP6, []⟩, ⟨0, nP7, []⟩, ⟨0, nP8, []⟩, ⟨0, nP9, []⟩] = z at HP hb hz
  have GX := Lib.hid hg
  have HQ := Lib.hid hK
  have HB := Lib.hid hb
  have HZ := Lib.hid hz
  clear hx lx hll hg hK hb hz
  refine wp_region_linT [(0, false), (1, false), (2, false), (3, false), (4, false), (5, false), (6, false), (7, false), (8, false), (9, false)] (by kernel_rfl) ?_
  refine wpOrdT_freesB [0] [.pointer (some ⟨g, 0, none⟩)] (rest := [(1, false), (2, false), (3, false), (4, false), (5, false), (6, false), (7, false), (8, false), (9, false)]) (by kernel_rfl) (by kernel_rfl) (by kernel_rfl) (.inr trivial) ?_
  refine wpOrdT_loadB (.tmp 29) (some 30) ⟨by kernel_rfl, by kernel_rfl, by kernel_rfl⟩ (load_part (off := 0) [.int .u64 nP0, .int .u64 nP1, .int .u64 nP2, .int .u64 nP3, .int .u64 nP4, .int .u64 nP5, .int .u64 nP6, .int .u64 nP7, .int .u64 nP8, .int .u64 nP9] (GX.out) Tryz.underlying24 rfl (by kernel_rfl) (by kernel_rfl)) (by kernel_rfl) (by kernel_rfl) (fun _ => trivial) ?_
  refine wpOrdT_call (some 31) ⟨by kernel_rfl, by kernel_rfl, by kernel_rfl⟩ HP.out (fun _ => by kernel_rfl) ?_
  rintro r w1 ⟨v1, rfl, o1, m1, f1⟩
  refine ⟨_, rfl, fun _ => trivial, ?_⟩
  refine wpOrdT_call (some 32) ⟨by kernel_rfl, by kernel_rfl, by kernel_rfl⟩ (params_get o1.rd HZ.out) (fun _ => by kernel_rfl) ?_
  rintro r w2 ⟨n0, n1, n2, n3, n4, n5, n6, n7, n8, n9, e, rfl, hg2, m2⟩
  have hi := HB.out.symm.trans hg2
  simp only [Prod.mk.injEq, List.cons.injEq, Fld.mk.injEq, and_true, true_and] at hi
  obtain ⟨⟨rfl, rfl, rfl, rfl, rfl, rfl, rfl, rfl, rfl, rfl⟩, rfl⟩ := hi
  refine ⟨_, rfl, fun _ => trivial, ?_⟩
  have m12 := m1.then0 m2
  refine wpOrdT_freesB [4, 5, 6] [.tuple #[.agg #[.int .u64 nP0, .int .u64 nP1, .int .u64 nP2, .int .u64 nP3, .int .u64 nP4, .int .u64 nP5, .int .u64 nP6, .int .u64 nP7, .int .u64 nP8, .int .u64 nP9], .int .i64 0], .agg #[.int .u64 nP0, .int .u64 nP1, .int .u64 nP2, .int .u64 nP3, .int .u64 nP4, .int .u64 nP5, .int .u64 nP6, .int .u64 nP7, .int .u64 nP8, .int .u64 nP9], .int .i64 0] (rest := [(7, false), (8, false), (9, false)]) (by kernel_rfl) (by kernel_rfl) (by kernel_rfl) (.inr trivial) ?_
  refine wpOrdT_alloc (.cells #[.int .u64 0, .int .u64 0, .int .u64 0, .int .u64 0, .int .u64 0, .int .u64 0, .int .u64 0, .int .u64 0, .int .u64 0, .int .u64 0] 24) (some 3) ⟨by kernel_rfl, by kernel_rfl, by kernel_rfl⟩ (by kernel_rfl) ?_
  intro kk w3 hk h3 m3 l3
  refine ⟨fun _ => trivial, ?_⟩
  refine wpOrdT_store (off := 0) (ty := 24) (x := .tmp 3) (y := .tmp 33) (cells := #[.int .u64 nP0, .int .u64 nP1, .int .u64 nP2, .int .u64 nP3, .int .u64 nP4, .int .u64 nP5, .int .u64 nP6, .int .u64 nP7, .int .u64 nP8, .int .u64 nP9]) #[.int .u64 nP0, .int .u64 nP1, .int .u64 nP2, .int .u64 nP3, .int .u64 nP4, .int .u64 nP5, .int .u64 nP6, .int .u64 nP7, .int .u64 nP8, .int .u64 nP9] none ⟨by kernel_rfl, by kernel_rfl, by kernel_rfl⟩ (by kernel_rfl) (by kernel_rfl) (by kernel_rfl) h3 (by kernel_rfl) (by kernel_rfl) (allL (consAll rfl (consAll rfl (consAll rfl (consAll rfl (consAll rfl (consAll rfl (consAll rfl (consAll rfl (consAll rfl (consAll rfl (rfl : ([] : List Value).all (·.oneCell') = true)))))))))))) (by kernel_rfl) ?_
  intro w4 h4 m4 z4
  refine ⟨fun _ => trivial, ?_⟩
  have m34 := m3.trans m4 (U := noB) (fun _ _ x => x) (fun i hi x => by omega)
  have m14 := m12.then0 m34
  refine wpOrdT_freesB [9] [.int .i64 0] (rest := []) (by kernel_rfl) (by kernel_rfl) (by kernel_rfl) (.inr trivial) ?_
  exact wpOrdT_doneL (show K _ _ from act_is (by kernel_rfl) (HQ.out (.tuple #[.agg #[.int .u64 nP0, .int .u64 nP1, .int .u64 nP2, .int .u64 nP3, .int .u64 nP4, .int .u64 nP5, .int .u64 nP6, .int .u64 nP7, .int .u64 nP8, .int .u64 nP9], .int .i64 0]) (.pointer (some ⟨g, 0, none⟩)) (.agg #[.int .u64 nP0, .int .u64 nP1, .int .u64 nP2, .int .u64 nP3, .int .u64 nP4, .int .u64 nP5, .int .u64 nP6, .int .u64 nP7, .int .u64 nP8, .int .u64 nP9]) (v1) (.tuple #[.agg #[.int .u64 nP0, .int .u64 nP1, .int .u64 nP2, .int .u64 nP3, .int .u64 nP4, .int .u64 nP5, .int .u64 nP6, .int .u64 nP7, .int .u64 nP8, .int .u64 nP9], .int .i64 0]) (.agg #[.int .u64 nP0, .int .u64 nP1, .int .u64 nP2, .int .u64 nP3, .int .u64 nP4, .int .u64 nP5, .int .u64 nP6, .int .u64 nP7, .int .u64 nP8, .int .u64 nP9]) (.int .i64 0) kk w4 m14 h4))

set_option maxHeartbeats 4000000 in
theorem bk6 {w wx : World} {g : Nat} (x : Recs) (hx : x.At w) (lx : lightB x = true) (M : Mods noB w wx) (hg : wx.heap[g]? = some (.cells x.cells 46 (0, 0)))  (x0 x2 x3 x4 x5 x6 x7 x8 x9 x10 x11 x12 x13 x14 x15 x16 x17 x18 x19 x20 x21 x22 x23 x24 x25 x26 x27 x28 x29 x30 x31 x32 x33 x34 x35 x36 x37 x38 x39 x40 x41 x42 x43 x44 x45 x46 x47 x48 x49 x50 x51 x52 x53 x54 x55 x56 x57 x58 x59 x60 x61 x62 x63 x64 x65 x66 x67 x68 x69 x70 x71 x72 x73 x74 x75 x76 x77 x78 x79 x80 x81 x82 x83 x84 x85 x86 x87 x88 x89 x90 x91 x92 x93 x94 x95 x96 x97 x98 x99 x100 x101 x102 x103 x104 x105 x106 x107 x108 x109 x110 x111 x112 x113 x114 x115 x116 x117 x118 x119 x120 x121 x122 x123 x124 x125 x126 x127 x128 x129 x130 x131 x132 x133 x134 x135 x136 x137 x138 x139 x140 x141 x142 x143 x144 x145 x146 x147 x148 x149 x150 x151 x152 x153 x154 x155 x156 x157 x158 x159 x160 x161 x162 x163 x164 x165 x166 x167 x168 x169 x170 x171 x172 x173 x174 x175 x176 x177 x178 x179 x180 x181 x182 x183 x184 x185 x186 x187 x188 x189 x190 x191 x192 x193 x194 x195 x196 x197 x198 x199 x200 x201 x202 x203 x204 x205 x206 x207 x208 x209 x210 x211 x212 x213 x214 x215 x216 x217 x218 x219 x220 x221 x222 x223 x224 x225 x226 x227 x228 x229 x230 x231 x232 : Value) {K : Act → World → Prop} {Q : Exit → Act → World → Prop}
    (hK : ∀ (y35 y36 y37 y38 y39 y40 y41 : Value) (kk : Nat)  (w' : World), Mods noB wx w' → w'.heap[kk]? = some (.cells #[.int .u64 x.nC0, .int .u64 x.nC1] 26 (0, 0)) → K ⟨#[x0, .pointer (some ⟨g, 0, none⟩), x2, x3, x4, .pointer (some ⟨kk, 0, none⟩), .int .i64 0, x7, x8, x9, x10, x11, x12, x13, x14, x15, x16, x17, x18, x19, x20, x21, x22, x23, x24, x25, x26, x27, x28, x29, x30, x31, x32, x33, x34, y35, y36, y37, y38, y39, y40, y41, x42, x43, x44, x45, x46, x47, x48, x49, x50, x51, x52, x53, x54, x55, x56, x57, x58, x59, x60, x61, x62, x63, x64, x65, x66, x67, x68, x69, x70, x71, x72, x73, x74, x75, x76, x77, x78, x79, x80, x81, x82, x83, x84, x85, x86, x87, x88, x89, x90, x91, x92, x93, x94, x95, x96, x97, x98, x99, x100, x101, x102, x103, x104, x105, x106, x107, x108, x109, x110, x111, x112, x113, x114, x115, x116, x117, x118, x119, x120, x121, x122, x123, x124, x125, x126, x127, x128, x129, x130, x131, x132, x133, x134, x135, x136, x137, x138, x139, x140, x141, x142, x143, x144, x145, x146, x147, x148, x149, x150, x151, x152, x153, x154, x155, x156, x157, x158, x159, x160, x161, x162, x163, x164, x165, x166, x167, x168, x169, x170, x171, x172, x173, x174, x175, x176, x177, x178, x179, x180, x181, x182, x183, x184, x185, x186, x187, x188, x189, x190, x191, x192, x193, x194, x195, x196, x197, x198, x199, x200, x201, x202, x203, x204, x205, x206, x207, x208, x209, x210, x211, x212, x213, x214, x215, x216, x217, x218, x219, x220, x221, x222, x223, x224, x225, x226, x227, x228, x229, x230, x231, x232], []⟩ w') : Code.wp Tryz.prog (.region 6 (opsC 6 Tryz.f6) false) (Exit.then K Q) ⟨#[x0, .pointer (some ⟨g, 0, none⟩), x2, x3, x4, x5, x6, x7, x8, x9, x10, x11, x12, x13, x14, x15, x16, x17, x18, x19, x20, x21, x22, x23, x24, x25, x26, x27, x28, x29, x30, x31, x32, x33, x34, x35, x36, x37, x38, x39, x40, x41, x42, x43, x44, x45, x46, x47, x48, x49, x50, x51, x52, x53, x54, x55, x56, x57, x58, x59, x60, x61, x62, x63, x64, x65, x66, x67, x68, x69, x70, x71, x72, x73, x74, x75, x76, x77, x78, x79, x80, x81, x82, x83, x84, x85, x86, x87, x88, x89, x90, x91, x92, x93, x94, x95, x96, x97, x98, x99, x100, x101, x102, x103, x104, x105, x106, x107, x108, x109, x110, x111, x112, x113, x114, x115, x116, x117, x118, x119, x120, x121, x122, x123, x124, x125, x126, x127, x128, x129, x130, x131, x132, x133, x134, x135, x136, x137, x138, x139, x140, x141, x142, x143, x144, x145, x146, x147, x148, x149, x150, x151, x152, x153, x154, x155, x156, x157, x158, x159, x160, x161, x162, x163, x164, x165, x166, x167, x168, x169, x170, x171, x172, x173, x174, x175, x176, x177, x178, x179, x180, x181, x182, x183, x184, x185, x186, x187, x188, x189, x190, x191, x192, x193, x194, x195, x196, x197, x198, x199, x200, x201, x202, x203, x204, x205, x206, x207, x208, x209, x210, x211, x212, x213, x214, x215, x216, x217, x218, x219, x220, x221, x222, x223, x224, x225, x226, x227, x228, x229, x230, x231, x232], []⟩ wx := by
  obtain ⟨nP0, nP1, nP2, nP3, nP4, nP5, nP6, nP7, nP8, nP9, nC0, nC1, uD0, lD0, nA0, nA1, nV0, nV1, uV2, lV2, bV3, nV4, bV5, nV6, uV7, lV7, uV8, lV8, uV9, lV9, uG0, lG0, nG1, uG2, lG2, uH0, lH0, nH1, nK0, nK1, nU0, nU1, nU2, nU3, nU4, nU5, nM0, nM1, nM2, nM3, nM4, nM5, uM6, lM6, nN0⟩ := x
  unfold Recs.cells at hg
  simp only at hg
  have hll := lx
  simp only [lightB, List.all_cons, List.all_nil, Bool.and_true, Bool.and_eq_true, decide_eq_true_eq] at hll
  have HP := Lib.hid (chain_put (w := wx) (n0 := nC0) (n1 := nC1) (limC hx.nC0 (limC hx.nC1 limN)) )
  have hb := recGet_back [⟨0, nC0, []⟩, ⟨0, nC1, []⟩] (okC (okN hx.nC0) (okC (okN hx.nC1) okZ)) (ks := [0, 0]) rfl
  have hz : (recLay [⟨0, nC0, []⟩, ⟨0, nC1, []⟩]).length ≤ 1000000 := Nat.le_trans (recLay_len _) (Nat.le_of_ble_eq_true rfl)
  simp only [List.map_cons, List.map_nil, normN, normB, normD] at hb
  generalize recLay [⟨0, nC0, []⟩, ⟨0, nC1, []⟩] = z at HP hb hz
  have GX := Lib.hid hg
  have HQ := Lib.hid hK
  have HB := Lib.hid hb
  have HZ := Lib.hid hz
  clear hx lx hll hg hK hb hz
  refine wp_region_linT [(0, false), (1, false), (2, false), (3, false), (4, false), (5, false), (6, false), (7, false), (8, false), (9, false)] (by kernel_rfl) ?_
  refine wpOrdT_freesB [0] [.pointer (some ⟨g, 10, none⟩)] (rest := [(1, false), (2, false), (3, false), (4, false), (5, false), (6, false), (7, false), (8, false), (9, false)]) (by kernel_rfl) (by kernel_rfl) (by kernel_rfl) (.inr trivial) ?_
  refine wpOrdT_loadB (.tmp 36) (some 37) ⟨by kernel_rfl, by kernel_rfl, by kernel_rfl⟩ (load_part (off := 10) [.int .u64 nC0, .int .u64 nC1] (GX.out) Tryz.underlying26 rfl (by kernel_rfl) (by kernel_rfl)) (by kernel_rfl) (by kernel_rfl) (fun _ => trivial) ?_
  refine wpOrdT_call (some 38) ⟨by kernel_rfl, by kernel_rfl, by kernel_rfl⟩ HP.out (fun _ => by kernel_rfl) ?_
  rintro r w1 ⟨v1, rfl, o1, m1, f1⟩
  refine ⟨_, rfl, fun _ => trivial, ?_⟩
  refine wpOrdT_call (some 39) ⟨by kernel_rfl, by kernel_rfl, by kernel_rfl⟩ (chain_get o1.rd HZ.out) (fun _ => by kernel_rfl) ?_
  rintro r w2 ⟨n0, n1, e, rfl, hg2, m2⟩
  have hi := HB.out.symm.trans hg2
  simp only [Prod.mk.injEq, List.cons.injEq, Fld.mk.injEq, and_true, true_and] at hi
  obtain ⟨⟨rfl, rfl⟩, rfl⟩ := hi
  refine ⟨_, rfl, fun _ => trivial, ?_⟩
  have m12 := m1.then0 m2
  refine wpOrdT_freesB [4, 5, 6] [.tuple #[.agg #[.int .u64 nC0, .int .u64 nC1], .int .i64 0], .agg #[.int .u64 nC0, .int .u64 nC1], .int .i64 0] (rest := [(7, false), (8, false), (9, false)]) (by kernel_rfl) (by kernel_rfl) (by kernel_rfl) (.inr trivial) ?_
  refine wpOrdT_alloc (.cells #[.int .u64 0, .int .u64 0] 26) (some 5) ⟨by kernel_rfl, by kernel_rfl, by kernel_rfl⟩ (by kernel_rfl) ?_
  intro kk w3 hk h3 m3 l3
  refine ⟨fun _ => trivial, ?_⟩
  refine wpOrdT_store (off := 0) (ty := 26) (x := .tmp 5) (y := .tmp 40) (cells := #[.int .u64 nC0, .int .u64 nC1]) #[.int .u64 nC0, .int .u64 nC1] none ⟨by kernel_rfl, by kernel_rfl, by kernel_rfl⟩ (by kernel_rfl) (by kernel_rfl) (by kernel_rfl) h3 (by kernel_rfl) (by kernel_rfl) (allL (consAll rfl (consAll rfl (rfl : ([] : List Value).all (·.oneCell') = true)))) (by kernel_rfl) ?_
  intro w4 h4 m4 z4
  refine ⟨fun _ => trivial, ?_⟩
  have m34 := m3.trans m4 (U := noB) (fun _ _ x => x) (fun i hi x => by omega)
  have m14 := m12.then0 m34
  refine wpOrdT_freesB [9] [.int .i64 0] (rest := []) (by kernel_rfl) (by kernel_rfl) (by kernel_rfl) (.inr trivial) ?_
  exact wpOrdT_doneL (show K _ _ from act_is (by kernel_rfl) (HQ.out (.tuple #[.agg #[.int .u64 nC0, .int .u64 nC1], .int .i64 0]) (.pointer (some ⟨g, 10, none⟩)) (.agg #[.int .u64 nC0, .int .u64 nC1]) (v1) (.tuple #[.agg #[.int .u64 nC0, .int .u64 nC1], .int .i64 0]) (.agg #[.int .u64 nC0, .int .u64 nC1]) (.int .i64 0) kk w4 m14 h4))

set_option maxHeartbeats 4000000 in
theorem bk7 {w wx : World} {g : Nat} (x : Recs) (hx : x.At w) (lx : lightB x = true) (M : Mods noB w wx) (hg : wx.heap[g]? = some (.cells x.cells 46 (0, 0)))  (x0 x2 x3 x4 x5 x6 x7 x8 x9 x10 x11 x12 x13 x14 x15 x16 x17 x18 x19 x20 x21 x22 x23 x24 x25 x26 x27 x28 x29 x30 x31 x32 x33 x34 x35 x36 x37 x38 x39 x40 x41 x42 x43 x44 x45 x46 x47 x48 x49 x50 x51 x52 x53 x54 x55 x56 x57 x58 x59 x60 x61 x62 x63 x64 x65 x66 x67 x68 x69 x70 x71 x72 x73 x74 x75 x76 x77 x78 x79 x80 x81 x82 x83 x84 x85 x86 x87 x88 x89 x90 x91 x92 x93 x94 x95 x96 x97 x98 x99 x100 x101 x102 x103 x104 x105 x106 x107 x108 x109 x110 x111 x112 x113 x114 x115 x116 x117 x118 x119 x120 x121 x122 x123 x124 x125 x126 x127 x128 x129 x130 x131 x132 x133 x134 x135 x136 x137 x138 x139 x140 x141 x142 x143 x144 x145 x146 x147 x148 x149 x150 x151 x152 x153 x154 x155 x156 x157 x158 x159 x160 x161 x162 x163 x164 x165 x166 x167 x168 x169 x170 x171 x172 x173 x174 x175 x176 x177 x178 x179 x180 x181 x182 x183 x184 x185 x186 x187 x188 x189 x190 x191 x192 x193 x194 x195 x196 x197 x198 x199 x200 x201 x202 x203 x204 x205 x206 x207 x208 x209 x210 x211 x212 x213 x214 x215 x216 x217 x218 x219 x220 x221 x222 x223 x224 x225 x226 x227 x228 x229 x230 x231 x232 : Value) {K : Act → World → Prop} {Q : Exit → Act → World → Prop}
    (hK : ∀ (y42 y43 y44 y45 y46 y47 y48 : Value) (kk : Nat) (sD0 : Value) (w' : World), Mods noB wx w' → w'.heap[kk]? = some (.cells #[sD0] 30 (0, 0)) → RN w' sD0 (normL x.lD0) → K ⟨#[x0, .pointer (some ⟨g, 0, none⟩), x2, x3, x4, x5, x6, .pointer (some ⟨kk, 0, none⟩), .int .i64 0, x9, x10, x11, x12, x13, x14, x15, x16, x17, x18, x19, x20, x21, x22, x23, x24, x25, x26, x27, x28, x29, x30, x31, x32, x33, x34, x35, x36, x37, x38, x39, x40, x41, y42, y43, y44, y45, y46, y47, y48, x49, x50, x51, x52, x53, x54, x55, x56, x57, x58, x59, x60, x61, x62, x63, x64, x65, x66, x67, x68, x69, x70, x71, x72, x73, x74, x75, x76, x77, x78, x79, x80, x81, x82, x83, x84, x85, x86, x87, x88, x89, x90, x91, x92, x93, x94, x95, x96, x97, x98, x99, x100, x101, x102, x103, x104, x105, x106, x107, x108, x109, x110, x111, x112, x113, x114, x115, x116, x117, x118, x119, x120, x121, x122, x123, x124, x125, x126, x127, x128, x129, x130, x131, x132, x133, x134, x135, x136, x137, x138, x139, x140, x141, x142, x143, x144, x145, x146, x147, x148, x149, x150, x151, x152, x153, x154, x155, x156, x157, x158, x159, x160, x161, x162, x163, x164, x165, x166, x167, x168, x169, x170, x171, x172, x173, x174, x175, x176, x177, x178, x179, x180, x181, x182, x183, x184, x185, x186, x187, x188, x189, x190, x191, x192, x193, x194, x195, x196, x197, x198, x199, x200, x201, x202, x203, x204, x205, x206, x207, x208, x209, x210, x211, x212, x213, x214, x215, x216, x217, x218, x219, x220, x221, x222, x223, x224, x225, x226, x227, x228, x229, x230, x231, x232], []⟩ w') : Code.wp Tryz.prog (.region 7 (opsC 7 Tryz.f6) false) (Exit.then K Q) ⟨#[x0, .pointer (some ⟨g, 0, none⟩), x2, x3, x4, x5, x6, x7, x8, x9, x10, x11, x12, x13, x14, x15, x16, x17, x18, x19, x20, x21, x22, x23, x24, x25, x26, x27, x28, x29, x30, x31, x32, x33, x34, x35, x36, x37, x38, x39, x40, x41, x42, x43, x44, x45, x46, x47, x48, x49, x50, x51, x52, x53, x54, x55, x56, x57, x58, x59, x60, x61, x62, x63, x64, x65, x66, x67, x68, x69, x70, x71, x72, x73, x74, x75, x76, x77, x78, x79, x80, x81, x82, x83, x84, x85, x86, x87, x88, x89, x90, x91, x92, x93, x94, x95, x96, x97, x98, x99, x100, x101, x102, x103, x104, x105, x106, x107, x108, x109, x110, x111, x112, x113, x114, x115, x116, x117, x118, x119, x120, x121, x122, x123, x124, x125, x126, x127, x128, x129, x130, x131, x132, x133, x134, x135, x136, x137, x138, x139, x140, x141, x142, x143, x144, x145, x146, x147, x148, x149, x150, x151, x152, x153, x154, x155, x156, x157, x158, x159, x160, x161, x162, x163, x164, x165, x166, x167, x168, x169, x170, x171, x172, x173, x174, x175, x176, x177, x178, x179, x180, x181, x182, x183, x184, x185, x186, x187, x188, x189, x190, x191, x192, x193, x194, x195, x196, x197, x198, x199, x200, x201, x202, x203, x204, x205, x206, x207, x208, x209, x210, x211, x212, x213, x214, x215, x216, x217, x218, x219, x220, x221, x222, x223, x224, x225, x226, x227, x228, x229, x230, x231, x232], []⟩ wx := by
  obtain ⟨nP0, nP1, nP2, nP3, nP4, nP5, nP6, nP7, nP8, nP9, nC0, nC1, uD0, lD0, nA0, nA1, nV0, nV1, uV2, lV2, bV3, nV4, bV5, nV6, uV7, lV7, uV8, lV8, uV9, lV9, uG0, lG0, nG1, uG2, lG2, uH0, lH0, nH1, nK0, nK1, nU0, nU1, nU2, nU3, nU4, nU5, nM0, nM1, nM2, nM3, nM4, nM5, uM6, lM6, nN0⟩ := x
  unfold Recs.cells at hg
  simp only at hg
  have hll := lx
  simp only [lightB, List.all_cons, List.all_nil, Bool.and_true, Bool.and_eq_true, decide_eq_true_eq] at hll
  have HP := Lib.hid (pool_put (w := wx)   (DN.keep (w := w) ⟨hx.dD0.1, hx.dD0.2.1, Nat.le_trans (hll.1) (by omega)⟩ M))
  have hb := recGet_back [⟨2, 0, lD0⟩] (okC (okD hx.dD0.2.1) okZ) (ks := [2]) rfl
  have hz : (recLay [⟨2, 0, lD0⟩]).length ≤ 1000000 := Nat.le_trans (recLay_len _) (Nat.le_of_ble_eq_true rfl)
  simp only [List.map_cons, List.map_nil, normN, normB, normD] at hb
  generalize recLay [⟨2, 0, lD0⟩] = z at HP hb hz
  have GX := Lib.hid hg
  have HQ := Lib.hid hK
  have HB := Lib.hid hb
  have HZ := Lib.hid hz
  clear hx lx hll hg hK hb hz
  refine wp_region_linT [(0, false), (1, false), (2, false), (3, false), (4, false), (5, false), (6, false), (7, false), (8, false), (9, false)] (by kernel_rfl) ?_
  refine wpOrdT_freesB [0] [.pointer (some ⟨g, 12, none⟩)] (rest := [(1, false), (2, false), (3, false), (4, false), (5, false), (6, false), (7, false), (8, false), (9, false)]) (by kernel_rfl) (by kernel_rfl) (by kernel_rfl) (.inr trivial) ?_
  refine wpOrdT_loadB (.tmp 43) (some 44) ⟨by kernel_rfl, by kernel_rfl, by kernel_rfl⟩ (load_part (off := 12) [uD0] (GX.out) Tryz.underlying30 rfl (by kernel_rfl) (by kernel_rfl)) (by kernel_rfl) (by kernel_rfl) (fun _ => trivial) ?_
  refine wpOrdT_call (some 45) ⟨by kernel_rfl, by kernel_rfl, by kernel_rfl⟩ HP.out (fun _ => by kernel_rfl) ?_
  rintro r w1 ⟨v1, rfl, o1, m1, f1⟩
  refine ⟨_, rfl, fun _ => trivial, ?_⟩
  refine wpOrdT_call (some 46) ⟨by kernel_rfl, by kernel_rfl, by kernel_rfl⟩ (pool_get o1.rd HZ.out) (fun _ => by kernel_rfl) ?_
  rintro r w2 ⟨sD0, l0, e, rfl, hg2, m2, ⟨e0, f0⟩⟩
  have hi := HB.out.symm.trans hg2
  simp only [Prod.mk.injEq, List.cons.injEq, Fld.mk.injEq, and_true, true_and] at hi
  obtain ⟨rfl, rfl⟩ := hi
  have oD0 := rn_one e0
  refine ⟨_, rfl, fun _ => trivial, ?_⟩
  have m12 := m1.then0 m2
  refine wpOrdT_freesB [4, 5, 6] [.tuple #[.agg #[sD0], .int .i64 0], .agg #[sD0], .int .i64 0] (rest := [(7, false), (8, false), (9, false)]) (by kernel_rfl) (by kernel_rfl) (by kernel_rfl) (.inr trivial) ?_
  refine wpOrdT_alloc (.cells #[.slice none 0 0] 30) (some 7) ⟨by kernel_rfl, by kernel_rfl, by kernel_rfl⟩ (by kernel_rfl) ?_
  intro kk w3 hk h3 m3 l3
  refine ⟨fun _ => trivial, ?_⟩
  refine wpOrdT_store (off := 0) (ty := 30) (x := .tmp 7) (y := .tmp 47) (cells := #[sD0]) #[sD0] none ⟨by kernel_rfl, by kernel_rfl, by kernel_rfl⟩ (by kernel_rfl) (by kernel_rfl) (by kernel_rfl) h3 (by kernel_rfl) (by kernel_rfl) (allL (consAll oD0 (rfl : ([] : List Value).all (·.oneCell') = true))) (by kernel_rfl) ?_
  intro w4 h4 m4 z4
  refine ⟨fun _ => trivial, ?_⟩
  have m34 := m3.trans m4 (U := noB) (fun _ _ x => x) (fun i hi x => by omega)
  have m14 := m12.then0 m34
  refine wpOrdT_freesB [9] [.int .i64 0] (rest := []) (by kernel_rfl) (by kernel_rfl) (by kernel_rfl) (.inr trivial) ?_
  exact wpOrdT_doneL (show K _ _ from act_is (by kernel_rfl) (HQ.out (.tuple #[.agg #[sD0], .int .i64 0]) (.pointer (some ⟨g, 12, none⟩)) (.agg #[uD0]) (v1) (.tuple #[.agg #[sD0], .int .i64 0]) (.agg #[sD0]) (.int .i64 0) kk sD0 w4 m14 h4 (e0.keep m34 (fun _ _ x => x))))

set_option maxHeartbeats 4000000 in
theorem bk8 {w wx : World} {g : Nat} (x : Recs) (hx : x.At w) (lx : lightB x = true) (M : Mods noB w wx) (hg : wx.heap[g]? = some (.cells x.cells 46 (0, 0)))  (x0 x2 x3 x4 x5 x6 x7 x8 x9 x10 x11 x12 x13 x14 x15 x16 x17 x18 x19 x20 x21 x22 x23 x24 x25 x26 x27 x28 x29 x30 x31 x32 x33 x34 x35 x36 x37 x38 x39 x40 x41 x42 x43 x44 x45 x46 x47 x48 x49 x50 x51 x52 x53 x54 x55 x56 x57 x58 x59 x60 x61 x62 x63 x64 x65 x66 x67 x68 x69 x70 x71 x72 x73 x74 x75 x76 x77 x78 x79 x80 x81 x82 x83 x84 x85 x86 x87 x88 x89 x90 x91 x92 x93 x94 x95 x96 x97 x98 x99 x100 x101 x102 x103 x104 x105 x106 x107 x108 x109 x110 x111 x112 x113 x114 x115 x116 x117 x118 x119 x120 x121 x122 x123 x124 x125 x126 x127 x128 x129 x130 x131 x132 x133 x134 x135 x136 x137 x138 x139 x140 x141 x142 x143 x144 x145 x146 x147 x148 x149 x150 x151 x152 x153 x154 x155 x156 x157 x158 x159 x160 x161 x162 x163 x164 x165 x166 x167 x168 x169 x170 x171 x172 x173 x174 x175 x176 x177 x178 x179 x180 x181 x182 x183 x184 x185 x186 x187 x188 x189 x190 x191 x192 x193 x194 x195 x196 x197 x198 x199 x200 x201 x202 x203 x204 x205 x206 x207 x208 x209 x210 x211 x212 x213 x214 x215 x216 x217 x218 x219 x220 x221 x222 x223 x224 x225 x226 x227 x228 x229 x230 x231 x232 : Value) {K : Act → World → Prop} {Q : Exit → Act → World → Prop}
    (hK : ∀ (y49 y50 y51 y52 y53 y54 y55 : Value) (kk : Nat)  (w' : World), Mods noB wx w' → w'.heap[kk]? = some (.cells #[.int .u64 x.nA0, .int .u64 x.nA1] 32 (0, 0)) → K ⟨#[x0, .pointer (some ⟨g, 0, none⟩), x2, x3, x4, x5, x6, x7, x8, .pointer (some ⟨kk, 0, none⟩), .int .i64 0, x11, x12, x13, x14, x15, x16, x17, x18, x19, x20, x21, x22, x23, x24, x25, x26, x27, x28, x29, x30, x31, x32, x33, x34, x35, x36, x37, x38, x39, x40, x41, x42, x43, x44, x45, x46, x47, x48, y49, y50, y51, y52, y53, y54, y55, x56, x57, x58, x59, x60, x61, x62, x63, x64, x65, x66, x67, x68, x69, x70, x71, x72, x73, x74, x75, x76, x77, x78, x79, x80, x81, x82, x83, x84, x85, x86, x87, x88, x89, x90, x91, x92, x93, x94, x95, x96, x97, x98, x99, x100, x101, x102, x103, x104, x105, x106, x107, x108, x109, x110, x111, x112, x113, x114, x115, x116, x117, x118, x119, x120, x121, x122, x123, x124, x125, x126, x127, x128, x129, x130, x131, x132, x133, x134, x135, x136, x137, x138, x139, x140, x141, x142, x143, x144, x145, x146, x147, x148, x149, x150, x151, x152, x153, x154, x155, x156, x157, x158, x159, x160, x161, x162, x163, x164, x165, x166, x167, x168, x169, x170, x171, x172, x173, x174, x175, x176, x177, x178, x179, x180, x181, x182, x183, x184, x185, x186, x187, x188, x189, x190, x191, x192, x193, x194, x195, x196, x197, x198, x199, x200, x201, x202, x203, x204, x205, x206, x207, x208, x209, x210, x211, x212, x213, x214, x215, x216, x217, x218, x219, x220, x221, x222, x223, x224, x225, x226, x227, x228, x229, x230, x231, x232], []⟩ w') : Code.wp Tryz.prog (.region 8 (opsC 8 Tryz.f6) false) (Exit.then K Q) ⟨#[x0, .pointer (some ⟨g, 0, none⟩), x2, x3, x4, x5, x6, x7, x8, x9, x10, x11, x12, x13, x14, x15, x16, x17, x18, x19, x20, x21, x22, x23, x24, x25, x26, x27, x28, x29, x30, x31, x32, x33, x34, x35, x36, x37, x38, x39, x40, x41, x42, x43, x44, x45, x46, x47, x48, x49, x50, x51, x52, x53, x54, x55, x56, x57, x58, x59, x60, x61, x62, x63, x64, x65, x66, x67, x68, x69, x70, x71, x72, x73, x74, x75, x76, x77, x78, x79, x80, x81, x82, x83, x84, x85, x86, x87, x88, x89, x90, x91, x92, x93, x94, x95, x96, x97, x98, x99, x100, x101, x102, x103, x104, x105, x106, x107, x108, x109, x110, x111, x112, x113, x114, x115, x116, x117, x118, x119, x120, x121, x122, x123, x124, x125, x126, x127, x128, x129, x130, x131, x132, x133, x134, x135, x136, x137, x138, x139, x140, x141, x142, x143, x144, x145, x146, x147, x148, x149, x150, x151, x152, x153, x154, x155, x156, x157, x158, x159, x160, x161, x162, x163, x164, x165, x166, x167, x168, x169, x170, x171, x172, x173, x174, x175, x176, x177, x178, x179, x180, x181, x182, x183, x184, x185, x186, x187, x188, x189, x190, x191, x192, x193, x194, x195, x196, x197, x198, x199, x200, x201, x202, x203, x204, x205, x206, x207, x208, x209, x210, x211, x212, x213, x214, x215, x216, x217, x218, x219, x220, x221, x222, x223, x224, x225, x226, x227, x228, x229, x230, x231, x232], []⟩ wx := by
  obtain ⟨nP0, nP1, nP2, nP3, nP4, nP5, nP6, nP7, nP8, nP9, nC0, nC1, uD0, lD0, nA0, nA1, nV0, nV1, uV2, lV2, bV3, nV4, bV5, nV6, uV7, lV7, uV8, lV8, uV9, lV9, uG0, lG0, nG1, uG2, lG2, uH0, lH0, nH1, nK0, nK1, nU0, nU1, nU2, nU3, nU4, nU5, nM0, nM1, nM2, nM3, nM4, nM5, uM6, lM6, nN0⟩ := x
  unfold Recs.cells at hg
  simp only at hg
  have hll := lx
  simp only [lightB, List.all_cons, List.all_nil, Bool.and_true, Bool.and_eq_true, decide_eq_true_eq] at hll
  have HP := Lib.hid (account_put (w := wx) (n0 := nA0) (n1 := nA1) (limC hx.nA0 (limC hx.nA1 limN)) )
  have hb := recGet_back [⟨0, nA0, []⟩, ⟨0, nA1, []⟩] (okC (okN hx.nA0) (okC (okN hx.nA1) okZ)) (ks := [0, 0]) rfl
  have hz : (recLay [⟨0, nA0, []⟩, ⟨0, nA1, []⟩]).length ≤ 1000000 := Nat.le_trans (recLay_len _) (Nat.le_of_ble_eq_true rfl)
  simp only [List.map_cons, List.map_nil, normN, normB, normD] at hb
  generalize recLay [⟨0, nA0, []⟩, ⟨0, nA1, []⟩] = z at HP hb hz
  have GX := Lib.hid hg
  have HQ := Lib.hid hK
  have HB := Lib.hid hb
  have HZ := Lib.hid hz
  clear hx lx hll hg hK hb hz
  refine wp_region_linT [(0, false), (1, false), (2, false), (3, false), (4, false), (5, false), (6, false), (7, false), (8, false), (9, false)] (by kernel_rfl) ?_
  refine wpOrdT_freesB [0] [.pointer (some ⟨g, 13, none⟩)] (rest := [(1, false), (2, false), (3, false), (4, false), (5, false), (6, false), (7, false), (8, false), (9, false)]) (by kernel_rfl) (by kernel_rfl) (by kernel_rfl) (.inr trivial) ?_
  refine wpOrdT_loadB (.tmp 50) (some 51) ⟨by kernel_rfl, by kernel_rfl, by kernel_rfl⟩ (load_part (off := 13) [.int .u64 nA0, .int .u64 nA1] (GX.out) Tryz.underlying32 rfl (by kernel_rfl) (by kernel_rfl)) (by kernel_rfl) (by kernel_rfl) (fun _ => trivial) ?_
  refine wpOrdT_call (some 52) ⟨by kernel_rfl, by kernel_rfl, by kernel_rfl⟩ HP.out (fun _ => by kernel_rfl) ?_
  rintro r w1 ⟨v1, rfl, o1, m1, f1⟩
  refine ⟨_, rfl, fun _ => trivial, ?_⟩
  refine wpOrdT_call (some 53) ⟨by kernel_rfl, by kernel_rfl, by kernel_rfl⟩ (account_get o1.rd HZ.out) (fun _ => by kernel_rfl) ?_
  rintro r w2 ⟨n0, n1, e, rfl, hg2, m2⟩
  have hi := HB.out.symm.trans hg2
  simp only [Prod.mk.injEq, List.cons.injEq, Fld.mk.injEq, and_true, true_and] at hi
  obtain ⟨⟨rfl, rfl⟩, rfl⟩ := hi
  refine ⟨_, rfl, fun _ => trivial, ?_⟩
  have m12 := m1.then0 m2
  refine wpOrdT_freesB [4, 5, 6] [.tuple #[.agg #[.int .u64 nA0, .int .u64 nA1], .int .i64 0], .agg #[.int .u64 nA0, .int .u64 nA1], .int .i64 0] (rest := [(7, false), (8, false), (9, false)]) (by kernel_rfl) (by kernel_rfl) (by kernel_rfl) (.inr trivial) ?_
  refine wpOrdT_alloc (.cells #[.int .u64 0, .int .u64 0] 32) (some 9) ⟨by kernel_rfl, by kernel_rfl, by kernel_rfl⟩ (by kernel_rfl) ?_
  intro kk w3 hk h3 m3 l3
  refine ⟨fun _ => trivial, ?_⟩
  refine wpOrdT_store (off := 0) (ty := 32) (x := .tmp 9) (y := .tmp 54) (cells := #[.int .u64 nA0, .int .u64 nA1]) #[.int .u64 nA0, .int .u64 nA1] none ⟨by kernel_rfl, by kernel_rfl, by kernel_rfl⟩ (by kernel_rfl) (by kernel_rfl) (by kernel_rfl) h3 (by kernel_rfl) (by kernel_rfl) (allL (consAll rfl (consAll rfl (rfl : ([] : List Value).all (·.oneCell') = true)))) (by kernel_rfl) ?_
  intro w4 h4 m4 z4
  refine ⟨fun _ => trivial, ?_⟩
  have m34 := m3.trans m4 (U := noB) (fun _ _ x => x) (fun i hi x => by omega)
  have m14 := m12.then0 m34
  refine wpOrdT_freesB [9] [.int .i64 0] (rest := []) (by kernel_rfl) (by kernel_rfl) (by kernel_rfl) (.inr trivial) ?_
  exact wpOrdT_doneL (show K _ _ from act_is (by kernel_rfl) (HQ.out (.tuple #[.agg #[.int .u64 nA0, .int .u64 nA1], .int .i64 0]) (.pointer (some ⟨g, 13, none⟩)) (.agg #[.int .u64 nA0, .int .u64 nA1]) (v1) (.tuple #[.agg #[.int .u64 nA0, .int .u64 nA1], .int .i64 0]) (.agg #[.int .u64 nA0, .int .u64 nA1]) (.int .i64 0) kk w4 m14 h4))

set_option maxHeartbeats 4000000 in
theorem bk9 {w wx : World} {g : Nat} (x : Recs) (hx : x.At w) (lx : lightB x = true) (M : Mods noB w wx) (hg : wx.heap[g]? = some (.cells x.cells 46 (0, 0)))  (x0 x2 x3 x4 x5 x6 x7 x8 x9 x10 x11 x12 x13 x14 x15 x16 x17 x18 x19 x20 x21 x22 x23 x24 x25 x26 x27 x28 x29 x30 x31 x32 x33 x34 x35 x36 x37 x38 x39 x40 x41 x42 x43 x44 x45 x46 x47 x48 x49 x50 x51 x52 x53 x54 x55 x56 x57 x58 x59 x60 x61 x62 x63 x64 x65 x66 x67 x68 x69 x70 x71 x72 x73 x74 x75 x76 x77 x78 x79 x80 x81 x82 x83 x84 x85 x86 x87 x88 x89 x90 x91 x92 x93 x94 x95 x96 x97 x98 x99 x100 x101 x102 x103 x104 x105 x106 x107 x108 x109 x110 x111 x112 x113 x114 x115 x116 x117 x118 x119 x120 x121 x122 x123 x124 x125 x126 x127 x128 x129 x130 x131 x132 x133 x134 x135 x136 x137 x138 x139 x140 x141 x142 x143 x144 x145 x146 x147 x148 x149 x150 x151 x152 x153 x154 x155 x156 x157 x158 x159 x160 x161 x162 x163 x164 x165 x166 x167 x168 x169 x170 x171 x172 x173 x174 x175 x176 x177 x178 x179 x180 x181 x182 x183 x184 x185 x186 x187 x188 x189 x190 x191 x192 x193 x194 x195 x196 x197 x198 x199 x200 x201 x202 x203 x204 x205 x206 x207 x208 x209 x210 x211 x212 x213 x214 x215 x216 x217 x218 x219 x220 x221 x222 x223 x224 x225 x226 x227 x228 x229 x230 x231 x232 : Value) {K : Act → World → Prop} {Q : Exit → Act → World → Prop}
    (hK : ∀ (y56 y57 y58 y59 y60 y61 y62 : Value) (kk : Nat)  (w' : World), Mods noB wx w' → w'.heap[kk]? = some (.cells #[.int .u64 x.nK0, .int .u64 x.nK1] 40 (0, 0)) → K ⟨#[x0, .pointer (some ⟨g, 0, none⟩), x2, x3, x4, x5, x6, x7, x8, x9, x10, .pointer (some ⟨kk, 0, none⟩), .int .i64 0, x13, x14, x15, x16, x17, x18, x19, x20, x21, x22, x23, x24, x25, x26, x27, x28, x29, x30, x31, x32, x33, x34, x35, x36, x37, x38, x39, x40, x41, x42, x43, x44, x45, x46, x47, x48, x49, x50, x51, x52, x53, x54, x55, y56, y57, y58, y59, y60, y61, y62, x63, x64, x65, x66, x67, x68, x69, x70, x71, x72, x73, x74, x75, x76, x77, x78, x79, x80, x81, x82, x83, x84, x85, x86, x87, x88, x89, x90, x91, x92, x93, x94, x95, x96, x97, x98, x99, x100, x101, x102, x103, x104, x105, x106, x107, x108, x109, x110, x111, x112, x113, x114, x115, x116, x117, x118, x119, x120, x121, x122, x123, x124, x125, x126, x127, x128, x129, x130, x131, x132, x133, x134, x135, x136, x137, x138, x139, x140, x141, x142, x143, x144, x145, x146, x147, x148, x149, x150, x151, x152, x153, x154, x155, x156, x157, x158, x159, x160, x161, x162, x163, x164, x165, x166, x167, x168, x169, x170, x171, x172, x173, x174, x175, x176, x177, x178, x179, x180, x181, x182, x183, x184, x185, x186, x187, x188, x189, x190, x191, x192, x193, x194, x195, x196, x197, x198, x199, x200, x201, x202, x203, x204, x205, x206, x207, x208, x209, x210, x211, x212, x213, x214, x215, x216, x217, x218, x219, x220, x221, x222, x223, x224, x225, x226, x227, x228, x229, x230, x231, x232], []⟩ w') : Code.wp Tryz.prog (.region 9 (opsC 9 Tryz.f6) false) (Exit.then K Q) ⟨#[x0, .pointer (some ⟨g, 0, none⟩), x2, x3, x4, x5, x6, x7, x8, x9, x10, x11, x12, x13, x14, x15, x16, x17, x18, x19, x20, x21, x22, x23, x24, x25, x26, x27, x28, x29, x30, x31, x32, x33, x34, x35, x36, x37, x38, x39, x40, x41, x42, x43, x44, x45, x46, x47, x48, x49, x50, x51, x52, x53, x54, x55, x56, x57, x58, x59, x60, x61, x62, x63, x64, x65, x66, x67, x68, x69, x70, x71, x72, x73, x74, x75, x76, x77, x78, x79, x80, x81, x82, x83, x84, x85, x86, x87, x88, x89, x90, x91, x92, x93, x94, x95, x96, x97, x98, x99, x100, x101, x102, x103, x104, x105, x106, x107, x108, x109, x110, x111, x112, x113, x114, x115, x116, x117, x118, x119, x120, x121, x122, x123, x124, x125, x126, x127, x128, x129, x130, x131, x132, x133, x134, x135, x136, x137, x138, x139, x140, x141, x142, x143, x144, x145, x146, x147, x148, x149, x150, x151, x152, x153, x154, x155, x156, x157, x158, x159, x160, x161, x162, x163, x164, x165, x166, x167, x168, x169, x170, x171, x172, x173, x174, x175, x176, x177, x178, x179, x180, x181, x182, x183, x184, x185, x186, x187, x188, x189, x190, x191, x192, x193, x194, x195, x196, x197, x198, x199, x200, x201, x202, x203, x204, x205, x206, x207, x208, x209, x210, x211, x212, x213, x214, x215, x216, x217, x218, x219, x220, x221, x222, x223, x224, x225, x226, x227, x228, x229, x230, x231, x232], []⟩ wx := by
  obtain ⟨nP0, nP1, nP2, nP3, nP4, nP5, nP6, nP7, nP8, nP9, nC0, nC1, uD0, lD0, nA0, nA1, nV0, nV1, uV2, lV2, bV3, nV4, bV5, nV6, uV7, lV7, uV8, lV8, uV9, lV9, uG0, lG0, nG1, uG2, lG2, uH0, lH0, nH1, nK0, nK1, nU0, nU1, nU2, nU3, nU4, nU5, nM0, nM1, nM2, nM3, nM4, nM5, uM6, lM6, nN0⟩ := x
  unfold Recs.cells at hg
  simp only at hg
  have hll := lx
  simp only [lightB, List.all_cons, List.all_nil, Bool.and_true, Bool.and_eq_true, decide_eq_true_eq] at hll
  have HP := Lib.hid (cut_put (w := wx) (n0 := nK0) (n1 := nK1) (limC hx.nK0 (limC hx.nK1 limN)) )
  have hb := recGet_back [⟨0, nK0, []⟩, ⟨0, nK1, []⟩] (okC (okN hx.nK0) (okC (okN hx.nK1) okZ)) (ks := [0, 0]) rfl
  have hz : (recLay [⟨0, nK0, []⟩, ⟨0, nK1, []⟩]).length ≤ 1000000 := Nat.le_trans (recLay_len _) (Nat.le_of_ble_eq_true rfl)
  simp only [List.map_cons, List.map_nil, normN, normB, normD] at hb
  generalize recLay [⟨0, nK0, []⟩, ⟨0, nK1, []⟩] = z at HP hb hz
  have GX := Lib.hid hg
  have HQ := Lib.hid hK
  have HB := Lib.hid hb
  have HZ := Lib.hid hz
  clear hx lx hll hg hK hb hz
  refine wp_region_linT [(0, false), (1, false), (2, false), (3, false), (4, false), (5, false), (6, false), (7, false), (8, false), (9, false)] (by kernel_rfl) ?_
  refine wpOrdT_freesB [0] [.pointer (some ⟨g, 30, none⟩)] (rest := [(1, false), (2, false), (3, false), (4, false), (5, false), (6, false), (7, false), (8, false), (9, false)]) (by kernel_rfl) (by kernel_rfl) (by kernel_rfl) (.inr trivial) ?_
  refine wpOrdT_loadB (.tmp 57) (some 58) ⟨by kernel_rfl, by kernel_rfl, by kernel_rfl⟩ (load_part (off := 30) [.int .u64 nK0, .int .u64 nK1] (GX.out) Tryz.underlying40 rfl (by kernel_rfl) (by kernel_rfl)) (by kernel_rfl) (by kernel_rfl) (fun _ => trivial) ?_
  refine wpOrdT_call (some 59) ⟨by kernel_rfl, by kernel_rfl, by kernel_rfl⟩ HP.out (fun _ => by kernel_rfl) ?_
  rintro r w1 ⟨v1, rfl, o1, m1, f1⟩
  refine ⟨_, rfl, fun _ => trivial, ?_⟩
  refine wpOrdT_call (some 60) ⟨by kernel_rfl, by kernel_rfl, by kernel_rfl⟩ (cut_get o1.rd HZ.out) (fun _ => by kernel_rfl) ?_
  rintro r w2 ⟨n0, n1, e, rfl, hg2, m2⟩
  have hi := HB.out.symm.trans hg2
  simp only [Prod.mk.injEq, List.cons.injEq, Fld.mk.injEq, and_true, true_and] at hi
  obtain ⟨⟨rfl, rfl⟩, rfl⟩ := hi
  refine ⟨_, rfl, fun _ => trivial, ?_⟩
  have m12 := m1.then0 m2
  refine wpOrdT_freesB [4, 5, 6] [.tuple #[.agg #[.int .u64 nK0, .int .u64 nK1], .int .i64 0], .agg #[.int .u64 nK0, .int .u64 nK1], .int .i64 0] (rest := [(7, false), (8, false), (9, false)]) (by kernel_rfl) (by kernel_rfl) (by kernel_rfl) (.inr trivial) ?_
  refine wpOrdT_alloc (.cells #[.int .u64 0, .int .u64 0] 40) (some 11) ⟨by kernel_rfl, by kernel_rfl, by kernel_rfl⟩ (by kernel_rfl) ?_
  intro kk w3 hk h3 m3 l3
  refine ⟨fun _ => trivial, ?_⟩
  refine wpOrdT_store (off := 0) (ty := 40) (x := .tmp 11) (y := .tmp 61) (cells := #[.int .u64 nK0, .int .u64 nK1]) #[.int .u64 nK0, .int .u64 nK1] none ⟨by kernel_rfl, by kernel_rfl, by kernel_rfl⟩ (by kernel_rfl) (by kernel_rfl) (by kernel_rfl) h3 (by kernel_rfl) (by kernel_rfl) (allL (consAll rfl (consAll rfl (rfl : ([] : List Value).all (·.oneCell') = true)))) (by kernel_rfl) ?_
  intro w4 h4 m4 z4
  refine ⟨fun _ => trivial, ?_⟩
  have m34 := m3.trans m4 (U := noB) (fun _ _ x => x) (fun i hi x => by omega)
  have m14 := m12.then0 m34
  refine wpOrdT_freesB [9] [.int .i64 0] (rest := []) (by kernel_rfl) (by kernel_rfl) (by kernel_rfl) (.inr trivial) ?_
  exact wpOrdT_doneL (show K _ _ from act_is (by kernel_rfl) (HQ.out (.tuple #[.agg #[.int .u64 nK0, .int .u64 nK1], .int .i64 0]) (.pointer (some ⟨g, 30, none⟩)) (.agg #[.int .u64 nK0, .int .u64 nK1]) (v1) (.tuple #[.agg #[.int .u64 nK0, .int .u64 nK1], .int .i64 0]) (.agg #[.int .u64 nK0, .int .u64 nK1]) (.int .i64 0) kk w4 m14 h4))

set_option maxHeartbeats 4000000 in
theorem bk10 {w wx : World} {g : Nat} (x : Recs) (hx : x.At w) (lx : lightB x = true) (M : Mods noB w wx) (hg : wx.heap[g]? = some (.cells x.cells 46 (0, 0)))  (x0 x2 x3 x4 x5 x6 x7 x8 x9 x10 x11 x12 x13 x14 x15 x16 x17 x18 x19 x20 x21 x22 x23 x24 x25 x26 x27 x28 x29 x30 x31 x32 x33 x34 x35 x36 x37 x38 x39 x40 x41 x42 x43 x44 x45 x46 x47 x48 x49 x50 x51 x52 x53 x54 x55 x56 x57 x58 x59 x60 x61 x62 x63 x64 x65 x66 x67 x68 x69 x70 x71 x72 x73 x74 x75 x76 x77 x78 x79 x80 x81 x82 x83 x84 x85 x86 x87 x88 x89 x90 x91 x92 x93 x94 x95 x96 x97 x98 x99 x100 x101 x102 x103 x104 x105 x106 x107 x108 x109 x110 x111 x112 x113 x114 x115 x116 x117 x118 x119 x120 x121 x122 x123 x124 x125 x126 x127 x128 x129 x130 x131 x132 x133 x134 x135 x136 x137 x138 x139 x140 x141 x142 x143 x144 x145 x146 x147 x148 x149 x150 x151 x152 x153 x154 x155 x156 x157 x158 x159 x160 x161 x162 x163 x164 x165 x166 x167 x168 x169 x170 x171 x172 x173 x174 x175 x176 x177 x178 x179 x180 x181 x182 x183 x184 x185 x186 x187 x188 x189 x190 x191 x192 x193 x194 x195 x196 x197 x198 x199 x200 x201 x202 x203 x204 x205 x206 x207 x208 x209 x210 x211 x212 x213 x214 x215 x216 x217 x218 x219 x220 x221 x222 x223 x224 x225 x226 x227 x228 x229 x230 x231 x232 : Value) {K : Act → World → Prop} {Q : Exit → Act → World → Prop}
    (hK : ∀ (y63 y64 y65 y66 y67 y68 y69 : Value) (kk : Nat)  (w' : World), Mods noB wx w' → w'.heap[kk]? = some (.cells #[.int .u64 x.nU0, .int .u64 x.nU1, .int .u64 x.nU2, .int .u64 x.nU3, .int .u64 x.nU4, .int .u64 x.nU5] 42 (0, 0)) → K ⟨#[x0, .pointer (some ⟨g, 0, none⟩), x2, x3, x4, x5, x6, x7, x8, x9, x10, x11, x12, .pointer (some ⟨kk, 0, none⟩), .int .i64 0, x15, x16, x17, x18, x19, x20, x21, x22, x23, x24, x25, x26, x27, x28, x29, x30, x31, x32, x33, x34, x35, x36, x37, x38, x39, x40, x41, x42, x43, x44, x45, x46, x47, x48, x49, x50, x51, x52, x53, x54, x55, x56, x57, x58, x59, x60, x61, x62, y63, y64, y65, y66, y67, y68, y69, x70, x71, x72, x73, x74, x75, x76, x77, x78, x79, x80, x81, x82, x83, x84, x85, x86, x87, x88, x89, x90, x91, x92, x93, x94, x95, x96, x97, x98, x99, x100, x101, x102, x103, x104, x105, x106, x107, x108, x109, x110, x111, x112, x113, x114, x115, x116, x117, x118, x119, x120, x121, x122, x123, x124, x125, x126, x127, x128, x129, x130, x131, x132, x133, x134, x135, x136, x137, x138, x139, x140, x141, x142, x143, x144, x145, x146, x147, x148, x149, x150, x151, x152, x153, x154, x155, x156, x157, x158, x159, x160, x161, x162, x163, x164, x165, x166, x167, x168, x169, x170, x171, x172, x173, x174, x175, x176, x177, x178, x179, x180, x181, x182, x183, x184, x185, x186, x187, x188, x189, x190, x191, x192, x193, x194, x195, x196, x197, x198, x199, x200, x201, x202, x203, x204, x205, x206, x207, x208, x209, x210, x211, x212, x213, x214, x215, x216, x217, x218, x219, x220, x221, x222, x223, x224, x225, x226, x227, x228, x229, x230, x231, x232], []⟩ w') : Code.wp Tryz.prog (.region 10 (opsC 10 Tryz.f6) false) (Exit.then K Q) ⟨#[x0, .pointer (some ⟨g, 0, none⟩), x2, x3, x4, x5, x6, x7, x8, x9, x10, x11, x12, x13, x14, x15, x16, x17, x18, x19, x20, x21, x22, x23, x24, x25, x26, x27, x28, x29, x30, x31, x32, x33, x34, x35, x36, x37, x38, x39, x40, x41, x42, x43, x44, x45, x46, x47, x48, x49, x50, x51, x52, x53, x54, x55, x56, x57, x58, x59, x60, x61, x62, x63, x64, x65, x66, x67, x68, x69, x70, x71, x72, x73, x74, x75, x76, x77, x78, x79, x80, x81, x82, x83, x84, x85, x86, x87, x88, x89, x90, x91, x92, x93, x94, x95, x96, x97, x98, x99, x100, x101, x102, x103, x104, x105, x106, x107, x108, x109, x110, x111, x112, x113, x114, x115, x116, x117, x118, x119, x120, x121, x122, x123, x124, x125, x126, x127, x128, x129, x130, x131, x132, x133, x134, x135, x136, x137, x138, x139, x140, x141, x142, x143, x144, x145, x146, x147, x148, x149, x150, x151, x152, x153, x154, x155, x156, x157, x158, x159, x160, x161, x162, x163, x164, x165, x166, x167, x168, x169, x170, x171, x172, x173, x174, x175, x176, x177, x178, x179, x180, x181, x182, x183, x184, x185, x186, x187, x188, x189, x190, x191, x192, x193, x194, x195, x196, x197, x198, x199, x200, x201, x202, x203, x204, x205, x206, x207, x208, x209, x210, x211, x212, x213, x214, x215, x216, x217, x218, x219, x220, x221, x222, x223, x224, x225, x226, x227, x228, x229, x230, x231, x232], []⟩ wx := by
  obtain ⟨nP0, nP1, nP2, nP3, nP4, nP5, nP6, nP7, nP8, nP9, nC0, nC1, uD0, lD0, nA0, nA1, nV0, nV1, uV2, lV2, bV3, nV4, bV5, nV6, uV7, lV7, uV8, lV8, uV9, lV9, uG0, lG0, nG1, uG2, lG2, uH0, lH0, nH1, nK0, nK1, nU0, nU1, nU2, nU3, nU4, nU5, nM0, nM1, nM2, nM3, nM4, nM5, uM6, lM6, nN0⟩ := x
  unfold Recs.cells at hg
  simp only at hg
  have hll := lx
  simp only [lightB, List.all_cons, List.all_nil, Bool.and_true, Bool.and_eq_true, decide_eq_true_eq] at hll
  have HP := Lib.hid (unbonding_put (w := wx) (n0 := nU0) (n1 := nU1) (n2 := nU2) (n3 := nU3) (n4 := nU4) (n5 := nU5) (limC hx.nU0 (limC hx.nU1 (limC hx.nU2 (limC hx.nU3 (limC hx.nU4 (limC hx.nU5 limN)))))) )
  have hb := recGet_back [⟨0, nU0, []⟩, ⟨0, nU1, []⟩, ⟨0, nU2, []⟩, ⟨0, nU3, []⟩, ⟨0, nU4, []⟩, ⟨0, nU5, []⟩] (okC (okN hx.nU0) (okC (okN hx.nU1) (okC (okN hx.nU2) (okC (okN hx.nU3) (okC (okN hx.nU4) (okC (okN hx.nU5) okZ)))))) (ks := [0, 0, 0, 0, 0, 0]) rfl
  have hz : (recLay [⟨0, nU0, []⟩, ⟨0, nU1, []⟩, ⟨0, nU2, []⟩, ⟨0, nU3, []⟩, ⟨0, nU4, []⟩, ⟨0, nU5, []⟩]).length ≤ 1000000 := Nat.le_trans (recLay_len _) (Nat.le_of_ble_eq_true rfl)
  simp only [List.map_cons, List.map_nil, normN, normB, normD] at hb
  generalize recLay [⟨0, nU0, []⟩, ⟨0, nU1, []⟩, ⟨0, nU2, []⟩, ⟨0, nU3, []⟩, ⟨0, nU4, []⟩, ⟨0, nU5, []⟩] = z at HP hb hz
  have GX := Lib.hid hg
  have HQ := Lib.hid hK
  have HB := Lib.hid hb
  have HZ := Lib.hid hz
  clear hx lx hll hg hK hb hz
  refine wp_region_linT [(0, false), (1, false), (2, false), (3, false), (4, false), (5, false), (6, false), (7, false), (8, false), (9, false)] (by kernel_rfl) ?_
  refine wpOrdT_freesB [0] [.pointer (some ⟨g, 32, none⟩)] (rest := [(1, false), (2, false), (3, false), (4, false), (5, false), (6, false), (7, false), (8, false), (9, false)]) (by kernel_rfl) (by kernel_rfl) (by kernel_rfl) (.inr trivial) ?_
  refine wpOrdT_loadB (.tmp 64) (some 65) ⟨by kernel_rfl, by kernel_rfl, by kernel_rfl⟩ (load_part (off := 32) [.int .u64 nU0, .int .u64 nU1, .int .u64 nU2, .int .u64 nU3, .int .u64 nU4, .int .u64 nU5] (GX.out) Tryz.underlying42 rfl (by kernel_rfl) (by kernel_rfl)) (by kernel_rfl) (by kernel_rfl) (fun _ => trivial) ?_
  refine wpOrdT_call (some 66) ⟨by kernel_rfl, by kernel_rfl, by kernel_rfl⟩ HP.out (fun _ => by kernel_rfl) ?_
  rintro r w1 ⟨v1, rfl, o1, m1, f1⟩
  refine ⟨_, rfl, fun _ => trivial, ?_⟩
  refine wpOrdT_call (some 67) ⟨by kernel_rfl, by kernel_rfl, by kernel_rfl⟩ (unbonding_get o1.rd HZ.out) (fun _ => by kernel_rfl) ?_
  rintro r w2 ⟨n0, n1, n2, n3, n4, n5, e, rfl, hg2, m2⟩
  have hi := HB.out.symm.trans hg2
  simp only [Prod.mk.injEq, List.cons.injEq, Fld.mk.injEq, and_true, true_and] at hi
  obtain ⟨⟨rfl, rfl, rfl, rfl, rfl, rfl⟩, rfl⟩ := hi
  refine ⟨_, rfl, fun _ => trivial, ?_⟩
  have m12 := m1.then0 m2
  refine wpOrdT_freesB [4, 5, 6] [.tuple #[.agg #[.int .u64 nU0, .int .u64 nU1, .int .u64 nU2, .int .u64 nU3, .int .u64 nU4, .int .u64 nU5], .int .i64 0], .agg #[.int .u64 nU0, .int .u64 nU1, .int .u64 nU2, .int .u64 nU3, .int .u64 nU4, .int .u64 nU5], .int .i64 0] (rest := [(7, false), (8, false), (9, false)]) (by kernel_rfl) (by kernel_rfl) (by kernel_rfl) (.inr trivial) ?_
  refine wpOrdT_alloc (.cells #[.int .u64 0, .int .u64 0, .int .u64 0, .int .u64 0, .int .u64 0, .int .u64 0] 42) (some 13) ⟨by kernel_rfl, by kernel_rfl, by kernel_rfl⟩ (by kernel_rfl) ?_
  intro kk w3 hk h3 m3 l3
  refine ⟨fun _ => trivial, ?_⟩
  refine wpOrdT_store (off := 0) (ty := 42) (x := .tmp 13) (y := .tmp 68) (cells := #[.int .u64 nU0, .int .u64 nU1, .int .u64 nU2, .int .u64 nU3, .int .u64 nU4, .int .u64 nU5]) #[.int .u64 nU0, .int .u64 nU1, .int .u64 nU2, .int .u64 nU3, .int .u64 nU4, .int .u64 nU5] none ⟨by kernel_rfl, by kernel_rfl, by kernel_rfl⟩ (by kernel_rfl) (by kernel_rfl) (by kernel_rfl) h3 (by kernel_rfl) (by kernel_rfl) (allL (consAll rfl (consAll rfl (consAll rfl (consAll rfl (consAll rfl (consAll rfl (rfl : ([] : List Value).all (·.oneCell') = true)))))))) (by kernel_rfl) ?_
  intro w4 h4 m4 z4
  refine ⟨fun _ => trivial, ?_⟩
  have m34 := m3.trans m4 (U := noB) (fun _ _ x => x) (fun i hi x => by omega)
  have m14 := m12.then0 m34
  refine wpOrdT_freesB [9] [.int .i64 0] (rest := []) (by kernel_rfl) (by kernel_rfl) (by kernel_rfl) (.inr trivial) ?_
  exact wpOrdT_doneL (show K _ _ from act_is (by kernel_rfl) (HQ.out (.tuple #[.agg #[.int .u64 nU0, .int .u64 nU1, .int .u64 nU2, .int .u64 nU3, .int .u64 nU4, .int .u64 nU5], .int .i64 0]) (.pointer (some ⟨g, 32, none⟩)) (.agg #[.int .u64 nU0, .int .u64 nU1, .int .u64 nU2, .int .u64 nU3, .int .u64 nU4, .int .u64 nU5]) (v1) (.tuple #[.agg #[.int .u64 nU0, .int .u64 nU1, .int .u64 nU2, .int .u64 nU3, .int .u64 nU4, .int .u64 nU5], .int .i64 0]) (.agg #[.int .u64 nU0, .int .u64 nU1, .int .u64 nU2, .int .u64 nU3, .int .u64 nU4, .int .u64 nU5]) (.int .i64 0) kk w4 m14 h4))

set_option maxHeartbeats 4000000 in
theorem bk11 {w wx : World} {g : Nat} (x : Recs) (hx : x.At w) (lx : lightB x = true) (M : Mods noB w wx) (hg : wx.heap[g]? = some (.cells x.cells 46 (0, 0)))  (x0 x2 x3 x4 x5 x6 x7 x8 x9 x10 x11 x12 x13 x14 x15 x16 x17 x18 x19 x20 x21 x22 x23 x24 x25 x26 x27 x28 x29 x30 x31 x32 x33 x34 x35 x36 x37 x38 x39 x40 x41 x42 x43 x44 x45 x46 x47 x48 x49 x50 x51 x52 x53 x54 x55 x56 x57 x58 x59 x60 x61 x62 x63 x64 x65 x66 x67 x68 x69 x70 x71 x72 x73 x74 x75 x76 x77 x78 x79 x80 x81 x82 x83 x84 x85 x86 x87 x88 x89 x90 x91 x92 x93 x94 x95 x96 x97 x98 x99 x100 x101 x102 x103 x104 x105 x106 x107 x108 x109 x110 x111 x112 x113 x114 x115 x116 x117 x118 x119 x120 x121 x122 x123 x124 x125 x126 x127 x128 x129 x130 x131 x132 x133 x134 x135 x136 x137 x138 x139 x140 x141 x142 x143 x144 x145 x146 x147 x148 x149 x150 x151 x152 x153 x154 x155 x156 x157 x158 x159 x160 x161 x162 x163 x164 x165 x166 x167 x168 x169 x170 x171 x172 x173 x174 x175 x176 x177 x178 x179 x180 x181 x182 x183 x184 x185 x186 x187 x188 x189 x190 x191 x192 x193 x194 x195 x196 x197 x198 x199 x200 x201 x202 x203 x204 x205 x206 x207 x208 x209 x210 x211 x212 x213 x214 x215 x216 x217 x218 x219 x220 x221 x222 x223 x224 x225 x226 x227 x228 x229 x230 x231 x232 : Value) {K : Act → World → Prop} {Q : Exit → Act → World → Prop}
    (hK : ∀ (y70 y71 y72 y73 y74 y75 y76 : Value)  (w' : World), Mods noB wx w' → K ⟨#[x0, .pointer (some ⟨g, 0, none⟩), x2, x3, x4, x5, x6, x7, x8, x9, x10, x11, x12, x13, x14, .int .u64 x.nN0, .int .i64 0, x17, x18, x19, x20, x21, x22, x23, x24, x25, x26, x27, x28, x29, x30, x31, x32, x33, x34, x35, x36, x37, x38, x39, x40, x41, x42, x43, x44, x45, x46, x47, x48, x49, x50, x51, x52, x53, x54, x55, x56, x57, x58, x59, x60, x61, x62, x63, x64, x65, x66, x67, x68, x69, y70, y71, y72, y73, y74, y75, y76, x77, x78, x79, x80, x81, x82, x83, x84, x85, x86, x87, x88, x89, x90, x91, x92, x93, x94, x95, x96, x97, x98, x99, x100, x101, x102, x103, x104, x105, x106, x107, x108, x109, x110, x111, x112, x113, x114, x115, x116, x117, x118, x119, x120, x121, x122, x123, x124, x125, x126, x127, x128, x129, x130, x131, x132, x133, x134, x135, x136, x137, x138, x139, x140, x141, x142, x143, x144, x145, x146, x147, x148, x149, x150, x151, x152, x153, x154, x155, x156, x157, x158, x159, x160, x161, x162, x163, x164, x165, x166, x167, x168, x169, x170, x171, x172, x173, x174, x175, x176, x177, x178, x179, x180, x181, x182, x183, x184, x185, x186, x187, x188, x189, x190, x191, x192, x193, x194, x195, x196, x197, x198, x199, x200, x201, x202, x203, x204, x205, x206, x207, x208, x209, x210, x211, x212, x213, x214, x215, x216, x217, x218, x219, x220, x221, x222, x223, x224, x225, x226, x227, x228, x229, x230, x231, x232], []⟩ w') : Code.wp Tryz.prog (.region 11 (opsC 11 Tryz.f6) false) (Exit.then K Q) ⟨#[x0, .pointer (some ⟨g, 0, none⟩), x2, x3, x4, x5, x6, x7, x8, x9, x10, x11, x12, x13, x14, x15, x16, x17, x18, x19, x20, x21, x22, x23, x24, x25, x26, x27, x28, x29, x30, x31, x32, x33, x34, x35, x36, x37, x38, x39, x40, x41, x42, x43, x44, x45, x46, x47, x48, x49, x50, x51, x52, x53, x54, x55, x56, x57, x58, x59, x60, x61, x62, x63, x64, x65, x66, x67, x68, x69, x70, x71, x72, x73, x74, x75, x76, x77, x78, x79, x80, x81, x82, x83, x84, x85, x86, x87, x88, x89, x90, x91, x92, x93, x94, x95, x96, x97, x98, x99, x100, x101, x102, x103, x104, x105, x106, x107, x108, x109, x110, x111, x112, x113, x114, x115, x116, x117, x118, x119, x120, x121, x122, x123, x124, x125, x126, x127, x128, x129, x130, x131, x132, x133, x134, x135, x136, x137, x138, x139, x140, x141, x142, x143, x144, x145, x146, x147, x148, x149, x150, x151, x152, x153, x154, x155, x156, x157, x158, x159, x160, x161, x162, x163, x164, x165, x166, x167, x168, x169, x170, x171, x172, x173, x174, x175, x176, x177, x178, x179, x180, x181, x182, x183, x184, x185, x186, x187, x188, x189, x190, x191, x192, x193, x194, x195, x196, x197, x198, x199, x200, x201, x202, x203, x204, x205, x206, x207, x208, x209, x210, x211, x212, x213, x214, x215, x216, x217, x218, x219, x220, x221, x222, x223, x224, x225, x226, x227, x228, x229, x230, x231, x232], []⟩ wx := by
  obtain ⟨nP0, nP1, nP2, nP3, nP4, nP5, nP6, nP7, nP8, nP9, nC0, nC1, uD0, lD0, nA0, nA1, nV0, nV1, uV2, lV2, bV3, nV4, bV5, nV6, uV7, lV7, uV8, lV8, uV9, lV9, uG0, lG0, nG1, uG2, lG2, uH0, lH0, nH1, nK0, nK1, nU0, nU1, nU2, nU3, nU4, nU5, nM0, nM1, nM2, nM3, nM4, nM5, uM6, lM6, nN0⟩ := x
  unfold Recs.cells at hg
  simp only at hg
  have hll := lx
  simp only [lightB, List.all_cons, List.all_nil, Bool.and_true, Bool.and_eq_true, decide_eq_true_eq] at hll
  have HP := Lib.hid (one_put (w := wx) (n0 := nN0) (limC hx.nN0 limN) )
  have hb := recGet_back [⟨0, nN0, []⟩] (okC (okN hx.nN0) okZ) (ks := [0]) rfl
  have hz : (recLay [⟨0, nN0, []⟩]).length ≤ 1000000 := Nat.le_trans (recLay_len _) (Nat.le_of_ble_eq_true rfl)
  simp only [List.map_cons, List.map_nil, normN, normB, normD] at hb
  generalize recLay [⟨0, nN0, []⟩] = z at HP hb hz
  have GX := Lib.hid hg
  have HQ := Lib.hid hK
  have HB := Lib.hid hb
  have HZ := Lib.hid hz
  clear hx lx hll hg hK hb hz
  refine wp_region_linT [(0, false), (1, false), (2, false), (3, false), (4, false), (5, false), (6, false), (7, false), (8, false)] (by kernel_rfl) ?_
  refine wpOrdT_freesB [0] [.pointer (some ⟨g, 45, none⟩)] (rest := [(1, false), (2, false), (3, false), (4, false), (5, false), (6, false), (7, false), (8, false)]) (by kernel_rfl) (by kernel_rfl) (by kernel_rfl) (.inr trivial) ?_
  refine wpOrdT_loadB (.tmp 71) (some 72) ⟨by kernel_rfl, by kernel_rfl, by kernel_rfl⟩ (load_one (off := 45) (GX.out) Tryz.underlying22 rfl (v := .int .u64 nN0) (by kernel_rfl)) (by kernel_rfl) (by kernel_rfl) (fun _ => trivial) ?_
  refine wpOrdT_call (some 73) ⟨by kernel_rfl, by kernel_rfl, by kernel_rfl⟩ HP.out (fun _ => by kernel_rfl) ?_
  rintro r w1 ⟨v1, rfl, o1, m1, f1⟩
  refine ⟨_, rfl, fun _ => trivial, ?_⟩
  refine wpOrdT_call (some 74) ⟨by kernel_rfl, by kernel_rfl, by kernel_rfl⟩ (one_get o1.rd HZ.out) (fun _ => by kernel_rfl) ?_
  rintro r w2 ⟨n0, e, rfl, hg2, m2⟩
  have hi := HB.out.symm.trans hg2
  simp only [Prod.mk.injEq, List.cons.injEq, Fld.mk.injEq, and_true, true_and] at hi
  obtain ⟨rfl, rfl⟩ := hi
  refine ⟨_, rfl, fun _ => trivial, ?_⟩
  have m12 := m1.then0 m2
  refine wpOrdT_freesB [4, 5, 6, 7, 8] [.tuple #[.int .u64 nN0, .int .i64 0], .int .u64 nN0, .int .i64 0, .int .u64 nN0, .int .i64 0] (rest := []) (by kernel_rfl) (by kernel_rfl) (by kernel_rfl) (.inr trivial) ?_
  exact wpOrdT_doneL (show K _ _ from act_is (by kernel_rfl) (HQ.out (.tuple #[.int .u64 nN0, .int .i64 0]) (.pointer (some ⟨g, 45, none⟩)) (.int .u64 nN0) (v1) (.tuple #[.int .u64 nN0, .int .i64 0]) (.int .u64 nN0) (.int .i64 0) w2 m12))

set_option maxHeartbeats 4000000 in
theorem bk14 {w wx : World} {g : Nat} (x : Recs) (hx : x.At w) (lx : lightB x = true) (M : Mods noB w wx) (hg : wx.heap[g]? = some (.cells x.cells 46 (0, 0)))  (x0 x2 x3 x4 x5 x6 x7 x8 x9 x10 x11 x12 x13 x14 x15 x16 x17 x18 x19 x20 x21 x22 x23 x24 x25 x26 x27 x28 x29 x30 x31 x32 x33 x34 x35 x36 x37 x38 x39 x40 x41 x42 x43 x44 x45 x46 x47 x48 x49 x50 x51 x52 x53 x54 x55 x56 x57 x58 x59 x60 x61 x62 x63 x64 x65 x66 x67 x68 x69 x70 x71 x72 x73 x74 x75 x76 x77 x78 x79 x80 x81 x82 x83 x84 x85 x86 x87 x88 x89 x90 x91 x92 x93 x94 x95 x96 x97 x98 x99 x100 x101 x102 x103 x104 x105 x106 x107 x108 x109 x110 x111 x112 x113 x114 x115 x116 x117 x118 x119 x120 x121 x122 x123 x124 x125 x126 x127 x128 x129 x130 x131 x132 x133 x134 x135 x136 x137 x138 x139 x140 x141 x142 x143 x144 x145 x146 x147 x148 x149 x150 x151 x152 x153 x154 x155 x156 x157 x158 x159 x160 x161 x162 x163 x164 x165 x166 x167 x168 x169 x170 x171 x172 x173 x174 x175 x176 x177 x178 x179 x180 x181 x182 x183 x184 x185 x186 x187 x188 x189 x190 x191 x192 x193 x194 x195 x196 x197 x198 x199 x200 x201 x202 x203 x204 x205 x206 x207 x208 x209 x210 x211 x212 x213 x214 x215 x216 x217 x218 x219 x220 x221 x222 x223 x224 x225 x226 x227 x228 x229 x230 x231 x232 : Value) {K : Act → World → Prop} {Q : Exit → Act → World → Prop}
    (hK : ∀ (y135 y136 y137 y138 y139 y140 y141 : Value) (kk : Nat) (sV2 sV7 sV8 sV9 : Value) (w' : World), Mods noB wx w' → w'.heap[kk]? = some (.cells #[.int .u64 x.nV0, .int .u64 x.nV1, sV2, .bool x.bV3, .int .u64 x.nV4, .bool x.bV5, .int .u64 x.nV6, sV7, sV8, sV9] 34 (0, 0)) → RN w' sV2 (normL x.lV2) → RN w' sV7 (normL x.lV7) → RN w' sV8 (normL x.lV8) → RN w' sV9 (normL x.lV9) → K ⟨#[x0, .pointer (some ⟨g, 0, none⟩), x2, x3, .int .i64 0, x5, x6, x7, x8, x9, x10, x11, x12, x13, x14, x15, x16, .pointer (some ⟨kk, 0, none⟩), x18, x19, x20, x21, x22, x23, x24, x25, x26, x27, x28, x29, x30, x31, x32, x33, x34, x35, x36, x37, x38, x39, x40, x41, x42, x43, x44, x45, x46, x47, x48, x49, x50, x51, x52, x53, x54, x55, x56, x57, x58, x59, x60, x61, x62, x63, x64, x65, x66, x67, x68, x69, x70, x71, x72, x73, x74, x75, x76, x77, x78, x79, x80, x81, x82, x83, x84, x85, x86, x87, x88, x89, x90, x91, x92, x93, x94, x95, x96, x97, x98, x99, x100, x101, x102, x103, x104, x105, x106, x107, x108, x109, x110, x111, x112, x113, x114, x115, x116, x117, x118, x119, x120, x121, x122, x123, x124, x125, x126, x127, x128, x129, x130, x131, x132, x133, x134, y135, y136, y137, y138, y139, y140, y141, x142, x143, x144, x145, x146, x147, x148, x149, x150, x151, x152, x153, x154, x155, x156, x157, x158, x159, x160, x161, x162, x163, x164, x165, x166, x167, x168, x169, x170, x171, x172, x173, x174, x175, x176, x177, x178, x179, x180, x181, x182, x183, x184, x185, x186, x187, x188, x189, x190, x191, x192, x193, x194, x195, x196, x197, x198, x199, x200, x201, x202, x203, x204, x205, x206, x207, x208, x209, x210, x211, x212, x213, x214, x215, x216, x217, x218, x219, x220, x221, x222, x223, x224, x225, x226, x227, x228, x229, x230, x231, x232], []⟩ w') : Code.wp Tryz.prog (.region 14 (opsC 14 Tryz.f6) false) (Exit.then K Q) ⟨#[x0, .pointer (some ⟨g, 0, none⟩), x2, x3, x4, x5, x6, x7, x8, x9, x10, x11, x12, x13, x14, x15, x16, x17, x18, x19, x20, x21, x22, x23, x24, x25, x26, x27, x28, x29, x30, x31, x32, x33, x34, x35, x36, x37, x38, x39, x40, x41, x42, x43, x44, x45, x46, x47, x48, x49, x50, x51, x52, x53, x54, x55, x56, x57, x58, x59, x60, x61, x62, x63, x64, x65, x66, x67, x68, x69, x70, x71, x72, x73, x74, x75, x76, x77, x78, x79, x80, x81, x82, x83, x84, x85, x86, x87, x88, x89, x90, x91, x92, x93, x94, x95, x96, x97, x98, x99, x100, x101, x102, x103, x104, x105, x106, x107, x108, x109, x110, x111, x112, x113, x114, x115, x116, x117, x118, x119, x120, x121, x122, x123, x124, x125, x126, x127, x128, x129, x130, x131, x132, x133, x134, x135, x136, x137, x138, x139, x140, x141, x142, x143, x144, x145, x146, x147, x148, x149, x150, x151, x152, x153, x154, x155, x156, x157, x158, x159, x160, x161, x162, x163, x164, x165, x166, x167, x168, x169, x170, x171, x172, x173, x174, x175, x176, x177, x178, x179, x180, x181, x182, x183, x184, x185, x186, x187, x188, x189, x190, x191, x192, x193, x194, x195, x196, x197, x198, x199, x200, x201, x202, x203, x204, x205, x206, x207, x208, x209, x210, x211, x212, x213, x214, x215, x216, x217, x218, x219, x220, x221, x222, x223, x224, x225, x226, x227, x228, x229, x230, x231, x232], []⟩ wx := by
  obtain ⟨nP0, nP1, nP2, nP3, nP4, nP5, nP6, nP7, nP8, nP9, nC0, nC1, uD0, lD0, nA0, nA1, nV0, nV1, uV2, lV2, bV3, nV4, bV5, nV6, uV7, lV7, uV8, lV8, uV9, lV9, uG0, lG0, nG1, uG2, lG2, uH0, lH0, nH1, nK0, nK1, nU0, nU1, nU2, nU3, nU4, nU5, nM0, nM1, nM2, nM3, nM4, nM5, uM6, lM6, nN0⟩ := x
  unfold Recs.cells at hg
  simp only at hg
  have hll := lx
  simp only [lightB, List.all_cons, List.all_nil, Bool.and_true, Bool.and_eq_true, decide_eq_true_eq] at hll
  have HP := Lib.hid (val_put (w := wx) (n0 := nV0) (n1 := nV1) (b3 := bV3) (n4 := nV4) (b5 := bV5) (n6 := nV6) (limC hx.nV0 (limC hx.nV1 (limC hx.nV4 (limC hx.nV6 limN)))) (DN.keep (w := w) ⟨hx.dV2.1, hx.dV2.2.1, Nat.le_trans (hll.2.1) (by omega)⟩ M) (DN.keep (w := w) ⟨hx.dV7.1, hx.dV7.2.1, Nat.le_trans (hll.2.2.1) (by omega)⟩ M) (DN.keep (w := w) ⟨hx.dV8.1, hx.dV8.2.1, Nat.le_trans (hll.2.2.2.1) (by omega)⟩ M) (DN.keep (w := w) ⟨hx.dV9.1, hx.dV9.2.1, Nat.le_trans (hll.2.2.2.2.1) (by omega)⟩ M))
  have hb := recGet_back [⟨0, nV0, []⟩, ⟨0, nV1, []⟩, ⟨2, 0, lV2⟩, ⟨1, if bV3 then 1 else 0, []⟩, ⟨0, nV4, []⟩, ⟨1, if bV5 then 1 else 0, []⟩, ⟨0, nV6, []⟩, ⟨2, 0, lV7⟩, ⟨2, 0, lV8⟩, ⟨2, 0, lV9⟩] (okC (okN hx.nV0) (okC (okN hx.nV1) (okC (okD hx.dV2.2.1) (okC (okB bV3) (okC (okN hx.nV4) (okC (okB bV5) (okC (okN hx.nV6) (okC (okD hx.dV7.2.1) (okC (okD hx.dV8.2.1) (okC (okD hx.dV9.2.1) okZ)))))))))) (ks := [0, 0, 2, 1, 0, 1, 0, 2, 2, 2]) rfl
  have hz : (recLay [⟨0, nV0, []⟩, ⟨0, nV1, []⟩, ⟨2, 0, lV2⟩, ⟨1, if bV3 then 1 else 0, []⟩, ⟨0, nV4, []⟩, ⟨1, if bV5 then 1 else 0, []⟩, ⟨0, nV6, []⟩, ⟨2, 0, lV7⟩, ⟨2, 0, lV8⟩, ⟨2, 0, lV9⟩]).length ≤ 1000000 := Nat.le_trans (recLay_len _) (Nat.le_of_ble_eq_true rfl)
  simp only [List.map_cons, List.map_nil, normN, normB, normD] at hb
  generalize recLay [⟨0, nV0, []⟩, ⟨0, nV1, []⟩, ⟨2, 0, lV2⟩, ⟨1, if bV3 then 1 else 0, []⟩, ⟨0, nV4, []⟩, ⟨1, if bV5 then 1 else 0, []⟩, ⟨0, nV6, []⟩, ⟨2, 0, lV7⟩, ⟨2, 0, lV8⟩, ⟨2, 0, lV9⟩] = z at HP hb hz
  have GX := Lib.hid hg
  have HQ := Lib.hid hK
  have HB := Lib.hid hb
  have HZ := Lib.hid hz
  clear hx lx hll hg hK hb hz
  refine wp_region_linT [(0, false), (1, false), (2, false), (3, false), (4, false), (5, false), (6, false), (7, false), (8, false), (9, false)] (by kernel_rfl) ?_
  refine wpOrdT_freesB [0] [.pointer (some ⟨g, 15, none⟩)] (rest := [(1, false), (2, false), (3, false), (4, false), (5, false), (6, false), (7, false), (8, false), (9, false)]) (by kernel_rfl) (by kernel_rfl) (by kernel_rfl) (.inr trivial) ?_
  refine wpOrdT_loadB (.tmp 136) (some 137) ⟨by kernel_rfl, by kernel_rfl, by kernel_rfl⟩ (load_part (off := 15) [.int .u64 nV0, .int .u64 nV1, uV2, .bool bV3, .int .u64 nV4, .bool bV5, .int .u64 nV6, uV7, uV8, uV9] (GX.out) Tryz.underlying34 rfl (by kernel_rfl) (by kernel_rfl)) (by kernel_rfl) (by kernel_rfl) (fun _ => trivial) ?_
  refine wpOrdT_call (some 138) ⟨by kernel_rfl, by kernel_rfl, by kernel_rfl⟩ HP.out (fun _ => by kernel_rfl) ?_
  rintro r w1 ⟨v1, rfl, o1, m1, f1⟩
  refine ⟨_, rfl, fun _ => trivial, ?_⟩
  refine wpOrdT_call (some 139) ⟨by kernel_rfl, by kernel_rfl, by kernel_rfl⟩ (val_get o1.rd HZ.out) (fun _ => by kernel_rfl) ?_
  rintro r w2 ⟨n0, n1, n4, n6, b3, b5, sV2, sV7, sV8, sV9, l2, l7, l8, l9, e, rfl, hg2, m2, ⟨e2, f2⟩, ⟨e7, f7⟩, ⟨e8, f8⟩, ⟨e9, f9⟩⟩
  have hi := HB.out.symm.trans hg2
  simp only [Prod.mk.injEq, List.cons.injEq, Fld.mk.injEq, and_true, true_and] at hi
  obtain ⟨⟨rfl, rfl, rfl, hb3, rfl, hb5, rfl, rfl, rfl, rfl⟩, rfl⟩ := hi
  obtain rfl := ifb hb3
  obtain rfl := ifb hb5
  have oV2 := rn_one e2
  have oV7 := rn_one e7
  have oV8 := rn_one e8
  have oV9 := rn_one e9
  refine ⟨_, rfl, fun _ => trivial, ?_⟩
  have m12 := m1.then0 m2
  refine wpOrdT_freesB [4, 5, 6] [.tuple #[.agg #[.int .u64 nV0, .int .u64 nV1, sV2, .bool bV3, .int .u64 nV4, .bool bV5, .int .u64 nV6, sV7, sV8, sV9], .int .i64 0], .agg #[.int .u64 nV0, .int .u64 nV1, sV2, .bool bV3, .int .u64 nV4, .bool bV5, .int .u64 nV6, sV7, sV8, sV9], .int .i64 0] (rest := [(7, false), (8, false), (9, false)]) (by kernel_rfl) (by kernel_rfl) (by kernel_rfl) (.inr trivial) ?_
  refine wpOrdT_alloc (.cells #[.int .u64 0, .int .u64 0, .slice none 0 0, .bool false, .int .u64 0, .bool false, .int .u64 0, .slice none 0 0, .slice none 0 0, .slice none 0 0] 34) (some 17) ⟨by kernel_rfl, by kernel_rfl, by kernel_rfl⟩ (by kernel_rfl) ?_
  intro kk w3 hk h3 m3 l3
  refine ⟨fun _ => trivial, ?_⟩
  refine wpOrdT_store (off := 0) (ty := 34) (x := .tmp 17) (y := .tmp 140) (cells := #[.int .u64 nV0, .int .u64 nV1, sV2, .bool bV3, .int .u64 nV4, .bool bV5, .int .u64 nV6, sV7, sV8, sV9]) #[.int .u64 nV0, .int .u64 nV1, sV2, .bool bV3, .int .u64 nV4, .bool bV5, .int .u64 nV6, sV7, sV8, sV9] none ⟨by kernel_rfl, by kernel_rfl, by kernel_rfl⟩ (by kernel_rfl) (by kernel_rfl) (by kernel_rfl) h3 (by kernel_rfl) (by kernel_rfl) (allL (consAll rfl (consAll rfl (consAll oV2 (consAll rfl (consAll rfl (consAll rfl (consAll rfl (consAll oV7 (consAll oV8 (consAll oV9 (rfl : ([] : List Value).all (·.oneCell') = true)))))))))))) (by kernel_rfl) ?_
  intro w4 h4 m4 z4
  refine ⟨fun _ => trivial, ?_⟩
  have m34 := m3.trans m4 (U := noB) (fun _ _ x => x) (fun i hi x => by omega)
  have m14 := m12.then0 m34
  refine wpOrdT_freesB [9] [.int .i64 0] (rest := []) (by kernel_rfl) (by kernel_rfl) (by kernel_rfl) (.inr trivial) ?_
  exact wpOrdT_doneL (show K _ _ from act_is (by kernel_rfl) (HQ.out (.tuple #[.agg #[.int .u64 nV0, .int .u64 nV1, sV2, .bool bV3, .int .u64 nV4, .bool bV5, .int .u64 nV6, sV7, sV8, sV9], .int .i64 0]) (.pointer (some ⟨g, 15, none⟩)) (.agg #[.int .u64 nV0, .int .u64 nV1, uV2, .bool bV3, .int .u64 nV4, .bool bV5, .int .u64 nV6, uV7, uV8, uV9]) (v1) (.tuple #[.agg #[.int .u64 nV0, .int .u64 nV1, sV2, .bool bV3, .int .u64 nV4, .bool bV5, .int .u64 nV6, sV7, sV8, sV9], .int .i64 0]) (.agg #[.int .u64 nV0, .int .u64 nV1, sV2, .bool bV3, .int .u64 nV4, .bool bV5, .int .u64 nV6, sV7, sV8, sV9]) (.int .i64 0) kk sV2 sV7 sV8 sV9 w4 m14 h4 (e2.keep m34 (fun _ _ x => x)) (e7.keep m34 (fun _ _ x => x)) (e8.keep m34 (fun _ _ x => x)) (e9.keep m34 (fun _ _ x => x))))

set_option maxHeartbeats 4000000 in
theorem bk15 {w wx : World} {g : Nat} (x : Recs) (hx : x.At w) (lx : lightB x = true) (M : Mods noB w wx) (hg : wx.heap[g]? = some (.cells x.cells 46 (0, 0)))  (x0 x2 x3 x4 x5 x6 x7 x8 x9 x10 x11 x12 x13 x14 x15 x16 x17 x18 x19 x20 x21 x22 x23 x24 x25 x26 x27 x28 x29 x30 x31 x32 x33 x34 x35 x36 x37 x38 x39 x40 x41 x42 x43 x44 x45 x46 x47 x48 x49 x50 x51 x52 x53 x54 x55 x56 x57 x58 x59 x60 x61 x62 x63 x64 x65 x66 x67 x68 x69 x70 x71 x72 x73 x74 x75 x76 x77 x78 x79 x80 x81 x82 x83 x84 x85 x86 x87 x88 x89 x90 x91 x92 x93 x94 x95 x96 x97 x98 x99 x100 x101 x102 x103 x104 x105 x106 x107 x108 x109 x110 x111 x112 x113 x114 x115 x116 x117 x118 x119 x120 x121 x122 x123 x124 x125 x126 x127 x128 x129 x130 x131 x132 x133 x134 x135 x136 x137 x138 x139 x140 x141 x142 x143 x144 x145 x146 x147 x148 x149 x150 x151 x152 x153 x154 x155 x156 x157 x158 x159 x160 x161 x162 x163 x164 x165 x166 x167 x168 x169 x170 x171 x172 x173 x174 x175 x176 x177 x178 x179 x180 x181 x182 x183 x184 x185 x186 x187 x188 x189 x190 x191 x192 x193 x194 x195 x196 x197 x198 x199 x200 x201 x202 x203 x204 x205 x206 x207 x208 x209 x210 x211 x212 x213 x214 x215 x216 x217 x218 x219 x220 x221 x222 x223 x224 x225 x226 x227 x228 x229 x230 x231 x232 : Value) {K : Act → World → Prop} {Q : Exit → Act → World → Prop}
    (hK : ∀ (y142 y143 y144 y145 y146 y147 y148 : Value) (kk : Nat) (sG0 sG2 : Value) (w' : World), Mods noB wx w' → w'.heap[kk]? = some (.cells #[sG0, .int .u64 x.nG1, sG2] 36 (0, 0)) → RN w' sG0 (normL x.lG0) → RN w' sG2 (normL x.lG2) → K ⟨#[x0, .pointer (some ⟨g, 0, none⟩), x2, x3, x4, x5, .int .i64 0, x7, x8, x9, x10, x11, x12, x13, x14, x15, x16, x17, .pointer (some ⟨kk, 0, none⟩), x19, x20, x21, x22, x23, x24, x25, x26, x27, x28, x29, x30, x31, x32, x33, x34, x35, x36, x37, x38, x39, x40, x41, x42, x43, x44, x45, x46, x47, x48, x49, x50, x51, x52, x53, x54, x55, x56, x57, x58, x59, x60, x61, x62, x63, x64, x65, x66, x67, x68, x69, x70, x71, x72, x73, x74, x75, x76, x77, x78, x79, x80, x81, x82, x83, x84, x85, x86, x87, x88, x89, x90, x91, x92, x93, x94, x95, x96, x97, x98, x99, x100, x101, x102, x103, x104, x105, x106, x107, x108, x109, x110, x111, x112, x113, x114, x115, x116, x117, x118, x119, x120, x121, x122, x123, x124, x125, x126, x127, x128, x129, x130, x131, x132, x133, x134, x135, x136, x137, x138, x139, x140, x141, y142, y143, y144, y145, y146, y147, y148, x149, x150, x151, x152, x153, x154, x155, x156, x157, x158, x159, x160, x161, x162, x163, x164, x165, x166, x167, x168, x169, x170, x171, x172, x173, x174, x175, x176, x177, x178, x179, x180, x181, x182, x183, x184, x185, x186, x187, x188, x189, x190, x191, x192, x193, x194, x195, x196, x197, x198, x199, x200, x201, x202, x203, x204, x205, x206, x207, x208, x209, x210, x211, x212, x213, x214, x215, x216, x217, x218, x219, x220, x221, x222, x223, x224, x225, x226, x227, x228, x229, x230, x231, x232], []⟩ w') : Code.wp Tryz.prog (.region 15 (opsC 15 Tryz.f6) false) (Exit.then K Q) ⟨#[x0, .pointer (some ⟨g, 0, none⟩), x2, x3, x4, x5, x6, x7, x8, x9, x10, x11, x12, x13, x14, x15, x16, x17, x18, x19, x20, x21, x22, x23, x24, x25, x26, x27, x28, x29, x30, x31, x32, x33, x34, x35, x36, x37, x38, x39, x40, x41, x42, x43, x44, x45, x46, x47, x48, x49, x50, x51, x52, x53, x54, x55, x56, x57, x58, x59, x60, x61, x62, x63, x64, x65, x66, x67, x68, x69, x70, x71, x72, x73, x74, x75, x76, x77, x78, x79, x80, x81, x82, x83, x84, x85, x86, x87, x88, x89, x90, x91, x92, x93, x94, x95, x96, x97, x98, x99, x100, x101, x102, x103, x104, x105, x106, x107, x108, x109, x110, x111, x112, x113, x114, x115, x116, x117, x118, x119, x120, x121, x122, x123, x124, x125, x126, x127, x128, x129, x130, x131, x132, x133, x134, x135, x136, x137, x138, x139, x140, x141, x142, x143, x144, x145, x146, x147, x148, x149, x150, x151, x152, x153, x154, x155, x156, x157, x158, x159, x160, x161, x162, x163, x164, x165, x166, x167, x168, x169, x170, x171, x172, x173, x174, x175, x176, x177, x178, x179, x180, x181, x182, x183, x184, x185, x186, x187, x188, x189, x190, x191, x192, x193, x194, x195, x196, x197, x198, x199, x200, x201, x202, x203, x204, x205, x206, x207, x208, x209, x210, x211, x212, x213, x214, x215, x216, x217, x218, x219, x220, x221, x222, x223, x224, x225, x226, x227, x228, x229, x230, x231, x232], []⟩ wx := by
  obtain ⟨nP0, nP1, nP2, nP3, nP4, nP5, nP6, nP7, nP8, nP9, nC0, nC1, uD0, lD0, nA0, nA1, nV0, nV1, uV2, lV2, bV3, nV4, bV5, nV6, uV7, lV7, uV8, lV8, uV9, lV9, uG0, lG0, nG1, uG2, lG2, uH0, lH0, nH1, nK0, nK1, nU0, nU1, nU2, nU3, nU4, nU5, nM0, nM1, nM2, nM3, nM4, nM5, uM6, lM6, nN0⟩ := x
  unfold Recs.cells at hg
  simp only at hg
  have hll := lx
  simp only [lightB, List.all_cons, List.all_nil, Bool.and_true, Bool.and_eq_true, decide_eq_true_eq] at hll
  have HP := Lib.hid (delegation_put (w := wx) (n1 := nG1) (limC hx.nG1 limN) (DN.keep (w := w) ⟨hx.dG0.1, hx.dG0.2.1, Nat.le_trans (hll.2.2.2.2.2.1) (by omega)⟩ M) (DN.keep (w := w) ⟨hx.dG2.1, hx.dG2.2.1, Nat.le_trans (hll.2.2.2.2.2.2.1) (by omega)⟩ M))
  have hb := recGet_back [⟨2, 0, lG0⟩, ⟨0, nG1, []⟩, ⟨2, 0, lG2⟩] (okC (okD hx.dG0.2.1) (okC (okN hx.nG1) (okC (okD hx.dG2.2.1) okZ))) (ks := [2, 0, 2]) rfl
  have hz : (recLay [⟨2, 0, lG0⟩, ⟨0, nG1, []⟩, ⟨2, 0, lG2⟩]).length ≤ 1000000 := Nat.le_trans (recLay_len _) (Nat.le_of_ble_eq_true rfl)
  simp only [List.map_cons, List.map_nil, normN, normB, normD] at hb
  generalize recLay [⟨2, 0, lG0⟩, ⟨0, nG1, []⟩, ⟨2, 0, lG2⟩] = z at HP hb hz
  have GX := Lib.hid hg
  have HQ := Lib.hid hK
  have HB := Lib.hid hb
  have HZ := Lib.hid hz
  clear hx lx hll hg hK hb hz
  refine wp_region_linT [(0, false), (1, false), (2, false), (3, false), (4, false), (5, false), (6, false), (7, false), (8, false), (9, false)] (by kernel_rfl) ?_
  refine wpOrdT_freesB [0] [.pointer (some ⟨g, 25, none⟩)] (rest := [(1, false), (2, false), (3, false), (4, false), (5, false), (6, false), (7, false), (8, false), (9, false)]) (by kernel_rfl) (by kernel_rfl) (by kernel_rfl) (.inr trivial) ?_
  refine wpOrdT_loadB (.tmp 143) (some 144) ⟨by kernel_rfl, by kernel_rfl, by kernel_rfl⟩ (load_part (off := 25) [uG0, .int .u64 nG1, uG2] (GX.out) Tryz.underlying36 rfl (by kernel_rfl) (by kernel_rfl)) (by kernel_rfl) (by kernel_rfl) (fun _ => trivial) ?_
  refine wpOrdT_call (some 145) ⟨by kernel_rfl, by kernel_rfl, by kernel_rfl⟩ HP.out (fun _ => by kernel_rfl) ?_
  rintro r w1 ⟨v1, rfl, o1, m1, f1⟩
  refine ⟨_, rfl, fun _ => trivial, ?_⟩
  refine wpOrdT_call (some 146) ⟨by kernel_rfl, by kernel_rfl, by kernel_rfl⟩ (delegation_get o1.rd HZ.out) (fun _ => by kernel_rfl) ?_
  rintro r w2 ⟨n1, sG0, sG2, l0, l2, e, rfl, hg2, m2, ⟨e0, f0⟩, ⟨e2, f2⟩⟩
  have hi := HB.out.symm.trans hg2
  simp only [Prod.mk.injEq, List.cons.injEq, Fld.mk.injEq, and_true, true_and] at hi
  obtain ⟨⟨rfl, rfl, rfl⟩, rfl⟩ := hi
  have oG0 := rn_one e0
  have oG2 := rn_one e2
  refine ⟨_, rfl, fun _ => trivial, ?_⟩
  have m12 := m1.then0 m2
  refine wpOrdT_freesB [4, 5, 6] [.tuple #[.agg #[sG0, .int .u64 nG1, sG2], .int .i64 0], .agg #[sG0, .int .u64 nG1, sG2], .int .i64 0] (rest := [(7, false), (8, false), (9, false)]) (by kernel_rfl) (by kernel_rfl) (by kernel_rfl) (.inr trivial) ?_
  refine wpOrdT_alloc (.cells #[.slice none 0 0, .int .u64 0, .slice none 0 0] 36) (some 18) ⟨by kernel_rfl, by kernel_rfl, by kernel_rfl⟩ (by kernel_rfl) ?_
  intro kk w3 hk h3 m3 l3
  refine ⟨fun _ => trivial, ?_⟩
  refine wpOrdT_store (off := 0) (ty := 36) (x := .tmp 18) (y := .tmp 147) (cells := #[sG0, .int .u64 nG1, sG2]) #[sG0, .int .u64 nG1, sG2] none ⟨by kernel_rfl, by kernel_rfl, by kernel_rfl⟩ (by kernel_rfl) (by kernel_rfl) (by kernel_rfl) h3 (by kernel_rfl) (by kernel_rfl) (allL (consAll oG0 (consAll rfl (consAll oG2 (rfl : ([] : List Value).all (·.oneCell') = true))))) (by kernel_rfl) ?_
  intro w4 h4 m4 z4
  refine ⟨fun _ => trivial, ?_⟩
  have m34 := m3.trans m4 (U := noB) (fun _ _ x => x) (fun i hi x => by omega)
  have m14 := m12.then0 m34
  refine wpOrdT_freesB [9] [.int .i64 0] (rest := []) (by kernel_rfl) (by kernel_rfl) (by kernel_rfl) (.inr trivial) ?_
  exact wpOrdT_doneL (show K _ _ from act_is (by kernel_rfl) (HQ.out (.tuple #[.agg #[sG0, .int .u64 nG1, sG2], .int .i64 0]) (.pointer (some ⟨g, 25, none⟩)) (.agg #[uG0, .int .u64 nG1, uG2]) (v1) (.tuple #[.agg #[sG0, .int .u64 nG1, sG2], .int .i64 0]) (.agg #[sG0, .int .u64 nG1, sG2]) (.int .i64 0) kk sG0 sG2 w4 m14 h4 (e0.keep m34 (fun _ _ x => x)) (e2.keep m34 (fun _ _ x => x))))

set_option maxHeartbeats 4000000 in
theorem bk16 {w wx : World} {g : Nat} (x : Recs) (hx : x.At w) (lx : lightB x = true) (M : Mods noB w wx) (hg : wx.heap[g]? = some (.cells x.cells 46 (0, 0)))  (x0 x2 x3 x4 x5 x6 x7 x8 x9 x10 x11 x12 x13 x14 x15 x16 x17 x18 x19 x20 x21 x22 x23 x24 x25 x26 x27 x28 x29 x30 x31 x32 x33 x34 x35 x36 x37 x38 x39 x40 x41 x42 x43 x44 x45 x46 x47 x48 x49 x50 x51 x52 x53 x54 x55 x56 x57 x58 x59 x60 x61 x62 x63 x64 x65 x66 x67 x68 x69 x70 x71 x72 x73 x74 x75 x76 x77 x78 x79 x80 x81 x82 x83 x84 x85 x86 x87 x88 x89 x90 x91 x92 x93 x94 x95 x96 x97 x98 x99 x100 x101 x102 x103 x104 x105 x106 x107 x108 x109 x110 x111 x112 x113 x114 x115 x116 x117 x118 x119 x120 x121 x122 x123 x124 x125 x126 x127 x128 x129 x130 x131 x132 x133 x134 x135 x136 x137 x138 x139 x140 x141 x142 x143 x144 x145 x146 x147 x148 x149 x150 x151 x152 x153 x154 x155 x156 x157 x158 x159 x160 x161 x162 x163 x164 x165 x166 x167 x168 x169 x170 x171 x172 x173 x174 x175 x176 x177 x178 x179 x180 x181 x182 x183 x184 x185 x186 x187 x188 x189 x190 x191 x192 x193 x194 x195 x196 x197 x198 x199 x200 x201 x202 x203 x204 x205 x206 x207 x208 x209 x210 x211 x212 x213 x214 x215 x216 x217 x218 x219 x220 x221 x222 x223 x224 x225 x226 x227 x228 x229 x230 x231 x232 : Value) {K : Act → World → Prop} {Q : Exit → Act → World → Prop}
    (hK : ∀ (y149 y150 y151 y152 y153 y154 y155 : Value) (kk : Nat) (sH0 : Value) (w' : World), Mods noB wx w' → w'.heap[kk]? = some (.cells #[sH0, .int .u64 x.nH1] 38 (0, 0)) → RN w' sH0 (normL x.lH0) → K ⟨#[x0, .pointer (some ⟨g, 0, none⟩), x2, x3, x4, x5, x6, x7, .int .i64 0, x9, x10, x11, x12, x13, x14, x15, x16, x17, x18, .pointer (some ⟨kk, 0, none⟩), x20, x21, x22, x23, x24, x25, x26, x27, x28, x29, x30, x31, x32, x33, x34, x35, x36, x37, x38, x39, x40, x41, x42, x43, x44, x45, x46, x47, x48, x49, x50, x51, x52, x53, x54, x55, x56, x57, x58, x59, x60, x61, x62, x63, x64, x65, x66, x67, x68, x69, x70, x71, x72, x73, x74, x75, x76, x77, x78, x79, x80, x81, x82, x83, x84, x85, x86, x87, x88, x89, x90, x91, x92, x93, x94, x95, x96, x97, x98, x99, x100, x101, x102, x103, x104, x105, x106, x107, x108, x109, x110, x111, x112, x113, x114, x115, x116, x117, x118, x119, x120, x121, x122, x123, x124, x125, x126, x127, x128, x129, x130, x131, x132, x133, x134, x135, x136, x137, x138, x139, x140, x141, x142, x143, x144, x145, x146, x147, x148, y149, y150, y151, y152, y153, y154, y155, x156, x157, x158, x159, x160, x161, x162, x163, x164, x165, x166, x167, x168, x169, x170, x171, x172, x173, x174, x175, x176, x177, x178, x179, x180, x181, x182, x183, x184, x185, x186, x187, x188, x189, x190, x191, x192, x193, x194, x195, x196, x197, x198, x199, x200, x201, x202, x203, x204, x205, x206, x207, x208, x209, x210, x211, x212, x213, x214, x215, x216, x217, x218, x219, x220, x221, x222, x223, x224, x225, x226, x227, x228, x229, x230, x231, x232], []⟩ w') : Code.wp Tryz.prog (.region 16 (opsC 16 Tryz.f6) false) (Exit.then K Q) ⟨#[x0, .pointer (some ⟨g, 0, none⟩), x2, x3, x4, x5, x6, x7, x8, x9, x10, x11, x12, x13, x14, x15, x16, x17, x18, x19, x20, x21, x22, x23, x24, x25, x26, x27, x28, x29, x30, x31, x32, x33, x34, x35, x36, x37, x38, x39, x40, x41, x42, x43, x44, x45, x46, x47, x48, x49, x50, x51, x52, x53, x54, x55, x56, x57, x58, x59, x60, x61, x62, x63, x64, x65, x66, x67, x68, x69, x70, x71, x72, x73, x74, x75, x76, x77, x78, x79, x80, x81, x82, x83, x84, x85, x86, x87, x88, x89, x90, x91, x92, x93, x94, x95, x96, x97, x98, x99, x100, x101, x102, x103, x104, x105, x106, x107, x108, x109, x110, x111, x112, x113, x114, x115, x116, x117, x118, x119, x120, x121, x122, x123, x124, x125, x126, x127, x128, x129, x130, x131, x132, x133, x134, x135, x136, x137, x138, x139, x140, x141, x142, x143, x144, x145, x146, x147, x148, x149, x150, x151, x152, x153, x154, x155, x156, x157, x158, x159, x160, x161, x162, x163, x164, x165, x166, x167, x168, x169, x170, x171, x172, x173, x174, x175, x176, x177, x178, x179, x180, x181, x182, x183, x184, x185, x186, x187, x188, x189, x190, x191, x192, x193, x194, x195, x196, x197, x198, x199, x200, x201, x202, x203, x204, x205, x206, x207, x208, x209, x210, x211, x212, x213, x214, x215, x216, x217, x218, x219, x220, x221, x222, x223, x224, x225, x226, x227, x228, x229, x230, x231, x232], []⟩ wx := by
  obtain ⟨nP0, nP1, nP2, nP3, nP4, nP5, nP6, nP7, nP8, nP9, nC0, nC1, uD0, lD0, nA0, nA1, nV0, nV1, uV2, lV2, bV3, nV4, bV5, nV6, uV7, lV7, uV8, lV8, uV9, lV9, uG0, lG0, nG1, uG2, lG2, uH0, lH0, nH1, nK0, nK1, nU0, nU1, nU2, nU3, nU4, nU5, nM0, nM1, nM2, nM3, nM4, nM5, uM6, lM6, nN0⟩ := x
  unfold Recs.cells at hg
  simp only at hg
  have hll := lx
  simp only [lightB, List.all_cons, List.all_nil, Bool.and_true, Bool.and_eq_true, decide_eq_true_eq] at hll
  have HP := Lib.hid (history_put (w := wx) (n1 := nH1) (limC hx.nH1 limN) (DN.keep (w := w) ⟨hx.dH0.1, hx.dH0.2.1, Nat.le_trans (hll.2.2.2.2.2.2.2.1) (by omega)⟩ M))
  have hb := recGet_back [⟨2, 0, lH0⟩, ⟨0, nH1, []⟩] (okC (okD hx.dH0.2.1) (okC (okN hx.nH1) okZ)) (ks := [2, 0]) rfl
  have hz : (recLay [⟨2, 0, lH0⟩, ⟨0, nH1, []⟩]).length ≤ 1000000 := Nat.le_trans (recLay_len _) (Nat.le_of_ble_eq_true rfl)
  simp only [List.map_cons, List.map_nil, normN, normB, normD] at hb
  generalize recLay [⟨2, 0, lH0⟩, ⟨0, nH1, []⟩] = z at HP hb hz
  have GX := Lib.hid hg
  have HQ := Lib.hid hK
  have HB := Lib.hid hb
  have HZ := Lib.hid hz
  clear hx lx hll hg hK hb hz
  refine wp_region_linT [(0, false), (1, false), (2, false), (3, false), (4, false), (5, false), (6, false), (7, false), (8, false), (9, false)] (by kernel_rfl) ?_
  refine wpOrdT_freesB [0] [.pointer (some ⟨g, 28, none⟩)] (rest := [(1, false), (2, false), (3, false), (4, false), (5, false), (6, false), (7, false), (8, false), (9, false)]) (by kernel_rfl) (by kernel_rfl) (by kernel_rfl) (.inr trivial) ?_
  refine wpOrdT_loadB (.tmp 150) (some 151) ⟨by kernel_rfl, by kernel_rfl, by kernel_rfl⟩ (load_part (off := 28) [uH0, .int .u64 nH1] (GX.out) Tryz.underlying38 rfl (by kernel_rfl) (by kernel_rfl)) (by kernel_rfl) (by kernel_rfl) (fun _ => trivial) ?_
  refine wpOrdT_call (some 152) ⟨by kernel_rfl, by kernel_rfl, by kernel_rfl⟩ HP.out (fun _ => by kernel_rfl) ?_
  rintro r w1 ⟨v1, rfl, o1, m1, f1⟩
  refine ⟨_, rfl, fun _ => trivial, ?_⟩
  refine wpOrdT_call (some 153) ⟨by kernel_rfl, by kernel_rfl, by kernel_rfl⟩ (history_get o1.rd HZ.out) (fun _ => by kernel_rfl) ?_
  rintro r w2 ⟨n1, sH0, l0, e, rfl, hg2, m2, ⟨e0, f0⟩⟩
  have hi := HB.out.symm.trans hg2
  simp only [Prod.mk.injEq, List.cons.injEq, Fld.mk.injEq, and_true, true_and] at hi
  obtain ⟨⟨rfl, rfl⟩, rfl⟩ := hi
  have oH0 := rn_one e0
  refine ⟨_, rfl, fun _ => trivial, ?_⟩
  have m12 := m1.then0 m2
  refine wpOrdT_freesB [4, 5, 6] [.tuple #[.agg #[sH0, .int .u64 nH1], .int .i64 0], .agg #[sH0, .int .u64 nH1], .int .i64 0] (rest := [(7, false), (8, false), (9, false)]) (by kernel_rfl) (by kernel_rfl) (by kernel_rfl) (.inr trivial) ?_
  refine wpOrdT_alloc (.cells #[.slice none 0 0, .int .u64 0] 38) (some 19) ⟨by kernel_rfl, by kernel_rfl, by kernel_rfl⟩ (by kernel_rfl) ?_
  intro kk w3 hk h3 m3 l3
  refine ⟨fun _ => trivial, ?_⟩
  refine wpOrdT_store (off := 0) (ty := 38) (x := .tmp 19) (y := .tmp 154) (cells := #[sH0, .int .u64 nH1]) #[sH0, .int .u64 nH1] none ⟨by kernel_rfl, by kernel_rfl, by kernel_rfl⟩ (by kernel_rfl) (by kernel_rfl) (by kernel_rfl) h3 (by kernel_rfl) (by kernel_rfl) (allL (consAll oH0 (consAll rfl (rfl : ([] : List Value).all (·.oneCell') = true)))) (by kernel_rfl) ?_
  intro w4 h4 m4 z4
  refine ⟨fun _ => trivial, ?_⟩
  have m34 := m3.trans m4 (U := noB) (fun _ _ x => x) (fun i hi x => by omega)
  have m14 := m12.then0 m34
  refine wpOrdT_freesB [9] [.int .i64 0] (rest := []) (by kernel_rfl) (by kernel_rfl) (by kernel_rfl) (.inr trivial) ?_
  exact wpOrdT_doneL (show K _ _ from act_is (by kernel_rfl) (HQ.out (.tuple #[.agg #[sH0, .int .u64 nH1], .int .i64 0]) (.pointer (some ⟨g, 28, none⟩)) (.agg #[uH0, .int .u64 nH1]) (v1) (.tuple #[.agg #[sH0, .int .u64 nH1], .int .i64 0]) (.agg #[sH0, .int .u64 nH1]) (.int .i64 0) kk sH0 w4 m14 h4 (e0.keep m34 (fun _ _ x => x))))

set_option maxHeartbeats 4000000 in
theorem bk17 {w wx : World} {g : Nat} (x : Recs) (hx : x.At w) (lx : lightB x = true) (M : Mods noB w wx) (hg : wx.heap[g]? = some (.cells x.cells 46 (0, 0)))  (x0 x2 x3 x4 x5 x6 x7 x8 x9 x10 x11 x12 x13 x14 x15 x16 x17 x18 x19 x20 x21 x22 x23 x24 x25 x26 x27 x28 x29 x30 x31 x32 x33 x34 x35 x36 x37 x38 x39 x40 x41 x42 x43 x44 x45 x46 x47 x48 x49 x50 x51 x52 x53 x54 x55 x56 x57 x58 x59 x60 x61 x62 x63 x64 x65 x66 x67 x68 x69 x70 x71 x72 x73 x74 x75 x76 x77 x78 x79 x80 x81 x82 x83 x84 x85 x86 x87 x88 x89 x90 x91 x92 x93 x94 x95 x96 x97 x98 x99 x100 x101 x102 x103 x104 x105 x106 x107 x108 x109 x110 x111 x112 x113 x114 x115 x116 x117 x118 x119 x120 x121 x122 x123 x124 x125 x126 x127 x128 x129 x130 x131 x132 x133 x134 x135 x136 x137 x138 x139 x140 x141 x142 x143 x144 x145 x146 x147 x148 x149 x150 x151 x152 x153 x154 x155 x156 x157 x158 x159 x160 x161 x162 x163 x164 x165 x166 x167 x168 x169 x170 x171 x172 x173 x174 x175 x176 x177 x178 x179 x180 x181 x182 x183 x184 x185 x186 x187 x188 x189 x190 x191 x192 x193 x194 x195 x196 x197 x198 x199 x200 x201 x202 x203 x204 x205 x206 x207 x208 x209 x210 x211 x212 x213 x214 x215 x216 x217 x218 x219 x220 x221 x222 x223 x224 x225 x226 x227 x228 x229 x230 x231 x232 : Value) {K : Act → World → Prop} {Q : Exit → Act → World → Prop}
    (hK : ∀ (y156 y157 y158 y159 y160 y161 y162 : Value) (kk : Nat) (sM6 : Value) (w' : World), Mods noB wx w' → w'.heap[kk]? = some (.cells #[.int .u64 x.nM0, .int .u64 x.nM1, .int .u64 x.nM2, .int .u64 x.nM3, .int .u64 x.nM4, .int .u64 x.nM5, sM6] 44 (0, 0)) → RN w' sM6 (normL x.lM6) → K ⟨#[x0, .pointer (some ⟨g, 0, none⟩), x2, x3, x4, x5, x6, x7, x8, x9, .int .i64 0, x11, x12, x13, x14, x15, x16, x17, x18, x19, .pointer (some ⟨kk, 0, none⟩), x21, x22, x23, x24, x25, x26, x27, x28, x29, x30, x31, x32, x33, x34, x35, x36, x37, x38, x39, x40, x41, x42, x43, x44, x45, x46, x47, x48, x49, x50, x51, x52, x53, x54, x55, x56, x57, x58, x59, x60, x61, x62, x63, x64, x65, x66, x67, x68, x69, x70, x71, x72, x73, x74, x75, x76, x77, x78, x79, x80, x81, x82, x83, x84, x85, x86, x87, x88, x89, x90, x91, x92, x93, x94, x95, x96, x97, x98, x99, x100, x101, x102, x103, x104, x105, x106, x107, x108, x109, x110, x111, x112, x113, x114, x115, x116, x117, x118, x119, x120, x121, x122, x123, x124, x125, x126, x127, x128, x129, x130, x131, x132, x133, x134, x135, x136, x137, x138, x139, x140, x141, x142, x143, x144, x145, x146, x147, x148, x149, x150, x151, x152, x153, x154, x155, y156, y157, y158, y159, y160, y161, y162, x163, x164, x165, x166, x167, x168, x169, x170, x171, x172, x173, x174, x175, x176, x177, x178, x179, x180, x181, x182, x183, x184, x185, x186, x187, x188, x189, x190, x191, x192, x193, x194, x195, x196, x197, x198, x199, x200, x201, x202, x203, x204, x205, x206, x207, x208, x209, x210, x211, x212, x213, x214, x215, x216, x217, x218, x219, x220, x221, x222, x223, x224, x225, x226, x227, x228, x229, x230, x231, x232], []⟩ w') : Code.wp Tryz.prog (.region 17 (opsC 17 Tryz.f6) false) (Exit.then K Q) ⟨#[x0, .pointer (some ⟨g, 0, none⟩), x2, x3, x4, x5, x6, x7, x8, x9, x10, x11, x12, x13, x14, x15, x16, x17, x18, x19, x20, x21, x22, x23, x24, x25, x26, x27, x28, x29, x30, x31, x32, x33, x34, x35, x36, x37, x38, x39, x40, x41, x42, x43, x44, x45, x46, x47, x48, x49, x50, x51, x52, x53, x54, x55, x56, x57, x58, x59, x60, x61, x62, x63, x64, x65, x66, x67, x68, x69, x70, x71, x72, x73, x74, x75, x76, x77, x78, x79, x80, x81, x82, x83, x84, x85, x86, x87, x88, x89, x90, x91, x92, x93, x94, x95, x96, x97, x98, x99, x100, x101, x102, x103, x104, x105, x106, x107, x108, x109, x110, x111, x112, x113, x114, x115, x116, x117, x118, x119, x120, x121, x122, x123, x124, x125, x126, x127, x128, x129, x130, x131, x132, x133, x134, x135, x136, x137, x138, x139, x140, x141, x142, x143, x144, x145, x146, x147, x148, x149, x150, x151, x152, x153, x154, x155, x156, x157, x158, x159, x160, x161, x162, x163, x164, x165, x166, x167, x168, x169, x170, x171, x172, x173, x174, x175, x176, x177, x178, x179, x180, x181, x182, x183, x184, x185, x186, x187, x188, x189, x190, x191, x192, x193, x194, x195, x196, x197, x198, x199, x200, x201, x202, x203, x204, x205, x206, x207, x208, x209, x210, x211, x212, x213, x214, x215, x216, x217, x218, x219, x220, x221, x222, x223, x224, x225, x226, x227, x228, x229, x230, x231, x232], []⟩ wx := by
  obtain ⟨nP0, nP1, nP2, nP3, nP4, nP5, nP6, nP7, nP8, nP9, nC0, nC1, uD0, lD0, nA0, nA1, nV0, nV1, uV2, lV2, bV3, nV4, bV5, nV6, uV7, lV7, uV8, lV8, uV9, lV9, uG0, lG0, nG1, uG2, lG2, uH0, lH0, nH1, nK0, nK1, nU0, nU1, nU2, nU3, nU4, nU5, nM0, nM1, nM2, nM3, nM4, nM5, uM6, lM6, nN0⟩ := x
  unfold Recs.cells at hg
  simp only at hg
  have hll := lx
  simp only [lightB, List.all_cons, List.all_nil, Bool.and_true, Bool.and_eq_true, decide_eq_true_eq] at hll
  have HP := Lib.hid (move_put (w := wx) (n0 := nM0) (n1 := nM1) (n2 := nM2) (n3 := nM3) (n4 := nM4) (n5 := nM5) (limC hx.nM0 (limC hx.nM1 (limC hx.nM2 (limC hx.nM3 (limC hx.nM4 (limC hx.nM5 limN)))))) (DN.keep (w := w) ⟨hx.dM6.1, hx.dM6.2.1, Nat.le_trans (hll.2.2.2.2.2.2.2.2) (by omega)⟩ M))
  have hb := recGet_back [⟨0, nM0, []⟩, ⟨0, nM1, []⟩, ⟨0, nM2, []⟩, ⟨0, nM3, []⟩, ⟨0, nM4, []⟩, ⟨0, nM5, []⟩, ⟨2, 0, lM6⟩] (okC (okN hx.nM0) (okC (okN hx.nM1) (okC (okN hx.nM2) (okC (okN hx.nM3) (okC (okN hx.nM4) (okC (okN hx.nM5) (okC (okD hx.dM6.2.1) okZ))))))) (ks := [0, 0, 0, 0, 0, 0, 2]) rfl
  have hz : (recLay [⟨0, nM0, []⟩, ⟨0, nM1, []⟩, ⟨0, nM2, []⟩, ⟨0, nM3, []⟩, ⟨0, nM4, []⟩, ⟨0, nM5, []⟩, ⟨2, 0, lM6⟩]).length ≤ 1000000 := Nat.le_trans (recLay_len _) (Nat.le_of_ble_eq_true rfl)
  simp only [List.map_cons, List.map_nil, normN, normB, normD] at hb
  generalize recLay [⟨0, nM0, []⟩, ⟨0, nM1, []⟩, ⟨0, nM2, []⟩, ⟨0, nM3, []⟩, ⟨0, nM4, []⟩, ⟨0, nM5, []⟩, ⟨2, 0, lM6⟩] = z at HP hb hz
  have GX := Lib.hid hg
  have HQ := Lib.hid hK
  have HB := Lib.hid hb
  have HZ := Lib.hid hz
  clear hx lx hll hg hK hb hz
  refine wp_region_linT [(0, false), (1, false), (2, false), (3, false), (4, false), (5, false), (6, false), (7, false), (8, false), (9, false)] (by kernel_rfl) ?_
  refine wpOrdT_freesB [0] [.pointer (some ⟨g, 38, none⟩)] (rest := [(1, false), (2, false), (3, false), (4, false), (5, false), (6, false), (7, false), (8, false), (9, false)]) (by kernel_rfl) (by kernel_rfl) (by kernel_rfl) (.inr trivial) ?_
  refine wpOrdT_loadB (.tmp 157) (some 158) ⟨by kernel_rfl, by kernel_rfl, by kernel_rfl⟩ (load_part (off := 38) [.int .u64 nM0, .int .u64 nM1, .int .u64 nM2, .int .u64 nM3, .int .u64 nM4, .int .u64 nM5, uM6] (GX.out) Tryz.underlying44 rfl (by kernel_rfl) (by kernel_rfl)) (by kernel_rfl) (by kernel_rfl) (fun _ => trivial) ?_
  refine wpOrdT_call (some 159) ⟨by kernel_rfl, by kernel_rfl, by kernel_rfl⟩ HP.out (fun _ => by kernel_rfl) ?_
  rintro r w1 ⟨v1, rfl, o1, m1, f1⟩
  refine ⟨_, rfl, fun _ => trivial, ?_⟩
  refine wpOrdT_call (some 160) ⟨by kernel_rfl, by kernel_rfl, by kernel_rfl⟩ (move_get o1.rd HZ.out) (fun _ => by kernel_rfl) ?_
  rintro r w2 ⟨n0, n1, n2, n3, n4, n5, sM6, l6, e, rfl, hg2, m2, ⟨e6, f6⟩⟩
  have hi := HB.out.symm.trans hg2
  simp only [Prod.mk.injEq, List.cons.injEq, Fld.mk.injEq, and_true, true_and] at hi
  obtain ⟨⟨rfl, rfl, rfl, rfl, rfl, rfl, rfl⟩, rfl⟩ := hi
  have oM6 := rn_one e6
  refine ⟨_, rfl, fun _ => trivial, ?_⟩
  have m12 := m1.then0 m2
  refine wpOrdT_freesB [4, 5, 6] [.tuple #[.agg #[.int .u64 nM0, .int .u64 nM1, .int .u64 nM2, .int .u64 nM3, .int .u64 nM4, .int .u64 nM5, sM6], .int .i64 0], .agg #[.int .u64 nM0, .int .u64 nM1, .int .u64 nM2, .int .u64 nM3, .int .u64 nM4, .int .u64 nM5, sM6], .int .i64 0] (rest := [(7, false), (8, false), (9, false)]) (by kernel_rfl) (by kernel_rfl) (by kernel_rfl) (.inr trivial) ?_
  refine wpOrdT_alloc (.cells #[.int .u64 0, .int .u64 0, .int .u64 0, .int .u64 0, .int .u64 0, .int .u64 0, .slice none 0 0] 44) (some 20) ⟨by kernel_rfl, by kernel_rfl, by kernel_rfl⟩ (by kernel_rfl) ?_
  intro kk w3 hk h3 m3 l3
  refine ⟨fun _ => trivial, ?_⟩
  refine wpOrdT_store (off := 0) (ty := 44) (x := .tmp 20) (y := .tmp 161) (cells := #[.int .u64 nM0, .int .u64 nM1, .int .u64 nM2, .int .u64 nM3, .int .u64 nM4, .int .u64 nM5, sM6]) #[.int .u64 nM0, .int .u64 nM1, .int .u64 nM2, .int .u64 nM3, .int .u64 nM4, .int .u64 nM5, sM6] none ⟨by kernel_rfl, by kernel_rfl, by kernel_rfl⟩ (by kernel_rfl) (by kernel_rfl) (by kernel_rfl) h3 (by kernel_rfl) (by kernel_rfl) (allL (consAll rfl (consAll rfl (consAll rfl (consAll rfl (consAll rfl (consAll rfl (consAll oM6 (rfl : ([] : List Value).all (·.oneCell') = true))))))))) (by kernel_rfl) ?_
  intro w4 h4 m4 z4
  refine ⟨fun _ => trivial, ?_⟩
  have m34 := m3.trans m4 (U := noB) (fun _ _ x => x) (fun i hi x => by omega)
  have m14 := m12.then0 m34
  refine wpOrdT_freesB [9] [.int .i64 0] (rest := []) (by kernel_rfl) (by kernel_rfl) (by kernel_rfl) (.inr trivial) ?_
  exact wpOrdT_doneL (show K _ _ from act_is (by kernel_rfl) (HQ.out (.tuple #[.agg #[.int .u64 nM0, .int .u64 nM1, .int .u64 nM2, .int .u64 nM3, .int .u64 nM4, .int .u64 nM5, sM6], .int .i64 0]) (.pointer (some ⟨g, 38, none⟩)) (.agg #[.int .u64 nM0, .int .u64 nM1, .int .u64 nM2, .int .u64 nM3, .int .u64 nM4, .int .u64 nM5, uM6]) (v1) (.tuple #[.agg #[.int .u64 nM0, .int .u64 nM1, .int .u64 nM2, .int .u64 nM3, .int .u64 nM4, .int .u64 nM5, sM6], .int .i64 0]) (.agg #[.int .u64 nM0, .int .u64 nM1, .int .u64 nM2, .int .u64 nM3, .int .u64 nM4, .int .u64 nM5, sM6]) (.int .i64 0) kk sM6 w4 m14 h4 (e6.keep m34 (fun _ _ x => x))))

set_option maxHeartbeats 4000000 in
theorem bk12 {w wx : World} {g : Nat} (x : Recs) (hx : x.At w) (lx : lightB x = true) (M : Mods noB w wx) (hg : wx.heap[g]? = some (.cells x.cells 46 (0, 0))) {kP kC kD kA kK kU : Nat} {sD0 : Value} (qP : wx.heap[kP]? = some (.cells #[.int .u64 x.nP0, .int .u64 x.nP1, .int .u64 x.nP2, .int .u64 x.nP3, .int .u64 x.nP4, .int .u64 x.nP5, .int .u64 x.nP6, .int .u64 x.nP7, .int .u64 x.nP8, .int .u64 x.nP9] 24 (0, 0))) (qC : wx.heap[kC]? = some (.cells #[.int .u64 x.nC0, .int .u64 x.nC1] 26 (0, 0))) (qD : wx.heap[kD]? = some (.cells #[sD0] 30 (0, 0))) (qA : wx.heap[kA]? = some (.cells #[.int .u64 x.nA0, .int .u64 x.nA1] 32 (0, 0))) (qK : wx.heap[kK]? = some (.cells #[.int .u64 x.nK0, .int .u64 x.nK1] 40 (0, 0))) (qU : wx.heap[kU]? = some (.cells #[.int .u64 x.nU0, .int .u64 x.nU1, .int .u64 x.nU2, .int .u64 x.nU3, .int .u64 x.nU4, .int .u64 x.nU5] 42 (0, 0))) (hs : RN wx sD0 (normL x.lD0)) (x0 x2 x17 x18 x19 x20 x21 x22 x23 x24 x25 x26 x27 x28 x29 x30 x31 x32 x33 x34 x35 x36 x37 x38 x39 x40 x41 x42 x43 x44 x45 x46 x47 x48 x49 x50 x51 x52 x53 x54 x55 x56 x57 x58 x59 x60 x61 x62 x63 x64 x65 x66 x67 x68 x69 x70 x71 x72 x73 x74 x75 x76 x77 x78 x79 x80 x81 x82 x83 x84 x85 x86 x87 x88 x89 x90 x91 x92 x93 x94 x95 x96 x97 x98 x99 x100 x101 x102 x103 x104 x105 x106 x107 x108 x109 x110 x111 x112 x113 x114 x115 x116 x117 x118 x119 x120 x121 x122 x123 x124 x125 x126 x127 x128 x129 x130 x131 x132 x133 x134 x135 x136 x137 x138 x139 x140 x141 x142 x143 x144 x145 x146 x147 x148 x149 x150 x151 x152 x153 x154 x155 x156 x157 x158 x159 x160 x161 x162 x163 x164 x165 x166 x167 x168 x169 x170 x171 x172 x173 x174 x175 x176 x177 x178 x179 x180 x181 x182 x183 x184 x185 x186 x187 x188 x189 x190 x191 x192 x193 x194 x195 x196 x197 x198 x199 x200 x201 x202 x203 x204 x205 x206 x207 x208 x209 x210 x211 x212 x213 x214 x215 x216 x217 x218 x219 x220 x221 x222 x223 x224 x225 x226 x227 x228 x229 x230 x231 x232 : Value) {K : Act → World → Prop} {Q : Exit → Act → World → Prop}
    (hK : ∀ (y77 y78 y79 y80 y81 y82 y83 y84 y85 y86 y87 y88 y89 y90 y91 y92 y93 y94 y95 y96 y97 y98 y99 y100 y101 y102 y103 y104 y105 y106 y107 y108 y109 y110 y111 y112 y113 y114 y115 y116 y117 y118 y119 y120 y121 y122 y123 y124 y125 y126 y127 y128 y129 y130 y131 y132 y133 : Value)  (w' : World), Mods noB wx w' → K ⟨#[x0, .pointer (some ⟨g, 0, none⟩), x2, .pointer (some ⟨kP, 0, none⟩), .int .i64 0, .pointer (some ⟨kC, 0, none⟩), .int .i64 0, .pointer (some ⟨kD, 0, none⟩), .int .i64 0, .pointer (some ⟨kA, 0, none⟩), .int .i64 0, .pointer (some ⟨kK, 0, none⟩), .int .i64 0, .pointer (some ⟨kU, 0, none⟩), .int .i64 0, .int .u64 x.nN0, .int .i64 0, x17, x18, x19, x20, x21, x22, x23, x24, x25, x26, x27, x28, x29, x30, x31, x32, x33, x34, x35, x36, x37, x38, x39, x40, x41, x42, x43, x44, x45, x46, x47, x48, x49, x50, x51, x52, x53, x54, x55, x56, x57, x58, x59, x60, x61, x62, x63, x64, x65, x66, x67, x68, x69, x70, x71, x72, x73, x74, x75, x76, y77, y78, y79, y80, y81, y82, y83, y84, y85, y86, y87, y88, y89, y90, y91, y92, y93, y94, y95, y96, y97, y98, y99, y100, y101, y102, y103, y104, y105, y106, y107, y108, y109, y110, y111, y112, y113, y114, y115, y116, y117, y118, y119, y120, y121, y122, y123, y124, y125, y126, y127, y128, y129, y130, y131, y132, y133, .bool false, x135, x136, x137, x138, x139, x140, x141, x142, x143, x144, x145, x146, x147, x148, x149, x150, x151, x152, x153, x154, x155, x156, x157, x158, x159, x160, x161, x162, x163, x164, x165, x166, x167, x168, x169, x170, x171, x172, x173, x174, x175, x176, x177, x178, x179, x180, x181, x182, x183, x184, x185, x186, x187, x188, x189, x190, x191, x192, x193, x194, x195, x196, x197, x198, x199, x200, x201, x202, x203, x204, x205, x206, x207, x208, x209, x210, x211, x212, x213, x214, x215, x216, x217, x218, x219, x220, x221, x222, x223, x224, x225, x226, x227, x228, x229, x230, x231, x232], []⟩ w') : Code.wp Tryz.prog (.region 12 (opsC 12 Tryz.f6) true) (Exit.then K Q) ⟨#[x0, .pointer (some ⟨g, 0, none⟩), x2, .pointer (some ⟨kP, 0, none⟩), .int .i64 0, .pointer (some ⟨kC, 0, none⟩), .int .i64 0, .pointer (some ⟨kD, 0, none⟩), .int .i64 0, .pointer (some ⟨kA, 0, none⟩), .int .i64 0, .pointer (some ⟨kK, 0, none⟩), .int .i64 0, .pointer (some ⟨kU, 0, none⟩), .int .i64 0, .int .u64 x.nN0, .int .i64 0, x17, x18, x19, x20, x21, x22, x23, x24, x25, x26, x27, x28, x29, x30, x31, x32, x33, x34, x35, x36, x37, x38, x39, x40, x41, x42, x43, x44, x45, x46, x47, x48, x49, x50, x51, x52, x53, x54, x55, x56, x57, x58, x59, x60, x61, x62, x63, x64, x65, x66, x67, x68, x69, x70, x71, x72, x73, x74, x75, x76, x77, x78, x79, x80, x81, x82, x83, x84, x85, x86, x87, x88, x89, x90, x91, x92, x93, x94, x95, x96, x97, x98, x99, x100, x101, x102, x103, x104, x105, x106, x107, x108, x109, x110, x111, x112, x113, x114, x115, x116, x117, x118, x119, x120, x121, x122, x123, x124, x125, x126, x127, x128, x129, x130, x131, x132, x133, x134, x135, x136, x137, x138, x139, x140, x141, x142, x143, x144, x145, x146, x147, x148, x149, x150, x151, x152, x153, x154, x155, x156, x157, x158, x159, x160, x161, x162, x163, x164, x165, x166, x167, x168, x169, x170, x171, x172, x173, x174, x175, x176, x177, x178, x179, x180, x181, x182, x183, x184, x185, x186, x187, x188, x189, x190, x191, x192, x193, x194, x195, x196, x197, x198, x199, x200, x201, x202, x203, x204, x205, x206, x207, x208, x209, x210, x211, x212, x213, x214, x215, x216, x217, x218, x219, x220, x221, x222, x223, x224, x225, x226, x227, x228, x229, x230, x231, x232], []⟩ wx := by
  obtain ⟨nP0, nP1, nP2, nP3, nP4, nP5, nP6, nP7, nP8, nP9, nC0, nC1, uD0, lD0, nA0, nA1, nV0, nV1, uV2, lV2, bV3, nV4, bV5, nV6, uV7, lV7, uV8, lV8, uV9, lV9, uG0, lG0, nG1, uG2, lG2, uH0, lH0, nH1, nK0, nK1, nU0, nU1, nU2, nU3, nU4, nU5, nM0, nM1, nM2, nM3, nM4, nM5, uM6, lM6, nN0⟩ := x
  unfold Recs.cells at hg
  simp only at hg
  have hll := lx
  simp only [lightB, List.all_cons, List.all_nil, Bool.and_true, Bool.and_eq_true, decide_eq_true_eq] at hll
  simp only at qP qC qD qA qK qU hs hK
  have ND := Lib.hid (fun (wy : World) (hm : Mods noB wx wy) => norm_any (RdM.keep (w := w) hx.dD0.1 (M.then0 hm) (fun _ _ x => x)) hx.dD0.2.1 (Nat.le_trans (hll.1) (by omega)))
  have HP := Lib.hid qP
  have HC := Lib.hid qC
  have HD := Lib.hid qD
  have HA := Lib.hid qA
  have HK := Lib.hid qK
  have HU := Lib.hid qU
  have HS := Lib.hid hs
  have GX := Lib.hid hg
  have HQ := Lib.hid hK
  clear hx lx hll hg hK hs qP qC qD qA qK qU
  have B := Lib.hid ((Mods.refl noB wx).drew)
  refine wp_region_ordT [(0, true), (1, true), (2, true), (3, true), (4, true), (5, true), (6, true), (7, true), (8, true), (9, true), (10, true), (11, true), (12, true), (13, true), (14, true), (15, true), (16, true), (17, true), (18, true), (19, true), (20, true), (21, true), (22, true), (23, true), (24, true), (25, true), (26, true), (27, true), (28, true), (29, true), (30, false), (31, false), (32, true), (33, true), (34, true), (35, true), (36, true), (37, true), (38, true), (39, true), (40, true), (41, true), (42, true), (43, true), (44, true), (45, true), (46, true), (47, true), (48, true), (49, true), (50, true), (51, true), (52, true), (53, true), (54, true), (55, true), (56, true), (57, true)] [] (fun b => Mods noB wx b) (by kernel_rfl) (by kernel_rfl) (by kernel_rfl) (by kernel_rfl) B.out ?_
  refine wpOrdT_frees [0, 1, 2, 3, 4, 5, 6, 7, 8, 9, 10, 11, 12, 13, 14] [.int .i64 0, .int .i64 0, .int .i64 0, .int .i64 0, .int .i64 0, .int .i64 0, .int .i64 0, .int .i64 0, .int .i64 0, .int .i64 0, .int .i64 0, .int .i64 0, .int .i64 0, .bool false, .bool false] (rest := [(15, true), (16, true), (17, true), (18, true), (19, true), (20, true), (21, true), (22, true), (23, true), (24, true), (25, true), (26, true), (27, true), (28, true), (29, true), (30, false), (31, false), (32, true), (33, true), (34, true), (35, true), (36, true), (37, true), (38, true), (39, true), (40, true), (41, true), (42, true), (43, true), (44, true), (45, true), (46, true), (47, true), (48, true), (49, true), (50, true), (51, true), (52, true), (53, true), (54, true), (55, true), (56, true), (57, true)]) (by kernel_rfl) (by kernel_rfl) (fun _ => by kernel_rfl) ?_
  refine wpOrdT_load (.tmp 3) (some 92) ⟨by kernel_rfl, by kernel_rfl, by kernel_rfl⟩ (fun b hb => load_part (off := 0) [.int .u64 nP0, .int .u64 nP1, .int .u64 nP2, .int .u64 nP3, .int .u64 nP4, .int .u64 nP5, .int .u64 nP6, .int .u64 nP7, .int .u64 nP8, .int .u64 nP9] (blk_step hb HP.out) Tryz.underlying24 rfl (by kernel_rfl) (by kernel_rfl)) (by kernel_rfl) (by kernel_rfl) ?_
  refine wpOrdT_frees [16] [.pointer (some ⟨g, 0, none⟩)] (rest := [(17, true), (18, true), (19, true), (20, true), (21, true), (22, true), (23, true), (24, true), (25, true), (26, true), (27, true), (28, true), (29, true), (30, false), (31, false), (32, true), (33, true), (34, true), (35, true), (36, true), (37, true), (38, true), (39, true), (40, true), (41, true), (42, true), (43, true), (44, true), (45, true), (46, true), (47, true), (48, true), (49, true), (50, true), (51, true), (52, true), (53, true), (54, true), (55, true), (56, true), (57, true)]) (by kernel_rfl) (by kernel_rfl) (fun _ => by kernel_rfl) ?_
  refine wpOrdT_load (.tmp 93) (some 94) ⟨by kernel_rfl, by kernel_rfl, by kernel_rfl⟩ (fun b hb => load_part (off := 0) [.int .u64 nP0, .int .u64 nP1, .int .u64 nP2, .int .u64 nP3, .int .u64 nP4, .int .u64 nP5, .int .u64 nP6, .int .u64 nP7, .int .u64 nP8, .int .u64 nP9] (blk_step hb GX.out) Tryz.underlying24 rfl (by kernel_rfl) (by kernel_rfl)) (by kernel_rfl) (by kernel_rfl) ?_
  refine wpOrdT_bin (xv := .agg #[.int .u64 nP0, .int .u64 nP1, .int .u64 nP2, .int .u64 nP3, .int .u64 nP4, .int .u64 nP5, .int .u64 nP6, .int .u64 nP7, .int .u64 nP8, .int .u64 nP9]) (yv := .agg #[.int .u64 nP0, .int .u64 nP1, .int .u64 nP2, .int .u64 nP3, .int .u64 nP4, .int .u64 nP5, .int .u64 nP6, .int .u64 nP7, .int .u64 nP8, .int .u64 nP9]) .neq 24 (.tmp 92) (.tmp 94) 24 (.bool false) (some 95) ⟨by kernel_rfl, by kernel_rfl, by kernel_rfl⟩ (by kernel_rfl) (by kernel_rfl) (by kernel_rfl) (fun _ => by kernel_rfl) (params_neq) ?_
  refine wpOrdT_frees [19, 20] [.bool false, .bool false] (rest := [(21, true), (22, true), (23, true), (24, true), (25, true), (26, true), (27, true), (28, true), (29, true), (30, false), (31, false), (32, true), (33, true), (34, true), (35, true), (36, true), (37, true), (38, true), (39, true), (40, true), (41, true), (42, true), (43, true), (44, true), (45, true), (46, true), (47, true), (48, true), (49, true), (50, true), (51, true), (52, true), (53, true), (54, true), (55, true), (56, true), (57, true)]) (by kernel_rfl) (by kernel_rfl) (fun _ => by kernel_rfl) ?_
  refine wpOrdT_load (.tmp 5) (some 98) ⟨by kernel_rfl, by kernel_rfl, by kernel_rfl⟩ (fun b hb => load_part (off := 0) [.int .u64 nC0, .int .u64 nC1] (blk_step hb HC.out) Tryz.underlying26 rfl (by kernel_rfl) (by kernel_rfl)) (by kernel_rfl) (by kernel_rfl) ?_
  refine wpOrdT_frees [22] [.pointer (some ⟨g, 10, none⟩)] (rest := [(23, true), (24, true), (25, true), (26, true), (27, true), (28, true), (29, true), (30, false), (31, false), (32, true), (33, true), (34, true), (35, true), (36, true), (37, true), (38, true), (39, true), (40, true), (41, true), (42, true), (43, true), (44, true), (45, true), (46, true), (47, true), (48, true), (49, true), (50, true), (51, true), (52, true), (53, true), (54, true), (55, true), (56, true), (57, true)]) (by kernel_rfl) (by kernel_rfl) (fun _ => by kernel_rfl) ?_
  refine wpOrdT_load (.tmp 99) (some 100) ⟨by kernel_rfl, by kernel_rfl, by kernel_rfl⟩ (fun b hb => load_part (off := 10) [.int .u64 nC0, .int .u64 nC1] (blk_step hb GX.out) Tryz.underlying26 rfl (by kernel_rfl) (by kernel_rfl)) (by kernel_rfl) (by kernel_rfl) ?_
  refine wpOrdT_bin (xv := .agg #[.int .u64 nC0, .int .u64 nC1]) (yv := .agg #[.int .u64 nC0, .int .u64 nC1]) .neq 26 (.tmp 98) (.tmp 100) 26 (.bool false) (some 101) ⟨by kernel_rfl, by kernel_rfl, by kernel_rfl⟩ (by kernel_rfl) (by kernel_rfl) (by kernel_rfl) (fun _ => by kernel_rfl) (chain_neq) ?_
  refine wpOrdT_frees [25, 26] [.bool false, .bool false] (rest := [(27, true), (28, true), (29, true), (30, false), (31, false), (32, true), (33, true), (34, true), (35, true), (36, true), (37, true), (38, true), (39, true), (40, true), (41, true), (42, true), (43, true), (44, true), (45, true), (46, true), (47, true), (48, true), (49, true), (50, true), (51, true), (52, true), (53, true), (54, true), (55, true), (56, true), (57, true)]) (by kernel_rfl) (by kernel_rfl) (fun _ => by kernel_rfl) ?_
  refine wpOrdT_load (.tmp 7) (some 104) ⟨by kernel_rfl, by kernel_rfl, by kernel_rfl⟩ (fun b hb => load_part (off := 0) [sD0] (blk_step hb HD.out) Tryz.underlying30 rfl (by kernel_rfl) (by kernel_rfl)) (by kernel_rfl) (by kernel_rfl) ?_
  refine wpOrdT_frees [28] [.pointer (some ⟨g, 12, none⟩)] (rest := [(29, true), (30, false), (31, false), (32, true), (33, true), (34, true), (35, true), (36, true), (37, true), (38, true), (39, true), (40, true), (41, true), (42, true), (43, true), (44, true), (45, true), (46, true), (47, true), (48, true), (49, true), (50, true), (51, true), (52, true), (53, true), (54, true), (55, true), (56, true), (57, true)]) (by kernel_rfl) (by kernel_rfl) (fun _ => by kernel_rfl) ?_
  refine wpOrdT_load (.tmp 105) (some 106) ⟨by kernel_rfl, by kernel_rfl, by kernel_rfl⟩ (fun b hb => load_part (off := 12) [uD0] (blk_step hb GX.out) Tryz.underlying30 rfl (by kernel_rfl) (by kernel_rfl)) (by kernel_rfl) (by kernel_rfl) ?_
  refine wpOrdT_call (some 107) ⟨by kernel_rfl, by kernel_rfl, by kernel_rfl⟩ (ND.out _ B.out) (fun _ => by kernel_rfl) ?_
  rintro r w1 ⟨t1, rfl, o1, m1, f1⟩
  replace B := Lib.hid (B.out.then0 m1)
  refine ⟨_, rfl, fun _ => B.out, ?_⟩
  refine wpOrdT_call (some 108) ⟨by kernel_rfl, by kernel_rfl, by kernel_rfl⟩ (decT (RdM.keep HS.out B.out (fun _ _ x => x)) o1) (fun _ => by kernel_rfl) ?_
  rintro r w2 ⟨rfl, m2⟩
  replace B := Lib.hid (B.out.then0 m2)
  refine ⟨_, rfl, fun _ => B.out, ?_⟩
  refine wpOrdT_frees [32, 33, 34] [.bool false, .bool false, .bool false] (rest := [(35, true), (36, true), (37, true), (38, true), (39, true), (40, true), (41, true), (42, true), (43, true), (44, true), (45, true), (46, true), (47, true), (48, true), (49, true), (50, true), (51, true), (52, true), (53, true), (54, true), (55, true), (56, true), (57, true)]) (by kernel_rfl) (by kernel_rfl) (fun _ => by kernel_rfl) ?_
  refine wpOrdT_load (.tmp 9) (some 112) ⟨by kernel_rfl, by kernel_rfl, by kernel_rfl⟩ (fun b hb => load_part (off := 0) [.int .u64 nA0, .int .u64 nA1] (blk_step hb HA.out) Tryz.underlying32 rfl (by kernel_rfl) (by kernel_rfl)) (by kernel_rfl) (by kernel_rfl) ?_
  refine wpOrdT_frees [36] [.pointer (some ⟨g, 13, none⟩)] (rest := [(37, true), (38, true), (39, true), (40, true), (41, true), (42, true), (43, true), (44, true), (45, true), (46, true), (47, true), (48, true), (49, true), (50, true), (51, true), (52, true), (53, true), (54, true), (55, true), (56, true), (57, true)]) (by kernel_rfl) (by kernel_rfl) (fun _ => by kernel_rfl) ?_
  refine wpOrdT_load (.tmp 113) (some 114) ⟨by kernel_rfl, by kernel_rfl, by kernel_rfl⟩ (fun b hb => load_part (off := 13) [.int .u64 nA0, .int .u64 nA1] (blk_step hb GX.out) Tryz.underlying32 rfl (by kernel_rfl) (by kernel_rfl)) (by kernel_rfl) (by kernel_rfl) ?_
  refine wpOrdT_bin (xv := .agg #[.int .u64 nA0, .int .u64 nA1]) (yv := .agg #[.int .u64 nA0, .int .u64 nA1]) .neq 32 (.tmp 112) (.tmp 114) 32 (.bool false) (some 115) ⟨by kernel_rfl, by kernel_rfl, by kernel_rfl⟩ (by kernel_rfl) (by kernel_rfl) (by kernel_rfl) (fun _ => by kernel_rfl) (account_neq) ?_
  refine wpOrdT_frees [39, 40] [.bool false, .bool false] (rest := [(41, true), (42, true), (43, true), (44, true), (45, true), (46, true), (47, true), (48, true), (49, true), (50, true), (51, true), (52, true), (53, true), (54, true), (55, true), (56, true), (57, true)]) (by kernel_rfl) (by kernel_rfl) (fun _ => by kernel_rfl) ?_
  refine wpOrdT_load (.tmp 11) (some 118) ⟨by kernel_rfl, by kernel_rfl, by kernel_rfl⟩ (fun b hb => load_part (off := 0) [.int .u64 nK0, .int .u64 nK1] (blk_step hb HK.out) Tryz.underlying40 rfl (by kernel_rfl) (by kernel_rfl)) (by kernel_rfl) (by kernel_rfl) ?_
  refine wpOrdT_frees [42] [.pointer (some ⟨g, 30, none⟩)] (rest := [(43, true), (44, true), (45, true), (46, true), (47, true), (48, true), (49, true), (50, true), (51, true), (52, true), (53, true), (54, true), (55, true), (56, true), (57, true)]) (by kernel_rfl) (by kernel_rfl) (fun _ => by kernel_rfl) ?_
  refine wpOrdT_load (.tmp 119) (some 120) ⟨by kernel_rfl, by kernel_rfl, by kernel_rfl⟩ (fun b hb => load_part (off := 30) [.int .u64 nK0, .int .u64 nK1] (blk_step hb GX.out) Tryz.underlying40 rfl (by kernel_rfl) (by kernel_rfl)) (by kernel_rfl) (by kernel_rfl) ?_
  refine wpOrdT_bin (xv := .agg #[.int .u64 nK0, .int .u64 nK1]) (yv := .agg #[.int .u64 nK0, .int .u64 nK1]) .neq 40 (.tmp 118) (.tmp 120) 40 (.bool false) (some 121) ⟨by kernel_rfl, by kernel_rfl, by kernel_rfl⟩ (by kernel_rfl) (by kernel_rfl) (by kernel_rfl) (fun _ => by kernel_rfl) (cut_neq) ?_
  refine wpOrdT_frees [45, 46] [.bool false, .bool false] (rest := [(47, true), (48, true), (49, true), (50, true), (51, true), (52, true), (53, true), (54, true), (55, true), (56, true), (57, true)]) (by kernel_rfl) (by kernel_rfl) (fun _ => by kernel_rfl) ?_
  refine wpOrdT_load (.tmp 13) (some 124) ⟨by kernel_rfl, by kernel_rfl, by kernel_rfl⟩ (fun b hb => load_part (off := 0) [.int .u64 nU0, .int .u64 nU1, .int .u64 nU2, .int .u64 nU3, .int .u64 nU4, .int .u64 nU5] (blk_step hb HU.out) Tryz.underlying42 rfl (by kernel_rfl) (by kernel_rfl)) (by kernel_rfl) (by kernel_rfl) ?_
  refine wpOrdT_frees [48] [.pointer (some ⟨g, 32, none⟩)] (rest := [(49, true), (50, true), (51, true), (52, true), (53, true), (54, true), (55, true), (56, true), (57, true)]) (by kernel_rfl) (by kernel_rfl) (fun _ => by kernel_rfl) ?_
  refine wpOrdT_load (.tmp 125) (some 126) ⟨by kernel_rfl, by kernel_rfl, by kernel_rfl⟩ (fun b hb => load_part (off := 32) [.int .u64 nU0, .int .u64 nU1, .int .u64 nU2, .int .u64 nU3, .int .u64 nU4, .int .u64 nU5] (blk_step hb GX.out) Tryz.underlying42 rfl (by kernel_rfl) (by kernel_rfl)) (by kernel_rfl) (by kernel_rfl) ?_
  refine wpOrdT_bin (xv := .agg #[.int .u64 nU0, .int .u64 nU1, .int .u64 nU2, .int .u64 nU3, .int .u64 nU4, .int .u64 nU5]) (yv := .agg #[.int .u64 nU0, .int .u64 nU1, .int .u64 nU2, .int .u64 nU3, .int .u64 nU4, .int .u64 nU5]) .neq 42 (.tmp 124) (.tmp 126) 42 (.bool false) (some 127) ⟨by kernel_rfl, by kernel_rfl, by kernel_rfl⟩ (by kernel_rfl) (by kernel_rfl) (by kernel_rfl) (fun _ => by kernel_rfl) (unbonding_neq) ?_
  refine wpOrdT_frees [51, 52, 53, 54] [.bool false, .bool false, .int .u64 nN0, .pointer (some ⟨g, 45, none⟩)] (rest := [(55, true), (56, true), (57, true)]) (by kernel_rfl) (by kernel_rfl) (fun _ => by kernel_rfl) ?_
  refine wpOrdT_load (.tmp 131) (some 132) ⟨by kernel_rfl, by kernel_rfl, by kernel_rfl⟩ (fun b hb => load_one (off := 45) (blk_step hb GX.out) Tryz.underlying22 rfl (v := .int .u64 nN0) (by kernel_rfl)) (by kernel_rfl) (by kernel_rfl) ?_
  refine wpOrdT_bin (xv := .int .u64 nN0) (yv := .int .u64 nN0) .neq 22 (.tmp 130) (.tmp 132) 22 (.bool false) (some 133) ⟨by kernel_rfl, by kernel_rfl, by kernel_rfl⟩ (by kernel_rfl) (by kernel_rfl) (by kernel_rfl) (fun _ => by kernel_rfl) (neU nN0 22) ?_
  refine wpOrdT_frees [57] [.bool false] (rest := []) (by kernel_rfl) (by kernel_rfl) (fun _ => by kernel_rfl) ?_
  refine wpOrdT_done (show K _ _ from ?_)
  exact act_is (by kernel_rfl) (HQ.out (.int .i64 0) (.int .i64 0) (.int .i64 0) (.int .i64 0) (.int .i64 0) (.int .i64 0) (.int .i64 0) (.int .i64 0) (.int .i64 0) (.int .i64 0) (.int .i64 0) (.int .i64 0) (.int .i64 0) (.bool false) (.bool false) (.agg #[.int .u64 nP0, .int .u64 nP1, .int .u64 nP2, .int .u64 nP3, .int .u64 nP4, .int .u64 nP5, .int .u64 nP6, .int .u64 nP7, .int .u64 nP8, .int .u64 nP9]) (.pointer (some ⟨g, 0, none⟩)) (.agg #[.int .u64 nP0, .int .u64 nP1, .int .u64 nP2, .int .u64 nP3, .int .u64 nP4, .int .u64 nP5, .int .u64 nP6, .int .u64 nP7, .int .u64 nP8, .int .u64 nP9]) (.bool false) (.bool false) (.bool false) (.agg #[.int .u64 nC0, .int .u64 nC1]) (.pointer (some ⟨g, 10, none⟩)) (.agg #[.int .u64 nC0, .int .u64 nC1]) (.bool false) (.bool false) (.bool false) (.agg #[sD0]) (.pointer (some ⟨g, 12, none⟩)) (.agg #[uD0]) (.agg #[t1]) (.bool true) (.bool false) (.bool false) (.bool false) (.agg #[.int .u64 nA0, .int .u64 nA1]) (.pointer (some ⟨g, 13, none⟩)) (.agg #[.int .u64 nA0, .int .u64 nA1]) (.bool false) (.bool false) (.bool false) (.agg #[.int .u64 nK0, .int .u64 nK1]) (.pointer (some ⟨g, 30, none⟩)) (.agg #[.int .u64 nK0, .int .u64 nK1]) (.bool false) (.bool false) (.bool false) (.agg #[.int .u64 nU0, .int .u64 nU1, .int .u64 nU2, .int .u64 nU3, .int .u64 nU4, .int .u64 nU5]) (.pointer (some ⟨g, 32, none⟩)) (.agg #[.int .u64 nU0, .int .u64 nU1, .int .u64 nU2, .int .u64 nU3, .int .u64 nU4, .int .u64 nU5]) (.bool false) (.bool false) (.bool false) (.int .u64 nN0) (.pointer (some ⟨g, 45, none⟩)) (.int .u64 nN0) (.bool false) _ B.out)

set_option maxHeartbeats 4000000 in
theorem bk18 {w wx : World} {g : Nat} (x : Recs) (hx : x.At w) (lx : lightB x = true) (M : Mods noB w wx) (hg : wx.heap[g]? = some (.cells x.cells 46 (0, 0)))  (x0 x2 x3 x4 x5 x6 x7 x8 x9 x10 x11 x12 x13 x14 x15 x16 x17 x18 x19 x20 x21 x22 x23 x24 x25 x26 x27 x28 x29 x30 x31 x32 x33 x34 x35 x36 x37 x38 x39 x40 x41 x42 x43 x44 x45 x46 x47 x48 x49 x50 x51 x52 x53 x54 x55 x56 x57 x58 x59 x60 x61 x62 x63 x64 x65 x66 x67 x68 x69 x70 x71 x72 x73 x74 x75 x76 x77 x78 x79 x80 x81 x82 x83 x84 x85 x86 x87 x88 x89 x90 x91 x92 x93 x94 x95 x96 x97 x98 x99 x100 x101 x102 x103 x104 x105 x106 x107 x108 x109 x110 x111 x112 x113 x114 x115 x116 x117 x118 x119 x120 x121 x122 x123 x124 x125 x126 x127 x128 x129 x130 x131 x132 x133 x134 x135 x136 x137 x138 x139 x140 x141 x142 x143 x144 x145 x146 x147 x148 x149 x150 x151 x152 x153 x154 x155 x156 x157 x158 x159 x160 x161 x162 x163 x164 x165 x166 x167 x168 x169 x170 x171 x172 x173 x174 x175 x176 x177 x178 x179 x180 x181 x182 x183 x184 x185 x186 x187 x188 x189 x190 x191 x192 x193 x194 x195 x196 x197 x198 x199 x200 x201 x202 x203 x204 x205 x206 x207 x208 x209 x210 x211 x212 x213 x214 x215 x216 x217 x218 x219 x220 x221 x222 x223 x224 x225 x226 x227 x228 x229 x230 x231 x232 : Value) {K : Act → World → Prop} {Q : Exit → Act → World → Prop}
    (hK : ∀ (y163 y164 : Value) (kk : Nat) (w' : World), Mods noB wx w' → w'.heap[kk]? = some (.cells #[.int .u64 x.nV0, .int .u64 x.nV1, x.uV2, .bool x.bV3, .int .u64 x.nV4, .bool x.bV5, .int .u64 x.nV6, x.uV7, x.uV8, x.uV9] 34 (0, 0)) → (∀ b, b < wx.heap.size → b ≠ kk) → K ⟨#[x0, .pointer (some ⟨g, 0, none⟩), x2, x3, x4, x5, x6, x7, x8, x9, x10, x11, x12, x13, x14, x15, x16, x17, x18, x19, x20, .pointer (some ⟨kk, 0, none⟩), x22, x23, x24, x25, x26, x27, x28, x29, x30, x31, x32, x33, x34, x35, x36, x37, x38, x39, x40, x41, x42, x43, x44, x45, x46, x47, x48, x49, x50, x51, x52, x53, x54, x55, x56, x57, x58, x59, x60, x61, x62, x63, x64, x65, x66, x67, x68, x69, x70, x71, x72, x73, x74, x75, x76, x77, x78, x79, x80, x81, x82, x83, x84, x85, x86, x87, x88, x89, x90, x91, x92, x93, x94, x95, x96, x97, x98, x99, x100, x101, x102, x103, x104, x105, x106, x107, x108, x109, x110, x111, x112, x113, x114, x115, x116, x117, x118, x119, x120, x121, x122, x123, x124, x125, x126, x127, x128, x129, x130, x131, x132, x133, x134, x135, x136, x137, x138, x139, x140, x141, x142, x143, x144, x145, x146, x147, x148, x149, x150, x151, x152, x153, x154, x155, x156, x157, x158, x159, x160, x161, x162, y163, y164, x165, x166, x167, x168, x169, x170, x171, x172, x173, x174, x175, x176, x177, x178, x179, x180, x181, x182, x183, x184, x185, x186, x187, x188, x189, x190, x191, x192, x193, x194, x195, x196, x197, x198, x199, x200, x201, x202, x203, x204, x205, x206, x207, x208, x209, x210, x211, x212, x213, x214, x215, x216, x217, x218, x219, x220, x221, x222, x223, x224, x225, x226, x227, x228, x229, x230, x231, x232], []⟩ w') : Code.wp Tryz.prog (.region 18 (opsC 18 Tryz.f6) false) (Exit.then K Q) ⟨#[x0, .pointer (some ⟨g, 0, none⟩), x2, x3, x4, x5, x6, x7, x8, x9, x10, x11, x12, x13, x14, x15, x16, x17, x18, x19, x20, x21, x22, x23, x24, x25, x26, x27, x28, x29, x30, x31, x32, x33, x34, x35, x36, x37, x38, x39, x40, x41, x42, x43, x44, x45, x46, x47, x48, x49, x50, x51, x52, x53, x54, x55, x56, x57, x58, x59, x60, x61, x62, x63, x64, x65, x66, x67, x68, x69, x70, x71, x72, x73, x74, x75, x76, x77, x78, x79, x80, x81, x82, x83, x84, x85, x86, x87, x88, x89, x90, x91, x92, x93, x94, x95, x96, x97, x98, x99, x100, x101, x102, x103, x104, x105, x106, x107, x108, x109, x110, x111, x112, x113, x114, x115, x116, x117, x118, x119, x120, x121, x122, x123, x124, x125, x126, x127, x128, x129, x130, x131, x132, x133, x134, x135, x136, x137, x138, x139, x140, x141, x142, x143, x144, x145, x146, x147, x148, x149, x150, x151, x152, x153, x154, x155, x156, x157, x158, x159, x160, x161, x162, x163, x164, x165, x166, x167, x168, x169, x170, x171, x172, x173, x174, x175, x176, x177, x178, x179, x180, x181, x182, x183, x184, x185, x186, x187, x188, x189, x190, x191, x192, x193, x194, x195, x196, x197, x198, x199, x200, x201, x202, x203, x204, x205, x206, x207, x208, x209, x210, x211, x212, x213, x214, x215, x216, x217, x218, x219, x220, x221, x222, x223, x224, x225, x226, x227, x228, x229, x230, x231, x232], []⟩ wx := by
  obtain ⟨nP0, nP1, nP2, nP3, nP4, nP5, nP6, nP7, nP8, nP9, nC0, nC1, uD0, lD0, nA0, nA1, nV0, nV1, uV2, lV2, bV3, nV4, bV5, nV6, uV7, lV7, uV8, lV8, uV9, lV9, uG0, lG0, nG1, uG2, lG2, uH0, lH0, nH1, nK0, nK1, nU0, nU1, nU2, nU3, nU4, nU5, nM0, nM1, nM2, nM3, nM4, nM5, uM6, lM6, nN0⟩ := x
  unfold Recs.cells at hg
  simp only at hg
  have hll := lx
  simp only [lightB, List.all_cons, List.all_nil, Bool.and_true, Bool.and_eq_true, decide_eq_true_eq] at hll
  have oV2 := rn_one hx.dV2.1
  have oV7 := rn_one hx.dV7.1
  have oV8 := rn_one hx.dV8.1
  have oV9 := rn_one hx.dV9.1
  have GX := Lib.hid hg
  have HQ := Lib.hid hK
  clear hx lx hll hg hK
  refine wp_region_linT [(0, false), (1, false), (2, false), (3, false)] (by kernel_rfl) ?_
  refine wpOrdT_freesB [0] [.pointer (some ⟨g, 15, none⟩)] (rest := [(1, false), (2, false), (3, false)]) (by kernel_rfl) (by kernel_rfl) (by kernel_rfl) (.inr trivial) ?_
  refine wpOrdT_loadB (.tmp 163) (some 164) ⟨by kernel_rfl, by kernel_rfl, by kernel_rfl⟩ (load_part (off := 15) [.int .u64 nV0, .int .u64 nV1, uV2, .bool bV3, .int .u64 nV4, .bool bV5, .int .u64 nV6, uV7, uV8, uV9] (GX.out) Tryz.underlying34 rfl (by kernel_rfl) (by kernel_rfl)) (by kernel_rfl) (by kernel_rfl) (fun _ => trivial) ?_
  refine wpOrdT_alloc (.cells #[.int .u64 0, .int .u64 0, .slice none 0 0, .bool false, .int .u64 0, .bool false, .int .u64 0, .slice none 0 0, .slice none 0 0, .slice none 0 0] 34) (some 21) ⟨by kernel_rfl, by kernel_rfl, by kernel_rfl⟩ (by kernel_rfl) ?_
  intro kk w3 hk h3 m3 l3
  refine ⟨fun _ => trivial, ?_⟩
  refine wpOrdT_store (off := 0) (ty := 34) (x := .tmp 21) (y := .tmp 164) (cells := #[.int .u64 nV0, .int .u64 nV1, uV2, .bool bV3, .int .u64 nV4, .bool bV5, .int .u64 nV6, uV7, uV8, uV9]) #[.int .u64 nV0, .int .u64 nV1, uV2, .bool bV3, .int .u64 nV4, .bool bV5, .int .u64 nV6, uV7, uV8, uV9] none ⟨by kernel_rfl, by kernel_rfl, by kernel_rfl⟩ (by kernel_rfl) (by kernel_rfl) (by kernel_rfl) h3 (by kernel_rfl) (by kernel_rfl) (allL (consAll rfl (consAll rfl (consAll oV2 (consAll rfl (consAll rfl (consAll rfl (consAll rfl (consAll oV7 (consAll oV8 (consAll oV9 (rfl : ([] : List Value).all (·.oneCell') = true)))))))))))) (by kernel_rfl) ?_
  intro w4 h4 m4 z4
  refine ⟨fun _ => trivial, ?_⟩
  have m34 := m3.trans m4 (U := noB) (fun _ _ x => x) (fun i hi x => by omega)
  exact wpOrdT_doneL (show K _ _ from act_is (by kernel_rfl) (HQ.out (.pointer (some ⟨g, 15, none⟩)) (.agg #[.int .u64 nV0, .int .u64 nV1, uV2, .bool bV3, .int .u64 nV4, .bool bV5, .int .u64 nV6, uV7, uV8, uV9]) kk w4 m34 h4 (fun b hb e => by omega)))

set_option maxHeartbeats 4000000 in
theorem bk20 {w wx : World} {g : Nat} (x : Recs) (hx : x.At w) (lx : lightB x = true) (M : Mods noB w wx) (hg : wx.heap[g]? = some (.cells x.cells 46 (0, 0)))  (x0 x2 x3 x4 x5 x6 x7 x8 x9 x10 x11 x12 x13 x14 x15 x16 x17 x18 x19 x20 x21 x22 x23 x24 x25 x26 x27 x28 x29 x30 x31 x32 x33 x34 x35 x36 x37 x38 x39 x40 x41 x42 x43 x44 x45 x46 x47 x48 x49 x50 x51 x52 x53 x54 x55 x56 x57 x58 x59 x60 x61 x62 x63 x64 x65 x66 x67 x68 x69 x70 x71 x72 x73 x74 x75 x76 x77 x78 x79 x80 x81 x82 x83 x84 x85 x86 x87 x88 x89 x90 x91 x92 x93 x94 x95 x96 x97 x98 x99 x100 x101 x102 x103 x104 x105 x106 x107 x108 x109 x110 x111 x112 x113 x114 x115 x116 x117 x118 x119 x120 x121 x122 x123 x124 x125 x126 x127 x128 x129 x130 x131 x132 x133 x134 x135 x136 x137 x138 x139 x140 x141 x142 x143 x144 x145 x146 x147 x148 x149 x150 x151 x152 x153 x154 x155 x156 x157 x158 x159 x160 x161 x162 x163 x164 x165 x166 x167 x168 x169 x170 x171 x172 x173 x174 x175 x176 x177 x178 x179 x180 x181 x182 x183 x184 x185 x186 x187 x188 x189 x190 x191 x192 x193 x194 x195 x196 x197 x198 x199 x200 x201 x202 x203 x204 x205 x206 x207 x208 x209 x210 x211 x212 x213 x214 x215 x216 x217 x218 x219 x220 x221 x222 x223 x224 x225 x226 x227 x228 x229 x230 x231 x232 : Value) {K : Act → World → Prop} {Q : Exit → Act → World → Prop}
    (hK : ∀ (y181 y182 : Value) (kk : Nat) (w' : World), Mods noB wx w' → w'.heap[kk]? = some (.cells #[.int .u64 x.nM0, .int .u64 x.nM1, .int .u64 x.nM2, .int .u64 x.nM3, .int .u64 x.nM4, .int .u64 x.nM5, x.uM6] 44 (0, 0)) → (∀ b, b < wx.heap.size → b ≠ kk) → K ⟨#[x0, .pointer (some ⟨g, 0, none⟩), x2, x3, x4, x5, x6, x7, x8, x9, x10, x11, x12, x13, x14, x15, x16, x17, x18, x19, x20, x21, .pointer (some ⟨kk, 0, none⟩), x23, x24, x25, x26, x27, x28, x29, x30, x31, x32, x33, x34, x35, x36, x37, x38, x39, x40, x41, x42, x43, x44, x45, x46, x47, x48, x49, x50, x51, x52, x53, x54, x55, x56, x57, x58, x59, x60, x61, x62, x63, x64, x65, x66, x67, x68, x69, x70, x71, x72, x73, x74, x75, x76, x77, x78, x79, x80, x81, x82, x83, x84, x85, x86, x87, x88, x89, x90, x91, x92, x93, x94, x95, x96, x97, x98, x99, x100, x101, x102, x103, x104, x105, x106, x107, x108, x109, x110, x111, x112, x113, x114, x115, x116, x117, x118, x119, x120, x121, x122, x123, x124, x125, x126, x127, x128, x129, x130, x131, x132, x133, x134, x135, x136, x137, x138, x139, x140, x141, x142, x143, x144, x145, x146, x147, x148, x149, x150, x151, x152, x153, x154, x155, x156, x157, x158, x159, x160, x161, x162, x163, x164, x165, x166, x167, x168, x169, x170, x171, x172, x173, x174, x175, x176, x177, x178, x179, x180, y181, y182, x183, x184, x185, x186, x187, x188, x189, x190, x191, x192, x193, x194, x195, x196, x197, x198, x199, x200, x201, x202, x203, x204, x205, x206, x207, x208, x209, x210, x211, x212, x213, x214, x215, x216, x217, x218, x219, x220, x221, x222, x223, x224, x225, x226, x227, x228, x229, x230, x231, x232], []⟩ w') : Code.wp Tryz.prog (.region 20 (opsC 20 Tryz.f6) false) (Exit.then K Q) ⟨#[x0, .pointer (some ⟨g, 0, none⟩), x2, x3, x4, x5, x6, x7, x8, x9, x10, x11, x12, x13, x14, x15, x16, x17, x18, x19, x20, x21, x22, x23, x24, x25, x26, x27, x28, x29, x30, x31, x32, x33, x34, x35, x36, x37, x38, x39, x40, x41, x42, x43, x44, x45, x46, x47, x48, x49, x50, x51, x52, x53, x54, x55, x56, x57, x58, x59, x60, x61, x62, x63, x64, x65, x66, x67, x68, x69, x70, x71, x72, x73, x74, x75, x76, x77, x78, x79, x80, x81, x82, x83, x84, x85, x86, x87, x88, x89, x90, x91, x92, x93, x94, x95, x96, x97, x98, x99, x100, x101, x102, x103, x104, x105, x106, x107, x108, x109, x110, x111, x112, x113, x114, x115, x116, x117, x118, x119, x120, x121, x122, x123, x124, x125, x126, x127, x128, x129, x130, x131, x132, x133, x134, x135, x136, x137, x138, x139, x140, x141, x142, x143, x144, x145, x146, x147, x148, x149, x150, x151, x152, x153, x154, x155, x156, x157, x158, x159, x160, x161, x162, x163, x164, x165, x166, x167, x168, x169, x170, x171, x172, x173, x174, x175, x176, x177, x178, x179, x180, x181, x182, x183, x184, x185, x186, x187, x188, x189, x190, x191, x192, x193, x194, x195, x196, x197, x198, x199, x200, x201, x202, x203, x204, x205, x206, x207, x208, x209, x210, x211, x212, x213, x214, x215, x216, x217, x218, x219, x220, x221, x222, x223, x224, x225, x226, x227, x228, x229, x230, x231, x232], []⟩ wx := by
  obtain ⟨nP0, nP1, nP2, nP3, nP4, nP5, nP6, nP7, nP8, nP9, nC0, nC1, uD0, lD0, nA0, nA1, nV0, nV1, uV2, lV2, bV3, nV4, bV5, nV6, uV7, lV7, uV8, lV8, uV9, lV9, uG0, lG0, nG1, uG2, lG2, uH0, lH0, nH1, nK0, nK1, nU0, nU1, nU2, nU3, nU4, nU5, nM0, nM1, nM2, nM3, nM4, nM5, uM6, lM6, nN0⟩ := x
  unfold Recs.cells at hg
  simp only at hg
  have hll := lx
  simp only [lightB, List.all_cons, List.all_nil, Bool.and_true, Bool.and_eq_true, decide_eq_true_eq] at hll
  have oM6 := rn_one hx.dM6.1
  have GX := Lib.hid hg
  have HQ := Lib.hid hK
  clear hx lx hll hg hK
  refine wp_region_linT [(0, false), (1, false), (2, false), (3, false)] (by kernel_rfl) ?_
  refine wpOrdT_freesB [0] [.pointer (some ⟨g, 38, none⟩)] (rest := [(1, false), (2, false), (3, false)]) (by kernel_rfl) (by kernel_rfl) (by kernel_rfl) (.inr trivial) ?_
  refine wpOrdT_loadB (.tmp 181) (some 182) ⟨by kernel_rfl, by kernel_rfl, by kernel_rfl⟩ (load_part (off := 38) [.int .u64 nM0, .int .u64 nM1, .int .u64 nM2, .int .u64 nM3, .int .u64 nM4, .int .u64 nM5, uM6] (GX.out) Tryz.underlying44 rfl (by kernel_rfl) (by kernel_rfl)) (by kernel_rfl) (by kernel_rfl) (fun _ => trivial) ?_
  refine wpOrdT_alloc (.cells #[.int .u64 0, .int .u64 0, .int .u64 0, .int .u64 0, .int .u64 0, .int .u64 0, .slice none 0 0] 44) (some 22) ⟨by kernel_rfl, by kernel_rfl, by kernel_rfl⟩ (by kernel_rfl) ?_
  intro kk w3 hk h3 m3 l3
  refine ⟨fun _ => trivial, ?_⟩
  refine wpOrdT_store (off := 0) (ty := 44) (x := .tmp 22) (y := .tmp 182) (cells := #[.int .u64 nM0, .int .u64 nM1, .int .u64 nM2, .int .u64 nM3, .int .u64 nM4, .int .u64 nM5, uM6]) #[.int .u64 nM0, .int .u64 nM1, .int .u64 nM2, .int .u64 nM3, .int .u64 nM4, .int .u64 nM5, uM6] none ⟨by kernel_rfl, by kernel_rfl, by kernel_rfl⟩ (by kernel_rfl) (by kernel_rfl) (by kernel_rfl) h3 (by kernel_rfl) (by kernel_rfl) (allL (consAll rfl (consAll rfl (consAll rfl (consAll rfl (consAll rfl (consAll rfl (consAll oM6 (rfl : ([] : List Value).all (·.oneCell') = true))))))))) (by kernel_rfl) ?_
  intro w4 h4 m4 z4
  refine ⟨fun _ => trivial, ?_⟩
  have m34 := m3.trans m4 (U := noB) (fun _ _ x => x) (fun i hi x => by omega)
  exact wpOrdT_doneL (show K _ _ from act_is (by kernel_rfl) (HQ.out (.pointer (some ⟨g, 38, none⟩)) (.agg #[.int .u64 nM0, .int .u64 nM1, .int .u64 nM2, .int .u64 nM3, .int .u64 nM4, .int .u64 nM5, uM6]) kk w4 m34 h4 (fun b hb e => by omega)))

set_option maxHeartbeats 4000000 in
theorem bk19 {w wx : World} {g : Nat} (x : Recs) (hx : x.At w) (lx : lightB x = true) (M : Mods noB w wx) (hg : wx.heap[g]? = some (.cells x.cells 46 (0, 0))) {kw : Nat} (hw : wx.heap[kw]? = some (.cells #[.int .u64 x.nV0, .int .u64 x.nV1, x.uV2, .bool x.bV3, .int .u64 x.nV4, .bool x.bV5, .int .u64 x.nV6, x.uV7, x.uV8, x.uV9] 34 (0, 0))) (x0 x2 x3 x4 x5 x6 x7 x8 x9 x10 x11 x12 x13 x14 x15 x16 x17 x18 x19 x20 x22 x23 x24 x25 x26 x27 x28 x29 x30 x31 x32 x33 x34 x35 x36 x37 x38 x39 x40 x41 x42 x43 x44 x45 x46 x47 x48 x49 x50 x51 x52 x53 x54 x55 x56 x57 x58 x59 x60 x61 x62 x63 x64 x65 x66 x67 x68 x69 x70 x71 x72 x73 x74 x75 x76 x77 x78 x79 x80 x81 x82 x83 x84 x85 x86 x87 x88 x89 x90 x91 x92 x93 x94 x95 x96 x97 x98 x99 x100 x101 x102 x103 x104 x105 x106 x107 x108 x109 x110 x111 x112 x113 x114 x115 x116 x117 x118 x119 x120 x121 x122 x123 x124 x125 x126 x127 x128 x129 x130 x131 x132 x133 x134 x135 x136 x137 x138 x139 x140 x141 x142 x143 x144 x145 x146 x147 x148 x149 x150 x151 x152 x153 x154 x155 x156 x157 x158 x159 x160 x161 x162 x163 x164 x165 x166 x167 x168 x169 x170 x171 x172 x173 x174 x175 x176 x177 x178 x179 x180 x181 x182 x183 x184 x185 x186 x187 x188 x189 x190 x191 x192 x193 x194 x195 x196 x197 x198 x199 x200 x201 x202 x203 x204 x205 x206 x207 x208 x209 x210 x211 x212 x213 x214 x215 x216 x217 x218 x219 x220 x221 x222 x223 x224 x225 x226 x227 x228 x229 x230 x231 x232 : Value) {K : Act → World → Prop} {Q : Exit → Act → World → Prop}
    (hK : ∀ (y165 y166 y167 y168 y169 y170 y171 y172 y173 y174 y175 y176 y177 y178 y179 y180 : Value) (tV2 tV7 tV8 tV9 : Value) (w' : World), Mods (fun i => i = kw) wx w' → w'.heap[kw]? = some (.cells #[.int .u64 x.nV0, .int .u64 x.nV1, tV2, .bool x.bV3, .int .u64 x.nV4, .bool x.bV5, .int .u64 x.nV6, tV7, tV8, tV9] 34 (0, 0)) → RN w' tV2 (normL x.lV2) → RN w' tV7 (normL x.lV7) → RN w' tV8 (normL x.lV8) → RN w' tV9 (normL x.lV9) → K ⟨#[x0, .pointer (some ⟨g, 0, none⟩), x2, x3, x4, x5, x6, x7, x8, x9, x10, x11, x12, x13, x14, x15, x16, x17, x18, x19, x20, .pointer (some ⟨kw, 0, none⟩), x22, x23, x24, x25, x26, x27, x28, x29, x30, x31, x32, x33, x34, x35, x36, x37, x38, x39, x40, x41, x42, x43, x44, x45, x46, x47, x48, x49, x50, x51, x52, x53, x54, x55, x56, x57, x58, x59, x60, x61, x62, x63, x64, x65, x66, x67, x68, x69, x70, x71, x72, x73, x74, x75, x76, x77, x78, x79, x80, x81, x82, x83, x84, x85, x86, x87, x88, x89, x90, x91, x92, x93, x94, x95, x96, x97, x98, x99, x100, x101, x102, x103, x104, x105, x106, x107, x108, x109, x110, x111, x112, x113, x114, x115, x116, x117, x118, x119, x120, x121, x122, x123, x124, x125, x126, x127, x128, x129, x130, x131, x132, x133, x134, x135, x136, x137, x138, x139, x140, x141, x142, x143, x144, x145, x146, x147, x148, x149, x150, x151, x152, x153, x154, x155, x156, x157, x158, x159, x160, x161, x162, x163, x164, y165, y166, y167, y168, y169, y170, y171, y172, y173, y174, y175, y176, y177, y178, y179, y180, x181, x182, x183, x184, x185, x186, x187, x188, x189, x190, x191, x192, x193, x194, x195, x196, x197, x198, x199, x200, x201, x202, x203, x204, x205, x206, x207, x208, x209, x210, x211, x212, x213, x214, x215, x216, x217, x218, x219, x220, x221, x222, x223, x224, x225, x226, x227, x228, x229, x230, x231, x232], []⟩ w') : Code.wp Tryz.prog (.region 19 (opsC 19 Tryz.f6) true) (Exit.then K Q) ⟨#[x0, .pointer (some ⟨g, 0, none⟩), x2, x3, x4, x5, x6, x7, x8, x9, x10, x11, x12, x13, x14, x15, x16, x17, x18, x19, x20, .pointer (some ⟨kw, 0, none⟩), x22, x23, x24, x25, x26, x27, x28, x29, x30, x31, x32, x33, x34, x35, x36, x37, x38, x39, x40, x41, x42, x43, x44, x45, x46, x47, x48, x49, x50, x51, x52, x53, x54, x55, x56, x57, x58, x59, x60, x61, x62, x63, x64, x65, x66, x67, x68, x69, x70, x71, x72, x73, x74, x75, x76, x77, x78, x79, x80, x81, x82, x83, x84, x85, x86, x87, x88, x89, x90, x91, x92, x93, x94, x95, x96, x97, x98, x99, x100, x101, x102, x103, x104, x105, x106, x107, x108, x109, x110, x111, x112, x113, x114, x115, x116, x117, x118, x119, x120, x121, x122, x123, x124, x125, x126, x127, x128, x129, x130, x131, x132, x133, x134, x135, x136, x137, x138, x139, x140, x141, x142, x143, x144, x145, x146, x147, x148, x149, x150, x151, x152, x153, x154, x155, x156, x157, x158, x159, x160, x161, x162, x163, x164, x165, x166, x167, x168, x169, x170, x171, x172, x173, x174, x175, x176, x177, x178, x179, x180, x181, x182, x183, x184, x185, x186, x187, x188, x189, x190, x191, x192, x193, x194, x195, x196, x197, x198, x199, x200, x201, x202, x203, x204, x205, x206, x207, x208, x209, x210, x211, x212, x213, x214, x215, x216, x217, x218, x219, x220, x221, x222, x223, x224, x225, x226, x227, x228, x229, x230, x231, x232], []⟩ wx := by
  obtain ⟨nP0, nP1, nP2, nP3, nP4, nP5, nP6, nP7, nP8, nP9, nC0, nC1, uD0, lD0, nA0, nA1, nV0, nV1, uV2, lV2, bV3, nV4, bV5, nV6, uV7, lV7, uV8, lV8, uV9, lV9, uG0, lG0, nG1, uG2, lG2, uH0, lH0, nH1, nK0, nK1, nU0, nU1, nU2, nU3, nU4, nU5, nM0, nM1, nM2, nM3, nM4, nM5, uM6, lM6, nN0⟩ := x
  unfold Recs.cells at hg
  simp only at hg
  have hll := lx
  simp only [lightB, List.all_cons, List.all_nil, Bool.and_true, Bool.and_eq_true, decide_eq_true_eq] at hll
  simp only at hw hK
  have N2 := Lib.hid (fun (wy : World) (hm : Mods noB wx wy) => norm_any (RdM.keep (w := w) hx.dV2.1 (M.then0 hm) (fun _ _ x => x)) hx.dV2.2.1 (Nat.le_trans (hll.2.1) (by omega)))
  have N7 := Lib.hid (fun (wy : World) (hm : Mods noB wx wy) => norm_any (RdM.keep (w := w) hx.dV7.1 (M.then0 hm) (fun _ _ x => x)) hx.dV7.2.1 (Nat.le_trans (hll.2.2.1) (by omega)))
  have N8 := Lib.hid (fun (wy : World) (hm : Mods noB wx wy) => norm_any (RdM.keep (w := w) hx.dV8.1 (M.then0 hm) (fun _ _ x => x)) hx.dV8.2.1 (Nat.le_trans (hll.2.2.2.1) (by omega)))
  have N9 := Lib.hid (fun (wy : World) (hm : Mods noB wx wy) => norm_any (RdM.keep (w := w) hx.dV9.1 (M.then0 hm) (fun _ _ x => x)) hx.dV9.2.1 (Nat.le_trans (hll.2.2.2.2.1) (by omega)))
  have GX := Lib.hid hg
  have HW := Lib.hid hw
  have HQ := Lib.hid hK
  have HL := Lib.hid (lt_of_heap hw)
  clear hx lx hll hg hK hw
  have B := Lib.hid ((Mods.refl noB wx).drew)
  refine wp_region_ordT [(0, true), (1, true), (3, true), (4, true), (6, true), (7, true), (9, true), (10, true), (2, false), (12, true), (5, false), (8, false), (11, false), (13, false), (14, false), (15, false), (16, false), (17, false), (18, false), (19, false)] [13, 14, 15, 16, 17, 18, 19] (fun b => Mods noB wx b) (by kernel_rfl) (by kernel_rfl) (by kernel_rfl) (by kernel_rfl) B.out ?_
  refine wpOrdT_frees [0] [.pointer (some ⟨kw, 2, none⟩)] (rest := [(1, true), (3, true), (4, true), (6, true), (7, true), (9, true), (10, true), (2, false), (12, true), (5, false), (8, false), (11, false), (13, false), (14, false), (15, false), (16, false), (17, false), (18, false), (19, false)]) (by kernel_rfl) (by kernel_rfl) (fun _ => by kernel_rfl) ?_
  refine wpOrdT_load (.tmp 165) (some 166) ⟨by kernel_rfl, by kernel_rfl, by kernel_rfl⟩ (fun b hb => load_part (off := 2) [uV2] (blk_step hb HW.out) Tryz.underlying30 rfl (by kernel_rfl) (by kernel_rfl)) (by kernel_rfl) (by kernel_rfl) ?_
  refine wpOrdT_frees [3] [.pointer (some ⟨kw, 7, none⟩)] (rest := [(4, true), (6, true), (7, true), (9, true), (10, true), (2, false), (12, true), (5, false), (8, false), (11, false), (13, false), (14, false), (15, false), (16, false), (17, false), (18, false), (19, false)]) (by kernel_rfl) (by kernel_rfl) (fun _ => by kernel_rfl) ?_
  refine wpOrdT_load (.tmp 168) (some 169) ⟨by kernel_rfl, by kernel_rfl, by kernel_rfl⟩ (fun b hb => load_part (off := 7) [uV7] (blk_step hb HW.out) Tryz.underlying30 rfl (by kernel_rfl) (by kernel_rfl)) (by kernel_rfl) (by kernel_rfl) ?_
  refine wpOrdT_frees [6] [.pointer (some ⟨kw, 8, none⟩)] (rest := [(7, true), (9, true), (10, true), (2, false), (12, true), (5, false), (8, false), (11, false), (13, false), (14, false), (15, false), (16, false), (17, false), (18, false), (19, false)]) (by kernel_rfl) (by kernel_rfl) (fun _ => by kernel_rfl) ?_
  refine wpOrdT_load (.tmp 171) (some 172) ⟨by kernel_rfl, by kernel_rfl, by kernel_rfl⟩ (fun b hb => load_part (off := 8) [uV8] (blk_step hb HW.out) Tryz.underlying30 rfl (by kernel_rfl) (by kernel_rfl)) (by kernel_rfl) (by kernel_rfl) ?_
  refine wpOrdT_frees [9] [.pointer (some ⟨kw, 9, none⟩)] (rest := [(10, true), (2, false), (12, true), (5, false), (8, false), (11, false), (13, false), (14, false), (15, false), (16, false), (17, false), (18, false), (19, false)]) (by kernel_rfl) (by kernel_rfl) (fun _ => by kernel_rfl) ?_
  refine wpOrdT_load (.tmp 174) (some 175) ⟨by kernel_rfl, by kernel_rfl, by kernel_rfl⟩ (fun b hb => load_part (off := 9) [uV9] (blk_step hb HW.out) Tryz.underlying30 rfl (by kernel_rfl) (by kernel_rfl)) (by kernel_rfl) (by kernel_rfl) ?_
  refine wpOrdT_call (some 167) ⟨by kernel_rfl, by kernel_rfl, by kernel_rfl⟩ (N2.out _ B.out) (fun _ => by kernel_rfl) ?_
  rintro r v2 ⟨tV2, rfl, o2, m1, f2⟩
  have S2 := Lib.hid (fun b (hb : tV2.ownBlock = some b) => show wx.heap.size ≤ b from Nat.le_trans B.out.size (f2 b hb))
  replace B := Lib.hid (B.out.then0 m1)
  refine ⟨_, rfl, fun _ => B.out, ?_⟩
  clear m1
  refine wpOrdT_frees [12] [.pointer (some ⟨kw, 2, none⟩)] (rest := [(5, false), (8, false), (11, false), (13, false), (14, false), (15, false), (16, false), (17, false), (18, false), (19, false)]) (by kernel_rfl) (by kernel_rfl) (fun _ => by kernel_rfl) ?_
  refine wpOrdT_call (some 170) ⟨by kernel_rfl, by kernel_rfl, by kernel_rfl⟩ (N7.out _ B.out) (fun _ => by kernel_rfl) ?_
  rintro r v7 ⟨tV7, rfl, o7, m1, f7⟩
  replace o2 := RdM.keep o2 m1 (fun _ _ x => x)
  have S7 := Lib.hid (fun b (hb : tV7.ownBlock = some b) => show wx.heap.size ≤ b from Nat.le_trans B.out.size (f7 b hb))
  replace B := Lib.hid (B.out.then0 m1)
  refine ⟨_, rfl, fun _ => B.out, ?_⟩
  clear m1
  refine wpOrdT_call (some 173) ⟨by kernel_rfl, by kernel_rfl, by kernel_rfl⟩ (N8.out _ B.out) (fun _ => by kernel_rfl) ?_
  rintro r v8 ⟨tV8, rfl, o8, m1, f8⟩
  replace o2 := RdM.keep o2 m1 (fun _ _ x => x)
  replace o7 := RdM.keep o7 m1 (fun _ _ x => x)
  have S8 := Lib.hid (fun b (hb : tV8.ownBlock = some b) => show wx.heap.size ≤ b from Nat.le_trans B.out.size (f8 b hb))
  replace B := Lib.hid (B.out.then0 m1)
  refine ⟨_, rfl, fun _ => B.out, ?_⟩
  clear m1
  refine wpOrdT_call (some 176) ⟨by kernel_rfl, by kernel_rfl, by kernel_rfl⟩ (N9.out _ B.out) (fun _ => by kernel_rfl) ?_
  rintro r v9 ⟨tV9, rfl, o9, m1, f9⟩
  replace o2 := RdM.keep o2 m1 (fun _ _ x => x)
  replace o7 := RdM.keep o7 m1 (fun _ _ x => x)
  replace o8 := RdM.keep o8 m1 (fun _ _ x => x)
  have S9 := Lib.hid (fun b (hb : tV9.ownBlock = some b) => show wx.heap.size ≤ b from Nat.le_trans B.out.size (f9 b hb))
  replace B := Lib.hid (B.out.then0 m1)
  refine ⟨_, rfl, fun _ => B.out, ?_⟩
  clear m1
  have H0 := blk_step B.out HW.out
  have Z0 := B.out.mono (T := fun i => i = kw) (fun _ _ x => x.elim)
  refine wpOrdT_store (off := 2) (ty := 30) (x := .tmp 177) (y := .tmp 167) (cells := #[tV2]) #[.int .u64 nV0, .int .u64 nV1, tV2, .bool bV3, .int .u64 nV4, .bool bV5, .int .u64 nV6, uV7, uV8, uV9] none ⟨by kernel_rfl, by kernel_rfl, by kernel_rfl⟩ (by kernel_rfl) (by kernel_rfl) (by kernel_rfl) H0 (by kernel_rfl) (by kernel_rfl) (allL (consAll (rn_one o2) (rfl : ([] : List Value).all (·.oneCell') = true))) (by kernel_rfl) ?_
  intro u0 H1 q0 z0
  refine ⟨fun h => absurd h (by decide), ?_⟩
  have Z1 := Z0.trans q0 (U := fun i => i = kw) (fun _ _ x => x) (fun _ _ x => x)
  replace o2 := RdM.keep o2 q0 (fun b hb e => absurd HL.out (by have := S2.out b hb; omega))
  replace o7 := RdM.keep o7 q0 (fun b hb e => absurd HL.out (by have := S7.out b hb; omega))
  replace o8 := RdM.keep o8 q0 (fun b hb e => absurd HL.out (by have := S8.out b hb; omega))
  replace o9 := RdM.keep o9 q0 (fun b hb e => absurd HL.out (by have := S9.out b hb; omega))
  refine wpOrdT_freesB [14] [.pointer (some ⟨kw, 7, none⟩)] (rest := [(15, false), (16, false), (17, false), (18, false), (19, false)]) (by kernel_rfl) (by kernel_rfl) (by kernel_rfl) (.inl (by kernel_rfl)) ?_
  refine wpOrdT_store (off := 7) (ty := 30) (x := .tmp 178) (y := .tmp 170) (cells := #[tV7]) #[.int .u64 nV0, .int .u64 nV1, tV2, .bool bV3, .int .u64 nV4, .bool bV5, .int .u64 nV6, tV7, uV8, uV9] none ⟨by kernel_rfl, by kernel_rfl, by kernel_rfl⟩ (by kernel_rfl) (by kernel_rfl) (by kernel_rfl) H1 (by kernel_rfl) (by kernel_rfl) (allL (consAll (rn_one o7) (rfl : ([] : List Value).all (·.oneCell') = true))) (by kernel_rfl) ?_
  intro u1 H2 q1 z1
  refine ⟨fun h => absurd h (by decide), ?_⟩
  have Z2 := Z1.trans q1 (U := fun i => i = kw) (fun _ _ x => x) (fun _ _ x => x)
  replace o2 := RdM.keep o2 q1 (fun b hb e => absurd HL.out (by have := S2.out b hb; omega))
  replace o7 := RdM.keep o7 q1 (fun b hb e => absurd HL.out (by have := S7.out b hb; omega))
  replace o8 := RdM.keep o8 q1 (fun b hb e => absurd HL.out (by have := S8.out b hb; omega))
  replace o9 := RdM.keep o9 q1 (fun b hb e => absurd HL.out (by have := S9.out b hb; omega))
  refine wpOrdT_freesB [16] [.pointer (some ⟨kw, 8, none⟩)] (rest := [(17, false), (18, false), (19, false)]) (by kernel_rfl) (by kernel_rfl) (by kernel_rfl) (.inl (by kernel_rfl)) ?_
  refine wpOrdT_store (off := 8) (ty := 30) (x := .tmp 179) (y := .tmp 173) (cells := #[tV8]) #[.int .u64 nV0, .int .u64 nV1, tV2, .bool bV3, .int .u64 nV4, .bool bV5, .int .u64 nV6, tV7, tV8, uV9] none ⟨by kernel_rfl, by kernel_rfl, by kernel_rfl⟩ (by kernel_rfl) (by kernel_rfl) (by kernel_rfl) H2 (by kernel_rfl) (by kernel_rfl) (allL (consAll (rn_one o8) (rfl : ([] : List Value).all (·.oneCell') = true))) (by kernel_rfl) ?_
  intro u2 H3 q2 z2
  refine ⟨fun h => absurd h (by decide), ?_⟩
  have Z3 := Z2.trans q2 (U := fun i => i = kw) (fun _ _ x => x) (fun _ _ x => x)
  replace o2 := RdM.keep o2 q2 (fun b hb e => absurd HL.out (by have := S2.out b hb; omega))
  replace o7 := RdM.keep o7 q2 (fun b hb e => absurd HL.out (by have := S7.out b hb; omega))
  replace o8 := RdM.keep o8 q2 (fun b hb e => absurd HL.out (by have := S8.out b hb; omega))
  replace o9 := RdM.keep o9 q2 (fun b hb e => absurd HL.out (by have := S9.out b hb; omega))
  refine wpOrdT_freesB [18] [.pointer (some ⟨kw, 9, none⟩)] (rest := [(19, false)]) (by kernel_rfl) (by kernel_rfl) (by kernel_rfl) (.inl (by kernel_rfl)) ?_
  refine wpOrdT_store (off := 9) (ty := 30) (x := .tmp 180) (y := .tmp 176) (cells := #[tV9]) #[.int .u64 nV0, .int .u64 nV1, tV2, .bool bV3, .int .u64 nV4, .bool bV5, .int .u64 nV6, tV7, tV8, tV9] none ⟨by kernel_rfl, by kernel_rfl, by kernel_rfl⟩ (by kernel_rfl) (by kernel_rfl) (by kernel_rfl) H3 (by kernel_rfl) (by kernel_rfl) (allL (consAll (rn_one o9) (rfl : ([] : List Value).all (·.oneCell') = true))) (by kernel_rfl) ?_
  intro u3 H4 q3 z3
  refine ⟨fun h => absurd h (by decide), ?_⟩
  have Z4 := Z3.trans q3 (U := fun i => i = kw) (fun _ _ x => x) (fun _ _ x => x)
  replace o2 := RdM.keep o2 q3 (fun b hb e => absurd HL.out (by have := S2.out b hb; omega))
  replace o7 := RdM.keep o7 q3 (fun b hb e => absurd HL.out (by have := S7.out b hb; omega))
  replace o8 := RdM.keep o8 q3 (fun b hb e => absurd HL.out (by have := S8.out b hb; omega))
  replace o9 := RdM.keep o9 q3 (fun b hb e => absurd HL.out (by have := S9.out b hb; omega))
  refine wpOrdT_done (show K _ _ from ?_)
  exact act_is (by kernel_rfl) (HQ.out (.pointer (some ⟨kw, 2, none⟩)) (.agg #[uV2]) (.agg #[tV2]) (.pointer (some ⟨kw, 7, none⟩)) (.agg #[uV7]) (.agg #[tV7]) (.pointer (some ⟨kw, 8, none⟩)) (.agg #[uV8]) (.agg #[tV8]) (.pointer (some ⟨kw, 9, none⟩)) (.agg #[uV9]) (.agg #[tV9]) (.pointer (some ⟨kw, 2, none⟩)) (.pointer (some ⟨kw, 7, none⟩)) (.pointer (some ⟨kw, 8, none⟩)) (.pointer (some ⟨kw, 9, none⟩)) tV2 tV7 tV8 tV9 u3 Z4 H4 o2 o7 o8 o9)

set_option maxHeartbeats 4000000 in
theorem bk21 {w wx : World} {g : Nat} (x : Recs) (hx : x.At w) (lx : lightB x = true) (M : Mods noB w wx) (hg : wx.heap[g]? = some (.cells x.cells 46 (0, 0))) {kw : Nat} (hw : wx.heap[kw]? = some (.cells #[.int .u64 x.nM0, .int .u64 x.nM1, .int .u64 x.nM2, .int .u64 x.nM3, .int .u64 x.nM4, .int .u64 x.nM5, x.uM6] 44 (0, 0))) (x0 x2 x3 x4 x5 x6 x7 x8 x9 x10 x11 x12 x13 x14 x15 x16 x17 x18 x19 x20 x21 x23 x24 x25 x26 x27 x28 x29 x30 x31 x32 x33 x34 x35 x36 x37 x38 x39 x40 x41 x42 x43 x44 x45 x46 x47 x48 x49 x50 x51 x52 x53 x54 x55 x56 x57 x58 x59 x60 x61 x62 x63 x64 x65 x66 x67 x68 x69 x70 x71 x72 x73 x74 x75 x76 x77 x78 x79 x80 x81 x82 x83 x84 x85 x86 x87 x88 x89 x90 x91 x92 x93 x94 x95 x96 x97 x98 x99 x100 x101 x102 x103 x104 x105 x106 x107 x108 x109 x110 x111 x112 x113 x114 x115 x116 x117 x118 x119 x120 x121 x122 x123 x124 x125 x126 x127 x128 x129 x130 x131 x132 x133 x134 x135 x136 x137 x138 x139 x140 x141 x142 x143 x144 x145 x146 x147 x148 x149 x150 x151 x152 x153 x154 x155 x156 x157 x158 x159 x160 x161 x162 x163 x164 x165 x166 x167 x168 x169 x170 x171 x172 x173 x174 x175 x176 x177 x178 x179 x180 x181 x182 x183 x184 x185 x186 x187 x188 x189 x190 x191 x192 x193 x194 x195 x196 x197 x198 x199 x200 x201 x202 x203 x204 x205 x206 x207 x208 x209 x210 x211 x212 x213 x214 x215 x216 x217 x218 x219 x220 x221 x222 x223 x224 x225 x226 x227 x228 x229 x230 x231 x232 : Value) {K : Act → World → Prop} {Q : Exit → Act → World → Prop}
    (hK : ∀ (y183 y184 y185 y186 : Value) (tM6 : Value) (w' : World), Mods (fun i => i = kw) wx w' → w'.heap[kw]? = some (.cells #[.int .u64 x.nM0, .int .u64 x.nM1, .int .u64 x.nM2, .int .u64 x.nM3, .int .u64 x.nM4, .int .u64 x.nM5, tM6] 44 (0, 0)) → RN w' tM6 (normL x.lM6) → K ⟨#[x0, .pointer (some ⟨g, 0, none⟩), x2, x3, x4, x5, x6, x7, x8, x9, x10, x11, x12, x13, x14, x15, x16, x17, x18, x19, x20, x21, .pointer (some ⟨kw, 0, none⟩), x23, x24, x25, x26, x27, x28, x29, x30, x31, x32, x33, x34, x35, x36, x37, x38, x39, x40, x41, x42, x43, x44, x45, x46, x47, x48, x49, x50, x51, x52, x53, x54, x55, x56, x57, x58, x59, x60, x61, x62, x63, x64, x65, x66, x67, x68, x69, x70, x71, x72, x73, x74, x75, x76, x77, x78, x79, x80, x81, x82, x83, x84, x85, x86, x87, x88, x89, x90, x91, x92, x93, x94, x95, x96, x97, x98, x99, x100, x101, x102, x103, x104, x105, x106, x107, x108, x109, x110, x111, x112, x113, x114, x115, x116, x117, x118, x119, x120, x121, x122, x123, x124, x125, x126, x127, x128, x129, x130, x131, x132, x133, x134, x135, x136, x137, x138, x139, x140, x141, x142, x143, x144, x145, x146, x147, x148, x149, x150, x151, x152, x153, x154, x155, x156, x157, x158, x159, x160, x161, x162, x163, x164, x165, x166, x167, x168, x169, x170, x171, x172, x173, x174, x175, x176, x177, x178, x179, x180, x181, x182, y183, y184, y185, y186, x187, x188, x189, x190, x191, x192, x193, x194, x195, x196, x197, x198, x199, x200, x201, x202, x203, x204, x205, x206, x207, x208, x209, x210, x211, x212, x213, x214, x215, x216, x217, x218, x219, x220, x221, x222, x223, x224, x225, x226, x227, x228, x229, x230, x231, x232], []⟩ w') : Code.wp Tryz.prog (.region 21 (opsC 21 Tryz.f6) false) (Exit.then K Q) ⟨#[x0, .pointer (some ⟨g, 0, none⟩), x2, x3, x4, x5, x6, x7, x8, x9, x10, x11, x12, x13, x14, x15, x16, x17, x18, x19, x20, x21, .pointer (some ⟨kw, 0, none⟩), x23, x24, x25, x26, x27, x28, x29, x30, x31, x32, x33, x34, x35, x36, x37, x38, x39, x40, x41, x42, x43, x44, x45, x46, x47, x48, x49, x50, x51, x52, x53, x54, x55, x56, x57, x58, x59, x60, x61, x62, x63, x64, x65, x66, x67, x68, x69, x70, x71, x72, x73, x74, x75, x76, x77, x78, x79, x80, x81, x82, x83, x84, x85, x86, x87, x88, x89, x90, x91, x92, x93, x94, x95, x96, x97, x98, x99, x100, x101, x102, x103, x104, x105, x106, x107, x108, x109, x110, x111, x112, x113, x114, x115, x116, x117, x118, x119, x120, x121, x122, x123, x124, x125, x126, x127, x128, x129, x130, x131, x132, x133, x134, x135, x136, x137, x138, x139, x140, x141, x142, x143, x144, x145, x146, x147, x148, x149, x150, x151, x152, x153, x154, x155, x156, x157, x158, x159, x160, x161, x162, x163, x164, x165, x166, x167, x168, x169, x170, x171, x172, x173, x174, x175, x176, x177, x178, x179, x180, x181, x182, x183, x184, x185, x186, x187, x188, x189, x190, x191, x192, x193, x194, x195, x196, x197, x198, x199, x200, x201, x202, x203, x204, x205, x206, x207, x208, x209, x210, x211, x212, x213, x214, x215, x216, x217, x218, x219, x220, x221, x222, x223, x224, x225, x226, x227, x228, x229, x230, x231, x232], []⟩ wx := by
  obtain ⟨nP0, nP1, nP2, nP3, nP4, nP5, nP6, nP7, nP8, nP9, nC0, nC1, uD0, lD0, nA0, nA1, nV0, nV1, uV2, lV2, bV3, nV4, bV5, nV6, uV7, lV7, uV8, lV8, uV9, lV9, uG0, lG0, nG1, uG2, lG2, uH0, lH0, nH1, nK0, nK1, nU0, nU1, nU2, nU3, nU4, nU5, nM0, nM1, nM2, nM3, nM4, nM5, uM6, lM6, nN0⟩ := x
  unfold Recs.cells at hg
  simp only at hg
  have hll := lx
  simp only [lightB, List.all_cons, List.all_nil, Bool.and_true, Bool.and_eq_true, decide_eq_true_eq] at hll
  simp only at hw hK
  have N6 := Lib.hid (fun (wy : World) (hm : Mods noB wx wy) => norm_any (RdM.keep (w := w) hx.dM6.1 (M.then0 hm) (fun _ _ x => x)) hx.dM6.2.1 (Nat.le_trans (hll.2.2.2.2.2.2.2.2) (by omega)))
  have GX := Lib.hid hg
  have HW := Lib.hid hw
  have HQ := Lib.hid hK
  have HL := Lib.hid (lt_of_heap hw)
  clear hx lx hll hg hK hw
  have B := Lib.hid (Mods.refl noB wx)
  refine wp_region_linT [(0, false), (1, false), (2, false), (3, false), (4, false)] (by kernel_rfl) ?_
  refine wpOrdT_freesB [0] [.pointer (some ⟨kw, 6, none⟩)] (rest := [(1, false), (2, false), (3, false), (4, false)]) (by kernel_rfl) (by kernel_rfl) (by kernel_rfl) (.inr trivial) ?_
  refine wpOrdT_loadB (.tmp 183) (some 184) ⟨by kernel_rfl, by kernel_rfl, by kernel_rfl⟩ (load_part (off := 6) [uM6] (blk_step B.out HW.out) Tryz.underlying30 rfl (by kernel_rfl) (by kernel_rfl)) (by kernel_rfl) (by kernel_rfl) (fun _ => trivial) ?_
  refine wpOrdT_call (some 185) ⟨by kernel_rfl, by kernel_rfl, by kernel_rfl⟩ (N6.out _ B.out) (fun _ => by kernel_rfl) ?_
  rintro r v6 ⟨tM6, rfl, o6, m1, f6⟩
  have S6 := Lib.hid (fun b (hb : tM6.ownBlock = some b) => show wx.heap.size ≤ b from Nat.le_trans B.out.size (f6 b hb))
  replace B := Lib.hid (B.out.then0 m1)
  refine ⟨_, rfl, fun _ => trivial, ?_⟩
  clear m1
  refine wpOrdT_freesB [3] [.pointer (some ⟨kw, 6, none⟩)] (rest := [(4, false)]) (by kernel_rfl) (by kernel_rfl) (by kernel_rfl) (.inr trivial) ?_
  have H0 := blk_step B.out HW.out
  have Z0 := B.out.mono (T := fun i => i = kw) (fun _ _ x => x.elim)
  refine wpOrdT_store (off := 6) (ty := 30) (x := .tmp 186) (y := .tmp 185) (cells := #[tM6]) #[.int .u64 nM0, .int .u64 nM1, .int .u64 nM2, .int .u64 nM3, .int .u64 nM4, .int .u64 nM5, tM6] none ⟨by kernel_rfl, by kernel_rfl, by kernel_rfl⟩ (by kernel_rfl) (by kernel_rfl) (by kernel_rfl) H0 (by kernel_rfl) (by kernel_rfl) (allL (consAll (rn_one o6) (rfl : ([] : List Value).all (·.oneCell') = true))) (by kernel_rfl) ?_
  intro u0 H1 q0 z0
  refine ⟨fun _ => trivial, ?_⟩
  have Z1 := Z0.trans q0 (U := fun i => i = kw) (fun _ _ x => x) (fun _ _ x => x)
  replace o6 := RdM.keep o6 q0 (fun b hb e => absurd HL.out (by have := S6.out b hb; omega))
  exact wpOrdT_doneL (show K _ _ from act_is (by kernel_rfl) (HQ.out (.pointer (some ⟨kw, 6, none⟩)) (.agg #[uM6]) (.agg #[tM6]) (.pointer (some ⟨kw, 6, none⟩)) tM6 u0 Z1 H1 o6))

set_option maxHeartbeats 4000000 in
theorem bk22 {w wx : World} {g : Nat} (x : Recs) (hx : x.At w) (lx : lightB x = true) (M : Mods noB w wx) (hg : wx.heap[g]? = some (.cells x.cells 46 (0, 0))) {kV kG kH kM kw ky : Nat} {sV2 sV7 sV8 sV9 sG0 sG2 sH0 sM6 tV2 tV7 tV8 tV9 tM6 : Value} (qV : wx.heap[kV]? = some (.cells #[.int .u64 x.nV0, .int .u64 x.nV1, sV2, .bool x.bV3, .int .u64 x.nV4, .bool x.bV5, .int .u64 x.nV6, sV7, sV8, sV9] 34 (0, 0))) (qG : wx.heap[kG]? = some (.cells #[sG0, .int .u64 x.nG1, sG2] 36 (0, 0))) (qH : wx.heap[kH]? = some (.cells #[sH0, .int .u64 x.nH1] 38 (0, 0))) (qM : wx.heap[kM]? = some (.cells #[.int .u64 x.nM0, .int .u64 x.nM1, .int .u64 x.nM2, .int .u64 x.nM3, .int .u64 x.nM4, .int .u64 x.nM5, sM6] 44 (0, 0))) (hw : wx.heap[kw]? = some (.cells #[.int .u64 x.nV0, .int .u64 x.nV1, tV2, .bool x.bV3, .int .u64 x.nV4, .bool x.bV5, .int .u64 x.nV6, tV7, tV8, tV9] 34 (0, 0))) (hy : wx.heap[ky]? = some (.cells #[.int .u64 x.nM0, .int .u64 x.nM1, .int .u64 x.nM2, .int .u64 x.nM3, .int .u64 x.nM4, .int .u64 x.nM5, tM6] 44 (0, 0))) (sV2r : RN wx sV2 (normL x.lV2)) (sV7r : RN wx sV7 (normL x.lV7)) (sV8r : RN wx sV8 (normL x.lV8)) (sV9r : RN wx sV9 (normL x.lV9)) (sG0r : RN wx sG0 (normL x.lG0)) (sG2r : RN wx sG2 (normL x.lG2)) (sH0r : RN wx sH0 (normL x.lH0)) (sM6r : RN wx sM6 (normL x.lM6)) (tV2r : RN wx tV2 (normL x.lV2)) (tV7r : RN wx tV7 (normL x.lV7)) (tV8r : RN wx tV8 (normL x.lV8)) (tV9r : RN wx tV9 (normL x.lV9)) (tM6r : RN wx tM6 (normL x.lM6))  (x0 x2 x3 x5 x7 x9 x11 x12 x13 x14 x15 x16 x23 x24 x25 x26 x27 x28 x29 x30 x31 x32 x33 x34 x35 x36 x37 x38 x39 x40 x41 x42 x43 x44 x45 x46 x47 x48 x49 x50 x51 x52 x53 x54 x55 x56 x57 x58 x59 x60 x61 x62 x63 x64 x65 x66 x67 x68 x69 x70 x71 x72 x73 x74 x75 x76 x77 x78 x79 x80 x81 x82 x83 x84 x85 x86 x87 x88 x89 x90 x91 x92 x93 x94 x95 x96 x97 x98 x99 x100 x101 x102 x103 x104 x105 x106 x107 x108 x109 x110 x111 x112 x113 x114 x115 x116 x117 x118 x119 x120 x121 x122 x123 x124 x125 x126 x127 x128 x129 x130 x131 x132 x133 x134 x135 x136 x137 x138 x139 x140 x141 x142 x143 x144 x145 x146 x147 x148 x149 x150 x151 x152 x153 x154 x155 x156 x157 x158 x159 x160 x161 x162 x163 x164 x165 x166 x167 x168 x169 x170 x171 x172 x173 x174 x175 x176 x177 x178 x179 x180 x181 x182 x183 x184 x185 x186 x187 x188 x189 x190 x191 x192 x193 x194 x195 x196 x197 x198 x199 x200 x201 x202 x203 x204 x205 x206 x207 x208 x209 x210 x211 x212 x213 x214 x215 x216 x217 x218 x219 x220 x221 x222 x223 x224 x225 x226 x227 x228 x229 x230 x231 x232 : Value) {K : Act → World → Prop} {Q : Exit → Act → World → Prop}
    (hK : ∀ (y187 y188 y189 y190 y191 y192 y193 y194 y195 y196 y197 y198 y199 y200 y201 y202 y203 y204 y205 y206 y207 y208 y209 y210 y211 y212 y213 y214 y215 y216 y217 y218 y219 y220 y221 y222 y223 y224 y225 y226 y227 y228 y229 y230 y231 y232 : Value)  (w' : World), Mods noB wx w' → K ⟨#[x0, .pointer (some ⟨g, 0, none⟩), .bool true, x3, .int .i64 0, x5, .int .i64 0, x7, .int .i64 0, x9, .int .i64 0, x11, x12, x13, x14, x15, x16, .pointer (some ⟨kV, 0, none⟩), .pointer (some ⟨kG, 0, none⟩), .pointer (some ⟨kH, 0, none⟩), .pointer (some ⟨kM, 0, none⟩), .pointer (some ⟨kw, 0, none⟩), .pointer (some ⟨ky, 0, none⟩), x23, x24, x25, x26, x27, x28, x29, x30, x31, x32, x33, x34, x35, x36, x37, x38, x39, x40, x41, x42, x43, x44, x45, x46, x47, x48, x49, x50, x51, x52, x53, x54, x55, x56, x57, x58, x59, x60, x61, x62, x63, x64, x65, x66, x67, x68, x69, x70, x71, x72, x73, x74, x75, x76, x77, x78, x79, x80, x81, x82, x83, x84, x85, x86, x87, x88, x89, x90, x91, x92, x93, x94, x95, x96, x97, x98, x99, x100, x101, x102, x103, x104, x105, x106, x107, x108, x109, x110, x111, x112, x113, x114, x115, x116, x117, x118, x119, x120, x121, x122, x123, x124, x125, x126, x127, x128, x129, x130, x131, x132, x133, x134, x135, x136, x137, x138, x139, x140, x141, x142, x143, x144, x145, x146, x147, x148, x149, x150, x151, x152, x153, x154, x155, x156, x157, x158, x159, x160, x161, x162, x163, x164, x165, x166, x167, x168, x169, x170, x171, x172, x173, x174, x175, x176, x177, x178, x179, x180, x181, x182, x183, x184, x185, x186, y187, y188, y189, y190, y191, y192, y193, y194, y195, y196, y197, y198, y199, y200, y201, y202, y203, y204, y205, y206, y207, y208, y209, y210, y211, y212, y213, y214, y215, y216, y217, y218, y219, y220, y221, y222, y223, y224, y225, y226, y227, y228, y229, y230, y231, y232], []⟩ w') : Code.wp Tryz.prog (.region 22 (opsC 22 Tryz.f6) true) (Exit.then K Q) ⟨#[x0, .pointer (some ⟨g, 0, none⟩), x2, x3, .int .i64 0, x5, .int .i64 0, x7, .int .i64 0, x9, .int .i64 0, x11, x12, x13, x14, x15, x16, .pointer (some ⟨kV, 0, none⟩), .pointer (some ⟨kG, 0, none⟩), .pointer (some ⟨kH, 0, none⟩), .pointer (some ⟨kM, 0, none⟩), .pointer (some ⟨kw, 0, none⟩), .pointer (some ⟨ky, 0, none⟩), x23, x24, x25, x26, x27, x28, x29, x30, x31, x32, x33, x34, x35, x36, x37, x38, x39, x40, x41, x42, x43, x44, x45, x46, x47, x48, x49, x50, x51, x52, x53, x54, x55, x56, x57, x58, x59, x60, x61, x62, x63, x64, x65, x66, x67, x68, x69, x70, x71, x72, x73, x74, x75, x76, x77, x78, x79, x80, x81, x82, x83, x84, x85, x86, x87, x88, x89, x90, x91, x92, x93, x94, x95, x96, x97, x98, x99, x100, x101, x102, x103, x104, x105, x106, x107, x108, x109, x110, x111, x112, x113, x114, x115, x116, x117, x118, x119, x120, x121, x122, x123, x124, x125, x126, x127, x128, x129, x130, x131, x132, x133, x134, x135, x136, x137, x138, x139, x140, x141, x142, x143, x144, x145, x146, x147, x148, x149, x150, x151, x152, x153, x154, x155, x156, x157, x158, x159, x160, x161, x162, x163, x164, x165, x166, x167, x168, x169, x170, x171, x172, x173, x174, x175, x176, x177, x178, x179, x180, x181, x182, x183, x184, x185, x186, x187, x188, x189, x190, x191, x192, x193, x194, x195, x196, x197, x198, x199, x200, x201, x202, x203, x204, x205, x206, x207, x208, x209, x210, x211, x212, x213, x214, x215, x216, x217, x218, x219, x220, x221, x222, x223, x224, x225, x226, x227, x228, x229, x230, x231, x232], []⟩ wx := by
  obtain ⟨nP0, nP1, nP2, nP3, nP4, nP5, nP6, nP7, nP8, nP9, nC0, nC1, uD0, lD0, nA0, nA1, nV0, nV1, uV2, lV2, bV3, nV4, bV5, nV6, uV7, lV7, uV8, lV8, uV9, lV9, uG0, lG0, nG1, uG2, lG2, uH0, lH0, nH1, nK0, nK1, nU0, nU1, nU2, nU3, nU4, nU5, nM0, nM1, nM2, nM3, nM4, nM5, uM6, lM6, nN0⟩ := x
  unfold Recs.cells at hg
  simp only at hg
  have hll := lx
  simp only [lightB, List.all_cons, List.all_nil, Bool.and_true, Bool.and_eq_true, decide_eq_true_eq] at hll
  simp only at qV qG qH qM hw hy hK sV2r sV7r sV8r sV9r sG0r sG2r sH0r sM6r tV2r tV7r tV8r tV9r tM6r
  have NG0 := Lib.hid (fun (wy : World) (hm : Mods noB wx wy) => norm_any (RdM.keep (w := w) hx.dG0.1 (M.then0 hm) (fun _ _ x => x)) hx.dG0.2.1 (Nat.le_trans (hll.2.2.2.2.2.1) (by omega)))
  have NG2 := Lib.hid (fun (wy : World) (hm : Mods noB wx wy) => norm_any (RdM.keep (w := w) hx.dG2.1 (M.then0 hm) (fun _ _ x => x)) hx.dG2.2.1 (Nat.le_trans (hll.2.2.2.2.2.2.1) (by omega)))
  have NH0 := Lib.hid (fun (wy : World) (hm : Mods noB wx wy) => norm_any (RdM.keep (w := w) hx.dH0.1 (M.then0 hm) (fun _ _ x => x)) hx.dH0.2.1 (Nat.le_trans (hll.2.2.2.2.2.2.2.1) (by omega)))
  have HV := Lib.hid qV
  have HG := Lib.hid qG
  have HH := Lib.hid qH
  have HM := Lib.hid qM
  have HW := Lib.hid hw
  have HY := Lib.hid hy
  have RsV2r := Lib.hid sV2r
  have RsV7r := Lib.hid sV7r
  have RsV8r := Lib.hid sV8r
  have RsV9r := Lib.hid sV9r
  have RsG0r := Lib.hid sG0r
  have RsG2r := Lib.hid sG2r
  have RsH0r := Lib.hid sH0r
  have RsM6r := Lib.hid sM6r
  have RtV2r := Lib.hid tV2r
  have RtV7r := Lib.hid tV7r
  have RtV8r := Lib.hid tV8r
  have RtV9r := Lib.hid tV9r
  have RtM6r := Lib.hid tM6r
  have GX := Lib.hid hg
  have HQ := Lib.hid hK
  clear hx lx hll hg hK qV qG qH qM hw hy sV2r sV7r sV8r sV9r sG0r sG2r sH0r sM6r tV2r tV7r tV8r tV9r tM6r
  have B := Lib.hid ((Mods.refl noB wx).drew)
  refine wp_region_ordT [(0, true), (1, true), (2, true), (3, true), (4, true), (5, true), (6, true), (7, true), (8, true), (9, true), (10, true), (11, false), (12, true), (13, true), (14, true), (15, true), (16, true), (17, true), (19, true), (20, true), (21, true), (22, true), (23, true), (24, true), (18, false), (25, false), (26, true), (27, false), (28, true), (29, true), (30, true), (31, true), (32, true), (33, true), (35, true), (36, true), (37, true), (34, false), (38, true), (39, false), (40, true), (41, true), (42, true), (43, true), (44, false), (45, true), (46, true)] [] (fun b => Mods noB wx b) (by kernel_rfl) (by kernel_rfl) (by kernel_rfl) (by kernel_rfl) B.out ?_
  refine wpOrdT_frees [0, 1, 2, 3, 4, 5, 6, 7, 8] [.int .i64 0, .int .i64 0, .int .i64 0, .int .i64 0, .int .i64 0, .int .i64 0, .int .i64 0, .bool true, .bool true] (rest := [(9, true), (10, true), (11, false), (12, true), (13, true), (14, true), (15, true), (16, true), (17, true), (19, true), (20, true), (21, true), (22, true), (23, true), (24, true), (18, false), (25, false), (26, true), (27, false), (28, true), (29, true), (30, true), (31, true), (32, true), (33, true), (35, true), (36, true), (37, true), (34, false), (38, true), (39, false), (40, true), (41, true), (42, true), (43, true), (44, false), (45, true), (46, true)]) (by kernel_rfl) (by kernel_rfl) (fun _ => by kernel_rfl) ?_
  refine wpOrdT_load (.tmp 17) (some 196) ⟨by kernel_rfl, by kernel_rfl, by kernel_rfl⟩ (fun b hb => load_part (off := 0) [.int .u64 nV0, .int .u64 nV1, sV2, .bool bV3, .int .u64 nV4, .bool bV5, .int .u64 nV6, sV7, sV8, sV9] (blk_step hb HV.out) Tryz.underlying34 rfl (by kernel_rfl) (by kernel_rfl)) (by kernel_rfl) (by kernel_rfl) ?_
  refine wpOrdT_load (.tmp 21) (some 197) ⟨by kernel_rfl, by kernel_rfl, by kernel_rfl⟩ (fun b hb => load_part (off := 0) [.int .u64 nV0, .int .u64 nV1, tV2, .bool bV3, .int .u64 nV4, .bool bV5, .int .u64 nV6, tV7, tV8, tV9] (blk_step hb HW.out) Tryz.underlying34 rfl (by kernel_rfl) (by kernel_rfl)) (by kernel_rfl) (by kernel_rfl) ?_
  refine wpOrdT_call (some 198) ⟨by kernel_rfl, by kernel_rfl, by kernel_rfl⟩ (val_true (n0 := nV0) (n1 := nV1) (b3 := bV3) (n4 := nV4) (b5 := bV5) (n6 := nV6) (RdM.keep RsV2r.out B.out (fun _ _ x => x)) (RdM.keep RtV2r.out B.out (fun _ _ x => x)) (RdM.keep RsV7r.out B.out (fun _ _ x => x)) (RdM.keep RtV7r.out B.out (fun _ _ x => x)) (RdM.keep RsV8r.out B.out (fun _ _ x => x)) (RdM.keep RtV8r.out B.out (fun _ _ x => x)) (RdM.keep RsV9r.out B.out (fun _ _ x => x)) (RdM.keep RtV9r.out B.out (fun _ _ x => x))) (fun _ => by kernel_rfl) ?_
  rintro r w0 ⟨rfl, m1⟩
  replace B := Lib.hid (B.out.then0 m1)
  refine ⟨_, rfl, fun _ => B.out, ?_⟩
  clear m1
  refine wpOrdT_frees [12, 13] [.bool true, .bool true] (rest := [(14, true), (15, true), (16, true), (17, true), (19, true), (20, true), (21, true), (22, true), (23, true), (24, true), (18, false), (25, false), (26, true), (27, false), (28, true), (29, true), (30, true), (31, true), (32, true), (33, true), (35, true), (36, true), (37, true), (34, false), (38, true), (39, false), (40, true), (41, true), (42, true), (43, true), (44, false), (45, true), (46, true)]) (by kernel_rfl) (by kernel_rfl) (fun _ => by kernel_rfl) ?_
  refine wpOrdT_load (.tmp 18) (some 201) ⟨by kernel_rfl, by kernel_rfl, by kernel_rfl⟩ (fun b hb => load_part (off := 0) [sG0, .int .u64 nG1, sG2] (blk_step hb HG.out) Tryz.underlying36 rfl (by kernel_rfl) (by kernel_rfl)) (by kernel_rfl) (by kernel_rfl) ?_
  refine wpOrdT_frees [15, 16] [.pointer (some ⟨g, 25, none⟩), .pointer (some ⟨g, 25, none⟩)] (rest := [(17, true), (19, true), (20, true), (21, true), (22, true), (23, true), (24, true), (18, false), (25, false), (26, true), (27, false), (28, true), (29, true), (30, true), (31, true), (32, true), (33, true), (35, true), (36, true), (37, true), (34, false), (38, true), (39, false), (40, true), (41, true), (42, true), (43, true), (44, false), (45, true), (46, true)]) (by kernel_rfl) (by kernel_rfl) (fun _ => by kernel_rfl) ?_
  refine wpOrdT_load (.tmp 203) (some 204) ⟨by kernel_rfl, by kernel_rfl, by kernel_rfl⟩ (fun b hb => load_part (off := 25) [uG0] (blk_step hb GX.out) Tryz.underlying30 rfl (by kernel_rfl) (by kernel_rfl)) (by kernel_rfl) (by kernel_rfl) ?_
  refine wpOrdT_frees [19, 20] [.pointer (some ⟨g, 25, none⟩), .pointer (some ⟨g, 26, none⟩)] (rest := [(21, true), (22, true), (23, true), (24, true), (18, false), (25, false), (26, true), (27, false), (28, true), (29, true), (30, true), (31, true), (32, true), (33, true), (35, true), (36, true), (37, true), (34, false), (38, true), (39, false), (40, true), (41, true), (42, true), (43, true), (44, false), (45, true), (46, true)]) (by kernel_rfl) (by kernel_rfl) (fun _ => by kernel_rfl) ?_
  refine wpOrdT_load (.tmp 207) (some 208) ⟨by kernel_rfl, by kernel_rfl, by kernel_rfl⟩ (fun b hb => load_one (off := 26) (blk_step hb GX.out) Tryz.underlying22 rfl (v := .int .u64 nG1) (by kernel_rfl)) (by kernel_rfl) (by kernel_rfl) ?_
  refine wpOrdT_frees [22, 23] [.pointer (some ⟨g, 25, none⟩), .pointer (some ⟨g, 27, none⟩)] (rest := [(24, true), (18, false), (25, false), (26, true), (27, false), (28, true), (29, true), (30, true), (31, true), (32, true), (33, true), (35, true), (36, true), (37, true), (34, false), (38, true), (39, false), (40, true), (41, true), (42, true), (43, true), (44, false), (45, true), (46, true)]) (by kernel_rfl) (by kernel_rfl) (fun _ => by kernel_rfl) ?_
  refine wpOrdT_load (.tmp 210) (some 211) ⟨by kernel_rfl, by kernel_rfl, by kernel_rfl⟩ (fun b hb => load_part (off := 27) [uG2] (blk_step hb GX.out) Tryz.underlying30 rfl (by kernel_rfl) (by kernel_rfl)) (by kernel_rfl) (by kernel_rfl) ?_
  refine wpOrdT_call (some 205) ⟨by kernel_rfl, by kernel_rfl, by kernel_rfl⟩ (NG0.out _ B.out) (fun _ => by kernel_rfl) ?_
  rintro r w1 ⟨tG0, rfl, tG0r, m1, f1⟩
  have RtG0r := Lib.hid tG0r
  replace B := Lib.hid (B.out.then0 m1)
  refine ⟨_, rfl, fun _ => B.out, ?_⟩
  clear m1 f1 tG0r
  refine wpOrdT_call (some 212) ⟨by kernel_rfl, by kernel_rfl, by kernel_rfl⟩ (NG2.out _ B.out) (fun _ => by kernel_rfl) ?_
  rintro r w2 ⟨tG2, rfl, tG2r, m1, f1⟩
  replace RtG0r := Lib.hid (RdM.keep RtG0r.out m1 (fun _ _ x => x))
  have RtG2r := Lib.hid tG2r
  replace B := Lib.hid (B.out.then0 m1)
  refine ⟨_, rfl, fun _ => B.out, ?_⟩
  clear m1 f1 tG2r
  refine wpOrdT_frees [26] [.agg #[tG0, .int .u64 nG1, tG2]] (rest := [(27, false), (28, true), (29, true), (30, true), (31, true), (32, true), (33, true), (35, true), (36, true), (37, true), (34, false), (38, true), (39, false), (40, true), (41, true), (42, true), (43, true), (44, false), (45, true), (46, true)]) (by kernel_rfl) (by kernel_rfl) (fun _ => by kernel_rfl) ?_
  refine wpOrdT_call (some 214) ⟨by kernel_rfl, by kernel_rfl, by kernel_rfl⟩ (delegation_true (n1 := nG1) (RdM.keep RsG0r.out B.out (fun _ _ x => x)) RtG0r.out (RdM.keep RsG2r.out B.out (fun _ _ x => x)) RtG2r.out) (fun _ => by kernel_rfl) ?_
  rintro r w3 ⟨rfl, m1⟩
  replace RtG0r := Lib.hid (RdM.keep RtG0r.out m1 (fun _ _ x => x))
  replace RtG2r := Lib.hid (RdM.keep RtG2r.out m1 (fun _ _ x => x))
  replace B := Lib.hid (B.out.then0 m1)
  refine ⟨_, rfl, fun _ => B.out, ?_⟩
  clear m1
  refine wpOrdT_frees [28, 29] [.bool true, .bool true] (rest := [(30, true), (31, true), (32, true), (33, true), (35, true), (36, true), (37, true), (34, false), (38, true), (39, false), (40, true), (41, true), (42, true), (43, true), (44, false), (45, true), (46, true)]) (by kernel_rfl) (by kernel_rfl) (fun _ => by kernel_rfl) ?_
  refine wpOrdT_load (.tmp 19) (some 217) ⟨by kernel_rfl, by kernel_rfl, by kernel_rfl⟩ (fun b hb => load_part (off := 0) [sH0, .int .u64 nH1] (blk_step hb HH.out) Tryz.underlying38 rfl (by kernel_rfl) (by kernel_rfl)) (by kernel_rfl) (by kernel_rfl) ?_
  refine wpOrdT_frees [31, 32] [.pointer (some ⟨g, 28, none⟩), .pointer (some ⟨g, 28, none⟩)] (rest := [(33, true), (35, true), (36, true), (37, true), (34, false), (38, true), (39, false), (40, true), (41, true), (42, true), (43, true), (44, false), (45, true), (46, true)]) (by kernel_rfl) (by kernel_rfl) (fun _ => by kernel_rfl) ?_
  refine wpOrdT_load (.tmp 219) (some 220) ⟨by kernel_rfl, by kernel_rfl, by kernel_rfl⟩ (fun b hb => load_part (off := 28) [uH0] (blk_step hb GX.out) Tryz.underlying30 rfl (by kernel_rfl) (by kernel_rfl)) (by kernel_rfl) (by kernel_rfl) ?_
  refine wpOrdT_frees [35, 36] [.pointer (some ⟨g, 28, none⟩), .pointer (some ⟨g, 29, none⟩)] (rest := [(37, true), (34, false), (38, true), (39, false), (40, true), (41, true), (42, true), (43, true), (44, false), (45, true), (46, true)]) (by kernel_rfl) (by kernel_rfl) (fun _ => by kernel_rfl) ?_
  refine wpOrdT_load (.tmp 223) (some 224) ⟨by kernel_rfl, by kernel_rfl, by kernel_rfl⟩ (fun b hb => load_one (off := 29) (blk_step hb GX.out) Tryz.underlying22 rfl (v := .int .u64 nH1) (by kernel_rfl)) (by kernel_rfl) (by kernel_rfl) ?_
  refine wpOrdT_call (some 221) ⟨by kernel_rfl, by kernel_rfl, by kernel_rfl⟩ (NH0.out _ B.out) (fun _ => by kernel_rfl) ?_
  rintro r w4 ⟨tH0, rfl, tH0r, m1, f1⟩
  replace RtG0r := Lib.hid (RdM.keep RtG0r.out m1 (fun _ _ x => x))
  replace RtG2r := Lib.hid (RdM.keep RtG2r.out m1 (fun _ _ x => x))
  have RtH0r := Lib.hid tH0r
  replace B := Lib.hid (B.out.then0 m1)
  refine ⟨_, rfl, fun _ => B.out, ?_⟩
  clear m1 f1 tH0r
  refine wpOrdT_frees [38] [.agg #[tH0, .int .u64 nH1]] (rest := [(39, false), (40, true), (41, true), (42, true), (43, true), (44, false), (45, true), (46, true)]) (by kernel_rfl) (by kernel_rfl) (fun _ => by kernel_rfl) ?_
  refine wpOrdT_call (some 226) ⟨by kernel_rfl, by kernel_rfl, by kernel_rfl⟩ (history_true (n1 := nH1) (RdM.keep RsH0r.out B.out (fun _ _ x => x)) RtH0r.out) (fun _ => by kernel_rfl) ?_
  rintro r w5 ⟨rfl, m1⟩
  replace RtG0r := Lib.hid (RdM.keep RtG0r.out m1 (fun _ _ x => x))
  replace RtG2r := Lib.hid (RdM.keep RtG2r.out m1 (fun _ _ x => x))
  replace RtH0r := Lib.hid (RdM.keep RtH0r.out m1 (fun _ _ x => x))
  replace B := Lib.hid (B.out.then0 m1)
  refine ⟨_, rfl, fun _ => B.out, ?_⟩
  clear m1
  refine wpOrdT_frees [40, 41] [.bool true, .bool true] (rest := [(42, true), (43, true), (44, false), (45, true), (46, true)]) (by kernel_rfl) (by kernel_rfl) (fun _ => by kernel_rfl) ?_
  refine wpOrdT_load (.tmp 20) (some 229) ⟨by kernel_rfl, by kernel_rfl, by kernel_rfl⟩ (fun b hb => load_part (off := 0) [.int .u64 nM0, .int .u64 nM1, .int .u64 nM2, .int .u64 nM3, .int .u64 nM4, .int .u64 nM5, sM6] (blk_step hb HM.out) Tryz.underlying44 rfl (by kernel_rfl) (by kernel_rfl)) (by kernel_rfl) (by kernel_rfl) ?_
  refine wpOrdT_load (.tmp 22) (some 230) ⟨by kernel_rfl, by kernel_rfl, by kernel_rfl⟩ (fun b hb => load_part (off := 0) [.int .u64 nM0, .int .u64 nM1, .int .u64 nM2, .int .u64 nM3, .int .u64 nM4, .int .u64 nM5, tM6] (blk_step hb HY.out) Tryz.underlying44 rfl (by kernel_rfl) (by kernel_rfl)) (by kernel_rfl) (by kernel_rfl) ?_
  refine wpOrdT_call (some 231) ⟨by kernel_rfl, by kernel_rfl, by kernel_rfl⟩ (move_true (n0 := nM0) (n1 := nM1) (n2 := nM2) (n3 := nM3) (n4 := nM4) (n5 := nM5) (RdM.keep RsM6r.out B.out (fun _ _ x => x)) (RdM.keep RtM6r.out B.out (fun _ _ x => x))) (fun _ => by kernel_rfl) ?_
  rintro r w6 ⟨rfl, m1⟩
  replace RtG0r := Lib.hid (RdM.keep RtG0r.out m1 (fun _ _ x => x))
  replace RtG2r := Lib.hid (RdM.keep RtG2r.out m1 (fun _ _ x => x))
  replace RtH0r := Lib.hid (RdM.keep RtH0r.out m1 (fun _ _ x => x))
  replace B := Lib.hid (B.out.then0 m1)
  refine ⟨_, rfl, fun _ => B.out, ?_⟩
  clear m1
  refine wpOrdT_frees [45, 46] [.bool true, .bool true] (rest := []) (by kernel_rfl) (by kernel_rfl) (fun _ => by kernel_rfl) ?_
  refine wpOrdT_done (show K _ _ from ?_)
  exact act_is (by kernel_rfl) (HQ.out (.int .i64 0) (.int .i64 0) (.int .i64 0) (.int .i64 0) (.int .i64 0) (.int .i64 0) (.int .i64 0) (.bool true) (.bool true) (.agg #[.int .u64 nV0, .int .u64 nV1, sV2, .bool bV3, .int .u64 nV4, .bool bV5, .int .u64 nV6, sV7, sV8, sV9]) (.agg #[.int .u64 nV0, .int .u64 nV1, tV2, .bool bV3, .int .u64 nV4, .bool bV5, .int .u64 nV6, tV7, tV8, tV9]) (.bool true) (.bool true) (.bool true) (.agg #[sG0, .int .u64 nG1, sG2]) (.pointer (some ⟨g, 25, none⟩)) (.pointer (some ⟨g, 25, none⟩)) (.agg #[uG0]) (.agg #[tG0]) (.pointer (some ⟨g, 25, none⟩)) (.pointer (some ⟨g, 26, none⟩)) (.int .u64 nG1) (.pointer (some ⟨g, 25, none⟩)) (.pointer (some ⟨g, 27, none⟩)) (.agg #[uG2]) (.agg #[tG2]) (.agg #[tG0, .int .u64 nG1, tG2]) (.bool true) (.bool true) (.bool true) (.agg #[sH0, .int .u64 nH1]) (.pointer (some ⟨g, 28, none⟩)) (.pointer (some ⟨g, 28, none⟩)) (.agg #[uH0]) (.agg #[tH0]) (.pointer (some ⟨g, 28, none⟩)) (.pointer (some ⟨g, 29, none⟩)) (.int .u64 nH1) (.agg #[tH0, .int .u64 nH1]) (.bool true) (.bool true) (.bool true) (.agg #[.int .u64 nM0, .int .u64 nM1, .int .u64 nM2, .int .u64 nM3, .int .u64 nM4, .int .u64 nM5, sM6]) (.agg #[.int .u64 nM0, .int .u64 nM1, .int .u64 nM2, .int .u64 nM3, .int .u64 nM4, .int .u64 nM5, tM6]) (.bool true) (.bool true) _ B.out)

theorem rn_sep {w : World} {u : Value} {l : List Nat} {kw : Nat} (h : RN w u l) (hk : ∀ b, b < w.heap.size → b ≠ kw) : l = [] ∨ ∀ k, u.ownBlock = some k → ¬ (k = kw) := by
  rcases Nat.eq_zero_or_pos l.length with h0 | h0
  · exact .inl (List.eq_nil_of_length_eq_zero h0)
  · exact .inr (fun k hk' e => hk k (RdM.ltn h (by omega) k hk') e)

set_option maxHeartbeats 8000000 in
theorem walk (x : Recs) (w : World) (hx : x.At w) :
    Calls Tryz.prog 6 #[.agg x.cells] w fun e w' => e = .returned (.bool true) ∧ Below w.heap.size w w' := by
  obtain ⟨cs, hcs⟩ : ∃ cs, x.cells = cs := ⟨_, rfl⟩
  rw [hcs]
  have hsz : cs.size = 46 := by rw [← hcs]; rfl
  have P := Lib.hid (put_box w cs 46 _ rfl)
  have HX := Lib.hid hx
  have HC := Lib.hid hcs
  have HSC := Lib.hid hsz
  clear hx hcs hsz
  go_enter Tryz.func6, Tryz.ntmps6
  refine wp_seq_h fun K HK => ?_
  go_wp2
  generalize World.alloc w _ = w1 at *
  refine HK.out _ _ ?_
  clear K HK
  refine wp_seq_h fun K HK => ?_
  go_wp2_with fail
  refine (rknown_any _).mono ?_
  rintro e w2 ⟨rfl, m2⟩
  have M := Lib.hid (P.out.2.1.then0 m2)
  have B := Lib.hid (blk_step m2 P.out.1)
  clear m2
  go_wp2
  refine HK.out _ _ ?_
  clear K HK
  refine wp_seq_h fun K HK => ?_
  refine wp_seq_h fun K2 HK2 => ?_
  refine wp_tl (d := .region 3 (opsC 3 Tryz.f6) false) (by kernel_rfl) ?_
  refine wp_region_linT [(0, false), (1, false), (2, false)] (by kernel_rfl) ?_
  refine wpOrdT_loadB (.tmp 1) (some 25) ⟨by kernel_rfl, by kernel_rfl, by kernel_rfl⟩ (load_part (off := 0) cs.toList B.out Tryz.underlying46 rfl (by rw [Array.length_toList, HSC.out]; kernel_rfl) (by rw [List.drop_zero, List.take_length])) (by kernel_rfl) (by kernel_rfl) (fun _ => trivial) ?_
  refine wpOrdT_call (some 26) ⟨by kernel_rfl, by kernel_rfl, by kernel_rfl⟩ (light_any x (HX.out.keep M.out)) (fun _ => by rw [HC.out]; kernel_rfl) ?_
  rintro r w3 ⟨rfl, m3⟩
  replace B := Lib.hid (blk_step m3 B.out)
  replace M := Lib.hid (M.out.then0 m3)
  refine ⟨_, rfl, fun _ => trivial, ?_⟩
  clear m3
  rcases hl : lightB x with _ | _
  · refine wpOrdT_run (.bool true) w3 (some 27) ⟨by kernel_rfl, by kernel_rfl, by kernel_rfl⟩ (by kernel_rfl) (fun _ => trivial) ?_
    refine wpOrdT_doneL (HK2.out _ _ ?_)
    simp only [Act.put, List.setIfInBounds_toArray, List.set_cons_zero, List.set_cons_succ, Array.toArray_toList]
    go_wp2
    go_ret
    exact ⟨rfl, M.out.below⟩
  refine wpOrdT_run (.bool false) w3 (some 27) ⟨by kernel_rfl, by kernel_rfl, by kernel_rfl⟩ (by kernel_rfl) (fun _ => trivial) ?_
  refine wpOrdT_doneL (HK2.out _ _ ?_)
  clear K2 HK2
  simp only [Act.put, List.setIfInBounds_toArray, List.set_cons_zero, List.set_cons_succ, Array.toArray_toList]
  go_wp2
  refine HK.out _ _ ?_
  clear K HK
  have HL := Lib.hid hl
  replace B := Lib.hid (show w3.heap[w.heap.size]? = some (.cells x.cells 46 (0, 0)) from by rw [HC.out]; exact B.out)
  clear hl HC HSC P
  refine wp_seq_h fun K HK => ?_
  refine wp_tl (d := .region 5 (opsC 5 Tryz.f6) false) (by kernel_rfl) ?_
  refine bk5 x HX.out HL.out M.out B.out  _ _ _ _ _ _ _ _ _ _ _ _ _ _ _ _ _ _ _ _ _ _ _ _ _ _ _ _ _ _ _ _ _ _ _ _ _ _ _ _ _ _ _ _ _ _ _ _ _ _ _ _ _ _ _ _ _ _ _ _ _ _ _ _ _ _ _ _ _ _ _ _ _ _ _ _ _ _ _ _ _ _ _ _ _ _ _ _ _ _ _ _ _ _ _ _ _ _ _ _ _ _ _ _ _ _ _ _ _ _ _ _ _ _ _ _ _ _ _ _ _ _ _ _ _ _ _ _ _ _ _ _ _ _ _ _ _ _ _ _ _ _ _ _ _ _ _ _ _ _ _ _ _ _ _ _ _ _ _ _ _ _ _ _ _ _ _ _ _ _ _ _ _ _ _ _ _ _ _ _ _ _ _ _ _ _ _ _ _ _ _ _ _ _ _ _ _ _ _ _ _ _ _ _ _ _ _ _ _ _ _ _ _ _ _ _ _ _ _ _ _ _ _ _ _ _ _ _ _ _ _ _ ?_
  intro y28 y29 y30 y31 y32 y33 y34 kP u5 m5 bP
  replace B := Lib.hid (blk_step m5 B.out)
  replace M := Lib.hid (M.out.then0 m5)
  clear m5
  have BP := Lib.hid bP
  clear bP
  refine HK.out _ _ ?_
  clear K HK
  refine wp_seq_h fun K HK => ?_
  refine wp_tl (d := .region 6 (opsC 6 Tryz.f6) false) (by kernel_rfl) ?_
  refine bk6 x HX.out HL.out M.out B.out  _ _ _ _ _ _ _ _ _ _ _ _ _ _ _ _ _ _ _ _ _ _ _ _ _ _ _ _ _ _ _ _ _ _ _ _ _ _ _ _ _ _ _ _ _ _ _ _ _ _ _ _ _ _ _ _ _ _ _ _ _ _ _ _ _ _ _ _ _ _ _ _ _ _ _ _ _ _ _ _ _ _ _ _ _ _ _ _ _ _ _ _ _ _ _ _ _ _ _ _ _ _ _ _ _ _ _ _ _ _ _ _ _ _ _ _ _ _ _ _ _ _ _ _ _ _ _ _ _ _ _ _ _ _ _ _ _ _ _ _ _ _ _ _ _ _ _ _ _ _ _ _ _ _ _ _ _ _ _ _ _ _ _ _ _ _ _ _ _ _ _ _ _ _ _ _ _ _ _ _ _ _ _ _ _ _ _ _ _ _ _ _ _ _ _ _ _ _ _ _ _ _ _ _ _ _ _ _ _ _ _ _ _ _ _ _ _ _ _ _ _ _ _ _ _ _ _ _ _ _ _ _ ?_
  intro y35 y36 y37 y38 y39 y40 y41 kC u6 m6 bC
  replace B := Lib.hid (blk_step m6 B.out)
  replace BP := Lib.hid (blk_step m6 BP.out)
  replace M := Lib.hid (M.out.then0 m6)
  clear m6
  have BC := Lib.hid bC
  clear bC
  refine HK.out _ _ ?_
  clear K HK
  refine wp_seq_h fun K HK => ?_
  refine wp_tl (d := .region 7 (opsC 7 Tryz.f6) false) (by kernel_rfl) ?_
  refine bk7 x HX.out HL.out M.out B.out  _ _ _ _ _ _ _ _ _ _ _ _ _ _ _ _ _ _ _ _ _ _ _ _ _ _ _ _ _ _ _ _ _ _ _ _ _ _ _ _ _ _ _ _ _ _ _ _ _ _ _ _ _ _ _ _ _ _ _ _ _ _ _ _ _ _ _ _ _ _ _ _ _ _ _ _ _ _ _ _ _ _ _ _ _ _ _ _ _ _ _ _ _ _ _ _ _ _ _ _ _ _ _ _ _ _ _ _ _ _ _ _ _ _ _ _ _ _ _ _ _ _ _ _ _ _ _ _ _ _ _ _ _ _ _ _ _ _ _ _ _ _ _ _ _ _ _ _ _ _ _ _ _ _ _ _ _ _ _ _ _ _ _ _ _ _ _ _ _ _ _ _ _ _ _ _ _ _ _ _ _ _ _ _ _ _ _ _ _ _ _ _ _ _ _ _ _ _ _ _ _ _ _ _ _ _ _ _ _ _ _ _ _ _ _ _ _ _ _ _ _ _ _ _ _ _ _ _ _ _ _ _ ?_
  intro y42 y43 y44 y45 y46 y47 y48 kD sD0 u7 m7 bD rD0
  replace B := Lib.hid (blk_step m7 B.out)
  replace BP := Lib.hid (blk_step m7 BP.out)
  replace BC := Lib.hid (blk_step m7 BC.out)
  replace M := Lib.hid (M.out.then0 m7)
  clear m7
  have BD := Lib.hid bD
  clear bD
  have RsD0 := Lib.hid rD0
  clear rD0
  refine HK.out _ _ ?_
  clear K HK
  refine wp_seq_h fun K HK => ?_
  refine wp_tl (d := .region 8 (opsC 8 Tryz.f6) false) (by kernel_rfl) ?_
  refine bk8 x HX.out HL.out M.out B.out  _ _ _ _ _ _ _ _ _ _ _ _ _ _ _ _ _ _ _ _ _ _ _ _ _ _ _ _ _ _ _ _ _ _ _ _ _ _ _ _ _ _ _ _ _ _ _ _ _ _ _ _ _ _ _ _ _ _ _ _ _ _ _ _ _ _ _ _ _ _ _ _ _ _ _ _ _ _ _ _ _ _ _ _ _ _ _ _ _ _ _ _ _ _ _ _ _ _ _ _ _ _ _ _ _ _ _ _ _ _ _ _ _ _ _ _ _ _ _ _ _ _ _ _ _ _ _ _ _ _ _ _ _ _ _ _ _ _ _ _ _ _ _ _ _ _ _ _ _ _ _ _ _ _ _ _ _ _ _ _ _ _ _ _ _ _ _ _ _ _ _ _ _ _ _ _ _ _ _ _ _ _ _ _ _ _ _ _ _ _ _ _ _ _ _ _ _ _ _ _ _ _ _ _ _ _ _ _ _ _ _ _ _ _ _ _ _ _ _ _ _ _ _ _ _ _ _ _ _ _ _ _ ?_
  intro y49 y50 y51 y52 y53 y54 y55 kA u8 m8 bA
  replace B := Lib.hid (blk_step m8 B.out)
  replace BP := Lib.hid (blk_step m8 BP.out)
  replace BC := Lib.hid (blk_step m8 BC.out)
  replace BD := Lib.hid (blk_step m8 BD.out)
  replace RsD0 := Lib.hid (RdM.keep RsD0.out m8 (fun _ _ x => x))
  replace M := Lib.hid (M.out.then0 m8)
  clear m8
  have BA := Lib.hid bA
  clear bA
  refine HK.out _ _ ?_
  clear K HK
  refine wp_seq_h fun K HK => ?_
  refine wp_tl (d := .region 9 (opsC 9 Tryz.f6) false) (by kernel_rfl) ?_
  refine bk9 x HX.out HL.out M.out B.out  _ _ _ _ _ _ _ _ _ _ _ _ _ _ _ _ _ _ _ _ _ _ _ _ _ _ _ _ _ _ _ _ _ _ _ _ _ _ _ _ _ _ _ _ _ _ _ _ _ _ _ _ _ _ _ _ _ _ _ _ _ _ _ _ _ _ _ _ _ _ _ _ _ _ _ _ _ _ _ _ _ _ _ _ _ _ _ _ _ _ _ _ _ _ _ _ _ _ _ _ _ _ _ _ _ _ _ _ _ _ _ _ _ _ _ _ _ _ _ _ _ _ _ _ _ _ _ _ _ _ _ _ _ _ _ _ _ _ _ _ _ _ _ _ _ _ _ _ _ _ _ _ _ _ _ _ _ _ _ _ _ _ _ _ _ _ _ _ _ _ _ _ _ _ _ _ _ _ _ _ _ _ _ _ _ _ _ _ _ _ _ _ _ _ _ _ _ _ _ _ _ _ _ _ _ _ _ _ _ _ _ _ _ _ _ _ _ _ _ _ _ _ _ _ _ _ _ _ _ _ _ _ ?_
  intro y56 y57 y58 y59 y60 y61 y62 kK u9 m9 bK
  replace B := Lib.hid (blk_step m9 B.out)
  replace BP := Lib.hid (blk_step m9 BP.out)
  replace BC := Lib.hid (blk_step m9 BC.out)
  replace BD := Lib.hid (blk_step m9 BD.out)
  replace BA := Lib.hid (blk_step m9 BA.out)
  replace RsD0 := Lib.hid (RdM.keep RsD0.out m9 (fun _ _ x => x))
  replace M := Lib.hid (M.out.then0 m9)
  clear m9
  have BK := Lib.hid bK
  clear bK
  refine HK.out _ _ ?_
  clear K HK
  refine wp_seq_h fun K HK => ?_
  refine wp_tl (d := .region 10 (opsC 10 Tryz.f6) false) (by kernel_rfl) ?_
  refine bk10 x HX.out HL.out M.out B.out  _ _ _ _ _ _ _ _ _ _ _ _ _ _ _ _ _ _ _ _ _ _ _ _ _ _ _ _ _ _ _ _ _ _ _ _ _ _ _ _ _ _ _ _ _ _ _ _ _ _ _ _ _ _ _ _ _ _ _ _ _ _ _ _ _ _ _ _ _ _ _ _ _ _ _ _ _ _ _ _ _ _ _ _ _ _ _ _ _ _ _ _ _ _ _ _ _ _ _ _ _ _ _ _ _ _ _ _ _ _ _ _ _ _ _ _ _ _ _ _ _ _ _ _ _ _ _ _ _ _ _ _ _ _ _ _ _ _ _ _ _ _ _ _ _ _ _ _ _ _ _ _ _ _ _ _ _ _ _ _ _ _ _ _ _ _ _ _ _ _ _ _ _ _ _ _ _ _ _ _ _ _ _ _ _ _ _ _ _ _ _ _ _ _ _ _ _ _ _ _ _ _ _ _ _ _ _ _ _ _ _ _ _ _ _ _ _ _ _ _ _ _ _ _ _ _ _ _ _ _ _ _ ?_
  intro y63 y64 y65 y66 y67 y68 y69 kU u10 m10 bU
  replace B := Lib.hid (blk_step m10 B.out)
  replace BP := Lib.hid (blk_step m10 BP.out)
  replace BC := Lib.hid (blk_step m10 BC.out)
  replace BD := Lib.hid (blk_step m10 BD.out)
  replace BA := Lib.hid (blk_step m10 BA.out)
  replace BK := Lib.hid (blk_step m10 BK.out)
  replace RsD0 := Lib.hid (RdM.keep RsD0.out m10 (fun _ _ x => x))
  replace M := Lib.hid (M.out.then0 m10)
  clear m10
  have BU := Lib.hid bU
  clear bU
  refine HK.out _ _ ?_
  clear K HK
  refine wp_seq_h fun K HK => ?_
  refine wp_tl (d := .region 11 (opsC 11 Tryz.f6) false) (by kernel_rfl) ?_
  refine bk11 x HX.out HL.out M.out B.out  _ _ _ _ _ _ _ _ _ _ _ _ _ _ _ _ _ _ _ _ _ _ _ _ _ _ _ _ _ _ _ _ _ _ _ _ _ _ _ _ _ _ _ _ _ _ _ _ _ _ _ _ _ _ _ _ _ _ _ _ _ _ _ _ _ _ _ _ _ _ _ _ _ _ _ _ _ _ _ _ _ _ _ _ _ _ _ _ _ _ _ _ _ _ _ _ _ _ _ _ _ _ _ _ _ _ _ _ _ _ _ _ _ _ _ _ _ _ _ _ _ _ _ _ _ _ _ _ _ _ _ _ _ _ _ _ _ _ _ _ _ _ _ _ _ _ _ _ _ _ _ _ _ _ _ _ _ _ _ _ _ _ _ _ _ _ _ _ _ _ _ _ _ _ _ _ _ _ _ _ _ _ _ _ _ _ _ _ _ _ _ _ _ _ _ _ _ _ _ _ _ _ _ _ _ _ _ _ _ _ _ _ _ _ _ _ _ _ _ _ _ _ _ _ _ _ _ _ _ _ _ _ ?_
  intro y70 y71 y72 y73 y74 y75 y76 u11 m11
  replace B := Lib.hid (blk_step m11 B.out)
  replace BP := Lib.hid (blk_step m11 BP.out)
  replace BC := Lib.hid (blk_step m11 BC.out)
  replace BD := Lib.hid (blk_step m11 BD.out)
  replace BA := Lib.hid (blk_step m11 BA.out)
  replace BK := Lib.hid (blk_step m11 BK.out)
  replace BU := Lib.hid (blk_step m11 BU.out)
  replace RsD0 := Lib.hid (RdM.keep RsD0.out m11 (fun _ _ x => x))
  replace M := Lib.hid (M.out.then0 m11)
  clear m11
  refine HK.out _ _ ?_
  clear K HK
  refine wp_seq_h fun K HK => ?_
  refine wp_seq_h fun K2 HK2 => ?_
  refine wp_tl (d := .region 12 (opsC 12 Tryz.f6) true) (by kernel_rfl) ?_
  refine bk12 x HX.out HL.out M.out B.out BP.out BC.out BD.out BA.out BK.out BU.out RsD0.out _ _ _ _ _ _ _ _ _ _ _ _ _ _ _ _ _ _ _ _ _ _ _ _ _ _ _ _ _ _ _ _ _ _ _ _ _ _ _ _ _ _ _ _ _ _ _ _ _ _ _ _ _ _ _ _ _ _ _ _ _ _ _ _ _ _ _ _ _ _ _ _ _ _ _ _ _ _ _ _ _ _ _ _ _ _ _ _ _ _ _ _ _ _ _ _ _ _ _ _ _ _ _ _ _ _ _ _ _ _ _ _ _ _ _ _ _ _ _ _ _ _ _ _ _ _ _ _ _ _ _ _ _ _ _ _ _ _ _ _ _ _ _ _ _ _ _ _ _ _ _ _ _ _ _ _ _ _ _ _ _ _ _ _ _ _ _ _ _ _ _ _ _ _ _ _ _ _ _ _ _ _ _ _ _ _ _ _ _ _ _ _ _ _ _ _ _ _ _ _ _ _ _ _ _ _ _ _ _ _ _ _ _ _ _ _ _ _ ?_
  intro y77 y78 y79 y80 y81 y82 y83 y84 y85 y86 y87 y88 y89 y90 y91 y92 y93 y94 y95 y96 y97 y98 y99 y100 y101 y102 y103 y104 y105 y106 y107 y108 y109 y110 y111 y112 y113 y114 y115 y116 y117 y118 y119 y120 y121 y122 y123 y124 y125 y126 y127 y128 y129 y130 y131 y132 y133 u12 m12
  clear BP BC BD BA BK BU RsD0
  replace B := Lib.hid (blk_step m12 B.out)
  replace M := Lib.hid (M.out.then0 m12)
  clear m12
  refine HK2.out _ _ ?_
  clear K2 HK2
  go_wp2
  refine HK.out _ _ ?_
  clear K HK
  refine wp_seq_h fun K HK => ?_
  refine wp_tl (d := .region 14 (opsC 14 Tryz.f6) false) (by kernel_rfl) ?_
  refine bk14 x HX.out HL.out M.out B.out  _ _ _ _ _ _ _ _ _ _ _ _ _ _ _ _ _ _ _ _ _ _ _ _ _ _ _ _ _ _ _ _ _ _ _ _ _ _ _ _ _ _ _ _ _ _ _ _ _ _ _ _ _ _ _ _ _ _ _ _ _ _ _ _ _ _ _ _ _ _ _ _ _ _ _ _ _ _ _ _ _ _ _ _ _ _ _ _ _ _ _ _ _ _ _ _ _ _ _ _ _ _ _ _ _ _ _ _ _ _ _ _ _ _ _ _ _ _ _ _ _ _ _ _ _ _ _ _ _ _ _ _ _ _ _ _ _ _ _ _ _ _ _ _ _ _ _ _ _ _ _ _ _ _ _ _ _ _ _ _ _ _ _ _ _ _ _ _ _ _ _ _ _ _ _ _ _ _ _ _ _ _ _ _ _ _ _ _ _ _ _ _ _ _ _ _ _ _ _ _ _ _ _ _ _ _ _ _ _ _ _ _ _ _ _ _ _ _ _ _ _ _ _ _ _ _ _ _ _ _ _ _ ?_
  intro y135 y136 y137 y138 y139 y140 y141 kV sV2 sV7 sV8 sV9 u14 m14 bV rV2 rV7 rV8 rV9
  replace B := Lib.hid (blk_step m14 B.out)
  replace M := Lib.hid (M.out.then0 m14)
  clear m14
  have BV := Lib.hid bV
  clear bV
  have RsV2 := Lib.hid rV2
  clear rV2
  have RsV7 := Lib.hid rV7
  clear rV7
  have RsV8 := Lib.hid rV8
  clear rV8
  have RsV9 := Lib.hid rV9
  clear rV9
  refine HK.out _ _ ?_
  clear K HK
  refine wp_seq_h fun K HK => ?_
  refine wp_tl (d := .region 15 (opsC 15 Tryz.f6) false) (by kernel_rfl) ?_
  refine bk15 x HX.out HL.out M.out B.out  _ _ _ _ _ _ _ _ _ _ _ _ _ _ _ _ _ _ _ _ _ _ _ _ _ _ _ _ _ _ _ _ _ _ _ _ _ _ _ _ _ _ _ _ _ _ _ _ _ _ _ _ _ _ _ _ _ _ _ _ _ _ _ _ _ _ _ _ _ _ _ _ _ _ _ _ _ _ _ _ _ _ _ _ _ _ _ _ _ _ _ _ _ _ _ _ _ _ _ _ _ _ _ _ _ _ _ _ _ _ _ _ _ _ _ _ _ _ _ _ _ _ _ _ _ _ _ _ _ _ _ _ _ _ _ _ _ _ _ _ _ _ _ _ _ _ _ _ _ _ _ _ _ _ _ _ _ _ _ _ _ _ _ _ _ _ _ _ _ _ _ _ _ _ _ _ _ _ _ _ _ _ _ _ _ _ _ _ _ _ _ _ _ _ _ _ _ _ _ _ _ _ _ _ _ _ _ _ _ _ _ _ _ _ _ _ _ _ _ _ _ _ _ _ _ _ _ _ _ _ _ _ ?_
  intro y142 y143 y144 y145 y146 y147 y148 kG sG0 sG2 u15 m15 bG rG0 rG2
  replace B := Lib.hid (blk_step m15 B.out)
  replace BV := Lib.hid (blk_step m15 BV.out)
  replace RsV2 := Lib.hid (RdM.keep RsV2.out m15 (fun _ _ x => x))
  replace RsV7 := Lib.hid (RdM.keep RsV7.out m15 (fun _ _ x => x))
  replace RsV8 := Lib.hid (RdM.keep RsV8.out m15 (fun _ _ x => x))
  replace RsV9 := Lib.hid (RdM.keep RsV9.out m15 (fun _ _ x => x))
  replace M := Lib.hid (M.out.then0 m15)
  clear m15
  have BG := Lib.hid bG
  clear bG
  have RsG0 := Lib.hid rG0
  clear rG0
  have RsG2 := Lib.hid rG2
  clear rG2
  refine HK.out _ _ ?_
  clear K HK
  refine wp_seq_h fun K HK => ?_
  refine wp_tl (d := .region 16 (opsC 16 Tryz.f6) false) (by kernel_rfl) ?_
  refine bk16 x HX.out HL.out M.out B.out  _ _ _ _ _ _ _ _ _ _ _ _ _ _ _ _ _ _ _ _ _ _ _ _ _ _ _ _ _ _ _ _ _ _ _ _ _ _ _ _ _ _ _ _ _ _ _ _ _ _ _ _ _ _ _ _ _ _ _ _ _ _ _ _ _ _ _ _ _ _ _ _ _ _ _ _ _ _ _ _ _ _ _ _ _ _ _ _ _ _ _ _ _ _ _ _ _ _ _ _ _ _ _ _ _ _ _ _ _ _ _ _ _ _ _ _ _ _ _ _ _ _ _ _ _ _ _ _ _ _ _ _ _ _ _ _ _ _ _ _ _ _ _ _ _ _ _ _ _ _ _ _ _ _ _ _ _ _ _ _ _ _ _ _ _ _ _ _ _ _ _ _ _ _ _ _ _ _ _ _ _ _ _ _ _ _ _ _ _ _ _ _ _ _ _ _ _ _ _ _ _ _ _ _ _ _ _ _ _ _ _ _ _ _ _ _ _ _ _ _ _ _ _ _ _ _ _ _ _ _ _ _ ?_
  intro y149 y150 y151 y152 y153 y154 y155 kH sH0 u16 m16 bH rH0
  replace B := Lib.hid (blk_step m16 B.out)
  replace BV := Lib.hid (blk_step m16 BV.out)
  replace BG := Lib.hid (blk_step m16 BG.out)
  replace RsV2 := Lib.hid (RdM.keep RsV2.out m16 (fun _ _ x => x))
  replace RsV7 := Lib.hid (RdM.keep RsV7.out m16 (fun _ _ x => x))
  replace RsV8 := Lib.hid (RdM.keep RsV8.out m16 (fun _ _ x => x))
  replace RsV9 := Lib.hid (RdM.keep RsV9.out m16 (fun _ _ x => x))
  replace RsG0 := Lib.hid (RdM.keep RsG0.out m16 (fun _ _ x => x))
  replace RsG2 := Lib.hid (RdM.keep RsG2.out m16 (fun _ _ x => x))
  replace M := Lib.hid (M.out.then0 m16)
  clear m16
  have BH := Lib.hid bH
  clear bH
  have RsH0 := Lib.hid rH0
  clear rH0
  refine HK.out _ _ ?_
  clear K HK
  refine wp_seq_h fun K HK => ?_
  refine wp_tl (d := .region 17 (opsC 17 Tryz.f6) false) (by kernel_rfl) ?_
  refine bk17 x HX.out HL.out M.out B.out  _ _ _ _ _ _ _ _ _ _ _ _ _ _ _ _ _ _ _ _ _ _ _ _ _ _ _ _ _ _ _ _ _ _ _ _ _ _ _ _ _ _ _ _ _ _ _ _ _ _ _ _ _ _ _ _ _ _ _ _ _ _ _ _ _ _ _ _ _ _ _ _ _ _ _ _ _ _ _ _ _ _ _ _ _ _ _ _ _ _ _ _ _ _ _ _ _ _ _ _ _ _ _ _ _ _ _ _ _ _ _ _ _ _ _ _ _ _ _ _ _ _ _ _ _ _ _ _ _ _ _ _ _ _ _ _ _ _ _ _ _ _ _ _ _ _ _ _ _ _ _ _ _ _ _ _ _ _ _ _ _ _ _ _ _ _ _ _ _ _ _ _ _ _ _ _ _ _ _ _ _ _ _ _ _ _ _ _ _ _ _ _ _ _ _ _ _ _ _ _ _ _ _ _ _ _ _ _ _ _ _ _ _ _ _ _ _ _ _ _ _ _ _ _ _ _ _ _ _ _ _ _ ?_
  intro y156 y157 y158 y159 y160 y161 y162 kM sM6 u17 m17 bM rM6
  replace B := Lib.hid (blk_step m17 B.out)
  replace BV := Lib.hid (blk_step m17 BV.out)
  replace BG := Lib.hid (blk_step m17 BG.out)
  replace BH := Lib.hid (blk_step m17 BH.out)
  replace RsV2 := Lib.hid (RdM.keep RsV2.out m17 (fun _ _ x => x))
  replace RsV7 := Lib.hid (RdM.keep RsV7.out m17 (fun _ _ x => x))
  replace RsV8 := Lib.hid (RdM.keep RsV8.out m17 (fun _ _ x => x))
  replace RsV9 := Lib.hid (RdM.keep RsV9.out m17 (fun _ _ x => x))
  replace RsG0 := Lib.hid (RdM.keep RsG0.out m17 (fun _ _ x => x))
  replace RsG2 := Lib.hid (RdM.keep RsG2.out m17 (fun _ _ x => x))
  replace RsH0 := Lib.hid (RdM.keep RsH0.out m17 (fun _ _ x => x))
  replace M := Lib.hid (M.out.then0 m17)
  clear m17
  have BM := Lib.hid bM
  clear bM
  have RsM6 := Lib.hid rM6
  clear rM6
  refine HK.out _ _ ?_
  clear K HK
  refine wp_seq_h fun K HK => ?_
  refine wp_tl (d := .region 18 (opsC 18 Tryz.f6) false) (by kernel_rfl) ?_
  refine bk18 x HX.out HL.out M.out B.out  _ _ _ _ _ _ _ _ _ _ _ _ _ _ _ _ _ _ _ _ _ _ _ _ _ _ _ _ _ _ _ _ _ _ _ _ _ _ _ _ _ _ _ _ _ _ _ _ _ _ _ _ _ _ _ _ _ _ _ _ _ _ _ _ _ _ _ _ _ _ _ _ _ _ _ _ _ _ _ _ _ _ _ _ _ _ _ _ _ _ _ _ _ _ _ _ _ _ _ _ _ _ _ _ _ _ _ _ _ _ _ _ _ _ _ _ _ _ _ _ _ _ _ _ _ _ _ _ _ _ _ _ _ _ _ _ _ _ _ _ _ _ _ _ _ _ _ _ _ _ _ _ _ _ _ _ _ _ _ _ _ _ _ _ _ _ _ _ _ _ _ _ _ _ _ _ _ _ _ _ _ _ _ _ _ _ _ _ _ _ _ _ _ _ _ _ _ _ _ _ _ _ _ _ _ _ _ _ _ _ _ _ _ _ _ _ _ _ _ _ _ _ _ _ _ _ _ _ _ _ _ _ ?_
  intro y163 y164 kw u18 m18 b0 hne
  have nB := hne _ (lt_of_heap B.out)
  have nBV := hne _ (lt_of_heap BV.out)
  have nBG := hne _ (lt_of_heap BG.out)
  have nBH := hne _ (lt_of_heap BH.out)
  have nBM := hne _ (lt_of_heap BM.out)
  have nRsV2 := rn_sep RsV2.out hne
  have nRsV7 := rn_sep RsV7.out hne
  have nRsV8 := rn_sep RsV8.out hne
  have nRsV9 := rn_sep RsV9.out hne
  have nRsG0 := rn_sep RsG0.out hne
  have nRsG2 := rn_sep RsG2.out hne
  have nRsH0 := rn_sep RsH0.out hne
  have nRsM6 := rn_sep RsM6.out hne
  have HF := Lib.hid (show w.heap.size ≤ kw from Nat.le_of_not_lt (fun h => hne _ (Nat.lt_of_lt_of_le h M.out.size) rfl))
  replace B := Lib.hid (blk_step m18 B.out)
  replace BV := Lib.hid (blk_step m18 BV.out)
  replace BG := Lib.hid (blk_step m18 BG.out)
  replace BH := Lib.hid (blk_step m18 BH.out)
  replace BM := Lib.hid (blk_step m18 BM.out)
  replace RsV2 := Lib.hid (RdM.keep RsV2.out m18 (fun _ _ x => x))
  replace RsV7 := Lib.hid (RdM.keep RsV7.out m18 (fun _ _ x => x))
  replace RsV8 := Lib.hid (RdM.keep RsV8.out m18 (fun _ _ x => x))
  replace RsV9 := Lib.hid (RdM.keep RsV9.out m18 (fun _ _ x => x))
  replace RsG0 := Lib.hid (RdM.keep RsG0.out m18 (fun _ _ x => x))
  replace RsG2 := Lib.hid (RdM.keep RsG2.out m18 (fun _ _ x => x))
  replace RsH0 := Lib.hid (RdM.keep RsH0.out m18 (fun _ _ x => x))
  replace RsM6 := Lib.hid (RdM.keep RsM6.out m18 (fun _ _ x => x))
  replace M := Lib.hid (M.out.then0 m18)
  clear m18
  have BW := Lib.hid b0
  clear b0 hne
  have NB := Lib.hid nB
  clear nB
  have NBV := Lib.hid nBV
  clear nBV
  have NBG := Lib.hid nBG
  clear nBG
  have NBH := Lib.hid nBH
  clear nBH
  have NBM := Lib.hid nBM
  clear nBM
  have NRsV2 := Lib.hid nRsV2
  clear nRsV2
  have NRsV7 := Lib.hid nRsV7
  clear nRsV7
  have NRsV8 := Lib.hid nRsV8
  clear nRsV8
  have NRsV9 := Lib.hid nRsV9
  clear nRsV9
  have NRsG0 := Lib.hid nRsG0
  clear nRsG0
  have NRsG2 := Lib.hid nRsG2
  clear nRsG2
  have NRsH0 := Lib.hid nRsH0
  clear nRsH0
  have NRsM6 := Lib.hid nRsM6
  clear nRsM6
  refine HK.out _ _ ?_
  clear K HK
  refine wp_seq_h fun K HK => ?_
  refine wp_tl (d := .region 19 (opsC 19 Tryz.f6) true) (by kernel_rfl) ?_
  refine bk19 x HX.out HL.out M.out B.out BW.out _ _ _ _ _ _ _ _ _ _ _ _ _ _ _ _ _ _ _ _ _ _ _ _ _ _ _ _ _ _ _ _ _ _ _ _ _ _ _ _ _ _ _ _ _ _ _ _ _ _ _ _ _ _ _ _ _ _ _ _ _ _ _ _ _ _ _ _ _ _ _ _ _ _ _ _ _ _ _ _ _ _ _ _ _ _ _ _ _ _ _ _ _ _ _ _ _ _ _ _ _ _ _ _ _ _ _ _ _ _ _ _ _ _ _ _ _ _ _ _ _ _ _ _ _ _ _ _ _ _ _ _ _ _ _ _ _ _ _ _ _ _ _ _ _ _ _ _ _ _ _ _ _ _ _ _ _ _ _ _ _ _ _ _ _ _ _ _ _ _ _ _ _ _ _ _ _ _ _ _ _ _ _ _ _ _ _ _ _ _ _ _ _ _ _ _ _ _ _ _ _ _ _ _ _ _ _ _ _ _ _ _ _ _ _ _ _ _ _ _ _ _ _ _ _ _ _ _ _ _ _ ?_
  intro y165 y166 y167 y168 y169 y170 y171 y172 y173 y174 y175 y176 y177 y178 y179 y180 tV2 tV7 tV8 tV9 u19 m19 b0 rV2 rV7 rV8 rV9
  replace B := Lib.hid (m19.heap B.out NB.out)
  replace BV := Lib.hid (m19.heap BV.out NBV.out)
  replace BG := Lib.hid (m19.heap BG.out NBG.out)
  replace BH := Lib.hid (m19.heap BH.out NBH.out)
  replace BM := Lib.hid (m19.heap BM.out NBM.out)
  replace RsV2 := Lib.hid (RN.keepW RsV2.out m19 NRsV2.out)
  replace RsV7 := Lib.hid (RN.keepW RsV7.out m19 NRsV7.out)
  replace RsV8 := Lib.hid (RN.keepW RsV8.out m19 NRsV8.out)
  replace RsV9 := Lib.hid (RN.keepW RsV9.out m19 NRsV9.out)
  replace RsG0 := Lib.hid (RN.keepW RsG0.out m19 NRsG0.out)
  replace RsG2 := Lib.hid (RN.keepW RsG2.out m19 NRsG2.out)
  replace RsH0 := Lib.hid (RN.keepW RsH0.out m19 NRsH0.out)
  replace RsM6 := Lib.hid (RN.keepW RsM6.out m19 NRsM6.out)
  replace M := Lib.hid (M.out.trans m19 (U := noB) (fun _ _ x => x) (fun i hi x => by have := HF.out; omega))
  have BW2 := Lib.hid b0
  clear BW HF m19 b0 NB NBV NBG NBH NBM NRsV2 NRsV7 NRsV8 NRsV9 NRsG0 NRsG2 NRsH0 NRsM6
  have RtV2 := Lib.hid rV2
  clear rV2
  have RtV7 := Lib.hid rV7
  clear rV7
  have RtV8 := Lib.hid rV8
  clear rV8
  have RtV9 := Lib.hid rV9
  clear rV9
  refine HK.out _ _ ?_
  clear K HK
  refine wp_seq_h fun K HK => ?_
  refine wp_tl (d := .region 20 (opsC 20 Tryz.f6) false) (by kernel_rfl) ?_
  refine bk20 x HX.out HL.out M.out B.out  _ _ _ _ _ _ _ _ _ _ _ _ _ _ _ _ _ _ _ _ _ _ _ _ _ _ _ _ _ _ _ _ _ _ _ _ _ _ _ _ _ _ _ _ _ _ _ _ _ _ _ _ _ _ _ _ _ _ _ _ _ _ _ _ _ _ _ _ _ _ _ _ _ _ _ _ _ _ _ _ _ _ _ _ _ _ _ _ _ _ _ _ _ _ _ _ _ _ _ _ _ _ _ _ _ _ _ _ _ _ _ _ _ _ _ _ _ _ _ _ _ _ _ _ _ _ _ _ _ _ _ _ _ _ _ _ _ _ _ _ _ _ _ _ _ _ _ _ _ _ _ _ _ _ _ _ _ _ _ _ _ _ _ _ _ _ _ _ _ _ _ _ _ _ _ _ _ _ _ _ _ _ _ _ _ _ _ _ _ _ _ _ _ _ _ _ _ _ _ _ _ _ _ _ _ _ _ _ _ _ _ _ _ _ _ _ _ _ _ _ _ _ _ _ _ _ _ _ _ _ _ _ ?_
  intro y181 y182 ky u20 m20 b0 hne
  have nB := hne _ (lt_of_heap B.out)
  have nBV := hne _ (lt_of_heap BV.out)
  have nBG := hne _ (lt_of_heap BG.out)
  have nBH := hne _ (lt_of_heap BH.out)
  have nBM := hne _ (lt_of_heap BM.out)
  have nBW2 := hne _ (lt_of_heap BW2.out)
  have nRsV2 := rn_sep RsV2.out hne
  have nRsV7 := rn_sep RsV7.out hne
  have nRsV8 := rn_sep RsV8.out hne
  have nRsV9 := rn_sep RsV9.out hne
  have nRsG0 := rn_sep RsG0.out hne
  have nRsG2 := rn_sep RsG2.out hne
  have nRsH0 := rn_sep RsH0.out hne
  have nRsM6 := rn_sep RsM6.out hne
  have nRtV2 := rn_sep RtV2.out hne
  have nRtV7 := rn_sep RtV7.out hne
  have nRtV8 := rn_sep RtV8.out hne
  have nRtV9 := rn_sep RtV9.out hne
  have HF := Lib.hid (show w.heap.size ≤ ky from Nat.le_of_not_lt (fun h => hne _ (Nat.lt_of_lt_of_le h M.out.size) rfl))
  replace B := Lib.hid (blk_step m20 B.out)
  replace BV := Lib.hid (blk_step m20 BV.out)
  replace BG := Lib.hid (blk_step m20 BG.out)
  replace BH := Lib.hid (blk_step m20 BH.out)
  replace BM := Lib.hid (blk_step m20 BM.out)
  replace BW2 := Lib.hid (blk_step m20 BW2.out)
  replace RsV2 := Lib.hid (RdM.keep RsV2.out m20 (fun _ _ x => x))
  replace RsV7 := Lib.hid (RdM.keep RsV7.out m20 (fun _ _ x => x))
  replace RsV8 := Lib.hid (RdM.keep RsV8.out m20 (fun _ _ x => x))
  replace RsV9 := Lib.hid (RdM.keep RsV9.out m20 (fun _ _ x => x))
  replace RsG0 := Lib.hid (RdM.keep RsG0.out m20 (fun _ _ x => x))
  replace RsG2 := Lib.hid (RdM.keep RsG2.out m20 (fun _ _ x => x))
  replace RsH0 := Lib.hid (RdM.keep RsH0.out m20 (fun _ _ x => x))
  replace RsM6 := Lib.hid (RdM.keep RsM6.out m20 (fun _ _ x => x))
  replace RtV2 := Lib.hid (RdM.keep RtV2.out m20 (fun _ _ x => x))
  replace RtV7 := Lib.hid (RdM.keep RtV7.out m20 (fun _ _ x => x))
  replace RtV8 := Lib.hid (RdM.keep RtV8.out m20 (fun _ _ x => x))
  replace RtV9 := Lib.hid (RdM.keep RtV9.out m20 (fun _ _ x => x))
  replace M := Lib.hid (M.out.then0 m20)
  clear m20
  have BY := Lib.hid b0
  clear b0 hne
  have NB := Lib.hid nB
  clear nB
  have NBV := Lib.hid nBV
  clear nBV
  have NBG := Lib.hid nBG
  clear nBG
  have NBH := Lib.hid nBH
  clear nBH
  have NBM := Lib.hid nBM
  clear nBM
  have NBW2 := Lib.hid nBW2
  clear nBW2
  have NRsV2 := Lib.hid nRsV2
  clear nRsV2
  have NRsV7 := Lib.hid nRsV7
  clear nRsV7
  have NRsV8 := Lib.hid nRsV8
  clear nRsV8
  have NRsV9 := Lib.hid nRsV9
  clear nRsV9
  have NRsG0 := Lib.hid nRsG0
  clear nRsG0
  have NRsG2 := Lib.hid nRsG2
  clear nRsG2
  have NRsH0 := Lib.hid nRsH0
  clear nRsH0
  have NRsM6 := Lib.hid nRsM6
  clear nRsM6
  have NRtV2 := Lib.hid nRtV2
  clear nRtV2
  have NRtV7 := Lib.hid nRtV7
  clear nRtV7
  have NRtV8 := Lib.hid nRtV8
  clear nRtV8
  have NRtV9 := Lib.hid nRtV9
  clear nRtV9
  refine HK.out _ _ ?_
  clear K HK
  refine wp_seq_h fun K HK => ?_
  refine wp_tl (d := .region 21 (opsC 21 Tryz.f6) false) (by kernel_rfl) ?_
  refine bk21 x HX.out HL.out M.out B.out BY.out _ _ _ _ _ _ _ _ _ _ _ _ _ _ _ _ _ _ _ _ _ _ _ _ _ _ _ _ _ _ _ _ _ _ _ _ _ _ _ _ _ _ _ _ _ _ _ _ _ _ _ _ _ _ _ _ _ _ _ _ _ _ _ _ _ _ _ _ _ _ _ _ _ _ _ _ _ _ _ _ _ _ _ _ _ _ _ _ _ _ _ _ _ _ _ _ _ _ _ _ _ _ _ _ _ _ _ _ _ _ _ _ _ _ _ _ _ _ _ _ _ _ _ _ _ _ _ _ _ _ _ _ _ _ _ _ _ _ _ _ _ _ _ _ _ _ _ _ _ _ _ _ _ _ _ _ _ _ _ _ _ _ _ _ _ _ _ _ _ _ _ _ _ _ _ _ _ _ _ _ _ _ _ _ _ _ _ _ _ _ _ _ _ _ _ _ _ _ _ _ _ _ _ _ _ _ _ _ _ _ _ _ _ _ _ _ _ _ _ _ _ _ _ _ _ _ _ _ _ _ _ ?_
  intro y183 y184 y185 y186 tM6 u21 m21 b0 rM6
  replace B := Lib.hid (m21.heap B.out NB.out)
  replace BV := Lib.hid (m21.heap BV.out NBV.out)
  replace BG := Lib.hid (m21.heap BG.out NBG.out)
  replace BH := Lib.hid (m21.heap BH.out NBH.out)
  replace BM := Lib.hid (m21.heap BM.out NBM.out)
  replace BW2 := Lib.hid (m21.heap BW2.out NBW2.out)
  replace RsV2 := Lib.hid (RN.keepW RsV2.out m21 NRsV2.out)
  replace RsV7 := Lib.hid (RN.keepW RsV7.out m21 NRsV7.out)
  replace RsV8 := Lib.hid (RN.keepW RsV8.out m21 NRsV8.out)
  replace RsV9 := Lib.hid (RN.keepW RsV9.out m21 NRsV9.out)
  replace RsG0 := Lib.hid (RN.keepW RsG0.out m21 NRsG0.out)
  replace RsG2 := Lib.hid (RN.keepW RsG2.out m21 NRsG2.out)
  replace RsH0 := Lib.hid (RN.keepW RsH0.out m21 NRsH0.out)
  replace RsM6 := Lib.hid (RN.keepW RsM6.out m21 NRsM6.out)
  replace RtV2 := Lib.hid (RN.keepW RtV2.out m21 NRtV2.out)
  replace RtV7 := Lib.hid (RN.keepW RtV7.out m21 NRtV7.out)
  replace RtV8 := Lib.hid (RN.keepW RtV8.out m21 NRtV8.out)
  replace RtV9 := Lib.hid (RN.keepW RtV9.out m21 NRtV9.out)
  replace M := Lib.hid (M.out.trans m21 (U := noB) (fun _ _ x => x) (fun i hi x => by have := HF.out; omega))
  have BY2 := Lib.hid b0
  clear BY HF m21 b0 NB NBV NBG NBH NBM NBW2 NRsV2 NRsV7 NRsV8 NRsV9 NRsG0 NRsG2 NRsH0 NRsM6 NRtV2 NRtV7 NRtV8 NRtV9
  have RtM6 := Lib.hid rM6
  clear rM6
  refine HK.out _ _ ?_
  clear K HK
  refine wp_seq_h fun K HK => ?_
  refine wp_tl (d := .region 22 (opsC 22 Tryz.f6) true) (by kernel_rfl) ?_
  refine bk22 x HX.out HL.out M.out B.out BV.out BG.out BH.out BM.out BW2.out BY2.out RsV2.out RsV7.out RsV8.out RsV9.out RsG0.out RsG2.out RsH0.out RsM6.out RtV2.out RtV7.out RtV8.out RtV9.out RtM6.out _ _ _ _ _ _ _ _ _ _ _ _ _ _ _ _ _ _ _ _ _ _ _ _ _ _ _ _ _ _ _ _ _ _ _ _ _ _ _ _ _ _ _ _ _ _ _ _ _ _ _ _ _ _ _ _ _ _ _ _ _ _ _ _ _ _ _ _ _ _ _ _ _ _ _ _ _ _ _ _ _ _ _ _ _ _ _ _ _ _ _ _ _ _ _ _ _ _ _ _ _ _ _ _ _ _ _ _ _ _ _ _ _ _ _ _ _ _ _ _ _ _ _ _ _ _ _ _ _ _ _ _ _ _ _ _ _ _ _ _ _ _ _ _ _ _ _ _ _ _ _ _ _ _ _ _ _ _ _ _ _ _ _ _ _ _ _ _ _ _ _ _ _ _ _ _ _ _ _ _ _ _ _ _ _ _ _ _ _ _ _ _ _ _ _ _ _ _ _ _ _ _ _ _ _ _ _ _ _ _ _ _ _ _ _ _ _ _ _ _ _ _ ?_
  intro y187 y188 y189 y190 y191 y192 y193 y194 y195 y196 y197 y198 y199 y200 y201 y202 y203 y204 y205 y206 y207 y208 y209 y210 y211 y212 y213 y214 y215 y216 y217 y218 y219 y220 y221 y222 y223 y224 y225 y226 y227 y228 y229 y230 y231 y232 u22 m22
  replace M := Lib.hid (M.out.then0 m22)
  refine HK.out _ _ ?_
  clear K HK
  go_wp2
  go_ret
  exact ⟨rfl, M.out.below⟩

theorem lifted (os : Os) (started : os.Started) (H : Type) (enc : TypeId × Value → H) :
    ReturnsInHanded {} Tryz.checked os 6 .any (Rows.recBackSpec.pre6 enc Tryz.prog Tryz.f6 Rows.recBackRow.domain false) (Rows.recBackSpec.post enc Tryz.prog Tryz.f6 false true false false) := by
  refine returnsInHanded_of_change_sized (C := Tryz.checked) own started (by kernel_rfl) Tryz.func6
    (ChangeSpec.witness6 (enc := enc) (C := Tryz.checked) false ⟨#[], #[.agg #[.int .u64 0, .int .u64 0, .int .u64 0, .int .u64 0, .int .u64 0, .int .u64 0, .int .u64 0, .int .u64 0, .int .u64 0, .int .u64 0, .int .u64 0, .int .u64 0, .slice none 0 0, .int .u64 0, .int .u64 0, .int .u64 0, .int .u64 0, .slice none 0 0, .bool false, .int .u64 0, .bool false, .int .u64 0, .slice none 0 0, .slice none 0 0, .slice none 0 0, .slice none 0 0, .int .u64 0, .slice none 0 0, .slice none 0 0, .int .u64 0, .int .u64 0, .int .u64 0, .int .u64 0, .int .u64 0, .int .u64 0, .int .u64 0, .int .u64 0, .int .u64 0, .int .u64 0, .int .u64 0, .int .u64 0, .int .u64 0, .int .u64 0, .int .u64 0, .slice none 0 0, .int .u64 0]], []⟩ 8 (by kernel_rfl) (by kernel_rfl) (by kernel_rfl) (by kernel_rfl)) ?_
  intro W base args ds gs before hval0 hW hcnd hsz _
  have hval : ∀ (j : Nat) t v, Tryz.f6.params[j]? = some t → args[j]? = some v → Value.okWide Tryz.prog W .any base t v := hval0
  have hW' := hW
  obtain ⟨p, q, hA0, hV, rfl, hfz, hnd⟩ := hW
  have hA : DataW.TrodAll enc Tryz.prog W 0 (fun _ => true) true Tryz.f6.params.toList args.toList ds p := hA0
  replace hsz : (DataW.weightsEach Tryz.prog (Tryz.f6.params.toList ++ Rows.recBackSpec.plain.varTypes Tryz.prog) (ds ++ gs)).all (· ≤ reachBytes) = true := hsz
  rw [Tryz.params6] at hA hval hsz
  obtain ⟨v0, vs0, d0, ds0, p0, q0, hargs, rfl, rfl, h0, r0⟩ := trodAll_cons hA
  obtain ⟨rfl, rfl, rfl⟩ := trodAll_nil r0
  obtain rfl : args = #[v0] := by cases args; simp_all
  obtain ⟨rfl, rfl⟩ := trodVars_none hV
  have sz : ∀ (j : Nat) t (d : DataW H), ([46] ++ Rows.recBackSpec.plain.varTypes Tryz.prog)[j]? = some t → ([d0] ++ ([] : List (DataW H)))[j]? = some d → ∀ q ∈ d.weights Tryz.prog t, q ≤ reachBytes := by
    intro j t d ht hd q hq
    have := List.all_eq_true.1 hsz q (DataW.weights_mem_each ht hd q hq)
    simpa using this
  obtain ⟨x0, rfl, k0⟩ := recs_of_arg (hval 0 46 v0 rfl rfl) h0 (sz 0 _ d0 rfl rfl)
  have j0 := h0
  have lt0 : ∀ x ∈ p0, x.block < W.heap.size := by obtain ⟨m, hm⟩ := j0; exact DataW.trod_lt m _ _ _ hm
  clear hA0 hval0
  refine (walk  x0 W k0).mono fun e W' ⟨he, bel⟩ => ?_
  subst he
  exact ⟨_, rfl, _, _, _, [], _, [], hW', trodAll_mk1 (shut_bool Tryz.underlying4 _), (trodAll_cons_mk (Below.trod laidOut (by kernel_rfl) (of_decide_eq_true (by kernel_rfl)) j0 bel lt0) trodAll_mk0), rfl, bel.frame _, fun h => by cases h⟩

theorem over : Rows.recBackRow.holds Tryz.pinned (OpenSpec.ofChange Rows.recBackSpec) :=
  OpenClaim.holds_of_wide 6 Tryz.f6 rfl rfl rfl rfl rfl rfl rfl ⟨rfl, rfl, rfl, rfl, rfl⟩ rfl rfl rfl rfl rfl (by kernel_rfl) Tryz.func6 (by kernel_rfl)
    (of_decide_eq_true (by kernel_rfl)) (by unfold Func.isWrapper; first | (rw [if_pos (by decide +kernel)]; kernel_rfl) | (rw [if_neg (by decide +kernel)]; exact ⟨rfl, rfl⟩))
    (fun os started H enc _ => lifted os started H enc)

theorem proved : Rows.RecBackSaid := over
#print axioms proved
end Go.Proofs.YtnkbbclcileleaaGreat.recBack


/- RecApart, the parts: when two records of a kind have the same bytes; the first three drawn regions. -/
import Derived.Test.YtnkbbclcileleaaRqParams
import Derived.Test.YtnkbbclcileleaaRqPool
import Derived.Test.YtnkbbclcileleaaRqAccount
import Derived.Test.YtnkbbclcileleaaRqUnbonding
import Derived.Test.YtnkbbclcileleaaRqVal
import Derived.Test.YtnkbbclcileleaaRqDelegation
import Derived.Test.YtnkbbclcileleaaRqHistory
import Derived.Test.YtnkbbclcileleaaRKnw
import Derived.Test.YtnkbbclcileleaaRLgt
import Derived.Test.YtnkbbclcileleaaRHlp
import Derived.Test.YtnkbbclcileleaaRecE
import Derived.Test.YtnkbbclcileleaaOrd
import Derived.Test.YtnkbbclcileleaaOrdF
namespace Go.Proofs.Ytnkbbclcileleaa.recApart
open Go.Gl Go.RowKit Go.ChangeShapes Go.WideShapes Go.ChangeAt
set_option linter.unusedVariables false
set_option linter.unusedSimpArgs false
set_option maxRecDepth 100000

theorem bytesC {b : Bool} {xs ys : List UInt8} (h : decide (xs = ys) = b) {w : World} {p q : Value} (hp : Rd w p xs) (hq : Rd w q ys) : Calls Try.prog 6 #[p, q] w fun e w' => e = .returned (.bool b) ∧ Mods noB w w' := by
  subst h
  exact (Bytes_any hp hq).mono fun e w' ⟨h1, h2⟩ => ⟨h1, h2.mods noB⟩
theorem decC {b : Bool} {xs ys : List Nat} (h : decide (xs = ys) = b) {w : World} {p q : Value} (hp : RN w p xs) (hq : RN w q ys) : Calls Try.prog 11 #[.agg #[p], .agg #[q]] w fun e w' => e = .returned (.bool b) ∧ Mods noB w w' := by
  subst h
  exact HDec_any hp hq
def sameP (x y : Recs) : Bool := decide ([x.nP0, x.nP1, x.nP2, x.nP3, x.nP4, x.nP5, x.nP6, x.nP7, x.nP8, x.nP9] = [y.nP0, y.nP1, y.nP2, y.nP3, y.nP4, y.nP5, y.nP6, y.nP7, y.nP8, y.nP9])
def sameA (x y : Recs) : Bool := decide ([x.nA0, x.nA1] = [y.nA0, y.nA1])
def sameU (x y : Recs) : Bool := decide ([x.nU0, x.nU1, x.nU2, x.nU3, x.nU4, x.nU5] = [y.nU0, y.nU1, y.nU2, y.nU3, y.nU4, y.nU5])
def sameD (x y : Recs) : Bool := decide (normL x.lD0 = normL y.lD0)
def sameG (x y : Recs) : Bool := (decide (normL x.lG0 = normL y.lG0) && (decide (x.nG1 = y.nG1) && decide (normL x.lG2 = normL y.lG2)))
def sameH (x y : Recs) : Bool := (decide (normL x.lH0 = normL y.lH0) && decide (x.nH1 = y.nH1))
def sameV (x y : Recs) : Bool := (decide (x.nV0 = y.nV0) && (decide (x.nV1 = y.nV1) && ((x.bV3 == y.bV3) && (decide (x.nV4 = y.nV4) && ((x.bV5 == y.bV5) && (decide (x.nV6 = y.nV6) && (decide (normL x.lV2 = normL y.lV2) && (decide (normL x.lV7 = normL y.lV7) && (decide (normL x.lV8 = normL y.lV8) && decide (normL x.lV9 = normL y.lV9))))))))))
theorem layP {w : World} {x y : Recs} (hx : x.At w) (hy : y.At w) : decide (recLay [⟨0, x.nP0, []⟩, ⟨0, x.nP1, []⟩, ⟨0, x.nP2, []⟩, ⟨0, x.nP3, []⟩, ⟨0, x.nP4, []⟩, ⟨0, x.nP5, []⟩, ⟨0, x.nP6, []⟩, ⟨0, x.nP7, []⟩, ⟨0, x.nP8, []⟩, ⟨0, x.nP9, []⟩] = recLay [⟨0, y.nP0, []⟩, ⟨0, y.nP1, []⟩, ⟨0, y.nP2, []⟩, ⟨0, y.nP3, []⟩, ⟨0, y.nP4, []⟩, ⟨0, y.nP5, []⟩, ⟨0, y.nP6, []⟩, ⟨0, y.nP7, []⟩, ⟨0, y.nP8, []⟩, ⟨0, y.nP9, []⟩]) = sameP x y := by
  refine lay_same (okC (okN hx.nP0) (okC (okN hx.nP1) (okC (okN hx.nP2) (okC (okN hx.nP3) (okC (okN hx.nP4) (okC (okN hx.nP5) (okC (okN hx.nP6) (okC (okN hx.nP7) (okC (okN hx.nP8) (okC (okN hx.nP9) okZ)))))))))) (okC (okN hy.nP0) (okC (okN hy.nP1) (okC (okN hy.nP2) (okC (okN hy.nP3) (okC (okN hy.nP4) (okC (okN hy.nP5) (okC (okN hy.nP6) (okC (okN hy.nP7) (okC (okN hy.nP8) (okC (okN hy.nP9) okZ)))))))))) rfl ?_
  unfold sameP
  simp only [List.map_cons, List.map_nil, normN, normB, normD, List.cons.injEq, Fld.mk.injEq, true_and, and_true, Bool.and_eq_true, decide_eq_true_iff, beq_iff_eq, boolN]
theorem layA {w : World} {x y : Recs} (hx : x.At w) (hy : y.At w) : decide (recLay [⟨0, x.nA0, []⟩, ⟨0, x.nA1, []⟩] = recLay [⟨0, y.nA0, []⟩, ⟨0, y.nA1, []⟩]) = sameA x y := by
  refine lay_same (okC (okN hx.nA0) (okC (okN hx.nA1) okZ)) (okC (okN hy.nA0) (okC (okN hy.nA1) okZ)) rfl ?_
  unfold sameA
  simp only [List.map_cons, List.map_nil, normN, normB, normD, List.cons.injEq, Fld.mk.injEq, true_and, and_true, Bool.and_eq_true, decide_eq_true_iff, beq_iff_eq, boolN]
theorem layU {w : World} {x y : Recs} (hx : x.At w) (hy : y.At w) : decide (recLay [⟨0, x.nU0, []⟩, ⟨0, x.nU1, []⟩, ⟨0, x.nU2, []⟩, ⟨0, x.nU3, []⟩, ⟨0, x.nU4, []⟩, ⟨0, x.nU5, []⟩] = recLay [⟨0, y.nU0, []⟩, ⟨0, y.nU1, []⟩, ⟨0, y.nU2, []⟩, ⟨0, y.nU3, []⟩, ⟨0, y.nU4, []⟩, ⟨0, y.nU5, []⟩]) = sameU x y := by
  refine lay_same (okC (okN hx.nU0) (okC (okN hx.nU1) (okC (okN hx.nU2) (okC (okN hx.nU3) (okC (okN hx.nU4) (okC (okN hx.nU5) okZ)))))) (okC (okN hy.nU0) (okC (okN hy.nU1) (okC (okN hy.nU2) (okC (okN hy.nU3) (okC (okN hy.nU4) (okC (okN hy.nU5) okZ)))))) rfl ?_
  unfold sameU
  simp only [List.map_cons, List.map_nil, normN, normB, normD, List.cons.injEq, Fld.mk.injEq, true_and, and_true, Bool.and_eq_true, decide_eq_true_iff, beq_iff_eq, boolN]
theorem layD {w : World} {x y : Recs} (hx : x.At w) (hy : y.At w) : decide (recLay [⟨2, 0, x.lD0⟩] = recLay [⟨2, 0, y.lD0⟩]) = sameD x y := by
  refine lay_same (okC (okD hx.dD0.2.1) okZ) (okC (okD hy.dD0.2.1) okZ) rfl ?_
  unfold sameD
  simp only [List.map_cons, List.map_nil, normN, normB, normD, List.cons.injEq, Fld.mk.injEq, true_and, and_true, Bool.and_eq_true, decide_eq_true_iff, beq_iff_eq, boolN]
theorem layG {w : World} {x y : Recs} (hx : x.At w) (hy : y.At w) : decide (recLay [⟨2, 0, x.lG0⟩, ⟨0, x.nG1, []⟩, ⟨2, 0, x.lG2⟩] = recLay [⟨2, 0, y.lG0⟩, ⟨0, y.nG1, []⟩, ⟨2, 0, y.lG2⟩]) = sameG x y := by
  refine lay_same (okC (okD hx.dG0.2.1) (okC (okN hx.nG1) (okC (okD hx.dG2.2.1) okZ))) (okC (okD hy.dG0.2.1) (okC (okN hy.nG1) (okC (okD hy.dG2.2.1) okZ))) rfl ?_
  unfold sameG
  simp only [List.map_cons, List.map_nil, normN, normB, normD, List.cons.injEq, Fld.mk.injEq, true_and, and_true, Bool.and_eq_true, decide_eq_true_iff, beq_iff_eq, boolN]
theorem layH {w : World} {x y : Recs} (hx : x.At w) (hy : y.At w) : decide (recLay [⟨2, 0, x.lH0⟩, ⟨0, x.nH1, []⟩] = recLay [⟨2, 0, y.lH0⟩, ⟨0, y.nH1, []⟩]) = sameH x y := by
  refine lay_same (okC (okD hx.dH0.2.1) (okC (okN hx.nH1) okZ)) (okC (okD hy.dH0.2.1) (okC (okN hy.nH1) okZ)) rfl ?_
  unfold sameH
  simp only [List.map_cons, List.map_nil, normN, normB, normD, List.cons.injEq, Fld.mk.injEq, true_and, and_true, Bool.and_eq_true, decide_eq_true_iff, beq_iff_eq, boolN]
theorem layV {w : World} {x y : Recs} (hx : x.At w) (hy : y.At w) : decide (recLay [⟨0, x.nV0, []⟩, ⟨0, x.nV1, []⟩, ⟨2, 0, x.lV2⟩, ⟨1, if x.bV3 then 1 else 0, []⟩, ⟨0, x.nV4, []⟩, ⟨1, if x.bV5 then 1 else 0, []⟩, ⟨0, x.nV6, []⟩, ⟨2, 0, x.lV7⟩, ⟨2, 0, x.lV8⟩, ⟨2, 0, x.lV9⟩] = recLay [⟨0, y.nV0, []⟩, ⟨0, y.nV1, []⟩, ⟨2, 0, y.lV2⟩, ⟨1, if y.bV3 then 1 else 0, []⟩, ⟨0, y.nV4, []⟩, ⟨1, if y.bV5 then 1 else 0, []⟩, ⟨0, y.nV6, []⟩, ⟨2, 0, y.lV7⟩, ⟨2, 0, y.lV8⟩, ⟨2, 0, y.lV9⟩]) = sameV x y := by
  refine lay_same (okC (okN hx.nV0) (okC (okN hx.nV1) (okC (okD hx.dV2.2.1) (okC (okB x.bV3) (okC (okN hx.nV4) (okC (okB x.bV5) (okC (okN hx.nV6) (okC (okD hx.dV7.2.1) (okC (okD hx.dV8.2.1) (okC (okD hx.dV9.2.1) okZ)))))))))) (okC (okN hy.nV0) (okC (okN hy.nV1) (okC (okD hy.dV2.2.1) (okC (okB y.bV3) (okC (okN hy.nV4) (okC (okB y.bV5) (okC (okN hy.nV6) (okC (okD hy.dV7.2.1) (okC (okD hy.dV8.2.1) (okC (okD hy.dV9.2.1) okZ)))))))))) rfl ?_
  unfold sameV
  simp only [List.map_cons, List.map_nil, normN, normB, normD, List.cons.injEq, Fld.mk.injEq, true_and, and_true, Bool.and_eq_true, decide_eq_true_iff, beq_iff_eq, boolN]
  constructor <;> (intro h; simp [h])

set_option maxHeartbeats 4000000 in
theorem ap5 {w : World} {gx gy : Nat} (x y : Recs) (hx : x.At w) (hy : y.At w) (lx : lightB x = true) (ly : lightB y = true) (hgx : w.heap[gx]? = some (.cells x.cells 46 (0, 0))) (hgy : w.heap[gy]? = some (.cells y.cells 46 (0, 0))) (x0 x1 x4 x5 x6 x7 x8 x9 x10 x11 x12 x13 x14 x15 x16 x17 x18 x19 x20 x21 x22 x23 x24 x25 x26 x27 x28 x29 x30 x31 x32 x33 x34 x35 x36 x37 x38 x39 x40 x41 x42 x43 x44 x45 x46 x47 x48 x49 x50 x51 x52 x53 x54 x55 x56 x57 x58 x59 x60 x61 x62 x63 x64 x65 x66 x67 x68 x69 x70 x71 x72 x73 x74 x75 x76 x77 x78 x79 x80 x81 x82 x83 x84 x85 x86 x87 x88 x89 x90 x91 x92 x93 x94 x95 x96 x97 x98 x99 x100 x101 x102 x103 x104 x105 x106 x107 x108 x109 x110 x111 x112 x113 x114 x115 x116 x117 x118 x119 x120 x121 x122 x123 x124 x125 x126 x127 x128 x129 x130 x131 x132 x133 x134 x135 x136 x137 x138 x139 x140 x141 x142 x143 x144 x145 x146 x147 x148 x149 x150 x151 x152 x153 x154 x155 x156 x157 x158 x159 x160 x161 x162 x163 x164 x165 x166 x167 x168 x169 x170 x171 x172 x173 x174 x175 x176 x177 x178 x179 x180 x181 x182 x183 x184 x185 x186 x187 x188 x189 x190 x191 x192 x193 x194 x195 x196 x197 x198 x199 x200 x201 x202 x203 x204 x205 x206 x207 x208 x209 x210 x211 x212 x213 x214 x215 x216 x217 x218 x219 x220 x221 x222 x223 x224 x225 x226 x227 x228 x229 x230 x231 x232 x233 x234 x235 x236 x237 x238 x239 x240 x241 x242 x243 x244 x245 x246 x247 x248 x249 x250 x251 : Value) {K : Act → World → Prop} {Q : Exit → Act → World → Prop}
    (hK : ∀ (y18 y19 y20 y21 y22 y23 y24 y25 y26 y27 y28 y29 y30 y31 y32 y33 y34 y35 y36 y37 y38 y39 y40 y41 y42 y43 y44 y45 y46 y47 y48 y49 y50 y51 y52 y53 y54 y55 y56 y57 y58 y59 y60 y61 y62 y63 y64 y65 y66 y67 y68 y69 y70 y71 y72 y73 y74 y75 y76 : Value) (w' : World), Mods noB w w' → K ⟨#[x0, x1, .pointer (some ⟨gx, 0, none⟩), .pointer (some ⟨gy, 0, none⟩), x4, x5, x6, x7, x8, x9, x10, x11, x12, x13, x14, x15, x16, x17, y18, y19, y20, y21, y22, y23, y24, y25, y26, y27, y28, y29, y30, y31, y32, y33, y34, y35, y36, y37, y38, y39, y40, y41, y42, y43, y44, y45, y46, y47, y48, y49, y50, y51, y52, y53, y54, y55, y56, y57, y58, y59, y60, y61, y62, y63, y64, y65, y66, y67, y68, y69, y70, y71, y72, y73, y74, y75, y76, .bool false, x78, x79, x80, x81, x82, x83, x84, x85, x86, x87, x88, x89, x90, x91, x92, x93, x94, x95, x96, x97, x98, x99, x100, x101, x102, x103, x104, x105, x106, x107, x108, x109, x110, x111, x112, x113, x114, x115, x116, x117, x118, x119, x120, x121, x122, x123, x124, x125, x126, x127, x128, x129, x130, x131, x132, x133, x134, x135, x136, x137, x138, x139, x140, x141, x142, x143, x144, x145, x146, x147, x148, x149, x150, x151, x152, x153, x154, x155, x156, x157, x158, x159, x160, x161, x162, x163, x164, x165, x166, x167, x168, x169, x170, x171, x172, x173, x174, x175, x176, x177, x178, x179, x180, x181, x182, x183, x184, x185, x186, x187, x188, x189, x190, x191, x192, x193, x194, x195, x196, x197, x198, x199, x200, x201, x202, x203, x204, x205, x206, x207, x208, x209, x210, x211, x212, x213, x214, x215, x216, x217, x218, x219, x220, x221, x222, x223, x224, x225, x226, x227, x228, x229, x230, x231, x232, x233, x234, x235, x236, x237, x238, x239, x240, x241, x242, x243, x244, x245, x246, x247, x248, x249, x250, x251], []⟩ w') : Code.wp Try.prog (.region 5 (opsC 5 Try.f3) true) (Exit.then K Q) ⟨#[x0, x1, .pointer (some ⟨gx, 0, none⟩), .pointer (some ⟨gy, 0, none⟩), x4, x5, x6, x7, x8, x9, x10, x11, x12, x13, x14, x15, x16, x17, x18, x19, x20, x21, x22, x23, x24, x25, x26, x27, x28, x29, x30, x31, x32, x33, x34, x35, x36, x37, x38, x39, x40, x41, x42, x43, x44, x45, x46, x47, x48, x49, x50, x51, x52, x53, x54, x55, x56, x57, x58, x59, x60, x61, x62, x63, x64, x65, x66, x67, x68, x69, x70, x71, x72, x73, x74, x75, x76, x77, x78, x79, x80, x81, x82, x83, x84, x85, x86, x87, x88, x89, x90, x91, x92, x93, x94, x95, x96, x97, x98, x99, x100, x101, x102, x103, x104, x105, x106, x107, x108, x109, x110, x111, x112, x113, x114, x115, x116, x117, x118, x119, x120, x121, x122, x123, x124, x125, x126, x127, x128, x129, x130, x131, x132, x133, x134, x135, x136, x137, x138, x139, x140, x141, x142, x143, x144, x145, x146, x147, x148, x149, x150, x151, x152, x153, x154, x155, x156, x157, x158, x159, x160, x161, x162, x163, x164, x165, x166, x167, x168, x169, x170, x171, x172, x173, x174, x175, x176, x177, x178, x179, x180, x181, x182, x183, x184, x185, x186, x187, x188, x189, x190, x191, x192, x193, x194, x195, x196, x197, x198, x199, x200, x201, x202, x203, x204, x205, x206, x207, x208, x209, x210, x211, x212, x213, x214, x215, x216, x217, x218, x219, x220, x221, x222, x223, x224, x225, x226, x227, x228, x229, x230, x231, x232, x233, x234, x235, x236, x237, x238, x239, x240, x241, x242, x243, x244, x245, x246, x247, x248, x249, x250, x251], []⟩ w := by
  obtain ⟨bP, hbP⟩ : ∃ b, sameP x y = b := ⟨_, rfl⟩
  obtain ⟨bA, hbA⟩ : ∃ b, sameA x y = b := ⟨_, rfl⟩
  obtain ⟨bU, hbU⟩ : ∃ b, sameU x y = b := ⟨_, rfl⟩
  obtain ⟨bD, hbD⟩ : ∃ b, sameD x y = b := ⟨_, rfl⟩
  have hlP := (layP hx hy).trans hbP
  have hlA := (layA hx hy).trans hbA
  have hlU := (layU hx hy).trans hbU
  have hlD := (layD hx hy).trans hbD
  have hdD := hbD
  have hpP := hbP
  have hpA := hbA
  have hpU := hbU
  unfold sameD at hdD
  unfold sameP at hpP
  unfold sameA at hpA
  unfold sameU at hpU
  obtain ⟨nP0, nP1, nP2, nP3, nP4, nP5, nP6, nP7, nP8, nP9, nC0, nC1, uD0, lD0, nA0, nA1, nV0, nV1, uV2, lV2, bV3, nV4, bV5, nV6, uV7, lV7, uV8, lV8, uV9, lV9, uG0, lG0, nG1, uG2, lG2, uH0, lH0, nH1, nK0, nK1, nU0, nU1, nU2, nU3, nU4, nU5, nM0, nM1, nM2, nM3, nM4, nM5, uM6, lM6, nN0⟩ := x
  obtain ⟨mP0, mP1, mP2, mP3, mP4, mP5, mP6, mP7, mP8, mP9, mC0, mC1, vD0, kD0, mA0, mA1, mV0, mV1, vV2, kV2, pV3, mV4, pV5, mV6, vV7, kV7, vV8, kV8, vV9, kV9, vG0, kG0, mG1, vG2, kG2, vH0, kH0, mH1, mK0, mK1, mU0, mU1, mU2, mU3, mU4, mU5, mM0, mM1, mM2, mM3, mM4, mM5, vM6, kM6, mN0⟩ := y
  unfold Recs.cells at hgx hgy
  simp only at hgx hgy
  have hll := lx
  simp only [lightB, List.all_cons, List.all_nil, Bool.and_true, Bool.and_eq_true, decide_eq_true_eq] at hll
  have hmm := ly
  simp only [lightB, List.all_cons, List.all_nil, Bool.and_true, Bool.and_eq_true, decide_eq_true_eq] at hmm
  have HP0 := Lib.hid (fun (wy : World) (hm : Mods noB w wy) => params_put (w := wy) (n0 := nP0) (n1 := nP1) (n2 := nP2) (n3 := nP3) (n4 := nP4) (n5 := nP5) (n6 := nP6) (n7 := nP7) (n8 := nP8) (n9 := nP9) (limC hx.nP0 (limC hx.nP1 (limC hx.nP2 (limC hx.nP3 (limC hx.nP4 (limC hx.nP5 (limC hx.nP6 (limC hx.nP7 (limC hx.nP8 (limC hx.nP9 limN)))))))))) )
  have HP1 := Lib.hid (fun (wy : World) (hm : Mods noB w wy) => params_put (w := wy) (n0 := mP0) (n1 := mP1) (n2 := mP2) (n3 := mP3) (n4 := mP4) (n5 := mP5) (n6 := mP6) (n7 := mP7) (n8 := mP8) (n9 := mP9) (limC hy.nP0 (limC hy.nP1 (limC hy.nP2 (limC hy.nP3 (limC hy.nP4 (limC hy.nP5 (limC hy.nP6 (limC hy.nP7 (limC hy.nP8 (limC hy.nP9 limN)))))))))) )
  simp only at hlP
  have HA0 := Lib.hid (fun (wy : World) (hm : Mods noB w wy) => account_put (w := wy) (n0 := nA0) (n1 := nA1) (limC hx.nA0 (limC hx.nA1 limN)) )
  have HA1 := Lib.hid (fun (wy : World) (hm : Mods noB w wy) => account_put (w := wy) (n0 := mA0) (n1 := mA1) (limC hy.nA0 (limC hy.nA1 limN)) )
  simp only at hlA
  have HU0 := Lib.hid (fun (wy : World) (hm : Mods noB w wy) => unbonding_put (w := wy) (n0 := nU0) (n1 := nU1) (n2 := nU2) (n3 := nU3) (n4 := nU4) (n5 := nU5) (limC hx.nU0 (limC hx.nU1 (limC hx.nU2 (limC hx.nU3 (limC hx.nU4 (limC hx.nU5 limN)))))) )
  have HU1 := Lib.hid (fun (wy : World) (hm : Mods noB w wy) => unbonding_put (w := wy) (n0 := mU0) (n1 := mU1) (n2 := mU2) (n3 := mU3) (n4 := mU4) (n5 := mU5) (limC hy.nU0 (limC hy.nU1 (limC hy.nU2 (limC hy.nU3 (limC hy.nU4 (limC hy.nU5 limN)))))) )
  simp only at hlU
  have HD0 := Lib.hid (fun (wy : World) (hm : Mods noB w wy) => pool_put (w := wy)   (DN.keep (w := w) ⟨hx.dD0.1, hx.dD0.2.1, Nat.le_trans (hll.1) (by omega)⟩ hm))
  have HD1 := Lib.hid (fun (wy : World) (hm : Mods noB w wy) => pool_put (w := wy)   (DN.keep (w := w) ⟨hy.dD0.1, hy.dD0.2.1, Nat.le_trans (hmm.1) (by omega)⟩ hm))
  simp only at hlD
  have ND00 := Lib.hid (fun (wy : World) (hm : Mods noB w wy) => norm_any (RdM.keep (w := w) hx.dD0.1 hm (fun _ _ x => x)) hx.dD0.2.1 (Nat.le_trans (hll.1) (by omega)))
  have ND01 := Lib.hid (fun (wy : World) (hm : Mods noB w wy) => norm_any (RdM.keep (w := w) hy.dD0.1 hm (fun _ _ x => x)) hy.dD0.2.1 (Nat.le_trans (hmm.1) (by omega)))
  have HBP := Lib.hid (fun (wy : World) (p q : Value) (hp : Rd wy p (recLay [⟨0, nP0, []⟩, ⟨0, nP1, []⟩, ⟨0, nP2, []⟩, ⟨0, nP3, []⟩, ⟨0, nP4, []⟩, ⟨0, nP5, []⟩, ⟨0, nP6, []⟩, ⟨0, nP7, []⟩, ⟨0, nP8, []⟩, ⟨0, nP9, []⟩])) (hq : Rd wy q (recLay [⟨0, mP0, []⟩, ⟨0, mP1, []⟩, ⟨0, mP2, []⟩, ⟨0, mP3, []⟩, ⟨0, mP4, []⟩, ⟨0, mP5, []⟩, ⟨0, mP6, []⟩, ⟨0, mP7, []⟩, ⟨0, mP8, []⟩, ⟨0, mP9, []⟩])) => bytesC hlP hp hq)
  generalize recLay [⟨0, nP0, []⟩, ⟨0, nP1, []⟩, ⟨0, nP2, []⟩, ⟨0, nP3, []⟩, ⟨0, nP4, []⟩, ⟨0, nP5, []⟩, ⟨0, nP6, []⟩, ⟨0, nP7, []⟩, ⟨0, nP8, []⟩, ⟨0, nP9, []⟩] = zP0 at HP0 HBP
  generalize recLay [⟨0, mP0, []⟩, ⟨0, mP1, []⟩, ⟨0, mP2, []⟩, ⟨0, mP3, []⟩, ⟨0, mP4, []⟩, ⟨0, mP5, []⟩, ⟨0, mP6, []⟩, ⟨0, mP7, []⟩, ⟨0, mP8, []⟩, ⟨0, mP9, []⟩] = zP1 at HP1 HBP
  have HBA := Lib.hid (fun (wy : World) (p q : Value) (hp : Rd wy p (recLay [⟨0, nA0, []⟩, ⟨0, nA1, []⟩])) (hq : Rd wy q (recLay [⟨0, mA0, []⟩, ⟨0, mA1, []⟩])) => bytesC hlA hp hq)
  generalize recLay [⟨0, nA0, []⟩, ⟨0, nA1, []⟩] = zA0 at HA0 HBA
  generalize recLay [⟨0, mA0, []⟩, ⟨0, mA1, []⟩] = zA1 at HA1 HBA
  have HBU := Lib.hid (fun (wy : World) (p q : Value) (hp : Rd wy p (recLay [⟨0, nU0, []⟩, ⟨0, nU1, []⟩, ⟨0, nU2, []⟩, ⟨0, nU3, []⟩, ⟨0, nU4, []⟩, ⟨0, nU5, []⟩])) (hq : Rd wy q (recLay [⟨0, mU0, []⟩, ⟨0, mU1, []⟩, ⟨0, mU2, []⟩, ⟨0, mU3, []⟩, ⟨0, mU4, []⟩, ⟨0, mU5, []⟩])) => bytesC hlU hp hq)
  generalize recLay [⟨0, nU0, []⟩, ⟨0, nU1, []⟩, ⟨0, nU2, []⟩, ⟨0, nU3, []⟩, ⟨0, nU4, []⟩, ⟨0, nU5, []⟩] = zU0 at HU0 HBU
  generalize recLay [⟨0, mU0, []⟩, ⟨0, mU1, []⟩, ⟨0, mU2, []⟩, ⟨0, mU3, []⟩, ⟨0, mU4, []⟩, ⟨0, mU5, []⟩] = zU1 at HU1 HBU
  have HBD := Lib.hid (fun (wy : World) (p q : Value) (hp : Rd wy p (recLay [⟨2, 0, lD0⟩])) (hq : Rd wy q (recLay [⟨2, 0, kD0⟩])) => bytesC hlD hp hq)
  generalize recLay [⟨2, 0, lD0⟩] = zD0 at HD0 HBD
  generalize recLay [⟨2, 0, kD0⟩] = zD1 at HD1 HBD
  have HDD0 := Lib.hid (fun (wy : World) (p q : Value) (hp : RN wy p (normL lD0)) (hq : RN wy q (normL kD0)) => decC hdD hp hq)
  generalize normL lD0 = qD00 at ND00 HDD0
  generalize normL kD0 = qD01 at ND01 HDD0
  have EP := Lib.hid (fun (wb : World) => params_eql hpP wb)
  have EA := Lib.hid (fun (wb : World) => account_eql hpA wb)
  have EU := Lib.hid (fun (wb : World) => unbonding_eql hpU wb)
  have M := Lib.hid ((Mods.refl noB w).drew)
  have GX := Lib.hid hgx
  have GY := Lib.hid hgy
  have HQ := Lib.hid hK
  clear hx hy lx ly hll hmm hgx hgy hK hbP hlP hbA hlA hbU hlU hbD hlD hdD hpP hpA hpU
  refine wp_region_ordF [(0, true), (1, true), (3, true), (4, true), (7, true), (8, true), (9, true), (10, true), (11, true), (2, false), (5, false), (6, false), (12, true), (13, true), (14, true), (15, true), (17, true), (18, true), (21, true), (22, true), (23, true), (24, true), (25, true), (16, false), (19, false), (20, false), (26, true), (27, true), (28, true), (29, true), (30, true), (32, true), (33, true), (36, true), (37, true), (38, true), (39, true), (40, true), (31, false), (34, false), (35, false), (41, true), (42, true), (43, true), (44, true), (45, true), (47, true), (48, true), (51, true), (52, true), (54, true), (55, true), (46, false), (49, false), (50, false), (53, false), (56, false), (57, false), (58, true), (59, true)] [] (fun b => Mods noB w b) [(0, 4, 262144), (1, 262144, 524288), (2, 524288, 1048576), (0, 8, 2097152), (8, 2097152, 4194304), (20, 4194304, 8388608), (36, 9437184, 16777216), (0, 4, 33554432), (128, 33554432, 67108864), (0, 8, 134217728), (512, 134217728, 268435456), (1280, 335544320, 536870912), (2112, 553648128, 1073741824), (4160, 1073741824, 2147483648), (8192, 2147483652, 4294967296), (24576, 6442450944, 8589934592), (40960, 10737418240, 17179869184), (8192, 2147483656, 34359738368), (139264, 36507222016, 68719476736), (335872, 70866960384, 137438953472), (598016, 156766306304, 274877906944), (8192, 2147483652, 549755813888), (2105344, 551903297536, 1099511627776), (8192, 2147483656, 2199023255552), (8396800, 2201170739200, 4398046511104), (20979712, 5499705622528, 8796093022208), (34611200, 9073118412800, 17592186044416), (67117056, 17594333528064, 35184372088832), (135266304, 35184372088832, 70368744177664), (268435456, 70368744177668, 140737488355328), (805306368, 211106232532992, 281474976710656), (1342177280, 351843720888320, 562949953421312), (268435456, 70368744177672, 1125899906842624), (4563402752, 1196268651020288, 2251799813685248), (11005853696, 2322168557862912, 4503599627370496), (19595788288, 5136918324969472, 9007199254740992), (268435456, 70368744177668, 18014398509481984), (68987912192, 18084767253659648, 36028797018963968), (268435456, 70368744177672, 72057594037927936), (275146342400, 72127962782105600, 144115188075855872), (687463202816, 180214353838997504, 288230376151711744), (1134139801600, 297307944150630400, 576460752303423488), (2199291691008, 576531121047601152, 1152921504606846976), (4432406249472, 1152921504606846976, 2305843009213693952), (8796093022208, 2305843009213693956, 4611686018427387904), (26388279066624, 6917529027641081856, 9223372036854775808), (43980465111040, 11529215046068469760, 18446744073709551616), (8796093022208, 2305843009213693960, 36893488147419103232), (149533581377536, 39199331156632797184, 73786976294838206464), (360639813910528, 76092819304051900416, 147573952589676412928), (642114790621184, 168326539672599658496, 295147905179352825856), (8796093022208, 2305843009213693956, 590295810358705651712), (2260595906707456, 592601653367919345664, 1180591620717411303424), (5638295627235328, 1182897463726624997376, 2361183241434822606848), (8796093022208, 2305843009213693960, 4722366482869645213696), (18023194602504192, 4724672325878858907648, 9444732965739290427392), (45044792366727168, 9447038808748504121344, 18889465931478580854784), (81073589385691136, 21252955015922617155584, 37778931862957161709568), (145249884075720704, 38076385611145728229376, 75557863725914323419136), (288239172244733952, 75560169568923537113088, 151115727451828646838272)] (by kernel_rfl) (by kernel_rfl) (by kernel_rfl) (by kernel_rfl) (by kernel_rfl) M.out ?_
  refine wpOrdT_frees [0] [.pointer (some ⟨gx, 0, none⟩)] (rest := [(1, true), (3, true), (4, true), (7, true), (8, true), (9, true), (10, true), (11, true), (2, false), (5, false), (6, false), (12, true), (13, true), (14, true), (15, true), (17, true), (18, true), (21, true), (22, true), (23, true), (24, true), (25, true), (16, false), (19, false), (20, false), (26, true), (27, true), (28, true), (29, true), (30, true), (32, true), (33, true), (36, true), (37, true), (38, true), (39, true), (40, true), (31, false), (34, false), (35, false), (41, true), (42, true), (43, true), (44, true), (45, true), (47, true), (48, true), (51, true), (52, true), (54, true), (55, true), (46, false), (49, false), (50, false), (53, false), (56, false), (57, false), (58, true), (59, true)]) (by kernel_rfl) (by kernel_rfl) (fun _ => by kernel_rfl) ?_
  refine wpOrdT_load (.tmp 18) (some 19) ⟨by kernel_rfl, by kernel_rfl, by kernel_rfl⟩ (fun b hb => load_part (off := 0) [.int .u64 nP0, .int .u64 nP1, .int .u64 nP2, .int .u64 nP3, .int .u64 nP4, .int .u64 nP5, .int .u64 nP6, .int .u64 nP7, .int .u64 nP8, .int .u64 nP9] (blk_step hb GX.out) Try.underlying24 rfl (by kernel_rfl) (by kernel_rfl)) (by kernel_rfl) (by kernel_rfl) ?_
  refine wpOrdT_frees [3] [.pointer (some ⟨gy, 0, none⟩)] (rest := [(4, true), (7, true), (8, true), (9, true), (10, true), (11, true), (2, false), (5, false), (6, false), (12, true), (13, true), (14, true), (15, true), (17, true), (18, true), (21, true), (22, true), (23, true), (24, true), (25, true), (16, false), (19, false), (20, false), (26, true), (27, true), (28, true), (29, true), (30, true), (32, true), (33, true), (36, true), (37, true), (38, true), (39, true), (40, true), (31, false), (34, false), (35, false), (41, true), (42, true), (43, true), (44, true), (45, true), (47, true), (48, true), (51, true), (52, true), (54, true), (55, true), (46, false), (49, false), (50, false), (53, false), (56, false), (57, false), (58, true), (59, true)]) (by kernel_rfl) (by kernel_rfl) (fun _ => by kernel_rfl) ?_
  refine wpOrdT_load (.tmp 21) (some 22) ⟨by kernel_rfl, by kernel_rfl, by kernel_rfl⟩ (fun b hb => load_part (off := 0) [.int .u64 mP0, .int .u64 mP1, .int .u64 mP2, .int .u64 mP3, .int .u64 mP4, .int .u64 mP5, .int .u64 mP6, .int .u64 mP7, .int .u64 mP8, .int .u64 mP9] (blk_step hb GY.out) Try.underlying24 rfl (by kernel_rfl) (by kernel_rfl)) (by kernel_rfl) (by kernel_rfl) ?_
  refine wpOrdT_frees [7] [.pointer (some ⟨gx, 0, none⟩)] (rest := [(8, true), (9, true), (10, true), (11, true), (2, false), (5, false), (6, false), (12, true), (13, true), (14, true), (15, true), (17, true), (18, true), (21, true), (22, true), (23, true), (24, true), (25, true), (16, false), (19, false), (20, false), (26, true), (27, true), (28, true), (29, true), (30, true), (32, true), (33, true), (36, true), (37, true), (38, true), (39, true), (40, true), (31, false), (34, false), (35, false), (41, true), (42, true), (43, true), (44, true), (45, true), (47, true), (48, true), (51, true), (52, true), (54, true), (55, true), (46, false), (49, false), (50, false), (53, false), (56, false), (57, false), (58, true), (59, true)]) (by kernel_rfl) (by kernel_rfl) (fun _ => by kernel_rfl) ?_
  refine wpOrdT_load (.tmp 25) (some 26) ⟨by kernel_rfl, by kernel_rfl, by kernel_rfl⟩ (fun b hb => load_part (off := 0) [.int .u64 nP0, .int .u64 nP1, .int .u64 nP2, .int .u64 nP3, .int .u64 nP4, .int .u64 nP5, .int .u64 nP6, .int .u64 nP7, .int .u64 nP8, .int .u64 nP9] (blk_step hb GX.out) Try.underlying24 rfl (by kernel_rfl) (by kernel_rfl)) (by kernel_rfl) (by kernel_rfl) ?_
  refine wpOrdT_frees [9] [.pointer (some ⟨gy, 0, none⟩)] (rest := [(10, true), (11, true), (2, false), (5, false), (6, false), (12, true), (13, true), (14, true), (15, true), (17, true), (18, true), (21, true), (22, true), (23, true), (24, true), (25, true), (16, false), (19, false), (20, false), (26, true), (27, true), (28, true), (29, true), (30, true), (32, true), (33, true), (36, true), (37, true), (38, true), (39, true), (40, true), (31, false), (34, false), (35, false), (41, true), (42, true), (43, true), (44, true), (45, true), (47, true), (48, true), (51, true), (52, true), (54, true), (55, true), (46, false), (49, false), (50, false), (53, false), (56, false), (57, false), (58, true), (59, true)]) (by kernel_rfl) (by kernel_rfl) (fun _ => by kernel_rfl) ?_
  refine wpOrdT_load (.tmp 27) (some 28) ⟨by kernel_rfl, by kernel_rfl, by kernel_rfl⟩ (fun b hb => load_part (off := 0) [.int .u64 mP0, .int .u64 mP1, .int .u64 mP2, .int .u64 mP3, .int .u64 mP4, .int .u64 mP5, .int .u64 mP6, .int .u64 mP7, .int .u64 mP8, .int .u64 mP9] (blk_step hb GY.out) Try.underlying24 rfl (by kernel_rfl) (by kernel_rfl)) (by kernel_rfl) (by kernel_rfl) ?_
  refine wpOrdT_bin (xv := .agg #[.int .u64 nP0, .int .u64 nP1, .int .u64 nP2, .int .u64 nP3, .int .u64 nP4, .int .u64 nP5, .int .u64 nP6, .int .u64 nP7, .int .u64 nP8, .int .u64 nP9]) (yv := .agg #[.int .u64 mP0, .int .u64 mP1, .int .u64 mP2, .int .u64 mP3, .int .u64 mP4, .int .u64 mP5, .int .u64 mP6, .int .u64 mP7, .int .u64 mP8, .int .u64 mP9]) .eql 24 (.tmp 26) (.tmp 28) 24 (.bool bP) (some 29) ⟨by kernel_rfl, by kernel_rfl, by kernel_rfl⟩ (by kernel_rfl) (by kernel_rfl) (by kernel_rfl) (fun _ => by kernel_rfl) (EP.out) ?_
  refine wpOrdT_call (some 20) ⟨by kernel_rfl, by kernel_rfl, by kernel_rfl⟩ (HP0.out _ M.out) (fun _ => by kernel_rfl) ?_
  rintro r w2 ⟨v2, rfl, o1, m1, f1⟩
  have O2 := Lib.hid o1.rd
  replace M := Lib.hid (M.out.then0 m1)
  refine ⟨_, rfl, fun _ => M.out, ?_⟩
  clear o1 m1 f1
  refine wpOrdT_call (some 23) ⟨by kernel_rfl, by kernel_rfl, by kernel_rfl⟩ (HP1.out _ M.out) (fun _ => by kernel_rfl) ?_
  rintro r w5 ⟨v5, rfl, o1, m1, f1⟩
  have O5 := Lib.hid o1.rd
  replace O2 := Lib.hid (O2.out.keep m1 (fun _ _ x => x))
  replace M := Lib.hid (M.out.then0 m1)
  refine ⟨_, rfl, fun _ => M.out, ?_⟩
  clear o1 m1 f1
  refine wpOrdT_call (some 24) ⟨by kernel_rfl, by kernel_rfl, by kernel_rfl⟩ (HBP.out _ _ _ O2.out O5.out) (fun _ => by kernel_rfl) ?_
  rintro r w6 ⟨rfl, m1⟩
  clear O2 O5
  replace M := Lib.hid (M.out.then0 m1)
  refine ⟨_, rfl, fun _ => M.out, ?_⟩
  clear m1
  refine wpOrdT_bin (xv := .bool bP) (yv := .bool bP) .neq 4 (.tmp 24) (.tmp 29) 4 (.bool false) (some 30) ⟨by kernel_rfl, by kernel_rfl, by kernel_rfl⟩ (by kernel_rfl) (by kernel_rfl) (by kernel_rfl) (fun _ => by kernel_rfl) (neBl (x := bP) (y := bP) false (by simp)) ?_
  refine wpOrdT_frees [13, 14] [.bool false, .pointer (some ⟨gx, 13, none⟩)] (rest := [(15, true), (17, true), (18, true), (21, true), (22, true), (23, true), (24, true), (25, true), (16, false), (19, false), (20, false), (26, true), (27, true), (28, true), (29, true), (30, true), (32, true), (33, true), (36, true), (37, true), (38, true), (39, true), (40, true), (31, false), (34, false), (35, false), (41, true), (42, true), (43, true), (44, true), (45, true), (47, true), (48, true), (51, true), (52, true), (54, true), (55, true), (46, false), (49, false), (50, false), (53, false), (56, false), (57, false), (58, true), (59, true)]) (by kernel_rfl) (by kernel_rfl) (fun _ => by kernel_rfl) ?_
  refine wpOrdT_load (.tmp 32) (some 33) ⟨by kernel_rfl, by kernel_rfl, by kernel_rfl⟩ (fun b hb => load_part (off := 13) [.int .u64 nA0, .int .u64 nA1] (blk_step hb GX.out) Try.underlying32 rfl (by kernel_rfl) (by kernel_rfl)) (by kernel_rfl) (by kernel_rfl) ?_
  refine wpOrdT_frees [17] [.pointer (some ⟨gy, 13, none⟩)] (rest := [(18, true), (21, true), (22, true), (23, true), (24, true), (25, true), (16, false), (19, false), (20, false), (26, true), (27, true), (28, true), (29, true), (30, true), (32, true), (33, true), (36, true), (37, true), (38, true), (39, true), (40, true), (31, false), (34, false), (35, false), (41, true), (42, true), (43, true), (44, true), (45, true), (47, true), (48, true), (51, true), (52, true), (54, true), (55, true), (46, false), (49, false), (50, false), (53, false), (56, false), (57, false), (58, true), (59, true)]) (by kernel_rfl) (by kernel_rfl) (fun _ => by kernel_rfl) ?_
  refine wpOrdT_load (.tmp 35) (some 36) ⟨by kernel_rfl, by kernel_rfl, by kernel_rfl⟩ (fun b hb => load_part (off := 13) [.int .u64 mA0, .int .u64 mA1] (blk_step hb GY.out) Try.underlying32 rfl (by kernel_rfl) (by kernel_rfl)) (by kernel_rfl) (by kernel_rfl) ?_
  refine wpOrdT_frees [21] [.pointer (some ⟨gx, 13, none⟩)] (rest := [(22, true), (23, true), (24, true), (25, true), (16, false), (19, false), (20, false), (26, true), (27, true), (28, true), (29, true), (30, true), (32, true), (33, true), (36, true), (37, true), (38, true), (39, true), (40, true), (31, false), (34, false), (35, false), (41, true), (42, true), (43, true), (44, true), (45, true), (47, true), (48, true), (51, true), (52, true), (54, true), (55, true), (46, false), (49, false), (50, false), (53, false), (56, false), (57, false), (58, true), (59, true)]) (by kernel_rfl) (by kernel_rfl) (fun _ => by kernel_rfl) ?_
  refine wpOrdT_load (.tmp 39) (some 40) ⟨by kernel_rfl, by kernel_rfl, by kernel_rfl⟩ (fun b hb => load_part (off := 13) [.int .u64 nA0, .int .u64 nA1] (blk_step hb GX.out) Try.underlying32 rfl (by kernel_rfl) (by kernel_rfl)) (by kernel_rfl) (by kernel_rfl) ?_
  refine wpOrdT_frees [23] [.pointer (some ⟨gy, 13, none⟩)] (rest := [(24, true), (25, true), (16, false), (19, false), (20, false), (26, true), (27, true), (28, true), (29, true), (30, true), (32, true), (33, true), (36, true), (37, true), (38, true), (39, true), (40, true), (31, false), (34, false), (35, false), (41, true), (42, true), (43, true), (44, true), (45, true), (47, true), (48, true), (51, true), (52, true), (54, true), (55, true), (46, false), (49, false), (50, false), (53, false), (56, false), (57, false), (58, true), (59, true)]) (by kernel_rfl) (by kernel_rfl) (fun _ => by kernel_rfl) ?_
  refine wpOrdT_load (.tmp 41) (some 42) ⟨by kernel_rfl, by kernel_rfl, by kernel_rfl⟩ (fun b hb => load_part (off := 13) [.int .u64 mA0, .int .u64 mA1] (blk_step hb GY.out) Try.underlying32 rfl (by kernel_rfl) (by kernel_rfl)) (by kernel_rfl) (by kernel_rfl) ?_
  refine wpOrdT_bin (xv := .agg #[.int .u64 nA0, .int .u64 nA1]) (yv := .agg #[.int .u64 mA0, .int .u64 mA1]) .eql 32 (.tmp 40) (.tmp 42) 32 (.bool bA) (some 43) ⟨by kernel_rfl, by kernel_rfl, by kernel_rfl⟩ (by kernel_rfl) (by kernel_rfl) (by kernel_rfl) (fun _ => by kernel_rfl) (EA.out) ?_
  refine wpOrdT_call (some 34) ⟨by kernel_rfl, by kernel_rfl, by kernel_rfl⟩ (HA0.out _ M.out) (fun _ => by kernel_rfl) ?_
  rintro r w16 ⟨v16, rfl, o1, m1, f1⟩
  have O16 := Lib.hid o1.rd
  replace M := Lib.hid (M.out.then0 m1)
  refine ⟨_, rfl, fun _ => M.out, ?_⟩
  clear o1 m1 f1
  refine wpOrdT_call (some 37) ⟨by kernel_rfl, by kernel_rfl, by kernel_rfl⟩ (HA1.out _ M.out) (fun _ => by kernel_rfl) ?_
  rintro r w19 ⟨v19, rfl, o1, m1, f1⟩
  have O19 := Lib.hid o1.rd
  replace O16 := Lib.hid (O16.out.keep m1 (fun _ _ x => x))
  replace M := Lib.hid (M.out.then0 m1)
  refine ⟨_, rfl, fun _ => M.out, ?_⟩
  clear o1 m1 f1
  refine wpOrdT_call (some 38) ⟨by kernel_rfl, by kernel_rfl, by kernel_rfl⟩ (HBA.out _ _ _ O16.out O19.out) (fun _ => by kernel_rfl) ?_
  rintro r w20 ⟨rfl, m1⟩
  clear O16 O19
  replace M := Lib.hid (M.out.then0 m1)
  refine ⟨_, rfl, fun _ => M.out, ?_⟩
  clear m1
  refine wpOrdT_bin (xv := .bool bA) (yv := .bool bA) .neq 4 (.tmp 38) (.tmp 43) 4 (.bool false) (some 44) ⟨by kernel_rfl, by kernel_rfl, by kernel_rfl⟩ (by kernel_rfl) (by kernel_rfl) (by kernel_rfl) (fun _ => by kernel_rfl) (neBl (x := bA) (y := bA) false (by simp)) ?_
  refine wpOrdT_frees [27, 28, 29] [.bool false, .bool false, .pointer (some ⟨gx, 32, none⟩)] (rest := [(30, true), (32, true), (33, true), (36, true), (37, true), (38, true), (39, true), (40, true), (31, false), (34, false), (35, false), (41, true), (42, true), (43, true), (44, true), (45, true), (47, true), (48, true), (51, true), (52, true), (54, true), (55, true), (46, false), (49, false), (50, false), (53, false), (56, false), (57, false), (58, true), (59, true)]) (by kernel_rfl) (by kernel_rfl) (fun _ => by kernel_rfl) ?_
  refine wpOrdT_load (.tmp 47) (some 48) ⟨by kernel_rfl, by kernel_rfl, by kernel_rfl⟩ (fun b hb => load_part (off := 32) [.int .u64 nU0, .int .u64 nU1, .int .u64 nU2, .int .u64 nU3, .int .u64 nU4, .int .u64 nU5] (blk_step hb GX.out) Try.underlying42 rfl (by kernel_rfl) (by kernel_rfl)) (by kernel_rfl) (by kernel_rfl) ?_
  refine wpOrdT_frees [32] [.pointer (some ⟨gy, 32, none⟩)] (rest := [(33, true), (36, true), (37, true), (38, true), (39, true), (40, true), (31, false), (34, false), (35, false), (41, true), (42, true), (43, true), (44, true), (45, true), (47, true), (48, true), (51, true), (52, true), (54, true), (55, true), (46, false), (49, false), (50, false), (53, false), (56, false), (57, false), (58, true), (59, true)]) (by kernel_rfl) (by kernel_rfl) (fun _ => by kernel_rfl) ?_
  refine wpOrdT_load (.tmp 50) (some 51) ⟨by kernel_rfl, by kernel_rfl, by kernel_rfl⟩ (fun b hb => load_part (off := 32) [.int .u64 mU0, .int .u64 mU1, .int .u64 mU2, .int .u64 mU3, .int .u64 mU4, .int .u64 mU5] (blk_step hb GY.out) Try.underlying42 rfl (by kernel_rfl) (by kernel_rfl)) (by kernel_rfl) (by kernel_rfl) ?_
  refine wpOrdT_frees [36] [.pointer (some ⟨gx, 32, none⟩)] (rest := [(37, true), (38, true), (39, true), (40, true), (31, false), (34, false), (35, false), (41, true), (42, true), (43, true), (44, true), (45, true), (47, true), (48, true), (51, true), (52, true), (54, true), (55, true), (46, false), (49, false), (50, false), (53, false), (56, false), (57, false), (58, true), (59, true)]) (by kernel_rfl) (by kernel_rfl) (fun _ => by kernel_rfl) ?_
  refine wpOrdT_load (.tmp 54) (some 55) ⟨by kernel_rfl, by kernel_rfl, by kernel_rfl⟩ (fun b hb => load_part (off := 32) [.int .u64 nU0, .int .u64 nU1, .int .u64 nU2, .int .u64 nU3, .int .u64 nU4, .int .u64 nU5] (blk_step hb GX.out) Try.underlying42 rfl (by kernel_rfl) (by kernel_rfl)) (by kernel_rfl) (by kernel_rfl) ?_
  refine wpOrdT_frees [38] [.pointer (some ⟨gy, 32, none⟩)] (rest := [(39, true), (40, true), (31, false), (34, false), (35, false), (41, true), (42, true), (43, true), (44, true), (45, true), (47, true), (48, true), (51, true), (52, true), (54, true), (55, true), (46, false), (49, false), (50, false), (53, false), (56, false), (57, false), (58, true), (59, true)]) (by kernel_rfl) (by kernel_rfl) (fun _ => by kernel_rfl) ?_
  refine wpOrdT_load (.tmp 56) (some 57) ⟨by kernel_rfl, by kernel_rfl, by kernel_rfl⟩ (fun b hb => load_part (off := 32) [.int .u64 mU0, .int .u64 mU1, .int .u64 mU2, .int .u64 mU3, .int .u64 mU4, .int .u64 mU5] (blk_step hb GY.out) Try.underlying42 rfl (by kernel_rfl) (by kernel_rfl)) (by kernel_rfl) (by kernel_rfl) ?_
  refine wpOrdT_bin (xv := .agg #[.int .u64 nU0, .int .u64 nU1, .int .u64 nU2, .int .u64 nU3, .int .u64 nU4, .int .u64 nU5]) (yv := .agg #[.int .u64 mU0, .int .u64 mU1, .int .u64 mU2, .int .u64 mU3, .int .u64 mU4, .int .u64 mU5]) .eql 42 (.tmp 55) (.tmp 57) 42 (.bool bU) (some 58) ⟨by kernel_rfl, by kernel_rfl, by kernel_rfl⟩ (by kernel_rfl) (by kernel_rfl) (by kernel_rfl) (fun _ => by kernel_rfl) (EU.out) ?_
  refine wpOrdT_call (some 49) ⟨by kernel_rfl, by kernel_rfl, by kernel_rfl⟩ (HU0.out _ M.out) (fun _ => by kernel_rfl) ?_
  rintro r w31 ⟨v31, rfl, o1, m1, f1⟩
  have O31 := Lib.hid o1.rd
  replace M := Lib.hid (M.out.then0 m1)
  refine ⟨_, rfl, fun _ => M.out, ?_⟩
  clear o1 m1 f1
  refine wpOrdT_call (some 52) ⟨by kernel_rfl, by kernel_rfl, by kernel_rfl⟩ (HU1.out _ M.out) (fun _ => by kernel_rfl) ?_
  rintro r w34 ⟨v34, rfl, o1, m1, f1⟩
  have O34 := Lib.hid o1.rd
  replace O31 := Lib.hid (O31.out.keep m1 (fun _ _ x => x))
  replace M := Lib.hid (M.out.then0 m1)
  refine ⟨_, rfl, fun _ => M.out, ?_⟩
  clear o1 m1 f1
  refine wpOrdT_call (some 53) ⟨by kernel_rfl, by kernel_rfl, by kernel_rfl⟩ (HBU.out _ _ _ O31.out O34.out) (fun _ => by kernel_rfl) ?_
  rintro r w35 ⟨rfl, m1⟩
  clear O31 O34
  replace M := Lib.hid (M.out.then0 m1)
  refine ⟨_, rfl, fun _ => M.out, ?_⟩
  clear m1
  refine wpOrdT_bin (xv := .bool bU) (yv := .bool bU) .neq 4 (.tmp 53) (.tmp 58) 4 (.bool false) (some 59) ⟨by kernel_rfl, by kernel_rfl, by kernel_rfl⟩ (by kernel_rfl) (by kernel_rfl) (by kernel_rfl) (fun _ => by kernel_rfl) (neBl (x := bU) (y := bU) false (by simp)) ?_
  refine wpOrdT_frees [42, 43, 44] [.bool false, .bool false, .pointer (some ⟨gx, 12, none⟩)] (rest := [(45, true), (47, true), (48, true), (51, true), (52, true), (54, true), (55, true), (46, false), (49, false), (50, false), (53, false), (56, false), (57, false), (58, true), (59, true)]) (by kernel_rfl) (by kernel_rfl) (fun _ => by kernel_rfl) ?_
  refine wpOrdT_load (.tmp 62) (some 63) ⟨by kernel_rfl, by kernel_rfl, by kernel_rfl⟩ (fun b hb => load_part (off := 12) [uD0] (blk_step hb GX.out) Try.underlying30 rfl (by kernel_rfl) (by kernel_rfl)) (by kernel_rfl) (by kernel_rfl) ?_
  refine wpOrdT_frees [47] [.pointer (some ⟨gy, 12, none⟩)] (rest := [(48, true), (51, true), (52, true), (54, true), (55, true), (46, false), (49, false), (50, false), (53, false), (56, false), (57, false), (58, true), (59, true)]) (by kernel_rfl) (by kernel_rfl) (fun _ => by kernel_rfl) ?_
  refine wpOrdT_load (.tmp 65) (some 66) ⟨by kernel_rfl, by kernel_rfl, by kernel_rfl⟩ (fun b hb => load_part (off := 12) [vD0] (blk_step hb GY.out) Try.underlying30 rfl (by kernel_rfl) (by kernel_rfl)) (by kernel_rfl) (by kernel_rfl) ?_
  refine wpOrdT_frees [51] [.pointer (some ⟨gx, 12, none⟩)] (rest := [(52, true), (54, true), (55, true), (46, false), (49, false), (50, false), (53, false), (56, false), (57, false), (58, true), (59, true)]) (by kernel_rfl) (by kernel_rfl) (fun _ => by kernel_rfl) ?_
  refine wpOrdT_load (.tmp 69) (some 70) ⟨by kernel_rfl, by kernel_rfl, by kernel_rfl⟩ (fun b hb => load_part (off := 12) [uD0] (blk_step hb GX.out) Try.underlying30 rfl (by kernel_rfl) (by kernel_rfl)) (by kernel_rfl) (by kernel_rfl) ?_
  refine wpOrdT_frees [54] [.pointer (some ⟨gy, 12, none⟩)] (rest := [(55, true), (46, false), (49, false), (50, false), (53, false), (56, false), (57, false), (58, true), (59, true)]) (by kernel_rfl) (by kernel_rfl) (fun _ => by kernel_rfl) ?_
  refine wpOrdT_load (.tmp 72) (some 73) ⟨by kernel_rfl, by kernel_rfl, by kernel_rfl⟩ (fun b hb => load_part (off := 12) [vD0] (blk_step hb GY.out) Try.underlying30 rfl (by kernel_rfl) (by kernel_rfl)) (by kernel_rfl) (by kernel_rfl) ?_
  refine wpOrdT_call (some 64) ⟨by kernel_rfl, by kernel_rfl, by kernel_rfl⟩ (HD0.out _ M.out) (fun _ => by kernel_rfl) ?_
  rintro r w46 ⟨v46, rfl, o1, m1, f1⟩
  have O46 := Lib.hid o1.rd
  replace M := Lib.hid (M.out.then0 m1)
  refine ⟨_, rfl, fun _ => M.out, ?_⟩
  clear o1 m1 f1
  refine wpOrdT_call (some 67) ⟨by kernel_rfl, by kernel_rfl, by kernel_rfl⟩ (HD1.out _ M.out) (fun _ => by kernel_rfl) ?_
  rintro r w49 ⟨v49, rfl, o1, m1, f1⟩
  have O49 := Lib.hid o1.rd
  replace O46 := Lib.hid (O46.out.keep m1 (fun _ _ x => x))
  replace M := Lib.hid (M.out.then0 m1)
  refine ⟨_, rfl, fun _ => M.out, ?_⟩
  clear o1 m1 f1
  refine wpOrdT_call (some 68) ⟨by kernel_rfl, by kernel_rfl, by kernel_rfl⟩ (HBD.out _ _ _ O46.out O49.out) (fun _ => by kernel_rfl) ?_
  rintro r w50 ⟨rfl, m1⟩
  clear O46 O49
  replace M := Lib.hid (M.out.then0 m1)
  refine ⟨_, rfl, fun _ => M.out, ?_⟩
  clear m1
  refine wpOrdT_call (some 71) ⟨by kernel_rfl, by kernel_rfl, by kernel_rfl⟩ (ND00.out _ M.out) (fun _ => by kernel_rfl) ?_
  rintro r w53 ⟨v53, rfl, o1, m1, f1⟩
  have O53 := Lib.hid o1
  replace M := Lib.hid (M.out.then0 m1)
  refine ⟨_, rfl, fun _ => M.out, ?_⟩
  clear o1 m1 f1
  refine wpOrdT_call (some 74) ⟨by kernel_rfl, by kernel_rfl, by kernel_rfl⟩ (ND01.out _ M.out) (fun _ => by kernel_rfl) ?_
  rintro r w56 ⟨v56, rfl, o1, m1, f1⟩
  have O56 := Lib.hid o1
  replace O53 := Lib.hid (O53.out.keep m1 (fun _ _ x => x))
  replace M := Lib.hid (M.out.then0 m1)
  refine ⟨_, rfl, fun _ => M.out, ?_⟩
  clear o1 m1 f1
  refine wpOrdT_call (some 75) ⟨by kernel_rfl, by kernel_rfl, by kernel_rfl⟩ (HDD0.out _ _ _ O53.out O56.out) (fun _ => by kernel_rfl) ?_
  rintro r w57 ⟨rfl, m1⟩
  clear O53 O56
  replace M := Lib.hid (M.out.then0 m1)
  refine ⟨_, rfl, fun _ => M.out, ?_⟩
  clear m1
  refine wpOrdT_bin (xv := .bool bD) (yv := .bool bD) .neq 4 (.tmp 68) (.tmp 75) 4 (.bool false) (some 76) ⟨by kernel_rfl, by kernel_rfl, by kernel_rfl⟩ (by kernel_rfl) (by kernel_rfl) (by kernel_rfl) (fun _ => by kernel_rfl) (neBl (x := bD) (y := bD) false (by simp)) ?_
  refine wpOrdT_frees [59] [.bool false] (rest := []) (by kernel_rfl) (by kernel_rfl) (fun _ => by kernel_rfl) ?_
  refine wpOrdT_done (show K _ _ from ?_)
  exact act_is (by kernel_rfl) (HQ.out (.pointer (some ⟨gx, 0, none⟩)) (.agg #[.int .u64 nP0, .int .u64 nP1, .int .u64 nP2, .int .u64 nP3, .int .u64 nP4, .int .u64 nP5, .int .u64 nP6, .int .u64 nP7, .int .u64 nP8, .int .u64 nP9]) (v2) (.pointer (some ⟨gy, 0, none⟩)) (.agg #[.int .u64 mP0, .int .u64 mP1, .int .u64 mP2, .int .u64 mP3, .int .u64 mP4, .int .u64 mP5, .int .u64 mP6, .int .u64 mP7, .int .u64 mP8, .int .u64 mP9]) (v5) (.bool bP) (.pointer (some ⟨gx, 0, none⟩)) (.agg #[.int .u64 nP0, .int .u64 nP1, .int .u64 nP2, .int .u64 nP3, .int .u64 nP4, .int .u64 nP5, .int .u64 nP6, .int .u64 nP7, .int .u64 nP8, .int .u64 nP9]) (.pointer (some ⟨gy, 0, none⟩)) (.agg #[.int .u64 mP0, .int .u64 mP1, .int .u64 mP2, .int .u64 mP3, .int .u64 mP4, .int .u64 mP5, .int .u64 mP6, .int .u64 mP7, .int .u64 mP8, .int .u64 mP9]) (.bool bP) (.bool false) (.bool false) (.pointer (some ⟨gx, 13, none⟩)) (.agg #[.int .u64 nA0, .int .u64 nA1]) (v16) (.pointer (some ⟨gy, 13, none⟩)) (.agg #[.int .u64 mA0, .int .u64 mA1]) (v19) (.bool bA) (.pointer (some ⟨gx, 13, none⟩)) (.agg #[.int .u64 nA0, .int .u64 nA1]) (.pointer (some ⟨gy, 13, none⟩)) (.agg #[.int .u64 mA0, .int .u64 mA1]) (.bool bA) (.bool false) (.bool false) (.bool false) (.pointer (some ⟨gx, 32, none⟩)) (.agg #[.int .u64 nU0, .int .u64 nU1, .int .u64 nU2, .int .u64 nU3, .int .u64 nU4, .int .u64 nU5]) (v31) (.pointer (some ⟨gy, 32, none⟩)) (.agg #[.int .u64 mU0, .int .u64 mU1, .int .u64 mU2, .int .u64 mU3, .int .u64 mU4, .int .u64 mU5]) (v34) (.bool bU) (.pointer (some ⟨gx, 32, none⟩)) (.agg #[.int .u64 nU0, .int .u64 nU1, .int .u64 nU2, .int .u64 nU3, .int .u64 nU4, .int .u64 nU5]) (.pointer (some ⟨gy, 32, none⟩)) (.agg #[.int .u64 mU0, .int .u64 mU1, .int .u64 mU2, .int .u64 mU3, .int .u64 mU4, .int .u64 mU5]) (.bool bU) (.bool false) (.bool false) (.bool false) (.pointer (some ⟨gx, 12, none⟩)) (.agg #[uD0]) (v46) (.pointer (some ⟨gy, 12, none⟩)) (.agg #[vD0]) (v49) (.bool bD) (.pointer (some ⟨gx, 12, none⟩)) (.agg #[uD0]) (.agg #[v53]) (.pointer (some ⟨gy, 12, none⟩)) (.agg #[vD0]) (.agg #[v56]) (.bool bD) (.bool false) _ M.out)

set_option maxHeartbeats 4000000 in
theorem ap7 {w : World} {gx gy : Nat} (x y : Recs) (hx : x.At w) (hy : y.At w) (lx : lightB x = true) (ly : lightB y = true) (hgx : w.heap[gx]? = some (.cells x.cells 46 (0, 0))) (hgy : w.heap[gy]? = some (.cells y.cells 46 (0, 0))) (x0 x1 x4 x5 x6 x7 x8 x9 x10 x11 x12 x13 x14 x15 x16 x17 x18 x19 x20 x21 x22 x23 x24 x25 x26 x27 x28 x29 x30 x31 x32 x33 x34 x35 x36 x37 x38 x39 x40 x41 x42 x43 x44 x45 x46 x47 x48 x49 x50 x51 x52 x53 x54 x55 x56 x57 x58 x59 x60 x61 x62 x63 x64 x65 x66 x67 x68 x69 x70 x71 x72 x73 x74 x75 x76 x77 x78 x79 x80 x81 x82 x83 x84 x85 x86 x87 x88 x89 x90 x91 x92 x93 x94 x95 x96 x97 x98 x99 x100 x101 x102 x103 x104 x105 x106 x107 x108 x109 x110 x111 x112 x113 x114 x115 x116 x117 x118 x119 x120 x121 x122 x123 x124 x125 x126 x127 x128 x129 x130 x131 x132 x133 x134 x135 x136 x137 x138 x139 x140 x141 x142 x143 x144 x145 x146 x147 x148 x149 x150 x151 x152 x153 x154 x155 x156 x157 x158 x159 x160 x161 x162 x163 x164 x165 x166 x167 x168 x169 x170 x171 x172 x173 x174 x175 x176 x177 x178 x179 x180 x181 x182 x183 x184 x185 x186 x187 x188 x189 x190 x191 x192 x193 x194 x195 x196 x197 x198 x199 x200 x201 x202 x203 x204 x205 x206 x207 x208 x209 x210 x211 x212 x213 x214 x215 x216 x217 x218 x219 x220 x221 x222 x223 x224 x225 x226 x227 x228 x229 x230 x231 x232 x233 x234 x235 x236 x237 x238 x239 x240 x241 x242 x243 x244 x245 x246 x247 x248 x249 x250 x251 : Value) {K : Act → World → Prop} {Q : Exit → Act → World → Prop}
    (hK : ∀ (y78 y79 y80 y81 y82 y83 y84 y85 y86 y87 y88 y89 y90 y91 y92 y93 y94 y95 y96 y97 y98 y99 y100 y101 y102 y103 y104 y105 y106 : Value) (w' : World), Mods noB w w' → K ⟨#[x0, x1, .pointer (some ⟨gx, 0, none⟩), .pointer (some ⟨gy, 0, none⟩), x4, .bool (sameG x y), x6, x7, x8, x9, x10, x11, x12, x13, x14, x15, x16, x17, x18, x19, x20, x21, x22, x23, x24, x25, x26, x27, x28, x29, x30, x31, x32, x33, x34, x35, x36, x37, x38, x39, x40, x41, x42, x43, x44, x45, x46, x47, x48, x49, x50, x51, x52, x53, x54, x55, x56, x57, x58, x59, x60, x61, x62, x63, x64, x65, x66, x67, x68, x69, x70, x71, x72, x73, x74, x75, x76, x77, y78, y79, y80, y81, y82, y83, y84, y85, y86, y87, y88, y89, y90, y91, y92, y93, y94, y95, y96, y97, y98, y99, y100, y101, y102, y103, y104, y105, y106, x107, x108, x109, x110, x111, x112, x113, x114, x115, x116, x117, x118, x119, x120, x121, x122, x123, x124, x125, x126, x127, x128, x129, x130, x131, x132, x133, x134, x135, x136, x137, x138, x139, x140, x141, x142, x143, x144, x145, x146, x147, x148, x149, x150, x151, x152, x153, x154, x155, x156, x157, x158, x159, x160, x161, x162, x163, x164, x165, x166, x167, x168, x169, x170, x171, x172, x173, x174, x175, x176, x177, x178, x179, x180, x181, x182, x183, x184, x185, x186, x187, x188, x189, x190, x191, x192, x193, x194, x195, x196, x197, x198, x199, x200, x201, x202, x203, x204, x205, x206, x207, x208, x209, x210, x211, x212, x213, x214, x215, x216, x217, x218, x219, x220, x221, x222, x223, x224, x225, x226, x227, x228, x229, x230, x231, x232, x233, x234, x235, x236, x237, x238, x239, x240, x241, x242, x243, x244, x245, x246, x247, x248, x249, x250, x251], []⟩ w') : Code.wp Try.prog (.region 7 (opsC 7 Try.f3) true) (Exit.then K Q) ⟨#[x0, x1, .pointer (some ⟨gx, 0, none⟩), .pointer (some ⟨gy, 0, none⟩), x4, x5, x6, x7, x8, x9, x10, x11, x12, x13, x14, x15, x16, x17, x18, x19, x20, x21, x22, x23, x24, x25, x26, x27, x28, x29, x30, x31, x32, x33, x34, x35, x36, x37, x38, x39, x40, x41, x42, x43, x44, x45, x46, x47, x48, x49, x50, x51, x52, x53, x54, x55, x56, x57, x58, x59, x60, x61, x62, x63, x64, x65, x66, x67, x68, x69, x70, x71, x72, x73, x74, x75, x76, x77, x78, x79, x80, x81, x82, x83, x84, x85, x86, x87, x88, x89, x90, x91, x92, x93, x94, x95, x96, x97, x98, x99, x100, x101, x102, x103, x104, x105, x106, x107, x108, x109, x110, x111, x112, x113, x114, x115, x116, x117, x118, x119, x120, x121, x122, x123, x124, x125, x126, x127, x128, x129, x130, x131, x132, x133, x134, x135, x136, x137, x138, x139, x140, x141, x142, x143, x144, x145, x146, x147, x148, x149, x150, x151, x152, x153, x154, x155, x156, x157, x158, x159, x160, x161, x162, x163, x164, x165, x166, x167, x168, x169, x170, x171, x172, x173, x174, x175, x176, x177, x178, x179, x180, x181, x182, x183, x184, x185, x186, x187, x188, x189, x190, x191, x192, x193, x194, x195, x196, x197, x198, x199, x200, x201, x202, x203, x204, x205, x206, x207, x208, x209, x210, x211, x212, x213, x214, x215, x216, x217, x218, x219, x220, x221, x222, x223, x224, x225, x226, x227, x228, x229, x230, x231, x232, x233, x234, x235, x236, x237, x238, x239, x240, x241, x242, x243, x244, x245, x246, x247, x248, x249, x250, x251], []⟩ w := by
  obtain ⟨gB, hgB⟩ : ∃ b, sameG x y = b := ⟨_, rfl⟩
  rw [hgB] at hK
  obtain ⟨c0, hc0⟩ : ∃ b, (decide (normL x.lG0 = normL y.lG0)) = b := ⟨_, rfl⟩
  obtain ⟨c1, hc1⟩ : ∃ b, (decide (x.nG1 = y.nG1)) = b := ⟨_, rfl⟩
  obtain ⟨c2, hc2⟩ : ∃ b, (decide (normL x.lG2 = normL y.lG2)) = b := ⟨_, rfl⟩
  unfold sameG at hgB
  rw [hc0, hc1, hc2] at hgB
  obtain ⟨nP0, nP1, nP2, nP3, nP4, nP5, nP6, nP7, nP8, nP9, nC0, nC1, uD0, lD0, nA0, nA1, nV0, nV1, uV2, lV2, bV3, nV4, bV5, nV6, uV7, lV7, uV8, lV8, uV9, lV9, uG0, lG0, nG1, uG2, lG2, uH0, lH0, nH1, nK0, nK1, nU0, nU1, nU2, nU3, nU4, nU5, nM0, nM1, nM2, nM3, nM4, nM5, uM6, lM6, nN0⟩ := x
  obtain ⟨mP0, mP1, mP2, mP3, mP4, mP5, mP6, mP7, mP8, mP9, mC0, mC1, vD0, kD0, mA0, mA1, mV0, mV1, vV2, kV2, pV3, mV4, pV5, mV6, vV7, kV7, vV8, kV8, vV9, kV9, vG0, kG0, mG1, vG2, kG2, vH0, kH0, mH1, mK0, mK1, mU0, mU1, mU2, mU3, mU4, mU5, mM0, mM1, mM2, mM3, mM4, mM5, vM6, kM6, mN0⟩ := y
  unfold Recs.cells at hgx hgy
  simp only at hgx hgy
  have hll := lx
  simp only [lightB, List.all_cons, List.all_nil, Bool.and_true, Bool.and_eq_true, decide_eq_true_eq] at hll
  have hmm := ly
  simp only [lightB, List.all_cons, List.all_nil, Bool.and_true, Bool.and_eq_true, decide_eq_true_eq] at hmm
  have NG00 := Lib.hid (fun (wy : World) (hm : Mods noB w wy) => norm_any (RdM.keep (w := w) hx.dG0.1 hm (fun _ _ x => x)) hx.dG0.2.1 (Nat.le_trans (hll.2.2.2.2.2.1) (by omega)))
  have NG01 := Lib.hid (fun (wy : World) (hm : Mods noB w wy) => norm_any (RdM.keep (w := w) hy.dG0.1 hm (fun _ _ x => x)) hy.dG0.2.1 (Nat.le_trans (hmm.2.2.2.2.2.1) (by omega)))
  have NG20 := Lib.hid (fun (wy : World) (hm : Mods noB w wy) => norm_any (RdM.keep (w := w) hx.dG2.1 hm (fun _ _ x => x)) hx.dG2.2.1 (Nat.le_trans (hll.2.2.2.2.2.2.1) (by omega)))
  have NG21 := Lib.hid (fun (wy : World) (hm : Mods noB w wy) => norm_any (RdM.keep (w := w) hy.dG2.1 hm (fun _ _ x => x)) hy.dG2.2.1 (Nat.le_trans (hmm.2.2.2.2.2.2.1) (by omega)))
  have HDG0 := Lib.hid (fun (wy : World) (p q : Value) (hp : RN wy p (normL lG0)) (hq : RN wy q (normL kG0)) => decC hc0 hp hq)
  generalize normL lG0 = qG00 at NG00 HDG0
  generalize normL kG0 = qG01 at NG01 HDG0
  have HDG2 := Lib.hid (fun (wy : World) (p q : Value) (hp : RN wy p (normL lG2)) (hq : RN wy q (normL kG2)) => decC hc2 hp hq)
  generalize normL lG2 = qG20 at NG20 HDG2
  generalize normL kG2 = qG21 at NG21 HDG2
  have E1 := Lib.hid (fun (wb : World) => eqU c1 hc1 22 wb)
  have M := Lib.hid ((Mods.refl noB w).drew)
  have GX := Lib.hid hgx
  have GY := Lib.hid hgy
  have HQ := Lib.hid hK
  have HG := Lib.hid hgB
  clear hx hy lx ly hll hmm hgx hgy hK  hgB hc0 hc1 hc2
  refine wp_region_ordF [(0, true), (1, true), (2, true), (4, true), (5, true), (6, true), (3, false), (7, false), (8, false), (9, true), (10, true), (11, true), (12, true), (13, true), (14, true), (15, true), (16, true), (17, true), (18, true), (19, true), (20, true), (21, true), (23, true), (24, true), (25, true), (22, false), (26, false), (27, false), (28, true), (29, true)] [] (fun b => Mods noB w b) [(0, 4, 302231454903657293676544), (1, 302231454903657293676544, 604462909807314587353088), (2, 604462909807314587353088, 1208925819614629174706176), (4, 1208925819614629174706176, 2417851639229258349412352), (0, 8, 4835703278458516698824704), (16, 4835703278458516698824704, 9671406556917033397649408), (32, 9671406556917033397649408, 19342813113834066795298816), (72, 19342813113834066795298816, 38685626227668133590597632), (136, 41103477866897391940009984, 77371252455336267181195264), (256, 77371252455336267181195264, 154742504910672534362390528), (512, 154742504910672534362390532, 309485009821345068724781056), (1536, 464227514732017603087171584, 618970019642690137449562112), (2560, 773712524553362671811952640, 1237940039285380274899124224), (512, 154742504910672534362390536, 2475880078570760549798248448), (8704, 2630622583481433084160638976, 4951760157141521099596496896), (16896, 5106502662052193633958887424, 9903520314283042199192993792), (37376, 11296202858479095008454508544, 19807040628566084398385987584), (66048, 19961783133476756932748378112, 39614081257132168796771975168), (131584, 39614081257132168796771975168, 79228162514264337593543950336), (262144, 79228162514264337593543950340, 158456325028528675187087900672), (786432, 237684487542793012780631851008, 316912650057057350374175801344), (1310720, 396140812571321687967719751680, 633825300114114700748351602688), (2359296, 713053462628379038341895553024, 1267650600228229401496703205376), (262144, 79228162514264337593543950344, 2535301200456458802993406410752), (8650752, 2614529362970723140586950361088, 5070602400912917605986812821504), (17039360, 5149830563427181943580356771840, 10141204801825835211973625643008), (38010880, 10220432964340099549567169593344, 20282409603651670423947251286016), (71565312, 21629288366394164163037498441728, 40564819207303340847894502572032), (134479872, 40644047369817605185488046522368, 81129638414606681695789005144064), (536870911, 81129638414606681695789005144064, 32)] (by kernel_rfl) (by kernel_rfl) (by kernel_rfl) (by kernel_rfl) (by kernel_rfl) M.out ?_
  refine wpOrdT_frees [0, 1] [.pointer (some ⟨gx, 25, none⟩), .pointer (some ⟨gx, 25, none⟩)] (rest := [(2, true), (4, true), (5, true), (6, true), (3, false), (7, false), (8, false), (9, true), (10, true), (11, true), (12, true), (13, true), (14, true), (15, true), (16, true), (17, true), (18, true), (19, true), (20, true), (21, true), (23, true), (24, true), (25, true), (22, false), (26, false), (27, false), (28, true), (29, true)]) (by kernel_rfl) (by kernel_rfl) (fun _ => by kernel_rfl) ?_
  refine wpOrdT_load (.tmp 79) (some 80) ⟨by kernel_rfl, by kernel_rfl, by kernel_rfl⟩ (fun b hb => load_part (off := 25) [uG0] (blk_step hb GX.out) Try.underlying30 rfl (by kernel_rfl) (by kernel_rfl)) (by kernel_rfl) (by kernel_rfl) ?_
  refine wpOrdT_frees [4, 5] [.pointer (some ⟨gy, 25, none⟩), .pointer (some ⟨gy, 25, none⟩)] (rest := [(6, true), (3, false), (7, false), (8, false), (9, true), (10, true), (11, true), (12, true), (13, true), (14, true), (15, true), (16, true), (17, true), (18, true), (19, true), (20, true), (21, true), (23, true), (24, true), (25, true), (22, false), (26, false), (27, false), (28, true), (29, true)]) (by kernel_rfl) (by kernel_rfl) (fun _ => by kernel_rfl) ?_
  refine wpOrdT_load (.tmp 83) (some 84) ⟨by kernel_rfl, by kernel_rfl, by kernel_rfl⟩ (fun b hb => load_part (off := 25) [vG0] (blk_step hb GY.out) Try.underlying30 rfl (by kernel_rfl) (by kernel_rfl)) (by kernel_rfl) (by kernel_rfl) ?_
  refine wpOrdT_call (some 81) ⟨by kernel_rfl, by kernel_rfl, by kernel_rfl⟩ (NG00.out _ M.out) (fun _ => by kernel_rfl) ?_
  rintro r w3 ⟨v3, rfl, o1, m1, f1⟩
  have O3 := Lib.hid o1
  replace M := Lib.hid (M.out.then0 m1)
  refine ⟨_, rfl, fun _ => M.out, ?_⟩
  clear o1 m1 f1
  refine wpOrdT_call (some 85) ⟨by kernel_rfl, by kernel_rfl, by kernel_rfl⟩ (NG01.out _ M.out) (fun _ => by kernel_rfl) ?_
  rintro r w7 ⟨v7, rfl, o1, m1, f1⟩
  have O7 := Lib.hid o1
  replace O3 := Lib.hid (O3.out.keep m1 (fun _ _ x => x))
  replace M := Lib.hid (M.out.then0 m1)
  refine ⟨_, rfl, fun _ => M.out, ?_⟩
  clear o1 m1 f1
  refine wpOrdT_call (some 86) ⟨by kernel_rfl, by kernel_rfl, by kernel_rfl⟩ (HDG0.out _ _ _ O3.out O7.out) (fun _ => by kernel_rfl) ?_
  rintro r w8 ⟨rfl, m1⟩
  clear O3 O7
  replace M := Lib.hid (M.out.then0 m1)
  refine ⟨_, rfl, fun _ => M.out, ?_⟩
  clear m1
  refine wpOrdT_act ⟨#[x0, x1, .pointer (some ⟨gx, 0, none⟩), .pointer (some ⟨gy, 0, none⟩), x4, x5, x6, x7, x8, x9, x10, x11, x12, x13, x14, x15, x16, x17, x18, x19, x20, x21, x22, x23, x24, x25, x26, x27, x28, x29, x30, x31, x32, x33, x34, x35, x36, x37, x38, x39, x40, x41, x42, x43, x44, x45, x46, x47, x48, x49, x50, x51, x52, x53, x54, x55, x56, x57, x58, x59, x60, x61, x62, x63, x64, x65, x66, x67, x68, x69, x70, x71, x72, x73, x74, x75, x76, x77, .pointer (some ⟨gx, 25, none⟩), .pointer (some ⟨gx, 25, none⟩), .agg #[uG0], .agg #[v3], .pointer (some ⟨gy, 25, none⟩), .pointer (some ⟨gy, 25, none⟩), .agg #[vG0], .agg #[v7], .bool c0, x87, x88, x89, x90, x91, x92, x93, x94, x95, x96, x97, x98, x99, x100, x101, x102, x103, x104, x105, x106, x107, x108, x109, x110, x111, x112, x113, x114, x115, x116, x117, x118, x119, x120, x121, x122, x123, x124, x125, x126, x127, x128, x129, x130, x131, x132, x133, x134, x135, x136, x137, x138, x139, x140, x141, x142, x143, x144, x145, x146, x147, x148, x149, x150, x151, x152, x153, x154, x155, x156, x157, x158, x159, x160, x161, x162, x163, x164, x165, x166, x167, x168, x169, x170, x171, x172, x173, x174, x175, x176, x177, x178, x179, x180, x181, x182, x183, x184, x185, x186, x187, x188, x189, x190, x191, x192, x193, x194, x195, x196, x197, x198, x199, x200, x201, x202, x203, x204, x205, x206, x207, x208, x209, x210, x211, x212, x213, x214, x215, x216, x217, x218, x219, x220, x221, x222, x223, x224, x225, x226, x227, x228, x229, x230, x231, x232, x233, x234, x235, x236, x237, x238, x239, x240, x241, x242, x243, x244, x245, x246, x247, x248, x249, x250, x251], []⟩ (by kernel_rfl) ?_
  rcases c0 with _ | _
  · refine wpOrdT_frees [9, 10, 11, 12, 13, 14, 15, 16, 17, 18, 19, 20, 21, 23, 24, 25] [.bool false, undef, undef, undef, undef, undef, undef, undef, .bool false, .bool false, undef, undef, undef, undef, undef, undef] (rest := [(22, false), (26, false), (27, false), (28, true), (29, true)]) (by kernel_rfl) (by kernel_rfl) (fun _ => by kernel_rfl) ?_
    refine wpOrdT_notB (some 100) ⟨by kernel_rfl, by kernel_rfl, by kernel_rfl⟩ (fun _ => M.out) ?_
    refine wpOrdT_notB (some 104) ⟨by kernel_rfl, by kernel_rfl, by kernel_rfl⟩ (fun _ => M.out) ?_
    refine wpOrdT_notB (some 105) ⟨by kernel_rfl, by kernel_rfl, by kernel_rfl⟩ (fun _ => M.out) ?_
    refine wpOrdT_frees [28, 29] [.bool false, .bool false] (rest := []) (by kernel_rfl) (by kernel_rfl) (fun _ => by kernel_rfl) ?_
    obtain rfl : false = gB := by simpa using HG.out
    refine wpOrdT_done (show K _ _ from ?_)
    exact act_is (by kernel_rfl) (HQ.out (.pointer (some ⟨gx, 25, none⟩)) (.pointer (some ⟨gx, 25, none⟩)) (.agg #[uG0]) (.agg #[v3]) (.pointer (some ⟨gy, 25, none⟩)) (.pointer (some ⟨gy, 25, none⟩)) (.agg #[vG0]) (.agg #[v7]) (.bool false) (.bool false) undef undef undef undef undef undef undef (.bool false) (.bool false) undef undef undef undef undef undef undef undef undef (.bool false) _ M.out)
  · refine wpOrdT_frees [9, 10, 11] [.bool true, .pointer (some ⟨gx, 25, none⟩), .pointer (some ⟨gx, 26, none⟩)] (rest := [(12, true), (13, true), (14, true), (15, true), (16, true), (17, true), (18, true), (19, true), (20, true), (21, true), (23, true), (24, true), (25, true), (22, false), (26, false), (27, false), (28, true), (29, true)]) (by kernel_rfl) (by kernel_rfl) (fun _ => by kernel_rfl) ?_
    refine wpOrdT_load (.tmp 89) (some 90) ⟨by kernel_rfl, by kernel_rfl, by kernel_rfl⟩ (fun b hb => load_one (off := 26) (blk_step hb GX.out) Try.underlying22 rfl (v := .int .u64 nG1) (by kernel_rfl)) (by kernel_rfl) (by kernel_rfl) ?_
    refine wpOrdT_frees [13, 14] [.pointer (some ⟨gy, 25, none⟩), .pointer (some ⟨gy, 26, none⟩)] (rest := [(15, true), (16, true), (17, true), (18, true), (19, true), (20, true), (21, true), (23, true), (24, true), (25, true), (22, false), (26, false), (27, false), (28, true), (29, true)]) (by kernel_rfl) (by kernel_rfl) (fun _ => by kernel_rfl) ?_
    refine wpOrdT_load (.tmp 92) (some 93) ⟨by kernel_rfl, by kernel_rfl, by kernel_rfl⟩ (fun b hb => load_one (off := 26) (blk_step hb GY.out) Try.underlying22 rfl (v := .int .u64 mG1) (by kernel_rfl)) (by kernel_rfl) (by kernel_rfl) ?_
    refine wpOrdT_bin (xv := .int .u64 nG1) (yv := .int .u64 mG1) .eql 22 (.tmp 90) (.tmp 93) 22 (.bool c1) (some 94) ⟨by kernel_rfl, by kernel_rfl, by kernel_rfl⟩ (by kernel_rfl) (by kernel_rfl) (by kernel_rfl) (fun _ => by kernel_rfl) (E1.out) ?_
    refine wpOrdT_act ⟨#[x0, x1, .pointer (some ⟨gx, 0, none⟩), .pointer (some ⟨gy, 0, none⟩), x4, x5, x6, x7, x8, x9, x10, x11, x12, x13, x14, x15, x16, x17, x18, x19, x20, x21, x22, x23, x24, x25, x26, x27, x28, x29, x30, x31, x32, x33, x34, x35, x36, x37, x38, x39, x40, x41, x42, x43, x44, x45, x46, x47, x48, x49, x50, x51, x52, x53, x54, x55, x56, x57, x58, x59, x60, x61, x62, x63, x64, x65, x66, x67, x68, x69, x70, x71, x72, x73, x74, x75, x76, x77, .pointer (some ⟨gx, 25, none⟩), .pointer (some ⟨gx, 25, none⟩), .agg #[uG0], .agg #[v3], .pointer (some ⟨gy, 25, none⟩), .pointer (some ⟨gy, 25, none⟩), .agg #[vG0], .agg #[v7], .bool true, .bool true, .pointer (some ⟨gx, 25, none⟩), .pointer (some ⟨gx, 26, none⟩), .int .u64 nG1, .pointer (some ⟨gy, 25, none⟩), .pointer (some ⟨gy, 26, none⟩), .int .u64 mG1, .bool c1, x95, x96, x97, x98, x99, x100, x101, x102, x103, x104, x105, x106, x107, x108, x109, x110, x111, x112, x113, x114, x115, x116, x117, x118, x119, x120, x121, x122, x123, x124, x125, x126, x127, x128, x129, x130, x131, x132, x133, x134, x135, x136, x137, x138, x139, x140, x141, x142, x143, x144, x145, x146, x147, x148, x149, x150, x151, x152, x153, x154, x155, x156, x157, x158, x159, x160, x161, x162, x163, x164, x165, x166, x167, x168, x169, x170, x171, x172, x173, x174, x175, x176, x177, x178, x179, x180, x181, x182, x183, x184, x185, x186, x187, x188, x189, x190, x191, x192, x193, x194, x195, x196, x197, x198, x199, x200, x201, x202, x203, x204, x205, x206, x207, x208, x209, x210, x211, x212, x213, x214, x215, x216, x217, x218, x219, x220, x221, x222, x223, x224, x225, x226, x227, x228, x229, x230, x231, x232, x233, x234, x235, x236, x237, x238, x239, x240, x241, x242, x243, x244, x245, x246, x247, x248, x249, x250, x251], []⟩ (by kernel_rfl) ?_
    rcases c1 with _ | _
    · refine wpOrdT_frees [17, 18, 19, 20, 21, 23, 24, 25] [.bool false, .bool false, undef, undef, undef, undef, undef, undef] (rest := [(22, false), (26, false), (27, false), (28, true), (29, true)]) (by kernel_rfl) (by kernel_rfl) (fun _ => by kernel_rfl) ?_
      refine wpOrdT_notB (some 100) ⟨by kernel_rfl, by kernel_rfl, by kernel_rfl⟩ (fun _ => M.out) ?_
      refine wpOrdT_notB (some 104) ⟨by kernel_rfl, by kernel_rfl, by kernel_rfl⟩ (fun _ => M.out) ?_
      refine wpOrdT_notB (some 105) ⟨by kernel_rfl, by kernel_rfl, by kernel_rfl⟩ (fun _ => M.out) ?_
      refine wpOrdT_frees [28, 29] [.bool false, .bool false] (rest := []) (by kernel_rfl) (by kernel_rfl) (fun _ => by kernel_rfl) ?_
      obtain rfl : false = gB := by simpa using HG.out
      refine wpOrdT_done (show K _ _ from ?_)
      exact act_is (by kernel_rfl) (HQ.out (.pointer (some ⟨gx, 25, none⟩)) (.pointer (some ⟨gx, 25, none⟩)) (.agg #[uG0]) (.agg #[v3]) (.pointer (some ⟨gy, 25, none⟩)) (.pointer (some ⟨gy, 25, none⟩)) (.agg #[vG0]) (.agg #[v7]) (.bool true) (.bool true) (.pointer (some ⟨gx, 25, none⟩)) (.pointer (some ⟨gx, 26, none⟩)) (.int .u64 nG1) (.pointer (some ⟨gy, 25, none⟩)) (.pointer (some ⟨gy, 26, none⟩)) (.int .u64 mG1) (.bool false) (.bool false) (.bool false) undef undef undef undef undef undef undef undef undef (.bool false) _ M.out)
    · refine wpOrdT_frees [17, 18, 19, 20] [.bool true, .bool true, .pointer (some ⟨gx, 25, none⟩), .pointer (some ⟨gx, 27, none⟩)] (rest := [(21, true), (23, true), (24, true), (25, true), (22, false), (26, false), (27, false), (28, true), (29, true)]) (by kernel_rfl) (by kernel_rfl) (fun _ => by kernel_rfl) ?_
      refine wpOrdT_load (.tmp 98) (some 99) ⟨by kernel_rfl, by kernel_rfl, by kernel_rfl⟩ (fun b hb => load_part (off := 27) [uG2] (blk_step hb GX.out) Try.underlying30 rfl (by kernel_rfl) (by kernel_rfl)) (by kernel_rfl) (by kernel_rfl) ?_
      refine wpOrdT_frees [23, 24] [.pointer (some ⟨gy, 25, none⟩), .pointer (some ⟨gy, 27, none⟩)] (rest := [(25, true), (22, false), (26, false), (27, false), (28, true), (29, true)]) (by kernel_rfl) (by kernel_rfl) (fun _ => by kernel_rfl) ?_
      refine wpOrdT_load (.tmp 102) (some 103) ⟨by kernel_rfl, by kernel_rfl, by kernel_rfl⟩ (fun b hb => load_part (off := 27) [vG2] (blk_step hb GY.out) Try.underlying30 rfl (by kernel_rfl) (by kernel_rfl)) (by kernel_rfl) (by kernel_rfl) ?_
      refine wpOrdT_call (some 100) ⟨by kernel_rfl, by kernel_rfl, by kernel_rfl⟩ (NG20.out _ M.out) (fun _ => by kernel_rfl) ?_
      rintro r w22 ⟨v22, rfl, o1, m1, f1⟩
      have O22 := Lib.hid o1
      replace M := Lib.hid (M.out.then0 m1)
      refine ⟨_, rfl, fun _ => M.out, ?_⟩
      clear o1 m1 f1
      refine wpOrdT_call (some 104) ⟨by kernel_rfl, by kernel_rfl, by kernel_rfl⟩ (NG21.out _ M.out) (fun _ => by kernel_rfl) ?_
      rintro r w26 ⟨v26, rfl, o1, m1, f1⟩
      have O26 := Lib.hid o1
      replace O22 := Lib.hid (O22.out.keep m1 (fun _ _ x => x))
      replace M := Lib.hid (M.out.then0 m1)
      refine ⟨_, rfl, fun _ => M.out, ?_⟩
      clear o1 m1 f1
      refine wpOrdT_call (some 105) ⟨by kernel_rfl, by kernel_rfl, by kernel_rfl⟩ (HDG2.out _ _ _ O22.out O26.out) (fun _ => by kernel_rfl) ?_
      rintro r w27 ⟨rfl, m1⟩
      clear O22 O26
      replace M := Lib.hid (M.out.then0 m1)
      refine ⟨_, rfl, fun _ => M.out, ?_⟩
      clear m1
      refine wpOrdT_act ⟨#[x0, x1, .pointer (some ⟨gx, 0, none⟩), .pointer (some ⟨gy, 0, none⟩), x4, x5, x6, x7, x8, x9, x10, x11, x12, x13, x14, x15, x16, x17, x18, x19, x20, x21, x22, x23, x24, x25, x26, x27, x28, x29, x30, x31, x32, x33, x34, x35, x36, x37, x38, x39, x40, x41, x42, x43, x44, x45, x46, x47, x48, x49, x50, x51, x52, x53, x54, x55, x56, x57, x58, x59, x60, x61, x62, x63, x64, x65, x66, x67, x68, x69, x70, x71, x72, x73, x74, x75, x76, x77, .pointer (some ⟨gx, 25, none⟩), .pointer (some ⟨gx, 25, none⟩), .agg #[uG0], .agg #[v3], .pointer (some ⟨gy, 25, none⟩), .pointer (some ⟨gy, 25, none⟩), .agg #[vG0], .agg #[v7], .bool true, .bool true, .pointer (some ⟨gx, 25, none⟩), .pointer (some ⟨gx, 26, none⟩), .int .u64 nG1, .pointer (some ⟨gy, 25, none⟩), .pointer (some ⟨gy, 26, none⟩), .int .u64 mG1, .bool true, .bool true, .bool true, .pointer (some ⟨gx, 25, none⟩), .pointer (some ⟨gx, 27, none⟩), .agg #[uG2], .agg #[v22], .pointer (some ⟨gy, 25, none⟩), .pointer (some ⟨gy, 27, none⟩), .agg #[vG2], .agg #[v26], .bool c2, x106, x107, x108, x109, x110, x111, x112, x113, x114, x115, x116, x117, x118, x119, x120, x121, x122, x123, x124, x125, x126, x127, x128, x129, x130, x131, x132, x133, x134, x135, x136, x137, x138, x139, x140, x141, x142, x143, x144, x145, x146, x147, x148, x149, x150, x151, x152, x153, x154, x155, x156, x157, x158, x159, x160, x161, x162, x163, x164, x165, x166, x167, x168, x169, x170, x171, x172, x173, x174, x175, x176, x177, x178, x179, x180, x181, x182, x183, x184, x185, x186, x187, x188, x189, x190, x191, x192, x193, x194, x195, x196, x197, x198, x199, x200, x201, x202, x203, x204, x205, x206, x207, x208, x209, x210, x211, x212, x213, x214, x215, x216, x217, x218, x219, x220, x221, x222, x223, x224, x225, x226, x227, x228, x229, x230, x231, x232, x233, x234, x235, x236, x237, x238, x239, x240, x241, x242, x243, x244, x245, x246, x247, x248, x249, x250, x251], []⟩ (by kernel_rfl) ?_
      rcases c2 with _ | _
      · refine wpOrdT_frees [28, 29] [.bool false, .bool false] (rest := []) (by kernel_rfl) (by kernel_rfl) (fun _ => by kernel_rfl) ?_
        obtain rfl : false = gB := by simpa using HG.out
        refine wpOrdT_done (show K _ _ from ?_)
        exact act_is (by kernel_rfl) (HQ.out (.pointer (some ⟨gx, 25, none⟩)) (.pointer (some ⟨gx, 25, none⟩)) (.agg #[uG0]) (.agg #[v3]) (.pointer (some ⟨gy, 25, none⟩)) (.pointer (some ⟨gy, 25, none⟩)) (.agg #[vG0]) (.agg #[v7]) (.bool true) (.bool true) (.pointer (some ⟨gx, 25, none⟩)) (.pointer (some ⟨gx, 26, none⟩)) (.int .u64 nG1) (.pointer (some ⟨gy, 25, none⟩)) (.pointer (some ⟨gy, 26, none⟩)) (.int .u64 mG1) (.bool true) (.bool true) (.bool true) (.pointer (some ⟨gx, 25, none⟩)) (.pointer (some ⟨gx, 27, none⟩)) (.agg #[uG2]) (.agg #[v22]) (.pointer (some ⟨gy, 25, none⟩)) (.pointer (some ⟨gy, 27, none⟩)) (.agg #[vG2]) (.agg #[v26]) (.bool false) (.bool false) _ M.out)
      · refine wpOrdT_frees [28, 29] [.bool true, .bool true] (rest := []) (by kernel_rfl) (by kernel_rfl) (fun _ => by kernel_rfl) ?_
        obtain rfl : true = gB := by simpa using HG.out
        refine wpOrdT_done (show K _ _ from ?_)
        exact act_is (by kernel_rfl) (HQ.out (.pointer (some ⟨gx, 25, none⟩)) (.pointer (some ⟨gx, 25, none⟩)) (.agg #[uG0]) (.agg #[v3]) (.pointer (some ⟨gy, 25, none⟩)) (.pointer (some ⟨gy, 25, none⟩)) (.agg #[vG0]) (.agg #[v7]) (.bool true) (.bool true) (.pointer (some ⟨gx, 25, none⟩)) (.pointer (some ⟨gx, 26, none⟩)) (.int .u64 nG1) (.pointer (some ⟨gy, 25, none⟩)) (.pointer (some ⟨gy, 26, none⟩)) (.int .u64 mG1) (.bool true) (.bool true) (.bool true) (.pointer (some ⟨gx, 25, none⟩)) (.pointer (some ⟨gx, 27, none⟩)) (.agg #[uG2]) (.agg #[v22]) (.pointer (some ⟨gy, 25, none⟩)) (.pointer (some ⟨gy, 27, none⟩)) (.agg #[vG2]) (.agg #[v26]) (.bool true) (.bool true) _ M.out)

set_option maxHeartbeats 4000000 in
theorem ap8 {w : World} {gx gy : Nat} (x y : Recs) (hx : x.At w) (hy : y.At w) (lx : lightB x = true) (ly : lightB y = true) (hgx : w.heap[gx]? = some (.cells x.cells 46 (0, 0))) (hgy : w.heap[gy]? = some (.cells y.cells 46 (0, 0))) (x0 x1 x4 x5 x6 x7 x8 x9 x10 x11 x12 x13 x14 x15 x16 x17 x18 x19 x20 x21 x22 x23 x24 x25 x26 x27 x28 x29 x30 x31 x32 x33 x34 x35 x36 x37 x38 x39 x40 x41 x42 x43 x44 x45 x46 x47 x48 x49 x50 x51 x52 x53 x54 x55 x56 x57 x58 x59 x60 x61 x62 x63 x64 x65 x66 x67 x68 x69 x70 x71 x72 x73 x74 x75 x76 x77 x78 x79 x80 x81 x82 x83 x84 x85 x86 x87 x88 x89 x90 x91 x92 x93 x94 x95 x96 x97 x98 x99 x100 x101 x102 x103 x104 x105 x106 x107 x108 x109 x110 x111 x112 x113 x114 x115 x116 x117 x118 x119 x120 x121 x122 x123 x124 x125 x126 x127 x128 x129 x130 x131 x132 x133 x134 x135 x136 x137 x138 x139 x140 x141 x142 x143 x144 x145 x146 x147 x148 x149 x150 x151 x152 x153 x154 x155 x156 x157 x158 x159 x160 x161 x162 x163 x164 x165 x166 x167 x168 x169 x170 x171 x172 x173 x174 x175 x176 x177 x178 x179 x180 x181 x182 x183 x184 x185 x186 x187 x188 x189 x190 x191 x192 x193 x194 x195 x196 x197 x198 x199 x200 x201 x202 x203 x204 x205 x206 x207 x208 x209 x210 x211 x212 x213 x214 x215 x216 x217 x218 x219 x220 x221 x222 x223 x224 x225 x226 x227 x228 x229 x230 x231 x232 x233 x234 x235 x236 x237 x238 x239 x240 x241 x242 x243 x244 x245 x246 x247 x248 x249 x250 x251 : Value) {K : Act → World → Prop} {Q : Exit → Act → World → Prop}
    (hK : ∀ (y107 y108 y109 y110 y111 y112 y113 y114 y115 y116 y117 y118 y119 y120 y121 y122 y123 y124 : Value) (w' : World), Mods noB w w' → K ⟨#[x0, x1, .pointer (some ⟨gx, 0, none⟩), .pointer (some ⟨gy, 0, none⟩), x4, x5, .bool (sameH x y), x7, x8, x9, x10, x11, x12, x13, x14, x15, x16, x17, x18, x19, x20, x21, x22, x23, x24, x25, x26, x27, x28, x29, x30, x31, x32, x33, x34, x35, x36, x37, x38, x39, x40, x41, x42, x43, x44, x45, x46, x47, x48, x49, x50, x51, x52, x53, x54, x55, x56, x57, x58, x59, x60, x61, x62, x63, x64, x65, x66, x67, x68, x69, x70, x71, x72, x73, x74, x75, x76, x77, x78, x79, x80, x81, x82, x83, x84, x85, x86, x87, x88, x89, x90, x91, x92, x93, x94, x95, x96, x97, x98, x99, x100, x101, x102, x103, x104, x105, x106, y107, y108, y109, y110, y111, y112, y113, y114, y115, y116, y117, y118, y119, y120, y121, y122, y123, y124, x125, x126, x127, x128, x129, x130, x131, x132, x133, x134, x135, x136, x137, x138, x139, x140, x141, x142, x143, x144, x145, x146, x147, x148, x149, x150, x151, x152, x153, x154, x155, x156, x157, x158, x159, x160, x161, x162, x163, x164, x165, x166, x167, x168, x169, x170, x171, x172, x173, x174, x175, x176, x177, x178, x179, x180, x181, x182, x183, x184, x185, x186, x187, x188, x189, x190, x191, x192, x193, x194, x195, x196, x197, x198, x199, x200, x201, x202, x203, x204, x205, x206, x207, x208, x209, x210, x211, x212, x213, x214, x215, x216, x217, x218, x219, x220, x221, x222, x223, x224, x225, x226, x227, x228, x229, x230, x231, x232, x233, x234, x235, x236, x237, x238, x239, x240, x241, x242, x243, x244, x245, x246, x247, x248, x249, x250, x251], []⟩ w') : Code.wp Try.prog (.region 8 (opsC 8 Try.f3) true) (Exit.then K Q) ⟨#[x0, x1, .pointer (some ⟨gx, 0, none⟩), .pointer (some ⟨gy, 0, none⟩), x4, x5, x6, x7, x8, x9, x10, x11, x12, x13, x14, x15, x16, x17, x18, x19, x20, x21, x22, x23, x24, x25, x26, x27, x28, x29, x30, x31, x32, x33, x34, x35, x36, x37, x38, x39, x40, x41, x42, x43, x44, x45, x46, x47, x48, x49, x50, x51, x52, x53, x54, x55, x56, x57, x58, x59, x60, x61, x62, x63, x64, x65, x66, x67, x68, x69, x70, x71, x72, x73, x74, x75, x76, x77, x78, x79, x80, x81, x82, x83, x84, x85, x86, x87, x88, x89, x90, x91, x92, x93, x94, x95, x96, x97, x98, x99, x100, x101, x102, x103, x104, x105, x106, x107, x108, x109, x110, x111, x112, x113, x114, x115, x116, x117, x118, x119, x120, x121, x122, x123, x124, x125, x126, x127, x128, x129, x130, x131, x132, x133, x134, x135, x136, x137, x138, x139, x140, x141, x142, x143, x144, x145, x146, x147, x148, x149, x150, x151, x152, x153, x154, x155, x156, x157, x158, x159, x160, x161, x162, x163, x164, x165, x166, x167, x168, x169, x170, x171, x172, x173, x174, x175, x176, x177, x178, x179, x180, x181, x182, x183, x184, x185, x186, x187, x188, x189, x190, x191, x192, x193, x194, x195, x196, x197, x198, x199, x200, x201, x202, x203, x204, x205, x206, x207, x208, x209, x210, x211, x212, x213, x214, x215, x216, x217, x218, x219, x220, x221, x222, x223, x224, x225, x226, x227, x228, x229, x230, x231, x232, x233, x234, x235, x236, x237, x238, x239, x240, x241, x242, x243, x244, x245, x246, x247, x248, x249, x250, x251], []⟩ w := by
  obtain ⟨gB, hgB⟩ : ∃ b, sameH x y = b := ⟨_, rfl⟩
  rw [hgB] at hK
  obtain ⟨c0, hc0⟩ : ∃ b, (decide (normL x.lH0 = normL y.lH0)) = b := ⟨_, rfl⟩
  obtain ⟨c1, hc1⟩ : ∃ b, (decide (x.nH1 = y.nH1)) = b := ⟨_, rfl⟩
  unfold sameH at hgB
  rw [hc0, hc1] at hgB
  obtain ⟨nP0, nP1, nP2, nP3, nP4, nP5, nP6, nP7, nP8, nP9, nC0, nC1, uD0, lD0, nA0, nA1, nV0, nV1, uV2, lV2, bV3, nV4, bV5, nV6, uV7, lV7, uV8, lV8, uV9, lV9, uG0, lG0, nG1, uG2, lG2, uH0, lH0, nH1, nK0, nK1, nU0, nU1, nU2, nU3, nU4, nU5, nM0, nM1, nM2, nM3, nM4, nM5, uM6, lM6, nN0⟩ := x
  obtain ⟨mP0, mP1, mP2, mP3, mP4, mP5, mP6, mP7, mP8, mP9, mC0, mC1, vD0, kD0, mA0, mA1, mV0, mV1, vV2, kV2, pV3, mV4, pV5, mV6, vV7, kV7, vV8, kV8, vV9, kV9, vG0, kG0, mG1, vG2, kG2, vH0, kH0, mH1, mK0, mK1, mU0, mU1, mU2, mU3, mU4, mU5, mM0, mM1, mM2, mM3, mM4, mM5, vM6, kM6, mN0⟩ := y
  unfold Recs.cells at hgx hgy
  simp only at hgx hgy
  have hll := lx
  simp only [lightB, List.all_cons, List.all_nil, Bool.and_true, Bool.and_eq_true, decide_eq_true_eq] at hll
  have hmm := ly
  simp only [lightB, List.all_cons, List.all_nil, Bool.and_true, Bool.and_eq_true, decide_eq_true_eq] at hmm
  have NH00 := Lib.hid (fun (wy : World) (hm : Mods noB w wy) => norm_any (RdM.keep (w := w) hx.dH0.1 hm (fun _ _ x => x)) hx.dH0.2.1 (Nat.le_trans (hll.2.2.2.2.2.2.2.1) (by omega)))
  have NH01 := Lib.hid (fun (wy : World) (hm : Mods noB w wy) => norm_any (RdM.keep (w := w) hy.dH0.1 hm (fun _ _ x => x)) hy.dH0.2.1 (Nat.le_trans (hmm.2.2.2.2.2.2.2.1) (by omega)))
  have HDH0 := Lib.hid (fun (wy : World) (p q : Value) (hp : RN wy p (normL lH0)) (hq : RN wy q (normL kH0)) => decC hc0 hp hq)
  generalize normL lH0 = qH00 at NH00 HDH0
  generalize normL kH0 = qH01 at NH01 HDH0
  have E1 := Lib.hid (fun (wb : World) => eqU c1 hc1 22 wb)
  have M := Lib.hid ((Mods.refl noB w).drew)
  have GX := Lib.hid hgx
  have GY := Lib.hid hgy
  have HQ := Lib.hid hK
  have HG := Lib.hid hgB
  clear hx hy lx ly hll hmm hgx hgy hK  hgB hc0 hc1
  refine wp_region_ordF [(0, true), (1, true), (2, true), (4, true), (5, true), (6, true), (3, false), (7, false), (8, false), (9, true), (10, true), (11, true), (12, true), (13, true), (14, true), (15, true), (16, true), (17, true), (18, true)] [] (fun b => Mods noB w b) [(0, 4, 162259276829213363391578010288128), (1, 162259276829213363391578010288128, 324518553658426726783156020576256), (2, 324518553658426726783156020576256, 649037107316853453566312041152512), (4, 649037107316853453566312041152512, 1298074214633706907132624082305024), (0, 8, 2596148429267413814265248164610048), (16, 2596148429267413814265248164610048, 5192296858534827628530496329220096), (32, 5192296858534827628530496329220096, 10384593717069655257060992658440192), (72, 10384593717069655257060992658440192, 20769187434139310514121985316880384), (136, 22067261648773017421254609399185408, 41538374868278621028243970633760768), (256, 41538374868278621028243970633760768, 83076749736557242056487941267521536), (512, 83076749736557242056487941267521540, 166153499473114484112975882535043072), (1536, 249230249209671726169463823802564608, 332306998946228968225951765070086144), (2560, 415383748682786210282439706337607680, 664613997892457936451903530140172288), (512, 83076749736557242056487941267521544, 1329227995784915872903807060280344576), (8704, 1412304745521473114960295001547866112, 2658455991569831745807614120560689152), (16896, 2741532741306388987864102061828210688, 5316911983139663491615228241121378304), (37376, 6064602730768678670123619712529072128, 10633823966279326983230456482242756608), (66048, 10716900716015884225286944423510278144, 21267647932558653966460912964485513216), (262143, 21267647932558653966460912964485513216, 64)] (by kernel_rfl) (by kernel_rfl) (by kernel_rfl) (by kernel_rfl) (by kernel_rfl) M.out ?_
  refine wpOrdT_frees [0, 1] [.pointer (some ⟨gx, 28, none⟩), .pointer (some ⟨gx, 28, none⟩)] (rest := [(2, true), (4, true), (5, true), (6, true), (3, false), (7, false), (8, false), (9, true), (10, true), (11, true), (12, true), (13, true), (14, true), (15, true), (16, true), (17, true), (18, true)]) (by kernel_rfl) (by kernel_rfl) (fun _ => by kernel_rfl) ?_
  refine wpOrdT_load (.tmp 108) (some 109) ⟨by kernel_rfl, by kernel_rfl, by kernel_rfl⟩ (fun b hb => load_part (off := 28) [uH0] (blk_step hb GX.out) Try.underlying30 rfl (by kernel_rfl) (by kernel_rfl)) (by kernel_rfl) (by kernel_rfl) ?_
  refine wpOrdT_frees [4, 5] [.pointer (some ⟨gy, 28, none⟩), .pointer (some ⟨gy, 28, none⟩)] (rest := [(6, true), (3, false), (7, false), (8, false), (9, true), (10, true), (11, true), (12, true), (13, true), (14, true), (15, true), (16, true), (17, true), (18, true)]) (by kernel_rfl) (by kernel_rfl) (fun _ => by kernel_rfl) ?_
  refine wpOrdT_load (.tmp 112) (some 113) ⟨by kernel_rfl, by kernel_rfl, by kernel_rfl⟩ (fun b hb => load_part (off := 28) [vH0] (blk_step hb GY.out) Try.underlying30 rfl (by kernel_rfl) (by kernel_rfl)) (by kernel_rfl) (by kernel_rfl) ?_
  refine wpOrdT_call (some 110) ⟨by kernel_rfl, by kernel_rfl, by kernel_rfl⟩ (NH00.out _ M.out) (fun _ => by kernel_rfl) ?_
  rintro r w3 ⟨v3, rfl, o1, m1, f1⟩
  have O3 := Lib.hid o1
  replace M := Lib.hid (M.out.then0 m1)
  refine ⟨_, rfl, fun _ => M.out, ?_⟩
  clear o1 m1 f1
  refine wpOrdT_call (some 114) ⟨by kernel_rfl, by kernel_rfl, by kernel_rfl⟩ (NH01.out _ M.out) (fun _ => by kernel_rfl) ?_
  rintro r w7 ⟨v7, rfl, o1, m1, f1⟩
  have O7 := Lib.hid o1
  replace O3 := Lib.hid (O3.out.keep m1 (fun _ _ x => x))
  replace M := Lib.hid (M.out.then0 m1)
  refine ⟨_, rfl, fun _ => M.out, ?_⟩
  clear o1 m1 f1
  refine wpOrdT_call (some 115) ⟨by kernel_rfl, by kernel_rfl, by kernel_rfl⟩ (HDH0.out _ _ _ O3.out O7.out) (fun _ => by kernel_rfl) ?_
  rintro r w8 ⟨rfl, m1⟩
  clear O3 O7
  replace M := Lib.hid (M.out.then0 m1)
  refine ⟨_, rfl, fun _ => M.out, ?_⟩
  clear m1
  refine wpOrdT_act ⟨#[x0, x1, .pointer (some ⟨gx, 0, none⟩), .pointer (some ⟨gy, 0, none⟩), x4, x5, x6, x7, x8, x9, x10, x11, x12, x13, x14, x15, x16, x17, x18, x19, x20, x21, x22, x23, x24, x25, x26, x27, x28, x29, x30, x31, x32, x33, x34, x35, x36, x37, x38, x39, x40, x41, x42, x43, x44, x45, x46, x47, x48, x49, x50, x51, x52, x53, x54, x55, x56, x57, x58, x59, x60, x61, x62, x63, x64, x65, x66, x67, x68, x69, x70, x71, x72, x73, x74, x75, x76, x77, x78, x79, x80, x81, x82, x83, x84, x85, x86, x87, x88, x89, x90, x91, x92, x93, x94, x95, x96, x97, x98, x99, x100, x101, x102, x103, x104, x105, x106, .pointer (some ⟨gx, 28, none⟩), .pointer (some ⟨gx, 28, none⟩), .agg #[uH0], .agg #[v3], .pointer (some ⟨gy, 28, none⟩), .pointer (some ⟨gy, 28, none⟩), .agg #[vH0], .agg #[v7], .bool c0, x116, x117, x118, x119, x120, x121, x122, x123, x124, x125, x126, x127, x128, x129, x130, x131, x132, x133, x134, x135, x136, x137, x138, x139, x140, x141, x142, x143, x144, x145, x146, x147, x148, x149, x150, x151, x152, x153, x154, x155, x156, x157, x158, x159, x160, x161, x162, x163, x164, x165, x166, x167, x168, x169, x170, x171, x172, x173, x174, x175, x176, x177, x178, x179, x180, x181, x182, x183, x184, x185, x186, x187, x188, x189, x190, x191, x192, x193, x194, x195, x196, x197, x198, x199, x200, x201, x202, x203, x204, x205, x206, x207, x208, x209, x210, x211, x212, x213, x214, x215, x216, x217, x218, x219, x220, x221, x222, x223, x224, x225, x226, x227, x228, x229, x230, x231, x232, x233, x234, x235, x236, x237, x238, x239, x240, x241, x242, x243, x244, x245, x246, x247, x248, x249, x250, x251], []⟩ (by kernel_rfl) ?_
  rcases c0 with _ | _
  · refine wpOrdT_frees [9, 10, 11, 12, 13, 14, 15, 16, 17, 18] [.bool false, undef, undef, undef, undef, undef, undef, undef, .bool false, .bool false] (rest := []) (by kernel_rfl) (by kernel_rfl) (fun _ => by kernel_rfl) ?_
    obtain rfl : false = gB := by simpa using HG.out
    refine wpOrdT_done (show K _ _ from ?_)
    exact act_is (by kernel_rfl) (HQ.out (.pointer (some ⟨gx, 28, none⟩)) (.pointer (some ⟨gx, 28, none⟩)) (.agg #[uH0]) (.agg #[v3]) (.pointer (some ⟨gy, 28, none⟩)) (.pointer (some ⟨gy, 28, none⟩)) (.agg #[vH0]) (.agg #[v7]) (.bool false) (.bool false) undef undef undef undef undef undef undef (.bool false) _ M.out)
  · refine wpOrdT_frees [9, 10, 11] [.bool true, .pointer (some ⟨gx, 28, none⟩), .pointer (some ⟨gx, 29, none⟩)] (rest := [(12, true), (13, true), (14, true), (15, true), (16, true), (17, true), (18, true)]) (by kernel_rfl) (by kernel_rfl) (fun _ => by kernel_rfl) ?_
    refine wpOrdT_load (.tmp 118) (some 119) ⟨by kernel_rfl, by kernel_rfl, by kernel_rfl⟩ (fun b hb => load_one (off := 29) (blk_step hb GX.out) Try.underlying22 rfl (v := .int .u64 nH1) (by kernel_rfl)) (by kernel_rfl) (by kernel_rfl) ?_
    refine wpOrdT_frees [13, 14] [.pointer (some ⟨gy, 28, none⟩), .pointer (some ⟨gy, 29, none⟩)] (rest := [(15, true), (16, true), (17, true), (18, true)]) (by kernel_rfl) (by kernel_rfl) (fun _ => by kernel_rfl) ?_
    refine wpOrdT_load (.tmp 121) (some 122) ⟨by kernel_rfl, by kernel_rfl, by kernel_rfl⟩ (fun b hb => load_one (off := 29) (blk_step hb GY.out) Try.underlying22 rfl (v := .int .u64 mH1) (by kernel_rfl)) (by kernel_rfl) (by kernel_rfl) ?_
    refine wpOrdT_bin (xv := .int .u64 nH1) (yv := .int .u64 mH1) .eql 22 (.tmp 119) (.tmp 122) 22 (.bool c1) (some 123) ⟨by kernel_rfl, by kernel_rfl, by kernel_rfl⟩ (by kernel_rfl) (by kernel_rfl) (by kernel_rfl) (fun _ => by kernel_rfl) (E1.out) ?_
    refine wpOrdT_act ⟨#[x0, x1, .pointer (some ⟨gx, 0, none⟩), .pointer (some ⟨gy, 0, none⟩), x4, x5, x6, x7, x8, x9, x10, x11, x12, x13, x14, x15, x16, x17, x18, x19, x20, x21, x22, x23, x24, x25, x26, x27, x28, x29, x30, x31, x32, x33, x34, x35, x36, x37, x38, x39, x40, x41, x42, x43, x44, x45, x46, x47, x48, x49, x50, x51, x52, x53, x54, x55, x56, x57, x58, x59, x60, x61, x62, x63, x64, x65, x66, x67, x68, x69, x70, x71, x72, x73, x74, x75, x76, x77, x78, x79, x80, x81, x82, x83, x84, x85, x86, x87, x88, x89, x90, x91, x92, x93, x94, x95, x96, x97, x98, x99, x100, x101, x102, x103, x104, x105, x106, .pointer (some ⟨gx, 28, none⟩), .pointer (some ⟨gx, 28, none⟩), .agg #[uH0], .agg #[v3], .pointer (some ⟨gy, 28, none⟩), .pointer (some ⟨gy, 28, none⟩), .agg #[vH0], .agg #[v7], .bool true, .bool true, .pointer (some ⟨gx, 28, none⟩), .pointer (some ⟨gx, 29, none⟩), .int .u64 nH1, .pointer (some ⟨gy, 28, none⟩), .pointer (some ⟨gy, 29, none⟩), .int .u64 mH1, .bool c1, x124, x125, x126, x127, x128, x129, x130, x131, x132, x133, x134, x135, x136, x137, x138, x139, x140, x141, x142, x143, x144, x145, x146, x147, x148, x149, x150, x151, x152, x153, x154, x155, x156, x157, x158, x159, x160, x161, x162, x163, x164, x165, x166, x167, x168, x169, x170, x171, x172, x173, x174, x175, x176, x177, x178, x179, x180, x181, x182, x183, x184, x185, x186, x187, x188, x189, x190, x191, x192, x193, x194, x195, x196, x197, x198, x199, x200, x201, x202, x203, x204, x205, x206, x207, x208, x209, x210, x211, x212, x213, x214, x215, x216, x217, x218, x219, x220, x221, x222, x223, x224, x225, x226, x227, x228, x229, x230, x231, x232, x233, x234, x235, x236, x237, x238, x239, x240, x241, x242, x243, x244, x245, x246, x247, x248, x249, x250, x251], []⟩ (by kernel_rfl) ?_
    rcases c1 with _ | _
    · refine wpOrdT_frees [17, 18] [.bool false, .bool false] (rest := []) (by kernel_rfl) (by kernel_rfl) (fun _ => by kernel_rfl) ?_
      obtain rfl : false = gB := by simpa using HG.out
      refine wpOrdT_done (show K _ _ from ?_)
      exact act_is (by kernel_rfl) (HQ.out (.pointer (some ⟨gx, 28, none⟩)) (.pointer (some ⟨gx, 28, none⟩)) (.agg #[uH0]) (.agg #[v3]) (.pointer (some ⟨gy, 28, none⟩)) (.pointer (some ⟨gy, 28, none⟩)) (.agg #[vH0]) (.agg #[v7]) (.bool true) (.bool true) (.pointer (some ⟨gx, 28, none⟩)) (.pointer (some ⟨gx, 29, none⟩)) (.int .u64 nH1) (.pointer (some ⟨gy, 28, none⟩)) (.pointer (some ⟨gy, 29, none⟩)) (.int .u64 mH1) (.bool false) (.bool false) _ M.out)
    · refine wpOrdT_frees [17, 18] [.bool true, .bool true] (rest := []) (by kernel_rfl) (by kernel_rfl) (fun _ => by kernel_rfl) ?_
      obtain rfl : true = gB := by simpa using HG.out
      refine wpOrdT_done (show K _ _ from ?_)
      exact act_is (by kernel_rfl) (HQ.out (.pointer (some ⟨gx, 28, none⟩)) (.pointer (some ⟨gx, 28, none⟩)) (.agg #[uH0]) (.agg #[v3]) (.pointer (some ⟨gy, 28, none⟩)) (.pointer (some ⟨gy, 28, none⟩)) (.agg #[vH0]) (.agg #[v7]) (.bool true) (.bool true) (.pointer (some ⟨gx, 28, none⟩)) (.pointer (some ⟨gx, 29, none⟩)) (.int .u64 nH1) (.pointer (some ⟨gy, 28, none⟩)) (.pointer (some ⟨gy, 29, none⟩)) (.int .u64 mH1) (.bool true) (.bool true) _ M.out)

end Go.Proofs.Ytnkbbclcileleaa.recApart

/- RecPuts: the bytes of every record: P8.1. No conditions. -/
import Derived.Test.YtnkbbclcileleaaGreatRqParams
import Derived.Test.YtnkbbclcileleaaGreatRqChain
import Derived.Test.YtnkbbclcileleaaGreatRqPool
import Derived.Test.YtnkbbclcileleaaGreatRqAccount
import Derived.Test.YtnkbbclcileleaaGreatRqVal
import Derived.Test.YtnkbbclcileleaaGreatRqDelegation
import Derived.Test.YtnkbbclcileleaaGreatRqHistory
import Derived.Test.YtnkbbclcileleaaGreatRqCut
import Derived.Test.YtnkbbclcileleaaGreatRqUnbonding
import Derived.Test.YtnkbbclcileleaaGreatRqMove
import Derived.Test.YtnkbbclcileleaaGreatRqNumber
import Derived.Test.YtnkbbclcileleaaGreatRKnw
import Derived.Test.YtnkbbclcileleaaGreatRLgt
import Derived.Test.YtnkbbclcileleaaGreatRItm
import Derived.Test.YtnkbbclcileleaaGreatRPx
import Derived.Test.YtnkbbclcileleaaGreatOrd
import Derived.Test.YtnkbbclcileleaaGreatHSpoil
namespace Go.Proofs.YtnkbbclcileleaaGreat.recPuts
open Go.Gl Go.RowKit Go.ChangeShapes Go.WideShapes Go.ChangeAt
set_option linter.unusedVariables false
set_option maxRecDepth 100000

/-- the bytes of all eleven -/
def recZs (x : Recs) : List (List UInt8) := [recLay [⟨0, x.nP0, []⟩, ⟨0, x.nP1, []⟩, ⟨0, x.nP2, []⟩, ⟨0, x.nP3, []⟩, ⟨0, x.nP4, []⟩, ⟨0, x.nP5, []⟩, ⟨0, x.nP6, []⟩, ⟨0, x.nP7, []⟩, ⟨0, x.nP8, []⟩, ⟨0, x.nP9, []⟩], recLay [⟨0, x.nC0, []⟩, ⟨0, x.nC1, []⟩], recLay [⟨2, 0, x.lD0⟩], recLay [⟨0, x.nA0, []⟩, ⟨0, x.nA1, []⟩], recLay [⟨0, x.nV0, []⟩, ⟨0, x.nV1, []⟩, ⟨2, 0, x.lV2⟩, ⟨1, if x.bV3 then 1 else 0, []⟩, ⟨0, x.nV4, []⟩, ⟨1, if x.bV5 then 1 else 0, []⟩, ⟨0, x.nV6, []⟩, ⟨2, 0, x.lV7⟩, ⟨2, 0, x.lV8⟩, ⟨2, 0, x.lV9⟩], recLay [⟨2, 0, x.lG0⟩, ⟨0, x.nG1, []⟩, ⟨2, 0, x.lG2⟩], recLay [⟨2, 0, x.lH0⟩, ⟨0, x.nH1, []⟩], recLay [⟨0, x.nK0, []⟩, ⟨0, x.nK1, []⟩], recLay [⟨0, x.nU0, []⟩, ⟨0, x.nU1, []⟩, ⟨0, x.nU2, []⟩, ⟨0, x.nU3, []⟩, ⟨0, x.nU4, []⟩, ⟨0, x.nU5, []⟩], recLay [⟨0, x.nM0, []⟩, ⟨0, x.nM1, []⟩, ⟨0, x.nM2, []⟩, ⟨0, x.nM3, []⟩, ⟨0, x.nM4, []⟩, ⟨0, x.nM5, []⟩, ⟨2, 0, x.lM6⟩], recLay [⟨0, x.nN0, []⟩]]

set_option maxHeartbeats 8000000 in
theorem puts8 {w : World} {g : Nat} (x : Recs) (hx : x.At w) (hl : lightB x = true) (hg : w.heap[g]? = some (.cells x.cells 46 (0, 0))) (x0 x2 x3 x4 x5 x6 x7 x8 x9 x10 x11 x12 x13 x14 x15 x16 x17 x18 x19 x20 x21 x22 x23 x24 x25 x26 x27 x28 x29 x30 x31 x32 x33 x34 x35 x36 x37 x38 x39 x40 x41 x42 x43 x44 x45 x46 x47 x48 x49 x50 x51 x52 x53 x54 x55 x56 x57 x58 x59 x60 x61 x62 x63 x64 x65 x66 x67 x68 x69 x70 x71 x72 x73 x74 x75 x76 x77 x78 x79 x80 x81 x82 x83 x84 x85 x86 x87 x88 x89 x90 x91 x92 x93 x94 x95 x96 x97 x98 : Value) {K : Act → World → Prop} {Q : Exit → Act → World → Prop}
    (hK : ∀ (y16 y17 y18 y19 y20 y21 y22 y23 y24 y25 y26 y27 y28 y29 y30 y31 y32 y33 y34 y35 y36 y37 y38 y39 y40 y41 y42 y43 y44 y45 y46 y47 y48 y49 : Value) (G : Nat) (w' : World), LAt w (recZs x) G w' → K ⟨#[x0, .pointer (some ⟨g, 0, none⟩), x2, x3, .slice (some ⟨G, 0, none⟩) 11 11, x5, x6, x7, x8, x9, x10, x11, x12, x13, x14, x15, y16, y17, y18, y19, y20, y21, y22, y23, y24, y25, y26, y27, y28, y29, y30, y31, y32, y33, y34, y35, y36, y37, y38, y39, y40, y41, y42, y43, y44, y45, y46, y47, y48, y49, x50, x51, x52, x53, x54, x55, x56, x57, x58, x59, x60, x61, x62, x63, x64, x65, x66, x67, x68, x69, x70, x71, x72, x73, x74, x75, x76, x77, x78, x79, x80, x81, x82, x83, x84, x85, x86, x87, x88, x89, x90, x91, x92, x93, x94, x95, x96, x97, x98], []⟩ w') : (regC 8 Tryz.f3).wp Tryz.prog (Exit.then K Q) ⟨#[x0, .pointer (some ⟨g, 0, none⟩), x2, x3, x4, x5, x6, x7, x8, x9, x10, x11, x12, x13, x14, x15, x16, x17, x18, x19, x20, x21, x22, x23, x24, x25, x26, x27, x28, x29, x30, x31, x32, x33, x34, x35, x36, x37, x38, x39, x40, x41, x42, x43, x44, x45, x46, x47, x48, x49, x50, x51, x52, x53, x54, x55, x56, x57, x58, x59, x60, x61, x62, x63, x64, x65, x66, x67, x68, x69, x70, x71, x72, x73, x74, x75, x76, x77, x78, x79, x80, x81, x82, x83, x84, x85, x86, x87, x88, x89, x90, x91, x92, x93, x94, x95, x96, x97, x98], []⟩ w := by
  obtain ⟨Z, hZ⟩ : ∃ Z, recZs x = Z := ⟨_, rfl⟩
  rw [hZ] at hK
  obtain ⟨nP0, nP1, nP2, nP3, nP4, nP5, nP6, nP7, nP8, nP9, nC0, nC1, uD0, lD0, nA0, nA1, nV0, nV1, uV2, lV2, bV3, nV4, bV5, nV6, uV7, lV7, uV8, lV8, uV9, lV9, uG0, lG0, nG1, uG2, lG2, uH0, lH0, nH1, nK0, nK1, nU0, nU1, nU2, nU3, nU4, nU5, nM0, nM1, nM2, nM3, nM4, nM5, uM6, lM6, nN0⟩ := x
  obtain ⟨aD0, cD0, hD0, _⟩ := (show RN w uD0 lD0 from hx.dD0.1).form
  subst hD0
  obtain ⟨aV2, cV2, hV2, _⟩ := (show RN w uV2 lV2 from hx.dV2.1).form
  subst hV2
  obtain ⟨aV7, cV7, hV7, _⟩ := (show RN w uV7 lV7 from hx.dV7.1).form
  subst hV7
  obtain ⟨aV8, cV8, hV8, _⟩ := (show RN w uV8 lV8 from hx.dV8.1).form
  subst hV8
  obtain ⟨aV9, cV9, hV9, _⟩ := (show RN w uV9 lV9 from hx.dV9.1).form
  subst hV9
  obtain ⟨aG0, cG0, hG0, _⟩ := (show RN w uG0 lG0 from hx.dG0.1).form
  subst hG0
  obtain ⟨aG2, cG2, hG2, _⟩ := (show RN w uG2 lG2 from hx.dG2.1).form
  subst hG2
  obtain ⟨aH0, cH0, hH0, _⟩ := (show RN w uH0 lH0 from hx.dH0.1).form
  subst hH0
  obtain ⟨aM6, cM6, hM6, _⟩ := (show RN w uM6 lM6 from hx.dM6.1).form
  subst hM6
  unfold Recs.cells at hg
  simp only at hg
  have hll := hl
  simp only [lightB, List.all_cons, List.all_nil, Bool.and_true, Bool.and_eq_true, decide_eq_true_eq] at hll
  have HKP := Lib.hid (fun (wy : World) (hm : Mods noB w wy) => params_put (w := wy) (n0 := nP0) (n1 := nP1) (n2 := nP2) (n3 := nP3) (n4 := nP4) (n5 := nP5) (n6 := nP6) (n7 := nP7) (n8 := nP8) (n9 := nP9) (limC hx.nP0 (limC hx.nP1 (limC hx.nP2 (limC hx.nP3 (limC hx.nP4 (limC hx.nP5 (limC hx.nP6 (limC hx.nP7 (limC hx.nP8 (limC hx.nP9 limN)))))))))))
  have HKC := Lib.hid (fun (wy : World) (hm : Mods noB w wy) => chain_put (w := wy) (n0 := nC0) (n1 := nC1) (limC hx.nC0 (limC hx.nC1 limN)))
  have HKD := Lib.hid (fun (wy : World) (hm : Mods noB w wy) => pool_put (w := wy) (DN.keep (w := w) ⟨hx.dD0.1, hx.dD0.2.1, Nat.le_trans (hll.1) (by omega)⟩ hm))
  have HKA := Lib.hid (fun (wy : World) (hm : Mods noB w wy) => account_put (w := wy) (n0 := nA0) (n1 := nA1) (limC hx.nA0 (limC hx.nA1 limN)))
  have HKV := Lib.hid (fun (wy : World) (hm : Mods noB w wy) => val_put (w := wy) (n0 := nV0) (n1 := nV1) (b3 := bV3) (n4 := nV4) (b5 := bV5) (n6 := nV6) (limC hx.nV0 (limC hx.nV1 (limC hx.nV4 (limC hx.nV6 limN)))) (DN.keep (w := w) ⟨hx.dV2.1, hx.dV2.2.1, Nat.le_trans (hll.2.1) (by omega)⟩ hm) (DN.keep (w := w) ⟨hx.dV7.1, hx.dV7.2.1, Nat.le_trans (hll.2.2.1) (by omega)⟩ hm) (DN.keep (w := w) ⟨hx.dV8.1, hx.dV8.2.1, Nat.le_trans (hll.2.2.2.1) (by omega)⟩ hm) (DN.keep (w := w) ⟨hx.dV9.1, hx.dV9.2.1, Nat.le_trans (hll.2.2.2.2.1) (by omega)⟩ hm))
  have HKG := Lib.hid (fun (wy : World) (hm : Mods noB w wy) => delegation_put (w := wy) (n1 := nG1) (limC hx.nG1 limN) (DN.keep (w := w) ⟨hx.dG0.1, hx.dG0.2.1, Nat.le_trans (hll.2.2.2.2.2.1) (by omega)⟩ hm) (DN.keep (w := w) ⟨hx.dG2.1, hx.dG2.2.1, Nat.le_trans (hll.2.2.2.2.2.2.1) (by omega)⟩ hm))
  have HKH := Lib.hid (fun (wy : World) (hm : Mods noB w wy) => history_put (w := wy) (n1 := nH1) (limC hx.nH1 limN) (DN.keep (w := w) ⟨hx.dH0.1, hx.dH0.2.1, Nat.le_trans (hll.2.2.2.2.2.2.2.1) (by omega)⟩ hm))
  have HKK := Lib.hid (fun (wy : World) (hm : Mods noB w wy) => cut_put (w := wy) (n0 := nK0) (n1 := nK1) (limC hx.nK0 (limC hx.nK1 limN)))
  have HKU := Lib.hid (fun (wy : World) (hm : Mods noB w wy) => unbonding_put (w := wy) (n0 := nU0) (n1 := nU1) (n2 := nU2) (n3 := nU3) (n4 := nU4) (n5 := nU5) (limC hx.nU0 (limC hx.nU1 (limC hx.nU2 (limC hx.nU3 (limC hx.nU4 (limC hx.nU5 limN)))))))
  have HKM := Lib.hid (fun (wy : World) (hm : Mods noB w wy) => move_put (w := wy) (n0 := nM0) (n1 := nM1) (n2 := nM2) (n3 := nM3) (n4 := nM4) (n5 := nM5) (limC hx.nM0 (limC hx.nM1 (limC hx.nM2 (limC hx.nM3 (limC hx.nM4 (limC hx.nM5 limN)))))) (DN.keep (w := w) ⟨hx.dM6.1, hx.dM6.2.1, Nat.le_trans (hll.2.2.2.2.2.2.2.2) (by omega)⟩ hm))
  have HKN := Lib.hid (fun (wy : World) (hm : Mods noB w wy) => one_put (w := wy) (n0 := nN0) (limC hx.nN0 limN))
  have HZ := Lib.hid (show [recLay [⟨0, nP0, []⟩, ⟨0, nP1, []⟩, ⟨0, nP2, []⟩, ⟨0, nP3, []⟩, ⟨0, nP4, []⟩, ⟨0, nP5, []⟩, ⟨0, nP6, []⟩, ⟨0, nP7, []⟩, ⟨0, nP8, []⟩, ⟨0, nP9, []⟩], recLay [⟨0, nC0, []⟩, ⟨0, nC1, []⟩], recLay [⟨2, 0, lD0⟩], recLay [⟨0, nA0, []⟩, ⟨0, nA1, []⟩], recLay [⟨0, nV0, []⟩, ⟨0, nV1, []⟩, ⟨2, 0, lV2⟩, ⟨1, if bV3 then 1 else 0, []⟩, ⟨0, nV4, []⟩, ⟨1, if bV5 then 1 else 0, []⟩, ⟨0, nV6, []⟩, ⟨2, 0, lV7⟩, ⟨2, 0, lV8⟩, ⟨2, 0, lV9⟩], recLay [⟨2, 0, lG0⟩, ⟨0, nG1, []⟩, ⟨2, 0, lG2⟩], recLay [⟨2, 0, lH0⟩, ⟨0, nH1, []⟩], recLay [⟨0, nK0, []⟩, ⟨0, nK1, []⟩], recLay [⟨0, nU0, []⟩, ⟨0, nU1, []⟩, ⟨0, nU2, []⟩, ⟨0, nU3, []⟩, ⟨0, nU4, []⟩, ⟨0, nU5, []⟩], recLay [⟨0, nM0, []⟩, ⟨0, nM1, []⟩, ⟨0, nM2, []⟩, ⟨0, nM3, []⟩, ⟨0, nM4, []⟩, ⟨0, nM5, []⟩, ⟨2, 0, lM6⟩], recLay [⟨0, nN0, []⟩]] = Z from hZ)
  clear hZ
  generalize recLay [⟨0, nP0, []⟩, ⟨0, nP1, []⟩, ⟨0, nP2, []⟩, ⟨0, nP3, []⟩, ⟨0, nP4, []⟩, ⟨0, nP5, []⟩, ⟨0, nP6, []⟩, ⟨0, nP7, []⟩, ⟨0, nP8, []⟩, ⟨0, nP9, []⟩] = yP at HKP HZ
  generalize recLay [⟨0, nC0, []⟩, ⟨0, nC1, []⟩] = yC at HKC HZ
  generalize recLay [⟨2, 0, lD0⟩] = yD at HKD HZ
  generalize recLay [⟨0, nA0, []⟩, ⟨0, nA1, []⟩] = yA at HKA HZ
  generalize recLay [⟨0, nV0, []⟩, ⟨0, nV1, []⟩, ⟨2, 0, lV2⟩, ⟨1, if bV3 then 1 else 0, []⟩, ⟨0, nV4, []⟩, ⟨1, if bV5 then 1 else 0, []⟩, ⟨0, nV6, []⟩, ⟨2, 0, lV7⟩, ⟨2, 0, lV8⟩, ⟨2, 0, lV9⟩] = yV at HKV HZ
  generalize recLay [⟨2, 0, lG0⟩, ⟨0, nG1, []⟩, ⟨2, 0, lG2⟩] = yG at HKG HZ
  generalize recLay [⟨2, 0, lH0⟩, ⟨0, nH1, []⟩] = yH at HKH HZ
  generalize recLay [⟨0, nK0, []⟩, ⟨0, nK1, []⟩] = yK at HKK HZ
  generalize recLay [⟨0, nU0, []⟩, ⟨0, nU1, []⟩, ⟨0, nU2, []⟩, ⟨0, nU3, []⟩, ⟨0, nU4, []⟩, ⟨0, nU5, []⟩] = yU at HKU HZ
  generalize recLay [⟨0, nM0, []⟩, ⟨0, nM1, []⟩, ⟨0, nM2, []⟩, ⟨0, nM3, []⟩, ⟨0, nM4, []⟩, ⟨0, nM5, []⟩, ⟨2, 0, lM6⟩] = yM at HKM HZ
  generalize recLay [⟨0, nN0, []⟩] = yN at HKN HZ
  have O := Lib.hid (OL.nil w)
  have HG := Lib.hid hg
  have HQ := Lib.hid hK
  clear hx hl hll hg hK
  refine wp_tl (d := .region 8 (opsC 8 Tryz.f3) true) (by kernel_rfl) ?_
  refine wp_region_ord [(0, true), (1, true), (3, true), (4, true), (6, true), (7, true), (9, true), (10, true), (12, true), (13, true), (15, true), (16, true), (18, true), (19, true), (21, true), (22, true), (24, true), (25, true), (27, true), (28, true), (30, true), (31, true), (2, false), (5, false), (8, false), (11, false), (14, false), (17, false), (20, false), (23, false), (26, false), (29, false), (32, false), (33, false), (34, false)] (fun b => Mods noB w b) (by kernel_rfl) (by kernel_rfl) (by kernel_rfl) (by kernel_rfl) ((Mods.refl _ _).drew) ?_
  refine wpOrd_free (.pointer (some ⟨g, 0, none⟩)) (some 16) ⟨by kernel_rfl, by kernel_rfl, by kernel_rfl⟩ (fun _ _ => by kernel_rfl) ?_
  refine wpOrd_load (.tmp 16) (some 17) ⟨by kernel_rfl, by kernel_rfl, by kernel_rfl⟩ (fun b hb => load_part (off := 0) [.int .u64 nP0, .int .u64 nP1, .int .u64 nP2, .int .u64 nP3, .int .u64 nP4, .int .u64 nP5, .int .u64 nP6, .int .u64 nP7, .int .u64 nP8, .int .u64 nP9] (blk_step hb HG.out) Tryz.underlying24 rfl (by kernel_rfl) (by kernel_rfl)) (by kernel_rfl) (by kernel_rfl) ?_
  refine wpOrd_free (.pointer (some ⟨g, 10, none⟩)) (some 19) ⟨by kernel_rfl, by kernel_rfl, by kernel_rfl⟩ (fun _ _ => by kernel_rfl) ?_
  refine wpOrd_load (.tmp 19) (some 20) ⟨by kernel_rfl, by kernel_rfl, by kernel_rfl⟩ (fun b hb => load_part (off := 10) [.int .u64 nC0, .int .u64 nC1] (blk_step hb HG.out) Tryz.underlying26 rfl (by kernel_rfl) (by kernel_rfl)) (by kernel_rfl) (by kernel_rfl) ?_
  refine wpOrd_free (.pointer (some ⟨g, 12, none⟩)) (some 22) ⟨by kernel_rfl, by kernel_rfl, by kernel_rfl⟩ (fun _ _ => by kernel_rfl) ?_
  refine wpOrd_load (.tmp 22) (some 23) ⟨by kernel_rfl, by kernel_rfl, by kernel_rfl⟩ (fun b hb => load_part (off := 12) [.slice aD0 lD0.length cD0] (blk_step hb HG.out) Tryz.underlying30 rfl (by kernel_rfl) (by kernel_rfl)) (by kernel_rfl) (by kernel_rfl) ?_
  refine wpOrd_free (.pointer (some ⟨g, 13, none⟩)) (some 25) ⟨by kernel_rfl, by kernel_rfl, by kernel_rfl⟩ (fun _ _ => by kernel_rfl) ?_
  refine wpOrd_load (.tmp 25) (some 26) ⟨by kernel_rfl, by kernel_rfl, by kernel_rfl⟩ (fun b hb => load_part (off := 13) [.int .u64 nA0, .int .u64 nA1] (blk_step hb HG.out) Tryz.underlying32 rfl (by kernel_rfl) (by kernel_rfl)) (by kernel_rfl) (by kernel_rfl) ?_
  refine wpOrd_free (.pointer (some ⟨g, 15, none⟩)) (some 28) ⟨by kernel_rfl, by kernel_rfl, by kernel_rfl⟩ (fun _ _ => by kernel_rfl) ?_
  refine wpOrd_load (.tmp 28) (some 29) ⟨by kernel_rfl, by kernel_rfl, by kernel_rfl⟩ (fun b hb => load_part (off := 15) [.int .u64 nV0, .int .u64 nV1, .slice aV2 lV2.length cV2, .bool bV3, .int .u64 nV4, .bool bV5, .int .u64 nV6, .slice aV7 lV7.length cV7, .slice aV8 lV8.length cV8, .slice aV9 lV9.length cV9] (blk_step hb HG.out) Tryz.underlying34 rfl (by kernel_rfl) (by kernel_rfl)) (by kernel_rfl) (by kernel_rfl) ?_
  refine wpOrd_free (.pointer (some ⟨g, 25, none⟩)) (some 31) ⟨by kernel_rfl, by kernel_rfl, by kernel_rfl⟩ (fun _ _ => by kernel_rfl) ?_
  refine wpOrd_load (.tmp 31) (some 32) ⟨by kernel_rfl, by kernel_rfl, by kernel_rfl⟩ (fun b hb => load_part (off := 25) [.slice aG0 lG0.length cG0, .int .u64 nG1, .slice aG2 lG2.length cG2] (blk_step hb HG.out) Tryz.underlying36 rfl (by kernel_rfl) (by kernel_rfl)) (by kernel_rfl) (by kernel_rfl) ?_
  refine wpOrd_free (.pointer (some ⟨g, 28, none⟩)) (some 34) ⟨by kernel_rfl, by kernel_rfl, by kernel_rfl⟩ (fun _ _ => by kernel_rfl) ?_
  refine wpOrd_load (.tmp 34) (some 35) ⟨by kernel_rfl, by kernel_rfl, by kernel_rfl⟩ (fun b hb => load_part (off := 28) [.slice aH0 lH0.length cH0, .int .u64 nH1] (blk_step hb HG.out) Tryz.underlying38 rfl (by kernel_rfl) (by kernel_rfl)) (by kernel_rfl) (by kernel_rfl) ?_
  refine wpOrd_free (.pointer (some ⟨g, 30, none⟩)) (some 37) ⟨by kernel_rfl, by kernel_rfl, by kernel_rfl⟩ (fun _ _ => by kernel_rfl) ?_
  refine wpOrd_load (.tmp 37) (some 38) ⟨by kernel_rfl, by kernel_rfl, by kernel_rfl⟩ (fun b hb => load_part (off := 30) [.int .u64 nK0, .int .u64 nK1] (blk_step hb HG.out) Tryz.underlying40 rfl (by kernel_rfl) (by kernel_rfl)) (by kernel_rfl) (by kernel_rfl) ?_
  refine wpOrd_free (.pointer (some ⟨g, 32, none⟩)) (some 40) ⟨by kernel_rfl, by kernel_rfl, by kernel_rfl⟩ (fun _ _ => by kernel_rfl) ?_
  refine wpOrd_load (.tmp 40) (some 41) ⟨by kernel_rfl, by kernel_rfl, by kernel_rfl⟩ (fun b hb => load_part (off := 32) [.int .u64 nU0, .int .u64 nU1, .int .u64 nU2, .int .u64 nU3, .int .u64 nU4, .int .u64 nU5] (blk_step hb HG.out) Tryz.underlying42 rfl (by kernel_rfl) (by kernel_rfl)) (by kernel_rfl) (by kernel_rfl) ?_
  refine wpOrd_free (.pointer (some ⟨g, 38, none⟩)) (some 43) ⟨by kernel_rfl, by kernel_rfl, by kernel_rfl⟩ (fun _ _ => by kernel_rfl) ?_
  refine wpOrd_load (.tmp 43) (some 44) ⟨by kernel_rfl, by kernel_rfl, by kernel_rfl⟩ (fun b hb => load_part (off := 38) [.int .u64 nM0, .int .u64 nM1, .int .u64 nM2, .int .u64 nM3, .int .u64 nM4, .int .u64 nM5, .slice aM6 lM6.length cM6] (blk_step hb HG.out) Tryz.underlying44 rfl (by kernel_rfl) (by kernel_rfl)) (by kernel_rfl) (by kernel_rfl) ?_
  refine wpOrd_free (.pointer (some ⟨g, 45, none⟩)) (some 46) ⟨by kernel_rfl, by kernel_rfl, by kernel_rfl⟩ (fun _ _ => by kernel_rfl) ?_
  refine wpOrd_load (.tmp 46) (some 47) ⟨by kernel_rfl, by kernel_rfl, by kernel_rfl⟩ (fun b hb => load_one (off := 45) (blk_step hb HG.out) Tryz.underlying22 rfl (v := .int .u64 nN0) (by kernel_rfl)) (by kernel_rfl) (by kernel_rfl) ?_
  refine wpOrd_call (some 18) ⟨by kernel_rfl, by kernel_rfl, by kernel_rfl⟩ (HKP.out _ ((Mods.refl _ _).drew)) (fun _ => by kernel_rfl) ?_
  rintro r wP ⟨vP, rfl, o1, o2, o3⟩
  obtain ⟨sP, tP, rfl, _⟩ := o1.rd.form
  replace O := Lib.hid (O.out.push ((Mods.refl _ _).drew) o1 o2 o3)
  refine ⟨_, rfl, O.out.mods, ?_⟩
  clear o1 o2 o3
  refine wpOrd_call (some 21) ⟨by kernel_rfl, by kernel_rfl, by kernel_rfl⟩ (HKC.out _ (O.out.mods)) (fun _ => by kernel_rfl) ?_
  rintro r wC ⟨vC, rfl, o1, o2, o3⟩
  obtain ⟨sC, tC, rfl, _⟩ := o1.rd.form
  replace O := Lib.hid (O.out.push (Mods.refl _ _) o1 o2 o3)
  refine ⟨_, rfl, O.out.mods, ?_⟩
  clear o1 o2 o3
  refine wpOrd_call (some 24) ⟨by kernel_rfl, by kernel_rfl, by kernel_rfl⟩ (HKD.out _ (O.out.mods)) (fun _ => by kernel_rfl) ?_
  rintro r wD ⟨vD, rfl, o1, o2, o3⟩
  obtain ⟨sD, tD, rfl, _⟩ := o1.rd.form
  replace O := Lib.hid (O.out.push (Mods.refl _ _) o1 o2 o3)
  refine ⟨_, rfl, O.out.mods, ?_⟩
  clear o1 o2 o3
  refine wpOrd_call (some 27) ⟨by kernel_rfl, by kernel_rfl, by kernel_rfl⟩ (HKA.out _ (O.out.mods)) (fun _ => by kernel_rfl) ?_
  rintro r wA ⟨vA, rfl, o1, o2, o3⟩
  obtain ⟨sA, tA, rfl, _⟩ := o1.rd.form
  replace O := Lib.hid (O.out.push (Mods.refl _ _) o1 o2 o3)
  refine ⟨_, rfl, O.out.mods, ?_⟩
  clear o1 o2 o3
  refine wpOrd_call (some 30) ⟨by kernel_rfl, by kernel_rfl, by kernel_rfl⟩ (HKV.out _ (O.out.mods)) (fun _ => by kernel_rfl) ?_
  rintro r wV ⟨vV, rfl, o1, o2, o3⟩
  obtain ⟨sV, tV, rfl, _⟩ := o1.rd.form
  replace O := Lib.hid (O.out.push (Mods.refl _ _) o1 o2 o3)
  refine ⟨_, rfl, O.out.mods, ?_⟩
  clear o1 o2 o3
  refine wpOrd_call (some 33) ⟨by kernel_rfl, by kernel_rfl, by kernel_rfl⟩ (HKG.out _ (O.out.mods)) (fun _ => by kernel_rfl) ?_
  rintro r wG ⟨vG, rfl, o1, o2, o3⟩
  obtain ⟨sG, tG, rfl, _⟩ := o1.rd.form
  replace O := Lib.hid (O.out.push (Mods.refl _ _) o1 o2 o3)
  refine ⟨_, rfl, O.out.mods, ?_⟩
  clear o1 o2 o3
  refine wpOrd_call (some 36) ⟨by kernel_rfl, by kernel_rfl, by kernel_rfl⟩ (HKH.out _ (O.out.mods)) (fun _ => by kernel_rfl) ?_
  rintro r wH ⟨vH, rfl, o1, o2, o3⟩
  obtain ⟨sH, tH, rfl, _⟩ := o1.rd.form
  replace O := Lib.hid (O.out.push (Mods.refl _ _) o1 o2 o3)
  refine ⟨_, rfl, O.out.mods, ?_⟩
  clear o1 o2 o3
  refine wpOrd_call (some 39) ⟨by kernel_rfl, by kernel_rfl, by kernel_rfl⟩ (HKK.out _ (O.out.mods)) (fun _ => by kernel_rfl) ?_
  rintro r wK ⟨vK, rfl, o1, o2, o3⟩
  obtain ⟨sK, tK, rfl, _⟩ := o1.rd.form
  replace O := Lib.hid (O.out.push (Mods.refl _ _) o1 o2 o3)
  refine ⟨_, rfl, O.out.mods, ?_⟩
  clear o1 o2 o3
  refine wpOrd_call (some 42) ⟨by kernel_rfl, by kernel_rfl, by kernel_rfl⟩ (HKU.out _ (O.out.mods)) (fun _ => by kernel_rfl) ?_
  rintro r wU ⟨vU, rfl, o1, o2, o3⟩
  obtain ⟨sU, tU, rfl, _⟩ := o1.rd.form
  replace O := Lib.hid (O.out.push (Mods.refl _ _) o1 o2 o3)
  refine ⟨_, rfl, O.out.mods, ?_⟩
  clear o1 o2 o3
  refine wpOrd_call (some 45) ⟨by kernel_rfl, by kernel_rfl, by kernel_rfl⟩ (HKM.out _ (O.out.mods)) (fun _ => by kernel_rfl) ?_
  rintro r wM ⟨vM, rfl, o1, o2, o3⟩
  obtain ⟨sM, tM, rfl, _⟩ := o1.rd.form
  replace O := Lib.hid (O.out.push (Mods.refl _ _) o1 o2 o3)
  refine ⟨_, rfl, O.out.mods, ?_⟩
  clear o1 o2 o3
  refine wpOrd_call (some 48) ⟨by kernel_rfl, by kernel_rfl, by kernel_rfl⟩ (HKN.out _ (O.out.mods)) (fun _ => by kernel_rfl) ?_
  rintro r wN ⟨vN, rfl, o1, o2, o3⟩
  obtain ⟨sN, tN, rfl, _⟩ := o1.rd.form
  replace O := Lib.hid (O.out.push (Mods.refl _ _) o1 o2 o3)
  refine ⟨_, rfl, O.out.mods, ?_⟩
  clear o1 o2 o3
  have A := Lib.hid (SL.mk0 (show OL w [(.slice sP yP.length tP, yP), (.slice sC yC.length tC, yC), (.slice sD yD.length tD, yD), (.slice sA yA.length tA, yA), (.slice sV yV.length tV, yV), (.slice sG yG.length tG, yG), (.slice sH yH.length tH, yH), (.slice sK yK.length tK, yK), (.slice sU yU.length tU, yU), (.slice sM yM.length tM, yM), (.slice sN yN.length tN, yN)] wN from O.out) (Mods.refl _ _) (cs := #[.slice sP yP.length tP, .slice sC yC.length tC, .slice sD yD.length tD, .slice sA yA.length tA, .slice sV yV.length tV, .slice sG yG.length tG, .slice sH yH.length tH, .slice sK yK.length tK, .slice sU yU.length tU, .slice sM yM.length tM, .slice sN yN.length tN]) rfl)
  refine wpOrd_run (.slice (some ⟨wN.heap.size, 0, none⟩) 11 11) (wN.alloc (.cells #[.slice sP yP.length tP, .slice sC yC.length tC, .slice sD yD.length tD, .slice sA yA.length tA, .slice sV yV.length tV, .slice sG yG.length tG, .slice sH yH.length tH, .slice sK yK.length tK, .slice sU yU.length tU, .slice sM yM.length tM, .slice sN yN.length tN] 49)) (some 49) ⟨by kernel_rfl, by kernel_rfl, by kernel_rfl⟩ (by kernel_rfl) A.out.mods ?_
  refine wpOrd_run (.slice (some ⟨wN.heap.size, 0, none⟩) 11 11) (wN.alloc (.cells #[.slice sP yP.length tP, .slice sC yC.length tC, .slice sD yD.length tD, .slice sA yA.length tA, .slice sV yV.length tV, .slice sG yG.length tG, .slice sH yH.length tH, .slice sK yK.length tK, .slice sU yU.length tU, .slice sM yM.length tM, .slice sN yN.length tN] 49)) (some 4) ⟨by kernel_rfl, by kernel_rfl, by kernel_rfl⟩ (by kernel_rfl) A.out.mods ?_
  refine wpOrd_done (show K _ _ from ?_)
  exact act_is (by kernel_rfl) (HQ.out (.pointer (some ⟨g, 0, none⟩)) (.agg #[.int .u64 nP0, .int .u64 nP1, .int .u64 nP2, .int .u64 nP3, .int .u64 nP4, .int .u64 nP5, .int .u64 nP6, .int .u64 nP7, .int .u64 nP8, .int .u64 nP9]) (.slice sP yP.length tP) (.pointer (some ⟨g, 10, none⟩)) (.agg #[.int .u64 nC0, .int .u64 nC1]) (.slice sC yC.length tC) (.pointer (some ⟨g, 12, none⟩)) (.agg #[.slice aD0 lD0.length cD0]) (.slice sD yD.length tD) (.pointer (some ⟨g, 13, none⟩)) (.agg #[.int .u64 nA0, .int .u64 nA1]) (.slice sA yA.length tA) (.pointer (some ⟨g, 15, none⟩)) (.agg #[.int .u64 nV0, .int .u64 nV1, .slice aV2 lV2.length cV2, .bool bV3, .int .u64 nV4, .bool bV5, .int .u64 nV6, .slice aV7 lV7.length cV7, .slice aV8 lV8.length cV8, .slice aV9 lV9.length cV9]) (.slice sV yV.length tV) (.pointer (some ⟨g, 25, none⟩)) (.agg #[.slice aG0 lG0.length cG0, .int .u64 nG1, .slice aG2 lG2.length cG2]) (.slice sG yG.length tG) (.pointer (some ⟨g, 28, none⟩)) (.agg #[.slice aH0 lH0.length cH0, .int .u64 nH1]) (.slice sH yH.length tH) (.pointer (some ⟨g, 30, none⟩)) (.agg #[.int .u64 nK0, .int .u64 nK1]) (.slice sK yK.length tK) (.pointer (some ⟨g, 32, none⟩)) (.agg #[.int .u64 nU0, .int .u64 nU1, .int .u64 nU2, .int .u64 nU3, .int .u64 nU4, .int .u64 nU5]) (.slice sU yU.length tU) (.pointer (some ⟨g, 38, none⟩)) (.agg #[.int .u64 nM0, .int .u64 nM1, .int .u64 nM2, .int .u64 nM3, .int .u64 nM4, .int .u64 nM5, .slice aM6 lM6.length cM6]) (.slice sM yM.length tM) (.pointer (some ⟨g, 45, none⟩)) (.int .u64 nN0) (.slice sN yN.length tN) (.slice (some ⟨wN.heap.size, 0, none⟩) 11 11) wN.heap.size _ ⟨[(.slice sP yP.length tP, yP), (.slice sC yC.length tC, yC), (.slice sD yD.length tD, yD), (.slice sA yA.length tA, yA), (.slice sV yV.length tV, yV), (.slice sG yG.length tG, yG), (.slice sH yH.length tH, yH), (.slice sK yK.length tK, yK), (.slice sU yU.length tU, yU), (.slice sM yM.length tM, yM), (.slice sN yN.length tN, yN)], HZ.out, A.out⟩)

set_option maxHeartbeats 8000000 in
theorem puts9 {w : World} {g : Nat} (x : Recs) (hx : x.At w) (hl : lightB x = true) (hg : w.heap[g]? = some (.cells x.cells 46 (0, 0))) (x0 x2 x3 x4 x5 x6 x7 x8 x9 x10 x11 x12 x13 x14 x15 x16 x17 x18 x19 x20 x21 x22 x23 x24 x25 x26 x27 x28 x29 x30 x31 x32 x33 x34 x35 x36 x37 x38 x39 x40 x41 x42 x43 x44 x45 x46 x47 x48 x49 x50 x51 x52 x53 x54 x55 x56 x57 x58 x59 x60 x61 x62 x63 x64 x65 x66 x67 x68 x69 x70 x71 x72 x73 x74 x75 x76 x77 x78 x79 x80 x81 x82 x83 x84 x85 x86 x87 x88 x89 x90 x91 x92 x93 x94 x95 x96 x97 x98 : Value) {K : Act → World → Prop} {Q : Exit → Act → World → Prop}
    (hK : ∀ (y50 y51 y52 y53 y54 y55 y56 y57 y58 y59 y60 y61 y62 y63 y64 y65 y66 y67 y68 y69 y70 y71 y72 y73 y74 y75 y76 y77 y78 y79 y80 y81 y82 y83 : Value) (G : Nat) (w' : World), LAt w (recZs x) G w' → K ⟨#[x0, .pointer (some ⟨g, 0, none⟩), x2, x3, x4, .slice (some ⟨G, 0, none⟩) 11 11, x6, x7, x8, x9, x10, x11, x12, x13, x14, x15, x16, x17, x18, x19, x20, x21, x22, x23, x24, x25, x26, x27, x28, x29, x30, x31, x32, x33, x34, x35, x36, x37, x38, x39, x40, x41, x42, x43, x44, x45, x46, x47, x48, x49, y50, y51, y52, y53, y54, y55, y56, y57, y58, y59, y60, y61, y62, y63, y64, y65, y66, y67, y68, y69, y70, y71, y72, y73, y74, y75, y76, y77, y78, y79, y80, y81, y82, y83, x84, x85, x86, x87, x88, x89, x90, x91, x92, x93, x94, x95, x96, x97, x98], []⟩ w') : (regC 9 Tryz.f3).wp Tryz.prog (Exit.then K Q) ⟨#[x0, .pointer (some ⟨g, 0, none⟩), x2, x3, x4, x5, x6, x7, x8, x9, x10, x11, x12, x13, x14, x15, x16, x17, x18, x19, x20, x21, x22, x23, x24, x25, x26, x27, x28, x29, x30, x31, x32, x33, x34, x35, x36, x37, x38, x39, x40, x41, x42, x43, x44, x45, x46, x47, x48, x49, x50, x51, x52, x53, x54, x55, x56, x57, x58, x59, x60, x61, x62, x63, x64, x65, x66, x67, x68, x69, x70, x71, x72, x73, x74, x75, x76, x77, x78, x79, x80, x81, x82, x83, x84, x85, x86, x87, x88, x89, x90, x91, x92, x93, x94, x95, x96, x97, x98], []⟩ w := by
  obtain ⟨Z, hZ⟩ : ∃ Z, recZs x = Z := ⟨_, rfl⟩
  rw [hZ] at hK
  obtain ⟨nP0, nP1, nP2, nP3, nP4, nP5, nP6, nP7, nP8, nP9, nC0, nC1, uD0, lD0, nA0, nA1, nV0, nV1, uV2, lV2, bV3, nV4, bV5, nV6, uV7, lV7, uV8, lV8, uV9, lV9, uG0, lG0, nG1, uG2, lG2, uH0, lH0, nH1, nK0, nK1, nU0, nU1, nU2, nU3, nU4, nU5, nM0, nM1, nM2, nM3, nM4, nM5, uM6, lM6, nN0⟩ := x
  obtain ⟨aD0, cD0, hD0, _⟩ := (show RN w uD0 lD0 from hx.dD0.1).form
  subst hD0
  obtain ⟨aV2, cV2, hV2, _⟩ := (show RN w uV2 lV2 from hx.dV2.1).form
  subst hV2
  obtain ⟨aV7, cV7, hV7, _⟩ := (show RN w uV7 lV7 from hx.dV7.1).form
  subst hV7
  obtain ⟨aV8, cV8, hV8, _⟩ := (show RN w uV8 lV8 from hx.dV8.1).form
  subst hV8
  obtain ⟨aV9, cV9, hV9, _⟩ := (show RN w uV9 lV9 from hx.dV9.1).form
  subst hV9
  obtain ⟨aG0, cG0, hG0, _⟩ := (show RN w uG0 lG0 from hx.dG0.1).form
  subst hG0
  obtain ⟨aG2, cG2, hG2, _⟩ := (show RN w uG2 lG2 from hx.dG2.1).form
  subst hG2
  obtain ⟨aH0, cH0, hH0, _⟩ := (show RN w uH0 lH0 from hx.dH0.1).form
  subst hH0
  obtain ⟨aM6, cM6, hM6, _⟩ := (show RN w uM6 lM6 from hx.dM6.1).form
  subst hM6
  unfold Recs.cells at hg
  simp only at hg
  have hll := hl
  simp only [lightB, List.all_cons, List.all_nil, Bool.and_true, Bool.and_eq_true, decide_eq_true_eq] at hll
  have HKP := Lib.hid (fun (wy : World) (hm : Mods noB w wy) => params_rput (w := wy) (n0 := nP0) (n1 := nP1) (n2 := nP2) (n3 := nP3) (n4 := nP4) (n5 := nP5) (n6 := nP6) (n7 := nP7) (n8 := nP8) (n9 := nP9) (limC hx.nP0 (limC hx.nP1 (limC hx.nP2 (limC hx.nP3 (limC hx.nP4 (limC hx.nP5 (limC hx.nP6 (limC hx.nP7 (limC hx.nP8 (limC hx.nP9 limN)))))))))))
  have HKC := Lib.hid (fun (wy : World) (hm : Mods noB w wy) => chain_rput (w := wy) (n0 := nC0) (n1 := nC1) (limC hx.nC0 (limC hx.nC1 limN)))
  have HKD := Lib.hid (fun (wy : World) (hm : Mods noB w wy) => pool_rput (w := wy) (DN.keep (w := w) ⟨hx.dD0.1, hx.dD0.2.1, Nat.le_trans (hll.1) (by omega)⟩ hm))
  have HKA := Lib.hid (fun (wy : World) (hm : Mods noB w wy) => account_rput (w := wy) (n0 := nA0) (n1 := nA1) (limC hx.nA0 (limC hx.nA1 limN)))
  have HKV := Lib.hid (fun (wy : World) (hm : Mods noB w wy) => val_rput (w := wy) (n0 := nV0) (n1 := nV1) (b3 := bV3) (n4 := nV4) (b5 := bV5) (n6 := nV6) (limC hx.nV0 (limC hx.nV1 (limC hx.nV4 (limC hx.nV6 limN)))) (DN.keep (w := w) ⟨hx.dV2.1, hx.dV2.2.1, Nat.le_trans (hll.2.1) (by omega)⟩ hm) (DN.keep (w := w) ⟨hx.dV7.1, hx.dV7.2.1, Nat.le_trans (hll.2.2.1) (by omega)⟩ hm) (DN.keep (w := w) ⟨hx.dV8.1, hx.dV8.2.1, Nat.le_trans (hll.2.2.2.1) (by omega)⟩ hm) (DN.keep (w := w) ⟨hx.dV9.1, hx.dV9.2.1, Nat.le_trans (hll.2.2.2.2.1) (by omega)⟩ hm))
  have HKG := Lib.hid (fun (wy : World) (hm : Mods noB w wy) => delegation_rput (w := wy) (n1 := nG1) (limC hx.nG1 limN) (DN.keep (w := w) ⟨hx.dG0.1, hx.dG0.2.1, Nat.le_trans (hll.2.2.2.2.2.1) (by omega)⟩ hm) (DN.keep (w := w) ⟨hx.dG2.1, hx.dG2.2.1, Nat.le_trans (hll.2.2.2.2.2.2.1) (by omega)⟩ hm))
  have HKH := Lib.hid (fun (wy : World) (hm : Mods noB w wy) => history_rput (w := wy) (n1 := nH1) (limC hx.nH1 limN) (DN.keep (w := w) ⟨hx.dH0.1, hx.dH0.2.1, Nat.le_trans (hll.2.2.2.2.2.2.2.1) (by omega)⟩ hm))
  have HKK := Lib.hid (fun (wy : World) (hm : Mods noB w wy) => cut_rput (w := wy) (n0 := nK0) (n1 := nK1) (limC hx.nK0 (limC hx.nK1 limN)))
  have HKU := Lib.hid (fun (wy : World) (hm : Mods noB w wy) => unbonding_rput (w := wy) (n0 := nU0) (n1 := nU1) (n2 := nU2) (n3 := nU3) (n4 := nU4) (n5 := nU5) (limC hx.nU0 (limC hx.nU1 (limC hx.nU2 (limC hx.nU3 (limC hx.nU4 (limC hx.nU5 limN)))))))
  have HKM := Lib.hid (fun (wy : World) (hm : Mods noB w wy) => move_rput (w := wy) (n0 := nM0) (n1 := nM1) (n2 := nM2) (n3 := nM3) (n4 := nM4) (n5 := nM5) (limC hx.nM0 (limC hx.nM1 (limC hx.nM2 (limC hx.nM3 (limC hx.nM4 (limC hx.nM5 limN)))))) (DN.keep (w := w) ⟨hx.dM6.1, hx.dM6.2.1, Nat.le_trans (hll.2.2.2.2.2.2.2.2) (by omega)⟩ hm))
  have HKN := Lib.hid (fun (wy : World) (hm : Mods noB w wy) => one_rput (w := wy) (n0 := nN0) (limC hx.nN0 limN))
  have HZ := Lib.hid (show [recLay [⟨0, nP0, []⟩, ⟨0, nP1, []⟩, ⟨0, nP2, []⟩, ⟨0, nP3, []⟩, ⟨0, nP4, []⟩, ⟨0, nP5, []⟩, ⟨0, nP6, []⟩, ⟨0, nP7, []⟩, ⟨0, nP8, []⟩, ⟨0, nP9, []⟩], recLay [⟨0, nC0, []⟩, ⟨0, nC1, []⟩], recLay [⟨2, 0, lD0⟩], recLay [⟨0, nA0, []⟩, ⟨0, nA1, []⟩], recLay [⟨0, nV0, []⟩, ⟨0, nV1, []⟩, ⟨2, 0, lV2⟩, ⟨1, if bV3 then 1 else 0, []⟩, ⟨0, nV4, []⟩, ⟨1, if bV5 then 1 else 0, []⟩, ⟨0, nV6, []⟩, ⟨2, 0, lV7⟩, ⟨2, 0, lV8⟩, ⟨2, 0, lV9⟩], recLay [⟨2, 0, lG0⟩, ⟨0, nG1, []⟩, ⟨2, 0, lG2⟩], recLay [⟨2, 0, lH0⟩, ⟨0, nH1, []⟩], recLay [⟨0, nK0, []⟩, ⟨0, nK1, []⟩], recLay [⟨0, nU0, []⟩, ⟨0, nU1, []⟩, ⟨0, nU2, []⟩, ⟨0, nU3, []⟩, ⟨0, nU4, []⟩, ⟨0, nU5, []⟩], recLay [⟨0, nM0, []⟩, ⟨0, nM1, []⟩, ⟨0, nM2, []⟩, ⟨0, nM3, []⟩, ⟨0, nM4, []⟩, ⟨0, nM5, []⟩, ⟨2, 0, lM6⟩], recLay [⟨0, nN0, []⟩]] = Z from hZ)
  clear hZ
  generalize recLay [⟨0, nP0, []⟩, ⟨0, nP1, []⟩, ⟨0, nP2, []⟩, ⟨0, nP3, []⟩, ⟨0, nP4, []⟩, ⟨0, nP5, []⟩, ⟨0, nP6, []⟩, ⟨0, nP7, []⟩, ⟨0, nP8, []⟩, ⟨0, nP9, []⟩] = yP at HKP HZ
  generalize recLay [⟨0, nC0, []⟩, ⟨0, nC1, []⟩] = yC at HKC HZ
  generalize recLay [⟨2, 0, lD0⟩] = yD at HKD HZ
  generalize recLay [⟨0, nA0, []⟩, ⟨0, nA1, []⟩] = yA at HKA HZ
  generalize recLay [⟨0, nV0, []⟩, ⟨0, nV1, []⟩, ⟨2, 0, lV2⟩, ⟨1, if bV3 then 1 else 0, []⟩, ⟨0, nV4, []⟩, ⟨1, if bV5 then 1 else 0, []⟩, ⟨0, nV6, []⟩, ⟨2, 0, lV7⟩, ⟨2, 0, lV8⟩, ⟨2, 0, lV9⟩] = yV at HKV HZ
  generalize recLay [⟨2, 0, lG0⟩, ⟨0, nG1, []⟩, ⟨2, 0, lG2⟩] = yG at HKG HZ
  generalize recLay [⟨2, 0, lH0⟩, ⟨0, nH1, []⟩] = yH at HKH HZ
  generalize recLay [⟨0, nK0, []⟩, ⟨0, nK1, []⟩] = yK at HKK HZ
  generalize recLay [⟨0, nU0, []⟩, ⟨0, nU1, []⟩, ⟨0, nU2, []⟩, ⟨0, nU3, []⟩, ⟨0, nU4, []⟩, ⟨0, nU5, []⟩] = yU at HKU HZ
  generalize recLay [⟨0, nM0, []⟩, ⟨0, nM1, []⟩, ⟨0, nM2, []⟩, ⟨0, nM3, []⟩, ⟨0, nM4, []⟩, ⟨0, nM5, []⟩, ⟨2, 0, lM6⟩] = yM at HKM HZ
  generalize recLay [⟨0, nN0, []⟩] = yN at HKN HZ
  have O := Lib.hid (OL.nil w)
  have HG := Lib.hid hg
  have HQ := Lib.hid hK
  clear hx hl hll hg hK
  refine wp_tl (d := .region 9 (opsC 9 Tryz.f3) true) (by kernel_rfl) ?_
  refine wp_region_ord [(0, true), (1, true), (3, true), (4, true), (6, true), (7, true), (9, true), (10, true), (12, true), (13, true), (15, true), (16, true), (18, true), (19, true), (21, true), (22, true), (24, true), (25, true), (27, true), (28, true), (30, true), (31, true), (2, false), (5, false), (8, false), (11, false), (14, false), (17, false), (20, false), (23, false), (26, false), (29, false), (32, false), (33, false), (34, false)] (fun b => Mods noB w b) (by kernel_rfl) (by kernel_rfl) (by kernel_rfl) (by kernel_rfl) ((Mods.refl _ _).drew) ?_
  refine wpOrd_free (.pointer (some ⟨g, 0, none⟩)) (some 50) ⟨by kernel_rfl, by kernel_rfl, by kernel_rfl⟩ (fun _ _ => by kernel_rfl) ?_
  refine wpOrd_load (.tmp 50) (some 51) ⟨by kernel_rfl, by kernel_rfl, by kernel_rfl⟩ (fun b hb => load_part (off := 0) [.int .u64 nP0, .int .u64 nP1, .int .u64 nP2, .int .u64 nP3, .int .u64 nP4, .int .u64 nP5, .int .u64 nP6, .int .u64 nP7, .int .u64 nP8, .int .u64 nP9] (blk_step hb HG.out) Tryz.underlying24 rfl (by kernel_rfl) (by kernel_rfl)) (by kernel_rfl) (by kernel_rfl) ?_
  refine wpOrd_free (.pointer (some ⟨g, 10, none⟩)) (some 53) ⟨by kernel_rfl, by kernel_rfl, by kernel_rfl⟩ (fun _ _ => by kernel_rfl) ?_
  refine wpOrd_load (.tmp 53) (some 54) ⟨by kernel_rfl, by kernel_rfl, by kernel_rfl⟩ (fun b hb => load_part (off := 10) [.int .u64 nC0, .int .u64 nC1] (blk_step hb HG.out) Tryz.underlying26 rfl (by kernel_rfl) (by kernel_rfl)) (by kernel_rfl) (by kernel_rfl) ?_
  refine wpOrd_free (.pointer (some ⟨g, 12, none⟩)) (some 56) ⟨by kernel_rfl, by kernel_rfl, by kernel_rfl⟩ (fun _ _ => by kernel_rfl) ?_
  refine wpOrd_load (.tmp 56) (some 57) ⟨by kernel_rfl, by kernel_rfl, by kernel_rfl⟩ (fun b hb => load_part (off := 12) [.slice aD0 lD0.length cD0] (blk_step hb HG.out) Tryz.underlying30 rfl (by kernel_rfl) (by kernel_rfl)) (by kernel_rfl) (by kernel_rfl) ?_
  refine wpOrd_free (.pointer (some ⟨g, 13, none⟩)) (some 59) ⟨by kernel_rfl, by kernel_rfl, by kernel_rfl⟩ (fun _ _ => by kernel_rfl) ?_
  refine wpOrd_load (.tmp 59) (some 60) ⟨by kernel_rfl, by kernel_rfl, by kernel_rfl⟩ (fun b hb => load_part (off := 13) [.int .u64 nA0, .int .u64 nA1] (blk_step hb HG.out) Tryz.underlying32 rfl (by kernel_rfl) (by kernel_rfl)) (by kernel_rfl) (by kernel_rfl) ?_
  refine wpOrd_free (.pointer (some ⟨g, 15, none⟩)) (some 62) ⟨by kernel_rfl, by kernel_rfl, by kernel_rfl⟩ (fun _ _ => by kernel_rfl) ?_
  refine wpOrd_load (.tmp 62) (some 63) ⟨by kernel_rfl, by kernel_rfl, by kernel_rfl⟩ (fun b hb => load_part (off := 15) [.int .u64 nV0, .int .u64 nV1, .slice aV2 lV2.length cV2, .bool bV3, .int .u64 nV4, .bool bV5, .int .u64 nV6, .slice aV7 lV7.length cV7, .slice aV8 lV8.length cV8, .slice aV9 lV9.length cV9] (blk_step hb HG.out) Tryz.underlying34 rfl (by kernel_rfl) (by kernel_rfl)) (by kernel_rfl) (by kernel_rfl) ?_
  refine wpOrd_free (.pointer (some ⟨g, 25, none⟩)) (some 65) ⟨by kernel_rfl, by kernel_rfl, by kernel_rfl⟩ (fun _ _ => by kernel_rfl) ?_
  refine wpOrd_load (.tmp 65) (some 66) ⟨by kernel_rfl, by kernel_rfl, by kernel_rfl⟩ (fun b hb => load_part (off := 25) [.slice aG0 lG0.length cG0, .int .u64 nG1, .slice aG2 lG2.length cG2] (blk_step hb HG.out) Tryz.underlying36 rfl (by kernel_rfl) (by kernel_rfl)) (by kernel_rfl) (by kernel_rfl) ?_
  refine wpOrd_free (.pointer (some ⟨g, 28, none⟩)) (some 68) ⟨by kernel_rfl, by kernel_rfl, by kernel_rfl⟩ (fun _ _ => by kernel_rfl) ?_
  refine wpOrd_load (.tmp 68) (some 69) ⟨by kernel_rfl, by kernel_rfl, by kernel_rfl⟩ (fun b hb => load_part (off := 28) [.slice aH0 lH0.length cH0, .int .u64 nH1] (blk_step hb HG.out) Tryz.underlying38 rfl (by kernel_rfl) (by kernel_rfl)) (by kernel_rfl) (by kernel_rfl) ?_
  refine wpOrd_free (.pointer (some ⟨g, 30, none⟩)) (some 71) ⟨by kernel_rfl, by kernel_rfl, by kernel_rfl⟩ (fun _ _ => by kernel_rfl) ?_
  refine wpOrd_load (.tmp 71) (some 72) ⟨by kernel_rfl, by kernel_rfl, by kernel_rfl⟩ (fun b hb => load_part (off := 30) [.int .u64 nK0, .int .u64 nK1] (blk_step hb HG.out) Tryz.underlying40 rfl (by kernel_rfl) (by kernel_rfl)) (by kernel_rfl) (by kernel_rfl) ?_
  refine wpOrd_free (.pointer (some ⟨g, 32, none⟩)) (some 74) ⟨by kernel_rfl, by kernel_rfl, by kernel_rfl⟩ (fun _ _ => by kernel_rfl) ?_
  refine wpOrd_load (.tmp 74) (some 75) ⟨by kernel_rfl, by kernel_rfl, by kernel_rfl⟩ (fun b hb => load_part (off := 32) [.int .u64 nU0, .int .u64 nU1, .int .u64 nU2, .int .u64 nU3, .int .u64 nU4, .int .u64 nU5] (blk_step hb HG.out) Tryz.underlying42 rfl (by kernel_rfl) (by kernel_rfl)) (by kernel_rfl) (by kernel_rfl) ?_
  refine wpOrd_free (.pointer (some ⟨g, 38, none⟩)) (some 77) ⟨by kernel_rfl, by kernel_rfl, by kernel_rfl⟩ (fun _ _ => by kernel_rfl) ?_
  refine wpOrd_load (.tmp 77) (some 78) ⟨by kernel_rfl, by kernel_rfl, by kernel_rfl⟩ (fun b hb => load_part (off := 38) [.int .u64 nM0, .int .u64 nM1, .int .u64 nM2, .int .u64 nM3, .int .u64 nM4, .int .u64 nM5, .slice aM6 lM6.length cM6] (blk_step hb HG.out) Tryz.underlying44 rfl (by kernel_rfl) (by kernel_rfl)) (by kernel_rfl) (by kernel_rfl) ?_
  refine wpOrd_free (.pointer (some ⟨g, 45, none⟩)) (some 80) ⟨by kernel_rfl, by kernel_rfl, by kernel_rfl⟩ (fun _ _ => by kernel_rfl) ?_
  refine wpOrd_load (.tmp 80) (some 81) ⟨by kernel_rfl, by kernel_rfl, by kernel_rfl⟩ (fun b hb => load_one (off := 45) (blk_step hb HG.out) Tryz.underlying22 rfl (v := .int .u64 nN0) (by kernel_rfl)) (by kernel_rfl) (by kernel_rfl) ?_
  refine wpOrd_call (some 52) ⟨by kernel_rfl, by kernel_rfl, by kernel_rfl⟩ (HKP.out _ ((Mods.refl _ _).drew)) (fun _ => by kernel_rfl) ?_
  rintro r wP ⟨vP, rfl, o1, o2, o3⟩
  obtain ⟨sP, tP, rfl, _⟩ := o1.rd.form
  replace O := Lib.hid (O.out.push ((Mods.refl _ _).drew) o1 o2 o3)
  refine ⟨_, rfl, O.out.mods, ?_⟩
  clear o1 o2 o3
  refine wpOrd_call (some 55) ⟨by kernel_rfl, by kernel_rfl, by kernel_rfl⟩ (HKC.out _ (O.out.mods)) (fun _ => by kernel_rfl) ?_
  rintro r wC ⟨vC, rfl, o1, o2, o3⟩
  obtain ⟨sC, tC, rfl, _⟩ := o1.rd.form
  replace O := Lib.hid (O.out.push (Mods.refl _ _) o1 o2 o3)
  refine ⟨_, rfl, O.out.mods, ?_⟩
  clear o1 o2 o3
  refine wpOrd_call (some 58) ⟨by kernel_rfl, by kernel_rfl, by kernel_rfl⟩ (HKD.out _ (O.out.mods)) (fun _ => by kernel_rfl) ?_
  rintro r wD ⟨vD, rfl, o1, o2, o3⟩
  obtain ⟨sD, tD, rfl, _⟩ := o1.rd.form
  replace O := Lib.hid (O.out.push (Mods.refl _ _) o1 o2 o3)
  refine ⟨_, rfl, O.out.mods, ?_⟩
  clear o1 o2 o3
  refine wpOrd_call (some 61) ⟨by kernel_rfl, by kernel_rfl, by kernel_rfl⟩ (HKA.out _ (O.out.mods)) (fun _ => by kernel_rfl) ?_
  rintro r wA ⟨vA, rfl, o1, o2, o3⟩
  obtain ⟨sA, tA, rfl, _⟩ := o1.rd.form
  replace O := Lib.hid (O.out.push (Mods.refl _ _) o1 o2 o3)
  refine ⟨_, rfl, O.out.mods, ?_⟩
  clear o1 o2 o3
  refine wpOrd_call (some 64) ⟨by kernel_rfl, by kernel_rfl, by kernel_rfl⟩ (HKV.out _ (O.out.mods)) (fun _ => by kernel_rfl) ?_
  rintro r wV ⟨vV, rfl, o1, o2, o3⟩
  obtain ⟨sV, tV, rfl, _⟩ := o1.rd.form
  replace O := Lib.hid (O.out.push (Mods.refl _ _) o1 o2 o3)
  refine ⟨_, rfl, O.out.mods, ?_⟩
  clear o1 o2 o3
  refine wpOrd_call (some 67) ⟨by kernel_rfl, by kernel_rfl, by kernel_rfl⟩ (HKG.out _ (O.out.mods)) (fun _ => by kernel_rfl) ?_
  rintro r wG ⟨vG, rfl, o1, o2, o3⟩
  obtain ⟨sG, tG, rfl, _⟩ := o1.rd.form
  replace O := Lib.hid (O.out.push (Mods.refl _ _) o1 o2 o3)
  refine ⟨_, rfl, O.out.mods, ?_⟩
  clear o1 o2 o3
  refine wpOrd_call (some 70) ⟨by kernel_rfl, by kernel_rfl, by kernel_rfl⟩ (HKH.out _ (O.out.mods)) (fun _ => by kernel_rfl) ?_
  rintro r wH ⟨vH, rfl, o1, o2, o3⟩
  obtain ⟨sH, tH, rfl, _⟩ := o1.rd.form
  replace O := Lib.hid (O.out.push (Mods.refl _ _) o1 o2 o3)
  refine ⟨_, rfl, O.out.mods, ?_⟩
  clear o1 o2 o3
  refine wpOrd_call (some 73) ⟨by kernel_rfl, by kernel_rfl, by kernel_rfl⟩ (HKK.out _ (O.out.mods)) (fun _ => by kernel_rfl) ?_
  rintro r wK ⟨vK, rfl, o1, o2, o3⟩
  obtain ⟨sK, tK, rfl, _⟩ := o1.rd.form
  replace O := Lib.hid (O.out.push (Mods.refl _ _) o1 o2 o3)
  refine ⟨_, rfl, O.out.mods, ?_⟩
  clear o1 o2 o3
  refine wpOrd_call (some 76) ⟨by kernel_rfl, by kernel_rfl, by kernel_rfl⟩ (HKU.out _ (O.out.mods)) (fun _ => by kernel_rfl) ?_
  rintro r wU ⟨vU, rfl, o1, o2, o3⟩
  obtain ⟨sU, tU, rfl, _⟩ := o1.rd.form
  replace O := Lib.hid (O.out.push (Mods.refl _ _) o1 o2 o3)
  refine ⟨_, rfl, O.out.mods, ?_⟩
  clear o1 o2 o3
  refine wpOrd_call (some 79) ⟨by kernel_rfl, by kernel_rfl, by kernel_rfl⟩ (HKM.out _ (O.out.mods)) (fun _ => by kernel_rfl) ?_
  rintro r wM ⟨vM, rfl, o1, o2, o3⟩
  obtain ⟨sM, tM, rfl, _⟩ := o1.rd.form
  replace O := Lib.hid (O.out.push (Mods.refl _ _) o1 o2 o3)
  refine ⟨_, rfl, O.out.mods, ?_⟩
  clear o1 o2 o3
  refine wpOrd_call (some 82) ⟨by kernel_rfl, by kernel_rfl, by kernel_rfl⟩ (HKN.out _ (O.out.mods)) (fun _ => by kernel_rfl) ?_
  rintro r wN ⟨vN, rfl, o1, o2, o3⟩
  obtain ⟨sN, tN, rfl, _⟩ := o1.rd.form
  replace O := Lib.hid (O.out.push (Mods.refl _ _) o1 o2 o3)
  refine ⟨_, rfl, O.out.mods, ?_⟩
  clear o1 o2 o3
  have A := Lib.hid (SL.mk0 (show OL w [(.slice sP yP.length tP, yP), (.slice sC yC.length tC, yC), (.slice sD yD.length tD, yD), (.slice sA yA.length tA, yA), (.slice sV yV.length tV, yV), (.slice sG yG.length tG, yG), (.slice sH yH.length tH, yH), (.slice sK yK.length tK, yK), (.slice sU yU.length tU, yU), (.slice sM yM.length tM, yM), (.slice sN yN.length tN, yN)] wN from O.out) (Mods.refl _ _) (cs := #[.slice sP yP.length tP, .slice sC yC.length tC, .slice sD yD.length tD, .slice sA yA.length tA, .slice sV yV.length tV, .slice sG yG.length tG, .slice sH yH.length tH, .slice sK yK.length tK, .slice sU yU.length tU, .slice sM yM.length tM, .slice sN yN.length tN]) rfl)
  refine wpOrd_run (.slice (some ⟨wN.heap.size, 0, none⟩) 11 11) (wN.alloc (.cells #[.slice sP yP.length tP, .slice sC yC.length tC, .slice sD yD.length tD, .slice sA yA.length tA, .slice sV yV.length tV, .slice sG yG.length tG, .slice sH yH.length tH, .slice sK yK.length tK, .slice sU yU.length tU, .slice sM yM.length tM, .slice sN yN.length tN] 49)) (some 83) ⟨by kernel_rfl, by kernel_rfl, by kernel_rfl⟩ (by kernel_rfl) A.out.mods ?_
  refine wpOrd_run (.slice (some ⟨wN.heap.size, 0, none⟩) 11 11) (wN.alloc (.cells #[.slice sP yP.length tP, .slice sC yC.length tC, .slice sD yD.length tD, .slice sA yA.length tA, .slice sV yV.length tV, .slice sG yG.length tG, .slice sH yH.length tH, .slice sK yK.length tK, .slice sU yU.length tU, .slice sM yM.length tM, .slice sN yN.length tN] 49)) (some 5) ⟨by kernel_rfl, by kernel_rfl, by kernel_rfl⟩ (by kernel_rfl) A.out.mods ?_
  refine wpOrd_done (show K _ _ from ?_)
  exact act_is (by kernel_rfl) (HQ.out (.pointer (some ⟨g, 0, none⟩)) (.agg #[.int .u64 nP0, .int .u64 nP1, .int .u64 nP2, .int .u64 nP3, .int .u64 nP4, .int .u64 nP5, .int .u64 nP6, .int .u64 nP7, .int .u64 nP8, .int .u64 nP9]) (.slice sP yP.length tP) (.pointer (some ⟨g, 10, none⟩)) (.agg #[.int .u64 nC0, .int .u64 nC1]) (.slice sC yC.length tC) (.pointer (some ⟨g, 12, none⟩)) (.agg #[.slice aD0 lD0.length cD0]) (.slice sD yD.length tD) (.pointer (some ⟨g, 13, none⟩)) (.agg #[.int .u64 nA0, .int .u64 nA1]) (.slice sA yA.length tA) (.pointer (some ⟨g, 15, none⟩)) (.agg #[.int .u64 nV0, .int .u64 nV1, .slice aV2 lV2.length cV2, .bool bV3, .int .u64 nV4, .bool bV5, .int .u64 nV6, .slice aV7 lV7.length cV7, .slice aV8 lV8.length cV8, .slice aV9 lV9.length cV9]) (.slice sV yV.length tV) (.pointer (some ⟨g, 25, none⟩)) (.agg #[.slice aG0 lG0.length cG0, .int .u64 nG1, .slice aG2 lG2.length cG2]) (.slice sG yG.length tG) (.pointer (some ⟨g, 28, none⟩)) (.agg #[.slice aH0 lH0.length cH0, .int .u64 nH1]) (.slice sH yH.length tH) (.pointer (some ⟨g, 30, none⟩)) (.agg #[.int .u64 nK0, .int .u64 nK1]) (.slice sK yK.length tK) (.pointer (some ⟨g, 32, none⟩)) (.agg #[.int .u64 nU0, .int .u64 nU1, .int .u64 nU2, .int .u64 nU3, .int .u64 nU4, .int .u64 nU5]) (.slice sU yU.length tU) (.pointer (some ⟨g, 38, none⟩)) (.agg #[.int .u64 nM0, .int .u64 nM1, .int .u64 nM2, .int .u64 nM3, .int .u64 nM4, .int .u64 nM5, .slice aM6 lM6.length cM6]) (.slice sM yM.length tM) (.pointer (some ⟨g, 45, none⟩)) (.int .u64 nN0) (.slice sN yN.length tN) (.slice (some ⟨wN.heap.size, 0, none⟩) 11 11) wN.heap.size _ ⟨[(.slice sP yP.length tP, yP), (.slice sC yC.length tC, yC), (.slice sD yD.length tD, yD), (.slice sA yA.length tA, yA), (.slice sV yV.length tV, yV), (.slice sG yG.length tG, yG), (.slice sH yH.length tH, yH), (.slice sK yK.length tK, yK), (.slice sU yU.length tU, yU), (.slice sM yM.length tM, yM), (.slice sN yN.length tN, yN)], HZ.out, A.out⟩)


set_option maxHeartbeats 4000000 in
theorem walk (x : Recs) (w : World) (hx : x.At w) :
    Calls Tryz.prog 3 #[.agg x.cells] w fun e w' => e = .returned (.bool true) ∧ Below w.heap.size w w' := by
  obtain ⟨cs, hcs⟩ : ∃ cs, x.cells = cs := ⟨_, rfl⟩
  rw [hcs]
  have hsz : cs.size = 46 := by rw [← hcs]; rfl
  have P := Lib.hid (put_box w cs 46 _ rfl)
  have HX := Lib.hid hx
  have HC := Lib.hid hcs
  clear hx hcs
  go_enter Tryz.func3, Tryz.ntmps3
  refine wp_seq_h fun K HK => ?_
  go_wp2
  generalize World.alloc w _ = w1 at *
  refine HK.out _ _ ?_
  clear K HK
  refine wp_seq_h fun K HK => ?_
  go_wp2_with fail
  refine (rknown_any _).mono ?_
  rintro e w2 ⟨rfl, m2⟩
  have M := Lib.hid (P.out.2.1.then0 m2)
  have B := Lib.hid (blk_step m2 P.out.1)
  clear m2
  go_wp2
  refine HK.out _ _ ?_
  clear K HK
  refine wp_seq_h fun K HK => ?_
  refine wp_seq_h fun K2 HK2 => ?_
  refine wp_tl (d := .region 3 (opsC 3 Tryz.f3) false) (by kernel_rfl) ?_
  refine wp_region_lin [(0, false), (1, false), (2, false)] (by kernel_rfl) ?_
  refine wpOrd_loadB (.tmp 1) (some 9) ⟨by kernel_rfl, by kernel_rfl, by kernel_rfl⟩ (load_part (off := 0) cs.toList B.out Tryz.underlying46 rfl (by rw [Array.length_toList, hsz]; kernel_rfl) (by rw [List.drop_zero, List.take_length])) (by kernel_rfl) (by kernel_rfl) trivial ?_
  refine wpOrd_call (some 10) ⟨by kernel_rfl, by kernel_rfl, by kernel_rfl⟩ (light_any x (HX.out.keep M.out)) (fun _ => by rw [HC.out]; kernel_rfl) ?_
  rintro r w3 ⟨rfl, m3⟩
  replace B := Lib.hid (blk_step m3 B.out)
  replace M := Lib.hid (M.out.then0 m3)
  refine ⟨_, rfl, trivial, ?_⟩
  clear m3
  rcases hl : lightB x with _ | _
  · refine wpOrd_run (.bool true) w3 (some 11) ⟨by kernel_rfl, by kernel_rfl, by kernel_rfl⟩ (by kernel_rfl) trivial ?_
    refine HK2.out _ _ ?_
    simp only [Act.put, List.setIfInBounds_toArray, List.set_cons_zero, List.set_cons_succ, Array.toArray_toList]
    go_wp2
    go_ret
    exact ⟨rfl, M.out.below⟩
  refine wpOrd_run (.bool false) w3 (some 11) ⟨by kernel_rfl, by kernel_rfl, by kernel_rfl⟩ (by kernel_rfl) trivial ?_
  refine HK2.out _ _ ?_
  clear K2 HK2
  simp only [Act.put, List.setIfInBounds_toArray, List.set_cons_zero, List.set_cons_succ, Array.toArray_toList]
  go_wp2
  refine HK.out _ _ ?_
  clear K HK
  refine wp_seq_h fun K HK => ?_
  go_wp2
  have M0 := Lib.hid (Mods.refl noB w3)
  go_loopw [3] (fun i wr => ∃ k : Nat, k ≤ 2 ∧ i = .int .i64 k ∧ Hid (Mods noB w3 wr)) (fun i _ => 2 - (intOf i).toNat)
  case atStart => exact ⟨0, Nat.zero_le _, rfl, M0⟩
  case round =>
    obtain ⟨k, hk, rfl, hR⟩ := hrel
    clear M0
    by_cases hlt : k < 2
    · go_wp2
      have hg : wr.heap[w.heap.size]? = some (.cells x.cells 46 (0, 0)) := by rw [HC.out]; exact blk_step hR.out B.out
      refine wp_tl (d := regC 8 Tryz.f3) (by kernel_rfl) ?_
      refine puts8 x (HX.out.keep (M.out.then0 hR.out)) hl hg _ _ _ _ _ _ _ _ _ _ _ _ _ _ _ _ _ _ _ _ _ _ _ _ _ _ _ _ _ _ _ _ _ _ _ _ _ _ _ _ _ _ _ _ _ _ _ _ _ _ _ _ _ _ _ _ _ _ _ _ _ _ _ _ _ _ _ _ _ _ _ _ _ _ _ _ _ _ _ _ _ _ _ _ _ _ _ _ _ _ _ _ _ _ _ _ _ _ ?_
      intro y16 y17 y18 y19 y20 y21 y22 y23 y24 y25 y26 y27 y28 y29 y30 y31 y32 y33 y34 y35 y36 y37 y38 y39 y40 y41 y42 y43 y44 y45 y46 y47 y48 y49 G w4 h4
      have A4 := Lib.hid h4
      have hg4 := blk_step h4.mods hg
      have HX4 := Lib.hid (HX.out.keep ((M.out.then0 hR.out).then0 h4.mods))
      clear h4 hg
      go_wp2
      refine wp_tl (d := regC 9 Tryz.f3) (by kernel_rfl) ?_
      refine puts9 x HX4.out hl hg4 _ _ _ _ _ _ _ _ _ _ _ _ _ _ _ _ _ _ _ _ _ _ _ _ _ _ _ _ _ _ _ _ _ _ _ _ _ _ _ _ _ _ _ _ _ _ _ _ _ _ _ _ _ _ _ _ _ _ _ _ _ _ _ _ _ _ _ _ _ _ _ _ _ _ _ _ _ _ _ _ _ _ _ _ _ _ _ _ _ _ _ _ _ _ _ _ _ _ ?_
      intro y50 y51 y52 y53 y54 y55 y56 y57 y58 y59 y60 y61 y62 y63 y64 y65 y66 y67 y68 y69 y70 y71 y72 y73 y74 y75 y76 y77 y78 y79 y80 y81 y82 y83 G2 w5 h5
      have A5 := Lib.hid h5
      replace A4 := Lib.hid (A4.out.keep h5.mods)
      clear h5 hg4
      go_wp2_with fail
      refine (items_true (recZs x) (A4.out.items rfl (Nat.le_of_ble_eq_true rfl)) (A5.out.items rfl (Nat.le_of_ble_eq_true rfl))).mono ?_
      rintro r w6 ⟨rfl, m6⟩
      replace A4 := Lib.hid (A4.out.keep m6)
      clear A5 m6 HX4
      obtain ⟨ps, hps, hs⟩ := A4.out
      have hlen := congrArg List.length hps
      rw [List.length_map] at hlen
      have HL := Lib.hid (show ps.length = 11 from hlen)
      clear hlen
      have S0 := Lib.hid hs
      clear hps hs A4
      go_wp2
      go_loopw [6] (fun i wz => ∃ j : Nat, j ≤ 11 ∧ i = .int .i64 j ∧ Hid (SL wr G ps j wz)) (fun i _ => 11 - (intOf i).toNat)
      case atStart => exact ⟨0, Nat.zero_le _, rfl, S0⟩
      case round =>
        obtain ⟨j, hj, rfl, hS⟩ := hrel
        clear S0
        by_cases hlt2 : j < 11
        · have lj : j < ps.length := by rw [HL.out]; exact hlt2
          have c1 := hS.out.cell lj
          have o1 := hS.out.own j lj (Nat.le_refl _)
          obtain ⟨va, vc, hv, _⟩ := o1.rd.form
          rw [hv] at c1
          have SP := Lib.hid (Spoil_any o1)
          have ST := Lib.hid (fun (w' : World) (m : Mods (ofV ps[j].1) wr w') => hS.out.step lj m)
          rw [hv] at SP
          clear o1
          go_wp2_with fail
          refine SP.out.mono ?_
          rintro r w7 ⟨rfl, m7⟩
          rw [← hv] at m7
          have S1 := Lib.hid (ST.out w7 m7)
          clear m7 SP ST hv
          go_wp2
          go_roundw
          case rel => exact ⟨j + 1, by omega, by go_num, S1⟩
          case measure => simp [intOf]; omega
        · have MR := Lib.hid (hR.out.then0 hS.out.mods)
          go_wp2
          go_roundw
          case rel => exact ⟨k + 1, by omega, by go_num, MR⟩
          case measure => simp [intOf]; omega
    · go_wp2
      refine HK.out _ _ ?_
      go_wp2
      go_ret
      exact ⟨rfl, (M.out.then0 hR.out).below⟩


theorem lifted (os : Os) (started : os.Started) (H : Type) (enc : TypeId × Value → H) :
    ReturnsInHanded {} Tryz.checked os 3 .any (Rows.recPutsSpec.pre6 enc Tryz.prog Tryz.f3 Rows.recPutsRow.domain false) (Rows.recPutsSpec.post enc Tryz.prog Tryz.f3 false true false false) := by
  refine returnsInHanded_of_change_sized (C := Tryz.checked) own started (by kernel_rfl) Tryz.func3
    (ChangeSpec.witness6 (enc := enc) (C := Tryz.checked) false ⟨#[], #[.agg #[.int .u64 0, .int .u64 0, .int .u64 0, .int .u64 0, .int .u64 0, .int .u64 0, .int .u64 0, .int .u64 0, .int .u64 0, .int .u64 0, .int .u64 0, .int .u64 0, .slice none 0 0, .int .u64 0, .int .u64 0, .int .u64 0, .int .u64 0, .slice none 0 0, .bool false, .int .u64 0, .bool false, .int .u64 0, .slice none 0 0, .slice none 0 0, .slice none 0 0, .slice none 0 0, .int .u64 0, .slice none 0 0, .slice none 0 0, .int .u64 0, .int .u64 0, .int .u64 0, .int .u64 0, .int .u64 0, .int .u64 0, .int .u64 0, .int .u64 0, .int .u64 0, .int .u64 0, .int .u64 0, .int .u64 0, .int .u64 0, .int .u64 0, .int .u64 0, .slice none 0 0, .int .u64 0]], []⟩ 8 (by kernel_rfl) (by kernel_rfl) (by kernel_rfl) (by kernel_rfl)) ?_
  intro W base args ds gs before hval0 hW hcnd hsz _
  have hval : ∀ (j : Nat) t v, Tryz.f3.params[j]? = some t → args[j]? = some v → Value.okWide Tryz.prog W .any base t v := hval0
  have hW' := hW
  obtain ⟨p, q, hA0, hV, rfl, hfz, hnd⟩ := hW
  have hA : DataW.TrodAll enc Tryz.prog W 0 (fun _ => true) true Tryz.f3.params.toList args.toList ds p := hA0
  replace hsz : (DataW.weightsEach Tryz.prog (Tryz.f3.params.toList ++ Rows.recPutsSpec.plain.varTypes Tryz.prog) (ds ++ gs)).all (· ≤ reachBytes) = true := hsz
  rw [Tryz.params3] at hA hval hsz
  obtain ⟨v0, vs0, d0, ds0, p0, q0, hargs, rfl, rfl, h0, r0⟩ := trodAll_cons hA
  obtain ⟨rfl, rfl, rfl⟩ := trodAll_nil r0
  obtain rfl : args = #[v0] := by cases args; simp_all
  obtain ⟨rfl, rfl⟩ := trodVars_none hV
  have sz : ∀ (j : Nat) t (d : DataW H), ([46] ++ Rows.recPutsSpec.plain.varTypes Tryz.prog)[j]? = some t → ([d0] ++ ([] : List (DataW H)))[j]? = some d → ∀ q ∈ d.weights Tryz.prog t, q ≤ reachBytes := by
    intro j t d ht hd q hq
    have := List.all_eq_true.1 hsz q (DataW.weights_mem_each ht hd q hq)
    simpa using this
  obtain ⟨x0, rfl, k0⟩ := recs_of_arg (hval 0 46 v0 rfl rfl) h0 (sz 0 _ d0 rfl rfl)
  have j0 := h0
  have lt0 : ∀ x ∈ p0, x.block < W.heap.size := by obtain ⟨m, hm⟩ := j0; exact DataW.trod_lt m _ _ _ hm
  clear hA0 hval0
  refine (walk  x0 W k0).mono fun e W' ⟨he, bel⟩ => ?_
  subst he
  exact ⟨_, rfl, _, _, _, [], _, [], hW', trodAll_mk1 (shut_bool Tryz.underlying4 _), (trodAll_cons_mk (Below.trod laidOut (by kernel_rfl) (of_decide_eq_true (by kernel_rfl)) j0 bel lt0) trodAll_mk0), rfl, bel.frame _, fun h => by cases h⟩

theorem over : Rows.recPutsRow.holds Tryz.pinned (OpenSpec.ofChange Rows.recPutsSpec) :=
  OpenClaim.holds_of_wide 3 Tryz.f3 rfl rfl rfl rfl rfl rfl rfl ⟨rfl, rfl, rfl, rfl, rfl⟩ rfl rfl rfl rfl rfl (by kernel_rfl) Tryz.func3 (by kernel_rfl)
    (of_decide_eq_true (by kernel_rfl)) (by unfold Func.isWrapper; first | (rw [if_pos (by decide +kernel)]; kernel_rfl) | (rw [if_neg (by decide +kernel)]; exact ⟨rfl, rfl⟩))
    (fun os started H enc _ => lifted os started H enc)

theorem proved : Rows.RecPutsSaid := over
#print axioms proved
end Go.Proofs.YtnkbbclcileleaaGreat.recPuts

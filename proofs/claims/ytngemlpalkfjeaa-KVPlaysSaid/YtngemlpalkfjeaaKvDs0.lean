/- gleanlaw6.does, KVPlays: their drawn regions (printed by gen_kvds.py). -/
import Derived.Test.YtngemlpalkfjeaaR6W
import Derived.Test.YtngemlpalkfjeaaKvL0
namespace Go.Proofs.Ytngemlpalkfjeaa
open Go.Gl Go.RowKit
set_option linter.unusedVariables false
set_option linter.unusedSimpArgs false
set_option maxRecDepth 100000
theorem run_eqlB (b : World) (E : Bool) : (binOp .eql 4 (.bool E) (.bool E)).run Try.prog b = .ok (.bool true) b := by
  cases E <;> kernel_rfl
set_option maxHeartbeats 1000000 in
theorem kds1 {w : World} {xb : Nat} {what sn : Int} {kv vv : Value} {ks vs : List UInt8} (hx : w.heap[xb]? = some (.cells #[.int .i64 what, .int .i64 sn, kv, vv] 34 (0, 0))) (C1 : ∀ b', Mods noB w b' → Calls Try.prog 32 #[kv] b' fun e w' => ∃ v', e = .returned v' ∧ Gl.Own w' v' ks ∧ Mods noB b' w' ∧ freshIn b' v') (C2 : ∀ b', Mods noB w b' → Calls Try.prog 32 #[vv] b' fun e w' => ∃ v', e = .returned v' ∧ Gl.Own w' v' vs ∧ Mods noB b' w' ∧ freshIn b' v') {x0 x1 x2 x3 x4 x6 x7 x8 x9 x10 x11 x12 x13 x14 x15 x16 x17 x18 x19 x20 x21 x22 x23 x24 x25 x26 x27 x28 x29 x30 x31 x32 x33 x34 x35 x36 x37 x38 x39 x40 x41 x42 x43 x44 x45 x46 x47 x48 x49 x50 x51 x52 x53 x54 x55 x56 x57 x58 x59 x60 x61 x62 x63 x64 x65 x66 x67 x68 x69 x70 x71 x72 x73 x74 x75 x76 x77 x78 x79 x80 x81 x82 x83 x84 x85 x86 x87 x88 x89 x90 x91 x92 x93 x94 x95 x96 x97 x98 x99 x100 x101 x102 x103 x104 x105 x106 x107 x108 x109 x110 x111 x112 x113 x114 x115 x116 x117 x118 x119 x120 x121 x122 x123 x124 x125 x126 x127 x128 x129 x130 x131 x132 x133 x134 x135 x136 x137 x138 x139 x140 x141 x142 x143 x144 x145 x146 x147 x148 x149 x150 x151 x152 x153 x154 x155 x156 x157 x158 x159 x160 x161 x162 x163 x164 x165 : Value} {df : List Deferred} {Q : Exit → Act → World → Prop}
    (hK : ∀ (y18 y19 y20 y21 y22 y23 : Value) (a7 : Option Addr) (c7 : Nat) (a8 : Option Addr) (c8 : Nat) (w' : World), Gl.Own w' (.slice a7 ks.length c7) ks → Gl.Own w' (.slice a8 vs.length c8) vs → freshIn w (.slice a7 ks.length c7) → freshIn w (.slice a8 vs.length c8) → (∀ k, ofV (.slice a7 ks.length c7) k → ¬ ofV (.slice a8 vs.length c8) k) → Mods noB w w' → Q .normal ⟨#[x0, x1, x2, x3, x4, .pointer (some ⟨xb, 0, none⟩), x6, .slice a7 ks.length c7, .slice a8 vs.length c8, x9, x10, x11, x12, x13, x14, x15, x16, x17, y18, y19, y20, y21, y22, y23, x24, x25, x26, x27, x28, x29, x30, x31, x32, x33, x34, x35, x36, x37, x38, x39, x40, x41, x42, x43, x44, x45, x46, x47, x48, x49, x50, x51, x52, x53, x54, x55, x56, x57, x58, x59, x60, x61, x62, x63, x64, x65, x66, x67, x68, x69, x70, x71, x72, x73, x74, x75, x76, x77, x78, x79, x80, x81, x82, x83, x84, x85, x86, x87, x88, x89, x90, x91, x92, x93, x94, x95, x96, x97, x98, x99, x100, x101, x102, x103, x104, x105, x106, x107, x108, x109, x110, x111, x112, x113, x114, x115, x116, x117, x118, x119, x120, x121, x122, x123, x124, x125, x126, x127, x128, x129, x130, x131, x132, x133, x134, x135, x136, x137, x138, x139, x140, x141, x142, x143, x144, x145, x146, x147, x148, x149, x150, x151, x152, x153, x154, x155, x156, x157, x158, x159, x160, x161, x162, x163, x164, x165], df⟩ w') : RW Try.prog (opsC 1 Try.f13) true Q ⟨#[x0, x1, x2, x3, x4, .pointer (some ⟨xb, 0, none⟩), x6, x7, x8, x9, x10, x11, x12, x13, x14, x15, x16, x17, x18, x19, x20, x21, x22, x23, x24, x25, x26, x27, x28, x29, x30, x31, x32, x33, x34, x35, x36, x37, x38, x39, x40, x41, x42, x43, x44, x45, x46, x47, x48, x49, x50, x51, x52, x53, x54, x55, x56, x57, x58, x59, x60, x61, x62, x63, x64, x65, x66, x67, x68, x69, x70, x71, x72, x73, x74, x75, x76, x77, x78, x79, x80, x81, x82, x83, x84, x85, x86, x87, x88, x89, x90, x91, x92, x93, x94, x95, x96, x97, x98, x99, x100, x101, x102, x103, x104, x105, x106, x107, x108, x109, x110, x111, x112, x113, x114, x115, x116, x117, x118, x119, x120, x121, x122, x123, x124, x125, x126, x127, x128, x129, x130, x131, x132, x133, x134, x135, x136, x137, x138, x139, x140, x141, x142, x143, x144, x145, x146, x147, x148, x149, x150, x151, x152, x153, x154, x155, x156, x157, x158, x159, x160, x161, x162, x163, x164, x165], df⟩ w := by
  have HQ := Lib.hid hK
  clear hK
  have D1 := Lib.hid C1
  have D2 := Lib.hid C2
  clear C1 C2
  have Q2 := Lib.hid (fun b' (hm : Mods noB w b') => cells_of (hm.heap hx (fun x => x)) 2)
  have Q3 := Lib.hid (fun b' (hm : Mods noB w b') => cells_of (hm.heap hx (fun x => x)) 3)
  clear hx
  have MR := Lib.hid ((Mods.refl noB w).drew)
  refine rw_ordF (S := fun b' => Mods noB w b') [(0, true), (1, true), (3, true), (4, true), (2, false), (5, false), (6, true), (7, true)] [] [(0, 32, 262144), (1, 262144, 524288), (2, 524288, 1048576), (0, 32, 2097152), (8, 2097152, 4194304), (20, 4194304, 8388608), (39, 1048576, 128), (127, 8388608, 256)] (by kernel_rfl) (by kernel_rfl) (by kernel_rfl) (by kernel_rfl) (by kernel_rfl) MR.out ?_
  refine wpOrdT_frees [0] [.pointer (some ⟨xb, 2, none⟩)] (rest := [(1, true), (3, true), (4, true), (2, false), (5, false), (6, true), (7, true)]) (by kernel_rfl) (by kernel_rfl) (fun _ => by kernel_rfl) ?_
  refine wpOrdT_free (kv) (some 19) ⟨by kernel_rfl, by kernel_rfl, by kernel_rfl⟩ (fun bb hb => of_load (x := (.tmp 18)) (by kernel_rfl) (by kernel_rfl) (load_c (Q2.out _ hb) Try.underlying32 rfl)) ?_
  refine wpOrdT_frees [3] [.pointer (some ⟨xb, 3, none⟩)] (rest := [(4, true), (2, false), (5, false), (6, true), (7, true)]) (by kernel_rfl) (by kernel_rfl) (fun _ => by kernel_rfl) ?_
  refine wpOrdT_free (vv) (some 22) ⟨by kernel_rfl, by kernel_rfl, by kernel_rfl⟩ (fun bb hb => of_load (x := (.tmp 21)) (by kernel_rfl) (by kernel_rfl) (load_c (Q3.out _ hb) Try.underlying32 rfl)) ?_
  refine wpOrdT_call (some 20) ⟨by kernel_rfl, by kernel_rfl, by kernel_rfl⟩ (D1.out _ MR.out) (fun _ => by kernel_rfl) ?_
  rintro r w7 ⟨v7, rfl, o7, m7, f7⟩
  have f7' := f7.of MR.out.size
  replace MR := Lib.hid (MR.out.then0 m7)
  obtain ⟨a7, c7, rfl, _⟩ := o7.rd.form
  refine ⟨_, rfl, fun _ => MR.out, ?_⟩
  refine wpOrdT_call (some 23) ⟨by kernel_rfl, by kernel_rfl, by kernel_rfl⟩ (D2.out _ MR.out) (fun _ => by kernel_rfl) ?_
  rintro r w8 ⟨v8, rfl, o8, m8, f8⟩
  have f8' := f8.of MR.out.size
  replace MR := Lib.hid (MR.out.then0 m8)
  obtain ⟨a8, c8, rfl, _⟩ := o8.rd.form
  refine ⟨_, rfl, fun _ => MR.out, ?_⟩
  refine wpOrdT_frees [6, 7] [.slice a7 ks.length c7, .slice a8 vs.length c8] (rest := []) (by kernel_rfl) (by kernel_rfl) (fun _ => by kernel_rfl) ?_
  exact wpOrdT_doneC (act_is (K := Q .normal) (by kernel_rfl) (HQ.out (.pointer (some ⟨xb, 2, none⟩)) (kv) (.slice a7 ks.length c7) (.pointer (some ⟨xb, 3, none⟩)) (vv) (.slice a8 vs.length c8) a7 c7 a8 c8 w8 (o7.keep m8 (fun _ _ x => x)) o8 f7' f8' (fun k x y => by have h9 := o7.lt k x; have h8 := f8 k y; omega) MR.out))
set_option maxHeartbeats 1000000 in
theorem kds7 {w : World} {T : Nat → Prop} {xb : Nat} {what sn : Int} {kv vv : Value} {X Y : World → Prop} {E : Nat} {u1 u2 u3 u4 : Value} (hx : w.heap[xb]? = some (.cells #[.int .i64 what, .int .i64 sn, kv, vv] 34 (0, 0))) (hT : ¬ T xb) (C1 : ∀ b', Mods noB w b' → Calls Try.prog 18 #[u1, u2, u3] b' fun e w' => e = .returned (.int .i64 (E : Nat)) ∧ X w') (C2 : ∀ b', X b' → Calls Try.prog 33 #[u4, kv, vv] b' fun e w' => e = .returned (.int .i64 (E : Nat)) ∧ Y w') (h1 : ∀ w', X w' → Mods T w w') (h2 : ∀ w', Y w' → Mods T w w') {x2 x3 x4 x6 x9 x10 x11 x12 x13 x14 x15 x16 x17 x18 x19 x20 x21 x22 x23 x24 x25 x26 x27 x28 x29 x30 x31 x32 x33 x34 x35 x36 x37 x38 x39 x40 x41 x42 x43 x44 x45 x46 x47 x48 x49 x50 x51 x52 x53 x54 x55 x56 x57 x58 x59 x60 x61 x62 x63 x64 x65 x66 x67 x68 x69 x70 x71 x72 x73 x74 x75 x76 x77 x78 x79 x80 x81 x82 x83 x84 x85 x86 x87 x88 x89 x90 x91 x92 x93 x94 x95 x96 x97 x98 x99 x100 x101 x102 x103 x104 x105 x106 x107 x108 x109 x110 x111 x112 x113 x114 x115 x116 x117 x118 x119 x120 x121 x122 x123 x124 x125 x126 x127 x128 x129 x130 x131 x132 x133 x134 x135 x136 x137 x138 x139 x140 x141 x142 x143 x144 x145 x146 x147 x148 x149 x150 x151 x152 x153 x154 x155 x156 x157 x158 x159 x160 x161 x162 x163 x164 x165 : Value} {df : List Deferred} {Q : Exit → Act → World → Prop}
    (hK : ∀ (y30 y31 y32 y33 y34 y35 y36 y37 y38 y39 y40 : Value)  (w' : World), Y w' → Q .normal ⟨#[u1, u4, x2, x3, x4, .pointer (some ⟨xb, 0, none⟩), x6, u2, u3, .bool true, x10, x11, x12, x13, x14, x15, x16, x17, x18, x19, x20, x21, x22, x23, x24, x25, x26, x27, x28, x29, y30, y31, y32, y33, y34, y35, y36, y37, y38, y39, y40, x41, x42, x43, x44, x45, x46, x47, x48, x49, x50, x51, x52, x53, x54, x55, x56, x57, x58, x59, x60, x61, x62, x63, x64, x65, x66, x67, x68, x69, x70, x71, x72, x73, x74, x75, x76, x77, x78, x79, x80, x81, x82, x83, x84, x85, x86, x87, x88, x89, x90, x91, x92, x93, x94, x95, x96, x97, x98, x99, x100, x101, x102, x103, x104, x105, x106, x107, x108, x109, x110, x111, x112, x113, x114, x115, x116, x117, x118, x119, x120, x121, x122, x123, x124, x125, x126, x127, x128, x129, x130, x131, x132, x133, x134, x135, x136, x137, x138, x139, x140, x141, x142, x143, x144, x145, x146, x147, x148, x149, x150, x151, x152, x153, x154, x155, x156, x157, x158, x159, x160, x161, x162, x163, x164, x165], df⟩ w') : RW Try.prog (opsC 7 Try.f13) true Q ⟨#[u1, u4, x2, x3, x4, .pointer (some ⟨xb, 0, none⟩), x6, u2, u3, x9, x10, x11, x12, x13, x14, x15, x16, x17, x18, x19, x20, x21, x22, x23, x24, x25, x26, x27, x28, x29, x30, x31, x32, x33, x34, x35, x36, x37, x38, x39, x40, x41, x42, x43, x44, x45, x46, x47, x48, x49, x50, x51, x52, x53, x54, x55, x56, x57, x58, x59, x60, x61, x62, x63, x64, x65, x66, x67, x68, x69, x70, x71, x72, x73, x74, x75, x76, x77, x78, x79, x80, x81, x82, x83, x84, x85, x86, x87, x88, x89, x90, x91, x92, x93, x94, x95, x96, x97, x98, x99, x100, x101, x102, x103, x104, x105, x106, x107, x108, x109, x110, x111, x112, x113, x114, x115, x116, x117, x118, x119, x120, x121, x122, x123, x124, x125, x126, x127, x128, x129, x130, x131, x132, x133, x134, x135, x136, x137, x138, x139, x140, x141, x142, x143, x144, x145, x146, x147, x148, x149, x150, x151, x152, x153, x154, x155, x156, x157, x158, x159, x160, x161, x162, x163, x164, x165], df⟩ w := by
  have HQ := Lib.hid hK
  clear hK
  have D1 := Lib.hid C1
  have D2 := Lib.hid C2
  have H1 := Lib.hid h1
  have H2 := Lib.hid h2
  clear C1 C2 h1 h2
  have Q2 := Lib.hid (fun b' (hm : Mods T w b') => cells_of (hm.heap hx hT) 2)
  have Q3 := Lib.hid (fun b' (hm : Mods T w b') => cells_of (hm.heap hx hT) 3)
  clear hx
  have MR := Lib.hid ((Mods.refl T w).drew)
  refine rw_ordF (S := fun b' => Mods T w b') [(0, true), (1, true), (2, true), (4, true), (5, true), (6, true), (7, true), (8, true), (3, false), (9, false), (10, true), (11, true)] [] [(0, 1, 1073741824), (0, 128, 2147483648), (0, 256, 4294967296), (7, 7516192768, 8589934592), (0, 2, 17179869184), (0, 32, 34359738368), (32, 34359738368, 68719476736), (0, 32, 137438953472), (128, 137438953472, 274877906944), (344, 360777252864, 549755813888), (520, 558345748480, 1099511627776), (2047, 1099511627776, 512)] (by kernel_rfl) (by kernel_rfl) (by kernel_rfl) (by kernel_rfl) (by kernel_rfl) MR.out ?_
  refine wpOrdT_frees [0, 1, 2, 4, 5] [u1, u2, u3, u4, .pointer (some ⟨xb, 2, none⟩)] (rest := [(6, true), (7, true), (8, true), (3, false), (9, false), (10, true), (11, true)]) (by kernel_rfl) (by kernel_rfl) (fun _ => by kernel_rfl) ?_
  refine wpOrdT_free (kv) (some 36) ⟨by kernel_rfl, by kernel_rfl, by kernel_rfl⟩ (fun bb hb => of_load (x := (.tmp 35)) (by kernel_rfl) (by kernel_rfl) (load_c (Q2.out _ hb) Try.underlying32 rfl)) ?_
  refine wpOrdT_frees [7] [.pointer (some ⟨xb, 3, none⟩)] (rest := [(8, true), (3, false), (9, false), (10, true), (11, true)]) (by kernel_rfl) (by kernel_rfl) (fun _ => by kernel_rfl) ?_
  refine wpOrdT_free (vv) (some 38) ⟨by kernel_rfl, by kernel_rfl, by kernel_rfl⟩ (fun bb hb => of_load (x := (.tmp 37)) (by kernel_rfl) (by kernel_rfl) (load_c (Q3.out _ hb) Try.underlying32 rfl)) ?_
  refine wpOrdT_call (some 33) ⟨by kernel_rfl, by kernel_rfl, by kernel_rfl⟩ (D1.out _ ((Mods.refl noB w).drew)) (fun _ => by kernel_rfl) ?_
  rintro r w7 ⟨rfl, h7⟩
  replace MR := Lib.hid (H1.out _ h7)
  refine ⟨_, rfl, fun _ => MR.out, ?_⟩
  refine wpOrdT_call (some 39) ⟨by kernel_rfl, by kernel_rfl, by kernel_rfl⟩ (D2.out _ h7) (fun _ => by kernel_rfl) ?_
  rintro r w8 ⟨rfl, h8⟩
  replace MR := Lib.hid (H2.out _ h8)
  refine ⟨_, rfl, fun _ => MR.out, ?_⟩
  refine wpOrdT_free (.bool true) (some 40) ⟨by kernel_rfl, by kernel_rfl, by kernel_rfl⟩ (fun bb hb => run_bin (t := 3) (t' := 3) (xv := .int .i64 ((E : Nat) : Int)) (yv := .int .i64 ((E : Nat) : Int)) (x := (.tmp 33)) (y := (.tmp 39)) (by kernel_rfl) (by kernel_rfl) (by kernel_rfl) (fun _ => by kernel_rfl) (run_eql _ (decide_eq_true rfl))) ?_
  refine wpOrdT_frees [11] [.bool true] (rest := []) (by kernel_rfl) (by kernel_rfl) (fun _ => by kernel_rfl) ?_
  exact wpOrdT_doneC (act_is (K := Q .normal) (by kernel_rfl) (HQ.out (u1) (u2) (u3) (.int .i64 ((E : Nat) : Int)) (u4) (.pointer (some ⟨xb, 2, none⟩)) (kv) (.pointer (some ⟨xb, 3, none⟩)) (vv) (.int .i64 ((E : Nat) : Int)) (.bool true) w8 h8))
set_option maxHeartbeats 1000000 in
theorem kds9 {w : World} {T : Nat → Prop} {xb : Nat} {what sn : Int} {kv vv : Value} {X Y : World → Prop} {E : Bool} {u1 u2 u4 : Value} (hx : w.heap[xb]? = some (.cells #[.int .i64 what, .int .i64 sn, kv, vv] 34 (0, 0))) (hT : ¬ T xb) (C1 : ∀ b', Mods noB w b' → Calls Try.prog 20 #[u1, u2] b' fun e w' => e = .returned (.bool E) ∧ X w') (C2 : ∀ b', X b' → Calls Try.prog 34 #[u4, kv] b' fun e w' => e = .returned (.bool E) ∧ Y w') (h1 : ∀ w', X w' → Mods T w w') (h2 : ∀ w', Y w' → Mods T w w') {x2 x3 x4 x6 x8 x9 x10 x11 x12 x13 x14 x15 x16 x17 x18 x19 x20 x21 x22 x23 x24 x25 x26 x27 x28 x29 x30 x31 x32 x33 x34 x35 x36 x37 x38 x39 x40 x41 x42 x43 x44 x45 x46 x47 x48 x49 x50 x51 x52 x53 x54 x55 x56 x57 x58 x59 x60 x61 x62 x63 x64 x65 x66 x67 x68 x69 x70 x71 x72 x73 x74 x75 x76 x77 x78 x79 x80 x81 x82 x83 x84 x85 x86 x87 x88 x89 x90 x91 x92 x93 x94 x95 x96 x97 x98 x99 x100 x101 x102 x103 x104 x105 x106 x107 x108 x109 x110 x111 x112 x113 x114 x115 x116 x117 x118 x119 x120 x121 x122 x123 x124 x125 x126 x127 x128 x129 x130 x131 x132 x133 x134 x135 x136 x137 x138 x139 x140 x141 x142 x143 x144 x145 x146 x147 x148 x149 x150 x151 x152 x153 x154 x155 x156 x157 x158 x159 x160 x161 x162 x163 x164 x165 : Value} {df : List Deferred} {Q : Exit → Act → World → Prop}
    (hK : ∀ (y43 y44 y45 y46 y47 y48 y49 y50 : Value)  (w' : World), Y w' → Q .normal ⟨#[u1, u4, x2, x3, x4, .pointer (some ⟨xb, 0, none⟩), x6, u2, x8, .bool true, x10, x11, x12, x13, x14, x15, x16, x17, x18, x19, x20, x21, x22, x23, x24, x25, x26, x27, x28, x29, x30, x31, x32, x33, x34, x35, x36, x37, x38, x39, x40, x41, x42, y43, y44, y45, y46, y47, y48, y49, y50, x51, x52, x53, x54, x55, x56, x57, x58, x59, x60, x61, x62, x63, x64, x65, x66, x67, x68, x69, x70, x71, x72, x73, x74, x75, x76, x77, x78, x79, x80, x81, x82, x83, x84, x85, x86, x87, x88, x89, x90, x91, x92, x93, x94, x95, x96, x97, x98, x99, x100, x101, x102, x103, x104, x105, x106, x107, x108, x109, x110, x111, x112, x113, x114, x115, x116, x117, x118, x119, x120, x121, x122, x123, x124, x125, x126, x127, x128, x129, x130, x131, x132, x133, x134, x135, x136, x137, x138, x139, x140, x141, x142, x143, x144, x145, x146, x147, x148, x149, x150, x151, x152, x153, x154, x155, x156, x157, x158, x159, x160, x161, x162, x163, x164, x165], df⟩ w') : RW Try.prog (opsC 9 Try.f13) true Q ⟨#[u1, u4, x2, x3, x4, .pointer (some ⟨xb, 0, none⟩), x6, u2, x8, x9, x10, x11, x12, x13, x14, x15, x16, x17, x18, x19, x20, x21, x22, x23, x24, x25, x26, x27, x28, x29, x30, x31, x32, x33, x34, x35, x36, x37, x38, x39, x40, x41, x42, x43, x44, x45, x46, x47, x48, x49, x50, x51, x52, x53, x54, x55, x56, x57, x58, x59, x60, x61, x62, x63, x64, x65, x66, x67, x68, x69, x70, x71, x72, x73, x74, x75, x76, x77, x78, x79, x80, x81, x82, x83, x84, x85, x86, x87, x88, x89, x90, x91, x92, x93, x94, x95, x96, x97, x98, x99, x100, x101, x102, x103, x104, x105, x106, x107, x108, x109, x110, x111, x112, x113, x114, x115, x116, x117, x118, x119, x120, x121, x122, x123, x124, x125, x126, x127, x128, x129, x130, x131, x132, x133, x134, x135, x136, x137, x138, x139, x140, x141, x142, x143, x144, x145, x146, x147, x148, x149, x150, x151, x152, x153, x154, x155, x156, x157, x158, x159, x160, x161, x162, x163, x164, x165], df⟩ w := by
  have HQ := Lib.hid hK
  clear hK
  have D1 := Lib.hid C1
  have D2 := Lib.hid C2
  have H1 := Lib.hid h1
  have H2 := Lib.hid h2
  clear C1 C2 h1 h2
  have Q2 := Lib.hid (fun b' (hm : Mods T w b') => cells_of (hm.heap hx hT) 2)
  have Q3 := Lib.hid (fun b' (hm : Mods T w b') => cells_of (hm.heap hx hT) 3)
  clear hx
  have MR := Lib.hid ((Mods.refl T w).drew)
  refine rw_ordF (S := fun b' => Mods T w b') [(0, true), (1, true), (3, true), (4, true), (5, true), (2, false), (6, false), (7, true), (8, true)] [] [(0, 1, 8796093022208), (0, 128, 17592186044416), (3, 26388279066624, 35184372088832), (0, 2, 70368744177664), (0, 32, 140737488355328), (16, 140737488355328, 281474976710656), (44, 351843720888320, 562949953421312), (68, 598134325510144, 1125899906842624), (255, 1125899906842624, 512)] (by kernel_rfl) (by kernel_rfl) (by kernel_rfl) (by kernel_rfl) (by kernel_rfl) MR.out ?_
  refine wpOrdT_frees [0, 1, 3, 4] [u1, u2, u4, .pointer (some ⟨xb, 2, none⟩)] (rest := [(5, true), (2, false), (6, false), (7, true), (8, true)]) (by kernel_rfl) (by kernel_rfl) (fun _ => by kernel_rfl) ?_
  refine wpOrdT_free (kv) (some 48) ⟨by kernel_rfl, by kernel_rfl, by kernel_rfl⟩ (fun bb hb => of_load (x := (.tmp 47)) (by kernel_rfl) (by kernel_rfl) (load_c (Q2.out _ hb) Try.underlying32 rfl)) ?_
  refine wpOrdT_call (some 45) ⟨by kernel_rfl, by kernel_rfl, by kernel_rfl⟩ (D1.out _ ((Mods.refl noB w).drew)) (fun _ => by kernel_rfl) ?_
  rintro r w7 ⟨rfl, h7⟩
  replace MR := Lib.hid (H1.out _ h7)
  refine ⟨_, rfl, fun _ => MR.out, ?_⟩
  refine wpOrdT_call (some 49) ⟨by kernel_rfl, by kernel_rfl, by kernel_rfl⟩ (D2.out _ h7) (fun _ => by kernel_rfl) ?_
  rintro r w8 ⟨rfl, h8⟩
  replace MR := Lib.hid (H2.out _ h8)
  refine ⟨_, rfl, fun _ => MR.out, ?_⟩
  refine wpOrdT_free (.bool true) (some 50) ⟨by kernel_rfl, by kernel_rfl, by kernel_rfl⟩ (fun bb hb => run_bin (t := 4) (t' := 4) (xv := .bool E) (yv := .bool E) (x := (.tmp 45)) (y := (.tmp 49)) (by kernel_rfl) (by kernel_rfl) (by kernel_rfl) (fun _ => by kernel_rfl) (run_eqlB _ E)) ?_
  refine wpOrdT_frees [8] [.bool true] (rest := []) (by kernel_rfl) (by kernel_rfl) (fun _ => by kernel_rfl) ?_
  exact wpOrdT_doneC (act_is (K := Q .normal) (by kernel_rfl) (HQ.out (u1) (u2) (.bool E) (u4) (.pointer (some ⟨xb, 2, none⟩)) (kv) (.bool E) (.bool true) w8 h8))
set_option maxHeartbeats 1000000 in
theorem kds20 {w : World} {T : Nat → Prop} {xb : Nat} {what sn : Int} {kv vv : Value} {N : Nat} {X : World → Value → Prop} {Y : World → Value → Prop} {Z : World → Value → Value → Prop} {U : World → Prop} {u1 u2 u3 u4 : Value} (hx : w.heap[xb]? = some (.cells #[.int .i64 what, .int .i64 sn, kv, vv] 34 (0, 0))) (hT : ¬ T xb) (C1 : ∀ b', Mods noB w b' → Calls Try.prog 26 #[u1, u2, u3] b' fun e w' => ∃ f, e = .returned f ∧ X w' f) (C2 : ∀ b' f, X b' f → Calls Try.prog 24 #[f, .int .i64 (N : Nat)] b' fun e w' => ∃ v, e = .returned v ∧ Y w' v) (C3 : ∀ b' v, Y b' v → Calls Try.prog 38 #[u4, kv, vv, .int .i64 (N : Nat)] b' fun e w' => ∃ v2, e = .returned v2 ∧ Z w' v v2) (C4 : ∀ b' v v2, Z b' v v2 → Calls Try.prog 14 #[v, v2] b' fun e w' => e = .returned (.bool true) ∧ U w') (h1 : ∀ w' f, X w' f → Mods T w w') (h2 : ∀ w' f, Y w' f → Mods T w w') (h3 : ∀ w' f v, Z w' f v → Mods T w w') (h4 : ∀ w', U w' → Mods T w w') {x2 x3 x4 x6 x9 x10 x11 x12 x13 x14 x15 x17 x18 x19 x20 x21 x22 x23 x24 x25 x26 x27 x28 x29 x30 x31 x32 x33 x34 x35 x36 x37 x38 x39 x40 x41 x42 x43 x44 x45 x46 x47 x48 x49 x50 x51 x52 x53 x54 x55 x56 x57 x58 x59 x60 x61 x62 x63 x64 x65 x66 x67 x68 x69 x70 x71 x72 x73 x74 x75 x76 x77 x78 x79 x80 x81 x82 x83 x84 x85 x86 x87 x88 x89 x90 x91 x92 x93 x94 x95 x96 x97 x98 x99 x100 x101 x102 x103 x104 x105 x106 x107 x108 x109 x110 x111 x112 x113 x114 x115 x116 x117 x118 x119 x120 x121 x122 x123 x124 x125 x126 x127 x128 x129 x130 x131 x132 x133 x134 x135 x136 x137 x138 x139 x140 x141 x142 x143 x144 x145 x146 x147 x148 x149 x150 x151 x152 x153 x154 x155 x156 x157 x158 x159 x160 x161 x162 x163 x164 x165 : Value} {df : List Deferred} {Q : Exit → Act → World → Prop}
    (hK : ∀ (y96 y97 y98 y99 y100 y101 y102 y103 y104 y105 y106 y107 y108 y109 : Value)  (w' : World), U w' → Q .normal ⟨#[u1, u4, x2, x3, x4, .pointer (some ⟨xb, 0, none⟩), x6, u2, u3, .bool true, x10, x11, x12, x13, x14, x15, .int .i64 ((N : Nat) : Int), x17, x18, x19, x20, x21, x22, x23, x24, x25, x26, x27, x28, x29, x30, x31, x32, x33, x34, x35, x36, x37, x38, x39, x40, x41, x42, x43, x44, x45, x46, x47, x48, x49, x50, x51, x52, x53, x54, x55, x56, x57, x58, x59, x60, x61, x62, x63, x64, x65, x66, x67, x68, x69, x70, x71, x72, x73, x74, x75, x76, x77, x78, x79, x80, x81, x82, x83, x84, x85, x86, x87, x88, x89, x90, x91, x92, x93, x94, x95, y96, y97, y98, y99, y100, y101, y102, y103, y104, y105, y106, y107, y108, y109, x110, x111, x112, x113, x114, x115, x116, x117, x118, x119, x120, x121, x122, x123, x124, x125, x126, x127, x128, x129, x130, x131, x132, x133, x134, x135, x136, x137, x138, x139, x140, x141, x142, x143, x144, x145, x146, x147, x148, x149, x150, x151, x152, x153, x154, x155, x156, x157, x158, x159, x160, x161, x162, x163, x164, x165], df⟩ w') : RW Try.prog (opsC 20 Try.f13) true Q ⟨#[u1, u4, x2, x3, x4, .pointer (some ⟨xb, 0, none⟩), x6, u2, u3, x9, x10, x11, x12, x13, x14, x15, .int .i64 ((N : Nat) : Int), x17, x18, x19, x20, x21, x22, x23, x24, x25, x26, x27, x28, x29, x30, x31, x32, x33, x34, x35, x36, x37, x38, x39, x40, x41, x42, x43, x44, x45, x46, x47, x48, x49, x50, x51, x52, x53, x54, x55, x56, x57, x58, x59, x60, x61, x62, x63, x64, x65, x66, x67, x68, x69, x70, x71, x72, x73, x74, x75, x76, x77, x78, x79, x80, x81, x82, x83, x84, x85, x86, x87, x88, x89, x90, x91, x92, x93, x94, x95, x96, x97, x98, x99, x100, x101, x102, x103, x104, x105, x106, x107, x108, x109, x110, x111, x112, x113, x114, x115, x116, x117, x118, x119, x120, x121, x122, x123, x124, x125, x126, x127, x128, x129, x130, x131, x132, x133, x134, x135, x136, x137, x138, x139, x140, x141, x142, x143, x144, x145, x146, x147, x148, x149, x150, x151, x152, x153, x154, x155, x156, x157, x158, x159, x160, x161, x162, x163, x164, x165], df⟩ w := by
  have HQ := Lib.hid hK
  clear hK
  have D1 := Lib.hid C1
  have D2 := Lib.hid C2
  have D3 := Lib.hid C3
  have D4 := Lib.hid C4
  have H1 := Lib.hid h1
  have H2 := Lib.hid h2
  have H3 := Lib.hid h3
  have H4 := Lib.hid h4
  clear C1 C2 C3 C4 h1 h2 h3 h4
  have Q2 := Lib.hid (fun b' (hm : Mods T w b') => cells_of (hm.heap hx hT) 2)
  have Q3 := Lib.hid (fun b' (hm : Mods T w b') => cells_of (hm.heap hx hT) 3)
  clear hx
  have MR := Lib.hid ((Mods.refl T w).drew)
  refine rw_ordF (S := fun b' => Mods T w b') [(0, true), (1, true), (2, true), (4, true), (6, true), (7, true), (8, true), (9, true), (10, true), (11, true), (3, false), (5, false), (12, false), (13, false), (14, true)] [] [(0, 1, 79228162514264337593543950336), (0, 128, 158456325028528675187087900672), (0, 256, 316912650057057350374175801344), (7, 554597137599850363154807652352, 633825300114114700748351602688), (0, 65536, 1267650600228229401496703205376), (24, 1901475900342344102245054808064, 2535301200456458802993406410752), (0, 2, 5070602400912917605986812821504), (0, 32, 10141204801825835211973625643008), (128, 10141204801825835211973625643008, 20282409603651670423947251286016), (0, 32, 40564819207303340847894502572032), (512, 40564819207303340847894502572032, 81129638414606681695789005144064), (0, 65536, 162259276829213363391578010288128), (3424, 268741927248384633117301079539712, 324518553658426726783156020576256), (4128, 327053854858883185586149426987008, 649037107316853453566312041152512), (16383, 649037107316853453566312041152512, 512)] (by kernel_rfl) (by kernel_rfl) (by kernel_rfl) (by kernel_rfl) (by kernel_rfl) MR.out ?_
  refine wpOrdT_frees [0, 1, 2, 4, 6, 7] [u1, u2, u3, .int .i64 ((N : Nat) : Int), u4, .pointer (some ⟨xb, 2, none⟩)] (rest := [(8, true), (9, true), (10, true), (11, true), (3, false), (5, false), (12, false), (13, false), (14, true)]) (by kernel_rfl) (by kernel_rfl) (fun _ => by kernel_rfl) ?_
  refine wpOrdT_free (kv) (some 104) ⟨by kernel_rfl, by kernel_rfl, by kernel_rfl⟩ (fun bb hb => of_load (x := (.tmp 103)) (by kernel_rfl) (by kernel_rfl) (load_c (Q2.out _ hb) Try.underlying32 rfl)) ?_
  refine wpOrdT_frees [9] [.pointer (some ⟨xb, 3, none⟩)] (rest := [(10, true), (11, true), (3, false), (5, false), (12, false), (13, false), (14, true)]) (by kernel_rfl) (by kernel_rfl) (fun _ => by kernel_rfl) ?_
  refine wpOrdT_free (vv) (some 106) ⟨by kernel_rfl, by kernel_rfl, by kernel_rfl⟩ (fun bb hb => of_load (x := (.tmp 105)) (by kernel_rfl) (by kernel_rfl) (load_c (Q3.out _ hb) Try.underlying32 rfl)) ?_
  refine wpOrdT_frees [11] [.int .i64 ((N : Nat) : Int)] (rest := [(3, false), (5, false), (12, false), (13, false), (14, true)]) (by kernel_rfl) (by kernel_rfl) (fun _ => by kernel_rfl) ?_
  refine wpOrdT_call (some 99) ⟨by kernel_rfl, by kernel_rfl, by kernel_rfl⟩ (D1.out _ ((Mods.refl noB w).drew)) (fun _ => by kernel_rfl) ?_
  rintro r w7 ⟨f7, rfl, h7⟩
  replace MR := Lib.hid (H1.out _ _ h7)
  refine ⟨_, rfl, fun _ => MR.out, ?_⟩
  refine wpOrdT_call (some 101) ⟨by kernel_rfl, by kernel_rfl, by kernel_rfl⟩ (D2.out _ _ h7) (fun _ => by kernel_rfl) ?_
  rintro r w8 ⟨v8, rfl, h8⟩
  replace MR := Lib.hid (H2.out _ _ h8)
  refine ⟨_, rfl, fun _ => MR.out, ?_⟩
  refine wpOrdT_call (some 108) ⟨by kernel_rfl, by kernel_rfl, by kernel_rfl⟩ (D3.out _ _ h8) (fun _ => by kernel_rfl) ?_
  rintro r w9 ⟨v9, rfl, h9⟩
  replace MR := Lib.hid (H3.out _ _ _ h9)
  refine ⟨_, rfl, fun _ => MR.out, ?_⟩
  refine wpOrdT_call (some 109) ⟨by kernel_rfl, by kernel_rfl, by kernel_rfl⟩ (D4.out _ _ _ h9) (fun _ => by kernel_rfl) ?_
  rintro r w10 ⟨rfl, h10⟩
  replace MR := Lib.hid (H4.out _ h10)
  refine ⟨_, rfl, fun _ => MR.out, ?_⟩
  refine wpOrdT_frees [14] [.bool true] (rest := []) (by kernel_rfl) (by kernel_rfl) (fun _ => by kernel_rfl) ?_
  exact wpOrdT_doneC (act_is (K := Q .normal) (by kernel_rfl) (HQ.out (u1) (u2) (u3) (f7) (.int .i64 ((N : Nat) : Int)) (v8) (u4) (.pointer (some ⟨xb, 2, none⟩)) (kv) (.pointer (some ⟨xb, 3, none⟩)) (vv) (.int .i64 ((N : Nat) : Int)) (v9) (.bool true) w10 h10))
set_option maxHeartbeats 1000000 in
theorem kds23 {w : World} {T : Nat → Prop} {xb : Nat} {what sn : Int} {kv vv : Value} {N : Nat} {X : World → Value → Prop} {Y : World → Value → Prop} {Z : World → Value → Value → Prop} {U : World → Prop} {u1 u2 u4 : Value} (hx : w.heap[xb]? = some (.cells #[.int .i64 what, .int .i64 sn, kv, vv] 34 (0, 0))) (hT : ¬ T xb) (C1 : ∀ b', Mods noB w b' → Calls Try.prog 25 #[u1, u2] b' fun e w' => ∃ f, e = .returned f ∧ X w' f) (C2 : ∀ b' f, X b' f → Calls Try.prog 24 #[f, .int .i64 (N : Nat)] b' fun e w' => ∃ v, e = .returned v ∧ Y w' v) (C3 : ∀ b' v, Y b' v → Calls Try.prog 39 #[u4, kv, .int .i64 (N : Nat)] b' fun e w' => ∃ v2, e = .returned v2 ∧ Z w' v v2) (C4 : ∀ b' v v2, Z b' v v2 → Calls Try.prog 14 #[v, v2] b' fun e w' => e = .returned (.bool true) ∧ U w') (h1 : ∀ w' f, X w' f → Mods T w w') (h2 : ∀ w' f, Y w' f → Mods T w w') (h3 : ∀ w' f v, Z w' f v → Mods T w w') (h4 : ∀ w', U w' → Mods T w w') {x2 x3 x4 x6 x8 x9 x10 x11 x12 x13 x14 x15 x16 x18 x19 x20 x21 x22 x23 x24 x25 x26 x27 x28 x29 x30 x31 x32 x33 x34 x35 x36 x37 x38 x39 x40 x41 x42 x43 x44 x45 x46 x47 x48 x49 x50 x51 x52 x53 x54 x55 x56 x57 x58 x59 x60 x61 x62 x63 x64 x65 x66 x67 x68 x69 x70 x71 x72 x73 x74 x75 x76 x77 x78 x79 x80 x81 x82 x83 x84 x85 x86 x87 x88 x89 x90 x91 x92 x93 x94 x95 x96 x97 x98 x99 x100 x101 x102 x103 x104 x105 x106 x107 x108 x109 x110 x111 x112 x113 x114 x115 x116 x117 x118 x119 x120 x121 x122 x123 x124 x125 x126 x127 x128 x129 x130 x131 x132 x133 x134 x135 x136 x137 x138 x139 x140 x141 x142 x143 x144 x145 x146 x147 x148 x149 x150 x151 x152 x153 x154 x155 x156 x157 x158 x159 x160 x161 x162 x163 x164 x165 : Value} {df : List Deferred} {Q : Exit → Act → World → Prop}
    (hK : ∀ (y116 y117 y118 y119 y120 y121 y122 y123 y124 y125 y126 : Value)  (w' : World), U w' → Q .normal ⟨#[u1, u4, x2, x3, x4, .pointer (some ⟨xb, 0, none⟩), x6, u2, x8, .bool true, x10, x11, x12, x13, x14, x15, x16, .int .i64 ((N : Nat) : Int), x18, x19, x20, x21, x22, x23, x24, x25, x26, x27, x28, x29, x30, x31, x32, x33, x34, x35, x36, x37, x38, x39, x40, x41, x42, x43, x44, x45, x46, x47, x48, x49, x50, x51, x52, x53, x54, x55, x56, x57, x58, x59, x60, x61, x62, x63, x64, x65, x66, x67, x68, x69, x70, x71, x72, x73, x74, x75, x76, x77, x78, x79, x80, x81, x82, x83, x84, x85, x86, x87, x88, x89, x90, x91, x92, x93, x94, x95, x96, x97, x98, x99, x100, x101, x102, x103, x104, x105, x106, x107, x108, x109, x110, x111, x112, x113, x114, x115, y116, y117, y118, y119, y120, y121, y122, y123, y124, y125, y126, x127, x128, x129, x130, x131, x132, x133, x134, x135, x136, x137, x138, x139, x140, x141, x142, x143, x144, x145, x146, x147, x148, x149, x150, x151, x152, x153, x154, x155, x156, x157, x158, x159, x160, x161, x162, x163, x164, x165], df⟩ w') : RW Try.prog (opsC 23 Try.f13) true Q ⟨#[u1, u4, x2, x3, x4, .pointer (some ⟨xb, 0, none⟩), x6, u2, x8, x9, x10, x11, x12, x13, x14, x15, x16, .int .i64 ((N : Nat) : Int), x18, x19, x20, x21, x22, x23, x24, x25, x26, x27, x28, x29, x30, x31, x32, x33, x34, x35, x36, x37, x38, x39, x40, x41, x42, x43, x44, x45, x46, x47, x48, x49, x50, x51, x52, x53, x54, x55, x56, x57, x58, x59, x60, x61, x62, x63, x64, x65, x66, x67, x68, x69, x70, x71, x72, x73, x74, x75, x76, x77, x78, x79, x80, x81, x82, x83, x84, x85, x86, x87, x88, x89, x90, x91, x92, x93, x94, x95, x96, x97, x98, x99, x100, x101, x102, x103, x104, x105, x106, x107, x108, x109, x110, x111, x112, x113, x114, x115, x116, x117, x118, x119, x120, x121, x122, x123, x124, x125, x126, x127, x128, x129, x130, x131, x132, x133, x134, x135, x136, x137, x138, x139, x140, x141, x142, x143, x144, x145, x146, x147, x148, x149, x150, x151, x152, x153, x154, x155, x156, x157, x158, x159, x160, x161, x162, x163, x164, x165], df⟩ w := by
  have HQ := Lib.hid hK
  clear hK
  have D1 := Lib.hid C1
  have D2 := Lib.hid C2
  have D3 := Lib.hid C3
  have D4 := Lib.hid C4
  have H1 := Lib.hid h1
  have H2 := Lib.hid h2
  have H3 := Lib.hid h3
  have H4 := Lib.hid h4
  clear C1 C2 C3 C4 h1 h2 h3 h4
  have Q2 := Lib.hid (fun b' (hm : Mods T w b') => cells_of (hm.heap hx hT) 2)
  have Q3 := Lib.hid (fun b' (hm : Mods T w b') => cells_of (hm.heap hx hT) 3)
  clear hx
  have MR := Lib.hid ((Mods.refl T w).drew)
  refine rw_ordF (S := fun b' => Mods T w b') [(0, true), (1, true), (3, true), (5, true), (6, true), (7, true), (8, true), (2, false), (4, false), (9, false), (10, false), (11, true)] [] [(0, 1, 83076749736557242056487941267521536), (0, 128, 166153499473114484112975882535043072), (3, 249230249209671726169463823802564608, 332306998946228968225951765070086144), (0, 131072, 664613997892457936451903530140172288), (12, 996920996838686904677855295210258432, 1329227995784915872903807060280344576), (0, 2, 2658455991569831745807614120560689152), (0, 32, 5316911983139663491615228241121378304), (64, 5316911983139663491615228241121378304, 10633823966279326983230456482242756608), (0, 131072, 21267647932558653966460912964485513216), (432, 34559927890407812695498983567288958976, 42535295865117307932921825928971026432), (528, 43864523860902223805825632989251371008, 85070591730234615865843651857942052864), (2047, 85070591730234615865843651857942052864, 512)] (by kernel_rfl) (by kernel_rfl) (by kernel_rfl) (by kernel_rfl) (by kernel_rfl) MR.out ?_
  refine wpOrdT_frees [0, 1, 3, 5, 6] [u1, u2, .int .i64 ((N : Nat) : Int), u4, .pointer (some ⟨xb, 2, none⟩)] (rest := [(7, true), (8, true), (2, false), (4, false), (9, false), (10, false), (11, true)]) (by kernel_rfl) (by kernel_rfl) (fun _ => by kernel_rfl) ?_
  refine wpOrdT_free (kv) (some 123) ⟨by kernel_rfl, by kernel_rfl, by kernel_rfl⟩ (fun bb hb => of_load (x := (.tmp 122)) (by kernel_rfl) (by kernel_rfl) (load_c (Q2.out _ hb) Try.underlying32 rfl)) ?_
  refine wpOrdT_frees [8] [.int .i64 ((N : Nat) : Int)] (rest := [(2, false), (4, false), (9, false), (10, false), (11, true)]) (by kernel_rfl) (by kernel_rfl) (fun _ => by kernel_rfl) ?_
  refine wpOrdT_call (some 118) ⟨by kernel_rfl, by kernel_rfl, by kernel_rfl⟩ (D1.out _ ((Mods.refl noB w).drew)) (fun _ => by kernel_rfl) ?_
  rintro r w7 ⟨f7, rfl, h7⟩
  replace MR := Lib.hid (H1.out _ _ h7)
  refine ⟨_, rfl, fun _ => MR.out, ?_⟩
  refine wpOrdT_call (some 120) ⟨by kernel_rfl, by kernel_rfl, by kernel_rfl⟩ (D2.out _ _ h7) (fun _ => by kernel_rfl) ?_
  rintro r w8 ⟨v8, rfl, h8⟩
  replace MR := Lib.hid (H2.out _ _ h8)
  refine ⟨_, rfl, fun _ => MR.out, ?_⟩
  refine wpOrdT_call (some 125) ⟨by kernel_rfl, by kernel_rfl, by kernel_rfl⟩ (D3.out _ _ h8) (fun _ => by kernel_rfl) ?_
  rintro r w9 ⟨v9, rfl, h9⟩
  replace MR := Lib.hid (H3.out _ _ _ h9)
  refine ⟨_, rfl, fun _ => MR.out, ?_⟩
  refine wpOrdT_call (some 126) ⟨by kernel_rfl, by kernel_rfl, by kernel_rfl⟩ (D4.out _ _ _ h9) (fun _ => by kernel_rfl) ?_
  rintro r w10 ⟨rfl, h10⟩
  replace MR := Lib.hid (H4.out _ h10)
  refine ⟨_, rfl, fun _ => MR.out, ?_⟩
  refine wpOrdT_frees [11] [.bool true] (rest := []) (by kernel_rfl) (by kernel_rfl) (fun _ => by kernel_rfl) ?_
  exact wpOrdT_doneC (act_is (K := Q .normal) (by kernel_rfl) (HQ.out (u1) (u2) (f7) (.int .i64 ((N : Nat) : Int)) (v8) (u4) (.pointer (some ⟨xb, 2, none⟩)) (kv) (.int .i64 ((N : Nat) : Int)) (v9) (.bool true) w10 h10))
set_option maxHeartbeats 1000000 in
theorem kpl13 {w : World} {rg d n c : Nat} {lv u1 : Value} {a : Option Addr} {X : World → Value → Prop} {Y : World → Prop} (c0 : ∀ b', Mods noB w b' → b'.cell? ⟨rg, 0, none⟩ = some lv) (c1 : ∀ b', Mods noB w b' → b'.cell? ⟨rg, 1, none⟩ = some (.slice a d c)) (c2 : ∀ b', Mods noB w b' → b'.cell? ⟨rg, 2, none⟩ = some (.int .i64 ((n : Nat) : Int))) (C1 : ∀ b', Mods noB w b' → Calls Try.prog 15 #[u1] b' fun e w' => ∃ f, e = .returned f ∧ X w' f) (C2 : ∀ b' f, X b' f → Calls Try.prog 14 #[f, lv] b' fun e w' => e = .returned (.bool true) ∧ Y w') (C3 : ∀ b', Y b' → Calls Try.prog 16 #[u1] b' fun e w' => e = .returned (.int .i64 (d : Nat)) ∧ Y w') (C4 : ∀ b', Y b' → Calls Try.prog 17 #[u1] b' fun e w' => e = .returned (.int .i64 (n : Nat)) ∧ Y w') (h1 : ∀ w' f, X w' f → Mods noB w w') (h2 : ∀ w', Y w' → Mods noB w w') {x0 x1 x2 x5 x6 x7 x8 x9 x10 x11 x12 x13 x14 x15 x16 x17 x18 x19 x20 x21 x22 x23 x24 x25 x26 x27 x28 x29 x30 x31 x32 x33 x34 x35 x36 x37 x38 x39 x40 x41 x42 x43 x44 x45 x46 x47 x48 x49 x50 x51 x52 x53 x54 x55 x56 x57 x58 x59 x60 x61 x62 x63 x64 x65 x66 x67 x68 : Value} {df : List Deferred} {Q : Exit → Act → World → Prop}
    (hK : ∀ (y42 y43 y44 y45 y46 y47 y48 y49 y50 y51 y52 y53 y54 y55 y56 y57 y58 y59 y60 y61 y62 y63 y64 y65 y66 y67 : Value)  (w' : World), Y w' → Q .normal ⟨#[x0, x1, x2, u1, .pointer (some ⟨rg, 0, none⟩), x5, x6, x7, x8, x9, x10, x11, x12, x13, x14, x15, x16, x17, x18, x19, x20, x21, x22, x23, x24, x25, x26, x27, x28, x29, x30, x31, x32, x33, x34, x35, x36, x37, x38, x39, x40, x41, y42, y43, y44, y45, y46, y47, y48, y49, y50, y51, y52, y53, y54, y55, y56, y57, y58, y59, y60, y61, y62, y63, y64, y65, y66, y67, .bool false], df⟩ w') : RW Try.prog (opsC 13 Try.f3) true Q ⟨#[x0, x1, x2, u1, .pointer (some ⟨rg, 0, none⟩), x5, x6, x7, x8, x9, x10, x11, x12, x13, x14, x15, x16, x17, x18, x19, x20, x21, x22, x23, x24, x25, x26, x27, x28, x29, x30, x31, x32, x33, x34, x35, x36, x37, x38, x39, x40, x41, x42, x43, x44, x45, x46, x47, x48, x49, x50, x51, x52, x53, x54, x55, x56, x57, x58, x59, x60, x61, x62, x63, x64, x65, x66, x67, x68], df⟩ w := by
  have HQ := Lib.hid hK
  clear hK
  have D1 := Lib.hid C1
  have D2 := Lib.hid C2
  have D3 := Lib.hid C3
  have D4 := Lib.hid C4
  have H1 := Lib.hid h1
  have H2 := Lib.hid h2
  have Q0 := Lib.hid c0
  have Q1 := Lib.hid c1
  have Q2 := Lib.hid c2
  clear C1 C2 C3 C4 h1 h2 c0 c1 c2
  have MR := Lib.hid ((Mods.refl noB w).drew)
  refine rw_ordF (S := fun b' => Mods noB w b') [(0, true), (2, true), (3, true), (4, true), (5, true), (1, false), (6, false), (7, true), (8, true), (9, true), (11, true), (12, true), (13, true), (14, true), (15, true), (10, false), (16, true), (17, true), (18, true), (19, true), (21, true), (22, true), (23, true), (24, true), (20, false), (25, true), (26, true)] [] [(0, 8, 4398046511104), (1, 4398046511104, 8796093022208), (0, 16, 17592186044416), (4, 17592186044416, 35184372088832), (8, 35184372088832, 70368744177664), (16, 70368744177664, 140737488355328), (34, 149533581377536, 281474976710656), (64, 281474976710656, 562949953421312), (192, 562949953421312, 1125899906842624), (256, 1125899906842632, 2251799813685248), (768, 3377699720527872, 4503599627370496), (256, 1125899906842640, 9007199254740992), (2304, 10133099161583616, 18014398509481984), (4352, 19140298416324608, 36028797018963968), (8448, 37154696925806592, 72057594037927936), (16640, 73183493944770560, 144115188075855872), (34048, 149744687610068992, 288230376151711744), (65792, 289356276058554368, 576460752303423488), (132096, 576460752303423488, 1152921504606846976), (262144, 1152921504606846984, 2305843009213693952), (786432, 3458764513820540928, 4611686018427387904), (262144, 1152921504606846992, 9223372036854775808), (2359296, 10376293541461622784, 18446744073709551616), (4456448, 19599665578316398592, 36893488147419103232), (8650752, 38046409652025950208, 73786976294838206464), (18087936, 79551583817872441344, 147573952589676412928), (33816576, 148726874094283259904, 295147905179352825856)] (by kernel_rfl) (by kernel_rfl) (by kernel_rfl) (by kernel_rfl) (by kernel_rfl) MR.out ?_
  refine wpOrdT_frees [0, 2, 3, 4] [u1, .pointer (some ⟨rg, 0, none⟩), .pointer (some ⟨rg, 0, none⟩), .pointer (some ⟨rg, 0, none⟩)] (rest := [(5, true), (1, false), (6, false), (7, true), (8, true), (9, true), (11, true), (12, true), (13, true), (14, true), (15, true), (10, false), (16, true), (17, true), (18, true), (19, true), (21, true), (22, true), (23, true), (24, true), (20, false), (25, true), (26, true)]) (by kernel_rfl) (by kernel_rfl) (fun _ => by kernel_rfl) ?_
  refine wpOrdT_free (lv) (some 47) ⟨by kernel_rfl, by kernel_rfl, by kernel_rfl⟩ (fun bb hb => of_load (x := (.tmp 46)) (by kernel_rfl) (by kernel_rfl) (load_c (Q0.out _ hb) Try.underlying28 rfl)) ?_
  refine wpOrdT_call (some 43) ⟨by kernel_rfl, by kernel_rfl, by kernel_rfl⟩ (D1.out _ ((Mods.refl noB w).drew)) (fun _ => by kernel_rfl) ?_
  rintro r w7 ⟨v7, rfl, h7⟩
  replace MR := Lib.hid (H1.out _ _ h7)
  refine ⟨_, rfl, fun _ => MR.out, ?_⟩
  refine wpOrdT_call (some 48) ⟨by kernel_rfl, by kernel_rfl, by kernel_rfl⟩ (D2.out _ _ h7) (fun _ => by kernel_rfl) ?_
  rintro r w8 ⟨rfl, h8⟩
  replace MR := Lib.hid (H2.out _ h8)
  refine ⟨_, rfl, fun _ => MR.out, ?_⟩
  refine wpOrdT_frees [7, 8, 9, 11, 12, 13] [.bool false, .bool false, u1, .pointer (some ⟨rg, 0, none⟩), .pointer (some ⟨rg, 0, none⟩), .pointer (some ⟨rg, 1, none⟩)] (rest := [(14, true), (15, true), (10, false), (16, true), (17, true), (18, true), (19, true), (21, true), (22, true), (23, true), (24, true), (20, false), (25, true), (26, true)]) (by kernel_rfl) (by kernel_rfl) (fun _ => by kernel_rfl) ?_
  refine wpOrdT_free (.slice a d c) (some 56) ⟨by kernel_rfl, by kernel_rfl, by kernel_rfl⟩ (fun bb hb => of_load (x := (.tmp 55)) (by kernel_rfl) (by kernel_rfl) (load_c (Q1.out _ hb) Try.underlying29 rfl)) ?_
  refine wpOrdT_frees [15] [.int .i64 ((d : Nat) : Int)] (rest := [(10, false), (16, true), (17, true), (18, true), (19, true), (21, true), (22, true), (23, true), (24, true), (20, false), (25, true), (26, true)]) (by kernel_rfl) (by kernel_rfl) (fun _ => by kernel_rfl) ?_
  refine wpOrdT_call (some 52) ⟨by kernel_rfl, by kernel_rfl, by kernel_rfl⟩ (D3.out _ h8) (fun _ => by kernel_rfl) ?_
  rintro r w9 ⟨rfl, h9⟩
  replace MR := Lib.hid (H2.out _ h9)
  refine ⟨_, rfl, fun _ => MR.out, ?_⟩
  refine wpOrdT_free (.bool false) (some 58) ⟨by kernel_rfl, by kernel_rfl, by kernel_rfl⟩ (fun bb hb => run_bin (t := 3) (t' := 3) (xv := .int .i64 ((d : Nat) : Int)) (yv := .int .i64 ((d : Nat) : Int)) (x := (.tmp 52)) (y := (.tmp 57)) (by kernel_rfl) (by kernel_rfl) (by kernel_rfl) (fun _ => by kernel_rfl) (run_neq _ (decide_eq_true rfl))) ?_
  refine wpOrdT_frees [17, 18, 19, 21, 22, 23] [.bool false, .bool false, u1, .pointer (some ⟨rg, 0, none⟩), .pointer (some ⟨rg, 0, none⟩), .pointer (some ⟨rg, 2, none⟩)] (rest := [(24, true), (20, false), (25, true), (26, true)]) (by kernel_rfl) (by kernel_rfl) (fun _ => by kernel_rfl) ?_
  refine wpOrdT_free (.int .i64 ((n : Nat) : Int)) (some 66) ⟨by kernel_rfl, by kernel_rfl, by kernel_rfl⟩ (fun bb hb => of_load (x := (.tmp 65)) (by kernel_rfl) (by kernel_rfl) (load_c (Q2.out _ hb) Try.underlying3 rfl)) ?_
  refine wpOrdT_call (some 62) ⟨by kernel_rfl, by kernel_rfl, by kernel_rfl⟩ (D4.out _ h9) (fun _ => by kernel_rfl) ?_
  rintro r w10 ⟨rfl, h10⟩
  replace MR := Lib.hid (H2.out _ h10)
  refine ⟨_, rfl, fun _ => MR.out, ?_⟩
  refine wpOrdT_free (.bool false) (some 67) ⟨by kernel_rfl, by kernel_rfl, by kernel_rfl⟩ (fun bb hb => run_bin (t := 3) (t' := 3) (xv := .int .i64 ((n : Nat) : Int)) (yv := .int .i64 ((n : Nat) : Int)) (x := (.tmp 62)) (y := (.tmp 66)) (by kernel_rfl) (by kernel_rfl) (by kernel_rfl) (fun _ => by kernel_rfl) (run_neq _ (decide_eq_true rfl))) ?_
  refine wpOrdT_frees [26] [.bool false] (rest := []) (by kernel_rfl) (by kernel_rfl) (fun _ => by kernel_rfl) ?_
  exact wpOrdT_doneC (act_is (K := Q .normal) (by kernel_rfl) (HQ.out (u1) (v7) (.pointer (some ⟨rg, 0, none⟩)) (.pointer (some ⟨rg, 0, none⟩)) (.pointer (some ⟨rg, 0, none⟩)) (lv) (.bool true) (.bool false) (.bool false) (u1) (.int .i64 ((d : Nat) : Int)) (.pointer (some ⟨rg, 0, none⟩)) (.pointer (some ⟨rg, 0, none⟩)) (.pointer (some ⟨rg, 1, none⟩)) (.slice a d c) (.int .i64 ((d : Nat) : Int)) (.bool false) (.bool false) (.bool false) (u1) (.int .i64 ((n : Nat) : Int)) (.pointer (some ⟨rg, 0, none⟩)) (.pointer (some ⟨rg, 0, none⟩)) (.pointer (some ⟨rg, 2, none⟩)) (.int .i64 ((n : Nat) : Int)) (.bool false) w10 h10))
set_option maxHeartbeats 1000000 in
theorem kpl10 {w : World} {rg nl cl : Nat} {al : Option Addr} {u1 : Value} {X : World → Value → (Nat → Prop) → Prop} (c0 : ∀ b', Mods noB w b' → b'.cell? ⟨rg, 0, none⟩ = some (.slice al nl cl)) (C1 : ∀ b', Mods noB w b' → Calls Try.prog 12 #[u1] b' fun e w' => ∃ f N, e = .returned f ∧ X w' f N ∧ Mods noB b' w' ∧ ∀ k, N k → b'.heap.size ≤ k ∧ k < w'.heap.size) (hK' : ∀ w' w2 f N, X w' f N → Mods noB w' w2 → X w2 f N) {x0 x1 x2 x5 x6 x7 x8 x9 x10 x11 x12 x13 x14 x15 x16 x17 x18 x19 x20 x21 x22 x23 x24 x25 x26 x27 x28 x29 x30 x31 x32 x33 x34 x35 x36 x37 x38 x39 x40 x41 x42 x43 x44 x45 x46 x47 x48 x49 x50 x51 x52 x53 x54 x55 x56 x57 x58 x59 x60 x61 x62 x63 x64 x65 x66 x67 x68 : Value} {df : List Deferred} {Q : Exit → Act → World → Prop}
    (hK : ∀ (y26 y27 y28 y29 y30 y31 y32 y33 : Value) (v7 : Value) (k1 : Nat) (N7 : Nat → Prop) (w' : World), X w' v7 N7 → w'.heap[k1]? = some (.cells #[.slice al nl cl, .slice none 0 0, .int .i64 0] 31 (0, 0)) → w.heap.size ≤ k1 → Mods noB w w' → ¬ N7 k1 → Q .normal ⟨#[x0, x1, x2, v7, .pointer (some ⟨k1, 0, none⟩), x5, x6, x7, x8, x9, x10, x11, x12, x13, x14, x15, x16, x17, x18, x19, x20, x21, x22, x23, x24, x25, y26, y27, y28, y29, y30, y31, y32, y33, x34, x35, x36, x37, x38, x39, x40, x41, x42, x43, x44, x45, x46, x47, x48, x49, x50, x51, x52, x53, x54, x55, x56, x57, x58, x59, x60, x61, x62, x63, x64, x65, x66, x67, x68], df⟩ w') : RW Try.prog (opsC 10 Try.f3) true Q ⟨#[x0, x1, x2, u1, .pointer (some ⟨rg, 0, none⟩), x5, x6, x7, x8, x9, x10, x11, x12, x13, x14, x15, x16, x17, x18, x19, x20, x21, x22, x23, x24, x25, x26, x27, x28, x29, x30, x31, x32, x33, x34, x35, x36, x37, x38, x39, x40, x41, x42, x43, x44, x45, x46, x47, x48, x49, x50, x51, x52, x53, x54, x55, x56, x57, x58, x59, x60, x61, x62, x63, x64, x65, x66, x67, x68], df⟩ w := by
  have HQ := Lib.hid hK
  clear hK
  have D1 := Lib.hid C1
  have HK := Lib.hid hK'
  have Q0 := Lib.hid c0
  clear C1 hK' c0
  have MR := Lib.hid ((Mods.refl noB w).drew)
  refine rw_ord2 (S := fun b' => Mods noB w b') [(0, true), (2, true), (3, true), (4, true), (5, true), (6, true)] 1 7 [(8, true), (7, false), (9, true)] [(1, false), (8, true), (9, true)] [] (by kernel_rfl) (by kernel_rfl) (by kernel_rfl) (by kernel_rfl) (by kernel_rfl) MR.out ?_
  refine wpOrdT_frees [0, 2, 3, 4] [u1, .pointer (some ⟨rg, 0, none⟩), .pointer (some ⟨rg, 0, none⟩), .pointer (some ⟨rg, 0, none⟩)] (rest := [(5, true), (6, true)]) (by kernel_rfl) (by kernel_rfl) (fun _ => by kernel_rfl) ?_
  refine wpOrdT_free (.slice al nl cl) (some 31) ⟨by kernel_rfl, by kernel_rfl, by kernel_rfl⟩ (fun bb hb => of_load (x := (.tmp 30)) (by kernel_rfl) (by kernel_rfl) (load_c (Q0.out _ hb) Try.underlying28 rfl)) ?_
  refine wpOrdT_frees [6] [.agg #[.slice al nl cl, .slice none 0 0, .int .i64 0]] (rest := []) (by kernel_rfl) (by kernel_rfl) (fun _ => by kernel_rfl) ?_
  refine wpOrd2_split ?_ ?_
  · skip
    refine wpOrdT_call (some 27) ⟨by kernel_rfl, by kernel_rfl, by kernel_rfl⟩ (D1.out _ MR.out) (fun _ => by kernel_rfl) ?_
    rintro r w7 ⟨v7, N7, rfl, h7, m7, n7⟩
    replace MR := Lib.hid (MR.out.then0 m7)
    refine ⟨_, rfl, fun _ => MR.out, ?_⟩
    refine wpOrdT_frees [8] [v7] (rest := [(7, false), (9, true)]) (by kernel_rfl) (by kernel_rfl) (fun _ => by kernel_rfl) ?_
    refine wpOrdT_alloc (.cells #[.slice al nl cl, .slice none 0 0, .int .i64 0] 31) (some 33) ⟨by kernel_rfl, by kernel_rfl, by kernel_rfl⟩ (by kernel_rfl) ?_
    intro k1 w_k1 hk_k1 hO_k1 hm_k1 hl_k1
    have MZ := MR.out.size
    replace MR := Lib.hid (MR.out.then0 hm_k1)
    replace h7 := HK.out _ _ _ _ h7 hm_k1
    have K1 : ¬ N7 k1 := fun x => by have := n7 _ x; omega
    refine ⟨fun _ => MR.out, ?_⟩
    refine wpOrdT_frees [9] [.pointer (some ⟨k1, 0, none⟩)] (rest := []) (by kernel_rfl) (by kernel_rfl) (fun _ => by kernel_rfl) ?_
    exact wpOrdT_doneC (act_is (K := Q .normal) (by kernel_rfl) (HQ.out (u1) (v7) (.pointer (some ⟨rg, 0, none⟩)) (.pointer (some ⟨rg, 0, none⟩)) (.pointer (some ⟨rg, 0, none⟩)) (.slice al nl cl) (.agg #[.slice al nl cl, .slice none 0 0, .int .i64 0]) (.pointer (some ⟨k1, 0, none⟩)) v7 k1 N7 w_k1 h7 hO_k1 (by omega) MR.out K1))
  · skip
    refine wpOrdT_alloc (.cells #[.slice al nl cl, .slice none 0 0, .int .i64 0] 31) (some 33) ⟨by kernel_rfl, by kernel_rfl, by kernel_rfl⟩ (by kernel_rfl) ?_
    intro k1 w_k1 hk_k1 hO_k1 hm_k1 hl_k1
    have MZ := MR.out.size
    replace MR := Lib.hid (MR.out.then0 hm_k1)
    refine ⟨fun _ => MR.out, ?_⟩
    refine wpOrdT_call (some 27) ⟨by kernel_rfl, by kernel_rfl, by kernel_rfl⟩ (D1.out _ MR.out) (fun _ => by kernel_rfl) ?_
    rintro r w7 ⟨v7, N7, rfl, h7, m7, n7⟩
    have hO_k1 := m7.heap hO_k1 (fun x => x)
    have K1 : ¬ N7 k1 := fun x => by have := n7 _ x; omega
    replace MR := Lib.hid (MR.out.then0 m7)
    refine ⟨_, rfl, fun _ => MR.out, ?_⟩
    refine wpOrdT_frees [8, 9] [v7, .pointer (some ⟨k1, 0, none⟩)] (rest := []) (by kernel_rfl) (by kernel_rfl) (fun _ => by kernel_rfl) ?_
    exact wpOrdT_doneC (act_is (K := Q .normal) (by kernel_rfl) (HQ.out (u1) (v7) (.pointer (some ⟨rg, 0, none⟩)) (.pointer (some ⟨rg, 0, none⟩)) (.pointer (some ⟨rg, 0, none⟩)) (.slice al nl cl) (.agg #[.slice al nl cl, .slice none 0 0, .int .i64 0]) (.pointer (some ⟨k1, 0, none⟩)) v7 k1 N7 w7 h7 hO_k1 (by omega) MR.out K1))
end Go.Proofs.Ytngemlpalkfjeaa

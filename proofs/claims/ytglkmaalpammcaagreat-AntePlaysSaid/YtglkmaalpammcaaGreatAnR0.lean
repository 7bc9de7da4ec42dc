/- gleanref15.SetParams, gleanref18.Admit: drawn regions (printed by gen_anr.py). -/
import Derived.Test.YtglkmaalpammcaaGreatZE
import Derived.Test.YtglkmaalpammcaaGreatZB
namespace Go.Proofs.YtglkmaalpammcaaGreat
open Go.Gl Go.RowKit
set_option linter.unusedVariables false
set_option linter.unusedSimpArgs false
set_option maxRecDepth 100000
set_option maxHeartbeats 1000000 in
theorem anrp1 {w : World} {sg ab n0 n1 n2 n3 n4 n5 n6 n7 n8 n9 : Nat} {X : World → Value → Prop} {Y : World → Value → Value → Prop} {Z : World → Prop} (ha : w.heap[ab]? = some (.cells #[.int .u64 ((n0 : Nat) : Int), .int .u64 ((n1 : Nat) : Int), .int .u64 ((n2 : Nat) : Int), .int .u64 ((n3 : Nat) : Int), .int .u64 ((n4 : Nat) : Int), .int .u64 ((n5 : Nat) : Int), .int .u64 ((n6 : Nat) : Int), .int .u64 ((n7 : Nat) : Int), .int .u64 ((n8 : Nat) : Int), .int .u64 ((n9 : Nat) : Int)] 35 (0, 0))) (C1 : ∀ b', Mods noB w b' → Calls Tryz.prog 44 #[.int .i64 1, .int .u64 0, .int .u64 0] b' fun e w' => ∃ f, e = .returned f ∧ X w' f) (C2 : ∀ b' f, X b' f → Calls Tryz.prog 77 #[.agg #[.int .u64 ((n0 : Nat) : Int), .int .u64 ((n1 : Nat) : Int), .int .u64 ((n2 : Nat) : Int), .int .u64 ((n3 : Nat) : Int), .int .u64 ((n4 : Nat) : Int), .int .u64 ((n5 : Nat) : Int), .int .u64 ((n6 : Nat) : Int), .int .u64 ((n7 : Nat) : Int), .int .u64 ((n8 : Nat) : Int), .int .u64 ((n9 : Nat) : Int)]] b' fun e w' => ∃ v, e = .returned v ∧ Y w' f v) (C3 : ∀ b' f v, Y b' f v → Calls Tryz.prog 43 #[.pointer (some ⟨sg, 0, none⟩), f, v] b' fun e w' => ∃ r, e = .returned r ∧ Z w') (h1 : ∀ w' f, X w' f → Mods noB w w') (h2 : ∀ w' f v, Y w' f v → Mods noB w w') {x1 x2 x4 x5 x6 x7 x8 : Value} {df : List Deferred} {Q : Exit → Act → World → Prop}
  (hK : ∀ (y4 y5 y6 y7 y8 : Value)  (w' : World), Z w' → Q .normal ⟨#[.pointer (some ⟨sg, 0, none⟩), x1, x2, .pointer (some ⟨ab, 0, none⟩), y4, y5, y6, y7, y8], df⟩ w') : RW Tryz.prog (opsC 1 Tryz.f14) true Q ⟨#[.pointer (some ⟨sg, 0, none⟩), x1, x2, .pointer (some ⟨ab, 0, none⟩), x4, x5, x6, x7, x8], df⟩ w := by
 have HQ := Lib.hid hK
 clear hK
 have D1 := Lib.hid C1
 have D2 := Lib.hid C2
 have D3 := Lib.hid C3
 have H1 := Lib.hid h1
 have H2 := Lib.hid h2
 clear C1 C2 C3 h1 h2
 have QA := Lib.hid (fun b' (hm : Mods noB w b') => show ∀ j u, [Value.int .u64 ((n0 : Nat) : Int), .int .u64 ((n1 : Nat) : Int), .int .u64 ((n2 : Nat) : Int), .int .u64 ((n3 : Nat) : Int), .int .u64 ((n4 : Nat) : Int), .int .u64 ((n5 : Nat) : Int), .int .u64 ((n6 : Nat) : Int), .int .u64 ((n7 : Nat) : Int), .int .u64 ((n8 : Nat) : Int), .int .u64 ((n9 : Nat) : Int)][j]? = some u → b'.cell? ⟨ab, 0 + j, none⟩ = some u from fun j u hj => by rw [Nat.zero_add]; exact (cells_of (hm.heap ha (fun x => x)) j).trans (by rw [← hj]; exact List.getElem?_toArray))
 clear ha
 have MR := Lib.hid ((Mods.refl noB w).drew)
 refine rw_ordT (S := fun b' => Mods noB w b') [(0, true), (2, true), (1, false), (3, false), (4, false)] [4] (by kernel_rfl) (by kernel_rfl) (by kernel_rfl) (by kernel_rfl) MR.out ?_
 refine wpOrdT_frees [0] [.pointer (some ⟨sg, 0, none⟩)] (rest := [(2, true), (1, false), (3, false), (4, false)]) (by kernel_rfl) (by kernel_rfl) (fun _ => by kernel_rfl) ?_
 refine wpOrdT_free (.agg #[.int .u64 ((n0 : Nat) : Int), .int .u64 ((n1 : Nat) : Int), .int .u64 ((n2 : Nat) : Int), .int .u64 ((n3 : Nat) : Int), .int .u64 ((n4 : Nat) : Int), .int .u64 ((n5 : Nat) : Int), .int .u64 ((n6 : Nat) : Int), .int .u64 ((n7 : Nat) : Int), .int .u64 ((n8 : Nat) : Int), .int .u64 ((n9 : Nat) : Int)]) (some 6) ⟨by kernel_rfl, by kernel_rfl, by kernel_rfl⟩ (fun bb hb => of_load (x := (.tmp 3)) (by kernel_rfl) (by kernel_rfl) (load_a [.int .u64 ((n0 : Nat) : Int), .int .u64 ((n1 : Nat) : Int), .int .u64 ((n2 : Nat) : Int), .int .u64 ((n3 : Nat) : Int), .int .u64 ((n4 : Nat) : Int), .int .u64 ((n5 : Nat) : Int), .int .u64 ((n6 : Nat) : Int), .int .u64 ((n7 : Nat) : Int), .int .u64 ((n8 : Nat) : Int), .int .u64 ((n9 : Nat) : Int)] (QA.out _ hb) Tryz.underlying35 rfl (by kernel_rfl))) ?_
 refine wpOrdT_call (some 5) ⟨by kernel_rfl, by kernel_rfl, by kernel_rfl⟩ (D1.out _ MR.out) (fun _ => by kernel_rfl) ?_
 rintro r w7 ⟨f7, rfl, h7⟩
 replace MR := Lib.hid (H1.out _ _ h7)
 refine ⟨_, rfl, fun _ => MR.out, ?_⟩
 refine wpOrdT_call (some 7) ⟨by kernel_rfl, by kernel_rfl, by kernel_rfl⟩ (D2.out _ _ h7) (fun _ => by kernel_rfl) ?_
 rintro r w8 ⟨v8, rfl, h8⟩
 replace MR := Lib.hid (H2.out _ _ _ h8)
 refine ⟨_, rfl, fun _ => MR.out, ?_⟩
 refine wpOrdT_call (some 8) ⟨by kernel_rfl, by kernel_rfl, by kernel_rfl⟩ (D3.out _ _ _ h8) (fun _ => by kernel_rfl) ?_
 rintro r w9 ⟨v9, rfl, h9⟩
 refine ⟨_, rfl, (fun h => by cases h), ?_⟩
 exact wpOrdT_doneC (act_is (K := Q .normal) (by kernel_rfl) (HQ.out (.pointer (some ⟨sg, 0, none⟩)) (f7) (.agg #[.int .u64 ((n0 : Nat) : Int), .int .u64 ((n1 : Nat) : Int), .int .u64 ((n2 : Nat) : Int), .int .u64 ((n3 : Nat) : Int), .int .u64 ((n4 : Nat) : Int), .int .u64 ((n5 : Nat) : Int), .int .u64 ((n6 : Nat) : Int), .int .u64 ((n7 : Nat) : Int), .int .u64 ((n8 : Nat) : Int), .int .u64 ((n9 : Nat) : Int)]) (v8) (v9) w9 h9))
set_option maxHeartbeats 1000000 in
theorem anra3 {w : World} {rg xt f n0 n1 n2 n3 n4 n5 n6 n7 n8 n9 : Nat} {B : Bool} {S X : World → Prop} (hQ1 : ∀ b', S b' → b'.cell? ⟨xt, 2, none⟩ = some (.int .u64 ((f : Nat) : Int))) (hS0 : S w.drew) (hS : ∀ b', X b' → S b') (hC : Calls Tryz.prog 89 #[.pointer (some ⟨rg, 0, none⟩)] w.drew fun e w' => e = .returned (.agg #[.int .u64 ((n0 : Nat) : Int), .int .u64 ((n1 : Nat) : Int), .int .u64 ((n2 : Nat) : Int), .int .u64 ((n3 : Nat) : Int), .int .u64 ((n4 : Nat) : Int), .int .u64 ((n5 : Nat) : Int), .int .u64 ((n6 : Nat) : Int), .int .u64 ((n7 : Nat) : Int), .int .u64 ((n8 : Nat) : Int), .int .u64 ((n9 : Nat) : Int)]) ∧ X w') (hB : decide (((f : Nat) : Int) < ((n8 : Nat) : Int)) = B) {x1 x2 x4 x5 x6 x7 x8 x9 x10 x11 x12 x13 x14 x15 x16 x17 x18 x19 x20 x21 x22 x23 x24 x25 x26 x27 x28 x29 x30 x31 x32 x33 x34 x35 x36 x37 x38 x39 x40 x41 x42 : Value} {df : List Deferred} {Q : Exit → Act → World → Prop}
  (hK : ∀ (y10 y11 y12 y13 y14 : Value)  (w' : World), X w' → Q .normal ⟨#[.pointer (some ⟨rg, 0, none⟩), x1, x2, .pointer (some ⟨xt, 0, none⟩), x4, x5, x6, x7, x8, x9, y10, y11, y12, y13, y14, .bool B, x16, x17, x18, x19, x20, x21, x22, x23, x24, x25, x26, x27, x28, x29, x30, x31, x32, x33, x34, x35, x36, x37, x38, x39, x40, x41, x42], df⟩ w') : RW Tryz.prog (opsC 3 Tryz.f18) true Q ⟨#[.pointer (some ⟨rg, 0, none⟩), x1, x2, .pointer (some ⟨xt, 0, none⟩), x4, x5, x6, x7, x8, x9, x10, x11, x12, x13, x14, x15, x16, x17, x18, x19, x20, x21, x22, x23, x24, x25, x26, x27, x28, x29, x30, x31, x32, x33, x34, x35, x36, x37, x38, x39, x40, x41, x42], df⟩ w := by
 have HQ := Lib.hid hK
 clear hK
 refine rw_ordF (S := S) [(0, true), (1, true), (2, true), (3, false), (4, true), (5, true)] [] [(0, 8, 1024), (1, 1024, 2048), (0, 1, 4096), (4, 4096, 8192), (8, 8192, 16384), (18, 18432, 32768)] (by kernel_rfl) (by kernel_rfl) (by kernel_rfl) (by kernel_rfl) (by kernel_rfl) hS0 ?_
 refine wpOrdT_frees [0] [.pointer (some ⟨xt, 2, none⟩)] (rest := [(1, true), (2, true), (3, false), (4, true), (5, true)]) (by kernel_rfl) (by kernel_rfl) (fun _ => by kernel_rfl) ?_
 refine wpOrdT_free (.int .u64 ((f : Nat) : Int)) (some 11) ⟨by kernel_rfl, by kernel_rfl, by kernel_rfl⟩ (fun bb hb => of_load (x := (.tmp 10)) (by kernel_rfl) (by kernel_rfl) (load_c (hQ1 _ hb) Tryz.underlying22 rfl)) ?_
 refine wpOrdT_frees [2] [.pointer (some ⟨rg, 0, none⟩)] (rest := [(3, false), (4, true), (5, true)]) (by kernel_rfl) (by kernel_rfl) (fun _ => by kernel_rfl) ?_
 refine wpOrdT_call (some 13) ⟨by kernel_rfl, by kernel_rfl, by kernel_rfl⟩ hC (fun _ => by kernel_rfl) ?_
 rintro r w7 ⟨rfl, h7⟩
 refine ⟨_, rfl, fun _ => hS _ h7, ?_⟩
 refine wpOrdT_frees [4] [.int .u64 ((n8 : Nat) : Int)] (rest := [(5, true)]) (by kernel_rfl) (by kernel_rfl) (fun _ => by kernel_rfl) ?_
 refine wpOrdT_free (.bool B) (some 15) ⟨by kernel_rfl, by kernel_rfl, by kernel_rfl⟩ (fun bb hb => run_bin (t := 22) (t' := 22) (xv := .int .u64 ((f : Nat) : Int)) (yv := .int .u64 ((n8 : Nat) : Int)) (x := (.tmp 11)) (y := (.tmp 14)) (by kernel_rfl) (by kernel_rfl) (by kernel_rfl) (fun _ => by kernel_rfl) (run_lss _ hB)) ?_
 exact wpOrdT_doneC (act_is (K := Q .normal) (by kernel_rfl) (HQ.out (.pointer (some ⟨xt, 2, none⟩)) (.int .u64 ((f : Nat) : Int)) (.pointer (some ⟨rg, 0, none⟩)) (.agg #[.int .u64 ((n0 : Nat) : Int), .int .u64 ((n1 : Nat) : Int), .int .u64 ((n2 : Nat) : Int), .int .u64 ((n3 : Nat) : Int), .int .u64 ((n4 : Nat) : Int), .int .u64 ((n5 : Nat) : Int), .int .u64 ((n6 : Nat) : Int), .int .u64 ((n7 : Nat) : Int), .int .u64 ((n8 : Nat) : Int), .int .u64 ((n9 : Nat) : Int)]) (.int .u64 ((n8 : Nat) : Int)) _ h7))
end Go.Proofs.YtglkmaalpammcaaGreat

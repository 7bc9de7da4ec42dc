/- bank: drawn regions (printed by gen_bk.py). -/
import Derived.Test.YtglkmaalpammcaaGreatZE
import Derived.Test.YtglkmaalpammcaaGreatZB
namespace Go.Proofs.YtglkmaalpammcaaGreat
open Go.Gl Go.RowKit
set_option linter.unusedVariables false
set_option linter.unusedSimpArgs false
set_option maxRecDepth 100000
set_option maxHeartbeats 1000000 in
theorem bklay3 {w : World} {sg ab a b : Nat} {id : Value} {X : World → Value → Prop} {Y : World → Value → Value → Prop} {Z : World → Prop} (ha : w.heap[ab]? = some (.cells #[.int .u64 ((a : Nat) : Int), .int .u64 ((b : Nat) : Int)] 59 (0, 0))) (C1 : ∀ b', Mods noB w b' → Calls Tryz.prog 94 #[id] b' fun e w' => ∃ f, e = .returned f ∧ X w' f) (C2 : ∀ b' f, X b' f → Calls Tryz.prog 154 #[.agg #[.int .u64 ((a : Nat) : Int), .int .u64 ((b : Nat) : Int)]] b' fun e w' => ∃ v, e = .returned v ∧ Y w' f v) (C3 : ∀ b' f v, Y b' f v → Calls Tryz.prog 74 #[.pointer (some ⟨sg, 0, none⟩), f, v] b' fun e w' => ∃ r, e = .returned r ∧ Z w') (h1 : ∀ w' f, X w' f → Mods noB w w') (h2 : ∀ w' f v, Y w' f v → Mods noB w w') {x2 x3 x4 x6 x7 x8 x9 x10 x11 x12 x13 x14 x15 x16 x17 x18 : Value} {df : List Deferred} {Q : Exit → Act → World → Prop}
  (hK : ∀ (y13 y14 y15 y16 y17 y18 : Value)  (w' : World), Z w' → Q .normal ⟨#[.pointer (some ⟨sg, 0, none⟩), id, x2, x3, x4, .pointer (some ⟨ab, 0, none⟩), x6, x7, x8, x9, x10, x11, x12, y13, y14, y15, y16, y17, y18], df⟩ w') : RW Tryz.prog (opsC 3 Tryz.f80) true Q ⟨#[.pointer (some ⟨sg, 0, none⟩), id, x2, x3, x4, .pointer (some ⟨ab, 0, none⟩), x6, x7, x8, x9, x10, x11, x12, x13, x14, x15, x16, x17, x18], df⟩ w := by
 have HQ := Lib.hid hK
 clear hK
 have D1 := Lib.hid C1
 have D2 := Lib.hid C2
 have D3 := Lib.hid C3
 have H1 := Lib.hid h1
 have H2 := Lib.hid h2
 clear C1 C2 C3 h1 h2
 have QA := Lib.hid (fun b' (hm : Mods noB w b') => two_cells (w := b') (g := ab) (off := 0) (cells_of (hm.heap ha (fun x => x)) 0) (cells_of (hm.heap ha (fun x => x)) 1))
 clear ha
 have MR := Lib.hid ((Mods.refl noB w).drew)
 refine rw_ordT (S := fun b' => Mods noB w b') [(0, true), (1, true), (3, true), (2, false), (4, false), (5, false)] [5] (by kernel_rfl) (by kernel_rfl) (by kernel_rfl) (by kernel_rfl) MR.out ?_
 refine wpOrdT_frees [0, 1] [.pointer (some ⟨sg, 0, none⟩), id] (rest := [(3, true), (2, false), (4, false), (5, false)]) (by kernel_rfl) (by kernel_rfl) (fun _ => by kernel_rfl) ?_
 refine wpOrdT_free (.agg #[.int .u64 ((a : Nat) : Int), .int .u64 ((b : Nat) : Int)]) (some 16) ⟨by kernel_rfl, by kernel_rfl, by kernel_rfl⟩ (fun bb hb => of_load (x := (.tmp 5)) (by kernel_rfl) (by kernel_rfl) (load_a [.int .u64 ((a : Nat) : Int), .int .u64 ((b : Nat) : Int)] (QA.out _ hb) Tryz.underlying59 rfl (by kernel_rfl))) ?_
 refine wpOrdT_call (some 15) ⟨by kernel_rfl, by kernel_rfl, by kernel_rfl⟩ (D1.out _ MR.out) (fun _ => by kernel_rfl) ?_
 rintro r w7 ⟨f7, rfl, h7⟩
 replace MR := Lib.hid (H1.out _ _ h7)
 refine ⟨_, rfl, fun _ => MR.out, ?_⟩
 refine wpOrdT_call (some 17) ⟨by kernel_rfl, by kernel_rfl, by kernel_rfl⟩ (D2.out _ _ h7) (fun _ => by kernel_rfl) ?_
 rintro r w8 ⟨v8, rfl, h8⟩
 replace MR := Lib.hid (H2.out _ _ _ h8)
 refine ⟨_, rfl, fun _ => MR.out, ?_⟩
 refine wpOrdT_call (some 18) ⟨by kernel_rfl, by kernel_rfl, by kernel_rfl⟩ (D3.out _ _ _ h8) (fun _ => by kernel_rfl) ?_
 rintro r w9 ⟨v9, rfl, h9⟩
 refine ⟨_, rfl, (fun h => by cases h), ?_⟩
 exact wpOrdT_doneC (act_is (K := Q .normal) (by kernel_rfl) (HQ.out (.pointer (some ⟨sg, 0, none⟩)) (id) (f7) (.agg #[.int .u64 ((a : Nat) : Int), .int .u64 ((b : Nat) : Int)]) (v8) (v9) w9 h9))
end Go.Proofs.YtglkmaalpammcaaGreat

/- stake.SetParams, ante.Admit: drawn regions (printed by gen_an.py). -/
import Derived.Test.YtglkmaalpammcaaBkP
import Derived.Test.YtglkmaalpammcaaZB
namespace Go.Proofs.Ytglkmaalpammcaa
open Go.Gl Go.RowKit
set_option linter.unusedVariables false
set_option linter.unusedSimpArgs false
set_option maxRecDepth 100000
set_option maxHeartbeats 1000000 in
theorem ansp1 {w : World} {sg ab n0 n1 n2 n3 n4 n5 n6 n7 n8 n9 : Nat} {X : World → Value → Prop} {Y : World → Value → Value → Prop} {Z : World → Prop} (ha : w.heap[ab]? = some (.cells #[.int .u64 ((n0 : Nat) : Int), .int .u64 ((n1 : Nat) : Int), .int .u64 ((n2 : Nat) : Int), .int .u64 ((n3 : Nat) : Int), .int .u64 ((n4 : Nat) : Int), .int .u64 ((n5 : Nat) : Int), .int .u64 ((n6 : Nat) : Int), .int .u64 ((n7 : Nat) : Int), .int .u64 ((n8 : Nat) : Int), .int .u64 ((n9 : Nat) : Int)] 30 (0, 0))) (C1 : ∀ b', Mods noB w b' → Calls Try.prog 31 #[.int .i64 1, .int .u64 0, .int .u64 0] b' fun e w' => ∃ f, e = .returned f ∧ X w' f) (C2 : ∀ b' f, X b' f → Calls Try.prog 32 #[.agg #[.int .u64 ((n0 : Nat) : Int), .int .u64 ((n1 : Nat) : Int), .int .u64 ((n2 : Nat) : Int), .int .u64 ((n3 : Nat) : Int), .int .u64 ((n4 : Nat) : Int), .int .u64 ((n5 : Nat) : Int), .int .u64 ((n6 : Nat) : Int), .int .u64 ((n7 : Nat) : Int), .int .u64 ((n8 : Nat) : Int), .int .u64 ((n9 : Nat) : Int)]] b' fun e w' => ∃ v, e = .returned v ∧ Y w' f v) (C3 : ∀ b' f v, Y b' f v → Calls Try.prog 30 #[.pointer (some ⟨sg, 0, none⟩), f, v] b' fun e w' => ∃ r, e = .returned r ∧ Z w') (h1 : ∀ w' f, X w' f → Mods noB w w') (h2 : ∀ w' f v, Y w' f v → Mods noB w w') {x1 x2 x4 x5 x6 x7 x8 : Value} {df : List Deferred} {Q : Exit → Act → World → Prop}
    (hK : ∀ (y4 y5 y6 y7 y8 : Value)  (w' : World), Z w' → Q .normal ⟨#[.pointer (some ⟨sg, 0, none⟩), x1, x2, .pointer (some ⟨ab, 0, none⟩), y4, y5, y6, y7, y8], df⟩ w') : RW Try.prog (opsC 1 Try.f9) true Q ⟨#[.pointer (some ⟨sg, 0, none⟩), x1, x2, .pointer (some ⟨ab, 0, none⟩), x4, x5, x6, x7, x8], df⟩ w := by
  have HQ := Lib.hid hK
  clear hK
  have D1 := Lib.hid C1
  have D2 := Lib.hid C2
  have D3 := Lib.hid C3
  have H1 := Lib.hid h1
  have H2 := Lib.hid h2
  clear C1 C2 C3 h1 h2
  have QA := Lib.hid (fun b' (hm : Mods noB w b') => show ∀ j u, [Value.int .u64 ((n0 : Nat) : Int), .int .u64 ((n1 : Nat) : Int), .int .u64 ((n2 : Nat) : Int), .int .u64 ((n3 : Nat) : Int), .int .u64 ((n4 : Nat) : Int), .int .u64 ((n5 : Nat) : Int), .int .u64 ((n6 : Nat) : Int), .int .u64 ((n7 : Nat) : Int), .int .u64 ((n8 : Nat) : Int), .int .u64 ((n9 : Nat) : Int)][j]? = some u → b'.cell? ⟨ab, 0 + j, none⟩ = some u from fun j u hj => by rw [Nat.zero_add]; exact (cells_of (hm.heap ha (fun x => x)) j).trans (by rw [← hj]; exact List.getElem?_toArray))
  clear ha
  have MR := Lib.hid ((Mods.refl noB w).drew)
  refine rw_ordT (S := fun b' => Mods noB w b') [(0, true), (2, true), (1, false), (3, false), (4, false)] [4] (by kernel_rfl) (by kernel_rfl) (by kernel_rfl) (by kernel_rfl) MR.out ?_
  refine wpOrdT_frees [0] [.pointer (some ⟨sg, 0, none⟩)] (rest := [(2, true), (1, false), (3, false), (4, false)]) (by kernel_rfl) (by kernel_rfl) (fun _ => by kernel_rfl) ?_
  refine wpOrdT_free (.agg #[.int .u64 ((n0 : Nat) : Int), .int .u64 ((n1 : Nat) : Int), .int .u64 ((n2 : Nat) : Int), .int .u64 ((n3 : Nat) : Int), .int .u64 ((n4 : Nat) : Int), .int .u64 ((n5 : Nat) : Int), .int .u64 ((n6 : Nat) : Int), .int .u64 ((n7 : Nat) : Int), .int .u64 ((n8 : Nat) : Int), .int .u64 ((n9 : Nat) : Int)]) (some 6) ⟨by kernel_rfl, by kernel_rfl, by kernel_rfl⟩ (fun bb hb => of_load (x := (.tmp 3)) (by kernel_rfl) (by kernel_rfl) (load_a [.int .u64 ((n0 : Nat) : Int), .int .u64 ((n1 : Nat) : Int), .int .u64 ((n2 : Nat) : Int), .int .u64 ((n3 : Nat) : Int), .int .u64 ((n4 : Nat) : Int), .int .u64 ((n5 : Nat) : Int), .int .u64 ((n6 : Nat) : Int), .int .u64 ((n7 : Nat) : Int), .int .u64 ((n8 : Nat) : Int), .int .u64 ((n9 : Nat) : Int)] (QA.out _ hb) Try.underlying30 rfl (by kernel_rfl))) ?_
  refine wpOrdT_call (some 5) ⟨by kernel_rfl, by kernel_rfl, by kernel_rfl⟩ (D1.out _ MR.out) (fun _ => by kernel_rfl) ?_
  rintro r w7 ⟨f7, rfl, h7⟩
  replace MR := Lib.hid (H1.out _ _ h7)
  refine ⟨_, rfl, fun _ => MR.out, ?_⟩
  refine wpOrdT_call (some 7) ⟨by kernel_rfl, by kernel_rfl, by kernel_rfl⟩ (D2.out _ _ h7) (fun _ => by kernel_rfl) ?_
  rintro r w8 ⟨v8, rfl, h8⟩
  replace MR := Lib.hid (H2.out _ _ _ h8)
  refine ⟨_, rfl, fun _ => MR.out, ?_⟩
  refine wpOrdT_call (some 8) ⟨by kernel_rfl, by kernel_rfl, by kernel_rfl⟩ (D3.out _ _ _ h8) (fun _ => by kernel_rfl) ?_
  rintro r w9 ⟨v9, rfl, h9⟩
  refine ⟨_, rfl, (fun h => by cases h), ?_⟩
  exact wpOrdT_doneC (act_is (K := Q .normal) (by kernel_rfl) (HQ.out (.pointer (some ⟨sg, 0, none⟩)) (f7) (.agg #[.int .u64 ((n0 : Nat) : Int), .int .u64 ((n1 : Nat) : Int), .int .u64 ((n2 : Nat) : Int), .int .u64 ((n3 : Nat) : Int), .int .u64 ((n4 : Nat) : Int), .int .u64 ((n5 : Nat) : Int), .int .u64 ((n6 : Nat) : Int), .int .u64 ((n7 : Nat) : Int), .int .u64 ((n8 : Nat) : Int), .int .u64 ((n9 : Nat) : Int)]) (v8) (v9) w9 h9))
set_option maxHeartbeats 1000000 in
theorem anad2 {w : World} {sg xt xs f n0 n1 n2 n3 n4 n5 n6 n7 n8 n9 : Nat} {B : Bool} {S X : World → Prop} (hQ1 : ∀ b', S b' → b'.cell? ⟨xt, 2, none⟩ = some (.int .u64 ((f : Nat) : Int))) (hQ2 : ∀ b', S b' → b'.cell? ⟨xs, 0, none⟩ = some (.pointer (some ⟨sg, 0, none⟩))) (hS0 : S w.drew) (hS : ∀ b', X b' → S b') (hC : Calls Try.prog 42 #[.pointer (some ⟨sg, 0, none⟩)] w.drew fun e w' => e = .returned (.agg #[.int .u64 ((n0 : Nat) : Int), .int .u64 ((n1 : Nat) : Int), .int .u64 ((n2 : Nat) : Int), .int .u64 ((n3 : Nat) : Int), .int .u64 ((n4 : Nat) : Int), .int .u64 ((n5 : Nat) : Int), .int .u64 ((n6 : Nat) : Int), .int .u64 ((n7 : Nat) : Int), .int .u64 ((n8 : Nat) : Int), .int .u64 ((n9 : Nat) : Int)]) ∧ X w') (hB : decide (((f : Nat) : Int) < ((n8 : Nat) : Int)) = B) {x2 x3 x4 x5 x6 x7 x8 : Value} {df : List Deferred} {Q : Exit → Act → World → Prop}
    (hK : ∀ (y3 y4 y5 y6 y7 y8 : Value)  (w' : World), X w' → Q .normal ⟨#[.pointer (some ⟨xt, 0, none⟩), .pointer (some ⟨xs, 0, none⟩), .bool B, y3, y4, y5, y6, y7, y8], df⟩ w') : RW Try.prog (opsC 1 Try.f41) true Q ⟨#[.pointer (some ⟨xt, 0, none⟩), .pointer (some ⟨xs, 0, none⟩), x2, x3, x4, x5, x6, x7, x8], df⟩ w := by
  have HQ := Lib.hid hK
  clear hK
  refine rw_ordF (S := S) [(0, true), (1, true), (2, true), (3, false), (4, true), (5, true), (6, true)] [] [(0, 1, 8), (1, 8, 16), (0, 2, 32), (4, 32, 64), (8, 64, 128), (18, 144, 256), (63, 256, 4)] (by kernel_rfl) (by kernel_rfl) (by kernel_rfl) (by kernel_rfl) (by kernel_rfl) hS0 ?_
  refine wpOrdT_frees [0] [.pointer (some ⟨xt, 2, none⟩)] (rest := [(1, true), (2, true), (3, false), (4, true), (5, true), (6, true)]) (by kernel_rfl) (by kernel_rfl) (fun _ => by kernel_rfl) ?_
  refine wpOrdT_free (.int .u64 ((f : Nat) : Int)) (some 4) ⟨by kernel_rfl, by kernel_rfl, by kernel_rfl⟩ (fun bb hb => of_load (x := (.tmp 3)) (by kernel_rfl) (by kernel_rfl) (load_c (hQ1 _ hb) Try.underlying22 rfl)) ?_
  refine wpOrdT_free (.pointer (some ⟨sg, 0, none⟩)) (some 5) ⟨by kernel_rfl, by kernel_rfl, by kernel_rfl⟩ (fun bb hb => of_load (x := (.tmp 1)) (by kernel_rfl) (by kernel_rfl) (load_c (hQ2 _ hb) Try.underlying26 rfl)) ?_
  refine wpOrdT_call (some 6) ⟨by kernel_rfl, by kernel_rfl, by kernel_rfl⟩ hC (fun _ => by kernel_rfl) ?_
  rintro r w7 ⟨rfl, h7⟩
  refine ⟨_, rfl, fun _ => hS _ h7, ?_⟩
  refine wpOrdT_frees [4] [.int .u64 ((n8 : Nat) : Int)] (rest := [(5, true), (6, true)]) (by kernel_rfl) (by kernel_rfl) (fun _ => by kernel_rfl) ?_
  refine wpOrdT_free (.bool B) (some 8) ⟨by kernel_rfl, by kernel_rfl, by kernel_rfl⟩ (fun bb hb => run_bin (t := 22) (t' := 22) (xv := .int .u64 ((f : Nat) : Int)) (yv := .int .u64 ((n8 : Nat) : Int)) (x := (.tmp 4)) (y := (.tmp 7)) (by kernel_rfl) (by kernel_rfl) (by kernel_rfl) (fun _ => by kernel_rfl) (run_lss _ hB)) ?_
  refine wpOrdT_frees [6] [.bool B] (rest := []) (by kernel_rfl) (by kernel_rfl) (fun _ => by kernel_rfl) ?_
  exact wpOrdT_doneC (act_is (K := Q .normal) (by kernel_rfl) (HQ.out (.pointer (some ⟨xt, 2, none⟩)) (.int .u64 ((f : Nat) : Int)) (.pointer (some ⟨sg, 0, none⟩)) (.agg #[.int .u64 ((n0 : Nat) : Int), .int .u64 ((n1 : Nat) : Int), .int .u64 ((n2 : Nat) : Int), .int .u64 ((n3 : Nat) : Int), .int .u64 ((n4 : Nat) : Int), .int .u64 ((n5 : Nat) : Int), .int .u64 ((n6 : Nat) : Int), .int .u64 ((n7 : Nat) : Int), .int .u64 ((n8 : Nat) : Int), .int .u64 ((n9 : Nat) : Int)]) (.int .u64 ((n8 : Nat) : Int)) (.bool B) _ h7))
end Go.Proofs.Ytglkmaalpammcaa

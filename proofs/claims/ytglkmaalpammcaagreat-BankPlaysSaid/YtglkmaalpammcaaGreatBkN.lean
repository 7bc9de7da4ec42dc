/- gleanlaw9.known: the chapter's examples hold. -/
import Derived.Test.YtglkmaalpammcaaGreatBkL
import Derived.Test.YtglkmaalpammcaaGreatHNat
import Derived.Deep.DeepCutAuto
namespace Go.Proofs.YtglkmaalpammcaaGreat
open Go.Gl Go.RowKit
set_option linter.unusedVariables false
set_option maxRecDepth 100000
def kF1 : List Ent := mintF [] 16 5
def kF2 : List Ent := moveF kF1 16 17 5
def kF3 : List Ent := bumpF kF2 16
theorem kn1 : mintE [] 16 5 = 0 := by kernel_rfl
theorem kn2 : moveE kF1 16 17 5 = 0 := by kernel_rfl
theorem kn3 : kF2.length = 1 := by kernel_rfl
theorem kn4 : acF kF2 17 = (5, 0) := by kernel_rfl
theorem kn5 : moveE kF2 17 16 6 = 90 := by kernel_rfl
theorem kn5' : moveF kF2 17 16 6 = kF2 := by kernel_rfl
theorem kn6 : moveE kF2 17 17 5 = 0 := by kernel_rfl
theorem kn6' : moveF kF2 17 17 5 = kF2 := by kernel_rfl
theorem kn7 : mintE kF2 5 1 = 92 := by kernel_rfl
theorem kn7' : mintF kF2 5 1 = kF2 := by kernel_rfl
theorem kn8 : mintE kF2 17 1000000000000000000 = 91 := by kernel_rfl
theorem kn8' : mintF kF2 17 1000000000000000000 = kF2 := by kernel_rfl
theorem kn9 : acF kF3 16 = (0, 1) := by kernel_rfl
theorem kn10 : dig BB (sumF kF3) = [5] := by kernel_rfl
theorem kn11 : kF3.length = 2 := by kernel_rfl
section
variable {w0 w : World} {sg n p : Nat} {F F' : List Ent} {Q : Nat → Prop} {e : Int}
theorem k_mint (id k : Nat) (h : U64 id) (hk : U64 k) (hn : n ≤ 1000) (hp : p ≤ 1000) (he : ((mintE F id k : Nat) : Int) = e) (hF : mintF F id k = F') (g : G1 w0 w (KVe sg F n p) Q) : Calls Tryz.prog 15 #[.pointer (some ⟨sg, 0, none⟩), .int .u64 (id : Nat), .int .u64 (k : Nat)] w fun r w' => r = .returned (.int .i64 e) ∧ G1 w0 w' (KVe sg F' (n + 2) (p + 2)) Q := by
 have c := bMint (w := w) (sg := sg) (n := n) (p := p) (F := F) (Q := Q) (id := id) (k := k) h hk (by omega) (by omega)
 rw [he, hF] at c
 exact (g.calls c).mono fun r w' ⟨a, b, _⟩ => ⟨a, b⟩
theorem k_move (a b k : Nat) (ha : U64 a) (hb : U64 b) (hk : U64 k) (hn : n ≤ 1000) (hp : p ≤ 1000) (he : ((moveE F a b k : Nat) : Int) = e) (hF : moveF F a b k = F') (g : G1 w0 w (KVe sg F n p) Q) : Calls Tryz.prog 22 #[.pointer (some ⟨sg, 0, none⟩), .int .u64 (a : Nat), .int .u64 (b : Nat), .int .u64 (k : Nat)] w fun r w' => r = .returned (.int .i64 e) ∧ G1 w0 w' (KVe sg F' (n + 4) (p + 4)) Q := by
 have c := bMove (w := w) (sg := sg) (n := n) (p := p) (F := F) (Q := Q) (a := a) (b := b) (k := k) ha hb hk (by omega) (by omega)
 rw [he, hF] at c
 exact (g.calls c).mono fun r w' ⟨a, b, _⟩ => ⟨a, b⟩
theorem k_bump (id : Nat) (h : U64 id) (hn : n ≤ 1000) (hp : p ≤ 1000) (he : ((bumpE id : Nat) : Int) = e) (hF : bumpF F id = F') (g : G1 w0 w (KVe sg F n p) Q) : Calls Tryz.prog 24 #[.pointer (some ⟨sg, 0, none⟩), .int .u64 (id : Nat)] w fun r w' => r = .returned (.int .i64 e) ∧ G1 w0 w' (KVe sg F' (n + 2) (p + 2)) Q := by
 have c := bBump (w := w) (sg := sg) (n := n) (p := p) (F := F) (Q := Q) (id := id) h (by omega) (by omega)
 rw [he, hF] at c
 exact (g.calls c).mono fun r w' ⟨a, b, _⟩ => ⟨a, b⟩
theorem k_get (id x y : Nat) (h : U64 id) (hn : n ≤ 1000) (hp : p ≤ 1000) (he : acF F id = (x, y)) (g : G1 w0 w (KVe sg F n p) Q) : Calls Tryz.prog 26 #[.pointer (some ⟨sg, 0, none⟩), .int .u64 (id : Nat)] w fun r w' => r = .returned (.agg #[.int .u64 (x : Nat), .int .u64 (y : Nat)]) ∧ G1 w0 w' (KVe sg F (n + 1) p) Q := by
 have c := bGet (w := w) (sg := sg) (n := n) (p := p) (F := F) (Q := Q) (id := id) h (by omega) (by omega)
 rw [he] at c
 exact (g.calls c).mono fun r w' ⟨a, b, _⟩ => ⟨a, b⟩
theorem k_dump (hp : p ≤ 1000) {N : Nat} (hN : F.length = N) (g : G1 w0 w (KVe sg F n p) Q) : Calls Tryz.prog 20 #[.pointer (some ⟨sg, 0, none⟩)] w fun r w' => ∃ a c, r = .returned (.slice a (N : Nat) c) ∧ G1 w0 w' (KVe sg F n p) Q := by
 subst hN
 refine (g.call (ge_dump (by omega))).mono ?_
 rintro e w' ⟨v, P', Nn, rfl, ⟨M, pr, rfl, rfl, rfl⟩, g', _, _⟩
 obtain ⟨a, c, rfl, _⟩ := pr.at
 exact ⟨a, c, by rw [List.length_map], g'.less (fun k hk => .inl hk) g.q0⟩
end
set_option maxHeartbeats 16000000 in
theorem known9_any (w : World) : Calls Tryz.prog 21 #[] w fun e w' => e = .returned (.bool true) ∧ Mods noB w w' := by
 go_enter Tryz.func21, Tryz.ntmps21
 go_wp2_with fail
 refine (ge_new w).mono ?_
 rintro e w1 ⟨sg, rfl, g1⟩
 go_wp2_with fail
 refine (k_mint 16 5 (by unfold U64; omega) (by unfold U64; omega) (by omega) (by omega) (by rw [kn1]) (show _ = kF1 from rfl) g1).mono ?_
 rintro e w2 ⟨rfl, g2⟩
 clear g1
 go_wp2_with fail
 refine (k_move 16 17 5 (by unfold U64; omega) (by unfold U64; omega) (by unfold U64; omega) (by omega) (by omega) (by rw [kn2]) (show _ = kF2 from rfl) g2).mono ?_
 rintro e w3 ⟨rfl, g3⟩
 clear g2
 go_wp2_with fail
 refine (k_dump (by omega) kn3 g3).mono ?_
 rintro e w4 ⟨a, c, rfl, g4⟩
 clear g3
 go_wp2_with fail
 refine (k_get 17 5 0 (by unfold U64; omega) (by omega) (by omega) kn4 g4).mono ?_
 rintro e w5 ⟨rfl, g5⟩
 clear g4
 go_wp2_with fail
 refine (k_move 17 16 6 (by unfold U64; omega) (by unfold U64; omega) (by unfold U64; omega) (by omega) (by omega) (by rw [kn5]) kn5' g5).mono ?_
 rintro e w6 ⟨rfl, g6⟩
 clear g5
 go_wp2_with fail
 refine (k_move 17 17 5 (by unfold U64; omega) (by unfold U64; omega) (by unfold U64; omega) (by omega) (by omega) (by rw [kn6]) kn6' g6).mono ?_
 rintro e w7 ⟨rfl, g7⟩
 clear g6
 go_wp2_with fail
 refine (k_mint 5 1 (by unfold U64; omega) (by unfold U64; omega) (by omega) (by omega) (by rw [kn7]) kn7' g7).mono ?_
 rintro e w8 ⟨rfl, g8⟩
 clear g7
 go_wp2_with fail
 refine (k_mint 17 1000000000000000000 (by unfold U64; omega) (by unfold U64; omega) (by omega) (by omega) (by rw [kn8]) kn8' g8).mono ?_
 rintro e w9 ⟨rfl, g9⟩
 clear g8
 go_wp2_with fail
 refine (k_bump 16 (by unfold U64; omega) (by omega) (by omega) (by rfl) (show _ = kF3 from rfl) g9).mono ?_
 rintro e w10 ⟨rfl, g10⟩
 clear g9
 go_wp2_with fail
 refine (k_get 16 0 1 (by unfold U64; omega) (by omega) (by omega) kn9 g10).mono ?_
 rintro e w11 ⟨rfl, g11⟩
 clear g10
 go_wp2_with fail
 refine (g11.call (ge_sum (by omega) (by omega))).mono ?_
 rintro e w12 ⟨v, P', Nn, rfl, ⟨rd, rfl, rfl⟩, g12, _, _⟩
 rw [kn10] at rd
 have hb := heap_new w12 (.cells #[.int .u64 5] 22)
 have m12 := (Mods.refl noB w12).alloc (.cells #[.int .u64 5] 22)
 have HN := Lib.hid ((HNat_any (RdM.keep rd m12 (fun _ _ x => x)) (show RN (w12.alloc (.cells #[.int .u64 5] 22)) (.slice (some ⟨w12.heap.size, 0, none⟩) 1 1) [5] from rdM_of rfl (Nat.le_refl _) (by decide) (.inr (lt_of_heap hb)) (fun i hi => by
  simp only [List.length_cons, List.length_nil] at hi
  obtain rfl : i = 0 := by omega
  exact cells_of hb 0))).mono (fun e w' ⟨h1, h2⟩ => show e = Ending.returned (.bool true) ∧ Mods noB (w12.alloc (.cells #[.int .u64 5] 22)) w' from ⟨by rw [h1]; rfl, h2.mods _⟩))
 have G12 := Lib.hid (g12.keep0 kve_f m12)
 clear g11 g12 rd hb m12
 go_wp2_with fail
 refine HN.out.mono ?_
 rintro e w13 ⟨rfl, q13⟩
 have g13 := (G12.out.keep0 kve_f q13).less (fun k hk => .inl hk) (fun k hk => hk)
 clear G12 HN q13
 go_wp2_with fail
 refine (k_dump (by omega) kn11 g13).mono ?_
 rintro e w14 ⟨a2, c2, rfl, g14⟩
 have m14 := g14.mods
 clear g13 g14
 go_wp2
 go_ret
 exact ⟨rfl, m14⟩
end Go.Proofs.YtglkmaalpammcaaGreat

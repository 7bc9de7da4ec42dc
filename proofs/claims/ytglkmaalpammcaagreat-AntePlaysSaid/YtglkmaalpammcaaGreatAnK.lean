/- gleanlaw18.known: the chapter's examples hold. -/
import Derived.Test.YtglkmaalpammcaaGreatAnA
import Derived.Test.YtglkmaalpammcaaGreatBkL
import Derived.Deep.DeepCutAuto
namespace Go.Proofs.YtglkmaalpammcaaGreat
open Go.Gl Go.RowKit
set_option linter.unusedVariables false
set_option maxRecDepth 100000
def aF0 : List Ent := setFF [] pkey (prmLay 0 0 0 0 0 0 0 0 3 0)
def aF1 : List Ent := mintF aF0 16 10
def aF2 : List Ent := admF aF1 16 0 3
theorem an1 : mintE aF0 16 10 = 0 := by kernel_rfl
theorem an2 : admE aF1 16 0 3 = 0 := by kernel_rfl
theorem an3 : admE aF2 16 0 3 = 183 := by kernel_rfl
theorem an3' : admF aF2 16 0 3 = aF2 := by kernel_rfl
theorem an4 : admE aF2 16 1 2 = 181 := by kernel_rfl
theorem an4' : admF aF2 16 1 2 = aF2 := by kernel_rfl
theorem an5 : admE aF2 16 1 8 = 182 := by kernel_rfl
theorem an5' : admF aF2 16 1 8 = aF2 := by kernel_rfl
theorem an6 : admE aF2 4 0 3 = 180 := by kernel_rfl
theorem an6' : admF aF2 4 0 3 = aF2 := by kernel_rfl
theorem an7 : acF aF2 16 = (7, 1) := by kernel_rfl
theorem an8 : acF aF2 1 = (3, 0) := by kernel_rfl
section
variable {w0 w : World} {sg n p : Nat} {F F' : List Ent} {Q : Nat → Prop} {e : Int}
theorem l_admit (s q f : Nat) (hs : U64 s) (hq : U64 q) (hf : U64 f) (hn : n ≤ 1000) (hp : p ≤ 1000) (he : ((admE F s q f : Nat) : Int) = e) (hF : admF F s q f = F') (g : G1 w0 w (KVe sg F n p) Q) : Calls Tryz.prog 17 #[.pointer (some ⟨sg, 0, none⟩), .agg #[.int .u64 (s : Nat), .int .u64 (q : Nat), .int .u64 (f : Nat), .int .i64 0, .int .u64 0, .int .u64 0, .int .u64 0]] w fun r w' => r = .returned (.int .i64 e) ∧ G1 w0 w' (KVe sg F' (n + 12) (p + 10)) Q := by
 have c := aAdmit (w := w) (sg := sg) (n := n) (p := p) (F := F) (Q := Q) (s := s) (q := q) (f := f) (kd := 0) (a := 0) (b := 0) (m := 0) hs hq hf (by omega) (by omega)
 rw [he, hF] at c
 exact (g.calls c).mono fun r w' ⟨a, b, _⟩ => ⟨a, b⟩
theorem l_mint (id k : Nat) (h : U64 id) (hk : U64 k) (hn : n ≤ 1000) (hp : p ≤ 1000) (he : ((mintE F id k : Nat) : Int) = e) (hF : mintF F id k = F') (g : G1 w0 w (KVe sg F n p) Q) : Calls Tryz.prog 15 #[.pointer (some ⟨sg, 0, none⟩), .int .u64 (id : Nat), .int .u64 (k : Nat)] w fun r w' => r = .returned (.int .i64 e) ∧ G1 w0 w' (KVe sg F' (n + 2) (p + 2)) Q := by
 have c := bMint (w := w) (sg := sg) (n := n) (p := p) (F := F) (Q := Q) (id := id) (k := k) h hk (by omega) (by omega)
 rw [he, hF] at c
 exact (g.calls c).mono fun r w' ⟨a, b, _⟩ => ⟨a, b⟩
theorem l_get (id x y : Nat) (h : U64 id) (hn : n ≤ 1000) (hp : p ≤ 1000) (he : acF F id = (x, y)) (g : G1 w0 w (KVe sg F n p) Q) : Calls Tryz.prog 26 #[.pointer (some ⟨sg, 0, none⟩), .int .u64 (id : Nat)] w fun r w' => r = .returned (.agg #[.int .u64 (x : Nat), .int .u64 (y : Nat)]) ∧ G1 w0 w' (KVe sg F (n + 1) p) Q := by
 have c := bGet (w := w) (sg := sg) (n := n) (p := p) (F := F) (Q := Q) (id := id) h (by omega) (by omega)
 rw [he] at c
 exact (g.calls c).mono fun r w' ⟨a, b, _⟩ => ⟨a, b⟩
theorem l_set (fee : Nat) (h : U64 fee) (hn : n ≤ 1000) (hp : p ≤ 1000) (g : G1 w0 w (KVe sg F n p) Q) : Calls Tryz.prog 13 #[.pointer (some ⟨sg, 0, none⟩), .agg #[.int .u64 0, .int .u64 0, .int .u64 0, .int .u64 0, .int .u64 0, .int .u64 0, .int .u64 0, .int .u64 0, .int .u64 (fee : Nat), .int .u64 0]] w fun r w' => r = .returned (.tuple #[]) ∧ G1 w0 w' (KVe sg (setFF F pkey (prmLay 0 0 0 0 0 0 0 0 fee 0)) (n + 1) (p + 2)) Q := by
 have c := sSet (w := w) (sg := sg) (n := n) (p := p) (F := F) (Q := Q) (n0 := 0) (n1 := 0) (n2 := 0) (n3 := 0) (n4 := 0) (n5 := 0) (n6 := 0) (n7 := 0) (n8 := fee) (n9 := 0) (fun x hx => by
  simp only [List.mem_cons, List.not_mem_nil, or_false] at hx
  unfold U64 at h
  omega) (by omega) (by omega)
 exact (g.calls c).mono fun r w' ⟨a, b, _⟩ => ⟨a, b⟩
end
set_option maxHeartbeats 16000000 in
theorem known18_any (w : World) : Calls Tryz.prog 11 #[] w fun e w' => e = .returned (.bool true) ∧ Mods noB w w' := by
 have hfd : ∀ (w : World) (u v : Value), (Instr.field 59 (.agg #[u, v]) 0).run Tryz.prog w = .ok u w := fun _ _ _ => by kernel_rfl
 go_enter Tryz.func11, Tryz.ntmps11
 go_wp2_with fail
 refine (ge_new w).mono ?_
 rintro e w1 ⟨sg, rfl, g1⟩
 go_wp2_with fail
 refine (l_set 3 (by unfold U64; omega) (by omega) (by omega) g1).mono ?_
 rintro e w2 ⟨rfl, g2⟩
 clear g1
 go_wp2_with fail
 refine (l_mint 16 10 (by unfold U64; omega) (by unfold U64; omega) (by omega) (by omega) (show ((mintE aF0 16 10 : Nat) : Int) = 0 by rw [an1]; rfl) (show _ = aF1 from rfl) g2).mono ?_
 rintro e w3 ⟨rfl, g3⟩
 clear g2
 go_wp2_with fail
 refine (l_admit 16 0 3 (by unfold U64; omega) (by unfold U64; omega) (by unfold U64; omega) (by omega) (by omega) (show ((admE aF1 16 0 3 : Nat) : Int) = 0 by rw [an2]; rfl) (show _ = aF2 from rfl) g3).mono ?_
 rintro e w4 ⟨rfl, g4⟩
 clear g3
 go_wp2_with fail
 refine (l_admit 16 0 3 (by unfold U64; omega) (by unfold U64; omega) (by unfold U64; omega) (by omega) (by omega) (by rw [an3]) an3' g4).mono ?_
 rintro e w5 ⟨rfl, g5⟩
 clear g4
 go_wp2_with fail
 refine (l_admit 16 1 2 (by unfold U64; omega) (by unfold U64; omega) (by unfold U64; omega) (by omega) (by omega) (by rw [an4]) an4' g5).mono ?_
 rintro e w6 ⟨rfl, g6⟩
 clear g5
 go_wp2_with fail
 refine (l_admit 16 1 8 (by unfold U64; omega) (by unfold U64; omega) (by unfold U64; omega) (by omega) (by omega) (by rw [an5]) an5' g6).mono ?_
 rintro e w7 ⟨rfl, g7⟩
 clear g6
 go_wp2_with fail
 refine (l_admit 4 0 3 (by unfold U64; omega) (by unfold U64; omega) (by unfold U64; omega) (by omega) (by omega) (by rw [an6]) an6' g7).mono ?_
 rintro e w8 ⟨rfl, g8⟩
 clear g7
 go_wp2_with fail
 refine (l_get 16 7 1 (by unfold U64; omega) (by omega) (by omega) an7 g8).mono ?_
 rintro e w9 ⟨rfl, g9⟩
 clear g8
 go_wp2_with fail
 refine (l_get 1 3 0 (by unfold U64; omega) (by omega) (by omega) an8 g9).mono ?_
 rintro e w10 ⟨rfl, g10⟩
 have m10 := g10.mods
 clear g9 g10
 go_wp2
 go_ret
 exact ⟨rfl, m10⟩
end Go.Proofs.YtglkmaalpammcaaGreat

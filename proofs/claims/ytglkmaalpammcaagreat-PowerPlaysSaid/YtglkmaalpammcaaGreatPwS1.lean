/- slices.Sort of at most one number. -/
import Derived.Test.YtglkmaalpammcaaGreatPwU
set_option maxHeartbeats 64000000
namespace Go.Proofs.YtglkmaalpammcaaGreat
open Go.Gl Go.RowKit
set_option linter.unusedVariables false
set_option maxRecDepth 100000
theorem Ip (w:World):Calls Tryz.prog 284 #[.int .u64 0] w fun e w'=>e = .returned (.int .i64 0)∧w'=w:=by
 go_enter Tryz.func284,Tryz.ntmps284
 go_wp2
 go_ret
 exact⟨by first | kernel_rfl | (simp;done) | decide,rfl⟩
theorem IK (w:World):Calls Tryz.prog 284 #[.int .u64 1] w fun e w'=>e = .returned (.int .i64 1)∧w'=w:=by
 go_enter Tryz.func284,Tryz.ntmps284
 go_wp2
 go_ret
 exact⟨by first | kernel_rfl | (simp;done) | decide,rfl⟩
theorem JR {n:Nat} (hn:n≤1) (w:World):Calls Tryz.prog 250 #[.int .u64 ((n:Nat):Int)] w fun e w'=>∃ r:Int,e = .returned (.int .i64 r)∧w'=w:=by
 have L0:=lh (Ip w)
 have L1:=lh (IK w)
 rcases Nat.le_one_iff_eq_zero_or_eq_one.1 hn with rfl | rfl
 ·show Calls Tryz.prog 250 #[.int .u64 0] w _
  clear hn
  go_enter Tryz.func250,Tryz.ntmps250
  go_wp2_with fail
  refine L0.out.mono ?_
  rintro e w1 ⟨rfl,rfl⟩
  go_wp2
  go_ret
  exact⟨_,rfl,rfl⟩
 ·show Calls Tryz.prog 250 #[.int .u64 1] w _
  clear hn
  go_enter Tryz.func250,Tryz.ntmps250
  go_wp2_with fail
  refine L1.out.mono ?_
  rintro e w1 ⟨rfl,rfl⟩
  go_wp2
  go_ret
  exact⟨_,rfl,rfl⟩
theorem J3 {n:Nat} (hn:n≤1) (v:Value) (w:World):Calls Tryz.prog 274 #[v,.int .i64 0,.int .i64 ((n:Nat):Int)] w fun e w'=>e = .returned (.tuple #[])∧w'=w:=by
 go_enter Tryz.func274,Tryz.ntmps274
 go_wp2
 go_rounds 1
 go_end0
 exact⟨rfl,rfl⟩
theorem JX {n:Nat} (hn:n≤1) (v:Value) (r:Int) (w:World):Calls Tryz.prog 249 #[v,.int .i64 0,.int .i64 ((n:Nat):Int),.int .i64 r] w fun e w'=>e = .returned (.tuple #[])∧w'=w:=by
 have I:=lh (J3 hn v w)
 go_enter Tryz.func249,Tryz.ntmps249
 go_wp2
 refine wp_loop_rounds 1 ?_
 rw [rounds_succ]
 go_wp2_with fail
 refine I.out.mono ?_
 rintro e w1 ⟨rfl,rfl⟩
 go_wp2
 refine bodyPost_ret (results_none rfl _ _ _) rfl ?_
 exact⟨rfl,rfl⟩
theorem FO:Em 1:=fun w v l hl o=>by
 obtain⟨a,c,rfl,_⟩:=fF.rd o |>.form
 obtain⟨n,hn⟩:∃ n,l.length=n:=⟨_,rfl⟩
 rw [hn] at hl
 have O:=lh (And.intro o hn)
 have L:=lh (JR hl w)
 have Pq:=lh (fun r=>JX hl (.slice a n c) r w)
 rw [hn]
 clear o hn
 go_enter Tryz.func207,Tryz.ntmps207
 go_wp2_with fail
 refine L.out.mono ?_
 rintro e w1 ⟨r,rfl,rfl⟩
 go_wp2_with fail
 refine (Pq.out r).mono ?_
 rintro e w1 ⟨rfl,rfl⟩
 go_wp2
 go_end0
 refine⟨rfl,l,List.Perm.refl _,?_,?_,ae.refl _ _⟩
 ·have:=O.out.2
  match l,this with
  | [],_=>exact List.Pairwise.nil
  | [x],_=>exact List.pairwise_singleton _ _
  | x :: y :: l,h=>simp at h;omega
 ·rw [← O.out.2];exact O.out.1
end Go.Proofs.YtglkmaalpammcaaGreat

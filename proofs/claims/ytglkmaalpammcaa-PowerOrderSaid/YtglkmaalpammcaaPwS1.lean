/- slices.Sort of at most one number. -/
import Derived.Test.YtglkmaalpammcaaPwU
set_option maxHeartbeats 64000000
namespace Go.Proofs.Ytglkmaalpammcaa
open Go.Gl Go.RowKit
set_option linter.unusedVariables false
set_option maxRecDepth 100000
theorem DZ (w:World):Calls Try.prog 118 #[.int .u64 0] w fun e w'=>e = .returned (.int .i64 0)∧w'=w:=by
 go_enter Try.func118,Try.ntmps118
 go_wp2
 go_ret
 exact⟨by first | kernel_rfl | (simp;done) | decide,rfl⟩
theorem Eb (w:World):Calls Try.prog 118 #[.int .u64 1] w fun e w'=>e = .returned (.int .i64 1)∧w'=w:=by
 go_enter Try.func118,Try.ntmps118
 go_wp2
 go_ret
 exact⟨by first | kernel_rfl | (simp;done) | decide,rfl⟩
theorem EC {n:Nat} (hn:n≤1) (w:World):Calls Try.prog 76 #[.int .u64 ((n:Nat):Int)] w fun e w'=>∃ r:Int,e = .returned (.int .i64 r)∧w'=w:=by
 have L0:=lh (DZ w)
 have L1:=lh (Eb w)
 rcases Nat.le_one_iff_eq_zero_or_eq_one.1 hn with rfl | rfl
 ·show Calls Try.prog 76 #[.int .u64 0] w _
  clear hn
  go_enter Try.func76,Try.ntmps76
  go_wp2_with fail
  refine L0.out.mono ?_
  rintro e w1 ⟨rfl,rfl⟩
  go_wp2
  go_ret
  exact⟨_,rfl,rfl⟩
 ·show Calls Try.prog 76 #[.int .u64 1] w _
  clear hn
  go_enter Try.func76,Try.ntmps76
  go_wp2_with fail
  refine L1.out.mono ?_
  rintro e w1 ⟨rfl,rfl⟩
  go_wp2
  go_ret
  exact⟨_,rfl,rfl⟩
theorem Et {n:Nat} (hn:n≤1) (v:Value) (w:World):Calls Try.prog 108 #[v,.int .i64 0,.int .i64 ((n:Nat):Int)] w fun e w'=>e = .returned (.tuple #[])∧w'=w:=by
 go_enter Try.func108,Try.ntmps108
 go_wp2
 go_rounds 1
 go_end0
 exact⟨rfl,rfl⟩
theorem ED {n:Nat} (hn:n≤1) (v:Value) (r:Int) (w:World):Calls Try.prog 75 #[v,.int .i64 0,.int .i64 ((n:Nat):Int),.int .i64 r] w fun e w'=>e = .returned (.tuple #[])∧w'=w:=by
 have I:=lh (Et hn v w)
 go_enter Try.func75,Try.ntmps75
 go_wp2
 refine wp_loop_rounds 1 ?_
 rw [rounds_succ]
 go_wp2_with fail
 refine I.out.mono ?_
 rintro e w1 ⟨rfl,rfl⟩
 go_wp2
 refine bodyPost_ret (results_none rfl _ _ _) rfl ?_
 exact⟨rfl,rfl⟩
theorem BH:zq 1:=fun w v l hl o=>by
 obtain⟨a,c,rfl,_⟩:=dR.rd o |>.form
 obtain⟨n,hn⟩:∃ n,l.length=n:=⟨_,rfl⟩
 rw [hn] at hl
 have O:=lh (And.intro o hn)
 have L:=lh (EC hl w)
 have Pq:=lh (fun r=>ED hl (.slice a n c) r w)
 rw [hn]
 clear o hn
 go_enter Try.func52,Try.ntmps52
 go_wp2_with fail
 refine L.out.mono ?_
 rintro e w1 ⟨r,rfl,rfl⟩
 go_wp2_with fail
 refine (Pq.out r).mono ?_
 rintro e w1 ⟨rfl,rfl⟩
 go_wp2
 go_end0
 refine⟨rfl,l,List.Perm.refl _,?_,?_,ae.refl _ _⟩
 ·have:=O.out.2
  match l,this with
  | [],_=>exact List.Pairwise.nil
  | [x],_=>exact List.pairwise_singleton _ _
  | x :: y :: l,h=>simp at h;omega
 ·rw [← O.out.2];exact O.out.1
end Go.Proofs.Ytglkmaalpammcaa

/- gleanhelp.Place (out of KBegins, whose other texts this seat lacks). -/
import Derived.Test.YtglkmaalpammcaaZA
namespace Go.Proofs.Ytglkmaalpammcaa
open Go.Gl Go.RowKit
set_option linter.unusedVariables false
theorem rM (k n:Int) (w:World) (h1 : -9223372036854775808≤k) (h2:k≤9223372036854775807) (hn:0<n) (hn2:n≤1000000) :
  Calls Try.prog 28 #[.int .i64 k,.int .i64 n] w fun e w'=>∃ r:Int,e = .returned (.int .i64 r)∧0≤r∧r<n∧w=w':=by
 have ht1:k.tmod n<n:=Int.tmod_lt_of_pos k hn
 have ht2 : -n<k.tmod n:=by
  have:=Int.tmod_lt_of_pos (-k) hn
  rw [Int.neg_tmod] at this
  omega
 have hn0:¬ n=0:=by omega
 by_cases hk:0≤k
 ·have h3:k.tmod n=k % n:=Int.tmod_eq_emod_of_nonneg hk
  have h4:0≤k % n:=Int.emod_nonneg _ hn0
  rw [h3] at ht1
  clear ht2 h3
  go_enter Try.func28,Try.ntmps28
  go_wp2_with fail
  go_ret
  exact⟨k % n,rfl,h4,ht1,rfl⟩
 ·obtain⟨r,hr⟩:∃ r,r=k.tmod n:=⟨_,rfl⟩
  by_cases hneg:k.tmod n<0
  ·go_enter Try.func28,Try.ntmps28
   go_wp2_with fail
   go_ret
   exact⟨k.tmod n+n,rfl,by omega,by omega,rfl⟩
  ·have hneg2:0≤k.tmod n:=by omega
   go_enter Try.func28,Try.ntmps28
   go_wp2_with fail
   go_ret
   exact⟨k.tmod n,rfl,hneg2,ht1,rfl⟩
end Go.Proofs.Ytglkmaalpammcaa

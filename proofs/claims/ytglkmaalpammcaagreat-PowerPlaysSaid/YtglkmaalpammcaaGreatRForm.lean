/- gleanref7.form: the document's table of the kinds' forms. -/
import Derived.Test.YtglkmaalpammcaaGreatZE
set_option maxHeartbeats 64000000
namespace Go.Proofs.YtglkmaalpammcaaGreat
open Go.Gl Go.RowKit
set_option linter.unusedVariables false
def gq (f:dV):Nat:=(if f.a then 1 else 0)+(if f.b then 1 else 0)
theorem Ff (n:Int) (w:World) (h:n<1∨17<n) :
  Calls Tryz.prog 198 #[.int .i64 n] w fun e w'=>e = .returned (.tuple #[.int .u8 0,.int .i64 0,.int .u8 0])∧w'=w:=by
 rcases h with h | h
 all_goals
  go_enter Tryz.func198,Tryz.ntmps198
  go_wp2
  go_ret3
  exact⟨rfl,rfl⟩
theorem kinds (k:Nat) (h1:1≤k) (h2:k≤17):k=1∨k=2∨k=3∨k=4∨k=5∨k=6∨k=7∨k=8∨k=9∨k=10∨k=11∨k=12∨k=13∨k=14∨k=15∨k=16∨k=17:=by omega
theorem og {k:Nat}{f:dV} (hf:eY k=some f):1≤k∧k≤17:=by
 rcases Nat.lt_or_ge k 18 with h | h
 ·rcases Nat.eq_zero_or_pos k with rfl | h0
  ·simp [eY] at hf
  ·omega
 ·obtain⟨j,rfl⟩:∃ j,k=j+18:=⟨k - 18,by omega⟩
  simp [eY] at hf
theorem je (k:Nat) (f:dV) (w:World) (hf:eY k=some f) :
  Calls Tryz.prog 198 #[.int .i64 k] w fun e w'=>e = .returned (.tuple #[.int .u8 f.head.toNat,.int .i64 (gq f),.int .u8 f.mid.toNat])∧w'=w:=by
 obtain⟨h1,h2⟩:=og hf
 rcases kinds k h1 h2 with rfl | rfl | rfl | rfl | rfl | rfl | rfl | rfl | rfl | rfl | rfl | rfl | rfl | rfl | rfl | rfl | rfl
 all_goals
  as_aux_lemma =>
   cases hf
   go_enter Tryz.func198,Tryz.ntmps198
   go_wp2
   go_ret3
   exact⟨rfl,rfl⟩
end Go.Proofs.YtglkmaalpammcaaGreat

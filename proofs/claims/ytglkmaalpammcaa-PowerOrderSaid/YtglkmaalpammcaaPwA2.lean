/- Arguments: an int, a row of numbers. -/
import Derived.Test.YtglkmaalpammcaaSteps
import Derived.Test.YtglkmaalpammcaaArgs
namespace Go.Proofs.Ytglkmaalpammcaa
open Go.Gl Go.RowKit Go.ChangeShapes Go.WideShapes Go.ChangeAt Go.Deep
set_option linter.unusedVariables false
set_option maxRecDepth 100000
theorem qF {H:Type}{enc:TypeId × Value→H}{W:World}{base:Nat}{v:Value}{d:DataW H}{p:List MemPlace} (hv:Value.okWide Try.prog W .any base 3 v) (h:DataW.Trod enc Try.prog W 0 (fun _=>true) true 3 v d p):∃ z:Int,v = .int .i64 z∧(-9223372036854775808≤z∧z≤9223372036854775807):=by
 obtain⟨fuel,hf⟩:=h
 obtain⟨n,rfl⟩:=okWide_int Try.underlying3 hv
 obtain⟨z,e,_,wf⟩:=DataW.trod_int Try.underlying3 hf
 have:n=z:=by simpa [Value.cells] using e
 subst this
 exact⟨n,rfl,bounds_i64 wf⟩
theorem vZ {H:Type}{enc:TypeId × Value→H}{W:World}{base:Nat}{v:Value}{d:DataW H}{p:List MemPlace} (hv:Value.okWide Try.prog W .any base 48 v) (h:DataW.Trod enc Try.prog W 0 (fun _=>true) true 48 v d p) (hw:∀ q∈d.weights Try.prog 48,q≤reachBytes):∃ l:List Nat,fM u64 W v l∧∀ x∈l,x≤18446744073709551615:=by
 obtain⟨fuel,hf⟩:=h
 obtain⟨a0,len0,cap0,rfl⟩:=okWide_slice Try.underlying48 hv
 obtain⟨z,r,lz,b⟩:=xm Try.underlying48 Try.underlying22 (by kernel_rfl) hf (of_decide_eq_true (by kernel_rfl)) hw
 refine⟨z.map Int.toNat,fM.map_of (h:=u64) Int.toNat (fun y hy=>by have:=bounds_u64 (lz y hy);simp only [u64];congr 1;omega) r,fun y hy=>?_⟩
 obtain⟨y',hy',rfl⟩:=List.mem_map.1 hy
 have:=bounds_u64 (lz y' hy')
 omega
end Go.Proofs.Ytglkmaalpammcaa

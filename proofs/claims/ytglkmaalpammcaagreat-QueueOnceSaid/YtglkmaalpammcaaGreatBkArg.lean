/- The argument of bank's laws: a script of steps. -/
import Derived.Test.YtglkmaalpammcaaGreatSteps
import Derived.Test.YtglkmaalpammcaaGreatZE
namespace Go.Proofs.YtglkmaalpammcaaGreat
open Go.Gl Go.RowKit Go.ChangeShapes Go.WideShapes Go.ChangeAt Go.Deep
set_option linter.unusedVariables false
set_option maxRecDepth 100000
theorem Iz {H:Type}{enc:TypeId × Value→H}{W:World}{base:Nat}{v:Value}{d:DataW H}{p:List MemPlace} (hv:Value.okWide Tryz.prog W .any base 22 v) (h:DataW.Trod enc Tryz.prog W 0 (fun _=>true) true 22 v d p):∃ x:Nat,v = .int .u64 (x:Nat)∧bD x:=by
 obtain⟨fuel,hf⟩:=h
 obtain⟨n,rfl⟩:=okWide_int Tryz.underlying22 hv
 obtain⟨z,e,_,wf⟩:=DataW.trod_int Tryz.underlying22 hf
 have:n=z:=by simpa [Value.cells] using e
 subst this
 have:=bounds_u64 wf
 exact⟨n.toNat,by rw [Int.toNat_of_nonneg this.1],by unfold bD;omega⟩
end Go.Proofs.YtglkmaalpammcaaGreat

/- Arguments: an int, a number, a Dec. -/
import Derived.Test.YtglkmaalpammcaaGreatQuArg
namespace Go.Proofs.YtglkmaalpammcaaGreat
open Go.Gl Go.RowKit Go.ChangeShapes Go.WideShapes Go.ChangeAt Go.Deep
set_option linter.unusedVariables false
set_option maxRecDepth 100000
theorem Df {H:Type}{enc:TypeId × Value→H}{W:World}{base:Nat}{v:Value}{d:DataW H}{p:List MemPlace} (hv:Value.okWide Tryz.prog W .any base 3 v) (h:DataW.Trod enc Tryz.prog W 0 (fun _=>true) true 3 v d p):∃ z:Int,v = .int .i64 z ∧ -9223372036854775808≤z∧z≤9223372036854775807:=by
 obtain⟨fuel,hf⟩:=h
 obtain⟨n,rfl⟩:=okWide_int Tryz.underlying3 hv
 obtain⟨z,e,_,wf⟩:=DataW.trod_int Tryz.underlying3 hf
 have:n=z:=by simpa [Value.cells] using e
 subst this
 exact⟨n,rfl,bounds_i64 wf⟩
theorem Cj {H:Type}{enc:TypeId × Value→H}{W:World}{base:Nat}{v:Value}{d:DataW H}{p:List MemPlace} (hv:Value.okWide Tryz.prog W .any base 75 v) (h:DataW.Trod enc Tryz.prog W 0 (fun _=>true) true 75 v d p) (hw:∀ q∈d.weights Tryz.prog 75,q≤reachBytes):∃ x:Value × List Nat,v = .agg #[x.1]∧(RN W x.1 x.2∧dm x.2∧x.2.length≤140737488355328):=by
  simp only [Value.okWide,Tryz.underlying75] at hv
  obtain⟨cs,rfl,hs,ts,hts,_,hrow⟩:=hv
  have hcs:cs.size=1:=hs.trans (by kernel_rfl)
  obtain⟨l⟩:=cs
  simp only [List.size_toArray] at hcs
  obtain⟨fuel,hf⟩:=h
  match l,hcs with
  | [c0], _ =>
    obtain⟨ls,r1,r2,r3⟩:=Iy hf hw
    exact⟨(c0,ls),rfl,r1,r2,r3⟩
end Go.Proofs.YtglkmaalpammcaaGreat

/- A set of records among the arguments (printed by gen_rec.py). -/
import Derived.Test.YtglkmaalpammcaaGreatZE
import Derived.Test.YtglkmaalpammcaaGreatArgs
import Derived.Test.YtglkmaalpammcaaGreatSteps
namespace Go.Proofs.YtglkmaalpammcaaGreat
open Go.Gl Go.RowKit Go.ChangeShapes Go.WideShapes Go.ChangeAt
set_option linter.unusedVariables false
set_option maxRecDepth 100000
theorem wY {H:Type}{enc:TypeId × Value→H}{P:Program}{w:World}{base:Nat}{spare:Nat→Bool}{held:Bool}{R:Nat}{t:TypeId}{fs:Array Field}{fuel:Nat}{cs:List Value}{x:DataW H × List MemPlace} (ht:P.underlying t=some (.struct fs)) (h:DataW.trod enc P w base spare held fuel t cs=some x)
  (hw:∀ q∈x.1.weights P t,q≤R) (j:Nat) {f:Field} (hj:fs[j]?=some f) {cs':List Value} (hc:(cs.drop f.offset).take (P.cellsOf f.type)=cs'):∃ (y:DataW H × List MemPlace) (n:Nat),DataW.trod enc P w base spare held n f.type cs'=some y∧∀ q∈y.1.weights P f.type,q≤R:=by
 obtain⟨xs,n,_,hx,_,hl,hf⟩:=DataW.trod_struct ht h
 have hjl:j<fs.size:=(Array.getElem?_eq_some_iff.1 hj).1
 have hy:xs[j]?=some (xs[j]'(by omega)):=List.getElem?_eq_getElem (by omega)
 refine⟨_,n,(hc▸hf j f hj).trans hy,fun q hq=>hw q ?_⟩
 rw [hx]
 simp only [DataW.weights,ht]
 exact DataW.weights_mem_each (j:=j) (by rw [List.getElem?_map,Array.getElem?_toList,hj];rfl) (by rw [List.getElem?_map,hy];rfl) q hq
theorem Le {H:Type}{enc:TypeId × Value→H}{W:World}{fuel:Nat}{v:Value}{x:DataW H × List MemPlace} (hf:DataW.trod enc Tryz.prog W 0 (fun _=>true) true fuel 64 [v]=some x) (hw:∀ q∈x.1.weights Tryz.prog 64,q≤reachBytes):∃ l:List Nat,RN W v l∧gu l∧l.length≤140737488355328:=by
 obtain⟨z,r,lz,b⟩:=IM Tryz.underlying64 Tryz.underlying22 (by kernel_rfl) hf (of_decide_eq_true (by kernel_rfl)) hw
 refine⟨z.map Int.toNat,dP.map_of (h:=u64) Int.toNat (fun y hy=>by have:=bounds_u64 (lz y hy);simp only [u64];congr 1;omega) r,fun y hy=>?_,by rw [List.length_map];exact b⟩
 obtain⟨y',hy',rfl⟩:=List.mem_map.1 hy
 have:=bounds_u64 (lz y' hy')
 omega
end Go.Proofs.YtglkmaalpammcaaGreat

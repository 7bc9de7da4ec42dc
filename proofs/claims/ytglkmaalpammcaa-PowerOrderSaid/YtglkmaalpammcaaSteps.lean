/- The argument of enc's laws: a script of steps. -/
import Derived.Test.YtglkmaalpammcaaArgs
import Derived.Test.YtglkmaalpammcaaNLib
import Derived.Deep.Slices
import Derived.Deep.Fields
import Derived.ChangeSame
import Derived.SizedLaws
namespace Go.Proofs.Ytglkmaalpammcaa
open Go.Gl Go.RowKit Go.ChangeShapes Go.WideShapes Go.ChangeAt Go.Deep
set_option linter.unusedVariables false
set_option maxRecDepth 100000
section
variable {H:Type}{enc:TypeId × Value→H}{P:Program}{w:World}{base:Nat}{spare:Nat→Bool}{held:Bool}
end
theorem xm {H:Type}{enc:TypeId × Value→H}{W:World}{t e:TypeId}{k:IntKind}{fuel:Nat}{v:Value}{x:DataW H × List MemPlace} (ht:Try.prog.underlying t=some (.slice e)) (he:Try.prog.underlying e=some (.int k)) (hc:Try.prog.cellsOf e=1)
  (hf:DataW.trod enc Try.prog W 0 (fun _=>true) true fuel t [v]=some x) (hb:1≤Try.prog.bytesOf e) (hw:∀ q∈x.1.weights Try.prog t,q≤reachBytes):∃ zs:List Int,fM (fun z=>Value.int k z) W v zs∧(∀ z∈zs,(Lit.int k z).wf=true)∧zs.length≤140737488355328:=by
 rcases open_ints ht he hc hf with ⟨hcs,_⟩ | ⟨a,l,c,zs,hcs,_,hl,hm,hz,hx,hcell,hwz⟩
 ·cases hcs
  exact⟨[],fM.nil _ _,fun z hz=>(by cases hz),by simp⟩
 ·cases hcs
  have hz':zs.length=c:=by simpa using hz
  have hw':=hw (((lits k (zs.take l)).length+(lits k (zs.drop l)).length)*Try.prog.bytesOf e) (by rw [hx];simp only [DataW.weights,ht];exact List.mem_cons_self ..)
  have hll:l≤140737488355328:=by
   have h1:l*1≤l*Try.prog.bytesOf e:=Nat.mul_le_mul_left _ hb
   have h2:=Nat.le_trans (Nat.mul_le_mul_right (Try.prog.bytesOf e) (show l≤(lits k (zs.take l)).length+(lits k (zs.drop l)).length from by simp [lits];omega)) hw'
   have h3:=reachBytes_lt
   omega
  obtain⟨g,off,sp⟩:=a
  by_cases hc0:c=0
  ·subst hc0
   obtain rfl:l=0:=by omega
   refine⟨[],⟨rfl,?_⟩,fun z hz=>(by cases hz),by simp⟩
   rcases sp with _ | s
   ·exact .inr ⟨g,off,0,rfl,Nat.le_refl _,by simp,.inl rfl,fun j u hj=>by simp at hj⟩
   ·exact .inl ⟨.inr ⟨g,off,s,rfl⟩,rfl⟩
  ·have h0:=hcell 0 (by omega)
   have hsp:sp=none:=by
    rcases sp with _ | s
    ·rfl
    ·simp only [Addr.add,if_pos,World.cell?] at h0
     split at h0 <;> simp at h0
   subst hsp
   have hg:g<W.heap.size:=by
    rcases Nat.lt_or_ge g W.heap.size with hlt | hge
    ·exact hlt
    ·simp [Addr.add,World.cell?,Array.getElem?_eq_none hge] at h0
   refine⟨zs.take l,Eh (by rw [List.length_take];omega) hl hm (.inr hg) (fun i hi=>?_),fun z hz=>hwz z (List.mem_of_mem_take hz),by rw [List.length_take];omega⟩
   have hil:i<l:=by rw [List.length_take] at hi;omega
   have hc:=hcell i (by omega)
   rw [show (⟨g,off,none⟩:Addr).add i=⟨g,off+i,none⟩ from Addr.add_lit ..] at hc
   rw [hc,List.getElem_take,List.getD,List.getElem?_eq_getElem (by omega)]
   rfl
theorem fM.map_of {α β:Type}{f:α→Value}{h:β→Value}{w:World}{v:Value}{xs:List α} (k:α→β) (e:∀ x∈xs,h (k x)=f x) (hr:fM f w v xs):fM h w v (xs.map k):=by
 unfold fM at *
 rw [List.length_map,List.map_map,show xs.map (h ∘ k)=xs.map f from List.map_congr_left (fun x hx=>e x hx)]
 exact hr
end Go.Proofs.Ytglkmaalpammcaa

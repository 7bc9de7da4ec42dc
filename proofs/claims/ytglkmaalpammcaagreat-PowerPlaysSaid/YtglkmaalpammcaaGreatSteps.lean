/- The argument of enc's laws: a script of steps. -/
import Derived.Test.YtglkmaalpammcaaGreatArgs
import Derived.Test.YtglkmaalpammcaaGreatZE
import Derived.Deep.Slices
import Derived.Deep.Fields
import Derived.ChangeSame
import Derived.SizedLaws
namespace Go.Proofs.YtglkmaalpammcaaGreat
open Go.Gl Go.RowKit Go.ChangeShapes Go.WideShapes Go.ChangeAt Go.Deep
set_option linter.unusedVariables false
set_option maxRecDepth 100000
theorem Ii {α:Type}{p:Nat→α→Prop} (n:Nat) (h:∀ i,i<n→∃ x,p i x):∃ xs:List α,xs.length=n∧∀ i (hi:i<xs.length),p i xs[i]:=by
  induction n with
  | zero=>exact⟨[],rfl,fun i hi=>by simp at hi⟩
  | succ n ih =>
    obtain⟨xs,h1,h2⟩:=ih (fun i hi=>h i (by omega))
    obtain⟨x,hx⟩:=h n (by omega)
    refine⟨xs ++ [x],by simp [h1],fun i hi=>?_⟩
    by_cases hin:i<xs.length
    · rw [List.getElem_append_left hin]
      exact h2 i hin
    · have:i=xs.length:=by simp at hi;omega
      subst this
      rw [List.getElem_append_right (Nat.le_refl _)]
      simpa [h1] using hx
section
variable {H:Type}{enc:TypeId × Value→H}{P:Program}{w:World}{base:Nat}{spare:Nat→Bool}{held:Bool}
theorem tZ {t e:TypeId}{fs:Array Field}{fuel:Nat}{cs:List Value}{x:DataW H × List MemPlace} (ht:P.underlying t=some (.slice e)) (he:P.underlying e=some (.struct fs))
  (hone:oneCellFields P fs=true) (hC:P.cellsOf e=fs.size) (h:DataW.trod enc P w base spare held fuel t cs=some x) :
  (cs=[.slice none 0 0]∧x=(.nil,[])) ∨
  ∃ (a:Addr) (len cap m:Nat) (D:Nat→DataW H) (Pl:Nat→List MemPlace),cs=[.slice (some a) len cap]∧base≤a.block∧len≤cap∧cap≤maxLen∧m=(if spare a.block then cap else len) ∧
   x.1 = .slice ((List.range len).map D) ((List.range (m - len)).map fun j=>D (len+j)) ∧
   ∀ i,i<m→∃ (ys:List (DataW H × List MemPlace)) (n:Nat),D i = .agg (ys.map (·.1))∧Pl i=ys.flatMap (·.2)∧ys.length=fs.size ∧
    ∀ (j:Nat) (f:Field),fs[j]?=some f→∃ (v:Value) (y:DataW H × List MemPlace),w.cell? (a.add (i*fs.size+j))=some v∧ys[j]?=some y∧DataW.trod enc P w base spare held n f.type [v]=some y:=by
 rcases open_slice ht h with h0 | ⟨a,len,cap,m,n,D,Pl,hcs,hb,hl,hm,hmm,hx,hi⟩
 ·exact .inl h0
 ·refine .inr ⟨a,len,cap,m,D,Pl,hcs,hb,hl,hm,hmm,by rw [hx],fun i him=>?_⟩
  obtain⟨cs',hc,ht'⟩:=hi i him
  rw [hC] at hc
  obtain⟨ys,n',hn',hy,hlen,hyl,hf⟩:=DataW.trod_struct he ht'
  obtain⟨_,hcl,hat⟩:=World.cells?_some hc
  simp only [Prod.mk.injEq] at hy
  refine⟨ys,n',hy.1,hy.2,hyl,fun j f hj=>?_⟩
  obtain⟨ho,hk⟩:=hone_of hone j f hj
  have hjl:j<fs.size:=(Array.getElem?_eq_some_iff.1 hj).1
  have hcell:=hat j hjl
  have hv:cs'[j]?=some (cs'[j]'(by omega)):=List.getElem?_eq_getElem (by omega)
  have h1:=hf j f hj
  rw [ho,hk] at h1
  have hone':(cs'.drop j).take 1=[cs'[j]'(by omega)]:=by
   rw [List.drop_eq_getElem_cons (by omega)]
   rfl
  rw [hone'] at h1
  have hys:ys[j]?=some (ys[j]'(by omega)):=List.getElem?_eq_getElem (by omega)
  refine⟨_,_,?_,hys,h1.trans hys⟩
  rw [← Go.Deep.add_add,hcell,hv]
end
end Go.Proofs.YtglkmaalpammcaaGreat

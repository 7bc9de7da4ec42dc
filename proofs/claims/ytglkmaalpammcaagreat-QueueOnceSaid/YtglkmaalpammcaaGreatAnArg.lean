/- The arguments of ante's laws: purses, transactions. -/
import Derived.Test.YtglkmaalpammcaaGreatSteps
import Derived.Test.YtglkmaalpammcaaGreatBkArg
namespace Go.Proofs.YtglkmaalpammcaaGreat
open Go.Gl Go.RowKit Go.ChangeShapes Go.WideShapes Go.ChangeAt Go.Deep
set_option linter.unusedVariables false
set_option maxRecDepth 100000
def tX {α:Type} (m:Nat) (cell:α→Nat→Value) (ok:α→Prop) (w:World) (v:Value) (ss:List α):Prop :=
 (v = .slice none 0 0∧ss=[])∨∃ g off cap,v = .slice (some ⟨g,off,none⟩) ss.length cap∧ss.length≤cap∧cap≤maxLen∧g<w.heap.size ∧
  ∀ i (hi:i<ss.length),(∀ j,j<m→w.cell? ⟨g,off+i*m+j,none⟩=some (cell ss[i] j))∧ok ss[i]
theorem tX.form {α:Type}{m:Nat}{cell:α→Nat→Value}{ok:α→Prop}{w:World}{v:Value}{ss:List α} (h:tX m cell ok w v ss):∃ a n cap,v = .slice a n cap∧ss.length=n∧n≤cap∧cap≤9223372036854775807 ∧
  (n=0∨∃ g off,a=some ⟨g,off,none⟩∧g<w.heap.size∧∀ i (hi:i<ss.length),(∀ j,j<m→w.cell? ⟨g,off+i*m+j,none⟩=some (cell ss[i] j))∧ok ss[i]):=by
 rcases h with ⟨rfl,rfl⟩ | ⟨g,off,cap,hv,h1,h2,h3,h4⟩
 ·exact⟨none,0,0,rfl,rfl,Nat.le_refl _,by omega,.inl rfl⟩
 ·exact⟨_,_,cap,hv,rfl,h1,by simpa [maxLen] using h2,.inr ⟨g,off,rfl,h3,h4⟩⟩
theorem Om {α:Type}{m:Nat}{cell:α→Nat→Value}{ok:α→Prop}{w wr:World}{a:Option Addr}{n i:Nat}{ss:List α} (G:n=0∨∃ g off,a=some ⟨g,off,none⟩∧g<w.heap.size∧∀ i (hi:i<ss.length),(∀ j,j<m→w.cell? ⟨g,off+i*m+j,none⟩=some (cell ss[i] j))∧ok ss[i]) (mm:ae ai w wr) (hl:ss.length=n) (hi:i<ss.length) :
  ∃ g off,a=some ⟨g,off,none⟩∧g<wr.heap.size∧g<w.heap.size∧(∀ j,j<m→wr.cell? ⟨g,off+i*m+j,none⟩=some (cell ss[i] j))∧ok ss[i]:=by
 rcases G with h | ⟨g,off,rfl,hg,h⟩
 ·omega
 ·obtain⟨h1,h2⟩:=h i hi
  exact⟨g,off,rfl,mm.size_of hg,hg,fun j hj=>(mm.cellAt hg (fun x=>x) _).trans (h1 j hj),h2⟩
theorem tX.keep {α:Type}{m:Nat}{cell:α→Nat→Value}{ok:α→Prop}{w w':World}{v:Value}{ss:List α} (h:tX m cell ok w v ss) (hm:ae ai w w'):tX m cell ok w' v ss:=by
 rcases h with h | ⟨g,off,cap,hv,h1,h2,h3,h4⟩
 ·exact .inl h
 ·exact .inr ⟨g,off,cap,hv,h1,h2,hm.size_of h3,fun i hi=>⟨fun j hj=>(hm.cellAt h3 (fun x=>x) _).trans ((h4 i hi).1 j hj),(h4 i hi).2⟩⟩
section
variable {H:Type}{enc:TypeId × Value→H}{W:World}{base:Nat}{spare:Nat→Bool}{held:Bool}
theorem lN {fuel:Nat}{v:Value}{x:DataW H × List MemPlace} (h:DataW.trod enc Tryz.prog W base spare held fuel 22 [v]=some x):∃ z:Nat,v = .int .u64 ((z:Nat):Int)∧bD z:=by
 obtain⟨z,e,_,wf⟩:=DataW.trod_int Tryz.underlying22 h
 cases e
 have:=bounds_u64 wf
 exact⟨z.toNat,by rw [Int.toNat_of_nonneg this.1],by unfold bD;omega⟩
theorem uZ {fs:Array Field}{n:Nat}{cs cs':List Value}{xs:List (DataW H × List MemPlace)} (hf:∀ (i:Nat) (f:Field),fs[i]?=some f→DataW.trod enc Tryz.prog W base spare held n f.type ((cs.drop f.offset).take (Tryz.prog.cellsOf f.type))=xs[i]?) (j:Nat) {f:Field}{t:TypeId} (hj:fs[j]?=some f) (ht:f.type=t) (hc:(cs.drop f.offset).take (Tryz.prog.cellsOf t)=cs') (hl:j<xs.length):DataW.trod enc Tryz.prog W base spare held n t cs'=some xs[j]:=by
 subst ht
 rw [← hc,hf j f hj,List.getElem?_eq_getElem hl]
end
end Go.Proofs.YtglkmaalpammcaaGreat

/- Slices of values that are one cell each, told by a function; slices of 64-bit numbers: read, owned, appended to, made. -/
import Derived.Test.YtglkmaalpammcaaMake
namespace Go.Gl
open Go.RowKit
def fM {α:Type} (f:α→Value) (w:World) (v:Value) (xs:List α):Prop:=gX w 1 v xs.length (xs.map f)
def dR {α:Type} (e:TypeId) (f:α→Value) (w:World) (v:Value) (xs:List α):Prop:=aU w e 1 v xs.length (xs.map f)
theorem dR.rd {α:Type}{e:TypeId}{f:α→Value}{w:World}{v:Value}{xs:List α} (h:dR e f w v xs):fM f w v xs:=aU.rd h
theorem fM.nil {α:Type} (f:α→Value) (w:World):fM f w (.slice none 0 0) []:=⟨rfl,.inl ⟨.nil,rfl⟩⟩
theorem dR.nil {α:Type} (e:TypeId) (f:α→Value) (w:World):dR e f w (.slice none 0 0) []:=⟨rfl,.inl ⟨rfl,rfl⟩⟩
theorem fM.form {α:Type}{f:α→Value}{w:World}{v:Value}{xs:List α} (h:fM f w v xs):∃ a cap,v = .slice a xs.length cap∧xs.length≤maxLen:=gX.form h
theorem fM.keep {α:Type}{f:α→Value}{S:Nat→Prop}{w w':World}{v:Value}{xs:List α} (h:fM f w v xs) (hm:ae S w w') (hs:∀ k,v.ownBlock=some k→¬ S k):fM f w' v xs:=gX.keep h hm hs
theorem dR.keep {α:Type}{e:TypeId}{f:α→Value}{S:Nat→Prop}{w w':World}{v:Value}{xs:List α} (h:dR e f w v xs) (hm:ae S w w') (hs:∀ k,v.ownBlock=some k→¬ S k):dR e f w' v xs:=aU.keep h hm hs
theorem fM.keepL {α:Type}{f:α→Value}{S:Nat→Prop}{w w':World}{v:Value}{xs:List α} (h:fM f w v xs) (hm:ae S w w') (hs:∀ k,k<w.heap.size→v.ownBlock=some k→¬ S k):fM f w' v xs:=gX.keepL h hm hs
theorem dR.lt {α:Type}{e:TypeId}{f:α→Value}{w:World}{v:Value}{xs:List α} (h:dR e f w v xs):∀ k,v.ownBlock=some k→k<w.heap.size:=aU.lt h
theorem fM.open {α:Type}{f:α→Value}{w:World}{v:Value}{xs:List α} (h:fM f w v xs) :
  (mO v∧xs=[])∨∃ g off cap,v = .slice (some ⟨g,off,none⟩) xs.length cap∧xs.length≤cap∧cap≤maxLen∧(xs.length=0∨g<w.heap.size)∧∀ i (hi:i<xs.length),w.cell? ⟨g,off+i,none⟩=some (f xs[i]):=by
 rcases h.2 with ⟨h0,hn⟩ | ⟨g,off,cap,hv,h1,h2,hg,h3⟩
 ·exact .inl ⟨h0,List.eq_nil_of_length_eq_zero hn⟩
 ·exact .inr ⟨g,off,cap,hv,h1,h2,hg,fun i hi=>h3 i _ (by simp [hi])⟩
theorem Eh {α:Type}{f:α→Value}{w:World}{g off cap n:Nat}{xs:List α} (hn:xs.length=n) (h1:n≤cap) (h2:cap≤maxLen) (h3:n=0∨g<w.heap.size) (h4:∀ i (hi:i<xs.length),w.cell? ⟨g,off+i,none⟩=some (f xs[i])):fM f w (.slice (some ⟨g,off,none⟩) n cap) xs:=by
 subst hn
 refine⟨by simp,.inr ⟨g,off,cap,rfl,h1,h2,h3,fun j u hj=>?_⟩⟩
 have hj':j<xs.length:=by have:=(List.getElem?_eq_some_iff.1 hj).1;simpa using this
 rw [List.getElem?_map,List.getElem?_eq_getElem hj'] at hj
 rw [h4 j hj']
 exact hj
theorem dR.open {α:Type}{e:TypeId}{f:α→Value}{w:World}{v:Value}{xs:List α} (h:dR e f w v xs) :
  (v = .slice none 0 0∧xs=[])∨∃ g off cap cur,v = .slice (some ⟨g,off,none⟩) xs.length cap∧w.heap[g]?=some (.cells cur e (0,0))∧xs.length≤cap∧cap≤maxLen∧off+cap≤cur.size∧∀ i (hi:i<xs.length),cur[off+i]?=some (f xs[i]):=by
 rcases h.2 with ⟨rfl,hn⟩ | ⟨g,off,cap,cur,hv,h1,h2,h3,h4,h5⟩
 ·exact .inl ⟨rfl,List.eq_nil_of_length_eq_zero hn⟩
 ·exact .inr ⟨g,off,cap,cur,hv,h1,h2,h3,by omega,fun i hi=>h5 i _ (by simp [hi])⟩
abbrev u64 (n:Nat):Value := .int .u64 n
abbrev ON (e:TypeId) (w:World) (v:Value) (ls:List Nat):Prop:=dR e u64 w v ls
def Lim (ls:List Nat):Prop:=∀ x∈ls,x≤18446744073709551615
end Go.Gl
namespace Go.Proofs.Ytglkmaalpammcaa
open Go.Gl Go.RowKit
set_option linter.unusedVariables false
end Go.Proofs.Ytglkmaalpammcaa

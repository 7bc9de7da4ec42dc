/- The argument of power's laws: a script of steps. -/
import Derived.Test.YtglkmaalpammcaaGreatSteps
import Derived.Test.YtglkmaalpammcaaGreatZE
namespace Go.Proofs.YtglkmaalpammcaaGreat
open Go.Gl Go.RowKit Go.ChangeShapes Go.WideShapes Go.ChangeAt Go.Deep
set_option linter.unusedVariables false
set_option maxRecDepth 100000
structure nS where
 what:Int
 n:Int
 v:Nat
 t:Nat
def nS.cell (s:nS):Nat→Value
 | 0 => .int .i64 s.what
 | 1 => .int .i64 s.n
 | 2 => .int .u64 (s.v:Nat)
 | _ => .int .u64 (s.t:Nat)
structure nS.Ok (s:nS):Prop where
 w1 : -9223372036854775808≤s.what
 w2:s.what≤9223372036854775807
 n1 : -9223372036854775808≤s.n
 n2:s.n≤9223372036854775807
 v:s.v≤18446744073709551615
 t:s.t≤18446744073709551615
def sK (w:World) (v:Value) (ss:List nS):Prop :=
 (v = .slice none 0 0∧ss=[])∨∃ g off cap,v = .slice (some ⟨g,off,none⟩) ss.length cap∧ss.length≤cap∧cap≤maxLen∧g<w.heap.size ∧
  ∀ i (hi:i<ss.length),(∀ j,j<4→w.cell? ⟨g,off+i*4+j,none⟩=some (ss[i].cell j))∧ss[i].Ok
theorem sK.keep {w w':World}{v:Value}{ss:List nS} (h:sK w v ss) (hm:ae ai w w'):sK w' v ss:=by
 rcases h with h | ⟨g,off,cap,hv,h1,h2,h3,h4⟩
 ·exact .inl h
 ·exact .inr ⟨g,off,cap,hv,h1,h2,hm.size_of h3,fun i hi=>⟨fun j hj=>(hm.cellAt h3 (fun x=>x) _).trans ((h4 i hi).1 j hj),(h4 i hi).2⟩⟩
theorem sK.form {w:World}{v:Value}{ss:List nS} (h:sK w v ss):∃ a n cap,v = .slice a n cap∧ss.length=n∧n≤cap∧cap≤9223372036854775807 ∧
  (n=0∨∃ g off,a=some ⟨g,off,none⟩∧g<w.heap.size∧∀ i (hi:i<ss.length),(∀ j,j<4→w.cell? ⟨g,off+i*4+j,none⟩=some (ss[i].cell j))∧ss[i].Ok):=by
 rcases h with ⟨rfl,rfl⟩ | ⟨g,off,cap,hv,h1,h2,h3,h4⟩
 ·exact⟨none,0,0,rfl,rfl,Nat.le_refl _,by omega,.inl rfl⟩
 ·exact⟨_,_,cap,hv,rfl,h1,by simpa [maxLen] using h2,.inr ⟨g,off,rfl,h3,h4⟩⟩
theorem Gp {w wr:World}{a:Option Addr}{n i:Nat}{ss:List nS} (G:n=0∨∃ g off,a=some ⟨g,off,none⟩∧g<w.heap.size∧∀ i (hi:i<ss.length),(∀ j,j<4→w.cell? ⟨g,off+i*4+j,none⟩=some (ss[i].cell j))∧ss[i].Ok) (m:ae ai w wr) (hl:ss.length=n) (hi:i<ss.length) :
  ∃ g off,a=some ⟨g,off,none⟩∧g<wr.heap.size∧wr.cell? ⟨g,off+i*4,none⟩=some (.int .i64 ss[i].what)∧wr.cell? ⟨g,off+i*4+1,none⟩=some (.int .i64 ss[i].n)∧wr.cell? ⟨g,off+i*4+2,none⟩=some (.int .u64 (ss[i].v:Nat))∧wr.cell? ⟨g,off+i*4+3,none⟩=some (.int .u64 (ss[i].t:Nat))∧ss[i].Ok:=by
 rcases G with h | ⟨g,off,rfl,hg,h⟩
 ·omega
 ·obtain⟨h1,h2⟩:=h i hi
  have k:∀ j,j<4→wr.cell? ⟨g,off+i*4+j,none⟩=some (ss[i].cell j):=fun j hj=>(m.cellAt hg (fun x=>x) _).trans (h1 j hj)
  exact⟨g,off,rfl,m.size_of hg,k 0 (by omega),k 1 (by omega),k 2 (by omega),k 3 (by omega),h2⟩
theorem xU {H:Type}{enc:TypeId × Value→H}{W:World}{base:Nat}{v:Value}{d:DataW H}{p:List MemPlace} (hv:Value.okWide Tryz.prog W .any base 115 v) (h:DataW.Trod enc Tryz.prog W 0 (fun _=>true) true 115 v d p) (hw:∀ q∈d.weights Tryz.prog 115,q≤reachBytes):∃ ss,sK W v ss:=by
 obtain⟨fuel,hf⟩:=h
 obtain⟨a0,len0,cap0,rfl⟩:=okWide_slice Tryz.underlying115 hv
 rcases tZ Tryz.underlying115 Tryz.underlying117 (by kernel_rfl) (by kernel_rfl) hf with ⟨hcs,_⟩ | ⟨x,l,c,m,D,Pl,hcs,_,hl,hm,hmm,hd,hi⟩
 ·simp [Value.cells] at hcs
  obtain⟨rfl,rfl,rfl⟩:=hcs
  exact⟨[],.inl ⟨rfl,rfl⟩⟩
 ·simp [Value.cells] at hcs
  obtain⟨rfl,rfl,rfl⟩:=hcs
  simp only [Value.okWide,Tryz.underlying115,Cell.okWide,Cell.ok] at hv
  obtain⟨_,_,_,hsp,row,cells,hsh,_⟩:=hv
  obtain⟨g,off,sp⟩:=x
  simp only at hsp
  subst hsp
  have hmm':m=cap0:=by simpa using hmm
  obtain⟨ss,hs1,hs2⟩:=Ii (p:=fun i (s:nS)=>(∀ j,j<4→W.cell? ⟨g,off+i*4+j,none⟩=some (s.cell j))∧s.Ok) len0 (fun i hil=>by
   obtain⟨ys,n,hD,_,_,hf⟩:=hi i (by omega)
   obtain⟨v0,y0,c0,_,t0⟩:=hf 0 _ rfl
   obtain⟨v1,y1,c1,_,t1⟩:=hf 1 _ rfl
   obtain⟨v2,y2,c2,_,t2⟩:=hf 2 _ rfl
   obtain⟨v3,y3,c3,_,t3⟩:=hf 3 _ rfl
   obtain⟨z0,e0,_,w0⟩:=DataW.trod_int Tryz.underlying3 t0
   obtain⟨z1,e1,_,w1⟩:=DataW.trod_int Tryz.underlying3 t1
   obtain⟨z2,e2,_,w2⟩:=DataW.trod_int Tryz.underlying22 t2
   obtain⟨z3,e3,_,w3⟩:=DataW.trod_int Tryz.underlying22 t3
   cases e0;cases e1;cases e2;cases e3
   have w0':=bounds_i64 w0
   have w1':=bounds_i64 w1
   have w2':=bounds_u64 w2
   have w3':=bounds_u64 w3
   refine⟨⟨z0,z1,z2.toNat,z3.toNat⟩,fun j hj=>?_,⟨w0'.1,w0'.2,w1'.1,w1'.2,by simp only;omega,by simp only;omega⟩⟩
   rw [show (⟨g,off+i*4+j,none⟩:Addr)=(⟨g,off,none⟩:Addr).add (i*4+j) from by rw [show (⟨g,off,none⟩:Addr).add (i*4+j)=⟨g,off+(i*4+j),none⟩ from Addr.add_lit ..,Nat.add_assoc]]
   match j,hj with
   | 0,_=>exact c0
   | 1,_=>exact c1
   | 2,_=>exact c2.trans (by simp only [nS.cell];rw [Int.toNat_of_nonneg w2'.1])
   | 3,_=>exact c3.trans (by simp only [nS.cell];rw [Int.toNat_of_nonneg w3'.1]))
  subst hs1
  exact⟨ss,.inr ⟨g,off,cap0,rfl,hl,hm,zU hsh,hs2⟩⟩
end Go.Proofs.YtglkmaalpammcaaGreat

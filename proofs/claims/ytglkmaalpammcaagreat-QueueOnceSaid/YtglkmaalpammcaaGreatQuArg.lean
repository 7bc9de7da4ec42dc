/- The argument of queue's laws: a script of steps; gleanlaw12.light. -/
import Derived.Test.YtglkmaalpammcaaGreatSteps
import Derived.Test.YtglkmaalpammcaaGreatRArgs
import Derived.Test.YtglkmaalpammcaaGreatAnArg
namespace Go.Proofs.YtglkmaalpammcaaGreat
open Go.Gl Go.RowKit Go.ChangeShapes Go.WideShapes Go.ChangeAt Go.Deep
set_option linter.unusedVariables false
set_option maxRecDepth 100000
theorem PS {H:Type}{enc:TypeId × Value→H}{W:World}{base:Nat}{v:Value}{d:DataW H}{p:List MemPlace}{t e:TypeId}{m:Nat}{α:Type}{cell:α→Nat→Value}{ok:α→Prop}{cells:α→List Value} (ht:Tryz.prog.underlying t=some (.slice e)) (hm0:Tryz.prog.cellsOf e=m) (hcell:∀ x j,j<m→(cells x)[j]?=some (cell x j))
  (one:∀ (fuel:Nat) (cs:List Value) (x:DataW H × List MemPlace),DataW.trod enc Tryz.prog W 0 (fun _=>true) true fuel e cs=some x→(∀ q∈x.1.weights Tryz.prog e,q≤reachBytes)→∃ a:α,cs=cells a∧ok a)
  (hv:Value.okWide Tryz.prog W .any base t v) (h:DataW.Trod enc Tryz.prog W 0 (fun _=>true) true t v d p) (hw:∀ q∈d.weights Tryz.prog t,q≤reachBytes):∃ ss:List α,tX m cell ok W v ss:=by
 obtain⟨fuel,hf⟩:=h
 obtain⟨a0,len0,cap0,rfl⟩:=okWide_slice ht hv
 rcases open_slice ht hf with ⟨hcs,_⟩ | ⟨x,l,c,m',n,D,Pl,hcs,_,hl,hm,hmm,hx,hi⟩
 ·simp [Value.cells] at hcs
  obtain⟨rfl,rfl,rfl⟩:=hcs
  exact⟨[],.inl ⟨rfl,rfl⟩⟩
 ·simp [Value.cells] at hcs
  obtain⟨rfl,rfl,rfl⟩:=hcs
  simp only [Value.okWide,ht,Cell.okWide,Cell.ok] at hv
  obtain⟨_,_,_,hsp,row,cells',hsh,_⟩:=hv
  obtain⟨g,off,sp⟩:=x
  simp only at hsp
  subst hsp
  have hmm':m'=cap0:=by simpa using hmm
  obtain⟨ss,hs1,hs2⟩:=Tc (p:=fun i (s:α)=>(∀ j,j<m→W.cell? ⟨g,off+i*m+j,none⟩=some (cell s j))∧ok s) len0 (fun i hil=>by
   obtain⟨cs',hc,ht'⟩:=hi i (by omega)
   rw [hm0] at hc
   obtain⟨_,hcl,hat⟩:=World.cells?_some hc
   obtain⟨a,rfl,hok⟩:=one _ _ _ ht' (fun q hq=>by
    refine hw q ?_
    have hd:=congrArg Prod.fst hx
    simp only at hd
    rw [hd]
    simp only [DataW.weights,ht]
    exact List.mem_cons_of_mem _ (List.mem_append_left _ (Ag (d:=D i) (List.mem_map.2 ⟨i,List.mem_range.2 hil,rfl⟩) q hq)))
   refine⟨a,fun j hj=>?_,hok⟩
   have h1:=hat j hj
   rw [hcell a j hj] at h1
   rw [← h1,Go.Deep.add_add]
   rw [show (⟨g,off,none⟩:Addr).add (i*m+j)=⟨g,off+(i*m+j),none⟩ from Addr.add_lit ..,Nat.add_assoc])
  subst hs1
  exact⟨ss,.inr ⟨g,off,cap0,rfl,hl,hm,Ir hsh,hs2⟩⟩
structure dn where
 what:Int
 kind:Int
 n:Nat
 u0:Nat
 u1:Nat
 u2:Nat
 u3:Nat
 u4:Nat
 u5:Nat
 m0:Nat
 m1:Nat
 m2:Nat
 m3:Nat
 m4:Nat
 m5:Nat
 sv:Value
 sl:List Nat
def dn.us (s:dn):List Value:=[.int .u64 ((s.u0:Nat):Int),.int .u64 ((s.u1:Nat):Int),.int .u64 ((s.u2:Nat):Int),.int .u64 ((s.u3:Nat):Int),.int .u64 ((s.u4:Nat):Int),.int .u64 ((s.u5:Nat):Int)]
def dn.ms (s:dn):List Value:=[.int .u64 ((s.m0:Nat):Int),.int .u64 ((s.m1:Nat):Int),.int .u64 ((s.m2:Nat):Int),.int .u64 ((s.m3:Nat):Int),.int .u64 ((s.m4:Nat):Int),.int .u64 ((s.m5:Nat):Int),s.sv]
def dn.cells (s:dn):List Value:=[.int .i64 s.what,.int .i64 s.kind,.int .u64 ((s.n:Nat):Int),.int .u64 ((s.u0:Nat):Int),.int .u64 ((s.u1:Nat):Int),.int .u64 ((s.u2:Nat):Int),.int .u64 ((s.u3:Nat):Int),.int .u64 ((s.u4:Nat):Int),.int .u64 ((s.u5:Nat):Int),.int .u64 ((s.m0:Nat):Int),.int .u64 ((s.m1:Nat):Int),.int .u64 ((s.m2:Nat):Int),.int .u64 ((s.m3:Nat):Int),.int .u64 ((s.m4:Nat):Int),.int .u64 ((s.m5:Nat):Int),s.sv]
def dn.cell (s:dn) (j:Nat):Value:=s.cells.getD j undef
structure dn.Ok (W:World) (s:dn):Prop where
 n:bD s.n
 u:gu [s.u0,s.u1,s.u2,s.u3,s.u4,s.u5]
 m:gu [s.m0,s.m1,s.m2,s.m3,s.m4,s.m5]
 r:RN W s.sv s.sl
 l:gu s.sl
 sz:s.sl.length≤140737488355328
 w1 : -9223372036854775808≤s.what
 w2:s.what≤9223372036854775807
 k1 : -9223372036854775808≤s.kind
 k2:s.kind≤9223372036854775807
def Qs (w:World) (v:Value) (ss:List dn):Prop:=tX 16 dn.cell (dn.Ok w) w v ss
section
variable {H:Type}{enc:TypeId × Value→H}{W:World}
theorem Jq {base fuel:Nat}{spare:Nat→Bool}{held:Bool}{v:Value}{x:DataW H × List MemPlace} (h:DataW.trod enc Tryz.prog W base spare held fuel 3 [v]=some x):∃ z:Int,v = .int .i64 z ∧ -9223372036854775808≤z∧z≤9223372036854775807:=by
 obtain⟨z,e,_,wf⟩:=DataW.trod_int Tryz.underlying3 h
 cases e
 have:=bounds_i64 wf
 exact⟨z,rfl,this⟩
theorem UI {fuel:Nat}{cs:List Value}{x:DataW H × List MemPlace} (h:DataW.trod enc Tryz.prog W 0 (fun _=>true) true fuel 73 cs=some x):∃ n0 n1 n2 n3 n4 n5:Nat,cs=[.int .u64 n0,.int .u64 n1,.int .u64 n2,.int .u64 n3,.int .u64 n4,.int .u64 n5]∧gu [n0,n1,n2,n3,n4,n5]:=by
  obtain⟨xs,n,_,_,hlen,hl,hf⟩:=DataW.trod_struct Tryz.underlying73 h
  have hc:Tryz.prog.cellsOf 73=6:=by kernel_rfl
  have h1:Tryz.prog.cellsOf 22=1:=by kernel_rfl
  rw [hc] at hlen
  match cs,hlen with
  | [v0, v1, v2, v3, v4, v5], _ =>
    have l2:xs.length=6:=hl
    have f0:=uZ (t:=22) (cs':=[v0]) hf 0 rfl rfl (by rw [h1];rfl) (by omega)
    have f1:=uZ (t:=22) (cs':=[v1]) hf 1 rfl rfl (by rw [h1];rfl) (by omega)
    have f2:=uZ (t:=22) (cs':=[v2]) hf 2 rfl rfl (by rw [h1];rfl) (by omega)
    have f3:=uZ (t:=22) (cs':=[v3]) hf 3 rfl rfl (by rw [h1];rfl) (by omega)
    have f4:=uZ (t:=22) (cs':=[v4]) hf 4 rfl rfl (by rw [h1];rfl) (by omega)
    have f5:=uZ (t:=22) (cs':=[v5]) hf 5 rfl rfl (by rw [h1];rfl) (by omega)
    obtain⟨z0,rfl,b0⟩:=lN f0
    obtain⟨z1,rfl,b1⟩:=lN f1
    obtain⟨z2,rfl,b2⟩:=lN f2
    obtain⟨z3,rfl,b3⟩:=lN f3
    obtain⟨z4,rfl,b4⟩:=lN f4
    obtain⟨z5,rfl,b5⟩:=lN f5
    exact⟨z0,z1,z2,z3,z4,z5,rfl,fE b0 (fE b1 (fE b2 (fE b3 (fE b4 (fE b5 uh)))))⟩
theorem Vp {fuel:Nat}{v:Value}{x:DataW H × List MemPlace} (h:DataW.trod enc Tryz.prog W 0 (fun _=>true) true fuel 75 [v]=some x) (hw:∀ q∈x.1.weights Tryz.prog 75,q≤reachBytes):∃ l:List Nat,RN W v l∧gu l∧l.length≤140737488355328:=by
 obtain⟨_,_,tb,wb⟩:=wY Tryz.underlying75 h hw 0 rfl (cs':=[v]) (by kernel_rfl)
 exact Le tb wb
theorem Va {fuel:Nat}{cs:List Value}{x:DataW H × List MemPlace} (h:DataW.trod enc Tryz.prog W 0 (fun _=>true) true fuel 77 cs=some x) (hw:∀ q∈x.1.weights Tryz.prog 77,q≤reachBytes):∃ (n0 n1 n2 n3 n4 n5:Nat) (v:Value) (l:List Nat),cs=[.int .u64 n0,.int .u64 n1,.int .u64 n2,.int .u64 n3,.int .u64 n4,.int .u64 n5,v]∧gu [n0,n1,n2,n3,n4,n5]∧RN W v l∧gu l∧l.length≤140737488355328:=by
  obtain⟨xs,n,_,_,hlen,hl,hf⟩:=DataW.trod_struct Tryz.underlying77 h
  have hc:Tryz.prog.cellsOf 77=7:=by kernel_rfl
  have h1:Tryz.prog.cellsOf 22=1:=by kernel_rfl
  rw [hc] at hlen
  match cs,hlen with
  | [v0, v1, v2, v3, v4, v5, v6], _ =>
    have l2:xs.length=7:=hl
    have f0:=uZ (t:=22) (cs':=[v0]) hf 0 rfl rfl (by rw [h1];rfl) (by omega)
    have f1:=uZ (t:=22) (cs':=[v1]) hf 1 rfl rfl (by rw [h1];rfl) (by omega)
    have f2:=uZ (t:=22) (cs':=[v2]) hf 2 rfl rfl (by rw [h1];rfl) (by omega)
    have f3:=uZ (t:=22) (cs':=[v3]) hf 3 rfl rfl (by rw [h1];rfl) (by omega)
    have f4:=uZ (t:=22) (cs':=[v4]) hf 4 rfl rfl (by rw [h1];rfl) (by omega)
    have f5:=uZ (t:=22) (cs':=[v5]) hf 5 rfl rfl (by rw [h1];rfl) (by omega)
    obtain⟨_,_,t6,w6⟩:=wY Tryz.underlying77 h hw 6 rfl (cs':=[v6]) (by kernel_rfl)
    obtain⟨z0,rfl,b0⟩:=lN f0
    obtain⟨z1,rfl,b1⟩:=lN f1
    obtain⟨z2,rfl,b2⟩:=lN f2
    obtain⟨z3,rfl,b3⟩:=lN f3
    obtain⟨z4,rfl,b4⟩:=lN f4
    obtain⟨z5,rfl,b5⟩:=lN f5
    obtain⟨l,r1,r2,r3⟩:=Vp t6 w6
    exact⟨z0,z1,z2,z3,z4,z5,_,l,rfl,fE b0 (fE b1 (fE b2 (fE b3 (fE b4 (fE b5 uh))))),r1,r2,r3⟩
theorem Qw {fuel:Nat}{cs:List Value}{x:DataW H × List MemPlace} (h:DataW.trod enc Tryz.prog W 0 (fun _=>true) true fuel 79 cs=some x) (hw:∀ q∈x.1.weights Tryz.prog 79,q≤reachBytes):∃ s:dn,cs=s.cells∧dn.Ok W s:=by
  obtain⟨xs,n,_,_,hlen,hl,hf⟩:=DataW.trod_struct Tryz.underlying79 h
  have hc:Tryz.prog.cellsOf 79=16:=by kernel_rfl
  have h1:Tryz.prog.cellsOf 22=1:=by kernel_rfl
  have h2:Tryz.prog.cellsOf 3=1:=by kernel_rfl
  have h6:Tryz.prog.cellsOf 73=6:=by kernel_rfl
  rw [hc] at hlen
  match cs,hlen with
  | [v0, v1, v2, u0, u1, u2, u3, u4, u5, m0, m1, m2, m3, m4, m5, m6], _ =>
    have l2:xs.length=5:=hl
    have f0:=uZ (t:=3) (cs':=[v0]) hf 0 rfl rfl (by rw [h2];rfl) (by omega)
    have f1:=uZ (t:=3) (cs':=[v1]) hf 1 rfl rfl (by rw [h2];rfl) (by omega)
    have f2:=uZ (t:=22) (cs':=[v2]) hf 2 rfl rfl (by rw [h1];rfl) (by omega)
    have f3:=uZ (t:=73) (cs':=[u0,u1,u2,u3,u4,u5]) hf 3 rfl rfl (by rw [h6];rfl) (by omega)
    obtain⟨_,_,t4,w4⟩:=wY Tryz.underlying79 h hw 4 rfl (cs':=[m0,m1,m2,m3,m4,m5,m6]) (by kernel_rfl)
    obtain⟨z0,rfl,b0⟩:=Jq f0
    obtain⟨z1,rfl,b1⟩:=Jq f1
    obtain⟨z2,rfl,b2⟩:=lN f2
    obtain⟨p0,p1,p2,p3,p4,p5,e3,b3⟩:=UI f3
    obtain⟨q0,q1,q2,q3,q4,q5,sv,sl,e4,b4,r1,r2,r3⟩:=Va t4 w4
    simp only [List.cons.injEq,and_true] at e3 e4
    obtain⟨rfl,rfl,rfl,rfl,rfl,rfl⟩:=e3
    obtain⟨rfl,rfl,rfl,rfl,rfl,rfl,rfl⟩:=e4
    exact⟨⟨z0,z1,z2,p0,p1,p2,p3,p4,p5,q0,q1,q2,q3,q4,q5,_,sl⟩,rfl,⟨b2,b3,b4,r1,r2,r3,b0.1,b0.2,b1.1,b1.2⟩⟩
end
theorem EK {H:Type}{enc:TypeId × Value→H}{W:World}{base:Nat}{v:Value}{d:DataW H}{p:List MemPlace} (hv:Value.okWide Tryz.prog W .any base 69 v) (h:DataW.Trod enc Tryz.prog W 0 (fun _=>true) true 69 v d p) (hw:∀ q∈d.weights Tryz.prog 69,q≤reachBytes):∃ ss,Qs W v ss :=
 PS (cells:=dn.cells) Tryz.underlying69 (by kernel_rfl) (fun x j hj=>by
  have hl:x.cells.length=16:=rfl
  rw [List.getElem?_eq_getElem (by omega)]
  unfold dn.cell
  rw [List.getD,List.getElem?_eq_getElem (by omega)]
  rfl) (fun fuel cs x h hw=>by
   obtain⟨t,h1,h2⟩:=Qw h hw
   exact⟨t,h1,h2⟩) hv h hw
end Go.Proofs.YtglkmaalpammcaaGreat

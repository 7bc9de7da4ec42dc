/- queue: key, next, Count, count, as calls on a store. -/
import Derived.Test.YtglkmaalpammcaaGreatZE
import Derived.Test.YtglkmaalpammcaaGreatRqChain
import Derived.Test.YtglkmaalpammcaaGreatRqNumber
set_option maxHeartbeats 64000000
namespace Go.Proofs.YtglkmaalpammcaaGreat
open Go.Gl Go.RowKit
set_option linter.unusedVariables false
set_option maxRecDepth 100000
def qk (kind a b:Nat):List UInt8:=(dU kind a b).getD []
theorem nK (kind a b:Nat):(qk kind a b).length≤1000000:=Nat.le_trans (F5 kind a b) (by omega)
def one1 (xs:List UInt8):Nat:=match (bU [0] xs).1 with
 | [a]=>a.n
 | _=>0
theorem wV {xs:List UInt8}{a e:Nat} (h:bU [0] xs=([⟨0,a,[]⟩],e)):one1 xs=a:=by unfold one1;rw [h]
def dE (a:Nat):List UInt8:=bD [⟨0,a,[]⟩]
theorem sJ (xs:List UInt8):aU (one1 xs):=by
 obtain⟨⟨fs,e⟩,hr⟩:∃ q,bU [0] xs=q:=⟨_,rfl⟩
 have h:=(oD (by simp) hr).1
 unfold one1 aU
 rw [hr]
 simp only
 split
 ·rename_i a
  exact (h a (by simp)).n
 ·omega
def gZ (F:List aN):Nat × Nat:=two ((dB F (qk 2 0 0)).getD [])
def wL (F:List aN):List aN:=bZ F (qk 2 0 0) (iV (gZ F).1 (((gZ F).2+1) % 18446744073709551616))
def kV (F:List aN) (d v:Nat):Nat:=one1 ((dB F (qk 17 d v)).getD [])
def nV (F:List aN) (d v n:Nat):List aN:=if n=0 then eY F (qk 17 d v) else bZ F (qk 17 d v) (dE n)
theorem dH {kind a b:Nat} (w:World) (ha:aU a) (hb:aU b):Calls Tryz.prog 116 #[.int .i64 (kind:Nat),.int .u64 (a:Nat),.int .u64 (b:Nat)] w fun e w'=>∃ v,e = .returned v∧Gl.Own w' v (qk kind a b)∧ae ai w w'∧aF w v:=by
 have M:=lh (uK kind a b w ha hb)
 generalize (if (dU (kind:Nat) a b).isSome=true then (0:Int) else 70)=en at M
 clear ha hb
 go_enter Tryz.func116,Tryz.ntmps116
 go_wp2_with fail
 refine M.out.mono ?_
 rintro e w1 ⟨v,rfl,o,m,f⟩
 have O:=lh (And.intro o (And.intro m f))
 clear o m f M
 go_wp2
 go_ret
 exact⟨_,rfl,O.out⟩
section
variable {w:World}{sg n p:Nat}{F:List aN}{Q:Nat→Prop}
theorem nN {d v:Nat} (hd:aU d) (hv:aU v) (hn:n≤1000000000000) (hp:p≤100000):GS Tryz.prog 42 #[.pointer (some ⟨sg,0,none⟩),.int .u64 ((d:Nat):Int),.int .u64 ((v:Nat):Int)] w (aP sg F n p) Q (.int .u64 ((kV F d v:Nat):Int)) (aP sg F (n+1) p):=GS.walk fun S D kv hQ=>by
 have VL:=lh (show ((dB F (qk 17 d v)).getD []).length≤1000000 from by
  obtain⟨m,q,_,_,kv⟩:=kv
  cases hg:dB F (qk 17 d v) with
  | none=>simp
  | some v=>exact KV.vlen kv hg)
 have G0:=lh (GI.start kv)
 have K:=lh (fun W=>dH (kind:=17) (a:=d) (b:=v) W hd hv)
 clear kv hd hv
 go_enter Tryz.func42,Tryz.ntmps42
 go_wp2_with fail
 refine (K.out w).mono ?_
 rintro e w2 ⟨k,rfl,o2,m2,f2⟩
 have G2:=lh (G0.out.own aS m2 o2 f2)
 have C:=lh (G2.out.callo (uX o2.rd (bW (fun i hi => .inr hi)) hn hp))
 clear o2 m2 f2 G0
 go_wp2_with fail
 refine C.out.mono ?_
 rintro e w3 ⟨b,rfl,o3,f3,g3,m3⟩
 have G3:=lh g3
 have A:=lh (C9 o3.rd VL.out)
 clear C o3 f3 g3 m3 G2
 go_wp2_with fail
 refine A.out.mono ?_
 rintro e w4 ⟨n0,er,rfl,hg,m4⟩
 have DD:=lh (G3.out.keep0 aS m4).done
 have TW:=lh (show kV F d v=n0 from wV hg)
 clear A hg m4 G3
 go_wp2
 go_ret
 exact⟨by rw [TW.out];rfl,DD.out⟩
theorem vX {d v m:Nat} (hd:aU d) (hv:aU v) (hm:aU m) (hn:n≤1000000000000) (hp:p≤100000):GS Tryz.prog 183 #[.pointer (some ⟨sg,0,none⟩),.int .u64 ((d:Nat):Int),.int .u64 ((v:Nat):Int),.int .u64 ((m:Nat):Int)] w (aP sg F n p) Q (.tuple #[]) (aP sg (nV F d v m) (n+1) (p+2)):=GS.walk fun S D kv hQ=>by
 have G0:=lh (GI.start kv)
 have K:=lh (fun W=>dH (kind:=17) (a:=d) (b:=v) W hd hv)
 have PU:=lh (fun W=>wZ (w:=W) (n0:=m) (by intro x hx;simp at hx;subst hx;exact hm))
 clear kv hd hv
 unfold nV
 by_cases h0:m=0
 ·subst h0
  rw [if_pos rfl]
  go_enter Tryz.func183,Tryz.ntmps183
  go_wp2_with fail
  refine (K.out w).mono ?_
  rintro e w2 ⟨k,rfl,o2,m2,f2⟩
  have G2:=lh (G0.out.own aS m2 o2 f2)
  have C:=lh (G2.out.calls (nH o2.rd (bW (fun i hi => .inr hi)) (nK ..) hn hp))
  clear o2 m2 f2 G0
  go_wp2_with fail
  refine C.out.mono ?_
  rintro e w3 ⟨rfl,g3,m3⟩
  have DD:=lh g3.done
  clear g3 m3 C G2
  go_wp2
  go_end0
  exact⟨rfl,DD.out⟩
 ·have hI:¬ (m:Int)=0:=by omega
  rw [if_neg h0]
  clear hm
  go_enter Tryz.func183,Tryz.ntmps183
  go_wp2_with fail
  refine (K.out w).mono ?_
  rintro e w2 ⟨k,rfl,o2,m2,f2⟩
  have G2:=lh (G0.out.own aS m2 o2 f2)
  have O2:=lh o2
  clear o2 m2 f2 G0
  go_wp2_with fail
  refine (PU.out w2).mono ?_
  rintro e w3 ⟨u,rfl,o3,m3,f3⟩
  have G3:=lh (G2.out.own aS m3 o3 f3)
  have C:=lh (G3.out.calls (ji (O2.out.keep m3 (fun _ _ x=>x)).rd o3.rd (bW (fun i hi => .inl (.inr hi))) (bW (fun i hi => .inr hi)) hn hp))
  clear o3 m3 f3 G2 O2
  go_wp2_with fail
  refine C.out.mono ?_
  rintro e w4 ⟨rfl,g4,m4⟩
  have DD:=lh g4.done
  clear g4 m4 C G3
  go_wp2
  go_end0
  exact⟨rfl,DD.out⟩
theorem Lh (hn:n≤100000000000) (hp:p≤90000):GS Tryz.prog 181 #[.pointer (some ⟨sg,0,none⟩)] w (aP sg F n p) Q (.int .u64 (((gZ F).2:Nat):Int)) (aP sg (wL F) (n+2) (p+2)):=GS.walk fun S D kv hQ=>by
 have VL:=lh (show ((dB F (qk 2 0 0)).getD []).length≤1000000 from by
  obtain⟨m,q,_,_,kv⟩:=kv
  cases hg:dB F (qk 2 0 0) with
  | none=>simp
  | some v=>exact KV.vlen kv hg)
 have G0:=lh (GI.start kv)
 have K:=lh (fun W=>show Calls Tryz.prog 116 #[.int .i64 2,.int .u64 0,.int .u64 0] W fun e w'=>∃ v,e = .returned v∧Gl.Own w' v (qk 2 0 0)∧ae ai W w'∧aF W v from dH (kind:=2) (a:=0) (b:=0) W (by unfold aU;omega) (by unfold aU;omega))
 clear kv
 go_enter Tryz.func181,Tryz.ntmps181
 go_wp2_with fail
 refine (K.out w).mono ?_
 rintro e w2 ⟨k,rfl,o2,m2,f2⟩
 have G2:=lh (G0.out.own aS m2 o2 f2)
 have C:=lh (G2.out.callo (uX o2.rd (bW (fun i hi => .inr hi)) (by omega) (by omega)))
 clear o2 m2 f2 G0
 go_wp2_with fail
 refine C.out.mono ?_
 rintro e w3 ⟨b,rfl,o3,f3,g3,m3⟩
 have G3:=lh (g3.less (N':=fun _=>False) (fun _ x=>x.elim))
 have A:=lh (Gu o3.rd VL.out)
 clear C o3 f3 g3 m3 G2
 go_wp2_with fail
 refine A.out.mono ?_
 rintro e w4 ⟨h,m,er,rfl,hg,m4⟩
 have TW:=lh (show gZ F=(h,m) from Am hg)
 have hlt:=(Ac ((dB F (qk 2 0 0)).getD []))
 have LT:=lh (show h≤18446744073709551615∧m≤18446744073709551615 from by
  have e1:two ((dB F (qk 2 0 0)).getD [])=(h,m):=Am hg
  rw [e1] at hlt
  exact hlt)
 obtain⟨m',hm'⟩:∃ m',(m+1) % 18446744073709551616=m':=⟨_,rfl⟩
 have t1:IntKind.u64.wrap ((m:Int)+1)=(m':Int):=by rw [wrap_u64];omega
 have t2:IntKind.u64.wrap ((m':Int) - 1)=(m:Int):=by rw [wrap_u64];have:=LT.out.2;omega
 have G4:=lh (G3.out.keep0 aS m4)
 have HM:=lh hm'
 clear A hg m4 G3 hm' hlt
 have m5:=(ae.refl ai w4).alloc (.cells #[.int .u64 ((h:Nat):Int),.int .u64 ((m':Nat):Int)] 95)
 have b5:=aC w4 (.cells #[.int .u64 ((h:Nat):Int),.int .u64 ((m':Nat):Int)] 95)
 obtain⟨w5,hw5⟩:∃ w5,w5=w4.alloc (.cells #[.int .u64 ((h:Nat):Int),.int .u64 ((m':Nat):Int)] 95):=⟨_,rfl⟩
 rw [← hw5] at m5 b5
 have G5:=lh (G4.out.grow aS m5 (N':=fun k=>k=w4.heap.size) (fun k hk => .inr (by subst hk;exact⟨Nat.le_refl _,lt_of_heap b5⟩)))
 have B5:=lh b5
 have HW:=lh hw5
 have C1:=lh (fun b' (mb:ae ai w5 b')=>(K.out b').mono (fun (e:Ending) w' ⟨v,a,o,m',f⟩=>show ∃ v,e=Ending.returned v∧(Gl.Own w' v (qk 2 0 0)∧ae ai w5 w'∧GI w S D w' (aP sg F (n+1) p) (fun k=>k=w4.heap.size∨bY v k)) from⟨v,a,o,mb.then0 m',(G5.out.keep0 aS mb).own aS m' o f⟩))
 have C2:=lh (fun b' f (hX:Gl.Own b' f (qk 2 0 0)∧ae ai w5 b'∧GI w S D b' (aP sg F (n+1) p) (fun k=>k=w4.heap.size∨bY f k))=>(yz (w:=b') (n0:=h) (n1:=m') (by intro x hx;simp at hx;have:=LT.out;have:=HM.out;rcases hx with rfl | rfl <;> omega)).mono (fun (e:Ending) w' ⟨v,a,o,mv,fr⟩=>show ∃ v,e=Ending.returned v∧(Gl.Own w' f (qk 2 0 0)∧Gl.Own w' v (iV h m')∧ae ai w5 w'∧GI w S D w' (aP sg F (n+1) p) (fun k=>(k=w4.heap.size∨bY f k)∨bY v k)) from⟨v,a,hX.1.keep mv (fun _ _ x=>x),o,hX.2.1.then0 mv,hX.2.2.own aS mv o fr⟩))
 have C3:=lh (fun b' f v (hY:Gl.Own b' f (qk 2 0 0)∧Gl.Own b' v (iV h m')∧ae ai w5 b'∧GI w S D b' (aP sg F (n+1) p) (fun k=>(k=w4.heap.size∨bY f k)∨bY v k))=>(hY.2.2.2.calls (ji hY.1.rd hY.2.1.rd (bW (fun i hi => .inl (.inr hi))) (bW (fun i hi => .inr hi)) (by omega) (by omega))).mono (fun (e:Ending) w' ⟨a,g,mm⟩=>show ∃ r,e=Ending.returned r∧(w'.heap[w4.heap.size]?=some (Obj.cells #[.int .u64 ((h:Nat):Int),.int .u64 ((m':Nat):Int)] 95 (0,0))∧gW w S D w' (aP sg (bZ F (qk 2 0 0) (iV h m')) (n+2) (p+2))) from⟨_,a,mm.heap (hY.2.2.1.heap B5.out (fun x=>x)) (fun x=>x (.inl (.inl (.inl rfl)))),g.done⟩))
 clear G4 m5 b5 hw5
 go_upto_region 4 with fail
 rw [← HW.out]
 refine bK (d := .region 4 (aG 4 Tryz.f181) true) (by kernel_rfl) ?_
 refine RW.wp (qnx4 B5.out C1.out C2.out C3.out (fun _ _ h=>h.2.1) (fun _ _ _ h=>h.2.2.1) ?_)
 intros
 rename_i w9 h9
 have c1:w9.cell? ⟨w4.heap.size,1,none⟩=some (.int .u64 ((m':Nat):Int)):=af h9.1 1
 have DD:=lh (show gW w S D w9 (aP sg (wL F) (n+2) (p+2)) from by
  unfold wL
  rw [TW.out]
  simp only
  rw [HM.out]
  exact h9.2)
 clear h9 C1 C2 C3
 go_wp2
 go_ret
 exact⟨by rw [TW.out];rfl,DD.out⟩
end
end Go.Proofs.YtglkmaalpammcaaGreat

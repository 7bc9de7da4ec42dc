/- gleanlaw12.begun; gleanlaw12.known: the chapter's examples hold. -/
import Derived.Test.YtglkmaalpammcaaGreatQuN0
import Derived.Test.YtglkmaalpammcaaGreatQuT
import Derived.Test.YtglkmaalpammcaaGreatQuD
import Derived.Test.YtglkmaalpammcaaGreatQuE
import Derived.Test.YtglkmaalpammcaaGreatQuH
import Derived.Test.YtglkmaalpammcaaGreatBkL
set_option maxHeartbeats 64000000
namespace Go.Proofs.YtglkmaalpammcaaGreat
open Go.Gl Go.RowKit
set_option linter.unusedVariables false
set_option maxRecDepth 100000
theorem Ez {nx:Nat} (h:bD nx) (w:World):Calls Tryz.prog 34 #[.int .u64 ((nx:Nat):Int)] w fun e w'=>∃ sg,e = .returned (.pointer (some ⟨sg,0,none⟩))∧G1 w w' (bI sg (fV [] (qk 2 0 0) (qJ 3 nx)) 1 2) (fun k=>k<w.heap.size):=by
 have MK:=lh (fun W=>Az 2 0 0 W (by omega) (by omega))
 have PU:=lh (fun W=>EE (w:=W) (n0:=3) (n1:=nx) (by intro x hx;simp at hx;unfold bD at h;rcases hx with rfl | rfl <;> omega))
 clear h
 go_enter Tryz.func34,Tryz.ntmps34
 go_wp2_with fail
 refine (UA w).mono ?_
 rintro e w1 ⟨sg,rfl,g1⟩
 have G1':=lh g1
 clear g1
 go_wp2_with fail
 refine (MK.out w1).mono ?_
 rintro e w2 ⟨k,rfl,o2,m2,f2⟩
 have G2:=lh (G1'.out.grow bJ m2 (Q':=fun j=>j<w.heap.size∨eY k j) (fun j hj=>hj.imp (fun x=>x) (fun x=>⟨f2 j x,o2.lt j x⟩)) (fun j hj => .inl hj))
 have O2:=lh (show Gl.Own w2 k (qk 2 0 0) from o2)
 clear o2 m2 f2 G1'
 go_wp2_with fail
 refine (PU.out w2).mono ?_
 rintro e w3 ⟨u,rfl,o3,m3,f3⟩
 have G3:=lh (G2.out.grow bJ m3 (Q':=fun j=>(j<w.heap.size∨eY k j)∨eY u j) (fun j hj=>hj.imp (fun x=>x) (fun x=>⟨f3 j x,o3.lt j x⟩)) (fun j hj => .inl (.inl hj)))
 have C:=lh (G3.out.calls (qI (O2.out.keep m3 (fun _ _ x=>x)).rd o3.rd (fun _ i hi x=>x (.inl (.inr hi))) (fun _ i hi x=>x (.inr hi)) (by omega) (by omega)))
 clear o3 m3 f3 G2 O2
 go_wp2_with fail
 refine C.out.mono ?_
 rintro e w4 ⟨rfl,g4,m4⟩
 have G4:=lh (g4.less (Q':=fun j=>j<w.heap.size) (fun j hj => .inl (.inl hj)) (fun j hj=>hj))
 clear g4 m4 C G3
 go_wp2
 go_ret
 exact⟨_,rfl,G4.out⟩
def kq0:List aN:=fV [] (qk 2 0 0) (qJ 3 7)
def kq1:List aN:=qf kq0 12 (pF 20 16 0 5 0 9) 20 16 5
def kq2:List aN:=qf kq1 13 (pq 20 16 17 0 4 0 []) 20 16 4
def Jl:List aN:=zD kq2 7 4
def lQ:List aN:=CQ Jl 8 [3]
def JH:List aN:=qV lQ 8 13
theorem kq01:(kC kq0).2=7:=by kernel_rfl
theorem kq02:(kC kq1).2=8:=by kernel_rfl
theorem kq03:sN kq2 20 16=2:=by kernel_rfl
theorem kq04:uB kq2 7=true:=by kernel_rfl
theorem kq05:uB Jl 8=false:=by kernel_rfl
theorem kq06:zD Jl 8 4=Jl:=by kernel_rfl
theorem kq07:mB Jl 8=true:=by kernel_rfl
theorem kq08:mB lQ 7=false:=by kernel_rfl
theorem kq09:CQ lQ 7 []=lQ:=by kernel_rfl
theorem kq10:uG lQ 7=[20,16,0,5,0,4]:=by kernel_rfl
theorem kq11:uB lQ 7=true:=by kernel_rfl
theorem kq12:mG lQ 8=([20,16,17,0,4,0],[3]):=by kernel_rfl
theorem kq13:mB lQ 8=true:=by kernel_rfl
theorem kq14:lQ.filter (fun e=>dh [113] e.1)=oV 14 [(4,8,13),(5,7,12)]:=by kernel_rfl
theorem kq15:lQ.filter (fun e=>dh (101 :: be 8 16) e.1)=oV 15 [(16,7,12),(16,8,13)]:=by kernel_rfl
theorem kq16:rU lQ 8 12=false:=by kernel_rfl
theorem kq17:qV lQ 8 12=lQ:=by kernel_rfl
theorem kq18:rU lQ 8 13=true:=by kernel_rfl
theorem kq19:sN JH 20 16=1:=by kernel_rfl
theorem jS {n:Nat} (h:n≤1000):bD n:=by unfold bD;omega
theorem Pg {l:List Nat} (h:∀ x∈l,x≤1000):gu l:=fun x hx=>Nat.le_trans (h x hx) (by omega)
def Jk (s:Nat):List aN:=if s≤4 then lQ else JH
def Af (s:Nat):List TE:=if s=0 then [(4,8,13),(5,7,12)] else if s=1 then [(4,8,13)] else [(16,7,12),(16,8,13)]
def Aa (w0:World) (sg xa xb:Nat) (s:Nat) (v:Option Value) (k:Option Nat) (w:World):Prop :=
 ∃ (n p:Nat) (Q:Nat→Prop),n≤3000*(s+1)+(if v.isSome then 1500 else 0)∧p≤100+10*s∧G1 w0 w (bI sg (Jk s) n p) Q∧Q xa∧Q xb∧w.heap[xa]?=some (.cells #[.int .u64 7,.int .i64 12] 86 (0,0))∧w.heap[xb]?=some (.cells #[.int .u64 8,.int .i64 13] 86 (0,0)) ∧
  (∀ vv,v=some vv→bC w 86 2 vv (Af s).length (ecs (Af s))∧∀ j,eY vv j→Q j)∧(∀ kk,k=some kk→w.heap[kk]?=some (.cells (ecs (Af s)).toArray 86 (0,0))∧Q kk)
section
variable {w0 w:World}{sg xa xb s:Nat}{v:Option Value}{k:Option Nat}
theorem Ry {w:World} (h:∃ s v k,Aa w0 sg xa xb s v k w):w.heap[xa]?=some (.cells #[.int .u64 7,.int .i64 12] 86 (0,0))∧w.heap[xb]?=some (.cells #[.int .u64 8,.int .i64 13] 86 (0,0)):=by
 obtain⟨s,v,k,n,p,Q,_,_,_,_,_,a,b,_⟩:=h
 exact⟨a,b⟩
theorem Aq {f:FuncId}{args:Array Value}{T:List TE}{F:List aN} (hF:Jk s=F) (hT:Af s=T) (c:∀ (w:World) (n p:Nat) (Q:Nat→Prop),n≤100000→p≤1000→GC Tryz.prog f args w (bI sg F n p) Q (fun w' v P' N=>bC w' 86 2 v T.length (ecs T)∧P'=bI sg F (n+1+p) p∧N=eY v)) (hs:s≤4) (h:Aa w0 sg xa xb s none k w) :
  Calls Tryz.prog f args w fun e w'=>∃ v,e = .returned v∧Aa w0 sg xa xb s (some v) k w':=by
 obtain⟨n,p,Q,hn,hp,g,qa,qb,ha,hb,_,hk⟩:=h
 simp only [Option.isSome_none,Bool.false_eq_true,if_false] at hn
 rw [hF] at g
 refine (g.call (c w n p Q (by omega) (by omega))).mono ?_
 rintro e w' ⟨v,P',N,rfl,⟨o,rfl,rfl⟩,g',_,m⟩
 refine⟨v,rfl,n+1+p,p,fun j=>Q j∨eY v j,?_,hp,by rw [hF];exact g',.inl qa,.inl qb,m.heap ha (fun x=>x qa),m.heap hb (fun x=>x qb),fun vv hv=>?_,fun kk hkk=>⟨m.heap (hk kk hkk).1 (fun x=>x (hk kk hkk).2),.inl (hk kk hkk).2⟩⟩
 ·simp only [Option.isSome_some,if_true];omega
 ·cases hv
  rw [hT]
  exact⟨o,fun j hj => .inr hj⟩
theorem Dz {b'':World}{kk:Nat} (h:Aa w0 sg xa xb s v none w) (hkk:kk=w.heap.size) (ho:b''.heap[kk]?=some (.cells (ecs (Af s)).toArray 86 (0,0))) (m:ae ai w b''):Aa w0 sg xa xb s v (some kk) b'':=by
 obtain⟨n,p,Q,hn,hp,g,qa,qb,ha,hb,hv,_⟩:=h
 have kl:=lt_of_heap ho
 refine⟨n,p,fun j=>Q j∨j=kk,hn,hp,g.grow bJ m (fun j hj=>hj.imp (fun x=>x) (fun x=>⟨by omega,by omega⟩)) (fun j hj => .inl (g.q0 j hj)),.inl qa,.inl qb,m.heap ha (fun x=>x),m.heap hb (fun x=>x),fun vv hvv=>⟨(hv vv hvv).1.keep m (fun _ _ x=>x),fun j hj => .inl ((hv vv hvv).2 j hj)⟩,fun k' hk'=>?_⟩
 cases hk'
 exact⟨ho,.inr rfl⟩
theorem Dy {vv:Value}{kk m:Nat} (hm:(Af s).length=m) (hF:Jk (s+1)=Jk s) (h:Aa w0 sg xa xb s (some vv) (some kk) w):Calls Tryz.prog 105 #[vv,.slice (some ⟨kk,0,none⟩) m m] w fun e w'=>e = .returned (.bool true)∧Aa w0 sg xa xb (s+1) none none w':=by
 obtain⟨n,p,Q,hn,hp,g,qa,qb,ha,hb,hv,hk⟩:=h
 have hm3:(Af s).length≤2:=by unfold Af;split <;> (try split) <;> simp
 have o:=(hv vv rfl).1
 have hkk:=(hk kk rfl).1
 have r:jc w 2 (.slice (some ⟨kk,0,none⟩) m m) (Af s).length (ecs (Af s)):=by
  refine⟨I5 _,.inr ⟨kk,0,m,by rw [hm],by omega,by simp [maxLen];omega,.inr (lt_of_heap hkk),fun j u hj=>?_⟩⟩
  rw [Nat.zero_add]
  exact (af hkk j).trans (by rw [← hj];exact List.getElem?_toArray)
 refine (Hy o.rd r (by omega)).mono ?_
 rintro e w' ⟨rfl,m'⟩
 refine⟨rfl,n,p,Q,?_,by omega,by rw [hF];exact g.keep0 bJ m',qa,qb,m'.heap ha (fun x=>x),m'.heap hb (fun x=>x),(fun _ x=>by cases x),(fun _ x=>by cases x)⟩
 simp only [Option.isSome_some,if_true] at hn
 simp only [Option.isSome_none,Bool.false_eq_true,if_false]
 omega
theorem Ig {f:FuncId}{args:Array Value}{r:Value} (c:∀ (w:World) (n p:Nat) (Q:Nat→Prop),n≤100000→p≤1000→GS Tryz.prog f args w (bI sg (Jk s) n p) Q r (bI sg (Jk (s+1)) (n+6) (p+8))) (hs:s≤6) (h:Aa w0 sg xa xb s none none w) :
  Calls Tryz.prog f args w fun e w'=>e = .returned r∧Aa w0 sg xa xb (s+1) none none w':=by
 obtain⟨n,p,Q,hn,hp,g,qa,qb,ha,hb,_,_⟩:=h
 simp only [Option.isSome_none,Bool.false_eq_true,if_false] at hn
 refine (g.calls (c w n p Q (by omega) (by omega))).mono ?_
 rintro e w' ⟨rfl,g2,m⟩
 exact⟨rfl,n+6,p+8,Q,by simp;omega,by omega,g2,qa,qb,m.heap ha (fun x=>x qa),m.heap hb (fun x=>x qb),(fun _ x=>by cases x),(fun _ x=>by cases x)⟩
end
section
variable {w0 w:World}{sg n p:Nat}{F F':List aN}{Q:Nat→Prop}{b:Bool}
theorem n_unb (n0 n1 n2 n3 n4 n5 i:Nat) (hl:gu [n0,n1,n2,n3,n4,n5]) (hn:n≤1000) (hp:p≤1000) (he:(kC F).2=i) (hF:qf F 12 (pF n0 n1 n2 n3 n4 n5) n0 n1 n3=F') (g:G1 w0 w (bI sg F n p) Q):Calls Tryz.prog 35 #[.pointer (some ⟨sg,0,none⟩),.agg #[.int .u64 n0,.int .u64 n1,.int .u64 n2,.int .u64 n3,.int .u64 n4,.int .u64 n5]] w fun r w'=>r = .returned (.int .u64 ((i:Nat):Int))∧G1 w0 w' (bI sg F' (n+7) (p+10)) Q:=by
 have c:=Ji (w:=w) (sg:=sg) (n:=n) (p:=p) (F:=F) (Q:=Q) hl (by omega) (by omega)
 rw [he,hF] at c
 exact (g.calls c).mono fun r w' ⟨a,b,_⟩=>⟨a,b⟩
theorem n_mov (n0 n1 n2 n3 n4 n5 i:Nat) (hl:gu [n0,n1,n2,n3,n4,n5]) (hn:n≤1000) (hp:p≤1000) (he:(kC F).2=i) (hF:qf F 13 (pq n0 n1 n2 n3 n4 n5 []) n0 n1 n4=F') (g:G1 w0 w (bI sg F n p) Q):Calls Tryz.prog 36 #[.pointer (some ⟨sg,0,none⟩),.agg #[.int .u64 n0,.int .u64 n1,.int .u64 n2,.int .u64 n3,.int .u64 n4,.int .u64 n5,.slice none 0 0]] w fun r w'=>r = .returned (.int .u64 ((i:Nat):Int))∧G1 w0 w' (bI sg F' (n+7) (p+10)) Q:=by
 have c:=RQ (w:=w) (sg:=sg) (n:=n) (p:=p) (F:=F) (Q:=Q) (u6 := .slice none 0 0) (l6:=[]) hl ⟨dP.nil _ _,uh,by simp⟩ (.inl rfl) (by omega) (by omega)
 rw [he,hF] at c
 exact (g.calls c).mono fun r w' ⟨a,b,_⟩=>⟨a,b⟩
theorem n_cnt (d v c0:Nat) (hd:bD d) (hv:bD v) (hn:n≤1000) (hp:p≤1000) (he:sN F d v=c0) (g:G1 w0 w (bI sg F n p) Q):Calls Tryz.prog 42 #[.pointer (some ⟨sg,0,none⟩),.int .u64 ((d:Nat):Int),.int .u64 ((v:Nat):Int)] w fun r w'=>r = .returned (.int .u64 ((c0:Nat):Int))∧G1 w0 w' (bI sg F (n+1) p) Q:=by
 have c:=vO (w:=w) (sg:=sg) (n:=n) (p:=p) (F:=F) (Q:=Q) hd hv (by omega) (by omega)
 rw [he] at c
 exact (g.calls c).mono fun r w' ⟨a,b,_⟩=>⟨a,b⟩
theorem Oz (id bal:Nat) (hd:bD id) (hv:bD bal) (hn:n≤1000) (hp:p≤1000) (he:uB F id=b) (hF:zD F id bal=F') (g:G1 w0 w (bI sg F n p) Q):Calls Tryz.prog 48 #[.pointer (some ⟨sg,0,none⟩),.int .u64 ((id:Nat):Int),.int .u64 ((bal:Nat):Int)] w fun r w'=>r = .returned (.bool b)∧G1 w0 w' (bI sg F' (n+2) (p+2)) Q:=by
 have c:=qLess (w:=w) (sg:=sg) (n:=n) (p:=p) (F:=F) (Q:=Q) hd hv (by omega) (by omega)
 rw [he,hF] at c
 exact (g.calls c).mono fun r w' ⟨a,b,_⟩=>⟨a,b⟩
theorem RG (id:Nat) {u:Value} (l:List Nat) (hd:bD id) (du:DN w u l) (qu:l=[]∨∀ k,u.ownBlock=some k→Q k) (hn:n≤1000) (hp:p≤1000) (he:mB F id=b) (hF:CQ F id l=F') (g:G1 w0 w (bI sg F n p) Q):Calls Tryz.prog 50 #[.pointer (some ⟨sg,0,none⟩),.int .u64 ((id:Nat):Int),.agg #[u]] w fun r w'=>r = .returned (.bool b)∧G1 w0 w' (bI sg F' (n+2) (p+2)) Q:=by
 have c:=Vo (w:=w) (sg:=sg) (n:=n) (p:=p) (F:=F) (Q:=Q) hd du qu (by omega) (by omega)
 rw [he,hF] at c
 exact (g.calls c).mono fun r w' ⟨a,b,_⟩=>⟨a,b⟩
theorem n_ub (id n0 n1 n2 n3 n4 n5:Nat) (hd:bD id) (hn:n≤1000) (hp:p≤1000) (he:uG F id=[n0,n1,n2,n3,n4,n5]) (hb:uB F id=b) (g:G1 w0 w (bI sg F n p) Q):Calls Tryz.prog 57 #[.pointer (some ⟨sg,0,none⟩),.int .u64 ((id:Nat):Int)] w fun r w'=>r = .returned (.tuple #[.agg #[.int .u64 n0,.int .u64 n1,.int .u64 n2,.int .u64 n3,.int .u64 n4,.int .u64 n5],.bool b])∧G1 w0 w' (bI sg F (n+1) p) Q:=by
 have c:=Ls (w:=w) (sg:=sg) (n:=n) (p:=p) (F:=F) (Q:=Q) hd (by omega) (by omega)
 rw [he,hb] at c
 exact (g.calls c).mono fun r w' ⟨a,b,_⟩=>⟨a,b⟩
theorem n_mv (id n0 n1 n2 n3 n4 n5:Nat) (l:List Nat) (hd:bD id) (hn:n≤1000) (hp:p≤1000) (he:mG F id=([n0,n1,n2,n3,n4,n5],l)) (hb:mB F id=b) (g:G1 w0 w (bI sg F n p) Q):Calls Tryz.prog 58 #[.pointer (some ⟨sg,0,none⟩),.int .u64 ((id:Nat):Int)] w fun r w'=>∃ a c,r = .returned (.tuple #[.agg #[.int .u64 n0,.int .u64 n1,.int .u64 n2,.int .u64 n3,.int .u64 n4,.int .u64 n5,.slice a l.length c],.bool b])∧RN w' (.slice a l.length c) l∧G1 w0 w' (bI sg F (n+1) p) Q∧ae (fun k=>¬ Q k) w w':=by
 have c:=Um (w:=w) (sg:=sg) (n:=n) (p:=p) (F:=F) (Q:=Q) hd (by omega) (by omega)
 refine (g.call c).mono ?_
 rintro e w' ⟨v,P',N,rfl,⟨k0,k1,k2,k3,k4,k5,u6,l6,rfl,hg,e6,rfl,rfl⟩,g',_,m⟩
 rw [he] at hg
 simp only [Prod.mk.injEq,List.cons.injEq,and_true] at hg
 obtain⟨⟨rfl,rfl,rfl,rfl,rfl,rfl⟩,rfl⟩:=hg
 obtain⟨a,c,rfl,_⟩:=e6.form
 exact⟨a,c,by rw [hb],e6,g'.less (fun k hk => .inl hk) g.q0,m⟩
theorem DF (W:World) (h:Nat) (hb:W.heap[h]?=some (.cells #[.int .u64 3] 22 (0,0))):RN W (.slice (some ⟨h,0,none⟩) 1 1) [3]:=BJ rfl (Nat.le_refl _) (by decide) (.inr (lt_of_heap hb)) (fun i hi=>by
 simp only [List.length_cons,List.length_nil] at hi
 obtain rfl:i=0:=by omega
 exact af hb 0)
end
theorem Qq (d:Nat) (a b c e f g:Int) (w:World):(Op.equalIn (d+2) 73 (.agg #[.int .u64 a,.int .u64 b,.int .u64 c,.int .u64 e,.int .u64 f,.int .u64 g]) (.agg #[.int .u64 a,.int .u64 b,.int .u64 c,.int .u64 e,.int .u64 f,.int .u64 g])).run Tryz.prog w = .ok true w:=by
 simp [go_sem]
theorem PE {a b c e f g:Int} (w:World):(binOp .neq 73 (.agg #[.int .u64 a,.int .u64 b,.int .u64 c,.int .u64 e,.int .u64 f,.int .u64 g]) (.agg #[.int .u64 a,.int .u64 b,.int .u64 c,.int .u64 e,.int .u64 f,.int .u64 g])).run Tryz.prog w = .ok (.bool false) w:=by
 rw [run_neq_struct,Qq 9998]
 rfl
theorem Gq:(Tryz.prog.info? 86).map (·.size)=some 2:=by kernel_rfl
theorem Ud {f:FuncId}{args:Array Value}{w:World}{P:FP}{Q:Nat→Prop}{r:Value}{sg n p n2 p2:Nat}{F:List aN} (h:GS Tryz.prog f args w P Q r (bI sg F n p)) (h1:n≤n2) (h2:p≤p2):GS Tryz.prog f args w P Q r (bI sg F n2 p2):=GS.of fun S D x hQ=>(h S D x hQ).mono fun e w' ⟨v,P1,N,he,⟨hv,hP,hN⟩,S',D',p',m,s,d,_⟩=>by
 subst hv hP
 exact⟨he,S',D',bI.more p' h1 h2,m,s,d⟩
section
variable {w:World}{sg n p:Nat}{Q:Nat→Prop}
theorem kn_c0 (hn:n≤100000) (hp:p≤1000):GC Tryz.prog 37 #[.pointer (some ⟨sg,0,none⟩),.int .u64 5] w (bI sg lQ n p) Q (fun w' v P' N=>bC w' 86 2 v ([(4,8,13),(5,7,12)]:List TE).length (ecs [(4,8,13),(5,7,12)])∧P'=bI sg lQ (n+1+p) p∧N=eY v) :=
 Qi (h:=5) (T:=[(4,8,13),(5,7,12)]) (jS (by omega)) kq14 (fun t ht=>by
  simp only [List.mem_cons,List.not_mem_nil,or_false] at ht
  rcases ht with rfl | rfl <;> exact⟨⟨jS (by decide),jS (by decide),by decide⟩,by decide⟩) (by omega) (by omega)
theorem kn_c1 (hn:n≤100000) (hp:p≤1000):GC Tryz.prog 37 #[.pointer (some ⟨sg,0,none⟩),.int .u64 4] w (bI sg lQ n p) Q (fun w' v P' N=>bC w' 86 2 v ([(4,8,13)]:List TE).length (ecs [(4,8,13)])∧P'=bI sg lQ (n+1+p) p∧N=eY v) :=
 Qi (h:=4) (T:=[(4,8,13),(5,7,12)]) (jS (by omega)) kq14 (fun t ht=>by
  simp only [List.mem_cons,List.not_mem_nil,or_false] at ht
  rcases ht with rfl | rfl <;> exact⟨⟨jS (by decide),jS (by decide),by decide⟩,by decide⟩) (by omega) (by omega)
theorem kn_c2 (hn:n≤100000) (hp:p≤1000):GC Tryz.prog 39 #[.pointer (some ⟨sg,0,none⟩),.int .u64 16] w (bI sg lQ n p) Q (fun w' v P' N=>bC w' 86 2 v ([(16,7,12),(16,8,13)]:List TE).length (ecs [(16,7,12),(16,8,13)])∧P'=bI sg lQ (n+1+p) p∧N=eY v) :=
 RY (a:=16) (T:=[(16,7,12),(16,8,13)]) (jS (by omega)) kq15 (fun t ht=>by
  simp only [List.mem_cons,List.not_mem_nil,or_false] at ht
  rcases ht with rfl | rfl <;> exact⟨⟨jS (by decide),jS (by decide),by decide⟩,by decide⟩) (by omega) (by omega)
theorem kn_x0 (hn:n≤100000) (hp:p≤1000):GS Tryz.prog 52 #[.pointer (some ⟨sg,0,none⟩),.agg #[.int .u64 8,.int .i64 12]] w (bI sg lQ n p) Q (.bool false) (bI sg lQ (n+6) (p+8)):=by
 have c:=LK (w:=w) (sg:=sg) (n:=n) (p:=p) (F:=lQ) (Q:=Q) (id:=8) (kind:=12) (jS (by omega)) (by omega) (by omega)
 rw [kq16,kq17] at c
 exact c
theorem kn_x1 (hn:n≤100000) (hp:p≤1000):GS Tryz.prog 52 #[.pointer (some ⟨sg,0,none⟩),.agg #[.int .u64 8,.int .i64 13]] w (bI sg lQ n p) Q (.bool true) (bI sg JH (n+6) (p+8)):=by
 have c:=LK (w:=w) (sg:=sg) (n:=n) (p:=p) (F:=lQ) (Q:=Q) (id:=8) (kind:=13) (jS (by omega)) (by omega) (by omega)
 rw [kq18] at c
 exact c
theorem kn_x2 (hn:n≤100000) (hp:p≤1000):GS Tryz.prog 42 #[.pointer (some ⟨sg,0,none⟩),.int .u64 20,.int .u64 16] w (bI sg JH n p) Q (.int .u64 1) (bI sg JH (n+6) (p+8)):=by
 have c:=vO (w:=w) (sg:=sg) (n:=n) (p:=p) (F:=JH) (Q:=Q) (d:=20) (v:=16) (jS (by omega)) (jS (by omega)) (by omega) (by omega)
 rw [kq19] at c
 exact Ud c (by omega) (by omega)
end
theorem IQ (w:World):Calls Tryz.prog 32 #[] w fun e w'=>e = .returned (.bool true)∧ae ai w w':=by
 have hE:∀ W,(binOp .neq 73 (.agg #[.int .u64 20,.int .u64 16,.int .u64 0,.int .u64 5,.int .u64 0,.int .u64 4]) (.agg #[.int .u64 20,.int .u64 16,.int .u64 0,.int .u64 5,.int .u64 0,.int .u64 4])).run Tryz.prog W = .ok (.bool false) W:=fun W=>PE W
 go_enter Tryz.func32,Tryz.ntmps32
 go_wp2_with fail
 refine (Ez (nx:=7) (jS (by omega)) w).mono ?_
 rintro e w1 ⟨sg,rfl,g1⟩
 go_wp2_with fail
 refine (n_unb 20 16 0 5 0 9 7 (Pg (by decide)) (by omega) (by omega) kq01 (show _=kq1 from rfl) g1).mono ?_
 rintro e w2 ⟨rfl,g2⟩
 clear g1
 go_wp2_with fail
 refine (n_mov 20 16 17 0 4 0 8 (Pg (by decide)) (by omega) (by omega) kq02 (show _=kq2 from rfl) g2).mono ?_
 rintro e w3 ⟨rfl,g3⟩
 clear g2
 go_wp2_with fail
 refine (n_cnt 20 16 2 (jS (by omega)) (jS (by omega)) (by omega) (by omega) kq03 g3).mono ?_
 rintro e w4 ⟨rfl,g4⟩
 clear g3
 go_wp2_with fail
 refine (Oz 7 4 (jS (by omega)) (jS (by omega)) (by omega) (by omega) kq04 (show _=Jl from rfl) g4).mono ?_
 rintro e w5 ⟨rfl,g5⟩
 clear g4
 go_wp2_with fail
 refine (Oz 8 4 (jS (by omega)) (jS (by omega)) (by omega) (by omega) kq05 kq06 g5).mono ?_
 rintro e w6 ⟨rfl,g6⟩
 clear g5
 have b7:=aF w6 (.cells #[.int .u64 3] 22)
 have m7:=(ae.refl ai w6).alloc (.cells #[.int .u64 3] 22)
 have G7:=lh (g6.grow bJ m7 (Q':=fun k=>k<w.heap.size∨k=w6.heap.size) (fun k hk=>hk.imp (fun x=>x) (fun x=>by subst x;exact⟨Nat.le_refl _,lt_of_heap b7⟩)) (fun k hk => .inl hk))
 have R7:=lh (DF _ _ b7)
 clear g6 b7 m7
 go_wp2_with fail
 refine (RG 8 [3] (jS (by omega)) ⟨R7.out,Pg (by decide),by simp⟩ (.inr (fun k hk => .inr (by simp [Value.ownBlock] at hk;exact hk.symm))) (by omega) (by omega) kq07 (show _=lQ from rfl) G7.out).mono ?_
 rintro e w8 ⟨rfl,g8⟩
 clear G7 R7
 go_wp2_with fail
 refine (RG 7 [] (jS (by omega)) ⟨dP.nil _ _,uh,by simp⟩ (.inl rfl) (by omega) (by omega) kq08 kq09 g8).mono ?_
 rintro e w9 ⟨rfl,g9⟩
 clear g8
 go_wp2_with fail
 refine (n_ub 7 20 16 0 5 0 4 (jS (by omega)) (by omega) (by omega) kq10 kq11 g9).mono ?_
 rintro e w10 ⟨rfl,g10⟩
 clear g9
 have b11:=aF w10 (.cells #[.int .u64 20,.int .u64 16,.int .u64 0,.int .u64 5,.int .u64 0,.int .u64 4] 73)
 have m11:=(ae.refl ai w10).alloc (.cells #[.int .u64 20,.int .u64 16,.int .u64 0,.int .u64 5,.int .u64 0,.int .u64 4] 73)
 have G11:=lh (g10.grow bJ m11 (Q':=fun k=>k<w.heap.size∨k=w10.heap.size) (fun k hk=>by
  rcases hk with hk | hk
  ·exact .inl (.inl hk)
  ·right;subst hk;exact⟨Nat.le_refl _,lt_of_heap b11⟩) (fun k hk => .inl hk))
 have B11:=lh b11
 clear g10 b11 m11
 go_wp2_with fail
 refine (n_mv 8 20 16 17 0 4 0 [3] (jS (by omega)) (by omega) (by omega) kq12 kq13 G11.out).mono ?_
 rintro e w12 ⟨a12,c12,rfl,e12,g12,m12⟩
 have b12:=m12.heap B11.out (fun x=>x (.inr rfl))
 obtain⟨w13,hw13⟩:∃ w13,w13=w12.alloc (.cells #[.int .u64 20,.int .u64 16,.int .u64 17,.int .u64 0,.int .u64 4,.int .u64 0,.slice a12 1 c12] 77):=⟨_,rfl⟩
 have m13:ae ai w12 w13:=by rw [hw13];exact (ae.refl _ _).alloc _
 have b13:w13.heap[w12.heap.size]?=some (.cells #[.int .u64 20,.int .u64 16,.int .u64 17,.int .u64 0,.int .u64 4,.int .u64 0,.slice a12 1 c12] 77 (0,0)):=by rw [hw13];exact aF _ _
 have b12':=m13.heap b12 (fun x=>x)
 have G13:=lh (g12.keep0 bJ m13)
 have HW:=lh hw13
 have b14:=aF w13 (.cells #[.int .u64 3] 22)
 have m14:=(ae.refl ai w13).alloc (.cells #[.int .u64 3] 22)
 have MV:=lh (NF (n0:=20) (n1:=16) (n2:=17) (n3:=0) (n4:=4) (n5:=0) (dP.keep (dP.keep e12 m13 (fun _ _ x=>x)) m14 (fun _ _ x=>x)) (DF _ _ b14))
 have G14:=lh (G13.out.keep0 bJ m14)
 have x0:=af b12' 0
 have x1:=af b12' 1
 have x2:=af b12' 2
 have x3:=af b12' 3
 have x4:=af b12' 4
 have x5:=af b12' 5
 have y0:=af b13 0
 have y1:=af b13 1
 have y2:=af b13 2
 have y3:=af b13 3
 have y4:=af b13 4
 have y5:=af b13 5
 have y6:=af b13 6
 clear G11 B11 e12 g12 m12 b12 hw13 m13 b13 b12' G13 b14 m14
 go_upto_region 10 with fail
 rw [show World.alloc w12 _=w13 from HW.out.symm]
 go_wp2_with fail
 refine MV.out.mono ?_
 rintro e w15 ⟨rfl,m15⟩
 clear x0 x1 x2 x3 x4 x5 y0 y1 y2 y3 y4 y5 y6 MV
 have G15:=lh (G14.out.keep0 bJ m15)
 clear m15 G14
 obtain⟨wA,hwA⟩:∃ wA,wA=(w15.alloc (.cells #[.int .u64 0,.int .i64 0] 86)).alloc (.cells #[.int .u64 0,.int .i64 0] 86):=⟨_,rfl⟩
 have mA:ae ai w15 wA:=by rw [hwA];exact ((ae.refl _ _).alloc _).alloc _
 have bA:wA.heap[w15.heap.size]?=some (.cells #[.int .u64 0,.int .i64 0] 86 (0,0)):=by rw [hwA];exact ((ae.refl ai _).alloc _).heap (aF _ _) (fun x=>x)
 have bB:wA.heap[w15.heap.size+1]?=some (.cells #[.int .u64 0,.int .i64 0] 86 (0,0)):=by
  rw [hwA]
  have:=aF (w15.alloc (.cells #[.int .u64 0,.int .i64 0] 86)) (.cells #[.int .u64 0,.int .i64 0] 86)
  rwa [World.size_alloc] at this
 have GA:=lh (G15.out.grow bJ mA (Q':=fun k=>k<w.heap.size∨k=w15.heap.size∨k=w15.heap.size+1) (fun k hk=>by
  have h1:=lt_of_heap bA
  have h2:=lt_of_heap bB
  rcases hk with hk | hk | hk
  ·exact .inl (.inl hk)
  ·right;omega
  ·right;omega) (fun k hk => .inl hk))
 have W0:=lh (show w.heap.size≤w15.heap.size from G15.out.mods.size)
 have HA:=lh hwA
 have BA:=lh bA
 have BB:=lh bB
 clear hwA mA bA bB G15
 go_upto_region 13 with (first
  | (rw [← HA.out];refine dm rfl rfl BA.out rfl rfl Gq rfl rfl ?_;intro wB qB mB zB)
  | (refine dm rfl rfl (mB.heap BB.out (fun x=>by omega)) rfl rfl Gq rfl rfl ?_;intro wC qC mC zC))
 have KS:=lh (show Aa w sg w15.heap.size (w15.heap.size+1) 0 none none wC.drew from
  ⟨_,_,_,by simp,by omega,((GA.out.turn bJ mB (fun k hk=>by have:=W0.out;subst hk;exact⟨.inr (.inl rfl),this⟩)).turn bJ mC (fun k hk=>by have:=W0.out;subst hk;exact⟨.inr (.inr rfl),by omega⟩)).keep0 bJ ((ae.refl ai wC).drew),.inr (.inl rfl),.inr (.inr rfl),((ae.refl ai wC).drew).heap (mC.heap qB (fun x=>by omega)) (fun x=>x),((ae.refl ai wC).drew).heap qC (fun x=>x),(fun _ x=>by cases x),(fun _ x=>by cases x)⟩)
 clear GA HA BA BB qB mB zB qC mC zC
 refine fM (d := .region 13 (aH 13 Tryz.f32) true) (by kernel_rfl) ?_
 refine RW.wp (kn13 (fun b' hb=>Ry hb)
  (fun k b' h=>Aq (s:=0) rfl rfl (fun _ _ _ _ a b=>kn_c0 a b) (by omega) h) (fun v b' b'' kk h h1 h2 h3=>Dz (s:=0) h h1 h2 h3) (fun v kk b' h=>Dy (s:=0) rfl rfl h)
  (fun k b' h=>Aq (s:=1) rfl rfl (fun _ _ _ _ a b=>kn_c1 a b) (by omega) h) (fun v b' b'' kk h h1 h2 h3=>Dz (s:=1) h h1 h2 h3) (fun v kk b' h=>Dy (s:=1) rfl rfl h)
  (fun k b' h=>Aq (s:=2) rfl rfl (fun _ _ _ _ a b=>kn_c2 a b) (by omega) h) (fun v b' b'' kk h h1 h2 h3=>Dz (s:=2) h h1 h2 h3) (fun v kk b' h=>Dy (s:=2) rfl rfl h)
  (fun b' h=>Ig (s:=3) (fun _ _ _ _ a b=>kn_x0 a b) (by omega) h) (fun b' h=>Ig (s:=4) (fun _ _ _ _ a b=>kn_x1 a b) (by omega) h) (fun b' h=>Ig (s:=5) (fun _ _ _ _ a b=>kn_x2 a b) (by omega) h) KS.out ?_)
 intros
 rename_i w9 h9
 have M9:=lh (show ae ai w w9 from by
  obtain⟨_,_,_,_,_,g,_⟩:=h9
  exact g.mods)
 clear h9 KS
 go_wp2
 go_ret
 exact⟨rfl,M9.out⟩
end Go.Proofs.YtglkmaalpammcaaGreat

/- queue: turns, Less, Fewer, as calls on a store (printed by gen_qut.py). -/
import Derived.Test.YtglkmaalpammcaaGreatQuF
set_option maxHeartbeats 64000000
namespace Go.Proofs.YtglkmaalpammcaaGreat
open Go.Gl Go.RowKit
set_option linter.unusedVariables false
set_option maxRecDepth 100000
def zD (F:List aN) (id bal:Nat):List aN:=if uB F id then (match uG F id with
 | [n0,n1,n2,n3,n4,_]=>fV F (qk 12 id 0) (pF n0 n1 n2 n3 n4 bal)
 | _=>F) else F
def CQ (F:List aN) (id:Nat) (l:List Nat):List aN:=if mB F id then (match (mG F id).1 with
 | [n0,n1,n2,n3,n4,n5]=>fV F (qk 13 id 0) (pq n0 n1 n2 n3 n4 n5 l)
 | _=>F) else F
theorem Ns {w:World}{xb bb n0 n1 n2 n3 n4 n5 bal:Nat} (hx:w.heap[xb]?=some (.cells #[.int .u64 n0,.int .u64 n1,.int .u64 n2,.int .u64 n3,.int .u64 n4,.int .u64 n5] 73 (0,0))) (hb:w.heap[bb]?=some (.cells #[.int .u64 ((bal:Nat):Int)] 22 (0,0))) :
  Calls Tryz.prog 127 #[.pointer (some ⟨xb,0,none⟩),.pointer (some ⟨bb,0,none⟩)] w fun e w'=>e = .returned (.tuple #[])∧w'.heap[xb]?=some (.cells #[.int .u64 n0,.int .u64 n1,.int .u64 n2,.int .u64 n3,.int .u64 n4,.int .u64 ((bal:Nat):Int)] 73 (0,0))∧ae (fun k=>k=xb) w w':=by
 have c0:=af hb 0
 have c5:=af hx 5
 have f5:=bY hx 5
 have R:=lh (And.intro (heap_set hx 5 (.int .u64 ((bal:Nat):Int))) ((ae.refl (fun k=>k=xb) w).setCell (p:=⟨xb,5,none⟩) (.inl rfl) (.int .u64 ((bal:Nat):Int))))
 clear hx hb
 go_enter Tryz.func127,Tryz.ntmps127
 go_wp2
 go_end0
 exact⟨rfl,R.out.1,R.out.2⟩
theorem KF {w:World}{xb bb n0 n1 n2 n3 n4 n5:Nat}{u6:Value}{ua:Option Addr}{un uc:Nat} (hx:w.heap[xb]?=some (.cells #[.int .u64 n0,.int .u64 n1,.int .u64 n2,.int .u64 n3,.int .u64 n4,.int .u64 n5,u6] 77 (0,0))) (hb:w.heap[bb]?=some (.cells #[.slice ua un uc] 75 (0,0))) :
  Calls Tryz.prog 130 #[.pointer (some ⟨xb,0,none⟩),.pointer (some ⟨bb,0,none⟩)] w fun e w'=>e = .returned (.tuple #[])∧w'.heap[xb]?=some (.cells #[.int .u64 n0,.int .u64 n1,.int .u64 n2,.int .u64 n3,.int .u64 n4,.int .u64 n5,.slice ua un uc] 77 (0,0))∧ae (fun k=>k=xb) w w':=by
 have c0:=af hb 0
 have c5:=af hx 6
 have f5:=bY hx 6
 have R:=lh (And.intro (heap_set hx 6 (.slice ua un uc)) ((ae.refl (fun k=>k=xb) w).setCell (p:=⟨xb,6,none⟩) (.inl rfl) (.slice ua un uc)))
 clear hx hb
 go_enter Tryz.func130,Tryz.ntmps130
 go_wp2
 go_end0
 exact⟨rfl,R.out.1,R.out.2⟩
section
variable {w:World}{sg n p:Nat}{F:List aN}{Q:Nat→Prop}
theorem U6 {id bal bb:Nat} (hid:bD id) (hbal:bD bal) (hb:w.heap[bb]?=some (.cells #[.int .u64 ((bal:Nat):Int)] 22 (0,0))) (qb:Q bb) (hn:n≤10000000000) (hp:p≤80000):GS Tryz.prog 126 #[.pointer (some ⟨sg,0,none⟩),vw,.int .u64 ((id:Nat):Int),.func (.func 127) #[] #[.pointer (some ⟨bb,0,none⟩)]] w (bI sg F n p) Q (.bool (uB F id)) (bI sg (zD F id bal) (n+2) (p+2)):=GS.walk fun S D kv hQ=>by
  have b1:=aF w (.cells #[.int .i64 12,.func (.func 184) #[] #[],.func (.func 185) #[] #[],.func (.func 186) #[] #[]] 179)
  have m1:=(ae.refl ai w).alloc (.cells #[.int .i64 12,.func (.func 184) #[] #[],.func (.func 185) #[] #[],.func (.func 186) #[] #[]] 179)
  obtain⟨w1,hw1⟩:∃ w1,w1=w.alloc (.cells #[.int .i64 12,.func (.func 184) #[] #[],.func (.func 185) #[] #[],.func (.func 186) #[] #[]] 179):=⟨_,rfl⟩
  rw [← hw1] at b1 m1
  obtain⟨tb,htb⟩:∃ tb,w.heap.size=tb:=⟨_,rfl⟩
  rw [htb] at b1
  have blt:=lt_of_heap hb
  have sb:=hQ bb qb
  have G1:=(GI.start kv).grow bJ m1 (N':=fun k=>k=tb) (fun k hk => .inr (by
    have h1:=lt_of_heap b1
    omega))
  have hb1:=m1.heap hb (fun x=>x)
  have oq:Out w S (fun k=>k=tb) bb := .inr ⟨blt,sb⟩
  have HW:=lh (And.intro hw1 htb)
  have B1:=lh b1
  have HB:=lh (And.intro hb1 (And.intro oq blt))
  have LE:=lh (fun W S' D'=>show bI sg F (n+1) p W S' D'→bI sg F (n+2) (p+2) W S' D' from fun h=>bI.more h (by omega) (by omega))
  have FC:=lh (G1.call (Gs (sg:=sg) (Q:=Out w S (fun k=>k=tb)) hid (n:=n) (p:=p) (by omega) (by omega)))
  have u0:bD 0:=by unfold bD;omega
  have K:=lh (fun W=>gZ (kind:=12) (a:=id) (b:=0) W hid u0)
  obtain⟨n0,n1,n2,n3,n4,n5,hu,hlm⟩:=AC ((gQ F 12 id 0).getD [])
  have hu:uG F id=[n0,n1,n2,n3,n4,n5]:=hu
  have hl:gu [n0,n1,n2,n3,n4,bal]:=fE (hlm n0 (by simp)) (fE (hlm n1 (by simp)) (fE (hlm n2 (by simp)) (fE (hlm n3 (by simp)) (fE (hlm n4 (by simp)) (fE hbal uh)))))
  unfold zD
  rw [hu] at FC ⊢
  obtain⟨ob,hob⟩:∃ ob,uB F id=ob:=⟨_,rfl⟩
  rw [hob] at FC ⊢
  have HL:=lh hl
  have HP:=lh (And.intro hn hp)
  have HI:=lh hid
  unfold vw at FC ⊢
  clear kv hw1 b1 m1 htb hid u0 G1 hb hb1 oq blt sb qb hu hob hl hn hp hQ
  clear hlm hbal
  go_enter Tryz.func126,Tryz.ntmps126
  go_wp2_with fail
  rw [show World.alloc w _=w1 from HW.out.1.symm,HW.out.2]
  refine FC.out.mono ?_
  rintro e w2 ⟨v,P1,N1,rfl,⟨rfl,rfl,_⟩,g2,_,m2⟩
  have B2:=lh (And.intro (m2.heap B1.out (fun x=>x (.inl rfl))) (m2.heap HB.out.1 (fun x=>x HB.out.2.1)))
  have G2:=lh (g2.less (N':=fun k=>k=tb) (fun k hk => .inl hk))
  have b3:=aF w2 (.cells #[.int .u64 n0,.int .u64 n1,.int .u64 n2,.int .u64 n3,.int .u64 n4,.int .u64 n5] 73)
  have m3:=(ae.refl ai w2).alloc (.cells #[.int .u64 n0,.int .u64 n1,.int .u64 n2,.int .u64 n3,.int .u64 n4,.int .u64 n5] 73)
  obtain⟨w3,hw3⟩:∃ w3,w3=w2.alloc (.cells #[.int .u64 n0,.int .u64 n1,.int .u64 n2,.int .u64 n3,.int .u64 n4,.int .u64 n5] 73):=⟨_,rfl⟩
  rw [← hw3] at b3 m3
  obtain⟨xb,hxb⟩:∃ xb,w2.heap.size=xb:=⟨_,rfl⟩
  rw [hxb] at b3
  have tlt:tb<xb:=by have:=lt_of_heap B2.out.1;omega
  have blt:bb<xb:=by have:=lt_of_heap B2.out.2;omega
  have H3:=lh (And.intro hw3 hxb)
  have G3:=lh (G2.out.grow bJ m3 (N':=fun k=>k=tb∨k=xb) (fun k hk=>hk.imp (fun x=>x) (fun x=>by
    subst x
    have:=lt_of_heap b3
    omega)))
  have B3:=lh (And.intro (m3.heap B2.out.1 (fun x=>x)) (And.intro (m3.heap B2.out.2 (fun x=>x)) b3))
  have NE:=lh (And.intro (show ¬ tb=xb from by omega) (show ¬ bb=xb from by omega))
  clear g2 m2 G2 B2 B1 FC m3 b3 hw3 hxb tlt blt
  unfold nsV
  simp only [List.map_cons,List.map_nil]
  cases ob with
  | false =>
    have DD:=lh (show kZ w S D w3 (bI sg F (n+2) (p+2)) from by
      obtain⟨S',D',a,b⟩:=G3.out.done
      exact⟨S',D',LE.out _ _ _ a,b⟩)
    clear G3 K LE
    go_wp2_with fail
    go_ret
    rw [← H3.out.1]
    exact⟨rfl,DD.out⟩
  | true =>
    have s2:=lh (fun W (g:GI w S D W (bI sg F (n+1) p) (fun k=>k=tb∨k=xb))=>uI (ks:=qk 12 id 0) g bJ K.out)
    have s3:=lh (fun W=>uH (w:=w) (w4:=W) (S:=S) (D:=D) (N:=fun k=>k=tb∨k=xb) (P:=bI sg F (n+1) p) (ks:=qk 12 id 0) (vs:=pF n0 n1 n2 n3 n4 bal) bJ (fun W' _=>yt (w:=W') HL.out))
    have s4:=lh (fun W=>uJ (w:=w) (w4:=W) (S:=S) (D:=D) (N:=fun k=>k=tb∨k=xb) (P:=bI sg F (n+1) p) (P':=bI sg (fV F (qk 12 id 0) (pF n0 n1 n2 n3 n4 bal)) (n+2) (p+2)) (ks:=qk 12 id 0) (vs:=pF n0 n1 n2 n3 n4 bal) (fun W' u v ou ov=>qI ou.rd ov.rd (fP (fun i hi => .inl (.inr hi))) (fP (fun i hi => .inr hi)) (by have:=HP.out;omega) (by have:=HP.out;omega)))
    clear K
    go_wp2_with fail
    rw [show World.alloc w2 _=w3 from H3.out.1.symm,H3.out.2]
    refine (Ns B3.out.2.2 B3.out.2.1).mono ?_
    rintro e w4 ⟨rfl,b4,m4⟩
    have G4:=lh (G3.out.turn bJ m4 (fun k hk => .inr hk))
    have B4:=lh (And.intro (m4.heap B3.out.1 NE.out.1) b4)
    clear b4 m4 G3 B3
    go_upto_region 4 with fail
    refine fM (d := .region 4 (aH 4 Tryz.f126) true) (by kernel_rfl) ?_
    refine RW.wp (qtU4 (fun b' m=>af (m.heap B4.out.1 (fun x=>x)) 0) (fun b' m=>af (m.heap B4.out.1 (fun x=>x)) 1) B4.out.2 (s2.out w4 G4.out) (s3.out w4) (s4.out w4) sJ sH ?_)
    intros
    rename_i w9 h9
    have DD:=lh h9.1.done
    clear h9 G4 B4 s2 s3 s4
    go_wp2
    go_ret
    exact⟨rfl,DD.out⟩
theorem qLess {id bal:Nat} (hid:bD id) (hbal:bD bal) (hn:n≤10000000000) (hp:p≤80000):GS Tryz.prog 48 #[.pointer (some ⟨sg,0,none⟩),.int .u64 ((id:Nat):Int),.int .u64 ((bal:Nat):Int)] w (bI sg F n p) Q (.bool (uB F id)) (bI sg (zD F id bal) (n+2) (p+2)):=GS.walk fun S D kv hQ=>by
 have b1:=aF w (.cells #[.int .u64 ((bal:Nat):Int)] 22)
 have m1:=(ae.refl ai w).alloc (.cells #[.int .u64 ((bal:Nat):Int)] 22)
 obtain⟨w1,hw1⟩:∃ w1,w1=w.alloc (.cells #[.int .u64 ((bal:Nat):Int)] 22):=⟨_,rfl⟩
 rw [← hw1] at b1 m1
 obtain⟨bb,hbb⟩:∃ bb,w.heap.size=bb:=⟨_,rfl⟩
 rw [hbb] at b1
 have G1:=lh ((GI.start kv).grow bJ m1 (N':=fun k=>k=bb) (fun k hk => .inr (by
  have h1:=lt_of_heap b1
  omega)))
 have B1:=lh b1
 have CT:=lh (fun W (m:ae ai w1 W)=>(G1.out.keep0 bJ m).calls (U6 (sg:=sg) (n:=n) (p:=p) hid hbal (m.heap B1.out (fun x=>x)) (.inl rfl) hn hp))
 have HW:=lh (And.intro hw1 hbb)
 have hmf:∀ (fn:Fn) (first cap:Array Value) (w:World),(Instr.makeFunc fn first cap).run Tryz.prog w = .ok (.func fn first cap) w:=fun _ _ _ _=>rfl
 clear kv b1 m1 hw1 hbb hid
 clear hbal
 go_enter Tryz.func48,Tryz.ntmps48
 go_wp2_with fail
 rw [show World.alloc w _=w1 from HW.out.1.symm,HW.out.2]
 refine (zG w1).mono ?_
 rintro e w2 ⟨rfl,m2⟩
 have C2:=lh (CT.out w2 m2)
 clear m2 CT
 go_wp2_with fail
 refine C2.out.mono ?_
 rintro e w3 ⟨rfl,g3,m3⟩
 have DD:=lh g3.done
 clear g3 m3 C2
 go_wp2
 go_ret
 exact⟨rfl,DD.out⟩
end
section
variable {w:World}{sg n p:Nat}{F:List aN}{Q:Nat→Prop}
theorem VE {id bb:Nat}{u:Value}{l:List Nat} (hid:bD id) (hb:w.heap[bb]?=some (.cells #[u] 75 (0,0))) (qb:Q bb) (d6:DN w u l) (q6:l=[]∨∀ k,u.ownBlock=some k→Q k) (hn:n≤10000000000) (hp:p≤80000):GS Tryz.prog 129 #[.pointer (some ⟨sg,0,none⟩),vG,.int .u64 ((id:Nat):Int),.func (.func 130) #[] #[.pointer (some ⟨bb,0,none⟩)]] w (bI sg F n p) Q (.bool (mB F id)) (bI sg (CQ F id l) (n+2) (p+2)):=GS.walk fun S D kv hQ=>by
  obtain⟨ua,uc,rfl,_⟩:=dP.form d6.rn
  have b1:=aF w (.cells #[.int .i64 13,.func (.func 187) #[] #[],.func (.func 188) #[] #[],.func (.func 189) #[] #[]] 186)
  have m1:=(ae.refl ai w).alloc (.cells #[.int .i64 13,.func (.func 187) #[] #[],.func (.func 188) #[] #[],.func (.func 189) #[] #[]] 186)
  obtain⟨w1,hw1⟩:∃ w1,w1=w.alloc (.cells #[.int .i64 13,.func (.func 187) #[] #[],.func (.func 188) #[] #[],.func (.func 189) #[] #[]] 186):=⟨_,rfl⟩
  rw [← hw1] at b1 m1
  obtain⟨tb,htb⟩:∃ tb,w.heap.size=tb:=⟨_,rfl⟩
  rw [htb] at b1
  have blt:=lt_of_heap hb
  have sb:=hQ bb qb
  have G1:=(GI.start kv).grow bJ m1 (N':=fun k=>k=tb) (fun k hk => .inr (by
    have h1:=lt_of_heap b1
    omega))
  have hb1:=m1.heap hb (fun x=>x)
  have oq:Out w S (fun k=>k=tb) bb := .inr ⟨blt,sb⟩
  have HW:=lh (And.intro hw1 htb)
  have B1:=lh b1
  have HB:=lh (And.intro hb1 (And.intro oq blt))
  have LE:=lh (fun W S' D'=>show bI sg F (n+1) p W S' D'→bI sg F (n+2) (p+2) W S' D' from fun h=>bI.more h (by omega) (by omega))
  have FC:=lh (G1.call (GG (sg:=sg) (Q:=Out w S (fun k=>k=tb)) hid (n:=n) (p:=p) (by omega) (by omega)))
  have u0:bD 0:=by unfold bD;omega
  have K:=lh (fun W=>gZ (kind:=13) (a:=id) (b:=0) W hid u0)
  obtain⟨n0,n1,n2,n3,n4,n5,lx,hu,hl,hlx,hlx2⟩:=Ik ((gQ F 13 id 0).getD [])
  have hu:mG F id=([n0,n1,n2,n3,n4,n5],lx):=hu
  unfold CQ
  rw [hu]
  unfold Hw at FC
  rw [hu] at FC
  have D1:=lh (And.intro (d6.keep m1) (And.intro q6 hQ))
  have D7:=lh d6.rn
  obtain⟨ob,hob⟩:∃ ob,mB F id=ob:=⟨_,rfl⟩
  rw [hob] at FC ⊢
  have HL:=lh hl
  have HP:=lh (And.intro hn hp)
  have HI:=lh hid
  unfold vG at FC ⊢
  clear kv hw1 b1 m1 htb hid u0 G1 hb hb1 oq blt sb qb hu hob hl hn hp hQ
  clear hlx hlx2 d6 q6
  go_enter Tryz.func129,Tryz.ntmps129
  go_wp2_with fail
  rw [show World.alloc w _=w1 from HW.out.1.symm,HW.out.2]
  refine FC.out.mono ?_
  rintro e w2 ⟨v,P1,N1,rfl,⟨k0,k1,k2,k3,k4,k5,u6,l6,rfl,hg,e6,rfl,rfl⟩,g2,fN,m2⟩
  simp only [Prod.mk.injEq,List.cons.injEq,and_true] at hg
  obtain⟨⟨rfl,rfl,rfl,rfl,rfl,rfl⟩,rfl⟩:=hg
  obtain⟨ad6,cp6,rfl,_⟩:=e6.form
  have B2:=lh (And.intro (m2.heap B1.out (fun x=>x (.inl rfl))) (m2.heap HB.out.1 (fun x=>x HB.out.2.1)))
  have G2:=lh (g2.less (N':=fun k=>k=tb) (fun k hk => .inl hk))
  have b3:=aF w2 (.cells #[.int .u64 n0,.int .u64 n1,.int .u64 n2,.int .u64 n3,.int .u64 n4,.int .u64 n5,.slice ad6 lx.length cp6] 77)
  have m3:=(ae.refl ai w2).alloc (.cells #[.int .u64 n0,.int .u64 n1,.int .u64 n2,.int .u64 n3,.int .u64 n4,.int .u64 n5,.slice ad6 lx.length cp6] 77)
  obtain⟨w3,hw3⟩:∃ w3,w3=w2.alloc (.cells #[.int .u64 n0,.int .u64 n1,.int .u64 n2,.int .u64 n3,.int .u64 n4,.int .u64 n5,.slice ad6 lx.length cp6] 77):=⟨_,rfl⟩
  rw [← hw3] at b3 m3
  obtain⟨xb,hxb⟩:∃ xb,w2.heap.size=xb:=⟨_,rfl⟩
  rw [hxb] at b3
  have tlt:tb<xb:=by have:=lt_of_heap B2.out.1;omega
  have blt:bb<xb:=by have:=lt_of_heap B2.out.2;omega
  have H3:=lh (And.intro hw3 hxb)
  have G3:=lh (G2.out.grow bJ m3 (N':=fun k=>k=tb∨k=xb) (fun k hk=>hk.imp (fun x=>x) (fun x=>by
    subst x
    have:=lt_of_heap b3
    omega)))
  have B3:=lh (And.intro (m3.heap B2.out.1 (fun x=>x)) (And.intro (m3.heap B2.out.2 (fun x=>x)) b3))
  have NE:=lh (And.intro (show ¬ tb=xb from by omega) (show ¬ bb=xb from by omega))
  clear g2 m2 G2 B2 B1 FC m3 b3 hw3 hxb tlt blt
  clear e6 fN
  cases ob with
  | false =>
    have DD:=lh (show kZ w S D w3 (bI sg F (n+2) (p+2)) from by
      obtain⟨S',D',a,b⟩:=G3.out.done
      exact⟨S',D',LE.out _ _ _ a,b⟩)
    clear G3 K LE
    go_wp2_with fail
    go_ret
    rw [← H3.out.1]
    exact⟨rfl,DD.out⟩
  | true =>
    have s2:=lh (fun W (g:GI w S D W (bI sg F (n+1) p) (fun k=>k=tb∨k=xb))=>uI (ks:=qk 13 id 0) g bJ K.out)
    have D6:=lh (fun W (g:GI w S D W (bI sg F (n+1) p) (fun k=>k=tb∨k=xb))=>show DN W (.slice ua l.length uc) l from⟨RN.keepW (D7.out) g.mods (D1.out.2.1.imp (fun x=>x) (fun h k hk=>D1.out.2.2 k (h k hk))),D1.out.1.lim,D1.out.1.len⟩)
    have s3:=lh (fun W (g:GI w S D W (bI sg F (n+1) p) (fun k=>k=tb∨k=xb))=>uH (w:=w) (w4:=W) (S:=S) (D:=D) (N:=fun k=>k=tb∨k=xb) (P:=bI sg F (n+1) p) (ks:=qk 13 id 0) (vs:=pq n0 n1 n2 n3 n4 n5 l) bJ (fun W' m'=>Fe (w:=W') HL.out ((D6.out W g).keep m')))
    have s4:=lh (fun W=>uJ (w:=w) (w4:=W) (S:=S) (D:=D) (N:=fun k=>k=tb∨k=xb) (P:=bI sg F (n+1) p) (P':=bI sg (fV F (qk 13 id 0) (pq n0 n1 n2 n3 n4 n5 l)) (n+2) (p+2)) (ks:=qk 13 id 0) (vs:=pq n0 n1 n2 n3 n4 n5 l) (fun W' u v ou ov=>qI ou.rd ov.rd (fP (fun i hi => .inl (.inr hi))) (fP (fun i hi => .inr hi)) (by have:=HP.out;omega) (by have:=HP.out;omega)))
    clear K
    go_wp2_with fail
    rw [show World.alloc w2 _=w3 from H3.out.1.symm,H3.out.2]
    refine (KF B3.out.2.2 B3.out.2.1).mono ?_
    rintro e w4 ⟨rfl,b4,m4⟩
    have G4:=lh (G3.out.turn bJ m4 (fun k hk => .inr hk))
    have B4:=lh (And.intro (m4.heap B3.out.1 NE.out.1) b4)
    clear b4 m4 G3 B3
    go_upto_region 4 with fail
    refine fM (d := .region 4 (aH 4 Tryz.f129) true) (by kernel_rfl) ?_
    refine RW.wp (qtM4 (fun b' m=>af (m.heap B4.out.1 (fun x=>x)) 0) (fun b' m=>af (m.heap B4.out.1 (fun x=>x)) 1) B4.out.2 (s2.out w4 G4.out) (s3.out w4 G4.out) (s4.out w4) sJ sH ?_)
    intros
    rename_i w9 h9
    have DD:=lh h9.1.done
    clear h9 G4 B4 s2 s3 s4
    go_wp2
    go_ret
    exact⟨rfl,DD.out⟩
theorem Vo {id:Nat}{u:Value}{l:List Nat} (hid:bD id) (d6:DN w u l) (q6:l=[]∨∀ k,u.ownBlock=some k→Q k) (hn:n≤10000000000) (hp:p≤80000):GS Tryz.prog 50 #[.pointer (some ⟨sg,0,none⟩),.int .u64 ((id:Nat):Int),.agg #[u]] w (bI sg F n p) Q (.bool (mB F id)) (bI sg (CQ F id l) (n+2) (p+2)):=GS.walk fun S D kv hQ=>by
 have b1:=aF w (.cells #[u] 75)
 have m1:=(ae.refl ai w).alloc (.cells #[u] 75)
 obtain⟨w1,hw1⟩:∃ w1,w1=w.alloc (.cells #[u] 75):=⟨_,rfl⟩
 rw [← hw1] at b1 m1
 obtain⟨bb,hbb⟩:∃ bb,w.heap.size=bb:=⟨_,rfl⟩
 rw [hbb] at b1
 have G1:=lh ((GI.start kv).grow bJ m1 (N':=fun k=>k=bb) (fun k hk => .inr (by
  have h1:=lt_of_heap b1
  omega)))
 have B1:=lh b1
 have O6:=lh (show l=[]∨∀ k,u.ownBlock=some k→Out w S (fun k=>k=bb) k from by
  rcases Nat.eq_zero_or_pos l.length with h0 | h0
  ·exact .inl (List.eq_nil_of_length_eq_zero h0)
  ·refine .inr (fun k hk => .inr ⟨dP.ltn d6.rn (by omega) k hk,?_⟩)
   rcases q6 with h | h
   ·rw [h] at h0;simp at h0
   ·exact hQ k (h k hk))
 have D1:=lh (d6.keep m1)
 have CT:=lh (fun W (m:ae ai w1 W)=>(G1.out.keep0 bJ m).calls (VE (sg:=sg) (n:=n) (p:=p) hid (m.heap B1.out (fun x=>x)) (.inl rfl) (D1.out.keep m) O6.out hn hp))
 have HW:=lh (And.intro hw1 hbb)
 have hmf:∀ (fn:Fn) (first cap:Array Value) (w:World),(Instr.makeFunc fn first cap).run Tryz.prog w = .ok (.func fn first cap) w:=fun _ _ _ _=>rfl
 clear kv b1 m1 hw1 hbb hid
 clear d6 q6
 go_enter Tryz.func50,Tryz.ntmps50
 go_wp2_with fail
 rw [show World.alloc w _=w1 from HW.out.1.symm,HW.out.2]
 refine (zA w1).mono ?_
 rintro e w2 ⟨rfl,m2⟩
 have C2:=lh (CT.out w2 m2)
 clear m2 CT
 go_wp2_with fail
 refine C2.out.mono ?_
 rintro e w3 ⟨rfl,g3,m3⟩
 have DD:=lh g3.done
 clear g3 m3 C2
 go_wp2
 go_ret
 exact⟨rfl,DD.out⟩
end
end Go.Proofs.YtglkmaalpammcaaGreat

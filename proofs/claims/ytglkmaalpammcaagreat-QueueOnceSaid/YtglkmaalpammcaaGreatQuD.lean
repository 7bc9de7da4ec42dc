/- queue: drops, Drop, as calls on a store (printed by gen_qud.py). -/
import Derived.Test.YtglkmaalpammcaaGreatQuF
set_option maxHeartbeats 64000000
namespace Go.Proofs.YtglkmaalpammcaaGreat
open Go.Gl Go.RowKit
set_option linter.unusedVariables false
set_option maxRecDepth 100000
def Cm (F:List aN) (id:Nat):List aN:=if uB F id then (match uG F id with
 | [n0,n1,_,n3,_,_]=>rX F 12 id n0 n1 n3
 | _=>F) else F
def CJ (F:List aN) (id:Nat):List aN:=if mB F id then (match (mG F id).1 with
 | [n0,n1,_,_,n4,_]=>rX F 13 id n0 n1 n4
 | _=>F) else F
def rU (F:List aN) (id:Nat) (kind:Int):Bool:=if kind=12 then uB F id else if kind=13 then mB F id else false
def qV (F:List aN) (id:Nat) (kind:Int):List aN:=if kind=12 then Cm F id else if kind=13 then CJ F id else F
section
variable {w:World}{sg n p:Nat}{F:List aN}{Q:Nat→Prop}
theorem UG {id:Nat} (hid:bD id) (hn:n≤10000000000) (hp:p≤80000):GS Tryz.prog 132 #[.pointer (some ⟨sg,0,none⟩),vw,.int .u64 ((id:Nat):Int)] w (bI sg F n p) Q (.bool (uB F id)) (bI sg (Cm F id) (n+6) (p+8)):=GS.walk fun S D kv hQ=>by
  have b1:=aF w (.cells #[.int .i64 12,.func (.func 184) #[] #[],.func (.func 185) #[] #[],.func (.func 186) #[] #[]] 179)
  have m1:=(ae.refl ai w).alloc (.cells #[.int .i64 12,.func (.func 184) #[] #[],.func (.func 185) #[] #[],.func (.func 186) #[] #[]] 179)
  obtain⟨w1,hw1⟩:∃ w1,w1=w.alloc (.cells #[.int .i64 12,.func (.func 184) #[] #[],.func (.func 185) #[] #[],.func (.func 186) #[] #[]] 179):=⟨_,rfl⟩
  rw [← hw1] at b1 m1
  obtain⟨tb,htb⟩:∃ tb,w.heap.size=tb:=⟨_,rfl⟩
  rw [htb] at b1
  have G1:=(GI.start kv).grow bJ m1 (N':=fun k=>k=tb) (fun k hk => .inr (by
    have h1:=lt_of_heap b1
    omega))
  have HW:=lh (And.intro hw1 htb)
  have B1:=lh b1
  have LE:=lh (fun (n' p':Nat) (F':List aN) W S' D' (h1:n'≤n+6) (h2:p'≤p+8)=>show bI sg F' n' p' W S' D'→bI sg F' (n+6) (p+8) W S' D' from fun h=>bI.more h h1 h2)
  have FC:=lh (G1.call (Gs (sg:=sg) (Q:=Out w S (fun k=>k=tb)) hid (n:=n) (p:=p) (by omega) (by omega)))
  have u0:bD 0:=by unfold bD;omega
  obtain⟨n0,n1,n2,n3,n4,n5,hu,hl⟩:=AC ((gQ F 12 id 0).getD [])
  have hu:uG F id=[n0,n1,n2,n3,n4,n5]:=hu
  unfold Cm
  rw [hu] at FC ⊢
  have uD:bD n0:=hl _ (by simp)
  have uV:bD n1:=hl _ (by simp)
  have uT:bD n3:=hl _ (by simp)
  obtain⟨ob,hob⟩:∃ ob,uB F id=ob:=⟨_,rfl⟩
  rw [hob] at FC ⊢
  obtain⟨F1,h1⟩:∃ F1,iC F (qk 12 id 0)=F1:=⟨_,rfl⟩
  obtain⟨F2,h2⟩:∃ F2,iC F1 (qk 14 n3 id)=F2:=⟨_,rfl⟩
  obtain⟨F3,h3⟩:∃ F3,iC F2 (qk 15 n1 id)=F3:=⟨_,rfl⟩
  obtain⟨c,hc⟩:∃ c,sN F3 n0 n1=c:=⟨_,rfl⟩
  have hc64:bD c:=by rw [← hc];exact zL _
  have FB:rX F 12 id n0 n1 n3=if 0<c then rD F3 n0 n1 (c - 1) else F3:=by unfold rX tZ;rw [h1,h2,h3,hc]
  have K1:=lh (fun W=>gZ (kind:=12) (a:=id) (b:=0) W hid u0)
  have K2:=lh (fun W=>gZ (kind:=14) (a:=n3) (b:=id) W uT hid)
  have K3:=lh (fun W=>gZ (kind:=15) (a:=n1) (b:=id) W uV hid)
  have D1:=lh (fun W k (g:GI w S D W (bI sg F (n+1) p) (fun j=>(j=tb∨j=tb)∨eY k j)) (o:Gl.Own W k (qk 12 id 0))=>h1▸g.calls (wu o.rd (fP (fun i hi => .inr hi)) (wF ..) (by omega) (by omega)))
  have D2:=lh (fun W k (g:GI w S D W (bI sg F1 (n+2) (p+2)) (fun j=>(j=tb∨j=tb)∨eY k j)) (o:Gl.Own W k (qk 14 n3 id))=>h2▸g.calls (wu o.rd (fP (fun i hi => .inr hi)) (wF ..) (by omega) (by omega)))
  have D3:=lh (fun W k (g:GI w S D W (bI sg F2 (n+3) (p+4)) (fun j=>(j=tb∨j=tb)∨eY k j)) (o:Gl.Own W k (qk 15 n1 id))=>h3▸g.calls (wu o.rd (fP (fun i hi => .inr hi)) (wF ..) (by omega) (by omega)))
  have CN:=lh (fun W (g:GI w S D W (bI sg F3 (n+4) (p+6)) (fun k=>k=tb))=>g.calls (vO (d:=n0) (v:=n1) uD uV (by omega) (by omega)))
  rw [hc] at CN
  have LC:=lh (fun W (g:GI w S D W (bI sg F3 (n+5) (p+6)) (fun k=>k=tb)) (h:0<c)=>g.calls (BP (d:=n0) (v:=n1) (m:=c - 1) uD uV (by unfold bD at *;omega) (by omega) (by omega)))
  have HC:=lh hc64
  have HFB:=lh FB
  unfold vw at FC ⊢
  clear kv hw1 b1 m1 htb hid u0 G1 hu hob hl hn hp hQ uD uV uT h1 h2 h3 hc hc64 FB
  go_enter Tryz.func132,Tryz.ntmps132
  go_wp2_with fail
  rw [show World.alloc w _=w1 from HW.out.1.symm,HW.out.2]
  refine FC.out.mono ?_
  rintro e w2 ⟨v,P1,N1,rfl,⟨rfl,rfl,_⟩,g2,_,m2⟩
  have b2:=m2.heap B1.out (fun x=>x (.inl rfl))
  have G2:=lh (g2.less (N':=fun k=>k=tb) (fun k hk => .inl hk))
  have b3:=aF w2 (.cells #[.int .u64 n0,.int .u64 n1,.int .u64 n2,.int .u64 n3,.int .u64 n4,.int .u64 n5] 73)
  have m3:=(ae.refl ai w2).alloc (.cells #[.int .u64 n0,.int .u64 n1,.int .u64 n2,.int .u64 n3,.int .u64 n4,.int .u64 n5] 73)
  obtain⟨w3,hw3⟩:∃ w3,w3=w2.alloc (.cells #[.int .u64 n0,.int .u64 n1,.int .u64 n2,.int .u64 n3,.int .u64 n4,.int .u64 n5] 73):=⟨_,rfl⟩
  rw [← hw3] at b3 m3
  obtain⟨xb,hxb⟩:∃ xb,w2.heap.size=xb:=⟨_,rfl⟩
  rw [hxb] at b3
  have H3:=lh (And.intro hw3 hxb)
  have G3:=lh (G2.out.keep0 bJ m3)
  have B3:=lh (And.intro (m3.heap b2 (fun x=>x)) b3)
  clear g2 m2 G2 B1 FC m3 b2 b3 hw3 hxb
  unfold nsV
  simp only [List.map_cons,List.map_nil]
  cases ob with
  | false =>
    have DD:=lh (show kZ w S D w3 (bI sg F (n+6) (p+8)) from by
      obtain⟨S',D',a,b⟩:=G3.out.done
      exact⟨S',D',LE.out _ _ _ _ _ _ (by omega) (by omega) a,b⟩)
    clear G3 K1 K2 K3 D1 D2 D3 CN LC LE
    go_wp2_with fail
    go_ret
    rw [← H3.out.1]
    exact⟨rfl,DD.out⟩
  | true =>
    go_upto_region 4 with fail
    rw [show World.alloc w2 _=w3 from H3.out.1.symm,H3.out.2]
    have c0:=af B3.out.1 0
    have c3:=af B3.out.1 3
    have x0:=af B3.out.2 0
    have x1:=af B3.out.2 1
    have x2:=af B3.out.2 2
    have x3:=af B3.out.2 3
    have x4:=af B3.out.2 4
    have x5:=af B3.out.2 5
    go_wp2_with fail
    refine (I9 w3).mono ?_
    rintro e w4 ⟨rfl,m4⟩
    have B4:=m4.heap B3.out.1 (fun x=>x)
    have G4:=lh (G3.out.keep0 bJ m4)
    clear m4 G3 B3 c0 c3 x0 x1 x2 x3 x4 x5
    have c4:=af B4 0
    go_wp2_with fail
    refine (K1.out w4).mono ?_
    rintro e w5 ⟨k1',rfl,o5,m5,f5⟩
    have CC:=lh (D1.out w5 k1' ((G4.out.own bJ m5 o5 f5).less (fun k hk=>hk.imp (fun x=>by rcases x with x | x <;> exact x) (fun x=>x))) o5)
    clear o5 m5 f5 G4 D1 K1 c4 B4
    go_wp2_with fail
    refine CC.out.mono ?_
    rintro e w6 ⟨rfl,g6,m6⟩
    have G6:=lh (g6.less (N':=fun k=>k=tb) (fun k hk => .inl (.inl hk)))
    clear g6 m6 CC
    go_wp2_with fail
    refine (K2.out w6).mono ?_
    rintro e w7 ⟨k2',rfl,o7,m7,f7⟩
    have CC:=lh (D2.out w7 k2' ((G6.out.own bJ m7 o7 f7).less (fun k hk=>hk.imp (fun x=>by rcases x with x | x <;> exact x) (fun x=>x))) o7)
    clear o7 m7 f7 G6 D2 K2
    go_wp2_with fail
    refine CC.out.mono ?_
    rintro e w8 ⟨rfl,g8,m8⟩
    have G8:=lh (g8.less (N':=fun k=>k=tb) (fun k hk => .inl (.inl hk)))
    clear g8 m8 CC
    go_wp2_with fail
    refine (K3.out w8).mono ?_
    rintro e w9 ⟨k3',rfl,o9,m9,f9⟩
    have CC:=lh (D3.out w9 k3' ((G8.out.own bJ m9 o9 f9).less (fun k hk=>hk.imp (fun x=>by rcases x with x | x <;> exact x) (fun x=>x))) o9)
    clear o9 m9 f9 G8 D3 K3
    go_wp2_with fail
    refine CC.out.mono ?_
    rintro e wa ⟨rfl,ga,ma⟩
    have Ga:=lh (ga.less (N':=fun k=>k=tb) (fun k hk => .inl (.inl hk)))
    clear ga ma CC
    go_wp2_with fail
    refine (CN.out wa Ga.out).mono ?_
    rintro e wb ⟨rfl,gb,mb⟩
    have Gb:=lh gb
    clear gb mb CN Ga
    by_cases h0:0<c
    · have hI:(0:Int)<(c:Int):=by omega
      obtain⟨c',hc'⟩:∃ c',c - 1=c':=⟨_,rfl⟩
      have t1:IntKind.u64.wrap ((c:Int) - 1)=(c':Int):=by rw [wrap_u64];have:=HC.out;unfold bD at this;omega
      have CC:=lh (LC.out wb Gb.out h0)
      have FF:=lh (show rX F 12 id n0 n1 n3=rD F3 n0 n1 c' from by rw [HFB.out,if_pos h0,hc'])
      rw [hc'] at CC
      clear LC Gb hc' h0
      go_wp2_with fail
      refine CC.out.mono ?_
      rintro e wc ⟨rfl,gc,mc⟩
      have DD:=lh gc.done
      clear gc mc CC
      go_wp2
      go_ret
      refine⟨rfl,?_⟩
      show kZ w S D wc (bI sg (rX F 12 id n0 n1 n3) (n+6) (p+8))
      rw [FF.out]
      exact DD.out
    · have hI:¬ (0:Int)<(c:Int):=by omega
      have DD:=lh (show kZ w S D wb (bI sg (rX F 12 id n0 n1 n3) (n+6) (p+8)) from by
        rw [HFB.out,if_neg h0]
        obtain⟨S',D',a,b⟩:=Gb.out.done
        exact⟨S',D',LE.out _ _ _ _ _ _ (by omega) (by omega) a,b⟩)
      clear LC Gb h0
      go_wp2
      go_ret
      exact⟨rfl,DD.out⟩
end
section
variable {w:World}{sg n p:Nat}{F:List aN}{Q:Nat→Prop}
theorem VB {id:Nat} (hid:bD id) (hn:n≤10000000000) (hp:p≤80000):GS Tryz.prog 133 #[.pointer (some ⟨sg,0,none⟩),vG,.int .u64 ((id:Nat):Int)] w (bI sg F n p) Q (.bool (mB F id)) (bI sg (CJ F id) (n+6) (p+8)):=GS.walk fun S D kv hQ=>by
  have b1:=aF w (.cells #[.int .i64 13,.func (.func 187) #[] #[],.func (.func 188) #[] #[],.func (.func 189) #[] #[]] 186)
  have m1:=(ae.refl ai w).alloc (.cells #[.int .i64 13,.func (.func 187) #[] #[],.func (.func 188) #[] #[],.func (.func 189) #[] #[]] 186)
  obtain⟨w1,hw1⟩:∃ w1,w1=w.alloc (.cells #[.int .i64 13,.func (.func 187) #[] #[],.func (.func 188) #[] #[],.func (.func 189) #[] #[]] 186):=⟨_,rfl⟩
  rw [← hw1] at b1 m1
  obtain⟨tb,htb⟩:∃ tb,w.heap.size=tb:=⟨_,rfl⟩
  rw [htb] at b1
  have G1:=(GI.start kv).grow bJ m1 (N':=fun k=>k=tb) (fun k hk => .inr (by
    have h1:=lt_of_heap b1
    omega))
  have HW:=lh (And.intro hw1 htb)
  have B1:=lh b1
  have LE:=lh (fun (n' p':Nat) (F':List aN) W S' D' (h1:n'≤n+6) (h2:p'≤p+8)=>show bI sg F' n' p' W S' D'→bI sg F' (n+6) (p+8) W S' D' from fun h=>bI.more h h1 h2)
  have FC:=lh (G1.call (GG (sg:=sg) (Q:=Out w S (fun k=>k=tb)) hid (n:=n) (p:=p) (by omega) (by omega)))
  have u0:bD 0:=by unfold bD;omega
  obtain⟨n0,n1,n2,n3,n4,n5,lx,hu,hl,hlx,hlx2⟩:=Ik ((gQ F 13 id 0).getD [])
  have hu:mG F id=([n0,n1,n2,n3,n4,n5],lx):=hu
  unfold CJ
  rw [hu]
  unfold Hw at FC
  rw [hu] at FC
  have uD:bD n0:=hl _ (by simp)
  have uV:bD n1:=hl _ (by simp)
  have uT:bD n4:=hl _ (by simp)
  obtain⟨ob,hob⟩:∃ ob,mB F id=ob:=⟨_,rfl⟩
  rw [hob] at FC ⊢
  obtain⟨F1,h1⟩:∃ F1,iC F (qk 13 id 0)=F1:=⟨_,rfl⟩
  obtain⟨F2,h2⟩:∃ F2,iC F1 (qk 14 n4 id)=F2:=⟨_,rfl⟩
  obtain⟨F3,h3⟩:∃ F3,iC F2 (qk 15 n1 id)=F3:=⟨_,rfl⟩
  obtain⟨c,hc⟩:∃ c,sN F3 n0 n1=c:=⟨_,rfl⟩
  have hc64:bD c:=by rw [← hc];exact zL _
  have FB:rX F 13 id n0 n1 n4=if 0<c then rD F3 n0 n1 (c - 1) else F3:=by unfold rX tZ;rw [h1,h2,h3,hc]
  have K1:=lh (fun W=>gZ (kind:=13) (a:=id) (b:=0) W hid u0)
  have K2:=lh (fun W=>gZ (kind:=14) (a:=n4) (b:=id) W uT hid)
  have K3:=lh (fun W=>gZ (kind:=15) (a:=n1) (b:=id) W uV hid)
  have D1:=lh (fun W k (g:GI w S D W (bI sg F (n+1) p) (fun j=>(j=tb∨j=tb)∨eY k j)) (o:Gl.Own W k (qk 13 id 0))=>h1▸g.calls (wu o.rd (fP (fun i hi => .inr hi)) (wF ..) (by omega) (by omega)))
  have D2:=lh (fun W k (g:GI w S D W (bI sg F1 (n+2) (p+2)) (fun j=>(j=tb∨j=tb)∨eY k j)) (o:Gl.Own W k (qk 14 n4 id))=>h2▸g.calls (wu o.rd (fP (fun i hi => .inr hi)) (wF ..) (by omega) (by omega)))
  have D3:=lh (fun W k (g:GI w S D W (bI sg F2 (n+3) (p+4)) (fun j=>(j=tb∨j=tb)∨eY k j)) (o:Gl.Own W k (qk 15 n1 id))=>h3▸g.calls (wu o.rd (fP (fun i hi => .inr hi)) (wF ..) (by omega) (by omega)))
  have CN:=lh (fun W (g:GI w S D W (bI sg F3 (n+4) (p+6)) (fun k=>k=tb))=>g.calls (vO (d:=n0) (v:=n1) uD uV (by omega) (by omega)))
  rw [hc] at CN
  have LC:=lh (fun W (g:GI w S D W (bI sg F3 (n+5) (p+6)) (fun k=>k=tb)) (h:0<c)=>g.calls (BP (d:=n0) (v:=n1) (m:=c - 1) uD uV (by unfold bD at *;omega) (by omega) (by omega)))
  have HC:=lh hc64
  have HFB:=lh FB
  unfold vG at FC ⊢
  clear kv hw1 b1 m1 htb hid u0 G1 hu hob hl hn hp hQ uD uV uT h1 h2 h3 hc hc64 FB
  clear hlx hlx2
  go_enter Tryz.func133,Tryz.ntmps133
  go_wp2_with fail
  rw [show World.alloc w _=w1 from HW.out.1.symm,HW.out.2]
  refine FC.out.mono ?_
  rintro e w2 ⟨v,P1,N1,rfl,⟨k0,k1,k2,k3,k4,k5,u6,l6,rfl,hg,e6,rfl,rfl⟩,g2,fN,m2⟩
  simp only [Prod.mk.injEq,List.cons.injEq,and_true] at hg
  obtain⟨⟨rfl,rfl,rfl,rfl,rfl,rfl⟩,rfl⟩:=hg
  obtain⟨ad6,cp6,rfl,_⟩:=e6.form
  have b2:=m2.heap B1.out (fun x=>x (.inl rfl))
  have G2:=lh (g2.less (N':=fun k=>k=tb) (fun k hk => .inl hk))
  have b3:=aF w2 (.cells #[.int .u64 n0,.int .u64 n1,.int .u64 n2,.int .u64 n3,.int .u64 n4,.int .u64 n5,.slice ad6 lx.length cp6] 77)
  have m3:=(ae.refl ai w2).alloc (.cells #[.int .u64 n0,.int .u64 n1,.int .u64 n2,.int .u64 n3,.int .u64 n4,.int .u64 n5,.slice ad6 lx.length cp6] 77)
  obtain⟨w3,hw3⟩:∃ w3,w3=w2.alloc (.cells #[.int .u64 n0,.int .u64 n1,.int .u64 n2,.int .u64 n3,.int .u64 n4,.int .u64 n5,.slice ad6 lx.length cp6] 77):=⟨_,rfl⟩
  rw [← hw3] at b3 m3
  obtain⟨xb,hxb⟩:∃ xb,w2.heap.size=xb:=⟨_,rfl⟩
  rw [hxb] at b3
  have H3:=lh (And.intro hw3 hxb)
  have G3:=lh (G2.out.keep0 bJ m3)
  have B3:=lh (And.intro (m3.heap b2 (fun x=>x)) b3)
  clear g2 m2 G2 B1 FC m3 b2 b3 hw3 hxb
  clear e6 fN
  cases ob with
  | false =>
    have DD:=lh (show kZ w S D w3 (bI sg F (n+6) (p+8)) from by
      obtain⟨S',D',a,b⟩:=G3.out.done
      exact⟨S',D',LE.out _ _ _ _ _ _ (by omega) (by omega) a,b⟩)
    clear G3 K1 K2 K3 D1 D2 D3 CN LC LE
    go_wp2_with fail
    go_ret
    rw [← H3.out.1]
    exact⟨rfl,DD.out⟩
  | true =>
    go_upto_region 4 with fail
    rw [show World.alloc w2 _=w3 from H3.out.1.symm,H3.out.2]
    have c0:=af B3.out.1 0
    have c3:=af B3.out.1 3
    have x0:=af B3.out.2 0
    have x1:=af B3.out.2 1
    have x2:=af B3.out.2 2
    have x3:=af B3.out.2 3
    have x4:=af B3.out.2 4
    have x5:=af B3.out.2 5
    have x6:=af B3.out.2 6
    go_wp2_with fail
    refine (Jh w3).mono ?_
    rintro e w4 ⟨rfl,m4⟩
    have B4:=m4.heap B3.out.1 (fun x=>x)
    have G4:=lh (G3.out.keep0 bJ m4)
    clear m4 G3 B3 c0 c3 x0 x1 x2 x3 x4 x5
    clear x6
    have c4:=af B4 0
    go_wp2_with fail
    refine (K1.out w4).mono ?_
    rintro e w5 ⟨k1',rfl,o5,m5,f5⟩
    have CC:=lh (D1.out w5 k1' ((G4.out.own bJ m5 o5 f5).less (fun k hk=>hk.imp (fun x=>by rcases x with x | x <;> exact x) (fun x=>x))) o5)
    clear o5 m5 f5 G4 D1 K1 c4 B4
    go_wp2_with fail
    refine CC.out.mono ?_
    rintro e w6 ⟨rfl,g6,m6⟩
    have G6:=lh (g6.less (N':=fun k=>k=tb) (fun k hk => .inl (.inl hk)))
    clear g6 m6 CC
    go_wp2_with fail
    refine (K2.out w6).mono ?_
    rintro e w7 ⟨k2',rfl,o7,m7,f7⟩
    have CC:=lh (D2.out w7 k2' ((G6.out.own bJ m7 o7 f7).less (fun k hk=>hk.imp (fun x=>by rcases x with x | x <;> exact x) (fun x=>x))) o7)
    clear o7 m7 f7 G6 D2 K2
    go_wp2_with fail
    refine CC.out.mono ?_
    rintro e w8 ⟨rfl,g8,m8⟩
    have G8:=lh (g8.less (N':=fun k=>k=tb) (fun k hk => .inl (.inl hk)))
    clear g8 m8 CC
    go_wp2_with fail
    refine (K3.out w8).mono ?_
    rintro e w9 ⟨k3',rfl,o9,m9,f9⟩
    have CC:=lh (D3.out w9 k3' ((G8.out.own bJ m9 o9 f9).less (fun k hk=>hk.imp (fun x=>by rcases x with x | x <;> exact x) (fun x=>x))) o9)
    clear o9 m9 f9 G8 D3 K3
    go_wp2_with fail
    refine CC.out.mono ?_
    rintro e wa ⟨rfl,ga,ma⟩
    have Ga:=lh (ga.less (N':=fun k=>k=tb) (fun k hk => .inl (.inl hk)))
    clear ga ma CC
    go_wp2_with fail
    refine (CN.out wa Ga.out).mono ?_
    rintro e wb ⟨rfl,gb,mb⟩
    have Gb:=lh gb
    clear gb mb CN Ga
    by_cases h0:0<c
    · have hI:(0:Int)<(c:Int):=by omega
      obtain⟨c',hc'⟩:∃ c',c - 1=c':=⟨_,rfl⟩
      have t1:IntKind.u64.wrap ((c:Int) - 1)=(c':Int):=by rw [wrap_u64];have:=HC.out;unfold bD at this;omega
      have CC:=lh (LC.out wb Gb.out h0)
      have FF:=lh (show rX F 13 id n0 n1 n4=rD F3 n0 n1 c' from by rw [HFB.out,if_pos h0,hc'])
      rw [hc'] at CC
      clear LC Gb hc' h0
      go_wp2_with fail
      refine CC.out.mono ?_
      rintro e wc ⟨rfl,gc,mc⟩
      have DD:=lh gc.done
      clear gc mc CC
      go_wp2
      go_ret
      refine⟨rfl,?_⟩
      show kZ w S D wc (bI sg (rX F 13 id n0 n1 n4) (n+6) (p+8))
      rw [FF.out]
      exact DD.out
    · have hI:¬ (0:Int)<(c:Int):=by omega
      have DD:=lh (show kZ w S D wb (bI sg (rX F 13 id n0 n1 n4) (n+6) (p+8)) from by
        rw [HFB.out,if_neg h0]
        obtain⟨S',D',a,b⟩:=Gb.out.done
        exact⟨S',D',LE.out _ _ _ _ _ _ (by omega) (by omega) a,b⟩)
      clear LC Gb h0
      go_wp2
      go_ret
      exact⟨rfl,DD.out⟩
end
section
variable {w:World}{sg n p:Nat}{F:List aN}{Q:Nat→Prop}
theorem LK {id:Nat}{kind:Int} (hid:bD id) (hn:n≤10000000000) (hp:p≤80000):GS Tryz.prog 52 #[.pointer (some ⟨sg,0,none⟩),.agg #[.int .u64 ((id:Nat):Int),.int .i64 kind]] w (bI sg F n p) Q (.bool (rU F id kind)) (bI sg (qV F id kind) (n+6) (p+8)):=GS.walk fun S D kv hQ=>by
 have b1:=aF w (.cells #[.int .u64 ((id:Nat):Int),.int .i64 kind] 86)
 have m1:=(ae.refl ai w).alloc (.cells #[.int .u64 ((id:Nat):Int),.int .i64 kind] 86)
 obtain⟨w1,hw1⟩:∃ w1,w1=w.alloc (.cells #[.int .u64 ((id:Nat):Int),.int .i64 kind] 86):=⟨_,rfl⟩
 rw [← hw1] at b1 m1
 have G1:=lh ((GI.start kv).keep0 bJ m1)
 have HW:=lh hw1
 have B1:=lh b1
 have CU:=lh (fun W (m:ae ai w1 W)=>(G1.out.keep0 bJ m).calls (UG (sg:=sg) (n:=n) (p:=p) hid hn hp))
 have CM:=lh (fun W (m:ae ai w1 W)=>(G1.out.keep0 bJ m).calls (VB (sg:=sg) (n:=n) (p:=p) hid hn hp))
 have D0:=lh (show kZ w S D w1 (bI sg F (n+6) (p+8)) from by
  obtain⟨S',D',a,b⟩:=G1.out.done
  exact⟨S',D',bI.more a (by omega) (by omega),b⟩)
 clear kv b1 m1 hw1 hid
 unfold rU qV
 by_cases h12:kind=12
 ·subst h12
  rw [if_pos rfl,if_pos rfl]
  clear CM D0
  go_enter Tryz.func52,Tryz.ntmps52
  go_upto_region 3 with fail
  rw [← HW.out]
  refine fM (d := .region 3 (aH 3 Tryz.f52) true) (by kernel_rfl) ?_
  refine RW.wp (qdrU (fun b' m=>af (m.heap B1.out (fun x=>x)) 0) (fun b' m=>(zG b').mono (fun e w' ⟨a,m'⟩=>⟨a,m.then0 m'⟩)) (fun b' m=>(CU.out b' m).mono (fun e w' ⟨a,g,_⟩=>show e=Ending.returned _∧kZ w S D w' _ from⟨a,g.done⟩)) ?_)
  intros
  rename_i w9 h9
  have DD:=lh h9
  clear h9 CU
  go_wp2
  go_ret
  exact⟨rfl,DD.out⟩
 ·rw [if_neg h12,if_neg h12]
  by_cases h13:kind=13
  ·subst h13
   rw [if_pos rfl,if_pos rfl]
   clear CU D0
   go_enter Tryz.func52,Tryz.ntmps52
   go_upto_region 5 with fail
   rw [← HW.out]
   refine fM (d := .region 5 (aH 5 Tryz.f52) true) (by kernel_rfl) ?_
   refine RW.wp (qdrM (fun b' m=>af (m.heap B1.out (fun x=>x)) 0) (fun b' m=>(zA b').mono (fun e w' ⟨a,m'⟩=>⟨a,m.then0 m'⟩)) (fun b' m=>(CM.out b' m).mono (fun e w' ⟨a,g,_⟩=>show e=Ending.returned _∧kZ w S D w' _ from⟨a,g.done⟩)) ?_)
   intros
   rename_i w9 h9
   have DD:=lh h9
   clear h9 CM
   go_wp2
   go_ret
   exact⟨rfl,DD.out⟩
  ·rw [if_neg h13,if_neg h13]
   clear CU CM
   go_enter Tryz.func52,Tryz.ntmps52
   go_wp2
   go_ret
   rw [← HW.out]
   exact⟨rfl,D0.out⟩
end
end Go.Proofs.YtglkmaalpammcaaGreat

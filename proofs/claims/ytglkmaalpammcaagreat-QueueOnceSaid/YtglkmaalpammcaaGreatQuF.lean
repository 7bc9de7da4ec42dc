/- queue: finds, Unbonding, Moving, as calls on a store (printed by gen_quf.py). -/
import Derived.Test.YtglkmaalpammcaaGreatQuB
set_option maxHeartbeats 64000000
namespace Go.Proofs.YtglkmaalpammcaaGreat
open Go.Gl Go.RowKit
set_option linter.unusedVariables false
set_option maxRecDepth 100000
def AZ (xs:List UInt8):List Nat:=(fC [0,0,0,0,0,0] xs).1.map (·.n)
def uOk (xs:List UInt8):Bool:=decide ((fC [0,0,0,0,0,0] xs).2=0)
def AX (xs:List UInt8):List Nat × List Nat:=match (fC [0,0,0,0,0,0,2] xs).1 with
 | [a,b,c,d,e,f,g]=>([a.n,b.n,c.n,d.n,e.n,f.n],g.ls)
 | _=>([],[])
def mOk (xs:List UInt8):Bool:=decide ((fC [0,0,0,0,0,0,2] xs).2=0)
def uG (F:List aN) (id:Nat):List Nat:=AZ ((gQ F 12 id 0).getD [])
def uB (F:List aN) (id:Nat):Bool:=(gQ F 12 id 0).isSome && uOk ((gQ F 12 id 0).getD [])
def mG (F:List aN) (id:Nat):List Nat × List Nat:=AX ((gQ F 13 id 0).getD [])
def mB (F:List aN) (id:Nat):Bool:=(gQ F 13 id 0).isSome && mOk ((gQ F 13 id 0).getD [])
def nsV (ps:List Nat):Value := .agg (ps.map (fun n => .int .u64 ((n:Nat):Int))).toArray
theorem PI:AZ []=[0,0,0,0,0,0]:=by decide
theorem Po:AX []=([0,0,0,0,0,0],[]):=by decide
theorem zo:(Tryz.prog.info? 73).map (·.size)=some 6:=by kernel_rfl
theorem AC (xs:List UInt8):∃ n0 n1 n2 n3 n4 n5:Nat,AZ xs=[n0,n1,n2,n3,n4,n5]∧gu [n0,n1,n2,n3,n4,n5]:=by
  obtain⟨⟨fs,e⟩,hr⟩:∃ q,fC [0,0,0,0,0,0] xs=q:=⟨_,rfl⟩
  have ho:=wQ (by simp) hr
  have h:=congrArg List.length ho.2
  unfold AZ
  rw [hr]
  simp only [List.length_map,List.length_cons,List.length_nil] at h
  match fs,h with
  | [a, b, c, d, e, f], _ =>
    have hf:=ho.1
    exact⟨_,_,_,_,_,_,rfl,fE (hf a (by simp)).n (fE (hf b (by simp)).n (fE (hf c (by simp)).n (fE (hf d (by simp)).n (fE (hf e (by simp)).n (fE (hf f (by simp)).n uh)))))⟩
theorem Ik (xs:List UInt8):∃ (n0 n1 n2 n3 n4 n5:Nat) (l:List Nat),AX xs=([n0,n1,n2,n3,n4,n5],l)∧gu [n0,n1,n2,n3,n4,n5]∧gu l∧l.length≤255:=by
  obtain⟨⟨fs,e⟩,hr⟩:∃ q,fC [0,0,0,0,0,0,2] xs=q:=⟨_,rfl⟩
  have ho:=wQ (by simp) hr
  have hs:=ML hr
  have h:=congrArg List.length ho.2
  unfold AX
  rw [hr]
  simp only [List.length_map,List.length_cons,List.length_nil] at h
  match fs,h with
  | [a, b, c, d, e, f, g], _ =>
    have hf:=ho.1
    exact⟨_,_,_,_,_,_,_,rfl,fE (hf a (by simp)).n (fE (hf b (by simp)).n (fE (hf c (by simp)).n (fE (hf d (by simp)).n (fE (hf e (by simp)).n (fE (hf f (by simp)).n uh))))),(hf g (by simp)).ls,hs g (by simp)⟩
theorem gi_rn {w w1 w2:World}{S D N:Nat→Prop}{P:FP}{u:Value}{l:List Nat} (h:GI w S D w1 P N) (f:gK P) (m:ae ai w1 w2) (r:RN w2 u l) (fr:aG w1 u):GI w S D w2 P (fun k=>N k∨(l≠[]∧u.ownBlock=some k)):=h.grow f m (fun k hk=>hk.imp id (fun x=>⟨fr k x.2,dP.ltn r (fun h=>x.1 (List.eq_nil_of_length_eq_zero h)) k x.2⟩))
theorem RD {prog:Program}{f:FuncId}{args:Array Value}{w:World}{P:FP}{Q:Nat→Prop}{R:World→Value→FP→(Nat→Prop)→Prop} (h:∀ S D,P w S D→(∀ k,Q k→¬ S k)→Calls prog f args w fun e w'=>∃ v P' N,e = .returned v∧R w' v P' N∧GI w S D w' P' N):GC prog f args w P Q R:=fun S D p hq=>(h S D p hq).mono (fun e w' ⟨v,P',N,he,hR,S',D',p',m,s,d,n⟩=>⟨v,P',N,he,hR,S',D',p',m,s,d,n⟩)
section
variable {w:World}{sg n p:Nat}{F:List aN}{Q:Nat→Prop}
theorem Gs {id:Nat} (hid:bD id) (hn:n≤1000000000000) (hp:p≤100000):GS Tryz.prog 140 #[.pointer (some ⟨sg,0,none⟩),vw,.int .u64 ((id:Nat):Int)] w (bI sg F n p) Q (.tuple #[nsV (uG F id),.bool (uB F id)]) (bI sg F (n+1) p):=GS.walk fun S D kv hQ=>by
  have VL:=lh (show ((gQ F 12 id 0).getD []).length≤1000000 from by
    obtain⟨m,q,_,_,kv⟩:=kv
    cases hg:gQ F 12 id 0 with
    | none=>simp
    | some v=>exact KV.vlen kv hg)
  have b1:=aF w (.cells #[.int .i64 12,.func (.func 184) #[] #[],.func (.func 185) #[] #[],.func (.func 186) #[] #[]] 179)
  have m1:=(ae.refl ai w).alloc (.cells #[.int .i64 12,.func (.func 184) #[] #[],.func (.func 185) #[] #[],.func (.func 186) #[] #[]] 179)
  obtain⟨w1,hw1⟩:∃ w1,w1=w.alloc (.cells #[.int .i64 12,.func (.func 184) #[] #[],.func (.func 185) #[] #[],.func (.func 186) #[] #[]] 179):=⟨_,rfl⟩
  rw [← hw1] at b1 m1
  have b2:=aF w1 (.cells #[.int .u64 0,.int .u64 0,.int .u64 0,.int .u64 0,.int .u64 0,.int .u64 0] 73)
  have m12:=(ae.refl ai w1).alloc (.cells #[.int .u64 0,.int .u64 0,.int .u64 0,.int .u64 0,.int .u64 0,.int .u64 0] 73)
  obtain⟨w2,hw2⟩:∃ w2,w2=w1.alloc (.cells #[.int .u64 0,.int .u64 0,.int .u64 0,.int .u64 0,.int .u64 0,.int .u64 0] 73):=⟨_,rfl⟩
  rw [← hw2] at b2 m12
  have b12:=m12.heap b1 (fun x=>x)
  have m2:=m1.then0 m12
  obtain⟨tb,htb⟩:∃ tb,w.heap.size=tb:=⟨_,rfl⟩
  obtain⟨rb,hrb⟩:∃ rb,w1.heap.size=rb:=⟨_,rfl⟩
  rw [htb] at b1 b12
  rw [hrb] at b2
  have hx1:tb<rb:=by have:=lt_of_heap b1;omega
  have G2:=lh ((GI.start kv).grow bJ m2 (N':=fun k=>k=tb∨k=rb) (fun k hk => .inr (by
    have h1:=lt_of_heap b12
    have h2:=lt_of_heap b2
    have h3:=m1.size
    rcases hk with rfl | rfl <;> omega)))
  have u0:bD 0:=by unfold bD;omega
  have K:=lh (fun W=>gZ (kind:=12) (a:=id) (b:=0) W hid u0)
  have CG:=lh (fun W N (gi:GI w S D W (bI sg F n p) N) k (o:Gl.Own W k (qk 12 id 0)) (hk:∀ i,eY k i→N i)=>gi.callo (Bh o.rd (fP hk) hn hp))
  have HW:=lh (And.intro hw1 hw2)
  have HT:=lh (And.intro htb (show tb+1=rb from by rw [← hrb,hw1,← htb];simp))
  have BB:=lh (And.intro b12 b2)
  unfold vw
  unfold uG uB
  obtain⟨ox,hox⟩:∃ ox,gQ F 12 id 0=ox:=⟨_,rfl⟩
  rw [show gz F (qk 12 id 0)=ox from hox] at CG
  rw [hox] at VL ⊢
  clear kv hw1 hw2 b1 b2 b12 m1 m2 m12 htb hrb hid u0 hn hp hox
  cases ox with
  | none =>
    simp only [Option.getD_none,Option.isSome_none,Bool.false_and] at CG VL ⊢
    rw [PI]
    go_enter Tryz.func140,Tryz.ntmps140
    go_wp2_with fail
    rw [show World.alloc w _=w1 from HW.out.1.symm,show World.alloc w1 _=w2 from HW.out.2.symm,HT.out.1,HT.out.2]
    refine (K.out w2).mono ?_
    rintro e w3 ⟨k,rfl,o3,m3,f3⟩
    have B3:=lh (And.intro (m3.heap BB.out.1 (fun x=>x)) (m3.heap BB.out.2 (fun x=>x)))
    have C:=lh (CG.out _ _ (G2.out.own bJ m3 o3 f3) k o3 (fun i hi => .inr hi))
    clear o3 m3 f3 G2 CG BB
    go_wp2_with fail
    refine C.out.mono ?_
    rintro e w4 ⟨b,rfl,o4,f4,g4,m4⟩
    have B4:=m4.heap B3.out.2 (fun x=>x (.inl (.inl (.inr rfl))))
    have G4:=lh (g4.less (N':=fun k=>k=rb) (fun k hk => .inl (.inl (.inr hk))))
    clear C o4 f4 g4 m4 B3
    obtain⟨w5,hw5⟩:∃ w5,w5=w4.alloc (.cells #[.int .u64 0,.int .u64 0,.int .u64 0,.int .u64 0,.int .u64 0,.int .u64 0] 73):=⟨_,rfl⟩
    have m5:ae ai w4 w5:=by rw [hw5];exact (ae.refl _ _).alloc _
    have B5:=m5.heap B4 (fun x=>x)
    have G5:=lh (G4.out.keep0 bJ m5)
    clear m5 G4 B4
    go_wp2_with (rw [← hw5];refine dm rfl rfl B5 rfl rfl zo rfl rfl ?_;intro w11 q1 q2 q3;have c11:=af q1)
    refine bodyPost_ret (by simp [results,Tryz.results140,go_sem,c11];try rfl) rfl ?_
    exact⟨rfl,(G5.out.turn bJ q2 (fun k hk=>hk)).done⟩
  | some ov =>
    simp only [Option.getD_some,Option.isSome_some,Bool.true_and] at CG VL ⊢
    go_enter Tryz.func140,Tryz.ntmps140
    go_wp2_with fail
    rw [show World.alloc w _=w1 from HW.out.1.symm,show World.alloc w1 _=w2 from HW.out.2.symm,HT.out.1,HT.out.2]
    refine (K.out w2).mono ?_
    rintro e w3 ⟨k,rfl,o3,m3,f3⟩
    have B3:=lh (And.intro (m3.heap BB.out.1 (fun x=>x)) (m3.heap BB.out.2 (fun x=>x)))
    have C:=lh (CG.out _ _ (G2.out.own bJ m3 o3 f3) k o3 (fun i hi => .inr hi))
    clear o3 m3 f3 G2 CG BB
    go_wp2_with fail
    refine C.out.mono ?_
    rintro e w4 ⟨b,rfl,o4,f4,g4,m4⟩
    have B4:=lh (And.intro (m4.heap B3.out.1 (fun x=>x (.inl (.inl (.inl rfl))))) (m4.heap B3.out.2 (fun x=>x (.inl (.inl (.inr rfl))))))
    have c4:=af B4.out.1 2
    have G4:=lh (g4.less (N':=fun k=>k=rb) (fun k hk => .inl (.inl (.inr hk))))
    have A:=lh (EN o4.rd VL.out)
    clear C o4 f4 g4 m4 B3
    go_wp2_with fail
    refine A.out.mono ?_
    rintro e w5 ⟨n0,n1,n2,n3,n4,n5,er,rfl,hg,m5⟩
    have G5:=lh (G4.out.keep0 bJ m5)
    have B5:=m5.heap B4.out.2 (fun x=>x)
    have TW:=lh hg
    obtain⟨w6,hw6⟩:∃ w6,w6=w5.alloc (.cells #[.int .u64 n0,.int .u64 n1,.int .u64 n2,.int .u64 n3,.int .u64 n4,.int .u64 n5] 73):=⟨_,rfl⟩
    have m6:ae ai w5 w6:=by rw [hw6];exact (ae.refl _ _).alloc _
    have B6:=m6.heap B5 (fun x=>x)
    have G6:=lh (G5.out.keep0 bJ m6)
    clear A hg m5 m6 G4 G5 B4 B5 c4
    go_wp2_with (rw [← hw6];refine dm rfl rfl B6 rfl rfl zo rfl rfl ?_;intro w11 q1 q2 q3;have c11:=af q1)
    refine bodyPost_ret (by simp [results,Tryz.results140,go_sem,c11];try rfl) rfl ?_
    refine⟨?_,(G6.out.turn bJ q2 (fun k hk=>hk)).done⟩
    have e1:AZ ov=[n0,n1,n2,n3,n4,n5]:=by unfold AZ;rw [TW.out];rfl
    have e2:uOk ov=decide ((er:Int)=0):=by unfold uOk;rw [TW.out];simp only [decide_eq_decide];omega
    rw [e1,e2]
    rfl
end
section
variable {w:World}{sg n p:Nat}{F:List aN}{Q:Nat→Prop}
def Hw (F:List aN) (id sg n p:Nat) (w':World) (v:Value) (P':FP) (N:Nat→Prop):Prop:=∃ (n0 n1 n2 n3 n4 n5:Nat) (u6:Value) (l6:List Nat),v = .tuple #[.agg #[.int .u64 n0,.int .u64 n1,.int .u64 n2,.int .u64 n3,.int .u64 n4,.int .u64 n5,u6],.bool (mB F id)]∧mG F id=([n0,n1,n2,n3,n4,n5],l6)∧RN w' u6 l6∧P'=bI sg F (n+1) p∧N=fun k=>l6≠[]∧u6.ownBlock=some k
theorem GG {id:Nat} (hid:bD id) (hn:n≤1000000000000) (hp:p≤100000):GC Tryz.prog 141 #[.pointer (some ⟨sg,0,none⟩),vG,.int .u64 ((id:Nat):Int)] w (bI sg F n p) Q (Hw F id sg n p):=RD fun S D kv hQ=>by
  have VL:=lh (show ((gQ F 13 id 0).getD []).length≤1000000 from by
    obtain⟨m,q,_,_,kv⟩:=kv
    cases hg:gQ F 13 id 0 with
    | none=>simp
    | some v=>exact KV.vlen kv hg)
  have b1:=aF w (.cells #[.int .i64 13,.func (.func 187) #[] #[],.func (.func 188) #[] #[],.func (.func 189) #[] #[]] 186)
  have m1:=(ae.refl ai w).alloc (.cells #[.int .i64 13,.func (.func 187) #[] #[],.func (.func 188) #[] #[],.func (.func 189) #[] #[]] 186)
  obtain⟨w1,hw1⟩:∃ w1,w1=w.alloc (.cells #[.int .i64 13,.func (.func 187) #[] #[],.func (.func 188) #[] #[],.func (.func 189) #[] #[]] 186):=⟨_,rfl⟩
  rw [← hw1] at b1 m1
  have b2:=aF w1 (.cells #[.int .u64 0,.int .u64 0,.int .u64 0,.int .u64 0,.int .u64 0,.int .u64 0,.slice none 0 0] 77)
  have m12:=(ae.refl ai w1).alloc (.cells #[.int .u64 0,.int .u64 0,.int .u64 0,.int .u64 0,.int .u64 0,.int .u64 0,.slice none 0 0] 77)
  obtain⟨w2,hw2⟩:∃ w2,w2=w1.alloc (.cells #[.int .u64 0,.int .u64 0,.int .u64 0,.int .u64 0,.int .u64 0,.int .u64 0,.slice none 0 0] 77):=⟨_,rfl⟩
  rw [← hw2] at b2 m12
  have b12:=m12.heap b1 (fun x=>x)
  have m2:=m1.then0 m12
  obtain⟨tb,htb⟩:∃ tb,w.heap.size=tb:=⟨_,rfl⟩
  obtain⟨rb,hrb⟩:∃ rb,w1.heap.size=rb:=⟨_,rfl⟩
  rw [htb] at b1 b12
  rw [hrb] at b2
  have hx1:tb<rb:=by have:=lt_of_heap b1;omega
  have G2:=lh ((GI.start kv).grow bJ m2 (N':=fun k=>k=tb∨k=rb) (fun k hk => .inr (by
    have h1:=lt_of_heap b12
    have h2:=lt_of_heap b2
    have h3:=m1.size
    rcases hk with rfl | rfl <;> omega)))
  have u0:bD 0:=by unfold bD;omega
  have K:=lh (fun W=>gZ (kind:=13) (a:=id) (b:=0) W hid u0)
  have CG:=lh (fun W N (gi:GI w S D W (bI sg F n p) N) k (o:Gl.Own W k (qk 13 id 0)) (hk:∀ i,eY k i→N i)=>gi.callo (Bh o.rd (fP hk) hn hp))
  have HW:=lh (And.intro hw1 hw2)
  have HT:=lh (And.intro htb (show tb+1=rb from by rw [← hrb,hw1,← htb];simp))
  have BB:=lh (And.intro b12 b2)
  unfold vG
  unfold Hw mG mB
  obtain⟨ox,hox⟩:∃ ox,gQ F 13 id 0=ox:=⟨_,rfl⟩
  rw [show gz F (qk 13 id 0)=ox from hox] at CG
  rw [hox] at VL ⊢
  clear kv hw1 hw2 b1 b2 b12 m1 m2 m12 htb hrb hid u0 hn hp hox
  cases ox with
  | none =>
    simp only [Option.getD_none,Option.isSome_none,Bool.false_and] at CG VL ⊢
    rw [Po]
    go_enter Tryz.func141,Tryz.ntmps141
    go_wp2_with fail
    rw [show World.alloc w _=w1 from HW.out.1.symm,show World.alloc w1 _=w2 from HW.out.2.symm,HT.out.1,HT.out.2]
    refine (K.out w2).mono ?_
    rintro e w3 ⟨k,rfl,o3,m3,f3⟩
    have B3:=lh (And.intro (m3.heap BB.out.1 (fun x=>x)) (m3.heap BB.out.2 (fun x=>x)))
    have C:=lh (CG.out _ _ (G2.out.own bJ m3 o3 f3) k o3 (fun i hi => .inr hi))
    clear o3 m3 f3 G2 CG BB
    go_wp2_with fail
    refine C.out.mono ?_
    rintro e w4 ⟨b,rfl,o4,f4,g4,m4⟩
    have B4:=m4.heap B3.out.2 (fun x=>x (.inl (.inl (.inr rfl))))
    have G4:=lh (g4.less (N':=fun k=>k=rb) (fun k hk => .inl (.inl (.inr hk))))
    clear C o4 f4 g4 m4 B3
    obtain⟨w5,hw5⟩:∃ w5,w5=w4.alloc (.cells #[.int .u64 0,.int .u64 0,.int .u64 0,.int .u64 0,.int .u64 0,.int .u64 0,.slice none 0 0] 77):=⟨_,rfl⟩
    have m5:ae ai w4 w5:=by rw [hw5];exact (ae.refl _ _).alloc _
    have B5:=m5.heap B4 (fun x=>x)
    have G5:=lh (G4.out.keep0 bJ m5)
    clear m5 G4 B4
    go_wp2_with (rw [← hw5];refine dm rfl rfl B5 rfl rfl move_size rfl rfl ?_;intro w11 q1 q2 q3;have c11:=af q1)
    refine bodyPost_ret (by simp [results,Tryz.results141,go_sem,c11];try rfl) rfl ?_
    exact⟨_,_,_,rfl,⟨0,0,0,0,0,0,.slice none 0 0,[],rfl,rfl,dP.nil _ _,rfl,rfl⟩,(G5.out.turn bJ q2 (fun k hk=>hk)).less (fun k hk=>absurd rfl hk.1)⟩
  | some ov =>
    simp only [Option.getD_some,Option.isSome_some,Bool.true_and] at CG VL ⊢
    go_enter Tryz.func141,Tryz.ntmps141
    go_wp2_with fail
    rw [show World.alloc w _=w1 from HW.out.1.symm,show World.alloc w1 _=w2 from HW.out.2.symm,HT.out.1,HT.out.2]
    refine (K.out w2).mono ?_
    rintro e w3 ⟨k,rfl,o3,m3,f3⟩
    have B3:=lh (And.intro (m3.heap BB.out.1 (fun x=>x)) (m3.heap BB.out.2 (fun x=>x)))
    have C:=lh (CG.out _ _ (G2.out.own bJ m3 o3 f3) k o3 (fun i hi => .inr hi))
    clear o3 m3 f3 G2 CG BB
    go_wp2_with fail
    refine C.out.mono ?_
    rintro e w4 ⟨b,rfl,o4,f4,g4,m4⟩
    have B4:=lh (And.intro (m4.heap B3.out.1 (fun x=>x (.inl (.inl (.inl rfl))))) (m4.heap B3.out.2 (fun x=>x (.inl (.inl (.inr rfl))))))
    have c4:=af B4.out.1 2
    have G4:=lh (g4.less (N':=fun k=>k=rb) (fun k hk => .inl (.inl (.inr hk))))
    have A:=lh (QD o4.rd VL.out)
    clear C o4 f4 g4 m4 B3
    go_wp2_with fail
    refine A.out.mono ?_
    rintro e w5 ⟨n0,n1,n2,n3,n4,n5,u6,l6,er,rfl,hg,m5,e6,f6⟩
    obtain⟨ad6,cp6,rfl,_⟩:=e6.form
    have G5:=lh (gi_rn G4.out bJ m5 e6 f6)
    have E6:=lh (And.intro e6 (And.intro f6 m5.size))
    have B5:=m5.heap B4.out.2 (fun x=>x)
    have TW:=lh hg
    obtain⟨w6,hw6⟩:∃ w6,w6=w5.alloc (.cells #[.int .u64 n0,.int .u64 n1,.int .u64 n2,.int .u64 n3,.int .u64 n4,.int .u64 n5,.slice ad6 l6.length cp6] 77):=⟨_,rfl⟩
    have m6:ae ai w5 w6:=by rw [hw6];exact (ae.refl _ _).alloc _
    have B6:=m6.heap B5 (fun x=>x)
    have G6:=lh (G5.out.keep0 bJ m6)
    have R6:=lh (dP.keep e6 m6 (fun _ _ x=>x))
    have LT:=lh (lt_of_heap B4.out.2)
    clear A hg m5 m6 G4 G5 B4 B5 c4
    clear e6 f6
    go_wp2_with (rw [← hw6];refine dm rfl rfl B6 rfl rfl move_size rfl rfl ?_;intro w11 q1 q2 q3;have c11:=af q1)
    refine bodyPost_ret (by simp [results,Tryz.results141,go_sem,c11];try rfl) rfl ?_
    have e1:AX ov=([n0,n1,n2,n3,n4,n5],l6):=by unfold AX;rw [TW.out]
    have e2:mOk ov=decide ((er:Int)=0):=by unfold mOk;rw [TW.out];simp only [decide_eq_decide];omega
    rw [e1,e2]
    exact⟨_,_,_,rfl,⟨n0,n1,n2,n3,n4,n5,_,l6,rfl,rfl,dP.keep R6.out q2 (fun k hk e=>by have:=E6.out.2.1 k hk;have:=LT.out;omega),rfl,rfl⟩,(G6.out.turn bJ q2 (fun k hk => .inl hk)).less (fun k hk => .inr hk)⟩
end
section
variable {w:World}{sg n p:Nat}{F:List aN}{Q:Nat→Prop}
theorem Ls {id:Nat} (hid:bD id) (hn:n≤1000000000000) (hp:p≤100000):GS Tryz.prog 57 #[.pointer (some ⟨sg,0,none⟩),.int .u64 ((id:Nat):Int)] w (bI sg F n p) Q (.tuple #[nsV (uG F id),.bool (uB F id)]) (bI sg F (n+1) p):=GS.walk fun S D kv hQ=>by
 have b1:=aF w (.cells #[.int .u64 0,.int .u64 0,.int .u64 0,.int .u64 0,.int .u64 0,.int .u64 0] 73)
 have m1:=(ae.refl ai w).alloc (.cells #[.int .u64 0,.int .u64 0,.int .u64 0,.int .u64 0,.int .u64 0,.int .u64 0] 73)
 obtain⟨w1,hw1⟩:∃ w1,w1=w.alloc (.cells #[.int .u64 0,.int .u64 0,.int .u64 0,.int .u64 0,.int .u64 0,.int .u64 0] 73):=⟨_,rfl⟩
 rw [← hw1] at b1 m1
 obtain⟨rb,hrb⟩:∃ rb,w.heap.size=rb:=⟨_,rfl⟩
 rw [hrb] at b1
 have G1:=(GI.start kv).grow bJ m1 (N':=fun k=>k=rb) (fun k hk => .inr (by
  have h1:=lt_of_heap b1
  omega))
 have HW:=lh (And.intro hw1 hrb)
 have B1:=lh b1
 have C:=lh (fun W (m:ae ai w1 W)=>(G1.keep0 bJ m).call (Gs (sg:=sg) (Q:=Out w S (fun k=>k=rb)) hid hn hp))
 obtain⟨n0,n1,n2,n3,n4,n5,hu,_⟩:=AC ((gQ F 12 id 0).getD [])
 have hu:uG F id=[n0,n1,n2,n3,n4,n5]:=hu
 rw [hu] at C ⊢
 obtain⟨ob,hob⟩:∃ ob,uB F id=ob:=⟨_,rfl⟩
 rw [hob] at C ⊢
 clear kv hw1 b1 m1 hrb G1
 go_enter Tryz.func57,Tryz.ntmps57
 go_wp2_with fail
 rw [show World.alloc w _=w1 from HW.out.1.symm,HW.out.2]
 refine (zG w1).mono ?_
 rintro e w2 ⟨rfl,m2⟩
 have B2:=lh (m2.heap B1.out (fun x=>x))
 have C2:=lh (C.out w2 m2)
 clear m2 C B1
 go_wp2_with fail
 refine C2.out.mono ?_
 rintro e w3 ⟨v,P1,N1,rfl,⟨rfl,rfl,_⟩,g3,_,m3⟩
 have B3:=m3.heap B2.out (fun x=>x (.inl rfl))
 have G3:=lh (g3.less (N':=fun k=>k=rb) (fun k hk => .inl hk))
 clear g3 m3 C2 B2
 unfold nsV
 simp only [List.map_cons,List.map_nil]
 go_wp2_with (refine dm rfl rfl B3 rfl rfl zo rfl rfl ?_;intro w11 q1 q2 q3;have c11:=af q1)
 refine bodyPost_ret (by simp [results,Tryz.results57,go_sem,c11];try rfl) rfl ?_
 exact⟨rfl,(G3.out.turn bJ q2 (fun k hk=>hk)).done⟩
end
section
variable {w:World}{sg n p:Nat}{F:List aN}{Q:Nat→Prop}
theorem Um {id:Nat} (hid:bD id) (hn:n≤1000000000000) (hp:p≤100000):GC Tryz.prog 58 #[.pointer (some ⟨sg,0,none⟩),.int .u64 ((id:Nat):Int)] w (bI sg F n p) Q (Hw F id sg n p):=RD fun S D kv hQ=>by
 have b1:=aF w (.cells #[.int .u64 0,.int .u64 0,.int .u64 0,.int .u64 0,.int .u64 0,.int .u64 0,.slice none 0 0] 77)
 have m1:=(ae.refl ai w).alloc (.cells #[.int .u64 0,.int .u64 0,.int .u64 0,.int .u64 0,.int .u64 0,.int .u64 0,.slice none 0 0] 77)
 obtain⟨w1,hw1⟩:∃ w1,w1=w.alloc (.cells #[.int .u64 0,.int .u64 0,.int .u64 0,.int .u64 0,.int .u64 0,.int .u64 0,.slice none 0 0] 77):=⟨_,rfl⟩
 rw [← hw1] at b1 m1
 obtain⟨rb,hrb⟩:∃ rb,w.heap.size=rb:=⟨_,rfl⟩
 rw [hrb] at b1
 have G1:=(GI.start kv).grow bJ m1 (N':=fun k=>k=rb) (fun k hk => .inr (by
  have h1:=lt_of_heap b1
  omega))
 have HW:=lh (And.intro hw1 hrb)
 have B1:=lh b1
 have C:=lh (fun W (m:ae ai w1 W)=>(G1.keep0 bJ m).call (GG (sg:=sg) (Q:=Out w S (fun k=>k=rb)) hid hn hp))
 clear kv hw1 b1 m1 hrb G1
 go_enter Tryz.func58,Tryz.ntmps58
 go_wp2_with fail
 rw [show World.alloc w _=w1 from HW.out.1.symm,HW.out.2]
 refine (zA w1).mono ?_
 rintro e w2 ⟨rfl,m2⟩
 have B2:=lh (m2.heap B1.out (fun x=>x))
 have C2:=lh (C.out w2 m2)
 clear m2 C B1
 go_wp2_with fail
 refine C2.out.mono ?_
 rintro e w3 ⟨v,P1,N1,rfl,⟨n0,n1,n2,n3,n4,n5,u6,l6,rfl,hg,e6,rfl,rfl⟩,g3,fN,m3⟩
 obtain⟨ad6,cp6,rfl,_⟩:=e6.form
 have B3:=m3.heap B2.out (fun x=>x (.inl rfl))
 have G3:=lh g3
 have E6:=lh (And.intro e6 (And.intro hg (And.intro fN (lt_of_heap B2.out))))
 obtain⟨ob,hob⟩:∃ ob,mB F id=ob:=⟨_,rfl⟩
 have HB:=lh hob
 clear g3 m3 C2 B2
 clear e6 hg fN
 rw [hob]
 clear hob
 go_wp2_with (refine dm rfl rfl B3 rfl rfl move_size rfl rfl ?_;intro w11 q1 q2 q3;have c11:=af q1)
 refine bodyPost_ret (by simp [results,Tryz.results58,go_sem,c11];try rfl) rfl ?_
 refine⟨_,_,_,rfl,⟨n0,n1,n2,n3,n4,n5,_,l6,by rw [HB.out],E6.out.2.1,?_,rfl,rfl⟩,(G3.out.turn bJ q2 (fun k hk => .inl hk)).less (fun k hk => .inr hk)⟩
 rcases Nat.eq_zero_or_pos l6.length with h0 | h0
 ·obtain rfl:=List.eq_nil_of_length_eq_zero h0
  exact RN.keepW E6.out.1 q2 (.inl rfl)
 ·exact RN.keepW E6.out.1 q2 (.inr (fun k hk e=>by have:=E6.out.2.2.1 k ⟨List.length_pos_iff.1 h0,hk⟩;have:=E6.out.2.2.2;omega))
end
end Go.Proofs.YtglkmaalpammcaaGreat

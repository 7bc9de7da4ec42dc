/- queue: unbondings, moves, begins, Unbond, Move, as calls on a store (printed by gen_qub.py). -/
import Derived.Test.YtglkmaalpammcaaGreatQuP
import Derived.Test.YtglkmaalpammcaaGreatQuG
import Derived.Test.YtglkmaalpammcaaGreatRqUnbonding
import Derived.Test.YtglkmaalpammcaaGreatRqMove
set_option maxHeartbeats 64000000
namespace Go.Proofs.YtglkmaalpammcaaGreat
open Go.Gl Go.RowKit
set_option linter.unusedVariables false
set_option linter.unusedSimpArgs false
set_option maxRecDepth 100000
def vw:Value := .agg #[.int .i64 12,.func (.func 184) #[] #[],.func (.func 185) #[] #[],.func (.func 186) #[] #[]]
theorem I9 {n0 n1 n2 n3 n4 n5:Nat} (w:World):Calls Tryz.prog 186 #[.agg #[.int .u64 n0,.int .u64 n1,.int .u64 n2,.int .u64 n3,.int .u64 n4,.int .u64 n5]] w fun e w'=>e = .returned (.tuple #[.int .u64 n0,.int .u64 n1,.int .u64 n3])∧ae ai w w':=by
 have b1:=aF w (.cells #[.int .u64 n0,.int .u64 n1,.int .u64 n2,.int .u64 n3,.int .u64 n4,.int .u64 n5] 73)
 have m1:=(ae.refl ai w).alloc (.cells #[.int .u64 n0,.int .u64 n1,.int .u64 n2,.int .u64 n3,.int .u64 n4,.int .u64 n5] 73)
 obtain⟨w1,hw1⟩:∃ w1,w1=w.alloc (.cells #[.int .u64 n0,.int .u64 n1,.int .u64 n2,.int .u64 n3,.int .u64 n4,.int .u64 n5] 73):=⟨_,rfl⟩
 rw [← hw1] at b1 m1
 have B1:=lh b1
 have M1:=lh m1
 have HW:=lh hw1
 clear b1 m1 hw1
 go_enter Tryz.func186,Tryz.ntmps186
 go_upto_region 1 with fail
 rw [← HW.out]
 refine fM (d := .region 1 (aH 1 Tryz.f186) true) (by kernel_rfl) ?_
 refine RW.wp (qofU (n2:=n2) (n4:=n4) (n5:=n5) (fun b' m=>af (m.heap B1.out (fun x=>x)) 0) (fun b' m=>af (m.heap B1.out (fun x=>x)) 1) (fun b' m=>af (m.heap B1.out (fun x=>x)) 3) ?_)
 intros
 rename_i w2 m2
 have M2:=lh (M1.out.then0 m2)
 clear m2
 go_wp2
 refine bodyPost_ret (by simp [results,Tryz.results186,go_sem,Nat.add_zero];try rfl) rfl ?_
 exact⟨rfl,M2.out⟩
theorem LG:(Tryz.prog.info? 179).map (·.size)=some 4:=by kernel_rfl
theorem zG (w:World):Calls Tryz.prog 109 #[] w fun e w'=>e = .returned vw∧ae ai w w':=by
 have P:=lh (qR w #[.int .i64 0,.nilFunc,.nilFunc,.nilFunc] 179 _ rfl)
 go_enter Tryz.func109,Tryz.ntmps109
 go_wp2_with (refine dm rfl rfl P.out.1 rfl rfl LG rfl rfl ?_;intro w11 q1 q2 q3;have c11:=af q1)
 refine bodyPost_ret (by simp [results,Tryz.results109,go_sem,c11];try rfl) rfl ?_
 exact⟨rfl,P.out.2.1.trans q2 (fun _ _ x=>x) (fun i hi x=>by omega)⟩
section
variable {w:World}{sg n p:Nat}{F:List aN}{Q:Nat→Prop}
theorem qbegU {n0 n1 n2 n3 n4 n5:Nat} (hl:gu [n0,n1,n2,n3,n4,n5]) (hn:n≤10000000000) (hp:p≤80000):GS Tryz.prog 108 #[.pointer (some ⟨sg,0,none⟩),vw,.agg #[.int .u64 n0,.int .u64 n1,.int .u64 n2,.int .u64 n3,.int .u64 n4,.int .u64 n5]] w (bI sg F n p) Q (.int .u64 (((kC F).2:Nat):Int)) (bI sg (qf F 12 (pF n0 n1 n2 n3 n4 n5) n0 n1 n3) (n+7) (p+10)):=GS.walk fun S D kv hQ=>by
 have b1:=aF w (.cells #[.int .i64 12,.func (.func 184) #[] #[],.func (.func 185) #[] #[],.func (.func 186) #[] #[]] 179)
 have m1:=(ae.refl ai w).alloc (.cells #[.int .i64 12,.func (.func 184) #[] #[],.func (.func 185) #[] #[],.func (.func 186) #[] #[]] 179)
 obtain⟨w1,hw1⟩:∃ w1,w1=w.alloc (.cells #[.int .i64 12,.func (.func 184) #[] #[],.func (.func 185) #[] #[],.func (.func 186) #[] #[]] 179):=⟨_,rfl⟩
 rw [← hw1] at b1 m1
 have b2:=aF w1 (.cells #[.int .u64 n0,.int .u64 n1,.int .u64 n2,.int .u64 n3,.int .u64 n4,.int .u64 n5] 73)
 have m12:=(ae.refl ai w1).alloc (.cells #[.int .u64 n0,.int .u64 n1,.int .u64 n2,.int .u64 n3,.int .u64 n4,.int .u64 n5] 73)
 obtain⟨w2,hw2⟩:∃ w2,w2=w1.alloc (.cells #[.int .u64 n0,.int .u64 n1,.int .u64 n2,.int .u64 n3,.int .u64 n4,.int .u64 n5] 73):=⟨_,rfl⟩
 rw [← hw2] at b2 m12
 have b12:=m12.heap b1 (fun x=>x)
 have m2:=m1.then0 m12
 obtain⟨tb,htb⟩:∃ tb,w.heap.size=tb:=⟨_,rfl⟩
 obtain⟨xb,hxb⟩:∃ xb,w1.heap.size=xb:=⟨_,rfl⟩
 rw [htb] at b1 b12
 rw [hxb] at b2
 have hx1:tb<xb:=by have:=lt_of_heap b1;omega
 have G2:=(GI.start kv).grow bJ m2 (N':=fun k=>k=tb∨k=xb) (fun k hk => .inr (by
  have h1:=lt_of_heap b12
  have h2:=lt_of_heap b2
  have h3:=m1.size
  rcases hk with rfl | rfl <;> omega))
 obtain⟨i,hi⟩:∃ i,(kC F).2=i:=⟨_,rfl⟩
 have hi64:bD i:=by rw [← hi];exact (Ih _).2
 obtain⟨F1,h1⟩:∃ F1,A7 F=F1:=⟨_,rfl⟩
 obtain⟨F2,h2⟩:∃ F2,fV F1 (qk 12 i 0) (pF n0 n1 n2 n3 n4 n5)=F2:=⟨_,rfl⟩
 obtain⟨F3,h3⟩:∃ F3,fV F2 (qk 14 n3 i) (gV 12)=F3:=⟨_,rfl⟩
 obtain⟨F4,h4⟩:∃ F4,fV F3 (qk 15 n1 i) (gV 12)=F4:=⟨_,rfl⟩
 obtain⟨c,hc⟩:∃ c,sN F4 n0 n1=c:=⟨_,rfl⟩
 have hc64:bD c:=by rw [← hc];exact zL _
 obtain⟨c',hc'⟩:∃ c',(c+1) % 18446744073709551616=c':=⟨_,rfl⟩
 have t1:IntKind.u64.wrap ((c:Int)+1)=(c':Int):=by rw [wrap_u64];omega
 have hc'64:bD c':=by unfold bD;omega
 have FB:qf F 12 (pF n0 n1 n2 n3 n4 n5) n0 n1 n3=rD F4 n0 n1 c':=by unfold qf;rw [hi,h1,h2,h3,h4,hc,hc']
 have NX:=lh (G2.calls (RZ (sg:=sg) (n:=n) (p:=p) (F:=F) (by omega) (by omega)))
 rw [hi,h1] at NX
 rw [FB,hi]
 have HW:=lh (And.intro hw1 hw2)
 have HT:=lh (And.intro htb (show tb+1=xb from by rw [← hxb,hw1,← htb];simp))
 have BB:=lh (And.intro b12 b2)
 have HL:=lh hl
 have uD:bD n0:=hl _ (by simp)
 have uV:bD n1:=hl _ (by simp)
 have uT:bD n3:=hl _ (by simp)
 have u0:bD 0:=by unfold bD;omega
 have S2:=lh (fun W (g:GI w S D W (bI sg F1 (n+2) (p+2)) (fun k=>k=tb∨k=xb))=>uI (ks:=qk 12 i 0) g bJ (fun W=>gZ (kind:=12) (a:=i) (b:=0) W hi64 u0))
 have S3:=lh (fun W (g:GI w S D W (bI sg F1 (n+2) (p+2)) (fun k=>k=tb∨k=xb))=>uH (w:=w) (w4:=W) (S:=S) (D:=D) (N:=fun k=>k=tb∨k=xb) (P:=bI sg F1 (n+2) (p+2)) (ks:=qk 12 i 0) (vs:=(pF n0 n1 n2 n3 n4 n5)) bJ (fun W' _=>yt (w:=W') hl))
 have S4:=lh (fun W=>uJ (w:=w) (w4:=W) (S:=S) (D:=D) (N:=fun k=>k=tb∨k=xb) (P:=bI sg F1 (n+2) (p+2)) (P':=bI sg F2 (n+3) (p+4)) (ks:=qk 12 i 0) (vs:=(pF n0 n1 n2 n3 n4 n5)) (fun W' u v ou ov=>by rw [← h2];exact qI ou.rd ov.rd (fP (fun i hi => .inl (.inr hi))) (fP (fun i hi => .inr hi)) (by omega) (by omega)))
 have T2:=lh (fun W (g:GI w S D W (bI sg F2 (n+3) (p+4)) (fun k=>k=tb∨k=xb))=>uI (ks:=qk 14 n3 i) g bJ (fun W=>gZ (kind:=14) (a:=n3) (b:=i) W uT hi64))
 have PU:=lh (fun W=>DC (w:=W) (n0:=12) (by intro x hx;simp at hx;subst hx;omega))
 have T3:=lh (fun W=>uH (w:=w) (w4:=W) (S:=S) (D:=D) (N:=fun k=>k=tb∨k=xb) (P:=bI sg F2 (n+3) (p+4)) (ks:=qk 14 n3 i) (vs:=gV 12) bJ (fun W' _=>PU.out W'))
 have T4:=lh (fun W=>uJ (w:=w) (w4:=W) (S:=S) (D:=D) (N:=fun k=>k=tb∨k=xb) (P:=bI sg F2 (n+3) (p+4)) (P':=bI sg F3 (n+4) (p+6)) (ks:=qk 14 n3 i) (vs:=gV 12) (fun W' u v ou ov=>by rw [← h3];exact qI ou.rd ov.rd (fP (fun i hi => .inl (.inr hi))) (fP (fun i hi => .inr hi)) (by omega) (by omega)))
 have V2:=lh (fun W (g:GI w S D W (bI sg F3 (n+4) (p+6)) (fun k=>k=tb∨k=xb))=>uI (ks:=qk 15 n1 i) g bJ (fun W=>gZ (kind:=15) (a:=n1) (b:=i) W uV hi64))
 have V3:=lh (fun W=>uH (w:=w) (w4:=W) (S:=S) (D:=D) (N:=fun k=>k=tb∨k=xb) (P:=bI sg F3 (n+4) (p+6)) (ks:=qk 15 n1 i) (vs:=gV 12) bJ (fun W' _=>PU.out W'))
 have V4:=lh (fun W=>uJ (w:=w) (w4:=W) (S:=S) (D:=D) (N:=fun k=>k=tb∨k=xb) (P:=bI sg F3 (n+4) (p+6)) (P':=bI sg F4 (n+5) (p+8)) (ks:=qk 15 n1 i) (vs:=gV 12) (fun W' u v ou ov=>by rw [← h4];exact qI ou.rd ov.rd (fP (fun i hi => .inl (.inr hi))) (fP (fun i hi => .inr hi)) (by omega) (by omega)))
 have CN:=lh (fun W (g:GI w S D W (bI sg F4 (n+5) (p+8)) (fun k=>k=tb∨k=xb))=>g.calls (vO (d:=n0) (v:=n1) uD uV (by omega) (by omega)))
 rw [hc] at CN
 have LC:=lh (fun W (g:GI w S D W (bI sg F4 (n+5+1) (p+8)) (fun k=>k=tb∨k=xb))=>g.calls (BP (d:=n0) (v:=n1) (m:=c') uD uV hc'64 (by omega) (by omega)))
 unfold vw
 clear kv hl hw1 hw2 b1 b2 b12 m1 m2 m12 htb hxb hi h1 h2 h3 h4 hc hc' hi64 hc64 hc'64 uD uV uT u0 G2 FB
 go_enter Tryz.func108,Tryz.ntmps108
 go_wp2_with fail
 rw [show World.alloc w _=w1 from HW.out.1.symm,show World.alloc w1 _=w2 from HW.out.2.symm,HT.out.1,HT.out.2]
 refine NX.out.mono ?_
 rintro e w3 ⟨rfl,g3,m3⟩
 have B3:=lh (And.intro (m3.heap BB.out.1 (fun x=>x (.inl (.inl rfl)))) (m3.heap BB.out.2 (fun x=>x (.inl (.inr rfl)))))
 have G3:=lh g3
 have c3:=af B3.out.1 3
 have x0:=af B3.out.2 0
 have x1:=af B3.out.2 1
 have x2:=af B3.out.2 2
 have x3:=af B3.out.2 3
 have x4:=af B3.out.2 4
 have x5:=af B3.out.2 5
 clear g3 m3 NX BB
 go_wp2_with fail
 refine (I9 w3).mono ?_
 rintro e w4 ⟨rfl,m4⟩
 have B4:=lh (And.intro (m4.heap B3.out.1 (fun x=>x)) (m4.heap B3.out.2 (fun x=>x)))
 have G4:=lh (G3.out.keep0 bJ m4)
 clear m4 B3 G3 c3 x0 x1 x2 x3 x4 x5
 go_upto_region 3 with fail
 refine fM (d := .region 3 (aH 3 Tryz.f108) true) (by kernel_rfl) ?_
 refine RW.wp (qbU3 (fun b' m=>af (m.heap B4.out.1 (fun x=>x)) 0) (fun b' m=>af (m.heap B4.out.1 (fun x=>x)) 1) B4.out.2 (S2.out w4 G4.out) (S3.out w4 G4.out) (S4.out w4) sJ sH ?_)
 intros
 rename_i w5 h5
 have B5:=lh (h5.heap (.inl rfl) B4.out.1)
 have G5:=lh h5.1
 clear h5 B4 G4 S2 S3 S4
 go_upto_region 4 with fail
 refine fM (d := .region 4 (aH 4 Tryz.f108) true) (by kernel_rfl) ?_
 refine RW.wp (qbU4 (fun b' m=>af (m.heap B5.out (fun x=>x)) 0) (T2.out w5 G5.out) (T3.out w5) (T4.out w5) sJ sH ?_)
 intros
 rename_i w6 h6
 have B6:=lh (h6.heap (.inl rfl) B5.out)
 have G6:=lh h6.1
 clear h6 B5 G5 T2 T3 T4
 go_upto_region 5 with fail
 refine fM (d := .region 5 (aH 5 Tryz.f108) true) (by kernel_rfl) ?_
 refine RW.wp (qbU5 (fun b' m=>af (m.heap B6.out (fun x=>x)) 0) (V2.out w6 G6.out) (V3.out w6) (V4.out w6) sJ sH ?_)
 intros
 rename_i w7 h7
 have G7:=lh h7.1
 clear h7 B6 G6 V2 V3 V4
 go_wp2_with fail
 refine (CN.out w7 G7.out).mono ?_
 rintro e w8 ⟨rfl,g8,m8⟩
 have G8:=lh g8
 clear g8 m8 CN G7
 go_wp2_with fail
 refine (LC.out w8 G8.out).mono ?_
 rintro e w9 ⟨rfl,g9,m9⟩
 have DD:=lh g9.done
 clear g9 m9 LC G8
 go_wp2
 go_ret
 exact⟨rfl,DD.out⟩
theorem Ji {n0 n1 n2 n3 n4 n5:Nat} (hl:gu [n0,n1,n2,n3,n4,n5]) (hn:n≤10000000000) (hp:p≤80000):GS Tryz.prog 35 #[.pointer (some ⟨sg,0,none⟩),.agg #[.int .u64 n0,.int .u64 n1,.int .u64 n2,.int .u64 n3,.int .u64 n4,.int .u64 n5]] w (bI sg F n p) Q (.int .u64 (((kC F).2:Nat):Int)) (bI sg (qf F 12 (pF n0 n1 n2 n3 n4 n5) n0 n1 n3) (n+7) (p+10)):=GS.walk fun S D kv hQ=>by
 have b1:=aF w (.cells #[.int .u64 n0,.int .u64 n1,.int .u64 n2,.int .u64 n3,.int .u64 n4,.int .u64 n5] 73)
 have m1:=(ae.refl ai w).alloc (.cells #[.int .u64 n0,.int .u64 n1,.int .u64 n2,.int .u64 n3,.int .u64 n4,.int .u64 n5] 73)
 obtain⟨w1,hw1⟩:∃ w1,w1=w.alloc (.cells #[.int .u64 n0,.int .u64 n1,.int .u64 n2,.int .u64 n3,.int .u64 n4,.int .u64 n5] 73):=⟨_,rfl⟩
 rw [← hw1] at b1 m1
 have B1:=lh b1
 have G1:=lh ((GI.start kv).keep0 bJ m1)
 have CB:=lh (fun b' (m:ae ai w1 b')=>((G1.out.keep0 bJ m).calls (qbegU (sg:=sg) hl hn hp)))
 have HW:=lh hw1
 clear kv hw1 b1 m1
 go_enter Tryz.func35,Tryz.ntmps35
 go_upto_region 1 with fail
 rw [← HW.out]
 refine fM (d := .region 1 (aH 1 Tryz.f35) true) (by kernel_rfl) ?_
 refine RW.wp (qunb1 B1.out (fun b' m=>(zG b').mono (fun e w' ⟨a,m'⟩=>⟨a,m.then0 m'⟩)) (fun b' m=>(CB.out b' m).mono (fun e w' ⟨a,g,_⟩=>show e=Ending.returned _∧kZ w S D w' _ from⟨a,g.done⟩)) ?_)
 intros
 rename_i w9 h9
 have DD:=lh h9
 clear h9 CB
 go_wp2
 go_ret
 exact⟨rfl,DD.out⟩
end
def vG:Value := .agg #[.int .i64 13,.func (.func 187) #[] #[],.func (.func 188) #[] #[],.func (.func 189) #[] #[]]
theorem Jh {n0 n1 n2 n3 n4 n5:Nat}{u6:Value} (w:World):Calls Tryz.prog 189 #[.agg #[.int .u64 n0,.int .u64 n1,.int .u64 n2,.int .u64 n3,.int .u64 n4,.int .u64 n5,u6]] w fun e w'=>e = .returned (.tuple #[.int .u64 n0,.int .u64 n1,.int .u64 n4])∧ae ai w w':=by
 have b1:=aF w (.cells #[.int .u64 n0,.int .u64 n1,.int .u64 n2,.int .u64 n3,.int .u64 n4,.int .u64 n5,u6] 77)
 have m1:=(ae.refl ai w).alloc (.cells #[.int .u64 n0,.int .u64 n1,.int .u64 n2,.int .u64 n3,.int .u64 n4,.int .u64 n5,u6] 77)
 obtain⟨w1,hw1⟩:∃ w1,w1=w.alloc (.cells #[.int .u64 n0,.int .u64 n1,.int .u64 n2,.int .u64 n3,.int .u64 n4,.int .u64 n5,u6] 77):=⟨_,rfl⟩
 rw [← hw1] at b1 m1
 have B1:=lh b1
 have M1:=lh m1
 have HW:=lh hw1
 clear b1 m1 hw1
 go_enter Tryz.func189,Tryz.ntmps189
 go_upto_region 1 with fail
 rw [← HW.out]
 refine fM (d := .region 1 (aH 1 Tryz.f189) true) (by kernel_rfl) ?_
 refine RW.wp (qofM (n2:=n2) (n3:=n3) (n5:=n5) (fun b' m=>af (m.heap B1.out (fun x=>x)) 0) (fun b' m=>af (m.heap B1.out (fun x=>x)) 1) (fun b' m=>af (m.heap B1.out (fun x=>x)) 4) ?_)
 intros
 rename_i w2 m2
 have M2:=lh (M1.out.then0 m2)
 clear m2
 go_wp2
 refine bodyPost_ret (by simp [results,Tryz.results189,go_sem,Nat.add_zero];try rfl) rfl ?_
 exact⟨rfl,M2.out⟩
theorem J5:(Tryz.prog.info? 186).map (·.size)=some 4:=by kernel_rfl
theorem zA (w:World):Calls Tryz.prog 111 #[] w fun e w'=>e = .returned vG∧ae ai w w':=by
 have P:=lh (qR w #[.int .i64 0,.nilFunc,.nilFunc,.nilFunc] 186 _ rfl)
 go_enter Tryz.func111,Tryz.ntmps111
 go_wp2_with (refine dm rfl rfl P.out.1 rfl rfl J5 rfl rfl ?_;intro w11 q1 q2 q3;have c11:=af q1)
 refine bodyPost_ret (by simp [results,Tryz.results111,go_sem,c11];try rfl) rfl ?_
 exact⟨rfl,P.out.2.1.trans q2 (fun _ _ x=>x) (fun i hi x=>by omega)⟩
section
variable {w:World}{sg n p:Nat}{F:List aN}{Q:Nat→Prop}
theorem qbegM {n0 n1 n2 n3 n4 n5:Nat}{u6:Value}{l6:List Nat} (hl:gu [n0,n1,n2,n3,n4,n5]) (d6:DN w u6 l6) (q6:l6=[]∨∀ k,u6.ownBlock=some k→Q k) (hn:n≤10000000000) (hp:p≤80000):GS Tryz.prog 110 #[.pointer (some ⟨sg,0,none⟩),vG,.agg #[.int .u64 n0,.int .u64 n1,.int .u64 n2,.int .u64 n3,.int .u64 n4,.int .u64 n5,u6]] w (bI sg F n p) Q (.int .u64 (((kC F).2:Nat):Int)) (bI sg (qf F 13 (pq n0 n1 n2 n3 n4 n5 l6) n0 n1 n4) (n+7) (p+10)):=GS.walk fun S D kv hQ=>by
 have b1:=aF w (.cells #[.int .i64 13,.func (.func 187) #[] #[],.func (.func 188) #[] #[],.func (.func 189) #[] #[]] 186)
 have m1:=(ae.refl ai w).alloc (.cells #[.int .i64 13,.func (.func 187) #[] #[],.func (.func 188) #[] #[],.func (.func 189) #[] #[]] 186)
 obtain⟨w1,hw1⟩:∃ w1,w1=w.alloc (.cells #[.int .i64 13,.func (.func 187) #[] #[],.func (.func 188) #[] #[],.func (.func 189) #[] #[]] 186):=⟨_,rfl⟩
 rw [← hw1] at b1 m1
 have b2:=aF w1 (.cells #[.int .u64 n0,.int .u64 n1,.int .u64 n2,.int .u64 n3,.int .u64 n4,.int .u64 n5,u6] 77)
 have m12:=(ae.refl ai w1).alloc (.cells #[.int .u64 n0,.int .u64 n1,.int .u64 n2,.int .u64 n3,.int .u64 n4,.int .u64 n5,u6] 77)
 obtain⟨w2,hw2⟩:∃ w2,w2=w1.alloc (.cells #[.int .u64 n0,.int .u64 n1,.int .u64 n2,.int .u64 n3,.int .u64 n4,.int .u64 n5,u6] 77):=⟨_,rfl⟩
 rw [← hw2] at b2 m12
 have b12:=m12.heap b1 (fun x=>x)
 have m2:=m1.then0 m12
 obtain⟨tb,htb⟩:∃ tb,w.heap.size=tb:=⟨_,rfl⟩
 obtain⟨xb,hxb⟩:∃ xb,w1.heap.size=xb:=⟨_,rfl⟩
 rw [htb] at b1 b12
 rw [hxb] at b2
 have hx1:tb<xb:=by have:=lt_of_heap b1;omega
 have G2:=(GI.start kv).grow bJ m2 (N':=fun k=>k=tb∨k=xb) (fun k hk => .inr (by
  have h1:=lt_of_heap b12
  have h2:=lt_of_heap b2
  have h3:=m1.size
  rcases hk with rfl | rfl <;> omega))
 obtain⟨i,hi⟩:∃ i,(kC F).2=i:=⟨_,rfl⟩
 have hi64:bD i:=by rw [← hi];exact (Ih _).2
 obtain⟨F1,h1⟩:∃ F1,A7 F=F1:=⟨_,rfl⟩
 obtain⟨F2,h2⟩:∃ F2,fV F1 (qk 13 i 0) (pq n0 n1 n2 n3 n4 n5 l6)=F2:=⟨_,rfl⟩
 obtain⟨F3,h3⟩:∃ F3,fV F2 (qk 14 n4 i) (gV 13)=F3:=⟨_,rfl⟩
 obtain⟨F4,h4⟩:∃ F4,fV F3 (qk 15 n1 i) (gV 13)=F4:=⟨_,rfl⟩
 obtain⟨c,hc⟩:∃ c,sN F4 n0 n1=c:=⟨_,rfl⟩
 have hc64:bD c:=by rw [← hc];exact zL _
 obtain⟨c',hc'⟩:∃ c',(c+1) % 18446744073709551616=c':=⟨_,rfl⟩
 have t1:IntKind.u64.wrap ((c:Int)+1)=(c':Int):=by rw [wrap_u64];omega
 have hc'64:bD c':=by unfold bD;omega
 have FB:qf F 13 (pq n0 n1 n2 n3 n4 n5 l6) n0 n1 n4=rD F4 n0 n1 c':=by unfold qf;rw [hi,h1,h2,h3,h4,hc,hc']
 have NX:=lh (G2.calls (RZ (sg:=sg) (n:=n) (p:=p) (F:=F) (by omega) (by omega)))
 rw [hi,h1] at NX
 rw [FB,hi]
 have HW:=lh (And.intro hw1 hw2)
 have HT:=lh (And.intro htb (show tb+1=xb from by rw [← hxb,hw1,← htb];simp))
 have BB:=lh (And.intro b12 b2)
 have HL:=lh hl
 have uD:bD n0:=hl _ (by simp)
 have uV:bD n1:=hl _ (by simp)
 have uT:bD n4:=hl _ (by simp)
 have u0:bD 0:=by unfold bD;omega
 have S2:=lh (fun W (g:GI w S D W (bI sg F1 (n+2) (p+2)) (fun k=>k=tb∨k=xb))=>uI (ks:=qk 13 i 0) g bJ (fun W=>gZ (kind:=13) (a:=i) (b:=0) W hi64 u0))
 have D6:=lh (fun W (g:GI w S D W (bI sg F1 (n+2) (p+2)) (fun k=>k=tb∨k=xb))=>show DN W u6 l6 from⟨RN.keepW d6.rn g.mods (q6.imp id (fun h k hk=>hQ k (h k hk))),d6.lim,d6.len⟩)
 have S3:=lh (fun W (g:GI w S D W (bI sg F1 (n+2) (p+2)) (fun k=>k=tb∨k=xb))=>uH (w:=w) (w4:=W) (S:=S) (D:=D) (N:=fun k=>k=tb∨k=xb) (P:=bI sg F1 (n+2) (p+2)) (ks:=qk 13 i 0) (vs:=(pq n0 n1 n2 n3 n4 n5 l6)) bJ (fun W' m'=>Fe (w:=W') hl ((D6.out W g).keep m')))
 have S4:=lh (fun W=>uJ (w:=w) (w4:=W) (S:=S) (D:=D) (N:=fun k=>k=tb∨k=xb) (P:=bI sg F1 (n+2) (p+2)) (P':=bI sg F2 (n+3) (p+4)) (ks:=qk 13 i 0) (vs:=(pq n0 n1 n2 n3 n4 n5 l6)) (fun W' u v ou ov=>by rw [← h2];exact qI ou.rd ov.rd (fP (fun i hi => .inl (.inr hi))) (fP (fun i hi => .inr hi)) (by omega) (by omega)))
 have T2:=lh (fun W (g:GI w S D W (bI sg F2 (n+3) (p+4)) (fun k=>k=tb∨k=xb))=>uI (ks:=qk 14 n4 i) g bJ (fun W=>gZ (kind:=14) (a:=n4) (b:=i) W uT hi64))
 have PU:=lh (fun W=>DC (w:=W) (n0:=13) (by intro x hx;simp at hx;subst hx;omega))
 have T3:=lh (fun W=>uH (w:=w) (w4:=W) (S:=S) (D:=D) (N:=fun k=>k=tb∨k=xb) (P:=bI sg F2 (n+3) (p+4)) (ks:=qk 14 n4 i) (vs:=gV 13) bJ (fun W' _=>PU.out W'))
 have T4:=lh (fun W=>uJ (w:=w) (w4:=W) (S:=S) (D:=D) (N:=fun k=>k=tb∨k=xb) (P:=bI sg F2 (n+3) (p+4)) (P':=bI sg F3 (n+4) (p+6)) (ks:=qk 14 n4 i) (vs:=gV 13) (fun W' u v ou ov=>by rw [← h3];exact qI ou.rd ov.rd (fP (fun i hi => .inl (.inr hi))) (fP (fun i hi => .inr hi)) (by omega) (by omega)))
 have V2:=lh (fun W (g:GI w S D W (bI sg F3 (n+4) (p+6)) (fun k=>k=tb∨k=xb))=>uI (ks:=qk 15 n1 i) g bJ (fun W=>gZ (kind:=15) (a:=n1) (b:=i) W uV hi64))
 have V3:=lh (fun W=>uH (w:=w) (w4:=W) (S:=S) (D:=D) (N:=fun k=>k=tb∨k=xb) (P:=bI sg F3 (n+4) (p+6)) (ks:=qk 15 n1 i) (vs:=gV 13) bJ (fun W' _=>PU.out W'))
 have V4:=lh (fun W=>uJ (w:=w) (w4:=W) (S:=S) (D:=D) (N:=fun k=>k=tb∨k=xb) (P:=bI sg F3 (n+4) (p+6)) (P':=bI sg F4 (n+5) (p+8)) (ks:=qk 15 n1 i) (vs:=gV 13) (fun W' u v ou ov=>by rw [← h4];exact qI ou.rd ov.rd (fP (fun i hi => .inl (.inr hi))) (fP (fun i hi => .inr hi)) (by omega) (by omega)))
 have CN:=lh (fun W (g:GI w S D W (bI sg F4 (n+5) (p+8)) (fun k=>k=tb∨k=xb))=>g.calls (vO (d:=n0) (v:=n1) uD uV (by omega) (by omega)))
 rw [hc] at CN
 have LC:=lh (fun W (g:GI w S D W (bI sg F4 (n+5+1) (p+8)) (fun k=>k=tb∨k=xb))=>g.calls (BP (d:=n0) (v:=n1) (m:=c') uD uV hc'64 (by omega) (by omega)))
 unfold vG
 clear kv hl hw1 hw2 b1 b2 b12 m1 m2 m12 htb hxb hi h1 h2 h3 h4 hc hc' hi64 hc64 hc'64 uD uV uT u0 G2 FB
 clear d6 q6
 go_enter Tryz.func110,Tryz.ntmps110
 go_wp2_with fail
 rw [show World.alloc w _=w1 from HW.out.1.symm,show World.alloc w1 _=w2 from HW.out.2.symm,HT.out.1,HT.out.2]
 refine NX.out.mono ?_
 rintro e w3 ⟨rfl,g3,m3⟩
 have B3:=lh (And.intro (m3.heap BB.out.1 (fun x=>x (.inl (.inl rfl)))) (m3.heap BB.out.2 (fun x=>x (.inl (.inr rfl)))))
 have G3:=lh g3
 have c3:=af B3.out.1 3
 have x0:=af B3.out.2 0
 have x1:=af B3.out.2 1
 have x2:=af B3.out.2 2
 have x3:=af B3.out.2 3
 have x4:=af B3.out.2 4
 have x5:=af B3.out.2 5
 have x6:=af B3.out.2 6
 clear g3 m3 NX BB
 go_wp2_with fail
 refine (Jh w3).mono ?_
 rintro e w4 ⟨rfl,m4⟩
 have B4:=lh (And.intro (m4.heap B3.out.1 (fun x=>x)) (m4.heap B3.out.2 (fun x=>x)))
 have G4:=lh (G3.out.keep0 bJ m4)
 clear m4 B3 G3 c3 x0 x1 x2 x3 x4 x5
 clear x6
 go_upto_region 3 with fail
 refine fM (d := .region 3 (aH 3 Tryz.f110) true) (by kernel_rfl) ?_
 refine RW.wp (qbM3 (fun b' m=>af (m.heap B4.out.1 (fun x=>x)) 0) (fun b' m=>af (m.heap B4.out.1 (fun x=>x)) 1) B4.out.2 (S2.out w4 G4.out) (S3.out w4 G4.out) (S4.out w4) sJ sH ?_)
 intros
 rename_i w5 h5
 have B5:=lh (h5.heap (.inl rfl) B4.out.1)
 have G5:=lh h5.1
 clear h5 B4 G4 S2 S3 S4
 go_upto_region 4 with fail
 refine fM (d := .region 4 (aH 4 Tryz.f110) true) (by kernel_rfl) ?_
 refine RW.wp (qbM4 (fun b' m=>af (m.heap B5.out (fun x=>x)) 0) (T2.out w5 G5.out) (T3.out w5) (T4.out w5) sJ sH ?_)
 intros
 rename_i w6 h6
 have B6:=lh (h6.heap (.inl rfl) B5.out)
 have G6:=lh h6.1
 clear h6 B5 G5 T2 T3 T4
 go_upto_region 5 with fail
 refine fM (d := .region 5 (aH 5 Tryz.f110) true) (by kernel_rfl) ?_
 refine RW.wp (qbM5 (fun b' m=>af (m.heap B6.out (fun x=>x)) 0) (V2.out w6 G6.out) (V3.out w6) (V4.out w6) sJ sH ?_)
 intros
 rename_i w7 h7
 have G7:=lh h7.1
 clear h7 B6 G6 V2 V3 V4
 go_wp2_with fail
 refine (CN.out w7 G7.out).mono ?_
 rintro e w8 ⟨rfl,g8,m8⟩
 have G8:=lh g8
 clear g8 m8 CN G7
 go_wp2_with fail
 refine (LC.out w8 G8.out).mono ?_
 rintro e w9 ⟨rfl,g9,m9⟩
 have DD:=lh g9.done
 clear g9 m9 LC G8
 go_wp2
 go_ret
 exact⟨rfl,DD.out⟩
theorem RQ {n0 n1 n2 n3 n4 n5:Nat}{u6:Value}{l6:List Nat} (hl:gu [n0,n1,n2,n3,n4,n5]) (d6:DN w u6 l6) (q6:l6=[]∨∀ k,u6.ownBlock=some k→Q k) (hn:n≤10000000000) (hp:p≤80000):GS Tryz.prog 36 #[.pointer (some ⟨sg,0,none⟩),.agg #[.int .u64 n0,.int .u64 n1,.int .u64 n2,.int .u64 n3,.int .u64 n4,.int .u64 n5,u6]] w (bI sg F n p) Q (.int .u64 (((kC F).2:Nat):Int)) (bI sg (qf F 13 (pq n0 n1 n2 n3 n4 n5 l6) n0 n1 n4) (n+7) (p+10)):=GS.walk fun S D kv hQ=>by
 have b1:=aF w (.cells #[.int .u64 n0,.int .u64 n1,.int .u64 n2,.int .u64 n3,.int .u64 n4,.int .u64 n5,u6] 77)
 have m1:=(ae.refl ai w).alloc (.cells #[.int .u64 n0,.int .u64 n1,.int .u64 n2,.int .u64 n3,.int .u64 n4,.int .u64 n5,u6] 77)
 obtain⟨w1,hw1⟩:∃ w1,w1=w.alloc (.cells #[.int .u64 n0,.int .u64 n1,.int .u64 n2,.int .u64 n3,.int .u64 n4,.int .u64 n5,u6] 77):=⟨_,rfl⟩
 rw [← hw1] at b1 m1
 have B1:=lh b1
 have G1:=lh ((GI.start kv).keep0 bJ m1)
 have O6:l6=[]∨∀ k,u6.ownBlock=some k→Out w S (fun _=>False) k:=by
  rcases Nat.eq_zero_or_pos l6.length with h0 | h0
  ·exact .inl (List.eq_nil_of_length_eq_zero h0)
  ·refine .inr (fun k hk => .inr ⟨dP.ltn d6.rn (by omega) k hk,?_⟩)
   rcases q6 with h | h
   ·rw [h] at h0;simp at h0
   ·exact hQ k (h k hk)
 have D1:=d6.keep m1
 have CB:=lh (fun b' (m:ae ai w1 b')=>((G1.out.keep0 bJ m).calls (qbegM (sg:=sg) hl (D1.keep m) O6 hn hp)))
 have HW:=lh hw1
 clear kv hw1 b1 m1
 go_enter Tryz.func36,Tryz.ntmps36
 go_upto_region 1 with fail
 rw [← HW.out]
 refine fM (d := .region 1 (aH 1 Tryz.f36) true) (by kernel_rfl) ?_
 refine RW.wp (qmov1 B1.out (fun b' m=>(zA b').mono (fun e w' ⟨a,m'⟩=>⟨a,m.then0 m'⟩)) (fun b' m=>(CB.out b' m).mono (fun e w' ⟨a,g,_⟩=>show e=Ending.returned _∧kZ w S D w' _ from⟨a,g.done⟩)) ?_)
 intros
 rename_i w9 h9
 have DD:=lh h9
 clear h9 CB
 go_wp2
 go_ret
 exact⟨rfl,DD.out⟩
end
end Go.Proofs.YtglkmaalpammcaaGreat

/- QueueApart: the walk itself. -/
import Derived.Test.YtglkmaalpammcaaGreatQuAw
import Derived.Deep.DeepCutAuto
namespace Go.Proofs.YtglkmaalpammcaaGreat
open Go.Gl Go.RowKit
set_option linter.unusedVariables false
set_option maxRecDepth 100000
theorem Fh {FF:List aJ}{h nx:Nat}{es:List QE} (q:QI FF h nx es) (hl:es.length<1000000) {e:QE} (he:e∈es) {bal:Nat} (hb:aU bal) {l:List Nat} (ll:dm l):∃ (bb:Bool) (F1 F2 F3:List aJ) (es3:List QE),uB FF e.id = !bb∧lD FF e.id bal=F1∧mB F1 e.id=bb∧og F1 e.id l=F2∧nH F2 e.id ((if bb then 13 else 12:Nat):Int)=true∧nG F2 e.id ((if bb then 13 else 12:Nat):Int)=F3 ∧
  QI F3 h nx es3∧es3.length+1=es.length∧(∀ x,x.id≠e.id→(x∈es↔x∈es3))∧∀ x∈es3,x.id≠e.id:=by
 have o:=(q.ok e he).1
 have key:∀ (F1:List aJ) (bs:List UInt8),QI F1 h nx (es.map (chg e.id bs))→nH F1 e.id (e.k:Nat)=true∧∃ es3,QI (nG F1 e.id (e.k:Nat)) h nx es3∧es3.length+1=es.length∧(∀ x,x.id≠e.id→(x∈es↔x∈es3))∧∀ x∈es3,x.id≠e.id:=fun F1 bs q1=>by
  have hm:chg e.id bs e∈es.map (chg e.id bs):=List.mem_map_of_mem he
  obtain⟨s1,s2,_⟩:=eH e.id bs e
  obtain⟨d1,d2⟩:=NM q1 hm (by rw [List.length_map];omega)
  rw [s1,s2] at d1 d2
  refine⟨d1,_,d2,?_,fun x hx=>?_,fun x hx=>?_⟩
  ·have:=Fq q1.inc hm
   rw [s2,List.length_map] at this
   exact this
  ·rw [List.mem_filter,decide_eq_true_iff]
   constructor
   ·intro hxe
    exact⟨List.mem_map.2 ⟨x,hxe,by unfold chg;rw [if_neg hx]⟩,hx⟩
   ·rintro⟨hxm,_⟩
    obtain⟨y,hy,hyx⟩:=List.mem_map.1 hxm
    have hyi:y.id≠e.id:=by
     rw [← (eH e.id bs y).2.1,hyx];exact hx
    unfold chg at hyx
    rw [if_neg hyi] at hyx
    rw [← hyx];exact hy
  ·rw [List.mem_filter,decide_eq_true_iff] at hx
   exact hx.2
 rcases o.kk with hk | hk
 ·obtain⟨_,_,_,_,_,_,h1,_,_⟩:=tq q he hk
  obtain⟨bs,q1⟩:=Ou q he hk hb
  have hm:chg e.id bs e∈es.map (chg e.id bs):=List.mem_map_of_mem he
  obtain⟨s1,s2,_⟩:=eH e.id bs e
  obtain⟨_,_,_,_,_,_,_,_,h3⟩:=tq q1 hm (by rw [s1];exact hk)
  rw [s2] at h3
  obtain⟨d1,es3,d2,d3,d4,d5⟩:=key _ _ q1
  rw [hk] at d1 d2
  exact⟨false,_,_,_,es3,by rw [h1];rfl,rfl,h3,LG h3,d1,rfl,d2,d3,d4,d5⟩
 ·obtain⟨_,_,_,_,_,_,_,h1,_,h2⟩:=xM q he hk
  obtain⟨bs,q1⟩:=P8 q he hk ll
  obtain⟨d1,es3,d2,d3,d4,d5⟩:=key _ _ q1
  rw [hk] at d1 d2
  exact⟨true,_,_,_,es3,by rw [h2];rfl,Gm h2,h1,rfl,d1,rfl,d2,d3,d4,d5⟩
set_option maxHeartbeats 64000000 in
theorem CW (v0:Value) (ss:List bH) (at0:Int) (bal:Nat) (sh:Value × List Nat) (w:World) (h0:LM w v0 ss) (ha : -9223372036854775808≤at0∧at0≤9223372036854775807) (hbal:aU bal) (hsh:RN w sh.1 sh.2∧dm sh.2∧sh.2.length≤140737488355328):Calls Tryz.prog 9 #[v0,.int .i64 at0,.int .u64 ((bal:Nat):Int),.agg #[sh.1]] w fun e w'=>e = .returned (.bool true)∧ae ag w w':=by
  obtain⟨u,l⟩:=sh
  simp only at hsh ⊢
  obtain⟨hr,hlim,hz⟩:=hsh
  obtain⟨ua,uc,rfl,_⟩:=bG.form hr
  have KN:=lh (fun W=>CV W)
  have LI:=lh (fun W (m:ae ag w W)=>EY (w0:=w) (kS.keep h0 m))
  obtain⟨a0,N,c0,rfl,hN,hc0,hb0,g0⟩:=kS.form h0
  have G0:=lh g0
  have N0:=lh hN
  have HR:=lh (And.intro hr hlim)
  have HA:=lh ha
  have b1:=aF w (.cells #[.slice ua l.length uc] 75)
  have m1:=(ae.refl ag w).alloc (.cells #[.slice ua l.length uc] 75)
  obtain⟨w1,hw1⟩:∃ w1,w1=w.alloc (.cells #[.slice ua l.length uc] 75):=⟨_,rfl⟩
  rw [← hw1] at b1 m1
  obtain⟨xb,hxb⟩:∃ xb,w.heap.size=xb:=⟨_,rfl⟩
  rw [hxb] at b1
  have HW:=lh (And.intro hw1 hxb)
  have B1:=lh b1
  have M1:=lh m1
  clear h0 g0 hN hr hlim b1 m1 hw1 ha
  go_enter Tryz.func9,Tryz.ntmps9
  go_wp2_with fail
  rw [show World.alloc w _=w1 from HW.out.1.symm]
  refine (KN.out w1).mono ?_
  rintro e w2 ⟨rfl,m2⟩
  have M2:=lh (M1.out.then0 m2)
  have B2:=lh (m2.heap B1.out (fun x=>x))
  clear KN m2 B1 M1
  go_wp2_with fail
  refine (LI.out w2 M2.out).mono ?_
  rintro e w3 ⟨lb,rfl,hlb,m3⟩
  have M3:=lh (M2.out.then0 m3)
  have b3:=m3.heap B2.out (fun x=>x)
  have B3:=lh b3
  have cb:=af b3 0
  clear LI m3 M2 B2 b3
  cases lb with
  | false =>
    go_wp2
    go_ret
    exact⟨rfl,M3.out⟩
  | true =>
  by_cases hN0:N=0
  · have i0:((N:Int) == 0)=true:=by simp;omega
    go_wp2
    go_ret
    exact⟨rfl,M3.out⟩
  have i0:((N:Int) == 0)=false:=by simp;omega
  by_cases h30:30<l.length
  · have i1:decide ((30:Int)<(l.length:Int))=true:=by simp;omega
    go_wp2
    go_ret
    exact⟨rfl,M3.out⟩
  have i1:decide ((30:Int)<(l.length:Int))=false:=by simp;omega
  have HL:=lh (hlb rfl)
  have hN150:N≤150:=by have:=(hlb rfl).1;rw [N0.out] at this;exact this
  clear hlb
  have HOK:=lh (show ∀ s∈ss,bH.Ok w s from fun s hs=>by
    obtain⟨i,hi,rfl⟩:=List.mem_iff_getElem.1 hs
    rcases G0.out with h | ⟨g,off,_,_,h⟩
    · rw [N0.out] at hi;omega
    · exact (h i hi).2)
  have q0:=J8 (h:=3) (nx:=1) (fG (by omega)) (fG (by omega))
  have q1:=O9 ss q0 HOK.out (by rw [N0.out];omega) (by rw [N0.out];simp;omega)
  rw [List.nil_append] at q1
  obtain⟨FF,hFF⟩:∃ FF,kH (yD 1) ss=FF:=⟨_,rfl⟩
  rw [show kH (bW [] (qk 2 0 0) (jg 3 1)) ss=FF from hFF] at q1
  have QI1:=lh q1
  have HF:=lh hFF
  clear q0 q1 hFF
  go_wp2_with fail
  refine (yL (nx:=1) (fG (by omega)) w3).mono ?_
  rintro e w4 ⟨sg,rfl,g4⟩
  obtain⟨Q0,hQ0⟩:∃ Q0:Nat→Prop,Q0=fun k=>k<w.heap.size∨k=xb:=⟨_,rfl⟩
  have K4:=lh (show G1 w w4 (aQ sg (yD 1) 1 2) Q0 from (g4.base M3.out).less (fun k hk=>by
    rw [hQ0] at hk
    have h1:=M3.out.size
    have h2:=lt_of_heap B3.out
    rcases hk with hk | hk
    · omega
    · subst hk;exact h2) (fun k hk=>by rw [hQ0];exact .inl hk))
  have QX:=lh (show Q0 xb from by rw [hQ0];exact .inr rfl)
  have B4:=lh (g4.mods.heap B3.out (fun x=>x))
  clear g4 M3 B3 cb hQ0
  go_wp2
  go_loopw [10] (fun x wr=>∃ i:Nat,i≤N∧x = .int .i64 i∧Hid (∃ kn kp,G1 w wr (aQ sg (kH (yD 1) (ss.take i)) kn kp) Q0∧wr.heap[xb]?=some (.cells #[.slice ua l.length uc] 75 (0,0))∧kn≤1+7*i∧kp≤2+10*i)) (fun x _=>N - (intOf x).toNat)
  case atStart=>exact⟨0,Nat.zero_le _,rfl,lh ⟨1,2,K4.out,B4.out,Nat.le_refl _,Nat.le_refl _⟩⟩
  case round =>
    clear K4 B4
    obtain⟨i,hi,rfl,hI⟩:=hrel
    by_cases hlt:i<N
    · obtain⟨kn,kp,kv,bx,hkn,hkp⟩:=hI.out
      have hil:i<ss.length:=by rw [N0.out];exact hlt
      obtain⟨g,off,rfl,_⟩:=G0.out.resolve_left (by omega)
      have st:=st_of G0.out rfl kv.mods N0.out hil
      have ST:=lh st
      have KK:=lh kv
      have BX:=lh bx
      have h30':=HL.out.2 _ (List.getElem_mem hil)
      have H30:=lh h30'
      have hFs:=GM (yD 1) hil
      have HFS:=lh hFs
      have cw:_root_.Go.World.cell? _ ⟨g,off+i*16,none⟩=some (.int .i64 ss[i].what):=st.c 0 _ rfl
      have t1:=tmod2 _ st.ok.w1 st.ok.w2
      have he:ss[i].ev=decide (Int.tmod ss[i].what 2=0):=rfl
      generalize ss[i]=s at *
      have KB:=lh (And.intro hkn hkp)
      obtain⟨tm,htm⟩:∃ tm,Int.tmod s.what 2=tm:=⟨_,rfl⟩
      rw [htm] at t1 he
      clear hI st kv h30' hFs hkn hkp bx
      by_cases hev:tm=0
      · rw [decide_eq_true hev] at he
        have c:=KK.out.calls (Eh (sg:=sg) (n:=kn) (p:=kp) (F:=kH (yD 1) (ss.take i)) (Q:=Q0) ST.out.ok.u (by have:=KB.out;omega) (by have:=KB.out;omega))
        rw [← P5 _ he,← HFS.out] at c
        have C:=lh (c.mono (fun r w' ⟨a,b,m⟩=>show r=Ending.returned _∧(G1 w w' (aQ sg (kH (yD 1) (ss.take (i+1))) (kn+7) (kp+10)) Q0∧w'.heap[xb]?=some (Obj.cells #[.slice ua l.length uc] 75 (0,0))) from⟨a,b,m.heap BX.out (fun x=>x QX.out)⟩))
        clear c
        go_upto_region 10 with fail
        refine dD (d := .region 10 (aK 10 Tryz.f9) false) (by kernel_rfl) ?_
        refine RW.wp (qa10 hlt (by omega) ST.out.u C.out ?_)
        intros
        rename_i wa ha
        have K5:=lh ha
        clear ha C ST KK cw BX
        go_wp2
        go_roundw
        case rel=>exact⟨i+1,by omega,by go_num,lh ⟨_,_,K5.out.1,K5.out.2,by have:=KB.out;omega,by have:=KB.out;omega⟩⟩
        case measure=>simp [intOf];omega
      · rw [decide_eq_false hev] at he
        have q6:s.sl=[]∨∀ k,s.sv.ownBlock=some k→Q0 k:=by
          rcases Nat.eq_zero_or_pos s.sl.length with h0 | h0
          · exact .inl (List.eq_nil_of_length_eq_zero h0)
          · exact .inr (fun k hk=>KK.out.q0 k (bG.ltn ST.out.ok.r (by omega) k hk))
        have c:=KK.out.calls (L6 (sg:=sg) (n:=kn) (p:=kp) (F:=kH (yD 1) (ss.take i)) (Q:=Q0) ST.out.ok.m ⟨bG.keep ST.out.ok.r KK.out.mods (fun _ _ x=>x),ST.out.ok.l,by have:=H30.out;omega⟩ q6 (by have:=KB.out;omega) (by have:=KB.out;omega))
        rw [← PW _ he,← HFS.out] at c
        have C:=lh (c.mono (fun r w' ⟨a,b,m⟩=>show r=Ending.returned _∧(G1 w w' (aQ sg (kH (yD 1) (ss.take (i+1))) (kn+7) (kp+10)) Q0∧w'.heap[xb]?=some (Obj.cells #[.slice ua l.length uc] 75 (0,0))) from⟨a,b,m.heap BX.out (fun x=>x QX.out)⟩))
        clear c q6
        go_upto_region 11 with fail
        refine dD (d := .region 11 (aK 11 Tryz.f9) false) (by kernel_rfl) ?_
        refine RW.wp (qa11 hlt (by omega) ST.out.m C.out ?_)
        intros
        rename_i wa ha
        have K5:=lh ha
        clear ha C ST KK cw BX
        go_wp2
        go_roundw
        case rel=>exact⟨i+1,by omega,by go_num,lh ⟨_,_,K5.out.1,K5.out.2,by have:=KB.out;omega,by have:=KB.out;omega⟩⟩
        case measure=>simp [intOf];omega
    · obtain rfl:i=N:=by omega
      obtain⟨kn,kp,kv,bx,hkn,hkp⟩:=hI.out
      rw [List.take_of_length_le (by rw [N0.out];exact Nat.le_refl _),HF.out] at kv
      have C:=lh (kv.call (qcopy (by omega)))
      have BX:=lh bx
      clear hI kv bx HF
      go_wp2_with fail
      refine C.out.mono ?_
      rintro e wc ⟨v,P',Nn,rfl,⟨wg,rfl,rfl,rfl⟩,gc,_,mc⟩
      have K5:=lh (show gX w sg wg FF FF 2000 1600 Q0 wc from⟨_,_,_,_,gc.less (fun k hk => .inl hk) (fun k hk=>(gc.q0 k hk).elim (fun x=>x) (fun x=>x.elim)),by omega,by omega,by omega,by omega⟩)
      have B5:=lh (mc.heap BX.out (fun x=>x QX.out))
      clear gc mc C BX hkn hkp
      go_wp2_with fail
      refine (Fz at0 (i:Int) wc HA.out.1 HA.out.2 (by omega) (by omega)).mono ?_
      rintro e wd ⟨r,rfl,r0,r1,rfl⟩
      obtain⟨j,rfl⟩:=Int.eq_ofNat_of_zero_le r0
      have hj:j<ss.length:=by rw [N0.out];omega
      obtain⟨bb,F1,F2,F3,es3,p1,p2,p3,p4,p5,p6,q3,p7,p8,p9⟩:=Fh QI1.out (by rw [BH,N0.out];omega) (e:=qe ss[j] (1+j)) (Jd.2 ⟨j,ss[j],List.getElem?_eq_getElem hj,rfl⟩) hbal HR.out.2
      obtain⟨id,hid⟩:∃ id,1+j=id:=⟨_,rfl⟩
      have hq:(qe ss[j] (1+j)).id=id:=hid
      rw [hq] at p1 p2 p3 p4 p5 p6 p8 p9
      rw [BH,N0.out] at p7
      have id64:aU id:=by unfold aU;omega
      have t1:IntKind.i64.wrap (1+(j:Int))=(id:Int):=by
        simp only [IntKind.wrap,IntKind.signed,IntKind.bits]
        simp
        omega
      have t2:IntKind.u64.wrap (id:Int)=(id:Int):=by rw [wrap_u64];omega
      obtain⟨kd,hkd⟩:∃ kd:Int,((if bb then 13 else 12:Nat):Int)=kd:=⟨_,rfl⟩
      rw [hkd] at p5 p6
      have HKD:=lh hkd
      have HP:=lh (And.intro p8 (And.intro p9 (And.intro q3 p7)))
      have LS:=lh (fun W (hX:gX w sg wg FF FF 2000 1600 Q0 W)=>wO (F':=F1) (r := .bool (!bb)) (dn:=2) (dp:=2) hX (fun n p a b=>by
        have c:=MB (w:=W) (sg:=sg) (n:=n) (p:=p) (F:=FF) (Q:=Q0) id64 hbal (by omega) (by omega)
        rw [p1,p2] at c
        exact c))
      have FW:=lh (fun W (hX:gX w sg wg F1 FF (2000+2) (1600+2) Q0 W)=>wO (F':=F2) (r := .bool bb) (dn:=2) (dp:=2) hX (fun n p a b=>by
        have c:=Gx (w:=W) (sg:=sg) (n:=n) (p:=p) (F:=F1) (Q:=Q0) id64 (u := .slice ua l.length uc) (l:=l) ⟨bG.keep HR.out.1 (Jy hX) (fun _ _ x=>x),HR.out.2,by have:=h30;omega⟩ (by
          rcases Nat.eq_zero_or_pos l.length with h0 | h0
          · exact .inl (List.eq_nil_of_length_eq_zero h0)
          · exact .inr (fun k hk=>Qs hX k (bG.ltn HR.out.1 (by omega) k hk))) (by omega) (by omega)
        rw [p3,p4] at c
        exact c))
      have DR:=lh (fun W (hX:gX w sg wg F2 FF (2000+2+2) (1600+2+2) Q0 W)=>wO (F':=F3) (r := .bool true) (dn:=6) (dp:=8) hX (fun n p a b=>by
        have c:=EJ (w:=W) (sg:=sg) (n:=n) (p:=p) (F:=F2) (Q:=Q0) (kind:=kd) id64 (by omega) (by omega)
        rw [p5,p6] at c
        exact c))
      have I64:=lh id64
      clear p1 p2 p3 p4 p5 p6 p7 p8 p9 q3 hq hid hj r0 r1 id64 hkd
      go_upto_region 14 with fail
      refine dD (d := .region 14 (aK 14 Tryz.f9) true) (by kernel_rfl) ?_
      refine RW.wp (qa14 (ba := !bb) (bb:=bb) (S:=fun W=>W.heap[xb]?=some (.cells #[.slice ua l.length uc] 75 (0,0))) (X0:=fun W=>gX w sg wg FF FF 2000 1600 Q0 W∧W.heap[xb]?=some (.cells #[.slice ua l.length uc] 75 (0,0))) (X1:=fun W=>gX w sg wg F1 FF (2000+2) (1600+2) Q0 W∧W.heap[xb]?=some (.cells #[.slice ua l.length uc] 75 (0,0))) (X2:=fun W=>gX w sg wg F2 FF (2000+2+2) (1600+2+2) Q0 W∧W.heap[xb]?=some (.cells #[.slice ua l.length uc] 75 (0,0)))
        ⟨Gi K5.out ((ae.refl ag _).drew),((ae.refl ag _).drew).heap B5.out (fun x=>x)⟩ (fun b' h=>af h 0) (fun _ h=>h.2) (fun _ h=>h.2) (fun _ h=>h.2)
        (fun b' h=>(LS.out b' h.1).mono (fun e w' ⟨x,y,m⟩=>⟨x,y,m.heap h.2 (fun x=>x QX.out)⟩)) (fun b' h=>(FW.out b' h.1).mono (fun e w' ⟨x,y,m⟩=>⟨x,y,m.heap h.2 (fun x=>x QX.out)⟩)) ?_)
      intros
      rename_i we he
      have KE:=lh he.1
      clear he K5 B5 LS FW
      go_upto_if 85 with fail
      go_cut [15] (fun kv wx=>kv = .int .i64 kd∧ae ag we wx)
      case first =>
        cases bb with
        | false =>
          go_wp2
          go_meet
          case rel=>exact⟨by rw [← HKD.out];rfl,ae.refl _ _⟩
        | true =>
          go_wp2
          go_meet
          case rel=>exact⟨by rw [← HKD.out];rfl,ae.refl _ _⟩
      case rest =>
        obtain⟨rfl,hmx⟩:=hcut
        have C:=lh (DR.out _ (Gi KE.out hmx))
        clear hmx KE DR
        have hAB:∀ W,(binOp .eql 4 (.bool (!bb)) (.bool bb)).run Tryz.prog W = .ok (.bool false) W:=fun W=>by cases bb <;> kernel_rfl
        go_wp2_with fail
        refine C.out.mono ?_
        rintro e wf ⟨rfl,gf,mf⟩
        have KF:=lh (zN gf (K2:=3000+10) (P2:=2000) (by omega) (by omega))
        clear gf mf C hAB
        have hwN:IntKind.u64.wrap (i:Int)=(i:Int):=by rw [wrap_u64];omega
        go_wp2
        go_loopw [16] (fun x wr=>∃ k:Nat,1≤k∧k≤i+1∧x = .int .u64 ((k:Nat):Int)∧Hid (∃ Qc,gX w sg wg F3 FF (3000+10*k) 2000 Qc wr)) (fun x _=>i+1 - (intOf x).toNat)
        case atStart=>exact⟨1,Nat.le_refl _,by omega,rfl,lh ⟨_,KF.out⟩⟩
        case round =>
          clear KF
          obtain⟨k,hk1,hk2,rfl,hK⟩:=hrel
          by_cases hle:k≤i
          · obtain⟨Qc,hT⟩:=hK.out
            have H0:=lh hT
            have hk64:aU k:=by unfold aU;omega
            obtain⟨k2,hkk⟩:∃ k2,k+1=k2:=⟨_,rfl⟩
            have t5:IntKind.u64.wrap ((k:Int)+1)=(k2:Int):=by rw [wrap_u64];omega
            have KK:=lh hkk
            obtain⟨n0,n1,n2,n3,n4,n5,hu1,_⟩:=oJ ((gQ F3 12 k 0).getD [])
            have hu1:uG F3 k=[n0,n1,n2,n3,n4,n5]:=hu1
            obtain⟨b1,hb1⟩:∃ b1,uB F3 k=b1:=⟨_,rfl⟩
            obtain⟨m0,m1,m2,m3,m4,m5,l1,hm1,_⟩:=qK ((gQ F3 13 k 0).getD [])
            have hm1:mG F3 k=([m0,m1,m2,m3,m4,m5],l1):=hm1
            obtain⟨b3,hb3⟩:∃ b3,mB F3 k=b3:=⟨_,rfl⟩
            obtain⟨k0,k1,k2',k3,k4,k5,hu2,_⟩:=oJ ((gQ FF 12 k 0).getD [])
            have hu2:uG FF k=[k0,k1,k2',k3,k4,k5]:=hu2
            obtain⟨b2,hb2⟩:∃ b2,uB FF k=b2:=⟨_,rfl⟩
            obtain⟨p0,p1,p2,p3,p4,p5,l2,hm2,_⟩:=qK ((gQ FF 13 k 0).getD [])
            have hm2:mG FF k=([p0,p1,p2,p3,p4,p5],l2):=hm2
            obtain⟨b4,hb4⟩:∃ b4,mB FF k=b4:=⟨_,rfl⟩
            have E1:=lh (show k=id→b1=false∧b3=false from fun hkid=>⟨hb1.symm.trans (Ej (DY HP.out.2.2.1 hk64 (fun e he=>by rw [hkid];exact HP.out.2.1 e he) (.inl rfl))),hb3.symm.trans (Eg (DY HP.out.2.2.1 hk64 (fun e he=>by rw [hkid];exact HP.out.2.1 e he) (.inr rfl)))⟩)
            have E2:=lh (show k≠id→(n0=k0∧n1=k1∧n2=k2'∧n3=k3∧n4=k4∧n5=k5)∧b1=b2∧(m0=p0∧m1=p1∧m2=p2∧m3=p3∧m4=p4∧m5=p5∧l1=l2)∧b3=b4 from fun hkid=>by
              have g1:=Ez QI1.out HP.out.2.2.1 hk64 (fun e he=>HP.out.1 e (by rw [he];exact hkid)) (k:=12) (.inl rfl)
              have g2:=Ez QI1.out HP.out.2.2.1 hk64 (fun e he=>HP.out.1 e (by rw [he];exact hkid)) (k:=13) (.inr rfl)
              have x1:uG F3 k=uG FF k:=by unfold uG;rw [g1]
              have x2:uB F3 k=uB FF k:=by unfold uB;rw [g1]
              have x3:mG F3 k=mG FF k:=by unfold mG;rw [g2]
              have x4:mB F3 k=mB FF k:=by unfold mB;rw [g2]
              rw [hu1,hu2] at x1
              rw [hb1,hb2] at x2
              rw [hm1,hm2] at x3
              rw [hb3,hb4] at x4
              simp only [Prod.mk.injEq,List.cons.injEq,and_true] at x1 x3
              exact⟨x1,x2,⟨x3.1.1,x3.1.2.1,x3.1.2.2.1,x3.1.2.2.2.1,x3.1.2.2.2.2.1,x3.1.2.2.2.2.2,x3.2⟩,x4⟩)
            have KB:=lh (And.intro hk1 (And.intro hk2 hle))
            clear hK hT hkk
            have C1:=lh (PX H0.out hk64 (by omega) (by omega) hu1 hb1)
            go_wp2_with fail
            refine C1.out.mono ?_
            rintro e wA0 ⟨rfl,hA,mA⟩
            obtain⟨wA,hwA⟩:∃ wA,wA=wA0.alloc (Obj.cells #[.int .u64 n0,.int .u64 n1,.int .u64 n2,.int .u64 n3,.int .u64 n4,.int .u64 n5] 73):=⟨_,rfl⟩
            have mA1:ae ag wA0 wA:=by rw [hwA];exact (ae.refl _ _).alloc _
            have bA:wA.heap[wA0.heap.size]?=some (Obj.cells #[.int .u64 n0,.int .u64 n1,.int .u64 n2,.int .u64 n3,.int .u64 n4,.int .u64 n5] 73 (0,0)):=by rw [hwA];exact aF _ _
            have HA:=lh (uf hA mA1 (Nat.le_refl _) bA)
            have WA:=lh hwA
            have BA:=lh bA
            have C2:=lh (Oh HA.out hk64 (by omega) (by omega) hu2 hb2)
            clear hA mA hwA mA1 bA C1 H0
            go_wp2_with fail
            rw [show World.alloc wA0 _=wA from WA.out.symm]
            refine C2.out.mono ?_
            rintro e wB0 ⟨rfl,hB,mB⟩
            obtain⟨wB,hwB⟩:∃ wB,wB=wB0.alloc (Obj.cells #[.int .u64 k0,.int .u64 k1,.int .u64 ((k2':Nat):Int),.int .u64 k3,.int .u64 k4,.int .u64 k5] 73):=⟨_,rfl⟩
            have mB1:ae ag wB0 wB:=by rw [hwB];exact (ae.refl _ _).alloc _
            have bB:wB.heap[wB0.heap.size]?=some (Obj.cells #[.int .u64 k0,.int .u64 k1,.int .u64 ((k2':Nat):Int),.int .u64 k3,.int .u64 k4,.int .u64 k5] 73 (0,0)):=by rw [hwB];exact aF _ _
            have HB:=lh (uf hB mB1 (Nat.le_refl _) bB)
            have WB:=lh hwB
            have BA2:=lh (mB1.heap (mB.heap BA.out (fun x=>x (.inr rfl))) (fun x=>x))
            have BB:=lh bB
            have C3:=lh (Pi HB.out hk64 (by omega) (by omega) hm1 hb3)
            clear hB mB hwB mB1 bB C2 HA BA WA
            go_wp2_with fail
            rw [show World.alloc wB0 _=wB from WB.out.symm]
            refine C3.out.mono ?_
            rintro e wC0 ⟨aC,cC,rfl,eC,hC,mC⟩
            obtain⟨wC,hwC⟩:∃ wC,wC=wC0.alloc (Obj.cells #[.int .u64 m0,.int .u64 m1,.int .u64 m2,.int .u64 m3,.int .u64 m4,.int .u64 m5,.slice aC l1.length cC] 77):=⟨_,rfl⟩
            have mC1:ae ag wC0 wC:=by rw [hwC];exact (ae.refl _ _).alloc _
            have bC:wC.heap[wC0.heap.size]?=some (Obj.cells #[.int .u64 m0,.int .u64 m1,.int .u64 m2,.int .u64 m3,.int .u64 m4,.int .u64 m5,.slice aC l1.length cC] 77 (0,0)):=by rw [hwC];exact aF _ _
            have HC:=lh (uf hC mC1 (Nat.le_refl _) bC)
            have WC:=lh hwC
            have BA3:=lh (mC1.heap (mC.heap BA2.out (fun x=>x (.inl (.inr rfl)))) (fun x=>x))
            have BB2:=lh (mC1.heap (mC.heap BB.out (fun x=>x (.inr rfl))) (fun x=>x))
            have BC:=lh bC
            have EC:=lh (bG.keep eC mC1 (fun _ _ x=>x))
            have C4:=lh (Nl HC.out hk64 (by omega) (by omega) hm2 hb4)
            clear hC mC hwC mC1 bC C3 HB BA2 BB WB eC
            go_wp2_with fail
            rw [show World.alloc wC0 _=wC from WC.out.symm]
            refine C4.out.mono ?_
            rintro e wD0 ⟨aD,cD,rfl,eD,hD,mD⟩
            obtain⟨wD,hwD⟩:∃ wD,wD=wD0.alloc (Obj.cells #[.int .u64 p0,.int .u64 p1,.int .u64 p2,.int .u64 p3,.int .u64 p4,.int .u64 p5,.slice aD l2.length cD] 77):=⟨_,rfl⟩
            have mD1:ae ag wD0 wD:=by rw [hwD];exact (ae.refl _ _).alloc _
            have bD:wD.heap[wD0.heap.size]?=some (Obj.cells #[.int .u64 p0,.int .u64 p1,.int .u64 p2,.int .u64 p3,.int .u64 p4,.int .u64 p5,.slice aD l2.length cD] 77 (0,0)):=by rw [hwD];exact aF _ _
            have HD:=lh (uf hD mD1 (Nat.le_refl _) bD)
            have WD:=lh hwD
            have BA4:=lh (mD1.heap (mD.heap BA3.out (fun x=>x (.inl (.inl (.inl (.inr rfl)))))) (fun x=>x))
            have BB3:=lh (mD1.heap (mD.heap BB2.out (fun x=>x (.inl (.inl (.inr rfl))))) (fun x=>x))
            have BC2:=lh (mD1.heap (mD.heap BC.out (fun x=>x (.inr rfl))) (fun x=>x))
            have BD:=lh bD
            have EC2:=lh (show RN wD (.slice aC l1.length cC) l1 from bG.keep (RN.keepW EC.out mD (by
              rcases Nat.eq_zero_or_pos l1.length with h0 | h0
              · exact .inl (List.eq_nil_of_length_eq_zero h0)
              · exact .inr (fun k hk x=>x (.inl (.inr ⟨List.length_pos_iff.1 h0,hk⟩))))) mD1 (fun _ _ x=>x))
            have ED:=lh (show RN wD (.slice aD l2.length cD) l2 from bG.keep eD mD1 (fun _ _ x=>x))
            have HX:=lh (show ∃ Qc,gX w sg wg F3 FF (3000+10*(k+1)) 2000 Qc wD from⟨_,zN HD.out (by omega) (by omega)⟩)
            clear hD mD hwD mD1 bD C4 HC HD BA3 BB2 BC WC eD EC
            by_cases hkid:k=id
            · obtain⟨rfl,rfl⟩:=E1.out hkid
              have hkI:(k:Int)=(id:Int):=by omega
              go_wp2
              go_roundw
              case rel=>exact⟨k2,by have:=KK.out;omega,by have:=KK.out;have:=KB.out;omega,by have:=KK.out;go_num,lh (by rw [← KK.out,WD.out.symm];exact HX.out)⟩
              case measure=>have:=KK.out;have:=KB.out;simp [intOf];omega
            · obtain⟨⟨rfl,rfl,rfl,rfl,rfl,rfl⟩,rfl,⟨rfl,rfl,rfl,rfl,rfl,rfl,rfl⟩,rfl⟩:=E2.out hkid
              have hkI:¬ (k:Int)=(id:Int):=by omega
              have MV:=lh (yz (n0:=m0) (n1:=m1) (n2:=m2) (n3:=m3) (n4:=m4) (n5:=m5) EC2.out ED.out)
              have hE:∀ W,(binOp .neq 73 (.agg #[.int .u64 n0,.int .u64 n1,.int .u64 n2,.int .u64 n3,.int .u64 n4,.int .u64 n5]) (.agg #[.int .u64 n0,.int .u64 n1,.int .u64 n2,.int .u64 n3,.int .u64 n4,.int .u64 n5])).run Tryz.prog W = .ok (.bool false) W:=fun W=>AX W
              have hB1:∀ W,(binOp .neq 4 (.bool b1) (.bool b1)).run Tryz.prog W = .ok (.bool false) W:=fun W=>by cases b1 <;> kernel_rfl
              have hB3:∀ W,(binOp .neq 4 (.bool b3) (.bool b3)).run Tryz.prog W = .ok (.bool false) W:=fun W=>by cases b3 <;> kernel_rfl
              have xa0:=af BA4.out 0
              have xa1:=af BA4.out 1
              have xa2:=af BA4.out 2
              have xa3:=af BA4.out 3
              have xa4:=af BA4.out 4
              have xa5:=af BA4.out 5
              have xc0:=af BB3.out 0
              have xc1:=af BB3.out 1
              have xc2:=af BB3.out 2
              have xc3:=af BB3.out 3
              have xc4:=af BB3.out 4
              have xc5:=af BB3.out 5
              have ya0:=af BC2.out 0
              have ya1:=af BC2.out 1
              have ya2:=af BC2.out 2
              have ya3:=af BC2.out 3
              have ya4:=af BC2.out 4
              have ya5:=af BC2.out 5
              have ya6:=af BC2.out 6
              have yc0:=af BD.out 0
              have yc1:=af BD.out 1
              have yc2:=af BD.out 2
              have yc3:=af BD.out 3
              have yc4:=af BD.out 4
              have yc5:=af BD.out 5
              have yc6:=af BD.out 6
              go_upto_region 30 with fail
              rw [show World.alloc wD0 _=wD from WD.out.symm]
              go_wp2_with fail
              refine MV.out.mono ?_
              rintro e wz ⟨rfl,mz⟩
              have HZ:=lh (show ∃ Qc,gX w sg wg F3 FF (3000+10*k2) 2000 Qc wz from by
                obtain⟨Qc,h⟩:=HX.out
                exact⟨Qc,by rw [← KK.out];exact Gi h mz⟩)
              clear mz HX MV xa0 xa1 xa2 xa3 xa4 xa5 xc0 xc1 xc2 xc3 xc4 xc5 ya0 ya1 ya2 ya3 ya4 ya5 ya6 yc0 yc1 yc2 yc3 yc4 yc5 yc6
              go_wp2
              go_roundw
              case rel=>exact⟨k2,by have:=KK.out;omega,by have:=KK.out;have:=KB.out;omega,by have:=KK.out;go_num,HZ⟩
              case measure=>have:=KK.out;have:=KB.out;simp [intOf];omega
          · obtain⟨T,hT,hTq,hTd,hTl⟩:=EK HP.out.2.2.1
            have hTi:T.length+1=i:=by rw [hTl];exact HP.out.2.2.2
            obtain⟨Qc,kn,kp,kn2,kp2,g,h1,h2,h3,h4⟩:=hK.out
            have c:=g.call (GC.frame (Lm (sg:=sg) (n:=kn) (p:=kp) (F:=F3) (h:=18446744073709551615) (T:=T) (by unfold aU;omega) hT hTq (by omega) (by omega)) aS)
            simp only [hTd] at c
            have C:=lh c
            have HT:=lh hTi
            clear c hTi hT hTq hTd hTl g hK
            go_wp2_with fail
            refine C.out.mono ?_
            rintro e wz ⟨v,P',Nn,rfl,⟨P1,rfl,o,rfl,rfl⟩,gd,_,md⟩
            obtain⟨da,dc,rfl,_⟩:=o.rd.form
            have MD:=lh gd.mods
            have q7:IntKind.i64.wrap ((i:Int) - 1)=(T.length:Int):=by
              have:=HT.out
              simp only [IntKind.wrap,IntKind.signed,IntKind.bits]
              simp
              omega
            clear o gd md C
            go_wp2
            go_ret
            exact⟨by simp,MD.out⟩
end Go.Proofs.YtglkmaalpammcaaGreat

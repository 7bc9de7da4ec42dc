/- QueueOrder: the walk. -/
import Derived.Test.YtglkmaalpammcaaGreatQuO
import Derived.Deep.DeepCutAuto
namespace Go.Proofs.YtglkmaalpammcaaGreat
open Go.Gl Go.RowKit
set_option linter.unusedVariables false
set_option maxRecDepth 100000
def kqN (x:Nat):List aN:=bZ [] (qk 2 0 0) (iV 3 x)
structure uI (w:World) (v:Value) (T:List TE):Prop where
 o:aT w 86 2 v T.length (ecs T)
theorem uI.keep {w w':World}{v:Value}{T:List TE}{S:Nat→Prop} (h:uI w v T) (m:ae S w w') (hs:∀ k,v.ownBlock=some k→¬ S k):uI w' v T:=⟨aT.keep h.o m hs⟩
theorem uI.at {w:World}{v:Value}{T:List TE} (h:uI w v T) (h0:0<T.length):∃ b off cap,v = .slice (some ⟨b,off,none⟩) T.length cap∧b<w.heap.size∧∀ i t,T[i]?=some t→∀ w',ae ai w w'→w'.cell? ⟨b,off+i*2,none⟩=some (.int .u64 ((t.2.1:Nat):Int)):=by
 rcases h.o.rd.2 with ⟨_,h1⟩ | ⟨b,off,cap,hv,_,_,hb,hc⟩
 ·omega
 ·have hb':=hb.resolve_left (by omega)
  exact⟨b,off,cap,hv,hb',fun i t ht w' m=>by
   rw [m.cellAt hb' (fun x=>x)]
   exact hc (i*2+0) _ (zL ht rfl)⟩
def rW (ss:List bi) (k d v:Nat):Nat:=(ss.take k).countP (fun s=>decide (s.own=d∧s.src=v))
theorem IJ {ss:List bi}{k:Nat} (hk:k<ss.length) (d v:Nat):rW ss (k+1) d v=rW ss k d v+if ss[k].own=d∧ss[k].src=v then 1 else 0:=by
 unfold rW
 rw [List.take_succ_eq_append_getElem hk,List.countP_append,List.countP_cons,List.countP_nil]
 by_cases h:ss[k].own=d∧ss[k].src=v
 ·simp [h]
 ·rw [if_neg h];simp [h]
theorem OZ (ss:List bi) (k d v:Nat):rW ss k d v≤ss.length:=Nat.le_trans List.countP_le_length (by rw [List.length_take];omega)
theorem NV {a b:Nat} (h:a+1=b) (hb:b≤1000000):IntKind.u64.wrap ((a:Int)+1)=(b:Int):=by rw [wrap_u64];omega
theorem FY {T:List TE} (hs:T.Pairwise (fun s t=>s.2.1<t.2.1)):T.Nodup:=hs.imp (fun {a b} hab e=>by subst e;omega)
theorem MI {T:List TE}{es:List QE}{v:Nat} (hs:T.Pairwise (fun s t=>s.2.1<t.2.1)) (hm:∀ t,t∈T↔∃ e∈es,e.v=v∧t=(e.v,e.id,e.k)):T.length≤es.length:=by
 have:=uw (b:=es.map (fun e=>((e.v,e.id,e.k):TE))) (FY hs) (fun x hx=>by
  obtain⟨e,he,_,rfl⟩:=(hm x).1 hx
  exact List.mem_map.2 ⟨e,he,rfl⟩)
 simpa using this
def FrG (w:World) (sg:Nat) (FF:List aN) (K:Nat) (T:List TE) (v:Value) (W:World):Prop:=uI W v T∧∃ kn kp Q,G1 w W (aP sg FF kn kp) Q∧(∀ k,v.ownBlock=some k→Q k)∧kn≤K∧kp≤2000
def pz (w:World) (sg:Nat) (FF:List aN) (K:Nat) (W:World):Prop:=∃ kn kp Q,G1 w W (aP sg FF kn kp) Q∧kn≤K∧kp≤2000
theorem sF {w W W':World}{sg K:Nat}{FF:List aN} (h:pz w sg FF K W) (m:ae ai W W'):pz w sg FF K W':=by
 obtain⟨a,b,c,g,d,e⟩:=h
 exact⟨a,b,c,g.keep0 aS m,d,e⟩
theorem Ia {w W:World}{sg K d v c0:Nat}{FF:List aN} (h:pz w sg FF K W) (hK:K≤1000000) (hd:aU d) (hv:aU v) (hc:kV FF d v=c0):Calls Tryz.prog 42 #[.pointer (some ⟨sg,0,none⟩),.int .u64 ((d:Nat):Int),.int .u64 ((v:Nat):Int)] W fun e w'=>e = .returned (.int .u64 ((c0:Nat):Int))∧pz w sg FF (K+1) w':=by
 obtain⟨kn,kp,Q,g,h1,h2⟩:=h
 have c:=nN (w:=W) (sg:=sg) (n:=kn) (p:=kp) (F:=FF) (Q:=Q) hd hv (by omega) (by omega)
 rw [hc] at c
 exact (g.calls c).mono fun r w' ⟨a,b,_⟩=>⟨a,_,_,_,b,by omega,h2⟩
theorem JD {w W:World}{sg K a:Nat}{FF:List aN}{T:List TE} (h:pz w sg FF K W) (hK:K≤1000000) (ha:aU a) (ht:FF.filter (fun e=>bu (101 :: be 8 a) e.1)=l9 15 T) (hq:∀ t∈T,QK 15 t.1 t.2.1∧t.2.2≤17):Calls Tryz.prog 39 #[.pointer (some ⟨sg,0,none⟩),.int .u64 ((a:Nat):Int)] W fun e w'=>∃ v,e = .returned v∧FrG w sg FF (K+2001) T v w':=by
 obtain⟨kn,kp,Q,g,h1,h2⟩:=h
 refine (g.call (Lt ha ht hq (by omega) (by omega))).mono ?_
 rintro e w' ⟨v,P',N,rfl,⟨o,rfl,rfl⟩,g',_,m⟩
 exact⟨v,rfl,⟨o⟩,_,_,_,g',fun k hk => .inr hk,by omega,h2⟩
theorem OA {W:World}{s:bi} (h:bi.Ok W s):aU s.src∧aU s.own:=by
 have:=Lr h (id:=0) (by unfold aU;omega)
 exact⟨this.v,this.d⟩
set_option maxHeartbeats 64000000 in
theorem BC (v0:Value) (ss:List bi) (w:World) (h0:KP w v0 ss):Calls Tryz.prog 6 #[v0] w fun e w'=>e = .returned (.bool true)∧ae ai w w':=by
  have KN:=lh (BM w)
  have LI:=lh (fun W (m:ae ai w W)=>Ep (w0:=w) (kQ.keep h0 m))
  obtain⟨a0,N,c0,rfl,hN,hc0,hb0,g0⟩:=kQ.form h0
  have G0:=lh g0
  have N0:=lh hN
  clear h0 g0 hN
  go_enter Tryz.func6,Tryz.ntmps6
  go_wp2_with fail
  refine KN.out.mono ?_
  rintro e w1 ⟨rfl,m1⟩
  have M1:=lh m1
  clear KN m1
  go_wp2_with fail
  refine (LI.out w1 M1.out).mono ?_
  rintro e w2 ⟨lb,rfl,hlb,m2⟩
  have M2:=lh (M1.out.then0 m2)
  clear LI m2 M1
  cases lb with
  | false =>
    go_wp2
    go_ret
    exact⟨rfl,M2.out⟩
  | true =>
  have HL:=lh (hlb rfl)
  have hN150:N≤150:=by have:=(hlb rfl).1;rw [N0.out] at this;exact this
  clear hlb
  have HOK:=lh (show ∀ s∈ss,bi.Ok w s from fun s hs=>by
    obtain⟨i,hi,rfl⟩:=List.mem_iff_getElem.1 hs
    rcases G0.out with h | ⟨g,off,_,_,h⟩
    · rw [N0.out] at hi;omega
    · exact (h i hi).2)
  have q0:=IA (h:=3) (nx:=1) (fE (by omega)) (fE (by omega))
  have q1:=Ov ss q0 HOK.out (by rw [N0.out];omega) (by rw [N0.out];simp;omega)
  rw [List.nil_append] at q1
  obtain⟨T,hT,hTs,hTm⟩:=PG q1
  have hTl:T.length=N:=by rw [NJ hTs q1.inc hTm,uH,N0.out]
  have hTd:oU 18446744073709551615 T=T:=NC (fun t ht=>by
    obtain⟨e,he,rfl⟩:=(hTm t).1 ht
    exact (q1.ok e he).1.t)
  have hTq:=LV q1 hTm
  have TM:=lh (show ∀ (i:Nat) (t:TE),T[i]?=some t→∃ (j:Nat) (hj:j<ss.length),t.2.1=j+1∧t.1=ss[j].due from fun i t ht=>by
    obtain⟨e,he,rfl⟩:=(hTm t).1 (List.mem_of_getElem? ht)
    obtain⟨j,s,hj,rfl⟩:=J9.1 he
    obtain⟨hjl,rfl⟩:=List.getElem?_eq_some_iff.1 hj
    exact⟨j,hjl,by show 1+j=j+1;omega,rfl⟩)
  have TS:=lh (show ∀ (i:Nat) (h1:i<T.length) (h2:i+1<T.length),T[i].1<T[i+1].1∨(T[i].1=T[i+1].1∧T[i].2.1<T[i+1].2.1) from fun i h1 h2=>List.pairwise_iff_getElem.1 hTs i (i+1) h1 h2 (by omega))
  obtain⟨FF,hFF⟩:∃ FF,nC (kqN 1) ss=FF:=⟨_,rfl⟩
  have hFF':nC (bZ [] (qk 2 0 0) (iV 3 1)) ss=FF:=hFF
  rw [hFF'] at q1 hT
  have QI1:=lh q1
  have DU:=lh (fun (W:World) (sg n p:Nat) (Q:Nat→Prop) (hn:n≤1000000) (hp:p≤50000)=>II (w:=W) (sg:=sg) (n:=n) (p:=p) (Q:=Q) (F:=FF) (h:=18446744073709551615) (T:=T) (by unfold aU;omega) hT hTq (by omega) (by omega))
  rw [hTd] at DU
  have HTL:=lh hTl
  have HF:=lh hFF
  clear q0 q1 hT hTs hTm hTl hTd hTq hFF hFF'
  go_wp2_with fail
  refine (xP (nx:=1) (fE (by omega)) w2).mono ?_
  rintro e w3 ⟨sg,rfl,g3⟩
  have K3:=lh (show G1 w w3 (aP sg (kqN 1) 1 2) (fun k=>k<w.heap.size) from (g3.base M2.out).less (fun k hk=>Nat.lt_of_lt_of_le hk M2.out.size) (fun k hk=>hk))
  clear g3 M2
  go_wp2
  go_loopw [4] (fun x wr=>∃ i:Nat,i≤N∧x = .int .i64 i∧Hid (∃ kn kp,G1 w wr (aP sg (nC (kqN 1) (ss.take i)) kn kp) (fun k=>k<w.heap.size)∧kn≤1+7*i∧kp≤2+10*i)) (fun x _=>N - (intOf x).toNat)
  case atStart=>exact⟨0,Nat.zero_le _,rfl,lh ⟨1,2,K3.out,Nat.le_refl _,Nat.le_refl _⟩⟩
  case round =>
    clear K3
    obtain⟨i,hi,rfl,hI⟩:=hrel
    by_cases hlt:i<N
    · obtain⟨kn,kp,kv,hkn,hkp⟩:=hI.out
      have hil:i<ss.length:=by rw [N0.out];exact hlt
      obtain⟨g,off,rfl,_⟩:=G0.out.resolve_left (by omega)
      have st:=vw G0.out rfl kv.mods N0.out hil
      have ST:=lh st
      have KK:=lh kv
      have h30:=HL.out.2 _ (List.getElem_mem hil)
      have H30:=lh h30
      have hFs:=FK (kqN 1) hil
      have HFS:=lh hFs
      have cw:_root_.Go.World.cell? _ ⟨g,off+i*16,none⟩=some (.int .i64 ss[i].what):=st.c 0 _ rfl
      have t1:=yY _ st.ok.w1 st.ok.w2
      have he:ss[i].ev=decide (Int.tmod ss[i].what 2=0):=rfl
      generalize ss[i]=s at *
      have KB:=lh (And.intro hkn hkp)
      obtain⟨tm,htm⟩:∃ tm,Int.tmod s.what 2=tm:=⟨_,rfl⟩
      rw [htm] at t1 he
      clear hI st kv h30 hFs hkn hkp
      by_cases hev:tm=0
      · rw [decide_eq_true hev] at he
        have C:=lh (f_unb (sg:=sg) ST.out.ok he (by have:=KB.out;omega) (by have:=KB.out;omega) KK.out)
        rw [← HFS.out] at C
        go_upto_region 10 with fail
        refine bK (d := .region 10 (aG 10 Tryz.f6) false) (by kernel_rfl) ?_
        refine RW.wp (qo10 hlt (by omega) ST.out.u C.out ?_)
        intros
        rename_i wa ha
        have K4:=lh ha
        clear ha C ST KK cw
        go_wp2
        go_roundw
        case rel=>exact⟨i+1,by omega,by go_num,lh ⟨_,_,K4.out,by have:=KB.out;omega,by have:=KB.out;omega⟩⟩
        case measure=>simp [intOf];omega
      · rw [decide_eq_false hev] at he
        have C:=lh (f_mov (sg:=sg) ST.out.ok he H30.out (by have:=KB.out;omega) (by have:=KB.out;omega) KK.out)
        rw [← HFS.out] at C
        go_upto_region 11 with fail
        refine bK (d := .region 11 (aG 11 Tryz.f6) false) (by kernel_rfl) ?_
        refine RW.wp (qo11 hlt (by omega) ST.out.m C.out ?_)
        intros
        rename_i wa ha
        have K4:=lh ha
        clear ha C ST KK cw
        go_wp2
        go_roundw
        case rel=>exact⟨i+1,by omega,by go_num,lh ⟨_,_,K4.out,by have:=KB.out;omega,by have:=KB.out;omega⟩⟩
        case measure=>simp [intOf];omega
    · obtain rfl:i=N:=by omega
      obtain⟨kn,kp,kv,hkn,hkp⟩:=hI.out
      rw [List.take_of_length_le (by rw [N0.out];exact Nat.le_refl _),HF.out] at kv
      have C:=lh (kv.call (DU.out _ sg kn kp _ (by omega) (by omega)))
      have KB:=lh (And.intro hkn hkp)
      clear hI kv hkn hkp DU HF
      go_wp2_with fail
      refine C.out.mono ?_
      rintro e wd ⟨v,P',Nn,rfl,⟨o,rfl,rfl⟩,gd,_,md⟩
      obtain⟨da,dc,rfl,_⟩:=o.rd.form
      have ED:=lh (uI.mk o)
      have KD:=lh (show pz w sg FF 10000 wd from⟨_,_,_,gd,by have:=KB.out;omega,by have:=KB.out;omega⟩)
      have MD:=lh gd.mods
      clear o gd md C KB
      go_wp2
      go_loopw [6] (fun x wr=>∃ q:Nat,q≤i∧x = .int .i64 ((q+1:Nat):Int)∧ae ai wd wr) (fun x _=>i+1 - (intOf x).toNat)
      case atStart=>exact⟨0,Nat.zero_le _,rfl,ae.refl _ _⟩
      case round =>
        obtain⟨q,hq,rfl,hm⟩:=hrel
        by_cases hl2:q+1<T.length
        · have hq2:q+1<i:=by have:=HTL.out;omega
          obtain⟨h,offh,cb,hv,hbl,hat⟩:=ED.out.at (by omega)
          cases hv
          have ht1:T[q]?=some T[q]:=List.getElem?_eq_getElem (by omega)
          have ht2:T[q+1]?=some T[q+1]:=List.getElem?_eq_getElem (by omega)
          obtain⟨j1,hj1,e1,f1⟩:=TM.out q _ ht1
          obtain⟨j2,hj2,e2,f2⟩:=TM.out (q+1) _ ht2
          have ts:=TS.out q (by omega) hl2
          rw [e1,e2,f1,f2] at ts
          have A1:=lh (fun W (m:ae ai wd W)=>e1▸hat q _ ht1 W m)
          have A2:=lh (fun W (m:ae ai wd W)=>e2▸hat (q+1) _ ht2 W m)
          obtain⟨g,off,rfl,_⟩:=G0.out.resolve_left (by omega)
          have S1:=lh (fun W (m:ae ai wd W)=>zZ (N:=i) (ca:=c0) (vw G0.out rfl (MD.out.then0 m) N0.out hj1) (by rw [← N0.out];exact hj1) (by omega) (MD.out.then0 m))
          have S2:=lh (fun W (m:ae ai wd W)=>zZ (N:=i) (ca:=c0) (vw G0.out rfl (MD.out.then0 m) N0.out hj2) (by rw [← N0.out];exact hj2) (by omega) (MD.out.then0 m))
          generalize ss[j1].due=d1 at *
          generalize ss[j2].due=d2 at *
          have HM:=lh hm
          clear ht1 ht2 e1 e2 f1 f2 hat hm
          go_upto_region 16 with fail
          refine bK (d := .region 16 (aG 16 Tryz.f6) true) (by kernel_rfl) ?_
          refine RW.wp (qo16 (a:=j1+1) (b:=j2+1) (ta:=d1) (tb:=d2) hl2 (by have:=HTL.out;omega) (fun b' m=>A1.out b' (HM.out.then0 m)) (fun b' m=>A2.out b' (HM.out.then0 m)) (fun b' m=>(S1.out b' (HM.out.then0 m)).mono (fun e w' ⟨x,y⟩=>⟨x,m.then0 y⟩)) (fun b' m=>(S2.out b' (HM.out.then0 m)).mono (fun e w' ⟨x,y⟩=>⟨x,m.then0 y⟩)) ?_)
          intros
          rename_i wb hb
          have HB:=lh (HM.out.then0 hb)
          clear hb HM S1 S2
          rcases ts with ts | ⟨ts,ts'⟩
          · go_upto_region 17 with fail
            refine bK (d := .region 17 (aG 17 Tryz.f6) true) (by kernel_rfl) ?_
            refine RW.wp (qo17l (a:=j1+1) (b:=j2+1) hl2 (by have:=HTL.out;omega) (fun b' m=>A1.out b' (HB.out.then0 m)) (fun b' m=>A2.out b' (HB.out.then0 m)) ts ?_)
            intros
            rename_i wc hc
            have HC:=lh (HB.out.then0 hc)
            clear hc HB A1 A2
            go_wp2
            go_roundw
            case rel=>exact⟨q+1,by omega,by go_num,HC.out⟩
            case measure=>simp [intOf];omega
          · go_upto_region 17 with fail
            refine bK (d := .region 17 (aG 17 Tryz.f6) true) (by kernel_rfl) ?_
            refine RW.wp (qo17e (a:=j1+1) (b:=j2+1) hl2 (by have:=HTL.out;omega) (fun b' m=>A1.out b' (HB.out.then0 m)) (fun b' m=>A2.out b' (HB.out.then0 m)) ⟨ts,ts'⟩ ?_)
            intros
            rename_i wc hc
            have HC:=lh (HB.out.then0 hc)
            clear hc HB A1 A2
            go_wp2
            go_roundw
            case rel=>exact⟨q+1,by omega,by go_num,HC.out⟩
            case measure=>simp [intOf];omega
        · have K5:=lh (sF KD.out hm)
          clear hm KD ED TM TS MD
          go_wp2
          go_loopw [9] (fun x wr=>∃ j:Nat,j≤i∧x = .int .i64 j∧Hid (pz w sg FF (10000+3000*j) wr)) (fun x _=>i - (intOf x).toNat)
          case atStart=>exact⟨0,Nat.zero_le _,rfl,K5⟩
          case round =>
            clear K5
            obtain⟨j,hj,rfl,hJ⟩:=hrel
            by_cases hl3:j<i
            · have hjl:j<ss.length:=by rw [N0.out];exact hl3
              obtain⟨g,off,rfl,_⟩:=G0.out.resolve_left (by omega)
              have MJ:=lh (show ae ai w _ from by
                obtain⟨_,_,_,g,_⟩:=hJ.out
                exact g.mods)
              have st:=vw G0.out rfl MJ.out N0.out hjl
              obtain⟨us,uo⟩:=OA st.ok
              obtain⟨T2,hT2,hs2,hm2⟩:=OX QI1.out us
              have hl2:T2.length≤i:=by
                have:=MI hs2 hm2
                rw [uH,N0.out] at this
                exact this
              have S2:=lh (show ∀ (q:Nat) (h1:q<T2.length) (h2:q+1<T2.length),T2[q].2.1<T2[q+1].2.1 from fun q h1 h2=>List.pairwise_iff_getElem.1 hs2 q (q+1) h1 h2 (by omega))
              have FRC:=lh (fun W (h:pz w sg FF (10000+3000*j) W)=>JD h (by omega) us hT2 (NL QI1.out hm2))
              have CC:=lh (show kV FF ss[j].own ss[j].src=rW ss i ss[j].own ss[j].src from by
                rw [qi_cn QI1.out uo us (by rw [uH,N0.out];omega),Oc]
                unfold rW
                rw [List.take_of_length_le (by rw [N0.out];exact Nat.le_refl _)])
              have UU:=lh (And.intro us uo)
              have ST:=lh st
              obtain⟨sj,hsj⟩:∃ sj,ss[j]=sj:=⟨_,rfl⟩
              rw [hsj] at ST CC UU FRC
              clear st us uo hT2 hs2 hm2
              go_upto_region 22 with fail
              refine bK (d := .region 22 (aG 22 Tryz.f6) false) (by kernel_rfl) ?_
              refine RW.wp (qo22 (a:=sj.src) (X:=fun W=>pz w sg FF (10000+3000*j) W) (Y:=fun v W=>FrG w sg FF (10000+3000*j+2001) T2 v W) hl3 (by omega) ST.out.c ((gJ _ ST.out.ok).mono (fun e w' ⟨x,y⟩=>⟨x,sF hJ.out y⟩)) (fun w' hX=>FRC.out w' hX) ?_)
              intros
              rename_i v8 w8 hy
              obtain⟨e8,kn8,kp8,Q8,g8,q8,b8,p8⟩:=hy
              obtain⟨fa,fc,rfl,_⟩:=e8.o.rd.form
              have E8:=lh e8
              have M8:=lh g8.mods
              have K8:=lh (show pz w sg FF (10000+3000*j+2001) w8 from⟨_,_,_,g8,b8,p8⟩)
              have SJ:=lh (fun W (m:ae ai w8 W)=>ST.out.keep (M8.out.then0 m) MJ.out)
              clear e8 g8 q8 b8 p8 FRC hJ ST
              go_wp2
              go_loopw [11,12] (fun y x wr'=>∃ k:Nat,k≤i∧x = .int .i64 k∧y = .int .u64 ((rW ss k sj.own sj.src:Nat):Int)∧ae ai w8 wr') (fun _ x _=>i - (intOf x).toNat)
              case atStart=>exact⟨0,Nat.zero_le _,rfl,by simp [rW],ae.refl _ _⟩
              case round =>
                obtain⟨k,hk,rfl,rfl,hm⟩:=hrel
                by_cases hl4:k<i
                · have hkl:k<ss.length:=by rw [N0.out];exact hl4
                  have stk:=vw G0.out rfl (M8.out.then0 hm) N0.out hkl
                  have cs:=IJ hkl sj.own sj.src
                  have cl:=OZ ss (k+1) sj.own sj.src
                  rw [N0.out] at cl
                  obtain⟨sk,hsk⟩:∃ sk,ss[k]=sk:=⟨_,rfl⟩
                  rw [hsk] at stk cs
                  have SK:=lh (fun W (m:ae ai _ W)=>stk.keep ((M8.out.then0 hm).then0 m) (M8.out.then0 hm))
                  have HM:=lh hm
                  have KO:=lh stk.ok
                  obtain⟨c1,hc1⟩:∃ c1,rW ss k sj.own sj.src=c1:=⟨_,rfl⟩
                  obtain⟨c2,hc2⟩:∃ c2,rW ss (k+1) sj.own sj.src=c2:=⟨_,rfl⟩
                  rw [hc1,hc2] at cs
                  rw [hc2] at cl
                  rw [hc1]
                  have JO:=lh (SJ.out w8 (ae.refl _ _)).ok
                  have HC2:=lh hc2
                  clear stk hm hc1 hc2
                  by_cases hs:sk.src=sj.src
                  · by_cases ho:sk.own=sj.own
                    · rw [if_pos ⟨ho,hs⟩] at cs
                      have t1:=NV cs.symm (by omega)
                      go_upto_region 27 with fail
                      refine bK (d := .region 27 (aG 27 Tryz.f6) true) (by kernel_rfl) ?_
                      refine RW.wp (KU (B2:=true) (sk:=sk.src) (si:=sj.src) (ok:=sk.own) (oi:=sj.own) hl3 hl4 (by omega) (fun b' m=>(SK.out b' m).c) (fun b' m=>(SJ.out b' (HM.out.then0 m)).c) hs (fun b' m=>(gJ b' KO.out).mono (fun e w' ⟨x,y⟩=>⟨x,m.then0 y⟩)) (fun b' m=>(gJ b' JO.out).mono (fun e w' ⟨x,y⟩=>⟨x,m.then0 y⟩)) (fun b' m=>(lQ b' KO.out).mono (fun e w' ⟨x,y⟩=>⟨x,m.then0 y⟩)) (fun b' m=>(lQ b' JO.out).mono (fun e w' ⟨x,y⟩=>⟨x,m.then0 y⟩)) (decide_eq_true (by rw [ho])) ?_)
                      intros
                      rename_i wb hb
                      have HB:=lh (HM.out.then0 hb)
                      clear hb HM SK
                      go_wp2
                      go_roundw
                      case rel=>exact⟨k+1,by omega,by go_num,by rw [HC2.out];congr 1;omega,HB.out⟩
                      case measure=>simp [intOf];omega
                    · rw [if_neg (fun x=>ho x.1),Nat.add_zero] at cs
                      go_upto_region 27 with fail
                      refine bK (d := .region 27 (aG 27 Tryz.f6) true) (by kernel_rfl) ?_
                      refine RW.wp (KU (B2:=false) (sk:=sk.src) (si:=sj.src) (ok:=sk.own) (oi:=sj.own) hl3 hl4 (by omega) (fun b' m=>(SK.out b' m).c) (fun b' m=>(SJ.out b' (HM.out.then0 m)).c) hs (fun b' m=>(gJ b' KO.out).mono (fun e w' ⟨x,y⟩=>⟨x,m.then0 y⟩)) (fun b' m=>(gJ b' JO.out).mono (fun e w' ⟨x,y⟩=>⟨x,m.then0 y⟩)) (fun b' m=>(lQ b' KO.out).mono (fun e w' ⟨x,y⟩=>⟨x,m.then0 y⟩)) (fun b' m=>(lQ b' JO.out).mono (fun e w' ⟨x,y⟩=>⟨x,m.then0 y⟩)) (decide_eq_false (by omega)) ?_)
                      intros
                      rename_i wb hb
                      have HB:=lh (HM.out.then0 hb)
                      clear hb HM SK
                      go_wp2
                      go_roundw
                      case rel=>exact⟨k+1,by omega,by go_num,by rw [HC2.out,cs],HB.out⟩
                      case measure=>simp [intOf];omega
                  · rw [if_neg (fun x=>hs x.2),Nat.add_zero] at cs
                    go_upto_region 27 with fail
                    refine bK (d := .region 27 (aG 27 Tryz.f6) true) (by kernel_rfl) ?_
                    refine RW.wp (qo27n (ok:=0) (oi:=0) (B2:=false) (sk:=sk.src) (si:=sj.src) hl3 hl4 (by omega) (fun b' m=>(SK.out b' m).c) (fun b' m=>(SJ.out b' (HM.out.then0 m)).c) hs (fun b' m=>(gJ b' KO.out).mono (fun e w' ⟨x,y⟩=>⟨x,m.then0 y⟩)) (fun b' m=>(gJ b' JO.out).mono (fun e w' ⟨x,y⟩=>⟨x,m.then0 y⟩)) ?_)
                    intros
                    rename_i wb hb
                    have HB:=lh (HM.out.then0 hb)
                    clear hb HM SK
                    go_wp2
                    go_roundw
                    case rel=>exact⟨k+1,by omega,by go_num,by rw [HC2.out,cs],HB.out⟩
                    case measure=>simp [intOf];omega
                · obtain rfl:k=i:=by omega
                  have HM:=lh hm
                  clear hm
                  obtain⟨c1,hc1⟩:∃ c1,rW ss k sj.own sj.src=c1:=⟨_,rfl⟩
                  rw [hc1] at CC
                  rw [hc1]
                  clear hc1
                  go_wp2
                  go_loopw [13] (fun x wr'=>∃ q:Nat,q≤k∧x = .int .i64 ((q+1:Nat):Int)∧ae ai w8 wr') (fun x _=>k+1 - (intOf x).toNat)
                  case atStart=>exact⟨0,Nat.zero_le _,rfl,HM.out⟩
                  case round =>
                    clear HM
                    obtain⟨q,hq,rfl,hm⟩:=hrel
                    by_cases hl5:q+1<T2.length
                    · have hq2:q+1<k:=by omega
                      obtain⟨h,offh,cb,hv,hbl,hat⟩:=E8.out.at (by omega)
                      cases hv
                      have ht1:T2[q]?=some T2[q]:=List.getElem?_eq_getElem (by omega)
                      have ht2:T2[q+1]?=some T2[q+1]:=List.getElem?_eq_getElem (by omega)
                      have ts:=S2.out q (by omega) hl5
                      have HM:=lh hm
                      clear hm
                      go_upto_region 32 with fail
                      refine bK (d := .region 32 (aG 32 Tryz.f6) true) (by kernel_rfl) ?_
                      refine RW.wp (qo32 (a:=T2[q].2.1) (b:=T2[q+1].2.1) hl5 (by omega) (fun b' m=>hat q _ ht1 b' (HM.out.then0 m)) (fun b' m=>hat (q+1) _ ht2 b' (HM.out.then0 m)) ts ?_)
                      intros
                      rename_i wb hb
                      have HB:=lh (HM.out.then0 hb)
                      clear hb HM hat ht1 ht2 ts
                      go_wp2
                      go_roundw
                      case rel=>exact⟨q+1,by omega,by go_num,HB.out⟩
                      case measure=>simp [intOf];omega
                    · have HM:=lh hm
                      have JO:=lh (SJ.out w8 (ae.refl _ _)).ok
                      clear hm
                      go_upto_region 34 with fail
                      refine bK (d := .region 34 (aG 34 Tryz.f6) true) (by kernel_rfl) ?_
                      refine RW.wp (qo34 (o1:=sj.own) (s1:=sj.src) (c:=c1) (X0:=fun W=>pz w sg FF (10000+3000*j+2001) W) (S:=fun W=>ae ai w W) (X:=fun W=>pz w sg FF (10000+3000*j+2001+1) W) (sF (sF K8.out HM.out) ((ae.refl ai _).drew)) (fun b' hX=>by
                        obtain⟨_,_,_,g,_⟩:=hX
                        exact g.mods) hl3 (by omega) (fun b' m=>(oP.keep (SJ.out w8 (ae.refl _ _)) m M8.out).c) (fun b' hX=>(lQ b' JO.out).mono (fun e w' ⟨x,y⟩=>⟨x,sF hX y⟩)) (fun b' hX=>(gJ b' JO.out).mono (fun e w' ⟨x,y⟩=>⟨x,sF hX y⟩)) (fun b' hX=>(Ia hX (by omega) UU.out.2 UU.out.1 CC.out).mono (fun e w' ⟨x,y⟩=>⟨x,by
                        obtain⟨_,_,_,g,_⟩:=y
                        exact g.mods,y⟩)) ?_)
                      intros
                      rename_i wb hb
                      have HB:=lh (show pz w sg FF (10000+3000*(j+1)) wb from by
                        obtain⟨a,b,c,g,d,e⟩:=hb
                        exact⟨a,b,c,g,by omega,e⟩)
                      clear hb HM K8
                      go_wp2
                      go_roundw
                      case rel=>exact⟨j+1,by omega,by go_num,HB.out⟩
                      case measure=>simp [intOf];omega
            · have MW:=lh (show ∃ W',ae ai w W'∧W'=_ from⟨_,by
                obtain⟨_,_,_,g,_⟩:=hJ.out
                exact g.mods,rfl⟩)
              clear hJ
              go_wp2
              go_ret
              obtain⟨W',h1,rfl⟩:=MW.out
              exact⟨by rw [HTL.out];simp,h1⟩
end Go.Proofs.YtglkmaalpammcaaGreat

/- PowerPlays: the walk. -/
import Derived.Test.YtglkmaalpammcaaGreatPwS
import Derived.Test.YtglkmaalpammcaaGreatPwK
import Derived.Test.YtglkmaalpammcaaGreatPwArg
import Derived.Test.YtglkmaalpammcaaGreatPwL0
import Derived.Deep.CutBlock
import Derived.Deep.DeepCutAuto
namespace Go.Proofs.YtglkmaalpammcaaGreat
open Go.Gl Go.RowKit
set_option linter.unusedVariables false
set_option maxRecDepth 100000
theorem Bf {F:List aN} (h:oN F) {v:Nat} (hv:v≤18446744073709551615) (on:Bool):oN (nT F v on):=by
 unfold nT
 cases on
 ·exact Ep h _
 ·exact En h ⟨hv,by omega,.inr ⟨rfl,rfl⟩⟩
theorem JM {w0 w1 w2:World}{sg k:Nat}{S D:Nat→Prop} (m0:ae ai w0 w1) (kv:KV w1 sg [] [] 0 0 S D) (hs:∀ k,S k→w0.heap.size≤k) (hd:∀ k,¬ D k) (m:ae ai w1 w2) (hk:w2.heap[k]?=some (.cells #[.slice none 0 0,.slice none 0 0,.int .i64 0] 32 (0,0))) (hk1:w1.heap.size≤k):gQ w0 sg k [] [] 0 0 0 wH w2:=by
 obtain⟨S,D,⟨S1,D1,S2,D2,⟨m,q,hm,hq,kv⟩,rf,r1⟩,r2⟩:=Jv m0 kv hs hd m hk hk1
 have e:m=0:=by omega
 subst e
 exact⟨q,0,_,⟨S,D,⟨S1,D1,S2,D2,kv,rf,r1⟩,r2⟩,by omega,Nat.le_refl _,trivial⟩
set_option maxHeartbeats 16000000 in
theorem zN (v0:Value) (xs:List nS) (w:World) (h0:sK w v0 xs):Calls Tryz.prog 10 #[v0] w fun e w'=>e = .returned (.bool true)∧ae ai w w':=by
 have KN:=lh (Ah w)
 obtain⟨a0,N,c0,rfl,hN,hc0,hb0,g0⟩:=h0.form
 have G0:=lh g0
 have N0:=lh hN
 clear h0 g0 hN
 go_enter Tryz.func10,Tryz.ntmps10
 go_wp2_with fail
 refine KN.out.mono ?_
 rintro e w1 ⟨rfl,m1⟩
 have M1:=lh m1
 clear KN m1
 by_cases h300:300<N
 ·have i1:(300:Int)<(N:Int):=by omega
  go_wp2
  go_ret
  exact⟨rfl,M1.out⟩
 have i1:¬ (300:Int)<(N:Int):=by omega
 go_wp2_with fail
 refine (hNew _).mono ?_
 rintro e w5 ⟨sg0,S,D,rfl,kv,m5,hs,hd⟩
 have m6:=(ae.refl ai w5).alloc (.cells #[.slice none 0 0,.slice none 0 0,.int .i64 0] 32)
 have K5:=lh (JM (M1.out.then0 m5) kv (fun k hk=>Nat.le_trans M1.out.size (hs k hk)) hd m6 (aU w5 _) (Nat.le_refl _))
 clear kv m5 hs hd m6 M1
 go_wp2
 generalize w5.heap.size=rg at K5 ⊢
 obtain⟨sg,hsg⟩:∃ sg,sg=sg0:=⟨_,rfl⟩
 subst hsg
 go_loopw [5] (fun x wr=>∃ i:Nat,i≤N∧x = .int .i64 i∧Hid (∃ F n,oN F∧n≤10000*i∧gQ w sg rg F F n (2*i) (10000*i) wH wr)) (fun x _=>N - (intOf x).toNat)
 case atStart=>exact⟨0,Nat.zero_le _,rfl,lh ⟨_,_,IV,Nat.le_refl _,K5.out⟩⟩
 case round =>
  clear K5
  obtain⟨i,hi,rfl,hI⟩:=hrel
  by_cases hlt:i<N
  ·obtain⟨F,n,ok,hn,g1⟩:=hI.out
   have hil:i<xs.length:=by rw [N0.out];exact hlt
   obtain⟨g,off,rfl,hg,w0c,w1c,w2c,w3c,so⟩:=Gp G0.out (A7 g1) N0.out hil
   have OK:=lh ok
   have KK:=lh g1
   have hn0:n≤3000000:=by omega
   have KB:=lh hn
   have HLN:=lh (show F.length≤2*i from yL g1)
   generalize xs[i]=s at *
   obtain⟨what,nn,V,T⟩:=s
   simp only at w0c w1c w2c w3c so
   have SO:=lh (show V≤18446744073709551615∧T≤18446744073709551615 from⟨so.v,so.t⟩)
   have SN:=lh (show -9223372036854775808≤nn∧nn≤9223372036854775807 from⟨so.n1,so.n2⟩)
   have X:=lh (show ∀ j' u,([.int .i64 what,.int .i64 nn,.int .u64 ((V:Nat):Int),.int .u64 ((T:Nat):Int)]:List Value)[j']?=some u→_root_.Go.World.cell? _ ⟨g,off+i*4+j',none⟩=some u from fun j' u hu=>by
    match j',hu with
    | 0,h=>exact w0c.trans h
    | 1,h=>exact w1c.trans h
    | 2,h=>exact w2c.trans h
    | 3,h=>exact w3c.trans h
    | j+4,h=>simp at h)
   clear hI ok g1 hn so w0c w1c w2c w3c hg
   go_upto_region 9 with fail
   refine gy (d := .region 9 (aJ 9 Tryz.f10) false) (by kernel_rfl) ?_
   refine RW.wp (pl9 hlt (by omega) X.out ?_)
   intros
   rename_i xb wa hxb hX m2
   obtain⟨EE,hEE⟩:∃ EE:World→(Nat→Prop)→Prop,EE=(PBk xb (Obj.cells #[.int .i64 what,.int .i64 nn,.int .u64 ((V:Nat):Int),.int .u64 ((T:Nat):Int)] 117 (0,0))):=⟨_,rfl⟩
   have KE:=lh (show iC EE from by rw [hEE];exact (pbk_k xb (Obj.cells #[.int .i64 what,.int .i64 nn,.int .u64 ((V:Nat):Int),.int .u64 ((T:Nat):Int)] 117 (0,0))))
   have K3:=lh (show gQ w sg rg F F n (2*i) (10000*i) EE wa from by rw [hEE];exact JQ KK.out m2 hxb hX)
   have PBK:=lh (fun (F' C':List aN) (n' P' M':Nat) (W:World) (k:gQ w sg rg F' C' n' P' M' EE W)=>show W.cell? ⟨xb,0,none⟩=some (.int .i64 what)∧W.cell? ⟨xb,1,none⟩=some (.int .i64 nn)∧W.cell? ⟨xb,2,none⟩=some (.int .u64 ((V:Nat):Int))∧W.cell? ⟨xb,3,none⟩=some (.int .u64 ((T:Nat):Int)) from by
    rw [hEE] at k
    obtain⟨Q,b,_⟩:=Hy k
    exact⟨ag b 0,ag b 1,ag b 2,ag b 3⟩)
   obtain⟨c0,c1,c2,c3⟩:=PBK.out _ _ _ _ _ _ K3.out
   clear hX hxb m2 KK X hEE
   go_upto_block 2 with fail
   go_cut [29] (fun z wx=>Hid (∃ F' n',oN F'∧n'≤n+1∧gQ w sg rg F' F' n' (2*i+2) (10000*i+1) EE wx))
   case first =>
    by_cases h01:what=0∨what=1
    ·rcases h01 with rfl | rfl
     all_goals (
      have C1:=lh (yg KE.out K3.out (fun p Q hp=>pPut SO.out.1 SO.out.2 (by omega) (by omega)))
      go_upto_region 13 with fail
      go_wp2_with fail
      refine C1.out.mono ?_
      rintro e wb ⟨rfl,k4⟩
      have c20:=PBK.out _ _ _ _ _ _ k4
      obtain⟨c20,c21,c22,c23⟩:=c20
      have C2:=lh (vz (C':=jJ F (gp 10 T V) []) KE.out k4 (fun m Q hm=>rPut SO.out.1 SO.out.2 (by omega) (by have:=HLN.out;omega)))
      clear C1 k4 c0 c1 c2 c3
      go_wp2_with fail
      refine C2.out.mono ?_
      rintro e wc ⟨rfl,k5⟩
      have FIN:=lh (show ∃ F' n',oN F'∧n'≤n+1∧gQ w sg rg F' F' n' (2*i+2) (10000*i+1) EE wc from⟨_,n+1,En OK.out ⟨SO.out.2,SO.out.1,.inl rfl⟩,by omega,k5⟩)
      clear C2 k5 c20 c21 c22 c23
      go_wp2
      go_meet
      case rel=>exact FIN)
    have q0:¬ what=0:=fun h=>h01 (.inl h)
    have q1:¬ what=1:=fun h=>h01 (.inr h)
    clear h01
    by_cases h2:what=2
    ·subst h2
     have C1:=lh (yg KE.out K3.out (fun p Q hp=>Ht SO.out.1 SO.out.2 (by omega) (by omega)))
     go_upto_region 16 with fail
     go_wp2_with fail
     refine C1.out.mono ?_
     rintro e wb ⟨rfl,k4⟩
     have c20:=PBK.out _ _ _ _ _ _ k4
     obtain⟨c20,c21,c22,c23⟩:=c20
     have C2:=lh (vz (C':=gJ F (gp 10 T V)) KE.out k4 (fun m Q hm=>rDrop SO.out.1 SO.out.2 (by omega) (by have:=HLN.out;omega)))
     clear C1 k4 c0 c1 c2 c3
     go_wp2_with fail
     refine C2.out.mono ?_
     rintro e wc ⟨rfl,k5⟩
     have FIN:=lh (show ∃ F' n',oN F'∧n'≤n+1∧gQ w sg rg F' F' n' (2*i+2) (10000*i+1) EE wc from⟨_,n+1,Ep OK.out _,by omega,k5⟩)
     clear C2 k5 c20 c21 c22 c23
     go_wp2
     go_meet
     case rel=>exact FIN
    by_cases h3:what=3
    ·subst h3
     have C1:=lh (yg KE.out K3.out (fun p Q hp=>Cj (on:=true) SO.out.1 (by omega) (by omega)))
     go_upto_region 20 with fail
     go_wp2_with fail
     refine C1.out.mono ?_
     rintro e wb ⟨rfl,k4⟩
     have c20:=PBK.out _ _ _ _ _ _ k4
     obtain⟨c20,c21,c22,c23⟩:=c20
     have C2:=lh (vz (C':=nT F V true) KE.out k4 (fun m Q hm=>Hm (on:=true) SO.out.1 (by omega) (by have:=HLN.out;omega)))
     clear C1 k4 c0 c1 c2 c3
     go_wp2_with fail
     refine C2.out.mono ?_
     rintro e wc ⟨rfl,k5⟩
     have FIN:=lh (show ∃ F' n',oN F'∧n'≤n+1∧gQ w sg rg F' F' n' (2*i+2) (10000*i+1) EE wc from⟨_,n+1,Bf OK.out SO.out.1 _,by omega,k5⟩)
     clear C2 k5 c20 c21 c22 c23
     go_wp2
     go_meet
     case rel=>exact FIN
    by_cases h4:what=4
    ·subst h4
     have C1:=lh (yg KE.out K3.out (fun p Q hp=>Cj (on:=false) SO.out.1 (by omega) (by omega)))
     go_upto_region 20 with fail
     go_wp2_with fail
     refine C1.out.mono ?_
     rintro e wb ⟨rfl,k4⟩
     have c20:=PBK.out _ _ _ _ _ _ k4
     obtain⟨c20,c21,c22,c23⟩:=c20
     have C2:=lh (vz (C':=nT F V false) KE.out k4 (fun m Q hm=>Hm (on:=false) SO.out.1 (by omega) (by have:=HLN.out;omega)))
     clear C1 k4 c0 c1 c2 c3
     go_wp2_with fail
     refine C2.out.mono ?_
     rintro e wc ⟨rfl,k5⟩
     have FIN:=lh (show ∃ F' n',oN F'∧n'≤n+1∧gQ w sg rg F' F' n' (2*i+2) (10000*i+1) EE wc from⟨_,n+1,Bf OK.out SO.out.1 _,by omega,k5⟩)
     clear C2 k5 c20 c21 c22 c23
     go_wp2
     go_meet
     case rel=>exact FIN
    have FIN:=lh (show ∃ F' n',oN F'∧n'≤n+1∧gQ w sg rg F' F' n' (2*i+2) (10000*i+1) EE wa from⟨_,n,OK.out,by omega,A8 K3.out (by omega) (by omega)⟩)
    go_wp2
    go_meet
    case rel=>exact FIN
   case rest =>
    obtain⟨F1,n1,ok1,hn1,h1⟩:=hcut.out
    obtain⟨T1,ht1,hT1,_⟩:=Jg ok1
    obtain⟨V2,ht2,hV2⟩:=IZ ok1
    have hl1:F1.length≤2*i+2:=yL h1
    have lT:T1.length≤F1.length:=by
     have a:=congrArg List.length ht1
     simp only [qf,List.length_map] at a
     have:=List.length_filter_le (fun e:aN=>bF [105] e.1) F1
     omega
    have lV:V2.length≤F1.length:=by
     have a:=congrArg List.length ht2
     simp only [oC,List.length_map] at a
     have:=List.length_filter_le (fun e:aN=>bF [98] e.1) F1
     omega
    have OK1:=lh ok1
    obtain⟨d0,d1,d2,d3⟩:=PBK.out _ _ _ _ _ _ h1
    have K4:=lh h1
    have hn1':n1≤3000001:=by omega
    have NB:=lh (And.intro hn1 (And.intro hl1 (And.intro lT lV)))
    have HT:=lh (And.intro ht1 hT1)
    have HV:=lh (And.intro ht2 hV2)
    obtain⟨kk,hkk⟩:∃ kk:Int,(if 1000<nn then 1000 else nn)=kk:=⟨_,rfl⟩
    have KH:=lh hkk
    have k1:kk≤1000:=by rw [← hkk];split <;> omega
    have k2 : -9223372036854775808≤kk:=by have:=SN.out;rw [← hkk];split <;> omega
    clear hcut ok1 hn1 h1 c0 c1 c2 c3 K3 OK HLN hkk ht1 hT1 ht2 hV2 hl1 lT lV
    go_upto_if 78 with fail
    go_cut [7] (fun z wx=>z = .int .i64 kk∧ae ai wc wx)
    case first =>
     by_cases hg:1000<nn
     ·skip
      have hk:kk=1000:=by rw [← KH.out,if_pos hg]
      have HK:=lh hk
      clear hk
      go_wp2
      go_meet
      case rel=>exact⟨by rw [HK.out],ae.refl _ _⟩
     ·skip
      have hk:kk=nn:=by rw [← KH.out,if_neg hg]
      have HK:=lh hk
      clear hk
      go_wp2
      go_meet
      case rel=>exact⟨by rw [HK.out],ae.refl _ _⟩
    case rest =>
     obtain⟨rfl,m5⟩:=hcut
     have C:=lh (EG (zJ KE.out K4.out m5) (by omega))
     clear m5 K4 d0 d1 d2 d3
     go_wp2_with fail
     refine C.out.mono ?_
     rintro e wd ⟨rfl,k6⟩
     obtain⟨V1,hV1⟩:∃ V1,(T1.map (·.2)).take kk.toNat=V1:=⟨_,rfl⟩
     have lV1:(V1.length:Int)≤max kk 0:=by rw [← hV1,List.length_take];omega
     have lV1':V1.length≤T1.length:=by rw [← hV1,List.length_take,List.length_map];omega
     have C1:=lh (Dq (V:=V1) KE.out k6 (fun p Q hp=>by rw [← hV1];exact pTop HT.out.1 HT.out.2 (by omega) (by omega)))
     have HV1:=lh (And.intro hV1 (And.intro lV1 lV1'))
     clear C k6 hV1 lV1 lV1'
     go_wp2_with fail
     refine C1.out.mono ?_
     rintro e we ⟨tv,n2,rfl,a1,a2,k7⟩
     have C2:=lh (AX (V:=V1) (dU KE.out (fK tv V1)) k7 (fun m Q hm=>by rw [← HV1.out.1];exact rTop HT.out.1 HT.out.2 (by omega) (by have:=NB.out;omega)))
     have NC:=lh (And.intro a1 a2)
     clear C1 k7 a1 a2
     go_wp2_with fail
     refine C2.out.mono ?_
     rintro e wf ⟨uv,rfl,k8⟩
     have C3:=lh (DV KE.out k8)
     clear C2 k8
     go_wp2_with fail
     refine C3.out.mono ?_
     rintro e wg ⟨rfl,k9⟩
     have hn2:n2≤4000000:=by have:=NB.out;have:=NC.out;have:=HV1.out;omega
     have C4:=lh (EG k9 (by omega))
     clear C3 k9
     go_wp2_with fail
     refine C4.out.mono ?_
     rintro e wh ⟨rfl,k10⟩
     have K10:=lh k10
     obtain⟨mx,hmx⟩:∃ mx:Int,max kk 0=mx:=⟨_,rfl⟩
     have hb:¬ mx+2<(n2:Int) - (n1:Int):=by have:=NC.out;have:=HV1.out;omega
     have hm1:0≤mx∧mx≤1000:=by omega
     clear C4 k10
     go_upto_region 28 with fail
     refine gy (d := .region 28 (aJ 28 Tryz.f10) true) (by kernel_rfl) ?_
     refine RW.wp (pl28 (X0:=fun W=>gQ w sg rg F1 F1 n2 (2*i+2) (10000*i+1+1+F1.length) EE W) (Y1:=fun v W=>∃ n',n'≤n2+1+V2.length∧gQ w sg rg F1 F1 n' (2*i+2) (10000*i+1+1+F1.length) (nO EE (rP v V2)) W) (Y2:=fun v u W=>∃ n',n'≤n2+1+V2.length∧gQ w sg rg F1 F1 n' (2*i+2) (10000*i+1+1+F1.length+1+F1.length) (nO (nO EE (rP v V2)) (rP u V2)) W) (X3:=fun W=>∃ n',n'≤n2+1+V2.length∧gQ w sg rg F1 F1 n' (2*i+2) (10000*i+1+1+F1.length+1+F1.length) EE W) (Z3:=fun lv W=>∃ n',n'≤n2+1+V2.length∧Aj w sg rg F1 n' (2*i+2) (10000*i+1+1+F1.length+1+F1.length) EE lv W) (Y4:=fun lv v W=>∃ n',n'≤n2+1+V2.length∧(Aj w sg rg F1 n' (2*i+2) (10000*i+1+1+F1.length+1+F1.length) EE lv W∧∃ L,iU W v L∧L.map EV.ent=F1)) (X5:=fun W=>∃ n',n'≤n2+1+V2.length∧gQ w sg rg F1 F1 n' (2*i+2) (10000*i+1+1+F1.length+1+F1.length) EE W)
      (zJ KE.out K10.out ((ae.refl ai _).drew)) ?c1 ?c2 ?c3 ?c4 (fun _ _ ⟨_,_,h⟩=>h.2.1) ?c5 (fun _ _ _ ⟨_,_,h,_⟩=>h.2.1) ?c6 ?_)
     case c1=>exact fun b' h=>(Dq KE.out h (fun p Q hp=>Az HV.out.1 HV.out.2 (by omega) (by omega))).mono (fun e w' ⟨v,n',a,_,b,k⟩=>⟨v,a,n',b,k⟩)
     case c2=>exact fun v b' ⟨n',b,h⟩=>(AX (dU KE.out (fK v V2)) h (fun m Q hm=>IG HV.out.1 HV.out.2 (by have:=NB.out;omega) (by have:=NB.out;omega))).mono (fun e w' ⟨u,a,k⟩=>⟨u,a,n',b,k⟩)
     case c3=>exact fun v u b' ⟨n',b,h⟩=>(DV KE.out h).mono (fun e w' ⟨a,k⟩=>⟨a,n',b,k⟩)
     case c4=>exact fun b' ⟨n',b,h⟩=>(I5 h).elim (fun lv k=>⟨lv,n',b,k⟩)
     case c5=>exact fun lv b' ⟨n',b,h⟩=>(IQ KE.out h (by omega)).mono (fun e w' ⟨v,a,k⟩=>⟨v,a,n',b,k⟩)
     case c6=>exact fun lv v b' ⟨n',b,h⟩=>(GX KE.out h (by omega)).mono (fun e w' ⟨a,k⟩=>⟨a,n',b,k⟩)
     intros
     rename_i wz hz
     have FIN:=lh (show ∃ F n,oN F∧n≤10000*(i+1)∧gQ w sg rg F F n (2*(i+1)) (10000*(i+1)) wH wz from by
      obtain⟨n',b,k⟩:=hz
      have:=NB.out;have:=NC.out;have:=HV1.out;have:=KB.out
      exact⟨F1,n',OK1.out,by omega,A8 (JH k) (by omega) (by omega)⟩)
     clear hz K10 hb hm1
     go_wp2
     go_roundw
     case rel=>exact⟨i+1,by omega,by go_num,FIN⟩
     case measure=>simp [intOf];omega
  ·obtain rfl:i=N:=by omega
   obtain⟨F,n,ok,hn,g1⟩:=hI.out
   have MM:=lh (A7 g1)
   clear hI ok hn g1
   go_wp2
   go_ret
   exact⟨rfl,MM.out⟩
end Go.Proofs.YtglkmaalpammcaaGreat

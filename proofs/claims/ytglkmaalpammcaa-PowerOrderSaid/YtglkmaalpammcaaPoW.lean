/- PowerOrder: the walk. -/
import Derived.Test.YtglkmaalpammcaaPwK
import Derived.Test.YtglkmaalpammcaaPwO
import Derived.Test.YtglkmaalpammcaaPo0
import Derived.Test.YtglkmaalpammcaaPgPl
import Derived.Test.YtglkmaalpammcaaZB
import Derived.Deep.DeepCutAuto
namespace Go.Proofs.Ytglkmaalpammcaa
open Go.Gl Go.RowKit
set_option linter.unusedVariables false
set_option maxRecDepth 100000
theorem nX {A:List Nat}{i:Nat} (h:i<A.length):A.getD i 0=A[i]:=by rw [List.getD_eq_getElem?_getD,List.getElem?_eq_getElem h];rfl
theorem BM {w:World}{q:Option Addr}{n m c:Nat}{V:List Nat} (h:fM u64 w (.slice q n c) V) (hl:V.length=n) (hm:m≤n):fM u64 w (.slice q m c) (V.take m):=by
 have h1:gX w 1 (.slice q n c) n (V.map u64):=by rw [← hl];have:=h;unfold fM at this;rw [← hl] at this;exact this
 have h2:=gX.hi h1 hm
 unfold fM
 rw [List.length_take,hl,Nat.min_eq_left hm,List.map_take]
 rw [Nat.mul_one] at h2
 exact h2
theorem Dt {w:World}{q:Option Addr}{n c:Nat}{V:List Nat} (h:fM u64 w (.slice q n c) V) (hl:V.length=n):n≤c:=by
 rcases h.2 with ⟨_,x⟩ | ⟨g,off,cap,hv,x,_⟩
 ·omega
 ·cases hv
  exact x
set_option maxHeartbeats 16000000 in
theorem wW (v0:Value) (A:List Nat) (n m:Int) (w:World) (h0:fM u64 w v0 A∧∀ x∈A,x≤18446744073709551615) (hn : -9223372036854775808≤n∧n≤9223372036854775807) (hm : -9223372036854775808≤m∧m≤9223372036854775807):Calls Try.prog 6 #[v0,.int .i64 n,.int .i64 m] w fun e w'=>e = .returned (.bool true)∧ae aj w w':=by
 have KN:=lh (wZ w)
 obtain⟨a0,c0,rfl,hmax⟩:=fM.form h0.1
 have HX:=lh h0
 have HNM:=lh (And.intro hn hm)
 obtain⟨N,hN⟩:∃ N,A.length=N:=⟨_,rfl⟩
 have N0:=lh hN
 rw [hN] at hmax ⊢
 unfold maxLen at hmax
 clear h0 hN hn hm
 go_enter Try.func6,Try.ntmps6
 go_wp2_with fail
 refine KN.out.mono ?_
 rintro e w1 ⟨rfl,m1⟩
 have M1:=lh m1
 clear KN m1
 by_cases h200:200<N
 ·have i1:(200:Int)<(N:Int):=by omega
  go_wp2
  go_ret
  exact⟨rfl,M1.out⟩
 have i1:¬ (200:Int)<(N:Int):=by omega
 go_wp2_with fail
 refine (zN _).mono ?_
 rintro e w2 ⟨sg,rfl,g2⟩
 have K2:=lh (show jH w sg (mZ A 0) 0 0 vz w2 from by
  obtain⟨a,b,Q,g,x,y,z⟩:=g2
  exact⟨a,b,fun k=>k<w.heap.size,(g.base M1.out).less (fun k hk=>g.q0 k (Nat.lt_of_lt_of_le hk M1.out.size)) (fun k hk=>hk),x,y,trivial⟩)
 clear g2 M1
 go_wp2
 go_loopw [8] (fun x wr=>∃ i:Nat,i≤N∧x = .int .i64 i∧Hid (jH w sg (mZ A i) i (2*i) vz wr)) (fun x _=>N - (intOf x).toNat)
 case atStart=>exact⟨0,Nat.zero_le _,rfl,K2⟩
 case round =>
  clear K2
  obtain⟨i,hi,rfl,hI⟩:=hrel
  by_cases hlt:i<N
  ·have hiA:i<A.length:=by rw [N0.out];exact hlt
   obtain⟨g,off,rfl,hg,hc0⟩:=oI HX.out.1 (by rw [N0.out] at hiA ⊢;exact hiA)
   have hc:_root_.Go.World.cell? _ ⟨g,off+i,none⟩=some (.int .u64 ((A[i]:Nat):Int)):=((qw hI.out).cellAt hg (fun x=>x) _).trans hc0
   have hx64:=HX.out.2 _ (List.getElem_mem hiA)
   have hF:ji (mZ A i) (fA 10 A[i] i) []=mZ A (i+1):=by rw [← nX hiA];rfl
   have C:=lh (ru i A[i] fF hI.out (by omega) hx64 hF (by omega) (by omega))
   have hwi:IntKind.u64.wrap (i:Int)=(i:Int):=by
    simp only [IntKind.wrap,IntKind.signed,IntKind.bits]
    simp
    omega
   generalize A[i]=x at *
   clear hI hc0 hg hF
   go_wp2_with fail
   refine C.out.mono ?_
   rintro e wx ⟨rfl,k4⟩
   have K4:=lh (xJ k4 (show i+1≤i+1 by omega) (show 2*i+2≤2*(i+1) by omega))
   clear C k4 hwi hc hx64
   go_wp2
   go_roundw
   case rel=>exact⟨i+1,by omega,by go_num,K4⟩
   case measure=>simp [intOf];omega
  ·obtain rfl:N=i:=by omega
   obtain⟨T,V,hT,hP,hV,hlV,hb,ho⟩:=CW HX.out.2 (by rw [N0.out];omega)
   rw [N0.out] at hT hlV hb
   have hV2:(T.map (·.2)).take ((N:Int)).toNat=V:=by rw [hV];exact List.take_of_length_le (by omega)
   have C:=lh (pV (N:Int) (V:=V) fF hI.out hT hP hV2 (by omega) (by omega))
   have HV:=lh (And.intro hlV (And.intro hb ho))
   have HT:=lh (And.intro hT (And.intro hP hV))
   clear hI hT hP hV hlV hb ho hV2
   go_wp2_with fail
   refine C.out.mono ?_
   rintro e w4 ⟨v,rfl,k4⟩
   obtain⟨Q4,hE4⟩:=wu k4
   obtain⟨a4,c4,rfl,_⟩:=dR.rd hE4.2.1 |>.form
   have k5:=xJ k4 (show N+1+V.length≤1000 by have:=HV.out.1;omega) (show 2*N≤400 by omega)
   rw [HV.out.1] at k5 ⊢
   have K5:=lh k5
   clear k4 k5 hE4 C
   go_wp2
   go_loopw [10] (fun x wr=>∃ i:Nat,i≤N∧x = .int .i64 i∧Hid (jH w sg (mZ A N) 1000 400 (sJ vz (yc (.slice a4 N c4) V)) wr)) (fun x _=>N - (intOf x).toNat)
   case atStart=>exact⟨0,Nat.zero_le _,rfl,K5⟩
   case round =>
    clear K5
    obtain⟨i,hi,rfl,hI⟩:=hrel
    by_cases hlt:i<N
    ·have hiV:i<V.length:=by rw [HV.out.1];exact hlt
     obtain⟨Q,_,en⟩:=wu hI.out
     obtain⟨h,offh,rfl,hg4,hcV⟩:=oI (dR.rd en.1) hiV
     have hbN0:=HV.out.2.1 i hiV
     have KK:=lh hI.out
     have HEN:=lh (And.intro en.1 hg4)
     have hwN:IntKind.u64.wrap (N:Int)=(N:Int):=by
      simp only [IntKind.wrap,IntKind.signed,IntKind.bits]
      simp
      omega
     obtain⟨b1,hb1⟩:∃ b1,V[i]=b1:=⟨_,rfl⟩
     rw [hb1] at hcV hbN0
     have hbN:¬ (N:Int)≤(b1:Int):=by omega
     have HB1:=lh hb1
     clear hI en hb1 hg4
     by_cases hi0:i=0
     ·have hz:¬ (0:Int)<(i:Int):=by omega
      clear hi0
      go_wp2
      go_roundw
      case rel=>exact⟨i+1,by omega,by go_num,KK⟩
      case measure=>simp [intOf];omega
     ·obtain⟨j,rfl⟩:∃ j,i=j+1:=⟨i - 1,by omega⟩
      have hz:(0:Int)<((j+1:Nat):Int):=by omega
      have hjV:j<V.length:=by omega
      have hj1:j+1<V.length:=hiV
      obtain⟨h',offh',e4,hg5,hcV0⟩:=oI (dR.rd HEN.out.1) hjV
      cases e4
      have ho:=HV.out.2.2 j hj1
      have hb0N:=HV.out.2.1 j hjV
      obtain⟨b0,hb0⟩:∃ b0,V[j]=b0:=⟨_,rfl⟩
      have hb1':V[j+1]=b1:=HB1.out
      rw [hb0,hb1'] at ho
      rw [hb0] at hb0N hcV0
      have ha0:b0<A.length:=by rw [N0.out];exact hb0N
      have ha1:b1<A.length:=by rw [N0.out];exact hbN0
      rw [nX ha0,nX ha1] at ho
      obtain⟨g,off,rfl,hg,hc0⟩:=oI HX.out.1 ha0
      obtain⟨g',off',e5,hg',hc1⟩:=oI HX.out.1 ha1
      cases e5
      obtain⟨ta,hta⟩:∃ ta,A[b0]=ta:=⟨_,rfl⟩
      obtain⟨tb,htb⟩:∃ tb,A[b1]=tb:=⟨_,rfl⟩
      rw [hta,htb] at ho
      rw [hta] at hc0
      rw [htb] at hc1
      have MM:=lh (qw KK.out)
      have CA:=lh (And.intro hg (And.intro hc0 hc1))
      have CV:=lh (And.intro hg5 (And.intro hcV0 hcV))
      have HO:=lh ho
      clear hb0 hb1' hta htb hc0 hc1 hg hg' hcV0 hg5 ho hi0
      go_upto_region 19 with fail
      refine gJ (d := .region 19 (aJ 19 Try.f6) true) (by kernel_rfl) ?_
      refine RW.wp (po19 (a:=b0) (b:=b1) hlt (by omega) (fun b' m=>(m.cellAt CV.out.1 (fun x=>x) _).trans CV.out.2.1) (fun b' m=>(m.cellAt CV.out.1 (fun x=>x) _).trans CV.out.2.2) ?_)
      intros
      rename_i w6 m6
      have M6:=lh m6
      clear m6 hcV
      go_upto_region 20 with fail
      refine gJ (d := .region 20 (aJ 20 Try.f6) true) (by kernel_rfl) ?_
      by_cases he:ta=tb
      ·refine RW.wp (po20e (ta:=ta) (tb:=tb) hb0N hbN0 (by omega) HO.out.1 ⟨he,HO.out.2 he⟩ (fun b' m=>(((MM.out.then0 M6.out).then0 m).cellAt CA.out.1 (fun x=>x) _).trans CA.out.2.1) (fun b' m=>(((MM.out.then0 M6.out).then0 m).cellAt CA.out.1 (fun x=>x) _).trans CA.out.2.2) ?_)
       intros
       rename_i w7 m7
       have K7:=lh (wS (dm fF (dM _ V)) (wS (dm fF (dM _ V)) KK.out M6.out) m7)
       clear m7
       go_wp2
       go_roundw
       case rel=>exact⟨j+1+1,by omega,by go_num,K7⟩
       case measure=>simp [intOf];omega
      ·refine RW.wp (po20n (ta:=ta) (tb:=tb) hb0N hbN0 (by omega) HO.out.1 he (fun b' m=>(((MM.out.then0 M6.out).then0 m).cellAt CA.out.1 (fun x=>x) _).trans CA.out.2.1) (fun b' m=>(((MM.out.then0 M6.out).then0 m).cellAt CA.out.1 (fun x=>x) _).trans CA.out.2.2) ?_)
       intros
       rename_i w7 m7
       have K7:=lh (wS (dm fF (dM _ V)) (wS (dm fF (dM _ V)) KK.out M6.out) m7)
       clear m7
       go_wp2
       go_roundw
       case rel=>exact⟨j+1+1,by omega,by go_num,K7⟩
       case measure=>simp [intOf];omega
    ·obtain rfl:N=i:=by omega
     have K5:=lh hI.out
     clear hI
     go_wp2_with fail
     refine (rM n 210 wr HNM.out.1.1 HNM.out.1.2 (by omega) (by omega)).mono ?_
     rintro e w5 ⟨r1,rfl,p0,p1,rfl⟩
     go_wp2_with fail
     refine (rM m 210 wr HNM.out.2.1 HNM.out.2.2 (by omega) (by omega)).mono ?_
     rintro e w5 ⟨r2,rfl,s0,s1,rfl⟩
     obtain⟨ra,rfl⟩:=Int.eq_ofNat_of_zero_le p0
     obtain⟨rb,rfl⟩:=Int.eq_ofNat_of_zero_le s0
     obtain⟨mn,hmnN⟩:∃ mn:Nat,min ra rb=mn:=⟨_,rfl⟩
     obtain⟨mx,hmxN⟩:∃ mx:Nat,max ra rb=mx:=⟨_,rfl⟩
     have hmn:min (ra:Int) (rb:Int)=(mn:Int):=by omega
     have hmx:max (ra:Int) (rb:Int)=(mx:Int):=by omega
     have HM:=lh (And.intro hmnN hmxN)
     have hle:mn≤mx∧mx≤210:=by omega
     have C:=lh (pV (mn:Int) (V:=V.take mn) (dm fF (dM _ V)) K5.out HT.out.1 HT.out.2.1 (by rw [HT.out.2.2];rfl) (by omega) (by omega))
     clear K5 hmnN hmxN
     go_wp2_with fail
     refine C.out.mono ?_
     rintro e w5 ⟨v6,rfl,k6⟩
     obtain⟨Q6,hE6⟩:=wu k6
     obtain⟨a6,c6,rfl,_⟩:=dR.rd hE6.2.1 |>.form
     obtain⟨la,hla⟩:∃ la,(V.take mn).length=la:=⟨_,rfl⟩
     rw [hla] at k6 ⊢
     have LA:=lh hla
     have C2:=lh (pV (mx:Int) (V:=V.take mx) (dm (dm fF (dM _ V)) (dM (.slice a6 la c6) (V.take mn))) k6 HT.out.1 HT.out.2.1 (by rw [HT.out.2.2];rfl) (by have:=LA.out;have:=List.length_take_le mn V;omega) (by omega))
     clear C k6 hE6 hla
     go_wp2_with fail
     refine C2.out.mono ?_
     rintro e w6 ⟨v7,rfl,k7⟩
     obtain⟨Q7,hE7⟩:=wu k7
     obtain⟨a7,c7,rfl,hb7⟩:=dR.rd hE7.2.1 |>.form
     have hc7:(V.take mx).length≤c7:=Dt (dR.rd hE7.2.1) rfl
     obtain⟨lb,hlb⟩:∃ lb,(V.take mx).length=lb:=⟨_,rfl⟩
     rw [hlb] at k7 hc7 ⊢
     have LB:=lh hlb
     have hab:la≤lb:=by rw [← LA.out,← hlb,List.length_take,List.length_take];omega
     have hlN:la=min mn N:=by rw [← LA.out,List.length_take,HV.out.1]
     have rA:=dR.rd hE7.1.2.1
     have rB:=BM (m:=la) (dR.rd hE7.2.1) rfl (by rw [hlb];exact hab)
     rw [List.take_take,show min la mx=la by omega] at rB
     have eV:V.take la=V.take mn:=by rw [← LA.out,List.length_take,List.take_eq_take_iff];omega
     rw [eV] at rB
     have NM:=lh (uu rA rB)
     have MM:=lh (qw k7)
     have hres:min (mn:Int) (N:Int)=(la:Int):=by omega
     clear C2 k7 hE7 hlb rA rB eV hb7
     have hcI:(la:Int)≤(lb:Int):=by omega
     have HLA:=lh hlN
     clear hlN hle p0 p1 s0 s1 hi hlt
     go_wp2_with fail
     refine NM.out.mono ?_
     rintro e w7 ⟨rfl,m7⟩
     have MN:=lh (MM.out.then0 m7)
     clear NM m7 MM
     go_wp2
     all_goals (
      go_ret
      refine⟨?_,MN.out⟩
      have h1:=HLA.out
      have h2:=HM.out
      first
       | rfl
       | (congr 2;simp;omega))
end Go.Proofs.Ytglkmaalpammcaa

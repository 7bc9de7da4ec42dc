/- QueueOnce: the walk. -/
import Derived.Test.YtglkmaalpammcaaGreatQuCl
import Derived.Deep.DeepCutAuto
namespace Go.Proofs.YtglkmaalpammcaaGreat
open Go.Gl Go.RowKit
set_option linter.unusedVariables false
set_option maxRecDepth 100000
set_option maxHeartbeats 64000000 in
theorem KQ (v1:Value) (x0:Nat) (ss:List dn) (w:World) (hx0:bD x0) (h0:Qs w v1 ss):Calls Tryz.prog 8 #[.int .u64 ((x0:Nat):Int),v1] w fun e w'=>e = .returned (.bool true)∧ae ai w w':=by
  have KN:=lh (IQ w)
  have LI:=lh (fun W (m:ae ai w W)=>Ld (w0:=w) (tX.keep h0 m))
  obtain⟨a0,N,c0,rfl,hN,hc0,hb0,g0⟩:=tX.form h0
  have G0:=lh g0
  have N0:=lh hN
  clear h0 g0 hN
  obtain⟨nx,hnx⟩:∃ nx,x0 / 2=nx:=⟨_,rfl⟩
  have hsh:((x0:Nat):Int) / 2=((nx:Nat):Int):=by omega
  have nx64:nx≤9223372036854775807:=by unfold bD at hx0;omega
  clear hnx
  go_enter Tryz.func8,Tryz.ntmps8
  go_wp2_with fail
  refine KN.out.mono ?_
  rintro e w1 ⟨rfl,m1⟩
  have M1:=lh m1
  clear KN m1
  go_wp2_with fail
  refine (LI.out w1 M1.out).mono ?_
  rintro e w2 ⟨lb,rfl,hlb,m2⟩
  have M2:=lh (M1.out.then0 m2)
  clear LI m2 M1
  cases lb with
  | false =>
    go_wp2
    go_ret
    exact⟨rfl,M2.out⟩
  | true =>
  have HL:=lh (hlb rfl)
  have hN150:N≤150:=by have:=(hlb rfl).1;rw [N0.out] at this;exact this
  clear hlb
  have HOK:=lh (show ∀ s∈ss,dn.Ok w s from fun s hs=>by
    obtain⟨i,hi,rfl⟩:=List.mem_iff_getElem.1 hs
    rcases G0.out with h | ⟨g,off,_,_,h⟩
    · rw [N0.out] at hi;omega
    · exact (h i hi).2)
  have QI0:=lh (fun i (hi:i≤N)=>show QI (tV (Ep nx) (ss.take i)) 3 (nx+i) (lV nx (ss.take i)) from by
    have q0:=PY (h:=3) (nx:=nx) (jS (by omega)) (by unfold bD;omega)
    have hl:(ss.take i).length=i:=by rw [List.length_take,N0.out];omega
    have q1:=Ut (ss.take i) q0 (fun s hs=>HOK.out s (List.mem_of_mem_take hs)) (by rw [hl];omega) (by rw [hl];simp;omega)
    rw [List.nil_append,hl] at q1
    exact q1)
  go_wp2_with fail
  refine (Ez (nx:=nx) (by unfold bD;omega) w2).mono ?_
  rintro e w3 ⟨sg,rfl,g3⟩
  have K3:=lh (show ig w sg (Ep nx) 10 2 (EA w (.slice none 0 0) []) w3 from⟨_,_,_,(g3.base M2.out).less (Q':=fun k=>k<w.heap.size) (fun k hk=>Nat.lt_of_lt_of_le hk M2.out.size) (fun k hk=>hk),by omega,by omega,⟨by simp [ecs],.inl ⟨rfl,by simp⟩⟩,fun k hk=>by simp [Value.ownBlock] at hk⟩)
  clear g3 M2
  go_wp2
  go_loopw [6,7] (fun v x wr=>∃ (i:Nat) (vo:Value),i≤N∧vo=v∧x = .int .i64 i∧Hid (ig w sg (tV (Ep nx) (ss.take i)) (10+10000*i) (2+10*i) (EA w vo (gG nx (ss.take i))) wr)) (fun _ x _=>N - (intOf x).toNat)
  case atStart=>exact⟨0,_,Nat.zero_le _,rfl,rfl,K3⟩
  case round =>
    clear K3
    obtain⟨i,vo,hi,rfl,rfl,hI⟩:=hrel
    by_cases hlt:i<N
    · have hil:i<ss.length:=by rw [N0.out];exact hlt
      obtain⟨g,off,rfl,_⟩:=G0.out.resolve_left (by omega)
      have st:=st_of G0.out rfl (zJ hI.out) N0.out hil
      have ST:=lh st
      have h30:=HL.out.2 _ (List.getElem_mem hil)
      have H30:=lh h30
      have HFS:=lh (LV (Ep nx) hil)
      have HTS:=lh (Ha nx hil)
      have HES:=lh (yU nx hil)
      have t1:=tmod2 _ st.ok.w1 st.ok.w2
      have he:ss[i].ev=decide (Int.tmod ss[i].what 2=0):=rfl
      generalize ss[i]=s at *
      obtain⟨za,zc,hsv,_⟩:=dP.form st.ok.r
      have HV:=lh hsv
      have X:=lh (show ∀ j' u,([.int .i64 s.what,.int .i64 s.kind,.int .u64 ((s.n:Nat):Int),.int .u64 ((s.u0:Nat):Int),.int .u64 ((s.u1:Nat):Int),.int .u64 ((s.u2:Nat):Int),.int .u64 ((s.u3:Nat):Int),.int .u64 ((s.u4:Nat):Int),.int .u64 ((s.u5:Nat):Int),.int .u64 ((s.m0:Nat):Int),.int .u64 ((s.m1:Nat):Int),.int .u64 ((s.m2:Nat):Int),.int .u64 ((s.m3:Nat):Int),.int .u64 ((s.m4:Nat):Int),.int .u64 ((s.m5:Nat):Int),.slice za s.sl.length zc]:List Value)[j']?=some u→_root_.Go.World.cell? _ ⟨g,off+i*16+j',none⟩=some u from fun j' u hu=>st.c j' u (by unfold dn.cells;rw [hsv];exact hu))
      obtain⟨tm,htm⟩:∃ tm,Int.tmod s.what 2=tm:=⟨_,rfl⟩
      rw [htm] at t1 he
      have hwi:IntKind.u64.wrap (i:Int)=(i:Int):=by rw [wrap_u64];omega
      clear st h30 hsv
      go_upto_region 11 with fail
      refine fM (d := .region 11 (aH 11 Tryz.f8) false) (by kernel_rfl) ?_
      refine RW.wp (qc11 hlt (by omega) X.out ?_)
      intros
      rename_i xb w4 hxb hX m4
      have XB:=lh hX
      have M4:=lh m4
      clear hX m4
      obtain⟨id,hid⟩:∃ id,nx+i=id:=⟨_,rfl⟩
      have hidI:(nx:Int)+(i:Int)=((id:Nat):Int):=by omega
      have HID:=lh hid
      clear hid
      go_upto_region 13 with fail
      obtain⟨w5,hw5⟩:∃ w5,w5=w4.alloc (Obj.cells #[.int .u64 ((id:Nat):Int),.int .i64 12] 86):=⟨_,rfl⟩
      have m5:ae ai w4 w5:=by rw [hw5];exact (ae.refl _ _).alloc _
      have b5:w5.heap[w4.heap.size]?=some (Obj.cells #[.int .u64 ((id:Nat):Int),.int .i64 12] 86 (0,0)):=by rw [hw5];exact aF _ _
      rw [show World.alloc w4 _=w5 from hw5.symm]
      obtain⟨eb,heb⟩:∃ eb,w4.heap.size=eb:=⟨_,rfl⟩
      rw [heb] at b5 ⊢
      have hw0:w.heap.size≤eb:=by rw [← heb];exact ((zJ hI.out).trans M4.out (U:=ai) (fun _ _ x=>x) (fun _ _ x=>x)).size
      have hvo:vo.ownBlock≠some eb:=fun e=>by
        have:=(Ba hI.out).lt eb e
        have:=M4.out.size
        omega
      have HVO:=lh (And.intro hw0 hvo)
      have K5:=lh (UM (kd:=12) (jL w vo _) hI.out (M4.out.then0 m5) (by rw [← heb];exact M4.out.size) b5)
      have XB5:=lh (m5.heap XB.out (fun x=>x))
      clear hw5 m5 b5 heb hw0 hvo XB hI M4
      refine fM (d := .region 13 (aH 13 Tryz.f8) true) (by kernel_rfl) ?_
      refine RW.wp (qc13 (fun b' m=>yV (j:=4) HV.out (m.heap XB5.out (fun x=>x)) rfl) (fun b' m=>yV (j:=6) HV.out (m.heap XB5.out (fun x=>x)) rfl) (fun b' m=>yV (j:=3) HV.out (m.heap XB5.out (fun x=>x)) rfl) ?_)
      intros
      rename_i w6 m6
      have K6:=lh (Dx (kJ (jL w vo _) (ql eb id 12)) K5.out m6)
      have xb6:=m6.heap XB5.out (fun x=>x)
      have XB6:=lh xb6
      have cw:w6.cell? ⟨xb,0,none⟩=some (.int .i64 s.what):=af xb6 0
      have hch:(kC (tV (Ep nx) (ss.take i))).2=id:=by
        have:=(QI0.out i hi).ch
        rw [this]
        exact HID.out
      have HCH:=lh hch
      have id64:bD id:=by unfold bD;omega
      have qok:=RH ST.out.ok id64
      obtain⟨va,hva⟩:∃ va,s.src=va:=⟨_,rfl⟩
      obtain⟨dd,hdd⟩:∃ dd,s.due=dd:=⟨_,rfl⟩
      obtain⟨de,hde⟩:∃ de,s.own=de:=⟨_,rfl⟩
      obtain⟨kd,hkd⟩:∃ kd,s.kd=kd:=⟨_,rfl⟩
      obtain⟨FX,hFX⟩:∃ FX,tV (Ep nx) (ss.take (i+1))=FX:=⟨_,rfl⟩
      have HN:=lh (And.intro hva (And.intro hdd (And.intro hde hkd)))
      have HFX:=lh hFX
      have HB:=lh (show uQ (tV (Ep nx) (ss.take i)) s=FX from HFS.out.symm.trans hFX)
      have U4:=lh (show bD va∧bD dd∧bD de∧bD id from⟨hva▸qok.v,hdd▸qok.t,hde▸qok.d,id64⟩)
      clear m6 K5 XB5 xb6 hch hva hdd hde hkd hFX qok id64
      go_upto_if 51 with fail
      go_cut [10,11,12,13] (fun bg bn bi aY wx=>bg = .int .u64 ((va:Nat):Int)∧bn = .int .u64 ((dd:Nat):Int)∧bi = .int .u64 ((de:Nat):Int)∧aY = .int .u64 ((id:Nat):Int)∧Hid (ig w sg FX (10+10000*i+7) (2+10*i+10) (nS (EA w vo (gG nx (ss.take i))) (EB eb id kd)) wx))
      case first =>
        by_cases hev:tm=0
        · rw [decide_eq_true hev] at he
          have C:=lh (U9 (kJ (jL w vo _) (ql eb id 12)) K6.out ST.out.ok he HB.out HCH.out (by omega) (by omega))
          have XU:=lh (xb_u HV.out XB6.out)
          go_upto_region 16 with fail
          refine fM (d := .region 16 (aH 16 Tryz.f8) false) (by kernel_rfl) ?_
          refine RW.wp (qc16 XU.out C.out ?_)
          intros
          rename_i w7 h7
          have K7:=lh h7
          clear h7 C XU K6 XB6 cw
          go_wp2
          go_meet
          case rel =>
            refine⟨by rw [← HN.out.1];unfold dn.src;rw [he];rfl,by rw [← HN.out.2.1];unfold dn.due;rw [he];rfl,by rw [← HN.out.2.2.1];unfold dn.own;rw [he];rfl,rfl,lh ?_⟩
            have hk:kd=12:=by rw [← HN.out.2.2.2];unfold dn.kd;rw [he];rfl
            rw [hk]
            exact K7.out
        · rw [decide_eq_false hev] at he
          have C:=lh (fun W (hX:ig w sg (tV (Ep nx) (ss.take i)) (10+10000*i) (2+10*i) (nS (EA w vo (gG nx (ss.take i))) (EB eb id 13)) W)=>UL (kJ (jL w vo _) (ql eb id 13)) hX ST.out.ok he H30.out HB.out HCH.out (by omega) (by omega))
          have EB6:=lh (lL K6.out)
          go_upto_region 17 with fail
          refine fM (d := .region 17 (aH 17 Tryz.f8) false) (by kernel_rfl) ?_
          refine RW.wp (qc17 EB6.out ?_)
          intros
          rename_i w7 e7
          have k7:=UX (kd':=13) (jL w vo (gG nx (ss.take i))) K6.out HVO.out.1 HVO.out.2
          rw [show (((13:Nat):Nat):Int)=13 from rfl,← e7] at k7
          have hne:xb≠eb:=fun e=>by
            have h1:=XB6.out
            rw [e,EB6.out] at h1
            injection h1 with h1
            injection h1 with h1 h2
            exact absurd h2 (by decide)
          have xb7:=(ik (w:=w6) (a:=⟨eb,1,none⟩) (g:=xb) hne (.int .i64 13)).trans XB6.out
          rw [← e7] at xb7
          have XB7:=lh xb7
          have K7:=lh k7
          clear k7 xb7 hne e7 EB6 K6 XB6 cw
          go_upto_region 18 with fail
          refine fM (d := .region 18 (aH 18 Tryz.f8) true) (by kernel_rfl) ?_
          refine RW.wp (qc18 (fun b' m=>yV (j:=10) HV.out (m.heap XB7.out (fun x=>x)) rfl) (fun b' m=>yV (j:=13) HV.out (m.heap XB7.out (fun x=>x)) rfl) (fun b' m=>yV (j:=9) HV.out (m.heap XB7.out (fun x=>x)) rfl) ?_)
          intros
          rename_i w8 m8
          have C1:=C.out _ (Dx (kJ (jL w vo (gG nx (ss.take i))) (ql eb id 13)) K7.out m8)
          rw [HV.out] at C1
          have C2:=lh C1
          have XM:=lh (xb_m HV.out (m8.heap XB7.out (fun x=>x)))
          clear C1 C m8 XB7 K7
          go_upto_region 19 with fail
          refine fM (d := .region 19 (aH 19 Tryz.f8) false) (by kernel_rfl) ?_
          refine RW.wp (qc19 XM.out C2.out ?_)
          intros
          rename_i w9 h9
          have K9:=lh h9
          clear h9 C2 XM
          go_wp2
          go_meet
          case rel =>
            refine⟨by rw [← HN.out.1];unfold dn.src;rw [he];rfl,by rw [← HN.out.2.1];unfold dn.due;rw [he];rfl,by rw [← HN.out.2.2.1];unfold dn.own;rw [he];rfl,rfl,lh ?_⟩
            have hk:kd=13:=by rw [← HN.out.2.2.2];unfold dn.kd;rw [he];rfl
            rw [hk]
            exact K9.out
      case rest =>
        obtain⟨rfl,rfl,rfl,rfl,hO⟩:=hcut
        have hmem:qe s (nx+i)∈lV nx (ss.take (i+1)):=by rw [HES.out];simp
        have hln:(lV nx (ss.take (i+1))).length=i+1:=by rw [vZ,List.length_take,N0.out];omega
        have QN:=QI0.out (i+1) (by omega)
        rw [HFX.out] at QN
        obtain⟨TD,hTD,hTDq,hTDl,hTD1,hTD0⟩:=QH QN hmem
        obtain⟨TF,hTF,hTFq,hTFl,hTF1⟩:=Ob QN hmem
        obtain⟨c,hc0,hc⟩:=Qo QN hmem (by rw [hln];omega)
        rw [hln] at hTDl hTFl
        have HD:=lh (show FX.filter (fun e=>dh [113] e.1)=oV 14 TD∧(∀ t∈TD,QK 14 t.1 t.2.1∧t.2.2≤17)∧TD.length=i+1∧cE (jR dd TD) id kd=1∧∀ d1,dd=d1+1→cE (jR d1 TD) id kd=0 from⟨hTD,hTDq,hTDl,by rw [← HID.out,← HN.out.2.1,← HN.out.2.2.2];exact hTD1,fun d1 h=>by rw [← HID.out,← HN.out.2.2.2];exact hTD0 d1 (HN.out.2.1.trans h)⟩)
        have HF:=lh (show FX.filter (fun e=>dh (101 :: be 8 va) e.1)=oV 15 TF∧(∀ t∈TF,QK 15 t.1 t.2.1∧t.2.2≤17)∧TF.length≤i+1∧cE TF id kd=1 from⟨by rw [← HN.out.1];exact hTF,hTFq,hTFl,by rw [← HID.out,← HN.out.2.2.2];exact hTF1⟩)
        have HC:=lh (show 0<c∧sN FX de va=c from⟨hc0,by rw [← HN.out.1,← HN.out.2.2.1];exact hc⟩)
        have hT:gG nx (ss.take (i+1))=gG nx (ss.take i) ++ [(dd,id,kd)]:=by rw [HTS.out,HN.out.2.1,HID.out,HN.out.2.2.2]
        have HT:=lh hT
        have hli:(gG nx (ss.take i)).length≤100000000:=by rw [vK,List.length_take];omega
        clear hmem hln QN hTD hTDq hTDl hTD1 hTD0 hTF hTFq hTFl hTF1 hc0 hc hT HES HTS HFS HB K6 XB6 cw
        go_upto_region 20 with fail
        refine fM (d := .region 20 (aH 20 Tryz.f8) false) (by kernel_rfl) ?_
        refine RW.wp (qc20 (lL hO.out) (U1 hO.out) hli ?_)
        intros
        rename_i v8 w8 o8 m8 f8
        obtain⟨K8,hK8⟩:∃ K8,10+10000*i+7=K8:=⟨_,rfl⟩
        obtain⟨P8,hP8⟩:∃ P8,2+10*i+10=P8:=⟨_,rfl⟩
        have K9:=lh (show ig w sg FX K8 P8 (nS (EA w v8 (gG nx (ss.take (i+1)))) (EB eb id kd)) w8 from by
          rw [HT.out,← hK8,← hP8]
          exact Uu hO.out HVO.out.2 o8 m8 f8 (zJ hO.out).size)
        have KB:=lh (And.intro hK8 (And.intro hP8 (And.intro hlt hN150)))
        clear o8 m8 f8 hK8 hP8 hO hli
        go_upto_region 21 with fail
        refine fM (d := .region 21 (aH 21 Tryz.f8) true) (by kernel_rfl) ?_
        cases dd with
        | zero =>
          refine RW.wp (qc21z (S:=(fun W=>W.heap[eb]?=some (.cells #[.int .u64 ((id:Nat):Int),.int .i64 ((kd:Nat):Int)] 86 (0,0)))) (X0:=fun W=>ig w sg FX (K8) P8 (nS (EA w v8 (gG nx (ss.take (i+1)))) (EB eb id kd)) W) (X1:=fun W=>ig w sg FX (K8+1+P8) P8 (nS (EA w v8 (gG nx (ss.take (i+1)))) (EB eb id kd)) W) (X3:=fun W=>ig w sg FX (K8+1+P8+1+P8) P8 (nS (EA w v8 (gG nx (ss.take (i+1)))) (EB eb id kd)) W) (X4:=fun W=>ig w sg FX (K8+1+P8+1+P8+1) P8 (nS (EA w v8 (gG nx (ss.take (i+1)))) (EB eb id kd)) W) (Y1:=fun v W=>Cj w sg FX (K8+1+P8) P8 (nS (EA w v8 (gG nx (ss.take (i+1)))) (EB eb id kd)) (jR 0 TD) v W) (Y3:=fun v W=>Cj w sg FX (K8+1+P8+1+P8) P8 (nS (EA w v8 (gG nx (ss.take (i+1)))) (EB eb id kd)) (TF) v W) (Dx (kJ (jL w v8 (gG nx (ss.take (i+1)))) (ql eb id kd)) K9.out ((ae.refl ai _).drew)) (fun b' h=>af h 0) (fun b' h j u hj=>by rw [Nat.zero_add];exact (af h j).trans (by rw [← hj];exact List.getElem?_toArray)) (fun _ h=>lL h) (fun _ _ h=>lL h.1) (fun _ h=>lL h) (fun _ _ h=>lL h.1) (fun _ h=>lL h) (fun _ h=>lL h) (fun _ h=>yI (kJ (jL w v8 (gG nx (ss.take (i+1)))) (ql eb id kd)) h U4.out.2.1 HD.out.1 HD.out.2.1 (by have:=KB.out;omega) (by have:=KB.out;omega)) (fun _ _ h=>zu (kJ (jL w v8 (gG nx (ss.take (i+1)))) (ql eb id kd)) h (by have:=HD.out.2.2.1;have:=yH (h:=0) (T:=TD);omega) (decide_eq_true HD.out.2.2.2.1)) (fun _ h=>Jf (kJ (jL w v8 (gG nx (ss.take (i+1)))) (ql eb id kd)) h U4.out.1 HF.out.1 HF.out.2.1 (by have:=KB.out;omega) (by have:=KB.out;omega)) (fun _ _ h=>zu (kJ (jL w v8 (gG nx (ss.take (i+1)))) (ql eb id kd)) h (by have:=HF.out.2.2.1;omega) (decide_eq_true HF.out.2.2.2)) (fun _ h=>Gm (kJ (jL w v8 (gG nx (ss.take (i+1)))) (ql eb id kd)) h U4.out.2.2.1 U4.out.1 HC.out.2 (by have:=KB.out;omega) (by have:=KB.out;omega)) (d1:=0) (by omega) HC.out.1 ?_)
          intros
          rename_i w9 h9
          have KZ:=lh h9
          clear h9 K9
          go_wp2
          go_roundw
          case rel=>exact⟨i+1,v8,by omega,rfl,by go_num,lh (by rw [HFX.out];exact zN (H5 KZ.out) (by have:=KB.out;omega) (by have:=KB.out;omega))⟩
          case measure=>simp [intOf];omega
        | succ d1 =>
          refine RW.wp (qc21p (S:=(fun W=>W.heap[eb]?=some (.cells #[.int .u64 ((id:Nat):Int),.int .i64 ((kd:Nat):Int)] 86 (0,0)))) (X0:=fun W=>ig w sg FX (K8) P8 (nS (EA w v8 (gG nx (ss.take (i+1)))) (EB eb id kd)) W) (X1:=fun W=>ig w sg FX (K8+1+P8) P8 (nS (EA w v8 (gG nx (ss.take (i+1)))) (EB eb id kd)) W) (X2:=fun W=>ig w sg FX (K8+1+P8+1+P8) P8 (nS (EA w v8 (gG nx (ss.take (i+1)))) (EB eb id kd)) W) (Y2:=fun v W=>Cj w sg FX (K8+1+P8+1+P8) P8 (nS (EA w v8 (gG nx (ss.take (i+1)))) (EB eb id kd)) (jR d1 TD) v W) (X3:=fun W=>ig w sg FX (K8+1+P8+1+P8+1+P8) P8 (nS (EA w v8 (gG nx (ss.take (i+1)))) (EB eb id kd)) W) (X4:=fun W=>ig w sg FX (K8+1+P8+1+P8+1+P8+1) P8 (nS (EA w v8 (gG nx (ss.take (i+1)))) (EB eb id kd)) W) (Y1:=fun v W=>Cj w sg FX (K8+1+P8) P8 (nS (EA w v8 (gG nx (ss.take (i+1)))) (EB eb id kd)) (jR (d1+1) TD) v W) (Y3:=fun v W=>Cj w sg FX (K8+1+P8+1+P8+1+P8) P8 (nS (EA w v8 (gG nx (ss.take (i+1)))) (EB eb id kd)) (TF) v W) (Dx (kJ (jL w v8 (gG nx (ss.take (i+1)))) (ql eb id kd)) K9.out ((ae.refl ai _).drew)) (fun b' h=>af h 0) (fun b' h j u hj=>by rw [Nat.zero_add];exact (af h j).trans (by rw [← hj];exact List.getElem?_toArray)) (fun _ h=>lL h) (fun _ _ h=>lL h.1) (fun _ h=>lL h) (fun _ _ h=>lL h.1) (fun _ h=>lL h) (fun _ _ h=>lL h.1) (fun _ h=>lL h) (fun _ h=>lL h) (fun _ h=>yI (kJ (jL w v8 (gG nx (ss.take (i+1)))) (ql eb id kd)) h U4.out.2.1 HD.out.1 HD.out.2.1 (by have:=KB.out;omega) (by have:=KB.out;omega)) (fun _ _ h=>zu (kJ (jL w v8 (gG nx (ss.take (i+1)))) (ql eb id kd)) h (by have:=HD.out.2.2.1;have:=yH (h:=(d1+1)) (T:=TD);omega) (decide_eq_true HD.out.2.2.2.1)) (fun _ h=>yI (kJ (jL w v8 (gG nx (ss.take (i+1)))) (ql eb id kd)) h (by have:=U4.out.2.1;unfold bD at this ⊢;omega) HD.out.1 HD.out.2.1 (by have:=KB.out;omega) (by have:=KB.out;omega)) (fun _ _ h=>zu (kJ (jL w v8 (gG nx (ss.take (i+1)))) (ql eb id kd)) h (by have:=HD.out.2.2.1;have:=yH (h:=d1) (T:=TD);omega) (decide_eq_false (by rw [HD.out.2.2.2.2 d1 rfl];omega))) (fun _ h=>Jf (kJ (jL w v8 (gG nx (ss.take (i+1)))) (ql eb id kd)) h U4.out.1 HF.out.1 HF.out.2.1 (by have:=KB.out;omega) (by have:=KB.out;omega)) (fun _ _ h=>zu (kJ (jL w v8 (gG nx (ss.take (i+1)))) (ql eb id kd)) h (by have:=HF.out.2.2.1;omega) (decide_eq_true HF.out.2.2.2)) (fun _ h=>Gm (kJ (jL w v8 (gG nx (ss.take (i+1)))) (ql eb id kd)) h U4.out.2.2.1 U4.out.1 HC.out.2 (by have:=KB.out;omega) (by have:=KB.out;omega)) (by have:=U4.out.2.1;unfold bD at this;omega) HC.out.1 ?_)
          intros
          rename_i w9 h9
          have KZ:=lh h9
          clear h9 K9
          go_wp2
          go_roundw
          case rel=>exact⟨i+1,v8,by omega,rfl,by go_num,lh (by rw [HFX.out];exact zN (H5 KZ.out) (by have:=KB.out;omega) (by have:=KB.out;omega))⟩
          case measure=>simp [intOf];omega
    · obtain rfl:i=N:=by omega
      have htk:ss.take i=ss:=List.take_of_length_le (by rw [N0.out];exact Nat.le_refl _)
      have K9:=hI.out
      have Q9:=QI0.out i (Nat.le_refl _)
      rw [htk] at K9 Q9
      obtain⟨T,hT,hTq,hTd,hTl⟩:=KA Q9
      have hTi:T.length=i:=by rw [hTl,vZ,N0.out]
      have c:=yI (hd:=18446744073709551615) (jL w vo (gG nx ss)) K9 (by unfold bD;omega) hT hTq (by omega) (by omega)
      rw [hTd] at c
      have C:=lh c
      have HQ:=lh (And.intro Q9 hTi)
      clear hI K9 Q9 hT hTq hTd hTl hTi c htk
      go_wp2_with fail
      refine C.out.mono ?_
      rintro e w10 ⟨v10,rfl,h10⟩
      obtain⟨da,dc,rfl,_⟩:=h10.2.rd.form
      obtain⟨aa,ac,hav,_⟩:=(Ba h10.1).rd.form
      rw [vK,N0.out] at hav
      subst hav
      rw [HQ.out.2]
      have HX:=lh h10.1
      obtain⟨y0,hy0⟩:∃ y0:Int,(i:Int) - 1=y0:=⟨_,rfl⟩
      have q7:IntKind.i64.wrap ((i:Int) - 1)=y0:=by
        simp only [IntKind.wrap,IntKind.signed,IntKind.bits]
        simp
        omega
      have HY:=lh hy0
      clear h10 C hy0
      go_wp2
      go_loopw [14] (fun x wr=>∃ (j:Nat) (y:Int),j≤i∧x = .int .i64 y∧y+1=j∧Hid (∃ F,QI F 3 (nx+i) (lV nx (ss.take j))∧ig w sg F (2000000+5000*(i - j)) (1600+16*(i - j)) (EA w (.slice aa i ac) (gG nx ss)) wr)) (fun x _=>(intOf x+1).toNat)
      case atStart=>exact⟨i,y0,Nat.le_refl _,rfl,by have:=HY.out;omega,lh ⟨_,by rw [List.take_of_length_le (by rw [N0.out];exact Nat.le_refl _)];exact HQ.out.1,zN HX.out (by omega) (by omega)⟩⟩
      case round =>
        clear HX q7 HQ HY
        obtain⟨j,y,hj,rfl,hy,hJ⟩:=hrel
        rcases Nat.eq_zero_or_pos j with rfl | hj0
        · obtain rfl:y = -1:=by omega
          obtain⟨F,q,h⟩:=hJ.out
          have C:=lh (SI h (by omega))
          have H1:=lh (Qm q (by omega))
          have MM:=lh (zJ h)
          clear hJ q h hy
          go_wp2_with fail
          refine C.out.mono ?_
          rintro e w11 ⟨a,c,rfl,m⟩
          rw [H1.out]
          have MN:=lh (MM.out.then0 m)
          clear C m MM H1
          go_wp2
          go_ret
          exact⟨rfl,MN.out⟩
        · obtain⟨j',rfl⟩:∃ j',j=j'+1:=⟨j - 1,by omega⟩
          obtain rfl:y=(j':Int):=by omega
          obtain⟨F,q,hO⟩:=hJ.out
          have hjl:j'<ss.length:=by rw [N0.out];omega
          have o:=Ba hO
          rw [vK,N0.out] at o
          obtain⟨h,offh,rfl⟩:=Tn o (by omega)
          rw [yU nx hjl] at q
          obtain⟨d1,q1,hn⟩:=NR q (by rw [vZ,List.length_take];omega)
          have hat:=Ve nx hjl
          obtain⟨id,hid⟩:∃ id,nx+j'=id:=⟨_,rfl⟩
          obtain⟨kd,hkd⟩:∃ kd,ss[j'].kd=kd:=⟨_,rfl⟩
          have id64:bD id:=by unfold bD;omega
          rw [hid,hkd] at hat
          have e1:(qe ss[j'] (nx+j')).id=id:=hid
          have e2:(qe ss[j'] (nx+j')).k=kd:=hkd
          rw [e1,e2] at d1 q1
          rw [e1] at hn
          obtain⟨F1,hF1⟩:∃ F1,qV F id ((kd:Nat):Int)=F1:=⟨_,rfl⟩
          rw [hF1] at q1
          obtain⟨d2,d3⟩:=J4 q1 id64 hn ((kd:Nat):Int)
          obtain⟨T,hT,hTq,hTd,hTl,hT0⟩:=MQ (kd:=kd) q1 hn
          have hTn:T.length≤1000000:=by rw [hTl,vZ,List.length_take];omega
          obtain⟨K8,hK8⟩:∃ K8,2000000+5000*(i - (j'+1))=K8:=⟨_,rfl⟩
          obtain⟨P8,hP8⟩:∃ P8,1600+16*(i - (j'+1))=P8:=⟨_,rfl⟩
          rw [hK8,hP8] at hO
          have HO:=lh hO
          have HAT:=lh hat
          have HD:=lh (And.intro d1 (And.intro hF1 (And.intro d2 d3)))
          have HT:=lh (And.intro hT (And.intro hTq (And.intro hTd (And.intro hTn hT0))))
          have HQ:=lh q1
          have KB:=lh (And.intro hK8 (And.intro hP8 (And.intro hj hN150)))
          have I64:=lh id64
          have OE:=lh (fun W F K P (x:ig w sg F K P (EA w (.slice (some ⟨h,offh,none⟩) i ac) (gG nx ss)) W)=>show bC W 86 2 (.slice (some ⟨h,offh,none⟩) i ac) i (ecs (gG nx ss)) from by have y:=Ba x;rw [vK,N0.out] at y;exact y)
          clear hJ q hO o d1 q1 hn hat e1 e2 hF1 d2 d3 hT hTq hTd hTl hT0 hTn hK8 hP8 hid hkd id64 hy
          go_upto_region 28 with fail
          refine fM (d := .region 28 (aH 28 Tryz.f8) true) (by kernel_rfl) ?_
          refine RW.wp (qc28 (S:=fun W=>bC W 86 2 (.slice (some ⟨h,offh,none⟩) i ac) i (ecs (gG nx ss))) (X0:=fun W=>ig w sg F (K8) (P8) (EA w (.slice (some ⟨h,offh,none⟩) i ac) (gG nx ss)) W) (X1:=fun W=>ig w sg F1 (K8+6) (P8+8) (EA w (.slice (some ⟨h,offh,none⟩) i ac) (gG nx ss)) W) (X2:=fun W=>ig w sg F1 (K8+6+6) (P8+8+8) (EA w (.slice (some ⟨h,offh,none⟩) i ac) (gG nx ss)) W) (X3:=fun W=>ig w sg F1 (K8+6+6+1+(P8+8+8)) (P8+8+8) (EA w (.slice (some ⟨h,offh,none⟩) i ac) (gG nx ss)) W) (Y3:=fun v W=>Cj w sg F1 (K8+6+6+1+(P8+8+8)) (P8+8+8) (EA w (.slice (some ⟨h,offh,none⟩) i ac) (gG nx ss)) T v W)
            (Dx (jL w (.slice (some ⟨h,offh,none⟩) i ac) (gG nx ss)) HO.out ((ae.refl ai _).drew)) (by have:=KB.out;omega) (by have:=KB.out;omega) (fun b' o j u hj=>P9 rfl o HAT.out (by have:=KB.out;omega) j u hj) (fun _ x=>OE.out _ _ _ _ x) (fun _ x=>OE.out _ _ _ _ x) (fun _ x=>OE.out _ _ _ _ x) (fun _ _ x=>OE.out _ _ _ _ x.1) (fun _ x=>OE.out _ _ _ _ x)
            (fun _ x=>JJ (jL w (.slice (some ⟨h,offh,none⟩) i ac) (gG nx ss)) x I64.out HD.out.1 HD.out.2.1 (by have:=KB.out;omega) (by have:=KB.out;omega)) (fun _ x=>JJ (jL w (.slice (some ⟨h,offh,none⟩) i ac) (gG nx ss)) x I64.out HD.out.2.2.1 HD.out.2.2.2 (by have:=KB.out;omega) (by have:=KB.out;omega)) (fun _ x=>by
              have c:=yI (hd:=18446744073709551615) (jL w (.slice (some ⟨h,offh,none⟩) i ac) (gG nx ss)) x (by unfold bD;omega) HT.out.1 HT.out.2.1 (by have:=KB.out;omega) (by have:=KB.out;omega)
              rw [HT.out.2.2.1] at c
              exact c) (fun _ _ x=>zu (jL w (.slice (some ⟨h,offh,none⟩) i ac) (gG nx ss)) x HT.out.2.2.2.1 (decide_eq_false (by rw [HT.out.2.2.2.2];omega))) ?_)
          intros
          rename_i w9 h9
          have KZ:=lh h9
          clear h9 HO HD HT HAT OE
          go_wp2
          go_roundw
          case rel=>exact⟨j',(j':Int) - 1,by have:=KB.out;omega,by go_num,by omega,lh ⟨F1,HQ.out,zN KZ.out (by have:=KB.out;omega) (by have:=KB.out;omega)⟩⟩
          case measure=>simp [intOf]
end Go.Proofs.YtglkmaalpammcaaGreat

/- gleanref7.Read: the key that bytes are, or none: the document's way. -/
import Derived.Test.YtglkmaalpammcaaGreatZE
import Derived.Test.YtglkmaalpammcaaGreatRMake2
namespace Go.Proofs.YtglkmaalpammcaaGreat
open Go.Gl Go.RowKit
set_option linter.unusedVariables false
def jK (f:dV):Nat:=1+8*gq f+(if f.mid.toNat=0 then 0 else 1)
theorem BH (f:dV) (a b:Nat):(dD f a b).length=jK f:=by
 obtain⟨hd,md,fa,fb,ft⟩:=f
 unfold dD iQ jK gq
 cases fa <;> cases fb <;> simp [dH] <;> split <;> simp
theorem CQ {k A B:Nat}{b:List UInt8}{f:dV} (hf:eY k=some f) (h:fE k A B=some b):b.length=jK f:=by
 obtain⟨f',hf',_,rfl⟩:=pI h
 rw [Int.toNat_natCast,hf] at hf'
 cases hf'
 exact BH f A B
theorem Di {k:Nat}{f:dV} (hf:eY k=some f):(k=10↔f.turned=true):=by
 obtain⟨h1,h2⟩:=og hf
 rcases kinds k h1 h2 with rfl | rfl | rfl | rfl | rfl | rfl | rfl | rfl | rfl | rfl | rfl | rfl | rfl | rfl | rfl | rfl | rfl <;> cases hf <;> decide
theorem EL {f:dV} (h:f.b=true→f.a=true):(1≤gq f↔f.a=true)∧(2≤gq f↔f.b=true):=by
 obtain⟨hd,md,fa,fb,ft⟩:=f
 cases fa <;> cases fb <;> simp [gq]
 simp at h
def mO (w1:World) (k A B:Nat) (xs:List UInt8) (wx:World):Prop :=
 wx.heap[w1.heap.size]?=some (.cells #[.int .i64 (k:Int),.int .u64 (A:Int),.int .u64 (B:Int)] 173 (0,0))∧(∃ vB,RR wx (w1.heap.size+1) vB xs 0∧∀ i,vB.ownBlock=some i→i<w1.heap.size)∧ae ai w1 wx
theorem mO.setA {w1:World}{k A B:Nat}{xs:List UInt8}{wx:World} (h:mO w1 k A B xs wx) (A':Nat):mO w1 k A' B xs (wx.setCell ⟨w1.heap.size,1,none⟩ (.int .u64 (A':Int))):=by
 obtain⟨h1,⟨vB,h2,h4⟩,h3⟩:=h
 refine⟨by have:=heap_set h1 1 (.int .u64 (A':Int));simpa using this,⟨vB,h2.keep (ae.one _ _ _ _) (by simp) (fun i hi e=>by have:=h4 i hi;omega),h4⟩,h3.setCell (.inr (by simp)) _⟩
theorem mO.setB {w1:World}{k A B:Nat}{xs:List UInt8}{wx:World} (h:mO w1 k A B xs wx) (B':Nat):mO w1 k A B' xs (wx.setCell ⟨w1.heap.size,2,none⟩ (.int .u64 (B':Int))):=by
 obtain⟨h1,⟨vB,h2,h4⟩,h3⟩:=h
 refine⟨by have:=heap_set h1 2 (.int .u64 (B':Int));simpa using this,⟨vB,h2.keep (ae.one _ _ _ _) (by simp) (fun i hi e=>by have:=h4 i hi;omega),h4⟩,h3.setCell (.inr (by simp)) _⟩
theorem mO.step {w1:World}{k A B n:Nat}{xs:List UInt8}{wx wy:World}{vB:Value} (h:mO w1 k A B xs wx) (hv:∀ i,vB.ownBlock=some i→i<w1.heap.size) (hn:n≤xs.length) (hs:tN wx (w1.heap.size+1) vB (qF n xs 0) (qG n xs 0) wy):mO w1 k A B (xs.drop n) wy:=by
 obtain⟨⟨vB',h1,h2⟩,h3⟩:=hs
 have e1:qF n xs 0=xs.drop n:=by simp [qF,hn]
 have e2:qG n xs 0=0:=by simp [qG,hn]
 rw [e1,e2] at h1
 exact⟨h3.heap h.1 (by omega),⟨vB',h1,fun i hi=>hv i (h2 i hi)⟩,h.2.2.trans h3 (fun _ _ x=>x) (fun i hi x=>by omega)⟩
theorem EN {f:dV}{b:List UInt8} (hba:f.b=true→f.a=true) (hta:f.turned=true→f.a=true) (hl:b.length=jK f) :
  nZ f b=fU f (if f.a then num ((b.drop 1).take 8) else 0) ∧
  ni f b=(if f.b then num (((((b.drop 1).drop 8).drop (if f.mid.toNat=0 then 0 else 1))).take 8) else 0):=by
 obtain⟨hd,md,fa,fb,ft⟩:=f
 unfold jK gq at hl
 unfold nZ ni
 cases fa
 ·cases fb
  ·simp at hl ⊢
  ·exact absurd (hba rfl) (by simp)
 ·cases fb
  ·refine⟨?_,by simp⟩
   have:9≤b.length:=by simp at hl;omega
   simp [this]
  ·have h9:9≤b.length:=by simp at hl;omega
   have h8:8≤b.length:=by omega
   refine⟨by simp [h9],?_⟩
   simp only [h8,and_self,if_true,List.drop_drop]
   rw [List.take_of_length_le (by rw [List.length_drop];simp at hl;omega)]
   congr 2
   simp at hl
   omega
set_option maxHeartbeats 2000000 in
theorem BQ (b:List UInt8) (ax:Option Addr) (nx cx:Nat) (w:World) (hr:Rd w (.slice ax nx cx) b) (hx:b.length=nx) (hcx:nx≤cx) (hcm:cx≤maxLen) :
  Calls Tryz.prog 148 #[.slice ax nx cx] w (ry b w):=by
 have HX:=lh hx
 have HR:=lh hr
 unfold maxLen at hcm
 clear hx hr
 go_enter Tryz.func148,Tryz.ntmps148
 go_wp2
 go_loopg [4] 17 (fun gk i wr=>∃ k:Nat,k+gk=18∧1≤k∧i = .int .i64 k∧Hid (noKind b k∧ae ai (w.alloc (.cells #[.int .i64 0,.int .u64 0,.int .u64 0] 173)) wr))
 case atStart=>exact⟨1,by omega,Nat.le_refl _,rfl,uq b,ae.refl _ _⟩
 case round =>
  obtain⟨k,hk1,hk2,rfl,hR⟩:=hrel
  by_cases hlt:k<18
  ·obtain⟨f,hf,_⟩:=mM k hk2 (by omega)
   have HF:=lh hf
   have hz:w.heap.size<wr.heap.size:=hR.out.2.size_of (by simp)
   have hkc:((gq f:Nat):Int)≤2:=by unfold gq;split <;> split <;> omega
   go_upto_if 27 with (first | (go_at_call 198;refine (je _ _ _ HF.out).mono ?_;rintro e w1 ⟨rfl,rfl⟩))
   go_cut [8] (fun s wx=>s = .int .i64 (jK f)∧wx=w1)
   case first =>
    by_cases hm0:f.mid.toNat=0
    ·have hm2:(((f.mid.toNat:Nat):Int) != 0)=false:=by simp [hm0]
     have e:Hid ((jK f:Int)=1+8*(gq f:Int)):=by show _=_;unfold jK;rw [if_pos hm0];omega
     clear hm0
     go_wp2
     go_meet
     exact⟨by rw [e.out],rfl⟩
    ·have hm2:(((f.mid.toNat:Nat):Int) != 0)=true:=by simp [hm0]
     have e:Hid ((jK f:Int)=1+8*(gq f:Int)+1):=by show _=_;unfold jK;rw [if_neg hm0];omega
     clear hm0
     go_wp2
     go_meet
     exact⟨by rw [e.out],rfl⟩
   case rest =>
    obtain⟨rfl,hwc⟩:=hcut
    subst hwc
    obtain⟨wb,rfl⟩:∃ wb:World,wb=wc:=⟨_,rfl⟩
    by_cases hsz:nx=jK f
    ·subst hsz
     have hl1:1≤jK f:=by unfold jK;omega
     obtain⟨g,off,hax⟩:=Rd.addr HR.out (by omega)
     subst hax
     have hRd0:=HR.out.keep hR.out.2.after (fun _ _ x=>x)
     have hgb:=Rd.ltn hRd0 (by rw [show b.length=jK f from HX.out];omega) g rfl
     have hf1:=uS hf
     have hf2:=Di hf
     have hcr:=EN hf1.2 hf1.1 HX.out
     have hlen:b.length=1+8*gq f+(if f.mid.toNat=0 then 0 else 1):=HX.out
     obtain⟨hkA,hkB⟩:=EL hf1.2
     obtain⟨A1,hA1⟩:∃ A1:Nat,A1=if f.a then num ((b.drop 1).take 8) else 0:=⟨_,rfl⟩
     obtain⟨B1,hB1⟩:∃ B1:Nat,B1=if f.b then num (((((b.drop 1).drop 8).drop (if f.mid.toNat=0 then 0 else 1))).take 8) else 0:=⟨_,rfl⟩
     have lA1:A1≤18446744073709551615:=by rw [hA1];split;exact tK _ (List.length_take_le _ _);omega
     have lB1:B1≤18446744073709551615:=by rw [hB1];split;exact tK _ (List.length_take_le _ _);omega
     rw [← hA1,← hB1] at hcr
     have FX:=lh (show _∧_∧_∧_∧_∧_∧_ from⟨hcr,hf2,hlen,hkA,hkB,hA1,hB1⟩)
     clear hf1 hf2 hcr hlen hkA hkB hA1 hB1 hf
     have HRd:=lh (show Rd wb (.slice (some ⟨g,off,none⟩) b.length cx) b by rw [HX.out];exact hRd0)
     clear hRd0
     go_upto_region 10 with fail
     go_cut [10] (fun s wx=>s = .pointer (some ⟨wb.heap.size+1,0,none⟩)∧Hid (mO wb k 0 0 (b.drop 1) wx))
     case first =>
      by_cases hc1:cx=1
      ·subst hc1
       have r1:=Rd.drop (n:=1) HRd.out (by rw [HX.out];exact hl1)
       rw [if_pos rfl,HX.out,show jK f - 1=0 from by omega,Nat.sub_self] at r1
       have R1:=lh r1
       clear r1
       go_wp2
       go_meet
       refine⟨rfl,dA (aU _ _) _,⟨_,⟨by have:=aU (wb.alloc (.cells #[.int .i64 (k:Int),.int .u64 0,.int .u64 0] 173));simp only [World.size_alloc] at this;exact this _,?_,fun e=>by simp [Value.ownBlock] at e;omega⟩,fun i hi=>by simp [Value.ownBlock] at hi;omega⟩,((ae.refl _ _).alloc _).alloc _⟩
       exact (R1.out.alloc _).alloc _
      ·have r1:=Rd.drop (n:=1) HRd.out (by rw [HX.out];exact hl1)
       rw [if_neg hc1,HX.out] at r1
       have R1:=lh r1
       clear r1
       go_wp2
       go_meet
       refine⟨rfl,dA (aU _ _) _,⟨_,⟨by have:=aU (wb.alloc (.cells #[.int .i64 (k:Int),.int .u64 0,.int .u64 0] 173));simp only [World.size_alloc] at this;exact this _,?_,fun e=>by simp [Value.ownBlock] at e;omega⟩,fun i hi=>by simp [Value.ownBlock] at hi;omega⟩,((ae.refl _ _).alloc _).alloc _⟩
       exact (R1.out.alloc _).alloc _
     case rest =>
      obtain⟨rfl,hB⟩:=hcut
      obtain⟨X1,hX1⟩:∃ X1,X1=if f.a then (b.drop 1).drop 8 else b.drop 1:=⟨_,rfl⟩
      obtain⟨X2,hX2⟩:∃ X2,X2=X1.drop (if f.mid.toNat=0 then 0 else 1):=⟨_,rfl⟩
      have HX1:=lh hX1
      have HX2:=lh hX2
      clear hX1 hX2 HRd
      go_upto_if 41 with fail
      go_cut [] (fun wx=>Hid (mO wb k A1 0 X1 wx))
      case first =>
       obtain⟨-,-,hlen,hkA,-,hA1,-⟩:=FX.out
       cases hfa:f.a
       ·have hk0:((gq f:Nat):Int)≤0:=by have:=mt hkA.1 (by simp [hfa]);omega
        have e:Hid (A1=0∧X1=b.drop 1):=by rw [hA1,HX1.out,hfa];exact⟨rfl,rfl⟩
        clear hlen hkA hA1 hfa
        go_wp2
        go_meet
        rw [e.out.1,e.out.2]
        exact hB
       ·have hk0:(1:Int)≤((gq f:Nat):Int):=by have:=hkA.2 hfa;omega
        have h8:8≤(b.drop 1).length:=by rw [List.length_drop];have:=hkA.2 hfa;omega
        have e:Hid (num (lZ 8 (b.drop 1) 0)=A1∧X1=(b.drop 1).drop 8):=by
         show _∧_
         rw [hA1,HX1.out,hfa]
         exact⟨by simp only [lZ,if_true,h8],rfl⟩
        obtain⟨vB,hvB,hv2⟩:=hB.out.2.1
        have H8:=lh h8
        clear hlen hkA hA1 hfa h8
        go_wp2_with fail
        refine (yO 8 hvB (by decide)).mono ?_
        rw [e.out.1]
        rintro e' w2 ⟨rfl,hs⟩
        have hB2:=lh (mO.step hB.out hv2 H8.out hs)
        have ck:=ag hB2.out.1
        have fk:=bY hB2.out.1
        clear hs hvB hv2
        go_wp2
        go_meet
        rw [e.out.2]
        exact mO.setA hB2.out A1
      case rest =>
       clear hB
       have hB:=hcut
       clear hcut
       go_upto_if 46 with fail
       go_cut [] (fun wx=>Hid (mO wb k A1 0 X2 wx))
       case first =>
        obtain⟨-,-,hlen,hkA,-,hA1,-⟩:=FX.out
        by_cases hm0:f.mid.toNat=0
        ·have hm2:(((f.mid.toNat:Nat):Int) != 0)=false:=by simp [hm0]
         have e:Hid (X2=X1):=by rw [HX2.out,if_pos hm0];rfl
         clear hlen hkA hA1 hm0
         go_wp2
         go_meet
         rw [e.out]
         exact hB
        ·have hm2:(((f.mid.toNat:Nat):Int) != 0)=true:=by simp [hm0]
         have h1:1≤X1.length:=by
          rw [HX1.out]
          rw [if_neg hm0] at hlen
          cases hfa:f.a
          ·have:=mt hkA.1 (by simp [hfa]);simp;omega
          ·have:=hkA.2 hfa;simp;omega
         have e:Hid (X2=X1.drop 1):=by rw [HX2.out,if_neg hm0];rfl
         obtain⟨vB,hvB,hv2⟩:=hB.out.2.1
         have H1:=lh h1
         clear hlen hkA hA1 hm0 h1
         go_wp2_with fail
         refine (yO 1 hvB (by decide)).mono ?_
         rintro e' w2 ⟨rfl,hs⟩
         have hB2:=lh (mO.step hB.out hv2 H1.out hs)
         clear hs hvB hv2
         go_wp2
         go_meet
         rw [e.out]
         exact hB2
       case rest =>
        clear hB
        have hB:=hcut
        clear hcut
        go_upto_if 50 with fail
        go_cut [] (fun wx=>Hid (∃ xs,mO wb k A1 B1 xs wx))
        case first =>
         obtain⟨-,-,hlen,hkA,hkB,-,hB1⟩:=FX.out
         cases hfb:f.b
         ·have hk0:((gq f:Nat):Int)≤1:=by have:=mt hkB.1 (by simp [hfb]);omega
          have e:Hid (B1=0):=by rw [hB1,hfb];rfl
          clear hlen hkA hkB hB1 hfb
          go_wp2
          go_meet
          rw [e.out]
          exact⟨_,hB⟩
         ·have hk0:(2:Int)≤((gq f:Nat):Int):=by have:=hkB.2 hfb;omega
          have hfa:f.a=true:=hkA.1 (by have:=hkB.2 hfb;omega)
          have h8:8≤X2.length:=by rw [HX2.out,HX1.out,hfa];have:=hkB.2 hfb;simp;omega
          have e:Hid (num (lZ 8 X2 0)=B1):=by
           show _=_
           rw [hB1,hfb]
           simp only [lZ,if_true,h8]
           rw [HX2.out,HX1.out,hfa]
           rfl
          obtain⟨vB,hvB,hv2⟩:=hB.out.2.1
          have H8:=lh h8
          clear hlen hkA hkB hB1 hfb hfa h8
          go_wp2_with fail
          refine (yO 8 hvB (by decide)).mono ?_
          rw [e.out]
          rintro e' w2 ⟨rfl,hs⟩
          have hB2:=lh (mO.step hB.out hv2 H8.out hs)
          have ck:=ag hB2.out.1
          have fk:=bY hB2.out.1
          clear hs hvB hv2
          go_wp2
          go_meet
          exact⟨_,mO.setB hB2.out B1⟩
        case rest =>
         clear hB
         obtain⟨X3,hB0⟩:=hcut.out
         have hB:=lh hB0
         clear hcut hB0
         go_upto_if 55 with fail
         go_cut [] (fun wx=>Hid (mO wb k (fU f A1) B1 X3 wx))
         case first =>
          obtain⟨-,hten,-⟩:=FX.out
          have ck:=ag hB.out.1
          have fk:=bY hB.out.1
          by_cases hk10:k=10
          ·have hk2':(((k:Nat):Int) == 10)=true:=by simp;omega
           have e:Hid (fU f A1=18446744073709551615 - A1):=by show _=_;unfold fU;rw [hten.1 hk10];rfl
           clear hten hk10
           go_wp2
           go_meet
           rw [show (18446744073709551615:Int) - (A1:Int)=((18446744073709551615 - A1:Nat):Int) from by omega,e.out]
           exact mO.setA hB.out _
          ·have hk2':(((k:Nat):Int) == 10)=false:=by simp;omega
           have e:Hid (fU f A1=A1):=by show _=_;unfold fU;rw [if_neg (fun h=>hk10 (hten.2 h))]
           clear hten hk10
           go_wp2
           go_meet
           rw [e.out]
           exact hB
         case rest =>
          clear hB
          have hB:=hcut
          clear hcut
          have hT:=uO f A1 lA1
          obtain⟨A2,hA2⟩:∃ A2,A2=fU f A1:=⟨_,rfl⟩
          rw [← hA2] at hB hT
          have HC:Hid (nZ f b=A2∧ni f b=B1):=by rw [hA2];exact FX.out.1
          clear hA2
          have ck:=ag hB.out.1
          have mwc:=hR.out.2.after.then0 hB.out.2.2
          go_wp2_with fail
          refine (xI (k:Int) A2 B1 _ hT lB1).mono ?_
          rintro e w2 ⟨v,rfl,ov,mv,fv'⟩
          have hz2:=mv.size
          have hk3:=lt_of_heap hB.out.1
          have ck2:=fun o=>(mv.cellAt hk3 (fun x=>x) o).trans (ck o)
          have mw2:=(hR.out.2.then0 hB.out.2.2).then0 mv
          have rb:=(HR.out.keep mwc (fun _ _ x=>x)).keep mv (fun _ _ x=>x)
          have g0:=mw2.heap (aU w _) (fun x=>x)
          obtain⟨bb,hbb0⟩:∃ bb,bb=(fE (k:Int) A2 B1).getD []:=⟨_,rfl⟩
          rw [← hbb0] at ov
          have hbe:bb=b→fE (k:Int) A2 B1=some b:=by
           intro e
           cases hm:fE (k:Int) A2 B1 with
           | none=>rw [hm] at hbb0;have:=HX.out;rw [← e,hbb0] at this;simp at this;omega
           | some b'=>rw [hm] at hbb0;rw [← e,hbb0];rfl
          have hbn:bb≠b→fE (k:Int) A2 B1≠some b:=by
           intro e h
           rw [h] at hbb0
           exact e hbb0
          have HBE:=lh (And.intro hbe hbn)
          clear hbe hbn hbb0 ck
          generalize (if (fE (k:Int) A2 B1).isSome=true then (0:Int) else 70)=er
          go_wp2_with fail
          refine (qj ov.rd rb).mono ?_
          rintro e w3 ⟨rfl,nq,rfl⟩
          clear rb ov mv fv' hB
          by_cases hbb:bb=b
          ·have hkr:iO b (k:Int) A2 B1 0 := .inl ⟨rfl,HBE.out.1 hbb,hT,lB1,by omega,by omega⟩
           rw [show decide (bb=b)=true from by simp [hbb]]
           clear hbb
           have g0':(w2.drewN nq).heap[w.heap.size]?=_:=g0
           have mw3:=mw2.drewN nq
           clear mw2 g0
           go_wp2_with (refine jX rfl rfl g0' rfl rfl qW rfl rfl ?_;intro w4 k1 k2 k3;have c4:=ag k1)
           refine bodyPost_ret (by simp [results,Tryz.results148,go_sem,c4];try rfl) rfl ?_
           exact⟨k,A2,B1,0,rfl,hkr,mw3.after.trans k2 (fun _ _ x=>x) (fun i hi x=>by omega)⟩
          ·have HBB:=lh hbb
           rw [show decide (bb=b)=false from by simp [hbb]]
           clear hbb g0
           go_wp2
           go_roundg (gk - 1)
           case measure=>omega
           case rel =>
            refine⟨k+1,by omega,by omega,by go_num,oG hR.out.1 HF.out ?_,mw2.drewN nq⟩
            rw [HC.out.1,HC.out.2]
            exact HBE.out.2 HBB.out
    ·have hsz2:(((nx:Nat):Int) != ((jK f:Nat):Int))=true:=by simp;omega
     have HS:=lh hsz
     clear hsz
     go_wp2
     go_roundg (gk - 1)
     case measure=>omega
     case rel =>
      refine⟨k+1,by omega,by omega,by go_num,oG hR.out.1 HF.out (fun e=>HS.out ?_),hR.out.2⟩
      rw [← HX.out]
      exact CQ HF.out e
  ·obtain rfl:k=18:=by omega
   obtain⟨h1,h2⟩:=hR.out
   have g0:=h2.heap (aU w _) (fun x=>x)
   clear hR
   go_wp2_with (refine jX rfl rfl g0 rfl rfl qW rfl rfl ?_;intro w4 k1 k2 k3;have c4:=ag k1)
   refine bodyPost_ret (by simp [results,Tryz.results148,go_sem,c4];try rfl) rfl ?_
   exact⟨0,0,0,70,rfl,vM h1,h2.after.trans k2 (fun _ _ x=>x) (fun i hi x=>by omega)⟩
theorem xh {v:Value}{b:List UInt8}{w:World} (hv:Rd w v b):Calls Tryz.prog 148 #[v] w (ry b w):=by
 obtain⟨a,ca,rfl,h1,h2,h3,h4⟩:=hv.at'
 exact BQ b a _ ca w hv rfl h1 h2
end Go.Proofs.YtglkmaalpammcaaGreat

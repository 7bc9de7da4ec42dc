/- keys.Read: the key that bytes are, or none. -/
import Derived.Test.YtglkmaalpammcaaKPlain
import Derived.Test.YtglkmaalpammcaaKNum
import Derived.Deep.DeepCutAuto
import Derived.Deep.LoopGhost
namespace Go.Proofs.Ytglkmaalpammcaa
open Go.Gl Go.RowKit
set_option linter.unusedVariables false
def noKind (b:List UInt8) (k:Nat):Prop:=∀ (k' A' B':Nat),k'<k→A'≤lX→B'≤lX→fQ k' A' B'≠some b
theorem xe (b:List UInt8):noKind b 1:=by
 intro k' A' B' h _ _ e
 have:=lH e
 omega
theorem qJ {b:List UInt8}{k:Nat}{f:fC} (h:noKind b k) (hf:fU k=some f) (hne:fQ k (og f b) (ny f b)≠some b):noKind b (k+1):=by
 intro k' A' B' hk hA hB e
 by_cases hkk:k'=k
 ·subst hkk
  obtain⟨e1,e2⟩:=pK hf e hA hB
  rw [← e1,← e2] at e
  exact hne e
 ·exact h k' A' B' (by omega) hA hB e
theorem yF {b:List UInt8} (h:noKind b 18):jm b 0 0 0 70 :=
 .inr ⟨rfl,rfl,rfl,rfl,fun k' A' B' hA hB e=>by
  have:=lH e
  exact h k' A' B' (by omega) hA hB e⟩
theorem xX (xs:List UInt8) (h:xs.length≤8):num xs≤18446744073709551615:=by
 have:=vS xs
 have:256 ^ xs.length≤256 ^ 8:=Nat.pow_le_pow_right (by decide) h
 have e:(256:Nat) ^ 8=18446744073709551616:=by decide
 omega
def wG (b:List UInt8) (w:World) (e:Ending) (w':World):Prop:=∃ (k:Int) (A B:Nat) (n:Int),e = .returned (.tuple #[.agg #[.int .i64 k,.int .u64 A,.int .u64 B],.int .i64 n])∧jm b k A B n∧ae aj w w'
def kF (w1:World) (f:fC) (k A B:Nat) (wx:World):Prop :=
 wx.heap[w1.heap.size]?=some (.cells #[.int .u8 f.head.toNat,.int .u8 f.mid.toNat,.bool f.a,.bool f.b,.bool f.turned] 142 (0,0)) ∧
 wx.heap[w1.heap.size+1]?=some (.cells #[.int .i64 (k:Int),.int .u64 (A:Int),.int .u64 (B:Int)] 113 (0,0))∧ae aj w1 wx
theorem kF.setA {w1:World}{f:fC}{k A B:Nat}{wx:World} (h:kF w1 f k A B wx) (A':Nat):kF w1 f k A' B (wx.setCell ⟨w1.heap.size+1,1,none⟩ (.int .u64 (A':Int))) :=
 ⟨(gI (by simp) _).trans h.1,by have:=heap_set h.2.1 1 (.int .u64 (A':Int));simpa using this,h.2.2.setCell (.inr (by simp)) _⟩
theorem kF.setB {w1:World}{f:fC}{k A B:Nat}{wx:World} (h:kF w1 f k A B wx) (B':Nat):kF w1 f k A B' (wx.setCell ⟨w1.heap.size+1,2,none⟩ (.int .u64 (B':Int))) :=
 ⟨(gI (by simp) _).trans h.1,by have:=heap_set h.2.1 2 (.int .u64 (B':Int));simpa using this,h.2.2.setCell (.inr (by simp)) _⟩
theorem kF.start (w1:World) (f:fC) (k:Nat):kF w1 f k 0 0 ((w1.alloc (.cells #[.int .u8 f.head.toNat,.int .u8 f.mid.toNat,.bool f.a,.bool f.b,.bool f.turned] 142)).alloc (.cells #[.int .i64 (k:Int),.int .u64 0,.int .u64 0] 113)) :=
 ⟨dS (bC _ _) _,by have:=bC (w1.alloc (.cells #[.int .u8 f.head.toNat,.int .u8 f.mid.toNat,.bool f.a,.bool f.b,.bool f.turned] 142)) (.cells #[.int .i64 (k:Int),.int .u64 0,.int .u64 0] 113);simpa using this,((ae.refl _ _).alloc _).alloc _⟩
set_option maxHeartbeats 800000 in
theorem yG (b:List UInt8) (ax:Option Addr) (nx cx:Nat) (w:World) (hr:Rd w (.slice ax nx cx) b) (hx:b.length=nx) (hcx:nx≤cx) (hcm:cx≤maxLen) :
    Calls Try.prog 57 #[.slice ax nx cx] w (wG b w):=by
  have HX:=lh hx
  have HR:=lh hr
  unfold maxLen at hcm
  clear hx hr
  go_enter Try.func57,Try.ntmps57
  go_wp2
  go_loopg [4] 17 (fun gk i wr=>∃ k:Nat,k+gk=18∧1≤k∧i = .int .i64 k∧Hid (noKind b k∧ae aj (w.alloc (.cells #[.int .i64 0,.int .u64 0,.int .u64 0] 113)) wr))
  case atStart=>exact⟨1,by omega,Nat.le_refl _,rfl,xe b,ae.refl _ _⟩
  case round =>
    obtain⟨k,hk1,hk2,rfl,hR⟩:=hrel
    by_cases hlt:k<18
    · obtain⟨f,hf,_⟩:=nG k hk2 (by omega)
      have HF:=lh hf
      have hmw:=hR.out.2
      have hz:w.heap.size<wr.heap.size:=hmw.size_of (by simp)
      obtain⟨hd,md,fa,fb,ft⟩:=f
      clear hf hmw
      go_upto_region 6 with (first | (go_at_call 78;refine (l7 _ _ _ HF.out).mono ?_;rintro e w1 ⟨rfl,hm⟩;unfold fv kW))
      have B0:kF w1 ⟨hd,md,fa,fb,ft⟩ k 0 0 ((w1.alloc (.cells #[.int .u8 hd.toNat,.int .u8 md.toNat,.bool fa,.bool fb,.bool ft] 142)).alloc (.cells #[.int .i64 (k:Int),.int .u64 0,.int .u64 0] 113)):=kF.start _ _ _
      generalize World.alloc (World.alloc w1 _) _=wa at *
      obtain⟨cA,hcA⟩:∃ c:Bool,c=(fa && decide (9≤nx)):=⟨_,rfl⟩
      obtain⟨cB,hcB⟩:∃ c:Bool,c=(fb && decide (8≤nx)):=⟨_,rfl⟩
      have HA:=lh hcA
      have HB:=lh hcB
      go_cut [27] (fun s wx=>s = .bool cA∧Hid (kF w1 ⟨hd,md,fa,fb,ft⟩ k 0 0 wx))
      case first =>
        have c0:=ai B0.1
        clear hcA hcB
        cases fa
        all_goals
          go_wp2
          go_meet
          refine⟨?_,B0⟩
          rw [HA.out]
          simp
        all_goals omega
      case rest =>
        obtain⟨rfl,hB⟩:=hcut
        clear hcA hcB B0
        obtain⟨A1,hA1⟩:∃ A1:Nat,A1=if cA then num ((b.drop 1).take 8) else 0:=⟨_,rfl⟩
        obtain⟨B1,hB1⟩:∃ B1:Nat,B1=if cB then num (b.drop (b.length - 8)) else 0:=⟨_,rfl⟩
        have lA1:A1≤18446744073709551615:=by rw [hA1];split;exact xX _ (List.length_take_le _ _);omega
        have lB1:B1≤18446744073709551615:=by
          rw [hB1];split
          · rename_i hcb;have:=HB.out;rw [hcb] at this;simp at this;exact xX _ (by rw [List.length_drop,HX.out];omega)
          · omega
        have HA1:=lh hA1
        have HB1:=lh hB1
        have MW:∀ wx,kF w1 ⟨hd,md,fa,fb,ft⟩ k A1 0 wx∨kF w1 ⟨hd,md,fa,fb,ft⟩ k 0 0 wx∨kF w1 ⟨hd,md,fa,fb,ft⟩ k (gV ⟨hd,md,fa,fb,ft⟩ A1) 0 wx→ae aj w wx:=by
          intro wx h
          have h1:ae aj w1 wx:=by rcases h with h | h | h <;> exact h.2.2
          exact (hR.out.2.after.then0 hm).then0 h1
        have HMW:=lh MW
        clear hA1 hB1 MW
        go_upto_if 27 with fail
        go_cut [] (fun wx=>Hid (kF w1 ⟨hd,md,fa,fb,ft⟩ k A1 0 wx))
        case first =>
          cases cA
          · go_wp2
            go_meet
            have e:A1=0:=by rw [HA1.out];simp
            rw [e]
            exact hB
          · have c9:9≤nx:=by have:=HA.out;simp at this;exact this.2
            obtain⟨g,off,hax⟩:=Rd.addr HR.out (by omega)
            subst hax
            have HR2:Rd w (.slice (some ⟨g,off,none⟩) b.length cx) b:=by rw [HX.out];exact HR.out
            have r1:=(HR2.sub 1 8 (cx - 1) (by rw [HX.out];omega) (by omega) (by unfold maxLen;omega)).keep (HMW.out wc (.inr (.inl hB.out))) (fun _ _ x=>x)
            have ck:=ai hB.out.2.1
            have fk:=dw hB.out.2.1
            have hA1':num ((b.drop 1).take 8)=A1:=by rw [HA1.out];simp
            have HA1':=lh hA1'
            clear HR2 hA1'
            go_wp2_with fail
            refine (rV r1 (List.length_take_le _ _)).mono ?_
            rw [HA1'.out]
            rintro e _ ⟨rfl,rfl⟩
            go_wp2
            go_meet
            exact kF.setA hB.out A1
        case rest =>
          have hB:=hcut
          clear hcut
          have cf:=ai hB.out.1
          go_upto_if 33 with fail
          go_cut [] (fun wx=>Hid (kF w1 ⟨hd,md,fa,fb,ft⟩ k (gV ⟨hd,md,fa,fb,ft⟩ A1) 0 wx))
          case first =>
            clear cf
            have ck:=ai hB.out.2.1
            have fk:=dw hB.out.2.1
            cases ft
            · go_wp2
              go_meet
              exact hB
            · go_wp2
              go_meet
              rw [xy _ (by omega) (by omega),show (18446744073709551615:Int) - (A1:Int)=((18446744073709551615 - A1:Nat):Int) from by omega]
              exact kF.setA hB.out _
          case rest =>
            clear cf hB
            have hB:=hcut
            clear hcut
            go_upto_region 10 with fail
            go_cut [44] (fun s wx=>s = .bool cB∧Hid (kF w1 ⟨hd,md,fa,fb,ft⟩ k (gV ⟨hd,md,fa,fb,ft⟩ A1) 0 wx))
            case first =>
              have c0:=ai hB.out.1
              cases fb
              all_goals
                go_wp2
                go_meet
                refine⟨?_,hB⟩
                rw [HB.out]
                simp
              all_goals omega
            case rest =>
              clear hB
              obtain⟨rfl,hB⟩:=hcut
              have hT:=vY ⟨hd,md,fa,fb,ft⟩ A1 lA1
              obtain⟨A2,hA2⟩:∃ A2,A2=gV ⟨hd,md,fa,fb,ft⟩ A1:=⟨_,rfl⟩
              rw [← hA2] at hB hT
              have HA2:=lh hA2
              have mwc:=(hR.out.2.after.then0 hm).then0 hB.out.2.2
              clear hA2 HMW
              go_upto_if 44 with fail
              go_cut [] (fun wx=>Hid (kF w1 ⟨hd,md,fa,fb,ft⟩ k A2 B1 wx))
              case first =>
                cases cB
                · go_wp2
                  go_meet
                  have e:B1=0:=by rw [HB1.out];simp
                  rw [e]
                  exact hB
                · have c8:8≤nx:=by have:=HB.out;simp at this;exact this.2
                  obtain⟨g,off,hax⟩:=Rd.addr HR.out (by omega)
                  subst hax
                  have HR2:Rd w (.slice (some ⟨g,off,none⟩) b.length cx) b:=by rw [HX.out];exact HR.out
                  have r1:=(HR2.sub (nx - 8) 8 (cx - (nx - 8)) (by rw [HX.out];omega) (by omega) (by unfold maxLen;omega)).keep mwc (fun _ _ x=>x)
                  have ck:=ai hB.out.2.1
                  have fk:=dw hB.out.2.1
                  have hB1':num ((b.drop (nx - 8)).take 8)=B1:=by
                    rw [HB1.out,if_pos rfl,HX.out,List.take_of_length_le (by rw [List.length_drop,HX.out];omega)]
                  have HB1':=lh hB1'
                  clear HR2 hB1'
                  go_wp2_with fail
                  rw [show nx - (nx - 8)=8 from by omega]
                  refine (rV r1 (List.length_take_le _ _)).mono ?_
                  rw [HB1'.out]
                  rintro e _ ⟨rfl,rfl⟩
                  go_wp2
                  go_meet
                  exact kF.setB hB.out B1
              case rest =>
                clear hB mwc
                have hB:=hcut
                clear hcut
                have ck:=ai hB.out.2.1
                have mwc:=(hR.out.2.after.then0 hm).then0 hB.out.2.2
                have hcand:A2=og ⟨hd,md,fa,fb,ft⟩ b∧B1=ny ⟨hd,md,fa,fb,ft⟩ b:=by
                  rw [HA2.out,HB1.out,HA1.out,HA.out,HB.out]
                  unfold og ny
                  rw [HX.out]
                  simp
                have HC:=lh hcand
                clear hcand
                go_wp2_with fail
                refine (wQ (k:Int) A2 B1 _ hT lB1).mono ?_
                rintro e w2 ⟨v,rfl,ov,mv,fv'⟩
                have hz2:=mv.size
                have rb:=(HR.out.keep mwc (fun _ _ x=>x)).keep mv (fun _ _ x=>x)
                have hk3:=lt_of_heap hB.out.2.1
                have ck2:=fun o=>(mv.cellAt hk3 (fun x=>x) o).trans (ck o)
                have mw2:=(hR.out.2.then0 hm).then0 hB.out.2.2 |>.then0 mv
                clear ck
                have c0:=ai (mw2.heap (bC w _) (fun x=>x))
                have f0:=dw (mw2.heap (bC w _) (fun x=>x))
                cases hmk:fQ (k:Int) A2 B1 with
                | none =>
                  have HN:=lh hmk
                  rw [hmk] at ov
                  simp only [Option.isSome_none,Bool.false_eq_true,if_false]
                  clear hmk
                  go_wp2
                  go_roundg (gk - 1)
                  case measure=>omega
                  case rel =>
                    refine⟨k+1,by omega,by omega,by go_num,qJ hR.out.1 HF.out ?_,mw2⟩
                    rw [← HC.out.1,← HC.out.2,HN.out]
                    simp
                | some b' =>
                  have HN:=lh hmk
                  rw [hmk] at ov
                  simp only [Option.isSome_some,if_true]
                  clear hmk
                  simp only [Option.getD_some] at ov
                  go_wp2_with fail
                  refine (zx ov.rd rb).mono ?_
                  rintro e w3 ⟨rfl,nq,rfl⟩
                  by_cases hbb:b'=b
                  · subst hbb
                    rw [show decide (b'=b')=true from by simp]
                    have hkr:jm b' (k:Int) A2 B1 0 := .inl ⟨rfl,HN.out,hT,lB1,by omega,by omega⟩
                    clear rb ov mv fv' hB
                    have g0:(w2.drewN nq).heap[w.heap.size]?=_:=mw2.heap (bC w _) (fun x=>x)
                    have mw3:=mw2.drewN nq
                    clear c0 f0 mw2
                    go_wp2_with (refine ng rfl rfl g0 rfl rfl vN rfl rfl ?_;intro w4 k1 k2 k3;have c4:=ai k1)
                    refine bodyPost_ret (by simp [results,Try.results57,go_sem,c4];try rfl) rfl ?_
                    exact⟨k,A2,B1,0,rfl,hkr,mw3.after.trans k2 (fun _ _ x=>x) (fun i hi x=>by omega)⟩
                  · rw [show decide (b'=b)=false from by simp [hbb]]
                    have HBB:=lh hbb
                    clear rb ov mv fv' hB hbb
                    go_wp2
                    go_roundg (gk - 1)
                    case measure=>omega
                    case rel =>
                      refine⟨k+1,by omega,by omega,by go_num,qJ hR.out.1 HF.out ?_,mw2.drewN nq⟩
                      rw [← HC.out.1,← HC.out.2,HN.out]
                      intro e
                      exact HBB.out (Option.some.inj e)
    · obtain rfl:k=18:=by omega
      obtain⟨h1,h2⟩:=hR.out
      have g0:=h2.heap (bC w _) (fun x=>x)
      clear hR
      go_wp2_with (refine ng rfl rfl g0 rfl rfl vN rfl rfl ?_;intro w4 k1 k2 k3;have c4:=ai k1)
      refine bodyPost_ret (by simp [results,Try.results57,go_sem,c4];try rfl) rfl ?_
      exact⟨0,0,0,70,rfl,yF h1,h2.after.trans k2 (fun _ _ x=>x) (fun i hi x=>by omega)⟩
theorem tV {v:Value}{b:List UInt8}{w:World} (hv:Rd w v b):Calls Try.prog 57 #[v] w (wG b w):=by
 obtain⟨a,ca,rfl,h1,h2,h3,h4⟩:=hv.at'
 exact yG b a _ ca w hv rfl h1 h2
end Go.Proofs.Ytglkmaalpammcaa

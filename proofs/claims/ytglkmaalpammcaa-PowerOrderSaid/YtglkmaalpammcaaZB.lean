/- Parts of the proof, one behind the other: PgR, PgW, Cat, Del1, Del2, PgD, PgJ, PgE, PgG, KvPr, R6S, PgL, PgN, KvP, KvQ, KvA, KvM, KvN, HCopy, R6M, R6G. -/
import Derived.Test.YtglkmaalpammcaaZA
import Derived.Lib.Overlaps
import Derived.Laws.Externs
import Derived.StillTailTactics
import Derived.Outline
import Derived.Laws.LoneSync
import Derived.Laws.BytesArg
import Derived.Lib.Bytes
import Derived.Deep.DeepCutAuto
set_option maxHeartbeats 64000000
set_option linter.unusedSimpArgs false
set_option linter.unusedVariables false
set_option maxRecDepth 100000
namespace Go.Proofs.Ytglkmaalpammcaa
open Go.Gl Go.RowKit
theorem Ed {w:World}{k:Nat}{u v:Value}{e:TypeId} (h:w.heap[k]?=some (.cells #[u,v] e (0,0))):OB w e 2 k 0 1 1 [u,v] :=
 ⟨rfl,Nat.le_refl _,by simp [maxLen],_,h,by simp,fun j x hj=>by rw [Nat.zero_add];simpa using hj⟩
theorem xG {w:World}{k:Nat}{u:Value}{e:TypeId} (h:w.heap[k]?=some (.cells #[u] e (0,0))):OB w e 1 k 0 1 1 [u] :=
 ⟨rfl,Nat.le_refl _,by simp [maxLen],_,h,by simp,fun j x hj=>by rw [Nat.zero_add];simpa using hj⟩
theorem EM {w:World}{e:TypeId}{s g off n cap m:Nat}{xs:List Value} (h:OB w e s g off n cap xs) (hm:m≤n):OB w e s g off m cap (xs.take (m*s)):=by
 obtain⟨cur,h1,h2,h3⟩:=h.row
 refine⟨by rw [List.length_take,h.hl];exact Nat.min_eq_left (Nat.mul_le_mul_right _ hm),Nat.le_trans hm h.hn,h.hc,cur,h1,h2,fun j u hj=>h3 j u ?_⟩
 have hlt:=(List.getElem?_eq_some_iff.1 hj).1
 rw [List.length_take] at hlt
 rwa [List.getElem?_take_of_lt (by omega)] at hj
theorem Dk {w:World}{e:TypeId}{s g off n cap m:Nat}{xs:List Value} (h:OB w e s g off n cap xs) (hm:m≤n):OB w e s g (off+m*s) (n - m) (cap - m) (xs.drop (m*s)):=by
 obtain⟨cur,h1,h2,h3⟩:=h.row
 have hn:=h.hn
 refine⟨by rw [List.length_drop,h.hl,Nat.sub_mul],by omega,by have:=h.hc;omega,cur,h1,?_,fun j u hj=>?_⟩
 ·rw [Nat.sub_mul]
  have:m*s≤cap*s:=Nat.mul_le_mul_right _ (by omega)
  omega
 ·rw [List.getElem?_drop] at hj
  rw [Nat.add_assoc]
  exact h3 _ u hj
section
variable {x0 x1 x2 x3 x4 x5 x6 x7 x8 x9 aS bn bi bg aO aP aV aT aW aX aY aQ bu bz bD bK bI bJ bH bT bU cO cZ dh di bY bZ dQ dJ dK dL dD dE dF dG dH dI dC dU dV dZ ed dW dX eu eF eG eU eH eP eQ dY gY gZ iL iM iO iP iF jq jr jw jy x73 x74 x75 x76 x77 x78 x79 x80 x81 x82 x83 x84 x85 x86 x87 x88 x89 x90 x91 x92 x93 x94 x95 x96 x97 x98 x99 x100:Value}{df:List Deferred}{Q:Exit→Act→World→Prop}
theorem set10 {w:World}{g b off n cap p:Nat}{vn:Value}{pvs:List Value} (hg:w.heap[g]?=some (.cells #[.slice (some ⟨b,off,none⟩) n cap,vn] 118 (0,0))) (hr:OB w 153 1 b off n cap pvs) (hp:p<n) {E i pb po m pc:Nat}{u v:Value}{xs:List Value} (hP:pvs[p]?=some (.slice (some ⟨pb,po,none⟩) m pc)) (hl:OB w 131 2 pb po m pc xs) (h0:∀ y∈xs,y.oneCell'=true) (he:w.heap[E]?=some (.cells #[u,v] 131 (0,0))) (hu:u.oneCell'=true) (hv:v.oneCell'=true) (hi:i≤m) (hL:m≤1000000)
  (hK:∀ (y57 y58 y59 y60 y61 y62 y63 y64 y65 y66 y67:Value) (v7:Value) (w':World),aU w' 131 2 v7 (m+1) (xs.take (i*2) ++ [u,v] ++ xs.drop (i*2))→ae (fun k=>k=pb) w w'→(v7.ownBlock=some pb∨aI w v7)→Q .normal ⟨#[.pointer (some ⟨g,0,none⟩),x1,x2,x3,x4,x5,x6,.pointer (some ⟨E,0,none⟩),.int .i64 ((p:Nat):Int),.int .i64 ((i:Nat):Int),aS,v7,bi,bg,aO,aP,aV,aT,aW,aX,aY,aQ,bu,bz,bD,bK,bI,bJ,bH,bT,bU,cO,cZ,dh,di,bY,bZ,dQ,dJ,dK,dL,dD,dE,dF,dG,dH,dI,dC,dU,dV,dZ,ed,dW,dX,eu,eF,eG,y57,y58,y59,y60,y61,y62,y63,y64,y65,y66,y67,iF,jq,jr,jw,jy,x73,x74,x75,x76,x77,x78,x79,x80,x81,x82,x83,x84,x85,x86,x87,x88,x89,x90,x91,x92,x93,x94,x95,x96,x97,x98,x99,x100],df⟩ w'):RW Try.prog (aJ 10 Try.f60) true Q ⟨#[.pointer (some ⟨g,0,none⟩),x1,x2,x3,x4,x5,x6,.pointer (some ⟨E,0,none⟩),.int .i64 ((p:Nat):Int),.int .i64 ((i:Nat):Int),aS,bn,bi,bg,aO,aP,aV,aT,aW,aX,aY,aQ,bu,bz,bD,bK,bI,bJ,bH,bT,bU,cO,cZ,dh,di,bY,bZ,dQ,dJ,dK,dL,dD,dE,dF,dG,dH,dI,dC,dU,dV,dZ,ed,dW,dX,eu,eF,eG,eU,eH,eP,eQ,dY,gY,gZ,iL,iM,iO,iP,iF,jq,jr,jw,jy,x73,x74,x75,x76,x77,x78,x79,x80,x81,x82,x83,x84,x85,x86,x87,x88,x89,x90,x91,x92,x93,x94,x95,x96,x97,x98,x99,x100],df⟩ w:=by
 have HQ:=lh hK
 clear hK
 have Q2:=lh (fun b' (hm:ae aj w b')=>show b'.cell? ⟨g,0,none⟩=some (.slice (some ⟨b,off,none⟩) n cap) from ai (hm.heap hg (fun x=>x)) 0)
 have Q3:=lh (fun b' (hm:ae aj w b')=>show b'.cell? ⟨b,off+p,none⟩=some (.slice (some ⟨pb,po,none⟩) m pc) from (hr.keep hm (fun x=>x)).cell hP)
 have Q0:=lh (fun b' (hm:ae aj w b')=>uk (off:=0) (ai (hm.heap he (fun x=>x)) 0) (ai (hm.heap he (fun x=>x)) 1))
 have HL:=lh hl
 have H0:=lh h0
 have H1:=lh (show ∀ y∈[u,v],y.oneCell'=true from fun y hy=>by simp at hy;rcases hy with rfl | rfl <;> assumption)
 clear hg hr hP hl h0 he hu hv
 have MR:=lh ((ae.refl aj w).drew)
 refine kQ (S:=fun b'=>ae aj w b') [(0,true),(1,true),(2,true),(3,true),(4,true),(5,true),(6,true),(7,true),(8,true),(9,false),(10,false),(11,false)] [10,11] (by kernel_rfl) (by kernel_rfl) (by kernel_rfl) (by kernel_rfl) MR.out ?_
 refine ah [0,1,2] [ag g 0,ag g 0,ag g 0] rfl (by kernel_rfl) (fun _=>by kernel_rfl) ?_
 refine af (.slice (some ⟨b,off,none⟩) n cap) (some 60) (ki (by kernel_rfl)) (fun bb hb=>aC (x:=(.tmp 59)) (by kernel_rfl) (by kernel_rfl) (aH (Q2.out _ hb) Try.underlying116 rfl)) ?_
 refine ah [4] [.int .i64 ((p:Nat):Int)] rfl (by kernel_rfl) (fun _=>by kernel_rfl) ?_
 refine af (ag b (off+p)) (some 62) (ki (by kernel_rfl)) (fun bb hb=>fG (s:=1) (e:=153) (g:=b) (off:=off) (n:=n) (c:=cap) (i:=((p:Nat):Int)) (x:=(.tmp 60)) (y:=(.tmp 61)) (off+p) (by kernel_rfl) (by kernel_rfl) (by kernel_rfl) Try.underlying116 (by kernel_rfl) (by omega) (by omega) (by omega)) ?_
 refine af (.slice (some ⟨pb,po,none⟩) m pc) (some 63) (ki (by kernel_rfl)) (fun bb hb=>aC (x:=(.tmp 62)) (by kernel_rfl) (by kernel_rfl) (aH (Q3.out _ hb) Try.underlying153 rfl)) ?_
 refine ah [7] [.int .i64 ((i:Nat):Int)] rfl (by kernel_rfl) (fun _=>by kernel_rfl) ?_
 refine af (.agg #[u,v]) (some 65) (ki (by kernel_rfl)) (fun bb hb=>aC (x:=(.tmp 7)) (by kernel_rfl) (by kernel_rfl) (zK [u,v] (Q0.out _ hb) Try.underlying131 rfl (by kernel_rfl))) ?_
 refine jf (.cells #[u,v] 131) 1 (some 66) (ki (by kernel_rfl)) (by kernel_rfl) ?_
 intro k1 w_k1 hk_k1 hO_k1 hm_k1 hl_k1
 have MZ:=MR.out.size
 replace MR:=lh (MR.out.then0 hm_k1)
 refine⟨fun _=>MR.out,?_⟩
 have MO:=lh (show pb≠k1 from by have:=HL.out.lt;have h:w.heap.size≤w.drew.heap.size:=Nat.le_refl _;omega)
 refine bF (some 67) (ki (by kernel_rfl)) (BJ (xs:=xs) (ys:=[u,v]) (ug:=k1) (uo:=0) (uc:=1) (HL.out.keep MR.out (fun x=>x)).own (Ed hO_k1) (by intro h;have:=MO.out;simp [Value.ownBlock] at h;omega) H0.out H1.out hi hL) (fun _=>by kernel_rfl) ?_
 rintro r w7 ⟨v7,rfl,o7,m7,f7⟩
 refine⟨_,rfl,(fun h=>by cases h),?_⟩
 refine az [11] [v7] rfl (by kernel_rfl) (by kernel_rfl) (.inl (by kernel_rfl)) ?_
 exact aA (aZ (K:=Q .normal) (by kernel_rfl) (HQ.out (ag g 0) (ag g 0) (ag g 0) (.slice (some ⟨b,off,none⟩) n cap) (.int .i64 ((p:Nat):Int)) (ag b (off+p)) (.slice (some ⟨pb,po,none⟩) m pc) (.int .i64 ((i:Nat):Int)) (.agg #[u,v]) (.slice (some ⟨k1,0,none⟩) 1 1) (v7) v7 w7 o7 (MR.out.trans m7 (fun _ _ x=>x.elim) (fun k _ hk=>by have:=jh hk;omega)) (f7.imp id (fun h=>h.of MR.out.size))))
theorem set13 {w:World}{g b off n cap p:Nat}{vn:Value}{pvs:List Value} (hg:w.heap[g]?=some (.cells #[.slice (some ⟨b,off,none⟩) n cap,vn] 118 (0,0))) (hr:OB w 153 1 b off n cap pvs) (hp:p<n) {lg lo m lc:Nat}{xs:List Value} (hl:OB w 131 2 lg lo m lc xs) (h0:∀ y∈xs,y.oneCell'=true) (hm16:16≤m) (hL:m≤1000000)
  (hK:∀ (y78 y79 y80 y81 y82 y83 y84 y85 y86:Value) (v7:Value) (w7:World) (w':World),aU w7 131 2 v7 16 (xs.take (16*2))→ae aj w w7→aI w v7→w'=w7.setCell ⟨b,off+p,none⟩ v7→Q .normal ⟨#[.pointer (some ⟨g,0,none⟩),x1,x2,x3,x4,x5,x6,x7,.int .i64 ((p:Nat):Int),x9,aS,.slice (some ⟨lg,lo,none⟩) m lc,bi,bg,aO,aP,aV,aT,aW,aX,aY,aQ,bu,bz,bD,bK,bI,bJ,bH,bT,bU,cO,cZ,dh,di,bY,bZ,dQ,dJ,dK,dL,dD,dE,dF,dG,dH,dI,dC,dU,dV,dZ,ed,dW,dX,eu,eF,eG,eU,eH,eP,eQ,dY,gY,gZ,iL,iM,iO,iP,iF,jq,jr,jw,jy,x73,x74,x75,x76,x77,y78,y79,y80,y81,y82,y83,y84,y85,y86,x87,x88,x89,x90,x91,x92,x93,x94,x95,x96,x97,x98,x99,x100],df⟩ w'):RW Try.prog (aJ 13 Try.f60) true Q ⟨#[.pointer (some ⟨g,0,none⟩),x1,x2,x3,x4,x5,x6,x7,.int .i64 ((p:Nat):Int),x9,aS,.slice (some ⟨lg,lo,none⟩) m lc,bi,bg,aO,aP,aV,aT,aW,aX,aY,aQ,bu,bz,bD,bK,bI,bJ,bH,bT,bU,cO,cZ,dh,di,bY,bZ,dQ,dJ,dK,dL,dD,dE,dF,dG,dH,dI,dC,dU,dV,dZ,ed,dW,dX,eu,eF,eG,eU,eH,eP,eQ,dY,gY,gZ,iL,iM,iO,iP,iF,jq,jr,jw,jy,x73,x74,x75,x76,x77,x78,x79,x80,x81,x82,x83,x84,x85,x86,x87,x88,x89,x90,x91,x92,x93,x94,x95,x96,x97,x98,x99,x100],df⟩ w:=by
 have HQ:=lh hK
 clear hK
 have Q2:=lh (fun b' (hm:ae aj w b')=>show b'.cell? ⟨g,0,none⟩=some (.slice (some ⟨b,off,none⟩) n cap) from ai (hm.heap hg (fun x=>x)) 0)
 have HL:=lh hl
 have HR:=lh hr
 have H0:=lh h0
 have hlc:=hl.hn
 clear hg hr hl h0
 have MR:=lh ((ae.refl aj w).drew)
 refine kQ (S:=fun b'=>ae aj w b') [(0,true),(1,true),(2,true),(3,true),(4,true),(5,true),(6,true),(7,false),(8,true),(9,false)] [9] (by kernel_rfl) (by kernel_rfl) (by kernel_rfl) (by kernel_rfl) MR.out ?_
 refine ah [0,1,2] [ag g 0,ag g 0,ag g 0] rfl (by kernel_rfl) (fun _=>by kernel_rfl) ?_
 refine af (.slice (some ⟨b,off,none⟩) n cap) (some 81) (ki (by kernel_rfl)) (fun bb hb=>aC (x:=(.tmp 80)) (by kernel_rfl) (by kernel_rfl) (aH (Q2.out _ hb) Try.underlying116 rfl)) ?_
 refine ah [4,5] [.int .i64 ((p:Nat):Int),.slice (some ⟨lg,lo,none⟩) m lc] rfl (by kernel_rfl) (fun _=>by kernel_rfl) ?_
 refine af (.slice (some ⟨lg,lo,none⟩) 16 lc) (some 84) (ki (by kernel_rfl)) (fun bb hb=>Ai (s:=2) (e:=131) (g:=lg) (off:=lo) (n:=m) (c:=lc) (i:=(16:Int)) (x:=(.tmp 83)) (y:=(.const (.int .i64 16))) (16) (by kernel_rfl) (by kernel_rfl) (by kernel_rfl) Try.underlying153 (by kernel_rfl) (by omega) (by omega)) ?_
 refine bF (some 85) (ki (by kernel_rfl)) (xY ((EM HL.out (by omega:16≤m)).keep MR.out (fun x=>x)) (fun y hy=>H0.out y (List.mem_of_mem_take hy)) (by omega)) (fun _=>by kernel_rfl) ?_
 rintro r w7 ⟨v7,rfl,o7,m7,f7⟩
 replace MR:=lh (MR.out.then0 m7)
 have O7:=lh o7
 have F7:=lh (f7.of (show w.heap.size≤_ from Nat.le_refl _))
 obtain⟨a7,c7,e7,_⟩:=o7.rd.form
 have h17:v7.oneCell'=true:=by rw [e7];rfl
 clear o7 m7 f7 e7
 refine⟨_,rfl,fun _=>MR.out,?_⟩
 refine af (ag b (off+p)) (some 86) (ki (by kernel_rfl)) (fun bb hb=>fG (s:=1) (e:=153) (g:=b) (off:=off) (n:=n) (c:=cap) (i:=((p:Nat):Int)) (x:=(.tmp 81)) (y:=(.tmp 82)) (off+p) (by kernel_rfl) (by kernel_rfl) (by kernel_rfl) Try.underlying116 (by kernel_rfl) (by omega) (by omega) (by omega)) ?_
 refine fD (ty:=153) (x:=(.tmp 86)) (y:=(.tmp 85)) (g:=b) (off:=off+p) (v:=v7) none (ki (by kernel_rfl)) (by kernel_rfl) (by kernel_rfl) (by kernel_rfl) (by kernel_rfl) ((HR.out.keep MR.out (fun x=>x)).there (by have:=HR.out.hn;omega)) ((HR.out.keep MR.out (fun x=>x)).free _) (h17) ?_
 intro w9 hw9
 refine⟨(fun h=>by first | (cases h;done) | exact trivial),?_⟩
 exact aA (aZ (K:=Q .normal) (by kernel_rfl) (HQ.out (ag g 0) (ag g 0) (ag g 0) (.slice (some ⟨b,off,none⟩) n cap) (.int .i64 ((p:Nat):Int)) (.slice (some ⟨lg,lo,none⟩) m lc) (.slice (some ⟨lg,lo,none⟩) 16 lc) (v7) (ag b (off+p)) v7 w7 w9 O7.out MR.out F7.out hw9))
theorem set14 {w:World}{g b off n cap p:Nat}{vn:Value}{pvs:List Value} (hg:w.heap[g]?=some (.cells #[.slice (some ⟨b,off,none⟩) n cap,vn] 118 (0,0))) (hr:OB w 153 1 b off n cap pvs) (hp:p<n) {lg lo m lc:Nat}{xs:List Value} (hl:OB w 131 2 lg lo m lc xs) (h0:∀ y∈xs,y.oneCell'=true) (h2:∀ y∈pvs,y.oneCell'=true) (hm16:16<m) (hL:m≤1000000) (hn:n≤1000000) (hbg:¬ g=b)
  (hK:∀ (y87 y88 y89 y90 y91 y92 y93 y94 y95 y96 y97 y98 y99 y100:Value) (v7 v8:Value) (w7 w8:World) (w':World),aU w7 131 2 v7 (m - 16) (xs.drop (16*2))→ae aj w w7→aI w v7→v7.oneCell'=true→aU w8 153 1 v8 (n+1) (pvs.take ((p+1)*1) ++ [v7] ++ pvs.drop ((p+1)*1))→ae (fun k=>k=b) w7 w8→(v8.ownBlock=some b∨aI w7 v8)→w'=w8.setCell ⟨g,0,none⟩ v8→Q .normal ⟨#[.pointer (some ⟨g,0,none⟩),x1,x2,x3,x4,x5,x6,x7,.int .i64 ((p:Nat):Int),x9,aS,.slice (some ⟨lg,lo,none⟩) m lc,bi,bg,aO,aP,aV,aT,aW,aX,aY,aQ,bu,bz,bD,bK,bI,bJ,bH,bT,bU,cO,cZ,dh,di,bY,bZ,dQ,dJ,dK,dL,dD,dE,dF,dG,dH,dI,dC,dU,dV,dZ,ed,dW,dX,eu,eF,eG,eU,eH,eP,eQ,dY,gY,gZ,iL,iM,iO,iP,iF,jq,jr,jw,jy,x73,x74,x75,x76,x77,x78,x79,x80,x81,x82,x83,x84,x85,x86,y87,y88,y89,y90,y91,y92,y93,y94,y95,y96,y97,y98,y99,y100],df⟩ w'):RW Try.prog (aJ 14 Try.f60) true Q ⟨#[.pointer (some ⟨g,0,none⟩),x1,x2,x3,x4,x5,x6,x7,.int .i64 ((p:Nat):Int),x9,aS,.slice (some ⟨lg,lo,none⟩) m lc,bi,bg,aO,aP,aV,aT,aW,aX,aY,aQ,bu,bz,bD,bK,bI,bJ,bH,bT,bU,cO,cZ,dh,di,bY,bZ,dQ,dJ,dK,dL,dD,dE,dF,dG,dH,dI,dC,dU,dV,dZ,ed,dW,dX,eu,eF,eG,eU,eH,eP,eQ,dY,gY,gZ,iL,iM,iO,iP,iF,jq,jr,jw,jy,x73,x74,x75,x76,x77,x78,x79,x80,x81,x82,x83,x84,x85,x86,x87,x88,x89,x90,x91,x92,x93,x94,x95,x96,x97,x98,x99,x100],df⟩ w:=by
 have HQ:=lh hK
 clear hK
 have Q2:=lh (fun b' (hm:ae (fun k=>k=b) w b')=>show b'.cell? ⟨g,0,none⟩=some (.slice (some ⟨b,off,none⟩) n cap) from ai (hm.heap hg hbg) 0)
 have HL:=lh hl
 have HR:=lh hr
 have HG:=lh hg
 have H0:=lh h0
 have H2:=lh h2
 have hlc:=hl.hn
 clear hg hr hl h0 h2
 have MR:=lh ((ae.refl aj w).drew)
 refine kQ (S:=fun b'=>ae (fun k=>k=b) w b') [(0,true),(1,true),(2,true),(3,true),(4,true),(5,true),(6,true),(7,true),(8,true),(9,false),(10,false),(11,false),(12,false),(13,false),(14,false)] [12,13,14] (by kernel_rfl) (by kernel_rfl) (by kernel_rfl) (by kernel_rfl) (MR.out.mono (fun _ _ x=>x.elim)) ?_
 refine ah [0,1,2,3] [ag g 0,ag g 0,ag g 0,ag g 0] rfl (by kernel_rfl) (fun _=>by kernel_rfl) ?_
 refine af (.slice (some ⟨b,off,none⟩) n cap) (some 91) (ki (by kernel_rfl)) (fun bb hb=>aC (x:=(.tmp 90)) (by kernel_rfl) (by kernel_rfl) (aH (Q2.out _ hb) Try.underlying116 rfl)) ?_
 refine ah [5] [.int .i64 ((p:Nat):Int)] rfl (by kernel_rfl) (fun _=>by kernel_rfl) ?_
 refine af (.int .i64 (((p+1):Nat):Int)) (some 93) (ki (by kernel_rfl)) (fun bb hb=>bM (t:=3) (t':=3) (xv := .int .i64 ((p:Nat):Int)) (yv := .int .i64 1) (x:=(.tmp 92)) (y:=(.const (.int .i64 1))) (by kernel_rfl) (by kernel_rfl) (by kernel_rfl) (fun _=>by kernel_rfl) (fP _ (by omega) (by omega) (by omega))) ?_
 refine ah [7] [.slice (some ⟨lg,lo,none⟩) m lc] rfl (by kernel_rfl) (fun _=>by kernel_rfl) ?_
 refine af (.slice (some ⟨lg,lo+16*2,none⟩) (m - 16) (lc - 16)) (some 95) (ki (by kernel_rfl)) (fun bb hb=>Am (s:=2) (e:=131) (g:=lg) (off:=lo) (n:=m) (c:=lc) (i:=(16:Int)) (x:=(.tmp 94)) (y:=(.const (.int .i64 16))) (16) (lo+16*2) (by kernel_rfl) (by kernel_rfl) (by kernel_rfl) Try.underlying153 (by kernel_rfl) (by omega) (by omega) (by omega) (by omega)) ?_
 refine bF (some 96) (ki (by kernel_rfl)) (xY ((Dk HL.out (by omega:16≤m)).keep MR.out (fun x=>x)) (fun y hy=>H0.out y (List.mem_of_mem_drop hy)) (by omega)) (fun _=>by kernel_rfl) ?_
 rintro r w7 ⟨v7,rfl,o7,m7,f7⟩
 replace MR:=lh (MR.out.then0 m7)
 have O7:=lh o7
 have F7:=lh (f7.of (show w.heap.size≤_ from Nat.le_refl _))
 obtain⟨a7,c7,rfl,_⟩:=o7.rd.form
 have h17:(Value.slice a7 (m - 16) c7).oneCell'=true:=rfl
 have M7:=lh (And.intro MR.out f7)
 have z7:=m7.size
 clear o7 m7 f7
 refine⟨_,rfl,fun _=>MR.out.mono (fun _ _ x=>x.elim),?_⟩
 refine jf (.cells #[(.slice a7 (m - 16) c7)] 153) 1 (some 97) (ki (by kernel_rfl)) (by kernel_rfl) ?_
 intro k1 w_k1 hk_k1 hO_k1 hm_k1 hl_k1
 have MZ:=MR.out.size
 replace MR:=lh (MR.out.then0 hm_k1)
 refine⟨fun _=>(MR.out.mono (fun _ _ x=>x.elim)),?_⟩
 have MO:=lh (show b≠k1 from by have:=HR.out.lt;have h:=MR.out.size;have h2:=hk_k1;have h3:=MZ;omega)
 refine bF (some 98) (ki (by kernel_rfl)) (Be (xs:=pvs) (ys:=[.slice a7 (m - 16) c7]) (ug:=k1) (uo:=0) (uc:=1) (HR.out.keep MR.out (fun x=>x)).own (xG hO_k1) (by intro h;have:=MO.out;simp [Value.ownBlock] at h;omega) H2.out (by intro y hy;rw [List.mem_singleton.1 hy];exact h17) (i:=p+1) (by omega) hn) (fun _=>by kernel_rfl) ?_
 rintro r w8 ⟨v8,rfl,o8,m8,f8⟩
 have m78:=hm_k1.trans m8 (U:=fun k=>k=b) (fun _ _ x=>x.elim) (fun k _ hk=>by have:=jh hk;omega)
 replace m8:=MR.out.trans m8 (U:=fun k=>k=b) (fun _ _ x=>x.elim) (fun k _ hk=>by have:=jh hk;omega)
 have O8:=lh (And.intro o8 (And.intro m8 (And.intro m78 (f8.imp id (fun h=>h.of hm_k1.size)))))
 have hg8:=m8.heap HG.out hbg
 obtain⟨a8,c8,e8,_⟩:=o8.rd.form
 have h18:v8.oneCell'=true:=by rw [e8];rfl
 clear o8 m8 f8 e8 m78
 refine⟨_,rfl,fun _=>O8.out.2.1,?_⟩
 refine az [12,13] [ag g 0,ag g 0] rfl (by kernel_rfl) (by kernel_rfl) (.inl (by kernel_rfl)) ?_
 refine fD (ty:=116) (x:=(.tmp 100)) (y:=(.tmp 98)) (g:=g) (off:=0) (v:=v8) none (ki (by kernel_rfl)) (by kernel_rfl) (by kernel_rfl) (by kernel_rfl) (by kernel_rfl) (by rw [ai hg8];rfl) (dw hg8 _) (h18) ?_
 intro w9 hw9
 refine⟨(fun h=>by first | (cases h;done) | exact trivial),?_⟩
 exact aA (aZ (K:=Q .normal) (by kernel_rfl) (HQ.out (ag g 0) (ag g 0) (ag g 0) (ag g 0) (.slice (some ⟨b,off,none⟩) n cap) (.int .i64 ((p:Nat):Int)) (.int .i64 (((p+1):Nat):Int)) (.slice (some ⟨lg,lo,none⟩) m lc) (.slice (some ⟨lg,lo+16*2,none⟩) (m - 16) (lc - 16)) ((.slice a7 (m - 16) c7)) (.slice (some ⟨k1,0,none⟩) 1 1) (v8) (ag g 0) (ag g 0) (.slice a7 (m - 16) c7) v8 w7 w8 w9 O7.out M7.out.1 F7.out h17 O8.out.1 O8.out.2.2.1 O8.out.2.2.2 hw9))
end
open Go.Gl Go.RowKit
theorem qx {w:World}{e:TypeId}{b off n cap p:Nat}{pvs:List Value} (h:OB w e 1 b off n cap pvs) (hp:p<n) (v:Value):OB (w.setCell ⟨b,off+p,none⟩ v) e 1 b off n cap (pvs.set p v):=by
 have hl:=h.hl
 refine h.set p [v] (by have:=h.hn;simp;omega) n (pvs.set p v) h.hn (by rw [List.length_set,hl]) (fun j u hj=>?_)
 by_cases hjp:j=p
 ·subst hjp
  rw [if_pos (by simp),Nat.sub_self]
  rw [List.getElem?_set_self (by omega)] at hj
  exact hj
 ·rw [if_neg (by simp;omega)]
  rwa [List.getElem?_set_ne (by omega)] at hj
theorem sH (es:List EV) (i:Nat) (x:EV) (hi:i≤es.length):(es.take i ++ x :: es.drop i).length=es.length+1:=by
 rw [List.length_append,List.length_cons,List.length_take,List.length_drop];omega
theorem sU {es:List EV}{i:Nat}{x e:EV} (h:e∈es.take i ++ x :: es.drop i):e=x∨e∈es:=by
 rw [List.mem_append,List.mem_cons] at h
 rcases h with h | h | h
 ·exact .inr (List.mem_of_mem_take h)
 ·exact .inl h
 ·exact .inr (List.mem_of_mem_drop h)
theorem AY {w w':World}{g b off n cap lg lo lc i:Nat}{A C:List PV}{q:PV}{x:EV} (hm:PM w g (.slice (some ⟨b,off,none⟩) n cap) (A ++ [q] ++ C)) (hn:n=(A ++ [q] ++ C).length) (hi:i≤q.es.length) (hx:E1 w x)
  (hb:∀ k,(x.kv.ownBlock=some k∨x.vv.ownBlock=some k)→k<w.heap.size∧¬ MS g (.slice (some ⟨b,off,none⟩) n cap) (A ++ [q] ++ C) k)
  (hT:ae (fun k=>k=g∨k=b∨q.pv.ownBlock=some k) w w')
  (hg:w'.heap[g]?=some (.cells #[.slice (some ⟨b,off,none⟩) n cap,.int .i64 ((cnt (aB (A ++ [q] ++ C)):Nat)+1)] 118 (0,0)))
  (hr:OB w' 153 1 b off n cap (((A ++ [q] ++ C).map (·.pv)).set A.length (.slice (some ⟨lg,lo,none⟩) (q.es.length+1) lc)))
  (hp:OB w' 131 2 lg lo (q.es.length+1) lc (dn (q.es.take i ++ x :: q.es.drop i))) (hlg:q.pv.ownBlock=some lg∨w.heap.size≤lg) (hlb:lg≠b) :
  ∃ vo' R',PM w' g vo' R'∧ae (MS g (.slice (some ⟨b,off,none⟩) n cap) (A ++ [q] ++ C)) w w'∧(∀ k,MS g vo' R' k→MS g (.slice (some ⟨b,off,none⟩) n cap) (A ++ [q] ++ C) k∨w.heap.size≤k) ∧
   (∀ k,MD R' k→MD (A ++ [q] ++ C) k∨(x.kv.ownBlock=some k∨x.vv.ownBlock=some k))∧aB R'=(aB (A ++ [q] ++ C)).set A.length (jg (ents q.es) i x.ent):=by
 subst hn
 have hin:q∈A ++ [q] ++ C:=by simp
 have mods:ae (fun k=>k=g∨(Value.slice (some ⟨b,off,none⟩) (A ++ [q] ++ C).length cap).ownBlock=some k∨∃ r∈[q],r.pv.ownBlock=some k) w w':=hT.mono (fun k _ hk=>by
  rcases hk with h | h | h
  ·exact .inl h
  ·exact .inr (.inl (by rw [h];rfl))
  ·exact .inr (.inr ⟨q,List.mem_singleton.2 rfl,h⟩))
 have up:=PM.upd (vo' := .slice (some ⟨b,off,none⟩) (A ++ [q] ++ C).length cap) (A:=A) (B:=[q]) (C:=C) (N:=[⟨.slice (some ⟨lg,lo,none⟩) (q.es.length+1) lc,q.es.take i ++ x :: q.es.drop i⟩]) (X:=fun k=>x.kv.ownBlock=some k∨x.vv.ownBlock=some k) hm mods
  (by
   rw [gm,jF,sH _ _ _ hi,hg,gm,jF]
   congr 4
   simp
   omega)
  (by
   have e1:(A ++ [(⟨.slice (some ⟨lg,lo,none⟩) (q.es.length+1) lc,q.es.take i ++ x :: q.es.drop i⟩:PV)] ++ C).length=(A ++ [q] ++ C).length:=by simp
   have e2:(A ++ [(⟨.slice (some ⟨lg,lo,none⟩) (q.es.length+1) lc,q.es.take i ++ x :: q.es.drop i⟩:PV)] ++ C).map (·.pv)=((A ++ [q] ++ C).map (·.pv)).set A.length (.slice (some ⟨lg,lo,none⟩) (q.es.length+1) lc):=by
    rw [← List.map_set (f:=(·.pv)) (l:=A ++ [q] ++ C) (i:=A.length) (a:=⟨.slice (some ⟨lg,lo,none⟩) (q.es.length+1) lc,q.es.take i ++ x :: q.es.drop i⟩),iK]
   rw [e1,e2]
   exact hr.own)
  (.inl rfl)
  (by
   intro r hr
   rw [List.mem_singleton.1 hr]
   refine⟨?_,?_⟩
   ·show aU _ _ 2 _ (q.es.take i ++ x :: q.es.drop i).length _
    rw [sH _ _ _ hi]
    exact hp.own
   ·rcases hlg with h | h
    ·exact .inl ⟨q,List.mem_singleton.2 rfl,h.symm⟩
    ·exact .inr (fun k hk=>by simp [Value.ownBlock] at hk;omega))
  (by
   intro r hr k hk
   rw [List.mem_singleton.1 hr] at hk
   simp [Value.ownBlock] at hk ⊢
   omega)
  (List.pairwise_singleton _ _)
  (by
   intro r hr e he
   rw [List.mem_singleton.1 hr] at he
   rcases sU he with rfl | he
   ·exact .inr ⟨hx,fun k hk=>⟨hk,hb k hk⟩⟩
   ·exact .inl ⟨q,List.mem_singleton.2 rfl,he⟩)
 refine⟨_,_,up.1,mods.mono (fun k _ hk=>by
  rcases hk with h | h | ⟨b,hb,h⟩
  ·exact .inl h
  ·exact .inr (.inl h)
  ·exact .inr (.inr ⟨q,hin,by rw [List.mem_singleton.1 hb] at h;exact h⟩)),up.2.1,up.2.2,?_⟩
 have hlen:A.length=(aB A).length:=(dN A).symm
 rw [bW,bW,bW,bW,hlen,iw q,iK,iw,vJ]
theorem Ba {w w':World}{g b off n cap i:Nat}{A C:List PV}{q:PV}{x:EV}{va vb vo':Value} (hm:PM w g (.slice (some ⟨b,off,none⟩) n cap) (A ++ [q] ++ C)) (hn:n=(A ++ [q] ++ C).length) (hi:i≤q.es.length) (hx:E1 w x)
    (hb:∀ k,(x.kv.ownBlock=some k∨x.vv.ownBlock=some k)→k<w.heap.size∧¬ MS g (.slice (some ⟨b,off,none⟩) n cap) (A ++ [q] ++ C) k)
    (hT:ae (fun k=>k=g∨k=b∨q.pv.ownBlock=some k) w w') (h16:16≤q.es.length)
    (hg:w'.heap[g]?=some (.cells #[vo',.int .i64 ((cnt (aB (A ++ [q] ++ C)):Nat)+1)] 118 (0,0)))
    (hr:aU w' 153 1 vo' (n+1) (A.map (·.pv) ++ [va,vb] ++ C.map (·.pv))) (hvo:vo'.ownBlock=some b∨aI w vo')
    (ha:aU w' 131 2 va 16 (dn ((q.es.take i ++ x :: q.es.drop i).take 16))) (hvb:aU w' 131 2 vb (q.es.length+1 - 16) (dn ((q.es.take i ++ x :: q.es.drop i).drop 16)))
    (fa:aI w va) (fb:aI w vb) (dab:∀ k,va.ownBlock=some k→vb.ownBlock≠some k) (dav:∀ k,va.ownBlock=some k→vo'.ownBlock≠some k) (dbv:∀ k,vb.ownBlock=some k→vo'.ownBlock≠some k) :
    ∃ R',PM w' g vo' R'∧ae (MS g (.slice (some ⟨b,off,none⟩) n cap) (A ++ [q] ++ C)) w w'∧(∀ k,MS g vo' R' k→MS g (.slice (some ⟨b,off,none⟩) n cap) (A ++ [q] ++ C) k∨w.heap.size≤k) ∧
      (∀ k,MD R' k→MD (A ++ [q] ++ C) k∨(x.kv.ownBlock=some k∨x.vv.ownBlock=some k))∧aB R'=(aB (A ++ [q] ++ C)).take A.length ++ [(jg (ents q.es) i x.ent).take 16,(jg (ents q.es) i x.ent).drop 16] ++ (aB (A ++ [q] ++ C)).drop (A.length+1):=by
  subst hn
  have hin:q∈A ++ [q] ++ C:=by simp
  have hl:=sH _ _ x hi
  have mods:ae (fun k=>k=g∨(Value.slice (some ⟨b,off,none⟩) (A ++ [q] ++ C).length cap).ownBlock=some k∨∃ r∈[q],r.pv.ownBlock=some k) w w':=hT.mono (fun k _ hk=>by
    rcases hk with h | h | h
    · exact .inl h
    · exact .inr (.inl (by rw [h];rfl))
    · exact .inr (.inr ⟨q,List.mem_singleton.2 rfl,h⟩))
  obtain⟨ns,hns⟩:∃ ns,q.es.take i ++ x :: q.es.drop i=ns:=⟨_,rfl⟩
  have hmem:∀ e∈ns,e=x∨e∈q.es:=fun e he=>by rw [← hns] at he;exact sU he
  have hins:ents ns=jg (ents q.es) i x.ent:=by rw [← hns,vJ]
  rw [hns] at hl ha hvb
  have l1:(ns.take 16).length=16:=by rw [List.length_take];omega
  have l2:(ns.drop 16).length=q.es.length+1 - 16:=by rw [List.length_drop,hl]
  have up:=PM.upd (vo':=vo') (A:=A) (B:=[q]) (C:=C) (N:=[⟨va,ns.take 16⟩,⟨vb,ns.drop 16⟩]) (X:=fun k=>x.kv.ownBlock=some k∨x.vv.ownBlock=some k) hm mods
    (by
      rw [hg,gm,jF,gm]
      have:cnt (aB [(⟨va,ns.take 16⟩:PV),⟨vb,ns.drop 16⟩])=q.es.length+1:=by
        rw [vP,iw,oC,oC,yh,dA,dA,l1,l2];omega
      rw [this]
      congr 4
      simp
      omega)
    (by
      have e1:(A ++ [(⟨va,ns.take 16⟩:PV),⟨vb,ns.drop 16⟩] ++ C).length=(A ++ [q] ++ C).length+1:=by simp;omega
      rw [e1,List.map_append,List.map_append]
      exact hr)
    (by rcases hvo with h | h
        · exact .inl h
        · exact .inr h)
    (by
      intro r hr
      simp only [List.mem_cons,List.not_mem_nil,or_false] at hr
      rcases hr with rfl | rfl
      · exact⟨by show aU _ _ 2 va (ns.take 16).length _;rw [l1];exact ha,.inr fa⟩
      · exact⟨by show aU _ _ 2 vb (ns.drop 16).length _;rw [l2];exact hvb,.inr fb⟩)
    (by
      intro r hr k hk
      simp only [List.mem_cons,List.not_mem_nil,or_false] at hr
      rcases hr with rfl | rfl
      · exact dav k hk
      · exact dbv k hk)
    (List.pairwise_pair.2 dab)
    (by
      intro r hr e he
      have hes:e∈ns:=by
        simp only [List.mem_cons,List.not_mem_nil,or_false] at hr
        rcases hr with rfl | rfl
        · exact List.mem_of_mem_take he
        · exact List.mem_of_mem_drop he
      rcases hmem e hes with rfl | he
      · exact .inr ⟨hx,fun k hk=>⟨hk,hb k hk⟩⟩
      · exact .inl ⟨q,List.mem_singleton.2 rfl,he⟩)
  refine⟨_,up.1,mods.mono (fun k _ hk=>by
    rcases hk with h | h | ⟨b,hb,h⟩
    · exact .inl h
    · exact .inr (.inl h)
    · exact .inr (.inr ⟨q,hin,by rw [List.mem_singleton.1 hb] at h;exact h⟩)),up.2.1,up.2.2,?_⟩
  have hlen:A.length=(aB A).length:=(dN A).symm
  rw [bW,bW,bW,bW,hlen,List.append_assoc (aB A) (aB [q]) (aB C),List.take_left',← List.append_assoc,iw q,← hins,← qf,← pO]
  · rw [List.drop_left' (by simp)]
    rfl
  · rfl
theorem xM {R:List PV}{ys:List UInt8} (hne:R≠[]):∃ (hp:(aK (aB R) ys).1<R.length),(aK (aB R) ys).2.1≤(R[(aK (aB R) ys).1]).es.length:=by
 have hne':aB R≠[]:=fun h=>hne (by cases R with | nil=>rfl | cons a b=>simp [aB] at h)
 have hlt:=sO hne' ys
 rw [oK hne']
 simp only
 generalize gq (aB R) ys=p at *
 have hlt':p<R.length:=by rw [← dN];exact hlt
 refine⟨hlt',?_⟩
 rw [iE hlt']
 have:=sN (ents (R[p]).es) ys
 rw [dA] at this
 exact this
theorem DC {w:World}{g:Nat}{vo kv vv:Value}{R:List PV}{xs ys:List UInt8} (hm:PM w g vo R) (hk:Rd w kv xs) (hv:Rd w vv ys) (lx:xs.length≤1000000) (ly:ys.length≤1000000) (ok:fH (aB R)) (hn:R.length≤1000000)
  (hc:cnt (aB R)≤1000000000) (hne:R≠[]) (hf:(aK (aB R) xs).2.2=false) :
  Calls Try.prog 60 #[.pointer (some ⟨g,0,none⟩),kv,vv] w fun e w'=>∃ vo' R',e = .returned (.bool true)∧PT w w' g vo R vo' R'∧aB R'=lU (aB R) xs ys:=by
 obtain⟨hp,hi⟩:=xM (ys:=xs) hne
 have FD:=lh (fun (w':World) (m:ae aj w w') (q:Value) (hq:Rd w' q xs)=>oJ (hm.keep0 m) hq ok hn)
 have hge:(aB R).getD (aK (aB R) xs).1 []=ents (R[(aK (aB R) xs).1]).es:=iE hp
 have hne':aB R≠[]:=fun h=>hne (by cases R with | nil=>rfl | cons a b=>simp [aB] at h)
 have hset:lU (aB R) xs ys=if 32<(R[(aK (aB R) xs).1]).es.length+1 then
   (aB R).take (aK (aB R) xs).1 ++ [(jg (ents (R[(aK (aB R) xs).1]).es) (aK (aB R) xs).2.1 (xs,ys)).take 16,(jg (ents (R[(aK (aB R) xs).1]).es) (aK (aB R) xs).2.1 (xs,ys)).drop 16] ++ (aB R).drop ((aK (aB R) xs).1+1)
   else (aB R).set (aK (aB R) xs).1 (jg (ents (R[(aK (aB R) xs).1]).es) (aK (aB R) xs).2.1 (xs,ys)):=by
  unfold lU
  rw [if_neg hne',if_neg (by rw [hf];simp),hge]
  have hl:(jg (ents (R[(aK (aB R) xs).1]).es) (aK (aB R) xs).2.1 (xs,ys)).length=(R[(aK (aB R) xs).1]).es.length+1:=by
   unfold jg
   rw [List.length_append,List.length_cons,List.length_take,List.length_drop,dA]
   omega
  rw [hl]
 have hmost:=ok.most (ents (R[(aK (aB R) xs).1]).es) (List.mem_map_of_mem (f:=fun p=>ents p.es) (List.getElem_mem hp))
 rw [dA] at hmost
 have HSET:=lh hset
 clear hset
 generalize aK (aB R) xs=F at *
 obtain⟨p,i,B⟩:=F
 simp only at hf hp hi FD hge hmost HSET ⊢
 subst hf
 have hl0:((R.length:Int) == 0)=false:=by rw [beq_eq_false_iff_ne];omega
 have hpos:0<(R[p]).es.length:=by
  have h:=ok.ne (ents (R[p]).es) (List.mem_map_of_mem (f:=fun p=>ents p.es) (List.getElem_mem hp))
  exact List.length_pos_iff.2 (fun e=>h (by rw [e];rfl))
 obtain⟨b,off,cap,pb,po,pc,hvo,hpv,ob2,ob1⟩:=hm.way hp hpos
 subst hvo
 have hbg:b≠g:=fun e=>hm.sep1 (by rw [e];rfl)
 have hpg:pb≠g:=fun e=>(hm.sep2 _ (List.getElem_mem hp)).1 (by rw [hpv,e];rfl)
 have hbp:b≠pb:=fun e=>(hm.sep2 _ (List.getElem_mem hp)).2 pb (by rw [hpv];rfl) (by rw [e];rfl)
 have HPV:=lh hpv
 have OB2:=lh ob2
 have HM:=lh hm
 have OB1:=lh ob1
 have OK:=lh (fZ hk (by omega))
 have HK:=lh hk
 have HV:=lh hv
 obtain⟨ak,ck,rfl,_⟩:=hk.form
 obtain⟨av,cv,rfl,_⟩:=hv.form
 obtain⟨N,hN⟩:∃ N,cnt (aB R)=N:=⟨_,rfl⟩
 have HN:=lh hN
 rw [hN] at hc
 clear hm hk hv ob1 ob2 hpv hge ok hne' hne hN
 go_enter Try.func60,Try.ntmps60
 go_wp2_with fail
 refine OK.out.mono ?_
 rintro e w1 ⟨u,rfl,o1,m1,f1⟩
 have OV:=lh (fZ (HV.out.keep m1 (fun _ _ x=>x)) (by omega))
 have O1:=lh (And.intro o1 (And.intro m1 f1))
 obtain⟨a1,c1,rfl,_⟩:=o1.rd.form
 clear o1 m1 f1
 go_wp2_with fail
 refine OV.out.mono ?_
 rintro e w2 ⟨v,rfl,o2,m2,f2⟩
 obtain⟨nE,nB⟩:=Bq O1.out.1 O1.out.2.2 O1.out.2.1 o2 f2 m2 lx ly
 have M2:=lh (O1.out.2.1.then0 m2)
 have NE:=lh (And.intro nE nB)
 obtain⟨a2,c2,rfl,_⟩:=o2.rd.form
 clear o2 m2 f2 nE nB
 have hbE:=bC w2 (.cells #[.slice a1 xs.length c1,.slice a2 ys.length c2] 131)
 have mE:=(ae.refl aj w2).alloc (.cells #[.slice a1 xs.length c1,.slice a2 ys.length c2] 131)
 go_upto_region 2 with fail
 generalize hw3:World.alloc w2 _=w3 at *
 have M3:=lh (M2.out.then0 mE)
 have e00:w3.cell? ⟨g,0,none⟩=some (.slice (some ⟨b,off,none⟩) R.length cap):=ai (M3.out.heap HM.out.hg (fun x=>x)) 0
 have FW:=lh (FD.out w3 M3.out _ (HK.out.keep M3.out (fun _ _ x=>x)))
 go_wp2_with fail
 refine FW.out.mono ?_
 rintro e w4 ⟨rfl,m4⟩
 have M4:=lh (M3.out.then0 m4)
 have PM4:=lh (HM.out.keep0 M4.out)
 have NE4:=lh (And.intro (NE.out.1.keep (mE.then0 m4) (fun _ _ x=>x)) (fun k (hk:(Value.slice a1 xs.length c1).ownBlock=some k∨(Value.slice a2 ys.length c2).ownBlock=some k)=>And.intro (NE.out.2 k hk).1 (Nat.lt_of_lt_of_le (NE.out.2 k hk).2 (mE.then0 m4).size)))
 have b0:w4.cell? ⟨w2.heap.size,0,none⟩=some (.slice a1 xs.length c1):=ai (m4.heap hbE (fun x=>x)) 0
 have b1:w4.cell? ⟨w2.heap.size,1,none⟩=some (.slice a2 ys.length c2):=ai (m4.heap hbE (fun x=>x)) 1
 have e1:w4.cell? ⟨g,1,none⟩=some (.int .i64 (N:Nat)):=by rw [← HN.out];exact ai PM4.out.hg 1
 have ef1:w4.frozen? ⟨g,1,none⟩=false:=dw PM4.out.hg 1
 have hg2:g≠w2.heap.size:=by have:=lt_of_heap HM.out.hg;have:=M2.out.size;omega
 clear e00
 go_upto_region 10 with fail
 have hg5:(w4.setCell ⟨g,1,none⟩ (.int .i64 ((N:Int)+1))).heap[g]?=some (.cells #[.slice (some ⟨b,off,none⟩) R.length cap,.int .i64 ((N:Int)+1)] 118 (0,0)):=heap_set PM4.out.hg 1 _
 have m5:ae (fun k=>k=g) w4 (w4.setCell ⟨g,1,none⟩ (.int .i64 ((N:Int)+1))):=(ae.refl (fun k=>k=g) w4).setCell (p:=⟨g,1,none⟩) (.inl rfl) _
 generalize World.setCell w4 _ _=w5 at *
 have M5:=lh m5
 have hgE5:=M5.out.heap (m4.heap hbE (fun x=>x)) (Ne.symm hg2)
 have ob15:=(OB1.out.keep M4.out (fun x=>x)).keep M5.out hbg
 have ob25:=(OB2.out.keep M4.out (fun x=>x)).keep M5.out hpg
 have D5:=lh (And.intro hg5 (And.intro ob15 ob25))
 have hPV:(R.map (·.pv))[p]?=some (.slice (some ⟨pb,po,none⟩) (R[p]).es.length pc):=by rw [← HPV.out];simp [hp]
 have h1:=lS (w:=w5) (es:=(R[p]).es) (fun e he=>((HM.out.ents _ (List.getElem_mem hp)) e he).keep (M4.out.trans M5.out (U:=fun k=>k=g) (fun _ _ x=>x.elim) (fun _ _ x=>x)) (fun k hk e=>HM.out.data k ⟨_,List.getElem_mem hp,_,he,hk⟩ (.inl e)))
 have h2:=lh (sD HM.out)
 refine gJ (d := .region 10 (aJ 10 Try.f60) true) (by kernel_rfl) ?_
 refine RW.wp (set10 hg5 ob15 hp hPV ob25 h1 hgE5 rfl rfl hi (by omega) ?_)
 intro y57 y58 y59 y60 y61 y62 y63 y64 y65 y66 y67 v7 w7 o7 m7 f7
 clear hgE5 h1 hPV ob15 ob25 hg5
 obtain⟨es,hEs⟩:∃ es,(R[p]).es=es:=⟨_,rfl⟩
 rw [hEs] at hi hmost hpos o7 D5 HPV OB2
 have HEs:=lh hEs
 obtain⟨nl,hL⟩:∃ nl,es.length+1=nl:=⟨_,rfl⟩
 rw [← zu es i ⟨.slice a1 xs.length c1,.slice a2 ys.length c2,xs,ys⟩,hL] at o7
 rcases o7.ob with ⟨_,h7,_⟩ | ⟨lg,lo,lc,rfl,ob7⟩
 ·omega
 have hlg:lg=pb∨w5.heap.size≤lg:=by
  rcases f7 with f7 | f7
  ·left;simpa [Value.ownBlock] using f7
  ·right;exact f7 lg rfl
 have hbl:b<w5.heap.size:=D5.out.2.1.lt
 have hgl:g<w5.heap.size:=lt_of_heap D5.out.1
 have hlb:lg≠b:=by rcases hlg with h | h <;> omega
 have hlg':lg≠g:=by rcases hlg with h | h <;> omega
 have hg7:w7.heap[g]?=some (.cells #[.slice (some ⟨b,off,none⟩) R.length cap,.int .i64 ((N:Int)+1)] 118 (0,0)):=m7.heap D5.out.1 (Ne.symm hpg)
 have ob17:=D5.out.2.1.keep m7 hbp
 have hb7:=ob7
 have M7:=lh m7
 have c0:w7.cell? ⟨g,0,none⟩=some (.slice (some ⟨b,off,none⟩) R.length cap):=ai hg7 0
 have c1':w7.cell? ⟨b,off+p,none⟩=some (.slice (some ⟨pb,po,none⟩) es.length pc):=ob17.cell (by rw [← HPV.out];simp [hp])
 have c1'':w7.frozen? ⟨b,off+p,none⟩=false:=ob17.free _
 have D7:=lh (And.intro hg7 (And.intro ob17 ob7))
 clear o7 m7 f7 hg7 ob17 ob7 hb7
 have hpi:(p:Int)<(R.length:Int):=by omega
 go_upto_region 12 with fail
 have w8m:=(ae.refl (fun k=>k=b) w7).setCell (p:=⟨b,off+p,none⟩) (.inl rfl) (.slice (some ⟨lg,lo,none⟩) nl lc)
 have ob18:=qx D7.out.2.1 hp (.slice (some ⟨lg,lo,none⟩) nl lc)
 generalize World.setCell w7 _ _=w8 at *
 have hg8:=w8m.heap D7.out.1 (Ne.symm hbg)
 have ob78:=D7.out.2.2.keep w8m hlb
 have D8:=lh (And.intro hg8 (And.intro ob18 (And.intro ob78 w8m)))
 clear hg8 ob18 ob78 w8m c0 c1' c1''
 by_cases hbig:nl≤32
 ·have hcmp:¬ ((32:Int)<(nl:Int)):=by omega
  go_wp2
  go_ret
  have hT:=(M5.out.trans M7.out (U:=fun k=>k=g∨k=b∨k=pb) (fun _ _ h => .inl h) (fun _ _ h => .inr (.inr h))).trans D8.out.2.2.2 (U:=fun k=>k=g∨k=b∨k=pb) (fun _ _ h=>h) (fun _ _ h => .inr (.inl h))
  have hsz:w.heap.size≤w4.heap.size:=M4.out.size
  have h45:=M5.out.size
  obtain⟨A,q,C,rfl,rfl,hq⟩:=parts R p hp
  have hes:=HEs.out
  have hpv:=HPV.out
  have hN:=HN.out
  rw [hq] at hes hpv
  subst hes hL hN
  obtain⟨vo',R',p1,p2,p3,p4,p5⟩:=AY (x:=⟨.slice a1 xs.length c1,.slice a2 ys.length c2,xs,ys⟩) PM4.out rfl hi NE4.out.1 (fun k hk=>⟨(NE4.out.2 k hk).2,fun h=>by
   have h2:=HM.out.lt k h
   have:=(NE4.out.2 k hk).1
   omega⟩) (hT.mono (fun k _ hk=>by
    rcases hk with h | h | h
    ·exact .inl h
    ·exact .inr (.inl h)
    ·exact .inr (.inr (by rw [hpv,h];rfl)))) D8.out.1 D8.out.2.1 D8.out.2.2.1 (by
     rcases hlg with h | h
     ·left;rw [hpv,h];rfl
     ·right;omega) hlb
  have hset:=HSET.out
  rw [hq,if_neg (by omega)] at hset
  rw [hset]
  exact⟨rfl,vo',R',⟨p1,M4.out.trans p2 (fun _ _ x=>x.elim) (fun _ _ x=>x),fun k hk=>(p3 k hk).imp id (Nat.le_trans hsz),fun k hk=>(p4 k hk).imp id (fun h=>(NE4.out.2 k h).1)⟩,p5⟩
 ·have hcmp:(32:Int)<(nl:Int):=by omega
  go_upto_region 13 with fail
  have h1:=fun y (hy:y∈dn (es.take i ++ (⟨.slice a1 xs.length c1,.slice a2 ys.length c2,xs,ys⟩:EV) :: es.drop i))=>lS (w:=w4) (es:=es.take i ++ (⟨.slice a1 xs.length c1,.slice a2 ys.length c2,xs,ys⟩:EV) :: es.drop i) (fun e he=>by
   rcases sU he with rfl | he
   ·exact NE4.out.1
   ·rw [← HEs.out] at he
    exact PM4.out.ents _ (List.getElem_mem hp) e he) y hy
  refine gJ (d := .region 13 (aJ 13 Try.f60) true) (by kernel_rfl) ?_
  refine RW.wp (set13 D8.out.1 D8.out.2.1 hp D8.out.2.2.1 h1 (by omega) (by omega) ?_)
  intro y78 y79 y80 y81 y82 y83 y84 y85 y86 va w9 w10 oa m9 fa hw10
  have m10:ae (fun k=>k=b) w9 w10:=by rw [hw10];exact (ae.refl (fun k=>k=b) w9).setCell (p:=⟨b,off+p,none⟩) (.inl rfl) va
  have hga:=m10.heap (m9.heap D8.out.1 (fun x=>x)) (Ne.symm hbg)
  have hra:OB w10 153 1 b off R.length cap (((R.map (·.pv)).set p (.slice (some ⟨lg,lo,none⟩) nl lc)).set p va):=by rw [hw10];exact qx (D8.out.2.1.keep m9 (fun x=>x)) hp va
  have hla:=(D8.out.2.2.1.keep m9 (fun x=>x)).keep m10 hlb
  have hbs8:b<w8.heap.size:=D8.out.2.1.lt
  have oa10:=oa.keep m10 (fun k hk e=>by have:=fa k hk;omega)
  have A10:=lh (And.intro hga (And.intro hra (And.intro oa10 (And.intro fa (m9.trans m10 (U:=fun k=>k=b) (fun _ _ x=>x.elim) (fun _ _ x=>x))))))
  have h2:∀ y∈(((R.map (·.pv)).set p (.slice (some ⟨lg,lo,none⟩) nl lc)).set p va),y.oneCell'=true:=by
   obtain⟨a7,c7,e7,_⟩:=oa.rd.form
   intro y hy
   rcases List.mem_or_eq_of_mem_set hy with hy | rfl
   ·rcases List.mem_or_eq_of_mem_set hy with hy | rfl
    ·exact sD HM.out y hy
    ·rfl
   ·rw [e7];rfl
  clear hga oa m9 fa hw10 m10 oa10
  go_upto_region 14 with fail
  refine gJ (d := .region 14 (aJ 14 Try.f60) true) (by kernel_rfl) ?_
  refine RW.wp (set14 A10.out.1 hra hp hla h1 h2 (by omega) (by omega) hn (Ne.symm hbg) ?_)
  intro y87 y88 y89 y90 y91 y92 y93 y94 y95 y96 y97 y98 y99 y100 vb vr w11 w12 w13 ob m11 fb ob1 or m12 fr hw13
  have m1012:=m11.trans m12 (U:=fun k=>k=b) (fun _ _ x=>x.elim) (fun _ _ x=>x)
  have hg12:=m1012.heap A10.out.1 (Ne.symm hbg)
  have m13:ae (fun k=>k=g) w12 w13:=by rw [hw13];exact (ae.refl (fun k=>k=g) w12).setCell (p:=⟨g,0,none⟩) (.inl rfl) vr
  have hg13:w13.heap[g]?=some (.cells #[vr,.int .i64 ((N:Int)+1)] 118 (0,0)):=by rw [hw13];exact heap_set hg12 0 vr
  have hw8s:w8.heap.size≤w10.heap.size:=A10.out.2.2.2.2.size
  have hg8s:g<w8.heap.size:=lt_of_heap D8.out.1
  have a13:=((A10.out.2.2.1.keep m11 (fun _ _ x=>x)).keep m12 (fun k hk e=>by have:=A10.out.2.2.2.1 k hk;omega)).keep m13 (fun k hk e=>by have:=A10.out.2.2.2.1 k hk;omega)
  have b13:=(ob.keep m12 (fun k hk e=>by have:=fb k hk;omega)).keep m13 (fun k hk e=>by have:=fb k hk;omega)
  have r13:=or.keep m13 (fun k hk e=>by
   rcases fr with fr | fr
   ·rw [fr] at hk;cases hk;exact hbg e
   ·have:=fr k hk;have:=m11.size;omega)
  have hT:=(M5.out.trans M7.out (U:=fun k=>k=g∨k=b∨k=pb) (fun _ _ h => .inl h) (fun _ _ h => .inr (.inr h))).trans D8.out.2.2.2 (U:=fun k=>k=g∨k=b∨k=pb) (fun _ _ h=>h) (fun _ _ h => .inr (.inl h))
  have hT2:=((hT.trans A10.out.2.2.2.2 (U:=fun k=>k=g∨k=b∨k=pb) (fun _ _ h=>h) (fun _ _ h => .inr (.inl h))).trans m1012 (U:=fun k=>k=g∨k=b∨k=pb) (fun _ _ h=>h) (fun _ _ h => .inr (.inl h))).trans m13 (U:=fun k=>k=g∨k=b∨k=pb) (fun _ _ h=>h) (fun _ _ h => .inl h)
  have hsz:w.heap.size≤w4.heap.size:=M4.out.size
  have hs48:w4.heap.size≤w8.heap.size:=hT.size
  have hA10:∀ k,va.ownBlock=some k→w8.heap.size≤k∧k<w10.heap.size:=fun k hk=>⟨A10.out.2.2.2.1 k hk,A10.out.2.2.1.lt k hk⟩
  have hB11:∀ k,vb.ownBlock=some k→w10.heap.size≤k∧k<w11.heap.size:=fun k hk=>⟨fb k hk,ob.lt k hk⟩
  have m11s:=m11.size
  clear A10 D8 D7 hg12 m13 hw13 m1012 ob or m12 m11 h1 h2 hra hla hT M5 M7
  go_wp2
  go_ret
  obtain⟨A,q,C,rfl,rfl,hq⟩:=parts R p hp
  have hes:=HEs.out
  have hpv:=HPV.out
  have hN:=HN.out
  rw [hq] at hes hpv
  subst hes hL hN
  obtain⟨R',p1,p2,p3,p4,p5⟩:=Ba (va:=va) (vb:=vb) (x:=⟨.slice a1 xs.length c1,.slice a2 ys.length c2,xs,ys⟩) PM4.out rfl hi NE4.out.1 (fun k hk=>⟨(NE4.out.2 k hk).2,fun h=>by
   have h2:=HM.out.lt k h
   have:=(NE4.out.2 k hk).1
   omega⟩) (hT2.mono (fun k _ hk=>by
    rcases hk with h | h | h
    ·exact .inl h
    ·exact .inr (.inl h)
    ·exact .inr (.inr (by rw [hpv,h];rfl)))) (by omega) hg13 (by
     have e:(((A ++ [q] ++ C).map (·.pv)).set A.length (.slice (some ⟨lg,lo,none⟩) (q.es.length+1) lc)).set A.length va=A.map (·.pv) ++ [va] ++ C.map (·.pv):=by
      have hl:A.length=(A.map (·.pv)).length:=by simp
      rw [List.map_append,List.map_append,hl,List.map_cons,List.map_nil,iK,iK]
     have hl:(A.map (·.pv) ++ [va]).length=(A.length+1)*1:=by simp
     rw [e,List.take_left' hl,List.drop_left' hl] at r13
     have e2:A.map (·.pv) ++ [va,vb] ++ C.map (·.pv)=A.map (·.pv) ++ [va] ++ [vb] ++ C.map (·.pv):=by simp
     rw [e2]
     exact r13) (fr.imp id (fun h=>h.of (by omega))) (by rw [mf];exact a13) (by rw [l9];exact b13)
    (fun k hk=>by have:=hA10 k hk;omega) (fun k hk=>by have:=hB11 k hk;omega)
    (fun k hk hk2=>by have:=hA10 k hk;have:=hB11 k hk2;omega)
    (fun k hk hk2=>by
     have:=hA10 k hk
     rcases fr with fr | fr
     ·rw [fr] at hk2;cases hk2;omega
     ·have:=fr k hk2;omega)
    (fun k hk hk2=>by
     have:=hB11 k hk
     rcases fr with fr | fr
     ·rw [fr] at hk2;cases hk2;omega
     ·have:=fr k hk2;omega)
  have hset:=HSET.out
  rw [hq,if_pos (by omega)] at hset
  rw [hset]
  exact⟨vr,R',rfl,⟨p1,M4.out.trans p2 (fun _ _ x=>x.elim) (fun _ _ x=>x),fun k hk=>(p3 k hk).imp id (Nat.le_trans hsz),fun k hk=>(p4 k hk).imp id (fun h=>(NE4.out.2 k h).1)⟩,p5⟩
theorem DN {w:World}{g:Nat}{vo kv vv:Value}{R:List PV}{xs ys:List UInt8} (hm:PM w g vo R) (hk:Rd w kv xs) (hv:Rd w vv ys) (lx:xs.length≤1000000) (ly:ys.length≤1000000) (ok:fH (aB R)) (hn:R.length≤1000000)
    (hc:cnt (aB R)≤1000000000) :
    Calls Try.prog 60 #[.pointer (some ⟨g,0,none⟩),kv,vv] w fun e w'=>∃ vo' R',e = .returned (.bool (newP (aB R) xs))∧PT w w' g vo R vo' R'∧aB R'=lU (aB R) xs ys:=by
  by_cases h0:R=[]
  · subst h0
    exact Ac hm hk hv lx ly
  have hne':aB R≠[]:=fun h=>h0 (by cases R with | nil=>rfl | cons a b=>simp [aB] at h)
  unfold newP
  cases hf:(aK (aB R) xs).2.2 with
  | true =>
    refine (zM hm hk hv lx ly ok hn hf).mono ?_
    rintro e w' ⟨vo',R',h1,h2,h3⟩
    refine⟨vo',R',h1,h2,?_⟩
    rw [h3]
    unfold lU
    rw [if_neg hne',if_pos hf]
  | false=>exact DC hm hk hv lx ly ok hn hc h0 hf
open Go.Gl Go.RowKit
theorem BL {w:World}{n:Nat} (h0:0<n) (hn:n≤1000000) :
  Calls Try.prog 147 #[.slice none 0 0,.int .i64 n] w fun r w'=>∃ g cap,r = .returned (.slice (some ⟨g,0,none⟩) 0 cap)∧OB w' 131 2 g 0 0 cap []∧n≤cap∧ae aj w w'∧w.heap.size≤g:=by
 obtain⟨inf,hi,hz,hs,hb⟩:=info_parts qm
 have hge:=grownCap_ge w n 0 131
 have hlm:=grownCap_le_maxLen w n 0 131 (by unfold maxLen;omega)
 obtain⟨cap,W2,hr,hob,hm,hc⟩:∃ (cap:Nat) (W2:World),(∀ ty,(Builtin.append_ #[153,3] ty #[.slice none 0 0,.int .i64 (n:Nat)]).run Try.prog w = .ok (.slice (some ⟨w.heap.size,0,none⟩) n cap) W2)∧OB W2 131 2 w.heap.size 0 0 cap []∧ae aj w W2∧n≤cap:=by
  have hr:=fun ty=>Lib.run_append_nil_zeros (P:=Try.prog) w 153 3 ty 131 inf _ .i64 .i64 Try.underlying153 Try.underlying3 hi hz n h0 (by rw [hs];omega) (by omega) (by rw [hb];omega)
  have hzc:∀ k,(Builtin.zeroCells (Value.cells (.agg #[.slice none 0 0,.slice none 0 0])) k).size=k*2:=fun k=>by rw [size_zeroCells];rfl
  refine⟨_,_,hr,⟨rfl,Nat.zero_le _,hlm,_,bC w.drew _,?_,fun j u hj=>by simp at hj⟩,((ae.refl aj w).drew).alloc _,hge⟩
  simp only [Array.size_append,hzc]
  omega
 have AP:=lh hr
 have HB:=lh (And.intro hob hm)
 have hc63:cap≤9223372036854775807:=by simpa [maxLen] using hob.hc
 clear hr hob hm hi hz hs hb hge hlm
 go_enter Try.func147,Try.ntmps147
 go_wp2_with (at_builtin;refine stop ?_)
 unfold Stop
 refine Lib.wpList_append_run _ rfl _ _ _ _ rfl _ _ rfl rfl _ _ (AP.out _) ?_
 go_wp2
 go_ret
 exact⟨_,_,rfl,HB.out.1,hc,HB.out.2,Nat.le_refl _⟩
theorem apE {w:World}{v:Value}{n m ug uo uc:Nat}{xs ys:List Value} (hv:aU w 131 2 v n xs) (hu:OB w 131 2 ug uo m uc ys) (h1:∀ y∈ys,y.oneCell'=true) (hn:n+m≤1000000)
  (ops:Array Oper) (Q:Exit→Act→World→Prop) (rest:List Oper) (o:Oper) (a:Act) (s x:Operand) (hgd:o.guard=none) (ho:o.op = .call { callee := .builtin .append,args:=#[s,x],argTypes:=#[153,153] }) (h2:a.eval s=v) (h3:a.eval x = .slice (some ⟨ug,uo,none⟩) m uc)
  (h:∀ v' w',aU w' 131 2 v' (n+m) (xs ++ ys)→ae (fK v) w w'→(v'.ownBlock=v.ownBlock∨aI w v')→wpList Try.prog ops Q rest (a.put o.dst v') w'):wpList Try.prog ops Q (o :: rest) a w:=by
 obtain⟨inf,hi,hz,hs,hb⟩:=info_parts qm
 refine lN (P:=Try.prog) hgd ho Try.underlying153 Try.underlying153 hi hz (by rw [hs];rfl) h2 (by rw [hs];exact hv) h3 (by rw [hs];exact aU.rd hu.own) h1 (by unfold maxLen;omega) (by rw [hb];omega) ?_
 intro v' w' k1 k2 k3
 rw [hs] at k1
 exact h v' w' k1 k2 k3
def rf (w:World) (xs ys:List Value) (n m k:Nat) (v:Value) (wx:World):Prop :=
 (if k=0 then aU wx 131 2 v 0 [] else if k=1 then aU wx 131 2 v n xs else aU wx 131 2 v (n+m) (xs ++ ys))∧ae aj w wx∧aI w v
theorem Dl {w:World}{vg pg po pc qg qo qc n m:Nat}{xs ys:List Value} (hrow:w.heap[vg]?=some (.cells #[.slice (some ⟨pg,po,none⟩) n pc,.slice (some ⟨qg,qo,none⟩) m qc] 153 (0,0)))
  (hp:OB w 131 2 pg po n pc xs) (hq:OB w 131 2 qg qo m qc ys) (h1:∀ y∈xs,y.oneCell'=true) (h2:∀ y∈ys,y.oneCell'=true) (hn0:0<n) (hn:n+m≤1000000) :
  Calls Try.prog 141 #[.slice (some ⟨vg,0,none⟩) 2 2] w fun r w'=>∃ v',r = .returned v'∧aU w' 131 2 v' (n+m) (xs ++ ys)∧ae aj w w'∧aI w v':=by
 have HR:=lh hrow
 have HP:=lh hp
 have HQ:=lh hq
 have H1:=lh h1
 have H2:=lh h2
 have c0:w.cell? ⟨vg,0,none⟩=some (.slice (some ⟨pg,po,none⟩) n pc):=ai hrow 0
 have c1:w.cell? ⟨vg,1,none⟩=some (.slice (some ⟨qg,qo,none⟩) m qc):=ai hrow 1
 clear hrow hp hq h1 h2
 go_enter Try.func141,Try.ntmps141
 go_wp2
 go_loopw [3,11] (fun sz i wr=>∃ k:Nat,k≤2∧i = .int .i64 k∧sz = .int .i64 (if k=0 then 0 else if k=1 then (n:Int) else (n:Int)+m)∧wr=w) (fun _ i _=>2 - (intOf i).toNat)
 case atStart=>exact⟨0,by omega,rfl,by simp,rfl⟩
 case round =>
  obtain⟨k,hk,rfl,rfl,rfl⟩:=hrel
  rcases (by omega:k=0∨k=1∨k=2) with rfl | rfl | rfl
  ·go_wp2
   go_roundw
   case rel=>exact⟨1,by omega,by simp,by simp,trivial⟩
   case measure=>simp [intOf]
  ·go_wp2
   go_roundw
   case rel=>exact⟨2,by omega,by simp,by simp,trivial⟩
   case measure=>simp [intOf]
  ·obtain⟨wo,rfl⟩:∃ wo:World,wo=wr:=⟨_,rfl⟩
   go_wp2_with fail
   rw [show ((n:Int)+(m:Int))=((n+m:Nat):Int) from by omega]
   refine (BL (by omega) hn).mono ?_
   rintro r w1 ⟨g,cap,rfl,ob,hcap,hm,hg⟩
   have OB1:=lh (show rf wo xs ys n m 0 (.slice (some ⟨g,0,none⟩) 0 cap) w1 from⟨by rw [if_pos rfl];exact ob.own,hm,fun k hk=>by simp [Value.ownBlock] at hk;omega⟩)
   clear ob hm c0 c1
   go_wp2
   go_loopw [6,27] (fun v i wx=>∃ k:Nat,k≤2∧i = .int .i64 k∧Hid (rf wo xs ys n m k v wx)) (fun _ i _=>2 - (intOf i).toNat)
   case atStart=>exact⟨0,by omega,rfl,OB1⟩
   case round =>
    obtain⟨k,hk,rfl,hR⟩:=hrel
    have MX:=lh hR.out.2.1
    have c0:wr.cell? ⟨vg,0,none⟩=some (.slice (some ⟨pg,po,none⟩) n pc):=ai (MX.out.heap HR.out (fun x=>x)) 0
    have c1:wr.cell? ⟨vg,1,none⟩=some (.slice (some ⟨qg,qo,none⟩) m qc):=ai (MX.out.heap HR.out (fun x=>x)) 1
    rcases (by omega:k=0∨k=1∨k=2) with rfl | rfl | rfl
    ·have o:=hR.out.1
     rw [if_pos rfl] at o
     have AP:=lh (apE o (HP.out.keep MX.out (fun x=>x)) H1.out (by omega))
     obtain⟨av,cv,hav,_⟩:=(aU.rd o).form
     subst hav
     clear o
     go_wp2_with (at_builtin;refine stop ?_)
     unfold Stop
     refine AP.out _ _ _ _ _ _ _ rfl rfl rfl rfl ?_
     intro v' w' o1 m1 f1
     rw [Nat.zero_add,List.nil_append] at o1
     obtain⟨a1,c1',rfl,_⟩:=(aU.rd o1).form
     have R2:=lh (show rf wo xs ys n m 1 (.slice a1 n c1') w' from⟨by rw [if_neg (by omega),if_pos rfl];exact o1,MX.out.trans m1 (U:=aj) (fun _ _ x=>x) (fun b hb e=>by have:=hR.out.2.2 b e;omega),f1.elim (fun h=>by intro b hb;exact hR.out.2.2 b (h▸hb)) (fun h=>h.of MX.out.size)⟩)
     clear o1 m1 f1 c0 c1
     go_wp2
     go_roundw
     case rel=>exact⟨1,by omega,by simp,R2⟩
     case measure=>simp [intOf]
    ·have o:=hR.out.1
     rw [if_neg (by omega),if_pos rfl] at o
     have AP:=lh (apE o (HQ.out.keep MX.out (fun x=>x)) H2.out (by omega))
     obtain⟨av,cv,hav,_⟩:=(aU.rd o).form
     subst hav
     clear o
     go_wp2_with (at_builtin;refine stop ?_)
     unfold Stop
     refine AP.out _ _ _ _ _ _ _ rfl rfl rfl rfl ?_
     intro v' w' o1 m1 f1
     obtain⟨a1,c1',rfl,_⟩:=(aU.rd o1).form
     have R2:=lh (show rf wo xs ys n m 2 (.slice a1 (n+m) c1') w' from⟨by rw [if_neg (by omega),if_neg (by omega)];exact o1,MX.out.trans m1 (U:=aj) (fun _ _ x=>x) (fun b hb e=>by have:=hR.out.2.2 b e;omega),f1.elim (fun h=>by intro b hb;exact hR.out.2.2 b (h▸hb)) (fun h=>h.of MX.out.size)⟩)
     clear o1 m1 f1 c0 c1
     go_wp2
     go_roundw
     case rel=>exact⟨2,by omega,by simp,R2⟩
     case measure=>simp [intOf]
    ·have o:=hR.out.1
     rw [if_neg (by omega),if_neg (by omega)] at o
     obtain⟨av,cv,hav,_⟩:=(aU.rd o).form
     subst hav
     have R2:=lh (And.intro o hR.out.2)
     clear o c0 c1
     go_wp2
     go_ret
     exact⟨_,rfl,R2.out.1,R2.out.2.1,R2.out.2.2⟩
open Go.Gl Go.RowKit
theorem EK:(Try.prog.info? 153).map (fun i=>(i.zero,i.size,i.bytes))=some (some (.slice none 0 0),1,24):=by kernel_rfl
theorem Dw {w w2:World}{g off n c i:Nat}{xs zs:List Value} (h:OB w 153 1 g off n c xs) (hi:i<n) (hz:zs.length=1) (w1:World) (h1:w1=w.setCells g (off+i*1) (xs.drop ((i+1)*1))) (hw2:w2=w1.setCells g (off+(n - 1)*1) zs) :
  OB w1 153 1 g off (n - 1) c (xs.take (i*1) ++ xs.drop ((i+1)*1))∧OB w2 153 1 g off (n - 1) c (xs.take (i*1) ++ xs.drop ((i+1)*1)):=by
 have hl:=h.hl
 have hn:=h.hn
 have ht:(xs.take (i*1)).length=i*1:=by rw [List.length_take];omega
 have hd:(xs.drop ((i+1)*1)).length=(n - 1 - i)*1:=by rw [List.length_drop];omega
 have hlen:(xs.take (i*1) ++ xs.drop ((i+1)*1)).length=(n - 1)*1:=by rw [List.length_append,ht,hd];omega
 have k1:OB w1 153 1 g off (n - 1) c (xs.take (i*1) ++ xs.drop ((i+1)*1)):=by
  rw [h1]
  refine h.set (i*1) _ (by omega) (n - 1) _ (by omega) hlen (fun j u hj=>?_)
  by_cases c1:j<i*1
  ·rw [if_neg (by omega)]
   rw [List.getElem?_append_left (by omega),List.getElem?_take_of_lt c1] at hj
   exact hj
  ·have:=(List.getElem?_eq_some_iff.1 hj).1
   rw [hlen] at this
   rw [List.getElem?_append_right (by omega),ht] at hj
   rw [if_pos (by omega)]
   exact hj
 refine⟨k1,?_⟩
 rw [hw2]
 refine k1.set ((n - 1)*1) zs (by omega) (n - 1) _ (by omega) hlen (fun j u hj=>?_)
 have:=(List.getElem?_eq_some_iff.1 hj).1
 rw [hlen] at this
 rw [if_neg (by omega)]
 exact hj
theorem rq {a:Option Addr}{n m c:Nat} (h:n=m):Ending.returned (.slice a n c) = .returned (.slice a m c):=by rw [h]
theorem uX {w:World}{g off n c i:Nat}{xs:List Value} (hv:OB w 153 1 g off n c xs) (h0:∀ y∈xs,y.oneCell'=true) (hi:i<n) (hn:n≤1000000) :
  Calls Try.prog 122 #[.slice (some ⟨g,off,none⟩) n c,.int .i64 i,.int .i64 ((i:Int)+1)] w fun r w'=>r = .returned (.slice (some ⟨g,off,none⟩) (n - 1:Nat) c)∧OB w' 153 1 g off (n - 1) c (xs.take (i*1) ++ xs.drop ((i+1)*1))∧ae (fun k=>k=g) w w':=by
 obtain⟨inf,hinf,hz0,hsz,hby⟩:=info_parts EK
 have hnc:=hv.hn
 have hc63:c≤9223372036854775807:=by simpa [maxLen] using hv.hc
 obtain⟨zs,hzs⟩:∃ zs,(Builtin.zeroCells (Value.cells (.slice none 0 0)) 1).toList=zs:=⟨_,rfl⟩
 have hzl:zs.length=1:=by rw [← hzs,Array.length_toList,size_zeroCells];rfl
 have hz1:∀ v∈zs,v.oneCell'=true:=by rw [← hzs];intro v hv;simp [Builtin.zeroCells,Value.cells] at hv;first | (rcases hv with rfl | rfl <;> rfl) | (rw [hv];rfl) | (obtain⟨a,_,rfl⟩:=hv;rcases (by omega:a=0∨a=1) with rfl | rfl <;> rfl) | (obtain⟨a,_,rfl⟩:=hv;rfl)
 obtain⟨w3,hw3⟩:∃ w3,(w.drewN 1).setCells g (off+i*1) (xs.drop ((i+1)*1))=w3:=⟨_,rfl⟩
 obtain⟨w4,hw4⟩:∃ w4,w3.setCells g (off+(n - 1)*1) zs=w4:=⟨_,rfl⟩
 have hvd:=hv.keep ((ae.refl aj w).drewN 1) (fun x=>x)
 obtain⟨ob3,ob4⟩:=Dw hvd hi hzl w3 hw3.symm hw4.symm
 have AP:=lh (fun (ty:TypeId) (o3 ln c3:Nat) (ho:o3=off+(i+1)*1∨n=i+1) (hln:ln=n - (i+1))=>show (Builtin.append_ #[116,116] ty #[.slice (some ⟨g,off,none⟩) i c,.slice (some ⟨g,o3,none⟩) ln c3]).run Try.prog (w.drewN 1) = .ok (.slice (some ⟨g,off,none⟩) (i+(n - (i+1))) c) w3 from by
  subst hln
  have hdl:(xs.drop ((i+1)*1)).length=(n - (i+1))*1:=by rw [List.length_drop,hv.hl];omega
  have hsrc:Src Try.prog inf.size 116 (.slice (some ⟨g,o3,none⟩) (n - (i+1)) c3) (n - (i+1)) (xs.drop ((i+1)*1)) (w.drewN 1):=by
   rw [hsz]
   refine Src.ofSlice (w.drewN 1) Try.underlying116 ⟨g,o3,none⟩ (n - (i+1)) c3 _ hdl (fun j u hj=>?_) (fun v hv=>h0 v (List.mem_of_mem_drop hv))
   have hjl:=(List.getElem?_eq_some_iff.1 hj).1
   rw [hdl] at hjl
   rcases ho with rfl | ho
   ·rw [Addr.add_lit,show off+(i+1)*1+j=off+((i+1)*1+j) from by omega]
    rw [List.getElem?_drop] at hj
    exact hvd.cell hj
   ·omega
  have:=run_append_room_src (P:=Try.prog) (w:=w.drewN 1) 116 116 ty 153 inf Try.underlying116 hinf g off i c _ _ _ hsrc (by omega) (fun j hj=>by rw [hsz,show off+i*1+j=off+(i*1+j) from by omega];exact hvd.there (by omega)) (fun j hj=>hvd.free _)
  rw [this,hsz,hw3])
 have CL:=lh (fun (ty:TypeId) (o3 ln c3:Nat) (ho:o3=off+(n - 1)*1) (hln:ln=1)=>show (Builtin.clear_ #[116] ty #[.slice (some ⟨g,o3,none⟩) ln c3]).run Try.prog w3 = .ok (.tuple #[]) w4 from by
  subst ho hln
  rw [← hw4]
  exact nT (P:=Try.prog) w3 116 153 ty (.slice none 0 0) Try.underlying116 (fun w=>Try.zeroValue153 w) g (off+(n - 1)*1) 1 c3 (by omega) zs hzs hz1 (fun j hj=>by rw [show off+(n - 1)*1+j=off+((n - 1)*1+j) from by omega];exact ob3.there (by omega)) (fun j hj=>ob3.free _))
 have M:=lh (show ae (fun k=>k=g) w w4 from (((ae.refl (fun k=>k=g) w).drewN 1).trans (hw3▸dO (w.drewN 1) g (off+i*1) (xs.drop ((i+1)*1))) (fun _ _ x=>x) (fun _ _ x=>x)).trans (hw4▸dO w3 g (off+(n - 1)*1) zs) (fun _ _ x=>x) (fun _ _ x=>x))
 have OB4:=lh ob4
 clear hv h0 hinf hz0 hsz hby hzs hzl hz1 hw3 hw4 hvd ob3 ob4
 have hne:((i:Int) == (i:Int)+1)=false:=by simp;omega
 have w1:IntKind.i64.wrap ((i:Int)+1)=(i:Int)+1:=IntWalk.i64_in _ (by omega)
 have b1:(0:Int)≤(i:Int)+1:=by omega
 have b3:((i:Int)+1).toNat=i+1:=by omega
 have b5:(0:Int)≤(i:Int):=by omega
 have b7:i≤n:=by omega
 have b13:i+1≤n:=by omega
 have b14:(i:Int)+1≤(n:Int):=by omega
 have b16:(i:Int)≤(n:Int):=by omega
 have b17:i≤c:=by omega
 have b18:(i:Int)≤(c:Int):=by omega
 by_cases hci:c=i+1
 ·obtain rfl:n=i+1:=by omega
  subst hci
  have b19:(i:Int)≤(i:Int)+1:=by omega
  go_enter Try.func122,Try.ntmps122
  go_wp2
  go_still_tail 6,(by kernel_rfl)
  change wpList _ _ _ _ _ (w.drewN 1)
  clear w1 b1 b3 b5 b7 b13 b14 b16 b17 b18 b19
  refine Lib.wpList_append_run _ rfl _ _ _ _ rfl _ _ rfl rfl _ _ (AP.out _ _ _ _ (by first | omega | simp) (by first | omega | simp)) ?_
  go_wp2_with fail
  rw [CL.out _ _ _ _ (by first | omega | simp) (by first | omega | simp)]
  simp only [Result.andThen]
  rw [Oper.upon_value]
  go_wp2
  go_ret
  exact⟨rq (by omega),OB4.out,M.out⟩
 ·have b8:¬ (i+1=c):=by omega
  go_enter Try.func122,Try.ntmps122
  go_wp2
  go_still_tail 6,(by kernel_rfl)
  change wpList _ _ _ _ _ (w.drewN 1)
  clear w1 b1 b3 b5 b7 b13 b14 b16 b17 b18 b8 hci
  refine Lib.wpList_append_run _ rfl _ _ _ _ rfl _ _ rfl rfl _ _ (AP.out _ _ _ _ (by omega) (by omega)) ?_
  go_wp2_with fail
  rw [CL.out _ _ _ _ (by first | omega | simp) (by first | omega | simp)]
  simp only [Result.andThen]
  rw [Oper.upon_value]
  go_wp2
  go_ret
  exact⟨rq (by omega),OB4.out,M.out⟩
open Go.Gl Go.RowKit
theorem EG:(Try.prog.info? 131).map (fun i=>(i.zero,i.size,i.bytes))=some (some (.agg #[.slice none 0 0,.slice none 0 0]),2,48):=by kernel_rfl
theorem Dn {w w2:World}{g off n c i:Nat}{xs zs:List Value} (h:OB w 131 2 g off n c xs) (hi:i<n) (hz:zs.length=2) (w1:World) (h1:w1=w.setCells g (off+i*2) (xs.drop ((i+1)*2))) (hw2:w2=w1.setCells g (off+(n - 1)*2) zs) :
  OB w1 131 2 g off (n - 1) c (xs.take (i*2) ++ xs.drop ((i+1)*2))∧OB w2 131 2 g off (n - 1) c (xs.take (i*2) ++ xs.drop ((i+1)*2)):=by
 have hl:=h.hl
 have hn:=h.hn
 have ht:(xs.take (i*2)).length=i*2:=by rw [List.length_take];omega
 have hd:(xs.drop ((i+1)*2)).length=(n - 1 - i)*2:=by rw [List.length_drop];omega
 have hlen:(xs.take (i*2) ++ xs.drop ((i+1)*2)).length=(n - 1)*2:=by rw [List.length_append,ht,hd];omega
 have k1:OB w1 131 2 g off (n - 1) c (xs.take (i*2) ++ xs.drop ((i+1)*2)):=by
  rw [h1]
  refine h.set (i*2) _ (by omega) (n - 1) _ (by omega) hlen (fun j u hj=>?_)
  by_cases c1:j<i*2
  ·rw [if_neg (by omega)]
   rw [List.getElem?_append_left (by omega),List.getElem?_take_of_lt c1] at hj
   exact hj
  ·have:=(List.getElem?_eq_some_iff.1 hj).1
   rw [hlen] at this
   rw [List.getElem?_append_right (by omega),ht] at hj
   rw [if_pos (by omega)]
   exact hj
 refine⟨k1,?_⟩
 rw [hw2]
 refine k1.set ((n - 1)*2) zs (by omega) (n - 1) _ (by omega) hlen (fun j u hj=>?_)
 have:=(List.getElem?_eq_some_iff.1 hj).1
 rw [hlen] at this
 rw [if_neg (by omega)]
 exact hj
theorem rZ {a:Option Addr}{n m c:Nat} (h:n=m):Ending.returned (.slice a n c) = .returned (.slice a m c):=by rw [h]
theorem Bd {w:World}{g off n c i:Nat}{xs:List Value} (hv:OB w 131 2 g off n c xs) (h0:∀ y∈xs,y.oneCell'=true) (hi:i<n) (hn:n≤1000000) :
  Calls Try.prog 121 #[.slice (some ⟨g,off,none⟩) n c,.int .i64 i,.int .i64 ((i:Int)+1)] w fun r w'=>r = .returned (.slice (some ⟨g,off,none⟩) (n - 1:Nat) c)∧OB w' 131 2 g off (n - 1) c (xs.take (i*2) ++ xs.drop ((i+1)*2))∧ae (fun k=>k=g) w w':=by
 obtain⟨inf,hinf,hz0,hsz,hby⟩:=info_parts EG
 have hnc:=hv.hn
 have hc63:c≤9223372036854775807:=by simpa [maxLen] using hv.hc
 obtain⟨zs,hzs⟩:∃ zs,(Builtin.zeroCells (Value.cells (.agg #[.slice none 0 0,.slice none 0 0])) 1).toList=zs:=⟨_,rfl⟩
 have hzl:zs.length=2:=by rw [← hzs,Array.length_toList,size_zeroCells];rfl
 have hz1:∀ v∈zs,v.oneCell'=true:=by rw [← hzs];intro v hv;simp [Builtin.zeroCells,Value.cells] at hv;first | (rcases hv with rfl | rfl <;> rfl) | (rw [hv];rfl) | (obtain⟨a,_,rfl⟩:=hv;rcases (by omega:a=0∨a=1) with rfl | rfl <;> rfl) | (obtain⟨a,_,rfl⟩:=hv;rfl)
 obtain⟨w3,hw3⟩:∃ w3,(w.drewN 1).setCells g (off+i*2) (xs.drop ((i+1)*2))=w3:=⟨_,rfl⟩
 obtain⟨w4,hw4⟩:∃ w4,w3.setCells g (off+(n - 1)*2) zs=w4:=⟨_,rfl⟩
 have hvd:=hv.keep ((ae.refl aj w).drewN 1) (fun x=>x)
 obtain⟨ob3,ob4⟩:=Dn hvd hi hzl w3 hw3.symm hw4.symm
 have AP:=lh (fun (ty:TypeId) (o3 ln c3:Nat) (ho:o3=off+(i+1)*2∨n=i+1) (hln:ln=n - (i+1))=>show (Builtin.append_ #[153,153] ty #[.slice (some ⟨g,off,none⟩) i c,.slice (some ⟨g,o3,none⟩) ln c3]).run Try.prog (w.drewN 1) = .ok (.slice (some ⟨g,off,none⟩) (i+(n - (i+1))) c) w3 from by
  subst hln
  have hdl:(xs.drop ((i+1)*2)).length=(n - (i+1))*2:=by rw [List.length_drop,hv.hl];omega
  have hsrc:Src Try.prog inf.size 153 (.slice (some ⟨g,o3,none⟩) (n - (i+1)) c3) (n - (i+1)) (xs.drop ((i+1)*2)) (w.drewN 1):=by
   rw [hsz]
   refine Src.ofSlice (w.drewN 1) Try.underlying153 ⟨g,o3,none⟩ (n - (i+1)) c3 _ hdl (fun j u hj=>?_) (fun v hv=>h0 v (List.mem_of_mem_drop hv))
   have hjl:=(List.getElem?_eq_some_iff.1 hj).1
   rw [hdl] at hjl
   rcases ho with rfl | ho
   ·rw [Addr.add_lit,show off+(i+1)*2+j=off+((i+1)*2+j) from by omega]
    rw [List.getElem?_drop] at hj
    exact hvd.cell hj
   ·omega
  have:=run_append_room_src (P:=Try.prog) (w:=w.drewN 1) 153 153 ty 131 inf Try.underlying153 hinf g off i c _ _ _ hsrc (by omega) (fun j hj=>by rw [hsz,show off+i*2+j=off+(i*2+j) from by omega];exact hvd.there (by omega)) (fun j hj=>hvd.free _)
  rw [this,hsz,hw3])
 have CL:=lh (fun (ty:TypeId) (o3 ln c3:Nat) (ho:o3=off+(n - 1)*2) (hln:ln=1)=>show (Builtin.clear_ #[153] ty #[.slice (some ⟨g,o3,none⟩) ln c3]).run Try.prog w3 = .ok (.tuple #[]) w4 from by
  subst ho hln
  rw [← hw4]
  exact nT (P:=Try.prog) w3 153 131 ty (.agg #[.slice none 0 0,.slice none 0 0]) Try.underlying153 (fun w=>Try.zeroValue131 w) g (off+(n - 1)*2) 1 c3 (by omega) zs hzs hz1 (fun j hj=>by rw [show off+(n - 1)*2+j=off+((n - 1)*2+j) from by omega];exact ob3.there (by omega)) (fun j hj=>ob3.free _))
 have M:=lh (show ae (fun k=>k=g) w w4 from (((ae.refl (fun k=>k=g) w).drewN 1).trans (hw3▸dO (w.drewN 1) g (off+i*2) (xs.drop ((i+1)*2))) (fun _ _ x=>x) (fun _ _ x=>x)).trans (hw4▸dO w3 g (off+(n - 1)*2) zs) (fun _ _ x=>x) (fun _ _ x=>x))
 have OB4:=lh ob4
 clear hv h0 hinf hz0 hsz hby hzs hzl hz1 hw3 hw4 hvd ob3 ob4
 have hne:((i:Int) == (i:Int)+1)=false:=by simp;omega
 have w1:IntKind.i64.wrap ((i:Int)+1)=(i:Int)+1:=IntWalk.i64_in _ (by omega)
 have b1:(0:Int)≤(i:Int)+1:=by omega
 have b3:((i:Int)+1).toNat=i+1:=by omega
 have b5:(0:Int)≤(i:Int):=by omega
 have b7:i≤n:=by omega
 have b13:i+1≤n:=by omega
 have b14:(i:Int)+1≤(n:Int):=by omega
 have b16:(i:Int)≤(n:Int):=by omega
 have b17:i≤c:=by omega
 have b18:(i:Int)≤(c:Int):=by omega
 by_cases hci:c=i+1
 ·obtain rfl:n=i+1:=by omega
  subst hci
  have b19:(i:Int)≤(i:Int)+1:=by omega
  go_enter Try.func121,Try.ntmps121
  go_wp2
  go_still_tail 6,(by kernel_rfl)
  change wpList _ _ _ _ _ (w.drewN 1)
  clear w1 b1 b3 b5 b7 b13 b14 b16 b17 b18 b19
  refine Lib.wpList_append_run _ rfl _ _ _ _ rfl _ _ rfl rfl _ _ (AP.out _ _ _ _ (by first | omega | simp) (by first | omega | simp)) ?_
  go_wp2_with fail
  rw [CL.out _ _ _ _ (by first | omega | simp) (by first | omega | simp)]
  simp only [Result.andThen]
  rw [Oper.upon_value]
  go_wp2
  go_ret
  exact⟨rZ (by omega),OB4.out,M.out⟩
 ·have b8:¬ (i+1=c):=by omega
  go_enter Try.func121,Try.ntmps121
  go_wp2
  go_still_tail 6,(by kernel_rfl)
  change wpList _ _ _ _ _ (w.drewN 1)
  clear w1 b1 b3 b5 b7 b13 b14 b16 b17 b18 b8 hci
  refine Lib.wpList_append_run _ rfl _ _ _ _ rfl _ _ rfl rfl _ _ (AP.out _ _ _ _ (by omega) (by omega)) ?_
  go_wp2_with fail
  rw [CL.out _ _ _ _ (by first | omega | simp) (by first | omega | simp)]
  simp only [Result.andThen]
  rw [Oper.upon_value]
  go_wp2
  go_ret
  exact⟨rZ (by omega),OB4.out,M.out⟩
open Go.Gl Go.RowKit
section
variable {x0 x1 x2 x3 x4 x5 x6 x7 x8 x9 aS bn bi bg aO aP aV aT aW aX aY aQ bu bz bD bK bI bJ bH bT bU cO cZ dh di bY bZ dQ dJ dK dL dD dE dF dG dH dI dC dU dV dZ ed dW dX eu eF eG eU eH eP eQ dY gY gZ iL iM iO iP iF jq jr jw jy:Value}{df:List Deferred}{Q:Exit→Act→World→Prop}
theorem Ee {w:World}{g:Nat}{p:Int} (hp:p<0)
  (hK:∀ (y5 y6 y7 y8 y9 iW jP y12 jQ iY jA jB iZ ja jC kH kJ jc jd jR je jS y27 kK kL y30 y31 y32 y33 y34 y35 y36:Value)  (w':World),ae aj w w'→Q .normal ⟨#[.pointer (some ⟨g,0,none⟩),.int .i64 (p),x2,x3,x4,y5,y6,y7,y8,y9,iW,jP,y12,jQ,iY,jA,jB,iZ,ja,jC,kH,kJ,jc,jd,jR,je,jS,y27,kK,kL,y30,y31,y32,y33,y34,y35,y36,.bool true,dJ,dK,dL,dD,dE,dF,dG,dH,dI,dC,dU,dV,dZ,ed,dW,dX,eu,eF,eG,eU,eH,eP,eQ,dY,gY,gZ,iL,iM,iO,iP,iF,jq,jr,jw,jy],df⟩ w'):RW Try.prog (aJ 1 Try.f123) true Q ⟨#[.pointer (some ⟨g,0,none⟩),.int .i64 (p),x2,x3,x4,x5,x6,x7,x8,x9,aS,bn,bi,bg,aO,aP,aV,aT,aW,aX,aY,aQ,bu,bz,bD,bK,bI,bJ,bH,bT,bU,cO,cZ,dh,di,bY,bZ,dQ,dJ,dK,dL,dD,dE,dF,dG,dH,dI,dC,dU,dV,dZ,ed,dW,dX,eu,eF,eG,eU,eH,eP,eQ,dY,gY,gZ,iL,iM,iO,iP,iF,jq,jr,jw,jy],df⟩ w:=by
 have HQ:=lh hK
 clear hK
 have MR:=lh ((ae.refl aj w).drew)
 refine iJ (S:=fun b'=>ae aj w b') [(0,true),(1,true),(2,true),(3,true),(4,true),(5,true),(6,true),(7,true),(8,true),(9,true),(10,true),(11,true),(12,true),(13,true),(14,true),(15,true),(16,true),(17,true),(18,true),(19,true),(20,true),(21,true),(22,true),(23,true),(24,true),(25,true),(26,true),(27,true),(28,true),(29,true),(30,true),(31,true),(32,true)] [] [(0,2,32),(1,32,64),(2,64,128),(4,130,256),(12,384,512),(4,129,1024),(36,1152,2048),(68,2176,4096),(132,4224,8192),(260,8320,16384),(532,17024,32768),(1028,32896,65536),(2052,65536,131072),(4096,131073,262144),(12288,393216,524288),(20480,655360,1048576),(36864,1179648,2097152),(4096,131074,4194304),(200704,6422528,8388608),(266240,8519680,16777216),(528384,16908288,33554432),(4096,131073,67108864),(2101248,67239936,134217728),(4198400,134348800,268435456),(8392704,268566528,536870912),(4096,131074,1073741824),(33558528,1073872896,2147483648),(83890176,2684485632,4294967296),(134221824,4295098368,8589934592),(268439552,8590065664,17179869184),(537923584,17213554688,34359738368),(1073745920,34359869440,68719476736),(2147487744,68719607808,137438953472)] (by kernel_rfl) (by kernel_rfl) (by kernel_rfl) (by kernel_rfl) (by kernel_rfl) MR.out ?_
 refine ah [0] [.int .i64 (p)] rfl (by kernel_rfl) (fun _=>by kernel_rfl) ?_
 refine af (.bool true) (some 6) (ki (by kernel_rfl)) (fun bb hb=>bM (t:=3) (t':=3) (xv := .int .i64 (p)) (yv := .int .i64 0) (x:=(.tmp 5)) (y:=(.const (.int .i64 0))) (by kernel_rfl) (by kernel_rfl) (by kernel_rfl) (fun _=>by kernel_rfl) (iH _ (decide_eq_true (by omega)))) ?_
 refine ah [2,3,4,5,6,7,8,9,10,11,12,13,14,15,16,17,18,19,20,21,22,23,24,25,26,27,28,29,30,31,32] [.bool true,undef,undef,undef,undef,undef,undef,undef,undef,.bool true,.bool true,undef,undef,undef,undef,undef,undef,undef,undef,undef,undef,undef,undef,undef,undef,undef,undef,undef,undef,undef,.bool true] rfl (by kernel_rfl) (fun _=>by kernel_rfl) ?_
 exact aA (aZ (K:=Q .normal) (by kernel_rfl) (HQ.out (.int .i64 (p)) (.bool true) (.bool true) (undef) (undef) (undef) (undef) (undef) (undef) (undef) (undef) (.bool true) (.bool true) (undef) (undef) (undef) (undef) (undef) (undef) (undef) (undef) (undef) (undef) (undef) (undef) (undef) (undef) (undef) (undef) (undef) (undef) (undef) _ MR.out))
theorem Ei {w:World}{g b off n cap p:Nat}{vn:Value} (hg:w.heap[g]?=some (.cells #[.slice (some ⟨b,off,none⟩) n cap,vn] 118 (0,0))) (hp:n≤p+1) (hb:p≤1000000000)
  (hK:∀ (y5 y6 y7 y8 y9 iW jP y12 jQ iY jA jB iZ ja jC kH kJ jc jd jR je jS y27 kK kL y30 y31 y32 y33 y34 y35 y36:Value)  (w':World),ae aj w w'→Q .normal ⟨#[.pointer (some ⟨g,0,none⟩),.int .i64 ((p:Nat):Int),x2,x3,x4,y5,y6,y7,y8,y9,iW,jP,y12,jQ,iY,jA,jB,iZ,ja,jC,kH,kJ,jc,jd,jR,je,jS,y27,kK,kL,y30,y31,y32,y33,y34,y35,y36,.bool true,dJ,dK,dL,dD,dE,dF,dG,dH,dI,dC,dU,dV,dZ,ed,dW,dX,eu,eF,eG,eU,eH,eP,eQ,dY,gY,gZ,iL,iM,iO,iP,iF,jq,jr,jw,jy],df⟩ w'):RW Try.prog (aJ 1 Try.f123) true Q ⟨#[.pointer (some ⟨g,0,none⟩),.int .i64 ((p:Nat):Int),x2,x3,x4,x5,x6,x7,x8,x9,aS,bn,bi,bg,aO,aP,aV,aT,aW,aX,aY,aQ,bu,bz,bD,bK,bI,bJ,bH,bT,bU,cO,cZ,dh,di,bY,bZ,dQ,dJ,dK,dL,dD,dE,dF,dG,dH,dI,dC,dU,dV,dZ,ed,dW,dX,eu,eF,eG,eU,eH,eP,eQ,dY,gY,gZ,iL,iM,iO,iP,iF,jq,jr,jw,jy],df⟩ w:=by
 have HQ:=lh hK
 clear hK
 have Q2:=lh (fun b' (hm:ae aj w b')=>show b'.cell? ⟨g,0,none⟩=some (.slice (some ⟨b,off,none⟩) n cap) from ai (hm.heap hg (fun x=>x)) 0)
 clear hg
 have MR:=lh ((ae.refl aj w).drew)
 refine iJ (S:=fun b'=>ae aj w b') [(0,true),(1,true),(2,true),(3,true),(4,true),(5,true),(6,true),(7,true),(8,true),(9,true),(10,true),(11,true),(12,true),(13,true),(14,true),(15,true),(16,true),(17,true),(18,true),(19,true),(20,true),(21,true),(22,true),(23,true),(24,true),(25,true),(26,true),(27,true),(28,true),(29,true),(30,true),(31,true),(32,true)] [] [(0,2,32),(1,32,64),(2,64,128),(4,130,256),(12,384,512),(4,129,1024),(36,1152,2048),(68,2176,4096),(132,4224,8192),(260,8320,16384),(532,17024,32768),(1028,32896,65536),(2052,65536,131072),(4096,131073,262144),(12288,393216,524288),(20480,655360,1048576),(36864,1179648,2097152),(4096,131074,4194304),(200704,6422528,8388608),(266240,8519680,16777216),(528384,16908288,33554432),(4096,131073,67108864),(2101248,67239936,134217728),(4198400,134348800,268435456),(8392704,268566528,536870912),(4096,131074,1073741824),(33558528,1073872896,2147483648),(83890176,2684485632,4294967296),(134221824,4295098368,8589934592),(268439552,8590065664,17179869184),(537923584,17213554688,34359738368),(1073745920,34359869440,68719476736),(2147487744,68719607808,137438953472)] (by kernel_rfl) (by kernel_rfl) (by kernel_rfl) (by kernel_rfl) (by kernel_rfl) MR.out ?_
 refine ah [0] [.int .i64 ((p:Nat):Int)] rfl (by kernel_rfl) (fun _=>by kernel_rfl) ?_
 refine af (.bool false) (some 6) (ki (by kernel_rfl)) (fun bb hb=>bM (t:=3) (t':=3) (xv := .int .i64 ((p:Nat):Int)) (yv := .int .i64 0) (x:=(.tmp 5)) (y:=(.const (.int .i64 0))) (by kernel_rfl) (by kernel_rfl) (by kernel_rfl) (fun _=>by kernel_rfl) (iH _ (decide_eq_false (by omega)))) ?_
 refine ah [2,3] [.bool false,.int .i64 ((p:Nat):Int)] rfl (by kernel_rfl) (fun _=>by kernel_rfl) ?_
 refine af (.int .i64 (((p+1):Nat):Int)) (some 9) (ki (by kernel_rfl)) (fun bb hb=>bM (t:=3) (t':=3) (xv := .int .i64 ((p:Nat):Int)) (yv := .int .i64 1) (x:=(.tmp 8)) (y:=(.const (.int .i64 1))) (by kernel_rfl) (by kernel_rfl) (by kernel_rfl) (fun _=>by kernel_rfl) (fP _ (by omega) (by omega) (by omega))) ?_
 refine ah [5,6,7] [ag g 0,ag g 0,ag g 0] rfl (by kernel_rfl) (fun _=>by kernel_rfl) ?_
 refine af (.slice (some ⟨b,off,none⟩) n cap) (some 13) (ki (by kernel_rfl)) (fun bb hb=>aC (x:=(.tmp 12)) (by kernel_rfl) (by kernel_rfl) (aH (Q2.out _ hb) Try.underlying116 rfl)) ?_
 refine ah [9] [.int .i64 ((n:Nat):Int)] rfl (by kernel_rfl) (fun _=>by kernel_rfl) ?_
 refine af (.bool true) (some 15) (ki (by kernel_rfl)) (fun bb hb=>bM (t:=3) (t':=3) (xv := .int .i64 (((p+1):Nat):Int)) (yv := .int .i64 ((n:Nat):Int)) (x:=(.tmp 9)) (y:=(.tmp 14)) (by kernel_rfl) (by kernel_rfl) (by kernel_rfl) (fun _=>by kernel_rfl) (lC _ (decide_eq_true (by omega)))) ?_
 refine ah [11,12,13,14,15,16,17,18,19,20,21,22,23,24,25,26,27,28,29,30,31,32] [.bool true,.bool true,undef,undef,undef,undef,undef,undef,undef,undef,undef,undef,undef,undef,undef,undef,undef,undef,undef,undef,undef,.bool true] rfl (by kernel_rfl) (fun _=>by kernel_rfl) ?_
 exact aA (aZ (K:=Q .normal) (by kernel_rfl) (HQ.out (.int .i64 ((p:Nat):Int)) (.bool false) (.bool false) (.int .i64 ((p:Nat):Int)) (.int .i64 (((p+1):Nat):Int)) (ag g 0) (ag g 0) (ag g 0) (.slice (some ⟨b,off,none⟩) n cap) (.int .i64 ((n:Nat):Int)) (.bool true) (.bool true) (.bool true) (undef) (undef) (undef) (undef) (undef) (undef) (undef) (undef) (undef) (undef) (undef) (undef) (undef) (undef) (undef) (undef) (undef) (undef) (undef) _ MR.out))
theorem Ez {w:World}{g p:Nat}{vn:Value} (hg:w.heap[g]?=some (.cells #[.slice none 0 0,vn] 118 (0,0))) (hb:p≤1000000000)
  (hK:∀ (y5 y6 y7 y8 y9 iW jP y12 jQ iY jA jB iZ ja jC kH kJ jc jd jR je jS y27 kK kL y30 y31 y32 y33 y34 y35 y36:Value)  (w':World),ae aj w w'→Q .normal ⟨#[.pointer (some ⟨g,0,none⟩),.int .i64 ((p:Nat):Int),x2,x3,x4,y5,y6,y7,y8,y9,iW,jP,y12,jQ,iY,jA,jB,iZ,ja,jC,kH,kJ,jc,jd,jR,je,jS,y27,kK,kL,y30,y31,y32,y33,y34,y35,y36,.bool true,dJ,dK,dL,dD,dE,dF,dG,dH,dI,dC,dU,dV,dZ,ed,dW,dX,eu,eF,eG,eU,eH,eP,eQ,dY,gY,gZ,iL,iM,iO,iP,iF,jq,jr,jw,jy],df⟩ w'):RW Try.prog (aJ 1 Try.f123) true Q ⟨#[.pointer (some ⟨g,0,none⟩),.int .i64 ((p:Nat):Int),x2,x3,x4,x5,x6,x7,x8,x9,aS,bn,bi,bg,aO,aP,aV,aT,aW,aX,aY,aQ,bu,bz,bD,bK,bI,bJ,bH,bT,bU,cO,cZ,dh,di,bY,bZ,dQ,dJ,dK,dL,dD,dE,dF,dG,dH,dI,dC,dU,dV,dZ,ed,dW,dX,eu,eF,eG,eU,eH,eP,eQ,dY,gY,gZ,iL,iM,iO,iP,iF,jq,jr,jw,jy],df⟩ w:=by
 have HQ:=lh hK
 clear hK
 have Q2:=lh (fun b' (hm:ae aj w b')=>show b'.cell? ⟨g,0,none⟩=some (.slice none 0 0) from ai (hm.heap hg (fun x=>x)) 0)
 clear hg
 have MR:=lh ((ae.refl aj w).drew)
 refine iJ (S:=fun b'=>ae aj w b') [(0,true),(1,true),(2,true),(3,true),(4,true),(5,true),(6,true),(7,true),(8,true),(9,true),(10,true),(11,true),(12,true),(13,true),(14,true),(15,true),(16,true),(17,true),(18,true),(19,true),(20,true),(21,true),(22,true),(23,true),(24,true),(25,true),(26,true),(27,true),(28,true),(29,true),(30,true),(31,true),(32,true)] [] [(0,2,32),(1,32,64),(2,64,128),(4,130,256),(12,384,512),(4,129,1024),(36,1152,2048),(68,2176,4096),(132,4224,8192),(260,8320,16384),(532,17024,32768),(1028,32896,65536),(2052,65536,131072),(4096,131073,262144),(12288,393216,524288),(20480,655360,1048576),(36864,1179648,2097152),(4096,131074,4194304),(200704,6422528,8388608),(266240,8519680,16777216),(528384,16908288,33554432),(4096,131073,67108864),(2101248,67239936,134217728),(4198400,134348800,268435456),(8392704,268566528,536870912),(4096,131074,1073741824),(33558528,1073872896,2147483648),(83890176,2684485632,4294967296),(134221824,4295098368,8589934592),(268439552,8590065664,17179869184),(537923584,17213554688,34359738368),(1073745920,34359869440,68719476736),(2147487744,68719607808,137438953472)] (by kernel_rfl) (by kernel_rfl) (by kernel_rfl) (by kernel_rfl) (by kernel_rfl) MR.out ?_
 refine ah [0] [.int .i64 ((p:Nat):Int)] rfl (by kernel_rfl) (fun _=>by kernel_rfl) ?_
 refine af (.bool false) (some 6) (ki (by kernel_rfl)) (fun bb hb=>bM (t:=3) (t':=3) (xv := .int .i64 ((p:Nat):Int)) (yv := .int .i64 0) (x:=(.tmp 5)) (y:=(.const (.int .i64 0))) (by kernel_rfl) (by kernel_rfl) (by kernel_rfl) (fun _=>by kernel_rfl) (iH _ (decide_eq_false (by omega)))) ?_
 refine ah [2,3] [.bool false,.int .i64 ((p:Nat):Int)] rfl (by kernel_rfl) (fun _=>by kernel_rfl) ?_
 refine af (.int .i64 (((p+1):Nat):Int)) (some 9) (ki (by kernel_rfl)) (fun bb hb=>bM (t:=3) (t':=3) (xv := .int .i64 ((p:Nat):Int)) (yv := .int .i64 1) (x:=(.tmp 8)) (y:=(.const (.int .i64 1))) (by kernel_rfl) (by kernel_rfl) (by kernel_rfl) (fun _=>by kernel_rfl) (fP _ (by omega) (by omega) (by omega))) ?_
 refine ah [5,6,7] [ag g 0,ag g 0,ag g 0] rfl (by kernel_rfl) (fun _=>by kernel_rfl) ?_
 refine af (.slice none 0 0) (some 13) (ki (by kernel_rfl)) (fun bb hb=>aC (x:=(.tmp 12)) (by kernel_rfl) (by kernel_rfl) (aH (Q2.out _ hb) Try.underlying116 rfl)) ?_
 refine ah [9] [.int .i64 0] rfl (by kernel_rfl) (fun _=>by kernel_rfl) ?_
 refine af (.bool true) (some 15) (ki (by kernel_rfl)) (fun bb hb=>bM (t:=3) (t':=3) (xv := .int .i64 (((p+1):Nat):Int)) (yv := .int .i64 0) (x:=(.tmp 9)) (y:=(.tmp 14)) (by kernel_rfl) (by kernel_rfl) (by kernel_rfl) (fun _=>by kernel_rfl) (lC _ (decide_eq_true (by omega)))) ?_
 refine ah [11,12,13,14,15,16,17,18,19,20,21,22,23,24,25,26,27,28,29,30,31,32] [.bool true,.bool true,undef,undef,undef,undef,undef,undef,undef,undef,undef,undef,undef,undef,undef,undef,undef,undef,undef,undef,undef,.bool true] rfl (by kernel_rfl) (fun _=>by kernel_rfl) ?_
 exact aA (aZ (K:=Q .normal) (by kernel_rfl) (HQ.out (.int .i64 ((p:Nat):Int)) (.bool false) (.bool false) (.int .i64 ((p:Nat):Int)) (.int .i64 (((p+1):Nat):Int)) (ag g 0) (ag g 0) (ag g 0) (.slice none 0 0) (.int .i64 0) (.bool true) (.bool true) (.bool true) (undef) (undef) (undef) (undef) (undef) (undef) (undef) (undef) (undef) (undef) (undef) (undef) (undef) (undef) (undef) (undef) (undef) (undef) (undef) _ MR.out))
theorem EJ {w:World}{g b off n cap p:Nat}{vn:Value}{pvs:List Value} (hg:w.heap[g]?=some (.cells #[.slice (some ⟨b,off,none⟩) n cap,vn] 118 (0,0))) (hr:OB w 153 1 b off n cap pvs) (hp:p+1<n) (hn:n≤1000000) {pb po m1 pc qb qo m2 qc:Nat} (h1:pvs[p]?=some (.slice (some ⟨pb,po,none⟩) m1 pc)) (h2:pvs[p+1]?=some (.slice (some ⟨qb,qo,none⟩) m2 qc)) (h3:m1≤100) (h4:m2≤100) (h5:¬ m1+m2≤16)
  (hK:∀ (y5 y6 y7 y8 y9 iW jP y12 jQ iY jA jB iZ ja jC kH kJ jc jd jR je jS y27 kK kL y30 y31 y32 y33 y34 y35 y36:Value)  (w':World),ae aj w w'→Q .normal ⟨#[.pointer (some ⟨g,0,none⟩),.int .i64 ((p:Nat):Int),x2,x3,x4,y5,y6,y7,y8,y9,iW,jP,y12,jQ,iY,jA,jB,iZ,ja,jC,kH,kJ,jc,jd,jR,je,jS,y27,kK,kL,y30,y31,y32,y33,y34,y35,y36,.bool true,dJ,dK,dL,dD,dE,dF,dG,dH,dI,dC,dU,dV,dZ,ed,dW,dX,eu,eF,eG,eU,eH,eP,eQ,dY,gY,gZ,iL,iM,iO,iP,iF,jq,jr,jw,jy],df⟩ w'):RW Try.prog (aJ 1 Try.f123) true Q ⟨#[.pointer (some ⟨g,0,none⟩),.int .i64 ((p:Nat):Int),x2,x3,x4,x5,x6,x7,x8,x9,aS,bn,bi,bg,aO,aP,aV,aT,aW,aX,aY,aQ,bu,bz,bD,bK,bI,bJ,bH,bT,bU,cO,cZ,dh,di,bY,bZ,dQ,dJ,dK,dL,dD,dE,dF,dG,dH,dI,dC,dU,dV,dZ,ed,dW,dX,eu,eF,eG,eU,eH,eP,eQ,dY,gY,gZ,iL,iM,iO,iP,iF,jq,jr,jw,jy],df⟩ w:=by
 have HQ:=lh hK
 clear hK
 have Q2:=lh (fun b' (hm:ae aj w b')=>show b'.cell? ⟨g,0,none⟩=some (.slice (some ⟨b,off,none⟩) n cap) from ai (hm.heap hg (fun x=>x)) 0)
 have Q3:=lh (fun b' (hm:ae aj w b')=>show b'.cell? ⟨b,off+p,none⟩=some (.slice (some ⟨pb,po,none⟩) m1 pc) from (hr.keep hm (fun x=>x)).cell h1)
 have Q4:=lh (fun b' (hm:ae aj w b')=>show b'.cell? ⟨b,off+(p+1),none⟩=some (.slice (some ⟨qb,qo,none⟩) m2 qc) from (hr.keep hm (fun x=>x)).cell h2)
 clear hg hr h1 h2
 have MR:=lh ((ae.refl aj w).drew)
 refine iJ (S:=fun b'=>ae aj w b') [(0,true),(1,true),(2,true),(3,true),(4,true),(5,true),(6,true),(7,true),(8,true),(9,true),(10,true),(11,true),(12,true),(13,true),(14,true),(15,true),(16,true),(17,true),(18,true),(19,true),(20,true),(21,true),(22,true),(23,true),(24,true),(25,true),(26,true),(27,true),(28,true),(29,true),(30,true),(31,true),(32,true)] [] [(0,2,32),(1,32,64),(2,64,128),(4,130,256),(12,384,512),(4,129,1024),(36,1152,2048),(68,2176,4096),(132,4224,8192),(260,8320,16384),(532,17024,32768),(1028,32896,65536),(2052,65536,131072),(4096,131073,262144),(12288,393216,524288),(20480,655360,1048576),(36864,1179648,2097152),(4096,131074,4194304),(200704,6422528,8388608),(266240,8519680,16777216),(528384,16908288,33554432),(4096,131073,67108864),(2101248,67239936,134217728),(4198400,134348800,268435456),(8392704,268566528,536870912),(4096,131074,1073741824),(33558528,1073872896,2147483648),(83890176,2684485632,4294967296),(134221824,4295098368,8589934592),(268439552,8590065664,17179869184),(537923584,17213554688,34359738368),(1073745920,34359869440,68719476736),(2147487744,68719607808,137438953472)] (by kernel_rfl) (by kernel_rfl) (by kernel_rfl) (by kernel_rfl) (by kernel_rfl) MR.out ?_
 refine ah [0] [.int .i64 ((p:Nat):Int)] rfl (by kernel_rfl) (fun _=>by kernel_rfl) ?_
 refine af (.bool false) (some 6) (ki (by kernel_rfl)) (fun bb hb=>bM (t:=3) (t':=3) (xv := .int .i64 ((p:Nat):Int)) (yv := .int .i64 0) (x:=(.tmp 5)) (y:=(.const (.int .i64 0))) (by kernel_rfl) (by kernel_rfl) (by kernel_rfl) (fun _=>by kernel_rfl) (iH _ (decide_eq_false (by omega)))) ?_
 refine ah [2,3] [.bool false,.int .i64 ((p:Nat):Int)] rfl (by kernel_rfl) (fun _=>by kernel_rfl) ?_
 refine af (.int .i64 (((p+1):Nat):Int)) (some 9) (ki (by kernel_rfl)) (fun bb hb=>bM (t:=3) (t':=3) (xv := .int .i64 ((p:Nat):Int)) (yv := .int .i64 1) (x:=(.tmp 8)) (y:=(.const (.int .i64 1))) (by kernel_rfl) (by kernel_rfl) (by kernel_rfl) (fun _=>by kernel_rfl) (fP _ (by omega) (by omega) (by omega))) ?_
 refine ah [5,6,7] [ag g 0,ag g 0,ag g 0] rfl (by kernel_rfl) (fun _=>by kernel_rfl) ?_
 refine af (.slice (some ⟨b,off,none⟩) n cap) (some 13) (ki (by kernel_rfl)) (fun bb hb=>aC (x:=(.tmp 12)) (by kernel_rfl) (by kernel_rfl) (aH (Q2.out _ hb) Try.underlying116 rfl)) ?_
 refine ah [9] [.int .i64 ((n:Nat):Int)] rfl (by kernel_rfl) (fun _=>by kernel_rfl) ?_
 refine af (.bool false) (some 15) (ki (by kernel_rfl)) (fun bb hb=>bM (t:=3) (t':=3) (xv := .int .i64 (((p+1):Nat):Int)) (yv := .int .i64 ((n:Nat):Int)) (x:=(.tmp 9)) (y:=(.tmp 14)) (by kernel_rfl) (by kernel_rfl) (by kernel_rfl) (fun _=>by kernel_rfl) (lC _ (decide_eq_false (by omega)))) ?_
 refine ah [11,12,13,14,15] [.bool false,.bool false,ag g 0,ag g 0,ag g 0] rfl (by kernel_rfl) (fun _=>by kernel_rfl) ?_
 refine af (.slice (some ⟨b,off,none⟩) n cap) (some 21) (ki (by kernel_rfl)) (fun bb hb=>aC (x:=(.tmp 20)) (by kernel_rfl) (by kernel_rfl) (aH (Q2.out _ hb) Try.underlying116 rfl)) ?_
 refine ah [17] [.int .i64 ((p:Nat):Int)] rfl (by kernel_rfl) (fun _=>by kernel_rfl) ?_
 refine af (ag b (off+p)) (some 23) (ki (by kernel_rfl)) (fun bb hb=>fG (s:=1) (e:=153) (g:=b) (off:=off) (n:=n) (c:=cap) (i:=((p:Nat):Int)) (x:=(.tmp 21)) (y:=(.tmp 22)) (off+p) (by kernel_rfl) (by kernel_rfl) (by kernel_rfl) Try.underlying116 (by kernel_rfl) (by omega) (by omega) (by omega)) ?_
 refine af (.slice (some ⟨pb,po,none⟩) m1 pc) (some 24) (ki (by kernel_rfl)) (fun bb hb=>aC (x:=(.tmp 23)) (by kernel_rfl) (by kernel_rfl) (aH (Q3.out _ hb) Try.underlying153 rfl)) ?_
 refine ah [20,21,22,23] [.int .i64 ((m1:Nat):Int),ag g 0,ag g 0,ag g 0] rfl (by kernel_rfl) (fun _=>by kernel_rfl) ?_
 refine af (.slice (some ⟨b,off,none⟩) n cap) (some 29) (ki (by kernel_rfl)) (fun bb hb=>aC (x:=(.tmp 28)) (by kernel_rfl) (by kernel_rfl) (aH (Q2.out _ hb) Try.underlying116 rfl)) ?_
 refine ah [25] [.int .i64 ((p:Nat):Int)] rfl (by kernel_rfl) (fun _=>by kernel_rfl) ?_
 refine af (.int .i64 (((p+1):Nat):Int)) (some 31) (ki (by kernel_rfl)) (fun bb hb=>bM (t:=3) (t':=3) (xv := .int .i64 ((p:Nat):Int)) (yv := .int .i64 1) (x:=(.tmp 30)) (y:=(.const (.int .i64 1))) (by kernel_rfl) (by kernel_rfl) (by kernel_rfl) (fun _=>by kernel_rfl) (fP _ (by omega) (by omega) (by omega))) ?_
 refine af (ag b (off+(p+1))) (some 32) (ki (by kernel_rfl)) (fun bb hb=>fG (s:=1) (e:=153) (g:=b) (off:=off) (n:=n) (c:=cap) (i:=(((p+1):Nat):Int)) (x:=(.tmp 29)) (y:=(.tmp 31)) (off+(p+1)) (by kernel_rfl) (by kernel_rfl) (by kernel_rfl) Try.underlying116 (by kernel_rfl) (by omega) (by omega) (by omega)) ?_
 refine af (.slice (some ⟨qb,qo,none⟩) m2 qc) (some 33) (ki (by kernel_rfl)) (fun bb hb=>aC (x:=(.tmp 32)) (by kernel_rfl) (by kernel_rfl) (aH (Q4.out _ hb) Try.underlying153 rfl)) ?_
 refine ah [29] [.int .i64 ((m2:Nat):Int)] rfl (by kernel_rfl) (fun _=>by kernel_rfl) ?_
 refine af (.int .i64 (((m1+m2):Nat):Int)) (some 35) (ki (by kernel_rfl)) (fun bb hb=>bM (t:=3) (t':=3) (xv := .int .i64 ((m1:Nat):Int)) (yv := .int .i64 ((m2:Nat):Int)) (x:=(.tmp 25)) (y:=(.tmp 34)) (by kernel_rfl) (by kernel_rfl) (by kernel_rfl) (fun _=>by kernel_rfl) (fP _ (by omega) (by omega) (by omega))) ?_
 refine af (.bool true) (some 36) (ki (by kernel_rfl)) (fun bb hb=>bM (t:=3) (t':=3) (xv := .int .i64 (((m1+m2):Nat):Int)) (yv := .int .i64 16) (x:=(.tmp 35)) (y:=(.const (.int .i64 16))) (by kernel_rfl) (by kernel_rfl) (by kernel_rfl) (fun _=>by kernel_rfl) (nR _ (decide_eq_true (by omega)))) ?_
 refine ah [32] [.bool true] rfl (by kernel_rfl) (fun _=>by kernel_rfl) ?_
 exact aA (aZ (K:=Q .normal) (by kernel_rfl) (HQ.out (.int .i64 ((p:Nat):Int)) (.bool false) (.bool false) (.int .i64 ((p:Nat):Int)) (.int .i64 (((p+1):Nat):Int)) (ag g 0) (ag g 0) (ag g 0) (.slice (some ⟨b,off,none⟩) n cap) (.int .i64 ((n:Nat):Int)) (.bool false) (.bool false) (.bool false) (ag g 0) (ag g 0) (ag g 0) (.slice (some ⟨b,off,none⟩) n cap) (.int .i64 ((p:Nat):Int)) (ag b (off+p)) (.slice (some ⟨pb,po,none⟩) m1 pc) (.int .i64 ((m1:Nat):Int)) (ag g 0) (ag g 0) (ag g 0) (.slice (some ⟨b,off,none⟩) n cap) (.int .i64 ((p:Nat):Int)) (.int .i64 (((p+1):Nat):Int)) (ag b (off+(p+1))) (.slice (some ⟨qb,qo,none⟩) m2 qc) (.int .i64 ((m2:Nat):Int)) (.int .i64 (((m1+m2):Nat):Int)) (.bool true) _ MR.out))
theorem Ej {w:World}{g b off n cap p:Nat}{vn:Value}{pvs:List Value} (hg:w.heap[g]?=some (.cells #[.slice (some ⟨b,off,none⟩) n cap,vn] 118 (0,0))) (hr:OB w 153 1 b off n cap pvs) (hp:p+1<n) (hn:n≤1000000) {pb po m1 pc qb qo m2 qc:Nat} (h1:pvs[p]?=some (.slice (some ⟨pb,po,none⟩) m1 pc)) (h2:pvs[p+1]?=some (.slice (some ⟨qb,qo,none⟩) m2 qc)) (h3:m1≤100) (h4:m2≤100) (h5:m1+m2≤16)
  (hK:∀ (y5 y6 y7 y8 y9 iW jP y12 jQ iY jA jB iZ ja jC kH kJ jc jd jR je jS y27 kK kL y30 y31 y32 y33 y34 y35 y36:Value)  (w':World),ae aj w w'→Q .normal ⟨#[.pointer (some ⟨g,0,none⟩),.int .i64 ((p:Nat):Int),x2,x3,x4,y5,y6,y7,y8,y9,iW,jP,y12,jQ,iY,jA,jB,iZ,ja,jC,kH,kJ,jc,jd,jR,je,jS,y27,kK,kL,y30,y31,y32,y33,y34,y35,y36,.bool false,dJ,dK,dL,dD,dE,dF,dG,dH,dI,dC,dU,dV,dZ,ed,dW,dX,eu,eF,eG,eU,eH,eP,eQ,dY,gY,gZ,iL,iM,iO,iP,iF,jq,jr,jw,jy],df⟩ w'):RW Try.prog (aJ 1 Try.f123) true Q ⟨#[.pointer (some ⟨g,0,none⟩),.int .i64 ((p:Nat):Int),x2,x3,x4,x5,x6,x7,x8,x9,aS,bn,bi,bg,aO,aP,aV,aT,aW,aX,aY,aQ,bu,bz,bD,bK,bI,bJ,bH,bT,bU,cO,cZ,dh,di,bY,bZ,dQ,dJ,dK,dL,dD,dE,dF,dG,dH,dI,dC,dU,dV,dZ,ed,dW,dX,eu,eF,eG,eU,eH,eP,eQ,dY,gY,gZ,iL,iM,iO,iP,iF,jq,jr,jw,jy],df⟩ w:=by
 have HQ:=lh hK
 clear hK
 have Q2:=lh (fun b' (hm:ae aj w b')=>show b'.cell? ⟨g,0,none⟩=some (.slice (some ⟨b,off,none⟩) n cap) from ai (hm.heap hg (fun x=>x)) 0)
 have Q3:=lh (fun b' (hm:ae aj w b')=>show b'.cell? ⟨b,off+p,none⟩=some (.slice (some ⟨pb,po,none⟩) m1 pc) from (hr.keep hm (fun x=>x)).cell h1)
 have Q4:=lh (fun b' (hm:ae aj w b')=>show b'.cell? ⟨b,off+(p+1),none⟩=some (.slice (some ⟨qb,qo,none⟩) m2 qc) from (hr.keep hm (fun x=>x)).cell h2)
 clear hg hr h1 h2
 have MR:=lh ((ae.refl aj w).drew)
 refine iJ (S:=fun b'=>ae aj w b') [(0,true),(1,true),(2,true),(3,true),(4,true),(5,true),(6,true),(7,true),(8,true),(9,true),(10,true),(11,true),(12,true),(13,true),(14,true),(15,true),(16,true),(17,true),(18,true),(19,true),(20,true),(21,true),(22,true),(23,true),(24,true),(25,true),(26,true),(27,true),(28,true),(29,true),(30,true),(31,true),(32,true)] [] [(0,2,32),(1,32,64),(2,64,128),(4,130,256),(12,384,512),(4,129,1024),(36,1152,2048),(68,2176,4096),(132,4224,8192),(260,8320,16384),(532,17024,32768),(1028,32896,65536),(2052,65536,131072),(4096,131073,262144),(12288,393216,524288),(20480,655360,1048576),(36864,1179648,2097152),(4096,131074,4194304),(200704,6422528,8388608),(266240,8519680,16777216),(528384,16908288,33554432),(4096,131073,67108864),(2101248,67239936,134217728),(4198400,134348800,268435456),(8392704,268566528,536870912),(4096,131074,1073741824),(33558528,1073872896,2147483648),(83890176,2684485632,4294967296),(134221824,4295098368,8589934592),(268439552,8590065664,17179869184),(537923584,17213554688,34359738368),(1073745920,34359869440,68719476736),(2147487744,68719607808,137438953472)] (by kernel_rfl) (by kernel_rfl) (by kernel_rfl) (by kernel_rfl) (by kernel_rfl) MR.out ?_
 refine ah [0] [.int .i64 ((p:Nat):Int)] rfl (by kernel_rfl) (fun _=>by kernel_rfl) ?_
 refine af (.bool false) (some 6) (ki (by kernel_rfl)) (fun bb hb=>bM (t:=3) (t':=3) (xv := .int .i64 ((p:Nat):Int)) (yv := .int .i64 0) (x:=(.tmp 5)) (y:=(.const (.int .i64 0))) (by kernel_rfl) (by kernel_rfl) (by kernel_rfl) (fun _=>by kernel_rfl) (iH _ (decide_eq_false (by omega)))) ?_
 refine ah [2,3] [.bool false,.int .i64 ((p:Nat):Int)] rfl (by kernel_rfl) (fun _=>by kernel_rfl) ?_
 refine af (.int .i64 (((p+1):Nat):Int)) (some 9) (ki (by kernel_rfl)) (fun bb hb=>bM (t:=3) (t':=3) (xv := .int .i64 ((p:Nat):Int)) (yv := .int .i64 1) (x:=(.tmp 8)) (y:=(.const (.int .i64 1))) (by kernel_rfl) (by kernel_rfl) (by kernel_rfl) (fun _=>by kernel_rfl) (fP _ (by omega) (by omega) (by omega))) ?_
 refine ah [5,6,7] [ag g 0,ag g 0,ag g 0] rfl (by kernel_rfl) (fun _=>by kernel_rfl) ?_
 refine af (.slice (some ⟨b,off,none⟩) n cap) (some 13) (ki (by kernel_rfl)) (fun bb hb=>aC (x:=(.tmp 12)) (by kernel_rfl) (by kernel_rfl) (aH (Q2.out _ hb) Try.underlying116 rfl)) ?_
 refine ah [9] [.int .i64 ((n:Nat):Int)] rfl (by kernel_rfl) (fun _=>by kernel_rfl) ?_
 refine af (.bool false) (some 15) (ki (by kernel_rfl)) (fun bb hb=>bM (t:=3) (t':=3) (xv := .int .i64 (((p+1):Nat):Int)) (yv := .int .i64 ((n:Nat):Int)) (x:=(.tmp 9)) (y:=(.tmp 14)) (by kernel_rfl) (by kernel_rfl) (by kernel_rfl) (fun _=>by kernel_rfl) (lC _ (decide_eq_false (by omega)))) ?_
 refine ah [11,12,13,14,15] [.bool false,.bool false,ag g 0,ag g 0,ag g 0] rfl (by kernel_rfl) (fun _=>by kernel_rfl) ?_
 refine af (.slice (some ⟨b,off,none⟩) n cap) (some 21) (ki (by kernel_rfl)) (fun bb hb=>aC (x:=(.tmp 20)) (by kernel_rfl) (by kernel_rfl) (aH (Q2.out _ hb) Try.underlying116 rfl)) ?_
 refine ah [17] [.int .i64 ((p:Nat):Int)] rfl (by kernel_rfl) (fun _=>by kernel_rfl) ?_
 refine af (ag b (off+p)) (some 23) (ki (by kernel_rfl)) (fun bb hb=>fG (s:=1) (e:=153) (g:=b) (off:=off) (n:=n) (c:=cap) (i:=((p:Nat):Int)) (x:=(.tmp 21)) (y:=(.tmp 22)) (off+p) (by kernel_rfl) (by kernel_rfl) (by kernel_rfl) Try.underlying116 (by kernel_rfl) (by omega) (by omega) (by omega)) ?_
 refine af (.slice (some ⟨pb,po,none⟩) m1 pc) (some 24) (ki (by kernel_rfl)) (fun bb hb=>aC (x:=(.tmp 23)) (by kernel_rfl) (by kernel_rfl) (aH (Q3.out _ hb) Try.underlying153 rfl)) ?_
 refine ah [20,21,22,23] [.int .i64 ((m1:Nat):Int),ag g 0,ag g 0,ag g 0] rfl (by kernel_rfl) (fun _=>by kernel_rfl) ?_
 refine af (.slice (some ⟨b,off,none⟩) n cap) (some 29) (ki (by kernel_rfl)) (fun bb hb=>aC (x:=(.tmp 28)) (by kernel_rfl) (by kernel_rfl) (aH (Q2.out _ hb) Try.underlying116 rfl)) ?_
 refine ah [25] [.int .i64 ((p:Nat):Int)] rfl (by kernel_rfl) (fun _=>by kernel_rfl) ?_
 refine af (.int .i64 (((p+1):Nat):Int)) (some 31) (ki (by kernel_rfl)) (fun bb hb=>bM (t:=3) (t':=3) (xv := .int .i64 ((p:Nat):Int)) (yv := .int .i64 1) (x:=(.tmp 30)) (y:=(.const (.int .i64 1))) (by kernel_rfl) (by kernel_rfl) (by kernel_rfl) (fun _=>by kernel_rfl) (fP _ (by omega) (by omega) (by omega))) ?_
 refine af (ag b (off+(p+1))) (some 32) (ki (by kernel_rfl)) (fun bb hb=>fG (s:=1) (e:=153) (g:=b) (off:=off) (n:=n) (c:=cap) (i:=(((p+1):Nat):Int)) (x:=(.tmp 29)) (y:=(.tmp 31)) (off+(p+1)) (by kernel_rfl) (by kernel_rfl) (by kernel_rfl) Try.underlying116 (by kernel_rfl) (by omega) (by omega) (by omega)) ?_
 refine af (.slice (some ⟨qb,qo,none⟩) m2 qc) (some 33) (ki (by kernel_rfl)) (fun bb hb=>aC (x:=(.tmp 32)) (by kernel_rfl) (by kernel_rfl) (aH (Q4.out _ hb) Try.underlying153 rfl)) ?_
 refine ah [29] [.int .i64 ((m2:Nat):Int)] rfl (by kernel_rfl) (fun _=>by kernel_rfl) ?_
 refine af (.int .i64 (((m1+m2):Nat):Int)) (some 35) (ki (by kernel_rfl)) (fun bb hb=>bM (t:=3) (t':=3) (xv := .int .i64 ((m1:Nat):Int)) (yv := .int .i64 ((m2:Nat):Int)) (x:=(.tmp 25)) (y:=(.tmp 34)) (by kernel_rfl) (by kernel_rfl) (by kernel_rfl) (fun _=>by kernel_rfl) (fP _ (by omega) (by omega) (by omega))) ?_
 refine af (.bool false) (some 36) (ki (by kernel_rfl)) (fun bb hb=>bM (t:=3) (t':=3) (xv := .int .i64 (((m1+m2):Nat):Int)) (yv := .int .i64 16) (x:=(.tmp 35)) (y:=(.const (.int .i64 16))) (by kernel_rfl) (by kernel_rfl) (by kernel_rfl) (fun _=>by kernel_rfl) (nR _ (decide_eq_false (by omega)))) ?_
 refine ah [32] [.bool false] rfl (by kernel_rfl) (fun _=>by kernel_rfl) ?_
 exact aA (aZ (K:=Q .normal) (by kernel_rfl) (HQ.out (.int .i64 ((p:Nat):Int)) (.bool false) (.bool false) (.int .i64 ((p:Nat):Int)) (.int .i64 (((p+1):Nat):Int)) (ag g 0) (ag g 0) (ag g 0) (.slice (some ⟨b,off,none⟩) n cap) (.int .i64 ((n:Nat):Int)) (.bool false) (.bool false) (.bool false) (ag g 0) (ag g 0) (ag g 0) (.slice (some ⟨b,off,none⟩) n cap) (.int .i64 ((p:Nat):Int)) (ag b (off+p)) (.slice (some ⟨pb,po,none⟩) m1 pc) (.int .i64 ((m1:Nat):Int)) (ag g 0) (ag g 0) (ag g 0) (.slice (some ⟨b,off,none⟩) n cap) (.int .i64 ((p:Nat):Int)) (.int .i64 (((p+1):Nat):Int)) (ag b (off+(p+1))) (.slice (some ⟨qb,qo,none⟩) m2 qc) (.int .i64 ((m2:Nat):Int)) (.int .i64 (((m1+m2):Nat):Int)) (.bool false) _ MR.out))
theorem join3 {w:World}{g b off n cap p:Nat}{vn:Value}{pvs:List Value} (hg:w.heap[g]?=some (.cells #[.slice (some ⟨b,off,none⟩) n cap,vn] 118 (0,0))) (hr:OB w 153 1 b off n cap pvs) (hp:p+1<n) (hn:n≤1000000) {pb po m1 pc qb qo m2 qc:Nat} (h1:pvs[p]?=some (.slice (some ⟨pb,po,none⟩) m1 pc)) (h2:pvs[p+1]?=some (.slice (some ⟨qb,qo,none⟩) m2 qc)) {xs ys:List Value} (ha:OB w 131 2 pb po m1 pc xs) (hb:OB w 131 2 qb qo m2 qc ys) (h3:∀ y∈xs,y.oneCell'=true) (h4:∀ y∈ys,y.oneCell'=true) (hm0:0<m1) (hm:m1+m2≤1000000)
  (hK:∀ (y38 y39 y40 y41 y42 y43 y44 y45 y46 y47 y48 y49 y50 y51 y52 y53 y54 y55 y56 y57 y58 y59 y60:Value) (v7:Value) (w7:World) (w':World),aU w7 131 2 v7 (m1+m2) (xs ++ ys)→ae aj w w7→aI w v7→v7.oneCell'=true→w'=w7.setCell ⟨b,off+p,none⟩ v7→Q .normal ⟨#[.pointer (some ⟨g,0,none⟩),.int .i64 ((p:Nat):Int),x2,x3,x4,x5,x6,x7,x8,x9,aS,bn,bi,bg,aO,aP,aV,aT,aW,aX,aY,aQ,bu,bz,bD,bK,bI,bJ,bH,bT,bU,cO,cZ,dh,di,bY,bZ,dQ,y38,y39,y40,y41,y42,y43,y44,y45,y46,y47,y48,y49,y50,y51,y52,y53,y54,y55,y56,y57,y58,y59,y60,dY,gY,gZ,iL,iM,iO,iP,iF,jq,jr,jw,jy],df⟩ w'):RW Try.prog (aJ 3 Try.f123) true Q ⟨#[.pointer (some ⟨g,0,none⟩),.int .i64 ((p:Nat):Int),x2,x3,x4,x5,x6,x7,x8,x9,aS,bn,bi,bg,aO,aP,aV,aT,aW,aX,aY,aQ,bu,bz,bD,bK,bI,bJ,bH,bT,bU,cO,cZ,dh,di,bY,bZ,dQ,dJ,dK,dL,dD,dE,dF,dG,dH,dI,dC,dU,dV,dZ,ed,dW,dX,eu,eF,eG,eU,eH,eP,eQ,dY,gY,gZ,iL,iM,iO,iP,iF,jq,jr,jw,jy],df⟩ w:=by
 have HQ:=lh hK
 clear hK
 have Q2:=lh (fun b' (hm:ae aj w b')=>show b'.cell? ⟨g,0,none⟩=some (.slice (some ⟨b,off,none⟩) n cap) from ai (hm.heap hg (fun x=>x)) 0)
 have Q3:=lh (fun b' (hm:ae aj w b')=>show b'.cell? ⟨b,off+p,none⟩=some (.slice (some ⟨pb,po,none⟩) m1 pc) from (hr.keep hm (fun x=>x)).cell h1)
 have Q4:=lh (fun b' (hm:ae aj w b')=>show b'.cell? ⟨b,off+(p+1),none⟩=some (.slice (some ⟨qb,qo,none⟩) m2 qc) from (hr.keep hm (fun x=>x)).cell h2)
 have HA:=lh ha
 have HB:=lh hb
 have H0:=lh h3
 have H1:=lh h4
 have HR:=lh hr
 clear hg hr h1 h2 ha hb h3 h4
 have MR:=lh ((ae.refl aj w).drew)
 refine kQ (S:=fun b'=>ae aj w b') [(0,true),(1,true),(2,true),(3,true),(4,true),(5,true),(6,true),(7,true),(8,true),(9,true),(10,true),(11,true),(12,true),(13,true),(14,true),(15,true),(16,true),(17,true),(18,true),(19,true),(20,false),(21,false),(22,true),(23,false)] [23] (by kernel_rfl) (by kernel_rfl) (by kernel_rfl) (by kernel_rfl) MR.out ?_
 refine ah [0,1,2] [ag g 0,ag g 0,ag g 0] rfl (by kernel_rfl) (fun _=>by kernel_rfl) ?_
 refine af (.slice (some ⟨b,off,none⟩) n cap) (some 41) (ki (by kernel_rfl)) (fun bb hb=>aC (x:=(.tmp 40)) (by kernel_rfl) (by kernel_rfl) (aH (Q2.out _ hb) Try.underlying116 rfl)) ?_
 refine ah [4,5,6,7] [.int .i64 ((p:Nat):Int),ag g 0,ag g 0,ag g 0] rfl (by kernel_rfl) (fun _=>by kernel_rfl) ?_
 refine af (.slice (some ⟨b,off,none⟩) n cap) (some 46) (ki (by kernel_rfl)) (fun bb hb=>aC (x:=(.tmp 45)) (by kernel_rfl) (by kernel_rfl) (aH (Q2.out _ hb) Try.underlying116 rfl)) ?_
 refine ah [9] [.int .i64 ((p:Nat):Int)] rfl (by kernel_rfl) (fun _=>by kernel_rfl) ?_
 refine af (ag b (off+p)) (some 48) (ki (by kernel_rfl)) (fun bb hb=>fG (s:=1) (e:=153) (g:=b) (off:=off) (n:=n) (c:=cap) (i:=((p:Nat):Int)) (x:=(.tmp 46)) (y:=(.tmp 47)) (off+p) (by kernel_rfl) (by kernel_rfl) (by kernel_rfl) Try.underlying116 (by kernel_rfl) (by omega) (by omega) (by omega)) ?_
 refine af (.slice (some ⟨pb,po,none⟩) m1 pc) (some 49) (ki (by kernel_rfl)) (fun bb hb=>aC (x:=(.tmp 48)) (by kernel_rfl) (by kernel_rfl) (aH (Q3.out _ hb) Try.underlying153 rfl)) ?_
 refine ah [12,13,14] [ag g 0,ag g 0,ag g 0] rfl (by kernel_rfl) (fun _=>by kernel_rfl) ?_
 refine af (.slice (some ⟨b,off,none⟩) n cap) (some 53) (ki (by kernel_rfl)) (fun bb hb=>aC (x:=(.tmp 52)) (by kernel_rfl) (by kernel_rfl) (aH (Q2.out _ hb) Try.underlying116 rfl)) ?_
 refine ah [16] [.int .i64 ((p:Nat):Int)] rfl (by kernel_rfl) (fun _=>by kernel_rfl) ?_
 refine af (.int .i64 (((p+1):Nat):Int)) (some 55) (ki (by kernel_rfl)) (fun bb hb=>bM (t:=3) (t':=3) (xv := .int .i64 ((p:Nat):Int)) (yv := .int .i64 1) (x:=(.tmp 54)) (y:=(.const (.int .i64 1))) (by kernel_rfl) (by kernel_rfl) (by kernel_rfl) (fun _=>by kernel_rfl) (fP _ (by omega) (by omega) (by omega))) ?_
 refine af (ag b (off+(p+1))) (some 56) (ki (by kernel_rfl)) (fun bb hb=>fG (s:=1) (e:=153) (g:=b) (off:=off) (n:=n) (c:=cap) (i:=(((p+1):Nat):Int)) (x:=(.tmp 53)) (y:=(.tmp 55)) (off+(p+1)) (by kernel_rfl) (by kernel_rfl) (by kernel_rfl) Try.underlying116 (by kernel_rfl) (by omega) (by omega) (by omega)) ?_
 refine af (.slice (some ⟨qb,qo,none⟩) m2 qc) (some 57) (ki (by kernel_rfl)) (fun bb hb=>aC (x:=(.tmp 56)) (by kernel_rfl) (by kernel_rfl) (aH (Q4.out _ hb) Try.underlying153 rfl)) ?_
 refine jf (.cells #[.slice (some ⟨pb,po,none⟩) m1 pc,.slice (some ⟨qb,qo,none⟩) m2 qc] 153) 2 (some 58) (ki (by kernel_rfl)) (by kernel_rfl) ?_
 intro k1 w_k1 hk_k1 hO_k1 hm_k1 hl_k1
 have MZ:=MR.out.size
 replace MR:=lh (MR.out.then0 hm_k1)
 refine⟨fun _=>MR.out,?_⟩
 refine bF (some 59) (ki (by kernel_rfl)) (Dl (xs:=xs) (ys:=ys) hO_k1 (HA.out.keep MR.out (fun x=>x)) (HB.out.keep MR.out (fun x=>x)) H0.out H1.out hm0 (by omega)) (fun _=>by kernel_rfl) ?_
 rintro r w7 ⟨v7,rfl,o7,m7,f7⟩
 have f8:=f7.of MR.out.size
 replace MR:=lh (MR.out.then0 m7)
 have O7:=lh (And.intro o7 f8)
 obtain⟨a7,c7,e7,_⟩:=o7.rd.form
 have h17:v7.oneCell'=true:=by rw [e7];rfl
 clear o7 m7 f7 f8 e7
 refine⟨_,rfl,fun _=>MR.out,?_⟩
 refine af (ag b (off+p)) (some 60) (ki (by kernel_rfl)) (fun bb hb=>fG (s:=1) (e:=153) (g:=b) (off:=off) (n:=n) (c:=cap) (i:=((p:Nat):Int)) (x:=(.tmp 41)) (y:=(.tmp 42)) (off+p) (by kernel_rfl) (by kernel_rfl) (by kernel_rfl) Try.underlying116 (by kernel_rfl) (by omega) (by omega) (by omega)) ?_
 refine fD (ty:=153) (x:=(.tmp 60)) (y:=(.tmp 59)) (g:=b) (off:=off+p) (v:=v7) none (ki (by kernel_rfl)) (by kernel_rfl) (by kernel_rfl) (by kernel_rfl) (by kernel_rfl) ((HR.out.keep MR.out (fun x=>x)).there (by have:=HR.out.hn;omega)) ((HR.out.keep MR.out (fun x=>x)).free _) (h17) ?_
 intro w9 hw9
 refine⟨(fun h=>by first | (cases h;done) | exact trivial),?_⟩
 exact aA (aZ (K:=Q .normal) (by kernel_rfl) (HQ.out (ag g 0) (ag g 0) (ag g 0) (.slice (some ⟨b,off,none⟩) n cap) (.int .i64 ((p:Nat):Int)) (ag g 0) (ag g 0) (ag g 0) (.slice (some ⟨b,off,none⟩) n cap) (.int .i64 ((p:Nat):Int)) (ag b (off+p)) (.slice (some ⟨pb,po,none⟩) m1 pc) (ag g 0) (ag g 0) (ag g 0) (.slice (some ⟨b,off,none⟩) n cap) (.int .i64 ((p:Nat):Int)) (.int .i64 (((p+1):Nat):Int)) (ag b (off+(p+1))) (.slice (some ⟨qb,qo,none⟩) m2 qc) (.slice (some ⟨k1,0,none⟩) 2 2) (v7) (ag b (off+p)) v7 w7 w9 O7.out.1 MR.out O7.out.2 h17 hw9))
theorem join4 {w:World}{g b off n cap p:Nat}{vn:Value}{pvs:List Value} (hg:w.heap[g]?=some (.cells #[.slice (some ⟨b,off,none⟩) n cap,vn] 118 (0,0))) (hr:OB w 153 1 b off n cap pvs) (hp:p+1<n) (hn:n≤1000000) (h0:∀ y∈pvs,y.oneCell'=true) (hbg:¬ g=b)
  (hK:∀ (y61 y62 y63 y64 y65 y66 y67 y68 y69 y70 y71 y72:Value) (w7:World) (w':World),OB w7 153 1 b off (n - 1) cap (pvs.take ((p+1)*1) ++ pvs.drop ((p+1+1)*1))→ae (fun k=>k=b) w w7→w'=w7.setCell ⟨g,0,none⟩ (.slice (some ⟨b,off,none⟩) (n - 1:Nat) cap)→Q .normal ⟨#[.pointer (some ⟨g,0,none⟩),.int .i64 ((p:Nat):Int),x2,x3,x4,x5,x6,x7,x8,x9,aS,bn,bi,bg,aO,aP,aV,aT,aW,aX,aY,aQ,bu,bz,bD,bK,bI,bJ,bH,bT,bU,cO,cZ,dh,di,bY,bZ,dQ,dJ,dK,dL,dD,dE,dF,dG,dH,dI,dC,dU,dV,dZ,ed,dW,dX,eu,eF,eG,eU,eH,eP,eQ,y61,y62,y63,y64,y65,y66,y67,y68,y69,y70,y71,y72],df⟩ w'):RW Try.prog (aJ 4 Try.f123) false Q ⟨#[.pointer (some ⟨g,0,none⟩),.int .i64 ((p:Nat):Int),x2,x3,x4,x5,x6,x7,x8,x9,aS,bn,bi,bg,aO,aP,aV,aT,aW,aX,aY,aQ,bu,bz,bD,bK,bI,bJ,bH,bT,bU,cO,cZ,dh,di,bY,bZ,dQ,dJ,dK,dL,dD,dE,dF,dG,dH,dI,dC,dU,dV,dZ,ed,dW,dX,eu,eF,eG,eU,eH,eP,eQ,dY,gY,gZ,iL,iM,iO,iP,iF,jq,jr,jw,jy],df⟩ w:=by
 have HQ:=lh hK
 clear hK
 have Q2:=lh (show w.cell? ⟨g,0,none⟩=some (.slice (some ⟨b,off,none⟩) n cap) from ai hg 0)
 have HR:=lh hr
 have HG:=lh hg
 have H0:=lh h0
 clear hg hr h0
 refine bV [(0,false),(1,false),(2,false),(3,false),(4,false),(5,false),(6,false),(7,false),(8,false),(9,false),(10,false),(11,false),(12,false)] (by kernel_rfl) ?_
 refine az [0,1,2,3] [ag g 0,ag g 0,ag g 0,ag g 0] rfl (by kernel_rfl) (by kernel_rfl) (.inr trivial) ?_
 refine aG (.slice (some ⟨b,off,none⟩) n cap) _ (some 65) (ki (by kernel_rfl)) (aC (x:=(.tmp 64)) (by kernel_rfl) (by kernel_rfl) (aH ((fun _=>Q2.out) (trivial)) Try.underlying116 rfl)) (fun _=>trivial) ?_
 refine az [5] [.int .i64 ((p:Nat):Int)] rfl (by kernel_rfl) (by kernel_rfl) (.inr trivial) ?_
 refine aG (.int .i64 (((p+1):Nat):Int)) _ (some 67) (ki (by kernel_rfl)) (bM (t:=3) (t':=3) (xv := .int .i64 ((p:Nat):Int)) (yv := .int .i64 1) (x:=(.tmp 66)) (y:=(.const (.int .i64 1))) (by kernel_rfl) (by kernel_rfl) (by kernel_rfl) (fun _=>by kernel_rfl) (fP _ (by omega) (by omega) (by omega))) (fun _=>trivial) ?_
 refine az [7] [.int .i64 ((p:Nat):Int)] rfl (by kernel_rfl) (by kernel_rfl) (.inr trivial) ?_
 refine aG (.int .i64 (((p+2):Nat):Int)) _ (some 69) (ki (by kernel_rfl)) (bM (t:=3) (t':=3) (xv := .int .i64 ((p:Nat):Int)) (yv := .int .i64 2) (x:=(.tmp 68)) (y:=(.const (.int .i64 2))) (by kernel_rfl) (by kernel_rfl) (by kernel_rfl) (fun _=>by kernel_rfl) (fP _ (by omega) (by omega) (by omega))) (fun _=>trivial) ?_
 refine bF (some 70) (ki (by kernel_rfl)) (by have h:=uX (i:=p+1) HR.out H0.out hp (by omega);exact (show ((p+1:Nat):Int)+1=((p+2:Nat):Int) from by omega)▸h) (fun _=>by kernel_rfl) ?_
 rintro r w7 ⟨rfl,o7,m7⟩
 refine⟨_,rfl,fun _=>trivial,?_⟩
 have hg7:=m7.heap HG.out hbg
 refine az [10,11] [ag g 0,ag g 0] rfl (by kernel_rfl) (by kernel_rfl) (.inr trivial) ?_
 refine fD (ty:=116) (x:=(.tmp 72)) (y:=(.tmp 70)) (g:=g) (off:=0) (v := .slice (some ⟨b,off,none⟩) (n - 1) cap) none (ki (by kernel_rfl)) (by kernel_rfl) (by kernel_rfl) (by kernel_rfl) (by kernel_rfl) (by rw [ai hg7];rfl) (dw hg7 _) (rfl) ?_
 intro w9 hw9
 refine⟨(fun h=>by first | (cases h;done) | exact trivial),?_⟩
 exact aA (aZ (K:=Q .normal) (by kernel_rfl) (HQ.out (ag g 0) (ag g 0) (ag g 0) (ag g 0) (.slice (some ⟨b,off,none⟩) n cap) (.int .i64 ((p:Nat):Int)) (.int .i64 (((p+1):Nat):Int)) (.int .i64 ((p:Nat):Int)) (.int .i64 (((p+2):Nat):Int)) (.slice (some ⟨b,off,none⟩) (n - 1) cap) (ag g 0) (ag g 0) w7 w9 o7 m7 hw9))
theorem del5 {w:World}{g b off n cap p:Nat}{vn:Value}{pvs:List Value} (hg:w.heap[g]?=some (.cells #[.slice (some ⟨b,off,none⟩) n cap,vn] 118 (0,0))) (hr:OB w 153 1 b off n cap pvs) (hp:p<n) {i pb po m pc:Nat}{xs:List Value} (hP:pvs[p]?=some (.slice (some ⟨pb,po,none⟩) m pc)) (hl:OB w 131 2 pb po m pc xs) (h0:∀ y∈xs,y.oneCell'=true) (hi:i<m) (hL:m≤1000000) (hgp:¬ g=pb) (hbp:¬ b=pb) (hp6:p≤1000000)
  (hK:∀ (jR je jS y27 kK kL y30 y31 y32 y33 y34 y35 y36 y37 y38 y39 y40:Value) (w7:World) (w':World),OB w7 131 2 pb po (m - 1) pc (xs.take (i*2) ++ xs.drop ((i+1)*2))→ae (fun k=>k=pb) w w7→w'=w7.setCell ⟨b,off+p,none⟩ (.slice (some ⟨pb,po,none⟩) (m - 1:Nat) pc)→Q .normal ⟨#[.pointer (some ⟨g,0,none⟩),x1,x2,x3,x4,.int .i64 ((p:Nat):Int),.int .i64 ((i:Nat):Int),x7,x8,x9,aS,bn,bi,bg,aO,aP,aV,aT,aW,aX,aY,aQ,bu,bz,jR,je,jS,y27,kK,kL,y30,y31,y32,y33,y34,y35,y36,y37,y38,y39,y40,dD,dE,dF,dG,dH,dI,dC,dU,dV,dZ,ed,dW,dX,eu,eF,eG,eU,eH,eP,eQ,dY,gY,gZ,iL,iM,iO,iP,iF],df⟩ w'):RW Try.prog (aJ 5 Try.f87) true Q ⟨#[.pointer (some ⟨g,0,none⟩),x1,x2,x3,x4,.int .i64 ((p:Nat):Int),.int .i64 ((i:Nat):Int),x7,x8,x9,aS,bn,bi,bg,aO,aP,aV,aT,aW,aX,aY,aQ,bu,bz,bD,bK,bI,bJ,bH,bT,bU,cO,cZ,dh,di,bY,bZ,dQ,dJ,dK,dL,dD,dE,dF,dG,dH,dI,dC,dU,dV,dZ,ed,dW,dX,eu,eF,eG,eU,eH,eP,eQ,dY,gY,gZ,iL,iM,iO,iP,iF],df⟩ w:=by
 have HQ:=lh hK
 clear hK
 have Q2:=lh (fun b' (hm:ae (fun k=>k=pb) w b')=>show b'.cell? ⟨g,0,none⟩=some (.slice (some ⟨b,off,none⟩) n cap) from ai (hm.heap hg (hgp)) 0)
 have Q3:=lh (fun b' (hm:ae (fun k=>k=pb) w b')=>show b'.cell? ⟨b,off+p,none⟩=some (.slice (some ⟨pb,po,none⟩) m pc) from (hr.keep hm hbp).cell hP)
 have HA:=lh hl
 have HR:=lh hr
 have H0:=lh h0
 clear hg hr hl h0 hP
 have MR:=lh ((ae.refl aj w).drew)
 refine kQ (S:=fun b'=>ae (fun k=>k=pb) w b') [(0,true),(1,true),(2,true),(3,true),(4,true),(5,true),(6,true),(7,true),(8,true),(9,true),(10,true),(11,true),(12,true),(13,true),(14,true),(15,false),(16,true),(17,false)] [17] (by kernel_rfl) (by kernel_rfl) (by kernel_rfl) (by kernel_rfl) (MR.out.mono (fun _ _ x=>x.elim)) ?_
 refine ah [0,1,2] [ag g 0,ag g 0,ag g 0] rfl (by kernel_rfl) (fun _=>by kernel_rfl) ?_
 refine af (.slice (some ⟨b,off,none⟩) n cap) (some 27) (ki (by kernel_rfl)) (fun bb hb=>aC (x:=(.tmp 26)) (by kernel_rfl) (by kernel_rfl) (aH (Q2.out _ hb) Try.underlying116 rfl)) ?_
 refine ah [4,5,6,7] [.int .i64 ((p:Nat):Int),ag g 0,ag g 0,ag g 0] rfl (by kernel_rfl) (fun _=>by kernel_rfl) ?_
 refine af (.slice (some ⟨b,off,none⟩) n cap) (some 32) (ki (by kernel_rfl)) (fun bb hb=>aC (x:=(.tmp 31)) (by kernel_rfl) (by kernel_rfl) (aH (Q2.out _ hb) Try.underlying116 rfl)) ?_
 refine ah [9] [.int .i64 ((p:Nat):Int)] rfl (by kernel_rfl) (fun _=>by kernel_rfl) ?_
 refine af (ag b (off+p)) (some 34) (ki (by kernel_rfl)) (fun bb hb=>fG (s:=1) (e:=153) (g:=b) (off:=off) (n:=n) (c:=cap) (i:=((p:Nat):Int)) (x:=(.tmp 32)) (y:=(.tmp 33)) (off+p) (by kernel_rfl) (by kernel_rfl) (by kernel_rfl) Try.underlying116 (by kernel_rfl) (by omega) (by omega) (by omega)) ?_
 refine af (.slice (some ⟨pb,po,none⟩) m pc) (some 35) (ki (by kernel_rfl)) (fun bb hb=>aC (x:=(.tmp 34)) (by kernel_rfl) (by kernel_rfl) (aH (Q3.out _ hb) Try.underlying153 rfl)) ?_
 refine ah [12,13] [.int .i64 ((i:Nat):Int),.int .i64 ((i:Nat):Int)] rfl (by kernel_rfl) (fun _=>by kernel_rfl) ?_
 refine af (.int .i64 (((i+1):Nat):Int)) (some 38) (ki (by kernel_rfl)) (fun bb hb=>bM (t:=3) (t':=3) (xv := .int .i64 ((i:Nat):Int)) (yv := .int .i64 1) (x:=(.tmp 37)) (y:=(.const (.int .i64 1))) (by kernel_rfl) (by kernel_rfl) (by kernel_rfl) (fun _=>by kernel_rfl) (fP _ (by omega) (by omega) (by omega))) ?_
 refine bF (some 39) (ki (by kernel_rfl)) (by have h:=Bd (i:=i) (HA.out.keep MR.out (fun x=>x)) H0.out hi hL;exact (show (i:Int)+1=((i+1:Nat):Int) from by omega)▸h) (fun _=>by kernel_rfl) ?_
 rintro r w7 ⟨rfl,o7,m7⟩
 replace MR:=lh (MR.out.trans m7 (U:=fun k=>k=pb) (fun _ _ x=>x.elim) (fun _ _ x=>x))
 have O7:=lh o7
 clear o7 m7
 refine⟨_,rfl,fun _=>MR.out,?_⟩
 refine af (ag b (off+p)) (some 40) (ki (by kernel_rfl)) (fun bb hb=>fG (s:=1) (e:=153) (g:=b) (off:=off) (n:=n) (c:=cap) (i:=((p:Nat):Int)) (x:=(.tmp 27)) (y:=(.tmp 28)) (off+p) (by kernel_rfl) (by kernel_rfl) (by kernel_rfl) Try.underlying116 (by kernel_rfl) (by omega) (by omega) (by omega)) ?_
 refine fD (ty:=153) (x:=(.tmp 40)) (y:=(.tmp 39)) (g:=b) (off:=off+p) (v := .slice (some ⟨pb,po,none⟩) (m - 1) pc) none (ki (by kernel_rfl)) (by kernel_rfl) (by kernel_rfl) (by kernel_rfl) (by kernel_rfl) ((HR.out.keep MR.out hbp).there (by have:=HR.out.hn;omega)) ((HR.out.keep MR.out hbp).free _) (rfl) ?_
 intro w9 hw9
 refine⟨(fun h=>by first | (cases h;done) | exact trivial),?_⟩
 exact aA (aZ (K:=Q .normal) (by kernel_rfl) (HQ.out (ag g 0) (ag g 0) (ag g 0) (.slice (some ⟨b,off,none⟩) n cap) (.int .i64 ((p:Nat):Int)) (ag g 0) (ag g 0) (ag g 0) (.slice (some ⟨b,off,none⟩) n cap) (.int .i64 ((p:Nat):Int)) (ag b (off+p)) (.slice (some ⟨pb,po,none⟩) m pc) (.int .i64 ((i:Nat):Int)) (.int .i64 ((i:Nat):Int)) (.int .i64 (((i+1):Nat):Int)) (.slice (some ⟨pb,po,none⟩) (m - 1) pc) (ag b (off+p)) w7 w9 O7.out MR.out hw9))
theorem del7 {w:World}{g b off n cap p:Nat}{vn:Value}{pvs:List Value} (hg:w.heap[g]?=some (.cells #[.slice (some ⟨b,off,none⟩) n cap,vn] 118 (0,0))) (hr:OB w 153 1 b off n cap pvs) (hp:p<n) (hn:n≤1000000) (h0:∀ y∈pvs,y.oneCell'=true) (hbg:¬ g=b)
  (hK:∀ (y50 y51 y52 y53 y54 y55 y56 y57 y58 y59 y60:Value) (w7:World) (w':World),OB w7 153 1 b off (n - 1) cap (pvs.take (p*1) ++ pvs.drop ((p+1)*1))→ae (fun k=>k=b) w w7→w'=w7.setCell ⟨g,0,none⟩ (.slice (some ⟨b,off,none⟩) (n - 1:Nat) cap)→Q .normal ⟨#[.pointer (some ⟨g,0,none⟩),x1,x2,x3,x4,.int .i64 ((p:Nat):Int),x6,x7,x8,x9,aS,bn,bi,bg,aO,aP,aV,aT,aW,aX,aY,aQ,bu,bz,bD,bK,bI,bJ,bH,bT,bU,cO,cZ,dh,di,bY,bZ,dQ,dJ,dK,dL,dD,dE,dF,dG,dH,dI,dC,dU,dV,y50,y51,y52,y53,y54,y55,y56,y57,y58,y59,y60,dY,gY,gZ,iL,iM,iO,iP,iF],df⟩ w'):RW Try.prog (aJ 7 Try.f87) false Q ⟨#[.pointer (some ⟨g,0,none⟩),x1,x2,x3,x4,.int .i64 ((p:Nat):Int),x6,x7,x8,x9,aS,bn,bi,bg,aO,aP,aV,aT,aW,aX,aY,aQ,bu,bz,bD,bK,bI,bJ,bH,bT,bU,cO,cZ,dh,di,bY,bZ,dQ,dJ,dK,dL,dD,dE,dF,dG,dH,dI,dC,dU,dV,dZ,ed,dW,dX,eu,eF,eG,eU,eH,eP,eQ,dY,gY,gZ,iL,iM,iO,iP,iF],df⟩ w:=by
 have HQ:=lh hK
 clear hK
 have Q2:=lh (show w.cell? ⟨g,0,none⟩=some (.slice (some ⟨b,off,none⟩) n cap) from ai hg 0)
 have HR:=lh hr
 have HG:=lh hg
 have H0:=lh h0
 clear hg hr h0
 refine bV [(0,false),(1,false),(2,false),(3,false),(4,false),(5,false),(6,false),(7,false),(8,false),(9,false),(10,false),(11,false)] (by kernel_rfl) ?_
 refine az [0,1,2,3] [ag g 0,ag g 0,ag g 0,ag g 0] rfl (by kernel_rfl) (by kernel_rfl) (.inr trivial) ?_
 refine aG (.slice (some ⟨b,off,none⟩) n cap) _ (some 54) (ki (by kernel_rfl)) (aC (x:=(.tmp 53)) (by kernel_rfl) (by kernel_rfl) (aH ((fun _=>Q2.out) (trivial)) Try.underlying116 rfl)) (fun _=>trivial) ?_
 refine az [5,6] [.int .i64 ((p:Nat):Int),.int .i64 ((p:Nat):Int)] rfl (by kernel_rfl) (by kernel_rfl) (.inr trivial) ?_
 refine aG (.int .i64 (((p+1):Nat):Int)) _ (some 57) (ki (by kernel_rfl)) (bM (t:=3) (t':=3) (xv := .int .i64 ((p:Nat):Int)) (yv := .int .i64 1) (x:=(.tmp 56)) (y:=(.const (.int .i64 1))) (by kernel_rfl) (by kernel_rfl) (by kernel_rfl) (fun _=>by kernel_rfl) (fP _ (by omega) (by omega) (by omega))) (fun _=>trivial) ?_
 refine bF (some 58) (ki (by kernel_rfl)) (by have h:=uX (i:=p) HR.out H0.out hp (by omega);exact (show (p:Int)+1=((p+1:Nat):Int) from by omega)▸h) (fun _=>by kernel_rfl) ?_
 rintro r w7 ⟨rfl,o7,m7⟩
 refine⟨_,rfl,fun _=>trivial,?_⟩
 have hg7:=m7.heap HG.out hbg
 refine az [9,10] [ag g 0,ag g 0] rfl (by kernel_rfl) (by kernel_rfl) (.inr trivial) ?_
 refine fD (ty:=116) (x:=(.tmp 60)) (y:=(.tmp 58)) (g:=g) (off:=0) (v := .slice (some ⟨b,off,none⟩) (n - 1) cap) none (ki (by kernel_rfl)) (by kernel_rfl) (by kernel_rfl) (by kernel_rfl) (by kernel_rfl) (by rw [ai hg7];rfl) (dw hg7 _) (rfl) ?_
 intro w9 hw9
 refine⟨(fun h=>by first | (cases h;done) | exact trivial),?_⟩
 exact aA (aZ (K:=Q .normal) (by kernel_rfl) (HQ.out (ag g 0) (ag g 0) (ag g 0) (ag g 0) (.slice (some ⟨b,off,none⟩) n cap) (.int .i64 ((p:Nat):Int)) (.int .i64 ((p:Nat):Int)) (.int .i64 (((p+1):Nat):Int)) (.slice (some ⟨b,off,none⟩) (n - 1) cap) (ag g 0) (ag g 0) w7 w9 o7 m7 hw9))
end
open Go.Gl Go.RowKit
theorem PM.rowOB {w:World}{g:Nat}{vo:Value}{R:List PV} (h:PM w g vo R) (hne:R≠[]):∃ b off cap,vo = .slice (some ⟨b,off,none⟩) R.length cap∧OB w 153 1 b off R.length cap (R.map (·.pv)):=by
 rcases h.row.ob with ⟨_,h2,_⟩ | ⟨b,off,cap,hv,ob⟩
 ·exact absurd (List.length_eq_zero_iff.1 h2) hne
 ·exact⟨b,off,cap,hv,ob⟩
theorem PM.pageOB {w:World}{g:Nat}{vo:Value}{R:List PV} (h:PM w g vo R) {q:PV} (hq:q∈R) (hne:q.es≠[]):∃ pb po pc,q.pv = .slice (some ⟨pb,po,none⟩) q.es.length pc∧OB w 131 2 pb po q.es.length pc (dn q.es):=by
 rcases (h.pg q hq).ob with ⟨_,h2,_⟩ | ⟨b,off,cap,hv,ob⟩
 ·exact absurd (List.length_eq_zero_iff.1 h2) hne
 ·exact⟨b,off,cap,hv,ob⟩
theorem wC {w:World}{g:Nat}{vo:Value}{R:List PV} (hm:PM w g vo R) {p:Int} (hb:p≤1000000) (hn:R.length≤1000000) (ne:∀ q∈R,q.es≠[]) (hl:∀ q∈R,q.es.length≤32) (hj:p<0∨gK (aB R) p.toNat=false) :
  Calls Try.prog 123 #[.pointer (some ⟨g,0,none⟩),.int .i64 p] w fun e w'=>e = .returned (.bool false)∧ae aj w w':=by
 by_cases h0:p<0
 ·clear hm ne hl hj
  go_enter Try.func123,Try.ntmps123
  go_upto_region 1 with fail
  refine gJ (d := .region 1 (aJ 1 Try.f123) true) (by kernel_rfl) ?_
  refine RW.wp (Ee h0 ?_)
  intros
  rename_i m
  go_wp2
  go_ret
  exact⟨rfl,m⟩
 have hj:=hj.resolve_left h0
 obtain⟨p,rfl⟩:=Int.eq_ofNat_of_zero_le (show 0≤p by omega)
 rw [Int.toNat_natCast] at hj
 by_cases h1:p+1<R.length
 ·obtain⟨b,off,cap,rfl,ob⟩:=hm.rowOB (fun e=>by rw [e] at h1;simp at h1)
  have hp:p<R.length:=by omega
  obtain⟨pb,po,pc,e1,ob1⟩:=hm.pageOB (List.getElem_mem hp) (ne _ (List.getElem_mem hp))
  obtain⟨qb,qo,qc,e2,ob2⟩:=hm.pageOB (List.getElem_mem h1) (ne _ (List.getElem_mem h1))
  have l1:=hl _ (List.getElem_mem hp)
  have l2:=hl _ (List.getElem_mem h1)
  have k1:(R.map (·.pv))[p]?=some (.slice (some ⟨pb,po,none⟩) (R[p]).es.length pc):=by rw [← e1];simp [hp]
  have k2:(R.map (·.pv))[p+1]?=some (.slice (some ⟨qb,qo,none⟩) (R[p+1]).es.length qc):=by rw [← e2];simp [h1]
  have hs:¬ (R[p]).es.length+(R[p+1]).es.length≤16:=by
   unfold gK at hj
   rw [dN,iE hp,iE h1,dA,dA,decide_eq_true h1,Bool.true_and] at hj
   exact of_decide_eq_false hj
  have hg:=hm.hg
  clear hm hl hj ne ob1 ob2 e1 e2
  generalize (R[p]).es.length=m1 at *
  generalize (R[p+1]).es.length=m2 at *
  go_enter Try.func123,Try.ntmps123
  go_upto_region 1 with fail
  refine gJ (d := .region 1 (aJ 1 Try.f123) true) (by kernel_rfl) ?_
  refine RW.wp (EJ hg ob h1 hn k1 k2 (by omega) (by omega) hs ?_)
  intros
  rename_i m
  go_wp2
  go_ret
  exact⟨rfl,m⟩
 ·rcases hm.row.ob with ⟨h2,h3,_⟩ | ⟨b,off,cap,rfl,ob⟩
  ·have hR:R=[]:=List.length_eq_zero_iff.1 h3
   subst hR h2
   have hg:=hm.hg
   clear hm
   go_enter Try.func123,Try.ntmps123
   go_upto_region 1 with fail
   refine gJ (d := .region 1 (aJ 1 Try.f123) true) (by kernel_rfl) ?_
   refine RW.wp (Ez hg (by omega) ?_)
   intros
   rename_i m
   go_wp2
   go_ret
   exact⟨rfl,m⟩
  have hg:=hm.hg
  clear hm
  go_enter Try.func123,Try.ntmps123
  go_upto_region 1 with fail
  refine gJ (d := .region 1 (aJ 1 Try.f123) true) (by kernel_rfl) ?_
  refine RW.wp (Ei hg (by omega) (by omega) ?_)
  intros
  rename_i m
  go_wp2
  go_ret
  exact⟨rfl,m⟩
theorem Eu {α:Type} (R:List α) (p:Nat) (hp:p+1<R.length):∃ A q r C,R=A ++ [q,r] ++ C∧A.length=p∧R[p]=q∧R[p+1]=r:=by
 obtain⟨A,q,C,rfl,rfl,hq⟩:=parts R p (by omega)
 cases C with
 | nil=>simp at hp
 | cons r C=>exact⟨A,q,r,C,by simp,rfl,hq,by simp⟩
theorem BP {w w3 w7 w8 w':World}{g b off n cap:Nat}{A C:List PV}{q r:PV}{v7:Value} (hm:PM w g (.slice (some ⟨b,off,none⟩) n cap) (A ++ [q,r] ++ C)) (hn:n=(A ++ [q,r] ++ C).length)
  (o7:aU w7 131 2 v7 (q.es.length+r.es.length) (dn q.es ++ dn r.es)) (m7:ae aj w w7) (f7:aI w v7) (h3:w3=w7.setCell ⟨b,off+A.length,none⟩ v7)
  (o8:OB w8 153 1 b off (n - 1) cap ((((A ++ [q,r] ++ C).map (·.pv)).set A.length v7).take ((A.length+1)*1) ++ (((A ++ [q,r] ++ C).map (·.pv)).set A.length v7).drop ((A.length+1+1)*1))) (m8:ae (fun k=>k=b) w3 w8)
  (h':w'=w8.setCell ⟨g,0,none⟩ (.slice (some ⟨b,off,none⟩) (n - 1:Nat) cap)) :
  PT w w' g (.slice (some ⟨b,off,none⟩) n cap) (A ++ [q,r] ++ C) (.slice (some ⟨b,off,none⟩) (n - 1:Nat) cap) (A ++ [⟨v7,q.es ++ r.es⟩] ++ C)∧aB (A ++ [⟨v7,q.es ++ r.es⟩] ++ C)=jU (aB (A ++ [q,r] ++ C)) A.length:=by
 subst hn
 have inq:q∈A ++ [q,r] ++ C:=by simp
 have hgl:g<w.heap.size:=lt_of_heap hm.hg
 have hbg:b≠g:=fun e=>hm.sep1 (by rw [e];rfl)
 have hbl:b<w.heap.size:=hm.row.lt b rfl
 have m3:ae (fun k=>k=b) w7 w3:=by rw [h3];exact (ae.refl (fun k=>k=b) w7).setCell (p:=⟨b,off+A.length,none⟩) (.inl rfl) v7
 have m38:=m3.trans m8 (U:=fun k=>k=b) (fun _ _ x=>x) (fun _ _ x=>x)
 have hg8:=m38.heap (m7.heap hm.hg (fun x=>x)) (Ne.symm hbg)
 have m':ae (fun k=>k=g) w8 w':=by rw [h'];exact (ae.refl (fun k=>k=g) w8).setCell (p:=⟨g,0,none⟩) (.inl rfl) _
 have hg':w'.heap[g]?=some (.cells #[.slice (some ⟨b,off,none⟩) ((A ++ [q,r] ++ C).length - 1:Nat) cap,.int .i64 (cnt (aB (A ++ [q,r] ++ C)):Nat)] 118 (0,0)):=by rw [h'];exact heap_set hg8 0 _
 have o':=o8.keep m' hbg
 have p7:=(o7.keep m38 (fun k hk e=>by have:=f7 k hk;omega)).keep m' (fun k hk e=>by have:=f7 k hk;omega)
 have hT:ae (fun k=>k=g∨(Value.slice (some ⟨b,off,none⟩) (A ++ [q,r] ++ C).length cap).ownBlock=some k∨∃ s∈[q,r],s.pv.ownBlock=some k) w w' :=
  (m7.trans m38 (U:=fun k=>k=b) (fun _ _ x=>x.elim) (fun _ _ x=>x)).trans m' (fun k _ hk => .inr (.inl (by rw [hk];rfl))) (fun k _ hk => .inl hk)
 have hl:A.length=(A.map (·.pv)).length:=by simp
 have eR:(((A ++ [q,r] ++ C).map (·.pv)).set A.length v7)=A.map (·.pv) ++ [v7] ++ ([r.pv] ++ C.map (·.pv)):=by
  rw [show A ++ [q,r] ++ C=A ++ [q] ++ ([r] ++ C) from by simp,List.map_append,List.map_append,hl]
  rw [List.map_cons,List.map_nil,iK]
  simp
 have eT:(A.map (·.pv) ++ [v7]).length=(A.length+1)*1:=by simp
 have eT2:(A.map (·.pv) ++ [v7] ++ [r.pv]).length=(A.length+1+1)*1:=by simp
 have eD:(A.map (·.pv) ++ [v7] ++ ([r.pv] ++ C.map (·.pv))).drop ((A.length+1+1)*1)=C.map (·.pv):=by
  rw [← List.append_assoc]
  exact List.drop_left' eT2
 rw [eR,List.take_left' eT,eD] at o'
 have up:=PM.upd (vo' := .slice (some ⟨b,off,none⟩) ((A ++ [q,r] ++ C).length - 1:Nat) cap) (A:=A) (B:=[q,r]) (C:=C) (N:=[⟨v7,q.es ++ r.es⟩]) (X:=fun _=>False) hm hT
  (by
   rw [hg',gm,gm,jF]
   have:cnt (aB [q,r])=(q.es ++ r.es).length:=by rw [vP,iw,oC,oC,yh,dA,dA,List.length_append,Nat.add_zero]
   rw [this])
  (by
   have e1:(A ++ [(⟨v7,q.es ++ r.es⟩:PV)] ++ C).length=(A ++ [q,r] ++ C).length - 1:=by simp
   rw [e1,List.map_append,List.map_append]
   exact o'.own)
  (.inl rfl)
  (by
   intro s hs
   rw [List.mem_singleton.1 hs]
   refine⟨?_,.inr f7⟩
   show aU _ _ 2 v7 (q.es ++ r.es).length _
   rw [List.length_append,kV]
   exact p7)
  (by
   intro s hs k hk hk2
   rw [List.mem_singleton.1 hs] at hk
   have:=f7 k hk
   simp [Value.ownBlock] at hk2
   omega)
  (List.pairwise_singleton _ _)
  (by
   intro s hs e he
   rw [List.mem_singleton.1 hs] at he
   rcases List.mem_append.1 he with he | he
   ·exact .inl ⟨q,by simp,he⟩
   ·exact .inl ⟨r,by simp,he⟩)
 refine⟨⟨up.1,hT.mono (fun k _ hk=>?_),up.2.1,fun k hk=>(up.2.2 k hk).imp id (fun x=>x.elim)⟩,?_⟩
 ·rcases hk with h | h | ⟨s,hs,h⟩
  ·exact .inl h
  ·exact .inr (.inl h)
  ·exact .inr (.inr ⟨s,List.mem_append_left _ (List.mem_append_right _ hs),h⟩)
 ·have hlen:A.length=(aB A).length:=(dN A).symm
  unfold jU
  have h1:(aB (A ++ [q,r] ++ C)).getD A.length []=ents q.es:=by rw [iE (by simp)];simp
  have h2:(aB (A ++ [q,r] ++ C)).getD (A.length+1) []=ents r.es:=by rw [iE (by simp)];simp
  rw [h1,h2,bW,bW,bW,bW,hlen,List.append_assoc (aB A) (aB [q,r]) (aB C),List.take_left',← List.append_assoc,iw,nI]
  ·rw [List.drop_left' (by simp [aB])]
  ·rfl
theorem ui {w:World}{g:Nat}{vo:Value}{R:List PV} (hm:PM w g vo R) {p:Nat} (hn:R.length≤1000000) (ne:∀ q∈R,q.es≠[]) (hj:gK (aB R) p=true) :
  Calls Try.prog 123 #[.pointer (some ⟨g,0,none⟩),.int .i64 p] w fun e w'=>e = .returned (.bool true)∧∃ vo' R',PT w w' g vo R vo' R'∧aB R'=jU (aB R) p:=by
 unfold gK at hj
 rw [Bool.and_eq_true,decide_eq_true_eq,decide_eq_true_eq,dN] at hj
 obtain⟨h1,hs⟩:=hj
 obtain⟨b,off,cap,rfl,ob⟩:=hm.rowOB (fun e=>by rw [e] at h1;simp at h1)
 have hp:p<R.length:=by omega
 rw [iE hp,iE h1,dA,dA] at hs
 obtain⟨pb,po,pc,e1,ob1⟩:=hm.pageOB (List.getElem_mem hp) (ne _ (List.getElem_mem hp))
 obtain⟨qb,qo,qc,e2,ob2⟩:=hm.pageOB (List.getElem_mem h1) (ne _ (List.getElem_mem h1))
 have k1:(R.map (·.pv))[p]?=some (.slice (some ⟨pb,po,none⟩) (R[p]).es.length pc):=by rw [← e1];simp [hp]
 have k2:(R.map (·.pv))[p+1]?=some (.slice (some ⟨qb,qo,none⟩) (R[p+1]).es.length qc):=by rw [← e2];simp [h1]
 have hg:=hm.hg
 have c1:=lS (hm.ents _ (List.getElem_mem hp))
 have c2:=lS (hm.ents _ (List.getElem_mem h1))
 have c3:=sD hm
 have hbg:b≠g:=fun e=>hm.sep1 (by rw [e];rfl)
 have hm0:0<(R[p]).es.length:=List.length_pos_iff.2 (ne _ (List.getElem_mem hp))
 have HM:=lh hm
 clear hm ne
 go_enter Try.func123,Try.ntmps123
 go_upto_region 1 with fail
 refine gJ (d := .region 1 (aJ 1 Try.f123) true) (by kernel_rfl) ?_
 refine RW.wp (Ej hg ob h1 hn k1 k2 (by omega) (by omega) hs ?_)
 intros
 rename_i w1 m1
 go_upto_region 3 with fail
 refine gJ (d := .region 3 (aJ 3 Try.f123) true) (by kernel_rfl) ?_
 refine RW.wp (join3 (m1.heap hg (fun x=>x)) (ob.keep m1 (fun x=>x)) h1 hn k1 k2 (ob1.keep m1 (fun x=>x)) (ob2.keep m1 (fun x=>x)) c1 c2 hm0 (by omega) ?_)
 intros
 rename_i v7 w7 w3 o7 m7 f7 v71 h3
 have hbl:b<w.heap.size:=ob.lt
 have hs1:=m1.size
 have mb:ae (fun k=>k=b) w7 w3:=by rw [h3];exact (ae.refl (fun k=>k=b) w7).setCell (p:=⟨b,off+p,none⟩) (.inl rfl) v7
 have hg3:=mb.heap (m7.heap (m1.heap hg (fun x=>x)) (fun x=>x)) (Ne.symm hbg)
 have ob3:OB w3 153 1 b off R.length cap ((R.map (·.pv)).set p v7):=by rw [h3];exact qx ((ob.keep m1 (fun x=>x)).keep m7 (fun x=>x)) hp v7
 go_upto_region 4 with fail
 refine gJ (d := .region 4 (aJ 4 Try.f123) false) (by kernel_rfl) ?_
 refine RW.wp (join4 hg3 ob3 h1 hn (fun y hy=>by
  rcases List.mem_or_eq_of_mem_set hy with hy | rfl
  ·exact c3 y hy
  ·exact v71) (Ne.symm hbg) ?_)
 intros
 rename_i w8 w9 o8 m8 h9
 have H9:=lh h9
 clear hg3 ob3 c1 c2 c3 hg k1 k2 ob ob1 ob2 e1 e2 hs hbg h9
 go_wp2
 go_ret
 obtain⟨A,q,r,C,rfl,rfl,hq,hr⟩:=Eu R p h1
 rw [hq,hr] at o7
 obtain⟨p1,p2⟩:=BP (HM.out.keep0 m1) rfl o7 m7 f7 h3 o8 m8 H9.out
 exact⟨rfl,_,_,p1.first m1,p2⟩
open Go.Gl Go.RowKit
theorem PT.trans {a b c:World}{g:Nat}{vo vo1 vo2:Value}{R R1 R2:List PV} (h:PT a b g vo R vo1 R1) (k:PT b c g vo1 R1 vo2 R2):PT a c g vo R vo2 R2:=by
 refine⟨k.pm,h.mods.trans k.mods (fun _ _ x=>x) (fun i hi x=>?_),fun i hi=>?_,fun i hi=>?_⟩
 ·rcases h.ms i x with h1 | h1
  ·exact h1
  ·omega
 ·rcases k.ms i hi with h1 | h1
  ·exact h.ms i h1
  ·exact .inr (Nat.le_trans h.mods.size h1)
 ·rcases k.md i hi with h1 | h1
  ·exact h.md i h1
  ·exact .inr (Nat.le_trans h.mods.size h1)
theorem BU {w w':World}{g b off n cap pb po pc i:Nat}{A C:List PV}{q:PV} (hm:PM w g (.slice (some ⟨b,off,none⟩) n cap) (A ++ [q] ++ C)) (hn:n=(A ++ [q] ++ C).length) (hq:q.pv = .slice (some ⟨pb,po,none⟩) q.es.length pc) (hi:i<q.es.length)
  (hT:ae (fun k=>k=g∨k=b∨k=pb) w w')
  (hg:w'.heap[g]?=some (.cells #[.slice (some ⟨b,off,none⟩) n cap,.int .i64 ((cnt (aB (A ++ [q] ++ C)) - 1:Nat))] 118 (0,0)))
  (hr:OB w' 153 1 b off n cap (((A ++ [q] ++ C).map (·.pv)).set A.length (.slice (some ⟨pb,po,none⟩) (q.es.length - 1) pc)))
  (hp:OB w' 131 2 pb po (q.es.length - 1) pc (dn (q.es.eraseIdx i))) :
  PT w w' g (.slice (some ⟨b,off,none⟩) n cap) (A ++ [q] ++ C) (.slice (some ⟨b,off,none⟩) n cap) (A ++ [⟨.slice (some ⟨pb,po,none⟩) (q.es.length - 1) pc,q.es.eraseIdx i⟩] ++ C) ∧
   aB (A ++ [⟨.slice (some ⟨pb,po,none⟩) (q.es.length - 1) pc,q.es.eraseIdx i⟩] ++ C)=(aB (A ++ [q] ++ C)).set A.length ((ents q.es).eraseIdx i):=by
 subst hn
 have hin:q∈A ++ [q] ++ C:=by simp
 have hel:(q.es.eraseIdx i).length=q.es.length - 1:=by rw [List.length_eraseIdx,if_pos hi]
 have mods:ae (fun k=>k=g∨(Value.slice (some ⟨b,off,none⟩) (A ++ [q] ++ C).length cap).ownBlock=some k∨∃ r∈[q],r.pv.ownBlock=some k) w w':=hT.mono (fun k _ hk=>by
  rcases hk with h | h | h
  ·exact .inl h
  ·exact .inr (.inl (by rw [h];rfl))
  ·exact .inr (.inr ⟨q,List.mem_singleton.2 rfl,by rw [hq,h];rfl⟩))
 have hpb:pb≠b:=fun e=>(hm.sep2 q hin).2 pb (by rw [hq];rfl) (by rw [e];rfl)
 have up:=PM.upd (vo' := .slice (some ⟨b,off,none⟩) (A ++ [q] ++ C).length cap) (A:=A) (B:=[q]) (C:=C) (N:=[⟨.slice (some ⟨pb,po,none⟩) (q.es.length - 1) pc,q.es.eraseIdx i⟩]) (X:=fun _=>False) hm mods
  (by
   have e:cnt (aB (A ++ [(⟨.slice (some ⟨pb,po,none⟩) (q.es.length - 1) pc,q.es.eraseIdx i⟩:PV)] ++ C))=cnt (aB (A ++ [q] ++ C)) - 1:=by
    rw [gm,gm,jF,jF,hel];omega
   rw [e]
   exact hg)
  (by
   have e1:(A ++ [(⟨.slice (some ⟨pb,po,none⟩) (q.es.length - 1) pc,q.es.eraseIdx i⟩:PV)] ++ C).length=(A ++ [q] ++ C).length:=by simp
   have e2:(A ++ [(⟨.slice (some ⟨pb,po,none⟩) (q.es.length - 1) pc,q.es.eraseIdx i⟩:PV)] ++ C).map (·.pv)=((A ++ [q] ++ C).map (·.pv)).set A.length (.slice (some ⟨pb,po,none⟩) (q.es.length - 1) pc):=by
    rw [← List.map_set (f:=(·.pv)) (l:=A ++ [q] ++ C) (i:=A.length) (a:=⟨.slice (some ⟨pb,po,none⟩) (q.es.length - 1) pc,q.es.eraseIdx i⟩),iK]
   rw [e1,e2]
   exact hr.own)
  (.inl rfl)
  (by
   intro r hr
   rw [List.mem_singleton.1 hr]
   refine⟨?_,.inl ⟨q,List.mem_singleton.2 rfl,by rw [hq];rfl⟩⟩
   show aU _ _ 2 _ (q.es.eraseIdx i).length _
   rw [hel]
   exact hp.own)
  (by
   intro r hr k hk
   rw [List.mem_singleton.1 hr] at hk
   simp [Value.ownBlock] at hk ⊢
   omega)
  (List.pairwise_singleton _ _)
  (by
   intro r hr e he
   rw [List.mem_singleton.1 hr] at he
   exact .inl ⟨q,List.mem_singleton.2 rfl,List.mem_of_mem_eraseIdx he⟩)
 refine⟨⟨up.1,mods.mono (fun k _ hk=>?_),up.2.1,fun k hk=>(up.2.2 k hk).imp id (fun x=>x.elim)⟩,?_⟩
 ·rcases hk with h | h | ⟨r,hr,h⟩
  ·exact .inl h
  ·exact .inr (.inl h)
  ·exact .inr (.inr ⟨q,hin,by rw [List.mem_singleton.1 hr] at h;exact h⟩)
 ·have hlen:A.length=(aB A).length:=(dN A).symm
  rw [bW,bW,bW,bW,hlen,iw q,iK,iw,yI]
theorem Bg {w w7 w':World}{g b off n cap:Nat}{A C:List PV}{q:PV} (hm:PM w g (.slice (some ⟨b,off,none⟩) n cap) (A ++ [q] ++ C)) (hn:n=(A ++ [q] ++ C).length) (hq:q.es=[])
  (hr:OB w7 153 1 b off (n - 1) cap (((A ++ [q] ++ C).map (·.pv)).take (A.length*1) ++ ((A ++ [q] ++ C).map (·.pv)).drop ((A.length+1)*1))) (m7:ae (fun k=>k=b) w w7)
  (h':w'=w7.setCell ⟨g,0,none⟩ (.slice (some ⟨b,off,none⟩) (n - 1:Nat) cap)) :
  PT w w' g (.slice (some ⟨b,off,none⟩) n cap) (A ++ [q] ++ C) (.slice (some ⟨b,off,none⟩) (n - 1:Nat) cap) (A ++ [] ++ C)∧aB (A ++ [] ++ C)=(aB (A ++ [q] ++ C)).eraseIdx A.length:=by
 subst hn
 have hin:q∈A ++ [q] ++ C:=by simp
 have hbg:b≠g:=fun e=>hm.sep1 (by rw [e];rfl)
 have hg7:=m7.heap hm.hg (Ne.symm hbg)
 have m':ae (fun k=>k=g) w7 w':=by rw [h'];exact (ae.refl (fun k=>k=g) w7).setCell (p:=⟨g,0,none⟩) (.inl rfl) _
 have hg':w'.heap[g]?=some (.cells #[.slice (some ⟨b,off,none⟩) ((A ++ [q] ++ C).length - 1:Nat) cap,.int .i64 (cnt (aB (A ++ [q] ++ C)):Nat)] 118 (0,0)):=by rw [h'];exact heap_set hg7 0 _
 have o':=hr.keep m' hbg
 have hT:ae (fun k=>k=g∨(Value.slice (some ⟨b,off,none⟩) (A ++ [q] ++ C).length cap).ownBlock=some k∨∃ r∈[q],r.pv.ownBlock=some k) w w' :=
  m7.trans m' (fun k _ hk => .inr (.inl (by rw [hk];rfl))) (fun k _ hk => .inl hk)
 have eT:(A.map (·.pv)).length=A.length*1:=by simp
 have eT2:(A.map (·.pv) ++ [q.pv]).length=(A.length+1)*1:=by simp
 have eM:(A ++ [q] ++ C).map (·.pv)=A.map (·.pv) ++ [q.pv] ++ C.map (·.pv):=by simp
 rw [eM,List.drop_left' eT2,List.append_assoc (A.map (·.pv)),List.take_left' eT] at o'
 have up:=PM.upd (vo' := .slice (some ⟨b,off,none⟩) ((A ++ [q] ++ C).length - 1:Nat) cap) (A:=A) (B:=[q]) (C:=C) (N:=[]) (X:=fun _=>False) hm hT
  (by
   rw [hg',gm,gm,jF,hq]
   rfl)
  (by
   have e1:(A ++ ([]:List PV) ++ C).length=(A ++ [q] ++ C).length - 1:=by simp
   have e2:(A ++ ([]:List PV) ++ C).map (·.pv)=A.map (·.pv) ++ C.map (·.pv):=by simp
   rw [e1,e2]
   exact o'.own)
  (.inl rfl) (fun r hr=>by cases hr) (fun r hr=>by cases hr) List.Pairwise.nil (fun r hr=>by cases hr)
 refine⟨⟨up.1,hT.mono (fun k _ hk=>?_),up.2.1,fun k hk=>(up.2.2 k hk).imp id (fun x=>x.elim)⟩,?_⟩
 ·rcases hk with h | h | ⟨r,hr,h⟩
  ·exact .inl h
  ·exact .inr (.inl h)
  ·exact .inr (.inr ⟨q,hin,by rw [List.mem_singleton.1 hr] at h;exact h⟩)
 ·have hlen:A.length=(aB A).length:=(dN A).symm
  rw [bW,bW,bW,bW,hlen,List.eraseIdx_eq_take_drop_succ,List.append_assoc (aB A) (aB [q]) (aB C),List.take_left',← List.append_assoc,List.drop_left' (by simp [aB])]
  ·simp [aB]
  ·rfl
theorem AV {ps:Pgs}{k:List UInt8}{p i:Nat}{B:Bool} (hf:aK ps k=(p,i,B)) (hB:B=true):iV ps k=if (ps.getD p []).length=1 then ps.eraseIdx p else
  if gK (ps.set p ((ps.getD p []).eraseIdx i)) p then jU (ps.set p ((ps.getD p []).eraseIdx i)) p
  else if p≠0∧gK (ps.set p ((ps.getD p []).eraseIdx i)) (p - 1)=true then jU (ps.set p ((ps.getD p []).eraseIdx i)) (p - 1) else ps.set p ((ps.getD p []).eraseIdx i):=by
 unfold iV
 simp only [hf,hB,if_true]
theorem yY {w:World}{g:Nat}{vo kv:Value}{R:List PV}{xs:List UInt8} (hm:PM w g vo R) (hk:Rd w kv xs) (ok:fH (aB R)) (hn:R.length≤1000000) (hc:cnt (aB R)≤1000000000) :
    Calls Try.prog 87 #[.pointer (some ⟨g,0,none⟩),kv] w fun e w'=>∃ vo' R',e = .returned (.bool (aK (aB R) xs).2.2)∧PT w w' g vo R vo' R'∧aB R'=iV (aB R) xs:=by
  have FD:=lh (oJ hm hk ok hn)
  obtain⟨aq,cq,hqv,_⟩:=hk.form
  subst hqv
  have hfi:=qU (R:=R) (ys:=xs)
  have hdel:∀ p i B,aK (aB R) xs=(p,i,B)→B=true→_:=fun p i B hf hB=>AV hf hB
  have hno:(aK (aB R) xs).2.2=false→iV (aB R) xs=aB R:=fun h=>by unfold iV;rw [h];rfl
  generalize aK (aB R) xs=F at *
  obtain⟨p,i,B⟩:=F
  simp only at hfi FD hno ⊢
  cases B with
  | false =>
    rw [hno rfl]
    have HM:=lh hm
    clear hm hk ok hfi hdel hno
    go_enter Try.func87,Try.ntmps87
    go_wp2_with fail
    refine FD.out.mono ?_
    rintro e w1 ⟨rfl,m1⟩
    go_wp2
    go_ret
    exact⟨_,_,rfl,(PT.refl HM.out).then0 m1,rfl⟩
  | true =>
    have hdel:=hdel p i true rfl rfl
    obtain⟨hp,hi,_⟩:=hfi rfl
    rw [iE hp,dA] at hdel
    have HD:=lh hdel
    obtain⟨b,off,cap,pb,po,pc,rfl,hpv,ob2,ob1⟩:=hm.way hp hi
    have hbg:b≠g:=fun e=>hm.sep1 (by rw [e];rfl)
    have hpg:pb≠g:=fun e=>(hm.sep2 _ (List.getElem_mem hp)).1 (by rw [hpv,e];rfl)
    have hbp:b≠pb:=fun e=>(hm.sep2 _ (List.getElem_mem hp)).2 pb (by rw [hpv];rfl) (by rw [e];rfl)
    have hPV:(R.map (·.pv))[p]?=some (.slice (some ⟨pb,po,none⟩) (R[p]).es.length pc):=by rw [← hpv];simp [hp]
    have h1:=lS (hm.ents _ (List.getElem_mem hp))
    have h2:=sD hm
    have hmost:=ok.most (ents (R[p]).es) (List.mem_map_of_mem (f:=fun p=>ents p.es) (List.getElem_mem hp))
    rw [dA] at hmost
    have HM:=lh hm
    have HPV:=lh hpv
    have HOK:=lh ok
    have hN1:1≤cnt (aB R):=by
      obtain⟨A,q,C,rfl,rfl,hq⟩:=parts R p hp
      rw [hq] at hi
      rw [gm,jF]
      omega
    obtain⟨N,hN⟩:∃ N,cnt (aB R)=N:=⟨_,rfl⟩
    have HN:=lh hN
    rw [hN] at hc hN1
    have hsub:(N:Int) - 1=((N - 1:Nat):Int):=by omega
    clear hm hk ok hfi hdel hno hN hpv
    go_enter Try.func87,Try.ntmps87
    go_wp2_with fail
    refine FD.out.mono ?_
    rintro e w1 ⟨rfl,m1⟩
    have M1:=lh m1
    have hg1:w1.heap[g]?=some (.cells #[.slice (some ⟨b,off,none⟩) R.length cap,.int .i64 (N:Nat)] 118 (0,0)):=by rw [← HN.out];exact m1.heap HM.out.hg (fun x=>x)
    have e1:w1.cell? ⟨g,1,none⟩=some (.int .i64 (N:Nat)):=ai hg1 1
    have ef1:w1.frozen? ⟨g,1,none⟩=false:=dw hg1 1
    go_upto_region 5 with fail
    have hg2:(w1.setCell ⟨g,1,none⟩ (.int .i64 ((N - 1:Nat):Int))).heap[g]?=some (.cells #[.slice (some ⟨b,off,none⟩) R.length cap,.int .i64 ((N - 1:Nat):Int)] 118 (0,0)):=heap_set hg1 1 _
    have m2:ae (fun k=>k=g) w1 (w1.setCell ⟨g,1,none⟩ (.int .i64 ((N - 1:Nat):Int))):=(ae.refl (fun k=>k=g) w1).setCell (p:=⟨g,1,none⟩) (.inl rfl) _
    generalize World.setCell w1 _ _=w2 at *
    have ob12:=(ob1.keep m1 (fun x=>x)).keep m2 hbg
    have ob22:=(ob2.keep m1 (fun x=>x)).keep m2 hpg
    refine gJ (d := .region 5 (aJ 5 Try.f87) true) (by kernel_rfl) ?_
    refine RW.wp (del5 hg2 ob12 hp hPV ob22 h1 hi (by omega) (Ne.symm hpg) hbp (by omega) ?_)
    intros
    rename_i w3 w4 o3 m3 h4
    have m4:ae (fun k=>k=b) w3 w4:=by rw [h4];exact (ae.refl (fun k=>k=b) w3).setCell (p:=⟨b,off+p,none⟩) (.inl rfl) _
    have hg4:=m4.heap (m3.heap hg2 (Ne.symm hpg)) (Ne.symm hbg)
    have ob14:OB w4 153 1 b off R.length cap ((R.map (·.pv)).set p (.slice (some ⟨pb,po,none⟩) ((R[p]).es.length - 1) pc)):=by rw [h4];exact qx (ob12.keep m3 hbp) hp _
    have ob24:=o3.keep m4 (Ne.symm hbp)
    rw [← Aw] at ob24
    have hT:=(m2.trans m3 (U:=fun k=>k=g∨k=b∨k=pb) (fun _ _ h => .inl h) (fun _ _ h => .inr (.inr h))).trans m4 (U:=fun k=>k=g∨k=b∨k=pb) (fun _ _ h=>h) (fun _ _ h => .inr (.inl h))
    have KEY:∃ R1,PT w1 w4 g (.slice (some ⟨b,off,none⟩) R.length cap) R (.slice (some ⟨b,off,none⟩) R.length cap) R1∧aB R1=(aB R).set p ((ents (R[p]).es).eraseIdx i)∧R1.length=R.length∧∃ (hp1:p<R1.length),(R1[p]).es=(R[p]).es.eraseIdx i∧R1.map (·.pv)=(R.map (·.pv)).set p (.slice (some ⟨pb,po,none⟩) ((R[p]).es.length - 1) pc)∧(∀ q∈R1,q∈R∨q.es=(R[p]).es.eraseIdx i):=by
      have hpv:=HPV.out
      have hm1:=HM.out.keep0 m1
      have hN:=HN.out
      rw [← hN] at hg4
      clear HM HPV HN HOK HD FD hmost hPV h2 h1 e1 ef1 hg1 hg2 ob12 ob22 h4 o3 hN1 hsub hc
      obtain⟨A,q,C,rfl,rfl,hq⟩:=parts R p hp
      rw [hq] at hpv hi ob24 ob14 ⊢
      obtain⟨k1,k2⟩:=BU hm1 rfl hpv hi hT hg4 ob14 ob24
      refine⟨_,k1,k2,by simp,by simp,by simp,by rw [← List.map_set (f:=(·.pv)) (l:=A ++ [q] ++ C) (i:=A.length) (a:=⟨.slice (some ⟨pb,po,none⟩) (q.es.length - 1) pc,q.es.eraseIdx i⟩),iK],fun r hr=>?_⟩
      simp only [List.append_assoc,List.mem_append,List.mem_cons,List.not_mem_nil,or_false] at hr ⊢
      rcases hr with hr | rfl | hr
      · exact .inl (.inl hr)
      · exact .inr rfl
      · exact .inl (.inr (.inr hr))
    obtain⟨R1,K1,K2,K3,hp1,K4,K5,K6⟩:=KEY
    have c0:w4.cell? ⟨g,0,none⟩=some (.slice (some ⟨b,off,none⟩) R.length cap):=ai hg4 0
    have c1:w4.cell? ⟨b,off+p,none⟩=some (.slice (some ⟨pb,po,none⟩) ((R[p]).es.length - 1:Nat) pc):=ob14.cell (by rw [List.getElem?_set_self (by simp;exact hp)])
    have hpi:(p:Int)<(R.length:Int):=by omega
    have KK:=lh (And.intro K1 (And.intro K2 (And.intro K4 (And.intro K5 K6))))
    have h2':∀ y∈((R.map (·.pv)).set p (.slice (some ⟨pb,po,none⟩) ((R[p]).es.length - 1) pc)),y.oneCell'=true:=fun y hy=>by
      rcases List.mem_or_eq_of_mem_set hy with hy | rfl
      · exact h2 y hy
      · rfl
    clear K1 K2 K4 K5 K6 hT h4 o3 ob12 ob22 hg2 hg1 e1 ef1 h1 h2 hPV
    by_cases hlen:(R[p]).es.length=1
    · have hz:(((R[p]).es.length - 1:Nat):Int) == 0:=by rw [hlen];rfl
      have hD:=HD.out
      rw [if_pos hlen] at hD
      have HD2:=lh hD
      clear hD
      rw [hlen] at c1
      go_upto_region 7 with fail
      refine gJ (d := .region 7 (aJ 7 Try.f87) false) (by kernel_rfl) ?_
      refine RW.wp (del7 hg4 ob14 hp hn h2' (Ne.symm hbg) ?_)
      intros
      rename_i w5 w6 o5 m5 h6
      have H6:=lh h6
      have O5:=lh (And.intro o5 m5)
      clear h6 o5 m5 c0 c1
      go_wp2
      go_ret
      have k4:(R1[p]).es=[]:=by
        rw [KK.out.2.2.1]
        exact List.length_eq_zero_iff.1 (by rw [List.length_eraseIdx,if_pos hi];omega)
      have o5:=O5.out.1
      rw [← KK.out.2.2.2.1,← K3] at o5
      have k1:=KK.out.1
      have k2:=KK.out.2.1
      have h6:=H6.out
      have hr:(ents (R[p]).es).eraseIdx i=[]:=List.length_eq_zero_iff.1 (by rw [List.length_eraseIdx,dA,if_pos hi];omega)
      rw [← K3] at k1 h6
      obtain⟨A,q,C,rfl,rfl,hq⟩:=parts R1 p hp1
      rw [hq] at k4
      obtain⟨d1,d2⟩:=Bg k1.pm rfl k4 o5 O5.out.2 h6
      rw [K3] at k1 d1
      first | refine⟨_,_,rfl,(k1.trans d1).first M1.out,?_⟩ | refine⟨rfl,_,_,(k1.trans d1).first M1.out,?_⟩
      rw [HD2.out,d2,k2,hr,List.eraseIdx_set_eq]
    · have hz:(((((R[p]).es.length - 1:Nat):Int)) == 0)=false:=by rw [beq_eq_false_iff_ne];omega
      have hD:=HD.out
      rw [if_neg hlen,← KK.out.2.1] at hD
      have ne1:∀ q∈R1,q.es≠[]:=fun q hq=>by
        rcases KK.out.2.2.2.2 q hq with h | h
        · have:=HOK.out.ne (ents q.es) (List.mem_map_of_mem (f:=fun p=>ents p.es) h)
          intro e
          rw [e] at this
          exact this rfl
        · intro e
          rw [e] at h
          have:=congrArg List.length h
          rw [List.length_eraseIdx,if_pos hi] at this
          simp at this
          omega
      have le1:∀ q∈R1,q.es.length≤32:=fun q hq=>by
        rcases KK.out.2.2.2.2 q hq with h | h
        · have:=HOK.out.most (ents q.es) (List.mem_map_of_mem (f:=fun p=>ents p.es) h)
          rwa [dA] at this
        · rw [h,List.length_eraseIdx,if_pos hi];omega
      have hn1:R1.length≤1000000:=by omega
      have hsubp:p≠0→(p:Int) - 1=((p - 1:Nat):Int):=fun h=>by omega
      clear HD ob14 ob24 hg4 h2'
      by_cases hj:gK (aB R1) p=true
      · rw [if_pos hj] at hD
        have HD2:=lh hD
        clear hD
        have JY:=lh (ui KK.out.1.pm hn1 ne1 hj)
        clear ne1 le1
        go_wp2_with fail
        refine JY.out.mono ?_
        rintro e w5 ⟨rfl,vo2,R2,j1,j2⟩
        have J:=lh (And.intro j1 j2)
        clear j1 j2 c0 c1
        go_wp2
        go_ret
        exact⟨vo2,R2,rfl,(KK.out.1.trans J.out.1).first M1.out,J.out.2.trans HD2.out.symm⟩
      · rw [if_neg hj] at hD
        have JN:=lh (wC KK.out.1.pm (p:=(p:Int)) (by omega) hn1 ne1 le1 (.inr (by rw [Int.toNat_natCast];simpa using hj)))
        by_cases hk:p≠0∧gK (aB R1) (p - 1)=true
        · rw [if_pos hk] at hD
          have HD2:=lh hD
          clear hD
          have hs:=hsubp hk.1
          have JY:=lh (fun (w':World) (m:ae aj w4 w')=>ui (KK.out.1.pm.keep0 m) hn1 ne1 hk.2)
          clear ne1 le1 hsubp
          go_wp2_with fail
          refine JN.out.mono ?_
          rintro e w5 ⟨rfl,m5⟩
          have J2:=lh (JY.out w5 m5)
          have M5:=lh m5
          clear m5 c0 c1
          go_wp2_with fail
          refine J2.out.mono ?_
          rintro e w6 ⟨rfl,vo2,R2,j1,j2⟩
          have J:=lh (And.intro j1 j2)
          clear j1 j2
          go_wp2
          go_ret
          exact⟨_,_,rfl,(KK.out.1.trans (J.out.1.first M5.out)).first M1.out,J.out.2.trans HD2.out.symm⟩
        · rw [if_neg hk] at hD
          have HD2:=lh hD
          clear hD
          have JY:=lh (fun (w':World) (m:ae aj w4 w')=>wC (KK.out.1.pm.keep0 m) (p:=(p:Int) - 1) (by omega) hn1 ne1 le1 (by
            by_cases h0:p=0
            · left;omega
            · right
              rw [hsubp h0,Int.toNat_natCast]
              have:=fun h=>hk ⟨h0,h⟩
              simpa using this))
          have hs:IntKind.i64.wrap ((p:Int) - 1)=(p:Int) - 1:=IntWalk.i64_in _ (by omega)
          clear ne1 le1 hsubp
          go_wp2_with fail
          refine JN.out.mono ?_
          rintro e w5 ⟨rfl,m5⟩
          have J2:=lh (JY.out w5 m5)
          have M5:=lh m5
          clear m5 c0 c1
          go_wp2_with fail
          refine J2.out.mono ?_
          rintro e w6 ⟨rfl,m6⟩
          have M6:=lh m6
          clear m6
          go_wp2
          go_ret
          exact⟨_,_,rfl,((KK.out.1.then0 M5.out).then0 M6.out).first M1.out,HD2.out.symm⟩
open Go.Gl Go.RowKit
theorem PM.rowcell {w w':World}{g b off n cap:Nat}{R:List PV} (h:PM w g (.slice (some ⟨b,off,none⟩) n cap) R) (hm:ae aj w w') {i:Nat} (hi:i<R.length):w'.cell? ⟨b,off+i,none⟩=some (R[i]).pv:=by
 have:=(h.keep0 hm).open
 rcases this with ⟨h1,_⟩ | ⟨b',off',cap',hv,_,_,hc⟩
 ·rw [h1] at hi;simp at hi
 ·cases hv
  exact hc i hi
open Go.Gl Go.RowKit
end Go.Proofs.Ytglkmaalpammcaa
namespace Go.Gl
section
variable {P:Program}{a:Act}{o:Oper}
def yS (q:Option Addr) (m c s:Nat):Option Addr:=if c=m then q else q.map (fun p=>p.add (m*s))
end
theorem gX.cap {w:World}{s n c:Nat}{q:Option Addr}{xs:List Value} (h:gX w s (.slice q n c) n xs):n≤c:=by
 rcases h.2 with ⟨h0,rfl⟩ | ⟨g,off,cap,hv,h1,_⟩
 ·omega
 ·injection hv with _ _ e;subst e;exact h1
theorem gX.hi {w:World}{s n m c:Nat}{q:Option Addr}{xs:List Value} (h:gX w s (.slice q n c) n xs) (hm:m≤n):gX w s (.slice q m c) m (xs.take (m*s)):=by
 have hl:(xs.take (m*s)).length=m*s:=by rw [List.length_take,h.1];exact Nat.min_eq_left (Nat.mul_le_mul_right _ hm)
 refine⟨hl,?_⟩
 rcases h.2 with ⟨h0,rfl⟩ | ⟨g,off,cap,hv,h1,h2,h3,h4⟩
 ·obtain rfl:m=0:=by omega
  exact .inl ⟨h0,rfl⟩
 ·injection hv with e1 _ e3
  subst e1 e3
  refine .inr ⟨g,off,c,rfl,by omega,h2,?_,fun j u hj=>?_⟩
  ·rcases h3 with h3 | h3
   ·exact .inl (by omega)
   ·exact .inr h3
  ·refine h4 j u ?_
   have hj':=(List.getElem?_eq_some_iff.1 hj).1
   rw [hl] at hj'
   rw [List.getElem?_take_of_lt hj'] at hj
   exact hj
theorem gX.lo {w:World}{s n m c:Nat}{q:Option Addr}{xs:List Value} (h:gX w s (.slice q n c) n xs) (hm:m≤n):gX w s (.slice (yS q m c s) (n - m) (c - m)) (n - m) (xs.drop (m*s)):=by
 have hl:(xs.drop (m*s)).length=(n - m)*s:=by rw [List.length_drop,h.1,Nat.sub_mul]
 refine⟨hl,?_⟩
 rcases h.2 with ⟨h0,rfl⟩ | ⟨g,off,cap,hv,h1,h2,h3,h4⟩
 ·obtain rfl:m=0:=by omega
  obtain⟨a0,e0⟩:=h0.form
  injection e0 with e1 _ e3
  subst e1 e3
  unfold yS
  rw [if_pos rfl]
  exact .inl ⟨h0,by omega⟩
 ·injection hv with e1 _ e3
  subst e1 e3
  unfold yS
  by_cases hc:c=m
  ·rw [if_pos hc]
   refine .inr ⟨g,off,c - m,rfl,by omega,by omega,.inl (by omega),fun j u hj=>?_⟩
   have hj':=(List.getElem?_eq_some_iff.1 hj).1
   have h0:n - m=0:=by omega
   rw [hl,h0,Nat.zero_mul] at hj'
   omega
  ·rw [if_neg hc]
   refine .inr ⟨g,off+m*s,c - m,by rw [Option.map_some,Addr.add_lit],by omega,by omega,?_,fun j u hj=>?_⟩
   ·rcases h3 with h3 | h3
    ·exact .inl (by omega)
    ·exact .inr h3
   ·rw [List.getElem?_drop] at hj
    have:=h4 _ _ hj
    rwa [show off+m*s+j=off+(m*s+j) from by omega]
end Go.Gl
namespace Go.Proofs.Ytglkmaalpammcaa
open Go.Gl
def insL (l:List aN) (k v:List UInt8):List aN:=l.filter (fun e=>aF e.1 k) ++ (k,v) :: l.filter (fun e=>aF k e.1)
def iG (l:List aN) (k:List UInt8):List aN:=l.filter (fun e=>aF e.1 k) ++ l.filter (fun e=>aF k e.1)
theorem filter_all {p:aN→Bool}{l:List aN} (h:∀ e∈l,p e=true):l.filter p=l:=List.filter_eq_self.2 h
theorem gu {p:aN→Bool}{l:List aN} (h:∀ e∈l,p e=false):l.filter p=[]:=List.filter_eq_nil_iff.2 (fun e he=>by rw [h e he];simp)
theorem mJ {a b:List UInt8} (h:aF a b=true):aF b a=false:=jl h
theorem fO.parts {a b:List aN} (h:fO (a ++ b)):fO a∧fO b∧∀ x∈a,∀ y∈b,aF x.1 y.1=true:=List.pairwise_append.1 h
theorem AC {a b c:List UInt8} (h:aF a b=true) (k:aF c b=false):aF a c=true:=by
  cases hb:aF a c with
  | true=>rfl
  | false =>
    cases hc:aF c a with
    | true=>have:=fJ hc h;rw [k] at this;cases this
    | false=>have:=kP hb hc;subst this;rw [h] at k;cases k
theorem CS {α:Type} (R:List α) (p:Nat) (hp:p<R.length):∃ A q C,R=A ++ [q] ++ C∧A.length=p∧R[p]=q :=
 ⟨R.take p,R[p],R.drop (p+1),by rw [List.append_assoc,List.singleton_append,← List.drop_eq_getElem_cons hp,List.take_append_drop],by rw [List.length_take];omega,rfl⟩
theorem jE {α:Type} (A C:List α) (q r:α):(A ++ [q] ++ C).set A.length r=A ++ [r] ++ C:=by
 rw [List.append_assoc,List.set_append_right _ _ (Nat.le_refl _),Nat.sub_self];simp
structure Lies (ps:Pgs) (k:List UInt8) (A:Pgs) (l:List aN) (C:Pgs) (i:Nat):Prop where
 eq:ps=A ++ [l] ++ C
 fst:(aK ps k).1=A.length
 snd:(aK ps k).2.1=i
 at_:(aK ps k).2.2=iq l i k
 il:i≤l.length
 lo:∀ e∈A.flatten,aF e.1 k=true
 hi:∀ e∈C.flatten,aF k e.1=true
 plo:∀ e∈l.take i,aF e.1 k=true
 phi:∀ e∈l.drop i,aF e.1 k=false
 ris:fO l
theorem lies {ps:Pgs} (ok:fH ps) (hne:ps≠[]) (k:List UInt8):∃ A l C i,Lies ps k A l C i:=by
  have h0:0<ps.length:=List.length_pos_iff.2 hne
  have htl:=yC ps k
  have hp:gq ps k<ps.length:=by rw [nU];omega
  have hf:aK ps k=(gq ps k,fV (ps.getD (gq ps k) []) k,iq (ps.getD (gq ps k) []) (fV (ps.getD (gq ps k) []) k) k):=if_neg hne
  obtain⟨A,l,C,he,hA,hl⟩:=CS ps (gq ps k) hp
  have hg:ps.getD (gq ps k) []=l:=by simp [hp,hl]
  rw [hg] at hf
  have hris:=ok.ris
  rw [he,List.flatten_append,List.flatten_append] at hris
  obtain⟨r1,r2,r3⟩:=hris.parts
  obtain⟨r4,r5,r6⟩:=r1.parts
  have hr:fO l:=by simpa using r5
  refine⟨A,l,C,fV l k,he,by rw [hf];exact hA.symm,by rw [hf],by rw [hf],sN l k,?_,?_,?_,?_,hr⟩
  · intro e hea
    have hA0:A≠[]:=fun h=>by rw [h] at hea;simp at hea
    have hpos:0<gq ps k:=by rw [← hA];exact List.length_pos_iff.2 hA0
    have h1:=sG ok.ris ok.ne k (gq ps k) hp
    have h2:gq ps k<tw ps k:=by rw [nU] at hpos ⊢;omega
    rw [hl,decide_eq_true h2] at h1
    have hln:l≠[]:=ok.ne l (by rw [he];simp)
    cases l with
    | nil=>exact absurd rfl hln
    | cons x l =>
      have h3:aF k x.1=false:=by simpa [iI] using h1
      exact AC (r6 e hea x (by simp)) h3
  · intro e hec
    obtain⟨c,hc,hce⟩:=List.mem_flatten.1 hec
    cases C with
    | nil=>simp at hc
    | cons c0 C =>
      have hlen:gq ps k+1<ps.length:=by have hL:=congrArg List.length he;simp at hL;omega
      have h1:=sG ok.ris ok.ne k (gq ps k+1) hlen
      have h2:¬ gq ps k+1<tw ps k:=by rw [nU];omega
      have hget:ps[gq ps k+1]=c0:=by
        have:ps[gq ps k+1]?=some c0:=by rw [← hA,he];simp
        rw [List.getElem?_eq_getElem hlen] at this
        exact Option.some.inj this
      rw [hget,decide_eq_false h2] at h1
      have hc0n:c0≠[]:=ok.ne c0 (by rw [he];simp)
      cases c0 with
      | nil=>exact absurd rfl hc0n
      | cons x c0 =>
        have h3:aF k x.1=true:=by simpa [iI] using h1
        rw [List.flatten_cons] at r2 hec
        rcases List.mem_append.1 hec with h | h
        · rcases List.mem_cons.1 h with rfl | h
          · exact h3
          · exact fJ h3 ((List.pairwise_cons.1 r2.parts.1).1 e h)
        · exact fJ h3 (r2.parts.2.2 x (by simp) e h)
  · intro e hx
    rw [pW,(hr.split k).1] at hx
    exact (List.mem_filter.1 hx).2
  · intro e hx
    rw [sZ,(hr.split k).2] at hx
    simpa using (List.mem_filter.1 hx).2
theorem Lies.there {ps:Pgs}{k:List UInt8}{A C:Pgs}{l:List aN}{i:Nat} (h:Lies ps k A l C i) (ht:iq l i k=true):∃ (hi:i<l.length),(l[i]).1=k∧∀ e∈l.drop (i+1),aF k e.1=true:=by
  unfold iq at ht
  cases hx:l[i]? with
  | none=>rw [hx] at ht;cases ht
  | some e =>
    obtain⟨hi,he⟩:=List.getElem?_eq_some_iff.1 hx
    rw [hx] at ht
    have hk:e.1=k:=of_decide_eq_true ht
    refine⟨hi,by rw [he];exact hk,fun y hy=>?_⟩
    have hr:=h.ris
    rw [← List.take_append_drop i l,List.drop_eq_getElem_cons hi] at hr
    have:=(List.pairwise_cons.1 hr.parts.2.1).1 y hy
    rw [he,hk] at this
    exact this
theorem Lies.not {ps:Pgs}{k:List UInt8}{A C:Pgs}{l:List aN}{i:Nat} (h:Lies ps k A l C i) (ht:iq l i k=false):∀ e∈l.drop i,aF k e.1=true:=by
 intro e he
 rcases Nat.lt_or_ge i l.length with hi | hi
 ·rw [List.drop_eq_getElem_cons hi] at he
  have h1:=h.phi l[i] (by rw [List.drop_eq_getElem_cons hi];exact List.mem_cons_self)
  have h2:(l[i]).1≠k:=fun e=>by
   unfold iq at ht
   rw [List.getElem?_eq_getElem hi] at ht
   have:=of_decide_eq_false ht
   exact this e
  have h3:aF k (l[i]).1=true:=by
   cases hb:aF k (l[i]).1 with
   | true=>rfl
   | false=>exact absurd (kP h1 hb) h2
  rcases List.mem_cons.1 he with rfl | he
  ·exact h3
  ·have hr:=h.ris
   rw [← List.take_append_drop i l,List.drop_eq_getElem_cons hi] at hr
   exact fJ h3 ((List.pairwise_cons.1 hr.parts.2.1).1 e he)
 ·rw [List.drop_of_length_le hi] at he;cases he
theorem Lies.flat {ps:Pgs}{k:List UInt8}{A C:Pgs}{l:List aN}{i:Nat} (h:Lies ps k A l C i):ps.flatten=A.flatten ++ l.take i ++ (l.drop i ++ C.flatten):=by
 rw [h.eq,List.flatten_append,List.flatten_append,List.flatten_singleton]
 rw [List.append_assoc A.flatten (l.take i),← List.append_assoc (l.take i),List.take_append_drop,← List.append_assoc]
theorem Lies.below {ps:Pgs}{k:List UInt8}{A C:Pgs}{l:List aN}{i:Nat} (h:Lies ps k A l C i):ps.flatten.filter (fun e=>aF e.1 k)=A.flatten ++ l.take i:=by
 rw [h.flat,List.filter_append,filter_all (l:=A.flatten ++ l.take i) (fun e he=>by rcases List.mem_append.1 he with he | he;exact h.lo e he;exact h.plo e he),
  gu (l:=l.drop i ++ C.flatten) (fun e he=>by rcases List.mem_append.1 he with he | he;exact h.phi e he;exact mJ (h.hi e he)),List.append_nil]
theorem Lies.aboveT {ps:Pgs}{k:List UInt8}{A C:Pgs}{l:List aN}{i:Nat} (h:Lies ps k A l C i) (ht:iq l i k=true):ps.flatten.filter (fun e=>aF k e.1)=l.drop (i+1) ++ C.flatten:=by
 obtain⟨hi,hk,hab⟩:=h.there ht
 rw [h.flat,List.filter_append,gu (l:=A.flatten ++ l.take i) (fun e he=>by rcases List.mem_append.1 he with he | he;exact mJ (h.lo e he);exact mJ (h.plo e he)),List.nil_append,List.drop_eq_getElem_cons hi,List.cons_append,List.filter_cons,hk,fE]
 simp only [Bool.false_eq_true,if_false]
 exact filter_all (fun e he=>by rcases List.mem_append.1 he with he | he;exact hab e he;exact h.hi e he)
theorem Lies.aboveF {ps:Pgs}{k:List UInt8}{A C:Pgs}{l:List aN}{i:Nat} (h:Lies ps k A l C i) (ht:iq l i k=false):ps.flatten.filter (fun e=>aF k e.1)=l.drop i ++ C.flatten:=by
 rw [h.flat,List.filter_append,gu (l:=A.flatten ++ l.take i) (fun e he=>by rcases List.mem_append.1 he with he | he;exact mJ (h.lo e he);exact mJ (h.plo e he)),List.nil_append]
 exact filter_all (fun e he=>by rcases List.mem_append.1 he with he | he;exact h.not ht e he;exact h.hi e he)
theorem Ar (k:List UInt8):aK [] k=(0,0,false):=rfl
theorem zl {ps:Pgs} (ok:fH ps) (k:List UInt8):(aK ps k).2.2=true↔∃ e∈ps.flatten,e.1=k:=by
  by_cases hne:ps=[]
  · subst hne
    simp [Ar]
  obtain⟨A,l,C,i,h⟩:=lies ok hne k
  rw [h.at_]
  constructor
  · intro ht
    obtain⟨hi,hk,_⟩:=h.there ht
    refine⟨l[i],?_,hk⟩
    rw [h.eq,List.flatten_append,List.flatten_append]
    exact List.mem_append_left _ (List.mem_append_right _ (by simp))
  · rintro⟨e,he,rfl⟩
    cases ht:iq l i e.1 with
    | true=>rfl
    | false =>
      rw [h.flat] at he
      rcases List.mem_append.1 he with he | he
      · have:aF e.1 e.1=true:=by rcases List.mem_append.1 he with he | he;exact h.lo e he;exact h.plo e he
        rw [fE] at this;cases this
      · have:aF e.1 e.1=true:=by rcases List.mem_append.1 he with he | he;exact h.not ht e he;exact h.hi e he
        rw [fE] at this;cases this
def iQ (l:List aN) (k:List UInt8):Option (List UInt8):=(l.find? (fun e=>decide (e.1=k))).map (·.2)
theorem fO.find {l:List aN} (h:fO l) {e:aN} (he:e∈l):l.find? (fun x=>decide (x.1=e.1))=some e:=by
  induction l with
  | nil=>cases he
  | cons a l ih =>
    have hp:=List.pairwise_cons.1 h
    rcases List.mem_cons.1 he with rfl | he
    · simp
    · have hne:¬ a.1=e.1:=fun x=>by have:=hp.1 e he;rw [x,fE] at this;cases this
      rw [List.find?_cons,decide_eq_false hne]
      exact ih hp.2 he
theorem qh {ps:Pgs} (ok:fH ps) (k:List UInt8):jZ ps k=iQ ps.flatten k:=by
  by_cases hne:ps=[]
  · subst hne
    rfl
  obtain⟨A,l,C,i,h⟩:=lies ok hne k
  unfold jZ
  cases ht:iq l i k with
  | false =>
    rw [h.at_,ht]
    simp only [Bool.false_eq_true,if_false]
    unfold iQ
    have:ps.flatten.find? (fun e=>decide (e.1=k))=none:=by
      rw [List.find?_eq_none]
      intro e he hk
      have:=(zl ok k).2 ⟨e,he,of_decide_eq_true hk⟩
      rw [h.at_,ht] at this;cases this
    rw [this];rfl
  | true =>
    rw [h.at_,ht]
    obtain⟨hi,hk,_⟩:=h.there ht
    have hg:ps.getD (aK ps k).1 []=l:=by rw [h.fst,h.eq];simp
    rw [hg,h.snd]
    have hm:l[i]∈ps.flatten:=by
      rw [h.eq,List.flatten_append,List.flatten_append]
      exact List.mem_append_left _ (List.mem_append_right _ (by simp))
    unfold iQ
    have:=ok.ris.find hm
    rw [hk] at this
    rw [this]
    simp [hi]
theorem uj {ps:Pgs} (ok:fH ps) (k v:List UInt8):(lU ps k v).flatten=insL ps.flatten k v:=by
  by_cases hne:ps=[]
  · subst hne
    rfl
  obtain⟨A,l,C,i,h⟩:=lies ok hne k
  have hg:ps.getD A.length []=l:=by rw [h.eq];simp
  unfold lU insL
  rw [if_neg hne,h.below,h.fst,h.snd,h.at_,hg]
  cases ht:iq l i k with
  | true =>
    obtain⟨hi,hk,_⟩:=h.there ht
    rw [h.aboveT ht,if_pos rfl,h.eq,jE,List.flatten_append,List.flatten_append,List.flatten_singleton,List.set_eq_take_append_cons_drop,if_pos hi]
    simp
  | false =>
    rw [h.aboveF ht,if_neg (by simp)]
    split
    · rw [h.eq,List.append_assoc A [l] C,List.take_left' rfl,← List.append_assoc A [l] C,List.drop_left' (by simp),List.flatten_append,List.flatten_append,List.flatten_cons,List.flatten_singleton,List.take_append_drop]
      unfold jg
      simp
    · rw [h.eq,jE,List.flatten_append,List.flatten_append,List.flatten_singleton]
      unfold jg
      simp
theorem rP {ps:Pgs}{p:Nat} (h:gK ps p=true):(jU ps p).flatten=ps.flatten:=by
 unfold gK at h
 rw [Bool.and_eq_true,decide_eq_true_eq] at h
 have h1:=h.1
 unfold jU
 have e1:ps.getD p []=ps[p]'(by omega):=by simp [show p<ps.length from by omega]
 have e2:ps.getD (p+1) []=ps[p+1]:=by simp [h1]
 rw [e1,e2]
 have e:ps.take p ++ (ps[p]'(by omega) :: ps[p+1] :: ps.drop (p+2))=ps:=by rw [← List.drop_eq_getElem_cons h1,← List.drop_eq_getElem_cons (show p<ps.length by omega),List.take_append_drop]
 have e3:=congrArg List.flatten e
 rw [List.flatten_append,List.flatten_cons,List.flatten_cons] at e3
 rw [← e3,List.flatten_append,List.flatten_append,List.flatten_singleton]
 simp only [List.append_assoc]
theorem tK {ps:Pgs} (ok:fH ps) (k:List UInt8):(iV ps k).flatten=iG ps.flatten k:=by
  by_cases hne:ps=[]
  · subst hne
    rfl
  obtain⟨A,l,C,i,h⟩:=lies ok hne k
  have hg:ps.getD A.length []=l:=by rw [h.eq];simp
  unfold iV iG
  rw [h.below,h.fst,h.snd,h.at_,hg]
  cases ht:iq l i k with
  | false =>
    rw [h.aboveF ht,if_neg (by simp),h.flat]
  | true =>
    obtain⟨hi,hk,_⟩:=h.there ht
    rw [h.aboveT ht,if_pos rfl]
    have hset:(ps.set A.length (l.eraseIdx i)).flatten=A.flatten ++ l.take i ++ (l.drop (i+1) ++ C.flatten):=by
      rw [h.eq,jE,List.flatten_append,List.flatten_append,List.flatten_singleton,List.eraseIdx_eq_take_drop_succ]
      simp
    split
    · rename_i h1
      have hi0:i=0:=by omega
      subst hi0
      have hd:l.drop 1=[]:=List.drop_of_length_le (by omega)
      rw [h.eq,List.eraseIdx_eq_take_drop_succ,List.append_assoc A [l] C,List.take_left' rfl,← List.append_assoc A [l] C,List.drop_left' (by simp),List.flatten_append,hd]
      simp
    · simp only []
      split
      · rename_i hj
        rw [rP hj,hset]
      · split
        · rename_i hj
          rw [rP hj.2,hset]
        · rw [hset]
theorem uU {l:List aN} (h:fO l) (k v:List UInt8):fO (insL l k v):=by
 unfold insL
 refine List.pairwise_append.2 ⟨h.filter _,List.pairwise_cons.2 ⟨fun e he=>(List.mem_filter.1 he).2,h.filter _⟩,fun a ha b hb=>?_⟩
 have h1:aF a.1 k=true:=(List.mem_filter.1 ha).2
 rcases List.mem_cons.1 hb with rfl | hb
 ·exact h1
 ·exact fJ h1 (List.mem_filter.1 hb).2
theorem BX {l:List aN} (h:fO l) (k:List UInt8):fO (iG l k):=by
 unfold iG
 refine List.pairwise_append.2 ⟨h.filter _,h.filter _,fun a ha b hb=>?_⟩
 have h1:aF a.1 k=true:=(List.mem_filter.1 ha).2
 exact fJ h1 (List.mem_filter.1 hb).2
theorem yQ (l:List aN) (i:Nat) (x:aN) (hi:i≤l.length):(jg l i x).length=l.length+1:=by
 unfold jg
 rw [List.length_append,List.length_cons,List.length_take,List.length_drop];omega
theorem Dz {ps:Pgs} (ok:fH ps) (k v:List UInt8):fH (lU ps k v):=by
 refine⟨by rw [uj ok];exact uU ok.ris k v,?_,?_⟩
 all_goals
  by_cases hne:ps=[]
  ·subst hne
   intro q hq
   have:q=[(k,v)]:=by simpa [lU] using hq
   subst this
   simp
  obtain⟨A,l,C,i,h⟩:=lies ok hne k
  have hg:ps.getD A.length []=l:=by rw [h.eq];simp
  have hmem:∀ q,q∈A∨q∈C→q∈ps:=fun q hq=>by rw [h.eq];rcases hq with hq | hq <;> simp [hq]
  have hl:l∈ps:=by rw [h.eq];simp
  have hlen:=yQ l i (k,v) h.il
  unfold lU
  rw [if_neg hne,h.fst,h.snd,hg]
  intro q hq
  split at hq
  ·rw [h.eq,jE] at hq
   simp only [List.append_assoc,List.mem_append,List.mem_cons,List.not_mem_nil,or_false] at hq
   rcases hq with hq | rfl | hq
   ·first | exact ok.ne q (hmem q (.inl hq)) | exact ok.most q (hmem q (.inl hq))
   ·first
     | (intro e;have:=congrArg List.length e;rw [List.length_set] at this;exact ok.ne l hl (List.length_eq_zero_iff.1 this))
     | (rw [List.length_set];exact ok.most l hl)
   ·first | exact ok.ne q (hmem q (.inr hq)) | exact ok.most q (hmem q (.inr hq))
  ·split at hq
   ·rename_i hbig
    rw [h.eq,List.append_assoc A [l] C,List.take_left' rfl,← List.append_assoc A [l] C,List.drop_left' (by simp)] at hq
    have hm:=ok.most l hl
    simp only [List.append_assoc,List.mem_append,List.mem_cons,List.not_mem_nil,or_false] at hq
    rcases hq with hq | (rfl | rfl) | hq
    ·first | exact ok.ne q (hmem q (.inl hq)) | exact ok.most q (hmem q (.inl hq))
    ·first
      | (intro e;have h9:=congrArg List.length e;rw [List.length_take,hlen,List.length_nil] at h9;omega)
      | (rw [List.length_take];omega)
    ·first
      | (intro e;have h9:=congrArg List.length e;rw [List.length_drop,hlen,List.length_nil] at h9;omega)
      | (rw [List.length_drop,hlen];omega)
    ·first | exact ok.ne q (hmem q (.inr hq)) | exact ok.most q (hmem q (.inr hq))
   ·rename_i hbig
    rw [h.eq,jE] at hq
    simp only [List.append_assoc,List.mem_append,List.mem_cons,List.not_mem_nil,or_false] at hq
    rcases hq with hq | rfl | hq
    ·first | exact ok.ne q (hmem q (.inl hq)) | exact ok.most q (hmem q (.inl hq))
    ·first
      | (intro e;have h9:=congrArg List.length e;rw [hlen,List.length_nil] at h9;omega)
      | omega
    ·first | exact ok.ne q (hmem q (.inr hq)) | exact ok.most q (hmem q (.inr hq))
open Go.Gl
theorem getD_at {α:Type} (A C:List α) (q d:α):(A ++ [q] ++ C).getD A.length d=q:=by simp
theorem yu {ps:Pgs}{k:List UInt8}{A C:Pgs}{l:List aN}{i:Nat} (h:Lies ps k A l C i) (ht:iq l i k=true) :
    (l.length=1∧iV ps k=A ++ C) ∨
    (l.length≠1∧∃ c C2,C=c :: C2∧l.length - 1+c.length≤16∧iV ps k=A ++ [l.eraseIdx i ++ c] ++ C2) ∨
    (l.length≠1∧(∀ c∈C.head?,17≤l.length - 1+c.length)∧∃ A2 a,A=A2 ++ [a]∧a.length+(l.length - 1)≤16∧iV ps k=A2 ++ [a ++ l.eraseIdx i] ++ C) ∨
    (l.length≠1∧(∀ c∈C.head?,17≤l.length - 1+c.length)∧(∀ a∈A.getLast?,17≤a.length+(l.length - 1))∧iV ps k=A ++ [l.eraseIdx i] ++ C):=by
  obtain⟨hi,hk,_⟩:=h.there ht
  have hg:ps.getD A.length []=l:=by rw [h.eq];simp
  have hel:(l.eraseIdx i).length=l.length - 1:=by rw [List.length_eraseIdx,if_pos hi]
  have hdel:iV ps k=if l.length=1 then ps.eraseIdx A.length else
      if gK (A ++ [l.eraseIdx i] ++ C) A.length then jU (A ++ [l.eraseIdx i] ++ C) A.length
      else if A.length≠0∧gK (A ++ [l.eraseIdx i] ++ C) (A.length - 1)=true then jU (A ++ [l.eraseIdx i] ++ C) (A.length - 1) else A ++ [l.eraseIdx i] ++ C:=by
    unfold iV
    rw [h.fst,h.snd,h.at_,ht,hg,if_pos rfl]
    have:ps.set A.length (l.eraseIdx i)=A ++ [l.eraseIdx i] ++ C:=by rw [h.eq,jE]
    simp only [this]
  by_cases h1:l.length=1
  · left
    refine⟨h1,?_⟩
    rw [hdel,if_pos h1,h.eq,List.eraseIdx_eq_take_drop_succ,List.append_assoc A [l] C,List.take_left' rfl,← List.append_assoc A [l] C,List.drop_left' (by simp)]
  right
  rw [if_neg h1] at hdel
  by_cases hj:gK (A ++ [l.eraseIdx i] ++ C) A.length=true
  · left
    rw [if_pos hj] at hdel
    unfold gK at hj
    rw [Bool.and_eq_true,decide_eq_true_eq,decide_eq_true_eq,getD_at] at hj
    cases C with
    | nil=>simp at hj
    | cons c C2 =>
      have hc:(A ++ [l.eraseIdx i] ++ c :: C2).getD (A.length+1) []=c:=by simp
      rw [hc,hel] at hj
      refine⟨h1,c,C2,rfl,hj.2,?_⟩
      rw [hdel]
      unfold jU
      rw [getD_at,hc,List.append_assoc A,List.take_left' rfl,show A ++ ([l.eraseIdx i] ++ c :: C2)=(A ++ [l.eraseIdx i,c]) ++ C2 from by simp,List.drop_left' (by simp)]
  · right
    rw [if_neg hj] at hdel
    have hC:∀ c∈C.head?,17≤l.length - 1+c.length:=by
      intro c hc
      cases C with
      | nil=>simp at hc
      | cons c' C2 =>
        obtain rfl:c'=c:=by simpa using hc
        unfold gK at hj
        have hc:(A ++ [l.eraseIdx i] ++ c' :: C2).getD (A.length+1) []=c':=by simp
        rw [Bool.and_eq_true,decide_eq_true_eq,decide_eq_true_eq,getD_at,hc,hel] at hj
        have:A.length+1<(A ++ [l.eraseIdx i] ++ c' :: C2).length:=by simp
        omega
    by_cases hk2:A.length≠0∧gK (A ++ [l.eraseIdx i] ++ C) (A.length - 1)=true
    · left
      rw [if_pos hk2] at hdel
      obtain⟨A2,a,rfl⟩:∃ A2 a,A=A2 ++ [a]:=⟨A.dropLast,A.getLast (fun e=>hk2.1 (by rw [e];rfl)),(List.dropLast_concat_getLast _).symm⟩
      have hl2:(A2 ++ [a]).length - 1=A2.length:=by simp
      rw [hl2] at hk2 hdel
      have hj2:=hk2.2
      have e1:A2 ++ [a] ++ [l.eraseIdx i] ++ C=A2 ++ [a] ++ ([l.eraseIdx i] ++ C):=by simp
      have g1:(A2 ++ [a] ++ [l.eraseIdx i] ++ C).getD A2.length []=a:=by rw [e1,getD_at]
      have g2:(A2 ++ [a] ++ [l.eraseIdx i] ++ C).getD (A2.length+1) []=l.eraseIdx i:=by
        rw [show A2.length+1=(A2 ++ [a]).length from by simp,getD_at]
      unfold gK at hj2
      rw [Bool.and_eq_true,decide_eq_true_eq,decide_eq_true_eq,g1,g2,hel] at hj2
      refine⟨h1,hC,A2,a,rfl,hj2.2,?_⟩
      rw [hdel]
      unfold jU
      rw [g1,g2]
      have e2:A2 ++ [a] ++ [l.eraseIdx i] ++ C=A2 ++ ([a,l.eraseIdx i] ++ C):=by simp
      have e3:A2 ++ ([a,l.eraseIdx i] ++ C)=(A2 ++ [a,l.eraseIdx i]) ++ C:=by simp
      rw [e2,List.take_left' rfl,e3,List.drop_left' (by simp)]
    · right
      rw [if_neg hk2] at hdel
      refine⟨h1,hC,fun a ha=>?_,hdel⟩
      have hA:A≠[]:=fun e=>by rw [e] at ha;simp at ha
      obtain⟨A2,a',rfl⟩:∃ A2 a,A=A2 ++ [a]:=⟨A.dropLast,A.getLast hA,(List.dropLast_concat_getLast _).symm⟩
      obtain rfl:a'=a:=by simpa using ha
      have hl2:(A2 ++ [a']).length - 1=A2.length:=by simp
      have hk3:¬ gK (A2 ++ [a'] ++ [l.eraseIdx i] ++ C) A2.length=true:=fun hh=>hk2 ⟨by simp,by rw [hl2];exact hh⟩
      have e1:A2 ++ [a'] ++ [l.eraseIdx i] ++ C=A2 ++ [a'] ++ ([l.eraseIdx i] ++ C):=by simp
      have g1:(A2 ++ [a'] ++ [l.eraseIdx i] ++ C).getD A2.length []=a':=by rw [e1,getD_at]
      have g2:(A2 ++ [a'] ++ [l.eraseIdx i] ++ C).getD (A2.length+1) []=l.eraseIdx i:=by
        rw [show A2.length+1=(A2 ++ [a']).length from by simp,getD_at]
      unfold gK at hk3
      rw [Bool.and_eq_true,decide_eq_true_eq,decide_eq_true_eq,g1,g2,hel] at hk3
      have:A2.length+1<(A2 ++ [a'] ++ [l.eraseIdx i] ++ C).length:=by simp
      omega
theorem xI {ps:Pgs}{k:List UInt8} (h:(aK ps k).2.2=false):iV ps k=ps:=by unfold iV;rw [h];rfl
theorem D6 {ps:Pgs} (ok:fH ps) (k:List UInt8):fH (iV ps k):=by
  suffices fin2:(∀ q∈iV ps k,q≠[])∧(∀ q∈iV ps k,q.length≤32) from⟨by rw [tK ok];exact BX ok.ris k,fin2.1,fin2.2⟩
  by_cases hne:ps=[]
  · subst hne
    rw [xI (ps:=[]) (k:=k) rfl]
    exact⟨fun q hq=>(List.not_mem_nil hq).elim,fun q hq=>(List.not_mem_nil hq).elim⟩
  obtain⟨A,l,C,i,h⟩:=lies ok hne k
  cases ht:iq l i k with
  | false=>rw [xI (by rw [h.at_,ht])];exact⟨ok.ne,ok.most⟩
  | true =>
    obtain⟨hi,hk,_⟩:=h.there ht
    have hmem:∀ q,q∈A∨q∈C→q∈ps:=fun q hq=>by rw [h.eq];rcases hq with hq | hq <;> simp [hq]
    have hl:l∈ps:=by rw [h.eq];simp
    have hel:(l.eraseIdx i).length=l.length - 1:=by rw [List.length_eraseIdx,if_pos hi]
    have hm:=ok.most l hl
    have okq:∀ q,q∈A∨q∈C→q≠[]∧q.length≤32:=fun q hq=>⟨ok.ne q (hmem q hq),ok.most q (hmem q hq)⟩
    have fin:∀ q∈iV ps k,q≠[]∧q.length≤32:=by
      intro q hq
      rcases yu h ht with ⟨h1,he⟩ | ⟨h1,c,C2,rfl,hs,he⟩ | ⟨h1,hC,A2,a,rfl,hs,he⟩ | ⟨h1,hC,hA,he⟩
      · rw [he] at hq
        rcases List.mem_append.1 hq with hq | hq
        · exact okq q (.inl hq)
        · exact okq q (.inr hq)
      · rw [he] at hq
        simp only [List.append_assoc,List.mem_append,List.mem_cons,List.not_mem_nil,or_false] at hq
        rcases hq with hq | rfl | hq
        · exact okq q (.inl hq)
        · have hc:=(okq c (.inr (by simp))).1
          refine⟨fun e=>hc (List.append_eq_nil_iff.1 e).2,by rw [List.length_append,hel];omega⟩
        · exact okq q (.inr (by simp [hq]))
      · rw [he] at hq
        simp only [List.append_assoc,List.mem_append,List.mem_cons,List.not_mem_nil,or_false] at hq
        rcases hq with hq | rfl | hq
        · exact okq q (.inl (by simp [hq]))
        · have hc:=(okq a (.inl (by simp))).1
          refine⟨fun e=>hc (List.append_eq_nil_iff.1 e).1,by rw [List.length_append,hel];omega⟩
        · exact okq q (.inr hq)
      · rw [he] at hq
        simp only [List.append_assoc,List.mem_append,List.mem_cons,List.not_mem_nil,or_false] at hq
        rcases hq with hq | rfl | hq
        · exact okq q (.inl hq)
        · refine⟨fun e=>?_,by rw [hel];omega⟩
          have h9:=congrArg List.length e
          rw [hel,List.length_nil] at h9
          omega
        · exact okq q (.inr hq)
    exact⟨fun q hq=>(fin q hq).1,fun q hq=>(fin q hq).2⟩
open Go.Gl
structure oV where
 k:List UInt8
 old:Option (List UInt8)
def nC (u:oV) (F:List aN):List aN:=match u.old with
 | none=>iG F u.k
 | some v=>insL F u.k v
def nN (l:List oV) (F:List aN):List aN:=l.foldr nC F
def lG:List (List oV)→List aN→List (List aN)
 | [],_=>[]
 | l :: ls,F=>nN l F :: lG ls (nN l F)
theorem nH (l:List aN) (k:List UInt8) (h:fO l):(iQ l k=none→l.filter (fun e=>decide (e.1=k))=[])∧∀ v,iQ l k=some v→(k,v)∈l:=by
 unfold iQ
 refine⟨fun hn=>?_,fun v hv=>?_⟩
 ·have:l.find? (fun e=>decide (e.1=k))=none:=by simpa using hn
  rw [List.find?_eq_none] at this
  exact List.filter_eq_nil_iff.2 this
 ·obtain⟨e,he,hv⟩:=Option.map_eq_some_iff.1 hv
  have h1:=List.find?_some he
  have h2:=List.mem_of_find?_eq_some he
  have:e=(k,v):=by
   have:=of_decide_eq_true h1
   rw [← this,← hv]
  rw [← this];exact h2
theorem oZ {l:List aN} (h:fO l) (k:List UInt8):l=l.filter (fun e=>aF e.1 k) ++ l.filter (fun e=>decide (e.1=k)) ++ l.filter (fun e=>aF k e.1):=by
  induction l with
  | nil=>rfl
  | cons e l ih =>
    have h1:=List.pairwise_cons.1 h
    have ih':=ih h1.2
    cases hk:aF e.1 k with
    | true =>
      have a2:decide (e.1=k)=false:=by
        refine decide_eq_false (fun x=>?_)
        rw [x,fE] at hk;cases hk
      have a3:=jl hk
      simp only [List.filter_cons,hk,a2,a3,if_true,Bool.false_eq_true,if_false,List.cons_append]
      exact congrArg _ ih'
    | false =>
      have hn:∀ x∈l,aF x.1 k=false:=fun x hx=>by
        cases hb:aF x.1 k with
        | false=>rfl
        | true=>have:=fJ (h1.1 x hx) hb;rw [hk] at this;cases this
      have n1:l.filter (fun e=>aF e.1 k)=[]:=gu hn
      by_cases he:e.1=k
      · have a2:decide (e.1=k)=true:=decide_eq_true he
        have a3:aF k e.1=false:=by rw [he,fE]
        have hn2:∀ x∈l,decide (x.1=k)=false:=fun x hx=>by
          refine decide_eq_false (fun y=>?_)
          have:=h1.1 x hx
          rw [he,y,fE] at this;cases this
        have n2:l.filter (fun e=>decide (e.1=k))=[]:=gu hn2
        rw [n1,n2] at ih'
        simp only [List.filter_cons,hk,a2,a3,if_true,Bool.false_eq_true,if_false,n1,n2,List.nil_append,List.cons_append]
        exact congrArg _ ih'
      · have a2:decide (e.1=k)=false:=decide_eq_false he
        have a3:aF k e.1=true:=by
          cases hb:aF k e.1 with
          | true=>rfl
          | false=>exact absurd (kP hk hb) he
        have hn2:∀ x∈l,decide (x.1=k)=false:=fun x hx=>by
          refine decide_eq_false (fun y=>?_)
          have:=fJ a3 (h1.1 x hx)
          rw [y,fE] at this;cases this
        have n2:l.filter (fun e=>decide (e.1=k))=[]:=gu hn2
        rw [n1,n2] at ih'
        simp only [List.filter_cons,hk,a2,a3,if_true,Bool.false_eq_true,if_false,n1,n2,List.nil_append]
        exact congrArg _ ih'
theorem ff1 (l:List aN) (k:List UInt8):(l.filter (fun e=>aF e.1 k)).filter (fun e=>aF e.1 k)=l.filter (fun e=>aF e.1 k):=filter_all (fun e he=>(List.mem_filter.1 he).2)
theorem ff2 (l:List aN) (k:List UInt8):(l.filter (fun e=>aF k e.1)).filter (fun e=>aF k e.1)=l.filter (fun e=>aF k e.1):=filter_all (fun e he=>(List.mem_filter.1 he).2)
theorem ff3 (l:List aN) (k:List UInt8):(l.filter (fun e=>aF e.1 k)).filter (fun e=>aF k e.1)=[]:=gu (fun e he=>jl (List.mem_filter.1 he).2)
theorem ff4 (l:List aN) (k:List UInt8):(l.filter (fun e=>aF k e.1)).filter (fun e=>aF e.1 k)=[]:=gu (fun e he=>jl (List.mem_filter.1 he).2)
theorem tq (l:List aN) (k v:List UInt8):(insL l k v).filter (fun e=>aF e.1 k)=l.filter (fun e=>aF e.1 k)∧(insL l k v).filter (fun e=>aF k e.1)=l.filter (fun e=>aF k e.1):=by
 unfold insL
 constructor
 ·rw [List.filter_append,List.filter_cons,ff1,ff4];simp [fE]
 ·rw [List.filter_append,List.filter_cons,ff3,ff2];simp [fE]
theorem uF (l:List aN) (k:List UInt8):(iG l k).filter (fun e=>aF e.1 k)=l.filter (fun e=>aF e.1 k)∧(iG l k).filter (fun e=>aF k e.1)=l.filter (fun e=>aF k e.1):=by
 unfold iG
 constructor
 ·rw [List.filter_append,ff1,ff4];simp
 ·rw [List.filter_append,ff3,ff2];simp
theorem uq {l l':List aN}{k:List UInt8} (h:fO l) (h1:l'.filter (fun e=>aF e.1 k)=l.filter (fun e=>aF e.1 k)) (h2:l'.filter (fun e=>aF k e.1)=l.filter (fun e=>aF k e.1)):nC ⟨k,iQ l k⟩ l'=l:=by
  have h3:=oZ h k
  obtain⟨g1,g2⟩:=nH l k h
  unfold nC
  cases hg:iQ l k with
  | none =>
    show iG l' k=l
    unfold iG
    rw [h1,h2]
    rw [g1 hg,List.append_nil] at h3
    exact h3.symm
  | some v =>
    show insL l' k v=l
    unfold insL
    rw [h1,h2]
    have hm:=g2 v hg
    have:l.filter (fun e=>decide (e.1=k))=[(k,v)]:=by
      have hr:fO (l.filter (fun e=>decide (e.1=k))):=List.Pairwise.sublist List.filter_sublist h
      have hmem:(k,v)∈l.filter (fun e=>decide (e.1=k)):=List.mem_filter.2 ⟨hm,by simp⟩
      have hall:∀ e∈l.filter (fun e=>decide (e.1=k)),e.1=k:=fun e he=>of_decide_eq_true (List.mem_filter.1 he).2
      generalize l.filter (fun e=>decide (e.1=k))=q at *
      rcases q with _ | ⟨a,_ | ⟨b,q⟩⟩
      · cases hmem
      · rw [List.mem_singleton.1 hmem]
      · have:=(List.pairwise_cons.1 hr).1 b (List.mem_cons_self ..)
        rw [hall a (List.mem_cons_self ..),hall b (List.mem_cons_of_mem _ (List.mem_cons_self ..)),fE] at this
        cases this
    rw [this] at h3
    rw [show l.filter (fun e=>aF e.1 k) ++ (k,v) :: l.filter (fun e=>aF k e.1)=l.filter (fun e=>aF e.1 k) ++ [(k,v)] ++ l.filter (fun e=>aF k e.1) by simp]
    exact h3.symm
theorem AO {l:List aN} (h:fO l) (k v:List UInt8):nC ⟨k,iQ l k⟩ (insL l k v)=l:=uq h (tq l k v).1 (tq l k v).2
theorem BO {l:List aN} (h:fO l) (k:List UInt8):nC ⟨k,iQ l k⟩ (iG l k)=l:=uq h (uF l k).1 (uF l k).2
theorem vX (l:List oV) (u:oV) (F:List aN):nN (l ++ [u]) F=nN l (nC u F):=by simp [nN]
theorem yL {F F':List aN}{u:oV} (h:nC u F'=F) (l:List oV) (ls:List (List oV)):lG ((l ++ [u]) :: ls) F'=lG (l :: ls) F:=by
 unfold lG
 rw [vX,h]
open Go.Gl
def bQ (p k:List UInt8):Bool:=decide (k.take p.length=p)
theorem qX (k:List UInt8):bQ [] k=true:=by simp [bQ]
theorem kD (x y:UInt8) (p k:List UInt8):bQ (x :: p) (y :: k)=(decide (x=y) && bQ p k):=by
 unfold bQ
 by_cases h:x=y
 ·subst h;simp
 ·have:¬ (List.take (x :: p).length (y :: k)=x :: p):=by
   rw [List.length_cons,List.take_succ_cons]
   intro e
   exact h ((List.cons.inj e).1.symm)
  rw [decide_eq_false this,decide_eq_false h];rfl
theorem uD:∀ {p k:List UInt8},bQ p k=true→aF k p=false
  | [],k,_=>by cases k <;> rfl
  | x :: p,[],h=>by simp [bQ] at h
  | x :: p, y :: k, h => by
    rw [kD,Bool.and_eq_true,decide_eq_true_eq] at h
    obtain⟨rfl,h⟩:=h
    simp only [aF,if_true]
    exact uD h
theorem qC:∀ {p a b:List UInt8},aF a p=false→bQ p a=false→aF a b=true→bQ p b=false
  | [],a,b,_,h,_=>by rw [qX] at h;cases h
  | x :: p,[],b,h,_,_=>by simp [aF] at h
  | x :: p,y :: a,[],_,_,h=>by simp [aF] at h
  | x :: p, y :: a, z :: b, h1, h2, h3 => by
    rw [kD] at h2 ⊢
    simp only [aF] at h1 h3
    by_cases hxy:y=x
    · subst hxy
      rw [if_pos rfl] at h1
      rw [decide_eq_true rfl,Bool.true_and] at h2
      by_cases hyz:y=z
      · subst hyz
        rw [if_pos rfl] at h3
        rw [decide_eq_true rfl,Bool.true_and]
        exact qC h1 h2 h3
      · rw [decide_eq_false hyz];rfl
    · rw [if_neg hxy] at h1
      have hz:¬ x=z:=by
        intro e
        subst e
        rw [if_neg hxy] at h3
        rw [h1] at h3
        cases h3
      rw [decide_eq_false hz];rfl
theorem wV {F:List aN} (h:fO F) (p:List UInt8):(F.filter (fun e => !aF e.1 p)).takeWhile (fun e=>bQ p e.1)=F.filter (fun e=>bQ p e.1):=by
  induction F with
  | nil=>rfl
  | cons e F ih =>
    have h1:=List.pairwise_cons.1 h
    have ih':=ih h1.2
    cases hl:aF e.1 p with
    | true =>
      have:bQ p e.1=false:=by
        cases hb:bQ p e.1 with
        | false=>rfl
        | true=>have:=uD hb;rw [hl] at this;cases this
      simp only [List.filter_cons,hl,this,Bool.not_true,Bool.false_eq_true,if_false]
      exact ih'
    | false =>
      cases hb:bQ p e.1 with
      | true =>
        simp only [List.filter_cons,hl,hb,Bool.not_false,if_true,List.takeWhile_cons]
        exact congrArg _ ih'
      | false =>
        have hn:F.filter (fun e=>bQ p e.1)=[]:=List.filter_eq_nil_iff.2 (fun x hx=>by
          rw [qC hl hb (h1.1 x hx)];simp)
        simp only [List.filter_cons,hl,hb,Bool.not_false,if_true,List.takeWhile_cons,Bool.false_eq_true,if_false,hn]
theorem xq {l:List aN}{k:List UInt8}:l.find? (fun e=>decide (e.1=k))=(l.filter (fun e=>decide (e.1=k))).head?:=by rw [List.head?_filter]
theorem yl (l:List aN) (k:List UInt8):iQ l k=((l.filter (fun e=>decide (e.1=k))).head?).map (·.2):=by
 unfold iQ
 rw [xq]
theorem pG (l:List aN) (k k':List UInt8) (p:aN→Bool) (hp:∀ e,e.1=k'→p e=true):(l.filter p).filter (fun e=>decide (e.1=k'))=l.filter (fun e=>decide (e.1=k')):=by
 rw [List.filter_filter]
 refine List.filter_congr (fun e _=>?_)
 by_cases h:e.1=k'
 ·rw [hp e h,decide_eq_true h];rfl
 ·rw [decide_eq_false h];rfl
theorem lD (l:List aN) (k':List UInt8) (p:aN→Bool) (hp:∀ e,e.1=k'→p e=false):(l.filter p).filter (fun e=>decide (e.1=k'))=[]:=by
 rw [List.filter_filter]
 refine gu (fun e _=>?_)
 by_cases h:e.1=k'
 ·rw [hp e h,Bool.and_false]
 ·rw [decide_eq_false h,Bool.false_and]
theorem CU (l:List aN) (k v k':List UInt8):iQ (insL l k v) k'=if k=k' then some v else iQ l k':=by
  rw [yl,yl]
  unfold insL
  rw [List.filter_append,List.filter_cons]
  by_cases h:k=k'
  · subst h
    rw [lD l k _ (fun e he=>by rw [he,fE])]
    simp
  · rw [if_neg h,if_neg (by simpa using h)]
    cases h1:aF k' k with
    | true =>
      rw [pG l k k' _ (fun e he=>by rw [he];exact h1),lD l k' _ (fun e he=>by rw [he];exact jl h1),List.append_nil]
    | false =>
      have h2:aF k k'=true:=by
        cases hb:aF k k' with
        | true=>rfl
        | false=>exact absurd (kP hb h1) h
      rw [lD l k' _ (fun e he=>by rw [he];exact h1),pG l k k' _ (fun e he=>by rw [he];exact h2),List.nil_append]
open Go.Gl Go.RowKit
theorem yf {w:World}{g o:Nat}{c d:Int} (hc:w.cell? ⟨g,o,none⟩=some (.int .i64 c)) (hf:w.frozen? ⟨g,o,none⟩=false) (h0 : -9223372036854775808≤c+d) (h1:c+d≤9223372036854775807) :
  Calls Try.prog 58 #[.pointer (some ⟨g,o,none⟩),.int .i64 d] w fun e w'=>e = .returned (.int .i64 (c+d))∧w'=w.setCell ⟨g,o,none⟩ (.int .i64 (c+d)):=by
 have HA:=lh (run_call_add (P:=Try.prog) Try.func85 (by kernel_rfl) (by kernel_rfl) (by kernel_rfl) .i64 (by kernel_rfl) (y:=d) (s:=c+d) hc hf (by simp [Op.intArith,IntWalk.i64_in _ (And.intro h0 h1)]))
 clear hc hf h0 h1
 go_enter Try.func58,Try.ntmps58
 go_wp2
 rw [HA.out]
 rw [Oper.upon_value]
 go_wp2
 go_ret
 exact⟨rfl,rfl⟩
def kT (xs:List UInt8):List Int:=xs.map (fun b=>(b.toNat:Int))
theorem Rd.conv {w:World}{v:Value}{xs:List UInt8} (h:Rd w v xs):(convert 77 9 v).run Try.prog w = .ok (.string (strOfNums (kT xs))) w:=by
 rcases h.open with ⟨h0,rfl⟩ | ⟨g,off,cap,rfl,h1,h2,_,hc⟩
 ·obtain⟨a,rfl⟩:=h0.form
  rw [run_convert_bytes_string w 77 9 5 _ 0 0 Try.underlying77 Try.underlying5 Try.underlying9]
  cases a <;> simp [Conv.bytesToString,loadCells]
  all_goals rfl
 ·have hx:∀ i,i<xs.length→w.cell? ⟨g,off+i,none⟩=some (.int .u8 ((kT xs).getD i 0)):=fun i hi=>by
   rw [hc i hi]
   simp [kT,hi]
  exact run_convert_bytes_arg w 77 5 Try.underlying77 Try.underlying5 g off xs.length cap (kT xs) (by simp [kT]) hx 9 Try.underlying9
theorem pR (xs:List UInt8):Lib.bytesOf (kT xs)=xs:=by
 unfold Lib.bytesOf kT
 rw [List.map_map]
 have:((fun n:Int=>UInt8.ofNat n.toNat) ∘ fun b:UInt8=>(b.toNat:Int))=id:=by
  funext b
  show UInt8.ofNat ((b.toNat:Int)).toNat=b
  rw [Int.toNat_natCast]
  exact UInt8.toNat_inj.1 (by simp)
 rw [this,List.map_id]
theorem oD {w:World}{x y:Value}{xs ys:List UInt8} (hx:Rd w x xs) (hy:Rd w y ys):Calls Try.prog 84 #[x,y] w fun e w'=>e = .returned (.bool (decide (xs=ys)))∧w'=w:=by
 have h1:=Rd.conv hx
 have h2:=Rd.conv hy
 have h3:((strOfNums (kT xs)).toList == (strOfNums (kT ys)).toList)=decide (xs=ys):=by
  rw [Lib.strOfNums_toList,Lib.strOfNums_toList,pR,pR]
  by_cases h:xs=ys
  ·subst h;simp
  ·rw [decide_eq_false h,beq_eq_false_iff_ne];exact h
 have H3:=lh h3
 generalize strOfNums (kT xs)=s at *
 generalize strOfNums (kT ys)=t at *
 clear hx hy h3
 rw [← H3.out]
 go_enter Try.func84,Try.ntmps84
 go_wp2
 go_ret
 exact⟨rfl,rfl⟩
open Go.Gl Go.RowKit
structure UV where
 c:Value
 u:oV
 sb:Nat
 kb:Nat
 ob:Nat
 kv:Value
 ov:Value
def UB (x:UV) (k:Nat):Prop:=k=x.sb∨k=x.kb∨x.kv.ownBlock=some k∨(x.u.old.isSome=true∧(k=x.ob∨x.ov.ownBlock=some k))
def AL (w:World) (x:UV):Prop:=match x.u.old with
 | none=>x.c = .func (.func 86) #[] #[.pointer (some ⟨x.sb,0,none⟩),.pointer (some ⟨x.kb,0,none⟩)]
 | some v=>x.c = .func (.func 88) #[] #[.pointer (some ⟨x.sb,0,none⟩),.pointer (some ⟨x.kb,0,none⟩),.pointer (some ⟨x.ob,0,none⟩)]∧w.heap[x.ob]?=some (.cells #[x.ov] 77 (0,0))∧Rd w x.ov v∧v.length≤1000000
structure kS (w:World) (sg:Nat) (x:UV):Prop where
 sB:w.heap[x.sb]?=some (.cells #[.pointer (some ⟨sg,0,none⟩)] 26 (0,0))
 kB:w.heap[x.kb]?=some (.cells #[x.kv] 77 (0,0))
 k:Rd w x.kv x.u.k
 lk:x.u.k.length≤1000000
 c:AL w x
theorem kS.keep {w w':World}{sg:Nat}{x:UV}{T:Nat→Prop} (h:kS w sg x) (hm:ae T w w') (ht:∀ k,UB x k→¬ T k):kS w' sg x:=by
  refine⟨hm.heap h.sB (ht _ (.inl rfl)),hm.heap h.kB (ht _ (.inr (.inl rfl))),h.k.keep hm (fun k hk=>ht k (.inr (.inr (.inl hk)))),h.lk,?_⟩
  have hc:=h.c
  unfold AL at hc ⊢
  cases ho:x.u.old with
  | none=>rw [ho] at hc;exact hc
  | some v =>
    rw [ho] at hc
    obtain⟨a,b,c,d⟩:=hc
    have hs:x.u.old.isSome=true:=by rw [ho];rfl
    exact⟨a,hm.heap b (ht _ (.inr (.inr (.inr ⟨hs,.inl rfl⟩)))),c.keep hm (fun k hk=>ht k (.inr (.inr (.inr ⟨hs,.inr hk⟩)))),d⟩
theorem kS.one {w:World}{sg:Nat}{x:UV} (h:kS w sg x):x.c.oneCell'=true:=by
 have hc:=h.c
 unfold AL at hc
 cases ho:x.u.old with
 | none=>rw [ho] at hc;rw [show x.c=_ from hc];rfl
 | some v=>rw [ho] at hc;rw [hc.1];rfl
structure JV where
 jv:Value
 us:List UV
def KS (sg mg:Nat) (vo:Value) (R:List PV) (jv:Value) (J:List JV) (k:Nat):Prop:=k=sg∨MS mg vo R k∨jv.ownBlock=some k∨∃ q∈J,q.jv.ownBlock=some k
def KD (R:List PV) (J:List JV) (k:Nat):Prop:=MD R k∨∃ q∈J,∃ x∈q.us,UB x k
structure KM (w:World) (sg mg:Nat) (vo:Value) (R:List PV) (jv:Value) (J:List JV) (n:Int):Prop where
 hg:w.heap[sg]?=some (.cells #[.pointer (some ⟨mg,0,none⟩),jv,.int .i64 n] 75 (0,0))
 pm:PM w mg vo R
 row:aU w 150 1 jv J.length (J.map (·.jv))
 pg:∀ q∈J,aU w 152 1 q.jv q.us.length (q.us.map (·.c))
 un:∀ q∈J,∀ x∈q.us,kS w sg x
 s1:¬ MS mg vo R sg∧jv.ownBlock≠some sg∧∀ q∈J,q.jv.ownBlock≠some sg
 s2:∀ k,jv.ownBlock=some k→¬ MS mg vo R k∧∀ q∈J,q.jv.ownBlock≠some k
 s3:∀ q∈J,∀ k,q.jv.ownBlock=some k→¬ MS mg vo R k
 s4:J.Pairwise (fun p q=>∀ k,p.jv.ownBlock=some k→q.jv.ownBlock≠some k)
 data:∀ k,KD R J k→¬ KS sg mg vo R jv J k
 dlt:∀ k,KD R J k→k<w.heap.size
theorem KM.lt {w:World}{sg mg:Nat}{vo jv:Value}{R:List PV}{J:List JV}{n:Int} (h:KM w sg mg vo R jv J n):∀ k,KS sg mg vo R jv J k→k<w.heap.size:=by
 rintro k (rfl | hk | hk | ⟨q,hq,hk⟩)
 ·exact lt_of_heap h.hg
 ·exact h.pm.lt k hk
 ·exact h.row.lt k hk
 ·exact (h.pg q hq).lt k hk
theorem KM.keep {w w':World}{sg mg:Nat}{vo jv:Value}{R:List PV}{J:List JV}{n:Int}{T:Nat→Prop} (h:KM w sg mg vo R jv J n) (hm:ae T w w') (h1:∀ k,KS sg mg vo R jv J k→¬ T k) (h2:∀ k,KD R J k→¬ T k):KM w' sg mg vo R jv J n :=
 ⟨hm.heap h.hg (h1 _ (.inl rfl)),h.pm.keep hm (fun k hk=>h1 k (.inr (.inl hk))) (fun k hk=>h2 k (.inl hk)),h.row.keep hm (fun k hk=>h1 k (.inr (.inr (.inl hk)))),fun q hq=>(h.pg q hq).keep hm (fun k hk=>h1 k (.inr (.inr (.inr ⟨q,hq,hk⟩)))),
  fun q hq x hx=>(h.un q hq x hx).keep hm (fun k hk=>h2 k (.inr ⟨q,hq,x,hx,hk⟩)),h.s1,h.s2,h.s3,h.s4,h.data,fun k hk=>Nat.lt_of_lt_of_le (h.dlt k hk) hm.size⟩
theorem KM.keep0 {w w':World}{sg mg:Nat}{vo jv:Value}{R:List PV}{J:List JV}{n:Int} (h:KM w sg mg vo R jv J n) (hm:ae aj w w'):KM w' sg mg vo R jv J n:=h.keep hm (fun _ _ x=>x) (fun _ _ x=>x)
structure KT (w w':World) (sg mg:Nat) (vo:Value) (R:List PV) (jv:Value) (J:List JV) (vo':Value) (R':List PV) (jv':Value) (J':List JV) (n':Int):Prop where
 km:KM w' sg mg vo' R' jv' J' n'
 mods:ae (KS sg mg vo R jv J) w w'
 ks:∀ k,KS sg mg vo' R' jv' J' k→KS sg mg vo R jv J k∨w.heap.size≤k
 kd:∀ k,KD R' J' k→KD R J k∨w.heap.size≤k
theorem KT.refl {w:World}{sg mg:Nat}{vo jv:Value}{R:List PV}{J:List JV}{n:Int} (h:KM w sg mg vo R jv J n):KT w w sg mg vo R jv J vo R jv J n:=⟨h,ae.refl _ _,fun _ => .inl,fun _ => .inl⟩
theorem KT.first {a b c:World}{sg mg:Nat}{vo jv vo' jv':Value}{R R':List PV}{J J':List JV}{n':Int} (h:KT b c sg mg vo R jv J vo' R' jv' J' n') (m:ae aj a b):KT a c sg mg vo R jv J vo' R' jv' J' n' :=
 ⟨h.km,m.trans h.mods (fun _ _ x=>x.elim) (fun _ _ x=>x),fun k hk=>(h.ks k hk).imp id (Nat.le_trans m.size),fun k hk=>(h.kd k hk).imp id (Nat.le_trans m.size)⟩
theorem KT.then0 {a b c:World}{sg mg:Nat}{vo jv vo' jv':Value}{R R':List PV}{J J':List JV}{n':Int} (h:KT a b sg mg vo R jv J vo' R' jv' J' n') (m:ae aj b c):KT a c sg mg vo R jv J vo' R' jv' J' n':=⟨h.km.keep0 m,h.mods.then0 m,h.ks,h.kd⟩
theorem KT.trans {a b c:World}{sg mg:Nat}{vo jv vo' jv' vo2 jv2:Value}{R R' R2:List PV}{J J' J2:List JV}{n' n2:Int} (h:KT a b sg mg vo R jv J vo' R' jv' J' n') (k:KT b c sg mg vo' R' jv' J' vo2 R2 jv2 J2 n2):KT a c sg mg vo R jv J vo2 R2 jv2 J2 n2 :=
 ⟨k.km,h.mods.trans k.mods (fun _ _ x=>x) (fun i hi x=>by
  rcases h.ks i x with y | y
  ·exact y
  ·omega),fun i hi=>by
  rcases k.ks i hi with y | y
  ·exact h.ks i y
  ·exact .inr (Nat.le_trans h.mods.size y),fun i hi=>by
  rcases k.kd i hi with y | y
  ·exact h.kd i y
  ·exact .inr (Nat.le_trans h.mods.size y)⟩
theorem KM.map {w w':World}{sg mg:Nat}{vo jv vo':Value}{R R':List PV}{J:List JV}{n:Int} (h:KM w sg mg vo R jv J n) (t:PT w w' mg vo R vo' R'):KT w w' sg mg vo R jv J vo' R' jv J n:=by
 have ks:∀ k,KS sg mg vo' R' jv J k→KS sg mg vo R jv J k∨w.heap.size≤k:=by
  rintro k (rfl | hk | hk | hk)
  ·exact .inl (.inl rfl)
  ·exact (t.ms k hk).imp (fun x => .inr (.inl x)) id
  ·exact .inl (.inr (.inr (.inl hk)))
  ·exact .inl (.inr (.inr (.inr hk)))
 have kd:∀ k,KD R' J k→KD R J k∨w.heap.size≤k:=by
  rintro k (hk | hk)
  ·exact (t.md k hk).imp .inl id
  ·exact .inl (.inr hk)
 have nms:∀ k,k<w.heap.size→¬ MS mg vo R k→¬ MS mg vo' R' k:=fun k hk hn x=>by
  rcases t.ms k x with y | y
  ·exact hn y
  ·omega
 refine⟨⟨t.mods.heap h.hg h.s1.1,t.pm,h.row.keep t.mods (fun k hk=>(h.s2 k hk).1),fun q hq=>(h.pg q hq).keep t.mods (fun k hk=>h.s3 q hq k hk),fun q hq x hx=>(h.un q hq x hx).keep t.mods (fun k hk y=>h.data k (.inr ⟨q,hq,x,hx,hk⟩) (.inr (.inl y))),
  ⟨nms sg (lt_of_heap h.hg) h.s1.1,h.s1.2⟩,fun k hk=>⟨nms k (h.row.lt k hk) (h.s2 k hk).1,(h.s2 k hk).2⟩,fun q hq k hk=>nms k ((h.pg q hq).lt k hk) (h.s3 q hq k hk),h.s4,fun k hk hs=>?_,fun k hk=>?_⟩,t.mods.mono (fun k _ hk => .inr (.inl hk)),ks,kd⟩
 ·rcases hk with hk | hk
  ·have hpm:=t.pm.data k hk
   rcases hs with rfl | hs | hs
   ·rcases t.md k hk with y | y
    ·exact h.data k (.inl y) (.inl rfl)
    ·have:=lt_of_heap h.hg;omega
   ·exact hpm hs
   ·rcases t.md k hk with y | y
    ·exact h.data k (.inl y) (.inr (.inr hs))
    ·have:=h.lt k (.inr (.inr hs));omega
  ·have hlt:=h.dlt k (.inr hk)
   rcases ks k hs with y | y
   ·exact h.data k (.inr hk) y
   ·omega
 ·rcases kd k hk with y | y
  ·exact Nat.lt_of_lt_of_le (h.dlt k y) t.mods.size
  ·rcases hk with hk | hk
   ·exact t.pm.dlt k hk
   ·have:=h.dlt k (.inr hk);omega
theorem KM.chg {w w':World}{sg mg:Nat}{vo jv jv':Value}{R:List PV}{J J':List JV}{n n':Int}{Z:Nat→Prop} (h:KM w sg mg vo R jv J n) (m:ae (fun k=>k=sg∨jv.ownBlock=some k∨∃ q∈J,q.jv.ownBlock=some k) w w')
  (hg':w'.heap[sg]?=some (.cells #[.pointer (some ⟨mg,0,none⟩),jv',.int .i64 n'] 75 (0,0))) (row':aU w' 150 1 jv' J'.length (J'.map (·.jv))) (hjv:jv'.ownBlock=jv.ownBlock∨aI w jv')
  (pg':∀ q∈J',aU w' 152 1 q.jv q.us.length (q.us.map (·.c))∧((∃ p∈J,q.jv.ownBlock=p.jv.ownBlock)∨aI w q.jv))
  (un':∀ q∈J',∀ x∈q.us,(∃ p∈J,x∈p.us)∨(kS w sg x∧∀ k,UB x k→Z k∧k<w.heap.size∧¬ KS sg mg vo R jv J k))
  (s2':∀ q∈J',∀ k,q.jv.ownBlock=some k→jv'.ownBlock≠some k) (s4':J'.Pairwise (fun p q=>∀ k,p.jv.ownBlock=some k→q.jv.ownBlock≠some k)) :
  KM w' sg mg vo R jv' J' n'∧ae (KS sg mg vo R jv J) w w'∧(∀ k,KS sg mg vo R jv' J' k→KS sg mg vo R jv J k∨w.heap.size≤k)∧(∀ k,KD R J' k→KD R J k∨Z k):=by
 have hgl:=lt_of_heap h.hg
 have jb:∀ k,jv'.ownBlock=some k→jv.ownBlock=some k∨w.heap.size≤k:=fun k hk=>by
  rcases hjv with x | x
  ·exact .inl (x▸hk)
  ·exact .inr (x k hk)
 have qb:∀ q∈J',∀ k,q.jv.ownBlock=some k→(∃ p∈J,p.jv.ownBlock=some k)∨w.heap.size≤k:=fun q hq k hk=>by
  rcases (pg' q hq).2 with ⟨p,hp,x⟩ | x
  ·exact .inl ⟨p,hp,x▸hk⟩
  ·exact .inr (x k hk)
 have ks:∀ k,KS sg mg vo R jv' J' k→KS sg mg vo R jv J k∨w.heap.size≤k:=by
  rintro k (rfl | hk | hk | ⟨q,hq,hk⟩)
  ·exact .inl (.inl rfl)
  ·exact .inl (.inr (.inl hk))
  ·exact (jb k hk).imp (fun x => .inr (.inr (.inl x))) id
  ·exact (qb q hq k hk).imp (fun x => .inr (.inr (.inr x))) id
 have kd:∀ k,KD R J' k→(KD R J k∨Z k)∧k<w.heap.size∧¬ KS sg mg vo R jv J k:=by
  rintro k (hk | ⟨q,hq,x,hx,hk⟩)
  ·exact⟨.inl (.inl hk),h.dlt k (.inl hk),h.data k (.inl hk)⟩
  ·rcases un' q hq x hx with ⟨p,hp,hxp⟩ | ⟨_,hu⟩
   ·have:KD R J k := .inr ⟨p,hp,x,hxp,hk⟩
    exact⟨.inl this,h.dlt k this,h.data k this⟩
   ·obtain⟨z,l,s⟩:=hu k hk
    exact⟨.inr z,l,s⟩
 have tin:∀ k,(k=sg∨jv.ownBlock=some k∨∃ q∈J,q.jv.ownBlock=some k)→KS sg mg vo R jv J k:=by
  rintro k (hk | hk | hk)
  ·exact .inl hk
  ·exact .inr (.inr (.inl hk))
  ·exact .inr (.inr (.inr hk))
 have nms:∀ k,MS mg vo R k→¬ (k=sg∨jv.ownBlock=some k∨∃ q∈J,q.jv.ownBlock=some k):=by
  rintro k hk (rfl | x | ⟨q,hq,x⟩)
  ·exact h.s1.1 hk
  ·exact (h.s2 k x).1 hk
  ·exact h.s3 q hq k x hk
 refine⟨⟨hg',h.pm.keep m nms (fun k hk x=>h.data k (.inl hk) (tin k x)),row',fun q hq=>(pg' q hq).1,fun q hq x hx=>?_,⟨h.s1.1,fun x=>?_,fun q hq x=>?_⟩,fun k hk=>⟨fun x=>?_,fun q hq x=>s2' q hq k x hk⟩,fun q hq k hk x=>?_,s4',fun k hk hs=>?_,fun k hk=>Nat.lt_of_lt_of_le (kd k hk).2.1 m.size⟩,m.mono (fun k _ hk=>tin k hk),ks,fun k hk=>(kd k hk).1⟩
 ·rcases un' q hq x hx with ⟨p,hp,hxp⟩ | ⟨hu,hb⟩
  ·exact (h.un p hp x hxp).keep m (fun k hk y=>h.data k (.inr ⟨p,hp,x,hxp,hk⟩) (tin k y))
  ·exact hu.keep m (fun k hk y=>(hb k hk).2.2 (tin k y))
 ·rcases jb sg x with y | y
  ·exact h.s1.2.1 y
  ·omega
 ·rcases qb q hq sg x with ⟨p,hp,y⟩ | y
  ·exact h.s1.2.2 p hp y
  ·omega
 ·rcases jb k hk with y | y
  ·exact (h.s2 k y).1 x
  ·have:=h.pm.lt k x;omega
 ·rcases qb q hq k hk with ⟨p,hp,y⟩ | y
  ·exact h.s3 p hp k y x
  ·have:=h.pm.lt k x;omega
 ·obtain⟨_,l,s⟩:=kd k hk
  rcases ks k hs with y | y
  ·exact s y
  ·omega
theorem KM.tick {w w':World}{sg mg:Nat}{vo jv:Value}{R:List PV}{J:List JV}{n n':Int} (h:KM w sg mg vo R jv J n) (e:w'=w.setCell ⟨sg,2,none⟩ (.int .i64 n')):KT w w' sg mg vo R jv J vo R jv J n':=by
 have m:ae (fun k=>k=sg∨jv.ownBlock=some k∨∃ q∈J,q.jv.ownBlock=some k) w w':=by rw [e];exact (ae.refl _ w).setCell (p:=⟨sg,2,none⟩) (.inl (.inl rfl)) _
 have m1:ae (fun k=>k=sg) w w':=by rw [e];exact (ae.refl (fun k=>k=sg) w).setCell (p:=⟨sg,2,none⟩) (.inl rfl) _
 obtain⟨a,b,c,d⟩:=h.chg (Z:=fun _=>False) (jv':=jv) (J':=J) (n':=n') m (by rw [e];exact heap_set h.hg 2 _) (h.row.keep m1 (fun k hk x=>h.s1.2.1 (x▸hk))) (.inl rfl) (fun q hq=>⟨(h.pg q hq).keep m1 (fun k hk x=>h.s1.2.2 q hq (x▸hk)),.inl ⟨q,hq,rfl⟩⟩) (fun q hq x hx => .inl ⟨q,hq,hx⟩) (fun q hq k hk x=>(h.s2 k x).2 q hq hk) h.s4
 exact⟨a,b,c,fun k hk=>(d k hk).imp id (fun x=>x.elim)⟩
open Go.Gl Go.RowKit
theorem Cc (w:World):Calls Try.prog 8 #[] w fun e w'=>∃ sg mg,e = .returned (.pointer (some ⟨sg,0,none⟩))∧KM w' sg mg (.slice none 0 0) [] (.slice none 0 0) [] 0∧ae aj w w'∧w.heap.size≤sg∧w.heap.size≤mg:=by
 go_enter Try.func8,Try.ntmps8
 go_wp2_with fail
 refine (DT w).mono ?_
 rintro e w1 ⟨g,rfl,pm,m1,hg⟩
 have hl:=pm.lt g (.inl rfl)
 have hb:=bC w1 (.cells #[.pointer (some ⟨g,0,none⟩),.slice none 0 0,.int .i64 0] 75)
 have m2:=(ae.refl aj w1).alloc (.cells #[.pointer (some ⟨g,0,none⟩),.slice none 0 0,.int .i64 0] 75)
 have PM:=lh (And.intro (pm.keep0 m2) (And.intro (m1.then0 m2) (And.intro hg hl)))
 have HB:=lh hb
 clear pm m1 hg hl hb m2
 go_wp2
 go_ret
 have ms0:∀ k,MS g (.slice none 0 0) [] k→k=g:=fun k h=>by
  rcases h with h | h | ⟨p,hp,_⟩
  ·exact h
  ·simp [Value.ownBlock] at h
  ·exact (List.not_mem_nil hp).elim
 refine⟨_,g,rfl,⟨HB.out,PM.out.1,⟨rfl,.inl ⟨rfl,rfl⟩⟩,fun q hq=>(List.not_mem_nil hq).elim,fun q hq=>(List.not_mem_nil hq).elim,⟨fun x=>by have:=ms0 _ x;have:=PM.out.2.2.2;omega,by simp [Value.ownBlock],fun q hq=>(List.not_mem_nil hq).elim⟩,fun k hk=>by simp [Value.ownBlock] at hk,fun q hq=>(List.not_mem_nil hq).elim,List.Pairwise.nil,fun k hk=>?_,fun k hk=>?_⟩,PM.out.2.1,?_,PM.out.2.2.1⟩
 ·rcases hk with ⟨p,hp,_⟩ | ⟨q,hq,_⟩
  ·exact (List.not_mem_nil hp).elim
  ·exact (List.not_mem_nil hq).elim
 ·rcases hk with ⟨p,hp,_⟩ | ⟨q,hq,_⟩
  ·exact (List.not_mem_nil hp).elim
  ·exact (List.not_mem_nil hq).elim
 ·have:=PM.out.2.2.1;have:=PM.out.2.2.2;omega
def Off (S:Nat→Prop) (q:Value) (ys:List UInt8):Prop:=ys≠[]→∀ i,q.ownBlock=some i→¬ S i
theorem AU {w w':World}{q:Value} (h:Rd w q []):Rd w' q []:=by
 refine⟨h.1,?_⟩
 rcases h.2 with x | ⟨g,off,cap,hv,h1,h2,_,_⟩
 ·exact .inl x
 ·exact .inr ⟨g,off,cap,hv,h1,h2,.inl rfl,fun j u hj=>by simp [bv] at hj⟩
theorem Off.keep {T:Nat→Prop}{w w':World}{q:Value}{ys:List UInt8} (h:Off T q ys) (hq:Rd w q ys) (hm:ae T w w'):Rd w' q ys:=by
 by_cases hy:ys=[]
 ·subst hy;exact AU hq
 ·exact hq.keep hm (h hy)
theorem Off.mono {S T:Nat→Prop}{q:Value}{ys:List UInt8} (h:Off S q ys) (hs:∀ k,T k→S k):Off T q ys:=fun hy i hi x=>h hy i hi (hs i x)
theorem KM.cells {w:World}{sg mg:Nat}{vo jv:Value}{R:List PV}{J:List JV}{n:Int} (h:KM w sg mg vo R jv J n):w.cell? ⟨sg,0,none⟩=some (.pointer (some ⟨mg,0,none⟩))∧w.cell? ⟨sg,1,none⟩=some jv∧w.cell? ⟨sg,2,none⟩=some (.int .i64 n)∧∀ o,w.frozen? ⟨sg,o,none⟩=false :=
 ⟨ai h.hg 0,ai h.hg 1,ai h.hg 2,fun o=>dw h.hg o⟩
theorem KM.add {w:World}{sg mg:Nat}{vo jv:Value}{R:List PV}{J:List JV}{n:Int} (h:KM w sg mg vo R jv J n) (h0:0≤n) (h1:n≤4611686018427387904):Calls Try.prog 58 #[.pointer (some ⟨sg,2,none⟩),.int .i64 1] w fun e w'=>e = .returned (.int .i64 (n+1))∧KT w w' sg mg vo R jv J vo R jv J (n+1)∧ae (fun k=>k=sg) w w':=by
 obtain⟨_,_,c,f⟩:=h.cells
 refine (yf c (f 2) (by omega) (by omega)).mono ?_
 rintro e w' ⟨rfl,e'⟩
 exact⟨rfl,h.tick e',by rw [e'];exact (ae.refl (fun k=>k=sg) w).setCell (p:=⟨sg,2,none⟩) (.inl rfl) _⟩
open Go.Gl Go.RowKit
open Go.Gl Go.RowKit
open Go.Gl Go.RowKit
end Go.Proofs.Ytglkmaalpammcaa

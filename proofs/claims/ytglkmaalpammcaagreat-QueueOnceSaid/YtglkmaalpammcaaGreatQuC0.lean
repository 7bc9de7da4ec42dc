/- gleanlaw12.QueueOnce, in: their regions (printed by gen_quc.py). -/
import Derived.Test.YtglkmaalpammcaaGreatZE
import Derived.Test.YtglkmaalpammcaaGreatQuI0
set_option maxHeartbeats 64000000
namespace Go.Proofs.YtglkmaalpammcaaGreat
open Go.Gl Go.RowKit
set_option linter.unusedVariables false
set_option linter.unusedSimpArgs false
set_option maxRecDepth 100000
section
variable {x0 x1 x2 x3 x4 x5 x6 x7 x8 x9 bg bn bi aY aU aS aT aW aZ aX bu bz bF bG bH bM bT bQ cO cZ di dw eH eP dW dQ dR dX dF dM dN dG dH dI dJ dK dL dE dY dO dS dU dZ ed eu eF eG eQ eU fK fG fD iH iI iJ iK iL iM iE iV iW iY iZ lC lH lI lJ lK lZ l7 l9 mf nY nZ og oz oC oD oG oH oI oJ oK oL oM oN oO oP oQ oU jM mP mQ mV mW mX mY mZ ng ni ny nz nC kL kM kN kP kQ kR nD nG nH nI nJ nK nM x126 x127 x128 x129 x130 x131 x132 x133 x134 x135 x136 x137 x138 x139 x140 x141 x142 x143 x144 x145 x146 x147 x148 x149 nN nO nP nR:Value}{df:List Deferred}{Q:Exit→Act→World→Prop}
theorem in5 {w:World}{h offh m cb k eb b kx id kd:Nat}{B:Bool} (hx:∀ b',ae ai w b'→∀ j u,[Value.int .u64 ((b:Nat):Int),.int .i64 ((kx:Nat):Int)][j]?=some u→b'.cell? ⟨h,offh+k*2+j,none⟩=some u) (hy:∀ b',ae ai w b'→∀ j u,[Value.int .u64 ((id:Nat):Int),.int .i64 ((kd:Nat):Int)][j]?=some u→b'.cell? ⟨eb,0+j,none⟩=some u) (hB:∀ W,(binOp .eql 86 (.agg #[.int .u64 ((b:Nat):Int),.int .i64 ((kx:Nat):Int)]) (.agg #[.int .u64 ((id:Nat):Int),.int .i64 ((kd:Nat):Int)])).run Tryz.prog W = .ok (.bool B) W) (hk:k<m) (hn:m≤1000000)
  (hK:∀ (kF jV jW jO jC:Value)  (w':World),ae ai w w'→Q .normal ⟨#[.slice (some ⟨h,offh,none⟩) m cb,x1,x2,.pointer (some ⟨eb,0,none⟩),x4,x5,.int .i64 ((k:Nat):Int),x7,x8,x9,bg,bn,bi,kF,jV,jW,jO,jC,.bool B,aX,bu,bz,bF],df⟩ w'):RW Tryz.prog (aH 5 Tryz.f55) true Q ⟨#[.slice (some ⟨h,offh,none⟩) m cb,x1,x2,.pointer (some ⟨eb,0,none⟩),x4,x5,.int .i64 ((k:Nat):Int),x7,x8,x9,bg,bn,bi,aY,aU,aS,aT,aW,aZ,aX,bu,bz,bF],df⟩ w:=by
 have HQ:=lh hK
 clear hK
 have QX:=lh hx
 have QY:=lh hy
 clear hx hy
 have MR:=lh ((ae.refl ai w).drew)
 refine iU (S:=fun b'=>ae ai w b') [(0,true),(1,true),(2,true),(3,true),(4,true),(5,true)] [] [(0,1,8192),(0,64,16384),(3,24576,32768),(4,32768,65536),(0,8,131072),(24,196608,262144)] (by kernel_rfl) (by kernel_rfl) (by kernel_rfl) (by kernel_rfl) (by kernel_rfl) MR.out ?_
 refine ag [0,1] [.slice (some ⟨h,offh,none⟩) m cb,.int .i64 ((k:Nat):Int)] rfl (by kernel_rfl) (fun _=>by kernel_rfl) ?_
 refine ah (aj h (offh+k*2)) (some 15) (ki (by kernel_rfl)) (fun bb hb=>gI (s:=2) (e:=86) (g:=h) (off:=offh) (n:=m) (c:=cb) (i:=((k:Nat):Int)) (x:=(.tmp 13)) (y:=(.tmp 14)) (offh+k*2) (by kernel_rfl) (by kernel_rfl) (by kernel_rfl) Tryz.underlying82 (by kernel_rfl) (by omega) (by omega) (by omega)) ?_
 refine ah (.agg #[.int .u64 ((b:Nat):Int),.int .i64 ((kx:Nat):Int)]) (some 16) (ki (by kernel_rfl)) (fun bb hb=>aB (x:=(.tmp 15)) (by kernel_rfl) (by kernel_rfl) (dD [.int .u64 ((b:Nat):Int),.int .i64 ((kx:Nat):Int)] (QX.out _ hb) Tryz.underlying86 rfl (by kernel_rfl))) ?_
 refine ah (.agg #[.int .u64 ((id:Nat):Int),.int .i64 ((kd:Nat):Int)]) (some 17) (ki (by kernel_rfl)) (fun bb hb=>aB (x:=(.tmp 3)) (by kernel_rfl) (by kernel_rfl) (dD [.int .u64 ((id:Nat):Int),.int .i64 ((kd:Nat):Int)] (QY.out _ hb) Tryz.underlying86 rfl (by kernel_rfl))) ?_
 refine ah (.bool B) (some 18) (ki (by kernel_rfl)) (fun bb hb=>bV (t:=86) (t':=86) (xv := .agg #[.int .u64 ((b:Nat):Int),.int .i64 ((kx:Nat):Int)]) (yv := .agg #[.int .u64 ((id:Nat):Int),.int .i64 ((kd:Nat):Int)]) (x:=(.tmp 16)) (y:=(.tmp 17)) (by kernel_rfl) (by kernel_rfl) (by kernel_rfl) (fun _=>by kernel_rfl) (hB _)) ?_
 exact aA (aQ (K:=Q .normal) (by kernel_rfl) (HQ.out (.slice (some ⟨h,offh,none⟩) m cb) (.int .i64 ((k:Nat):Int)) (aj h (offh+k*2)) (.agg #[.int .u64 ((b:Nat):Int),.int .i64 ((kx:Nat):Int)]) (.agg #[.int .u64 ((id:Nat):Int),.int .i64 ((kd:Nat):Int)]) _ MR.out))
theorem qc11 {w:World}{g off n ca i:Nat}{z0 z1 z2 z3 z4 z5 z6 z7 z8 z9 z10 z11 z12 z13 z14:Int}{z15:Option Addr}{zl zc:Nat} (hi:i<n) (hn:n≤1000000) (hx:∀ j' u,([.int .i64 z0,.int .i64 z1,.int .u64 z2,.int .u64 z3,.int .u64 z4,.int .u64 z5,.int .u64 z6,.int .u64 z7,.int .u64 z8,.int .u64 z9,.int .u64 z10,.int .u64 z11,.int .u64 z12,.int .u64 z13,.int .u64 z14,.slice z15 zl zc]:List Value)[j']?=some u→w.cell? ⟨g,off+i*16+j',none⟩=some u)
  (hK:∀ (mO qO qP qQ:Value) (bq:Nat) (w':World),w.heap.size≤bq→w'.heap[bq]?=some (.cells #[.int .i64 z0,.int .i64 z1,.int .u64 z2,.int .u64 z3,.int .u64 z4,.int .u64 z5,.int .u64 z6,.int .u64 z7,.int .u64 z8,.int .u64 z9,.int .u64 z10,.int .u64 z11,.int .u64 z12,.int .u64 z13,.int .u64 z14,.slice z15 zl zc] 79 (0,0))→ae ai w w'→Q .normal ⟨#[x0,.slice (some ⟨g,off,none⟩) n ca,x2,x3,x4,x5,x6,.int .i64 ((i:Nat):Int),.pointer (some ⟨bq,0,none⟩),x9,bg,bn,bi,aY,aU,aS,aT,aW,aZ,aX,bu,bz,bF,bG,bH,bM,bT,bQ,cO,cZ,mO,qO,qP,qQ,dW,dQ,dR,dX,dF,dM,dN,dG,dH,dI,dJ,dK,dL,dE,dY,dO,dS,dU,dZ,ed,eu,eF,eG,eQ,eU,fK,fG,fD,iH,iI,iJ,iK,iL,iM,iE,iV,iW,iY,iZ,lC,lH,lI,lJ,lK,lZ,l7,l9,mf,nY,nZ,og,oz,oC,oD,oG,oH,oI,oJ,oK,oL,oM,oN,oO,oP,oQ,oU,jM,mP,mQ,mV,mW,mX,mY,mZ,ng,ni,ny,nz,nC,kL,kM,kN,kP,kQ,kR,nD,nG,nH,nI,nJ,nK,nM,x126,x127,x128,x129,x130,x131,x132,x133,x134,x135,x136,x137,x138,x139,x140,x141,x142,x143,x144,x145,x146,x147,x148,x149,nN,nO,nP,nR],df⟩ w'):RW Tryz.prog (aH 11 Tryz.f8) false Q ⟨#[x0,.slice (some ⟨g,off,none⟩) n ca,x2,x3,x4,x5,x6,.int .i64 ((i:Nat):Int),x8,x9,bg,bn,bi,aY,aU,aS,aT,aW,aZ,aX,bu,bz,bF,bG,bH,bM,bT,bQ,cO,cZ,di,dw,eH,eP,dW,dQ,dR,dX,dF,dM,dN,dG,dH,dI,dJ,dK,dL,dE,dY,dO,dS,dU,dZ,ed,eu,eF,eG,eQ,eU,fK,fG,fD,iH,iI,iJ,iK,iL,iM,iE,iV,iW,iY,iZ,lC,lH,lI,lJ,lK,lZ,l7,l9,mf,nY,nZ,og,oz,oC,oD,oG,oH,oI,oJ,oK,oL,oM,oN,oO,oP,oQ,oU,jM,mP,mQ,mV,mW,mX,mY,mZ,ng,ni,ny,nz,nC,kL,kM,kN,kP,kQ,kR,nD,nG,nH,nI,nJ,nK,nM,x126,x127,x128,x129,x130,x131,x132,x133,x134,x135,x136,x137,x138,x139,x140,x141,x142,x143,x144,x145,x146,x147,x148,x149,nN,nO,nP,nR],df⟩ w:=by
 have HQ:=lh hK
 clear hK
 have QX:=hx
 clear hx
 refine bZ [(0,false),(1,false),(2,false),(3,false),(4,false),(5,false)] (by kernel_rfl) ?_
 refine aC [0,1] [.slice (some ⟨g,off,none⟩) n ca,.int .i64 ((i:Nat):Int)] rfl (by kernel_rfl) (by kernel_rfl) (.inr trivial) ?_
 refine aP (aj g (off+i*16)) _ (some 32) (ki (by kernel_rfl)) (gI (s:=16) (e:=79) (g:=g) (off:=off) (n:=n) (c:=ca) (i:=((i:Nat):Int)) (x:=(.tmp 30)) (y:=(.tmp 31)) (off+i*16) (by kernel_rfl) (by kernel_rfl) (by kernel_rfl) Tryz.underlying69 (by kernel_rfl) (by omega) (by omega) (by omega)) (fun _=>trivial) ?_
 refine aP (.agg #[.int .i64 z0,.int .i64 z1,.int .u64 z2,.int .u64 z3,.int .u64 z4,.int .u64 z5,.int .u64 z6,.int .u64 z7,.int .u64 z8,.int .u64 z9,.int .u64 z10,.int .u64 z11,.int .u64 z12,.int .u64 z13,.int .u64 z14,.slice z15 zl zc]) _ (some 33) (ki (by kernel_rfl)) (aB (x:=(.tmp 32)) (by kernel_rfl) (by kernel_rfl) (dD [.int .i64 z0,.int .i64 z1,.int .u64 z2,.int .u64 z3,.int .u64 z4,.int .u64 z5,.int .u64 z6,.int .u64 z7,.int .u64 z8,.int .u64 z9,.int .u64 z10,.int .u64 z11,.int .u64 z12,.int .u64 z13,.int .u64 z14,.slice z15 zl zc] ((fun _=>QX) (trivial)) Tryz.underlying79 rfl (by kernel_rfl))) (fun _=>trivial) ?_
 refine fU (.cells #[.int .i64 0,.int .i64 0,.int .u64 0,.int .u64 0,.int .u64 0,.int .u64 0,.int .u64 0,.int .u64 0,.int .u64 0,.int .u64 0,.int .u64 0,.int .u64 0,.int .u64 0,.int .u64 0,.int .u64 0,.slice none 0 0] 79) (some 8) (ki (by kernel_rfl)) (by kernel_rfl) ?_
 intro k1 w_k1 hk_k1 hO_k1 hm_k1 hl_k1
 refine⟨fun _=>trivial,?_⟩
 refine qp (off:=0) (ty:=79) (x:=(.tmp 8)) (y:=(.tmp 33)) (cells:=#[.int .i64 z0,.int .i64 z1,.int .u64 z2,.int .u64 z3,.int .u64 z4,.int .u64 z5,.int .u64 z6,.int .u64 z7,.int .u64 z8,.int .u64 z9,.int .u64 z10,.int .u64 z11,.int .u64 z12,.int .u64 z13,.int .u64 z14,.slice z15 zl zc]) #[.int .i64 z0,.int .i64 z1,.int .u64 z2,.int .u64 z3,.int .u64 z4,.int .u64 z5,.int .u64 z6,.int .u64 z7,.int .u64 z8,.int .u64 z9,.int .u64 z10,.int .u64 z11,.int .u64 z12,.int .u64 z13,.int .u64 z14,.slice z15 zl zc] none (ki (by kernel_rfl)) (by kernel_rfl) (by kernel_rfl) (by kernel_rfl) hO_k1 (by kernel_rfl) (by kernel_rfl) (by kernel_rfl) (by first | kernel_rfl | exact H1) ?_
 intro w9 hO9 hm9 hs9
 refine⟨fun _=>trivial,?_⟩
 have hM:=hm_k1.trans hm9 (U:=ai) (fun _ _ x=>x) (fun i hi e=>by omega)
 exact aA (aQ (K:=Q .normal) (by kernel_rfl) (HQ.out (.slice (some ⟨g,off,none⟩) n ca) (.int .i64 ((i:Nat):Int)) (aj g (off+i*16)) (.agg #[.int .i64 z0,.int .i64 z1,.int .u64 z2,.int .u64 z3,.int .u64 z4,.int .u64 z5,.int .u64 z6,.int .u64 z7,.int .u64 z8,.int .u64 z9,.int .u64 z10,.int .u64 z11,.int .u64 z12,.int .u64 z13,.int .u64 z14,.slice z15 zl zc]) k1 w9 (Nat.le_of_eq hk_k1.symm) hO9 hM))
theorem qc17 {w:World}{eb id kd:Nat} (he:w.heap[eb]?=some (.cells #[.int .u64 ((id:Nat):Int),.int .i64 ((kd:Nat):Int)] 86 (0,0)))
  (hK:∀ (y56:Value)  (w':World),w'=w.setCell ⟨eb,1,none⟩ (.int .i64 13)→Q .normal ⟨#[x0,x1,x2,x3,x4,x5,x6,x7,x8,.pointer (some ⟨eb,0,none⟩),bg,bn,bi,aY,aU,aS,aT,aW,aZ,aX,bu,bz,bF,bG,bH,bM,bT,bQ,cO,cZ,di,dw,eH,eP,dW,dQ,dR,dX,dF,dM,dN,dG,dH,dI,dJ,dK,dL,dE,dY,dO,dS,dU,dZ,ed,eu,eF,y56,eQ,eU,fK,fG,fD,iH,iI,iJ,iK,iL,iM,iE,iV,iW,iY,iZ,lC,lH,lI,lJ,lK,lZ,l7,l9,mf,nY,nZ,og,oz,oC,oD,oG,oH,oI,oJ,oK,oL,oM,oN,oO,oP,oQ,oU,jM,mP,mQ,mV,mW,mX,mY,mZ,ng,ni,ny,nz,nC,kL,kM,kN,kP,kQ,kR,nD,nG,nH,nI,nJ,nK,nM,x126,x127,x128,x129,x130,x131,x132,x133,x134,x135,x136,x137,x138,x139,x140,x141,x142,x143,x144,x145,x146,x147,x148,x149,nN,nO,nP,nR],df⟩ w'):RW Tryz.prog (aH 17 Tryz.f8) false Q ⟨#[x0,x1,x2,x3,x4,x5,x6,x7,x8,.pointer (some ⟨eb,0,none⟩),bg,bn,bi,aY,aU,aS,aT,aW,aZ,aX,bu,bz,bF,bG,bH,bM,bT,bQ,cO,cZ,di,dw,eH,eP,dW,dQ,dR,dX,dF,dM,dN,dG,dH,dI,dJ,dK,dL,dE,dY,dO,dS,dU,dZ,ed,eu,eF,eG,eQ,eU,fK,fG,fD,iH,iI,iJ,iK,iL,iM,iE,iV,iW,iY,iZ,lC,lH,lI,lJ,lK,lZ,l7,l9,mf,nY,nZ,og,oz,oC,oD,oG,oH,oI,oJ,oK,oL,oM,oN,oO,oP,oQ,oU,jM,mP,mQ,mV,mW,mX,mY,mZ,ng,ni,ny,nz,nC,kL,kM,kN,kP,kQ,kR,nD,nG,nH,nI,nJ,nK,nM,x126,x127,x128,x129,x130,x131,x132,x133,x134,x135,x136,x137,x138,x139,x140,x141,x142,x143,x144,x145,x146,x147,x148,x149,nN,nO,nP,nR],df⟩ w:=by
 have HQ:=lh hK
 clear hK
 have HE:=lh he
 clear he
 refine bZ [(0,false),(1,false)] (by kernel_rfl) ?_
 refine aC [0] [aj eb 1] rfl (by kernel_rfl) (by kernel_rfl) (.inr trivial) ?_
 refine gU (ty:=3) (x:=(.tmp 56)) (y:=(.const (.int .i64 13))) (g:=eb) (off:=1) (v := .int .i64 13) none (ki (by kernel_rfl)) (by kernel_rfl) (by kernel_rfl) (by kernel_rfl) (by kernel_rfl) (by rw [af HE.out];rfl) (bY HE.out _) (rfl) ?_
 intro w9 hw9
 refine⟨(fun h=>by first | (cases h;done) | exact trivial),?_⟩
 exact aA (aQ (K:=Q .normal) (by kernel_rfl) (HQ.out (aj eb 1) _ hw9))
theorem qc13 {w:World}{xb:Nat}{a0 a1 a2:Value} (h1:∀ b',ae ai w b'→b'.cell? ⟨xb,4,none⟩=some a0) (h2:∀ b',ae ai w b'→b'.cell? ⟨xb,6,none⟩=some a1) (h3:∀ b',ae ai w b'→b'.cell? ⟨xb,3,none⟩=some a2)
  (hK:∀ (y39 y40 y41 y42 y43 y44 y45 y46 y47:Value)  (w':World),ae ai w w'→Q .normal ⟨#[x0,x1,x2,x3,x4,x5,x6,x7,.pointer (some ⟨xb,0,none⟩),x9,a0,a1,a2,aY,aU,aS,aT,aW,aZ,aX,bu,bz,bF,bG,bH,bM,bT,bQ,cO,cZ,di,dw,eH,eP,dW,dQ,dR,dX,dF,y39,y40,y41,y42,y43,y44,y45,y46,y47,dY,dO,dS,dU,dZ,ed,eu,eF,eG,eQ,eU,fK,fG,fD,iH,iI,iJ,iK,iL,iM,iE,iV,iW,iY,iZ,lC,lH,lI,lJ,lK,lZ,l7,l9,mf,nY,nZ,og,oz,oC,oD,oG,oH,oI,oJ,oK,oL,oM,oN,oO,oP,oQ,oU,jM,mP,mQ,mV,mW,mX,mY,mZ,ng,ni,ny,nz,nC,kL,kM,kN,kP,kQ,kR,nD,nG,nH,nI,nJ,nK,nM,x126,x127,x128,x129,x130,x131,x132,x133,x134,x135,x136,x137,x138,x139,x140,x141,x142,x143,x144,x145,x146,x147,x148,x149,nN,nO,nP,nR],df⟩ w'):RW Tryz.prog (aH 13 Tryz.f8) true Q ⟨#[x0,x1,x2,x3,x4,x5,x6,x7,.pointer (some ⟨xb,0,none⟩),x9,bg,bn,bi,aY,aU,aS,aT,aW,aZ,aX,bu,bz,bF,bG,bH,bM,bT,bQ,cO,cZ,di,dw,eH,eP,dW,dQ,dR,dX,dF,dM,dN,dG,dH,dI,dJ,dK,dL,dE,dY,dO,dS,dU,dZ,ed,eu,eF,eG,eQ,eU,fK,fG,fD,iH,iI,iJ,iK,iL,iM,iE,iV,iW,iY,iZ,lC,lH,lI,lJ,lK,lZ,l7,l9,mf,nY,nZ,og,oz,oC,oD,oG,oH,oI,oJ,oK,oL,oM,oN,oO,oP,oQ,oU,jM,mP,mQ,mV,mW,mX,mY,mZ,ng,ni,ny,nz,nC,kL,kM,kN,kP,kQ,kR,nD,nG,nH,nI,nJ,nK,nM,x126,x127,x128,x129,x130,x131,x132,x133,x134,x135,x136,x137,x138,x139,x140,x141,x142,x143,x144,x145,x146,x147,x148,x149,nN,nO,nP,nR],df⟩ w:=by
 have HQ:=lh hK
 clear hK
 have Q1:=lh h1
 have Q2:=lh h2
 have Q3:=lh h3
 clear h1 h2 h3
 have MR:=lh ((ae.refl ai w).drew)
 refine iU (S:=fun b'=>ae ai w b') [(0,true),(1,true),(2,true),(3,true),(4,true),(5,true),(6,true),(7,true),(8,true),(9,true),(10,true),(11,true)] [] [(0,256,549755813888),(1,549755813888,1099511627776),(2,1099511627776,2199023255552),(0,256,4398046511104),(8,4398046511104,8796093022208),(16,8796093022208,17592186044416),(0,256,35184372088832),(64,35184372088832,70368744177664),(128,70368744177664,140737488355328),(7,2199023255552,1024),(575,17592186044416,2048),(2047,140737488355328,4096)] (by kernel_rfl) (by kernel_rfl) (by kernel_rfl) (by kernel_rfl) (by kernel_rfl) MR.out ?_
 refine ag [0,1] [aj xb 3,aj xb 4] rfl (by kernel_rfl) (fun _=>by kernel_rfl) ?_
 refine ah (a0) (some 41) (ki (by kernel_rfl)) (fun bb hb=>aB (x:=(.tmp 40)) (by kernel_rfl) (by kernel_rfl) (aO (Q1.out _ hb) Tryz.underlying22 rfl)) ?_
 refine ag [3,4] [aj xb 3,aj xb 6] rfl (by kernel_rfl) (fun _=>by kernel_rfl) ?_
 refine ah (a1) (some 44) (ki (by kernel_rfl)) (fun bb hb=>aB (x:=(.tmp 43)) (by kernel_rfl) (by kernel_rfl) (aO (Q2.out _ hb) Tryz.underlying22 rfl)) ?_
 refine ag [6,7] [aj xb 3,aj xb 3] rfl (by kernel_rfl) (fun _=>by kernel_rfl) ?_
 refine ah (a2) (some 47) (ki (by kernel_rfl)) (fun bb hb=>aB (x:=(.tmp 46)) (by kernel_rfl) (by kernel_rfl) (aO (Q3.out _ hb) Tryz.underlying22 rfl)) ?_
 refine ag [9,10,11] [a0,a1,a2] rfl (by kernel_rfl) (fun _=>by kernel_rfl) ?_
 exact aA (aQ (K:=Q .normal) (by kernel_rfl) (HQ.out (aj xb 3) (aj xb 4) (a0) (aj xb 3) (aj xb 6) (a1) (aj xb 3) (aj xb 3) (a2) _ MR.out))
theorem qc18 {w:World}{xb:Nat}{a0 a1 a2:Value} (h1:∀ b',ae ai w b'→b'.cell? ⟨xb,10,none⟩=some a0) (h2:∀ b',ae ai w b'→b'.cell? ⟨xb,13,none⟩=some a1) (h3:∀ b',ae ai w b'→b'.cell? ⟨xb,9,none⟩=some a2)
  (hK:∀ (y57 y58 y59 y60 y61 y62 y63 y64 y65:Value)  (w':World),ae ai w w'→Q .normal ⟨#[x0,x1,x2,x3,x4,x5,x6,x7,.pointer (some ⟨xb,0,none⟩),x9,a0,a1,a2,aY,aU,aS,aT,aW,aZ,aX,bu,bz,bF,bG,bH,bM,bT,bQ,cO,cZ,di,dw,eH,eP,dW,dQ,dR,dX,dF,dM,dN,dG,dH,dI,dJ,dK,dL,dE,dY,dO,dS,dU,dZ,ed,eu,eF,eG,y57,y58,y59,y60,y61,y62,y63,y64,y65,iL,iM,iE,iV,iW,iY,iZ,lC,lH,lI,lJ,lK,lZ,l7,l9,mf,nY,nZ,og,oz,oC,oD,oG,oH,oI,oJ,oK,oL,oM,oN,oO,oP,oQ,oU,jM,mP,mQ,mV,mW,mX,mY,mZ,ng,ni,ny,nz,nC,kL,kM,kN,kP,kQ,kR,nD,nG,nH,nI,nJ,nK,nM,x126,x127,x128,x129,x130,x131,x132,x133,x134,x135,x136,x137,x138,x139,x140,x141,x142,x143,x144,x145,x146,x147,x148,x149,nN,nO,nP,nR],df⟩ w'):RW Tryz.prog (aH 18 Tryz.f8) true Q ⟨#[x0,x1,x2,x3,x4,x5,x6,x7,.pointer (some ⟨xb,0,none⟩),x9,bg,bn,bi,aY,aU,aS,aT,aW,aZ,aX,bu,bz,bF,bG,bH,bM,bT,bQ,cO,cZ,di,dw,eH,eP,dW,dQ,dR,dX,dF,dM,dN,dG,dH,dI,dJ,dK,dL,dE,dY,dO,dS,dU,dZ,ed,eu,eF,eG,eQ,eU,fK,fG,fD,iH,iI,iJ,iK,iL,iM,iE,iV,iW,iY,iZ,lC,lH,lI,lJ,lK,lZ,l7,l9,mf,nY,nZ,og,oz,oC,oD,oG,oH,oI,oJ,oK,oL,oM,oN,oO,oP,oQ,oU,jM,mP,mQ,mV,mW,mX,mY,mZ,ng,ni,ny,nz,nC,kL,kM,kN,kP,kQ,kR,nD,nG,nH,nI,nJ,nK,nM,x126,x127,x128,x129,x130,x131,x132,x133,x134,x135,x136,x137,x138,x139,x140,x141,x142,x143,x144,x145,x146,x147,x148,x149,nN,nO,nP,nR],df⟩ w:=by
 have HQ:=lh hK
 clear hK
 have Q1:=lh h1
 have Q2:=lh h2
 have Q3:=lh h3
 clear h1 h2 h3
 have MR:=lh ((ae.refl ai w).drew)
 refine iU (S:=fun b'=>ae ai w b') [(0,true),(1,true),(2,true),(3,true),(4,true),(5,true),(6,true),(7,true),(8,true),(9,true),(10,true),(11,true)] [] [(0,256,144115188075855872),(1,144115188075855872,288230376151711744),(2,288230376151711744,576460752303423488),(0,256,1152921504606846976),(8,1152921504606846976,2305843009213693952),(16,2305843009213693952,4611686018427387904),(0,256,9223372036854775808),(64,9223372036854775808,18446744073709551616),(128,18446744073709551616,36893488147419103232),(7,576460752303423488,1024),(575,4611686018427387904,2048),(2047,36893488147419103232,4096)] (by kernel_rfl) (by kernel_rfl) (by kernel_rfl) (by kernel_rfl) (by kernel_rfl) MR.out ?_
 refine ag [0,1] [aj xb 9,aj xb 10] rfl (by kernel_rfl) (fun _=>by kernel_rfl) ?_
 refine ah (a0) (some 59) (ki (by kernel_rfl)) (fun bb hb=>aB (x:=(.tmp 58)) (by kernel_rfl) (by kernel_rfl) (aO (Q1.out _ hb) Tryz.underlying22 rfl)) ?_
 refine ag [3,4] [aj xb 9,aj xb 13] rfl (by kernel_rfl) (fun _=>by kernel_rfl) ?_
 refine ah (a1) (some 62) (ki (by kernel_rfl)) (fun bb hb=>aB (x:=(.tmp 61)) (by kernel_rfl) (by kernel_rfl) (aO (Q2.out _ hb) Tryz.underlying22 rfl)) ?_
 refine ag [6,7] [aj xb 9,aj xb 9] rfl (by kernel_rfl) (fun _=>by kernel_rfl) ?_
 refine ah (a2) (some 65) (ki (by kernel_rfl)) (fun bb hb=>aB (x:=(.tmp 64)) (by kernel_rfl) (by kernel_rfl) (aO (Q3.out _ hb) Tryz.underlying22 rfl)) ?_
 refine ag [9,10,11] [a0,a1,a2] rfl (by kernel_rfl) (fun _=>by kernel_rfl) ?_
 exact aA (aQ (K:=Q .normal) (by kernel_rfl) (HQ.out (aj xb 9) (aj xb 10) (a0) (aj xb 9) (aj xb 13) (a1) (aj xb 9) (aj xb 9) (a2) _ MR.out))
theorem qc16 {w:World}{sg xb:Nat}{c0 c1 c2 c3 c4 c5 rv:Value}{X:World→Prop} (hx:∀ j u,([c0,c1,c2,c3,c4,c5]:List Value)[j]?=some u→w.cell? ⟨xb,3+j,none⟩=some u) (hC:Calls Tryz.prog 35 #[.pointer (some ⟨sg,0,none⟩),.agg #[c0,c1,c2,c3,c4,c5]] w fun e w'=>e = .returned rv∧X w')
  (hK:∀ (y52 y53 y54 y55:Value)  (w':World),X w'→Q .normal ⟨#[x0,x1,x2,x3,x4,.pointer (some ⟨sg,0,none⟩),x6,x7,.pointer (some ⟨xb,0,none⟩),x9,bg,bn,bi,rv,aU,aS,aT,aW,aZ,aX,bu,bz,bF,bG,bH,bM,bT,bQ,cO,cZ,di,dw,eH,eP,dW,dQ,dR,dX,dF,dM,dN,dG,dH,dI,dJ,dK,dL,dE,dY,dO,dS,dU,y52,y53,y54,y55,eG,eQ,eU,fK,fG,fD,iH,iI,iJ,iK,iL,iM,iE,iV,iW,iY,iZ,lC,lH,lI,lJ,lK,lZ,l7,l9,mf,nY,nZ,og,oz,oC,oD,oG,oH,oI,oJ,oK,oL,oM,oN,oO,oP,oQ,oU,jM,mP,mQ,mV,mW,mX,mY,mZ,ng,ni,ny,nz,nC,kL,kM,kN,kP,kQ,kR,nD,nG,nH,nI,nJ,nK,nM,x126,x127,x128,x129,x130,x131,x132,x133,x134,x135,x136,x137,x138,x139,x140,x141,x142,x143,x144,x145,x146,x147,x148,x149,nN,nO,nP,nR],df⟩ w'):RW Tryz.prog (aH 16 Tryz.f8) false Q ⟨#[x0,x1,x2,x3,x4,.pointer (some ⟨sg,0,none⟩),x6,x7,.pointer (some ⟨xb,0,none⟩),x9,bg,bn,bi,aY,aU,aS,aT,aW,aZ,aX,bu,bz,bF,bG,bH,bM,bT,bQ,cO,cZ,di,dw,eH,eP,dW,dQ,dR,dX,dF,dM,dN,dG,dH,dI,dJ,dK,dL,dE,dY,dO,dS,dU,dZ,ed,eu,eF,eG,eQ,eU,fK,fG,fD,iH,iI,iJ,iK,iL,iM,iE,iV,iW,iY,iZ,lC,lH,lI,lJ,lK,lZ,l7,l9,mf,nY,nZ,og,oz,oC,oD,oG,oH,oI,oJ,oK,oL,oM,oN,oO,oP,oQ,oU,jM,mP,mQ,mV,mW,mX,mY,mZ,ng,ni,ny,nz,nC,kL,kM,kN,kP,kQ,kR,nD,nG,nH,nI,nJ,nK,nM,x126,x127,x128,x129,x130,x131,x132,x133,x134,x135,x136,x137,x138,x139,x140,x141,x142,x143,x144,x145,x146,x147,x148,x149,nN,nO,nP,nR],df⟩ w:=by
 have HQ:=lh hK
 clear hK
 have QX:=hx
 clear hx
 refine bZ [(0,false),(1,false),(2,false),(3,false),(4,false)] (by kernel_rfl) ?_
 refine aC [0,1] [aj sg 0,aj xb 3] rfl (by kernel_rfl) (by kernel_rfl) (.inr trivial) ?_
 refine aP (.agg #[c0,c1,c2,c3,c4,c5]) _ (some 54) (ki (by kernel_rfl)) (aB (x:=(.tmp 53)) (by kernel_rfl) (by kernel_rfl) (dD [c0,c1,c2,c3,c4,c5] ((fun _=>QX) (trivial)) Tryz.underlying73 rfl (by kernel_rfl))) (fun _=>trivial) ?_
 refine az (some 55) (ki (by kernel_rfl)) hC (fun _=>by kernel_rfl) ?_
 rintro r w7 ⟨rfl,hx⟩
 refine⟨_,rfl,fun _=>trivial,?_⟩
 refine aC [4] [rv] rfl (by kernel_rfl) (by kernel_rfl) (.inr trivial) ?_
 exact aA (aQ (K:=Q .normal) (by kernel_rfl) (HQ.out (aj sg 0) (aj xb 3) (.agg #[c0,c1,c2,c3,c4,c5]) (rv) w7 hx))
theorem qc19 {w:World}{sg xb:Nat}{c0 c1 c2 c3 c4 c5 c6 rv:Value}{X:World→Prop} (hx:∀ j u,([c0,c1,c2,c3,c4,c5,c6]:List Value)[j]?=some u→w.cell? ⟨xb,9+j,none⟩=some u) (hC:Calls Tryz.prog 36 #[.pointer (some ⟨sg,0,none⟩),.agg #[c0,c1,c2,c3,c4,c5,c6]] w fun e w'=>e = .returned rv∧X w')
  (hK:∀ (y66 y67 y68 y69:Value)  (w':World),X w'→Q .normal ⟨#[x0,x1,x2,x3,x4,.pointer (some ⟨sg,0,none⟩),x6,x7,.pointer (some ⟨xb,0,none⟩),x9,bg,bn,bi,rv,aU,aS,aT,aW,aZ,aX,bu,bz,bF,bG,bH,bM,bT,bQ,cO,cZ,di,dw,eH,eP,dW,dQ,dR,dX,dF,dM,dN,dG,dH,dI,dJ,dK,dL,dE,dY,dO,dS,dU,dZ,ed,eu,eF,eG,eQ,eU,fK,fG,fD,iH,iI,iJ,iK,y66,y67,y68,y69,iW,iY,iZ,lC,lH,lI,lJ,lK,lZ,l7,l9,mf,nY,nZ,og,oz,oC,oD,oG,oH,oI,oJ,oK,oL,oM,oN,oO,oP,oQ,oU,jM,mP,mQ,mV,mW,mX,mY,mZ,ng,ni,ny,nz,nC,kL,kM,kN,kP,kQ,kR,nD,nG,nH,nI,nJ,nK,nM,x126,x127,x128,x129,x130,x131,x132,x133,x134,x135,x136,x137,x138,x139,x140,x141,x142,x143,x144,x145,x146,x147,x148,x149,nN,nO,nP,nR],df⟩ w'):RW Tryz.prog (aH 19 Tryz.f8) false Q ⟨#[x0,x1,x2,x3,x4,.pointer (some ⟨sg,0,none⟩),x6,x7,.pointer (some ⟨xb,0,none⟩),x9,bg,bn,bi,aY,aU,aS,aT,aW,aZ,aX,bu,bz,bF,bG,bH,bM,bT,bQ,cO,cZ,di,dw,eH,eP,dW,dQ,dR,dX,dF,dM,dN,dG,dH,dI,dJ,dK,dL,dE,dY,dO,dS,dU,dZ,ed,eu,eF,eG,eQ,eU,fK,fG,fD,iH,iI,iJ,iK,iL,iM,iE,iV,iW,iY,iZ,lC,lH,lI,lJ,lK,lZ,l7,l9,mf,nY,nZ,og,oz,oC,oD,oG,oH,oI,oJ,oK,oL,oM,oN,oO,oP,oQ,oU,jM,mP,mQ,mV,mW,mX,mY,mZ,ng,ni,ny,nz,nC,kL,kM,kN,kP,kQ,kR,nD,nG,nH,nI,nJ,nK,nM,x126,x127,x128,x129,x130,x131,x132,x133,x134,x135,x136,x137,x138,x139,x140,x141,x142,x143,x144,x145,x146,x147,x148,x149,nN,nO,nP,nR],df⟩ w:=by
 have HQ:=lh hK
 clear hK
 have QX:=hx
 clear hx
 refine bZ [(0,false),(1,false),(2,false),(3,false),(4,false)] (by kernel_rfl) ?_
 refine aC [0,1] [aj sg 0,aj xb 9] rfl (by kernel_rfl) (by kernel_rfl) (.inr trivial) ?_
 refine aP (.agg #[c0,c1,c2,c3,c4,c5,c6]) _ (some 68) (ki (by kernel_rfl)) (aB (x:=(.tmp 67)) (by kernel_rfl) (by kernel_rfl) (dD [c0,c1,c2,c3,c4,c5,c6] ((fun _=>QX) (trivial)) Tryz.underlying77 rfl (by kernel_rfl))) (fun _=>trivial) ?_
 refine az (some 69) (ki (by kernel_rfl)) hC (fun _=>by kernel_rfl) ?_
 rintro r w7 ⟨rfl,hx⟩
 refine⟨_,rfl,fun _=>trivial,?_⟩
 refine aC [4] [rv] rfl (by kernel_rfl) (by kernel_rfl) (.inr trivial) ?_
 exact aA (aQ (K:=Q .normal) (by kernel_rfl) (HQ.out (aj sg 0) (aj xb 9) (.agg #[c0,c1,c2,c3,c4,c5,c6]) (rv) w7 hx))
theorem qc20 {w:World}{eb n id kd:Nat}{vo:Value}{pcs:List Value} (he:w.heap[eb]?=some (.cells #[.int .u64 ((id:Nat):Int),.int .i64 ((kd:Nat):Int)] 86 (0,0))) (hr:bC w 86 2 vo n pcs) (hn:n≤100000000)
  (hK:∀ (y70 y71 y72 y73:Value) (v8:Value) (w':World),bC w' 86 2 v8 (n+1) (pcs ++ [.int .u64 ((id:Nat):Int),.int .i64 ((kd:Nat):Int)])→ae (eY vo) w w'→(v8.ownBlock=vo.ownBlock∨aG w v8)→Q .normal ⟨#[x0,x1,x2,x3,x4,x5,v8,x7,x8,.pointer (some ⟨eb,0,none⟩),bg,bn,bi,aY,aU,aS,aT,aW,aZ,aX,bu,bz,bF,bG,bH,bM,bT,bQ,cO,cZ,di,dw,eH,eP,dW,dQ,dR,dX,dF,dM,dN,dG,dH,dI,dJ,dK,dL,dE,dY,dO,dS,dU,dZ,ed,eu,eF,eG,eQ,eU,fK,fG,fD,iH,iI,iJ,iK,iL,iM,iE,iV,y70,y71,y72,y73,lH,lI,lJ,lK,lZ,l7,l9,mf,nY,nZ,og,oz,oC,oD,oG,oH,oI,oJ,oK,oL,oM,oN,oO,oP,oQ,oU,jM,mP,mQ,mV,mW,mX,mY,mZ,ng,ni,ny,nz,nC,kL,kM,kN,kP,kQ,kR,nD,nG,nH,nI,nJ,nK,nM,x126,x127,x128,x129,x130,x131,x132,x133,x134,x135,x136,x137,x138,x139,x140,x141,x142,x143,x144,x145,x146,x147,x148,x149,nN,nO,nP,nR],df⟩ w'):RW Tryz.prog (aH 20 Tryz.f8) false Q ⟨#[x0,x1,x2,x3,x4,x5,vo,x7,x8,.pointer (some ⟨eb,0,none⟩),bg,bn,bi,aY,aU,aS,aT,aW,aZ,aX,bu,bz,bF,bG,bH,bM,bT,bQ,cO,cZ,di,dw,eH,eP,dW,dQ,dR,dX,dF,dM,dN,dG,dH,dI,dJ,dK,dL,dE,dY,dO,dS,dU,dZ,ed,eu,eF,eG,eQ,eU,fK,fG,fD,iH,iI,iJ,iK,iL,iM,iE,iV,iW,iY,iZ,lC,lH,lI,lJ,lK,lZ,l7,l9,mf,nY,nZ,og,oz,oC,oD,oG,oH,oI,oJ,oK,oL,oM,oN,oO,oP,oQ,oU,jM,mP,mQ,mV,mW,mX,mY,mZ,ng,ni,ny,nz,nC,kL,kM,kN,kP,kQ,kR,nD,nG,nH,nI,nJ,nK,nM,x126,x127,x128,x129,x130,x131,x132,x133,x134,x135,x136,x137,x138,x139,x140,x141,x142,x143,x144,x145,x146,x147,x148,x149,nN,nO,nP,nR],df⟩ w:=by
 have HQ:=lh hK
 clear hK
 have HR:=lh hr
 have QE:∀ j u,[Value.int .u64 ((id:Nat):Int),.int .i64 ((kd:Nat):Int)][j]?=some u→w.cell? ⟨eb,0+j,none⟩=some u:=fun j u hj=>by rw [Nat.zero_add];exact (af he j).trans (by rw [← hj];exact List.getElem?_toArray)
 clear hr he
 have MR:=lh (ae.refl ai w)
 refine bZ [(0,false),(1,false),(2,false),(3,false),(4,false)] (by kernel_rfl) ?_
 refine aC [0] [vo] rfl (by kernel_rfl) (by kernel_rfl) (.inr trivial) ?_
 refine aP (.agg #[.int .u64 ((id:Nat):Int),.int .i64 ((kd:Nat):Int)]) _ (some 71) (ki (by kernel_rfl)) (aB (x:=(.tmp 9)) (by kernel_rfl) (by kernel_rfl) (dD [.int .u64 ((id:Nat):Int),.int .i64 ((kd:Nat):Int)] ((fun _=>QE) (trivial)) Tryz.underlying86 rfl (by kernel_rfl))) (fun _=>trivial) ?_
 refine gq (.cells #[.int .u64 ((id:Nat):Int),.int .i64 ((kd:Nat):Int)] 86) 1 (some 72) (ki (by kernel_rfl)) (by kernel_rfl) ?_
 intro k1 w_k1 hk_k1 hO_k1 hm_k1 hl_k1
 have MZ:=MR.out.size
 replace MR:=lh (MR.out.then0 hm_k1)
 refine⟨fun _=>trivial,?_⟩
 obtain⟨inf,hi,hz,hs,hby⟩:=info_parts GX
 obtain⟨v8,w8,hr8,o8,m8,f8⟩:=wH (P:=Tryz.prog) 82 82 82 86 86 inf (.agg #[.int .u64 0,.int .i64 0]) Tryz.underlying82 Tryz.underlying82 hi hz (by rw [hs];rfl) (by rw [hs];exact HR.out.keep MR.out (fun _ _ x=>x)) (m:=1) (ys:=[.int .u64 ((id:Nat):Int),.int .i64 ((kd:Nat):Int)]) (by rw [hs];exact bC.rd (yX hO_k1).own) (by intro y hy;simp at hy;rcases hy with rfl | rfl <;> rfl) (by unfold maxLen;omega) (by rw [hby];omega)
 rw [hs] at o8
 refine aP v8 w8 (some 73) (ki (by kernel_rfl)) (of_append (x:=(.tmp 70)) (y:=(.tmp 72)) (by kernel_rfl) (by kernel_rfl) (by kernel_rfl) hr8) (fun _=>trivial) ?_
 have m78:=hm_k1.trans m8 (U:=eY vo) (fun _ _ x=>x.elim) (fun _ _ x=>x)
 have f9:=f8.imp (fun x=>x) (fun h=>h.of hm_k1.size)
 refine aC [4] [v8] rfl (by kernel_rfl) (by kernel_rfl) (.inr trivial) ?_
 exact aA (aQ (K:=Q .normal) (by kernel_rfl) (HQ.out (vo) (.agg #[.int .u64 ((id:Nat):Int),.int .i64 ((kd:Nat):Int)]) (.slice (some ⟨k1,0,none⟩) 1 1) (v8) v8 w8 o8 m78 f9))
theorem qc21p {w:World}{sg eb va d1 de id kd c:Nat}{S X0 X1 X2 X3 X4:World→Prop}{Y1 Y2 Y3:Value→World→Prop} (h0:X0 w.drew) (hS1:∀ b',S b'→b'.cell? ⟨eb,0,none⟩=some (.int .u64 ((id:Nat):Int))) (hS2:∀ b',S b'→∀ j u,[Value.int .u64 ((id:Nat):Int),.int .i64 ((kd:Nat):Int)][j]?=some u→b'.cell? ⟨eb,0+j,none⟩=some u) (hx0:∀ b',X0 b'→S b') (hy1:∀ v b',Y1 v b'→S b') (hx1:∀ b',X1 b'→S b') (hy2:∀ v b',Y2 v b'→S b') (hx2:∀ b',X2 b'→S b') (hy3:∀ v b',Y3 v b'→S b') (hx3:∀ b',X3 b'→S b') (hx4:∀ b',X4 b'→S b') (zY:∀ b',X0 b'→Calls Tryz.prog 37 #[.pointer (some ⟨sg,0,none⟩),.int .u64 (((d1+1):Nat):Int)] b' fun e w'=>∃ v,e = .returned v∧Y1 v w') (zZ:∀ v b',Y1 v b'→Calls Tryz.prog 55 #[v,.agg #[.int .u64 ((id:Nat):Int),.int .i64 ((kd:Nat):Int)]] b' fun e w'=>e = .returned (.bool true)∧X1 w') (Fz:∀ b',X1 b'→Calls Tryz.prog 37 #[.pointer (some ⟨sg,0,none⟩),.int .u64 ((d1:Nat):Int)] b' fun e w'=>∃ v,e = .returned v∧Y2 v w') (Il:∀ v b',Y2 v b'→Calls Tryz.prog 55 #[v,.agg #[.int .u64 ((id:Nat):Int),.int .i64 ((kd:Nat):Int)]] b' fun e w'=>e = .returned (.bool false)∧X2 w') (Gz:∀ b',X2 b'→Calls Tryz.prog 39 #[.pointer (some ⟨sg,0,none⟩),.int .u64 ((va:Nat):Int)] b' fun e w'=>∃ v,e = .returned v∧Y3 v w') (H7:∀ v b',Y3 v b'→Calls Tryz.prog 55 #[v,.agg #[.int .u64 ((id:Nat):Int),.int .i64 ((kd:Nat):Int)]] b' fun e w'=>e = .returned (.bool true)∧X3 w') (kc7:∀ b',X3 b'→Calls Tryz.prog 42 #[.pointer (some ⟨sg,0,none⟩),.int .u64 ((de:Nat):Int),.int .u64 ((va:Nat):Int)] b' fun e w'=>e = .returned (.int .u64 ((c:Nat):Int))∧X4 w') (hd:d1≤18446744073709551614) (hc:0<c)
  (hK:∀ (y74 y75 y76 y77 y78 y79 y80 y81 y82 y83 y84 y85 y86 y87 y88 y89 y90 y91 y92 y93 y94 y95 y96 y97 y98 y99 y100 y101 y102 y103 y104 y105 y106 y107 y108 y109 y110 y111:Value)  (w':World),X4 w'→Q .normal ⟨#[x0,x1,x2,x3,x4,.pointer (some ⟨sg,0,none⟩),x6,x7,x8,.pointer (some ⟨eb,0,none⟩),.int .u64 ((va:Nat):Int),.int .u64 (((d1+1):Nat):Int),.int .u64 ((de:Nat):Int),.int .u64 ((id:Nat):Int),aU,aS,aT,aW,aZ,aX,bu,bz,bF,bG,bH,bM,bT,bQ,cO,cZ,di,dw,eH,eP,dW,dQ,dR,dX,dF,dM,dN,dG,dH,dI,dJ,dK,dL,dE,dY,dO,dS,dU,dZ,ed,eu,eF,eG,eQ,eU,fK,fG,fD,iH,iI,iJ,iK,iL,iM,iE,iV,iW,iY,iZ,lC,y74,y75,y76,y77,y78,y79,y80,y81,y82,y83,y84,y85,y86,y87,y88,y89,y90,y91,y92,y93,y94,y95,y96,y97,y98,y99,y100,y101,y102,y103,y104,y105,y106,y107,y108,y109,y110,y111,.bool false,kL,kM,kN,kP,kQ,kR,nD,nG,nH,nI,nJ,nK,nM,x126,x127,x128,x129,x130,x131,x132,x133,x134,x135,x136,x137,x138,x139,x140,x141,x142,x143,x144,x145,x146,x147,x148,x149,nN,nO,nP,nR],df⟩ w'):RW Tryz.prog (aH 21 Tryz.f8) true Q ⟨#[x0,x1,x2,x3,x4,.pointer (some ⟨sg,0,none⟩),x6,x7,x8,.pointer (some ⟨eb,0,none⟩),.int .u64 ((va:Nat):Int),.int .u64 (((d1+1):Nat):Int),.int .u64 ((de:Nat):Int),.int .u64 ((id:Nat):Int),aU,aS,aT,aW,aZ,aX,bu,bz,bF,bG,bH,bM,bT,bQ,cO,cZ,di,dw,eH,eP,dW,dQ,dR,dX,dF,dM,dN,dG,dH,dI,dJ,dK,dL,dE,dY,dO,dS,dU,dZ,ed,eu,eF,eG,eQ,eU,fK,fG,fD,iH,iI,iJ,iK,iL,iM,iE,iV,iW,iY,iZ,lC,lH,lI,lJ,lK,lZ,l7,l9,mf,nY,nZ,og,oz,oC,oD,oG,oH,oI,oJ,oK,oL,oM,oN,oO,oP,oQ,oU,jM,mP,mQ,mV,mW,mX,mY,mZ,ng,ni,ny,nz,nC,kL,kM,kN,kP,kQ,kR,nD,nG,nH,nI,nJ,nK,nM,x126,x127,x128,x129,x130,x131,x132,x133,x134,x135,x136,x137,x138,x139,x140,x141,x142,x143,x144,x145,x146,x147,x148,x149,nN,nO,nP,nR],df⟩ w:=by
 have HQ:=lh hK
 clear hK
 have QE:=lh hS1
 have QX:=lh hS2
 have HX0:=lh hx0
 have H1:=lh hy1
 have HX1:=lh hx1
 have D1:=lh zY
 have D2:=lh zZ
 have H2:=lh hy2
 have HX2:=lh hx2
 have D3:=lh Fz
 have D4:=lh Il
 have H3:=lh hy3
 have HX3:=lh hx3
 have HX4:=lh hx4
 have D5:=lh Gz
 have D6:=lh H7
 have D7:=lh kc7
 clear hS1 hS2 hx0 hy1 hx1 zY zZ hy2 hx2 Fz Il hy3 hx3 hx4 Gz H7 kc7
 have MR:=lh h0
 refine iU (S:=S) [(0,true),(1,true),(2,true),(3,true),(4,true),(5,true),(6,true),(8,true),(7,false),(9,false),(10,true),(11,true),(12,true),(13,true),(14,true),(15,true),(16,true),(17,true),(18,true),(20,true),(19,false),(21,false),(22,true),(23,true),(24,true),(25,true),(26,true),(28,true),(27,false),(29,false),(30,true),(31,true),(32,true),(33,true),(34,true),(35,true),(36,false),(37,true),(38,true)] [] [(0,8192,18889465931478580854784),(0,512,37778931862957161709568),(2,37778931862957161709568,75557863725914323419136),(5,94447329657392904273920,151115727451828646838272),(8,151115727451828646838272,302231454903657293676544),(16,302231454903657293676576,604462909807314587353088),(16,302231454903657293678592,1208925819614629174706176),(112,2115620184325601055735808,2417851639229258349412352),(16,302231454903657293677056,4835703278458516698824704),(400,7555786372591432341913600,9671406556917033397649408),(528,9973638011820690691325952,19342813113834066795298816),(1040,19645044568737724088975360,38685626227668133590597632),(2560,38685626227668133590597632,77371252455336267181195264),(4096,77371252455336267181197312,154742504910672534362390528),(12288,232113757366008801543585792,309485009821345068724781056),(20480,386856262276681335905976320,618970019642690137449562112),(32768,618970019642690137449562144,1237940039285380274899124224),(32768,618970019642690137449564160,2475880078570760549798248448),(163840,3094850098213450687247810560,4951760157141521099596496896),(360448,6808670216069591511945183232,9903520314283042199192993792),(32768,618970019642690137449562624,19807040628566084398385987584),(1605632,30329530962491816735028543488,39614081257132168796771975168),(2134016,40310422529230195201402732544,79228162514264337593543950336),(4198400,79305533766719673860725145600,158456325028528675187087900672),(10485760,158456325028528675187087900672,316912650057057350374175801344),(16777216,316912650057057350374175801376,633825300114114700748351602688),(16777216,316912650057057350374175802368,1267650600228229401496703205376),(117440512,2218388550399401452619230609408,2535301200456458802993406410752),(16777216,316912650057057350374175801856,5070602400912917605986812821504),(419430400,7922816251426433759354395033600,10141204801825835211973625643008),(553648128,10458117451882892562347801444352,20282409603651670423947251286016),(1090519040,20599322253708727774321427087360,40564819207303340847894502572032),(2684354560,40564819207303340847894502572032,81129638414606681695789005144064),(4294967296,81129638414606681695789005144096,162259276829213363391578010288128),(4294967296,81129638414606681695789005148160,324518553658426726783156020576256),(4294967296,81129638414606681695789005145088,649037107316853453566312041152512),(64424509440,1216944576219100225436835077160960,1298074214633706907132624082305024),(73014444032,1379203853048313588828413087449088,2596148429267413814265248164610048),(141733920768,2677278067682020495961037169754112,5192296858534827628530496329220096)] (by kernel_rfl) (by kernel_rfl) (by kernel_rfl) (by kernel_rfl) (by kernel_rfl) (HX0.out _ MR.out) ?_
 refine ag [0,1] [.int .u64 ((id:Nat):Int),aj eb 0] rfl (by kernel_rfl) (fun _=>by kernel_rfl) ?_
 refine ah (.int .u64 ((id:Nat):Int)) (some 76) (ki (by kernel_rfl)) (fun bb hb=>aB (x:=(.tmp 75)) (by kernel_rfl) (by kernel_rfl) (aO (QE.out _ hb) Tryz.underlying22 rfl)) ?_
 refine ah (.bool false) (some 77) (ki (by kernel_rfl)) (fun bb hb=>bV (t:=22) (t':=22) (xv := .int .u64 ((id:Nat):Int)) (yv := .int .u64 ((id:Nat):Int)) (x:=(.tmp 74)) (y:=(.tmp 76)) (by kernel_rfl) (by kernel_rfl) (by kernel_rfl) (fun _=>by kernel_rfl) (JL _ (by simp))) ?_
 refine ag [4,5,6] [.bool false,aj sg 0,.int .u64 (((d1+1):Nat):Int)] rfl (by kernel_rfl) (fun _=>by kernel_rfl) ?_
 refine ah (.agg #[.int .u64 ((id:Nat):Int),.int .i64 ((kd:Nat):Int)]) (some 82) (ki (by kernel_rfl)) (fun bb hb=>aB (x:=(.tmp 9)) (by kernel_rfl) (by kernel_rfl) (dD [.int .u64 ((id:Nat):Int),.int .i64 ((kd:Nat):Int)] (QX.out _ hb) Tryz.underlying86 rfl (by kernel_rfl))) ?_
 refine az (some 81) (ki (by kernel_rfl)) (D1.out _ MR.out) (fun _=>by kernel_rfl) ?_
 rintro r w70 ⟨v70,rfl,hm70⟩
 replace MR:=lh hm70
 refine⟨_,rfl,fun _=>H1.out _ _ MR.out,?_⟩
 refine az (some 83) (ki (by kernel_rfl)) (D2.out _ _ MR.out) (fun _=>by kernel_rfl) ?_
 rintro r w71 ⟨rfl,hm71⟩
 replace MR:=lh hm71
 refine⟨_,rfl,fun _=>HX1.out _ MR.out,?_⟩
 refine ag [10,11,12,13] [.bool false,.bool false,.bool false,.int .u64 (((d1+1):Nat):Int)] rfl (by kernel_rfl) (fun _=>by kernel_rfl) ?_
 refine ah (.bool true) (some 88) (ki (by kernel_rfl)) (fun bb hb=>bV (t:=22) (t':=22) (xv := .int .u64 (((d1+1):Nat):Int)) (yv := .int .u64 0) (x:=(.tmp 87)) (y:=(.const (.int .u64 0))) (by kernel_rfl) (by kernel_rfl) (by kernel_rfl) (fun _=>by kernel_rfl) (sQ _ (decide_eq_true (by omega)))) ?_
 refine ag [15,16,17] [.bool true,aj sg 0,.int .u64 (((d1+1):Nat):Int)] rfl (by kernel_rfl) (fun _=>by kernel_rfl) ?_
 refine ah (.int .u64 ((d1:Nat):Int)) (some 92) (ki (by kernel_rfl)) (fun bb hb=>bV (t:=22) (t':=22) (xv := .int .u64 (((d1+1):Nat):Int)) (yv := .int .u64 1) (x:=(.tmp 91)) (y:=(.const (.int .u64 1))) (by kernel_rfl) (by kernel_rfl) (by kernel_rfl) (fun _=>by kernel_rfl) (run_sub64 _ (by omega))) ?_
 refine ah (.agg #[.int .u64 ((id:Nat):Int),.int .i64 ((kd:Nat):Int)]) (some 94) (ki (by kernel_rfl)) (fun bb hb=>aB (x:=(.tmp 9)) (by kernel_rfl) (by kernel_rfl) (dD [.int .u64 ((id:Nat):Int),.int .i64 ((kd:Nat):Int)] (QX.out _ hb) Tryz.underlying86 rfl (by kernel_rfl))) ?_
 refine az (some 93) (ki (by kernel_rfl)) (D3.out _ MR.out) (fun _=>by kernel_rfl) ?_
 rintro r w72 ⟨v72,rfl,hm72⟩
 replace MR:=lh hm72
 refine⟨_,rfl,fun _=>H2.out _ _ MR.out,?_⟩
 refine az (some 95) (ki (by kernel_rfl)) (D4.out _ _ MR.out) (fun _=>by kernel_rfl) ?_
 rintro r w73 ⟨rfl,hm73⟩
 replace MR:=lh hm73
 refine⟨_,rfl,fun _=>HX2.out _ MR.out,?_⟩
 refine ag [22,23,24,25,26] [.bool false,.bool false,.bool false,aj sg 0,.int .u64 ((va:Nat):Int)] rfl (by kernel_rfl) (fun _=>by kernel_rfl) ?_
 refine ah (.agg #[.int .u64 ((id:Nat):Int),.int .i64 ((kd:Nat):Int)]) (some 102) (ki (by kernel_rfl)) (fun bb hb=>aB (x:=(.tmp 9)) (by kernel_rfl) (by kernel_rfl) (dD [.int .u64 ((id:Nat):Int),.int .i64 ((kd:Nat):Int)] (QX.out _ hb) Tryz.underlying86 rfl (by kernel_rfl))) ?_
 refine az (some 101) (ki (by kernel_rfl)) (D5.out _ MR.out) (fun _=>by kernel_rfl) ?_
 rintro r w74 ⟨v74,rfl,hm74⟩
 replace MR:=lh hm74
 refine⟨_,rfl,fun _=>H3.out _ _ MR.out,?_⟩
 refine az (some 103) (ki (by kernel_rfl)) (D6.out _ _ MR.out) (fun _=>by kernel_rfl) ?_
 rintro r w75 ⟨rfl,hm75⟩
 replace MR:=lh hm75
 refine⟨_,rfl,fun _=>HX3.out _ MR.out,?_⟩
 refine ag [30,31,32,33,34,35] [.bool false,.bool false,.bool false,aj sg 0,.int .u64 ((de:Nat):Int),.int .u64 ((va:Nat):Int)] rfl (by kernel_rfl) (fun _=>by kernel_rfl) ?_
 refine az (some 110) (ki (by kernel_rfl)) (D7.out _ MR.out) (fun _=>by kernel_rfl) ?_
 rintro r w76 ⟨rfl,hm76⟩
 replace MR:=lh hm76
 refine⟨_,rfl,fun _=>HX4.out _ MR.out,?_⟩
 refine ah (.bool false) (some 111) (ki (by kernel_rfl)) (fun bb hb=>bV (t:=22) (t':=22) (xv := .int .u64 ((c:Nat):Int)) (yv := .int .u64 0) (x:=(.tmp 110)) (y:=(.const (.int .u64 0))) (by kernel_rfl) (by kernel_rfl) (by kernel_rfl) (fun _=>by kernel_rfl) (kS _ (decide_eq_false (by omega)))) ?_
 refine ag [38] [.bool false] rfl (by kernel_rfl) (fun _=>by kernel_rfl) ?_
 exact aA (aQ (K:=Q .normal) (by kernel_rfl) (HQ.out (.int .u64 ((id:Nat):Int)) (aj eb 0) (.int .u64 ((id:Nat):Int)) (.bool false) (.bool false) (aj sg 0) (.int .u64 (((d1+1):Nat):Int)) (v70) (.agg #[.int .u64 ((id:Nat):Int),.int .i64 ((kd:Nat):Int)]) (.bool true) (.bool false) (.bool false) (.bool false) (.int .u64 (((d1+1):Nat):Int)) (.bool true) (.bool true) (aj sg 0) (.int .u64 (((d1+1):Nat):Int)) (.int .u64 ((d1:Nat):Int)) (v72) (.agg #[.int .u64 ((id:Nat):Int),.int .i64 ((kd:Nat):Int)]) (.bool false) (.bool false) (.bool false) (.bool false) (aj sg 0) (.int .u64 ((va:Nat):Int)) (v74) (.agg #[.int .u64 ((id:Nat):Int),.int .i64 ((kd:Nat):Int)]) (.bool true) (.bool false) (.bool false) (.bool false) (aj sg 0) (.int .u64 ((de:Nat):Int)) (.int .u64 ((va:Nat):Int)) (.int .u64 ((c:Nat):Int)) (.bool false) _ MR.out))
theorem qc21z {w:World}{sg eb va d1 de id kd c:Nat}{S X0 X1 X3 X4:World→Prop}{Y1 Y3:Value→World→Prop} (h0:X0 w.drew) (hS1:∀ b',S b'→b'.cell? ⟨eb,0,none⟩=some (.int .u64 ((id:Nat):Int))) (hS2:∀ b',S b'→∀ j u,[Value.int .u64 ((id:Nat):Int),.int .i64 ((kd:Nat):Int)][j]?=some u→b'.cell? ⟨eb,0+j,none⟩=some u) (hx0:∀ b',X0 b'→S b') (hy1:∀ v b',Y1 v b'→S b') (hx1:∀ b',X1 b'→S b') (hy3:∀ v b',Y3 v b'→S b') (hx3:∀ b',X3 b'→S b') (hx4:∀ b',X4 b'→S b') (zY:∀ b',X0 b'→Calls Tryz.prog 37 #[.pointer (some ⟨sg,0,none⟩),.int .u64 0] b' fun e w'=>∃ v,e = .returned v∧Y1 v w') (zZ:∀ v b',Y1 v b'→Calls Tryz.prog 55 #[v,.agg #[.int .u64 ((id:Nat):Int),.int .i64 ((kd:Nat):Int)]] b' fun e w'=>e = .returned (.bool true)∧X1 w') (Gz:∀ b',X1 b'→Calls Tryz.prog 39 #[.pointer (some ⟨sg,0,none⟩),.int .u64 ((va:Nat):Int)] b' fun e w'=>∃ v,e = .returned v∧Y3 v w') (H7:∀ v b',Y3 v b'→Calls Tryz.prog 55 #[v,.agg #[.int .u64 ((id:Nat):Int),.int .i64 ((kd:Nat):Int)]] b' fun e w'=>e = .returned (.bool true)∧X3 w') (kc7:∀ b',X3 b'→Calls Tryz.prog 42 #[.pointer (some ⟨sg,0,none⟩),.int .u64 ((de:Nat):Int),.int .u64 ((va:Nat):Int)] b' fun e w'=>e = .returned (.int .u64 ((c:Nat):Int))∧X4 w') (hd:d1≤18446744073709551614) (hc:0<c)
  (hK:∀ (y74 y75 y76 y77 y78 y79 y80 y81 y82 y83 y84 y85 y86 y87 y88 y89 y90 y91 y92 y93 y94 y95 y96 y97 y98 y99 y100 y101 y102 y103 y104 y105 y106 y107 y108 y109 y110 y111:Value)  (w':World),X4 w'→Q .normal ⟨#[x0,x1,x2,x3,x4,.pointer (some ⟨sg,0,none⟩),x6,x7,x8,.pointer (some ⟨eb,0,none⟩),.int .u64 ((va:Nat):Int),.int .u64 0,.int .u64 ((de:Nat):Int),.int .u64 ((id:Nat):Int),aU,aS,aT,aW,aZ,aX,bu,bz,bF,bG,bH,bM,bT,bQ,cO,cZ,di,dw,eH,eP,dW,dQ,dR,dX,dF,dM,dN,dG,dH,dI,dJ,dK,dL,dE,dY,dO,dS,dU,dZ,ed,eu,eF,eG,eQ,eU,fK,fG,fD,iH,iI,iJ,iK,iL,iM,iE,iV,iW,iY,iZ,lC,y74,y75,y76,y77,y78,y79,y80,y81,y82,y83,y84,y85,y86,y87,y88,y89,y90,y91,y92,y93,y94,y95,y96,y97,y98,y99,y100,y101,y102,y103,y104,y105,y106,y107,y108,y109,y110,y111,.bool false,kL,kM,kN,kP,kQ,kR,nD,nG,nH,nI,nJ,nK,nM,x126,x127,x128,x129,x130,x131,x132,x133,x134,x135,x136,x137,x138,x139,x140,x141,x142,x143,x144,x145,x146,x147,x148,x149,nN,nO,nP,nR],df⟩ w'):RW Tryz.prog (aH 21 Tryz.f8) true Q ⟨#[x0,x1,x2,x3,x4,.pointer (some ⟨sg,0,none⟩),x6,x7,x8,.pointer (some ⟨eb,0,none⟩),.int .u64 ((va:Nat):Int),.int .u64 0,.int .u64 ((de:Nat):Int),.int .u64 ((id:Nat):Int),aU,aS,aT,aW,aZ,aX,bu,bz,bF,bG,bH,bM,bT,bQ,cO,cZ,di,dw,eH,eP,dW,dQ,dR,dX,dF,dM,dN,dG,dH,dI,dJ,dK,dL,dE,dY,dO,dS,dU,dZ,ed,eu,eF,eG,eQ,eU,fK,fG,fD,iH,iI,iJ,iK,iL,iM,iE,iV,iW,iY,iZ,lC,lH,lI,lJ,lK,lZ,l7,l9,mf,nY,nZ,og,oz,oC,oD,oG,oH,oI,oJ,oK,oL,oM,oN,oO,oP,oQ,oU,jM,mP,mQ,mV,mW,mX,mY,mZ,ng,ni,ny,nz,nC,kL,kM,kN,kP,kQ,kR,nD,nG,nH,nI,nJ,nK,nM,x126,x127,x128,x129,x130,x131,x132,x133,x134,x135,x136,x137,x138,x139,x140,x141,x142,x143,x144,x145,x146,x147,x148,x149,nN,nO,nP,nR],df⟩ w:=by
 have HQ:=lh hK
 clear hK
 have QE:=lh hS1
 have QX:=lh hS2
 have HX0:=lh hx0
 have H1:=lh hy1
 have HX1:=lh hx1
 have D1:=lh zY
 have D2:=lh zZ
 have H3:=lh hy3
 have HX3:=lh hx3
 have HX4:=lh hx4
 have D5:=lh Gz
 have D6:=lh H7
 have D7:=lh kc7
 clear hS1 hS2 hx0 hy1 hx1 zY zZ hy3 hx3 hx4 Gz H7 kc7
 have MR:=lh h0
 refine iU (S:=S) [(0,true),(1,true),(2,true),(3,true),(4,true),(5,true),(6,true),(8,true),(7,false),(9,false),(10,true),(11,true),(12,true),(13,true),(14,true),(15,true),(16,true),(17,true),(18,true),(20,true),(19,false),(21,false),(22,true),(23,true),(24,true),(25,true),(26,true),(28,true),(27,false),(29,false),(30,true),(31,true),(32,true),(33,true),(34,true),(35,true),(36,false),(37,true),(38,true)] [] [(0,8192,18889465931478580854784),(0,512,37778931862957161709568),(2,37778931862957161709568,75557863725914323419136),(5,94447329657392904273920,151115727451828646838272),(8,151115727451828646838272,302231454903657293676544),(16,302231454903657293676576,604462909807314587353088),(16,302231454903657293678592,1208925819614629174706176),(112,2115620184325601055735808,2417851639229258349412352),(16,302231454903657293677056,4835703278458516698824704),(400,7555786372591432341913600,9671406556917033397649408),(528,9973638011820690691325952,19342813113834066795298816),(1040,19645044568737724088975360,38685626227668133590597632),(2560,38685626227668133590597632,77371252455336267181195264),(4096,77371252455336267181197312,154742504910672534362390528),(12288,232113757366008801543585792,309485009821345068724781056),(20480,386856262276681335905976320,618970019642690137449562112),(32768,618970019642690137449562144,1237940039285380274899124224),(32768,618970019642690137449564160,2475880078570760549798248448),(163840,3094850098213450687247810560,4951760157141521099596496896),(360448,6808670216069591511945183232,9903520314283042199192993792),(32768,618970019642690137449562624,19807040628566084398385987584),(1605632,30329530962491816735028543488,39614081257132168796771975168),(2134016,40310422529230195201402732544,79228162514264337593543950336),(4198400,79305533766719673860725145600,158456325028528675187087900672),(10485760,158456325028528675187087900672,316912650057057350374175801344),(16777216,316912650057057350374175801376,633825300114114700748351602688),(16777216,316912650057057350374175802368,1267650600228229401496703205376),(117440512,2218388550399401452619230609408,2535301200456458802993406410752),(16777216,316912650057057350374175801856,5070602400912917605986812821504),(419430400,7922816251426433759354395033600,10141204801825835211973625643008),(553648128,10458117451882892562347801444352,20282409603651670423947251286016),(1090519040,20599322253708727774321427087360,40564819207303340847894502572032),(2684354560,40564819207303340847894502572032,81129638414606681695789005144064),(4294967296,81129638414606681695789005144096,162259276829213363391578010288128),(4294967296,81129638414606681695789005148160,324518553658426726783156020576256),(4294967296,81129638414606681695789005145088,649037107316853453566312041152512),(64424509440,1216944576219100225436835077160960,1298074214633706907132624082305024),(73014444032,1379203853048313588828413087449088,2596148429267413814265248164610048),(141733920768,2677278067682020495961037169754112,5192296858534827628530496329220096)] (by kernel_rfl) (by kernel_rfl) (by kernel_rfl) (by kernel_rfl) (by kernel_rfl) (HX0.out _ MR.out) ?_
 refine ag [0,1] [.int .u64 ((id:Nat):Int),aj eb 0] rfl (by kernel_rfl) (fun _=>by kernel_rfl) ?_
 refine ah (.int .u64 ((id:Nat):Int)) (some 76) (ki (by kernel_rfl)) (fun bb hb=>aB (x:=(.tmp 75)) (by kernel_rfl) (by kernel_rfl) (aO (QE.out _ hb) Tryz.underlying22 rfl)) ?_
 refine ah (.bool false) (some 77) (ki (by kernel_rfl)) (fun bb hb=>bV (t:=22) (t':=22) (xv := .int .u64 ((id:Nat):Int)) (yv := .int .u64 ((id:Nat):Int)) (x:=(.tmp 74)) (y:=(.tmp 76)) (by kernel_rfl) (by kernel_rfl) (by kernel_rfl) (fun _=>by kernel_rfl) (JL _ (by simp))) ?_
 refine ag [4,5,6] [.bool false,aj sg 0,.int .u64 0] rfl (by kernel_rfl) (fun _=>by kernel_rfl) ?_
 refine ah (.agg #[.int .u64 ((id:Nat):Int),.int .i64 ((kd:Nat):Int)]) (some 82) (ki (by kernel_rfl)) (fun bb hb=>aB (x:=(.tmp 9)) (by kernel_rfl) (by kernel_rfl) (dD [.int .u64 ((id:Nat):Int),.int .i64 ((kd:Nat):Int)] (QX.out _ hb) Tryz.underlying86 rfl (by kernel_rfl))) ?_
 refine az (some 81) (ki (by kernel_rfl)) (D1.out _ MR.out) (fun _=>by kernel_rfl) ?_
 rintro r w70 ⟨v70,rfl,hm70⟩
 replace MR:=lh hm70
 refine⟨_,rfl,fun _=>H1.out _ _ MR.out,?_⟩
 refine az (some 83) (ki (by kernel_rfl)) (D2.out _ _ MR.out) (fun _=>by kernel_rfl) ?_
 rintro r w71 ⟨rfl,hm71⟩
 replace MR:=lh hm71
 refine⟨_,rfl,fun _=>HX1.out _ MR.out,?_⟩
 refine ag [10,11,12,13] [.bool false,.bool false,.bool false,.int .u64 0] rfl (by kernel_rfl) (fun _=>by kernel_rfl) ?_
 refine ah (.bool false) (some 88) (ki (by kernel_rfl)) (fun bb hb=>bV (t:=22) (t':=22) (xv := .int .u64 0) (yv := .int .u64 0) (x:=(.tmp 87)) (y:=(.const (.int .u64 0))) (by kernel_rfl) (by kernel_rfl) (by kernel_rfl) (fun _=>by kernel_rfl) (sQ _ (decide_eq_false (by omega)))) ?_
 refine ag [15,16,17,18,20] [.bool false,undef,undef,undef,undef] rfl (by kernel_rfl) (fun _=>by kernel_rfl) ?_
 refine lD (some 93) (ki (by kernel_rfl)) (fun _=>(HX1.out _ MR.out)) ?_
 refine lD (some 95) (ki (by kernel_rfl)) (fun _=>(HX1.out _ MR.out)) ?_
 refine ag [22,23,24,25,26] [.bool false,.bool false,.bool false,aj sg 0,.int .u64 ((va:Nat):Int)] rfl (by kernel_rfl) (fun _=>by kernel_rfl) ?_
 refine ah (.agg #[.int .u64 ((id:Nat):Int),.int .i64 ((kd:Nat):Int)]) (some 102) (ki (by kernel_rfl)) (fun bb hb=>aB (x:=(.tmp 9)) (by kernel_rfl) (by kernel_rfl) (dD [.int .u64 ((id:Nat):Int),.int .i64 ((kd:Nat):Int)] (QX.out _ hb) Tryz.underlying86 rfl (by kernel_rfl))) ?_
 refine az (some 101) (ki (by kernel_rfl)) (D5.out _ MR.out) (fun _=>by kernel_rfl) ?_
 rintro r w72 ⟨v72,rfl,hm72⟩
 replace MR:=lh hm72
 refine⟨_,rfl,fun _=>H3.out _ _ MR.out,?_⟩
 refine az (some 103) (ki (by kernel_rfl)) (D6.out _ _ MR.out) (fun _=>by kernel_rfl) ?_
 rintro r w73 ⟨rfl,hm73⟩
 replace MR:=lh hm73
 refine⟨_,rfl,fun _=>HX3.out _ MR.out,?_⟩
 refine ag [30,31,32,33,34,35] [.bool false,.bool false,.bool false,aj sg 0,.int .u64 ((de:Nat):Int),.int .u64 ((va:Nat):Int)] rfl (by kernel_rfl) (fun _=>by kernel_rfl) ?_
 refine az (some 110) (ki (by kernel_rfl)) (D7.out _ MR.out) (fun _=>by kernel_rfl) ?_
 rintro r w74 ⟨rfl,hm74⟩
 replace MR:=lh hm74
 refine⟨_,rfl,fun _=>HX4.out _ MR.out,?_⟩
 refine ah (.bool false) (some 111) (ki (by kernel_rfl)) (fun bb hb=>bV (t:=22) (t':=22) (xv := .int .u64 ((c:Nat):Int)) (yv := .int .u64 0) (x:=(.tmp 110)) (y:=(.const (.int .u64 0))) (by kernel_rfl) (by kernel_rfl) (by kernel_rfl) (fun _=>by kernel_rfl) (kS _ (decide_eq_false (by omega)))) ?_
 refine ag [38] [.bool false] rfl (by kernel_rfl) (fun _=>by kernel_rfl) ?_
 exact aA (aQ (K:=Q .normal) (by kernel_rfl) (HQ.out (.int .u64 ((id:Nat):Int)) (aj eb 0) (.int .u64 ((id:Nat):Int)) (.bool false) (.bool false) (aj sg 0) (.int .u64 0) (v70) (.agg #[.int .u64 ((id:Nat):Int),.int .i64 ((kd:Nat):Int)]) (.bool true) (.bool false) (.bool false) (.bool false) (.int .u64 0) (.bool false) (.bool false) (undef) (undef) (undef) (undef) (undef) (undef) (.bool false) (.bool false) (.bool false) (aj sg 0) (.int .u64 ((va:Nat):Int)) (v72) (.agg #[.int .u64 ((id:Nat):Int),.int .i64 ((kd:Nat):Int)]) (.bool true) (.bool false) (.bool false) (.bool false) (aj sg 0) (.int .u64 ((de:Nat):Int)) (.int .u64 ((va:Nat):Int)) (.int .u64 ((c:Nat):Int)) (.bool false) _ MR.out))
theorem qc28 {w:World}{sg h offh m cb i id kd:Nat}{S X0 X1 X2 X3:World→Prop}{Y3:Value→World→Prop} (h0:X0 w.drew) (hi:i<m) (hn:m≤1000000) (hS2:∀ b',S b'→∀ j u,[Value.int .u64 ((id:Nat):Int),.int .i64 ((kd:Nat):Int)][j]?=some u→b'.cell? ⟨h,offh+i*2+j,none⟩=some u) (hx0:∀ b',X0 b'→S b') (hx1:∀ b',X1 b'→S b') (hx2:∀ b',X2 b'→S b') (hy3:∀ v b',Y3 v b'→S b') (hx3:∀ b',X3 b'→S b') (zY:∀ b',X0 b'→Calls Tryz.prog 52 #[.pointer (some ⟨sg,0,none⟩),.agg #[.int .u64 ((id:Nat):Int),.int .i64 ((kd:Nat):Int)]] b' fun e w'=>e = .returned (.bool true)∧X1 w') (zZ:∀ b',X1 b'→Calls Tryz.prog 52 #[.pointer (some ⟨sg,0,none⟩),.agg #[.int .u64 ((id:Nat):Int),.int .i64 ((kd:Nat):Int)]] b' fun e w'=>e = .returned (.bool false)∧X2 w') (Fz:∀ b',X2 b'→Calls Tryz.prog 37 #[.pointer (some ⟨sg,0,none⟩),.int .u64 18446744073709551615] b' fun e w'=>∃ v,e = .returned v∧Y3 v w') (Il:∀ v b',Y3 v b'→Calls Tryz.prog 55 #[v,.agg #[.int .u64 ((id:Nat):Int),.int .i64 ((kd:Nat):Int)]] b' fun e w'=>e = .returned (.bool false)∧X3 w')
  (hK:∀ (y126 y127 y128 y129 y130 y131 y132 y133 y134 y135 y136 y137 y138 y139 y140 y141 y142 y143 y144 y145 y146 y147 y148:Value)  (w':World),X3 w'→Q .normal ⟨#[x0,x1,x2,x3,x4,.pointer (some ⟨sg,0,none⟩),.slice (some ⟨h,offh,none⟩) m cb,x7,x8,x9,bg,bn,bi,aY,.int .i64 ((i:Nat):Int),aS,aT,aW,aZ,aX,bu,bz,bF,bG,bH,bM,bT,bQ,cO,cZ,di,dw,eH,eP,dW,dQ,dR,dX,dF,dM,dN,dG,dH,dI,dJ,dK,dL,dE,dY,dO,dS,dU,dZ,ed,eu,eF,eG,eQ,eU,fK,fG,fD,iH,iI,iJ,iK,iL,iM,iE,iV,iW,iY,iZ,lC,lH,lI,lJ,lK,lZ,l7,l9,mf,nY,nZ,og,oz,oC,oD,oG,oH,oI,oJ,oK,oL,oM,oN,oO,oP,oQ,oU,jM,mP,mQ,mV,mW,mX,mY,mZ,ng,ni,ny,nz,nC,kL,kM,kN,kP,kQ,kR,nD,nG,nH,nI,nJ,nK,nM,y126,y127,y128,y129,y130,y131,y132,y133,y134,y135,y136,y137,y138,y139,y140,y141,y142,y143,y144,y145,y146,y147,y148,.bool false,nN,nO,nP,nR],df⟩ w'):RW Tryz.prog (aH 28 Tryz.f8) true Q ⟨#[x0,x1,x2,x3,x4,.pointer (some ⟨sg,0,none⟩),.slice (some ⟨h,offh,none⟩) m cb,x7,x8,x9,bg,bn,bi,aY,.int .i64 ((i:Nat):Int),aS,aT,aW,aZ,aX,bu,bz,bF,bG,bH,bM,bT,bQ,cO,cZ,di,dw,eH,eP,dW,dQ,dR,dX,dF,dM,dN,dG,dH,dI,dJ,dK,dL,dE,dY,dO,dS,dU,dZ,ed,eu,eF,eG,eQ,eU,fK,fG,fD,iH,iI,iJ,iK,iL,iM,iE,iV,iW,iY,iZ,lC,lH,lI,lJ,lK,lZ,l7,l9,mf,nY,nZ,og,oz,oC,oD,oG,oH,oI,oJ,oK,oL,oM,oN,oO,oP,oQ,oU,jM,mP,mQ,mV,mW,mX,mY,mZ,ng,ni,ny,nz,nC,kL,kM,kN,kP,kQ,kR,nD,nG,nH,nI,nJ,nK,nM,x126,x127,x128,x129,x130,x131,x132,x133,x134,x135,x136,x137,x138,x139,x140,x141,x142,x143,x144,x145,x146,x147,x148,x149,nN,nO,nP,nR],df⟩ w:=by
 have HQ:=lh hK
 clear hK
 have QX:=lh hS2
 have HX0:=lh hx0
 have HX1:=lh hx1
 have HX2:=lh hx2
 have H3:=lh hy3
 have HX3:=lh hx3
 have D1:=lh zY
 have D2:=lh zZ
 have D3:=lh Fz
 have D4:=lh Il
 clear hS2 hx0 hx1 hx2 hy3 hx3 zY zZ Fz Il
 have MR:=lh h0
 refine iU (S:=S) [(0,true),(1,true),(2,true),(3,true),(4,true),(5,false),(6,true),(7,true),(8,true),(9,true),(10,true),(11,true),(12,true),(13,false),(14,true),(15,true),(16,true),(18,true),(19,true),(20,true),(21,true),(17,false),(22,false),(23,true)] [] [(0,32,85070591730234615865843651857942052864),(0,64,170141183460469231731687303715884105728),(0,16384,340282366920938463463374607431768211456),(6,510423550381407695195061911147652317184,680564733841876926926749214863536422912),(8,680564733841876926926749214863536422912,1361129467683753853853498429727072845824),(17,1446200059413988469719342081585014898688,2722258935367507707706996859454145691648),(32,2722258935367507707706996859454145691648,5444517870735015415413993718908291383296),(96,5444517870735015415413993718908291383296,10889035741470030830827987437816582766592),(128,10889035741470030830827987437816582766624,21778071482940061661655974875633165533184),(128,10889035741470030830827987437816582766656,43556142965880123323311949751266331066368),(128,10889035741470030830827987437816582782976,87112285931760246646623899502532662132736),(1664,141557464639110400800763836691615575965696,174224571863520493293247799005065324265472),(2176,185113607604990524124075786442881907032064,348449143727040986586495598010130648530944),(4480,381116250951451079078979560323580396830720,696898287454081973172991196020261297061888),(8320,707787323195552004003819183458077879828480,1393796574908163946345982392040522594123776),(24576,1393796574908163946345982392040522594123776,2787593149816327892691964784081045188247552),(32768,2787593149816327892691964784081045188247584,5575186299632655785383929568162090376495104),(98304,8362779449448983678075894352243135564742656,11150372599265311570767859136324180752990208),(32768,2787593149816327892691964784081045188247616,22300745198530623141535718272648361505980416),(32768,2787593149816327892691964784081045188263936,44601490397061246283071436545296723011960832),(819200,69689828745408197317299119602026129706188800,89202980794122492566142873090593446023921664),(1081344,91990573943938820458834837874674491212169216,178405961588244985132285746181186892047843328),(2260992,192343927337326624595745570101592117989081088,356811923176489970264571492362373784095686656),(4227072,359599516326306298157263457146454829283934208,713623846352979940529142984724747568191373312)] (by kernel_rfl) (by kernel_rfl) (by kernel_rfl) (by kernel_rfl) (by kernel_rfl) (HX0.out _ MR.out) ?_
 refine ag [0,1,2] [aj sg 0,.slice (some ⟨h,offh,none⟩) m cb,.int .i64 ((i:Nat):Int)] rfl (by kernel_rfl) (fun _=>by kernel_rfl) ?_
 refine ah (aj h (offh+i*2)) (some 129) (ki (by kernel_rfl)) (fun bb hb=>gI (s:=2) (e:=86) (g:=h) (off:=offh) (n:=m) (c:=cb) (i:=((i:Nat):Int)) (x:=(.tmp 127)) (y:=(.tmp 128)) (offh+i*2) (by kernel_rfl) (by kernel_rfl) (by kernel_rfl) Tryz.underlying82 (by kernel_rfl) (by omega) (by omega) (by omega)) ?_
 refine ah (.agg #[.int .u64 ((id:Nat):Int),.int .i64 ((kd:Nat):Int)]) (some 130) (ki (by kernel_rfl)) (fun bb hb=>aB (x:=(.tmp 129)) (by kernel_rfl) (by kernel_rfl) (dD [.int .u64 ((id:Nat):Int),.int .i64 ((kd:Nat):Int)] (QX.out _ hb) Tryz.underlying86 rfl (by kernel_rfl))) ?_
 refine az (some 131) (ki (by kernel_rfl)) (D1.out _ MR.out) (fun _=>by kernel_rfl) ?_
 rintro r w70 ⟨rfl,hm70⟩
 replace MR:=lh hm70
 refine⟨_,rfl,fun _=>HX1.out _ MR.out,?_⟩
 refine ag [6,7,8,9,10] [.bool false,.bool false,aj sg 0,.slice (some ⟨h,offh,none⟩) m cb,.int .i64 ((i:Nat):Int)] rfl (by kernel_rfl) (fun _=>by kernel_rfl) ?_
 refine ah (aj h (offh+i*2)) (some 137) (ki (by kernel_rfl)) (fun bb hb=>gI (s:=2) (e:=86) (g:=h) (off:=offh) (n:=m) (c:=cb) (i:=((i:Nat):Int)) (x:=(.tmp 135)) (y:=(.tmp 136)) (offh+i*2) (by kernel_rfl) (by kernel_rfl) (by kernel_rfl) Tryz.underlying82 (by kernel_rfl) (by omega) (by omega) (by omega)) ?_
 refine ah (.agg #[.int .u64 ((id:Nat):Int),.int .i64 ((kd:Nat):Int)]) (some 138) (ki (by kernel_rfl)) (fun bb hb=>aB (x:=(.tmp 137)) (by kernel_rfl) (by kernel_rfl) (dD [.int .u64 ((id:Nat):Int),.int .i64 ((kd:Nat):Int)] (QX.out _ hb) Tryz.underlying86 rfl (by kernel_rfl))) ?_
 refine az (some 139) (ki (by kernel_rfl)) (D2.out _ MR.out) (fun _=>by kernel_rfl) ?_
 rintro r w71 ⟨rfl,hm71⟩
 replace MR:=lh hm71
 refine⟨_,rfl,fun _=>HX2.out _ MR.out,?_⟩
 refine ag [14,15,16,18,19] [.bool false,.bool false,aj sg 0,.slice (some ⟨h,offh,none⟩) m cb,.int .i64 ((i:Nat):Int)] rfl (by kernel_rfl) (fun _=>by kernel_rfl) ?_
 refine ah (aj h (offh+i*2)) (some 146) (ki (by kernel_rfl)) (fun bb hb=>gI (s:=2) (e:=86) (g:=h) (off:=offh) (n:=m) (c:=cb) (i:=((i:Nat):Int)) (x:=(.tmp 144)) (y:=(.tmp 145)) (offh+i*2) (by kernel_rfl) (by kernel_rfl) (by kernel_rfl) Tryz.underlying82 (by kernel_rfl) (by omega) (by omega) (by omega)) ?_
 refine ah (.agg #[.int .u64 ((id:Nat):Int),.int .i64 ((kd:Nat):Int)]) (some 147) (ki (by kernel_rfl)) (fun bb hb=>aB (x:=(.tmp 146)) (by kernel_rfl) (by kernel_rfl) (dD [.int .u64 ((id:Nat):Int),.int .i64 ((kd:Nat):Int)] (QX.out _ hb) Tryz.underlying86 rfl (by kernel_rfl))) ?_
 refine az (some 143) (ki (by kernel_rfl)) (D3.out _ MR.out) (fun _=>by kernel_rfl) ?_
 rintro r w72 ⟨v72,rfl,hm72⟩
 replace MR:=lh hm72
 refine⟨_,rfl,fun _=>H3.out _ _ MR.out,?_⟩
 refine az (some 148) (ki (by kernel_rfl)) (D4.out _ _ MR.out) (fun _=>by kernel_rfl) ?_
 rintro r w73 ⟨rfl,hm73⟩
 replace MR:=lh hm73
 refine⟨_,rfl,fun _=>HX3.out _ MR.out,?_⟩
 refine ag [23] [.bool false] rfl (by kernel_rfl) (fun _=>by kernel_rfl) ?_
 exact aA (aQ (K:=Q .normal) (by kernel_rfl) (HQ.out (aj sg 0) (.slice (some ⟨h,offh,none⟩) m cb) (.int .i64 ((i:Nat):Int)) (aj h (offh+i*2)) (.agg #[.int .u64 ((id:Nat):Int),.int .i64 ((kd:Nat):Int)]) (.bool true) (.bool false) (.bool false) (aj sg 0) (.slice (some ⟨h,offh,none⟩) m cb) (.int .i64 ((i:Nat):Int)) (aj h (offh+i*2)) (.agg #[.int .u64 ((id:Nat):Int),.int .i64 ((kd:Nat):Int)]) (.bool false) (.bool false) (.bool false) (aj sg 0) (v72) (.slice (some ⟨h,offh,none⟩) m cb) (.int .i64 ((i:Nat):Int)) (aj h (offh+i*2)) (.agg #[.int .u64 ((id:Nat):Int),.int .i64 ((kd:Nat):Int)]) (.bool false) _ MR.out))
end
end Go.Proofs.YtglkmaalpammcaaGreat

/- Parts of the proof, one behind the other: PgI0, PgI, PgT, PgQ, PgB0, PgB, PgY, R6W, KvI0, IterC, IterP, KvI, KvP1, KvV, KvWd, HSpoil, KvD0, KvT. -/
import Derived.Test.YtglkmaalpammcaaGreatZC
import Derived.Shelf.Abstract
import Derived.Deep.DeepCutAuto
import Derived.Test.YtglkmaalpammcaaGreatZB
import Derived.Test.YtglkmaalpammcaaGreatZA
set_option maxHeartbeats 64000000
set_option linter.unusedSimpArgs false
set_option linter.unusedVariables false
set_option maxRecDepth 100000
namespace Go.Proofs.YtglkmaalpammcaaGreat
open Go.Gl Go.RowKit
def uh (df:List Deferred) (v0 v1 v2 v4 v5:Value) (a:Act):Prop:=∃ x3 x6 x7 x8 x9 aW bn bi aZ aP aQ aS aT aX aY bD bC bG bH bJ bQ bP bM bK bV bW cZ dh dn dw di dm dK dE dF dL dM dN dP dQ dR dS dO eF eG fA ed dX dY eH eP eQ fB eU fD fC eX:Value,a=⟨#[v0,v1,v2,x3,v4,v5,x6,x7,x8,x9,aW,bn,bi,aZ,aP,aQ,aS,aT,aX,aY,bD,bC,bG,bH,bJ,bQ,bP,bM,bK,bV,bW,cZ,dh,dn,dw,di,dm,dK,dE,dF,dL,dM,dN,dP,dQ,dR,dS,dO,eF,eG,fA,ed,dX,dY,eH,eP,eQ,fB,eU,fD,fC,eX],df⟩
theorem uh.mk {df:List Deferred}{v0 v1 v2 v4 v5 x3 x6 x7 x8 x9 aW bn bi aZ aP aQ aS aT aX aY bD bC bG bH bJ bQ bP bM bK bV bW cZ dh dn dw di dm dK dE dF dL dM dN dP dQ dR dS dO eF eG fA ed dX dY eH eP eQ fB eU fD fC eX:Value}:uh df v0 v1 v2 v4 v5 ⟨#[v0,v1,v2,x3,v4,v5,x6,x7,x8,x9,aW,bn,bi,aZ,aP,aQ,aS,aT,aX,aY,bD,bC,bG,bH,bJ,bQ,bP,bM,bK,bV,bW,cZ,dh,dn,dw,di,dm,dK,dE,dF,dL,dM,dN,dP,dQ,dR,dS,dO,eF,eG,fA,ed,dX,dY,eH,eP,eQ,fB,eU,fD,fC,eX],df⟩:=⟨x3,x6,x7,x8,x9,aW,bn,bi,aZ,aP,aQ,aS,aT,aX,aY,bD,bC,bG,bH,bJ,bQ,bP,bM,bK,bV,bW,cZ,dh,dn,dw,di,dm,dK,dE,dF,dL,dM,dN,dP,dQ,dR,dS,dO,eF,eG,fA,ed,dX,dY,eH,eP,eQ,fB,eU,fD,fC,eX,rfl⟩
theorem uh.elim {df:List Deferred}{v0 v1 v2 v4 v5:Value}{a:Act}{C:Act→Prop} (h:uh df v0 v1 v2 v4 v5 a) (k:∀ x3 x6 x7 x8 x9 aW bn bi aZ aP aQ aS aT aX aY bD bC bG bH bJ bQ bP bM bK bV bW cZ dh dn dw di dm dK dE dF dL dM dN dP dQ dR dS dO eF eG fA ed dX dY eH eP eQ fB eU fD fC eX:Value,C ⟨#[v0,v1,v2,x3,v4,v5,x6,x7,x8,x9,aW,bn,bi,aZ,aP,aQ,aS,aT,aX,aY,bD,bC,bG,bH,bJ,bQ,bP,bM,bK,bV,bW,cZ,dh,dn,dw,di,dm,dK,dE,dF,dL,dM,dN,dP,dQ,dR,dS,dO,eF,eG,fA,ed,dX,dY,eH,eP,eQ,fB,eU,fD,fC,eX],df⟩):C a:=by
 obtain⟨x3,x6,x7,x8,x9,aW,bn,bi,aZ,aP,aQ,aS,aT,aX,aY,bD,bC,bG,bH,bJ,bQ,bP,bM,bK,bV,bW,cZ,dh,dn,dw,di,dm,dK,dE,dF,dL,dM,dN,dP,dQ,dR,dS,dO,eF,eG,fA,ed,dX,dY,eH,eP,eQ,fB,eU,fD,fC,eX,rfl⟩:=h
 exact k _ _ _ _ _ _ _ _ _ _ _ _ _ _ _ _ _ _ _ _ _ _ _ _ _ _ _ _ _ _ _ _ _ _ _ _ _ _ _ _ _ _ _ _ _ _ _ _ _ _ _ _ _ _ _ _ _
section
variable {x0 x1 x2 x3 x4 x5 x6 x7 x8 x9 aW bn bi aZ aP aQ aS aT aX aY bD bC bG bH bJ bQ bP bM bK bV bW cZ dh dn dw di dm dK dE dF dL dM dN dP dQ dR dS dO eF eG fA ed dX dY eH eP eQ fB eU fD fC eX:Value}{df:List Deferred}{Q:Exit→Act→World→Prop}
theorem ris0e {w:World}{m g cap n:Nat}{ao:Option Addr} (c1:w.cell? ⟨m,0,none⟩=some (.pointer (some ⟨g,0,none⟩))) (c2:w.cell? ⟨g,0,none⟩=some (.slice ao n cap)) (hn:n=0)
  (hK:∀ (y7 y8 y9 jQ lD:Value)  (w':World),w'=w→Q .normal ⟨#[x0,.pointer (some ⟨m,0,none⟩),x2,x3,x4,x5,x6,y7,y8,y9,jQ,lD,.bool true,aZ,aP,aQ,aS,aT,aX,aY,bD,bC,bG,bH,bJ,bQ,bP,bM,bK,bV,bW,cZ,dh,dn,dw,di,dm,dK,dE,dF,dL,dM,dN,dP,dQ,dR,dS,dO,eF,eG,fA,ed,dX,dY,eH,eP,eQ,fB,eU,fD,fC,eX],df⟩ w'):RW Tryz.prog (aJ 0 Tryz.f223) false Q ⟨#[x0,.pointer (some ⟨m,0,none⟩),x2,x3,x4,x5,x6,x7,x8,x9,aW,bn,bi,aZ,aP,aQ,aS,aT,aX,aY,bD,bC,bG,bH,bJ,bQ,bP,bM,bK,bV,bW,cZ,dh,dn,dw,di,dm,dK,dE,dF,dL,dM,dN,dP,dQ,dR,dS,dO,eF,eG,fA,ed,dX,dY,eH,eP,eQ,fB,eU,fD,fC,eX],df⟩ w:=by
 have HQ:=lh hK
 clear hK
 refine bU [(0,false),(1,false),(2,false),(3,false),(4,false),(5,false)] (by kernel_rfl) ?_
 refine aC (af g 0) _ (some 7) (ki (by kernel_rfl)) (aG (x:=(.tmp 1)) (by kernel_rfl) (by kernel_rfl) (aI ((fun _=>c1) (trivial)) Tryz.underlying129 rfl)) (fun _=>trivial) ?_
 refine az [1,2] [af g 0,af g 0] rfl (by kernel_rfl) (by kernel_rfl) (.inr trivial) ?_
 refine aC ((.slice ao n cap)) _ (some 10) (ki (by kernel_rfl)) (aG (x:=(.tmp 9)) (by kernel_rfl) (by kernel_rfl) (aI ((fun _=>c2) (trivial)) Tryz.underlying228 rfl)) (fun _=>trivial) ?_
 refine az [4] [.int .i64 ((n:Nat):Int)] rfl (by kernel_rfl) (by kernel_rfl) (.inr trivial) ?_
 refine aC (.bool true) _ (some 12) (ki (by kernel_rfl)) (cO (t:=3) (t':=3) (xv := .int .i64 ((n:Nat):Int)) (yv := .int .i64 0) (x:=(.tmp 11)) (y:=(.const (.int .i64 0))) (by kernel_rfl) (by kernel_rfl) (by kernel_rfl) (fun _=>by kernel_rfl) (wu _ (decide_eq_true (by omega)))) (fun _=>trivial) ?_
 exact aA (bg (K:=Q .normal) (by kernel_rfl) (HQ.out (af g 0) (af g 0) (af g 0) ((.slice ao n cap)) (.int .i64 ((n:Nat):Int)) _ rfl))
theorem ris0n {w:World}{m g cap n:Nat}{ao:Option Addr} (c1:w.cell? ⟨m,0,none⟩=some (.pointer (some ⟨g,0,none⟩))) (c2:w.cell? ⟨g,0,none⟩=some (.slice ao n cap)) (hn:¬ n=0)
  (hK:∀ (y7 y8 y9 jQ lD:Value)  (w':World),w'=w→Q .normal ⟨#[x0,.pointer (some ⟨m,0,none⟩),x2,x3,x4,x5,x6,y7,y8,y9,jQ,lD,.bool false,aZ,aP,aQ,aS,aT,aX,aY,bD,bC,bG,bH,bJ,bQ,bP,bM,bK,bV,bW,cZ,dh,dn,dw,di,dm,dK,dE,dF,dL,dM,dN,dP,dQ,dR,dS,dO,eF,eG,fA,ed,dX,dY,eH,eP,eQ,fB,eU,fD,fC,eX],df⟩ w'):RW Tryz.prog (aJ 0 Tryz.f223) false Q ⟨#[x0,.pointer (some ⟨m,0,none⟩),x2,x3,x4,x5,x6,x7,x8,x9,aW,bn,bi,aZ,aP,aQ,aS,aT,aX,aY,bD,bC,bG,bH,bJ,bQ,bP,bM,bK,bV,bW,cZ,dh,dn,dw,di,dm,dK,dE,dF,dL,dM,dN,dP,dQ,dR,dS,dO,eF,eG,fA,ed,dX,dY,eH,eP,eQ,fB,eU,fD,fC,eX],df⟩ w:=by
 have HQ:=lh hK
 clear hK
 refine bU [(0,false),(1,false),(2,false),(3,false),(4,false),(5,false)] (by kernel_rfl) ?_
 refine aC (af g 0) _ (some 7) (ki (by kernel_rfl)) (aG (x:=(.tmp 1)) (by kernel_rfl) (by kernel_rfl) (aI ((fun _=>c1) (trivial)) Tryz.underlying129 rfl)) (fun _=>trivial) ?_
 refine az [1,2] [af g 0,af g 0] rfl (by kernel_rfl) (by kernel_rfl) (.inr trivial) ?_
 refine aC ((.slice ao n cap)) _ (some 10) (ki (by kernel_rfl)) (aG (x:=(.tmp 9)) (by kernel_rfl) (by kernel_rfl) (aI ((fun _=>c2) (trivial)) Tryz.underlying228 rfl)) (fun _=>trivial) ?_
 refine az [4] [.int .i64 ((n:Nat):Int)] rfl (by kernel_rfl) (by kernel_rfl) (.inr trivial) ?_
 refine aC (.bool false) _ (some 12) (ki (by kernel_rfl)) (cO (t:=3) (t':=3) (xv := .int .i64 ((n:Nat):Int)) (yv := .int .i64 0) (x:=(.tmp 11)) (y:=(.const (.int .i64 0))) (by kernel_rfl) (by kernel_rfl) (by kernel_rfl) (fun _=>by kernel_rfl) (wu _ (decide_eq_false (by omega)))) (fun _=>trivial) ?_
 exact aA (bg (K:=Q .normal) (by kernel_rfl) (HQ.out (af g 0) (af g 0) (af g 0) ((.slice ao n cap)) (.int .i64 ((n:Nat):Int)) _ rfl))
theorem ris1 {w:World}{m bf g p:Nat}{fv:Value} (c1:w.cell? ⟨m,0,none⟩=some (.pointer (some ⟨g,0,none⟩))) (c2:w.cell? ⟨bf,0,none⟩=some fv) (hC:Calls Tryz.prog 224 #[.pointer (some ⟨g,0,none⟩),fv] w fun e w'=>e = .returned (.int .i64 (p:Nat))∧ae ai w w')
  (hK:∀ (kF jB jR:Value)  (w':World),ae ai w w'→Q .normal ⟨#[x0,.pointer (some ⟨m,0,none⟩),.pointer (some ⟨bf,0,none⟩),x3,.int .i64 ((p:Nat):Int),x5,x6,x7,x8,x9,aW,bn,bi,kF,jB,jR,aS,aT,aX,aY,bD,bC,bG,bH,bJ,bQ,bP,bM,bK,bV,bW,cZ,dh,dn,dw,di,dm,dK,dE,dF,dL,dM,dN,dP,dQ,dR,dS,dO,eF,eG,fA,ed,dX,dY,eH,eP,eQ,fB,eU,fD,fC,eX],df⟩ w'):RW Tryz.prog (aJ 1 Tryz.f223) false Q ⟨#[x0,.pointer (some ⟨m,0,none⟩),.pointer (some ⟨bf,0,none⟩),x3,x4,x5,x6,x7,x8,x9,aW,bn,bi,aZ,aP,aQ,aS,aT,aX,aY,bD,bC,bG,bH,bJ,bQ,bP,bM,bK,bV,bW,cZ,dh,dn,dw,di,dm,dK,dE,dF,dL,dM,dN,dP,dQ,dR,dS,dO,eF,eG,fA,ed,dX,dY,eH,eP,eQ,fB,eU,fD,fC,eX],df⟩ w:=by
 have HQ:=lh hK
 clear hK
 refine bU [(0,false),(1,false),(2,false),(3,false)] (by kernel_rfl) ?_
 refine aC (af g 0) _ (some 13) (ki (by kernel_rfl)) (aG (x:=(.tmp 1)) (by kernel_rfl) (by kernel_rfl) (aI ((fun _=>c1) (trivial)) Tryz.underlying129 rfl)) (fun _=>trivial) ?_
 refine aC (fv) _ (some 14) (ki (by kernel_rfl)) (aG (x:=(.tmp 2)) (by kernel_rfl) (by kernel_rfl) (aI ((fun _=>c2) (trivial)) Tryz.underlying91 rfl)) (fun _=>trivial) ?_
 refine bu (some 15) (ki (by kernel_rfl)) hC (fun _=>by kernel_rfl) ?_
 rintro r w7 ⟨rfl,m7⟩
 refine⟨_,rfl,fun _=>trivial,?_⟩
 refine az [3] [.int .i64 ((p:Nat):Int)] rfl (by kernel_rfl) (by kernel_rfl) (.inr trivial) ?_
 exact aA (bg (K:=Q .normal) (by kernel_rfl) (HQ.out (af g 0) (fv) (.int .i64 ((p:Nat):Int)) w7 m7))
theorem ris2 {w:World}{m bf g p b off n cap i pc k:Nat}{ap:Option Addr}{fv:Value}{B:Bool} (c1:∀ b',ae ai w b'→b'.cell? ⟨m,0,none⟩=some (.pointer (some ⟨g,0,none⟩))) (c2:∀ b',ae ai w b'→b'.cell? ⟨g,0,none⟩=some (.slice (some ⟨b,off,none⟩) n cap)) (c3:∀ b',ae ai w b'→b'.cell? ⟨b,off+p,none⟩=some (.slice ap k pc)) (c4:∀ b',ae ai w b'→b'.cell? ⟨bf,0,none⟩=some fv) (hp:p<n) (hC:∀ b',ae ai w b'→Calls Tryz.prog 225 #[.slice ap k pc,fv] b' fun e w'=>e = .returned (.tuple #[.int .i64 (i:Nat),.bool B])∧ae ai b' w')
  (hK:∀ (y6 jS jk jl jC lF kG jm iY jD iZ jo kH:Value)  (w':World),ae ai w w'→Q .normal ⟨#[x0,.pointer (some ⟨m,0,none⟩),.pointer (some ⟨bf,0,none⟩),x3,.int .i64 ((p:Nat):Int),.int .i64 ((i:Nat):Int),y6,x7,x8,x9,aW,bn,bi,aZ,aP,aQ,jS,jk,jl,jC,lF,kG,jm,iY,jD,iZ,jo,kH,bK,bV,bW,cZ,dh,dn,dw,di,dm,dK,dE,dF,dL,dM,dN,dP,dQ,dR,dS,dO,eF,eG,fA,ed,dX,dY,eH,eP,eQ,fB,eU,fD,fC,eX],df⟩ w'):RW Tryz.prog (aJ 2 Tryz.f223) true Q ⟨#[x0,.pointer (some ⟨m,0,none⟩),.pointer (some ⟨bf,0,none⟩),x3,.int .i64 ((p:Nat):Int),x5,x6,x7,x8,x9,aW,bn,bi,aZ,aP,aQ,aS,aT,aX,aY,bD,bC,bG,bH,bJ,bQ,bP,bM,bK,bV,bW,cZ,dh,dn,dw,di,dm,dK,dE,dF,dL,dM,dN,dP,dQ,dR,dS,dO,eF,eG,fA,ed,dX,dY,eH,eP,eQ,fB,eU,fD,fC,eX],df⟩ w:=by
 have HQ:=lh hK
 clear hK
 have HC:=lh hC
 have Q1:=lh c1
 have Q2:=lh c2
 have Q3:=lh c3
 have Q4:=lh c4
 clear hC c1 c2 c3 c4
 have MR:=lh ((ae.refl ai w).drew)
 refine kR (S:=fun b'=>ae ai w b') [(0,true),(1,true),(2,true),(3,true),(4,true),(5,true),(6,true),(7,true),(8,false),(9,true),(10,true),(11,true),(12,true),(13,true)] [] [(0,2,131072),(1,131072,262144),(2,262144,524288),(4,524288,1048576),(0,16,2097152),(24,3145728,4194304),(32,4194304,8388608),(0,4,16777216),(192,25165824,33554432),(256,33554432,65536),(512,65536,67108864),(512,65536,134217728),(2047,67108864,32),(8191,134217728,64)] (by kernel_rfl) (by kernel_rfl) (by kernel_rfl) (by kernel_rfl) (by kernel_rfl) MR.out ?_
 refine ah (af g 0) (some 17) (ki (by kernel_rfl)) (fun bb hb=>aG (x:=(.tmp 1)) (by kernel_rfl) (by kernel_rfl) (aI (Q1.out _ hb) Tryz.underlying129 rfl)) ?_
 refine aj [1,2] [af g 0,af g 0] rfl (by kernel_rfl) (fun _=>by kernel_rfl) ?_
 refine ah (.slice (some ⟨b,off,none⟩) n cap) (some 20) (ki (by kernel_rfl)) (fun bb hb=>aG (x:=(.tmp 19)) (by kernel_rfl) (by kernel_rfl) (aI (Q2.out _ hb) Tryz.underlying228 rfl)) ?_
 refine aj [4] [.int .i64 ((p:Nat):Int)] rfl (by kernel_rfl) (fun _=>by kernel_rfl) ?_
 refine ah (af b (off+p)) (some 22) (ki (by kernel_rfl)) (fun bb hb=>fQ (s:=1) (e:=258) (g:=b) (off:=off) (n:=n) (c:=cap) (i:=((p:Nat):Int)) (x:=(.tmp 20)) (y:=(.tmp 21)) (off+p) (by kernel_rfl) (by kernel_rfl) (by kernel_rfl) Tryz.underlying228 (by kernel_rfl) (by omega) (by omega) (by omega)) ?_
 refine ah ((.slice ap k pc)) (some 23) (ki (by kernel_rfl)) (fun bb hb=>aG (x:=(.tmp 22)) (by kernel_rfl) (by kernel_rfl) (aI (Q3.out _ hb) Tryz.underlying258 rfl)) ?_
 refine ah (fv) (some 24) (ki (by kernel_rfl)) (fun bb hb=>aG (x:=(.tmp 2)) (by kernel_rfl) (by kernel_rfl) (aI (Q4.out _ hb) Tryz.underlying91 rfl)) ?_
 refine bu (some 25) (ki (by kernel_rfl)) (HC.out _ MR.out) (fun _=>by kernel_rfl) ?_
 rintro r w7 ⟨rfl,m7⟩
 replace MR:=lh (MR.out.then0 m7)
 refine⟨_,rfl,fun _=>MR.out,?_⟩
 refine aj [9,10,11,12,13] [.tuple #[.int .i64 ((i:Nat):Int),.bool B],.int .i64 ((i:Nat):Int),.bool B,.int .i64 ((i:Nat):Int),.bool B] rfl (by kernel_rfl) (fun _=>by kernel_rfl) ?_
 exact aA (bg (K:=Q .normal) (by kernel_rfl) (HQ.out (.bool B) (.tuple #[.int .i64 ((i:Nat):Int),.bool B]) (af g 0) (af g 0) (af g 0) (.slice (some ⟨b,off,none⟩) n cap) (.int .i64 ((p:Nat):Int)) (af b (off+p)) ((.slice ap k pc)) (fv) (.tuple #[.int .i64 ((i:Nat):Int),.bool B]) (.int .i64 ((i:Nat):Int)) (.bool B) _ MR.out))
theorem ris3t {w:World}{m g cap n p:Nat}{ao:Option Addr} (c1:w.cell? ⟨m,0,none⟩=some (.pointer (some ⟨g,0,none⟩))) (c2:w.cell? ⟨g,0,none⟩=some (.slice ao n cap)) (hn:p<n)
  (hK:∀ (jT jU kJ lG lH kK:Value)  (w':World),w'=w→Q .normal ⟨#[x0,.pointer (some ⟨m,0,none⟩),x2,x3,.int .i64 ((p:Nat):Int),x5,x6,x7,x8,x9,aW,bn,bi,aZ,aP,aQ,aS,aT,aX,aY,bD,bC,bG,bH,bJ,bQ,bP,bM,jT,jU,kJ,lG,lH,kK,.bool true,di,dm,dK,dE,dF,dL,dM,dN,dP,dQ,dR,dS,dO,eF,eG,fA,ed,dX,dY,eH,eP,eQ,fB,eU,fD,fC,eX],df⟩ w'):RW Tryz.prog (aJ 3 Tryz.f223) false Q ⟨#[x0,.pointer (some ⟨m,0,none⟩),x2,x3,.int .i64 ((p:Nat):Int),x5,x6,x7,x8,x9,aW,bn,bi,aZ,aP,aQ,aS,aT,aX,aY,bD,bC,bG,bH,bJ,bQ,bP,bM,bK,bV,bW,cZ,dh,dn,dw,di,dm,dK,dE,dF,dL,dM,dN,dP,dQ,dR,dS,dO,eF,eG,fA,ed,dX,dY,eH,eP,eQ,fB,eU,fD,fC,eX],df⟩ w:=by
 have HQ:=lh hK
 clear hK
 refine bU [(0,false),(1,false),(2,false),(3,false),(4,false),(5,false),(6,false)] (by kernel_rfl) ?_
 refine az [0] [.int .i64 ((p:Nat):Int)] rfl (by kernel_rfl) (by kernel_rfl) (.inr trivial) ?_
 refine aC (af g 0) _ (some 29) (ki (by kernel_rfl)) (aG (x:=(.tmp 1)) (by kernel_rfl) (by kernel_rfl) (aI ((fun _=>c1) (trivial)) Tryz.underlying129 rfl)) (fun _=>trivial) ?_
 refine az [2,3] [af g 0,af g 0] rfl (by kernel_rfl) (by kernel_rfl) (.inr trivial) ?_
 refine aC ((.slice ao n cap)) _ (some 32) (ki (by kernel_rfl)) (aG (x:=(.tmp 31)) (by kernel_rfl) (by kernel_rfl) (aI ((fun _=>c2) (trivial)) Tryz.underlying228 rfl)) (fun _=>trivial) ?_
 refine az [5] [.int .i64 ((n:Nat):Int)] rfl (by kernel_rfl) (by kernel_rfl) (.inr trivial) ?_
 refine aC (.bool true) _ (some 34) (ki (by kernel_rfl)) (cO (t:=3) (t':=3) (xv := .int .i64 ((p:Nat):Int)) (yv := .int .i64 ((n:Nat):Int)) (x:=(.tmp 28)) (y:=(.tmp 33)) (by kernel_rfl) (by kernel_rfl) (by kernel_rfl) (fun _=>by kernel_rfl) (kP _ (decide_eq_true (by omega)))) (fun _=>trivial) ?_
 exact aA (bg (K:=Q .normal) (by kernel_rfl) (HQ.out (.int .i64 ((p:Nat):Int)) (af g 0) (af g 0) (af g 0) ((.slice ao n cap)) (.int .i64 ((n:Nat):Int)) _ rfl))
theorem ris3f {w:World}{m g cap n p:Nat}{ao:Option Addr} (c1:w.cell? ⟨m,0,none⟩=some (.pointer (some ⟨g,0,none⟩))) (c2:w.cell? ⟨g,0,none⟩=some (.slice ao n cap)) (hn:¬ p<n)
  (hK:∀ (jT jU kJ lG lH kK:Value)  (w':World),w'=w→Q .normal ⟨#[x0,.pointer (some ⟨m,0,none⟩),x2,x3,.int .i64 ((p:Nat):Int),x5,x6,x7,x8,x9,aW,bn,bi,aZ,aP,aQ,aS,aT,aX,aY,bD,bC,bG,bH,bJ,bQ,bP,bM,jT,jU,kJ,lG,lH,kK,.bool false,di,dm,dK,dE,dF,dL,dM,dN,dP,dQ,dR,dS,dO,eF,eG,fA,ed,dX,dY,eH,eP,eQ,fB,eU,fD,fC,eX],df⟩ w'):RW Tryz.prog (aJ 3 Tryz.f223) false Q ⟨#[x0,.pointer (some ⟨m,0,none⟩),x2,x3,.int .i64 ((p:Nat):Int),x5,x6,x7,x8,x9,aW,bn,bi,aZ,aP,aQ,aS,aT,aX,aY,bD,bC,bG,bH,bJ,bQ,bP,bM,bK,bV,bW,cZ,dh,dn,dw,di,dm,dK,dE,dF,dL,dM,dN,dP,dQ,dR,dS,dO,eF,eG,fA,ed,dX,dY,eH,eP,eQ,fB,eU,fD,fC,eX],df⟩ w:=by
 have HQ:=lh hK
 clear hK
 refine bU [(0,false),(1,false),(2,false),(3,false),(4,false),(5,false),(6,false)] (by kernel_rfl) ?_
 refine az [0] [.int .i64 ((p:Nat):Int)] rfl (by kernel_rfl) (by kernel_rfl) (.inr trivial) ?_
 refine aC (af g 0) _ (some 29) (ki (by kernel_rfl)) (aG (x:=(.tmp 1)) (by kernel_rfl) (by kernel_rfl) (aI ((fun _=>c1) (trivial)) Tryz.underlying129 rfl)) (fun _=>trivial) ?_
 refine az [2,3] [af g 0,af g 0] rfl (by kernel_rfl) (by kernel_rfl) (.inr trivial) ?_
 refine aC ((.slice ao n cap)) _ (some 32) (ki (by kernel_rfl)) (aG (x:=(.tmp 31)) (by kernel_rfl) (by kernel_rfl) (aI ((fun _=>c2) (trivial)) Tryz.underlying228 rfl)) (fun _=>trivial) ?_
 refine az [5] [.int .i64 ((n:Nat):Int)] rfl (by kernel_rfl) (by kernel_rfl) (.inr trivial) ?_
 refine aC (.bool false) _ (some 34) (ki (by kernel_rfl)) (cO (t:=3) (t':=3) (xv := .int .i64 ((p:Nat):Int)) (yv := .int .i64 ((n:Nat):Int)) (x:=(.tmp 28)) (y:=(.tmp 33)) (by kernel_rfl) (by kernel_rfl) (by kernel_rfl) (fun _=>by kernel_rfl) (kP _ (decide_eq_false (by omega)))) (fun _=>trivial) ?_
 exact aA (bg (K:=Q .normal) (by kernel_rfl) (HQ.out (.int .i64 ((p:Nat):Int)) (af g 0) (af g 0) (af g 0) ((.slice ao n cap)) (.int .i64 ((n:Nat):Int)) _ rfl))
theorem ris5t {w:World}{m g b off cap n p k i pc:Nat}{ap:Option Addr} (c1:w.cell? ⟨m,0,none⟩=some (.pointer (some ⟨g,0,none⟩))) (c2:w.cell? ⟨g,0,none⟩=some (.slice (some ⟨b,off,none⟩) n cap)) (c3:w.cell? ⟨b,off+p,none⟩=some (.slice ap k pc)) (hp:p<n) (hn:i<k)
  (hK:∀ (y37 y38 y39 y40 y41 y42 y43 y44 y45:Value)  (w':World),w'=w→Q .normal ⟨#[x0,.pointer (some ⟨m,0,none⟩),x2,x3,.int .i64 ((p:Nat):Int),.int .i64 ((i:Nat):Int),x6,x7,x8,x9,aW,bn,bi,aZ,aP,aQ,aS,aT,aX,aY,bD,bC,bG,bH,bJ,bQ,bP,bM,bK,bV,bW,cZ,dh,dn,dw,di,dm,y37,y38,y39,y40,y41,y42,y43,y44,y45,.bool true,dO,eF,eG,fA,ed,dX,dY,eH,eP,eQ,fB,eU,fD,fC,eX],df⟩ w'):RW Tryz.prog (aJ 5 Tryz.f223) false Q ⟨#[x0,.pointer (some ⟨m,0,none⟩),x2,x3,.int .i64 ((p:Nat):Int),.int .i64 ((i:Nat):Int),x6,x7,x8,x9,aW,bn,bi,aZ,aP,aQ,aS,aT,aX,aY,bD,bC,bG,bH,bJ,bQ,bP,bM,bK,bV,bW,cZ,dh,dn,dw,di,dm,dK,dE,dF,dL,dM,dN,dP,dQ,dR,dS,dO,eF,eG,fA,ed,dX,dY,eH,eP,eQ,fB,eU,fD,fC,eX],df⟩ w:=by
 have HQ:=lh hK
 clear hK
 refine bU [(0,false),(1,false),(2,false),(3,false),(4,false),(5,false),(6,false),(7,false),(8,false),(9,false)] (by kernel_rfl) ?_
 refine az [0] [.int .i64 ((i:Nat):Int)] rfl (by kernel_rfl) (by kernel_rfl) (.inr trivial) ?_
 refine aC (af g 0) _ (some 38) (ki (by kernel_rfl)) (aG (x:=(.tmp 1)) (by kernel_rfl) (by kernel_rfl) (aI ((fun _=>c1) (trivial)) Tryz.underlying129 rfl)) (fun _=>trivial) ?_
 refine az [2,3] [af g 0,af g 0] rfl (by kernel_rfl) (by kernel_rfl) (.inr trivial) ?_
 refine aC (.slice (some ⟨b,off,none⟩) n cap) _ (some 41) (ki (by kernel_rfl)) (aG (x:=(.tmp 40)) (by kernel_rfl) (by kernel_rfl) (aI ((fun _=>c2) (trivial)) Tryz.underlying228 rfl)) (fun _=>trivial) ?_
 refine az [5] [.int .i64 ((p:Nat):Int)] rfl (by kernel_rfl) (by kernel_rfl) (.inr trivial) ?_
 refine aC (af b (off+p)) _ (some 43) (ki (by kernel_rfl)) (fQ (s:=1) (e:=258) (g:=b) (off:=off) (n:=n) (c:=cap) (i:=((p:Nat):Int)) (x:=(.tmp 41)) (y:=(.tmp 42)) (off+p) (by kernel_rfl) (by kernel_rfl) (by kernel_rfl) Tryz.underlying228 (by kernel_rfl) (by omega) (by omega) (by omega)) (fun _=>trivial) ?_
 refine aC ((.slice ap k pc)) _ (some 44) (ki (by kernel_rfl)) (aG (x:=(.tmp 43)) (by kernel_rfl) (by kernel_rfl) (aI ((fun _=>c3) (trivial)) Tryz.underlying258 rfl)) (fun _=>trivial) ?_
 refine az [8] [.int .i64 ((k:Nat):Int)] rfl (by kernel_rfl) (by kernel_rfl) (.inr trivial) ?_
 refine aC (.bool true) _ (some 46) (ki (by kernel_rfl)) (cO (t:=3) (t':=3) (xv := .int .i64 ((i:Nat):Int)) (yv := .int .i64 ((k:Nat):Int)) (x:=(.tmp 37)) (y:=(.tmp 45)) (by kernel_rfl) (by kernel_rfl) (by kernel_rfl) (fun _=>by kernel_rfl) (kP _ (decide_eq_true (by omega)))) (fun _=>trivial) ?_
 exact aA (bg (K:=Q .normal) (by kernel_rfl) (HQ.out (.int .i64 ((i:Nat):Int)) (af g 0) (af g 0) (af g 0) (.slice (some ⟨b,off,none⟩) n cap) (.int .i64 ((p:Nat):Int)) (af b (off+p)) ((.slice ap k pc)) (.int .i64 ((k:Nat):Int)) _ rfl))
theorem ris5f {w:World}{m g b off cap n p k i pc:Nat}{ap:Option Addr} (c1:w.cell? ⟨m,0,none⟩=some (.pointer (some ⟨g,0,none⟩))) (c2:w.cell? ⟨g,0,none⟩=some (.slice (some ⟨b,off,none⟩) n cap)) (c3:w.cell? ⟨b,off+p,none⟩=some (.slice ap k pc)) (hp:p<n) (hn:¬ i<k)
  (hK:∀ (y37 y38 y39 y40 y41 y42 y43 y44 y45:Value)  (w':World),w'=w→Q .normal ⟨#[x0,.pointer (some ⟨m,0,none⟩),x2,x3,.int .i64 ((p:Nat):Int),.int .i64 ((i:Nat):Int),x6,x7,x8,x9,aW,bn,bi,aZ,aP,aQ,aS,aT,aX,aY,bD,bC,bG,bH,bJ,bQ,bP,bM,bK,bV,bW,cZ,dh,dn,dw,di,dm,y37,y38,y39,y40,y41,y42,y43,y44,y45,.bool false,dO,eF,eG,fA,ed,dX,dY,eH,eP,eQ,fB,eU,fD,fC,eX],df⟩ w'):RW Tryz.prog (aJ 5 Tryz.f223) false Q ⟨#[x0,.pointer (some ⟨m,0,none⟩),x2,x3,.int .i64 ((p:Nat):Int),.int .i64 ((i:Nat):Int),x6,x7,x8,x9,aW,bn,bi,aZ,aP,aQ,aS,aT,aX,aY,bD,bC,bG,bH,bJ,bQ,bP,bM,bK,bV,bW,cZ,dh,dn,dw,di,dm,dK,dE,dF,dL,dM,dN,dP,dQ,dR,dS,dO,eF,eG,fA,ed,dX,dY,eH,eP,eQ,fB,eU,fD,fC,eX],df⟩ w:=by
 have HQ:=lh hK
 clear hK
 refine bU [(0,false),(1,false),(2,false),(3,false),(4,false),(5,false),(6,false),(7,false),(8,false),(9,false)] (by kernel_rfl) ?_
 refine az [0] [.int .i64 ((i:Nat):Int)] rfl (by kernel_rfl) (by kernel_rfl) (.inr trivial) ?_
 refine aC (af g 0) _ (some 38) (ki (by kernel_rfl)) (aG (x:=(.tmp 1)) (by kernel_rfl) (by kernel_rfl) (aI ((fun _=>c1) (trivial)) Tryz.underlying129 rfl)) (fun _=>trivial) ?_
 refine az [2,3] [af g 0,af g 0] rfl (by kernel_rfl) (by kernel_rfl) (.inr trivial) ?_
 refine aC (.slice (some ⟨b,off,none⟩) n cap) _ (some 41) (ki (by kernel_rfl)) (aG (x:=(.tmp 40)) (by kernel_rfl) (by kernel_rfl) (aI ((fun _=>c2) (trivial)) Tryz.underlying228 rfl)) (fun _=>trivial) ?_
 refine az [5] [.int .i64 ((p:Nat):Int)] rfl (by kernel_rfl) (by kernel_rfl) (.inr trivial) ?_
 refine aC (af b (off+p)) _ (some 43) (ki (by kernel_rfl)) (fQ (s:=1) (e:=258) (g:=b) (off:=off) (n:=n) (c:=cap) (i:=((p:Nat):Int)) (x:=(.tmp 41)) (y:=(.tmp 42)) (off+p) (by kernel_rfl) (by kernel_rfl) (by kernel_rfl) Tryz.underlying228 (by kernel_rfl) (by omega) (by omega) (by omega)) (fun _=>trivial) ?_
 refine aC ((.slice ap k pc)) _ (some 44) (ki (by kernel_rfl)) (aG (x:=(.tmp 43)) (by kernel_rfl) (by kernel_rfl) (aI ((fun _=>c3) (trivial)) Tryz.underlying258 rfl)) (fun _=>trivial) ?_
 refine az [8] [.int .i64 ((k:Nat):Int)] rfl (by kernel_rfl) (by kernel_rfl) (.inr trivial) ?_
 refine aC (.bool false) _ (some 46) (ki (by kernel_rfl)) (cO (t:=3) (t':=3) (xv := .int .i64 ((i:Nat):Int)) (yv := .int .i64 ((k:Nat):Int)) (x:=(.tmp 37)) (y:=(.tmp 45)) (by kernel_rfl) (by kernel_rfl) (by kernel_rfl) (fun _=>by kernel_rfl) (kP _ (decide_eq_false (by omega)))) (fun _=>trivial) ?_
 exact aA (bg (K:=Q .normal) (by kernel_rfl) (HQ.out (.int .i64 ((i:Nat):Int)) (af g 0) (af g 0) (af g 0) (.slice (some ⟨b,off,none⟩) n cap) (.int .i64 ((p:Nat):Int)) (af b (off+p)) ((.slice ap k pc)) (.int .i64 ((k:Nat):Int)) _ rfl))
theorem ris7 {w:World}{l m g b off cap n p k i pb po pc:Nat}{u v:Value} (c1:w.cell? ⟨m,0,none⟩=some (.pointer (some ⟨g,0,none⟩))) (c2:w.cell? ⟨g,0,none⟩=some (.slice (some ⟨b,off,none⟩) n cap)) (c3:w.cell? ⟨b,off+p,none⟩=some (.slice (some ⟨pb,po,none⟩) k pc)) (c4:w.cell? ⟨pb,po+i*2,none⟩=some u) (c5:w.cell? ⟨pb,po+i*2+1,none⟩=some v) (hp:p<n) (hi:i<k)
  (hK:∀ (y50 y51 y52 y53 y54 y55 y56 y57 y58:Value)  (w':World),w'=w→Q .normal ⟨#[.func (.yield l) #[] #[],.pointer (some ⟨m,0,none⟩),x2,x3,.int .i64 ((p:Nat):Int),.int .i64 ((i:Nat):Int),x6,x7,x8,x9,aW,bn,bi,aZ,aP,aQ,aS,aT,aX,aY,bD,bC,bG,bH,bJ,bQ,bP,bM,bK,bV,bW,cZ,dh,dn,dw,di,dm,dK,dE,dF,dL,dM,dN,dP,dQ,dR,dS,dO,eF,.func (.yield l) #[] #[],y50,y51,y52,y53,y54,y55,y56,y57,y58,.agg #[u,v],fC,eX],df⟩ w'):RW Tryz.prog ((aJ 7 Tryz.f223).toList.take 11).toArray false Q ⟨#[.func (.yield l) #[] #[],.pointer (some ⟨m,0,none⟩),x2,x3,.int .i64 ((p:Nat):Int),.int .i64 ((i:Nat):Int),x6,x7,x8,x9,aW,bn,bi,aZ,aP,aQ,aS,aT,aX,aY,bD,bC,bG,bH,bJ,bQ,bP,bM,bK,bV,bW,cZ,dh,dn,dw,di,dm,dK,dE,dF,dL,dM,dN,dP,dQ,dR,dS,dO,eF,eG,fA,ed,dX,dY,eH,eP,eQ,fB,eU,fD,fC,eX],df⟩ w:=by
 have HQ:=lh hK
 clear hK
 refine bU [(0,false),(1,false),(2,false),(3,false),(4,false),(5,false),(6,false),(7,false),(8,false),(9,false),(10,false)] (by kernel_rfl) ?_
 refine az [0] [.func (.yield l) #[] #[]] rfl (by kernel_rfl) (by kernel_rfl) (.inr trivial) ?_
 refine aC (af g 0) _ (some 50) (ki (by kernel_rfl)) (aG (x:=(.tmp 1)) (by kernel_rfl) (by kernel_rfl) (aI ((fun _=>c1) (trivial)) Tryz.underlying129 rfl)) (fun _=>trivial) ?_
 refine az [2,3] [af g 0,af g 0] rfl (by kernel_rfl) (by kernel_rfl) (.inr trivial) ?_
 refine aC (.slice (some ⟨b,off,none⟩) n cap) _ (some 53) (ki (by kernel_rfl)) (aG (x:=(.tmp 52)) (by kernel_rfl) (by kernel_rfl) (aI ((fun _=>c2) (trivial)) Tryz.underlying228 rfl)) (fun _=>trivial) ?_
 refine az [5] [.int .i64 ((p:Nat):Int)] rfl (by kernel_rfl) (by kernel_rfl) (.inr trivial) ?_
 refine aC (af b (off+p)) _ (some 55) (ki (by kernel_rfl)) (fQ (s:=1) (e:=258) (g:=b) (off:=off) (n:=n) (c:=cap) (i:=((p:Nat):Int)) (x:=(.tmp 53)) (y:=(.tmp 54)) (off+p) (by kernel_rfl) (by kernel_rfl) (by kernel_rfl) Tryz.underlying228 (by kernel_rfl) (by omega) (by omega) (by omega)) (fun _=>trivial) ?_
 refine aC (.slice (some ⟨pb,po,none⟩) k pc) _ (some 56) (ki (by kernel_rfl)) (aG (x:=(.tmp 55)) (by kernel_rfl) (by kernel_rfl) (aI ((fun _=>c3) (trivial)) Tryz.underlying258 rfl)) (fun _=>trivial) ?_
 refine az [8] [.int .i64 ((i:Nat):Int)] rfl (by kernel_rfl) (by kernel_rfl) (.inr trivial) ?_
 refine aC (af pb (po+i*2)) _ (some 58) (ki (by kernel_rfl)) (fQ (s:=2) (e:=244) (g:=pb) (off:=po) (n:=k) (c:=pc) (i:=((i:Nat):Int)) (x:=(.tmp 56)) (y:=(.tmp 57)) (po+i*2) (by kernel_rfl) (by kernel_rfl) (by kernel_rfl) Tryz.underlying258 (by kernel_rfl) (by omega) (by omega) (by omega)) (fun _=>trivial) ?_
 refine aC (.agg #[u,v]) _ (some 59) (ki (by kernel_rfl)) (aG (x:=(.tmp 58)) (by kernel_rfl) (by kernel_rfl) (su [u,v] ((fun _=>qx c4 c5) (trivial)) Tryz.underlying244 rfl (by kernel_rfl))) (fun _=>trivial) ?_
 exact aA (bg (K:=Q .normal) (by kernel_rfl) (HQ.out (af g 0) (af g 0) (af g 0) (.slice (some ⟨b,off,none⟩) n cap) (.int .i64 ((p:Nat):Int)) (af b (off+p)) (.slice (some ⟨pb,po,none⟩) k pc) (.int .i64 ((i:Nat):Int)) (af pb (po+i*2)) _ rfl))
theorem ris6 {w:World}{i:Nat} (hi:i≤1000000000)
  (hK:∀ (y47 y48:Value)  (w':World),w'=w→Q .normal ⟨#[x0,x1,x2,x3,x4,.int .i64 (((i+1):Nat):Int),x6,x7,x8,x9,aW,bn,bi,aZ,aP,aQ,aS,aT,aX,aY,bD,bC,bG,bH,bJ,bQ,bP,bM,bK,bV,bW,cZ,dh,dn,dw,di,dm,dK,dE,dF,dL,dM,dN,dP,dQ,dR,dS,y47,y48,eG,fA,ed,dX,dY,eH,eP,eQ,fB,eU,fD,fC,eX],df⟩ w'):RW Tryz.prog (aJ 6 Tryz.f223) false Q ⟨#[x0,x1,x2,x3,x4,.int .i64 ((i:Nat):Int),x6,x7,x8,x9,aW,bn,bi,aZ,aP,aQ,aS,aT,aX,aY,bD,bC,bG,bH,bJ,bQ,bP,bM,bK,bV,bW,cZ,dh,dn,dw,di,dm,dK,dE,dF,dL,dM,dN,dP,dQ,dR,dS,dO,eF,eG,fA,ed,dX,dY,eH,eP,eQ,fB,eU,fD,fC,eX],df⟩ w:=by
 have HQ:=lh hK
 clear hK
 refine bU [(0,false),(1,false),(2,false)] (by kernel_rfl) ?_
 refine az [0] [.int .i64 ((i:Nat):Int)] rfl (by kernel_rfl) (by kernel_rfl) (.inr trivial) ?_
 refine aC (.int .i64 (((i+1):Nat):Int)) _ (some 48) (ki (by kernel_rfl)) (cO (t:=3) (t':=3) (xv := .int .i64 ((i:Nat):Int)) (yv := .int .i64 1) (x:=(.tmp 47)) (y:=(.const (.int .i64 1))) (by kernel_rfl) (by kernel_rfl) (by kernel_rfl) (fun _=>by kernel_rfl) (gG _ (by omega) (by omega) (by omega))) (fun _=>trivial) ?_
 refine az [2] [.int .i64 (((i+1):Nat):Int)] rfl (by kernel_rfl) (by kernel_rfl) (.inr trivial) ?_
 exact aA (bg (K:=Q .normal) (by kernel_rfl) (HQ.out (.int .i64 ((i:Nat):Int)) (.int .i64 (((i+1):Nat):Int)) _ rfl))
theorem ris4 {w:World}{p:Nat} (hi:p≤1000000000)
  (hK:∀ (mF lI:Value)  (w':World),w'=w→Q .normal ⟨#[x0,x1,x2,x3,.int .i64 (((p+1):Nat):Int),.int .i64 0,x6,x7,x8,x9,aW,bn,bi,aZ,aP,aQ,aS,aT,aX,aY,bD,bC,bG,bH,bJ,bQ,bP,bM,bK,bV,bW,cZ,dh,dn,dw,mF,lI,dK,dE,dF,dL,dM,dN,dP,dQ,dR,dS,dO,eF,eG,fA,ed,dX,dY,eH,eP,eQ,fB,eU,fD,fC,eX],df⟩ w'):RW Tryz.prog (aJ 4 Tryz.f223) false Q ⟨#[x0,x1,x2,x3,.int .i64 ((p:Nat):Int),x5,x6,x7,x8,x9,aW,bn,bi,aZ,aP,aQ,aS,aT,aX,aY,bD,bC,bG,bH,bJ,bQ,bP,bM,bK,bV,bW,cZ,dh,dn,dw,di,dm,dK,dE,dF,dL,dM,dN,dP,dQ,dR,dS,dO,eF,eG,fA,ed,dX,dY,eH,eP,eQ,fB,eU,fD,fC,eX],df⟩ w:=by
 have HQ:=lh hK
 clear hK
 refine bU [(0,false),(1,false),(2,false),(3,false)] (by kernel_rfl) ?_
 refine az [0] [.int .i64 ((p:Nat):Int)] rfl (by kernel_rfl) (by kernel_rfl) (.inr trivial) ?_
 refine aC (.int .i64 (((p+1):Nat):Int)) _ (some 36) (ki (by kernel_rfl)) (cO (t:=3) (t':=3) (xv := .int .i64 ((p:Nat):Int)) (yv := .int .i64 1) (x:=(.tmp 35)) (y:=(.const (.int .i64 1))) (by kernel_rfl) (by kernel_rfl) (by kernel_rfl) (fun _=>by kernel_rfl) (gG _ (by omega) (by omega) (by omega))) (fun _=>trivial) ?_
 refine az [2,3] [.int .i64 (((p+1):Nat):Int),.int .i64 0] rfl (by kernel_rfl) (by kernel_rfl) (.inr trivial) ?_
 exact aA (bg (K:=Q .normal) (by kernel_rfl) (HQ.out (.int .i64 ((p:Nat):Int)) (.int .i64 (((p+1):Nat):Int)) _ rfl))
theorem wk0 {w:World}{l:Nat}{x1 x2 x3 x4 x5 x6 x7 x8 x9 aW bn bi aZ aP aQ aS aT aX aY bD bC bG bH bJ bQ bP bM bK bV bW:Value}{df:List Deferred}{Q:Exit→Act→World→Prop}
  (hK:∀ (bq:Nat) (w':World),bq=w.heap.size→w'.heap[bq]?=some (.cells #[.func (.yield l) #[] #[]] 150)→ae ai w w'→Q .normal ⟨#[.func (.yield l) #[] #[],x1,x2,x3,.pointer (some ⟨bq,0,none⟩),x5,x6,x7,x8,x9,aW,bn,bi,aZ,aP,aQ,aS,aT,aX,aY,bD,bC,bG,bH,bJ,bQ,bP,bM,bK,bV,bW],df⟩ w'):RW Tryz.prog (aJ 0 Tryz.f159) false Q ⟨#[.func (.yield l) #[] #[],x1,x2,x3,x4,x5,x6,x7,x8,x9,aW,bn,bi,aZ,aP,aQ,aS,aT,aX,aY,bD,bC,bG,bH,bJ,bQ,bP,bM,bK,bV,bW],df⟩ w:=by
 have HQ:=lh hK
 clear hK
 refine bU [(0,false)] (by kernel_rfl) ?_
 refine fG (.cells #[.func (.yield l) #[] #[]] 150) (some 4) (ki (by kernel_rfl)) (by kernel_rfl) ?_
 intro k1 w_k1 hk_k1 hO_k1 hm_k1 hl_k1
 refine⟨fun _=>trivial,?_⟩
 exact aA (bg (K:=Q .normal) (by kernel_rfl) (HQ.out  k1 w_k1 hk_k1 hO_k1 hm_k1))
theorem wk1 {w:World}{m bf g:Nat}{fv:Value}{X:Nat→Nat→World→Prop} (c1:w.cell? ⟨m,0,none⟩=some (.pointer (some ⟨g,0,none⟩))) (c2:w.cell? ⟨bf,0,none⟩=some fv) (hC:Calls Tryz.prog 160 #[.pointer (some ⟨g,0,none⟩),fv] w fun e w'=>∃ ma bf:Nat,e = .returned (.func (.func 223) #[] #[.pointer (some ⟨ma,0,none⟩),.pointer (some ⟨bf,0,none⟩)])∧X ma bf w')
  (hK:∀ (y6 y7:Value) (ma bq:Nat) (w':World),X ma bq w'→Q .normal ⟨#[x0,.pointer (some ⟨m,0,none⟩),.pointer (some ⟨bf,0,none⟩),x3,x4,x5,y6,y7,.func (.func 223) #[] #[.pointer (some ⟨ma,0,none⟩),.pointer (some ⟨bq,0,none⟩)],x9,aW,bn,bi,aZ,aP,aQ,aS,aT,aX,aY,bD,bC,bG,bH,bJ,bQ,bP,bM,bK,bV,bW],df⟩ w'):RW Tryz.prog (aJ 1 Tryz.f159) false Q ⟨#[x0,.pointer (some ⟨m,0,none⟩),.pointer (some ⟨bf,0,none⟩),x3,x4,x5,x6,x7,x8,x9,aW,bn,bi,aZ,aP,aQ,aS,aT,aX,aY,bD,bC,bG,bH,bJ,bQ,bP,bM,bK,bV,bW],df⟩ w:=by
 have HQ:=lh hK
 clear hK
 refine bU [(0,false),(1,false),(2,false)] (by kernel_rfl) ?_
 refine aC (af g 0) _ (some 6) (ki (by kernel_rfl)) (aG (x:=(.tmp 1)) (by kernel_rfl) (by kernel_rfl) (aI ((fun _=>c1) (trivial)) Tryz.underlying129 rfl)) (fun _=>trivial) ?_
 refine aC (fv) _ (some 7) (ki (by kernel_rfl)) (aG (x:=(.tmp 2)) (by kernel_rfl) (by kernel_rfl) (aI ((fun _=>c2) (trivial)) Tryz.underlying91 rfl)) (fun _=>trivial) ?_
 refine bu (some 8) (ki (by kernel_rfl)) hC (fun _=>by kernel_rfl) ?_
 rintro r w7 ⟨ma,bf,rfl,hh⟩
 refine⟨_,rfl,fun _=>trivial,?_⟩
 exact aA (bg (K:=Q .normal) (by kernel_rfl) (HQ.out (af g 0) (fv) ma bf w7 hh))
theorem wk2 {w:World}{u v:Value} (hu:u.oneCell'=true) (hv:v.oneCell'=true)
  (hK:∀ (bq:Nat) (w':World),w.heap.size≤bq→w'.heap[bq]?=some (.cells #[u,v] 244 (0,0))→ae ai w w'→Q .normal ⟨#[x0,x1,x2,x3,x4,.pointer (some ⟨bq,0,none⟩),x6,x7,x8,.agg #[u,v],aW,bn,bi,aZ,aP,aQ,aS,aT,aX,aY,bD,bC,bG,bH,bJ,bQ,bP,bM,bK,bV,bW],df⟩ w'):RW Tryz.prog (aJ 2 Tryz.f159) false Q ⟨#[x0,x1,x2,x3,x4,x5,x6,x7,x8,.agg #[u,v],aW,bn,bi,aZ,aP,aQ,aS,aT,aX,aY,bD,bC,bG,bH,bJ,bQ,bP,bM,bK,bV,bW],df⟩ w:=by
 have HQ:=lh hK
 clear hK
 refine bU [(0,false),(1,false)] (by kernel_rfl) ?_
 refine fG (.cells #[.slice none 0 0,.slice none 0 0] 244) (some 5) (ki (by kernel_rfl)) (by kernel_rfl) ?_
 intro k1 w_k1 hk_k1 hO_k1 hm_k1 hl_k1
 refine⟨fun _=>trivial,?_⟩
 refine nI (off:=0) (ty:=244) (x:=(.tmp 5)) (y:=(.tmp 9)) (cells:=#[u,v]) #[u,v] none (ki (by kernel_rfl)) (by kernel_rfl) (by kernel_rfl) (by kernel_rfl) hO_k1 (by kernel_rfl) (by kernel_rfl) (by simp [hu,hv]) (by kernel_rfl) ?_
 intro w9 hO9 hm9 hs9
 refine⟨fun _=>trivial,?_⟩
 have hM:=hm_k1.trans hm9 (U:=ai) (fun _ _ x=>x) (fun i hi e=>by omega)
 exact aA (bg (K:=Q .normal) (by kernel_rfl) (HQ.out  k1 w9 (Nat.le_of_eq hk_k1.symm) hO9 hM))
theorem wk3s {w:World}{l x bt by1:Nat}{at1:Option Addr}{ct:Nat}{u v:Value}{ks vs ts:List UInt8} (q1:w.heap[x]?=some (.cells #[u,v] 244 (0,0))) (q2:w.cell? ⟨bt,0,none⟩=some (.slice at1 ts.length ct)) (q3:bt<w.heap.size) (hu:Rd w u ks) (hv:Rd w v vs) (ht:Rd w (.slice at1 ts.length ct) ts) (lk:ks.length≤1000000) (lv:vs.length≤1000000) (h1:ts≠[]) (h2:0≤Lib.compareBytes ks ts)
  (hK:∀ (jQ lD y12 kF jB jR jS jk jl jC lF kG jm iY jD iZ jo kH jT jU:Value)  (w':World),ae ai w w'→Q .normal ⟨#[x0,x1,x2,.pointer (some ⟨bt,0,none⟩),.pointer (some ⟨by1,0,none⟩),.pointer (some ⟨x,0,none⟩),x6,x7,x8,x9,jQ,lD,y12,kF,jB,jR,jS,jk,jl,jC,lF,kG,jm,iY,jD,iZ,jo,kH,jT,jU,.bool true],df⟩ w'):RW Tryz.prog (aJ 3 Tryz.f159) true Q ⟨#[x0,x1,x2,.pointer (some ⟨bt,0,none⟩),.pointer (some ⟨by1,0,none⟩),.pointer (some ⟨x,0,none⟩),x6,x7,x8,x9,aW,bn,bi,aZ,aP,aQ,aS,aT,aX,aY,bD,bC,bG,bH,bJ,bQ,bP,bM,bK,bV,bW],df⟩ w:=by
 have HQ:=lh hK
 clear hK
 have L1:0<ts.length:=List.length_pos_iff.2 h1
 have HU:=lh hu
 have HV:=lh hv
 have HT:=lh ht
 have MR:=lh ((ae.refl ai w).drew)
 have Q1:=lh (fun b' (hm:ae ai w b')=>show b'.cell? ⟨x,0,none⟩=some u from ag (hm.heap q1 (fun x=>x)) 0)
 have Q6:=lh (fun b' (hm:ae ai w b')=>show b'.cell? ⟨x,1,none⟩=some v from ag (hm.heap q1 (fun x=>x)) 1)
 have Q2:=lh (fun b' (hm:ae ai w b')=>show b'.cell? ⟨bt,0,none⟩=some (.slice at1 ts.length ct) from (hm.cellAt q3 (fun x=>x) 0).trans q2)
 clear hu hv ht q1 q2 q3
 refine kR (S:=fun b'=>ae ai w b') [(0,true),(1,true),(2,true),(3,true),(4,true),(5,true),(6,true),(7,false),(8,true),(9,true),(10,true),(11,true),(12,true),(13,true),(15,true),(16,true),(14,false),(17,false),(18,false),(19,true),(20,true)] [] [(0,8,1024),(1,1024,2048),(2,2048,4096),(4,4096,8192),(8,8224,16384),(24,24576,32768),(8,8200,65536),(104,106496,131072),(136,139264,262144),(264,270336,524288),(640,524288,1048576),(1024,1048592,2097152),(1024,1048608,4194304),(5120,5242880,8388608),(9216,9437184,16777216),(1024,1048608,33554432),(33792,34603008,67108864),(82944,68157440,134217728),(150528,154140672,268435456),(263168,269484032,536870912),(525312,537919488,1073741824)] (by kernel_rfl) (by kernel_rfl) (by kernel_rfl) (by kernel_rfl) (by kernel_rfl) MR.out ?_
 refine ah ((.slice at1 ts.length ct)) (some 10) (ki (by kernel_rfl)) (fun bb hb=>aG (x:=(.tmp 3)) (by kernel_rfl) (by kernel_rfl) (aI (Q2.out _ hb) Tryz.underlying91 rfl)) ?_
 refine aj [1] [.int .i64 ((ts.length:Nat):Int)] rfl (by kernel_rfl) (fun _=>by kernel_rfl) ?_
 refine ah (.bool true) (some 12) (ki (by kernel_rfl)) (fun bb hb=>cO (t:=3) (t':=3) (xv := .int .i64 ((ts.length:Nat):Int)) (yv := .int .i64 0) (x:=(.tmp 11)) (y:=(.const (.int .i64 0))) (by kernel_rfl) (by kernel_rfl) (by kernel_rfl) (fun _=>by kernel_rfl) (qH _ (decide_eq_true (by omega)))) ?_
 refine aj [3,4] [.bool true,af x 0] rfl (by kernel_rfl) (fun _=>by kernel_rfl) ?_
 refine ah (u) (some 15) (ki (by kernel_rfl)) (fun bb hb=>aG (x:=(.tmp 14)) (by kernel_rfl) (by kernel_rfl) (aI (Q1.out _ hb) Tryz.underlying91 rfl)) ?_
 refine ah ((.slice at1 ts.length ct)) (some 16) (ki (by kernel_rfl)) (fun bb hb=>aG (x:=(.tmp 3)) (by kernel_rfl) (by kernel_rfl) (aI (Q2.out _ hb) Tryz.underlying91 rfl)) ?_
 refine bu (some 17) (ki (by kernel_rfl)) (oz (HU.out.keep MR.out (fun _ _ x=>x)) (HT.out.keep MR.out (fun _ _ x=>x))) (fun _=>by kernel_rfl) ?_
 rintro r wc ⟨rfl,rfl⟩
 refine⟨_,rfl,fun _=>MR.out,?_⟩
 refine ah (.bool true) (some 18) (ki (by kernel_rfl)) (fun bb hb=>cO (t:=3) (t':=3) (xv := .int .i64 (Lib.compareBytes ks ts)) (yv := .int .i64 0) (x:=(.tmp 17)) (y:=(.const (.int .i64 0))) (by kernel_rfl) (by kernel_rfl) (by kernel_rfl) (fun _=>by kernel_rfl) (pO _ (decide_eq_true (by omega)))) ?_
 refine aj [9,10,11,12,13,15,16] [.bool true,.bool true,undef,undef,undef,undef,undef] rfl (by kernel_rfl) (fun _=>by kernel_rfl) ?_
 refine mf (some 24) (ki (by kernel_rfl)) (fun _=>MR.out) ?_
 refine mf (some 27) (ki (by kernel_rfl)) (fun _=>MR.out) ?_
 refine mf (some 28) (ki (by kernel_rfl)) (fun _=>MR.out) ?_
 refine aj [19,20] [undef,.bool true] rfl (by kernel_rfl) (fun _=>by kernel_rfl) ?_
 exact aA (bg (K:=Q .normal) (by kernel_rfl) (HQ.out ((.slice at1 ts.length ct)) (.int .i64 ((ts.length:Nat):Int)) (.bool true) (.bool true) (af x 0) (u) ((.slice at1 ts.length ct)) (.int .i64 (Lib.compareBytes ks ts)) (.bool true) (.bool true) (.bool true) (undef) (undef) (undef) (undef) (undef) (undef) (undef) (undef) (undef) _ MR.out))
theorem wk3a {w:World}{l x bt by1:Nat}{at1:Option Addr}{ct:Nat}{u v:Value}{ks vs ts:List UInt8} (q1:w.heap[x]?=some (.cells #[u,v] 244 (0,0))) (q2:w.cell? ⟨bt,0,none⟩=some (.slice at1 ts.length ct)) (q3:bt<w.heap.size) (hu:Rd w u ks) (hv:Rd w v vs) (ht:Rd w (.slice at1 ts.length ct) ts) (lk:ks.length≤1000000) (lv:vs.length≤1000000) (h1:ts=[]) (q4:w.cell? ⟨by1,0,none⟩=some (.func (.yield l) #[] #[])) (q5:by1<w.heap.size)
  (hK:∀ (jQ lD y12 kF jB jR jS jk jl jC jm iY iZ jo:Value) (d1 d2:Value) (w':World),Gl.Own w' d1 ks→Gl.Own w' d2 vs→aF w d1→aF w d2→(∀ k,d1.ownBlock=some k→d2.ownBlock≠some k)→ae ai w w'→Q .normal ⟨#[x0,x1,x2,.pointer (some ⟨bt,0,none⟩),.pointer (some ⟨by1,0,none⟩),.pointer (some ⟨x,0,none⟩),x6,x7,x8,x9,jQ,lD,y12,kF,jB,jR,jS,jk,jl,jC,.bool false,.func (.yield l) #[] #[],jm,iY,d1,iZ,jo,d2,bK,bV,bW],df⟩ w'):RW Tryz.prog ((aJ 3 Tryz.f159).toList.take 18).toArray true Q ⟨#[x0,x1,x2,.pointer (some ⟨bt,0,none⟩),.pointer (some ⟨by1,0,none⟩),.pointer (some ⟨x,0,none⟩),x6,x7,x8,x9,aW,bn,bi,aZ,aP,aQ,aS,aT,aX,aY,bD,bC,bG,bH,bJ,bQ,bP,bM,bK,bV,bW],df⟩ w:=by
 have HQ:=lh hK
 clear hK
 have L1:¬ 0<ts.length:=by rw [h1];simp
 have HU:=lh hu
 have HV:=lh hv
 have HT:=lh ht
 have MR:=lh ((ae.refl ai w).drew)
 have Q1:=lh (fun b' (hm:ae ai w b')=>show b'.cell? ⟨x,0,none⟩=some u from ag (hm.heap q1 (fun x=>x)) 0)
 have Q6:=lh (fun b' (hm:ae ai w b')=>show b'.cell? ⟨x,1,none⟩=some v from ag (hm.heap q1 (fun x=>x)) 1)
 have Q2:=lh (fun b' (hm:ae ai w b')=>show b'.cell? ⟨bt,0,none⟩=some (.slice at1 ts.length ct) from (hm.cellAt q3 (fun x=>x) 0).trans q2)
 have Q4:=lh (fun b' (hm:ae ai w b')=>show b'.cell? ⟨by1,0,none⟩=some (.func (.yield l) #[] #[]) from (hm.cellAt q5 (fun x=>x) 0).trans q4)
 clear hu hv ht q1 q2 q3 q4 q5
 refine kR (S:=fun b'=>ae ai w b') [(0,true),(1,true),(2,true),(3,true),(4,true),(5,true),(6,true),(7,false),(8,true),(9,true),(10,true),(11,true),(12,true),(13,true),(15,true),(16,true),(14,false),(17,false)] [] [(0,8,1024),(1,1024,2048),(2,2048,4096),(4,4096,8192),(8,8224,16384),(24,24576,32768),(8,8200,65536),(104,106496,131072),(136,139264,262144),(264,270336,524288),(640,524288,1048576),(1024,1048592,2097152),(1024,1048608,4194304),(5120,5242880,8388608),(9216,9437184,16777216),(1024,1048608,33554432),(33792,34603008,67108864),(82944,68157440,134217728)] (by kernel_rfl) (by kernel_rfl) (by kernel_rfl) (by kernel_rfl) (by kernel_rfl) MR.out ?_
 refine ah ((.slice at1 ts.length ct)) (some 10) (ki (by kernel_rfl)) (fun bb hb=>aG (x:=(.tmp 3)) (by kernel_rfl) (by kernel_rfl) (aI (Q2.out _ hb) Tryz.underlying91 rfl)) ?_
 refine aj [1] [.int .i64 ((ts.length:Nat):Int)] rfl (by kernel_rfl) (fun _=>by kernel_rfl) ?_
 refine ah (.bool false) (some 12) (ki (by kernel_rfl)) (fun bb hb=>cO (t:=3) (t':=3) (xv := .int .i64 ((ts.length:Nat):Int)) (yv := .int .i64 0) (x:=(.tmp 11)) (y:=(.const (.int .i64 0))) (by kernel_rfl) (by kernel_rfl) (by kernel_rfl) (fun _=>by kernel_rfl) (qH _ (decide_eq_false (by omega)))) ?_
 refine aj [3,4,5,6] [.bool false,undef,undef,undef] rfl (by kernel_rfl) (fun _=>by kernel_rfl) ?_
 refine mf (some 17) (ki (by kernel_rfl)) (fun _=>MR.out) ?_
 refine aj [8,9,10] [undef,.bool false,.bool false] rfl (by kernel_rfl) (fun _=>by kernel_rfl) ?_
 refine ah (.func (.yield l) #[] #[]) (some 21) (ki (by kernel_rfl)) (fun bb hb=>aG (x:=(.tmp 4)) (by kernel_rfl) (by kernel_rfl) (aI (Q4.out _ hb) Tryz.underlying150 rfl)) ?_
 refine aj [12] [af x 0] rfl (by kernel_rfl) (fun _=>by kernel_rfl) ?_
 refine ah (u) (some 23) (ki (by kernel_rfl)) (fun bb hb=>aG (x:=(.tmp 22)) (by kernel_rfl) (by kernel_rfl) (aI (Q1.out _ hb) Tryz.underlying91 rfl)) ?_
 refine aj [15] [af x 1] rfl (by kernel_rfl) (fun _=>by kernel_rfl) ?_
 refine ah (v) (some 26) (ki (by kernel_rfl)) (fun bb hb=>aG (x:=(.tmp 25)) (by kernel_rfl) (by kernel_rfl) (aI (Q6.out _ hb) Tryz.underlying91 rfl)) ?_
 refine bu (some 24) (ki (by kernel_rfl)) (gY (HU.out.keep MR.out (fun _ _ x=>x)) (by omega)) (fun _=>by kernel_rfl) ?_
 rintro r wd1 ⟨d1,rfl,o1,n1,f1⟩
 have F1:=lh (f1.of MR.out.size)
 have S1:=MR.out.size
 replace MR:=lh (MR.out.then0 n1)
 refine⟨_,rfl,fun _=>MR.out,?_⟩
 refine bu (some 27) (ki (by kernel_rfl)) (gY (HV.out.keep MR.out (fun _ _ x=>x)) (by omega)) (fun _=>by kernel_rfl) ?_
 rintro r wd2 ⟨d2,rfl,o2,n2,f2⟩
 have F2:=lh (f2.of MR.out.size)
 have S2:=MR.out.size
 replace MR:=lh (MR.out.then0 n2)
 refine⟨_,rfl,fun _=>MR.out,?_⟩
 exact aA (bg (K:=Q .normal) (by kernel_rfl) (HQ.out ((.slice at1 ts.length ct)) (.int .i64 ((ts.length:Nat):Int)) (.bool false) (.bool false) (undef) (undef) (undef) (undef) (undef) (.bool false) (af x 0) (u) (af x 1) (v) d1 d2 _ (o1.keep n2 (fun _ _ x=>x)) o2 F1.out F2.out (fun k hk hk2=>by have:=o1.lt k hk;have:=f2 k hk2;omega) MR.out))
theorem wk3b {w:World}{l x bt by1:Nat}{at1:Option Addr}{ct:Nat}{u v:Value}{ks vs ts:List UInt8} (q1:w.heap[x]?=some (.cells #[u,v] 244 (0,0))) (q2:w.cell? ⟨bt,0,none⟩=some (.slice at1 ts.length ct)) (q3:bt<w.heap.size) (hu:Rd w u ks) (hv:Rd w v vs) (ht:Rd w (.slice at1 ts.length ct) ts) (lk:ks.length≤1000000) (lv:vs.length≤1000000) (h1:ts≠[]) (h2:¬ 0≤Lib.compareBytes ks ts) (q4:w.cell? ⟨by1,0,none⟩=some (.func (.yield l) #[] #[])) (q5:by1<w.heap.size)
  (hK:∀ (jQ lD y12 kF jB jR jS jk jl jC jm iY iZ jo:Value) (d1 d2:Value) (w':World),Gl.Own w' d1 ks→Gl.Own w' d2 vs→aF w d1→aF w d2→(∀ k,d1.ownBlock=some k→d2.ownBlock≠some k)→ae ai w w'→Q .normal ⟨#[x0,x1,x2,.pointer (some ⟨bt,0,none⟩),.pointer (some ⟨by1,0,none⟩),.pointer (some ⟨x,0,none⟩),x6,x7,x8,x9,jQ,lD,y12,kF,jB,jR,jS,jk,jl,jC,.bool false,.func (.yield l) #[] #[],jm,iY,d1,iZ,jo,d2,bK,bV,bW],df⟩ w'):RW Tryz.prog ((aJ 3 Tryz.f159).toList.take 18).toArray true Q ⟨#[x0,x1,x2,.pointer (some ⟨bt,0,none⟩),.pointer (some ⟨by1,0,none⟩),.pointer (some ⟨x,0,none⟩),x6,x7,x8,x9,aW,bn,bi,aZ,aP,aQ,aS,aT,aX,aY,bD,bC,bG,bH,bJ,bQ,bP,bM,bK,bV,bW],df⟩ w:=by
 have HQ:=lh hK
 clear hK
 have L1:0<ts.length:=List.length_pos_iff.2 h1
 have HU:=lh hu
 have HV:=lh hv
 have HT:=lh ht
 have MR:=lh ((ae.refl ai w).drew)
 have Q1:=lh (fun b' (hm:ae ai w b')=>show b'.cell? ⟨x,0,none⟩=some u from ag (hm.heap q1 (fun x=>x)) 0)
 have Q6:=lh (fun b' (hm:ae ai w b')=>show b'.cell? ⟨x,1,none⟩=some v from ag (hm.heap q1 (fun x=>x)) 1)
 have Q2:=lh (fun b' (hm:ae ai w b')=>show b'.cell? ⟨bt,0,none⟩=some (.slice at1 ts.length ct) from (hm.cellAt q3 (fun x=>x) 0).trans q2)
 have Q4:=lh (fun b' (hm:ae ai w b')=>show b'.cell? ⟨by1,0,none⟩=some (.func (.yield l) #[] #[]) from (hm.cellAt q5 (fun x=>x) 0).trans q4)
 clear hu hv ht q1 q2 q3 q4 q5
 refine kR (S:=fun b'=>ae ai w b') [(0,true),(1,true),(2,true),(3,true),(4,true),(5,true),(6,true),(7,false),(8,true),(9,true),(10,true),(11,true),(12,true),(13,true),(15,true),(16,true),(14,false),(17,false)] [] [(0,8,1024),(1,1024,2048),(2,2048,4096),(4,4096,8192),(8,8224,16384),(24,24576,32768),(8,8200,65536),(104,106496,131072),(136,139264,262144),(264,270336,524288),(640,524288,1048576),(1024,1048592,2097152),(1024,1048608,4194304),(5120,5242880,8388608),(9216,9437184,16777216),(1024,1048608,33554432),(33792,34603008,67108864),(82944,68157440,134217728)] (by kernel_rfl) (by kernel_rfl) (by kernel_rfl) (by kernel_rfl) (by kernel_rfl) MR.out ?_
 refine ah ((.slice at1 ts.length ct)) (some 10) (ki (by kernel_rfl)) (fun bb hb=>aG (x:=(.tmp 3)) (by kernel_rfl) (by kernel_rfl) (aI (Q2.out _ hb) Tryz.underlying91 rfl)) ?_
 refine aj [1] [.int .i64 ((ts.length:Nat):Int)] rfl (by kernel_rfl) (fun _=>by kernel_rfl) ?_
 refine ah (.bool true) (some 12) (ki (by kernel_rfl)) (fun bb hb=>cO (t:=3) (t':=3) (xv := .int .i64 ((ts.length:Nat):Int)) (yv := .int .i64 0) (x:=(.tmp 11)) (y:=(.const (.int .i64 0))) (by kernel_rfl) (by kernel_rfl) (by kernel_rfl) (fun _=>by kernel_rfl) (qH _ (decide_eq_true (by omega)))) ?_
 refine aj [3,4] [.bool true,af x 0] rfl (by kernel_rfl) (fun _=>by kernel_rfl) ?_
 refine ah (u) (some 15) (ki (by kernel_rfl)) (fun bb hb=>aG (x:=(.tmp 14)) (by kernel_rfl) (by kernel_rfl) (aI (Q1.out _ hb) Tryz.underlying91 rfl)) ?_
 refine ah ((.slice at1 ts.length ct)) (some 16) (ki (by kernel_rfl)) (fun bb hb=>aG (x:=(.tmp 3)) (by kernel_rfl) (by kernel_rfl) (aI (Q2.out _ hb) Tryz.underlying91 rfl)) ?_
 refine bu (some 17) (ki (by kernel_rfl)) (oz (HU.out.keep MR.out (fun _ _ x=>x)) (HT.out.keep MR.out (fun _ _ x=>x))) (fun _=>by kernel_rfl) ?_
 rintro r wc ⟨rfl,rfl⟩
 refine⟨_,rfl,fun _=>MR.out,?_⟩
 refine ah (.bool false) (some 18) (ki (by kernel_rfl)) (fun bb hb=>cO (t:=3) (t':=3) (xv := .int .i64 (Lib.compareBytes ks ts)) (yv := .int .i64 0) (x:=(.tmp 17)) (y:=(.const (.int .i64 0))) (by kernel_rfl) (by kernel_rfl) (by kernel_rfl) (fun _=>by kernel_rfl) (pO _ (decide_eq_false (by omega)))) ?_
 refine aj [9,10] [.bool false,.bool false] rfl (by kernel_rfl) (fun _=>by kernel_rfl) ?_
 refine ah (.func (.yield l) #[] #[]) (some 21) (ki (by kernel_rfl)) (fun bb hb=>aG (x:=(.tmp 4)) (by kernel_rfl) (by kernel_rfl) (aI (Q4.out _ hb) Tryz.underlying150 rfl)) ?_
 refine aj [12] [af x 0] rfl (by kernel_rfl) (fun _=>by kernel_rfl) ?_
 refine ah (u) (some 23) (ki (by kernel_rfl)) (fun bb hb=>aG (x:=(.tmp 22)) (by kernel_rfl) (by kernel_rfl) (aI (Q1.out _ hb) Tryz.underlying91 rfl)) ?_
 refine aj [15] [af x 1] rfl (by kernel_rfl) (fun _=>by kernel_rfl) ?_
 refine ah (v) (some 26) (ki (by kernel_rfl)) (fun bb hb=>aG (x:=(.tmp 25)) (by kernel_rfl) (by kernel_rfl) (aI (Q6.out _ hb) Tryz.underlying91 rfl)) ?_
 refine bu (some 24) (ki (by kernel_rfl)) (gY (HU.out.keep MR.out (fun _ _ x=>x)) (by omega)) (fun _=>by kernel_rfl) ?_
 rintro r wd1 ⟨d1,rfl,o1,n1,f1⟩
 have F1:=lh (f1.of MR.out.size)
 have S1:=MR.out.size
 replace MR:=lh (MR.out.then0 n1)
 refine⟨_,rfl,fun _=>MR.out,?_⟩
 refine bu (some 27) (ki (by kernel_rfl)) (gY (HV.out.keep MR.out (fun _ _ x=>x)) (by omega)) (fun _=>by kernel_rfl) ?_
 rintro r wd2 ⟨d2,rfl,o2,n2,f2⟩
 have F2:=lh (f2.of MR.out.size)
 have S2:=MR.out.size
 replace MR:=lh (MR.out.then0 n2)
 refine⟨_,rfl,fun _=>MR.out,?_⟩
 exact aA (bg (K:=Q .normal) (by kernel_rfl) (HQ.out ((.slice at1 ts.length ct)) (.int .i64 ((ts.length:Nat):Int)) (.bool true) (.bool true) (af x 0) (u) ((.slice at1 ts.length ct)) (.int .i64 (Lib.compareBytes ks ts)) (.bool false) (.bool false) (af x 0) (u) (af x 1) (v) d1 d2 _ (o1.keep n2 (fun _ _ x=>x)) o2 F1.out F2.out (fun k hk hk2=>by have:=o1.lt k hk;have:=f2 k hk2;omega) MR.out))
theorem wkOwn {w:World}{bf bt:Nat}{fv tv:Value}{xs ts:List UInt8}{t1 t2:TypeId} (q1:w.heap[bf]?=some (.cells #[fv] t1 (0,0))) (q2:w.heap[bt]?=some (.cells #[tv] t2 (0,0))) (hne:¬ bf=bt) (hu:Rd w fv xs) (hv:Rd w tv ts) (lk:xs.length≤140737488355328) (lv:ts.length≤140737488355328)
  (hK:∀ (y7 y8 y9 jQ:Value) (d1 d2:Value) (w':World),w'.heap[bf]?=some (.cells #[d1] t1 (0,0))→w'.heap[bt]?=some (.cells #[d2] t2 (0,0))→Gl.Own w' d1 xs→Gl.Own w' d2 ts→aF w d1→aF w d2→ae (fun k=>k=bf∨k=bt) w w'→Q .normal ⟨#[x0,x1,x2,x3,.pointer (some ⟨bf,0,none⟩),.pointer (some ⟨bt,0,none⟩),x6,y7,y8,y9,jQ,bn],df⟩ w'):RW Tryz.prog (aJ 1 Tryz.f91) true Q ⟨#[x0,x1,x2,x3,.pointer (some ⟨bf,0,none⟩),.pointer (some ⟨bt,0,none⟩),x6,x7,x8,x9,aW,bn],df⟩ w:=by
 have HQ:=lh hK
 clear hK
 have HU:=lh hu
 have HV:=lh hv
 have Q1:=lh (fun b' (hm:ae ai w b')=>show b'.cell? ⟨bf,0,none⟩=some fv from ag (hm.heap q1 (fun x=>x)) 0)
 have Q2:=lh (fun b' (hm:ae ai w b')=>show b'.cell? ⟨bt,0,none⟩=some tv from ag (hm.heap q2 (fun x=>x)) 0)
 clear hu hv
 have MR:=lh ((ae.refl ai w).drew)
 refine lS (S:=fun b'=>ae ai w b') [(0,true),(2,true),(1,false),(3,false),(4,false),(5,false)] [4,5] (by kernel_rfl) (by kernel_rfl) (by kernel_rfl) (by kernel_rfl) MR.out ?_
 refine ah (fv) (some 7) (ki (by kernel_rfl)) (fun bb hb=>aG (x:=(.tmp 4)) (by kernel_rfl) (by kernel_rfl) (aI (Q1.out _ hb) Tryz.underlying91 rfl)) ?_
 refine ah (tv) (some 9) (ki (by kernel_rfl)) (fun bb hb=>aG (x:=(.tmp 5)) (by kernel_rfl) (by kernel_rfl) (aI (Q2.out _ hb) Tryz.underlying91 rfl)) ?_
 refine bu (some 8) (ki (by kernel_rfl)) (gY (HU.out.keep MR.out (fun _ _ x=>x)) lk) (fun _=>by kernel_rfl) ?_
 rintro r wd1 ⟨d1,rfl,o1,n1,f1⟩
 have F1:=lh (f1.of MR.out.size)
 replace MR:=lh (MR.out.then0 n1)
 obtain⟨ad1,cd1,ed1,_⟩:=o1.rd.form
 have od1:d1.oneCell'=true:=by rw [ed1];rfl
 refine⟨_,rfl,fun _=>MR.out,?_⟩
 refine bu (some 10) (ki (by kernel_rfl)) (gY (HV.out.keep MR.out (fun _ _ x=>x)) lv) (fun _=>by kernel_rfl) ?_
 rintro r wd2 ⟨d2,rfl,o2,n2,f2⟩
 have F2:=lh (f2.of MR.out.size)
 replace MR:=lh (MR.out.then0 n2)
 obtain⟨ad2,cd2,ed2,_⟩:=o2.rd.form
 have od2:d2.oneCell'=true:=by rw [ed2];rfl
 refine⟨_,rfl,fun _=>MR.out,?_⟩
 have hb1:=MR.out.heap q1 (fun x=>x)
 have hb2:=MR.out.heap q2 (fun x=>x)
 refine fH (ty:=91) (x:=(.tmp 4)) (y:=(.tmp 8)) (g:=bf) (off:=0) (v:=d1) none (ki (by kernel_rfl)) (by kernel_rfl) (by kernel_rfl) (by kernel_rfl) (by kernel_rfl) (by rw [ag hb1];rfl) (bY hb1 _) od1 ?_
 intro w91 hw91
 refine⟨(fun h=>by cases h),?_⟩
 have m91:ae (fun k=>k=bf) wd2 w91:=by rw [hw91];exact (ae.refl (fun k=>k=bf) wd2).setCell (p:=⟨bf,0,none⟩) (.inl rfl) d1
 have hc1:w91.heap[bf]?=some (.cells #[d1] t1 (0,0)):=by rw [hw91];exact heap_set hb1 0 d1
 have hc2:=m91.heap hb2 (fun e=>hne e.symm)
 refine fH (ty:=91) (x:=(.tmp 5)) (y:=(.tmp 10)) (g:=bt) (off:=0) (v:=d2) none (ki (by kernel_rfl)) (by kernel_rfl) (by kernel_rfl) (by kernel_rfl) (by kernel_rfl) (by rw [ag hc2];rfl) (bY hc2 _) od2 ?_
 intro w92 hw92
 refine⟨(fun h=>by cases h),?_⟩
 have m92:ae (fun k=>k=bt) w91 w92:=by rw [hw92];exact (ae.refl (fun k=>k=bt) w91).setCell (p:=⟨bt,0,none⟩) (.inl rfl) d2
 have he2:w92.heap[bt]?=some (.cells #[d2] t2 (0,0)):=by rw [hw92];exact heap_set hc2 0 d2
 have he1:=m92.heap hc1 hne
 have hbl:=lt_of_heap q1
 have htl:=lt_of_heap q2
 have p1:=((o1.keep n2 (fun _ _ x=>x)).keep m91 (fun k hk e=>by have:=F1.out k hk;omega)).keep m92 (fun k hk e=>by have:=F1.out k hk;omega)
 have p2:=(o2.keep m91 (fun k hk e=>by have:=F2.out k hk;omega)).keep m92 (fun k hk e=>by have:=F2.out k hk;omega)
 have pm:=(MR.out.trans m91 (U:=fun k=>k=bf∨k=bt) (fun _ _ x=>x.elim) (fun _ _ x => .inl x)).trans m92 (U:=fun k=>k=bf∨k=bt) (fun _ _ x=>x) (fun _ _ x => .inr x)
 exact aA (bg (K:=Q .normal) (by kernel_rfl) (HQ.out (fv) (d1) (tv) (d2) d1 d2 w92 he1 he2 p1 p2 F1.out F2.out pm))
end
open Go.Gl Go.RowKit
def rest (R:List PV) (p i:Nat):List EV:=((R.drop p).flatMap (·.es)).drop i
def jF (R:List PV) (xs:List UInt8):List EV:=rest R (bz (aH R) xs).1 (bz (aH R) xs).2.1
theorem wB {R:List PV}{p i:Nat} (hp:p<R.length) (hi:i≤(R[p]).es.length):rest R p i=(R[p]).es.drop i ++ rest R (p+1) 0:=by
 unfold rest
 rw [List.drop_eq_getElem_cons hp,List.flatMap_cons,List.drop_append_of_le_length hi,List.drop_zero]
theorem rest_end {R:List PV}{p i:Nat} (hp:R.length≤p):rest R p i=[]:=by
 unfold rest
 rw [List.drop_of_length_le hp];simp
theorem wJ {R:List PV}{p i:Nat} (hp:p<R.length) (hi:i<(R[p]).es.length):rest R p i=(R[p]).es[i] :: rest R p (i+1):=by
 rw [wB hp (Nat.le_of_lt hi),wB hp hi,List.drop_eq_getElem_cons hi,List.cons_append]
theorem Dn {R:List PV}{p:Nat} (hp:p<R.length):rest R p (R[p]).es.length=rest R (p+1) 0:=by
 rw [wB hp (Nat.le_refl _),List.drop_of_length_le (Nat.le_refl _),List.nil_append]
def nR (g:Nat) (vo:Value) (R:List PV) (m bf:Nat) (fv:Value) (k:Nat):Prop:=MS g vo R k∨MD R k∨k=m∨k=bf∨fv.ownBlock=some k
def ARis (R:List PV) (xs:List UInt8) (i:Nat) (_:Nat→Prop) (args:Array Value) (_:World):Prop:=∃ e,(jF R xs)[i]?=some e∧args=#[.agg #[e.kv,e.vv]]
theorem zt {vs:Array Value}{k:Nat} (h:gV #[.agg vs] k):False:=by
 obtain⟨v,hv,hk⟩:=h
 have:v = .agg vs:=by simpa using hv
 rw [this] at hk
 simp [Value.ownBlock] at hk
structure ig (w:World) (g:Nat) (vo:Value) (R:List PV) (m bf:Nat) (fv:Value) (xs:List UInt8):Prop where
 pm:PM w g vo R
 bm:∃ t,w.heap[m]?=some (.cells #[.pointer (some ⟨g,0,none⟩)] t (0,0))
 bfr:∃ t,w.heap[bf]?=some (.cells #[fv] t (0,0))
 fr:Gl.Own w fv xs
theorem ig.keep {w w':World}{g:Nat}{vo:Value}{R:List PV}{m bf:Nat}{fv:Value}{xs:List UInt8} (h:ig w g vo R m bf fv xs) (hm:ae (fun k=>¬ nR g vo R m bf fv k) w w'):ig w' g vo R m bf fv xs:=by
 obtain⟨t1,h1⟩:=h.bm
 obtain⟨t2,h2⟩:=h.bfr
 exact⟨h.pm.keep hm (fun k hk x=>x (.inl hk)) (fun k hk x=>x (.inr (.inl hk))),⟨t1,hm.heap h1 (fun x=>x (.inr (.inr (.inl rfl))))⟩,⟨t2,hm.heap h2 (fun x=>x (.inr (.inr (.inr (.inl rfl)))))⟩,h.fr.keep hm (fun k hk x=>x (.inr (.inr (.inr (.inr hk)))))⟩
theorem ig.lt {w:World}{g:Nat}{vo:Value}{R:List PV}{m bf:Nat}{fv:Value}{xs:List UInt8} (h:ig w g vo R m bf fv xs):∀ k,nR g vo R m bf fv k→k<w.heap.size:=by
 obtain⟨t1,h1⟩:=h.bm
 obtain⟨t2,h2⟩:=h.bfr
 rintro k (hk | hk | rfl | rfl | hk)
 ·exact h.pm.lt k hk
 ·exact h.pm.dlt k hk
 ·exact lt_of_heap h1
 ·exact lt_of_heap h2
 ·exact h.fr.lt k hk
theorem zV {w:World}{g:Nat}{vo:Value}{R:List PV}{m bf:Nat}{fv:Value}{xs:List UInt8} (h:ig w g vo R m bf fv xs) (ok:gu (aH R)) (hn:R.length≤1000000) :
  Iter Tryz.prog 223 #[.pointer (some ⟨m,0,none⟩),.pointer (some ⟨bf,0,none⟩)] (jF R xs).length (ARis R xs) (nR g vo R m bf fv) ai w:=by
 intro l J Jx W hW hJ hJx hY h0
 have pre:=h.keep hW
 obtain⟨SZ,hSZ⟩:∃ SZ,W.heap.size=SZ:=⟨_,rfl⟩
 rw [hSZ] at hY
 have hs0:SZ≤W.heap.size:=Nat.le_of_eq hSZ.symm
 clear h hW hSZ
 have hlen:∀ q∈R,q.es.length≤32:=fun q hq=>by
  have:=ok.most (ents q.es) (List.mem_map_of_mem (f:=fun p=>ents p.es) hq)
  rwa [dI] at this
 have hne:∀ q∈R,q.es≠[]:=fun q hq e=>by
  have:=ok.ne (ents q.es) (List.mem_map_of_mem (f:=fun p=>ents p.es) hq)
  rw [e] at this
  exact this rfl
 have keepJ:∀ i A B,J i (nR g vo R m bf fv) A→ig A g vo R m bf fv xs→ae ai A B→J i (nR g vo R m bf fv) B:=fun i A B hj hp hm=>hJ i _ _ A B hj (hm.mono (fun _ _ x=>x.elim)) hp.lt (fun k hk => .inl hk)
 have keepX:∀ i A B,Jx i (nR g vo R m bf fv) A→ig A g vo R m bf fv xs→ae ai A B→Jx i (nR g vo R m bf fv) B:=fun i A B hj hp hm=>hJx i _ _ A B hj (hm.mono (fun _ _ x=>x.elim)) hp.lt (fun k hk => .inl hk)
 obtain⟨tm,hbm⟩:=pre.bm
 obtain⟨tf,hbf⟩:=pre.bfr
 obtain⟨ao,cap,hvo,_⟩:=(aO.rd pre.pm.row).form
 have c1:W.cell? ⟨m,0,none⟩=some (.pointer (some ⟨g,0,none⟩)):=ag hbm 0
 have c2:W.cell? ⟨g,0,none⟩=some (.slice ao R.length cap):=by rw [← hvo];exact ag pre.pm.hg 0
 by_cases hR:R=[]
 ·have hz:R.length=0:=by rw [hR];rfl
  have hr0:jF R xs=[]:=by rw [hR];rfl
  (refine zf _ Tryz.func223 rfl ?_;simp only [Tryz.ntmps223,List.size_toArray,List.length_cons,List.length_nil,Nat.reduceAdd,Nat.reduceSub,Array.replicate_succ,Array.replicate_zero,List.push_toArray,List.append_toArray,List.nil_append,List.cons_append])
  refine wpIn_seq ?_
  refine wpIn_seq ?_
  refine bT (d := .region 0 (aJ 0 Tryz.f223) false) (by kernel_rfl) ?_
  refine RW.wpIn (ris0e c1 c2 hz ?_) (by kernel_rfl)
  intros
  rename_i hw
  subst hw
  refine bI ?_
  refine wpIn_cond_true rfl ?_
  refine wpIn_ret ?_
  repeat (refine oJ ?_)
  refine bodyPost_ret (results_none rfl _ _ _) rfl ?_
  refine⟨⟨_,rfl⟩,.inl ⟨_,?_,pre.lt⟩⟩
  rw [hr0]
  exact h0
 ·obtain⟨hp0,hi0⟩:=Aw (ys:=xs) hR
  obtain⟨b,off,rfl⟩:∃ b off,ao=some ⟨b,off,none⟩:=by
   rcases pre.pm.open with ⟨h1,_⟩ | ⟨b,off,cp,hv,_,_,_⟩
   ·exact absurd h1 hR
   ·rw [hvo] at hv;cases hv;exact⟨_,_,rfl⟩
  have hne':aH R≠[]:=fun h=>hR (by cases R with | nil=>rfl | cons a b=>simp [aH] at h)
  have HP:=lh (fun (wr:World) (hp:ig wr g vo R m bf fv xs)=>vU hp.pm hp.fr.rd ok hn)
  have PL:=lh (fun (wr:World) (hp:ig wr g vo R m bf fv xs) (p:Nat) (hlt:p<R.length)=>wP (hp.pm.page (List.getElem_mem hlt)) hp.fr.rd (by have:=ok.page (i:=p) (by rw [dW];exact hlt);simpa [aH] using this) (by have:=hlen _ (List.getElem_mem hlt);omega))
  have hfind:=rF hne' xs
  have hrl:jF R xs=rest R (bz (aH R) xs).1 (bz (aH R) xs).2.1:=rfl
  generalize bz (aH R) xs=F at *
  obtain⟨P,I,B⟩:=F
  simp only at hp0 hi0 hrl
  have hF1:P=ik (aH R) xs:=congrArg Prod.fst hfind
  have hF2:I=gX (ents (R[P]).es) xs:=by
   have:=congrArg (fun x=>x.2.1) hfind
   simp only at this
   rw [← hF1,ji hp0] at this
   exact this
  have keepM:∀ A B,ig A g vo R m bf fv xs→ae ai A B→ig B g vo R m bf fv xs:=fun A B hp hm=>hp.keep (hm.mono (fun _ _ x=>x.elim))
  have k1:∀ wr,ig wr g vo R m bf fv xs→wr.cell? ⟨m,0,none⟩=some (.pointer (some ⟨g,0,none⟩)):=fun wr hp=>by obtain⟨t,h⟩:=hp.bm;exact ag h 0
  have k2:∀ wr,ig wr g vo R m bf fv xs→wr.cell? ⟨g,0,none⟩=some (.slice (some ⟨b,off,none⟩) R.length cap):=fun wr hp=>by rw [← hvo];exact ag hp.pm.hg 0
  have k3:∀ wr,ig wr g vo R m bf fv xs→wr.cell? ⟨bf,0,none⟩=some fv:=fun wr hp=>by obtain⟨t,h⟩:=hp.bfr;exact ag h 0
  have k4:∀ wr,ig wr g vo R m bf fv xs→∀ p (hp:p<R.length),wr.cell? ⟨b,off+p,none⟩=some (R[p]).pv:=fun wr hp p hlt=>by have:=hp.pm;rw [hvo] at this;exact this.rowcell (ae.refl ai wr) hlt
  have KK:=lh (And.intro k1 (And.intro k2 (And.intro k3 k4)))
  clear k1 k2 k3 k4 hfind c1 hbm hbf
  (refine zf _ Tryz.func223 rfl ?_;simp only [Tryz.ntmps223,List.size_toArray,List.length_cons,List.length_nil,Nat.reduceAdd,Nat.reduceSub,Array.replicate_succ,Array.replicate_zero,List.push_toArray,List.append_toArray,List.nil_append,List.cons_append])
  refine wpIn_seq ?_
  refine wpIn_seq ?_
  refine bT (d := .region 0 (aJ 0 Tryz.f223) false) (by kernel_rfl) ?_
  refine RW.wpIn (ris0n (KK.out.1 _ pre) c2 (fun h=>hR (List.length_eq_zero_iff.1 h)) ?_) (by kernel_rfl)
  intros
  rename_i hw
  subst hw
  refine bI ?_
  refine wpIn_cond_false rfl ?_
  refine wpIn_skip ?_
  refine bI ?_
  refine wpIn_seq ?_
  refine bT (d := .region 1 (aJ 1 Tryz.f223) false) (by kernel_rfl) ?_
  refine RW.wpIn (ris1 (KK.out.1 _ pre) (KK.out.2.2.1 _ pre) (HP.out _ pre) ?_) (by kernel_rfl)
  intros
  rename_i w1 m1
  have pre1:=keepM _ _ pre m1
  have h1:=keepJ _ _ _ h0 pre m1
  clear h0 pre c2
  rw [← hF1]
  refine bI ?_
  refine wpIn_seq ?_
  obtain⟨ap,pc,hpv,_⟩:=(pre1.pm.page (List.getElem_mem hp0)).row.form
  refine bT (d := .region 2 (aJ 2 Tryz.f223) true) (by kernel_rfl) ?_
  refine RW.wpIn (ris2 (fun b' hb=>KK.out.1 _ (keepM _ _ pre1 hb)) (fun b' hb=>KK.out.2.1 _ (keepM _ _ pre1 hb)) (fun b' hb=>(KK.out.2.2.2 _ (keepM _ _ pre1 hb) P hp0).trans (congrArg some hpv)) (fun b' hb=>KK.out.2.2.1 _ (keepM _ _ pre1 hb)) hp0 (fun b' hb=>by have:=PL.out _ (keepM _ _ pre1 hb) P hp0;rw [hpv] at this;exact this) ?_) (by kernel_rfl)
  intros
  rename_i w2 m2
  have pre2:=keepM _ _ pre1 m2
  have h2:=keepJ _ _ _ h1 pre1 m2
  have hs2:=Nat.le_trans hs0 (Nat.le_trans m1.size m2.size)
  clear h1 pre1 m1 m2
  rw [← hF2]
  refine bI ?_
  refine wpIn_block ?_
  refine wpIn_loop (fun a wr=>∃ p i j:Nat,uh [] (.func (.yield l) #[] #[]) (.pointer (some ⟨m,0,none⟩)) (.pointer (some ⟨bf,0,none⟩)) (.int .i64 ((p:Nat):Int)) (.int .i64 ((i:Nat):Int)) a∧p≤R.length∧(∀ hp:p<R.length,i≤(R[p]).es.length)∧j≤(jF R xs).length∧(jF R xs).drop j=rest R p i∧J j (nR g vo R m bf fv) wr∧ig wr g vo R m bf fv xs∧SZ≤wr.heap.size)
   (fun a _=>R.length - (intOf (a.tmps.getD 4 undef)).toNat) ⟨P,I,0,uh.mk,Nat.le_of_lt hp0,fun _=>hi0,Nat.zero_le _,by rw [List.drop_zero,hrl],h2,pre2,hs2⟩ ?_
  clear h2 pre2 hs2
  rintro a wr ⟨p,i,j,hfr,hpl,hil,hjl,hdj,hJj,hpre,hws⟩
  have g4:a.tmps.getD 4 undef = .int .i64 ((p:Nat):Int):=hfr.elim (C:=fun a=>a.tmps.getD 4 undef = .int .i64 ((p:Nat):Int)) (by intros;rfl)
  refine hfr.elim (C:=fun a=>Code.wpIn _ _ _ _ _ a _) ?_
  intros
  refine wpIn_seq ?_
  refine wpIn_seq ?_
  refine bT (d := .region 3 (aJ 3 Tryz.f223) false) (by kernel_rfl) ?_
  by_cases hlt:p<R.length
  ·have hil:=hil hlt
   have hmem:=List.getElem_mem hlt
   obtain⟨pb,po,pc1,hpv1,ob1⟩:=hpre.pm.pageOB hmem (hne _ hmem)
   refine RW.wpIn (ris3t (KK.out.1 _ hpre) (KK.out.2.1 _ hpre) hlt ?_) (by kernel_rfl)
   intros
   rename_i hw
   subst hw
   refine bI ?_
   refine wpIn_cond_true rfl ?_
   refine wpIn_skip ?_
   refine bI ?_
   refine wpIn_seq ?_
   refine wpIn_block ?_
   refine wpIn_block ?_
   refine wpIn_loop (fun a wr=>∃ i j:Nat,uh [] (.func (.yield l) #[] #[]) (.pointer (some ⟨m,0,none⟩)) (.pointer (some ⟨bf,0,none⟩)) (.int .i64 ((p:Nat):Int)) (.int .i64 ((i:Nat):Int)) a∧i≤(R[p]).es.length∧j≤(jF R xs).length∧(jF R xs).drop j=rest R p i∧J j (nR g vo R m bf fv) wr∧ig wr g vo R m bf fv xs∧SZ≤wr.heap.size)
    (fun a _=>(R[p]).es.length - (intOf (a.tmps.getD 5 undef)).toNat) ⟨i,j,uh.mk,hil,hjl,hdj,hJj,hpre,hws⟩ ?_
   clear hil hjl hdj hJj hpre ob1 hpv1 hws
   rintro a5 wr ⟨i,j,hfr,hil,hjl,hdj,hJj,hpre,hws⟩
   have g5:a5.tmps.getD 5 undef = .int .i64 ((i:Nat):Int):=hfr.elim (C:=fun a=>a.tmps.getD 5 undef = .int .i64 ((i:Nat):Int)) (by intros;rfl)
   obtain⟨pb,po,pc1,hpv1,ob1⟩:=hpre.pm.pageOB hmem (hne _ hmem)
   refine hfr.elim (C:=fun a=>Code.wpIn _ _ _ _ _ a _) ?_
   intros
   refine wpIn_seq ?_
   refine wpIn_seq ?_
   refine bT (d := .region 5 (aJ 5 Tryz.f223) false) (by kernel_rfl) ?_
   have c3:=(KK.out.2.2.2 _ hpre p hlt).trans (congrArg some hpv1)
   by_cases hin:i<(R[p]).es.length
   ·refine RW.wpIn (ris5t (KK.out.1 _ hpre) (KK.out.2.1 _ hpre) c3 hlt hin ?_) (by kernel_rfl)
    intros
    rename_i hw
    subst hw
    refine bI ?_
    refine wpIn_cond_true rfl ?_
    refine wpIn_skip ?_
    refine bI ?_
    refine wpIn_seq ?_
    refine wpIn_block ?_
    refine wpIn_seq ?_
    refine bT (d := .region 7 (aJ 7 Tryz.f223) false) (by kernel_rfl) ?_
    have hcs:=qm (R[p]).es i hin
    have hjlt:j<(jF R xs).length:=by
     rcases Nat.lt_or_ge j (jF R xs).length with h | h
     ·exact h
     ·rw [List.drop_of_length_le h,wJ hlt hin] at hdj;cases hdj
    have hdj':=hdj
    rw [wJ hlt hin,List.drop_eq_getElem_cons hjlt] at hdj'
    obtain⟨hd1,hd2⟩:=List.cons.inj hdj'
    refine iP (Q1:=fun _ a' w'=>wpOpsIn _ _ _ _ _ _ a' w') 11 (by kernel_rfl) (ris7 (KK.out.1 _ hpre) (KK.out.2.1 _ hpre) c3 (by have:=ob1.cell hcs.1;exact this) (by have:=ob1.cell hcs.2;rw [Nat.add_assoc];exact this) hlt hin ?_) (fun _ _ h=>h)
    intros
    rename_i hw
    subst hw
    have hY1:=hY j (nR g vo R m bf fv) #[.agg #[((R[p]).es[i]).kv,((R[p]).es[i]).vv]] _ hjlt hJj ⟨(R[p]).es[i],by rw [List.getElem?_eq_getElem hjlt,hd1],rfl⟩ hpre.lt hws (hJ _ _ _ _ _ hJj (ae.refl _ _) hpre.lt (fun k hk => .inl (hk.elim id (fun h=>(zt h).elim)))) (fun k hk=>(zt hk).elim)
    refine ku (some 60) (ki (by kernel_rfl)) (by kernel_rfl) (by kernel_rfl) hY1 ?_
    rintro e w3 (⟨rfl,hJ3,m3⟩ | ⟨rfl,hJ3,m3⟩)
    ·have pre3:=hpre.keep m3
     refine⟨_,rfl,?_⟩
     refine fJ (.bool false) (some 61) (ki (by kernel_rfl)) (by kernel_rfl) (by kernel_rfl) ?_
     refine bI ?_
     refine wpIn_cond_false rfl ?_
     refine wpIn_skip ?_
     refine iI ?_
     refine bI ?_
     refine bT (d := .region 6 (aJ 6 Tryz.f223) false) (by kernel_rfl) ?_
     refine RW.wpIn (ris6 (by have:=hlen _ hmem;omega) ?_) (by kernel_rfl)
     intros
     rename_i hw
     subst hw
     refine bI ?_
     refine⟨⟨i+1,j+1,uh.mk,hin,hjlt,hd2,hJ3,pre3,Nat.le_trans hws m3.size⟩,?_⟩
     rw [g5]
     show (R[p]).es.length - (i+1)<(R[p]).es.length - i
     omega
    ·have pre3:=hpre.keep m3
     refine⟨_,rfl,?_⟩
     refine fJ (.bool true) (some 61) (ki (by kernel_rfl)) (by kernel_rfl) (by kernel_rfl) ?_
     refine bI ?_
     refine wpIn_cond_true rfl ?_
     refine wpIn_ret ?_
     repeat (first | refine oJ ?_ | refine kS ?_)
     refine bodyPost_ret (results_none rfl _ _ _) rfl ?_
     exact⟨⟨_,rfl⟩,.inr ⟨j,_,hjlt,hJ3,pre3.lt⟩⟩
   ·obtain rfl:i=(R[p]).es.length:=by omega
    refine RW.wpIn (ris5f (KK.out.1 _ hpre) (KK.out.2.1 _ hpre) c3 hlt hin ?_) (by kernel_rfl)
    intros
    rename_i hw
    subst hw
    refine bI ?_
    refine wpIn_cond_false rfl ?_
    refine wpIn_exit ?_
    repeat (refine zS ?_)
    refine vZ ?_
    refine iI ?_
    refine bI ?_
    refine bT (d := .region 4 (aJ 4 Tryz.f223) false) (by kernel_rfl) ?_
    refine RW.wpIn (ris4 (by omega) ?_) (by kernel_rfl)
    intros
    rename_i hw
    subst hw
    refine bI ?_
    refine⟨⟨p+1,0,j,uh.mk,hlt,fun _=>Nat.zero_le _,hjl,by rw [hdj,Dn hlt],hJj,hpre,hws⟩,?_⟩
    rw [g4]
    show R.length - (p+1)<R.length - p
    omega
  ·refine RW.wpIn (ris3f (KK.out.1 _ hpre) (KK.out.2.1 _ hpre) hlt ?_) (by kernel_rfl)
   intros
   rename_i hw
   subst hw
   refine bI ?_
   refine wpIn_cond_false rfl ?_
   refine wpIn_exit ?_
   repeat (refine zS ?_)
   refine vZ ?_
   refine bodyPost_end (results_none rfl _ _ _) rfl ?_
   have hj:j=(jF R xs).length:=by
    rw [rest_end (by omega)] at hdj
    have:=List.drop_eq_nil_iff.1 hdj
    omega
   subst hj
   exact⟨⟨_,rfl⟩,.inl ⟨_,hJj,hpre.lt⟩⟩
open Go.Gl Go.RowKit
def under (ts:List UInt8) (e:EV):Bool:=ts.isEmpty || aB e.k ts
def jO (R:List PV) (xs ts:List UInt8):List EV:=(jF R xs).takeWhile (under ts)
theorem JB (R:List PV) (xs ts:List UInt8):(jO R xs ts).length≤(jF R xs).length:=List.Sublist.length_le (List.takeWhile_sublist _)
theorem rH {α:Type} (p:α→Bool) (l:List α):∀ (i:Nat) (e:α),i≤(l.takeWhile p).length→l[i]?=some e→(p e=true↔i<(l.takeWhile p).length)∧(i<(l.takeWhile p).length→(l.takeWhile p)[i]?=some e):=by
  induction l with
  | nil=>intro i e _ h;simp at h
  | cons a l ih =>
    intro i e hi he
    rw [List.takeWhile_cons] at hi ⊢
    cases hp:p a with
    | true =>
      rw [hp] at hi
      simp only [if_true] at hi ⊢
      rcases i with _ | i
      · obtain rfl:a=e:=by simpa using he
        exact⟨⟨fun _=>by simp,fun _=>hp⟩,fun _=>rfl⟩
      · obtain⟨h1,h2⟩:=ih i e (by simpa using hi) (by simpa using he)
        exact⟨⟨fun h=>(by have:=h1.1 h;simp;omega),fun h=>h1.2 (by simpa using h)⟩,fun h=>(by simpa using h2 (by simpa using h))⟩
    | false =>
      rw [hp] at hi
      simp only [Bool.false_eq_true,if_false,List.length_nil,Nat.le_zero] at hi ⊢
      subst hi
      obtain rfl:a=e:=by simpa using he
      exact⟨⟨fun h=>(by rw [hp] at h;cases h),fun h=>(by omega)⟩,fun h=>(by omega)⟩
def rQ (B:Nat) (L:List EV) (i:Nat) (U:Nat→Prop) (args:Array Value) (W:World):Prop :=
 ∃ e kv vv,L[i]?=some e∧args=#[kv,vv]∧Gl.Own W kv e.k∧Gl.Own W vv e.v∧(∀ k,kv.ownBlock=some k→¬ U k)∧(∀ k,vv.ownBlock=some k→¬ U k)∧(∀ k,kv.ownBlock=some k→vv.ownBlock≠some k)∧(∀ k,kv.ownBlock=some k→B≤k)∧(∀ k,vv.ownBlock=some k→B≤k)
theorem EJ {W:World}{v:Value}{xs:List UInt8} (h:Gl.Own W v xs) {k:Nat} (hk:v.ownBlock=some k):∃ o,W.heap[k]?=some o∧o.isCells=true:=by
 rcases h.2 with ⟨rfl,_⟩ | ⟨g,off,cap,cur,rfl,hg,_⟩
 ·simp [Value.ownBlock] at hk
 ·simp [Value.ownBlock] at hk
  subst hk
  exact⟨_,hg,rfl⟩
theorem oL (B:Nat) (L:List EV):qI (rQ B L):=by
 rintro i U args W l o ⟨e,kv,vv,h1,h2,h3,h4,h5,h6,h7,h8,h9⟩ hl hc
 have key:∀ {v:Value}{xs:List UInt8},Gl.Own W v xs→v.ownBlock≠some l:=fun h hk=>by
  obtain⟨o',ho,hc'⟩:=EJ h hk
  rw [hl] at ho
  cases ho
  rw [hc] at hc'
  cases hc'
 exact⟨e,kv,vv,h1,h2,h3,h4,fun k hk hu=>by rcases hu with hu | rfl;exact h5 k hk hu;exact key h3 hk,fun k hk hu=>by rcases hu with hu | rfl;exact h6 k hk hu;exact key h4 hk,h7,h8,h9⟩
theorem BO (R:List PV) (xs:List UInt8):qI (ARis R xs):=fun i U args W l o h _ _=>h
theorem zC {a b:Value}{k:Nat} (h:gV #[a,b] k):a.ownBlock=some k∨b.ownBlock=some k:=by
 obtain⟨v,hv,hk⟩:=h
 have:v=a∨v=b:=by simpa using hv
 rcases this with rfl | rfl
 ·exact .inl hk
 ·exact .inr hk
def wZ (g:Nat) (vo:Value) (R:List PV) (m bf bt:Nat) (fv tv:Value) (k:Nat):Prop:=nR g vo R m bf fv k∨k=bt∨tv.ownBlock=some k
structure lJ (w:World) (g:Nat) (vo:Value) (R:List PV) (m bf bt:Nat) (fv tv:Value) (xs ts:List UInt8):Prop where
 ris:ig w g vo R m bf fv xs
 bt:∃ t,w.heap[bt]?=some (.cells #[tv] t (0,0))
 tv:Gl.Own w tv ts
theorem lJ.keep {w w':World}{g:Nat}{vo:Value}{R:List PV}{m bf bt:Nat}{fv tv:Value}{xs ts:List UInt8} (h:lJ w g vo R m bf bt fv tv xs ts) (hm:ae (fun k=>¬ wZ g vo R m bf bt fv tv k) w w'):lJ w' g vo R m bf bt fv tv xs ts:=by
 obtain⟨t1,h1⟩:=h.bt
 exact⟨h.ris.keep (hm.mono (fun k _ hk x=>hk (.inl x))),⟨t1,hm.heap h1 (fun x=>x (.inr (.inl rfl)))⟩,h.tv.keep hm (fun k hk x=>x (.inr (.inr hk)))⟩
theorem lJ.lt {w:World}{g:Nat}{vo:Value}{R:List PV}{m bf bt:Nat}{fv tv:Value}{xs ts:List UInt8} (h:lJ w g vo R m bf bt fv tv xs ts):∀ k,wZ g vo R m bf bt fv tv k→k<w.heap.size:=by
 obtain⟨t1,h1⟩:=h.bt
 rintro k (hk | rfl | hk)
 ·exact h.ris.lt k hk
 ·exact lt_of_heap h1
 ·exact h.tv.lt k hk
def JP (w:World) (g:Nat) (fv:Value) (m bf:Nat) (w':World):Prop :=
 (∃ t,w'.heap[m]?=some (.cells #[.pointer (some ⟨g,0,none⟩)] t (0,0)))∧(∃ t,w'.heap[bf]?=some (.cells #[fv] t (0,0)))∧ae ai w w'∧w.heap.size≤m∧w.heap.size≤bf
theorem Bo {w:World}{g:Nat}{fv:Value}{xs:List UInt8} (hf:Rd w fv xs) :
  Calls Tryz.prog 160 #[.pointer (some ⟨g,0,none⟩),fv] w fun e w'=>∃ m bf:Nat,e = .returned (.func (.func 223) #[] #[.pointer (some ⟨m,0,none⟩),.pointer (some ⟨bf,0,none⟩)])∧JP w g fv m bf w':=by
 obtain⟨a,c,rfl,_⟩:=hf.form
 clear hf
 go_enter Tryz.func160,Tryz.ntmps160
 go_wp2
 go_ret
 refine⟨_,_,rfl,⟨129,dA (aU w _) _⟩,⟨91,?_⟩,((ae.refl ai w).alloc _).alloc _,Nat.le_refl _,by omega⟩
 have:=aU (w.alloc (.cells #[.pointer (some ⟨g,0,none⟩)] 129)) (.cells #[.slice a xs.length c] 91)
 rw [World.size_alloc] at this
 exact this
theorem Gf {R:List PV}{xs:List UInt8}{i:Nat}{e:EV} (h:(jF R xs)[i]?=some e):∃ p∈R,e∈p.es:=by
 have h1:e∈jF R xs:=List.mem_of_getElem? h
 unfold jF rest at h1
 have h2:=List.mem_of_mem_drop h1
 obtain⟨p,hp,he⟩:=List.mem_flatMap.1 h2
 exact⟨p,List.mem_of_mem_drop hp,he⟩
def jf (UW:Nat→Prop) (by1:Nat) (U:Nat→Prop) (k:Nat):Prop:=UW k∨U k∨k=by1
theorem xx {w:World}{g:Nat}{vo:Value}{R:List PV}{m bf bt:Nat}{fv tv:Value}{xs ts:List UInt8} (h:lJ w g vo R m bf bt fv tv xs ts) (ok:gu (aH R)) (hn:R.length≤1000000) (hts:ts.length≤1000000) :
  Iter Tryz.prog 159 #[.pointer (some ⟨m,0,none⟩),.pointer (some ⟨bf,0,none⟩),.pointer (some ⟨bt,0,none⟩)] (jO R xs ts).length (rQ w.heap.size (jO R xs ts)) (wZ g vo R m bf bt fv tv) ai w:=by
 intro l J Jx W hW hJ hJx hY h0
 have pre:=h.keep hW
 have hwW:w.heap.size≤W.heap.size:=hW.size
 clear h hW
 obtain⟨tm,hbm⟩:=pre.ris.bm
 obtain⟨tf,hbf⟩:=pre.ris.bfr
 obtain⟨a1,ct,htv,_⟩:=pre.tv.rd.form
 obtain⟨UW,hUW⟩:∃ UW,wZ g vo R m bf bt fv tv=UW:=⟨_,rfl⟩
 rw [hUW] at h0
 have hUl:∀ k,UW k→k<W.heap.size:=fun k hk=>by rw [← hUW] at hk;exact pre.lt k hk
 have keepP:∀ A B,lJ A g vo R m bf bt fv tv xs ts→ae (fun k=>¬ UW k) A B→lJ B g vo R m bf bt fv tv xs ts:=fun A B hp hm=>hp.keep (by rw [hUW];exact hm)
 have SW:=lh hUW
 (refine kM _ Tryz.func159 rfl ?_;simp only [Tryz.ntmps159,List.size_toArray,List.length_cons,List.length_nil,Nat.reduceAdd,Nat.reduceSub,Array.replicate_succ,Array.replicate_zero,List.push_toArray,List.append_toArray,List.nil_append,List.cons_append])
 refine wpIn_seq ?_
 refine bT (d := .region 0 (aJ 0 Tryz.f159) false) (by kernel_rfl) ?_
 refine RW.wpIn (wk0 ?_) (by kernel_rfl)
 intro by1 w1 hby hbO m1
 refine bI ?_
 have pre1:=keepP _ _ pre (m1.mono (fun _ _ x=>x.elim))
 refine wpIn_seq ?_
 refine bT (d := .region 1 (aJ 1 Tryz.f159) false) (by kernel_rfl) ?_
 refine RW.wpIn (wk1 (ag (m1.heap hbm (fun x=>x)) 0) (ag (m1.heap hbf (fun x=>x)) 0) (Bo pre1.ris.fr.rd) ?_) (by kernel_rfl)
 intros
 rename_i ma bq w2 hres
 obtain⟨⟨t1,e1⟩,⟨t2,e2⟩,m2,s1,s2⟩:=hres
 refine bI ?_
 have m12:=m1.then0 m2
 have pre2:=keepP _ _ pre (m12.mono (fun _ _ x=>x.elim))
 have rp:ig w2 g vo R ma bq fv xs:=⟨pre2.ris.pm,⟨_,e1⟩,⟨_,e2⟩,pre2.ris.fr⟩
 have hbO2:=m2.heap hbO (fun x=>x)
 have hby2:by1<w2.heap.size:=lt_of_heap hbO2
 have hs12:W.heap.size≤w2.heap.size:=m12.size
 have hUo:∀ U:Nat→Prop,(∀ k,U k→k<w2.heap.size)→∀ k,jf UW by1 U k→k<w2.heap.size:=fun U hU k hk=>by
  rcases hk with hk | hk | rfl
  ·have:=hUl k hk;omega
  ·exact hU k hk
  ·exact hby2
 have hsub0:∀ k,jf UW by1 (nR g vo R ma bq fv) k→UW k∨W.heap.size≤k:=fun k hk=>by
  rcases hk with hk | hk | rfl
  ·exact .inl hk
  ·rcases hk with hk | hk | rfl | rfl | hk
   ·exact .inl (by rw [← SW.out];exact .inl (.inl hk))
   ·exact .inl (by rw [← SW.out];exact .inl (.inr (.inl hk)))
   ·right;have:=m1.size;omega
   ·right;have:=m1.size;omega
   ·exact .inl (by rw [← SW.out];exact .inl (.inr (.inr (.inr (.inr hk)))))
  ·right;omega
 have h2:J 0 (jf UW by1 (nR g vo R ma bq fv)) w2:=hJ _ _ _ _ _ h0 (m12.mono (fun _ _ x=>x.elim)) hUl hsub0
 have frm:∀ (X:Nat→(Nat→Prop)→World→Prop),lU W.heap.size ai X→∀ i U U' A B,X i (jf UW by1 U) A→w2.heap.size≤A.heap.size→ae (fun k=>U k∧(ai k∨w2.heap.size≤k)) A B→(∀ k,U k→k<A.heap.size)→(∀ k,U' k→U k∨A.heap.size≤k)→X i (jf UW by1 U') B:=fun X hX i U U' A B hx hsz hm hus hsub=>by
  refine hX _ _ _ _ _ hx (hm.mono (fun k _ hk=>⟨.inr (.inl hk.1),hk.2.imp id (fun h=>by omega)⟩)) (fun k hk=>?_) (fun k hk=>?_)
  ·rcases hk with hk | hk | rfl
   ·have:=hUl k hk;omega
   ·exact hus k hk
   ·omega
  ·rcases hk with hk | hk | hk
   ·exact .inl (.inl hk)
   ·exact (hsub k hk).imp (fun h => .inr (.inl h)) id
   ·exact .inl (.inr (.inr hk))
 have keep2:∀ (U:Nat→Prop) (A B:World),ae (fun k=>U k∧(ai k∨w2.heap.size≤k)) A B→lJ A g vo R m bf bt fv tv xs ts∧A.heap[by1]?=some (.cells #[.func (.yield l) #[] #[]] 150 (0,0))→lJ B g vo R m bf bt fv tv xs ts∧B.heap[by1]?=some (.cells #[.func (.yield l) #[] #[]] 150 (0,0)):=fun U A B hm hp=>by
  refine⟨keepP _ _ hp.1 (hm.mono (fun k _ hk hu=>?_)),hm.heap hp.2 (fun hk=>?_)⟩
  ·rcases hk.2 with h | h
   ·exact h
   ·have:=hUl k hu;omega
  ·rcases hk.2 with h | h
   ·exact h
   ·omega
 refine wpIn_block ?_
 refine qC (by rfl) (enters_of Tryz.func223 (by kernel_rfl) rfl) (zV rp ok hn) (ae.refl _ _) rp.lt (BO R xs) (fun i U args W1 hA=>by obtain⟨e,_,rfl⟩:=hA;rfl)
  (fun i U Wr=>i≤(jO R xs ts).length∧J i (jf UW by1 U) Wr∧(lJ Wr g vo R m bf bt fv tv xs ts∧Wr.heap[by1]?=some (.cells #[.func (.yield l) #[] #[]] 150 (0,0)))∧w2.heap.size≤Wr.heap.size)
  (fun c i U Wr=>c = .ret∧((i=(jO R xs ts).length+1∧J (jO R xs ts).length (jf UW by1 U) Wr)∨(∃ j,i=j+1∧j<(jO R xs ts).length∧Jx (j+1) (jf UW by1 U) Wr))∧w2.heap.size≤Wr.heap.size)
  ?_ ?_ ⟨Nat.zero_le _,h2,⟨pre2,hbO2⟩,Nat.le_refl _⟩ ?_ ?_ ?_
 ·rintro i U U' A B ⟨h1,h2,h3,h4⟩ hm hus hsub
  exact⟨h1,frm J hJ _ _ _ _ _ h2 h4 hm hus hsub,keep2 U _ _ hm h3,Nat.le_trans h4 hm.size⟩
 ·rintro c i U U' A B ⟨h1,h2,h4⟩ hm hus hsub
  refine⟨h1,h2.imp (fun x=>⟨x.1,frm J hJ _ _ _ _ _ x.2 h4 hm hus hsub⟩) (fun⟨j,x1,x2,x3⟩=>⟨j,x1,x2,frm Jx hJx _ _ _ _ _ x3 h4 hm hus hsub⟩),Nat.le_trans h4 hm.size⟩
 ·-- one round
  intro lp i U args Wr hlp hUlp hi ⟨hin,hJi,⟨hpr,hbyr⟩,hszr⟩ ⟨e,hei,hargs⟩ hUs _ _ _ _
  subst hargs
  obtain⟨hq1,hq2⟩:=rH (under ts) (jF R xs) i e hin hei
  obtain⟨pg1,hpg1,hepg⟩:=Gf hei
  have he1:=hpr.ris.pm.ents pg1 hpg1 e hepg
  obtain⟨ak,ck,hak,_⟩:=he1.k.form
  obtain⟨av,cv,hav,_⟩:=he1.v.form
  simp only [iT,List.setIfInBounds_toArray,List.set_cons_succ,List.set_cons_zero]
  refine bT (d := .region 2 (aJ 2 Tryz.f159) false) (by kernel_rfl) ?_
  refine RW.wpIn (wk2 (u:=e.kv) (v:=e.vv) (by rw [hak];rfl) (by rw [hav];rfl) ?_) (by kernel_rfl)
  intro bx w3 hbx hbxO m3
  refine bI ?_
  refine⟨m3.mono (fun _ _ x=>x.elim),?_⟩
  intro w4 m4 _
  have hxl:bx≠lp:=fun e=>by have:=hUs lp hUlp;omega
  have hbx4:=m4.heap hbxO hxl
  have m34:=m3.trans m4 (U:=fun k=>k=lp) (fun _ _ x=>x.elim) (fun _ _ x=>x)
  have hkl:ae (fun k=>U k∧(ai k∨w2.heap.size≤k)) Wr w4:=m34.mono (fun k _ hk=>by subst hk;exact⟨hUlp,.inr hlp⟩)
  obtain⟨hp4,hby4⟩:=keep2 U _ _ hkl ⟨hpr,hbyr⟩
  have hJ4:=frm J hJ _ _ _ _ _ hJi hszr hkl hUs (fun k hk => .inl hk)
  have hsz4:=Nat.le_trans hszr m34.size
  have he4:=hp4.ris.pm.ents pg1 hpg1 e hepg
  have hUs4:∀ k,U k→k<w4.heap.size:=fun k hk=>Nat.lt_of_lt_of_le (hUs k hk) m34.size
  have hUo4:∀ k,jf UW by1 U k→k<w4.heap.size:=fun k hk=>by
   rcases hk with hk | hk | rfl
   ·have:=hUl k hk;omega
   ·exact hUs4 k hk
   ·omega
  have hbt4:w4.cell? ⟨bt,0,none⟩=some (.slice a1 ts.length ct):=by obtain⟨t,ht⟩:=hp4.bt;rw [← htv];exact ag ht 0
  have hbtl:bt<w4.heap.size:=by obtain⟨t,ht⟩:=hp4.bt;exact lt_of_heap ht
  have htr:Rd w4 (.slice a1 ts.length ct) ts:=by rw [← htv];exact hp4.tv.rd
  have hbyc:w4.cell? ⟨by1,0,none⟩=some (.func (.yield l) #[] #[]):=ag hby4 0
  have hbyl:by1<w4.heap.size:=lt_of_heap hby4
  clear hpr hbyr hJi hbxO m3 hkl he1
  refine wpIn_block ?_
  refine wpIn_seq ?_
  refine bT (d := .region 3 (aJ 3 Tryz.f159) true) (by kernel_rfl) ?_
  have go:∀ (hu:under ts e=true) (d1 d2:Value) (w5:World),Gl.Own w5 d1 e.k→Gl.Own w5 d2 e.v→aF w4 d1→aF w4 d2→(∀ k,d1.ownBlock=some k→d2.ownBlock≠some k)→ae ai w4 w5 →
    Ap Tryz.prog l #[d1,d2] w5 fun r w6=>(r = .returned (.bool true)∧(i+1≤(jO R xs ts).length∧J (i+1) (jf UW by1 U) w6∧(lJ w6 g vo R m bf bt fv tv xs ts∧w6.heap[by1]?=some (.cells #[.func (.yield l) #[] #[]] 150 (0,0)))∧w2.heap.size≤w6.heap.size)∧ae (fun k=>¬ U k) w4 w6) ∨
     (r = .returned (.bool false)∧(i<(jO R xs ts).length∧Jx (i+1) (jf UW by1 U) w6)∧ae (fun k=>¬ U k) w4 w6∧w2.heap.size≤w6.heap.size):=by
   intro hu d1 d2 w5 o1 o2 f1 f2 dd m5
   have hlt:=hq1.1 hu
   have hJ5:=frm J hJ _ _ _ _ _ hJ4 hsz4 (m5.mono (fun _ _ x=>x.elim)) hUs4 (fun k hk => .inl hk)
   have hY5:=hY i (jf UW by1 U) #[d1,d2] w5 hlt hJ5 ⟨e,d1,d2,hq2 hlt,rfl,o1,o2,fun k hk hu=>by have:=f1 k hk;have:=hUo4 k hu;omega,fun k hk hu=>by have:=f2 k hk;have:=hUo4 k hu;omega,dd,fun k hk=>by have:=f1 k hk;omega,fun k hk=>by have:=f2 k hk;omega⟩ (fun k hk=>Nat.lt_of_lt_of_le (hUo4 k hk) m5.size) (by have:=m5.size;omega)
    (hJ _ _ _ _ _ hJ4 (m5.mono (fun _ _ x=>x.elim)) hUo4 (fun k hk=>hk.imp id (fun h=>by rcases zC h with h | h;exact f1 k h;exact f2 k h))) (fun k hk=>by rcases zC hk with h | h;exact o1.lt k h;exact o2.lt k h)
   obtain⟨fn,tm,asg,bd,hy,hR⟩:=hY5
   refine⟨fn,tm,asg,bd,hy,hR.mono ?_⟩
   rintro r w6 (⟨rfl,k1,k2⟩ | ⟨rfl,k1,k2⟩)
   ·have k3:=(m5.trans k2 (U:=fun k=>¬ jf UW by1 U k) (fun _ _ x=>x.elim) (fun _ _ x=>x))
    refine .inl ⟨rfl,⟨hlt,k1,⟨keepP _ _ hp4 (k3.mono (fun k _ hk hu=>hk (.inl hu))),k3.heap hby4 (fun hk=>hk (.inr (.inr rfl)))⟩,Nat.le_trans hsz4 k3.size⟩,k3.mono (fun k _ hk hu=>hk (.inr (.inl hu)))⟩
   ·have k3:=(m5.trans k2 (U:=fun k=>¬ jf UW by1 U k) (fun _ _ x=>x.elim) (fun _ _ x=>x))
    exact .inr ⟨rfl,⟨hlt,k1⟩,k3.mono (fun k _ hk hu=>hk (.inr (.inl hu))),Nat.le_trans hsz4 k3.size⟩
  by_cases hte:ts=[]
  ·have hu:under ts e=true:=by rw [hte];rfl
   refine iP (Q1:=fun _ a' w'=>wpOpsIn _ _ _ _ _ _ a' w') 18 (by kernel_rfl) (wk3a hbx4 hbt4 hbtl he4.k he4.v htr he4.lk he4.lv hte hbyc hbyl ?_) (fun _ _ h=>h)
   intros
   rename_i d1 d2 w5 o1 o2 f1 f2 dd m5
   refine ku (some 28) (ki (by kernel_rfl)) (by kernel_rfl) (by kernel_rfl) (go hu d1 d2 w5 o1 o2 f1 f2 dd m5) ?_
   rintro r w6 (⟨rfl,k1,k2⟩ | ⟨rfl,k1,k2,k3⟩)
   ·refine⟨_,rfl,?_⟩
    refine fJ (.bool false) (some 29) (ki (by kernel_rfl)) (by kernel_rfl) (by kernel_rfl) ?_
    refine fJ (.bool false) (some 30) (ki (by kernel_rfl)) (by kernel_rfl) (by kernel_rfl) ?_
    refine bI ?_
    refine wpIn_cond_false rfl ?_
    refine wpIn_skip ?_
    refine iI ?_
    exact⟨k2,k1⟩
   ·refine⟨_,rfl,?_⟩
    refine fJ (.bool true) (some 29) (ki (by kernel_rfl)) (by kernel_rfl) (by kernel_rfl) ?_
    refine fJ (.bool true) (some 30) (ki (by kernel_rfl)) (by kernel_rfl) (by kernel_rfl) ?_
    refine bI ?_
    refine wpIn_cond_true rfl ?_
    refine wpIn_ret ?_
    repeat (first | refine oJ ?_ | refine kS ?_)
    exact⟨k2,rfl,.inr ⟨i,rfl,k1.1,k1.2⟩,k3⟩
  ·have hemp:ts.isEmpty=false:=by cases ts with | nil=>exact absurd rfl hte | cons a b=>rfl
   by_cases hcmp:0≤Lib.compareBytes e.k ts
   ·have hu:¬ under ts e=true:=by
     unfold under
     rw [hemp,Bool.false_or,← zD]
     simpa using hcmp
    have hie:i=(jO R xs ts).length:=by
     have:¬ i<(jO R xs ts).length:=fun h=>hu (hq1.2 h)
     omega
    refine RW.wpIn (wk3s (l:=l) hbx4 hbt4 hbtl he4.k he4.v htr he4.lk he4.lv hte hcmp ?_) (by kernel_rfl)
    intros
    rename_i w5 m5
    refine bI ?_
    refine wpIn_cond_true rfl ?_
    refine wpIn_ret ?_
    repeat (first | refine oJ ?_ | refine kS ?_)
    have hJ5:=frm J hJ _ _ _ _ _ hJ4 hsz4 (m5.mono (fun _ _ x=>x.elim)) hUs4 (fun k hk => .inl hk)
    rw [hie] at hJ5
    exact⟨m5.mono (fun _ _ x=>x.elim),rfl,.inl ⟨by rw [hie],hJ5⟩,Nat.le_trans hsz4 m5.size⟩
   ·have hu:under ts e=true:=by
     unfold under
     rw [hemp,Bool.false_or,← zD]
     simpa using hcmp
    refine iP (Q1:=fun _ a' w'=>wpOpsIn _ _ _ _ _ _ a' w') 18 (by kernel_rfl) (wk3b hbx4 hbt4 hbtl he4.k he4.v htr he4.lk he4.lv hte hcmp hbyc hbyl ?_) (fun _ _ h=>h)
    intros
    rename_i d1 d2 w5 o1 o2 f1 f2 dd m5
    refine ku (some 28) (ki (by kernel_rfl)) (by kernel_rfl) (by kernel_rfl) (go hu d1 d2 w5 o1 o2 f1 f2 dd m5) ?_
    rintro r w6 (⟨rfl,k1,k2⟩ | ⟨rfl,k1,k2,k3⟩)
    ·refine⟨_,rfl,?_⟩
     refine fJ (.bool false) (some 29) (ki (by kernel_rfl)) (by kernel_rfl) (by kernel_rfl) ?_
     refine fJ (.bool false) (some 30) (ki (by kernel_rfl)) (by kernel_rfl) (by kernel_rfl) ?_
     refine bI ?_
     refine wpIn_cond_false rfl ?_
     refine wpIn_skip ?_
     refine iI ?_
     exact⟨k2,k1⟩
    ·refine⟨_,rfl,?_⟩
     refine fJ (.bool true) (some 29) (ki (by kernel_rfl)) (by kernel_rfl) (by kernel_rfl) ?_
     refine fJ (.bool true) (some 30) (ki (by kernel_rfl)) (by kernel_rfl) (by kernel_rfl) ?_
     refine bI ?_
     refine wpIn_cond_true rfl ?_
     refine wpIn_ret ?_
     repeat (first | refine oJ ?_ | refine kS ?_)
     exact⟨k2,rfl,.inr ⟨i,rfl,k1.1,k1.2⟩,k3⟩
 ·-- all have come
  rintro D U W5 hD hUD hus ⟨h1,h2,h3,h4⟩ hdef
  refine iI ?_
  refine iq hdef (results_none rfl _ _ _) ?_
  have hj:(jF R xs).length=(jO R xs ts).length:=by have:=JB R xs ts;omega
  rw [hj] at h2
  have hD5:=lt_of_heap hdef
  refine⟨⟨_,rfl⟩,.inl ⟨jf UW by1 U,frm J hJ _ _ _ _ _ h2 h4 ((dJ W5 D _).mono (fun k _ hk=>by subst hk;exact⟨hUD,.inr hD⟩)) hus (fun k hk => .inl hk),fun k hk=>?_⟩⟩
  rw [World.putObj_size]
  rcases hk with hk | hk | rfl
  ·have:=hUl k hk;omega
  ·exact hus k hk
  ·omega
 ·-- a round has left
  rintro D c i U W5 hD hUD hus hi ⟨rfl,h2,h4⟩ hdef
  have hbd:∀ k,jf UW by1 U k→k<(W5.putObj D (.deferred none)).heap.size:=fun k hk=>by
   rw [World.putObj_size]
   rcases hk with hk | hk | rfl
   ·have:=hUl k hk;omega
   ·exact hus k hk
   ·omega
  have hmD:ae (fun k=>U k∧(ai k∨w2.heap.size≤k)) W5 (W5.putObj D (.deferred none)):=(dJ W5 D _).mono (fun k _ hk=>by subst hk;exact⟨hUD,.inr hD⟩)
  refine wpIn_ret ?_
  refine kS ?_
  refine iq hdef (results_none rfl _ _ _) ?_
  rcases h2 with ⟨_,h2⟩ | ⟨j,hj,hjl,h2⟩
  ·exact⟨⟨_,rfl⟩,.inl ⟨jf UW by1 U,frm J hJ _ _ _ _ _ h2 h4 hmD hus (fun k hk => .inl hk),hbd⟩⟩
  ·exact⟨⟨_,rfl⟩,.inr ⟨j,jf UW by1 U,hjl,frm Jx hJx _ _ _ _ _ h2 h4 hmD hus (fun k hk => .inl hk),hbd⟩⟩
open Go.Gl Go.RowKit
def CJ (w:World) (g:Nat) (vo:Value) (R:List PV) (xs ts:List UInt8) (m bf bt:Nat) (fv tv:Value) (w':World):Prop :=
 lJ w' g vo R m bf bt fv tv xs ts∧ae ai w w'∧w.heap.size≤m∧w.heap.size≤bf∧w.heap.size≤bt∧aF w fv∧aF w tv
theorem zF {w:World}{g:Nat}{vo fv tv:Value}{R:List PV}{xs ts:List UInt8} (hm:PM w g vo R) (hf:Rd w fv xs) (ht:Rd w tv ts) (lx:xs.length≤1000000) (lt:ts.length≤1000000) :
  Calls Tryz.prog 91 #[.pointer (some ⟨g,0,none⟩),fv,tv] w fun e w'=>∃ m bf bt fv' tv',e = .returned (.func (.func 159) #[] #[.pointer (some ⟨m,0,none⟩),.pointer (some ⟨bf,0,none⟩),.pointer (some ⟨bt,0,none⟩)])∧CJ w g vo R xs ts m bf bt fv' tv' w':=by
 obtain⟨a1,c1,rfl,_⟩:=hf.form
 obtain⟨a2,c2,rfl,_⟩:=ht.form
 have HM:=lh hm
 have HF:=lh hf
 have HT:=lh ht
 have hgl:=lt_of_heap hm.hg
 clear hm hf ht
 go_enter Tryz.func91,Tryz.ntmps91
 go_upto_region 1 with fail
 have h1:=aU w (.cells #[.pointer (some ⟨g,0,none⟩)] 129)
 have h2:=aU (w.alloc (.cells #[.pointer (some ⟨g,0,none⟩)] 129)) (.cells #[.slice a1 xs.length c1] 91)
 have h3:=aU ((w.alloc (.cells #[.pointer (some ⟨g,0,none⟩)] 129)).alloc (.cells #[.slice a1 xs.length c1] 91)) (.cells #[.slice a2 ts.length c2] 91)
 have h1':=dA (dA h1 (.cells #[.slice a1 xs.length c1] 91)) (.cells #[.slice a2 ts.length c2] 91)
 have h2':=dA h2 (.cells #[.slice a2 ts.length c2] 91)
 have m1:=(((ae.refl ai w).alloc (.cells #[.pointer (some ⟨g,0,none⟩)] 129)).alloc (.cells #[.slice a1 xs.length c1] 91)).alloc (.cells #[.slice a2 ts.length c2] 91)
 simp only [World.size_alloc] at h2 h3 h1' h2'
 generalize World.alloc (World.alloc (World.alloc w _) _) _=w1 at *
 refine gy (d := .region 1 (aJ 1 Tryz.f91) true) (by kernel_rfl) ?_
 refine RW.wp (wkOwn h2' h3 (by omega) (HF.out.keep m1 (fun _ _ x=>x)) (HT.out.keep m1 (fun _ _ x=>x)) (by omega) (by omega) ?_)
 intros
 rename_i d1 d2 w2 e1 e2 o1 o2 f1 f2 m2
 have hs1:w.heap.size≤w1.heap.size:=m1.size
 have hw1:w.heap.size+2<w1.heap.size:=lt_of_heap h3
 have pm:PM w2 g vo R:=(HM.out.keep0 m1).keep m2 (fun k hk e=>by have:=HM.out.lt k hk;omega) (fun k hk e=>by have:=HM.out.dlt k hk;omega)
 have hm3:=m2.heap h1' (fun e=>by omega)
 have m12:ae ai w w2:=m1.trans m2 (fun _ _ x=>x) (fun i hi e=>by omega)
 have RES:=lh (show CJ w g vo R xs ts w.heap.size (w.heap.size+1) (w.heap.size+1+1) d1 d2 w2 from⟨⟨⟨pm,⟨_,hm3⟩,⟨_,e1⟩,o1⟩,⟨_,e2⟩,o2⟩,m12,Nat.le_refl _,by omega,by omega,f1.of hs1,f2.of hs1⟩)
 clear h1 h2 h3 h1' h2' m1 m2 e1 e2 o1 o2 f1 f2 pm hm3 m12
 go_wp2
 go_ret
 exact⟨_,_,_,_,_,rfl,RES.out⟩
open Go.Gl Go.RowKit
open Go.Gl Go.RowKit
open Go.Gl
theorem Ea (R:List PV) (p i:Nat):ents (rest R p i)=((aH R).drop p).flatten.drop i:=by
 unfold rest ents aH
 rw [List.map_drop,List.map_flatMap,List.flatMap_def,List.map_drop]
 rfl
theorem Gu {R:List PV} (ok:gu (aH R)) (xs:List UInt8):ents (jF R xs)=(aH R).flatten.filter (fun e => !aB e.1 xs):=by
 unfold jF
 rw [Ea]
 by_cases hne:aH R=[]
 ·rw [hne];simp
 obtain⟨A,l,C,i,h⟩:=lies ok hne xs
 rw [h.fst,h.snd,h.flat]
 rw [List.filter_append,gI (l:=A.flatten ++ l.take i) (fun e he=>by rcases List.mem_append.1 he with he | he;rw [h.lo e he];rfl;rw [h.plo e he];rfl),List.nil_append,
  filter_all (l:=l.drop i ++ C.flatten) (fun e he=>by rcases List.mem_append.1 he with he | he;rw [h.phi e he];rfl;rw [jY (h.hi e he)];rfl)]
 rw [h.eq,List.append_assoc A,List.drop_left' rfl,List.flatten_append,List.flatten_singleton,List.drop_append_of_le_length h.il]
theorem AU (p:aN→Bool):∀ L:List EV,ents (L.takeWhile (fun e=>p (e.k,e.v)))=(ents L).takeWhile p
  | []=>rfl
  | e :: L => by
    have ih:=AU p L
    unfold ents at ih ⊢
    rw [List.takeWhile_cons,List.map_cons,List.takeWhile_cons]
    cases hp:p (e.k,e.v) with
    | true=>rw [show p e.ent=true from hp];simp only [if_true];rw [List.map_cons,ih]
    | false=>rw [show p e.ent=false from hp];rfl
def btw (xs ts:List UInt8) (e:aN):Bool := !aB e.1 xs && (ts.isEmpty || aB e.1 ts)
theorem Am {R:List PV} (ok:gu (aH R)) (xs ts:List UInt8):ents (jO R xs ts)=(aH R).flatten.filter (btw xs ts):=by
  have h1:jO R xs ts=(jF R xs).takeWhile (fun e=>(fun x:aN=>ts.isEmpty || aB x.1 ts) (e.k,e.v)):=rfl
  rw [h1,AU (fun x:aN=>ts.isEmpty || aB x.1 ts),Gu ok]
  have hr:fM ((aH R).flatten.filter (fun e => !aB e.1 xs)):=List.Pairwise.filter _ ok.ris
  have h2:((aH R).flatten.filter (fun e => !aB e.1 xs)).takeWhile (fun x=>ts.isEmpty || aB x.1 ts)=((aH R).flatten.filter (fun e => !aB e.1 xs)).filter (fun x=>ts.isEmpty || aB x.1 ts):=by
    cases ts with
    | nil =>
      simp only [List.isEmpty_nil,Bool.true_or]
      rw [List.filter_eq_self.2 (fun _ _=>rfl)]
      generalize List.filter _ _=l
      induction l with
      | nil=>rfl
      | cons a l ih=>rw [List.takeWhile_cons_of_pos rfl,ih]
    | cons a b =>
      simp only [List.isEmpty_cons,Bool.false_or]
      exact (hr.split _).1
  rw [h2,List.filter_filter]
  congr 1
  funext e
  exact Bool.and_comm _ _
theorem zY {R:List PV} (ok:gu (aH R)):ents (jO R [] [])=(aH R).flatten:=by
 rw [Am ok]
 refine filter_all (fun e _=>?_)
 have:aB e.1 []=false:=by cases e.1 <;> rfl
 unfold btw
 rw [this]
 rfl
open Go.Gl Go.RowKit
structure rZ (w wr:World) (g:Nat) (lv wv:Value) (L:List EV) (H:List SV) (n:Nat) (vo:Value) (M:List EV):Prop where
 rs:lw wr g lv wv L H ((n+1+M.length:Nat):Int)
 row:aO wr 152 2 vo M.length (bZ M)
 fr:aF w vo
 mods:ae (kW g wv) w wr
theorem rZ.then0 {w wr w2:World}{g:Nat}{lv wv vo:Value}{L M:List EV}{H:List SV}{n:Nat} (h:rZ w wr g lv wv L H n vo M) (m:ae ai wr w2):rZ w w2 g lv wv L H n vo M:=⟨h.rs.keep0 m,h.row.keep m (fun _ _ x=>x),h.fr,h.mods.then0 m⟩
theorem rZ.push {w wr w2:World}{g:Nat}{lv wv vo v8:Value}{L M:List EV}{H:List SV}{n:Nat}{e:EV} (h:rZ w wr g lv wv L H n vo M) (h0:∀ k,kW g wv k→k<w.heap.size) (h1:∀ k,oV lv L H k→k<w.heap.size) (o:aO w2 152 2 v8 (M.length+1) (bZ M ++ [e.kv,e.vv])) (m:ae (dC vo) wr w2) (f:v8.ownBlock=vo.ownBlock∨aF wr v8) :
  rZ w (w2.setCell ⟨g,2,none⟩ (.int .i64 ((n+1+(M.length+1):Nat):Int))) g lv wv L H n v8 (M ++ [e])∧lw w2 g lv wv L H ((n+1+M.length:Nat):Int):=by
 have r2:=h.rs.keep m (fun k hk x=>by have:=h.fr k x;have:=h0 k hk;omega) (fun k hk x=>by have:=h.fr k x;have:=h1 k hk;omega)
 have f8:aF w v8:=fun k hk=>f.elim (fun f=>h.fr k (f▸hk)) (fun f=>Nat.le_trans h.mods.size (f k hk))
 obtain⟨t,mt⟩:=r2.tick ((n+1+(M.length+1):Nat):Int)
 refine⟨⟨?_,?_,f8,(h.mods.trans m (fun _ _ x=>x) (fun k hk x=>by have:=h.fr k x;omega)).trans mt (fun _ _ x=>x) (fun k _ x => .inl x)⟩,r2⟩
 ·rw [List.length_append,List.length_singleton];exact t
 ·rw [List.length_append,List.length_singleton,iw]
  exact o.keep mt (fun k hk x=>by have:=f8 k hk;have:=h0 k (.inl x);omega)
theorem Eo {P:EV→Bool}{L M:List EV}{i N:Nat} (hM:M=(L.take i).filter P) (h:i=L.length∧M.length≤N∨M.length=N):M=(L.filter P).take N:=by
 rcases h with ⟨rfl,h⟩ | h
 ·rw [List.take_length] at hM
  rw [← hM,List.take_of_length_le h]
 ·conv=>rhs;rw [← List.take_append_drop i L,List.filter_append,← hM]
  rw [← h,List.take_left]
theorem Ej {P:EV→Bool}{L:List EV}{i:Nat} (h:i<L.length):(L.take (i+1)).filter P=(L.take i).filter P ++ (if P L[i] then [L[i]] else []):=by
 rw [List.take_add_one,List.getElem?_eq_getElem h,List.filter_append]
 congr 1
 simp only [Option.toList,List.filter_cons,List.filter_nil]
theorem Gn (P:aN→Bool) (L:List EV):(L.filter (fun e=>P (e.k,e.v))).map EV.ent=(L.map EV.ent).filter P:=by
 rw [List.filter_map];rfl
def Wk6 (w w':World) (g:Nat) (F:List aN) (Ws:List (List aN)) (n:Nat) (S D:Nat→Prop) (P:aN→Bool) (N:Nat) (v':Value):Prop :=
 ∃ M,iU w' v' M∧M.map EV.ent=(F.filter P).take N∧aF w v'∧(∀ k,v'.ownBlock=some k→k<w'.heap.size)∧(∀ k,kV M k→D k)∧kT w' g F Ws (n+1+min N (F.filter P).length) S D∧ae S w w'
theorem IA {w wr:World}{g:Nat}{lv wv vo:Value}{L M:List EV}{H:List SV}{n N:Nat}{F:List aN}{Ws:List (List aN)}{P:aN→Bool} (h:rZ w wr g lv wv L H n vo M) (hM:M=(L.filter (fun e=>P (e.k,e.v))).take N) (hr:fM F) (hf:L.map EV.ent=F) (hw:(H.map (fun h=>h.es.map EV.ent)).reverse=Ws) (ho:∀ G∈Ws,fM G):Wk6 w wr g F Ws n (kW g wv) (oV lv L H) P N vo:=by
 have hsub:∀ e∈M,e∈L:=fun e he=>by rw [hM] at he;exact (List.mem_filter.1 (List.mem_of_mem_take he)).1
 have hme:M.map EV.ent=(F.filter P).take N:=by rw [hM,List.map_take,Gn,hf]
 have hl:M.length=min N (F.filter P).length:=by have:=congrArg List.length hme;rwa [List.length_map,List.length_take] at this
 refine⟨M,⟨h.row.rd,fun e he=>h.rs.pr.own e (hsub e he)⟩,hme,h.fr,h.row.lt,fun k hk => .inl (.inr (tX hk hsub)),⟨lv,wv,L,H,?_,hr,hf,hw,ho,rfl,rfl⟩,h.mods⟩
 rw [← hl]
 exact h.rs
theorem Cb {w:World}{x y:Value}{xs ys:List UInt8} (hx:Rd w x xs) (hy:Rd w y ys):Calls Tryz.prog 232 #[x,y] w fun e w'=>e = .returned (.bool (bF ys xs))∧Quiet w w':=by
 obtain⟨a1,c1,rfl,l1⟩:=hx.form
 obtain⟨a2,c2,rfl,l2⟩:=hy.form
 by_cases hl:ys.length≤xs.length
 ·have hr:=fZ.hi (s:=1) (m:=ys.length) (show fZ w 1 (.slice a1 xs.length c1) xs.length (bv xs) from hx) hl
  have ht:Rd w (.slice a1 ys.length c1) (xs.take ys.length):=by
   have h1:(bv xs).take (ys.length*1)=bv (xs.take ys.length):=by simp [bv,List.map_take]
   have h2:=hr
   rw [h1] at h2
   have h3:(xs.take ys.length).length=ys.length:=by rw [List.length_take];omega
   unfold Rd
   rw [h3]
   exact h2
  have hcap:=fZ.cap (show fZ w 1 (.slice a1 xs.length c1) xs.length (bv xs) from hx)
  have PB:=lh (qj ht hy)
  have hbg:bF ys xs=decide (xs.take ys.length=ys):=rfl
  rw [hbg]
  have z:(ys.length:Int)≤(xs.length:Int):=by omega
  generalize decide (xs.take ys.length=ys)=bb at *
  clear hx hy hr ht hbg
  generalize xs.length=lx at *
  generalize ys.length=ly at *
  go_enter Tryz.func232,Tryz.ntmps232
  go_wp2_with fail
  refine PB.out.mono ?_
  rintro e w2 ⟨rfl,q2⟩
  go_wp2
  go_ret
  exact⟨rfl,q2⟩
 ·have hb:bF ys xs=false:=by
   unfold bF
   refine decide_eq_false (fun h=>?_)
   have:=congrArg List.length h
   rw [List.length_take] at this
   omega
  rw [hb]
  have z:¬ (ys.length:Int)≤(xs.length:Int):=by omega
  clear hx hy hb
  generalize xs.length=lx at *
  generalize ys.length=ly at *
  go_enter Tryz.func232,Tryz.ntmps232
  go_wp2
  go_ret
  exact⟨rfl,⟨0,rfl⟩⟩
section
variable {w:World}{g n:Nat}{F:List aN}{Ws:List (List aN)}{S D:Nat→Prop}
theorem Fj {fv:Value}{xs:List UInt8}{N:Nat} (h:kT w g F Ws n S D) (hq:Rd w fv xs) (hqs:Off S fv xs) (hn:n≤1000000000000) (hF:F.length≤100000) (hN:N≤4611686018427387904) :
    Calls Tryz.prog 170 #[.pointer (some ⟨g,0,none⟩),fv,.int .i64 (N:Nat)] w fun e w'=>∃ v',e = .returned v'∧Wk6 w w' g F Ws n S D (fun e=>bF xs e.1) N v':=by
  obtain⟨lv,wv,L,H,rs,hr,hf,hw,ho,rfl,rfl⟩:=h
  have HLF:=lh (wG hf)
  have hF':L.length≤100000:=by have:=HLF.out;omega
  clear hF
  have SLT:=lh rs.lt
  have DLT:=lh rs.dlt
  obtain⟨t1,m1⟩:=rs.tick ((n:Int)+1)
  have M1:=lh (m1.mono (T:=kW g wv) (fun k _ e => .inl e))
  have T1:=lh (show rZ w _ g lv wv L H n (.slice none 0 0) [] from⟨by rw [List.length_nil,Nat.add_zero,Int.natCast_succ];exact t1,⟨rfl,.inl ⟨rfl,rfl⟩⟩,fun k hk=>by simp [Value.ownBlock] at hk,M1.out⟩)
  have HQ:=lh (fun W (m:ae (kW g wv) w W)=>hqs.keep hq m)
  have HAT:=lh rs.pr.at
  have ONE:=lh (uK rs.pr)
  have c2:=rs.cells.2.2.1
  have f2:=rs.cells.2.2.2 2
  have HRR:=lh (And.intro hr (And.intro hf (And.intro hw ho)))
  obtain⟨aq,cq,rfl,_⟩:=hq.form
  obtain⟨la,lc,rfl,_⟩:=rs.pr.row.form
  obtain⟨lx,hlx⟩:∃ lx,xs.length=lx:=⟨_,rfl⟩
  rw [hlx] at HQ
  rw [hlx]
  obtain⟨nl,hnl⟩:∃ nl,L.length=nl:=⟨_,rfl⟩
  have HNL:=lh hnl
  rw [hnl] at hF'
  clear rs t1 m1 hqs hq hr hf hw ho hlx hnl M1
  have hnn:n+1≤2000000000000:=by omega
  go_enter Tryz.func170,Tryz.ntmps170
  go_wp2
  go_loopw [7,8] (fun y x wr=>∃ i m:Nat,i≤nl∧m≤i∧m≤N∧x = .int .i64 i∧(∃ a c,y = .slice a m c)∧Hid (∃ M,rZ w wr g (.slice la L.length lc) wv L H n y M∧M=(L.take i).filter (fun e=>bF xs e.k)∧M.length=m)) (fun _ x _=>nl - (intOf x).toNat)
  case atStart=>exact⟨0,0,Nat.zero_le _,Nat.le_refl _,Nat.zero_le _,rfl,⟨_,_,rfl⟩,lh ⟨[],T1.out,rfl,rfl⟩⟩
  case round =>
    clear T1 c2 f2
    obtain⟨i,m,hi,hmi,hmN,rfl,⟨ao,co,rfl⟩,hI⟩:=hrel
    have STOP:=lh (fun (hs:i=nl∨m=N)=>show Wk6 w wr g F Ws n (kW g wv) (oV (.slice la L.length lc) L H) (fun e=>bF xs e.1) N _ from by
      obtain⟨M,hw6,hM,hm⟩:=hI.out
      obtain⟨hr,hf,hw,ho⟩:=HRR.out
      refine IA hw6 (Eo hM ?_) hr hf hw ho
      rcases hs with rfl | hs
      · exact .inl ⟨HNL.out.symm,by omega⟩
      · exact .inr (by omega))
    have C0:wr.cell? ⟨g,0,none⟩=some (.slice la nl lc):=by obtain⟨M,hw6,_⟩:=hI.out;have:=hw6.rs.cells.1;rwa [HNL.out] at this
    by_cases hin:i<nl
    · have hii:(i:Int)<(nl:Int):=by omega
      by_cases hmn:m<N
      · have hmm:(m:Int)<(N:Int):=by omega
        obtain⟨M,hw6,hM,hm⟩:=hI.out
        have hil:i<L.length:=by rw [HNL.out];exact hin
        obtain⟨a1,c1,e1,hat⟩:=HAT.out
        obtain⟨b,off,rfl,hb,d1,d2⟩:=hat i hil
        injection e1 with e1 _ e3
        subst e1 e3
        have hdb:oV (.slice (some ⟨b,off,none⟩) L.length lc) L H b := .inl (.inl rfl)
        have D1:=lh ((hw6.mods.cellAt hb (fun x=>hw6.rs.data b hdb x) _).trans d1)
        have D2:=lh ((hw6.mods.cellAt hb (fun x=>hw6.rs.data b hdb x) _).trans d2)
        have RK:=(hw6.rs.pr.own _ (List.getElem_mem hil)).1
        obtain⟨u1,u2⟩:=ONE.out _ (List.getElem_mem hil)
        have FS:=lh (Ej (P:=fun e=>bF xs e.k) hil)
        rw [← hM] at FS
        have HW6:=lh hw6
        have HMl:=lh hm
        have HX:=HQ.out wr hw6.mods
        have L1:=lh (Cb RK HX)
        obtain⟨ka,kc,ek,_⟩:=RK.form
        have C2:=lh hw6.rs.cells.2.2.1
        clear hat RK hw6 hM hm hI hdb HX d1 d2
        generalize L[i]=e at *
        obtain⟨kv,vv,sk,sv⟩:=e
        simp only at D1 D2 u1 u2 FS L1 ek
        subst ek
        have d1:=D1.out
        generalize sk.length=lk at *
        have NO:bF xs sk=false→∀ W,Quiet wr W→Hid (∃ M,rZ w W g (.slice (some ⟨b,off,none⟩) L.length lc) wv L H n (.slice ao m co) M∧M=(L.take (i+1)).filter (fun e=>bF xs e.k)∧M.length=m):=fun hb W q=>lh ⟨M,HW6.out.then0 (q.mods ai),by rw [FS.out];simp [hb],HMl.out⟩
        have NN:=lh NO
        have YES:bF xs sk=true→∀ W v8 w2,Quiet wr W→aO w2 152 2 v8 (m+1) (bZ M ++ [.slice ka lk kc,vv])→ae (dC (.slice ao m co)) W w2→(v8.ownBlock=(Value.slice ao m co).ownBlock∨aF W v8)→Hid ((∀ z:Int,z=((n+1+(m+1):Nat):Int)→∃ M,rZ w (w2.setCell ⟨g,2,none⟩ (.int .i64 z)) g (.slice (some ⟨b,off,none⟩) L.length lc) wv L H n v8 M∧M=(L.take (i+1)).filter (fun e=>bF xs e.k)∧M.length=m+1)∧(∃ a c,v8 = .slice a (m+1) c)∧w2.cell? ⟨g,2,none⟩=some (.int .i64 ((n+1+m:Nat):Int))∧w2.frozen? ⟨g,2,none⟩=false):=fun hb W v8 w2 q o mm f=>by
          have hml:=HMl.out
          subst hml
          obtain⟨p1,p2⟩:=(HW6.out.then0 (q.mods ai)).push (e:=⟨.slice ka lk kc,vv,sk,sv⟩) SLT.out DLT.out o mm f
          obtain⟨a,c,e8,_⟩:=o.rd.form
          exact lh ⟨fun z hz=>⟨M ++ [⟨.slice ka lk kc,vv,sk,sv⟩],by rw [hz];exact p1,by rw [FS.out];simp [hb],by rw [List.length_append];rfl⟩,⟨a,c,e8⟩,p2.cells.2.2.1,p2.cells.2.2.2 2⟩
        have YY:=lh YES
        clear NO YES FS STOP
        have HG:=lh HW6.out.rs.hg
        have hbr:b<wr.heap.size:=Nat.lt_of_lt_of_le hb HW6.out.mods.size
        have ROW:=lh (show aO wr 152 2 (.slice ao m co) m (bZ M) from by have:=HW6.out.row;rwa [HMl.out] at this)
        clear HW6 HMl
        obtain⟨b1,hb1⟩:∃ b1,bF xs sk=b1:=⟨_,rfl⟩
        rw [hb1] at L1
        go_wp2_with fail
        refine L1.out.mono ?_
        rintro e w2 ⟨rfl,q2⟩
        have qq:=lh q2
        clear q2
        cases b1 with
        | false =>
          have hb:=hb1
          clear hb1
          have N1:=NN.out hb _ qq.out
          clear YY NN L1 d1 D1 D2 ROW C0 C2 qq
          go_wp2
          go_roundw
          case rel=>exact⟨i+1,m,by omega,by omega,by omega,by go_num,⟨_,_,rfl⟩,N1⟩
          case measure=>simp [intOf];omega
        | true =>
          have hb:=hb1
          clear hb1
          have ROW2:=lh (ROW.out.keep (qq.out.mods ai) (fun _ _ x=>x))
          have E0:=lh (((qq.out.mods ai).cellAt (lt_of_heap HG.out) (fun x=>x) _).trans C0)
          have E1:=lh (((qq.out.mods ai).cellAt hbr (fun x=>x) _).trans D1.out)
          have E2:=lh (((qq.out.mods ai).cellAt hbr (fun x=>x) _).trans D2.out)
          clear d1 D1 D2 ROW C0 NN L1
          go_upto_region 7 with fail
          refine gy (d := .region 7 (aJ 7 Tryz.f170) false) (by kernel_rfl) ?_
          refine RW.wp (r6px7 E0.out E1.out E2.out ROW2.out u1 u2 hin (by omega) (by omega) ?_)
          intros
          rename_i v9 w9 o9 m9 f9
          obtain⟨y1,⟨a9,c9,rfl⟩,y3,y4⟩:=(YY.out hb _ _ _ qq.out o9 m9 f9).out
          have Y1:=lh y1
          clear y1 o9 m9 f9 YY qq ROW2 E0 E1 E2 C2
          go_wp2
          go_roundw
          case rel=>exact⟨i+1,m+1,by omega,by omega,by omega,by go_num,⟨_,_,rfl⟩,lh (Y1.out _ (by omega))⟩
          case measure=>simp [intOf];omega
      · have hmm:¬ (m:Int)<(N:Int):=by omega
        clear hI
        have SS:=STOP.out (.inr (by omega))
        go_wp2
        go_ret
        exact⟨_,rfl,SS⟩
    · have hii:¬ (i:Int)<(nl:Int):=by omega
      clear hI
      have SS:=STOP.out (.inl (by omega))
      go_wp2
      go_ret
      exact⟨_,rfl,SS⟩
end
open Go.Gl Go.RowKit
theorem kci0 {w:World}{l:Nat}{x1 x2 x3 x4 x5 x6 x7 x8 x9 aW bn bi aZ aP aQ aS aT aX aY bD bC:Value}{df:List Deferred}{Q:Exit→Act→World→Prop}
  (hK:∀ (bq:Nat) (w':World),bq=w.heap.size→w'.heap[bq]?=some (.cells #[.func (.yield l) #[] #[]] 150 (0,0))→ae ai w w'→Q .normal ⟨#[.func (.yield l) #[] #[],x1,x2,.pointer (some ⟨bq,0,none⟩),x4,x5,x6,x7,x8,x9,aW,bn,bi,aZ,aP,aQ,aS,aT,aX,aY,bD,bC],df⟩ w'):RW Tryz.prog (aJ 0 Tryz.f244) false Q ⟨#[.func (.yield l) #[] #[],x1,x2,x3,x4,x5,x6,x7,x8,x9,aW,bn,bi,aZ,aP,aQ,aS,aT,aX,aY,bD,bC],df⟩ w:=by
 have HQ:=lh hK
 clear hK
 refine bU [(0,false)] (by kernel_rfl) ?_
 refine fG (.cells #[.func (.yield l) #[] #[]] 150) (some 3) (ki (by kernel_rfl)) (by kernel_rfl) ?_
 intro k1 w_k1 hk_k1 hO_k1 hm_k1 hl_k1
 refine⟨fun _=>trivial,?_⟩
 exact aA (bg (K:=Q .normal) (by kernel_rfl) (HQ.out  k1 w_k1 hk_k1 hO_k1 hm_k1))
section
variable {x0 x1 x2 x3 x4 x5 x6 x7 x8 x9 aW bn bi aZ aP aQ aS aT aX aY bD bC bG bH bJ:Value}{df:List Deferred}{Q:Exit→Act→World→Prop}
theorem kc1 {w:World}{bs sg:Nat}{X:World→Prop} (c1:w.cell? ⟨bs,0,none⟩=some (.pointer (some ⟨sg,0,none⟩))) (hC:Calls Tryz.prog 149 #[.pointer (some ⟨sg,2,none⟩),.int .i64 1] w fun e w'=>∃ v,e = .returned v∧X w')
  (hK:∀ (y6 y7 y8 y9:Value)  (w':World),X w'→Q .normal ⟨#[x0,.pointer (some ⟨bs,0,none⟩),x2,x3,x4,x5,y6,y7,y8,y9,aW,bn,bi,aZ,aP,aQ,aS,aT,aX,aY,bD,bC],df⟩ w'):RW Tryz.prog (aJ 1 Tryz.f244) false Q ⟨#[x0,.pointer (some ⟨bs,0,none⟩),x2,x3,x4,x5,x6,x7,x8,x9,aW,bn,bi,aZ,aP,aQ,aS,aT,aX,aY,bD,bC],df⟩ w:=by
 have HQ:=lh hK
 clear hK
 refine bU [(0,false),(1,false),(2,false),(3,false)] (by kernel_rfl) ?_
 refine aC (af sg 0) _ (some 6) (ki (by kernel_rfl)) (aG (x:=(.tmp 1)) (by kernel_rfl) (by kernel_rfl) (aI ((fun _=>c1) (trivial)) Tryz.underlying26 rfl)) (fun _=>trivial) ?_
 refine az [1,2] [af sg 0,af sg 2] rfl (by kernel_rfl) (by kernel_rfl) (.inr trivial) ?_
 refine bu (some 9) (ki (by kernel_rfl)) hC (fun _=>by kernel_rfl) ?_
 rintro r w7 ⟨v7,rfl,hh⟩
 refine⟨_,rfl,fun _=>trivial,?_⟩
 exact aA (bg (K:=Q .normal) (by kernel_rfl) (HQ.out (af sg 0) (af sg 0) (af sg 2) (v7) w7 hh))
theorem kc2 {w:World}{bw gf:Nat}{lb:Array Value} (c1:w.cell? ⟨bw,0,none⟩=some (.func (.func gf) #[] lb))
  (hK:∀  (w':World),w'=w→Q .normal ⟨#[x0,x1,.pointer (some ⟨bw,0,none⟩),x3,x4,x5,x6,x7,x8,x9,.func (.func gf) #[] lb,bn,bi,aZ,aP,aQ,aS,aT,aX,aY,bD,bC],df⟩ w'):RW Tryz.prog (aJ 2 Tryz.f244) false Q ⟨#[x0,x1,.pointer (some ⟨bw,0,none⟩),x3,x4,x5,x6,x7,x8,x9,aW,bn,bi,aZ,aP,aQ,aS,aT,aX,aY,bD,bC],df⟩ w:=by
 have HQ:=lh hK
 clear hK
 refine bU [(0,false)] (by kernel_rfl) ?_
 refine aC (.func (.func gf) #[] lb) _ (some 10) (ki (by kernel_rfl)) (aG (x:=(.tmp 2)) (by kernel_rfl) (by kernel_rfl) (aI ((fun _=>c1) (trivial)) Tryz.underlying154 rfl)) (fun _=>trivial) ?_
 exact aA (bg (K:=Q .normal) (by kernel_rfl) (HQ.out  _ rfl))
theorem kc3 {w:World}{u:Value}{x0 x1 x2 x3 x4 x5 x6 x7 x8 x9 aW bi aZ aP aQ aS aT aX aY bD bC:Value}{df:List Deferred}{Q:Exit→Act→World→Prop}
  (hK:∀  (w':World),w'=w→Q .normal ⟨#[x0,x1,x2,x3,u,x5,x6,x7,x8,x9,aW,u,bi,aZ,aP,aQ,aS,aT,aX,aY,bD,bC],df⟩ w'):RW Tryz.prog (aJ 3 Tryz.f244) false Q ⟨#[x0,x1,x2,x3,x4,x5,x6,x7,x8,x9,aW,u,bi,aZ,aP,aQ,aS,aT,aX,aY,bD,bC],df⟩ w:=by
 have HQ:=lh hK
 clear hK
 refine bU [(0,false)] (by kernel_rfl) ?_
 refine az [0] [u] rfl (by kernel_rfl) (by kernel_rfl) (.inr trivial) ?_
 exact aA (bg (K:=Q .normal) (by kernel_rfl) (HQ.out  _ rfl))
theorem kc4 {w:World}{u:Value}{x0 x1 x2 x3 x4 x5 x6 x7 x8 x9 aW bn aZ aP aQ aS aT aX aY bD bC:Value}{df:List Deferred}{Q:Exit→Act→World→Prop}
  (hK:∀  (w':World),w'=w→Q .normal ⟨#[x0,x1,x2,x3,x4,u,x6,x7,x8,x9,aW,bn,u,aZ,aP,aQ,aS,aT,aX,aY,bD,bC],df⟩ w'):RW Tryz.prog (aJ 4 Tryz.f244) false Q ⟨#[x0,x1,x2,x3,x4,x5,x6,x7,x8,x9,aW,bn,u,aZ,aP,aQ,aS,aT,aX,aY,bD,bC],df⟩ w:=by
 have HQ:=lh hK
 clear hK
 refine bU [(0,false)] (by kernel_rfl) ?_
 refine az [0] [u] rfl (by kernel_rfl) (by kernel_rfl) (.inr trivial) ?_
 exact aA (bg (K:=Q .normal) (by kernel_rfl) (HQ.out  _ rfl))
theorem kc5 {w:World}{bs sg:Nat}{X:World→Prop} (c1:w.cell? ⟨bs,0,none⟩=some (.pointer (some ⟨sg,0,none⟩))) (hC:Calls Tryz.prog 149 #[.pointer (some ⟨sg,2,none⟩),.int .i64 1] w fun e w'=>∃ v,e = .returned v∧X w')
  (hK:∀ (kF jB jR jS:Value)  (w':World),X w'→Q .normal ⟨#[x0,.pointer (some ⟨bs,0,none⟩),x2,x3,x4,x5,x6,x7,x8,x9,aW,bn,bi,kF,jB,jR,jS,aT,aX,aY,bD,bC],df⟩ w'):RW Tryz.prog (aJ 5 Tryz.f244) false Q ⟨#[x0,.pointer (some ⟨bs,0,none⟩),x2,x3,x4,x5,x6,x7,x8,x9,aW,bn,bi,aZ,aP,aQ,aS,aT,aX,aY,bD,bC],df⟩ w:=by
 have HQ:=lh hK
 clear hK
 refine bU [(0,false),(1,false),(2,false),(3,false)] (by kernel_rfl) ?_
 refine aC (af sg 0) _ (some 13) (ki (by kernel_rfl)) (aG (x:=(.tmp 1)) (by kernel_rfl) (by kernel_rfl) (aI ((fun _=>c1) (trivial)) Tryz.underlying26 rfl)) (fun _=>trivial) ?_
 refine az [1,2] [af sg 0,af sg 2] rfl (by kernel_rfl) (by kernel_rfl) (.inr trivial) ?_
 refine bu (some 16) (ki (by kernel_rfl)) hC (fun _=>by kernel_rfl) ?_
 rintro r w7 ⟨v7,rfl,hh⟩
 refine⟨_,rfl,fun _=>trivial,?_⟩
 exact aA (bg (K:=Q .normal) (by kernel_rfl) (HQ.out (af sg 0) (af sg 0) (af sg 2) (v7) w7 hh))
theorem kc6 {w:World}{by1 l:Nat}{u v:Value} (c1:w.cell? ⟨by1,0,none⟩=some (.func (.yield l) #[] #[]))
  (hK:∀  (w':World),w'=w→Q .normal ⟨#[x0,x1,x2,.pointer (some ⟨by1,0,none⟩),u,v,x6,x7,x8,x9,aW,bn,bi,aZ,aP,aQ,aS,.func (.yield l) #[] #[],u,v,bD,bC],df⟩ w'):RW Tryz.prog ((aJ 6 Tryz.f244).toList.take 3).toArray false Q ⟨#[x0,x1,x2,.pointer (some ⟨by1,0,none⟩),u,v,x6,x7,x8,x9,aW,bn,bi,aZ,aP,aQ,aS,aT,aX,aY,bD,bC],df⟩ w:=by
 have HQ:=lh hK
 clear hK
 refine bU [(0,false),(1,false),(2,false)] (by kernel_rfl) ?_
 refine aC (.func (.yield l) #[] #[]) _ (some 17) (ki (by kernel_rfl)) (aG (x:=(.tmp 3)) (by kernel_rfl) (by kernel_rfl) (aI ((fun _=>c1) (trivial)) Tryz.underlying150 rfl)) (fun _=>trivial) ?_
 refine az [1,2] [u,v] rfl (by kernel_rfl) (by kernel_rfl) (.inr trivial) ?_
 exact aA (bg (K:=Q .normal) (by kernel_rfl) (HQ.out  _ rfl))
theorem kp0 {w:World}{l:Nat}{x1 x2 x3 x4 x5 x6 x7 x8 x9 aW bn bi aZ aP aQ aS aT aX aY bD bC bG bH bJ:Value}{df:List Deferred}{Q:Exit→Act→World→Prop}
  (hK:∀ (bq:Nat) (w':World),bq=w.heap.size→w'.heap[bq]?=some (.cells #[.func (.yield l) #[] #[]] 150 (0,0))→ae ai w w'→Q .normal ⟨#[.func (.yield l) #[] #[],x1,x2,.pointer (some ⟨bq,0,none⟩),x4,x5,x6,x7,x8,x9,aW,bn,bi,aZ,aP,aQ,aS,aT,aX,aY,bD,bC,bG,bH,bJ],df⟩ w'):RW Tryz.prog (aJ 0 Tryz.f193) false Q ⟨#[.func (.yield l) #[] #[],x1,x2,x3,x4,x5,x6,x7,x8,x9,aW,bn,bi,aZ,aP,aQ,aS,aT,aX,aY,bD,bC,bG,bH,bJ],df⟩ w:=by
 have HQ:=lh hK
 clear hK
 refine bU [(0,false)] (by kernel_rfl) ?_
 refine fG (.cells #[.func (.yield l) #[] #[]] 150) (some 3) (ki (by kernel_rfl)) (by kernel_rfl) ?_
 intro k1 w_k1 hk_k1 hO_k1 hm_k1 hl_k1
 refine⟨fun _=>trivial,?_⟩
 exact aA (bg (K:=Q .normal) (by kernel_rfl) (HQ.out  k1 w_k1 hk_k1 hO_k1 hm_k1))
theorem kp1 {w:World}{bs bp sg mg:Nat}{pv:Value}{X:Nat→Nat→Nat→World→Prop} (b1:w.heap[bs]?=some (.cells #[.pointer (some ⟨sg,0,none⟩)] 26 (0,0))) (b2:w.heap[bp]?=some (.cells #[pv] 91 (0,0))) (b3:w.cell? ⟨sg,0,none⟩=some (.pointer (some ⟨mg,0,none⟩))) (b4:sg<w.heap.size) (hC:∀ b',ae ai w b'→Calls Tryz.prog 91 #[.pointer (some ⟨mg,0,none⟩),pv,.slice none 0 0] b' fun e w'=>∃ m bf bt,e = .returned (.func (.func 159) #[] #[.pointer (some ⟨m,0,none⟩),.pointer (some ⟨bf,0,none⟩),.pointer (some ⟨bt,0,none⟩)])∧X m bf bt w')
  (hK:∀ (y6 y7 y8 y9 jQ:Value) (m bf bt:Nat) (w':World),X m bf bt w'→Q .normal ⟨#[x0,.pointer (some ⟨bs,0,none⟩),.pointer (some ⟨bp,0,none⟩),x3,x4,x5,y6,y7,y8,y9,jQ,.func (.func 159) #[] #[.pointer (some ⟨m,0,none⟩),.pointer (some ⟨bf,0,none⟩),.pointer (some ⟨bt,0,none⟩)],bi,aZ,aP,aQ,aS,aT,aX,aY,bD,bC,bG,bH,bJ],df⟩ w'):RW Tryz.prog (aJ 1 Tryz.f193) true Q ⟨#[x0,.pointer (some ⟨bs,0,none⟩),.pointer (some ⟨bp,0,none⟩),x3,x4,x5,x6,x7,x8,x9,aW,bn,bi,aZ,aP,aQ,aS,aT,aX,aY,bD,bC,bG,bH,bJ],df⟩ w:=by
 have HQ:=lh hK
 clear hK
 have HC:=lh hC
 have Q1:=lh (fun b' (hm:ae ai w b')=>ag (hm.heap b1 (fun x=>x)) 0)
 have Q2:=lh (fun b' (hm:ae ai w b')=>ag (hm.heap b2 (fun x=>x)) 0)
 have Q3:=lh (fun b' (hm:ae ai w b')=>(hm.cellAt b4 (fun x=>x) 0).trans b3)
 clear hC b1 b2 b3
 have MR:=lh ((ae.refl ai w).drew)
 refine lS (S:=fun b'=>ae ai w b') [(0,true),(1,true),(2,true),(3,true),(4,true),(5,false)] [5] (by kernel_rfl) (by kernel_rfl) (by kernel_rfl) (by kernel_rfl) MR.out ?_
 refine ah (af sg 0) (some 6) (ki (by kernel_rfl)) (fun bb hb=>aG (x:=(.tmp 1)) (by kernel_rfl) (by kernel_rfl) (aI (Q1.out _ hb) Tryz.underlying26 rfl)) ?_
 refine aj [1,2] [af sg 0,af sg 0] rfl (by kernel_rfl) (fun _=>by kernel_rfl) ?_
 refine ah (af mg 0) (some 9) (ki (by kernel_rfl)) (fun bb hb=>aG (x:=(.tmp 8)) (by kernel_rfl) (by kernel_rfl) (aI (Q3.out _ hb) Tryz.underlying129 rfl)) ?_
 refine ah (pv) (some 10) (ki (by kernel_rfl)) (fun bb hb=>aG (x:=(.tmp 2)) (by kernel_rfl) (by kernel_rfl) (aI (Q2.out _ hb) Tryz.underlying91 rfl)) ?_
 refine bu (some 11) (ki (by kernel_rfl)) (HC.out _ MR.out) (fun _=>by kernel_rfl) ?_
 rintro r w7 ⟨m,bf,bt,rfl,hx⟩
 refine⟨_,rfl,(fun h=>by cases h),?_⟩
 exact aA (bg (K:=Q .normal) (by kernel_rfl) (HQ.out (af sg 0) (af sg 0) (af sg 0) (af mg 0) (pv) m bf bt w7 hx))
theorem kp2 {w:World}{u:Value}{x0 x1 x2 x3 x4 x5 x6 x7 x8 x9 aW bn aZ aP aQ aS aT aX aY bD bC bG bH bJ:Value}{df:List Deferred}{Q:Exit→Act→World→Prop}
  (hK:∀  (w':World),w'=w→Q .normal ⟨#[x0,x1,x2,x3,u,x5,x6,x7,x8,x9,aW,bn,u,aZ,aP,aQ,aS,aT,aX,aY,bD,bC,bG,bH,bJ],df⟩ w'):RW Tryz.prog (aJ 2 Tryz.f193) false Q ⟨#[x0,x1,x2,x3,x4,x5,x6,x7,x8,x9,aW,bn,u,aZ,aP,aQ,aS,aT,aX,aY,bD,bC,bG,bH,bJ],df⟩ w:=by
 have HQ:=lh hK
 clear hK
 refine bU [(0,false)] (by kernel_rfl) ?_
 refine az [0] [u] rfl (by kernel_rfl) (by kernel_rfl) (.inr trivial) ?_
 exact aA (bg (K:=Q .normal) (by kernel_rfl) (HQ.out  _ rfl))
theorem kp3 {w:World}{u:Value}{x0 x1 x2 x3 x4 x5 x6 x7 x8 x9 aW bn bi aP aQ aS aT aX aY bD bC bG bH bJ:Value}{df:List Deferred}{Q:Exit→Act→World→Prop}
  (hK:∀  (w':World),w'=w→Q .normal ⟨#[x0,x1,x2,x3,x4,u,x6,x7,x8,x9,aW,bn,bi,u,aP,aQ,aS,aT,aX,aY,bD,bC,bG,bH,bJ],df⟩ w'):RW Tryz.prog (aJ 3 Tryz.f193) false Q ⟨#[x0,x1,x2,x3,x4,x5,x6,x7,x8,x9,aW,bn,bi,u,aP,aQ,aS,aT,aX,aY,bD,bC,bG,bH,bJ],df⟩ w:=by
 have HQ:=lh hK
 clear hK
 refine bU [(0,false)] (by kernel_rfl) ?_
 refine az [0] [u] rfl (by kernel_rfl) (by kernel_rfl) (.inr trivial) ?_
 exact aA (bg (K:=Q .normal) (by kernel_rfl) (HQ.out  _ rfl))
theorem kp4t {w:World}{bp by1 l:Nat}{pv u v:Value} (c1:w.cell? ⟨bp,0,none⟩=some pv) (c2:w.cell? ⟨by1,0,none⟩=some (.func (.yield l) #[] #[])) (hC:Calls Tryz.prog 194 #[u,pv] w fun e w'=>e = .returned (.bool true)∧w'=w)
  (hK:∀ (jB jR jS jk:Value)  (w':World),w'=w→Q .normal ⟨#[x0,x1,.pointer (some ⟨bp,0,none⟩),.pointer (some ⟨by1,0,none⟩),u,v,x6,x7,x8,x9,aW,bn,bi,aZ,jB,jR,jS,jk,.bool false,.func (.yield l) #[] #[],u,v,bG,bH,bJ],df⟩ w'):RW Tryz.prog ((aJ 4 Tryz.f193).toList.take 8).toArray false Q ⟨#[x0,x1,.pointer (some ⟨bp,0,none⟩),.pointer (some ⟨by1,0,none⟩),u,v,x6,x7,x8,x9,aW,bn,bi,aZ,aP,aQ,aS,aT,aX,aY,bD,bC,bG,bH,bJ],df⟩ w:=by
 have HQ:=lh hK
 clear hK
 refine bU [(0,false),(1,false),(2,false),(3,false),(4,false),(5,false),(6,false),(7,false)] (by kernel_rfl) ?_
 refine az [0] [u] rfl (by kernel_rfl) (by kernel_rfl) (.inr trivial) ?_
 refine aC (pv) _ (some 15) (ki (by kernel_rfl)) (aG (x:=(.tmp 2)) (by kernel_rfl) (by kernel_rfl) (aI ((fun _=>c1) (trivial)) Tryz.underlying91 rfl)) (fun _=>trivial) ?_
 refine bu (some 16) (ki (by kernel_rfl)) hC (fun _=>by kernel_rfl) ?_
 rintro r w7 ⟨rfl,rfl⟩
 refine⟨_,rfl,fun _=>trivial,?_⟩
 refine az [3,4] [.bool false,.bool false] rfl (by kernel_rfl) (by kernel_rfl) (.inr trivial) ?_
 refine aC (.func (.yield l) #[] #[]) _ (some 19) (ki (by kernel_rfl)) (aG (x:=(.tmp 3)) (by kernel_rfl) (by kernel_rfl) (aI ((fun _=>c2) (trivial)) Tryz.underlying150 rfl)) (fun _=>trivial) ?_
 refine az [6,7] [u,v] rfl (by kernel_rfl) (by kernel_rfl) (.inr trivial) ?_
 exact aA (bg (K:=Q .normal) (by kernel_rfl) (HQ.out (u) (pv) (.bool true) (.bool false) _ rfl))
theorem kp4f {w:World}{bp by1 l:Nat}{pv u v:Value} (c1:w.cell? ⟨bp,0,none⟩=some pv) (c2:w.cell? ⟨by1,0,none⟩=some (.func (.yield l) #[] #[])) (hC:Calls Tryz.prog 194 #[u,pv] w fun e w'=>e = .returned (.bool false)∧w'=w)
  (hK:∀ (jB jR jS jk jl jC lF kG jm iY:Value)  (w':World),w'=w→Q .normal ⟨#[x0,x1,.pointer (some ⟨bp,0,none⟩),.pointer (some ⟨by1,0,none⟩),u,v,x6,x7,x8,x9,aW,bn,bi,aZ,jB,jR,jS,jk,jl,jC,lF,kG,jm,iY,.bool true],df⟩ w'):RW Tryz.prog (aJ 4 Tryz.f193) false Q ⟨#[x0,x1,.pointer (some ⟨bp,0,none⟩),.pointer (some ⟨by1,0,none⟩),u,v,x6,x7,x8,x9,aW,bn,bi,aZ,aP,aQ,aS,aT,aX,aY,bD,bC,bG,bH,bJ],df⟩ w:=by
 have HQ:=lh hK
 clear hK
 refine bU [(0,false),(1,false),(2,false),(3,false),(4,false),(5,false),(6,false),(7,false),(8,false),(9,false),(10,false)] (by kernel_rfl) ?_
 refine az [0] [u] rfl (by kernel_rfl) (by kernel_rfl) (.inr trivial) ?_
 refine aC (pv) _ (some 15) (ki (by kernel_rfl)) (aG (x:=(.tmp 2)) (by kernel_rfl) (by kernel_rfl) (aI ((fun _=>c1) (trivial)) Tryz.underlying91 rfl)) (fun _=>trivial) ?_
 refine bu (some 16) (ki (by kernel_rfl)) hC (fun _=>by kernel_rfl) ?_
 rintro r w7 ⟨rfl,rfl⟩
 refine⟨_,rfl,fun _=>trivial,?_⟩
 refine az [3,4,5,6,7,8,9,10] [.bool true,.bool true,undef,undef,undef,undef,undef,.bool true] rfl (by kernel_rfl) (by kernel_rfl) (.inr trivial) ?_
 exact aA (bg (K:=Q .normal) (by kernel_rfl) (HQ.out (u) (pv) (.bool false) (.bool true) (.bool true) (undef) (undef) (undef) (undef) (undef) _ rfl))
end
end Go.Proofs.YtglkmaalpammcaaGreat
namespace Go.Gl
open Go.RowKit
def vG (P:Program) (gf:FuncId) (lb:Array Value) (n:Nat) (A:Nat→(Nat→Prop)→Array Value→World→Prop) (U0:Nat→Prop) (τ:World→World→Prop) (Ok:World→Prop) (w:World):Prop :=
 ∀ (l:Nat) (K J Jt Jx:Nat→(Nat→Prop)→World→Prop) (W:World),ae (fun k=>¬ U0 k) w W→lU W.heap.size ai K→lU W.heap.size ai J→lU W.heap.size ai Jt→lU W.heap.size ai Jx →
  (∀ U A,K 0 U A→Ok A∧∀ B,τ A B→J 0 U B)→(∀ i U A,i<n→J i U A→Ok A∧∀ B,τ A B→Jt i U B) →
  (∀ i U args W1,i<n→Jt i U W1→A i U args W1→(∀ k,U k→k<W1.heap.size)→W.heap.size≤W1.heap.size→Jt i (fun k=>U k∨gV args k) W1→(∀ k,gV args k→k<W1.heap.size)→Ap P l args W1 fun e W' =>
   (e = .returned (.bool true)∧J (i+1) U W'∧ae (fun k=>¬ U k) W1 W')∨(e = .returned (.bool false)∧Jx (i+1) U W'∧ae (fun k=>¬ U k) W1 W')) →
  K 0 U0 W →
  Calls P gf (#[.func (.yield l) #[] #[]] ++ lb) W fun e W'=>(∃ v,e = .returned v)∧((∃ U,J n U W'∧∀ k,U k→k<W'.heap.size)∨(∃ i U,i<n∧Jx (i+1) U W'∧∀ k,U k→k<W'.heap.size))
section
variable {P:Program}{r:Option Nat}
theorem yH {g:Operand}{ps:Array Tmp}{assign body:Code}{Q:Exit→Act→World→Prop}{a:Act}{w:World}{gf:FuncId}{lb:Array Value} (hg:a.eval g = .func (.func gf) #[] lb) (eg:∀ args w,(callFunc gf args).run P w = .ok (.enter gf args) w)
  {n:Nat}{A:Nat→(Nat→Prop)→Array Value→World→Prop}{U0:Nat→Prop}{sg:Nat}{τ:World→World→Prop}{Ok:World→Prop}{w0:World} (it:vG P gf lb n A U0 τ Ok w0) (hτ:∀ A B,τ A B→ae (fun k=>k=sg) A B) (hsg:sg<w.heap.size) (h0:ae (fun k=>¬ U0 k) w0 w) (hU:∀ k,U0 k→k<w.heap.size) (hA:qI A) (hps:∀ i U args W,A i U args W→args.size=ps.size)
  (K I It:Nat→(Nat→Prop)→World→Prop) (Ix:Code→Nat→(Nat→Prop)→World→Prop) (hK:lU w.heap.size ai K) (hI:lU w.heap.size ai I) (hIt:lU w.heap.size ai It) (hIx:∀ c,lU w.heap.size ai (Ix c)) (hs:K 0 U0 w)
  (t0:∀ U A,K 0 U A→Ok A∧∀ B,τ A B→I 0 U B) (t1:∀ i U A,i<n→I i U A→Ok A∧∀ B,τ A B→It i U B)
  (hround:∀ l i U args W,w.heap.size≤l→U l→i<n→It i U W→A i U args W→(∀ k,U k→k<W.heap.size)→w.heap.size≤W.heap.size→(∃ r,W.heap[l]?=some (.loop r))→It i (fun k=>U k∨gV args k) W→(∀ k,gV args k→k<W.heap.size) →
   assign.wpIn (WF (some l)) 3 P (Exit.then (fun a1 W1=>ae (fun k=>¬ U k) W W1∧∀ W2,ae (fun k=>k=l) W1 W2→(∃ r,W2.heap[l]?=some (.loop r))→body.wpIn (WF (some l)) 3 P (xY I Ix U i W2) a1 W2) (fun _ _ _=>False))
    { tmps:=iT ps.toList args.toList a.tmps,defers:=[] } W)
  (hdone:∀ D U W,w.heap.size≤D→U D→(∀ k,U k→k<W.heap.size)→I n U W→W.heap[D]?=some (.deferred (some []))→Q .normal { a with defers:={ target := .collected D,args:=#[] } :: a.defers } W)
  (hstop:∀ D c i U W,w.heap.size≤D→U D→(∀ k,U k→k<W.heap.size)→i<n→Ix c (i+1) U W→W.heap[D]?=some (.deferred (some []))→c.wpIn (WF none) 3 P Q { a with defers:={ target := .collected D,args:=#[] } :: a.defers } W) :
  (Code.rangeFunc g ps assign body).wpIn (WF none) 3 P Q a w:=by
 refine wpIn_rangeFunc ?_
 intro fn hfn
 obtain⟨rec,hrec⟩:∃ rec:LoopState→Option Code→Loop,rec=fun st pe=>{ state:=st,pending:=pe,fn,tmps:=a.tmps,params:=ps,assign,body,defers:=w.heap.size }:=⟨_,rfl⟩
 obtain⟨W1,hW1⟩:∃ W1,(w.alloc (.deferred (some []))).alloc (.loop (rec .ready none))=W1:=⟨_,rfl⟩
 have hm1:ae ai w W1:=by rw [← hW1];exact ((ae.refl ai w).alloc _).alloc _
 have hsz:W1.heap.size=w.heap.size+2:=by rw [← hW1];simp
 have hL1:W1.heap[w.heap.size+1]?=some (.loop (rec .ready none)):=by
  rw [← hW1];have:=World.alloc_heap_new (w.alloc (.deferred (some []))) (.loop (rec .ready none));rwa [World.size_alloc] at this
 have hK1:W1.heap[w.heap.size]?=some (.deferred (some [])):=by
  rw [← hW1];exact dA (aU w _) _
 obtain⟨l,hl⟩:∃ l,l=w.heap.size+1:=⟨_,rfl⟩
 obtain⟨D,hD⟩:∃ D,D=w.heap.size:=⟨_,rfl⟩
 rw [← hl] at hL1
 rw [← hD] at hK1
 have hw1:ae (fun k=>¬ U0 k) w0 W1:=h0.trans hm1 (fun _ _ x=>x) (fun _ _ x=>x.elim)
 have hUD:∀ (U:Nat→Prop) k,(U k∨k=l)∨k=D↔U k∨k=l∨k=D:=fun U k=>by rw [or_assoc]
 refine⟨l,[{ target := .collected D,args:=#[] }],W1,{ target := .fn (.func gf) lb,args:=#[.func (.yield l) #[] #[]] },W1,gf,#[.func (.yield l) #[] #[]] ++ lb,W1,?_,?_,?_,?_,fun h=>by simp [Fence.wide] at h,?_⟩
 ·rw [← hW1,hrec,hl,hD];exact run_enterLoop_outer _ _ _ _ _
 ·simp only [resolve,hg]
  simp [go_sem]
 ·intro f' hf';trivial
 ·simp [invoke,go_sem,eg]
 ·refine lM.2 ((it l (fun i U W=>K i (fun k=>(U k∨k=l)∨k=D) W∧¬ U l∧¬ U D∧W.heap[l]?=some (.loop (rec .ready none))∧W.heap[D]?=some (.deferred (some [])))
   (fun i U W=>I i (fun k=>(U k∨k=l)∨k=D) W∧¬ U l∧¬ U D∧W.heap[l]?=some (.loop (rec .ready none))∧W.heap[D]?=some (.deferred (some [])))
   (fun i U W=>It i (fun k=>(U k∨k=l)∨k=D) W∧¬ U l∧¬ U D∧W.heap[l]?=some (.loop (rec .ready none))∧W.heap[D]?=some (.deferred (some [])))
   (fun i U W=>∃ c,Ix c i (fun k=>(U k∨k=l)∨k=D) W∧¬ U l∧¬ U D∧W.heap[l]?=some (.loop (rec .done (some c)))∧W.heap[D]?=some (.deferred (some [])))
   W1 hw1 ?_ ?_ ?_ ?_ ?_ ?_ ?_ ⟨hK _ _ _ _ _ hs (hm1.mono (fun _ _ x=>x.elim)) hU (fun k hk=>by rcases hk with (h | h) | h;exact .inl h;exact .inr (by omega);exact .inr (by omega)),fun h=>by have:=hU l h;omega,fun h=>by have:=hU D h;omega,hL1,hK1⟩).mono ?_)
  ·rintro i U U' X Y ⟨hi,h1,h2,h3,h4⟩ hm hus hsub
   have hlX:=lt_of_heap h3
   have hDX:=lt_of_heap h4
   refine⟨hK _ _ _ _ _ hi (hm.mono (fun k _ hk=>⟨.inl (.inl hk.1),hk.2.imp id (fun h=>by omega)⟩)) (fun k hk=>by rcases hk with (h | h) | h;exact hus k h;omega;omega) (fun k hk=>by
    rcases hk with (h | h) | h
    ·exact (hsub k h).imp (fun x => .inl (.inl x)) id
    ·exact .inl (.inl (.inr h))
    ·exact .inl (.inr h)),fun h=>by rcases hsub l h with h | h;exact h1 h;omega,fun h=>by rcases hsub D h with h | h;exact h2 h;omega,(hm.block l hlX (fun hk=>h1 hk.1)).trans h3,(hm.block D hDX (fun hk=>h2 hk.1)).trans h4⟩
  ·rintro i U U' X Y ⟨hi,h1,h2,h3,h4⟩ hm hus hsub
   have hlX:=lt_of_heap h3
   have hDX:=lt_of_heap h4
   refine⟨hI _ _ _ _ _ hi (hm.mono (fun k _ hk=>⟨.inl (.inl hk.1),hk.2.imp id (fun h=>by omega)⟩)) (fun k hk=>by rcases hk with (h | h) | h;exact hus k h;omega;omega) (fun k hk=>by
    rcases hk with (h | h) | h
    ·exact (hsub k h).imp (fun x => .inl (.inl x)) id
    ·exact .inl (.inl (.inr h))
    ·exact .inl (.inr h)),fun h=>by rcases hsub l h with h | h;exact h1 h;omega,fun h=>by rcases hsub D h with h | h;exact h2 h;omega,(hm.block l hlX (fun hk=>h1 hk.1)).trans h3,(hm.block D hDX (fun hk=>h2 hk.1)).trans h4⟩
  ·rintro i U U' X Y ⟨hi,h1,h2,h3,h4⟩ hm hus hsub
   have hlX:=lt_of_heap h3
   have hDX:=lt_of_heap h4
   refine⟨hIt _ _ _ _ _ hi (hm.mono (fun k _ hk=>⟨.inl (.inl hk.1),hk.2.imp id (fun h=>by omega)⟩)) (fun k hk=>by rcases hk with (h | h) | h;exact hus k h;omega;omega) (fun k hk=>by
    rcases hk with (h | h) | h
    ·exact (hsub k h).imp (fun x => .inl (.inl x)) id
    ·exact .inl (.inl (.inr h))
    ·exact .inl (.inr h)),fun h=>by rcases hsub l h with h | h;exact h1 h;omega,fun h=>by rcases hsub D h with h | h;exact h2 h;omega,(hm.block l hlX (fun hk=>h1 hk.1)).trans h3,(hm.block D hDX (fun hk=>h2 hk.1)).trans h4⟩
  ·rintro i U U' X Y ⟨c,hi,h1,h2,h3,h4⟩ hm hus hsub
   have hlX:=lt_of_heap h3
   have hDX:=lt_of_heap h4
   refine⟨c,hIx c _ _ _ _ _ hi (hm.mono (fun k _ hk=>⟨.inl (.inl hk.1),hk.2.imp id (fun h=>by omega)⟩)) (fun k hk=>by rcases hk with (h | h) | h;exact hus k h;omega;omega) (fun k hk=>by
    rcases hk with (h | h) | h
    ·exact (hsub k h).imp (fun x => .inl (.inl x)) id
    ·exact .inl (.inl (.inr h))
    ·exact .inl (.inr h)),fun h=>by rcases hsub l h with h | h;exact h1 h;omega,fun h=>by rcases hsub D h with h | h;exact h2 h;omega,(hm.block l hlX (fun hk=>h1 hk.1)).trans h3,(hm.block D hDX (fun hk=>h2 hk.1)).trans h4⟩
  ·rintro U A ⟨hi,h1,h2,h3,h4⟩
   obtain⟨k1,k2⟩:=t0 _ A hi
   exact⟨k1,fun B hB=>⟨k2 B hB,h1,h2,((hτ A B hB).block l (lt_of_heap h3) (fun e=>by omega)).trans h3,((hτ A B hB).block D (lt_of_heap h4) (fun e=>by omega)).trans h4⟩⟩
  ·rintro i U A hin ⟨hi,h1,h2,h3,h4⟩
   obtain⟨k1,k2⟩:=t1 i _ A hin hi
   exact⟨k1,fun B hB=>⟨k2 B hB,h1,h2,((hτ A B hB).block l (lt_of_heap h3) (fun e=>by omega)).trans h3,((hτ A B hB).block D (lt_of_heap h4) (fun e=>by omega)).trans h4⟩⟩
  ·rintro i U args W hin ⟨hi,h1,h2,h3,h4⟩ hargs hus hge ⟨hi',_,_,_,_⟩ hab
   have hlW:=lt_of_heap h3
   have hDW:=lt_of_heap h4
   have hA2:=hA _ _ _ _ D _ (hA _ _ _ _ l _ hargs h3 rfl) h4 rfl
   have hus2:∀ k,((U k∨k=l)∨k=D)→k<W.heap.size:=fun k hk=>by rcases hk with (h | h) | h;exact hus k h;omega;omega
   refine uD (base:=w.heap.size) (V:=ai) (U:=fun k=>(U k∨k=l)∨k=D) (i:=i) hrec hI hIx h3 (hps _ _ _ _ hargs) (by omega) (.inl (.inr rfl)) hus2 (hround l i _ args W (by omega) (.inl (.inr rfl)) hin hi hA2 hus2 (by omega) ⟨_,h3⟩
    (hIt _ _ _ _ _ hi' (ae.refl _ _) (fun k hk=>by rcases hk with ((h | h) | h) | h;exact hus k h;exact hab k h;omega;omega) (fun k hk=>by rcases hk with ((h | h) | h) | h;exact .inl (.inl (.inl (.inl h)));exact .inl (.inl (.inr h));exact .inl (.inr h);exact .inl (.inl (.inl (.inr h))))) hab) _ ?_ ?_
   ·intro W' hi' hm' hl'
    have hD':W'.heap[D]?=some (.deferred (some [])):=(hm'.block D hDW (fun hk=>by rcases hk with hk | hk;exact hk (.inr rfl);omega)).trans h4
    exact .inl ⟨rfl,⟨hi',h1,h2,hl',hD'⟩,hm'.mono (fun k _ hk hu=>by rcases hk with hk | hk;exact hk (.inl (.inl hu));exact h1 (hk▸hu))⟩
   ·intro c W' hi' hm' hl'
    have hD':W'.heap[D]?=some (.deferred (some [])):=(hm'.block D hDW (fun hk=>by rcases hk with hk | hk;exact hk (.inr rfl);omega)).trans h4
    exact .inr ⟨rfl,⟨c,hi',h1,h2,hl',hD'⟩,hm'.mono (fun k _ hk hu=>by rcases hk with hk | hk;exact hk (.inl (.inl hu));exact h1 (hk▸hu))⟩
  ·rintro e W2 ⟨⟨v,rfl⟩,(⟨U,⟨hi,h1,h2,h3,h4⟩,hus⟩ | ⟨i,U,hin,⟨c,hi,h1,h2,h3,h4⟩,hus⟩)⟩
   ·refine⟨none,_,by have:=run_endLoop (P:=P) h3 (by rw [hrec];simp);rw [hrec] at this;exact this,?_⟩
    have hlW:=lt_of_heap h3
    have hDW:=lt_of_heap h4
    exact hdone D (fun k=>(U k∨k=l)∨k=D) _ (by omega) (.inr rfl) (fun k hk=>by rw [World.putObj_size];rcases hk with (h | h) | h;exact hus k h;omega;omega) (hI _ _ _ _ _ hi ((dJ W2 l _).mono (fun k _ hk=>by subst hk;exact⟨.inl (.inr rfl),.inr (by omega)⟩)) (fun k hk=>by rcases hk with (h | h) | h;exact hus k h;omega;omega) (fun k hk => .inl hk)) ((World.putObj_heap_other (by omega)).trans h4)
   ·refine⟨some c,_,by have:=run_endLoop (P:=P) h3 (by rw [hrec];simp);rw [hrec] at this;exact this,?_⟩
    have hlW:=lt_of_heap h3
    have hDW:=lt_of_heap h4
    exact hstop D c i (fun k=>(U k∨k=l)∨k=D) _ (by omega) (.inr rfl) (fun k hk=>by rw [World.putObj_size];rcases hk with (h | h) | h;exact hus k h;omega;omega) hin (hIx c _ _ _ _ _ hi ((dJ W2 l _).mono (fun k _ hk=>by subst hk;exact⟨.inl (.inr rfl),.inr (by omega)⟩)) (fun k hk=>by rcases hk with (h | h) | h;exact hus k h;omega;omega) (fun k hk => .inl hk)) ((World.putObj_heap_other (by omega)).trans h4)
end
open Go.RowKit
def qw (P:Program) (gf:FuncId) (lb:Array Value) (n:Nat) (A:Nat→(Nat→Prop)→Array Value→World→Prop) (U0 V:Nat→Prop) (Pre:World→Prop) (w:World):Prop :=
 ∀ (l:Nat) (J Jx:Nat→(Nat→Prop)→World→Prop) (W:World),ae (fun k=>¬ U0 k) w W→Pre W→lU W.heap.size V J→lU W.heap.size V Jx →
  (∀ i U args W1,i<n→J i U W1→A i U args W1→(∀ k,U k→k<W1.heap.size)→W.heap.size≤W1.heap.size→J i (fun k=>U k∨gV args k) W1→(∀ k,gV args k→k<W1.heap.size)→Ap P l args W1 fun e W' =>
   (e = .returned (.bool true)∧J (i+1) U W'∧ae (fun k=>¬ U k) W1 W')∨(e = .returned (.bool false)∧Jx (i+1) U W'∧ae (fun k=>¬ U k) W1 W')) →
  J 0 U0 W →
  Calls P gf (#[.func (.yield l) #[] #[]] ++ lb) W fun e W'=>(∃ v,e = .returned v)∧((∃ U,J n U W'∧∀ k,U k→k<W'.heap.size)∨(∃ i U,i<n∧Jx (i+1) U W'∧∀ k,U k→k<W'.heap.size))
theorem qw.at {P:Program}{gf:FuncId}{lb:Array Value}{n:Nat}{A:Nat→(Nat→Prop)→Array Value→World→Prop}{U0 V:Nat→Prop}{w w':World}{Pre:World→Prop} (h:qw P gf lb n A U0 V Pre w) (hm:ae (fun k=>¬ U0 k) w w'):qw P gf lb n A U0 V Pre w':=fun l J Jx W h1 hp=>h l J Jx W (hm.trans h1 (fun _ _ x=>x) (fun _ _ x=>x)) hp
section
variable {P:Program}{r:Option Nat}
theorem yz {g:Operand}{ps:Array Tmp}{assign body:Code}{Q:Exit→Act→World→Prop}{a:Act}{w:World}{gf:FuncId}{lb:Array Value} (hg:a.eval g = .func (.func gf) #[] lb) (eg:∀ args w,(callFunc gf args).run P w = .ok (.enter gf args) w)
  {n:Nat}{A:Nat→(Nat→Prop)→Array Value→World→Prop}{U0 V:Nat→Prop}{Pre:World→Prop}{w0:World} (it:qw P gf lb n A U0 V Pre w0) (hpre:∀ A B,Pre A→ae ai A B→Pre B) (hp0:Pre w) (h0:ae (fun k=>¬ U0 k) w0 w) (hU:∀ k,U0 k→k<w.heap.size) (hA:qI A) (hps:∀ i U args W,A i U args W→args.size=ps.size)
  (I:Nat→(Nat→Prop)→World→Prop) (Ix:Code→Nat→(Nat→Prop)→World→Prop) (hI:lU w.heap.size V I) (hIx:∀ c,lU w.heap.size V (Ix c)) (hs:I 0 U0 w)
  (hround:∀ l i U args W,w.heap.size≤l→U l→i<n→I i U W→A i U args W→(∀ k,U k→k<W.heap.size)→w.heap.size≤W.heap.size→(∃ r,W.heap[l]?=some (.loop r))→I i (fun k=>U k∨gV args k) W→(∀ k,gV args k→k<W.heap.size) →
   assign.wpIn (WF (some l)) 3 P (Exit.then (fun a1 W1=>ae (fun k=>¬ U k) W W1∧∀ W2,ae (fun k=>k=l) W1 W2→(∃ r,W2.heap[l]?=some (.loop r))→body.wpIn (WF (some l)) 3 P (xY I Ix U i W2) a1 W2) (fun _ _ _=>False))
    { tmps:=iT ps.toList args.toList a.tmps,defers:=[] } W)
  (hdone:∀ D U W,w.heap.size≤D→U D→(∀ k,U k→k<W.heap.size)→I n U W→W.heap[D]?=some (.deferred (some []))→Q .normal { a with defers:={ target := .collected D,args:=#[] } :: a.defers } W)
  (hstop:∀ D c i U W,w.heap.size≤D→U D→(∀ k,U k→k<W.heap.size)→i<n→Ix c (i+1) U W→W.heap[D]?=some (.deferred (some []))→c.wpIn (WF none) 3 P Q { a with defers:={ target := .collected D,args:=#[] } :: a.defers } W) :
  (Code.rangeFunc g ps assign body).wpIn (WF none) 3 P Q a w:=by
 refine wpIn_rangeFunc ?_
 intro fn hfn
 obtain⟨rec,hrec⟩:∃ rec:LoopState→Option Code→Loop,rec=fun st pe=>{ state:=st,pending:=pe,fn,tmps:=a.tmps,params:=ps,assign,body,defers:=w.heap.size }:=⟨_,rfl⟩
 obtain⟨W1,hW1⟩:∃ W1,(w.alloc (.deferred (some []))).alloc (.loop (rec .ready none))=W1:=⟨_,rfl⟩
 have hm1:ae ai w W1:=by rw [← hW1];exact ((ae.refl ai w).alloc _).alloc _
 have hsz:W1.heap.size=w.heap.size+2:=by rw [← hW1];simp
 have hL1:W1.heap[w.heap.size+1]?=some (.loop (rec .ready none)):=by
  rw [← hW1];have:=World.alloc_heap_new (w.alloc (.deferred (some []))) (.loop (rec .ready none));rwa [World.size_alloc] at this
 have hK1:W1.heap[w.heap.size]?=some (.deferred (some [])):=by
  rw [← hW1];exact dA (aU w _) _
 obtain⟨l,hl⟩:∃ l,l=w.heap.size+1:=⟨_,rfl⟩
 obtain⟨D,hD⟩:∃ D,D=w.heap.size:=⟨_,rfl⟩
 rw [← hl] at hL1
 rw [← hD] at hK1
 have hw1:ae (fun k=>¬ U0 k) w0 W1:=h0.trans hm1 (fun _ _ x=>x) (fun _ _ x=>x.elim)
 have hUD:∀ (U:Nat→Prop) k,(U k∨k=l)∨k=D↔U k∨k=l∨k=D:=fun U k=>by rw [or_assoc]
 refine⟨l,[{ target := .collected D,args:=#[] }],W1,{ target := .fn (.func gf) lb,args:=#[.func (.yield l) #[] #[]] },W1,gf,#[.func (.yield l) #[] #[]] ++ lb,W1,?_,?_,?_,?_,fun h=>by simp [Fence.wide] at h,?_⟩
 ·rw [← hW1,hrec,hl,hD];exact run_enterLoop_outer _ _ _ _ _
 ·simp only [resolve,hg]
  simp [go_sem]
 ·intro f' hf';trivial
 ·simp [invoke,go_sem,eg]
 ·refine lM.2 ((it l (fun i U W=>I i (fun k=>(U k∨k=l)∨k=D) W∧¬ U l∧¬ U D∧W.heap[l]?=some (.loop (rec .ready none))∧W.heap[D]?=some (.deferred (some [])))
   (fun i U W=>∃ c,Ix c i (fun k=>(U k∨k=l)∨k=D) W∧¬ U l∧¬ U D∧W.heap[l]?=some (.loop (rec .done (some c)))∧W.heap[D]?=some (.deferred (some [])))
   W1 hw1 (hpre _ _ hp0 hm1) ?_ ?_ ?_ ⟨hI _ _ _ _ _ hs (hm1.mono (fun _ _ x=>x.elim)) hU (fun k hk=>by rcases hk with (h | h) | h;exact .inl h;exact .inr (by omega);exact .inr (by omega)),fun h=>by have:=hU l h;omega,fun h=>by have:=hU D h;omega,hL1,hK1⟩).mono ?_)
  ·rintro i U U' X Y ⟨hi,h1,h2,h3,h4⟩ hm hus hsub
   have hlX:=lt_of_heap h3
   have hDX:=lt_of_heap h4
   refine⟨hI _ _ _ _ _ hi (hm.mono (fun k _ hk=>⟨.inl (.inl hk.1),hk.2.imp id (fun h=>by omega)⟩)) (fun k hk=>by rcases hk with (h | h) | h;exact hus k h;omega;omega) (fun k hk=>by
    rcases hk with (h | h) | h
    ·exact (hsub k h).imp (fun x => .inl (.inl x)) id
    ·exact .inl (.inl (.inr h))
    ·exact .inl (.inr h)),fun h=>by rcases hsub l h with h | h;exact h1 h;omega,fun h=>by rcases hsub D h with h | h;exact h2 h;omega,(hm.block l hlX (fun hk=>h1 hk.1)).trans h3,(hm.block D hDX (fun hk=>h2 hk.1)).trans h4⟩
  ·rintro i U U' X Y ⟨c,hi,h1,h2,h3,h4⟩ hm hus hsub
   have hlX:=lt_of_heap h3
   have hDX:=lt_of_heap h4
   refine⟨c,hIx c _ _ _ _ _ hi (hm.mono (fun k _ hk=>⟨.inl (.inl hk.1),hk.2.imp id (fun h=>by omega)⟩)) (fun k hk=>by rcases hk with (h | h) | h;exact hus k h;omega;omega) (fun k hk=>by
    rcases hk with (h | h) | h
    ·exact (hsub k h).imp (fun x => .inl (.inl x)) id
    ·exact .inl (.inl (.inr h))
    ·exact .inl (.inr h)),fun h=>by rcases hsub l h with h | h;exact h1 h;omega,fun h=>by rcases hsub D h with h | h;exact h2 h;omega,(hm.block l hlX (fun hk=>h1 hk.1)).trans h3,(hm.block D hDX (fun hk=>h2 hk.1)).trans h4⟩
  ·rintro i U args W hin ⟨hi,h1,h2,h3,h4⟩ hargs hus hge ⟨hi',_,_,_,_⟩ hab
   have hlW:=lt_of_heap h3
   have hDW:=lt_of_heap h4
   have hA2:=hA _ _ _ _ D _ (hA _ _ _ _ l _ hargs h3 rfl) h4 rfl
   have hus2:∀ k,((U k∨k=l)∨k=D)→k<W.heap.size:=fun k hk=>by rcases hk with (h | h) | h;exact hus k h;omega;omega
   refine uD (base:=w.heap.size) (V:=V) (U:=fun k=>(U k∨k=l)∨k=D) (i:=i) hrec hI hIx h3 (hps _ _ _ _ hargs) (by omega) (.inl (.inr rfl)) hus2 (hround l i _ args W (by omega) (.inl (.inr rfl)) hin hi hA2 hus2 (by omega) ⟨_,h3⟩
    (hI _ _ _ _ _ hi' (ae.refl _ _) (fun k hk=>by rcases hk with ((h | h) | h) | h;exact hus k h;exact hab k h;omega;omega) (fun k hk=>by rcases hk with ((h | h) | h) | h;exact .inl (.inl (.inl (.inl h)));exact .inl (.inl (.inr h));exact .inl (.inr h);exact .inl (.inl (.inl (.inr h))))) hab) _ ?_ ?_
   ·intro W' hi' hm' hl'
    have hD':W'.heap[D]?=some (.deferred (some [])):=(hm'.block D hDW (fun hk=>by rcases hk with hk | hk;exact hk (.inr rfl);omega)).trans h4
    exact .inl ⟨rfl,⟨hi',h1,h2,hl',hD'⟩,hm'.mono (fun k _ hk hu=>by rcases hk with hk | hk;exact hk (.inl (.inl hu));exact h1 (hk▸hu))⟩
   ·intro c W' hi' hm' hl'
    have hD':W'.heap[D]?=some (.deferred (some [])):=(hm'.block D hDW (fun hk=>by rcases hk with hk | hk;exact hk (.inr rfl);omega)).trans h4
    exact .inr ⟨rfl,⟨c,hi',h1,h2,hl',hD'⟩,hm'.mono (fun k _ hk hu=>by rcases hk with hk | hk;exact hk (.inl (.inl hu));exact h1 (hk▸hu))⟩
  ·rintro e W2 ⟨⟨v,rfl⟩,(⟨U,⟨hi,h1,h2,h3,h4⟩,hus⟩ | ⟨i,U,hin,⟨c,hi,h1,h2,h3,h4⟩,hus⟩)⟩
   ·refine⟨none,_,by have:=run_endLoop (P:=P) h3 (by rw [hrec];simp);rw [hrec] at this;exact this,?_⟩
    have hlW:=lt_of_heap h3
    have hDW:=lt_of_heap h4
    exact hdone D (fun k=>(U k∨k=l)∨k=D) _ (by omega) (.inr rfl) (fun k hk=>by rw [World.putObj_size];rcases hk with (h | h) | h;exact hus k h;omega;omega) (hI _ _ _ _ _ hi ((dJ W2 l _).mono (fun k _ hk=>by subst hk;exact⟨.inl (.inr rfl),.inr (by omega)⟩)) (fun k hk=>by rcases hk with (h | h) | h;exact hus k h;omega;omega) (fun k hk => .inl hk)) ((World.putObj_heap_other (by omega)).trans h4)
   ·refine⟨some c,_,by have:=run_endLoop (P:=P) h3 (by rw [hrec];simp);rw [hrec] at this;exact this,?_⟩
    have hlW:=lt_of_heap h3
    have hDW:=lt_of_heap h4
    exact hstop D c i (fun k=>(U k∨k=l)∨k=D) _ (by omega) (.inr rfl) (fun k hk=>by rw [World.putObj_size];rcases hk with (h | h) | h;exact hus k h;omega;omega) hin (hIx c _ _ _ _ _ hi ((dJ W2 l _).mono (fun k _ hk=>by subst hk;exact⟨.inl (.inr rfl),.inr (by omega)⟩)) (fun k hk=>by rcases hk with (h | h) | h;exact hus k h;omega;omega) (fun k hk => .inl hk)) ((World.putObj_heap_other (by omega)).trans h4)
end
end Go.Gl
namespace Go.Proofs.YtglkmaalpammcaaGreat
open Go.Gl Go.RowKit
def tickR (sg:Nat) (A B:World):Prop:=∃ c:Int,A.cell? ⟨sg,2,none⟩=some (.int .i64 c)∧B=A.setCell ⟨sg,2,none⟩ (.int .i64 (c+1))
def yA (sg:Nat) (A:World):Prop:=∃ c:Int,A.cell? ⟨sg,2,none⟩=some (.int .i64 c)∧A.frozen? ⟨sg,2,none⟩=false ∧ -9223372036854775808≤c+1∧c+1≤9223372036854775807
theorem tickR.mods {sg:Nat}{A B:World} (h:tickR sg A B):ae (fun k=>k=sg) A B:=by
 obtain⟨c,_,rfl⟩:=h
 exact (ae.refl (fun k=>k=sg) A).setCell (p:=⟨sg,2,none⟩) (.inl rfl) _
theorem zH {sg:Nat}{A:World} (h:yA sg A):Calls Tryz.prog 149 #[.pointer (some ⟨sg,2,none⟩),.int .i64 1] A fun e B=>∃ v,e = .returned v∧tickR sg A B:=by
 obtain⟨c,h1,h2,h3,h4⟩:=h
 exact (AO h1 h2 h3 h4).mono (fun e B ⟨a,b⟩=>⟨_,a,c,h1,b⟩)
def uy (bs bw by1:Nat) (U:Nat→Prop) (k:Nat):Prop:=U k∨k=bs∨k=bw∨k=by1
theorem yI {w:World}{sg bs bw gf B:Nat}{lb:Array Value}{L:List EV}{Ui:Nat→Prop}{t1 t2:TypeId}{Pre Ok:World→Prop} (it:qw Tryz.prog gf lb L.length (rQ B L) Ui ai Pre w) (hpm:∀ A B,Pre A→ae ai A B→Pre B) (hOk:∀ A,Ok A→yA sg A) (hPre:∀ A C,Ok A→tickR sg A C→Pre C) (eg:∀ args w,(callFunc gf args).run Tryz.prog w = .ok (.enter gf args) w)
  (hbs:w.heap[bs]?=some (.cells #[.pointer (some ⟨sg,0,none⟩)] t1 (0,0))) (hbw:w.heap[bw]?=some (.cells #[.func (.func gf) #[] lb] t2 (0,0))) (hUi:∀ k,Ui k→k<w.heap.size) (hsg:sg<w.heap.size) (n1:¬ Ui bs) (n2:¬ Ui bw) (n3:¬ Ui sg) (n4:bs≠sg) (n5:bw≠sg) :
  vG Tryz.prog 244 #[.pointer (some ⟨bs,0,none⟩),.pointer (some ⟨bw,0,none⟩)] L.length (rQ B L) (fun k=>Ui k∨k=bs∨k=bw) (tickR sg) Ok w:=by
 intro l K J Jt Jx W hW hK hJ hJt hJx tk0 tk1 hY h0
 have hwW:w.heap.size≤W.heap.size:=hW.size
 have hbsW:=hW.heap hbs (fun x=>x (.inr (.inl rfl)))
 have hbwW:=hW.heap hbw (fun x=>x (.inr (.inr rfl)))
 have hbsl:=lt_of_heap hbs
 have hbwl:=lt_of_heap hbw
 have hU0:∀ k,(Ui k∨k=bs∨k=bw)→k<W.heap.size:=fun k hk=>by
  rcases hk with hk | rfl | rfl
  ·have:=hUi k hk;omega
  ·omega
  ·omega
 clear hbs hbw
 (refine kM _ Tryz.func244 rfl ?_;simp only [Tryz.ntmps244,List.size_toArray,List.length_cons,List.length_nil,Nat.reduceAdd,Nat.reduceSub,Array.replicate_succ,Array.replicate_zero,List.push_toArray,List.append_toArray,List.nil_append,List.cons_append])
 refine wpIn_seq ?_
 refine bT (d := .region 0 (aJ 0 Tryz.f244) false) (by kernel_rfl) ?_
 refine RW.wpIn (kci0 ?_) (by kernel_rfl)
 intro by1 w1 hby hbO m1
 refine bI ?_
 have hK1:K 0 (uy bs bw by1 Ui) w1:=hK _ _ _ _ _ h0 (m1.mono (fun _ _ x=>x.elim)) hU0 (fun k hk=>by
  rcases hk with hk | rfl | rfl | rfl
  ·exact .inl (.inl hk)
  ·exact .inl (.inr (.inl rfl))
  ·exact .inl (.inr (.inr rfl))
  ·exact .inr (by omega))
 obtain⟨ok0,tj0⟩:=tk0 _ _ hK1
 refine wpIn_seq ?_
 refine bT (d := .region 1 (aJ 1 Tryz.f244) false) (by kernel_rfl) ?_
 refine RW.wpIn (kc1 (ag (m1.heap hbsW (fun x=>x)) 0) (zH (hOk _ ok0)) ?_) (by kernel_rfl)
 intros
 rename_i w2 hτ0
 refine bI ?_
 have hJ0:=tj0 _ hτ0
 have m2:=hτ0.mods
 have hs1:=m1.size
 have hs2:=m2.size
 have hbs2:=m2.heap (m1.heap hbsW (fun x=>x)) (fun e=>n4 e)
 have hbw2:=m2.heap (m1.heap hbwW (fun x=>x)) (fun e=>n5 e)
 have hby2:=m2.heap hbO (fun e=>by omega)
 have hby2l:=lt_of_heap hby2
 have m02:ae (fun k=>¬ Ui k) w w2:=((hW.mono (fun k _ hk x=>hk (.inl x))).trans m1 (U:=fun k=>¬ Ui k) (fun _ _ x=>x) (fun _ _ x=>x.elim)).trans m2 (fun _ _ x=>x) (fun k _ hk x=>n3 (hk▸x))
 have itW:=it.at m02
 have hpW:=hPre _ _ ok0 hτ0
 clear hK1 ok0 tj0 hbsW hbwW hbO
 refine wpIn_seq ?_
 refine bT (d := .region 2 (aJ 2 Tryz.f244) false) (by kernel_rfl) ?_
 refine RW.wpIn (kc2 (ag hbw2 0) ?_) (by kernel_rfl)
 intros
 rename_i w2' e2
 subst e2
 refine bI ?_
 have frm:∀ (X:Nat→(Nat→Prop)→World→Prop),lU W.heap.size ai X→∀ i U U' A B,X i (uy bs bw by1 U) A→w2'.heap.size≤A.heap.size→ae (fun k=>U k∧(ai k∨w2'.heap.size≤k)) A B→(∀ k,U k→k<A.heap.size)→(∀ k,U' k→U k∨A.heap.size≤k)→X i (uy bs bw by1 U') B:=fun X hX i U U' A B hx hsz hm hus hsub=>by
  refine hX _ _ _ _ _ hx (hm.mono (fun k _ hk=>⟨.inl hk.1,hk.2.imp id (fun h=>by omega)⟩)) (fun k hk=>?_) (fun k hk=>?_)
  ·rcases hk with hk | rfl | rfl | rfl
   ·exact hus k hk
   ·omega
   ·omega
   ·omega
  ·rcases hk with hk | hk
   ·exact (hsub k hk).imp .inl id
   ·exact .inl (.inr hk)
 have keep2:∀ (U:Nat→Prop) (A B:World),ae (fun k=>U k∧(ai k∨w2'.heap.size≤k)) A B→A.heap[bs]?=some (.cells #[.pointer (some ⟨sg,0,none⟩)] t1 (0,0))∧A.heap[by1]?=some (.cells #[.func (.yield l) #[] #[]] 150 (0,0))→B.heap[bs]?=some (.cells #[.pointer (some ⟨sg,0,none⟩)] t1 (0,0))∧B.heap[by1]?=some (.cells #[.func (.yield l) #[] #[]] 150 (0,0)):=fun U A B hm hp=>by
  refine⟨hm.heap hp.1 (fun hk=>?_),hm.heap hp.2 (fun hk=>?_)⟩
  ·rcases hk.2 with h | h
   ·exact h
   ·omega
  ·rcases hk.2 with h | h
   ·exact h
   ·omega
 refine wpIn_block ?_
 refine yz (by rfl) eg itW hpm hpW (ae.refl _ _) (fun k hk=>by have:=hUi k hk;omega) (oL B L) (fun i U args W1 hA=>by obtain⟨e,kv,vv,_,rfl,_⟩:=hA;rfl)
  (fun i U Wr=>i≤L.length∧J i (uy bs bw by1 U) Wr∧(Wr.heap[bs]?=some (.cells #[.pointer (some ⟨sg,0,none⟩)] t1 (0,0))∧Wr.heap[by1]?=some (.cells #[.func (.yield l) #[] #[]] 150 (0,0)))∧(¬ U bs∧¬ U bw∧¬ U by1∧¬ U sg)∧w2'.heap.size≤Wr.heap.size)
  (fun c i U Wr=>c = .ret∧Jx i (uy bs bw by1 U) Wr∧w2'.heap.size≤Wr.heap.size)
  ?_ ?_ ⟨Nat.zero_le _,hJ0,⟨hbs2,hby2⟩,⟨n1,n2,fun x=>by have:=hUi _ x;omega,n3⟩,Nat.le_refl _⟩ ?_ ?_ ?_
 ·rintro i U U' A B ⟨h1,h2,h3,⟨k1,k2,k3,k4⟩,h4⟩ hm hus hsub
  refine⟨h1,frm J hJ _ _ _ _ _ h2 h4 hm hus hsub,keep2 U _ _ hm h3,⟨fun x=>?_,fun x=>?_,fun x=>?_,fun x=>?_⟩,Nat.le_trans h4 hm.size⟩
  ·rcases hsub _ x with y | y
   ·exact k1 y
   ·omega
  ·rcases hsub _ x with y | y
   ·exact k2 y
   ·omega
  ·rcases hsub _ x with y | y
   ·exact k3 y
   ·omega
  ·rcases hsub _ x with y | y
   ·exact k4 y
   ·omega
 ·rintro c i U U' A B ⟨h1,h2,h4⟩ hm hus hsub
  exact⟨h1,frm Jx hJx _ _ _ _ _ h2 h4 hm hus hsub,Nat.le_trans h4 hm.size⟩
 ·-- one round
  intro lp i U args Wr hlp hUlp hi ⟨hin,hJi,hinv,⟨k1,k2,k3,k4⟩,hszr⟩ hA hUs hszW hloop ⟨_,hJa,_,⟨a1,a2,a3,a4⟩,_⟩ hab
  obtain⟨e,kv,vv,hei,hargs,o1,o2,u1,u2,dd,b1,b2⟩:=hA
  subst hargs
  simp only [iT,List.setIfInBounds_toArray,List.set_cons_succ,List.set_cons_zero]
  refine wpIn_seq ?_
  refine bT (d := .region 3 (aJ 3 Tryz.f244) false) (by kernel_rfl) ?_
  refine RW.wpIn (kc3 ?_) (by kernel_rfl)
  intro w3 e3
  subst e3
  refine bI ?_
  refine bT (d := .region 4 (aJ 4 Tryz.f244) false) (by kernel_rfl) ?_
  refine RW.wpIn (kc4 ?_) (by kernel_rfl)
  intro w3 e3
  subst e3
  refine bI ?_
  refine⟨ae.refl _ _,?_⟩
  intro w4 m4 _
  have hkl:ae (fun k=>U k∧(ai k∨w2'.heap.size≤k)) w3 w4:=m4.mono (fun k _ hk=>by subst hk;exact⟨hUlp,.inr hlp⟩)
  have hkl2:ae (fun k=>(U k∨gV #[kv,vv] k)∧(ai k∨w2'.heap.size≤k)) w3 w4:=m4.mono (fun k _ hk=>by subst hk;exact⟨.inl hUlp,.inr hlp⟩)
  obtain⟨hbs4,hby4⟩:=keep2 U _ _ hkl hinv
  have hJ4:=frm J hJ _ _ _ _ _ hJi hszr hkl hUs (fun k hk => .inl hk)
  have hJa4:=frm J hJ _ _ _ _ _ hJa hszr hkl2 (fun k hk=>by rcases hk with hk | hk;exact hUs k hk;exact hab k hk) (fun k hk => .inl hk)
  have hsz4:=Nat.le_trans hszr m4.size
  have hUs4:∀ k,U k→k<w4.heap.size:=fun k hk=>Nat.lt_of_lt_of_le (hUs k hk) m4.size
  have hUo4:∀ k,uy bs bw by1 U k→k<w4.heap.size:=fun k hk=>by
   rcases hk with hk | rfl | rfl | rfl
   ·exact hUs4 k hk
   ·omega
   ·omega
   ·omega
  have akv:∀ k,kv.ownBlock=some k→gV #[kv,vv] k:=fun k hk=>⟨kv,by simp,hk⟩
  have avv:∀ k,vv.ownBlock=some k→gV #[kv,vv] k:=fun k hk=>⟨vv,by simp,hk⟩
  have o14:=o1.keep m4 (fun k hk x=>u1 k hk (x▸hUlp))
  have o24:=o2.keep m4 (fun k hk x=>u2 k hk (x▸hUlp))
  have hab4:∀ k,gV #[kv,vv] k→k<w4.heap.size:=fun k hk=>Nat.lt_of_lt_of_le (hab k hk) m4.size
  have hJb4:J i (fun k=>uy bs bw by1 U k∨gV #[kv,vv] k) w4:=hJ _ _ _ _ _ hJa4 (ae.refl _ _) (fun k hk=>by
   rcases hk with (hk | hk) | hk | hk | hk
   ·exact hUs4 k hk
   ·exact hab4 k hk
   ·subst hk;omega
   ·subst hk;omega
   ·subst hk;omega) (fun k hk=>by
   rcases hk with (hk | hk) | hk
   ·exact .inl (.inl (.inl hk))
   ·exact .inl (.inr hk)
   ·exact .inl (.inl (.inr hk)))
  obtain⟨ok4,tj4⟩:=tk1 i _ _ hi hJ4
  obtain⟨_,tb4⟩:=tk1 i _ _ hi hJb4
  clear hJi hinv hkl hkl2 hJa hJa4
  refine wpIn_block ?_
  refine wpIn_seq ?_
  refine bT (d := .region 5 (aJ 5 Tryz.f244) false) (by kernel_rfl) ?_
  refine RW.wpIn (kc5 (ag hbs4 0) (zH (hOk _ ok4)) ?_) (by kernel_rfl)
  intros
  rename_i w5 hτ
  refine bI ?_
  have m5:=hτ.mods
  have hby5:=m5.heap hby4 (fun e=>by omega)
  have hbs5:=m5.heap hbs4 (fun e=>n4 e)
  have o15:=o14.keep m5 (fun k hk x=>a4 (.inr (x▸akv k hk)))
  have o25:=o24.keep m5 (fun k hk x=>a4 (.inr (x▸avv k hk)))
  refine wpIn_seq ?_
  refine bT (d := .region 6 (aJ 6 Tryz.f244) false) (by kernel_rfl) ?_
  refine iP (Q1:=fun _ a' w'=>wpOpsIn _ _ _ _ _ _ a' w') 3 (by kernel_rfl) (kc6 (l:=l) (ag hby5 0) ?_) (fun _ _ h=>h)
  intros
  rename_i w5' e5
  subst e5
  refine ku (some 20) (ki (by kernel_rfl)) (by kernel_rfl) (by kernel_rfl) (hY i (uy bs bw by1 U) #[kv,vv] w5' hi (tj4 _ hτ) ⟨e,kv,vv,hei,rfl,o15,o25,fun k hk x=>?_,fun k hk x=>?_,dd,b1,b2⟩ (fun k hk=>Nat.lt_of_lt_of_le (hUo4 k hk) m5.size) (by have:=m5.size;omega) (tb4 _ hτ) (fun k hk=>Nat.lt_of_lt_of_le (hab4 k hk) m5.size)) ?_
  ·rcases x with x | x | x | x
   ·exact u1 k hk x
   ·exact a1 (.inr (x▸akv k hk))
   ·exact a2 (.inr (x▸akv k hk))
   ·exact a3 (.inr (x▸akv k hk))
  ·rcases x with x | x | x | x
   ·exact u2 k hk x
   ·exact a1 (.inr (x▸avv k hk))
   ·exact a2 (.inr (x▸avv k hk))
   ·exact a3 (.inr (x▸avv k hk))
  rintro r w6 (⟨rfl,k1',k2'⟩ | ⟨rfl,k1',k2'⟩)
  ·have m46:ae (fun k=>¬ U k) w4 w6:=m5.trans k2' (fun k _ hk x=>k4 (hk▸x)) (fun k _ hk x=>hk (.inl x))
   refine⟨_,rfl,?_⟩
   refine fJ (.bool false) (some 21) (ki (by kernel_rfl)) (by kernel_rfl) (by kernel_rfl) ?_
   refine bI ?_
   refine wpIn_cond_false rfl ?_
   refine wpIn_skip ?_
   refine iI ?_
   exact⟨m46,hi,k1',⟨k2'.heap hbs5 (fun x=>x (.inr (.inl rfl))),k2'.heap hby5 (fun x=>x (.inr (.inr (.inr rfl))))⟩,⟨k1,k2,k3,k4⟩,Nat.le_trans hsz4 m46.size⟩
  ·have m46:ae (fun k=>¬ U k) w4 w6:=m5.trans k2' (fun k _ hk x=>k4 (hk▸x)) (fun k _ hk x=>hk (.inl x))
   refine⟨_,rfl,?_⟩
   refine fJ (.bool true) (some 21) (ki (by kernel_rfl)) (by kernel_rfl) (by kernel_rfl) ?_
   refine bI ?_
   refine wpIn_cond_true rfl ?_
   refine wpIn_ret ?_
   repeat (first | refine oJ ?_ | refine kS ?_)
   exact⟨m46,rfl,k1',Nat.le_trans hsz4 m46.size⟩
 ·-- all have come
  rintro D U W5 hD hUD hus ⟨h1,h2,h3,h5,h4⟩ hdef
  refine iI ?_
  refine iq hdef (results_none rfl _ _ _) ?_
  refine⟨⟨_,rfl⟩,.inl ⟨uy bs bw by1 U,frm J hJ _ _ _ _ _ h2 h4 ((dJ W5 D _).mono (fun k _ hk=>by subst hk;exact⟨hUD,.inr hD⟩)) hus (fun k hk => .inl hk),fun k hk=>?_⟩⟩
  rw [World.putObj_size]
  rcases hk with hk | rfl | rfl | rfl
  ·exact hus k hk
  ·omega
  ·omega
  ·omega
 ·-- a round has left
  rintro D c i U W5 hD hUD hus hi ⟨rfl,h2,h4⟩ hdef
  refine wpIn_ret ?_
  refine kS ?_
  refine iq hdef (results_none rfl _ _ _) ?_
  refine⟨⟨_,rfl⟩,.inr ⟨i,uy bs bw by1 U,hi,frm Jx hJx _ _ _ _ _ h2 h4 ((dJ W5 D _).mono (fun k _ hk=>by subst hk;exact⟨hUD,.inr hD⟩)) hus (fun k hk => .inl hk),fun k hk=>?_⟩⟩
  rw [World.putObj_size]
  rcases hk with hk | rfl | rfl | rfl
  ·exact hus k hk
  ·omega
  ·omega
  ·omega
open Go.Gl Go.RowKit
structure mG (w:World) (sg mg:Nat) (vo:Value) (R:List PV) (bs bp:Nat) (pv:Value) (xs:List UInt8):Prop where
 pm:PM w mg vo R
 bs:w.heap[bs]?=some (.cells #[.pointer (some ⟨sg,0,none⟩)] 26 (0,0))
 bp:w.heap[bp]?=some (.cells #[pv] 91 (0,0))
 pv:Gl.Own w pv xs
def UPx (mg:Nat) (vo:Value) (R:List PV) (bs bp:Nat) (pv:Value) (k:Nat):Prop:=MS mg vo R k∨MD R k∨k=bs∨k=bp∨pv.ownBlock=some k
theorem mG.keep {w w':World}{sg mg:Nat}{vo:Value}{R:List PV}{bs bp:Nat}{pv:Value}{xs:List UInt8} (h:mG w sg mg vo R bs bp pv xs) (hm:ae (fun k=>¬ UPx mg vo R bs bp pv k) w w'):mG w' sg mg vo R bs bp pv xs :=
 ⟨h.pm.keep hm (fun k hk x=>x (.inl hk)) (fun k hk x=>x (.inr (.inl hk))),hm.heap h.bs (fun x=>x (.inr (.inr (.inl rfl)))),hm.heap h.bp (fun x=>x (.inr (.inr (.inr (.inl rfl))))),h.pv.keep hm (fun k hk x=>x (.inr (.inr (.inr (.inr hk)))))⟩
theorem mG.lt {w:World}{sg mg:Nat}{vo:Value}{R:List PV}{bs bp:Nat}{pv:Value}{xs:List UInt8} (h:mG w sg mg vo R bs bp pv xs):∀ k,UPx mg vo R bs bp pv k→k<w.heap.size:=by
 rintro k (hk | hk | rfl | rfl | hk)
 ·exact h.pm.lt k hk
 ·exact h.pm.dlt k hk
 ·exact lt_of_heap h.bs
 ·exact lt_of_heap h.bp
 ·exact h.pv.lt k hk
def zx (sg mg:Nat) (W:World):Prop:=W.cell? ⟨sg,0,none⟩=some (.pointer (some ⟨mg,0,none⟩))∧sg<W.heap.size
theorem zx.keep {sg mg:Nat}{A B:World} (h:zx sg mg A) (hm:ae ai A B):zx sg mg B:=⟨(hm.cellAt h.2 (fun x=>x) 0).trans h.1,Nat.lt_of_lt_of_le h.2 hm.size⟩
def nK (R:List PV) (xs:List UInt8):List EV:=(jO R xs []).takeWhile (fun e=>bF xs e.k)
theorem Ad {w:World}{sg mg:Nat}{vo:Value}{R:List PV}{bs bp:Nat}{pv:Value}{xs:List UInt8} (h:mG w sg mg vo R bs bp pv xs) (ok:gu (aH R)) (hn:R.length≤1000000) (lx:xs.length≤1000000) :
  qw Tryz.prog 193 #[.pointer (some ⟨bs,0,none⟩),.pointer (some ⟨bp,0,none⟩)] (nK R xs).length (rQ w.heap.size (nK R xs)) (UPx mg vo R bs bp pv) ai (zx sg mg) w:=by
 intro l J Jx W hW hP hJ hJx hY h0
 have pre:=h.keep hW
 have hwW:w.heap.size≤W.heap.size:=hW.size
 clear h hW
 obtain⟨apv,cpv,hpv,_⟩:=pre.pv.rd.form
 obtain⟨UW,hUW⟩:∃ UW,UPx mg vo R bs bp pv=UW:=⟨_,rfl⟩
 rw [hUW] at h0
 have hUl:∀ k,UW k→k<W.heap.size:=fun k hk=>by rw [← hUW] at hk;exact pre.lt k hk
 have keepP:∀ A B,mG A sg mg vo R bs bp pv xs→ae (fun k=>¬ UW k) A B→mG B sg mg vo R bs bp pv xs:=fun A B hp hm=>hp.keep (by rw [hUW];exact hm)
 have SW:=lh hUW
 (refine kM _ Tryz.func193 rfl ?_;simp only [Tryz.ntmps193,List.size_toArray,List.length_cons,List.length_nil,Nat.reduceAdd,Nat.reduceSub,Array.replicate_succ,Array.replicate_zero,List.push_toArray,List.append_toArray,List.nil_append,List.cons_append])
 refine wpIn_seq ?_
 refine bT (d := .region 0 (aJ 0 Tryz.f193) false) (by kernel_rfl) ?_
 refine RW.wpIn (kp0 ?_) (by kernel_rfl)
 intro by1 w1 hby hbO m1
 refine bI ?_
 have pre1:=keepP _ _ pre (m1.mono (fun _ _ x=>x.elim))
 have hP1:=hP.keep m1
 refine wpIn_seq ?_
 refine bT (d := .region 1 (aJ 1 Tryz.f193) true) (by kernel_rfl) ?_
 refine RW.wpIn (kp1 (X:=fun m bf bt w'=>∃ fv' tv',∃ b',ae ai w1 b'∧CJ b' mg vo R xs [] m bf bt fv' tv' w') pre1.bs pre1.bp hP1.1 hP1.2 (fun b' hm=>(zF (pre1.pm.keep0 hm) (pre1.pv.rd.keep hm (fun _ _ x=>x)) (Rd.nil b') lx (by simp)).mono (fun e w' ⟨m,bf,bt,fv',tv',he,hr⟩=>⟨m,bf,bt,he,fv',tv',b',hm,hr⟩)) ?_) (by kernel_rfl)
 intros
 rename_i m bf bt w2 hres
 obtain⟨fv,tv,b',mb,wp,mr,s1,s2,s3,f1,f2⟩:=hres
 refine bI ?_
 have m2:=mb.then0 mr
 have m12:=m1.then0 m2
 have pre2:=keepP _ _ pre (m12.mono (fun _ _ x=>x.elim))
 have hbO2:=m2.heap hbO (fun x=>x)
 have hby2:by1<w2.heap.size:=lt_of_heap hbO2
 have hs12:W.heap.size≤w2.heap.size:=m12.size
 have hsb:W.heap.size≤b'.heap.size:=(m1.then0 mb).size
 have hsub0:∀ k,jf UW by1 (wZ mg vo R m bf bt fv tv) k→UW k∨W.heap.size≤k:=fun k hk=>by
  rcases hk with hk | hk | rfl
  ·exact .inl hk
  ·rcases hk with (hk | hk | rfl | rfl | hk) | rfl | hk
   ·exact .inl (by rw [← SW.out];exact .inl hk)
   ·exact .inl (by rw [← SW.out];exact .inr (.inl hk))
   ·right;omega
   ·right;omega
   ·right;have:=f1 k hk;omega
   ·right;omega
   ·right;have:=f2 k hk;omega
  ·right;omega
 have h2:J 0 (jf UW by1 (wZ mg vo R m bf bt fv tv)) w2:=hJ _ _ _ _ _ h0 (m12.mono (fun _ _ x=>x.elim)) hUl hsub0
 have frm:∀ (X:Nat→(Nat→Prop)→World→Prop),lU W.heap.size ai X→∀ i U U' A B,X i (jf UW by1 U) A→w2.heap.size≤A.heap.size→ae (fun k=>U k∧(ai k∨w2.heap.size≤k)) A B→(∀ k,U k→k<A.heap.size)→(∀ k,U' k→U k∨A.heap.size≤k)→X i (jf UW by1 U') B:=fun X hX i U U' A B hx hsz hm hus hsub=>by
  refine hX _ _ _ _ _ hx (hm.mono (fun k _ hk=>⟨.inr (.inl hk.1),hk.2.imp id (fun h=>by omega)⟩)) (fun k hk=>?_) (fun k hk=>?_)
  ·rcases hk with hk | hk | rfl
   ·have:=hUl k hk;omega
   ·exact hus k hk
   ·omega
  ·rcases hk with hk | hk | hk
   ·exact .inl (.inl hk)
   ·exact (hsub k hk).imp (fun h => .inr (.inl h)) id
   ·exact .inl (.inr (.inr hk))
 have keep2:∀ (U:Nat→Prop) (A B:World),ae (fun k=>U k∧(ai k∨w2.heap.size≤k)) A B→mG A sg mg vo R bs bp pv xs∧A.heap[by1]?=some (.cells #[.func (.yield l) #[] #[]] 150 (0,0))→mG B sg mg vo R bs bp pv xs∧B.heap[by1]?=some (.cells #[.func (.yield l) #[] #[]] 150 (0,0)):=fun U A B hm hp=>by
  refine⟨keepP _ _ hp.1 (hm.mono (fun k _ hk hu=>?_)),hm.heap hp.2 (fun hk=>?_)⟩
  ·rcases hk.2 with h | h
   ·exact h
   ·have:=hUl k hu;omega
  ·rcases hk.2 with h | h
   ·exact h
   ·omega
 refine wpIn_block ?_
 refine qC (by rfl) (enters_of Tryz.func159 (by kernel_rfl) rfl) (xx wp ok hn (by simp)) (ae.refl _ _) wp.lt (oL _ _) (fun i U args W1 hA=>by obtain⟨e,kv,vv,_,rfl,_⟩:=hA;rfl)
  (fun i U Wr=>i≤(nK R xs).length∧J i (jf UW by1 U) Wr∧(mG Wr sg mg vo R bs bp pv xs∧Wr.heap[by1]?=some (.cells #[.func (.yield l) #[] #[]] 150 (0,0)))∧w2.heap.size≤Wr.heap.size)
  (fun c i U Wr=>c = .ret∧((i=(nK R xs).length+1∧J (nK R xs).length (jf UW by1 U) Wr)∨(∃ j,i=j+1∧j<(nK R xs).length∧Jx (j+1) (jf UW by1 U) Wr))∧w2.heap.size≤Wr.heap.size)
  ?_ ?_ ⟨Nat.zero_le _,h2,⟨pre2,hbO2⟩,Nat.le_refl _⟩ ?_ ?_ ?_
 ·rintro i U U' A B ⟨h1,h2,h3,h4⟩ hm hus hsub
  exact⟨h1,frm J hJ _ _ _ _ _ h2 h4 hm hus hsub,keep2 U _ _ hm h3,Nat.le_trans h4 hm.size⟩
 ·rintro c i U U' A B ⟨h1,h2,h4⟩ hm hus hsub
  refine⟨h1,h2.imp (fun x=>⟨x.1,frm J hJ _ _ _ _ _ x.2 h4 hm hus hsub⟩) (fun⟨j,x1,x2,x3⟩=>⟨j,x1,x2,frm Jx hJx _ _ _ _ _ x3 h4 hm hus hsub⟩),Nat.le_trans h4 hm.size⟩
 ·-- one round
  intro lp i U args Wr hlp hUlp hi ⟨hin,hJi,hinv,hszr⟩ hA hUs hszW hloop ⟨_,hJa,_,_⟩ hab
  obtain⟨e,kv,vv,hei,hargs,o1,o2,u1,u2,dd,b1,b2⟩:=hA
  subst hargs
  obtain⟨hq1,hq2⟩:=rH (fun e:EV=>bF xs e.k) (jO R xs []) i e hin hei
  simp only [iT,List.setIfInBounds_toArray,List.set_cons_succ,List.set_cons_zero]
  refine wpIn_seq ?_
  refine bT (d := .region 2 (aJ 2 Tryz.f193) false) (by kernel_rfl) ?_
  refine RW.wpIn (kp2 ?_) (by kernel_rfl)
  intro w3 e3
  subst e3
  refine bI ?_
  refine bT (d := .region 3 (aJ 3 Tryz.f193) false) (by kernel_rfl) ?_
  refine RW.wpIn (kp3 ?_) (by kernel_rfl)
  intro w3 e3
  subst e3
  refine bI ?_
  refine⟨ae.refl _ _,?_⟩
  intro w4 m4 _
  have hkl:ae (fun k=>U k∧(ai k∨w2.heap.size≤k)) w3 w4:=m4.mono (fun k _ hk=>by subst hk;exact⟨hUlp,.inr hlp⟩)
  have hkl2:ae (fun k=>(U k∨gV #[kv,vv] k)∧(ai k∨w2.heap.size≤k)) w3 w4:=m4.mono (fun k _ hk=>by subst hk;exact⟨.inl hUlp,.inr hlp⟩)
  obtain⟨hp4,hby4⟩:=keep2 U _ _ hkl hinv
  have hJ4:=frm J hJ _ _ _ _ _ hJi hszr hkl hUs (fun k hk => .inl hk)
  have hJa4:=frm J hJ _ _ _ _ _ hJa hszr hkl2 (fun k hk=>by rcases hk with hk | hk;exact hUs k hk;exact hab k hk) (fun k hk => .inl hk)
  have hsz4:=Nat.le_trans hszr m4.size
  have hUs4:∀ k,U k→k<w4.heap.size:=fun k hk=>Nat.lt_of_lt_of_le (hUs k hk) m4.size
  have hUo4:∀ k,jf UW by1 U k→k<w4.heap.size:=fun k hk=>by
   rcases hk with hk | hk | rfl
   ·have:=hUl k hk;omega
   ·exact hUs4 k hk
   ·omega
  have o14:=o1.keep m4 (fun k hk x=>u1 k hk (x▸hUlp))
  have o24:=o2.keep m4 (fun k hk x=>u2 k hk (x▸hUlp))
  have hab4:∀ k,gV #[kv,vv] k→k<w4.heap.size:=fun k hk=>Nat.lt_of_lt_of_le (hab k hk) m4.size
  have hJb4:J i (fun k=>jf UW by1 U k∨gV #[kv,vv] k) w4:=hJ _ _ _ _ _ hJa4 (ae.refl _ _) (fun k hk=>by
   rcases hk with hk | (hk | hk) | hk
   ·have:=hUl k hk;omega
   ·exact hUs4 k hk
   ·exact hab4 k hk
   ·subst hk;omega) (fun k hk=>by
   rcases hk with (hk | hk | hk) | hk
   ·exact .inl (.inl hk)
   ·exact .inl (.inr (.inl (.inl hk)))
   ·exact .inl (.inr (.inr hk))
   ·exact .inl (.inr (.inl (.inr hk))))
  have HP:=xX o14.rd hp4.pv.rd
  have bp4:=ag hp4.bp 0
  have by4:=ag hby4 0
  clear hJi hinv hkl hkl2 hJa hJa4
  refine wpIn_block ?_
  refine wpIn_seq ?_
  refine bT (d := .region 4 (aJ 4 Tryz.f193) false) (by kernel_rfl) ?_
  rcases hB:bF xs e.k with _ | _
  ·rw [hB] at HP
   have hie:i=(nK R xs).length:=by
    have:¬ i<(nK R xs).length:=fun h=>by have:=hq1.2 h;rw [hB] at this;cases this
    omega
   refine RW.wpIn (kp4f (l:=l) bp4 by4 HP ?_) (by kernel_rfl)
   intros
   rename_i w5 e5
   subst e5
   refine bI ?_
   refine wpIn_cond_true rfl ?_
   refine wpIn_ret ?_
   repeat (first | refine oJ ?_ | refine kS ?_)
   rw [hie] at hJ4
   exact⟨ae.refl _ _,rfl,.inl ⟨by rw [hie],hJ4⟩,hsz4⟩
  ·rw [hB] at HP
   have hlt:=hq1.1 hB
   refine iP (Q1:=fun _ a' w'=>wpOpsIn _ _ _ _ _ _ a' w') 8 (by kernel_rfl) (kp4t (l:=l) bp4 by4 HP ?_) (fun _ _ h=>h)
   intros
   rename_i w5 e5
   subst e5
   refine ku (some 22) (ki (by kernel_rfl)) (by kernel_rfl) (by kernel_rfl) (hY i (jf UW by1 U) #[kv,vv] w5 hlt hJ4 ⟨e,kv,vv,hq2 hlt,rfl,o14,o24,fun k hk x=>?_,fun k hk x=>?_,dd,fun k hk=>by have:=b1 k hk;omega,fun k hk=>by have:=b2 k hk;omega⟩ hUo4 (by omega) hJb4 hab4) ?_
   ·have hb1:=b1 k hk
    rcases x with x | x | x
    ·have:=hUl k x;omega
    ·exact u1 k hk x
    ·omega
   ·have hb2:=b2 k hk
    rcases x with x | x | x
    ·have:=hUl k x;omega
    ·exact u2 k hk x
    ·omega
   rintro r w6 (⟨rfl,k1',k2'⟩ | ⟨rfl,k1',k2'⟩)
   ·have m46:ae (fun k=>¬ U k) w5 w6:=k2'.mono (fun k _ hk x=>hk (.inr (.inl x)))
    refine⟨_,rfl,?_⟩
    refine fJ (.bool false) (some 23) (ki (by kernel_rfl)) (by kernel_rfl) (by kernel_rfl) ?_
    refine fJ (.bool false) (some 24) (ki (by kernel_rfl)) (by kernel_rfl) (by kernel_rfl) ?_
    refine bI ?_
    refine wpIn_cond_false rfl ?_
    refine wpIn_skip ?_
    refine iI ?_
    exact⟨m46,hlt,k1',⟨keepP _ _ hp4 (k2'.mono (fun k _ hk hu=>hk (.inl hu))),k2'.heap hby4 (fun hk=>hk (.inr (.inr rfl)))⟩,Nat.le_trans hsz4 m46.size⟩
   ·have m46:ae (fun k=>¬ U k) w5 w6:=k2'.mono (fun k _ hk x=>hk (.inr (.inl x)))
    refine⟨_,rfl,?_⟩
    refine fJ (.bool true) (some 23) (ki (by kernel_rfl)) (by kernel_rfl) (by kernel_rfl) ?_
    refine fJ (.bool true) (some 24) (ki (by kernel_rfl)) (by kernel_rfl) (by kernel_rfl) ?_
    refine bI ?_
    refine wpIn_cond_true rfl ?_
    refine wpIn_ret ?_
    repeat (first | refine oJ ?_ | refine kS ?_)
    exact⟨m46,rfl,.inr ⟨i,rfl,hlt,k1'⟩,Nat.le_trans hsz4 m46.size⟩
 ·-- all have come
  rintro D U W5 hD hUD hus ⟨h1,h2,h3,h4⟩ hdef
  refine iI ?_
  refine iq hdef (results_none rfl _ _ _) ?_
  have hj:(jO R xs []).length=(nK R xs).length:=by
   have:(nK R xs).length≤(jO R xs []).length:=List.Sublist.length_le (List.takeWhile_sublist _)
   omega
  rw [hj] at h2
  have hD5:=lt_of_heap hdef
  refine⟨⟨_,rfl⟩,.inl ⟨jf UW by1 U,frm J hJ _ _ _ _ _ h2 h4 ((dJ W5 D _).mono (fun k _ hk=>by subst hk;exact⟨hUD,.inr hD⟩)) hus (fun k hk => .inl hk),fun k hk=>?_⟩⟩
  rw [World.putObj_size]
  rcases hk with hk | hk | rfl
  ·have:=hUl k hk;omega
  ·exact hus k hk
  ·omega
 ·-- a round has left
  rintro D c i U W5 hD hUD hus hi ⟨rfl,h2,h4⟩ hdef
  have hbd:∀ k,jf UW by1 U k→k<(W5.putObj D (.deferred none)).heap.size:=fun k hk=>by
   rw [World.putObj_size]
   rcases hk with hk | hk | rfl
   ·have:=hUl k hk;omega
   ·exact hus k hk
   ·omega
  have hmD:ae (fun k=>U k∧(ai k∨w2.heap.size≤k)) W5 (W5.putObj D (.deferred none)):=(dJ W5 D _).mono (fun k _ hk=>by subst hk;exact⟨hUD,.inr hD⟩)
  refine wpIn_ret ?_
  refine kS ?_
  refine iq hdef (results_none rfl _ _ _) ?_
  rcases h2 with ⟨_,h2⟩ | ⟨j,hj,hjl,h2⟩
  ·exact⟨⟨_,rfl⟩,.inl ⟨jf UW by1 U,frm J hJ _ _ _ _ _ h2 h4 hmD hus (fun k hk => .inl hk),hbd⟩⟩
  ·exact⟨⟨_,rfl⟩,.inr ⟨j,jf UW by1 U,hjl,frm Jx hJx _ _ _ _ _ h2 h4 hmD hus (fun k hk => .inl hk),hbd⟩⟩
open Go.Gl Go.RowKit
theorem zZ (w:World) (sg gf:Nat) (lb:Array Value):Calls Tryz.prog 192 #[.pointer (some ⟨sg,0,none⟩),.func (.func gf) #[] lb] w fun e w'=>∃ bs bw,e = .returned (.func (.func 244) #[] #[.pointer (some ⟨bs,0,none⟩),.pointer (some ⟨bw,0,none⟩)]) ∧
   w'.heap[bs]?=some (.cells #[.pointer (some ⟨sg,0,none⟩)] 26 (0,0))∧(∃ t,w'.heap[bw]?=some (.cells #[.func (.func gf) #[] lb] t (0,0)))∧ae ai w w'∧w.heap.size≤bs∧w.heap.size≤bw:=by
 go_enter Tryz.func192,Tryz.ntmps192
 go_wp2
 go_ret
 refine⟨w.heap.size,w.heap.size+1,rfl,dA (aU w _) _,⟨154,?_⟩,((ae.refl ai w).alloc _).alloc _,Nat.le_refl _,by omega⟩
 ·have:=aU (w.alloc (.cells #[.pointer (some ⟨sg,0,none⟩)] 26)) (.cells #[.func (.func gf) #[] lb] 154)
  rw [World.size_alloc] at this
  exact this
def OkS (sg mg:Nat) (A:World):Prop:=yA sg A∧zx sg mg A
theorem OkS.after {sg mg:Nat}{A C:World} (h:OkS sg mg A) (t:tickR sg A C):zx sg mg C:=by
 obtain⟨h1,h2,h3⟩:=h
 obtain⟨c,hc,rfl⟩:=t
 refine⟨?_,by rw [World.size_setCell];exact h3⟩
 rw [← h2]
 exact World.cell?_setCell_other A (a:=⟨sg,2,none⟩) (b:=⟨sg,0,none⟩) (v := .int .i64 (c+1)) (fun e=>by injection e with _ h _;exact absurd h (by decide))
theorem rQ.mono {B B':Nat}{L:List EV}{i:Nat}{U:Nat→Prop}{args:Array Value}{W:World} (h:rQ B L i U args W) (hb:B'≤B):rQ B' L i U args W:=by
 obtain⟨e,kv,vv,h1,h2,h3,h4,h5,h6,h7,h8,h9⟩:=h
 exact⟨e,kv,vv,h1,h2,h3,h4,h5,h6,h7,fun k hk=>Nat.le_trans hb (h8 k hk),fun k hk=>Nat.le_trans hb (h9 k hk)⟩
theorem tk_of {w0 w:World}{sg mg bs bw gf B:Nat}{vo:Value}{R:List PV}{lb:Array Value}{L:List EV}{Ui:Nat→Prop}{t1 t2:TypeId} (it:∀ W,ae (fun k=>¬ Ui k) w W→qw Tryz.prog gf lb L.length (rQ W.heap.size L) Ui ai (zx sg mg) W) (eg:∀ args w,(callFunc gf args).run Tryz.prog w = .ok (.enter gf args) w)
  (hbs:w.heap[bs]?=some (.cells #[.pointer (some ⟨sg,0,none⟩)] t1 (0,0))) (hbw:w.heap[bw]?=some (.cells #[.func (.func gf) #[] lb] t2 (0,0))) (hUi:∀ k,Ui k→k<B∧k≠sg∧(MS mg vo R k∨MD R k∨w0.heap.size≤k)) (hB:B≤w.heap.size) (hsg:sg<B) (n1:B≤bs) (n2:B≤bw) (h0:w0.heap.size≤B) :
  ∃ U0,(∀ W,ae (fun k=>¬ U0 k) w W→vG Tryz.prog 244 #[.pointer (some ⟨bs,0,none⟩),.pointer (some ⟨bw,0,none⟩)] L.length (rQ W.heap.size L) U0 (tickR sg) (OkS sg mg) W)∧∀ k,U0 k→k<w.heap.size∧k≠sg∧(MS mg vo R k∨MD R k∨w0.heap.size≤k):=by
 refine⟨fun k=>Ui k∨k=bs∨k=bw,fun W hm=>yI (it W (hm.mono (fun k _ hk x=>hk (.inl x)))) (fun A B h hm=>h.keep hm) (fun A h=>h.1) (fun A C h t=>h.after t) eg (hm.heap hbs (fun x=>x (.inr (.inl rfl)))) (hm.heap hbw (fun x=>x (.inr (.inr rfl)))) (fun k hk=>by have:=(hUi k hk).1;have:=hm.size;omega) (by have:=hm.size;omega) (fun x=>by have:=(hUi _ x).1;omega) (fun x=>by have:=(hUi _ x).1;omega) (fun x=>(hUi _ x).2.1 rfl) (by omega) (by omega),fun k hk=>?_⟩
 rcases hk with hk | rfl | rfl
 ·exact⟨by have:=(hUi k hk).1;omega,(hUi k hk).2⟩
 ·exact⟨lt_of_heap hbs,by omega,.inr (.inr (by omega))⟩
 ·exact⟨lt_of_heap hbw,by omega,.inr (.inr (by omega))⟩
def CS (w w':World) (sg mg:Nat) (vo:Value) (R:List PV) (L:List EV) (lb:Array Value):Prop :=
 ∃ U0,(∀ W,ae (fun k=>¬ U0 k) w' W→vG Tryz.prog 244 lb L.length (rQ W.heap.size L) U0 (tickR sg) (OkS sg mg) W)∧∀ k,U0 k→k<w'.heap.size∧k≠sg∧(MS mg vo R k∨MD R k∨w.heap.size≤k)
theorem CS.keep {w w' w'':World}{sg mg:Nat}{vo:Value}{R:List PV}{L:List EV}{lb:Array Value}{T:Nat→Prop} (h:CS w w' sg mg vo R L lb) (hm:ae T w' w'') (ht:∀ k,T k→k<w.heap.size) (h1:∀ k,T k→k=sg∨(¬ MS mg vo R k∧¬ MD R k)):CS w w'' sg mg vo R L lb:=by
 obtain⟨U0,it,hU⟩:=h
 refine⟨U0,fun W hW=>it W (hm.trans hW (fun k _ hk x=>?_) (fun _ _ x=>x)),fun k hk=>⟨Nat.lt_of_lt_of_le (hU k hk).1 hm.size,(hU k hk).2⟩⟩
 obtain⟨_,a,b⟩:=hU k x
 rcases h1 k hk with y | ⟨y,z⟩
 ·exact a y
 ·rcases b with b | b | b
  ·exact y b
  ·exact z b
  ·have:=ht k hk;omega
def xZ (w w':World) (sg mg:Nat) (vo:Value) (R:List PV) (L:List EV) (lb:Array Value):Prop:=ae ai w w'∧CS w w' sg mg vo R L lb
theorem um {w:World}{sg mg:Nat}{vo jv q:Value}{R:List PV}{J:List JV}{n:Int}{xs:List UInt8} (h:KM w sg mg vo R jv J n) (hq:Rd w q xs) (lx:xs.length≤1000000) (ok:gu (aH R)) (hn:R.length≤1000000) :
  Calls Tryz.prog 114 #[.pointer (some ⟨sg,0,none⟩),q] w fun e w'=>∃ b1 b2,e = .returned (.func (.func 244) #[] #[.pointer (some ⟨b1,0,none⟩),.pointer (some ⟨b2,0,none⟩)])∧xZ w w' sg mg vo R (nK R xs) #[.pointer (some ⟨b1,0,none⟩),.pointer (some ⟨b2,0,none⟩)]:=by
 obtain⟨aq,cq,rfl,_⟩:=hq.form
 have m1:ae ai w ((w.alloc (.cells #[.pointer (some ⟨sg,0,none⟩)] 26)).alloc (.cells #[.slice aq xs.length cq] 91)):=((ae.refl ai w).alloc _).alloc _
 have b1:((w.alloc (.cells #[.pointer (some ⟨sg,0,none⟩)] 26)).alloc (.cells #[.slice aq xs.length cq] 91)).heap[w.heap.size]?=some (.cells #[.pointer (some ⟨sg,0,none⟩)] 26 (0,0)):=dA (aU w _) _
 have b2:((w.alloc (.cells #[.pointer (some ⟨sg,0,none⟩)] 26)).alloc (.cells #[.slice aq xs.length cq] 91)).heap[w.heap.size+1]?=some (.cells #[.slice aq xs.length cq] 91 (0,0)):=by have:=aU (w.alloc (.cells #[.pointer (some ⟨sg,0,none⟩)] 26)) (.cells #[.slice aq xs.length cq] 91);rwa [World.size_alloc] at this
 have hS1:((w.alloc (.cells #[.pointer (some ⟨sg,0,none⟩)] 26)).alloc (.cells #[.slice aq xs.length cq] 91)).heap.size=w.heap.size+2:=by simp
 have d2:=ag b2 0
 have CL:=lh (wV (hq.keep m1 (fun _ _ x=>x)) lx)
 have HM:=lh h
 have sgl:=h.lt sg (.inl rfl)
 have OKH:=lh (And.intro ok (And.intro hn lx))
 have M1:=lh m1
 have B1:=lh b1
 have B2:=lh b2
 have HS1:=lh hS1
 clear h hq ok hn lx m1 b1 b2 hS1
 go_enter Tryz.func114,Tryz.ntmps114
 go_wp2_with fail
 refine CL.out.mono ?_
 rintro e w2 ⟨v2,rfl,o2,m2,f2⟩
 have B2a:=m2.heap B2.out (fun x=>x)
 have e2:=ag B2a 0
 have e3:=bY B2a 0
 have hs2:=m2.size
 rw [HS1.out] at hs2
 have n2:∀ k,v2.ownBlock=some k→w.heap.size+2≤k:=fun k hk=>by have:=f2 k hk;have:=HS1.out;omega
 obtain⟨W3,hW3⟩:∃ W3,W3=w2.setCell ⟨w.heap.size+1,0,none⟩ v2:=⟨_,rfl⟩
 have m3:ae (fun k=>k=w.heap.size+1) w2 W3:=by rw [hW3];exact (ae.refl (fun k=>k=w.heap.size+1) w2).setCell (p:=⟨w.heap.size+1,0,none⟩) (.inl rfl) _
 have M3:=lh (show ae ai w W3 from (M1.out.then0 m2).trans m3 (fun _ _ x=>x) (fun i hi x=>by omega))
 have B13:=lh (m3.heap (m2.heap B1.out (fun x=>x)) (show ¬ w.heap.size=w.heap.size+1 by omega))
 have B23:=lh (show W3.heap[w.heap.size+1]?=some (.cells #[v2] 91 (0,0)) by rw [hW3];exact heap_set B2a 0 v2)
 have O3:=lh (o2.keep m3 (fun k hk x=>by have:=n2 k hk;omega))
 have N2:=lh n2
 have S3:=lh (show w.heap.size+2≤W3.heap.size by have:=m3.size;omega)
 obtain⟨a2,cc2,rfl,_⟩:=o2.rd.form
 have d1:=ag B13.out 0
 have HW3:=lh hW3
 clear o2 m2 f2 hs2 n2 m3 M1 B1 B2 CL B2a
 have PP:=lh (show mG W3 sg mg vo R w.heap.size (w.heap.size+1) (.slice a2 xs.length cc2) xs from⟨(HM.out.keep0 M3.out).pm,B13.out,B23.out,O3.out⟩)
 have IT:=lh (fun W (hm:ae (fun k=>¬ UPx mg vo R w.heap.size (w.heap.size+1) (.slice a2 xs.length cc2) k) W3 W)=>Ad (PP.out.keep hm) OKH.out.1 OKH.out.2.1 OKH.out.2.2)
 rw [hW3] at d1 IT
 clear hW3
 go_wp2_with fail
 refine (zZ _ sg 193 #[.pointer (some ⟨w.heap.size,0,none⟩),.pointer (some ⟨w.heap.size+1,0,none⟩)]).mono ?_
 rintro e w4 ⟨b1,b2,rfl,hb1,⟨t2,hb2⟩,m4,q1,q2⟩
 rw [← HW3.out] at m4 q1 q2 IT
 have FIN:=lh (show xZ w w4 sg mg vo R (nK R xs) #[.pointer (some ⟨b1,0,none⟩),.pointer (some ⟨b2,0,none⟩)] from by
  have hs3:=S3.out
  refine⟨M3.out.then0 m4,tk_of (B:=W3.heap.size) (fun W hm=>IT.out W (m4.trans hm (fun _ _ x=>x.elim) (fun _ _ x=>x))) (enters_of Tryz.func193 (by kernel_rfl) rfl) hb1 hb2 (fun k hk=>?_) m4.size (by omega) q1 q2 (by omega)⟩
  refine⟨PP.out.lt k hk,?_⟩
  rcases hk with hk | hk | rfl | rfl | hk
  ·exact⟨fun x=>HM.out.s1.1 (x▸hk),.inl hk⟩
  ·exact⟨fun x=>HM.out.data k (.inl hk) (.inl x),.inr (.inl hk)⟩
  ·exact⟨by omega,.inr (.inr (Nat.le_refl _))⟩
  ·exact⟨by omega,.inr (.inr (by omega))⟩
  ·have:=N2.out k hk;exact⟨by omega,.inr (.inr (by omega))⟩)
 clear hb1 hb2 m4 q1 q2 IT PP d1 d2 e2 e3
 go_wp2
 go_ret
 exact⟨_,_,rfl,FIN.out⟩
open Go.Gl Go.RowKit
structure nM (Sx X:Nat→Prop) (H:Nat→Obj) (w:World) (LL:List EV) (ob:Nat) (i:Nat) (U:Nat→Prop) (W:World) (v:Value) (L:List EV):Prop where
 hob:W.heap[ob]?=some (.cells #[v] 29 (0,0))
 hx:∀ k,X k→W.heap[k]?=some (H k)
 row:aO W 152 2 v L.length (bZ L)
 own:∀ e∈L,Gl.Own W e.kv e.k∧Gl.Own W e.vv e.v
 eq:L.map EV.ent=(LL.take i).map EV.ent
 u1:¬ U ob
 u2:∀ k,X k→¬ U k
 vb:∀ k,v.ownBlock=some k→w.heap.size≤k∧k≠ob∧¬ X k∧¬ U k
 db:∀ k,kV L k→w.heap.size≤k∧k≠ob∧¬ X k∧v.ownBlock≠some k∧¬ U k
 g1:w.heap.size≤ob
 g2:∀ k,X k→w.heap.size≤k
 ne:¬ X ob
 mods:ae Sx w W
 sx:∀ k,Sx k→k<w.heap.size
section
variable {Sx X:Nat→Prop}{H:Nat→Obj}
theorem nM.dlt {w W:World}{LL L:List EV}{ob i:Nat}{U:Nat→Prop}{v:Value} (h:nM Sx X H w LL ob i U W v L) {k:Nat} (hk:kV L k):k<W.heap.size:=by
 obtain⟨e,he,hk | hk⟩:=hk
 ·exact (h.own e he).1.lt k hk
 ·exact (h.own e he).2.lt k hk
theorem nM.keep {w W W':World}{LL L:List EV}{ob i:Nat}{U U' T:Nat→Prop}{v:Value} (h:nM Sx X H w LL ob i U W v L) (hm:ae T W W') (h1:¬ T ob) (h2:∀ k,X k→¬ T k) (h3:∀ k,v.ownBlock=some k→¬ T k) (h4:∀ k,kV L k→¬ T k) (h5:∀ k,T k→Sx k∨w.heap.size≤k)
  (hU:∀ k,U' k→U k∨W.heap.size≤k):nM Sx X H w LL ob i U' W' v L:=by
 have hl1:=lt_of_heap h.hob
 refine⟨hm.heap h.hob h1,fun k hk=>hm.heap (h.hx k hk) (h2 k hk),h.row.keep hm h3,fun e he=>⟨(h.own e he).1.keep hm (fun k hk=>h4 k ⟨e,he,.inl hk⟩),(h.own e he).2.keep hm (fun k hk=>h4 k ⟨e,he,.inr hk⟩)⟩,h.eq,fun hu=>?_,fun k hk hu=>?_,fun k hk=>?_,fun k hk=>?_,h.g1,h.g2,h.ne,h.mods.trans hm (fun _ _ x=>x) (fun k hk ht=>by
  rcases h5 k ht with x | x
  ·exact x
  ·omega),h.sx⟩
 ·rcases hU _ hu with x | x
  ·exact h.u1 x
  ·omega
 ·rcases hU _ hu with x | x
  ·exact h.u2 k hk x
  ·have:=lt_of_heap (h.hx k hk);omega
 ·obtain⟨a,b,c,d⟩:=h.vb k hk
  refine⟨a,b,c,fun hu=>?_⟩
  rcases hU _ hu with x | x
  ·exact d x
  ·have:=h.row.lt k hk;omega
 ·obtain⟨a,b,c,d,e⟩:=h.db k hk
  refine⟨a,b,c,d,fun hu=>?_⟩
  rcases hU _ hu with x | x
  ·exact e x
  ·have:=h.dlt hk;omega
theorem nM.frm {w A B:World}{LL L:List EV}{ob i base:Nat}{U U':Nat→Prop}{v:Value} (h:nM Sx X H w LL ob i U A v L) (hb:w.heap.size≤base) (hm:ae (fun k=>U k∧(ai k∨base≤k)) A B) (hsub:∀ k,U' k→U k∨A.heap.size≤k):nM Sx X H w LL ob i U' B v L :=
 h.keep hm (fun x=>h.u1 x.1) (fun k hk x=>h.u2 k hk x.1) (fun k hk x=>(h.vb k hk).2.2.2 x.1) (fun k hk x=>(h.db k hk).2.2.2.2 x.1) (fun k x=>by rcases x.2 with y | y;exact y.elim;exact .inr (by omega)) hsub
theorem nM.step {w W w7 w8 w9 w10 w11:World}{LL L:List EV}{ob i:Nat}{U:Nat→Prop}{v kv vv d1 d2 v8:Value}{e:EV} (h:nM Sx X H w LL ob i (fun k=>U k∨gV #[kv,vv] k) W v L) (hlen:L.length=i) (hget:LL[i]?=some e) (hus:∀ k,U k→k<W.heap.size) (hws:w.heap.size≤W.heap.size)
  (hk:∀ k,kv.ownBlock=some k→¬ U k) (hv:∀ k,vv.ownBlock=some k→¬ U k) (bk:∀ k,kv.ownBlock=some k→w.heap.size≤k∧k<W.heap.size) (bv:∀ k,vv.ownBlock=some k→w.heap.size≤k∧k<W.heap.size)
  (o1:Gl.Own w7 d1 e.k) (o2:Gl.Own w7 d2 e.v) (f1:aF W d1) (f2:aF W d2) (m7:ae ai W w7) (o8:aO w8 152 2 v8 (L.length+1) (bZ L ++ [d1,d2])) (m8:ae (dC v) w7 w8) (f8:v8.ownBlock=v.ownBlock∨aF w7 v8) (h9:w9=w8.setCell ⟨ob,0,none⟩ v8)
  (m10:ae (dC kv) w9 w10) (m11:ae (dC vv) w10 w11):nM Sx X H w LL ob (i+1) U w11 v8 (L ++ [⟨d1,d2,e.k,e.v⟩])∧ae (fun k=>¬ U k) W w11∧(∀ T:Nat→Prop,(∀ k,T k→k<w.heap.size)→ae (fun k=>¬ T k) W w11):=by
 have m9:ae (fun k=>k=ob) w8 w9:=by rw [h9];exact (ae.refl (fun k=>k=ob) w8).setCell (p:=⟨ob,0,none⟩) (.inl rfl) v8
 have hlo:=lt_of_heap h.hob
 have s7:=m7.size
 have s8:=m8.size
 have aK:∀ k,kv.ownBlock=some k→gV #[kv,vv] k:=fun k hk=>⟨kv,by simp,hk⟩
 have aV:∀ k,vv.ownBlock=some k→gV #[kv,vv] k:=fun k hk=>⟨vv,by simp,hk⟩
 have xl:∀ k,X k→k<W.heap.size:=fun k hk=>lt_of_heap (h.hx k hk)
 have b8:∀ k,v8.ownBlock=some k→w.heap.size≤k∧k≠ob∧¬ X k∧¬ U k∧kv.ownBlock≠some k∧vv.ownBlock≠some k:=fun k hk8=>by
  rcases f8 with f | f
  ·obtain⟨a,b,c,d⟩:=h.vb k (f▸hk8)
   exact⟨a,b,c,fun x=>d (.inl x),fun x=>d (.inr (aK k x)),fun x=>d (.inr (aV k x))⟩
  ·have:=f k hk8
   exact⟨by omega,by omega,fun x=>by have:=xl k x;omega,fun x=>by have:=hus k x;omega,fun x=>by have:=bk k x;omega,fun x=>by have:=bv k x;omega⟩
 have dlt:∀ k,kV (L ++ [⟨d1,d2,e.k,e.v⟩]) k→kV L k∨((d1.ownBlock=some k∨d2.ownBlock=some k)∧W.heap.size≤k∧k<w7.heap.size):=fun k hk=>by
  obtain⟨x,hx,hk⟩:=hk
  rw [List.mem_append,List.mem_singleton] at hx
  rcases hx with hx | rfl
  ·exact .inl ⟨x,hx,hk⟩
  ·rcases hk with hk | hk
   ·exact .inr ⟨.inl hk,f1 k hk,o1.lt k hk⟩
   ·exact .inr ⟨.inr hk,f2 k hk,o2.lt k hk⟩
 have bd:∀ k,kV (L ++ [⟨d1,d2,e.k,e.v⟩]) k→w.heap.size≤k∧k≠ob∧¬ X k∧v.ownBlock≠some k∧v8.ownBlock≠some k∧¬ U k∧kv.ownBlock≠some k∧vv.ownBlock≠some k:=fun k hkd=>by
  rcases dlt k hkd with hm | ⟨_,h1,h2⟩
  ·obtain⟨a,b,c,d,e⟩:=h.db k hm
   have:=h.dlt hm
   refine⟨a,b,c,d,fun x=>?_,fun x=>e (.inl x),fun x=>e (.inr (aK k x)),fun x=>e (.inr (aV k x))⟩
   rcases f8 with f | f
   ·exact d (f▸x)
   ·have:=f k x;omega
  ·refine⟨by omega,by omega,fun x=>by have:=xl k x;omega,fun x=>by have:=h.row.lt k x;omega,fun x=>?_,fun x=>by have:=hus k x;omega,fun x=>by have:=bk k x;omega,fun x=>by have:=bv k x;omega⟩
   rcases f8 with f | f
   ·have:=h.row.lt k (f▸x);omega
   ·have:=f k x;omega
 have tot:ae (fun k=>k=ob∨v.ownBlock=some k∨kv.ownBlock=some k∨vv.ownBlock=some k) W w11 :=
  (((m7.trans m8 (U:=fun k=>k=ob∨v.ownBlock=some k∨kv.ownBlock=some k∨vv.ownBlock=some k) (fun _ _ x=>x.elim) (fun k _ x => .inr (.inl x))).trans m9 (fun _ _ x=>x) (fun k _ x => .inl x)).trans m10 (fun _ _ x=>x) (fun k _ x => .inr (.inr (.inl x)))).trans m11 (fun _ _ x=>x) (fun k _ x => .inr (.inr (.inr x)))
 have nob:¬ dC kv ob:=fun x=>h.u1 (.inr (aK _ x))
 have vob:¬ dC vv ob:=fun x=>h.u1 (.inr (aV _ x))
 refine⟨⟨?_,fun k hk=>?_,?_,?_,?_,fun x=>h.u1 (.inl x),fun k hk x=>h.u2 k hk (.inl x),fun k hk=>?_,fun k hk=>?_,h.g1,h.g2,h.ne,?_,h.sx⟩,tot.mono ?_,fun T hT=>tot.mono ?_⟩
 ·refine m11.heap (m10.heap ?_ nob) vob
  rw [h9]
  exact heap_set (m8.heap (m7.heap h.hob (fun x=>x)) (fun x=>(h.vb ob x).2.1 rfl)) 0 v8
 ·exact m11.heap (m10.heap (m9.heap (m8.heap (m7.heap (h.hx k hk) (fun x=>x)) (fun x=>(h.vb k x).2.2.1 hk)) (fun x=>h.ne (x▸hk))) (fun x=>h.u2 k hk (.inr (aK k x)))) (fun x=>h.u2 k hk (.inr (aV k x)))
 ·rw [List.length_append,List.length_singleton,iw]
  exact ((o8.keep m9 (fun k hk x=>(b8 k hk).2.1 x)).keep m10 (fun k hk x=>(b8 k hk).2.2.2.2.1 x)).keep m11 (fun k hk x=>(b8 k hk).2.2.2.2.2 x)
 ·have m911:ae (fun k=>k=ob∨v.ownBlock=some k∨kv.ownBlock=some k∨vv.ownBlock=some k) w7 w11 :=
   ((m8.trans m9 (U:=fun k=>k=ob∨v.ownBlock=some k∨kv.ownBlock=some k∨vv.ownBlock=some k) (fun k _ x => .inr (.inl x)) (fun k _ x => .inl x)).trans m10 (fun _ _ x=>x) (fun k _ x => .inr (.inr (.inl x)))).trans m11 (fun _ _ x=>x) (fun k _ x => .inr (.inr (.inr x)))
  have nt:∀ k,kV (L ++ [⟨d1,d2,e.k,e.v⟩]) k→¬ (k=ob∨v.ownBlock=some k∨kv.ownBlock=some k∨vv.ownBlock=some k):=fun k hk x=>by
   obtain⟨_,a,_,b,_,_,c,d⟩:=bd k hk
   rcases x with x | x | x | x
   ·exact a x
   ·exact b x
   ·exact c x
   ·exact d x
  intro x hx
  have hx':=hx
  rw [List.mem_append,List.mem_singleton] at hx
  rcases hx with hx | rfl
  ·exact⟨((h.own x hx).1.keep m7 (fun _ _ y=>y)).keep m911 (fun k hk=>nt k ⟨x,hx',.inl hk⟩),((h.own x hx).2.keep m7 (fun _ _ y=>y)).keep m911 (fun k hk=>nt k ⟨x,hx',.inr hk⟩)⟩
  ·exact⟨o1.keep m911 (fun k hk=>nt k ⟨_,hx',.inl hk⟩),o2.keep m911 (fun k hk=>nt k ⟨_,hx',.inr hk⟩)⟩
 ·rw [List.take_add_one,hget,List.map_append,List.map_append,h.eq]
  rfl
 ·obtain⟨a,b,c,d,_⟩:=b8 k hk
  exact⟨a,b,c,d⟩
 ·obtain⟨a,b,c,_,d,e,_⟩:=bd k hk
  exact⟨a,b,c,d,e⟩
 ·refine h.mods.trans tot (fun _ _ x=>x) (fun k hk x=>?_)
  rcases x with rfl | x | x | x
  ·have:=h.g1;omega
  ·have:=(h.vb k x).1;omega
  ·have:=(bk k x).1;omega
  ·have:=(bv k x).1;omega
 ·intro k _ x hu
  rcases x with rfl | x | x | x
  ·exact h.u1 (.inl hu)
  ·exact (h.vb k x).2.2.2 (.inl hu)
  ·exact hk k x hu
  ·exact hv k x hu
 ·intro k _ x hu
  have hk0:=hT k hu
  rcases x with rfl | x | x | x
  ·have:=h.g1;omega
  ·have:=(h.vb k x).1;omega
  ·have:=(bk k x).1;omega
  ·have:=(bv k x).1;omega
theorem nM.step0 {w W w8 w9:World}{LL L:List EV}{ob i:Nat}{U:Nat→Prop}{v kv vv v8:Value}{e:EV} (h:nM Sx X H w LL ob i (fun k=>U k∨gV #[kv,vv] k) W v L) (hlen:L.length=i) (hget:LL[i]?=some e) (hus:∀ k,U k→k<W.heap.size) (hws:w.heap.size≤W.heap.size)
  (hk:∀ k,kv.ownBlock=some k→¬ U k) (hv:∀ k,vv.ownBlock=some k→¬ U k) (bk:∀ k,kv.ownBlock=some k→w.heap.size≤k) (bv:∀ k,vv.ownBlock=some k→w.heap.size≤k)
  (o1:Gl.Own W kv e.k) (o2:Gl.Own W vv e.v) (o8:aO w8 152 2 v8 (L.length+1) (bZ L ++ [kv,vv])) (m8:ae (dC v) W w8) (f8:v8.ownBlock=v.ownBlock∨aF W v8) (h9:w9=w8.setCell ⟨ob,0,none⟩ v8) :
  nM Sx X H w LL ob (i+1) U w9 v8 (L ++ [⟨kv,vv,e.k,e.v⟩])∧ae (fun k=>¬ U k) W w9∧(∀ T:Nat→Prop,(∀ k,T k→k<w.heap.size)→ae (fun k=>¬ T k) W w9):=by
 have m9:ae (fun k=>k=ob) w8 w9:=by rw [h9];exact (ae.refl (fun k=>k=ob) w8).setCell (p:=⟨ob,0,none⟩) (.inl rfl) v8
 have hlo:=lt_of_heap h.hob
 have aK:∀ k,kv.ownBlock=some k→gV #[kv,vv] k:=fun k hk=>⟨kv,by simp,hk⟩
 have aV:∀ k,vv.ownBlock=some k→gV #[kv,vv] k:=fun k hk=>⟨vv,by simp,hk⟩
 have xl:∀ k,X k→k<W.heap.size:=fun k hk=>lt_of_heap (h.hx k hk)
 have b8:∀ k,v8.ownBlock=some k→w.heap.size≤k∧k≠ob∧¬ X k∧¬ U k∧kv.ownBlock≠some k∧vv.ownBlock≠some k:=fun k hk8=>by
  rcases f8 with f | f
  ·obtain⟨a,b,c,d⟩:=h.vb k (f▸hk8)
   exact⟨a,b,c,fun x=>d (.inl x),fun x=>d (.inr (aK k x)),fun x=>d (.inr (aV k x))⟩
  ·have:=f k hk8
   exact⟨by omega,by omega,fun x=>by have:=xl k x;omega,fun x=>by have:=hus k x;omega,fun x=>by have:=o1.lt k x;omega,fun x=>by have:=o2.lt k x;omega⟩
 have dc:∀ k,kV (L ++ [⟨kv,vv,e.k,e.v⟩]) k→kV L k∨kv.ownBlock=some k∨vv.ownBlock=some k:=fun k hk=>by
  obtain⟨x,hx,hk⟩:=hk
  rw [List.mem_append,List.mem_singleton] at hx
  rcases hx with hx | rfl
  ·exact .inl ⟨x,hx,hk⟩
  ·exact .inr hk
 have bd:∀ k,kV (L ++ [⟨kv,vv,e.k,e.v⟩]) k→w.heap.size≤k∧k≠ob∧¬ X k∧v.ownBlock≠some k∧v8.ownBlock≠some k∧¬ U k:=fun k hkd=>by
  rcases dc k hkd with hm | hm | hm
  ·obtain⟨a,b,c,d,e⟩:=h.db k hm
   have:=h.dlt hm
   refine⟨a,b,c,d,fun x=>?_,fun x=>e (.inl x)⟩
   rcases f8 with f | f
   ·exact d (f▸x)
   ·have:=f k x;omega
  ·exact⟨bk k hm,fun x=>h.u1 (.inr (x▸aK k hm)),fun x=>h.u2 k x (.inr (aK k hm)),fun x=>(h.vb k x).2.2.2 (.inr (aK k hm)),fun x=>(b8 k x).2.2.2.2.1 hm,hk k hm⟩
  ·exact⟨bv k hm,fun x=>h.u1 (.inr (x▸aV k hm)),fun x=>h.u2 k x (.inr (aV k hm)),fun x=>(h.vb k x).2.2.2 (.inr (aV k hm)),fun x=>(b8 k x).2.2.2.2.2 hm,hv k hm⟩
 have tot:ae (fun k=>k=ob∨v.ownBlock=some k) W w9:=m8.trans m9 (fun _ _ x => .inr x) (fun k _ x => .inl x)
 have nt:∀ k,kV (L ++ [⟨kv,vv,e.k,e.v⟩]) k→¬ (k=ob∨v.ownBlock=some k):=fun k hk x=>by
  obtain⟨_,a,_,b,_,_⟩:=bd k hk
  rcases x with x | x
  ·exact a x
  ·exact b x
 refine⟨⟨?_,fun k hk=>?_,?_,fun x hx=>?_,?_,fun x=>h.u1 (.inl x),fun k hk x=>h.u2 k hk (.inl x),fun k hk=>?_,fun k hk=>?_,h.g1,h.g2,h.ne,?_,h.sx⟩,tot.mono ?_,fun T hT=>tot.mono ?_⟩
 ·rw [h9]
  exact heap_set (m8.heap h.hob (fun x=>(h.vb ob x).2.1 rfl)) 0 v8
 ·exact tot.heap (h.hx k hk) (fun x=>by
   rcases x with x | x
   ·exact h.ne (x▸hk)
   ·exact (h.vb k x).2.2.1 hk)
 ·rw [List.length_append,List.length_singleton,iw]
  exact o8.keep m9 (fun k hk x=>(b8 k hk).2.1 x)
 ·have hx':=hx
  rw [List.mem_append,List.mem_singleton] at hx
  rcases hx with hx | rfl
  ·exact⟨(h.own x hx).1.keep tot (fun k hk=>nt k ⟨x,hx',.inl hk⟩),(h.own x hx).2.keep tot (fun k hk=>nt k ⟨x,hx',.inr hk⟩)⟩
  ·exact⟨o1.keep tot (fun k hk=>nt k ⟨_,hx',.inl hk⟩),o2.keep tot (fun k hk=>nt k ⟨_,hx',.inr hk⟩)⟩
 ·rw [List.take_add_one,hget,List.map_append,List.map_append,h.eq]
  rfl
 ·obtain⟨a,b,c,d,_⟩:=b8 k hk
  exact⟨a,b,c,d⟩
 ·obtain⟨a,b,c,_,d,e⟩:=bd k hk
  exact⟨a,b,c,d,e⟩
 ·refine h.mods.trans tot (fun _ _ x=>x) (fun k hk x=>?_)
  rcases x with rfl | x
  ·have:=h.g1;omega
  ·have:=(h.vb k x).1;omega
 ·intro k _ x hu
  rcases x with rfl | x
  ·exact h.u1 (.inl hu)
  ·exact (h.vb k x).2.2.2 (.inl hu)
 ·intro k _ x hu
  have hk0:=hT k hu
  rcases x with rfl | x
  ·have:=h.g1;omega
  ·have:=(h.vb k x).1;omega
end
structure qY (w w':World) (v:Value) (L:List EV):Prop where
 row:aO w' 152 2 v L.length (bZ L)
 own:∀ e∈L,Gl.Own w' e.kv e.k∧Gl.Own w' e.vv e.v
 vf:aF w v
 df:∀ k,kV L k→w.heap.size≤k∧v.ownBlock≠some k
theorem nM.got {Sx X:Nat→Prop}{H:Nat→Obj}{T:Nat→Prop}{w W:World}{LL L:List EV}{ob i:Nat}{U:Nat→Prop}{v:Value} (h:nM Sx X H w LL ob i U W v L) {W':World} (hm:ae T W W') (hT:∀ k,T k→U k∧w.heap.size≤k):qY w W' v L∧ae Sx w W' :=
 have h':=h.keep hm (fun x=>h.u1 (hT _ x).1) (fun k hk x=>h.u2 k hk (hT _ x).1) (fun k hk x=>(h.vb k hk).2.2.2 (hT _ x).1) (fun k hk x=>(h.db k hk).2.2.2.2 (hT _ x).1) (fun k x => .inr (hT k x).2) (U':=U) (fun k hk => .inl hk)
 ⟨⟨h'.row,h'.own,fun k hk=>(h'.vb k hk).1,fun k hk=>⟨(h'.db k hk).1,(h'.db k hk).2.2.2.1⟩⟩,h'.mods⟩
theorem qY.prow {w w':World}{v:Value}{L:List EV} (h:qY w w' v L):iU w' v L:=⟨h.row.rd,fun e he=>⟨(h.own e he).1.rd,(h.own e he).2.rd⟩⟩
theorem qY.lt {w w':World}{v:Value}{L:List EV} (h:qY w w' v L):(∀ k,v.ownBlock=some k→k<w'.heap.size)∧∀ k,kV L k→k<w'.heap.size:=⟨h.row.lt,fun k ⟨e,he,hk⟩=>by
 rcases hk with hk | hk
 ·exact (h.own e he).1.lt k hk
 ·exact (h.own e he).2.lt k hk⟩
open Go.Gl Go.RowKit
open Go.Gl Go.RowKit
theorem Jq:(Tryz.prog.info? 152).map (fun i=>(i.zero,i.size,i.bytes))=some (some (.agg #[.slice none 0 0,.slice none 0 0]),2,48):=by kernel_rfl
theorem dm0 {w:World}{x0 x1 x2 x3 x4 x5 x6 x7 x8 x9 aW bn bi aZ aP aQ aS aT aX aY:Value}{df:List Deferred}{Q:Exit→Act→World→Prop}
  (hK:∀  (w':World),w'=w→Q .normal ⟨#[x0,x1,.slice none 0 0,x3,x4,x5,x6,x7,x8,x9,aW,bn,bi,aZ,aP,aQ,aS,aT,aX,aY],df⟩ w'):RW Tryz.prog (aJ 0 Tryz.f20) false Q ⟨#[x0,x1,x2,x3,x4,x5,x6,x7,x8,x9,aW,bn,bi,aZ,aP,aQ,aS,aT,aX,aY],df⟩ w:=by
 have HQ:=lh hK
 clear hK
 refine bU [(0,false)] (by kernel_rfl) ?_
 refine az [0] [(.slice none 0 0)] rfl (by kernel_rfl) (by kernel_rfl) (.inr trivial) ?_
 exact aA (bg (K:=Q .normal) (by kernel_rfl) (HQ.out  _ rfl))
theorem dm1 {w:World}{x0 x1 x2 x3 x4 x5 x6 x7 x8 x9 aW bn bi aZ aP aQ aS aT aX aY:Value}{df:List Deferred}{Q:Exit→Act→World→Prop}
  (hK:∀ (bq:Nat) (w':World),bq=w.heap.size→w'.heap[bq]?=some (.cells #[.slice none 0 0] 29 (0,0))→ae ai w w'→Q .normal ⟨#[x0,x1,x2,.pointer (some ⟨bq,0,none⟩),x4,x5,x6,x7,x8,x9,aW,bn,bi,aZ,aP,aQ,aS,aT,aX,aY],df⟩ w'):RW Tryz.prog (aJ 1 Tryz.f20) false Q ⟨#[x0,x1,x2,x3,x4,x5,x6,x7,x8,x9,aW,bn,bi,aZ,aP,aQ,aS,aT,aX,aY],df⟩ w:=by
 have HQ:=lh hK
 clear hK
 refine bU [(0,false)] (by kernel_rfl) ?_
 refine fG (.cells #[.slice none 0 0] 29) (some 3) (ki (by kernel_rfl)) (by kernel_rfl) ?_
 intro k1 w_k1 hk_k1 hO_k1 hm_k1 hl_k1
 refine⟨fun _=>trivial,?_⟩
 exact aA (bg (K:=Q .normal) (by kernel_rfl) (HQ.out  k1 w_k1 hk_k1 hO_k1 hm_k1))
section
variable {x0 x1 x2 x3 x4 x5 x6 x7 x8 x9 aW bn bi aZ aP aQ aS aT aX aY:Value}{df:List Deferred}{Q:Exit→Act→World→Prop}
theorem dm2 {w:World}{sg mg:Nat}{X:Nat→Nat→Nat→Value→Value→World→Prop} (c1:w.cell? ⟨sg,0,none⟩=some (.pointer (some ⟨mg,0,none⟩))) (hC:Calls Tryz.prog 91 #[.pointer (some ⟨mg,0,none⟩),.slice none 0 0,.slice none 0 0] w fun e w'=>∃ m bf bt fv' tv',e = .returned (.func (.func 159) #[] #[.pointer (some ⟨m,0,none⟩),.pointer (some ⟨bf,0,none⟩),.pointer (some ⟨bt,0,none⟩)])∧X m bf bt fv' tv' w')
  (hK:∀ (y6 y7 y8 y9:Value) (m bf bt:Nat) (fv' tv':Value) (w':World),X m bf bt fv' tv' w'→Q .normal ⟨#[.pointer (some ⟨sg,0,none⟩),x1,x2,x3,x4,x5,y6,y7,y8,y9,.func (.func 159) #[] #[.pointer (some ⟨m,0,none⟩),.pointer (some ⟨bf,0,none⟩),.pointer (some ⟨bt,0,none⟩)],bn,bi,aZ,aP,aQ,aS,aT,aX,aY],df⟩ w'):RW Tryz.prog (aJ 2 Tryz.f20) false Q ⟨#[.pointer (some ⟨sg,0,none⟩),x1,x2,x3,x4,x5,x6,x7,x8,x9,aW,bn,bi,aZ,aP,aQ,aS,aT,aX,aY],df⟩ w:=by
 have HQ:=lh hK
 clear hK
 refine bU [(0,false),(1,false),(2,false),(3,false),(4,false)] (by kernel_rfl) ?_
 refine az [0,1,2] [af sg 0,af sg 0,af sg 0] rfl (by kernel_rfl) (by kernel_rfl) (.inr trivial) ?_
 refine aC (af mg 0) _ (some 9) (ki (by kernel_rfl)) (aG (x:=(.tmp 8)) (by kernel_rfl) (by kernel_rfl) (aI ((fun _=>c1) (trivial)) Tryz.underlying129 rfl)) (fun _=>trivial) ?_
 refine bu (some 10) (ki (by kernel_rfl)) hC (fun _=>by kernel_rfl) ?_
 rintro r w7 ⟨m,bf,bt,fv',tv',rfl,hh⟩
 refine⟨_,rfl,fun _=>trivial,?_⟩
 exact aA (bg (K:=Q .normal) (by kernel_rfl) (HQ.out (af sg 0) (af sg 0) (af sg 0) (af mg 0) m bf bt fv' tv' w7 hh))
theorem dm3 {w:World}{v:Value}{x0 x1 x2 x3 x4 x5 x6 x7 x8 x9 aW bi aZ aP aQ aS aT aX aY:Value}{df:List Deferred}{Q:Exit→Act→World→Prop}
  (hK:∀  (w':World),w'=w→Q .normal ⟨#[x0,x1,x2,x3,v,x5,x6,x7,x8,x9,aW,v,bi,aZ,aP,aQ,aS,aT,aX,aY],df⟩ w'):RW Tryz.prog (aJ 3 Tryz.f20) false Q ⟨#[x0,x1,x2,x3,x4,x5,x6,x7,x8,x9,aW,v,bi,aZ,aP,aQ,aS,aT,aX,aY],df⟩ w:=by
 have HQ:=lh hK
 clear hK
 refine bU [(0,false)] (by kernel_rfl) ?_
 refine az [0] [v] rfl (by kernel_rfl) (by kernel_rfl) (.inr trivial) ?_
 exact aA (bg (K:=Q .normal) (by kernel_rfl) (HQ.out  _ rfl))
theorem dm4 {w:World}{v:Value}{x0 x1 x2 x3 x4 x5 x6 x7 x8 x9 aW bn aZ aP aQ aS aT aX aY:Value}{df:List Deferred}{Q:Exit→Act→World→Prop}
  (hK:∀  (w':World),w'=w→Q .normal ⟨#[x0,x1,x2,x3,x4,v,x6,x7,x8,x9,aW,bn,v,aZ,aP,aQ,aS,aT,aX,aY],df⟩ w'):RW Tryz.prog (aJ 4 Tryz.f20) false Q ⟨#[x0,x1,x2,x3,x4,x5,x6,x7,x8,x9,aW,bn,v,aZ,aP,aQ,aS,aT,aX,aY],df⟩ w:=by
 have HQ:=lh hK
 clear hK
 refine bU [(0,false)] (by kernel_rfl) ?_
 refine az [0] [v] rfl (by kernel_rfl) (by kernel_rfl) (.inr trivial) ?_
 exact aA (bg (K:=Q .normal) (by kernel_rfl) (HQ.out  _ rfl))
theorem dm5 {w:World}{ob n nk ck nv cv:Nat}{ak av:Option Addr}{vo:Value}{pcs:List Value}{t:TypeId} (hg:w.heap[ob]?=some (.cells #[vo] t (0,0))) (hr:aO w 152 2 vo n pcs) (hn:n≤100000000) (hvo:¬ dC vo ob)
  (hK:∀ (kF jB jR jS jk jl:Value) (v8:Value) (w8:World) (w':World),aO w8 152 2 v8 (n+1) (pcs ++ [(.slice ak nk ck),(.slice av nv cv)])→ae (dC vo) w w8→(v8.ownBlock=vo.ownBlock∨aF w v8)→w'=w8.setCell ⟨ob,0,none⟩ v8→Q .normal ⟨#[x0,x1,x2,.pointer (some ⟨ob,0,none⟩),(.slice ak nk ck),(.slice av nv cv),x6,x7,x8,x9,aW,bn,bi,kF,jB,jR,jS,jk,jl,aY],df⟩ w'):RW Tryz.prog (aJ 5 Tryz.f20) false Q ⟨#[x0,x1,x2,.pointer (some ⟨ob,0,none⟩),(.slice ak nk ck),(.slice av nv cv),x6,x7,x8,x9,aW,bn,bi,aZ,aP,aQ,aS,aT,aX,aY],df⟩ w:=by
 have HQ:=lh hK
 clear hK
 have HR:=lh hr
 have HG:=lh hg
 have q0:w.cell? ⟨ob,0,none⟩=some vo:=ag hg 0
 clear hr hg
 have MR:=lh (ae.refl ai w)
 refine bU [(0,false),(1,false),(2,false),(3,false),(4,false),(5,false),(6,false)] (by kernel_rfl) ?_
 refine aC (vo) _ (some 13) (ki (by kernel_rfl)) (aG (x:=(.tmp 3)) (by kernel_rfl) (by kernel_rfl) (aI ((fun _=>q0) (trivial)) Tryz.underlying29 rfl)) (fun _=>trivial) ?_
 refine az [1,2,3] [(.slice ak nk ck),(.slice av nv cv),.agg #[(.slice ak nk ck),(.slice av nv cv)]] rfl (by kernel_rfl) (by kernel_rfl) (.inr trivial) ?_
 refine gK (.cells #[(.slice ak nk ck),(.slice av nv cv)] 152) 1 (some 17) (ki (by kernel_rfl)) (by kernel_rfl) ?_
 intro k1 w_k1 hk_k1 hO_k1 hm_k1 hl_k1
 have MZ:=MR.out.size
 replace MR:=lh (MR.out.then0 hm_k1)
 refine⟨fun _=>trivial,?_⟩
 obtain⟨inf,hi,hz,hs,hby⟩:=info_parts Jq
 obtain⟨v8,w8,hr8,o8,m8,f8⟩:=iE (P:=Tryz.prog) 29 29 29 152 152 inf (.agg #[.slice none 0 0,.slice none 0 0]) Tryz.underlying29 Tryz.underlying29 hi hz (by rw [hs];rfl) (by rw [hs];exact HR.out.keep MR.out (fun _ _ x=>x)) (m:=1) (ys:=[(.slice ak nk ck),(.slice av nv cv)]) (by rw [hs];exact aO.rd (rY hO_k1).own) (by intro y hy;simp at hy;rcases hy with rfl | rfl <;> rfl) (by unfold maxLen;omega) (by rw [hby];omega)
 rw [hs] at o8
 refine aC v8 w8 (some 18) (ki (by kernel_rfl)) (of_append (x:=(.tmp 13)) (y:=(.tmp 17)) (by kernel_rfl) (by kernel_rfl) (by kernel_rfl) hr8) (fun _=>trivial) ?_
 have m78:=hm_k1.trans m8 (U:=dC vo) (fun _ _ x=>x.elim) (fun _ _ x=>x)
 have f9:=f8.imp id (fun h=>h.of hm_k1.size)
 have hg8:=m78.heap HG.out hvo
 obtain⟨a8,c8,e8,_⟩:=o8.rd.form
 have h18:v8.oneCell'=true:=by rw [e8];rfl
 clear e8
 refine fH (ty:=29) (x:=(.tmp 3)) (y:=(.tmp 18)) (g:=ob) (off:=0) (v:=v8) none (ki (by kernel_rfl)) (by kernel_rfl) (by kernel_rfl) (by kernel_rfl) (by kernel_rfl) (by rw [ag hg8];rfl) (bY hg8 _) (h18) ?_
 intro w9 hw9
 refine⟨(fun h=>by first | (cases h;done) | exact trivial),?_⟩
 exact aA (bg (K:=Q .normal) (by kernel_rfl) (HQ.out (vo) ((.slice ak nk ck)) ((.slice av nv cv)) (.agg #[(.slice ak nk ck),(.slice av nv cv)]) (.slice (some ⟨k1,0,none⟩) 1 1) (v8) v8 w8 w9 o8 m78 f9 hw9))
theorem dm6 {w:World}{ob:Nat}{v:Value} (q0:w.cell? ⟨ob,0,none⟩=some v)
  (hK:∀ (jC:Value)  (w':World),w'=w→Q .normal ⟨#[x0,x1,v,.pointer (some ⟨ob,0,none⟩),x4,x5,x6,x7,x8,x9,aW,bn,bi,aZ,aP,aQ,aS,aT,aX,jC],df⟩ w'):RW Tryz.prog (aJ 6 Tryz.f20) false Q ⟨#[x0,x1,x2,.pointer (some ⟨ob,0,none⟩),x4,x5,x6,x7,x8,x9,aW,bn,bi,aZ,aP,aQ,aS,aT,aX,aY],df⟩ w:=by
 have HQ:=lh hK
 clear hK
 refine bU [(0,false),(1,false)] (by kernel_rfl) ?_
 refine aC (v) _ (some 19) (ki (by kernel_rfl)) (aG (x:=(.tmp 3)) (by kernel_rfl) (by kernel_rfl) (aI ((fun _=>q0) (trivial)) Tryz.underlying29 rfl)) (fun _=>trivial) ?_
 refine az [1] [v] rfl (by kernel_rfl) (by kernel_rfl) (.inr trivial) ?_
 exact aA (bg (K:=Q .normal) (by kernel_rfl) (HQ.out (v) _ rfl))
end
open Go.Gl Go.RowKit
theorem KM.tickR {A B:World}{sg mg:Nat}{vo jv:Value}{R:List PV}{J:List JV}{c:Int} (h:KM A sg mg vo R jv J c) (t:tickR sg A B):KM B sg mg vo R jv J (c+1):=by
 obtain⟨c',h1,e⟩:=t
 have:c'=c:=by
  have:=h.cells.2.2.1
  rw [h1] at this
  simpa using this
 subst this
 exact (h.tick e).km
theorem KM.okS {A:World}{sg mg:Nat}{vo jv:Value}{R:List PV}{J:List JV}{c:Int} (h:KM A sg mg vo R jv J c) (h0:0≤c) (h1:c≤4611686018427387904):OkS sg mg A:=⟨⟨c,h.cells.2.2.1,h.cells.2.2.2 2,by omega,by omega⟩,h.cells.1,h.lt sg (.inl rfl)⟩
end Go.Proofs.YtglkmaalpammcaaGreat

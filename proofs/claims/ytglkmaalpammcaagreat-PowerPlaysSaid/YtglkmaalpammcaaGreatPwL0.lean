/- gleanlaw11.PowerPlays: regions (printed by gen_pw.py). -/
import Derived.Test.YtglkmaalpammcaaGreatZE
import Derived.Test.YtglkmaalpammcaaGreatOrd3
set_option maxHeartbeats 64000000
namespace Go.Proofs.YtglkmaalpammcaaGreat
open Go.Gl Go.RowKit
set_option linter.unusedVariables false
set_option linter.unusedSimpArgs false
set_option maxRecDepth 100000
section
variable {x0 x1 x2 x3 x4 x5 x6 x7 x8 x9 aW bn bi aZ aP aQ aS aT aX aY bD bC bG bH bJ bQ bP bM bK bV bW cZ dh dn dw di dm dK dE dF dL dM dN dP dQ dR dS dO eF eG fA ed dX dY eH eP eQ fB eU fD fC eX iG iH jg jG jH jI jA kw kz kC kD x73 x74 x75 x76 x77 x78 x79 x80 x81 x82 x83 x84 x85 x86 x87 x88 x89 x90 x91 x92 x93 x94 x95 x96 x97 x98 x99 x100 x101 x102 x103 x104 x105 x106 x107 x108 x109 x110 x111 x112 x113 x114:Value}{df:List Deferred}{Q:Exit→Act→World→Prop}
theorem pl9 {w:World}{g off n ca i:Nat}{z0 z1:Int}{z2 z3:Nat} (hi:i<n) (hn:n≤1000000) (hx:∀ j' u,([.int .i64 z0,.int .i64 z1,.int .u64 ((z2:Nat):Int),.int .u64 ((z3:Nat):Int)]:List Value)[j']?=some u→w.cell? ⟨g,off+i*4+j',none⟩=some u)
  (hK:∀ (iY jD iZ jo:Value) (bq:Nat) (w':World),w.heap.size≤bq→w'.heap[bq]?=some (.cells #[.int .i64 z0,.int .i64 z1,.int .u64 ((z2:Nat):Int),.int .u64 ((z3:Nat):Int)] 117 (0,0))→ae ai w w'→Q .normal ⟨#[.slice (some ⟨g,off,none⟩) n ca,x1,x2,x3,x4,.int .i64 ((i:Nat):Int),.pointer (some ⟨bq,0,none⟩),x7,x8,x9,aW,bn,bi,aZ,aP,aQ,aS,aT,aX,aY,bD,bC,bG,iY,jD,iZ,jo,bM,bK,bV,bW,cZ,dh,dn,dw,di,dm,dK,dE,dF,dL,dM,dN,dP,dQ,dR,dS,dO,eF,eG,fA,ed,dX,dY,eH,eP,eQ,fB,eU,fD,fC,eX,iG,iH,jg,jG,jH,jI,jA,kw,kz,kC,kD,x73,x74,x75,x76,x77,x78,x79,x80,x81,x82,x83,x84,x85,x86,x87,x88,x89,x90,x91,x92,x93,x94,x95,x96,x97,x98,x99,x100,x101,x102,x103,x104,x105,x106,x107,x108,x109,x110,x111,x112,x113,x114],df⟩ w'):RW Tryz.prog (aJ 9 Tryz.f10) false Q ⟨#[.slice (some ⟨g,off,none⟩) n ca,x1,x2,x3,x4,.int .i64 ((i:Nat):Int),x6,x7,x8,x9,aW,bn,bi,aZ,aP,aQ,aS,aT,aX,aY,bD,bC,bG,bH,bJ,bQ,bP,bM,bK,bV,bW,cZ,dh,dn,dw,di,dm,dK,dE,dF,dL,dM,dN,dP,dQ,dR,dS,dO,eF,eG,fA,ed,dX,dY,eH,eP,eQ,fB,eU,fD,fC,eX,iG,iH,jg,jG,jH,jI,jA,kw,kz,kC,kD,x73,x74,x75,x76,x77,x78,x79,x80,x81,x82,x83,x84,x85,x86,x87,x88,x89,x90,x91,x92,x93,x94,x95,x96,x97,x98,x99,x100,x101,x102,x103,x104,x105,x106,x107,x108,x109,x110,x111,x112,x113,x114],df⟩ w:=by
 have HQ:=lh hK
 clear hK
 have QX:=hx
 clear hx
 refine bU [(0,false),(1,false),(2,false),(3,false),(4,false),(5,false)] (by kernel_rfl) ?_
 refine az [0,1] [.slice (some ⟨g,off,none⟩) n ca,.int .i64 ((i:Nat):Int)] rfl (by kernel_rfl) (by kernel_rfl) (.inr trivial) ?_
 refine aC (af g (off+i*4)) _ (some 25) (ki (by kernel_rfl)) (fQ (s:=4) (e:=117) (g:=g) (off:=off) (n:=n) (c:=ca) (i:=((i:Nat):Int)) (x:=(.tmp 23)) (y:=(.tmp 24)) (off+i*4) (by kernel_rfl) (by kernel_rfl) (by kernel_rfl) Tryz.underlying115 (by kernel_rfl) (by omega) (by omega) (by omega)) (fun _=>trivial) ?_
 refine aC (.agg #[.int .i64 z0,.int .i64 z1,.int .u64 ((z2:Nat):Int),.int .u64 ((z3:Nat):Int)]) _ (some 26) (ki (by kernel_rfl)) (aG (x:=(.tmp 25)) (by kernel_rfl) (by kernel_rfl) (su [.int .i64 z0,.int .i64 z1,.int .u64 ((z2:Nat):Int),.int .u64 ((z3:Nat):Int)] ((fun _=>QX) (trivial)) Tryz.underlying117 rfl (by kernel_rfl))) (fun _=>trivial) ?_
 refine fG (.cells #[.int .i64 0,.int .i64 0,.int .u64 0,.int .u64 0] 117) (some 6) (ki (by kernel_rfl)) (by kernel_rfl) ?_
 intro k1 w_k1 hk_k1 hO_k1 hm_k1 hl_k1
 refine⟨fun _=>trivial,?_⟩
 refine nI (off:=0) (ty:=117) (x:=(.tmp 6)) (y:=(.tmp 26)) (cells:=#[.int .i64 z0,.int .i64 z1,.int .u64 ((z2:Nat):Int),.int .u64 ((z3:Nat):Int)]) #[.int .i64 z0,.int .i64 z1,.int .u64 ((z2:Nat):Int),.int .u64 ((z3:Nat):Int)] none (ki (by kernel_rfl)) (by kernel_rfl) (by kernel_rfl) (by kernel_rfl) hO_k1 (by kernel_rfl) (by kernel_rfl) (by kernel_rfl) (by kernel_rfl) ?_
 intro w9 hO9 hm9 hs9
 refine⟨fun _=>trivial,?_⟩
 have hM:=hm_k1.trans hm9 (U:=ai) (fun _ _ x=>x) (fun i hi e=>by omega)
 exact aA (bg (K:=Q .normal) (by kernel_rfl) (HQ.out (.slice (some ⟨g,off,none⟩) n ca) (.int .i64 ((i:Nat):Int)) (af g (off+i*4)) (.agg #[.int .i64 z0,.int .i64 z1,.int .u64 ((z2:Nat):Int),.int .u64 ((z3:Nat):Int)]) k1 w9 (Nat.le_of_eq hk_k1.symm) hO9 hM))
theorem pl28 {w:World}{sg rg:Nat}{X0 X3 X5:World→Prop}{Y1 Z3:Value→World→Prop}{Y2 Y4:Value→Value→World→Prop} (h0:X0 w.drew) (kc1:∀ b',X0 b'→Calls Tryz.prog 71 #[.pointer (some ⟨sg,0,none⟩)] b' fun e w'=>∃ v,e = .returned v∧Y1 v w') (kc2:∀ v b',Y1 v b'→Calls Tryz.prog 72 #[.pointer (some ⟨rg,0,none⟩)] b' fun e w'=>∃ u,e = .returned u∧Y2 v u w') (kc3:∀ v u b',Y2 v u b'→Calls Tryz.prog 68 #[v,u] b' fun e w'=>e = .returned (.bool true)∧X3 w') (hL:∀ b',X3 b'→∃ lv,Z3 lv b') (hl3:∀ lv b',Z3 lv b'→b'.cell? ⟨rg,0,none⟩=some lv) (kc4:∀ lv b',Z3 lv b'→Calls Tryz.prog 20 #[.pointer (some ⟨sg,0,none⟩)] b' fun e w'=>∃ v,e = .returned v∧Y4 lv v w') (hl4:∀ lv v b',Y4 lv v b'→b'.cell? ⟨rg,0,none⟩=some lv) (kc5:∀ lv v b',Y4 lv v b'→Calls Tryz.prog 19 #[v,lv] b' fun e w'=>e = .returned (.bool true)∧X5 w')
  (hK:∀ (y99 y100 y101 y102 y103 y104 y105 y106 y107 y108 y109 y110 y111 y112 y113:Value)  (w':World),X5 w'→Q .normal ⟨#[x0,x1,x2,.pointer (some ⟨sg,0,none⟩),.pointer (some ⟨rg,0,none⟩),x5,x6,x7,x8,x9,aW,bn,bi,aZ,aP,aQ,aS,aT,aX,aY,bD,bC,bG,bH,bJ,bQ,bP,bM,bK,bV,bW,cZ,dh,dn,dw,di,dm,dK,dE,dF,dL,dM,dN,dP,dQ,dR,dS,dO,eF,eG,fA,ed,dX,dY,eH,eP,eQ,fB,eU,fD,fC,eX,iG,iH,jg,jG,jH,jI,jA,kw,kz,kC,kD,x73,x74,x75,x76,x77,x78,x79,x80,x81,x82,x83,x84,x85,x86,x87,x88,x89,x90,x91,x92,x93,x94,x95,x96,x97,x98,y99,y100,y101,y102,y103,y104,y105,y106,y107,y108,y109,y110,y111,y112,y113,.bool false],df⟩ w'):RW Tryz.prog (aJ 28 Tryz.f10) true Q ⟨#[x0,x1,x2,.pointer (some ⟨sg,0,none⟩),.pointer (some ⟨rg,0,none⟩),x5,x6,x7,x8,x9,aW,bn,bi,aZ,aP,aQ,aS,aT,aX,aY,bD,bC,bG,bH,bJ,bQ,bP,bM,bK,bV,bW,cZ,dh,dn,dw,di,dm,dK,dE,dF,dL,dM,dN,dP,dQ,dR,dS,dO,eF,eG,fA,ed,dX,dY,eH,eP,eQ,fB,eU,fD,fC,eX,iG,iH,jg,jG,jH,jI,jA,kw,kz,kC,kD,x73,x74,x75,x76,x77,x78,x79,x80,x81,x82,x83,x84,x85,x86,x87,x88,x89,x90,x91,x92,x93,x94,x95,x96,x97,x98,x99,x100,x101,x102,x103,x104,x105,x106,x107,x108,x109,x110,x111,x112,x113,x114],df⟩ w:=by
 have HQ:=lh hK
 clear hK
 refine rw_ot (S:=fun _=>True) (.split [(0,true),(2,true),(1,false),(3,false),(4,false),(5,true),(6,true),(7,true),(9,true),(10,true),(11,true)] 8 12 (.leaf [(12,false),(13,false),(14,true),(15,true)]) (.leaf [(8,false),(13,false),(14,true),(15,true)])) [] (by kernel_rfl) (by kernel_rfl) (by kernel_rfl) (by kernel_rfl) (trivial) ?_
 refine CV ?_
 refine aj [0,2] [af sg 0,af rg 0] rfl (by kernel_rfl) (fun _=>by kernel_rfl) ?_
 refine bu (some 100) (ki (by kernel_rfl)) (kc1 _ h0) (fun _=>by kernel_rfl) ?_
 rintro r w100 ⟨v1,rfl,h1⟩
 refine⟨_,rfl,fun _=>trivial,?_⟩
 refine bu (some 102) (ki (by kernel_rfl)) (kc2 _ _ h1) (fun _=>by kernel_rfl) ?_
 rintro r w102 ⟨v2,rfl,h2⟩
 refine⟨_,rfl,fun _=>trivial,?_⟩
 refine bu (some 103) (ki (by kernel_rfl)) (kc3 _ _ _ h2) (fun _=>by kernel_rfl) ?_
 rintro r w103 ⟨rfl,h3⟩
 obtain⟨lv,hz⟩:=hL _ h3
 have ql:=hl3 _ _ hz
 refine⟨_,rfl,fun _=>trivial,?_⟩
 refine aj [5,6,7,9,10,11] [.bool false,.bool false,af sg 0,af rg 0,af rg 0,af rg 0] rfl (by kernel_rfl) (fun _=>by kernel_rfl) ?_
 refine Gv ?_ ?_
 ·skip
  refine wM ?_
  refine bu (some 107) (ki (by kernel_rfl)) (kc4 _ _ hz) (fun _=>by kernel_rfl) ?_
  rintro r w107 ⟨v4,rfl,h4⟩
  replace ql:=hl4 _ _ _ h4
  refine⟨_,rfl,fun _=>trivial,?_⟩
  refine aC (lv) _ (some 111) (ki (by kernel_rfl)) (aG (x:=(.tmp 110)) (by kernel_rfl) (by kernel_rfl) (aI ((fun _=>ql) (trivial)) Tryz.underlying29 rfl)) (fun _=>trivial) ?_
  refine bu (some 112) (ki (by kernel_rfl)) (kc5 _ _ _ h4) (fun _=>by kernel_rfl) ?_
  rintro r w112 ⟨rfl,h5⟩
  refine⟨_,rfl,fun _=>trivial,?_⟩
  refine aj [14,15] [.bool false,.bool false] rfl (by kernel_rfl) (fun _=>by kernel_rfl) ?_
  exact aA (bg (K:=Q .normal) (by kernel_rfl) (HQ.out (af sg 0) (v1) (af rg 0) (v2) (.bool true) (.bool false) (.bool false) (af sg 0) (v4) (af rg 0) (af rg 0) (af rg 0) (lv) (.bool true) (.bool false) _ h5))
 ·skip
  refine wM ?_
  refine aC (lv) _ (some 111) (ki (by kernel_rfl)) (aG (x:=(.tmp 110)) (by kernel_rfl) (by kernel_rfl) (aI ((fun _=>ql) (trivial)) Tryz.underlying29 rfl)) (fun _=>trivial) ?_
  refine bu (some 107) (ki (by kernel_rfl)) (kc4 _ _ hz) (fun _=>by kernel_rfl) ?_
  rintro r w107 ⟨v4,rfl,h4⟩
  replace ql:=hl4 _ _ _ h4
  refine⟨_,rfl,fun _=>trivial,?_⟩
  refine bu (some 112) (ki (by kernel_rfl)) (kc5 _ _ _ h4) (fun _=>by kernel_rfl) ?_
  rintro r w112 ⟨rfl,h5⟩
  refine⟨_,rfl,fun _=>trivial,?_⟩
  refine aj [14,15] [.bool false,.bool false] rfl (by kernel_rfl) (fun _=>by kernel_rfl) ?_
  exact aA (bg (K:=Q .normal) (by kernel_rfl) (HQ.out (af sg 0) (v1) (af rg 0) (v2) (.bool true) (.bool false) (.bool false) (af sg 0) (v4) (af rg 0) (af rg 0) (af rg 0) (lv) (.bool true) (.bool false) _ h5))
end
end Go.Proofs.YtglkmaalpammcaaGreat

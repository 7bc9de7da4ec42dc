/- gleanlaw12.known: its drawn region (printed by gen_qukn.py). -/
import Derived.Test.YtglkmaalpammcaaGreatZE
import Derived.Test.YtglkmaalpammcaaGreatZB
import Derived.Test.YtglkmaalpammcaaGreatOrd3
namespace Go.Proofs.YtglkmaalpammcaaGreat
open Go.Gl Go.RowKit
set_option linter.unusedVariables false
set_option linter.unusedSimpArgs false
set_option maxRecDepth 100000
set_option maxHeartbeats 16000000 in
theorem kn13 {w:World}{sg xa xb:Nat}{St:Nat→Option Value→Option Nat→World→Prop} (hL:∀ b',(∃ s v k,St s v k b')→b'.heap[xa]?=some (.cells #[.int .u64 7,.int .i64 12] 86 (0,0))∧b'.heap[xb]?=some (.cells #[.int .u64 8,.int .i64 13] 86 (0,0))) (hC0:∀ k b',St 0 none k b'→Calls Tryz.prog 37 #[.pointer (some ⟨sg,0,none⟩),.int .u64 5] b' fun e w'=>∃ v,e = .returned v∧St 0 (some v) k w') (hB0:∀ v b' b'' kk,St 0 v none b'→kk=b'.heap.size→b''.heap[kk]?=some (.cells #[.int .u64 8,.int .i64 13,.int .u64 7,.int .i64 12] 86 (0,0))→ae ai b' b''→St 0 v (some kk) b'') (hE0:∀ v kk b',St 0 (some v) (some kk) b'→Calls Tryz.prog 105 #[v,.slice (some ⟨kk,0,none⟩) 2 2] b' fun e w'=>e = .returned (.bool true)∧St 1 none none w') (hC1:∀ k b',St 1 none k b'→Calls Tryz.prog 37 #[.pointer (some ⟨sg,0,none⟩),.int .u64 4] b' fun e w'=>∃ v,e = .returned v∧St 1 (some v) k w') (hB1:∀ v b' b'' kk,St 1 v none b'→kk=b'.heap.size→b''.heap[kk]?=some (.cells #[.int .u64 8,.int .i64 13] 86 (0,0))→ae ai b' b''→St 1 v (some kk) b'') (hE1:∀ v kk b',St 1 (some v) (some kk) b'→Calls Tryz.prog 105 #[v,.slice (some ⟨kk,0,none⟩) 1 1] b' fun e w'=>e = .returned (.bool true)∧St 2 none none w') (hC2:∀ k b',St 2 none k b'→Calls Tryz.prog 39 #[.pointer (some ⟨sg,0,none⟩),.int .u64 16] b' fun e w'=>∃ v,e = .returned v∧St 2 (some v) k w') (hB2:∀ v b' b'' kk,St 2 v none b'→kk=b'.heap.size→b''.heap[kk]?=some (.cells #[.int .u64 7,.int .i64 12,.int .u64 8,.int .i64 13] 86 (0,0))→ae ai b' b''→St 2 v (some kk) b'') (hE2:∀ v kk b',St 2 (some v) (some kk) b'→Calls Tryz.prog 105 #[v,.slice (some ⟨kk,0,none⟩) 2 2] b' fun e w'=>e = .returned (.bool true)∧St 3 none none w') (hX0:∀ b',St 3 none none b'→Calls Tryz.prog 52 #[.pointer (some ⟨sg,0,none⟩),.agg #[.int .u64 8,.int .i64 12]] b' fun e w'=>e = .returned (.bool false)∧St 4 none none w') (hX1:∀ b',St 4 none none b'→Calls Tryz.prog 52 #[.pointer (some ⟨sg,0,none⟩),.agg #[.int .u64 8,.int .i64 13]] b' fun e w'=>e = .returned (.bool true)∧St 5 none none w') (hX2:∀ b',St 5 none none b'→Calls Tryz.prog 42 #[.pointer (some ⟨sg,0,none⟩),.int .u64 20,.int .u64 16] b' fun e w'=>e = .returned (.int .u64 1)∧St 6 none none w') (h0:St 0 none none w.drew) {x0 x2 x3 x4 x5 x6 x7 bg bn bi aY aU aS aT aW aZ aX bu bz bF bG bH bM bT bQ cO cZ di dw eH eP dW dQ dR dX dF dM dN dG dH dI dJ dK dL dE dY dO dS dU dZ ed eu eF eG eQ eU fK fG fD iH iI iJ iK iL iM iE iV iW iY iZ lC lH lI lJ lK lZ l7 l9 mf nY nZ og oz oC oD oG oH oI oJ oK oL oM oN oO oP oQ oU jM mP mQ mV mW mX mY mZ ng ni ny nz nC kL kM kN kP kQ kR:Value}{df:List Deferred}{Q:Exit→Act→World→Prop}
  (hK:∀ (y82 y83 y84 y85 y86 y87 y88 y89 y90 y91 y92 y93 y94 y95 y96 y97 y98 y99 y100 y101 y102 y103 y104 y105 y106 y107 y108 y109 y110 y111 y112 y113 y114 y115 y116 y117 y118:Value)  (w':World),St 6 none none w'→Q .normal ⟨#[.bool true,.pointer (some ⟨sg,0,none⟩),x2,x3,x4,x5,x6,x7,.pointer (some ⟨xa,0,none⟩),.pointer (some ⟨xb,0,none⟩),bg,bn,bi,aY,aU,aS,aT,aW,aZ,aX,bu,bz,bF,bG,bH,bM,bT,bQ,cO,cZ,di,dw,eH,eP,dW,dQ,dR,dX,dF,dM,dN,dG,dH,dI,dJ,dK,dL,dE,dY,dO,dS,dU,dZ,ed,eu,eF,eG,eQ,eU,fK,fG,fD,iH,iI,iJ,iK,iL,iM,iE,iV,iW,iY,iZ,lC,lH,lI,lJ,lK,lZ,l7,l9,mf,y82,y83,y84,y85,y86,y87,y88,y89,y90,y91,y92,y93,y94,y95,y96,y97,y98,y99,y100,y101,y102,y103,y104,y105,y106,y107,y108,y109,y110,y111,y112,y113,y114,y115,y116,y117,y118],df⟩ w'):RW Tryz.prog (aH 13 Tryz.f32) true Q ⟨#[x0,.pointer (some ⟨sg,0,none⟩),x2,x3,x4,x5,x6,x7,.pointer (some ⟨xa,0,none⟩),.pointer (some ⟨xb,0,none⟩),bg,bn,bi,aY,aU,aS,aT,aW,aZ,aX,bu,bz,bF,bG,bH,bM,bT,bQ,cO,cZ,di,dw,eH,eP,dW,dQ,dR,dX,dF,dM,dN,dG,dH,dI,dJ,dK,dL,dE,dY,dO,dS,dU,dZ,ed,eu,eF,eG,eQ,eU,fK,fG,fD,iH,iI,iJ,iK,iL,iM,iE,iV,iW,iY,iZ,lC,lH,lI,lJ,lK,lZ,l7,l9,mf,nY,nZ,og,oz,oC,oD,oG,oH,oI,oJ,oK,oL,oM,oN,oO,oP,oQ,oU,jM,mP,mQ,mV,mW,mX,mY,mZ,ng,ni,ny,nz,nC,kL,kM,kN,kP,kQ,kR],df⟩ w:=by
 have HQ:=lh hK
 clear hK
 have QA:=lh (fun (b':World) (hb:∃ s v k,St s v k b')=>(show ∀ j u,[Value.int .u64 7,.int .i64 12][j]?=some u→b'.cell? ⟨xa,0+j,none⟩=some u from fun j u hj=>by rw [Nat.zero_add];exact (af (hL b' hb).1 j).trans (by rw [← hj];exact List.getElem?_toArray)))
 have QB:=lh (fun (b':World) (hb:∃ s v k,St s v k b')=>(show ∀ j u,[Value.int .u64 8,.int .i64 13][j]?=some u→b'.cell? ⟨xb,0+j,none⟩=some u from fun j u hj=>by rw [Nat.zero_add];exact (af (hL b' hb).2 j).trans (by rw [← hj];exact List.getElem?_toArray)))
 refine rw_ot (S:=fun b'=>∃ s v k,St s v k b') (.split [(0,true),(2,true),(3,true)] 1 4 (.split [(4,false),(5,false),(6,true),(7,true),(9,true)] 8 10 (.split [(10,false),(11,false),(12,true),(13,true),(14,true),(16,true),(17,true)] 15 18 (.leaf [(18,false),(19,false),(20,true),(21,true),(22,true),(23,true),(24,false),(25,true),(26,true),(27,true),(28,true),(29,true),(30,false),(31,true),(32,true),(33,true),(34,false),(35,true),(36,true),(37,true)]) (.leaf [(15,false),(19,false),(20,true),(21,true),(22,true),(23,true),(24,false),(25,true),(26,true),(27,true),(28,true),(29,true),(30,false),(31,true),(32,true),(33,true),(34,false),(35,true),(36,true),(37,true)])) (.split [(8,false),(11,false),(12,true),(13,true),(14,true),(16,true),(17,true)] 15 18 (.leaf [(18,false),(19,false),(20,true),(21,true),(22,true),(23,true),(24,false),(25,true),(26,true),(27,true),(28,true),(29,true),(30,false),(31,true),(32,true),(33,true),(34,false),(35,true),(36,true),(37,true)]) (.leaf [(15,false),(19,false),(20,true),(21,true),(22,true),(23,true),(24,false),(25,true),(26,true),(27,true),(28,true),(29,true),(30,false),(31,true),(32,true),(33,true),(34,false),(35,true),(36,true),(37,true)]))) (.split [(1,false),(5,false),(6,true),(7,true),(9,true)] 8 10 (.split [(10,false),(11,false),(12,true),(13,true),(14,true),(16,true),(17,true)] 15 18 (.leaf [(18,false),(19,false),(20,true),(21,true),(22,true),(23,true),(24,false),(25,true),(26,true),(27,true),(28,true),(29,true),(30,false),(31,true),(32,true),(33,true),(34,false),(35,true),(36,true),(37,true)]) (.leaf [(15,false),(19,false),(20,true),(21,true),(22,true),(23,true),(24,false),(25,true),(26,true),(27,true),(28,true),(29,true),(30,false),(31,true),(32,true),(33,true),(34,false),(35,true),(36,true),(37,true)])) (.split [(8,false),(11,false),(12,true),(13,true),(14,true),(16,true),(17,true)] 15 18 (.leaf [(18,false),(19,false),(20,true),(21,true),(22,true),(23,true),(24,false),(25,true),(26,true),(27,true),(28,true),(29,true),(30,false),(31,true),(32,true),(33,true),(34,false),(35,true),(36,true),(37,true)]) (.leaf [(15,false),(19,false),(20,true),(21,true),(22,true),(23,true),(24,false),(25,true),(26,true),(27,true),(28,true),(29,true),(30,false),(31,true),(32,true),(33,true),(34,false),(35,true),(36,true),(37,true)])))) [] (by kernel_rfl) (by kernel_rfl) (by kernel_rfl) (by kernel_rfl) (⟨_,_,_,h0⟩) ?_
 refine J6 ?_
 refine ag [0] [aj sg 0] rfl (by kernel_rfl) (fun _=>by kernel_rfl) ?_
 refine ah (.agg #[.int .u64 8,.int .i64 13]) (some 84) (ki (by kernel_rfl)) (fun bb hb=>aB (x:=(.tmp 9)) (by kernel_rfl) (by kernel_rfl) (dD [.int .u64 8,.int .i64 13] (QB.out _ hb) Tryz.underlying86 rfl (by kernel_rfl))) ?_
 refine ah (.agg #[.int .u64 7,.int .i64 12]) (some 85) (ki (by kernel_rfl)) (fun bb hb=>aB (x:=(.tmp 8)) (by kernel_rfl) (by kernel_rfl) (dD [.int .u64 7,.int .i64 12] (QA.out _ hb) Tryz.underlying86 rfl (by kernel_rfl))) ?_
 refine sF ?_ ?_
 ·skip
  refine qZ ?_
  refine az (some 83) (ki (by kernel_rfl)) (hC0 _ _ h0) (fun _=>by kernel_rfl) ?_
  rintro r w101 ⟨v1,rfl,h1⟩
  refine⟨_,rfl,fun _=>⟨_,_,_,h1⟩,?_⟩
  refine gq (.cells #[.int .u64 8,.int .i64 13,.int .u64 7,.int .i64 12] 86) 2 (some 86) (ki (by kernel_rfl)) (by kernel_rfl) ?_
  intro k1 w_k1 hk_k1 hO_k1 hm_k1 hl_k1
  have h2:=hB0 _ _ _ _ h1 hk_k1 hO_k1 hm_k1
  refine⟨fun _=>⟨_,_,_,h2⟩,?_⟩
  refine az (some 87) (ki (by kernel_rfl)) (hE0 _ _ _ h2) (fun _=>by kernel_rfl) ?_
  rintro r w103 ⟨rfl,h3⟩
  refine⟨_,rfl,fun _=>⟨_,_,_,h3⟩,?_⟩
  refine ag [6,7] [.bool true,aj sg 0] rfl (by kernel_rfl) (fun _=>by kernel_rfl) ?_
  refine ah (.agg #[.int .u64 8,.int .i64 13]) (some 91) (ki (by kernel_rfl)) (fun bb hb=>aB (x:=(.tmp 9)) (by kernel_rfl) (by kernel_rfl) (dD [.int .u64 8,.int .i64 13] (QB.out _ hb) Tryz.underlying86 rfl (by kernel_rfl))) ?_
  refine sF ?_ ?_
  ·skip
   refine qZ ?_
   refine az (some 90) (ki (by kernel_rfl)) (hC1 _ _ h3) (fun _=>by kernel_rfl) ?_
   rintro r w104 ⟨v4,rfl,h4⟩
   refine⟨_,rfl,fun _=>⟨_,_,_,h4⟩,?_⟩
   refine gq (.cells #[.int .u64 8,.int .i64 13] 86) 1 (some 92) (ki (by kernel_rfl)) (by kernel_rfl) ?_
   intro k2 w_k2 hk_k2 hO_k2 hm_k2 hl_k2
   have h5:=hB1 _ _ _ _ h4 hk_k2 hO_k2 hm_k2
   refine⟨fun _=>⟨_,_,_,h5⟩,?_⟩
   refine az (some 93) (ki (by kernel_rfl)) (hE1 _ _ _ h5) (fun _=>by kernel_rfl) ?_
   rintro r w106 ⟨rfl,h6⟩
   refine⟨_,rfl,fun _=>⟨_,_,_,h6⟩,?_⟩
   refine ag [12,13,14] [.bool true,.bool true,aj sg 0] rfl (by kernel_rfl) (fun _=>by kernel_rfl) ?_
   refine ah (.agg #[.int .u64 7,.int .i64 12]) (some 98) (ki (by kernel_rfl)) (fun bb hb=>aB (x:=(.tmp 8)) (by kernel_rfl) (by kernel_rfl) (dD [.int .u64 7,.int .i64 12] (QA.out _ hb) Tryz.underlying86 rfl (by kernel_rfl))) ?_
   refine ah (.agg #[.int .u64 8,.int .i64 13]) (some 99) (ki (by kernel_rfl)) (fun bb hb=>aB (x:=(.tmp 9)) (by kernel_rfl) (by kernel_rfl) (dD [.int .u64 8,.int .i64 13] (QB.out _ hb) Tryz.underlying86 rfl (by kernel_rfl))) ?_
   refine sF ?_ ?_
   ·skip
    refine nT ?_
    refine az (some 97) (ki (by kernel_rfl)) (hC2 _ _ h6) (fun _=>by kernel_rfl) ?_
    rintro r w107 ⟨v7,rfl,h7⟩
    refine⟨_,rfl,fun _=>⟨_,_,_,h7⟩,?_⟩
    refine gq (.cells #[.int .u64 7,.int .i64 12,.int .u64 8,.int .i64 13] 86) 2 (some 100) (ki (by kernel_rfl)) (by kernel_rfl) ?_
    intro k3 w_k3 hk_k3 hO_k3 hm_k3 hl_k3
    have h8:=hB2 _ _ _ _ h7 hk_k3 hO_k3 hm_k3
    refine⟨fun _=>⟨_,_,_,h8⟩,?_⟩
    refine az (some 101) (ki (by kernel_rfl)) (hE2 _ _ _ h8) (fun _=>by kernel_rfl) ?_
    rintro r w109 ⟨rfl,h9⟩
    refine⟨_,rfl,fun _=>⟨_,_,_,h9⟩,?_⟩
    refine ag [20,21,22,23] [.bool true,.bool true,aj sg 0,.agg #[.int .u64 8,.int .i64 12]] rfl (by kernel_rfl) (fun _=>by kernel_rfl) ?_
    refine az (some 106) (ki (by kernel_rfl)) (hX0 _ h9) (fun _=>by kernel_rfl) ?_
    rintro r w110 ⟨rfl,h10⟩
    refine⟨_,rfl,fun _=>⟨_,_,_,h10⟩,?_⟩
    refine ag [25,26,27,28] [.bool true,.bool true,.bool true,aj sg 0] rfl (by kernel_rfl) (fun _=>by kernel_rfl) ?_
    refine ah (.agg #[.int .u64 8,.int .i64 13]) (some 111) (ki (by kernel_rfl)) (fun bb hb=>aB (x:=(.tmp 9)) (by kernel_rfl) (by kernel_rfl) (dD [.int .u64 8,.int .i64 13] (QB.out _ hb) Tryz.underlying86 rfl (by kernel_rfl))) ?_
    refine az (some 112) (ki (by kernel_rfl)) (hX1 _ h10) (fun _=>by kernel_rfl) ?_
    rintro r w111 ⟨rfl,h11⟩
    refine⟨_,rfl,fun _=>⟨_,_,_,h11⟩,?_⟩
    refine ag [31,32,33] [.bool true,.bool true,aj sg 0] rfl (by kernel_rfl) (fun _=>by kernel_rfl) ?_
    refine az (some 116) (ki (by kernel_rfl)) (hX2 _ h11) (fun _=>by kernel_rfl) ?_
    rintro r w112 ⟨rfl,h12⟩
    refine⟨_,rfl,fun _=>⟨_,_,_,h12⟩,?_⟩
    refine ah (.bool true) (some 117) (ki (by kernel_rfl)) (fun bb hb=>bV (t:=22) (t':=22) (xv := .int .u64 1) (yv := .int .u64 1) (x:=(.tmp 116)) (y:=(.const (.int .u64 1))) (by kernel_rfl) (by kernel_rfl) (by kernel_rfl) (fun _=>by kernel_rfl) (kS _ (decide_eq_true rfl))) ?_
    refine ag [36,37] [.bool true,.bool true] rfl (by kernel_rfl) (fun _=>by kernel_rfl) ?_
    exact aA (aQ (K:=Q .normal) (by kernel_rfl) (HQ.out (aj sg 0) (v1) (.agg #[.int .u64 8,.int .i64 13]) (.agg #[.int .u64 7,.int .i64 12]) (.slice (some ⟨k1,0,none⟩) 2 2) (.bool true) (.bool true) (aj sg 0) (v4) (.agg #[.int .u64 8,.int .i64 13]) (.slice (some ⟨k2,0,none⟩) 1 1) (.bool true) (.bool true) (.bool true) (aj sg 0) (v7) (.agg #[.int .u64 7,.int .i64 12]) (.agg #[.int .u64 8,.int .i64 13]) (.slice (some ⟨k3,0,none⟩) 2 2) (.bool true) (.bool true) (.bool true) (aj sg 0) (.agg #[.int .u64 8,.int .i64 12]) (.bool false) (.bool true) (.bool true) (.bool true) (aj sg 0) (.agg #[.int .u64 8,.int .i64 13]) (.bool true) (.bool true) (.bool true) (aj sg 0) (.int .u64 1) (.bool true) (.bool true) _ h12))
   ·skip
    refine nT ?_
    refine gq (.cells #[.int .u64 7,.int .i64 12,.int .u64 8,.int .i64 13] 86) 2 (some 100) (ki (by kernel_rfl)) (by kernel_rfl) ?_
    intro k3 w_k3 hk_k3 hO_k3 hm_k3 hl_k3
    have h7:=hB2 _ _ _ _ h6 hk_k3 hO_k3 hm_k3
    refine⟨fun _=>⟨_,_,_,h7⟩,?_⟩
    refine az (some 97) (ki (by kernel_rfl)) (hC2 _ _ h7) (fun _=>by kernel_rfl) ?_
    rintro r w108 ⟨v8,rfl,h8⟩
    refine⟨_,rfl,fun _=>⟨_,_,_,h8⟩,?_⟩
    refine az (some 101) (ki (by kernel_rfl)) (hE2 _ _ _ h8) (fun _=>by kernel_rfl) ?_
    rintro r w109 ⟨rfl,h9⟩
    refine⟨_,rfl,fun _=>⟨_,_,_,h9⟩,?_⟩
    refine ag [20,21,22,23] [.bool true,.bool true,aj sg 0,.agg #[.int .u64 8,.int .i64 12]] rfl (by kernel_rfl) (fun _=>by kernel_rfl) ?_
    refine az (some 106) (ki (by kernel_rfl)) (hX0 _ h9) (fun _=>by kernel_rfl) ?_
    rintro r w110 ⟨rfl,h10⟩
    refine⟨_,rfl,fun _=>⟨_,_,_,h10⟩,?_⟩
    refine ag [25,26,27,28] [.bool true,.bool true,.bool true,aj sg 0] rfl (by kernel_rfl) (fun _=>by kernel_rfl) ?_
    refine ah (.agg #[.int .u64 8,.int .i64 13]) (some 111) (ki (by kernel_rfl)) (fun bb hb=>aB (x:=(.tmp 9)) (by kernel_rfl) (by kernel_rfl) (dD [.int .u64 8,.int .i64 13] (QB.out _ hb) Tryz.underlying86 rfl (by kernel_rfl))) ?_
    refine az (some 112) (ki (by kernel_rfl)) (hX1 _ h10) (fun _=>by kernel_rfl) ?_
    rintro r w111 ⟨rfl,h11⟩
    refine⟨_,rfl,fun _=>⟨_,_,_,h11⟩,?_⟩
    refine ag [31,32,33] [.bool true,.bool true,aj sg 0] rfl (by kernel_rfl) (fun _=>by kernel_rfl) ?_
    refine az (some 116) (ki (by kernel_rfl)) (hX2 _ h11) (fun _=>by kernel_rfl) ?_
    rintro r w112 ⟨rfl,h12⟩
    refine⟨_,rfl,fun _=>⟨_,_,_,h12⟩,?_⟩
    refine ah (.bool true) (some 117) (ki (by kernel_rfl)) (fun bb hb=>bV (t:=22) (t':=22) (xv := .int .u64 1) (yv := .int .u64 1) (x:=(.tmp 116)) (y:=(.const (.int .u64 1))) (by kernel_rfl) (by kernel_rfl) (by kernel_rfl) (fun _=>by kernel_rfl) (kS _ (decide_eq_true rfl))) ?_
    refine ag [36,37] [.bool true,.bool true] rfl (by kernel_rfl) (fun _=>by kernel_rfl) ?_
    exact aA (aQ (K:=Q .normal) (by kernel_rfl) (HQ.out (aj sg 0) (v1) (.agg #[.int .u64 8,.int .i64 13]) (.agg #[.int .u64 7,.int .i64 12]) (.slice (some ⟨k1,0,none⟩) 2 2) (.bool true) (.bool true) (aj sg 0) (v4) (.agg #[.int .u64 8,.int .i64 13]) (.slice (some ⟨k2,0,none⟩) 1 1) (.bool true) (.bool true) (.bool true) (aj sg 0) (v8) (.agg #[.int .u64 7,.int .i64 12]) (.agg #[.int .u64 8,.int .i64 13]) (.slice (some ⟨k3,0,none⟩) 2 2) (.bool true) (.bool true) (.bool true) (aj sg 0) (.agg #[.int .u64 8,.int .i64 12]) (.bool false) (.bool true) (.bool true) (.bool true) (aj sg 0) (.agg #[.int .u64 8,.int .i64 13]) (.bool true) (.bool true) (.bool true) (aj sg 0) (.int .u64 1) (.bool true) (.bool true) _ h12))
  ·skip
   refine qZ ?_
   refine gq (.cells #[.int .u64 8,.int .i64 13] 86) 1 (some 92) (ki (by kernel_rfl)) (by kernel_rfl) ?_
   intro k2 w_k2 hk_k2 hO_k2 hm_k2 hl_k2
   have h4:=hB1 _ _ _ _ h3 hk_k2 hO_k2 hm_k2
   refine⟨fun _=>⟨_,_,_,h4⟩,?_⟩
   refine az (some 90) (ki (by kernel_rfl)) (hC1 _ _ h4) (fun _=>by kernel_rfl) ?_
   rintro r w105 ⟨v5,rfl,h5⟩
   refine⟨_,rfl,fun _=>⟨_,_,_,h5⟩,?_⟩
   refine az (some 93) (ki (by kernel_rfl)) (hE1 _ _ _ h5) (fun _=>by kernel_rfl) ?_
   rintro r w106 ⟨rfl,h6⟩
   refine⟨_,rfl,fun _=>⟨_,_,_,h6⟩,?_⟩
   refine ag [12,13,14] [.bool true,.bool true,aj sg 0] rfl (by kernel_rfl) (fun _=>by kernel_rfl) ?_
   refine ah (.agg #[.int .u64 7,.int .i64 12]) (some 98) (ki (by kernel_rfl)) (fun bb hb=>aB (x:=(.tmp 8)) (by kernel_rfl) (by kernel_rfl) (dD [.int .u64 7,.int .i64 12] (QA.out _ hb) Tryz.underlying86 rfl (by kernel_rfl))) ?_
   refine ah (.agg #[.int .u64 8,.int .i64 13]) (some 99) (ki (by kernel_rfl)) (fun bb hb=>aB (x:=(.tmp 9)) (by kernel_rfl) (by kernel_rfl) (dD [.int .u64 8,.int .i64 13] (QB.out _ hb) Tryz.underlying86 rfl (by kernel_rfl))) ?_
   refine sF ?_ ?_
   ·skip
    refine nT ?_
    refine az (some 97) (ki (by kernel_rfl)) (hC2 _ _ h6) (fun _=>by kernel_rfl) ?_
    rintro r w107 ⟨v7,rfl,h7⟩
    refine⟨_,rfl,fun _=>⟨_,_,_,h7⟩,?_⟩
    refine gq (.cells #[.int .u64 7,.int .i64 12,.int .u64 8,.int .i64 13] 86) 2 (some 100) (ki (by kernel_rfl)) (by kernel_rfl) ?_
    intro k3 w_k3 hk_k3 hO_k3 hm_k3 hl_k3
    have h8:=hB2 _ _ _ _ h7 hk_k3 hO_k3 hm_k3
    refine⟨fun _=>⟨_,_,_,h8⟩,?_⟩
    refine az (some 101) (ki (by kernel_rfl)) (hE2 _ _ _ h8) (fun _=>by kernel_rfl) ?_
    rintro r w109 ⟨rfl,h9⟩
    refine⟨_,rfl,fun _=>⟨_,_,_,h9⟩,?_⟩
    refine ag [20,21,22,23] [.bool true,.bool true,aj sg 0,.agg #[.int .u64 8,.int .i64 12]] rfl (by kernel_rfl) (fun _=>by kernel_rfl) ?_
    refine az (some 106) (ki (by kernel_rfl)) (hX0 _ h9) (fun _=>by kernel_rfl) ?_
    rintro r w110 ⟨rfl,h10⟩
    refine⟨_,rfl,fun _=>⟨_,_,_,h10⟩,?_⟩
    refine ag [25,26,27,28] [.bool true,.bool true,.bool true,aj sg 0] rfl (by kernel_rfl) (fun _=>by kernel_rfl) ?_
    refine ah (.agg #[.int .u64 8,.int .i64 13]) (some 111) (ki (by kernel_rfl)) (fun bb hb=>aB (x:=(.tmp 9)) (by kernel_rfl) (by kernel_rfl) (dD [.int .u64 8,.int .i64 13] (QB.out _ hb) Tryz.underlying86 rfl (by kernel_rfl))) ?_
    refine az (some 112) (ki (by kernel_rfl)) (hX1 _ h10) (fun _=>by kernel_rfl) ?_
    rintro r w111 ⟨rfl,h11⟩
    refine⟨_,rfl,fun _=>⟨_,_,_,h11⟩,?_⟩
    refine ag [31,32,33] [.bool true,.bool true,aj sg 0] rfl (by kernel_rfl) (fun _=>by kernel_rfl) ?_
    refine az (some 116) (ki (by kernel_rfl)) (hX2 _ h11) (fun _=>by kernel_rfl) ?_
    rintro r w112 ⟨rfl,h12⟩
    refine⟨_,rfl,fun _=>⟨_,_,_,h12⟩,?_⟩
    refine ah (.bool true) (some 117) (ki (by kernel_rfl)) (fun bb hb=>bV (t:=22) (t':=22) (xv := .int .u64 1) (yv := .int .u64 1) (x:=(.tmp 116)) (y:=(.const (.int .u64 1))) (by kernel_rfl) (by kernel_rfl) (by kernel_rfl) (fun _=>by kernel_rfl) (kS _ (decide_eq_true rfl))) ?_
    refine ag [36,37] [.bool true,.bool true] rfl (by kernel_rfl) (fun _=>by kernel_rfl) ?_
    exact aA (aQ (K:=Q .normal) (by kernel_rfl) (HQ.out (aj sg 0) (v1) (.agg #[.int .u64 8,.int .i64 13]) (.agg #[.int .u64 7,.int .i64 12]) (.slice (some ⟨k1,0,none⟩) 2 2) (.bool true) (.bool true) (aj sg 0) (v5) (.agg #[.int .u64 8,.int .i64 13]) (.slice (some ⟨k2,0,none⟩) 1 1) (.bool true) (.bool true) (.bool true) (aj sg 0) (v7) (.agg #[.int .u64 7,.int .i64 12]) (.agg #[.int .u64 8,.int .i64 13]) (.slice (some ⟨k3,0,none⟩) 2 2) (.bool true) (.bool true) (.bool true) (aj sg 0) (.agg #[.int .u64 8,.int .i64 12]) (.bool false) (.bool true) (.bool true) (.bool true) (aj sg 0) (.agg #[.int .u64 8,.int .i64 13]) (.bool true) (.bool true) (.bool true) (aj sg 0) (.int .u64 1) (.bool true) (.bool true) _ h12))
   ·skip
    refine nT ?_
    refine gq (.cells #[.int .u64 7,.int .i64 12,.int .u64 8,.int .i64 13] 86) 2 (some 100) (ki (by kernel_rfl)) (by kernel_rfl) ?_
    intro k3 w_k3 hk_k3 hO_k3 hm_k3 hl_k3
    have h7:=hB2 _ _ _ _ h6 hk_k3 hO_k3 hm_k3
    refine⟨fun _=>⟨_,_,_,h7⟩,?_⟩
    refine az (some 97) (ki (by kernel_rfl)) (hC2 _ _ h7) (fun _=>by kernel_rfl) ?_
    rintro r w108 ⟨v8,rfl,h8⟩
    refine⟨_,rfl,fun _=>⟨_,_,_,h8⟩,?_⟩
    refine az (some 101) (ki (by kernel_rfl)) (hE2 _ _ _ h8) (fun _=>by kernel_rfl) ?_
    rintro r w109 ⟨rfl,h9⟩
    refine⟨_,rfl,fun _=>⟨_,_,_,h9⟩,?_⟩
    refine ag [20,21,22,23] [.bool true,.bool true,aj sg 0,.agg #[.int .u64 8,.int .i64 12]] rfl (by kernel_rfl) (fun _=>by kernel_rfl) ?_
    refine az (some 106) (ki (by kernel_rfl)) (hX0 _ h9) (fun _=>by kernel_rfl) ?_
    rintro r w110 ⟨rfl,h10⟩
    refine⟨_,rfl,fun _=>⟨_,_,_,h10⟩,?_⟩
    refine ag [25,26,27,28] [.bool true,.bool true,.bool true,aj sg 0] rfl (by kernel_rfl) (fun _=>by kernel_rfl) ?_
    refine ah (.agg #[.int .u64 8,.int .i64 13]) (some 111) (ki (by kernel_rfl)) (fun bb hb=>aB (x:=(.tmp 9)) (by kernel_rfl) (by kernel_rfl) (dD [.int .u64 8,.int .i64 13] (QB.out _ hb) Tryz.underlying86 rfl (by kernel_rfl))) ?_
    refine az (some 112) (ki (by kernel_rfl)) (hX1 _ h10) (fun _=>by kernel_rfl) ?_
    rintro r w111 ⟨rfl,h11⟩
    refine⟨_,rfl,fun _=>⟨_,_,_,h11⟩,?_⟩
    refine ag [31,32,33] [.bool true,.bool true,aj sg 0] rfl (by kernel_rfl) (fun _=>by kernel_rfl) ?_
    refine az (some 116) (ki (by kernel_rfl)) (hX2 _ h11) (fun _=>by kernel_rfl) ?_
    rintro r w112 ⟨rfl,h12⟩
    refine⟨_,rfl,fun _=>⟨_,_,_,h12⟩,?_⟩
    refine ah (.bool true) (some 117) (ki (by kernel_rfl)) (fun bb hb=>bV (t:=22) (t':=22) (xv := .int .u64 1) (yv := .int .u64 1) (x:=(.tmp 116)) (y:=(.const (.int .u64 1))) (by kernel_rfl) (by kernel_rfl) (by kernel_rfl) (fun _=>by kernel_rfl) (kS _ (decide_eq_true rfl))) ?_
    refine ag [36,37] [.bool true,.bool true] rfl (by kernel_rfl) (fun _=>by kernel_rfl) ?_
    exact aA (aQ (K:=Q .normal) (by kernel_rfl) (HQ.out (aj sg 0) (v1) (.agg #[.int .u64 8,.int .i64 13]) (.agg #[.int .u64 7,.int .i64 12]) (.slice (some ⟨k1,0,none⟩) 2 2) (.bool true) (.bool true) (aj sg 0) (v5) (.agg #[.int .u64 8,.int .i64 13]) (.slice (some ⟨k2,0,none⟩) 1 1) (.bool true) (.bool true) (.bool true) (aj sg 0) (v8) (.agg #[.int .u64 7,.int .i64 12]) (.agg #[.int .u64 8,.int .i64 13]) (.slice (some ⟨k3,0,none⟩) 2 2) (.bool true) (.bool true) (.bool true) (aj sg 0) (.agg #[.int .u64 8,.int .i64 12]) (.bool false) (.bool true) (.bool true) (.bool true) (aj sg 0) (.agg #[.int .u64 8,.int .i64 13]) (.bool true) (.bool true) (.bool true) (aj sg 0) (.int .u64 1) (.bool true) (.bool true) _ h12))
 ·skip
  refine qZ ?_
  refine gq (.cells #[.int .u64 8,.int .i64 13,.int .u64 7,.int .i64 12] 86) 2 (some 86) (ki (by kernel_rfl)) (by kernel_rfl) ?_
  intro k1 w_k1 hk_k1 hO_k1 hm_k1 hl_k1
  have h1:=hB0 _ _ _ _ h0 hk_k1 hO_k1 hm_k1
  refine⟨fun _=>⟨_,_,_,h1⟩,?_⟩
  refine az (some 83) (ki (by kernel_rfl)) (hC0 _ _ h1) (fun _=>by kernel_rfl) ?_
  rintro r w102 ⟨v2,rfl,h2⟩
  refine⟨_,rfl,fun _=>⟨_,_,_,h2⟩,?_⟩
  refine az (some 87) (ki (by kernel_rfl)) (hE0 _ _ _ h2) (fun _=>by kernel_rfl) ?_
  rintro r w103 ⟨rfl,h3⟩
  refine⟨_,rfl,fun _=>⟨_,_,_,h3⟩,?_⟩
  refine ag [6,7] [.bool true,aj sg 0] rfl (by kernel_rfl) (fun _=>by kernel_rfl) ?_
  refine ah (.agg #[.int .u64 8,.int .i64 13]) (some 91) (ki (by kernel_rfl)) (fun bb hb=>aB (x:=(.tmp 9)) (by kernel_rfl) (by kernel_rfl) (dD [.int .u64 8,.int .i64 13] (QB.out _ hb) Tryz.underlying86 rfl (by kernel_rfl))) ?_
  refine sF ?_ ?_
  ·skip
   refine qZ ?_
   refine az (some 90) (ki (by kernel_rfl)) (hC1 _ _ h3) (fun _=>by kernel_rfl) ?_
   rintro r w104 ⟨v4,rfl,h4⟩
   refine⟨_,rfl,fun _=>⟨_,_,_,h4⟩,?_⟩
   refine gq (.cells #[.int .u64 8,.int .i64 13] 86) 1 (some 92) (ki (by kernel_rfl)) (by kernel_rfl) ?_
   intro k2 w_k2 hk_k2 hO_k2 hm_k2 hl_k2
   have h5:=hB1 _ _ _ _ h4 hk_k2 hO_k2 hm_k2
   refine⟨fun _=>⟨_,_,_,h5⟩,?_⟩
   refine az (some 93) (ki (by kernel_rfl)) (hE1 _ _ _ h5) (fun _=>by kernel_rfl) ?_
   rintro r w106 ⟨rfl,h6⟩
   refine⟨_,rfl,fun _=>⟨_,_,_,h6⟩,?_⟩
   refine ag [12,13,14] [.bool true,.bool true,aj sg 0] rfl (by kernel_rfl) (fun _=>by kernel_rfl) ?_
   refine ah (.agg #[.int .u64 7,.int .i64 12]) (some 98) (ki (by kernel_rfl)) (fun bb hb=>aB (x:=(.tmp 8)) (by kernel_rfl) (by kernel_rfl) (dD [.int .u64 7,.int .i64 12] (QA.out _ hb) Tryz.underlying86 rfl (by kernel_rfl))) ?_
   refine ah (.agg #[.int .u64 8,.int .i64 13]) (some 99) (ki (by kernel_rfl)) (fun bb hb=>aB (x:=(.tmp 9)) (by kernel_rfl) (by kernel_rfl) (dD [.int .u64 8,.int .i64 13] (QB.out _ hb) Tryz.underlying86 rfl (by kernel_rfl))) ?_
   refine sF ?_ ?_
   ·skip
    refine nT ?_
    refine az (some 97) (ki (by kernel_rfl)) (hC2 _ _ h6) (fun _=>by kernel_rfl) ?_
    rintro r w107 ⟨v7,rfl,h7⟩
    refine⟨_,rfl,fun _=>⟨_,_,_,h7⟩,?_⟩
    refine gq (.cells #[.int .u64 7,.int .i64 12,.int .u64 8,.int .i64 13] 86) 2 (some 100) (ki (by kernel_rfl)) (by kernel_rfl) ?_
    intro k3 w_k3 hk_k3 hO_k3 hm_k3 hl_k3
    have h8:=hB2 _ _ _ _ h7 hk_k3 hO_k3 hm_k3
    refine⟨fun _=>⟨_,_,_,h8⟩,?_⟩
    refine az (some 101) (ki (by kernel_rfl)) (hE2 _ _ _ h8) (fun _=>by kernel_rfl) ?_
    rintro r w109 ⟨rfl,h9⟩
    refine⟨_,rfl,fun _=>⟨_,_,_,h9⟩,?_⟩
    refine ag [20,21,22,23] [.bool true,.bool true,aj sg 0,.agg #[.int .u64 8,.int .i64 12]] rfl (by kernel_rfl) (fun _=>by kernel_rfl) ?_
    refine az (some 106) (ki (by kernel_rfl)) (hX0 _ h9) (fun _=>by kernel_rfl) ?_
    rintro r w110 ⟨rfl,h10⟩
    refine⟨_,rfl,fun _=>⟨_,_,_,h10⟩,?_⟩
    refine ag [25,26,27,28] [.bool true,.bool true,.bool true,aj sg 0] rfl (by kernel_rfl) (fun _=>by kernel_rfl) ?_
    refine ah (.agg #[.int .u64 8,.int .i64 13]) (some 111) (ki (by kernel_rfl)) (fun bb hb=>aB (x:=(.tmp 9)) (by kernel_rfl) (by kernel_rfl) (dD [.int .u64 8,.int .i64 13] (QB.out _ hb) Tryz.underlying86 rfl (by kernel_rfl))) ?_
    refine az (some 112) (ki (by kernel_rfl)) (hX1 _ h10) (fun _=>by kernel_rfl) ?_
    rintro r w111 ⟨rfl,h11⟩
    refine⟨_,rfl,fun _=>⟨_,_,_,h11⟩,?_⟩
    refine ag [31,32,33] [.bool true,.bool true,aj sg 0] rfl (by kernel_rfl) (fun _=>by kernel_rfl) ?_
    refine az (some 116) (ki (by kernel_rfl)) (hX2 _ h11) (fun _=>by kernel_rfl) ?_
    rintro r w112 ⟨rfl,h12⟩
    refine⟨_,rfl,fun _=>⟨_,_,_,h12⟩,?_⟩
    refine ah (.bool true) (some 117) (ki (by kernel_rfl)) (fun bb hb=>bV (t:=22) (t':=22) (xv := .int .u64 1) (yv := .int .u64 1) (x:=(.tmp 116)) (y:=(.const (.int .u64 1))) (by kernel_rfl) (by kernel_rfl) (by kernel_rfl) (fun _=>by kernel_rfl) (kS _ (decide_eq_true rfl))) ?_
    refine ag [36,37] [.bool true,.bool true] rfl (by kernel_rfl) (fun _=>by kernel_rfl) ?_
    exact aA (aQ (K:=Q .normal) (by kernel_rfl) (HQ.out (aj sg 0) (v2) (.agg #[.int .u64 8,.int .i64 13]) (.agg #[.int .u64 7,.int .i64 12]) (.slice (some ⟨k1,0,none⟩) 2 2) (.bool true) (.bool true) (aj sg 0) (v4) (.agg #[.int .u64 8,.int .i64 13]) (.slice (some ⟨k2,0,none⟩) 1 1) (.bool true) (.bool true) (.bool true) (aj sg 0) (v7) (.agg #[.int .u64 7,.int .i64 12]) (.agg #[.int .u64 8,.int .i64 13]) (.slice (some ⟨k3,0,none⟩) 2 2) (.bool true) (.bool true) (.bool true) (aj sg 0) (.agg #[.int .u64 8,.int .i64 12]) (.bool false) (.bool true) (.bool true) (.bool true) (aj sg 0) (.agg #[.int .u64 8,.int .i64 13]) (.bool true) (.bool true) (.bool true) (aj sg 0) (.int .u64 1) (.bool true) (.bool true) _ h12))
   ·skip
    refine nT ?_
    refine gq (.cells #[.int .u64 7,.int .i64 12,.int .u64 8,.int .i64 13] 86) 2 (some 100) (ki (by kernel_rfl)) (by kernel_rfl) ?_
    intro k3 w_k3 hk_k3 hO_k3 hm_k3 hl_k3
    have h7:=hB2 _ _ _ _ h6 hk_k3 hO_k3 hm_k3
    refine⟨fun _=>⟨_,_,_,h7⟩,?_⟩
    refine az (some 97) (ki (by kernel_rfl)) (hC2 _ _ h7) (fun _=>by kernel_rfl) ?_
    rintro r w108 ⟨v8,rfl,h8⟩
    refine⟨_,rfl,fun _=>⟨_,_,_,h8⟩,?_⟩
    refine az (some 101) (ki (by kernel_rfl)) (hE2 _ _ _ h8) (fun _=>by kernel_rfl) ?_
    rintro r w109 ⟨rfl,h9⟩
    refine⟨_,rfl,fun _=>⟨_,_,_,h9⟩,?_⟩
    refine ag [20,21,22,23] [.bool true,.bool true,aj sg 0,.agg #[.int .u64 8,.int .i64 12]] rfl (by kernel_rfl) (fun _=>by kernel_rfl) ?_
    refine az (some 106) (ki (by kernel_rfl)) (hX0 _ h9) (fun _=>by kernel_rfl) ?_
    rintro r w110 ⟨rfl,h10⟩
    refine⟨_,rfl,fun _=>⟨_,_,_,h10⟩,?_⟩
    refine ag [25,26,27,28] [.bool true,.bool true,.bool true,aj sg 0] rfl (by kernel_rfl) (fun _=>by kernel_rfl) ?_
    refine ah (.agg #[.int .u64 8,.int .i64 13]) (some 111) (ki (by kernel_rfl)) (fun bb hb=>aB (x:=(.tmp 9)) (by kernel_rfl) (by kernel_rfl) (dD [.int .u64 8,.int .i64 13] (QB.out _ hb) Tryz.underlying86 rfl (by kernel_rfl))) ?_
    refine az (some 112) (ki (by kernel_rfl)) (hX1 _ h10) (fun _=>by kernel_rfl) ?_
    rintro r w111 ⟨rfl,h11⟩
    refine⟨_,rfl,fun _=>⟨_,_,_,h11⟩,?_⟩
    refine ag [31,32,33] [.bool true,.bool true,aj sg 0] rfl (by kernel_rfl) (fun _=>by kernel_rfl) ?_
    refine az (some 116) (ki (by kernel_rfl)) (hX2 _ h11) (fun _=>by kernel_rfl) ?_
    rintro r w112 ⟨rfl,h12⟩
    refine⟨_,rfl,fun _=>⟨_,_,_,h12⟩,?_⟩
    refine ah (.bool true) (some 117) (ki (by kernel_rfl)) (fun bb hb=>bV (t:=22) (t':=22) (xv := .int .u64 1) (yv := .int .u64 1) (x:=(.tmp 116)) (y:=(.const (.int .u64 1))) (by kernel_rfl) (by kernel_rfl) (by kernel_rfl) (fun _=>by kernel_rfl) (kS _ (decide_eq_true rfl))) ?_
    refine ag [36,37] [.bool true,.bool true] rfl (by kernel_rfl) (fun _=>by kernel_rfl) ?_
    exact aA (aQ (K:=Q .normal) (by kernel_rfl) (HQ.out (aj sg 0) (v2) (.agg #[.int .u64 8,.int .i64 13]) (.agg #[.int .u64 7,.int .i64 12]) (.slice (some ⟨k1,0,none⟩) 2 2) (.bool true) (.bool true) (aj sg 0) (v4) (.agg #[.int .u64 8,.int .i64 13]) (.slice (some ⟨k2,0,none⟩) 1 1) (.bool true) (.bool true) (.bool true) (aj sg 0) (v8) (.agg #[.int .u64 7,.int .i64 12]) (.agg #[.int .u64 8,.int .i64 13]) (.slice (some ⟨k3,0,none⟩) 2 2) (.bool true) (.bool true) (.bool true) (aj sg 0) (.agg #[.int .u64 8,.int .i64 12]) (.bool false) (.bool true) (.bool true) (.bool true) (aj sg 0) (.agg #[.int .u64 8,.int .i64 13]) (.bool true) (.bool true) (.bool true) (aj sg 0) (.int .u64 1) (.bool true) (.bool true) _ h12))
  ·skip
   refine qZ ?_
   refine gq (.cells #[.int .u64 8,.int .i64 13] 86) 1 (some 92) (ki (by kernel_rfl)) (by kernel_rfl) ?_
   intro k2 w_k2 hk_k2 hO_k2 hm_k2 hl_k2
   have h4:=hB1 _ _ _ _ h3 hk_k2 hO_k2 hm_k2
   refine⟨fun _=>⟨_,_,_,h4⟩,?_⟩
   refine az (some 90) (ki (by kernel_rfl)) (hC1 _ _ h4) (fun _=>by kernel_rfl) ?_
   rintro r w105 ⟨v5,rfl,h5⟩
   refine⟨_,rfl,fun _=>⟨_,_,_,h5⟩,?_⟩
   refine az (some 93) (ki (by kernel_rfl)) (hE1 _ _ _ h5) (fun _=>by kernel_rfl) ?_
   rintro r w106 ⟨rfl,h6⟩
   refine⟨_,rfl,fun _=>⟨_,_,_,h6⟩,?_⟩
   refine ag [12,13,14] [.bool true,.bool true,aj sg 0] rfl (by kernel_rfl) (fun _=>by kernel_rfl) ?_
   refine ah (.agg #[.int .u64 7,.int .i64 12]) (some 98) (ki (by kernel_rfl)) (fun bb hb=>aB (x:=(.tmp 8)) (by kernel_rfl) (by kernel_rfl) (dD [.int .u64 7,.int .i64 12] (QA.out _ hb) Tryz.underlying86 rfl (by kernel_rfl))) ?_
   refine ah (.agg #[.int .u64 8,.int .i64 13]) (some 99) (ki (by kernel_rfl)) (fun bb hb=>aB (x:=(.tmp 9)) (by kernel_rfl) (by kernel_rfl) (dD [.int .u64 8,.int .i64 13] (QB.out _ hb) Tryz.underlying86 rfl (by kernel_rfl))) ?_
   refine sF ?_ ?_
   ·skip
    refine nT ?_
    refine az (some 97) (ki (by kernel_rfl)) (hC2 _ _ h6) (fun _=>by kernel_rfl) ?_
    rintro r w107 ⟨v7,rfl,h7⟩
    refine⟨_,rfl,fun _=>⟨_,_,_,h7⟩,?_⟩
    refine gq (.cells #[.int .u64 7,.int .i64 12,.int .u64 8,.int .i64 13] 86) 2 (some 100) (ki (by kernel_rfl)) (by kernel_rfl) ?_
    intro k3 w_k3 hk_k3 hO_k3 hm_k3 hl_k3
    have h8:=hB2 _ _ _ _ h7 hk_k3 hO_k3 hm_k3
    refine⟨fun _=>⟨_,_,_,h8⟩,?_⟩
    refine az (some 101) (ki (by kernel_rfl)) (hE2 _ _ _ h8) (fun _=>by kernel_rfl) ?_
    rintro r w109 ⟨rfl,h9⟩
    refine⟨_,rfl,fun _=>⟨_,_,_,h9⟩,?_⟩
    refine ag [20,21,22,23] [.bool true,.bool true,aj sg 0,.agg #[.int .u64 8,.int .i64 12]] rfl (by kernel_rfl) (fun _=>by kernel_rfl) ?_
    refine az (some 106) (ki (by kernel_rfl)) (hX0 _ h9) (fun _=>by kernel_rfl) ?_
    rintro r w110 ⟨rfl,h10⟩
    refine⟨_,rfl,fun _=>⟨_,_,_,h10⟩,?_⟩
    refine ag [25,26,27,28] [.bool true,.bool true,.bool true,aj sg 0] rfl (by kernel_rfl) (fun _=>by kernel_rfl) ?_
    refine ah (.agg #[.int .u64 8,.int .i64 13]) (some 111) (ki (by kernel_rfl)) (fun bb hb=>aB (x:=(.tmp 9)) (by kernel_rfl) (by kernel_rfl) (dD [.int .u64 8,.int .i64 13] (QB.out _ hb) Tryz.underlying86 rfl (by kernel_rfl))) ?_
    refine az (some 112) (ki (by kernel_rfl)) (hX1 _ h10) (fun _=>by kernel_rfl) ?_
    rintro r w111 ⟨rfl,h11⟩
    refine⟨_,rfl,fun _=>⟨_,_,_,h11⟩,?_⟩
    refine ag [31,32,33] [.bool true,.bool true,aj sg 0] rfl (by kernel_rfl) (fun _=>by kernel_rfl) ?_
    refine az (some 116) (ki (by kernel_rfl)) (hX2 _ h11) (fun _=>by kernel_rfl) ?_
    rintro r w112 ⟨rfl,h12⟩
    refine⟨_,rfl,fun _=>⟨_,_,_,h12⟩,?_⟩
    refine ah (.bool true) (some 117) (ki (by kernel_rfl)) (fun bb hb=>bV (t:=22) (t':=22) (xv := .int .u64 1) (yv := .int .u64 1) (x:=(.tmp 116)) (y:=(.const (.int .u64 1))) (by kernel_rfl) (by kernel_rfl) (by kernel_rfl) (fun _=>by kernel_rfl) (kS _ (decide_eq_true rfl))) ?_
    refine ag [36,37] [.bool true,.bool true] rfl (by kernel_rfl) (fun _=>by kernel_rfl) ?_
    exact aA (aQ (K:=Q .normal) (by kernel_rfl) (HQ.out (aj sg 0) (v2) (.agg #[.int .u64 8,.int .i64 13]) (.agg #[.int .u64 7,.int .i64 12]) (.slice (some ⟨k1,0,none⟩) 2 2) (.bool true) (.bool true) (aj sg 0) (v5) (.agg #[.int .u64 8,.int .i64 13]) (.slice (some ⟨k2,0,none⟩) 1 1) (.bool true) (.bool true) (.bool true) (aj sg 0) (v7) (.agg #[.int .u64 7,.int .i64 12]) (.agg #[.int .u64 8,.int .i64 13]) (.slice (some ⟨k3,0,none⟩) 2 2) (.bool true) (.bool true) (.bool true) (aj sg 0) (.agg #[.int .u64 8,.int .i64 12]) (.bool false) (.bool true) (.bool true) (.bool true) (aj sg 0) (.agg #[.int .u64 8,.int .i64 13]) (.bool true) (.bool true) (.bool true) (aj sg 0) (.int .u64 1) (.bool true) (.bool true) _ h12))
   ·skip
    refine nT ?_
    refine gq (.cells #[.int .u64 7,.int .i64 12,.int .u64 8,.int .i64 13] 86) 2 (some 100) (ki (by kernel_rfl)) (by kernel_rfl) ?_
    intro k3 w_k3 hk_k3 hO_k3 hm_k3 hl_k3
    have h7:=hB2 _ _ _ _ h6 hk_k3 hO_k3 hm_k3
    refine⟨fun _=>⟨_,_,_,h7⟩,?_⟩
    refine az (some 97) (ki (by kernel_rfl)) (hC2 _ _ h7) (fun _=>by kernel_rfl) ?_
    rintro r w108 ⟨v8,rfl,h8⟩
    refine⟨_,rfl,fun _=>⟨_,_,_,h8⟩,?_⟩
    refine az (some 101) (ki (by kernel_rfl)) (hE2 _ _ _ h8) (fun _=>by kernel_rfl) ?_
    rintro r w109 ⟨rfl,h9⟩
    refine⟨_,rfl,fun _=>⟨_,_,_,h9⟩,?_⟩
    refine ag [20,21,22,23] [.bool true,.bool true,aj sg 0,.agg #[.int .u64 8,.int .i64 12]] rfl (by kernel_rfl) (fun _=>by kernel_rfl) ?_
    refine az (some 106) (ki (by kernel_rfl)) (hX0 _ h9) (fun _=>by kernel_rfl) ?_
    rintro r w110 ⟨rfl,h10⟩
    refine⟨_,rfl,fun _=>⟨_,_,_,h10⟩,?_⟩
    refine ag [25,26,27,28] [.bool true,.bool true,.bool true,aj sg 0] rfl (by kernel_rfl) (fun _=>by kernel_rfl) ?_
    refine ah (.agg #[.int .u64 8,.int .i64 13]) (some 111) (ki (by kernel_rfl)) (fun bb hb=>aB (x:=(.tmp 9)) (by kernel_rfl) (by kernel_rfl) (dD [.int .u64 8,.int .i64 13] (QB.out _ hb) Tryz.underlying86 rfl (by kernel_rfl))) ?_
    refine az (some 112) (ki (by kernel_rfl)) (hX1 _ h10) (fun _=>by kernel_rfl) ?_
    rintro r w111 ⟨rfl,h11⟩
    refine⟨_,rfl,fun _=>⟨_,_,_,h11⟩,?_⟩
    refine ag [31,32,33] [.bool true,.bool true,aj sg 0] rfl (by kernel_rfl) (fun _=>by kernel_rfl) ?_
    refine az (some 116) (ki (by kernel_rfl)) (hX2 _ h11) (fun _=>by kernel_rfl) ?_
    rintro r w112 ⟨rfl,h12⟩
    refine⟨_,rfl,fun _=>⟨_,_,_,h12⟩,?_⟩
    refine ah (.bool true) (some 117) (ki (by kernel_rfl)) (fun bb hb=>bV (t:=22) (t':=22) (xv := .int .u64 1) (yv := .int .u64 1) (x:=(.tmp 116)) (y:=(.const (.int .u64 1))) (by kernel_rfl) (by kernel_rfl) (by kernel_rfl) (fun _=>by kernel_rfl) (kS _ (decide_eq_true rfl))) ?_
    refine ag [36,37] [.bool true,.bool true] rfl (by kernel_rfl) (fun _=>by kernel_rfl) ?_
    exact aA (aQ (K:=Q .normal) (by kernel_rfl) (HQ.out (aj sg 0) (v2) (.agg #[.int .u64 8,.int .i64 13]) (.agg #[.int .u64 7,.int .i64 12]) (.slice (some ⟨k1,0,none⟩) 2 2) (.bool true) (.bool true) (aj sg 0) (v5) (.agg #[.int .u64 8,.int .i64 13]) (.slice (some ⟨k2,0,none⟩) 1 1) (.bool true) (.bool true) (.bool true) (aj sg 0) (v8) (.agg #[.int .u64 7,.int .i64 12]) (.agg #[.int .u64 8,.int .i64 13]) (.slice (some ⟨k3,0,none⟩) 2 2) (.bool true) (.bool true) (.bool true) (aj sg 0) (.agg #[.int .u64 8,.int .i64 12]) (.bool false) (.bool true) (.bool true) (.bool true) (aj sg 0) (.agg #[.int .u64 8,.int .i64 13]) (.bool true) (.bool true) (.bool true) (aj sg 0) (.int .u64 1) (.bool true) (.bool true) _ h12))
end Go.Proofs.YtglkmaalpammcaaGreat

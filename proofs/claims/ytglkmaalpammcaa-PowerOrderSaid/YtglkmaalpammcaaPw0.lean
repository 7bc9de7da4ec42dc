/- power.Top, Bonded: their regions (printed by gen_pw.py). -/
import Derived.Test.YtglkmaalpammcaaBkP
import Derived.Test.YtglkmaalpammcaaZB
set_option maxHeartbeats 64000000
namespace Go.Proofs.Ytglkmaalpammcaa
open Go.Gl Go.RowKit
set_option linter.unusedVariables false
set_option linter.unusedSimpArgs false
set_option maxRecDepth 100000
theorem ry:(Try.prog.info? 22).map (fun i=>(i.zero,i.size,i.bytes))=some (some (.int .u64 0),1,8):=by kernel_rfl
theorem qj {w:World}{g:Nat}{x:Value}{e:TypeId} (h:w.heap[g]?=some (.cells #[x] e (0,0))):aU w e 1 (.slice (some ⟨g,0,none⟩) 1 1) 1 [x]:=⟨rfl,.inr ⟨g,0,1,#[x],rfl,h,Nat.le_refl _,by simp [maxLen],by simp,fun j u hj=>by rw [Nat.zero_add,← hj];exact List.getElem?_toArray⟩⟩
theorem pt0 {w:World}{n:Int}{x0 x2 x3 x4 x5 x6 x7 x8 x9 aS bn bi bg aO aP aV aT aW aX aY aQ bu bz bD bK bI bJ bH bT bU cO cZ dh di bY bZ:Value}{df:List Deferred}{Q:Exit→Act→World→Prop}
  (hK:∀ (bq:Nat) (w':World),bq=w.heap.size→w'.heap[bq]?=some (.cells #[.int .i64 n] 3 (0,0))→ae aj w w'→Q .normal ⟨#[x0,.int .i64 n,x2,.pointer (some ⟨bq,0,none⟩),.slice none 0 0,x5,x6,x7,x8,x9,aS,bn,bi,bg,aO,aP,aV,aT,aW,aX,aY,aQ,bu,bz,bD,bK,bI,bJ,bH,bT,bU,cO,cZ,dh,di,bY,bZ],df⟩ w'):RW Try.prog (aJ 0 Try.f27) false Q ⟨#[x0,.int .i64 n,x2,x3,x4,x5,x6,x7,x8,x9,aS,bn,bi,bg,aO,aP,aV,aT,aW,aX,aY,aQ,bu,bz,bD,bK,bI,bJ,bH,bT,bU,cO,cZ,dh,di,bY,bZ],df⟩ w:=by
 have HQ:=lh hK
 clear hK
 refine bV [(0,false),(1,false)] (by kernel_rfl) ?_
 refine fB (.cells #[.int .i64 n] 3) (some 3) (ki (by kernel_rfl)) (by kernel_rfl) ?_
 intro k1 w_k1 hk_k1 hO_k1 hm_k1 hl_k1
 refine⟨fun _=>trivial,?_⟩
 refine az [1] [(.slice none 0 0)] rfl (by kernel_rfl) (by kernel_rfl) (.inr trivial) ?_
 exact aA (aZ (K:=Q .normal) (by kernel_rfl) (HQ.out  k1 w_k1 hk_k1 hO_k1 hm_k1))
section
variable {x0 x1 x2 x3 x4 x5 x6 x7 x8 x9 aS bn bi bg aO aP aV aT aW aX aY aQ bu bz bD bK bI bJ bH bT bU cO cZ dh di bY bZ dQ dJ dK dL dD dE dF dG dH dI dC dU dV dZ ed dW dX eu eF eG eU eH eP eQ dY gY gZ:Value}{df:List Deferred}{Q:Exit→Act→World→Prop}
theorem pt1 {w:World}{hb:Nat}{n:Int}{B:Bool} (q0:w.cell? ⟨hb,0,none⟩=some (.int .i64 n)) (hB:decide (n<1)=B)
  (hK:∀ (jP:Value)  (w':World),w'=w→Q .normal ⟨#[x0,x1,x2,.pointer (some ⟨hb,0,none⟩),x4,x5,x6,x7,x8,x9,aS,jP,.bool B,bg,aO,aP,aV,aT,aW,aX,aY,aQ,bu,bz,bD,bK,bI,bJ,bH,bT,bU,cO,cZ,dh,di,bY,bZ],df⟩ w'):RW Try.prog (aJ 1 Try.f27) false Q ⟨#[x0,x1,x2,.pointer (some ⟨hb,0,none⟩),x4,x5,x6,x7,x8,x9,aS,bn,bi,bg,aO,aP,aV,aT,aW,aX,aY,aQ,bu,bz,bD,bK,bI,bJ,bH,bT,bU,cO,cZ,dh,di,bY,bZ],df⟩ w:=by
 have HQ:=lh hK
 clear hK
 refine bV [(0,false),(1,false)] (by kernel_rfl) ?_
 refine aG (.int .i64 n) _ (some 11) (ki (by kernel_rfl)) (aC (x:=(.tmp 3)) (by kernel_rfl) (by kernel_rfl) (aH ((fun _=>q0) (trivial)) Try.underlying3 rfl)) (fun _=>trivial) ?_
 refine aG (.bool B) _ (some 12) (ki (by kernel_rfl)) (bM (t:=3) (t':=3) (xv := .int .i64 n) (yv := .int .i64 1) (x:=(.tmp 11)) (y:=(.const (.int .i64 1))) (by kernel_rfl) (by kernel_rfl) (by kernel_rfl) (fun _=>by kernel_rfl) (iH _ hB)) (fun _=>trivial) ?_
 exact aA (aZ (K:=Q .normal) (by kernel_rfl) (HQ.out (.int .i64 n) _ rfl))
theorem pt3 {w:World} 
  (hK:∀ (bq:Nat) (w':World),bq=w.heap.size→w'.heap[bq]?=some (.cells #[.slice none 0 0] 48 (0,0))→ae aj w w'→Q .normal ⟨#[x0,x1,x2,x3,x4,.pointer (some ⟨bq,0,none⟩),x6,x7,x8,x9,aS,bn,bi,bg,aO,aP,aV,aT,aW,aX,aY,aQ,bu,bz,bD,bK,bI,bJ,bH,bT,bU,cO,cZ,dh,di,bY,bZ],df⟩ w'):RW Try.prog (aJ 3 Try.f27) false Q ⟨#[x0,x1,x2,x3,x4,x5,x6,x7,x8,x9,aS,bn,bi,bg,aO,aP,aV,aT,aW,aX,aY,aQ,bu,bz,bD,bK,bI,bJ,bH,bT,bU,cO,cZ,dh,di,bY,bZ],df⟩ w:=by
 have HQ:=lh hK
 clear hK
 refine bV [(0,false)] (by kernel_rfl) ?_
 refine fB (.cells #[.slice none 0 0] 48) (some 5) (ki (by kernel_rfl)) (by kernel_rfl) ?_
 intro k1 w_k1 hk_k1 hO_k1 hm_k1 hl_k1
 refine⟨fun _=>trivial,?_⟩
 exact aA (aZ (K:=Q .normal) (by kernel_rfl) (HQ.out  k1 w_k1 hk_k1 hO_k1 hm_k1))
theorem pt4 {w:World}{X:Value→World→Prop} (hC:Calls Try.prog 55 #[.int .i64 10] w fun e w'=>∃ (v er:Value),e = .returned (.tuple #[v,er])∧X v w')
  (hK:∀ (y7 jQ iY jA jB:Value) (v:Value) (w':World),X v w'→Q .normal ⟨#[x0,x1,x2,x3,x4,x5,v,y7,x8,x9,aS,bn,bi,jQ,iY,jA,jB,aT,aW,aX,aY,aQ,bu,bz,bD,bK,bI,bJ,bH,bT,bU,cO,cZ,dh,di,bY,bZ],df⟩ w'):RW Try.prog (aJ 4 Try.f27) false Q ⟨#[x0,x1,x2,x3,x4,x5,x6,x7,x8,x9,aS,bn,bi,bg,aO,aP,aV,aT,aW,aX,aY,aQ,bu,bz,bD,bK,bI,bJ,bH,bT,bU,cO,cZ,dh,di,bY,bZ],df⟩ w:=by
 have HQ:=lh hK
 clear hK
 refine bV [(0,false),(1,false),(2,false),(3,false),(4,false),(5,false)] (by kernel_rfl) ?_
 refine bF (some 14) (ki (by kernel_rfl)) hC (fun _=>by kernel_rfl) ?_
 rintro r w7 ⟨v,er,rfl,hx⟩
 refine⟨_,rfl,fun _=>trivial,?_⟩
 refine az [1,2,3,4,5] [.tuple #[v,er],v,er,v,er] rfl (by kernel_rfl) (by kernel_rfl) (.inr trivial) ?_
 exact aA (aZ (K:=Q .normal) (by kernel_rfl) (HQ.out (er) (.tuple #[v,er]) (.tuple #[v,er]) (v) (er) v w7 hx))
theorem pt5 {w:World}{sv hv:Value}{X:Array Value→World→Prop} (hC:Calls Try.prog 56 #[sv,hv] w fun e w'=>∃ lb,e = .returned (.func (.func 120) #[] lb)∧X lb w')
  (hK:∀ (iZ ja:Value) (lb:Array Value) (w':World),X lb w'→Q .normal ⟨#[sv,x1,x2,x3,x4,x5,hv,x7,x8,x9,aS,bn,bi,bg,aO,aP,aV,iZ,ja,.func (.func 120) #[] lb,aY,aQ,bu,bz,bD,bK,bI,bJ,bH,bT,bU,cO,cZ,dh,di,bY,bZ],df⟩ w'):RW Try.prog (aJ 5 Try.f27) false Q ⟨#[sv,x1,x2,x3,x4,x5,hv,x7,x8,x9,aS,bn,bi,bg,aO,aP,aV,aT,aW,aX,aY,aQ,bu,bz,bD,bK,bI,bJ,bH,bT,bU,cO,cZ,dh,di,bY,bZ],df⟩ w:=by
 have HQ:=lh hK
 clear hK
 refine bV [(0,false),(1,false),(2,false)] (by kernel_rfl) ?_
 refine az [0,1] [sv,hv] rfl (by kernel_rfl) (by kernel_rfl) (.inr trivial) ?_
 refine bF (some 19) (ki (by kernel_rfl)) hC (fun _=>by kernel_rfl) ?_
 rintro r w7 ⟨lb,rfl,hx⟩
 refine⟨_,rfl,fun _=>trivial,?_⟩
 exact aA (aZ (K:=Q .normal) (by kernel_rfl) (HQ.out (sv) (hv) lb w7 hx))
theorem pt6 {w:World}{u:Value}{x0 x1 x2 x3 x4 x5 x6 x7 x8 x9 aS bn bi bg aO aP aV aT aW aX aQ bu bz bD bK bI bJ bH bT bU cO cZ dh di bY bZ:Value}{df:List Deferred}{Q:Exit→Act→World→Prop}
  (hK:∀  (w':World),w'=w→Q .normal ⟨#[x0,x1,x2,x3,x4,x5,x6,x7,u,x9,aS,bn,bi,bg,aO,aP,aV,aT,aW,aX,u,aQ,bu,bz,bD,bK,bI,bJ,bH,bT,bU,cO,cZ,dh,di,bY,bZ],df⟩ w'):RW Try.prog (aJ 6 Try.f27) false Q ⟨#[x0,x1,x2,x3,x4,x5,x6,x7,x8,x9,aS,bn,bi,bg,aO,aP,aV,aT,aW,aX,u,aQ,bu,bz,bD,bK,bI,bJ,bH,bT,bU,cO,cZ,dh,di,bY,bZ],df⟩ w:=by
 have HQ:=lh hK
 clear hK
 refine bV [(0,false)] (by kernel_rfl) ?_
 refine az [0] [u] rfl (by kernel_rfl) (by kernel_rfl) (.inr trivial) ?_
 exact aA (aZ (K:=Q .normal) (by kernel_rfl) (HQ.out  _ rfl))
theorem pt7 {w:World}{u:Value}{X:Int→Nat→Nat→World→Prop} (hC:Calls Try.prog 57 #[u] w fun e w'=>∃ (kk:Int) (a b:Nat) (er:Value),e = .returned (.tuple #[.agg #[.int .i64 kk,.int .u64 ((a:Nat):Int),.int .u64 ((b:Nat):Int)],er])∧X kk a b w')
  (hK:∀ (iW jc jd jR je jS:Value) (kk:Int) (a b bq:Nat) (wc:World) (w':World),X kk a b wc→wc.heap.size≤bq→w'.heap[bq]?=some (.cells #[.int .i64 kk,.int .u64 ((a:Nat):Int),.int .u64 ((b:Nat):Int)] 113 (0,0))→ae aj wc w'→Q .normal ⟨#[x0,x1,x2,x3,x4,x5,x6,x7,u,.pointer (some ⟨bq,0,none⟩),iW,bn,bi,bg,aO,aP,aV,aT,aW,aX,aY,aQ,jc,jd,jR,je,jS,bJ,bH,bT,bU,cO,cZ,dh,di,bY,bZ],df⟩ w'):RW Try.prog (aJ 7 Try.f27) false Q ⟨#[x0,x1,x2,x3,x4,x5,x6,x7,u,x9,aS,bn,bi,bg,aO,aP,aV,aT,aW,aX,aY,aQ,bu,bz,bD,bK,bI,bJ,bH,bT,bU,cO,cZ,dh,di,bY,bZ],df⟩ w:=by
 have HQ:=lh hK
 clear hK
 refine bV [(0,false),(1,false),(2,false),(3,false),(4,false),(5,false),(6,false),(7,false)] (by kernel_rfl) ?_
 refine az [0] [u] rfl (by kernel_rfl) (by kernel_rfl) (.inr trivial) ?_
 refine bF (some 24) (ki (by kernel_rfl)) hC (fun _=>by kernel_rfl) ?_
 rintro r w7 ⟨kk,a,b,er,rfl,hx⟩
 refine⟨_,rfl,fun _=>trivial,?_⟩
 refine az [2,3,4] [.tuple #[.agg #[.int .i64 kk,.int .u64 ((a:Nat):Int),.int .u64 ((b:Nat):Int)],er],.agg #[.int .i64 kk,.int .u64 ((a:Nat):Int),.int .u64 ((b:Nat):Int)],er] rfl (by kernel_rfl) (by kernel_rfl) (.inr trivial) ?_
 refine fB (.cells #[.int .i64 0,.int .u64 0,.int .u64 0] 113) (some 9) (ki (by kernel_rfl)) (by kernel_rfl) ?_
 intro k1 w_k1 hk_k1 hO_k1 hm_k1 hl_k1
 refine⟨fun _=>trivial,?_⟩
 refine mY (off:=0) (ty:=113) (x:=(.tmp 9)) (y:=(.tmp 25)) (cells:=#[.int .i64 kk,.int .u64 ((a:Nat):Int),.int .u64 ((b:Nat):Int)]) #[.int .i64 kk,.int .u64 ((a:Nat):Int),.int .u64 ((b:Nat):Int)] none (ki (by kernel_rfl)) (by kernel_rfl) (by kernel_rfl) (by kernel_rfl) hO_k1 (by kernel_rfl) (by kernel_rfl) (by kernel_rfl) (by kernel_rfl) ?_
 intro w9 hO9 hm9 hs9
 refine⟨fun _=>trivial,?_⟩
 have hM:=hm_k1.trans hm9 (U:=aj) (fun _ _ x=>x) (fun i hi e=>by omega)
 refine az [7] [er] rfl (by kernel_rfl) (by kernel_rfl) (.inr trivial) ?_
 exact aA (aZ (K:=Q .normal) (by kernel_rfl) (HQ.out (er) (.tuple #[.agg #[.int .i64 kk,.int .u64 ((a:Nat):Int),.int .u64 ((b:Nat):Int)],er]) (u) (.tuple #[.agg #[.int .i64 kk,.int .u64 ((a:Nat):Int),.int .u64 ((b:Nat):Int)],er]) (.agg #[.int .i64 kk,.int .u64 ((a:Nat):Int),.int .u64 ((b:Nat):Int)]) (er) kk a b k1 w7 w9 hx (Nat.le_of_eq hk_k1.symm) hO9 hM))
theorem pt8 {w:World}{ob kb n x:Nat}{vo:Value}{pcs:List Value}{t:TypeId} (hg:w.heap[ob]?=some (.cells #[vo] t (0,0))) (qk:w.cell? ⟨kb,2,none⟩=some (.int .u64 ((x:Nat):Int))) (hr:aU w 22 1 vo n pcs) (hn:n≤100000000) (hvo:¬ fK vo ob)
  (hK:∀ (y27 kK kL y30 y31:Value) (v8:Value) (w8:World) (w':World),aU w8 22 1 v8 (n+1) (pcs ++ [.int .u64 ((x:Nat):Int)])→ae (fK vo) w w8→(v8.ownBlock=vo.ownBlock∨aI w v8)→w'=w8.setCell ⟨ob,0,none⟩ v8→Q .normal ⟨#[x0,x1,x2,x3,x4,.pointer (some ⟨ob,0,none⟩),x6,x7,x8,.pointer (some ⟨kb,0,none⟩),aS,bn,bi,bg,aO,aP,aV,aT,aW,aX,aY,aQ,bu,bz,bD,bK,bI,y27,kK,kL,y30,y31,cZ,dh,di,bY,bZ],df⟩ w'):RW Try.prog (aJ 8 Try.f27) false Q ⟨#[x0,x1,x2,x3,x4,.pointer (some ⟨ob,0,none⟩),x6,x7,x8,.pointer (some ⟨kb,0,none⟩),aS,bn,bi,bg,aO,aP,aV,aT,aW,aX,aY,aQ,bu,bz,bD,bK,bI,bJ,bH,bT,bU,cO,cZ,dh,di,bY,bZ],df⟩ w:=by
 have HQ:=lh hK
 clear hK
 have HR:=lh hr
 have HG:=lh hg
 have q0:w.cell? ⟨ob,0,none⟩=some vo:=ai hg 0
 clear hr hg
 have MR:=lh (ae.refl aj w)
 refine bV [(0,false),(1,false),(2,false),(3,false),(4,false),(5,false)] (by kernel_rfl) ?_
 refine aG (vo) _ (some 27) (ki (by kernel_rfl)) (aC (x:=(.tmp 5)) (by kernel_rfl) (by kernel_rfl) (aH ((fun _=>q0) (trivial)) Try.underlying48 rfl)) (fun _=>trivial) ?_
 refine az [1] [ag kb 2] rfl (by kernel_rfl) (by kernel_rfl) (.inr trivial) ?_
 refine aG (.int .u64 ((x:Nat):Int)) _ (some 29) (ki (by kernel_rfl)) (aC (x:=(.tmp 28)) (by kernel_rfl) (by kernel_rfl) (aH ((fun _=>qk) (trivial)) Try.underlying22 rfl)) (fun _=>trivial) ?_
 refine jf (.cells #[.int .u64 ((x:Nat):Int)] 22) 1 (some 30) (ki (by kernel_rfl)) (by kernel_rfl) ?_
 intro k1 w_k1 hk_k1 hO_k1 hm_k1 hl_k1
 have MZ:=MR.out.size
 replace MR:=lh (MR.out.then0 hm_k1)
 refine⟨fun _=>trivial,?_⟩
 obtain⟨inf,hi,hz,hs,hby⟩:=info_parts ry
 obtain⟨v8,w8,hr8,o8,m8,f8⟩:=nK (P:=Try.prog) 48 48 48 22 22 inf (.int .u64 0) Try.underlying48 Try.underlying48 hi hz (by rw [hs];rfl) (by rw [hs];exact HR.out.keep MR.out (fun _ _ x=>x)) (m:=1) (ys:=[.int .u64 ((x:Nat):Int)]) (by rw [hs];exact aU.rd (qj hO_k1)) (by intro y hy;simp at hy;rw [hy];rfl) (by unfold maxLen;omega) (by rw [hby];omega)
 rw [hs] at o8
 refine aG v8 w8 (some 31) (ki (by kernel_rfl)) (of_append (x:=(.tmp 27)) (y:=(.tmp 30)) (by kernel_rfl) (by kernel_rfl) (by kernel_rfl) hr8) (fun _=>trivial) ?_
 have m78:=hm_k1.trans m8 (U:=fK vo) (fun _ _ x=>x.elim) (fun _ _ x=>x)
 have f9:=f8.imp id (fun h=>h.of hm_k1.size)
 have hg8:=m78.heap HG.out hvo
 obtain⟨a8,c8,e8,_⟩:=o8.rd.form
 have h18:v8.oneCell'=true:=by rw [e8];rfl
 clear e8
 refine fD (ty:=48) (x:=(.tmp 5)) (y:=(.tmp 31)) (g:=ob) (off:=0) (v:=v8) none (ki (by kernel_rfl)) (by kernel_rfl) (by kernel_rfl) (by kernel_rfl) (by kernel_rfl) (by rw [ai hg8];rfl) (dw hg8 _) (h18) ?_
 intro w9 hw9
 refine⟨(fun h=>by first | (cases h;done) | exact trivial),?_⟩
 exact aA (aZ (K:=Q .normal) (by kernel_rfl) (HQ.out (vo) (ag kb 2) (.int .u64 ((x:Nat):Int)) (.slice (some ⟨k1,0,none⟩) 1 1) (v8) v8 w8 w9 o8 m78 f9 hw9))
theorem pt9 {w:World}{hb ob g off m c:Nat}{n:Int}{B:Bool} (q0:w.cell? ⟨ob,0,none⟩=some (.slice (some ⟨g,off,none⟩) m c)) (q1:w.cell? ⟨hb,0,none⟩=some (.int .i64 n)) (hB:decide (((m:Nat):Int)=n)=B)
  (hK:∀ (y32 y33 y34:Value)  (w':World),w'=w→Q .normal ⟨#[x0,x1,x2,.pointer (some ⟨hb,0,none⟩),x4,.pointer (some ⟨ob,0,none⟩),x6,x7,x8,x9,aS,bn,bi,bg,aO,aP,aV,aT,aW,aX,aY,aQ,bu,bz,bD,bK,bI,bJ,bH,bT,bU,cO,y32,y33,y34,.bool B,bZ],df⟩ w'):RW Try.prog (aJ 9 Try.f27) false Q ⟨#[x0,x1,x2,.pointer (some ⟨hb,0,none⟩),x4,.pointer (some ⟨ob,0,none⟩),x6,x7,x8,x9,aS,bn,bi,bg,aO,aP,aV,aT,aW,aX,aY,aQ,bu,bz,bD,bK,bI,bJ,bH,bT,bU,cO,cZ,dh,di,bY,bZ],df⟩ w:=by
 have HQ:=lh hK
 clear hK
 refine bV [(0,false),(1,false),(2,false),(3,false)] (by kernel_rfl) ?_
 refine aG (.slice (some ⟨g,off,none⟩) m c) _ (some 32) (ki (by kernel_rfl)) (aC (x:=(.tmp 5)) (by kernel_rfl) (by kernel_rfl) (aH ((fun _=>q0) (trivial)) Try.underlying48 rfl)) (fun _=>trivial) ?_
 refine az [1] [.int .i64 ((m:Nat):Int)] rfl (by kernel_rfl) (by kernel_rfl) (.inr trivial) ?_
 refine aG (.int .i64 n) _ (some 34) (ki (by kernel_rfl)) (aC (x:=(.tmp 3)) (by kernel_rfl) (by kernel_rfl) (aH ((fun _=>q1) (trivial)) Try.underlying3 rfl)) (fun _=>trivial) ?_
 refine aG (.bool B) _ (some 35) (ki (by kernel_rfl)) (bM (t:=3) (t':=3) (xv := .int .i64 ((m:Nat):Int)) (yv := .int .i64 n) (x:=(.tmp 33)) (y:=(.tmp 34)) (by kernel_rfl) (by kernel_rfl) (by kernel_rfl) (fun _=>by kernel_rfl) (nV _ hB)) (fun _=>trivial) ?_
 exact aA (aZ (K:=Q .normal) (by kernel_rfl) (HQ.out (.slice (some ⟨g,off,none⟩) m c) (.int .i64 ((m:Nat):Int)) (.int .i64 n) _ rfl))
theorem pt10 {w:World}{ob:Nat}{v:Value} (q0:w.cell? ⟨ob,0,none⟩=some v)
  (hK:∀ (y36:Value)  (w':World),w'=w→Q .normal ⟨#[x0,x1,x2,x3,v,.pointer (some ⟨ob,0,none⟩),x6,x7,x8,x9,aS,bn,bi,bg,aO,aP,aV,aT,aW,aX,aY,aQ,bu,bz,bD,bK,bI,bJ,bH,bT,bU,cO,cZ,dh,di,bY,y36],df⟩ w'):RW Try.prog (aJ 10 Try.f27) false Q ⟨#[x0,x1,x2,x3,x4,.pointer (some ⟨ob,0,none⟩),x6,x7,x8,x9,aS,bn,bi,bg,aO,aP,aV,aT,aW,aX,aY,aQ,bu,bz,bD,bK,bI,bJ,bH,bT,bU,cO,cZ,dh,di,bY,bZ],df⟩ w:=by
 have HQ:=lh hK
 clear hK
 refine bV [(0,false),(1,false)] (by kernel_rfl) ?_
 refine aG (v) _ (some 36) (ki (by kernel_rfl)) (aC (x:=(.tmp 5)) (by kernel_rfl) (by kernel_rfl) (aH ((fun _=>q0) (trivial)) Try.underlying48 rfl)) (fun _=>trivial) ?_
 refine az [1] [v] rfl (by kernel_rfl) (by kernel_rfl) (.inr trivial) ?_
 exact aA (aZ (K:=Q .normal) (by kernel_rfl) (HQ.out (v) _ rfl))
theorem pb0 {w:World}{x0 x1 x2 x3 x4 x5 x6 x7 x8 x9 aS bn bi bg aO aP aV aT aW aX aY aQ bu bz bD bK bI bJ bH:Value}{df:List Deferred}{Q:Exit→Act→World→Prop}
  (hK:∀  (w':World),w'=w→Q .normal ⟨#[x0,x1,.slice none 0 0,x3,x4,x5,x6,x7,x8,x9,aS,bn,bi,bg,aO,aP,aV,aT,aW,aX,aY,aQ,bu,bz,bD,bK,bI,bJ,bH],df⟩ w'):RW Try.prog (aJ 0 Try.f51) false Q ⟨#[x0,x1,x2,x3,x4,x5,x6,x7,x8,x9,aS,bn,bi,bg,aO,aP,aV,aT,aW,aX,aY,aQ,bu,bz,bD,bK,bI,bJ,bH],df⟩ w:=by
 have HQ:=lh hK
 clear hK
 refine bV [(0,false)] (by kernel_rfl) ?_
 refine az [0] [(.slice none 0 0)] rfl (by kernel_rfl) (by kernel_rfl) (.inr trivial) ?_
 exact aA (aZ (K:=Q .normal) (by kernel_rfl) (HQ.out  _ rfl))
theorem pb1 {w:World} 
  (hK:∀ (bq:Nat) (w':World),bq=w.heap.size→w'.heap[bq]?=some (.cells #[.slice none 0 0] 48 (0,0))→ae aj w w'→Q .normal ⟨#[x0,x1,x2,.pointer (some ⟨bq,0,none⟩),x4,x5,x6,x7,x8,x9,aS,bn,bi,bg,aO,aP,aV,aT,aW,aX,aY,aQ,bu,bz,bD,bK,bI,bJ,bH],df⟩ w'):RW Try.prog (aJ 1 Try.f51) false Q ⟨#[x0,x1,x2,x3,x4,x5,x6,x7,x8,x9,aS,bn,bi,bg,aO,aP,aV,aT,aW,aX,aY,aQ,bu,bz,bD,bK,bI,bJ,bH],df⟩ w:=by
 have HQ:=lh hK
 clear hK
 refine bV [(0,false)] (by kernel_rfl) ?_
 refine fB (.cells #[.slice none 0 0] 48) (some 3) (ki (by kernel_rfl)) (by kernel_rfl) ?_
 intro k1 w_k1 hk_k1 hO_k1 hm_k1 hl_k1
 refine⟨fun _=>trivial,?_⟩
 exact aA (aZ (K:=Q .normal) (by kernel_rfl) (HQ.out  k1 w_k1 hk_k1 hO_k1 hm_k1))
theorem pb2 {w:World}{X:Value→World→Prop} (hC:Calls Try.prog 55 #[.int .i64 11] w fun e w'=>∃ (v er:Value),e = .returned (.tuple #[v,er])∧X v w')
  (hK:∀ (y5 y9 iW jP y12:Value) (v:Value) (w':World),X v w'→Q .normal ⟨#[x0,x1,x2,x3,v,y5,x6,x7,x8,y9,iW,jP,y12,bg,aO,aP,aV,aT,aW,aX,aY,aQ,bu,bz,bD,bK,bI,bJ,bH],df⟩ w'):RW Try.prog (aJ 2 Try.f51) false Q ⟨#[x0,x1,x2,x3,x4,x5,x6,x7,x8,x9,aS,bn,bi,bg,aO,aP,aV,aT,aW,aX,aY,aQ,bu,bz,bD,bK,bI,bJ,bH],df⟩ w:=by
 have HQ:=lh hK
 clear hK
 refine bV [(0,false),(1,false),(2,false),(3,false),(4,false),(5,false)] (by kernel_rfl) ?_
 refine bF (some 10) (ki (by kernel_rfl)) hC (fun _=>by kernel_rfl) ?_
 rintro r w7 ⟨v,er,rfl,hx⟩
 refine⟨_,rfl,fun _=>trivial,?_⟩
 refine az [1,2,3,4,5] [.tuple #[v,er],v,er,v,er] rfl (by kernel_rfl) (by kernel_rfl) (.inr trivial) ?_
 exact aA (aZ (K:=Q .normal) (by kernel_rfl) (HQ.out (er) (.tuple #[v,er]) (.tuple #[v,er]) (v) (er) v w7 hx))
theorem pb3 {w:World}{sv hv:Value}{X:Array Value→World→Prop} (hC:Calls Try.prog 56 #[sv,hv] w fun e w'=>∃ lb,e = .returned (.func (.func 120) #[] lb)∧X lb w')
  (hK:∀ (jQ iY:Value) (lb:Array Value) (w':World),X lb w'→Q .normal ⟨#[sv,x1,x2,x3,hv,x5,x6,x7,x8,x9,aS,bn,bi,jQ,iY,.func (.func 120) #[] lb,aV,aT,aW,aX,aY,aQ,bu,bz,bD,bK,bI,bJ,bH],df⟩ w'):RW Try.prog (aJ 3 Try.f51) false Q ⟨#[sv,x1,x2,x3,hv,x5,x6,x7,x8,x9,aS,bn,bi,bg,aO,aP,aV,aT,aW,aX,aY,aQ,bu,bz,bD,bK,bI,bJ,bH],df⟩ w:=by
 have HQ:=lh hK
 clear hK
 refine bV [(0,false),(1,false),(2,false)] (by kernel_rfl) ?_
 refine az [0,1] [sv,hv] rfl (by kernel_rfl) (by kernel_rfl) (.inr trivial) ?_
 refine bF (some 15) (ki (by kernel_rfl)) hC (fun _=>by kernel_rfl) ?_
 rintro r w7 ⟨lb,rfl,hx⟩
 refine⟨_,rfl,fun _=>trivial,?_⟩
 exact aA (aZ (K:=Q .normal) (by kernel_rfl) (HQ.out (sv) (hv) lb w7 hx))
theorem pb4 {w:World}{u:Value}{x0 x1 x2 x3 x4 x5 x6 x7 x8 x9 aS bn bi bg aO aP aT aW aX aY aQ bu bz bD bK bI bJ bH:Value}{df:List Deferred}{Q:Exit→Act→World→Prop}
  (hK:∀  (w':World),w'=w→Q .normal ⟨#[x0,x1,x2,x3,x4,x5,u,x7,x8,x9,aS,bn,bi,bg,aO,aP,u,aT,aW,aX,aY,aQ,bu,bz,bD,bK,bI,bJ,bH],df⟩ w'):RW Try.prog (aJ 4 Try.f51) false Q ⟨#[x0,x1,x2,x3,x4,x5,x6,x7,x8,x9,aS,bn,bi,bg,aO,aP,u,aT,aW,aX,aY,aQ,bu,bz,bD,bK,bI,bJ,bH],df⟩ w:=by
 have HQ:=lh hK
 clear hK
 refine bV [(0,false)] (by kernel_rfl) ?_
 refine az [0] [u] rfl (by kernel_rfl) (by kernel_rfl) (.inr trivial) ?_
 exact aA (aZ (K:=Q .normal) (by kernel_rfl) (HQ.out  _ rfl))
theorem pb5 {w:World}{u:Value}{X:Int→Nat→Nat→World→Prop} (hC:Calls Try.prog 57 #[u] w fun e w'=>∃ (kk:Int) (a b:Nat) (er:Value),e = .returned (.tuple #[.agg #[.int .i64 kk,.int .u64 ((a:Nat):Int),.int .u64 ((b:Nat):Int)],er])∧X kk a b w')
  (hK:∀ (y8 ja jC kH kJ jc:Value) (kk:Int) (a b bq:Nat) (wc:World) (w':World),X kk a b wc→wc.heap.size≤bq→w'.heap[bq]?=some (.cells #[.int .i64 kk,.int .u64 ((a:Nat):Int),.int .u64 ((b:Nat):Int)] 113 (0,0))→ae aj wc w'→Q .normal ⟨#[x0,x1,x2,x3,x4,x5,u,.pointer (some ⟨bq,0,none⟩),y8,x9,aS,bn,bi,bg,aO,aP,aV,aT,ja,jC,kH,kJ,jc,bz,bD,bK,bI,bJ,bH],df⟩ w'):RW Try.prog (aJ 5 Try.f51) false Q ⟨#[x0,x1,x2,x3,x4,x5,u,x7,x8,x9,aS,bn,bi,bg,aO,aP,aV,aT,aW,aX,aY,aQ,bu,bz,bD,bK,bI,bJ,bH],df⟩ w:=by
 have HQ:=lh hK
 clear hK
 refine bV [(0,false),(1,false),(2,false),(3,false),(4,false),(5,false),(6,false),(7,false)] (by kernel_rfl) ?_
 refine az [0] [u] rfl (by kernel_rfl) (by kernel_rfl) (.inr trivial) ?_
 refine bF (some 20) (ki (by kernel_rfl)) hC (fun _=>by kernel_rfl) ?_
 rintro r w7 ⟨kk,a,b,er,rfl,hx⟩
 refine⟨_,rfl,fun _=>trivial,?_⟩
 refine az [2,3,4] [.tuple #[.agg #[.int .i64 kk,.int .u64 ((a:Nat):Int),.int .u64 ((b:Nat):Int)],er],.agg #[.int .i64 kk,.int .u64 ((a:Nat):Int),.int .u64 ((b:Nat):Int)],er] rfl (by kernel_rfl) (by kernel_rfl) (.inr trivial) ?_
 refine fB (.cells #[.int .i64 0,.int .u64 0,.int .u64 0] 113) (some 7) (ki (by kernel_rfl)) (by kernel_rfl) ?_
 intro k1 w_k1 hk_k1 hO_k1 hm_k1 hl_k1
 refine⟨fun _=>trivial,?_⟩
 refine mY (off:=0) (ty:=113) (x:=(.tmp 7)) (y:=(.tmp 21)) (cells:=#[.int .i64 kk,.int .u64 ((a:Nat):Int),.int .u64 ((b:Nat):Int)]) #[.int .i64 kk,.int .u64 ((a:Nat):Int),.int .u64 ((b:Nat):Int)] none (ki (by kernel_rfl)) (by kernel_rfl) (by kernel_rfl) (by kernel_rfl) hO_k1 (by kernel_rfl) (by kernel_rfl) (by kernel_rfl) (by kernel_rfl) ?_
 intro w9 hO9 hm9 hs9
 refine⟨fun _=>trivial,?_⟩
 have hM:=hm_k1.trans hm9 (U:=aj) (fun _ _ x=>x) (fun i hi e=>by omega)
 refine az [7] [er] rfl (by kernel_rfl) (by kernel_rfl) (.inr trivial) ?_
 exact aA (aZ (K:=Q .normal) (by kernel_rfl) (HQ.out (er) (.tuple #[.agg #[.int .i64 kk,.int .u64 ((a:Nat):Int),.int .u64 ((b:Nat):Int)],er]) (u) (.tuple #[.agg #[.int .i64 kk,.int .u64 ((a:Nat):Int),.int .u64 ((b:Nat):Int)],er]) (.agg #[.int .i64 kk,.int .u64 ((a:Nat):Int),.int .u64 ((b:Nat):Int)]) (er) kk a b k1 w7 w9 hx (Nat.le_of_eq hk_k1.symm) hO9 hM))
theorem pb6 {w:World}{ob kb n x:Nat}{vo:Value}{pcs:List Value}{t:TypeId} (hg:w.heap[ob]?=some (.cells #[vo] t (0,0))) (qk:w.cell? ⟨kb,1,none⟩=some (.int .u64 ((x:Nat):Int))) (hr:aU w 22 1 vo n pcs) (hn:n≤100000000) (hvo:¬ fK vo ob)
  (hK:∀ (jd jR je jS y27:Value) (v8:Value) (w8:World) (w':World),aU w8 22 1 v8 (n+1) (pcs ++ [.int .u64 ((x:Nat):Int)])→ae (fK vo) w w8→(v8.ownBlock=vo.ownBlock∨aI w v8)→w'=w8.setCell ⟨ob,0,none⟩ v8→Q .normal ⟨#[x0,x1,x2,.pointer (some ⟨ob,0,none⟩),x4,x5,x6,.pointer (some ⟨kb,0,none⟩),x8,x9,aS,bn,bi,bg,aO,aP,aV,aT,aW,aX,aY,aQ,bu,jd,jR,je,jS,y27,bH],df⟩ w'):RW Try.prog (aJ 6 Try.f51) false Q ⟨#[x0,x1,x2,.pointer (some ⟨ob,0,none⟩),x4,x5,x6,.pointer (some ⟨kb,0,none⟩),x8,x9,aS,bn,bi,bg,aO,aP,aV,aT,aW,aX,aY,aQ,bu,bz,bD,bK,bI,bJ,bH],df⟩ w:=by
 have HQ:=lh hK
 clear hK
 have HR:=lh hr
 have HG:=lh hg
 have q0:w.cell? ⟨ob,0,none⟩=some vo:=ai hg 0
 clear hr hg
 have MR:=lh (ae.refl aj w)
 refine bV [(0,false),(1,false),(2,false),(3,false),(4,false),(5,false)] (by kernel_rfl) ?_
 refine aG (vo) _ (some 23) (ki (by kernel_rfl)) (aC (x:=(.tmp 3)) (by kernel_rfl) (by kernel_rfl) (aH ((fun _=>q0) (trivial)) Try.underlying48 rfl)) (fun _=>trivial) ?_
 refine az [1] [ag kb 1] rfl (by kernel_rfl) (by kernel_rfl) (.inr trivial) ?_
 refine aG (.int .u64 ((x:Nat):Int)) _ (some 25) (ki (by kernel_rfl)) (aC (x:=(.tmp 24)) (by kernel_rfl) (by kernel_rfl) (aH ((fun _=>qk) (trivial)) Try.underlying22 rfl)) (fun _=>trivial) ?_
 refine jf (.cells #[.int .u64 ((x:Nat):Int)] 22) 1 (some 26) (ki (by kernel_rfl)) (by kernel_rfl) ?_
 intro k1 w_k1 hk_k1 hO_k1 hm_k1 hl_k1
 have MZ:=MR.out.size
 replace MR:=lh (MR.out.then0 hm_k1)
 refine⟨fun _=>trivial,?_⟩
 obtain⟨inf,hi,hz,hs,hby⟩:=info_parts ry
 obtain⟨v8,w8,hr8,o8,m8,f8⟩:=nK (P:=Try.prog) 48 48 48 22 22 inf (.int .u64 0) Try.underlying48 Try.underlying48 hi hz (by rw [hs];rfl) (by rw [hs];exact HR.out.keep MR.out (fun _ _ x=>x)) (m:=1) (ys:=[.int .u64 ((x:Nat):Int)]) (by rw [hs];exact aU.rd (qj hO_k1)) (by intro y hy;simp at hy;rw [hy];rfl) (by unfold maxLen;omega) (by rw [hby];omega)
 rw [hs] at o8
 refine aG v8 w8 (some 27) (ki (by kernel_rfl)) (of_append (x:=(.tmp 23)) (y:=(.tmp 26)) (by kernel_rfl) (by kernel_rfl) (by kernel_rfl) hr8) (fun _=>trivial) ?_
 have m78:=hm_k1.trans m8 (U:=fK vo) (fun _ _ x=>x.elim) (fun _ _ x=>x)
 have f9:=f8.imp id (fun h=>h.of hm_k1.size)
 have hg8:=m78.heap HG.out hvo
 obtain⟨a8,c8,e8,_⟩:=o8.rd.form
 have h18:v8.oneCell'=true:=by rw [e8];rfl
 clear e8
 refine fD (ty:=48) (x:=(.tmp 3)) (y:=(.tmp 27)) (g:=ob) (off:=0) (v:=v8) none (ki (by kernel_rfl)) (by kernel_rfl) (by kernel_rfl) (by kernel_rfl) (by kernel_rfl) (by rw [ai hg8];rfl) (dw hg8 _) (h18) ?_
 intro w9 hw9
 refine⟨(fun h=>by first | (cases h;done) | exact trivial),?_⟩
 exact aA (aZ (K:=Q .normal) (by kernel_rfl) (HQ.out (vo) (ag kb 1) (.int .u64 ((x:Nat):Int)) (.slice (some ⟨k1,0,none⟩) 1 1) (v8) v8 w8 w9 o8 m78 f9 hw9))
theorem pb7 {w:World}{ob:Nat}{v:Value} (q0:w.cell? ⟨ob,0,none⟩=some v)
  (hK:∀ (kK:Value)  (w':World),w'=w→Q .normal ⟨#[x0,x1,v,.pointer (some ⟨ob,0,none⟩),x4,x5,x6,x7,x8,x9,aS,bn,bi,bg,aO,aP,aV,aT,aW,aX,aY,aQ,bu,bz,bD,bK,bI,bJ,kK],df⟩ w'):RW Try.prog (aJ 7 Try.f51) false Q ⟨#[x0,x1,x2,.pointer (some ⟨ob,0,none⟩),x4,x5,x6,x7,x8,x9,aS,bn,bi,bg,aO,aP,aV,aT,aW,aX,aY,aQ,bu,bz,bD,bK,bI,bJ,bH],df⟩ w:=by
 have HQ:=lh hK
 clear hK
 refine bV [(0,false),(1,false)] (by kernel_rfl) ?_
 refine aG (v) _ (some 28) (ki (by kernel_rfl)) (aC (x:=(.tmp 3)) (by kernel_rfl) (by kernel_rfl) (aH ((fun _=>q0) (trivial)) Try.underlying48 rfl)) (fun _=>trivial) ?_
 refine az [1] [v] rfl (by kernel_rfl) (by kernel_rfl) (.inr trivial) ?_
 exact aA (aZ (K:=Q .normal) (by kernel_rfl) (HQ.out (v) _ rfl))
theorem pu18 {w:World}{n x:Nat}{vo:Value}{pcs:List Value} (hr:aU w 22 1 vo n pcs) (hn:n≤100000000)
  (hK:∀ (y48 y49 y50 y51:Value) (v8:Value) (w':World),aU w' 22 1 v8 (n+1) (pcs ++ [.int .u64 ((x:Nat):Int)])→ae (fK vo) w w'→(v8.ownBlock=vo.ownBlock∨aI w v8)→Q .normal ⟨#[x0,x1,x2,x3,x4,x5,x6,x7,x8,x9,aS,v8,bi,.int .u64 ((x:Nat):Int),aO,aP,aV,aT,aW,aX,aY,aQ,bu,bz,bD,bK,bI,bJ,bH,bT,bU,cO,cZ,dh,di,bY,bZ,dQ,dJ,dK,dL,dD,dE,dF,dG,dH,dI,dC,y48,y49,y50,y51,dW,dX,eu,eF,eG,eU,eH,eP,eQ,dY,gY,gZ],df⟩ w'):RW Try.prog (aJ 18 Try.f23) false Q ⟨#[x0,x1,x2,x3,x4,x5,x6,x7,x8,x9,aS,vo,bi,.int .u64 ((x:Nat):Int),aO,aP,aV,aT,aW,aX,aY,aQ,bu,bz,bD,bK,bI,bJ,bH,bT,bU,cO,cZ,dh,di,bY,bZ,dQ,dJ,dK,dL,dD,dE,dF,dG,dH,dI,dC,dU,dV,dZ,ed,dW,dX,eu,eF,eG,eU,eH,eP,eQ,dY,gY,gZ],df⟩ w:=by
 have HQ:=lh hK
 clear hK
 have HR:=lh hr
 clear hr
 have MR:=lh (ae.refl aj w)
 refine bV [(0,false),(1,false),(2,false),(3,false),(4,false)] (by kernel_rfl) ?_
 refine az [0,1] [vo,.int .u64 ((x:Nat):Int)] rfl (by kernel_rfl) (by kernel_rfl) (.inr trivial) ?_
 refine jf (.cells #[.int .u64 ((x:Nat):Int)] 22) 1 (some 50) (ki (by kernel_rfl)) (by kernel_rfl) ?_
 intro k1 w_k1 hk_k1 hO_k1 hm_k1 hl_k1
 have MZ:=MR.out.size
 replace MR:=lh (MR.out.then0 hm_k1)
 refine⟨fun _=>trivial,?_⟩
 obtain⟨inf,hi,hz,hs,hby⟩:=info_parts ry
 obtain⟨v8,w8,hr8,o8,m8,f8⟩:=nK (P:=Try.prog) 48 48 48 22 22 inf (.int .u64 0) Try.underlying48 Try.underlying48 hi hz (by rw [hs];rfl) (by rw [hs];exact HR.out.keep MR.out (fun _ _ x=>x)) (m:=1) (ys:=[.int .u64 ((x:Nat):Int)]) (by rw [hs];exact aU.rd (qj hO_k1)) (by intro y hy;simp at hy;rw [hy];rfl) (by unfold maxLen;omega) (by rw [hby];omega)
 rw [hs] at o8
 refine aG v8 w8 (some 51) (ki (by kernel_rfl)) (of_append (x:=(.tmp 48)) (y:=(.tmp 50)) (by kernel_rfl) (by kernel_rfl) (by kernel_rfl) hr8) (fun _=>trivial) ?_
 have m78:=hm_k1.trans m8 (U:=fK vo) (fun _ _ x=>x.elim) (fun _ _ x=>x)
 have f9:=f8.imp (fun x=>x) (fun h=>h.of hm_k1.size)
 refine az [4] [v8] rfl (by kernel_rfl) (by kernel_rfl) (.inr trivial) ?_
 exact aA (aZ (K:=Q .normal) (by kernel_rfl) (HQ.out (vo) (.int .u64 ((x:Nat):Int)) (.slice (some ⟨k1,0,none⟩) 1 1) (v8) v8 w8 o8 m78 f9))
theorem pu20 {w:World}{n x:Nat}{vo:Value}{pcs:List Value} (hr:aU w 22 1 vo n pcs) (hn:n≤100000000)
  (hK:∀ (y54 y55 y56 y57:Value) (v8:Value) (w':World),aU w' 22 1 v8 (n+1) (pcs ++ [.int .u64 ((x:Nat):Int)])→ae (fK vo) w w'→(v8.ownBlock=vo.ownBlock∨aI w v8)→Q .normal ⟨#[x0,x1,x2,x3,x4,x5,x6,x7,x8,x9,aS,bn,v8,.int .u64 ((x:Nat):Int),aO,aP,aV,aT,aW,aX,aY,aQ,bu,bz,bD,bK,bI,bJ,bH,bT,bU,cO,cZ,dh,di,bY,bZ,dQ,dJ,dK,dL,dD,dE,dF,dG,dH,dI,dC,dU,dV,dZ,ed,dW,dX,y54,y55,y56,y57,eH,eP,eQ,dY,gY,gZ],df⟩ w'):RW Try.prog (aJ 20 Try.f23) false Q ⟨#[x0,x1,x2,x3,x4,x5,x6,x7,x8,x9,aS,bn,vo,.int .u64 ((x:Nat):Int),aO,aP,aV,aT,aW,aX,aY,aQ,bu,bz,bD,bK,bI,bJ,bH,bT,bU,cO,cZ,dh,di,bY,bZ,dQ,dJ,dK,dL,dD,dE,dF,dG,dH,dI,dC,dU,dV,dZ,ed,dW,dX,eu,eF,eG,eU,eH,eP,eQ,dY,gY,gZ],df⟩ w:=by
 have HQ:=lh hK
 clear hK
 have HR:=lh hr
 clear hr
 have MR:=lh (ae.refl aj w)
 refine bV [(0,false),(1,false),(2,false),(3,false),(4,false)] (by kernel_rfl) ?_
 refine az [0,1] [vo,.int .u64 ((x:Nat):Int)] rfl (by kernel_rfl) (by kernel_rfl) (.inr trivial) ?_
 refine jf (.cells #[.int .u64 ((x:Nat):Int)] 22) 1 (some 56) (ki (by kernel_rfl)) (by kernel_rfl) ?_
 intro k1 w_k1 hk_k1 hO_k1 hm_k1 hl_k1
 have MZ:=MR.out.size
 replace MR:=lh (MR.out.then0 hm_k1)
 refine⟨fun _=>trivial,?_⟩
 obtain⟨inf,hi,hz,hs,hby⟩:=info_parts ry
 obtain⟨v8,w8,hr8,o8,m8,f8⟩:=nK (P:=Try.prog) 48 48 48 22 22 inf (.int .u64 0) Try.underlying48 Try.underlying48 hi hz (by rw [hs];rfl) (by rw [hs];exact HR.out.keep MR.out (fun _ _ x=>x)) (m:=1) (ys:=[.int .u64 ((x:Nat):Int)]) (by rw [hs];exact aU.rd (qj hO_k1)) (by intro y hy;simp at hy;rw [hy];rfl) (by unfold maxLen;omega) (by rw [hby];omega)
 rw [hs] at o8
 refine aG v8 w8 (some 57) (ki (by kernel_rfl)) (of_append (x:=(.tmp 54)) (y:=(.tmp 56)) (by kernel_rfl) (by kernel_rfl) (by kernel_rfl) hr8) (fun _=>trivial) ?_
 have m78:=hm_k1.trans m8 (U:=fK vo) (fun _ _ x=>x.elim) (fun _ _ x=>x)
 have f9:=f8.imp (fun x=>x) (fun h=>h.of hm_k1.size)
 refine az [4] [v8] rfl (by kernel_rfl) (by kernel_rfl) (.inr trivial) ?_
 exact aA (aZ (K:=Q .normal) (by kernel_rfl) (HQ.out (vo) (.int .u64 ((x:Nat):Int)) (.slice (some ⟨k1,0,none⟩) 1 1) (v8) v8 w8 o8 m78 f9))
end
end Go.Proofs.Ytglkmaalpammcaa

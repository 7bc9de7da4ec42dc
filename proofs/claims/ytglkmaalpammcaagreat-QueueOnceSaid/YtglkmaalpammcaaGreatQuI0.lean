/- queue.entries, Due, From: their regions (printed by gen_qus.py). -/
import Derived.Test.YtglkmaalpammcaaGreatZE
import Derived.Test.YtglkmaalpammcaaGreatZC
import Derived.Test.YtglkmaalpammcaaGreatZB
set_option maxHeartbeats 64000000
namespace Go.Proofs.YtglkmaalpammcaaGreat
open Go.Gl Go.RowKit
set_option linter.unusedVariables false
set_option linter.unusedSimpArgs false
set_option maxRecDepth 100000
theorem GX:(Tryz.prog.info? 86).map (fun i=>(i.zero,i.size,i.bytes))=some (some (.agg #[.int .u64 0,.int .i64 0]),2,16):=by kernel_rfl
theorem Oq {a:Act}{o:Oper}{x:Operand}{z:Int}{b:World} (ho:o.op = .convert 22 3 x) (hx:a.eval x = .int .u64 z):(execOp a.eval o).run Tryz.prog b = .ok (.value (.int .i64 (IntKind.i64.wrap z))) b:=by
 unfold execOp
 rw [ho]
 simp only [hx]
 simp [convert,go_sem,Tryz.underlying3,Tryz.underlying22,Sem.run_bind]
theorem en0 {w:World}{l:Nat}{x1 x2 x3 x4 x5 x6 x7 x8 x9 bg bn bi aY aU aS aT aW aZ aX bu bz bF bG bH bM bT bQ cO cZ di dw:Value}{df:List Deferred}{Q:Exit→Act→World→Prop}
  (hK:∀ (bq:Nat) (w':World),bq=w.heap.size→w'.heap[bq]?=some (.cells #[.func (.yield l) #[] #[]] 272 (0,0))→ae ai w w'→Q .normal ⟨#[.func (.yield l) #[] #[],x1,.pointer (some ⟨bq,0,none⟩),x3,x4,x5,x6,x7,x8,x9,bg,bn,bi,aY,aU,aS,aT,aW,aZ,aX,bu,bz,bF,bG,bH,bM,bT,bQ,cO,cZ,di,dw],df⟩ w'):RW Tryz.prog (aH 0 Tryz.f190) false Q ⟨#[.func (.yield l) #[] #[],x1,x2,x3,x4,x5,x6,x7,x8,x9,bg,bn,bi,aY,aU,aS,aT,aW,aZ,aX,bu,bz,bF,bG,bH,bM,bT,bQ,cO,cZ,di,dw],df⟩ w:=by
 have HQ:=lh hK
 clear hK
 refine bZ [(0,false)] (by kernel_rfl) ?_
 refine fU (.cells #[.func (.yield l) #[] #[]] 272) (some 2) (ki (by kernel_rfl)) (by kernel_rfl) ?_
 intro k1 w_k1 hk_k1 hO_k1 hm_k1 hl_k1
 refine⟨fun _=>trivial,?_⟩
 exact aA (aQ (K:=Q .normal) (by kernel_rfl) (HQ.out  k1 w_k1 hk_k1 hO_k1 hm_k1))
section
variable {x0 x1 x2 x3 x4 x5 x6 x7 x8 x9 bg bn bi aY aU aS aT aW aZ aX bu bz bF bG bH bM bT bQ cO cZ di dw:Value}{df:List Deferred}{Q:Exit→Act→World→Prop}
theorem en1 {w:World}{be:Nat}{v:Value} (q0:w.cell? ⟨be,0,none⟩=some v)
  (hK:∀  (w':World),w'=w→Q .normal ⟨#[x0,.pointer (some ⟨be,0,none⟩),x2,x3,x4,x5,x6,x7,x8,v,bg,bn,bi,aY,aU,aS,aT,aW,aZ,aX,bu,bz,bF,bG,bH,bM,bT,bQ,cO,cZ,di,dw],df⟩ w'):RW Tryz.prog (aH 1 Tryz.f190) false Q ⟨#[x0,.pointer (some ⟨be,0,none⟩),x2,x3,x4,x5,x6,x7,x8,x9,bg,bn,bi,aY,aU,aS,aT,aW,aZ,aX,bu,bz,bF,bG,bH,bM,bT,bQ,cO,cZ,di,dw],df⟩ w:=by
 have HQ:=lh hK
 clear hK
 refine bZ [(0,false)] (by kernel_rfl) ?_
 refine aP (v) _ (some 9) (ki (by kernel_rfl)) (aB (x:=(.tmp 1)) (by kernel_rfl) (by kernel_rfl) (aO ((fun _=>q0) (trivial)) Tryz.underlying154 rfl)) (fun _=>trivial) ?_
 exact aA (aQ (K:=Q .normal) (by kernel_rfl) (HQ.out  _ rfl))
theorem en2 {w:World}{u:Value}{x0 x1 x2 x3 x4 x5 x6 x7 x8 x9 bn bi aY aU aS aT aW aZ aX bu bz bF bG bH bM bT bQ cO cZ di dw:Value}{df:List Deferred}{Q:Exit→Act→World→Prop}
  (hK:∀  (w':World),w'=w→Q .normal ⟨#[x0,x1,x2,u,x4,x5,x6,x7,x8,x9,u,bn,bi,aY,aU,aS,aT,aW,aZ,aX,bu,bz,bF,bG,bH,bM,bT,bQ,cO,cZ,di,dw],df⟩ w'):RW Tryz.prog (aH 2 Tryz.f190) false Q ⟨#[x0,x1,x2,x3,x4,x5,x6,x7,x8,x9,u,bn,bi,aY,aU,aS,aT,aW,aZ,aX,bu,bz,bF,bG,bH,bM,bT,bQ,cO,cZ,di,dw],df⟩ w:=by
 have HQ:=lh hK
 clear hK
 refine bZ [(0,false)] (by kernel_rfl) ?_
 refine aC [0] [u] rfl (by kernel_rfl) (by kernel_rfl) (.inr trivial) ?_
 exact aA (aQ (K:=Q .normal) (by kernel_rfl) (HQ.out  _ rfl))
theorem en3 {w:World}{u:Value}{x0 x1 x2 x3 x4 x5 x6 x7 x8 x9 bg bi aY aU aS aT aW aZ aX bu bz bF bG bH bM bT bQ cO cZ di dw:Value}{df:List Deferred}{Q:Exit→Act→World→Prop}
  (hK:∀  (w':World),w'=w→Q .normal ⟨#[x0,x1,x2,x3,u,x5,x6,x7,x8,x9,bg,u,bi,aY,aU,aS,aT,aW,aZ,aX,bu,bz,bF,bG,bH,bM,bT,bQ,cO,cZ,di,dw],df⟩ w'):RW Tryz.prog (aH 3 Tryz.f190) false Q ⟨#[x0,x1,x2,x3,x4,x5,x6,x7,x8,x9,bg,u,bi,aY,aU,aS,aT,aW,aZ,aX,bu,bz,bF,bG,bH,bM,bT,bQ,cO,cZ,di,dw],df⟩ w:=by
 have HQ:=lh hK
 clear hK
 refine bZ [(0,false)] (by kernel_rfl) ?_
 refine aC [0] [u] rfl (by kernel_rfl) (by kernel_rfl) (.inr trivial) ?_
 exact aA (aQ (K:=Q .normal) (by kernel_rfl) (HQ.out  _ rfl))
theorem en4 {w:World}{u:Value}{X:Int→Nat→Nat→World→Prop} (hC:Calls Tryz.prog 147 #[u] w fun e w'=>∃ (kk:Int) (a b:Nat) (er:Value),e = .returned (.tuple #[.agg #[.int .i64 kk,.int .u64 ((a:Nat):Int),.int .u64 ((b:Nat):Int)],er])∧X kk a b w')
  (hK:∀ (y6 qN kF jV jW jO:Value) (kk:Int) (a b bq:Nat) (wc:World) (w':World),X kk a b wc→wc.heap.size≤bq→w'.heap[bq]?=some (.cells #[.int .i64 kk,.int .u64 ((a:Nat):Int),.int .u64 ((b:Nat):Int)] 173 (0,0))→ae ai wc w'→Q .normal ⟨#[x0,x1,x2,u,x4,.pointer (some ⟨bq,0,none⟩),y6,x7,x8,x9,bg,bn,qN,kF,jV,jW,jO,aW,aZ,aX,bu,bz,bF,bG,bH,bM,bT,bQ,cO,cZ,di,dw],df⟩ w'):RW Tryz.prog (aH 4 Tryz.f190) false Q ⟨#[x0,x1,x2,u,x4,x5,x6,x7,x8,x9,bg,bn,bi,aY,aU,aS,aT,aW,aZ,aX,bu,bz,bF,bG,bH,bM,bT,bQ,cO,cZ,di,dw],df⟩ w:=by
 have HQ:=lh hK
 clear hK
 refine bZ [(0,false),(1,false),(2,false),(3,false),(4,false),(5,false),(6,false),(7,false)] (by kernel_rfl) ?_
 refine aC [0] [u] rfl (by kernel_rfl) (by kernel_rfl) (.inr trivial) ?_
 refine az (some 14) (ki (by kernel_rfl)) hC (fun _=>by kernel_rfl) ?_
 rintro r w7 ⟨kk,a,b,er,rfl,hx⟩
 refine⟨_,rfl,fun _=>trivial,?_⟩
 refine aC [2,3,4] [.tuple #[.agg #[.int .i64 kk,.int .u64 ((a:Nat):Int),.int .u64 ((b:Nat):Int)],er],.agg #[.int .i64 kk,.int .u64 ((a:Nat):Int),.int .u64 ((b:Nat):Int)],er] rfl (by kernel_rfl) (by kernel_rfl) (.inr trivial) ?_
 refine fU (.cells #[.int .i64 0,.int .u64 0,.int .u64 0] 173) (some 5) (ki (by kernel_rfl)) (by kernel_rfl) ?_
 intro k1 w_k1 hk_k1 hO_k1 hm_k1 hl_k1
 refine⟨fun _=>trivial,?_⟩
 refine qp (off:=0) (ty:=173) (x:=(.tmp 5)) (y:=(.tmp 15)) (cells:=#[.int .i64 kk,.int .u64 ((a:Nat):Int),.int .u64 ((b:Nat):Int)]) #[.int .i64 kk,.int .u64 ((a:Nat):Int),.int .u64 ((b:Nat):Int)] none (ki (by kernel_rfl)) (by kernel_rfl) (by kernel_rfl) (by kernel_rfl) hO_k1 (by kernel_rfl) (by kernel_rfl) (by kernel_rfl) (by kernel_rfl) ?_
 intro w9 hO9 hm9 hs9
 refine⟨fun _=>trivial,?_⟩
 have hM:=hm_k1.trans hm9 (U:=ai) (fun _ _ x=>x) (fun i hi e=>by omega)
 refine aC [7] [er] rfl (by kernel_rfl) (by kernel_rfl) (.inr trivial) ?_
 exact aA (aQ (K:=Q .normal) (by kernel_rfl) (HQ.out (er) (.tuple #[.agg #[.int .i64 kk,.int .u64 ((a:Nat):Int),.int .u64 ((b:Nat):Int)],er]) (u) (.tuple #[.agg #[.int .i64 kk,.int .u64 ((a:Nat):Int),.int .u64 ((b:Nat):Int)],er]) (.agg #[.int .i64 kk,.int .u64 ((a:Nat):Int),.int .u64 ((b:Nat):Int)]) (er) kk a b k1 w7 w9 hx (Nat.le_of_eq hk_k1.symm) hO9 hM))
theorem en5 {w:World}{u:Value}{X:Nat→World→Prop} (hC:Calls Tryz.prog 117 #[u] w fun e w'=>∃ (n0:Nat) (er:Value),e = .returned (.tuple #[.int .u64 n0,er])∧X n0 w')
  (hK:∀ (y8 jC kG kH mi jP:Value) (n0:Nat) (w':World),X n0 w'→Q .normal ⟨#[x0,x1,x2,x3,u,x5,x6,.int .u64 n0,y8,x9,bg,bn,bi,aY,aU,aS,aT,jC,kG,kH,mi,jP,bF,bG,bH,bM,bT,bQ,cO,cZ,di,dw],df⟩ w'):RW Tryz.prog (aH 5 Tryz.f190) false Q ⟨#[x0,x1,x2,x3,u,x5,x6,x7,x8,x9,bg,bn,bi,aY,aU,aS,aT,aW,aZ,aX,bu,bz,bF,bG,bH,bM,bT,bQ,cO,cZ,di,dw],df⟩ w:=by
 have HQ:=lh hK
 clear hK
 refine bZ [(0,false),(1,false),(2,false),(3,false),(4,false),(5,false),(6,false)] (by kernel_rfl) ?_
 refine aC [0] [u] rfl (by kernel_rfl) (by kernel_rfl) (.inr trivial) ?_
 refine az (some 19) (ki (by kernel_rfl)) hC (fun _=>by kernel_rfl) ?_
 rintro r w7 ⟨n0,er,rfl,hx⟩
 refine⟨_,rfl,fun _=>trivial,?_⟩
 refine aC [2,3,4,5,6] [.tuple #[.int .u64 n0,er],.int .u64 n0,er,.int .u64 n0,er] rfl (by kernel_rfl) (by kernel_rfl) (.inr trivial) ?_
 exact aA (aQ (K:=Q .normal) (by kernel_rfl) (HQ.out (er) (.tuple #[.int .u64 n0,er]) (u) (.tuple #[.int .u64 n0,er]) (.int .u64 n0) (er) n0 w7 hx))
theorem en6 {w:World}{by1 ba l a b n0:Nat} (c1:w.cell? ⟨by1,0,none⟩=some (.func (.yield l) #[] #[])) (c2:w.cell? ⟨ba,1,none⟩=some (.int .u64 ((a:Nat):Int))) (c3:w.cell? ⟨ba,2,none⟩=some (.int .u64 ((b:Nat):Int)))
  (hK:∀ (jl jw jX mF mJ:Value)  (w':World),w'=w→Q .normal ⟨#[x0,x1,.pointer (some ⟨by1,0,none⟩),x3,x4,.pointer (some ⟨ba,0,none⟩),x6,.int .u64 n0,x8,x9,bg,bn,bi,aY,aU,aS,aT,aW,aZ,aX,bu,bz,.func (.yield l) #[] #[],jl,.int .u64 ((a:Nat):Int),jw,jX,mF,mJ,.agg #[.int .u64 ((b:Nat):Int),.int .i64 (IntKind.i64.wrap ((n0:Nat):Int))],di,dw],df⟩ w'):RW Tryz.prog ((aH 6 Tryz.f190).toList.take 8).toArray false Q ⟨#[x0,x1,.pointer (some ⟨by1,0,none⟩),x3,x4,.pointer (some ⟨ba,0,none⟩),x6,.int .u64 n0,x8,x9,bg,bn,bi,aY,aU,aS,aT,aW,aZ,aX,bu,bz,bF,bG,bH,bM,bT,bQ,cO,cZ,di,dw],df⟩ w:=by
 have HQ:=lh hK
 clear hK
 refine bZ [(0,false),(1,false),(2,false),(3,false),(4,false),(5,false),(6,false),(7,false)] (by kernel_rfl) ?_
 refine aP (.func (.yield l) #[] #[]) _ (some 22) (ki (by kernel_rfl)) (aB (x:=(.tmp 2)) (by kernel_rfl) (by kernel_rfl) (aO ((fun _=>c1) (trivial)) Tryz.underlying272 rfl)) (fun _=>trivial) ?_
 refine aC [1] [aj ba 1] rfl (by kernel_rfl) (by kernel_rfl) (.inr trivial) ?_
 refine aP (.int .u64 ((a:Nat):Int)) _ (some 24) (ki (by kernel_rfl)) (aB (x:=(.tmp 23)) (by kernel_rfl) (by kernel_rfl) (aO ((fun _=>c2) (trivial)) Tryz.underlying22 rfl)) (fun _=>trivial) ?_
 refine aC [3] [aj ba 2] rfl (by kernel_rfl) (by kernel_rfl) (.inr trivial) ?_
 refine aP (.int .u64 ((b:Nat):Int)) _ (some 26) (ki (by kernel_rfl)) (aB (x:=(.tmp 25)) (by kernel_rfl) (by kernel_rfl) (aO ((fun _=>c3) (trivial)) Tryz.underlying22 rfl)) (fun _=>trivial) ?_
 refine aC [5] [.int .u64 n0] rfl (by kernel_rfl) (by kernel_rfl) (.inr trivial) ?_
 refine aP (.int .i64 (IntKind.i64.wrap ((n0:Nat):Int))) _ (some 28) (ki (by kernel_rfl)) (Oq (x:=(.tmp 27)) (z:=((n0:Nat):Int)) (by kernel_rfl) (by kernel_rfl)) (fun _=>trivial) ?_
 refine aC [7] [.agg #[.int .u64 ((b:Nat):Int),.int .i64 (IntKind.i64.wrap ((n0:Nat):Int))]] rfl (by kernel_rfl) (by kernel_rfl) (.inr trivial) ?_
 exact aA (aQ (K:=Q .normal) (by kernel_rfl) (HQ.out (aj ba 1) (aj ba 2) (.int .u64 ((b:Nat):Int)) (.int .u64 n0) (.int .i64 (IntKind.i64.wrap ((n0:Nat):Int))) _ rfl))
theorem du0 {w:World}{h:Nat}{x0 x2 x3 x4 x5 x6 x7 x8 x9 bg bn bi aY aU aS aT aW aZ aX bu bz bF bG bH bM bT bQ:Value}{df:List Deferred}{Q:Exit→Act→World→Prop}
  (hK:∀ (bq:Nat) (w':World),bq=w.heap.size→w'.heap[bq]?=some (.cells #[.int .u64 ((h:Nat):Int)] 22 (0,0))→ae ai w w'→Q .normal ⟨#[x0,.int .u64 ((h:Nat):Int),x2,.pointer (some ⟨bq,0,none⟩),.slice none 0 0,x5,x6,x7,x8,x9,bg,bn,bi,aY,aU,aS,aT,aW,aZ,aX,bu,bz,bF,bG,bH,bM,bT,bQ],df⟩ w'):RW Tryz.prog (aH 0 Tryz.f37) false Q ⟨#[x0,.int .u64 ((h:Nat):Int),x2,x3,x4,x5,x6,x7,x8,x9,bg,bn,bi,aY,aU,aS,aT,aW,aZ,aX,bu,bz,bF,bG,bH,bM,bT,bQ],df⟩ w:=by
 have HQ:=lh hK
 clear hK
 refine bZ [(0,false),(1,false)] (by kernel_rfl) ?_
 refine fU (.cells #[.int .u64 ((h:Nat):Int)] 22) (some 3) (ki (by kernel_rfl)) (by kernel_rfl) ?_
 intro k1 w_k1 hk_k1 hO_k1 hm_k1 hl_k1
 refine⟨fun _=>trivial,?_⟩
 refine aC [1] [(.slice none 0 0)] rfl (by kernel_rfl) (by kernel_rfl) (.inr trivial) ?_
 exact aA (aQ (K:=Q .normal) (by kernel_rfl) (HQ.out  k1 w_k1 hk_k1 hO_k1 hm_k1))
theorem du1 {w:World} 
  (hK:∀ (bq:Nat) (w':World),bq=w.heap.size→w'.heap[bq]?=some (.cells #[.slice none 0 0] 82 (0,0))→ae ai w w'→Q .normal ⟨#[x0,x1,x2,x3,x4,.pointer (some ⟨bq,0,none⟩),x6,x7,x8,x9,bg,bn,bi,aY,aU,aS,aT,aW,aZ,aX,bu,bz,bF,bG,bH,bM,bT,bQ],df⟩ w'):RW Tryz.prog (aH 1 Tryz.f37) false Q ⟨#[x0,x1,x2,x3,x4,x5,x6,x7,x8,x9,bg,bn,bi,aY,aU,aS,aT,aW,aZ,aX,bu,bz,bF,bG,bH,bM,bT,bQ],df⟩ w:=by
 have HQ:=lh hK
 clear hK
 refine bZ [(0,false)] (by kernel_rfl) ?_
 refine fU (.cells #[.slice none 0 0] 82) (some 5) (ki (by kernel_rfl)) (by kernel_rfl) ?_
 intro k1 w_k1 hk_k1 hO_k1 hm_k1 hl_k1
 refine⟨fun _=>trivial,?_⟩
 exact aA (aQ (K:=Q .normal) (by kernel_rfl) (HQ.out  k1 w_k1 hk_k1 hO_k1 hm_k1))
theorem du2 {w:World}{ak:Value}{X:Value→World→Prop} (hC:Calls Tryz.prog 112 #[.int .i64 14] w fun e w'=>∃ (v er:Value),e = .returned (.tuple #[v,er])∧X v w')
  (hK:∀ (y7 jU pU qN kF:Value) (v:Value) (w':World),X v w'→Q .normal ⟨#[x0,x1,x2,x3,x4,x5,v,y7,x8,x9,jU,pU,qN,kF,aU,aS,aT,aW,aZ,aX,bu,bz,bF,bG,bH,bM,bT,bQ],df⟩ w'):RW Tryz.prog (aH 2 Tryz.f37) false Q ⟨#[x0,x1,x2,x3,x4,x5,x6,x7,x8,x9,bg,bn,bi,aY,aU,aS,aT,aW,aZ,aX,bu,bz,bF,bG,bH,bM,bT,bQ],df⟩ w:=by
 have HQ:=lh hK
 clear hK
 refine bZ [(0,false),(1,false),(2,false),(3,false),(4,false),(5,false)] (by kernel_rfl) ?_
 refine az (some 11) (ki (by kernel_rfl)) hC (fun _=>by kernel_rfl) ?_
 rintro r w7 ⟨v,er,rfl,hx⟩
 refine⟨_,rfl,fun _=>trivial,?_⟩
 refine aC [1,2,3,4,5] [.tuple #[v,er],v,er,v,er] rfl (by kernel_rfl) (by kernel_rfl) (.inr trivial) ?_
 exact aA (aQ (K:=Q .normal) (by kernel_rfl) (HQ.out (er) (.tuple #[v,er]) (.tuple #[v,er]) (v) (er) v w7 hx))
theorem du3 {w:World}{sv hv:Value}{X:Array Value→World→Prop}{Y:Array Value→World→Prop} (hC:Calls Tryz.prog 114 #[sv,hv] w fun e w'=>∃ lb,e = .returned (.func (.func 244) #[] lb)∧X lb w') (hD:∀ lb w',X lb w'→Calls Tryz.prog 113 #[.func (.func 244) #[] lb] w' fun e w''=>∃ lb2,e = .returned (.func (.func 190) #[] lb2)∧Y lb2 w'')
  (hK:∀ (jV jW jO:Value) (lb2:Array Value) (w':World),Y lb2 w'→Q .normal ⟨#[sv,x1,x2,x3,x4,x5,hv,x7,x8,x9,bg,bn,bi,aY,jV,jW,jO,.func (.func 190) #[] lb2,aZ,aX,bu,bz,bF,bG,bH,bM,bT,bQ],df⟩ w'):RW Tryz.prog (aH 3 Tryz.f37) false Q ⟨#[sv,x1,x2,x3,x4,x5,hv,x7,x8,x9,bg,bn,bi,aY,aU,aS,aT,aW,aZ,aX,bu,bz,bF,bG,bH,bM,bT,bQ],df⟩ w:=by
 have HQ:=lh hK
 clear hK
 have D2:=lh hD
 clear hD
 refine bZ [(0,false),(1,false),(2,false),(3,false)] (by kernel_rfl) ?_
 refine aC [0,1] [sv,hv] rfl (by kernel_rfl) (by kernel_rfl) (.inr trivial) ?_
 refine az (some 16) (ki (by kernel_rfl)) (hC) (fun _=>by kernel_rfl) ?_
 rintro r w7 ⟨lb,rfl,hx⟩
 refine⟨_,rfl,fun _=>trivial,?_⟩
 refine az (some 17) (ki (by kernel_rfl)) (D2.out _ _ hx) (fun _=>by kernel_rfl) ?_
 rintro r w8 ⟨lb2,rfl,hy⟩
 refine⟨_,rfl,fun _=>trivial,?_⟩
 exact aA (aQ (K:=Q .normal) (by kernel_rfl) (HQ.out (sv) (hv) (.func (.func 244) #[] lb) lb2 w8 hy))
theorem du4 {w:World}{u:Value}{x0 x1 x2 x3 x4 x5 x6 x7 x8 x9 bg bn bi aY aU aS aT aW aX bu bz bF bG bH bM bT bQ:Value}{df:List Deferred}{Q:Exit→Act→World→Prop}
  (hK:∀  (w':World),w'=w→Q .normal ⟨#[x0,x1,x2,x3,x4,x5,x6,x7,u,x9,bg,bn,bi,aY,aU,aS,aT,aW,u,aX,bu,bz,bF,bG,bH,bM,bT,bQ],df⟩ w'):RW Tryz.prog (aH 4 Tryz.f37) false Q ⟨#[x0,x1,x2,x3,x4,x5,x6,x7,x8,x9,bg,bn,bi,aY,aU,aS,aT,aW,u,aX,bu,bz,bF,bG,bH,bM,bT,bQ],df⟩ w:=by
 have HQ:=lh hK
 clear hK
 refine bZ [(0,false)] (by kernel_rfl) ?_
 refine aC [0] [u] rfl (by kernel_rfl) (by kernel_rfl) (.inr trivial) ?_
 exact aA (aQ (K:=Q .normal) (by kernel_rfl) (HQ.out  _ rfl))
theorem du5 {w:World}{b:Nat}{kd:Int}{x0 x1 x2 x3 x4 x5 x6 x7 x8 x9 bg bn bi aY aU aS aT aW aZ bu bz bF bG bH bM bT bQ:Value}{df:List Deferred}{Q:Exit→Act→World→Prop}
  (hK:∀ (bq:Nat) (w':World),w.heap.size≤bq→w'.heap[bq]?=some (.cells #[.int .u64 ((b:Nat):Int),.int .i64 kd] 86 (0,0))→ae ai w w'→Q .normal ⟨#[x0,x1,x2,x3,x4,x5,x6,x7,x8,.pointer (some ⟨bq,0,none⟩),bg,bn,bi,aY,aU,aS,aT,aW,aZ,.agg #[.int .u64 ((b:Nat):Int),.int .i64 kd],bu,bz,bF,bG,bH,bM,bT,bQ],df⟩ w'):RW Tryz.prog (aH 5 Tryz.f37) false Q ⟨#[x0,x1,x2,x3,x4,x5,x6,x7,x8,x9,bg,bn,bi,aY,aU,aS,aT,aW,aZ,.agg #[.int .u64 ((b:Nat):Int),.int .i64 kd],bu,bz,bF,bG,bH,bM,bT,bQ],df⟩ w:=by
 have HQ:=lh hK
 clear hK
 refine bZ [(0,false),(1,false)] (by kernel_rfl) ?_
 refine fU (.cells #[.int .u64 0,.int .i64 0] 86) (some 9) (ki (by kernel_rfl)) (by kernel_rfl) ?_
 intro k1 w_k1 hk_k1 hO_k1 hm_k1 hl_k1
 refine⟨fun _=>trivial,?_⟩
 refine qp (off:=0) (ty:=86) (x:=(.tmp 9)) (y:=(.tmp 19)) (cells:=#[.int .u64 ((b:Nat):Int),.int .i64 kd]) #[.int .u64 ((b:Nat):Int),.int .i64 kd] none (ki (by kernel_rfl)) (by kernel_rfl) (by kernel_rfl) (by kernel_rfl) hO_k1 (by kernel_rfl) (by kernel_rfl) (by kernel_rfl) (by kernel_rfl) ?_
 intro w9 hO9 hm9 hs9
 refine⟨fun _=>trivial,?_⟩
 have hM:=hm_k1.trans hm9 (U:=ai) (fun _ _ x=>x) (fun i hi e=>by omega)
 exact aA (aQ (K:=Q .normal) (by kernel_rfl) (HQ.out  k1 w9 (Nat.le_of_eq hk_k1.symm) hO9 hM))
theorem du6 {w:World}{hb a h:Nat}{B:Bool} (q0:w.cell? ⟨hb,0,none⟩=some (.int .u64 ((h:Nat):Int))) (hB:decide (((h:Nat):Int)<((a:Nat):Int))=B)
  (hK:∀ (mi jP:Value)  (w':World),w'=w→Q .normal ⟨#[x0,x1,x2,.pointer (some ⟨hb,0,none⟩),x4,x5,x6,x7,.int .u64 ((a:Nat):Int),x9,bg,bn,bi,aY,aU,aS,aT,aW,aZ,aX,mi,jP,.bool B,bG,bH,bM,bT,bQ],df⟩ w'):RW Tryz.prog (aH 6 Tryz.f37) false Q ⟨#[x0,x1,x2,.pointer (some ⟨hb,0,none⟩),x4,x5,x6,x7,.int .u64 ((a:Nat):Int),x9,bg,bn,bi,aY,aU,aS,aT,aW,aZ,aX,bu,bz,bF,bG,bH,bM,bT,bQ],df⟩ w:=by
 have HQ:=lh hK
 clear hK
 refine bZ [(0,false),(1,false),(2,false)] (by kernel_rfl) ?_
 refine aC [0] [.int .u64 ((a:Nat):Int)] rfl (by kernel_rfl) (by kernel_rfl) (.inr trivial) ?_
 refine aP (.int .u64 ((h:Nat):Int)) _ (some 21) (ki (by kernel_rfl)) (aB (x:=(.tmp 3)) (by kernel_rfl) (by kernel_rfl) (aO ((fun _=>q0) (trivial)) Tryz.underlying22 rfl)) (fun _=>trivial) ?_
 refine aP (.bool B) _ (some 22) (ki (by kernel_rfl)) (bV (t:=22) (t':=22) (xv := .int .u64 ((a:Nat):Int)) (yv := .int .u64 ((h:Nat):Int)) (x:=(.tmp 20)) (y:=(.tmp 21)) (by kernel_rfl) (by kernel_rfl) (by kernel_rfl) (fun _=>by kernel_rfl) (sQ _ hB)) (fun _=>trivial) ?_
 exact aA (aQ (K:=Q .normal) (by kernel_rfl) (HQ.out (.int .u64 ((a:Nat):Int)) (.int .u64 ((h:Nat):Int)) _ rfl))
theorem du7 {w:World}{ob eb n b:Nat}{kd:Int}{vo:Value}{pcs:List Value}{t:TypeId} (hg:w.heap[ob]?=some (.cells #[vo] t (0,0))) (he:w.heap[eb]?=some (.cells #[.int .u64 ((b:Nat):Int),.int .i64 kd] 86 (0,0))) (hr:bC w 86 2 vo n pcs) (hn:n≤100000000) (hvo:¬ eY vo ob)
  (hK:∀ (jl jQ jw jX:Value) (v8:Value) (w8:World) (w':World),bC w8 86 2 v8 (n+1) (pcs ++ [.int .u64 ((b:Nat):Int),.int .i64 kd])→ae (eY vo) w w8→(v8.ownBlock=vo.ownBlock∨aG w v8)→w'=w8.setCell ⟨ob,0,none⟩ v8→Q .normal ⟨#[x0,x1,x2,x3,x4,.pointer (some ⟨ob,0,none⟩),x6,x7,x8,.pointer (some ⟨eb,0,none⟩),bg,bn,bi,aY,aU,aS,aT,aW,aZ,aX,bu,bz,bF,jl,jQ,jw,jX,bQ],df⟩ w'):RW Tryz.prog (aH 7 Tryz.f37) false Q ⟨#[x0,x1,x2,x3,x4,.pointer (some ⟨ob,0,none⟩),x6,x7,x8,.pointer (some ⟨eb,0,none⟩),bg,bn,bi,aY,aU,aS,aT,aW,aZ,aX,bu,bz,bF,bG,bH,bM,bT,bQ],df⟩ w:=by
 have HQ:=lh hK
 clear hK
 have HR:=lh hr
 have HG:=lh hg
 have q0:w.cell? ⟨ob,0,none⟩=some vo:=af hg 0
 have QE:∀ j u,[Value.int .u64 ((b:Nat):Int),.int .i64 kd][j]?=some u→w.cell? ⟨eb,0+j,none⟩=some u:=fun j u hj=>by rw [Nat.zero_add];exact (af he j).trans (by rw [← hj];exact List.getElem?_toArray)
 clear hr hg he
 have MR:=lh (ae.refl ai w)
 refine bZ [(0,false),(1,false),(2,false),(3,false),(4,false)] (by kernel_rfl) ?_
 refine aP (vo) _ (some 23) (ki (by kernel_rfl)) (aB (x:=(.tmp 5)) (by kernel_rfl) (by kernel_rfl) (aO ((fun _=>q0) (trivial)) Tryz.underlying82 rfl)) (fun _=>trivial) ?_
 refine aP (.agg #[.int .u64 ((b:Nat):Int),.int .i64 kd]) _ (some 24) (ki (by kernel_rfl)) (aB (x:=(.tmp 9)) (by kernel_rfl) (by kernel_rfl) (dD [.int .u64 ((b:Nat):Int),.int .i64 kd] ((fun _=>QE) (trivial)) Tryz.underlying86 rfl (by kernel_rfl))) (fun _=>trivial) ?_
 refine gq (.cells #[.int .u64 ((b:Nat):Int),.int .i64 kd] 86) 1 (some 25) (ki (by kernel_rfl)) (by kernel_rfl) ?_
 intro k1 w_k1 hk_k1 hO_k1 hm_k1 hl_k1
 have MZ:=MR.out.size
 replace MR:=lh (MR.out.then0 hm_k1)
 refine⟨fun _=>trivial,?_⟩
 obtain⟨inf,hi,hz,hs,hby⟩:=info_parts GX
 obtain⟨v8,w8,hr8,o8,m8,f8⟩:=wH (P:=Tryz.prog) 82 82 82 86 86 inf (.agg #[.int .u64 0,.int .i64 0]) Tryz.underlying82 Tryz.underlying82 hi hz (by rw [hs];rfl) (by rw [hs];exact HR.out.keep MR.out (fun _ _ x=>x)) (m:=1) (ys:=[.int .u64 ((b:Nat):Int),.int .i64 kd]) (by rw [hs];exact bC.rd (yX hO_k1).own) (by intro y hy;simp at hy;rcases hy with rfl | rfl <;> rfl) (by unfold maxLen;omega) (by rw [hby];omega)
 rw [hs] at o8
 refine aP v8 w8 (some 26) (ki (by kernel_rfl)) (of_append (x:=(.tmp 23)) (y:=(.tmp 25)) (by kernel_rfl) (by kernel_rfl) (by kernel_rfl) hr8) (fun _=>trivial) ?_
 have m78:=hm_k1.trans m8 (U:=eY vo) (fun _ _ x=>x.elim) (fun _ _ x=>x)
 have f9:=f8.imp id (fun h=>h.of hm_k1.size)
 have hg8:=m78.heap HG.out hvo
 obtain⟨a8,c8,e8,_⟩:=o8.rd.form
 have h18:v8.oneCell'=true:=by rw [e8];rfl
 clear e8
 refine gU (ty:=82) (x:=(.tmp 5)) (y:=(.tmp 26)) (g:=ob) (off:=0) (v:=v8) none (ki (by kernel_rfl)) (by kernel_rfl) (by kernel_rfl) (by kernel_rfl) (by kernel_rfl) (by rw [af hg8];rfl) (bY hg8 _) (h18) ?_
 intro w9 hw9
 refine⟨(fun h=>by first | (cases h;done) | exact trivial),?_⟩
 exact aA (aQ (K:=Q .normal) (by kernel_rfl) (HQ.out (vo) (.agg #[.int .u64 ((b:Nat):Int),.int .i64 kd]) (.slice (some ⟨k1,0,none⟩) 1 1) (v8) v8 w8 w9 o8 m78 f9 hw9))
theorem du8 {w:World}{ob:Nat}{v:Value} (q0:w.cell? ⟨ob,0,none⟩=some v)
  (hK:∀ (mF:Value)  (w':World),w'=w→Q .normal ⟨#[x0,x1,x2,x3,v,.pointer (some ⟨ob,0,none⟩),x6,x7,x8,x9,bg,bn,bi,aY,aU,aS,aT,aW,aZ,aX,bu,bz,bF,bG,bH,bM,bT,mF],df⟩ w'):RW Tryz.prog (aH 8 Tryz.f37) false Q ⟨#[x0,x1,x2,x3,x4,.pointer (some ⟨ob,0,none⟩),x6,x7,x8,x9,bg,bn,bi,aY,aU,aS,aT,aW,aZ,aX,bu,bz,bF,bG,bH,bM,bT,bQ],df⟩ w:=by
 have HQ:=lh hK
 clear hK
 refine bZ [(0,false),(1,false)] (by kernel_rfl) ?_
 refine aP (v) _ (some 27) (ki (by kernel_rfl)) (aB (x:=(.tmp 5)) (by kernel_rfl) (by kernel_rfl) (aO ((fun _=>q0) (trivial)) Tryz.underlying82 rfl)) (fun _=>trivial) ?_
 refine aC [1] [v] rfl (by kernel_rfl) (by kernel_rfl) (.inr trivial) ?_
 exact aA (aQ (K:=Q .normal) (by kernel_rfl) (HQ.out (v) _ rfl))
theorem fr0 {w:World}{x0 x1 x2 x3 x4 x5 x6 x7 x8 x9 bg bn bi aY aU aS aT aW aZ aX bu bz bF bG bH bM:Value}{df:List Deferred}{Q:Exit→Act→World→Prop}
  (hK:∀  (w':World),w'=w→Q .normal ⟨#[x0,x1,x2,x3,.slice none 0 0,x5,x6,x7,x8,x9,bg,bn,bi,aY,aU,aS,aT,aW,aZ,aX,bu,bz,bF,bG,bH,bM],df⟩ w'):RW Tryz.prog (aH 0 Tryz.f39) false Q ⟨#[x0,x1,x2,x3,x4,x5,x6,x7,x8,x9,bg,bn,bi,aY,aU,aS,aT,aW,aZ,aX,bu,bz,bF,bG,bH,bM],df⟩ w:=by
 have HQ:=lh hK
 clear hK
 refine bZ [(0,false)] (by kernel_rfl) ?_
 refine aC [0] [(.slice none 0 0)] rfl (by kernel_rfl) (by kernel_rfl) (.inr trivial) ?_
 exact aA (aQ (K:=Q .normal) (by kernel_rfl) (HQ.out  _ rfl))
theorem fr1 {w:World} 
  (hK:∀ (bq:Nat) (w':World),bq=w.heap.size→w'.heap[bq]?=some (.cells #[.slice none 0 0] 82 (0,0))→ae ai w w'→Q .normal ⟨#[x0,x1,x2,x3,x4,.pointer (some ⟨bq,0,none⟩),x6,x7,x8,x9,bg,bn,bi,aY,aU,aS,aT,aW,aZ,aX,bu,bz,bF,bG,bH,bM],df⟩ w'):RW Tryz.prog (aH 1 Tryz.f39) false Q ⟨#[x0,x1,x2,x3,x4,x5,x6,x7,x8,x9,bg,bn,bi,aY,aU,aS,aT,aW,aZ,aX,bu,bz,bF,bG,bH,bM],df⟩ w:=by
 have HQ:=lh hK
 clear hK
 refine bZ [(0,false)] (by kernel_rfl) ?_
 refine fU (.cells #[.slice none 0 0] 82) (some 5) (ki (by kernel_rfl)) (by kernel_rfl) ?_
 intro k1 w_k1 hk_k1 hO_k1 hm_k1 hl_k1
 refine⟨fun _=>trivial,?_⟩
 exact aA (aQ (K:=Q .normal) (by kernel_rfl) (HQ.out  k1 w_k1 hk_k1 hO_k1 hm_k1))
theorem fr2 {w:World}{ak:Value}{X:Value→World→Prop} (hC:Calls Tryz.prog 115 #[.int .i64 15,ak] w fun e w'=>∃ (v er:Value),e = .returned (.tuple #[v,er])∧X v w')
  (hK:∀ (y7 jU pU qN kF jV:Value) (v:Value) (w':World),X v w'→Q .normal ⟨#[x0,ak,x2,x3,x4,x5,v,y7,x8,x9,jU,pU,qN,kF,jV,aS,aT,aW,aZ,aX,bu,bz,bF,bG,bH,bM],df⟩ w'):RW Tryz.prog (aH 2 Tryz.f39) false Q ⟨#[x0,ak,x2,x3,x4,x5,x6,x7,x8,x9,bg,bn,bi,aY,aU,aS,aT,aW,aZ,aX,bu,bz,bF,bG,bH,bM],df⟩ w:=by
 have HQ:=lh hK
 clear hK
 refine bZ [(0,false),(1,false),(2,false),(3,false),(4,false),(5,false),(6,false)] (by kernel_rfl) ?_
 refine aC [0] [ak] rfl (by kernel_rfl) (by kernel_rfl) (.inr trivial) ?_
 refine az (some 12) (ki (by kernel_rfl)) hC (fun _=>by kernel_rfl) ?_
 rintro r w7 ⟨v,er,rfl,hx⟩
 refine⟨_,rfl,fun _=>trivial,?_⟩
 refine aC [2,3,4,5,6] [.tuple #[v,er],v,er,v,er] rfl (by kernel_rfl) (by kernel_rfl) (.inr trivial) ?_
 exact aA (aQ (K:=Q .normal) (by kernel_rfl) (HQ.out (er) (.tuple #[v,er]) (ak) (.tuple #[v,er]) (v) (er) v w7 hx))
theorem fr3 {w:World}{sv hv:Value}{X:Array Value→World→Prop}{Y:Array Value→World→Prop} (hC:Calls Tryz.prog 114 #[sv,hv] w fun e w'=>∃ lb,e = .returned (.func (.func 244) #[] lb)∧X lb w') (hD:∀ lb w',X lb w'→Calls Tryz.prog 113 #[.func (.func 244) #[] lb] w' fun e w''=>∃ lb2,e = .returned (.func (.func 190) #[] lb2)∧Y lb2 w'')
  (hK:∀ (jW jO jC:Value) (lb2:Array Value) (w':World),Y lb2 w'→Q .normal ⟨#[sv,x1,x2,x3,x4,x5,hv,x7,x8,x9,bg,bn,bi,aY,aU,jW,jO,jC,.func (.func 190) #[] lb2,aX,bu,bz,bF,bG,bH,bM],df⟩ w'):RW Tryz.prog (aH 3 Tryz.f39) false Q ⟨#[sv,x1,x2,x3,x4,x5,hv,x7,x8,x9,bg,bn,bi,aY,aU,aS,aT,aW,aZ,aX,bu,bz,bF,bG,bH,bM],df⟩ w:=by
 have HQ:=lh hK
 clear hK
 have D2:=lh hD
 clear hD
 refine bZ [(0,false),(1,false),(2,false),(3,false)] (by kernel_rfl) ?_
 refine aC [0,1] [sv,hv] rfl (by kernel_rfl) (by kernel_rfl) (.inr trivial) ?_
 refine az (some 17) (ki (by kernel_rfl)) (hC) (fun _=>by kernel_rfl) ?_
 rintro r w7 ⟨lb,rfl,hx⟩
 refine⟨_,rfl,fun _=>trivial,?_⟩
 refine az (some 18) (ki (by kernel_rfl)) (D2.out _ _ hx) (fun _=>by kernel_rfl) ?_
 rintro r w8 ⟨lb2,rfl,hy⟩
 refine⟨_,rfl,fun _=>trivial,?_⟩
 exact aA (aQ (K:=Q .normal) (by kernel_rfl) (HQ.out (sv) (hv) (.func (.func 244) #[] lb) lb2 w8 hy))
theorem fr4 {w:World}{b:Nat}{kd:Int}{x0 x1 x2 x3 x4 x5 x6 x7 x8 x9 bg bn bi aY aU aS aT aW aZ aX bz bF bG bH bM:Value}{df:List Deferred}{Q:Exit→Act→World→Prop}
  (hK:∀ (bq:Nat) (w':World),w.heap.size≤bq→w'.heap[bq]?=some (.cells #[.int .u64 ((b:Nat):Int),.int .i64 kd] 86 (0,0))→ae ai w w'→Q .normal ⟨#[x0,x1,x2,x3,x4,x5,x6,x7,x8,.pointer (some ⟨bq,0,none⟩),bg,bn,bi,aY,aU,aS,aT,aW,aZ,aX,.agg #[.int .u64 ((b:Nat):Int),.int .i64 kd],bz,bF,bG,bH,bM],df⟩ w'):RW Tryz.prog (aH 4 Tryz.f39) false Q ⟨#[x0,x1,x2,x3,x4,x5,x6,x7,x8,x9,bg,bn,bi,aY,aU,aS,aT,aW,aZ,aX,.agg #[.int .u64 ((b:Nat):Int),.int .i64 kd],bz,bF,bG,bH,bM],df⟩ w:=by
 have HQ:=lh hK
 clear hK
 refine bZ [(0,false),(1,false)] (by kernel_rfl) ?_
 refine fU (.cells #[.int .u64 0,.int .i64 0] 86) (some 9) (ki (by kernel_rfl)) (by kernel_rfl) ?_
 intro k1 w_k1 hk_k1 hO_k1 hm_k1 hl_k1
 refine⟨fun _=>trivial,?_⟩
 refine qp (off:=0) (ty:=86) (x:=(.tmp 9)) (y:=(.tmp 20)) (cells:=#[.int .u64 ((b:Nat):Int),.int .i64 kd]) #[.int .u64 ((b:Nat):Int),.int .i64 kd] none (ki (by kernel_rfl)) (by kernel_rfl) (by kernel_rfl) (by kernel_rfl) hO_k1 (by kernel_rfl) (by kernel_rfl) (by kernel_rfl) (by kernel_rfl) ?_
 intro w9 hO9 hm9 hs9
 refine⟨fun _=>trivial,?_⟩
 have hM:=hm_k1.trans hm9 (U:=ai) (fun _ _ x=>x) (fun i hi e=>by omega)
 exact aA (aQ (K:=Q .normal) (by kernel_rfl) (HQ.out  k1 w9 (Nat.le_of_eq hk_k1.symm) hO9 hM))
theorem fr5 {w:World}{ob eb n b:Nat}{kd:Int}{vo:Value}{pcs:List Value}{t:TypeId} (hg:w.heap[ob]?=some (.cells #[vo] t (0,0))) (he:w.heap[eb]?=some (.cells #[.int .u64 ((b:Nat):Int),.int .i64 kd] 86 (0,0))) (hr:bC w 86 2 vo n pcs) (hn:n≤100000000) (hvo:¬ eY vo ob)
  (hK:∀ (jP jD jl jQ:Value) (v8:Value) (w8:World) (w':World),bC w8 86 2 v8 (n+1) (pcs ++ [.int .u64 ((b:Nat):Int),.int .i64 kd])→ae (eY vo) w w8→(v8.ownBlock=vo.ownBlock∨aG w v8)→w'=w8.setCell ⟨ob,0,none⟩ v8→Q .normal ⟨#[x0,x1,x2,x3,x4,.pointer (some ⟨ob,0,none⟩),x6,x7,x8,.pointer (some ⟨eb,0,none⟩),bg,bn,bi,aY,aU,aS,aT,aW,aZ,aX,bu,jP,jD,jl,jQ,bM],df⟩ w'):RW Tryz.prog (aH 5 Tryz.f39) false Q ⟨#[x0,x1,x2,x3,x4,.pointer (some ⟨ob,0,none⟩),x6,x7,x8,.pointer (some ⟨eb,0,none⟩),bg,bn,bi,aY,aU,aS,aT,aW,aZ,aX,bu,bz,bF,bG,bH,bM],df⟩ w:=by
 have HQ:=lh hK
 clear hK
 have HR:=lh hr
 have HG:=lh hg
 have q0:w.cell? ⟨ob,0,none⟩=some vo:=af hg 0
 have QE:∀ j u,[Value.int .u64 ((b:Nat):Int),.int .i64 kd][j]?=some u→w.cell? ⟨eb,0+j,none⟩=some u:=fun j u hj=>by rw [Nat.zero_add];exact (af he j).trans (by rw [← hj];exact List.getElem?_toArray)
 clear hr hg he
 have MR:=lh (ae.refl ai w)
 refine bZ [(0,false),(1,false),(2,false),(3,false),(4,false)] (by kernel_rfl) ?_
 refine aP (vo) _ (some 21) (ki (by kernel_rfl)) (aB (x:=(.tmp 5)) (by kernel_rfl) (by kernel_rfl) (aO ((fun _=>q0) (trivial)) Tryz.underlying82 rfl)) (fun _=>trivial) ?_
 refine aP (.agg #[.int .u64 ((b:Nat):Int),.int .i64 kd]) _ (some 22) (ki (by kernel_rfl)) (aB (x:=(.tmp 9)) (by kernel_rfl) (by kernel_rfl) (dD [.int .u64 ((b:Nat):Int),.int .i64 kd] ((fun _=>QE) (trivial)) Tryz.underlying86 rfl (by kernel_rfl))) (fun _=>trivial) ?_
 refine gq (.cells #[.int .u64 ((b:Nat):Int),.int .i64 kd] 86) 1 (some 23) (ki (by kernel_rfl)) (by kernel_rfl) ?_
 intro k1 w_k1 hk_k1 hO_k1 hm_k1 hl_k1
 have MZ:=MR.out.size
 replace MR:=lh (MR.out.then0 hm_k1)
 refine⟨fun _=>trivial,?_⟩
 obtain⟨inf,hi,hz,hs,hby⟩:=info_parts GX
 obtain⟨v8,w8,hr8,o8,m8,f8⟩:=wH (P:=Tryz.prog) 82 82 82 86 86 inf (.agg #[.int .u64 0,.int .i64 0]) Tryz.underlying82 Tryz.underlying82 hi hz (by rw [hs];rfl) (by rw [hs];exact HR.out.keep MR.out (fun _ _ x=>x)) (m:=1) (ys:=[.int .u64 ((b:Nat):Int),.int .i64 kd]) (by rw [hs];exact bC.rd (yX hO_k1).own) (by intro y hy;simp at hy;rcases hy with rfl | rfl <;> rfl) (by unfold maxLen;omega) (by rw [hby];omega)
 rw [hs] at o8
 refine aP v8 w8 (some 24) (ki (by kernel_rfl)) (of_append (x:=(.tmp 21)) (y:=(.tmp 23)) (by kernel_rfl) (by kernel_rfl) (by kernel_rfl) hr8) (fun _=>trivial) ?_
 have m78:=hm_k1.trans m8 (U:=eY vo) (fun _ _ x=>x.elim) (fun _ _ x=>x)
 have f9:=f8.imp id (fun h=>h.of hm_k1.size)
 have hg8:=m78.heap HG.out hvo
 obtain⟨a8,c8,e8,_⟩:=o8.rd.form
 have h18:v8.oneCell'=true:=by rw [e8];rfl
 clear e8
 refine gU (ty:=82) (x:=(.tmp 5)) (y:=(.tmp 24)) (g:=ob) (off:=0) (v:=v8) none (ki (by kernel_rfl)) (by kernel_rfl) (by kernel_rfl) (by kernel_rfl) (by kernel_rfl) (by rw [af hg8];rfl) (bY hg8 _) (h18) ?_
 intro w9 hw9
 refine⟨(fun h=>by first | (cases h;done) | exact trivial),?_⟩
 exact aA (aQ (K:=Q .normal) (by kernel_rfl) (HQ.out (vo) (.agg #[.int .u64 ((b:Nat):Int),.int .i64 kd]) (.slice (some ⟨k1,0,none⟩) 1 1) (v8) v8 w8 w9 o8 m78 f9 hw9))
theorem fr6 {w:World}{ob:Nat}{v:Value} (q0:w.cell? ⟨ob,0,none⟩=some v)
  (hK:∀ (jw:Value)  (w':World),w'=w→Q .normal ⟨#[x0,x1,x2,x3,v,.pointer (some ⟨ob,0,none⟩),x6,x7,x8,x9,bg,bn,bi,aY,aU,aS,aT,aW,aZ,aX,bu,bz,bF,bG,bH,jw],df⟩ w'):RW Tryz.prog (aH 6 Tryz.f39) false Q ⟨#[x0,x1,x2,x3,x4,.pointer (some ⟨ob,0,none⟩),x6,x7,x8,x9,bg,bn,bi,aY,aU,aS,aT,aW,aZ,aX,bu,bz,bF,bG,bH,bM],df⟩ w:=by
 have HQ:=lh hK
 clear hK
 refine bZ [(0,false),(1,false)] (by kernel_rfl) ?_
 refine aP (v) _ (some 25) (ki (by kernel_rfl)) (aB (x:=(.tmp 5)) (by kernel_rfl) (by kernel_rfl) (aO ((fun _=>q0) (trivial)) Tryz.underlying82 rfl)) (fun _=>trivial) ?_
 refine aC [1] [v] rfl (by kernel_rfl) (by kernel_rfl) (.inr trivial) ?_
 exact aA (aQ (K:=Q .normal) (by kernel_rfl) (HQ.out (v) _ rfl))
end
end Go.Proofs.YtglkmaalpammcaaGreat

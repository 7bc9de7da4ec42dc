/- A loop over an iterator that ticks, whose variables lie in memory of their own (range_st0 of StI, and the assignments may make memory). -/
import Derived.Test.YtglkmaalpammcaaStI
namespace Go.Gl
open Go.RowKit
set_option linter.unusedVariables false
section
variable {P:Program}
theorem tu {g:Operand}{ps:Array Tmp}{assign body:Code}{Q:Exit→Act→World→Prop}{a:Act}{w:World}{gf:FuncId}{lb:Array Value} (hg:a.eval g = .func (.func gf) #[] lb) (eg:∀ args w,(callFunc gf args).run P w = .ok (.enter gf args) w)
    {n:Nat}{A:Nat→(Nat→Prop)→Array Value→World→Prop}{U0:Nat→Prop}{sg:Nat}{τ:World→World→Prop}{Ok:World→Prop}{w0:World} (it:rW P gf lb n A U0 τ Ok w0) (hτ:∀ A B,τ A B→ae (fun k=>k=sg) A B) (h0:ae (fun k=>¬ U0 k) w0 w) (hU:∀ k,U0 k→k<w.heap.size) (hA:nP A) (hps:∀ i U args W,A i U args W→args.size=ps.size)
    {T:Nat→World→Prop}{Qt:Nat→Prop} (R:Nat→FP) (Rx:Code→Nat→FP) (fR:∀ i,gG (R i)) (fRx:∀ c i,gG (Rx c i)) (hT:∀ j A B X,T j A→ae X A B→(∀ k,X k→¬ Qt k)→T j B) (hQt:∀ k,Qt k→k<w.heap.size) (tT:∀ j A,j≤n→T j A→Ok A∧∀ B,τ A B→T (j+1) B) (sgQ:Qt sg)
    {S0 D0:Nat→Prop} (t0:T 0 w) (r0:R 0 w S0 D0) (hS:∀ k,S0 k→¬ Qt k∧¬ U0 k) (hD:∀ k,D0 k→k≠sg∧¬ U0 k)
    (hround:∀ l i U args W S D,w.heap.size≤l→i<n→T (i+2) W→R i W S D→A i U args W→(∀ k,S k→¬ Qt k∧¬ U k∧k≠l∧¬ ig args k∧(S0 k∨w.heap.size≤k))→(∀ k,D k→k≠sg∧¬ U k∧k≠l∧¬ ig args k)→(∀ k,ig args k→k<W.heap.size)→U l→l<W.heap.size→w.heap.size≤W.heap.size→ae (fun k=>S0 k∨k=sg) w W →
      assign.wpIn (WF (some l)) 3 P (Exit.then (fun a1 W1=>ae aj W W1∧∀ W2,ae (fun k=>k=l) W1 W2→R i W2 S D→body.wpIn (WF (some l)) 3 P (fun e _ W'=>fpost R Rx S D i W2 e W') a1 W2) (fun _ _ _=>False))
        { tmps:=iD ps.toList args.toList a.tmps,defers:=[] } W)
    (hdone:∀ Dd W S D,T (n+1) W→R n W S D→(∀ k,S k→¬ Qt k∧k≠Dd∧(S0 k∨w.heap.size≤k))→(∀ k,D k→k≠sg∧k≠Dd)→w.heap.size≤Dd→ae (fun k=>S0 k∨k=sg) w W→W.heap[Dd]?=some (.deferred (some []))→Q .normal { a with defers:={ target := .collected Dd,args:=#[] } :: a.defers } W)
    (hstop:∀ Dd c i W S D,i<n→T (i+2) W→Rx c (i+1) W S D→(∀ k,S k→¬ Qt k∧k≠Dd∧(S0 k∨w.heap.size≤k))→(∀ k,D k→k≠sg∧k≠Dd)→w.heap.size≤Dd→ae (fun k=>S0 k∨k=sg) w W→W.heap[Dd]?=some (.deferred (some []))→c.wpIn (WF none) 3 P Q { a with defers:={ target := .collected Dd,args:=#[] } :: a.defers } W) :
    (Code.rangeFunc g ps assign body).wpIn (WF none) 3 P Q a w:=by
  have fr:∀ {T:World→Prop}{R:FP},gG R→(∀ A B X,T A→ae X A B→(∀ k,X k→¬ Qt k)→T B)→jY w.heap.size aj (fun _ U W=>LJ w sg Qt S0 D0 T R U W):=fun f ht i U U' X Y hx hm _ hsub=>hx.frm f ht hQt hm hsub
  have S0l:=(fR 0).lt r0
  have tk:∀ {j:Nat}{R:FP}{U:Nat→Prop}{A:World},gG R→j≤n→LJ w sg Qt S0 D0 (T j) R U A→Ok A∧∀ B,τ A B→LJ w sg Qt S0 D0 (T (j+1)) R U B:=fun {j R U A} f hj h=>by
    obtain⟨t,sz,⟨S,D,r,hs,hd⟩,m⟩:=h
    obtain⟨a1,a2⟩:=tT j A hj t
    refine⟨a1,fun B hB=>⟨a2 B hB,Nat.le_trans sz (hτ A B hB).size,⟨S,D,f.keep r (hτ A B hB) (fun k hk x=>(hs k hk).1 (x▸sgQ)) (fun k hk x=>(hd k hk).1 x),hs,hd⟩,m.trans (hτ A B hB) (fun _ _ x=>x) (fun k _ x => .inr x)⟩⟩
  refine wF hg eg it hτ (hQt _ sgQ) h0 hU hA hps (fun i U W=>LJ w sg Qt S0 D0 (T 0) (R 0) U W) (fun i U W=>LJ w sg Qt S0 D0 (T (i+1)) (R i) U W) (fun i U W=>LJ w sg Qt S0 D0 (T (i+2)) (R i) U W) (fun c i U W=>LJ w sg Qt S0 D0 (T (i+1)) (Rx c i) U W)
    (fr (fR 0) (hT 0)) (fun i U U' X Y hx hm _ hsub=>hx.frm (fR i) (hT _) hQt hm hsub) (fun i U U' X Y hx hm _ hsub=>hx.frm (fR i) (hT _) hQt hm hsub) (fun c i U U' X Y hx hm _ hsub=>hx.frm (fRx c i) (hT _) hQt hm hsub)
    ⟨t0,Nat.le_refl _,⟨S0,D0,r0,fun k hk=>⟨(hS k hk).1,(hS k hk).2,.inl hk⟩,hD⟩,ae.refl _ _⟩ (fun U A h=>tk (fR 0) (Nat.zero_le _) h) (fun i U A hi h=>tk (fR i) (by omega) h) ?_ ?_ ?_
  · intro l i U args W hl hUl hi hJ hAr hUs hW hlo hJa hab
    obtain⟨t,sz,⟨S,D,r,hs,hd⟩,m⟩:=hJa
    have nl:∀ k,S k→k≠l:=fun k hk x=>(hs k hk).2.1 (.inl (x▸hUl))
    have nd:∀ k,D k→k≠l:=fun k hk x=>(hd k hk).2 (.inl (x▸hUl))
    refine wpIn_mono (hround l i U args W S D hl hi t r hAr (fun k hk=>⟨(hs k hk).1,fun x=>(hs k hk).2.1 (.inl x),nl k hk,fun x=>(hs k hk).2.1 (.inr x),(hs k hk).2.2⟩) (fun k hk=>⟨(hd k hk).1,fun x=>(hd k hk).2 (.inl x),nd k hk,fun x=>(hd k hk).2 (.inr x)⟩) hab hUl (hUs l hUl) hW m) ?_
    rintro e a1 W1 he
    cases e with
    | normal =>
      obtain⟨m0,hb⟩:=he
      have z0:=m0.size
      have lW:l<W.heap.size:=hUs l hUl
      refine⟨m0.mono (fun _ _ x=>x.elim),fun W2 m2 hl2=>wpIn_mono (hb W2 m2 ((fR i).keep ((fR i).keep r m0 (fun _ _ x=>x) (fun _ _ x=>x)) m2 nl nd)) ?_⟩
      rintro e a3 W3 ⟨P',hP,S',D',p,m3,s3,d3⟩
      have l3:∀ {X:FP},gG X→X W3 S' D'→ae (fun k=>¬ U k) W2 W3∧LJ w sg Qt S0 D0 (T (i+2)) X U W3:=fun {X} f x=>by
        refine⟨m3.mono (fun k _ hk=>fun x=>(hs k hk).2.1 (.inl x)),⟨hT _ _ _ _ (hT _ _ _ _ (hT _ _ _ _ t m0 (fun _ x=>x.elim)) m2 (fun k hk x=>by have:=hQt k x;omega)) m3 (fun k hk=>(hs k hk).1),Nat.le_trans sz (Nat.le_trans z0 (Nat.le_trans m2.size m3.size)),⟨S',D',x,fun k hk=>?_,fun k hk=>?_⟩,((m.then0 m0).trans m2 (fun _ _ x=>x) (fun k hk x=>by omega)).trans m3 (fun _ _ x=>x) (fun k hk x=>?_)⟩⟩
        · rcases s3 k hk with y | y
          · exact⟨(hs k y).1,fun z=>(hs k y).2.1 (.inl z),(hs k y).2.2⟩
          · have:=m2.size
            exact⟨fun z=>by have:=hQt k z;omega,fun z=>by have:=hUs k z;omega,.inr (by omega)⟩
        · rcases d3 k hk with y | y
          · exact⟨(hd k y).1,fun z=>(hd k y).2 (.inl z)⟩
          · have:=m2.size
            exact⟨fun z=>by have:=hQt _ (z▸sgQ);omega,fun z=>by have:=hUs k z;omega⟩
        · rcases (hs k x).2.2 with y | y
          · exact .inl y
          · omega
      cases e with
      | normal=>subst hP;exact l3 (fR _) p
      | ret=>subst hP;exact l3 (fRx _ _) p
      | exit id=>subst hP;exact l3 (fRx _ _) p
      | goto t=>subst hP;exact l3 (fRx _ _) p
      | _=>exact hP.elim
    | _=>exact he.elim
  · rintro Dd U W hDd hUD hus ⟨t,sz,⟨S,D,r,hs,hd⟩,m⟩ hdef
    exact hdone Dd W S D t r (fun k hk=>⟨(hs k hk).1,fun x=>(hs k hk).2.1 (x▸hUD),(hs k hk).2.2⟩) (fun k hk=>⟨(hd k hk).1,fun x=>(hd k hk).2 (x▸hUD)⟩) hDd m hdef
  · rintro Dd c i U W hDd hUD hus hi ⟨t,sz,⟨S,D,r,hs,hd⟩,m⟩ hdef
    exact hstop Dd c i W S D hi t r (fun k hk=>⟨(hs k hk).1,fun x=>(hs k hk).2.1 (x▸hUD),(hs k hk).2.2⟩) (fun k hk=>⟨(hd k hk).1,fun x=>(hd k hk).2 (x▸hUD)⟩) hDd m hdef
end
end Go.Gl

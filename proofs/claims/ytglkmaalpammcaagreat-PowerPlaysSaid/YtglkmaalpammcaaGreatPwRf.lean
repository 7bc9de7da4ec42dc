/- gleanref11: Put, Drop, Bond, Top, Bonded, as calls on a plain store. -/
import Derived.Test.YtglkmaalpammcaaGreatZE
import Derived.Test.YtglkmaalpammcaaGreatBkRs
import Derived.Test.YtglkmaalpammcaaGreatRRead
set_option maxHeartbeats 64000000
namespace Go.Proofs.YtglkmaalpammcaaGreat
open Go.Gl Go.RowKit
set_option linter.unusedVariables false
set_option maxRecDepth 100000
theorem yJ {w w1 w2:World}{S0 D0:Nat→Prop}{P:FP}{N N' T:Nat→Prop} (h:GI w S0 D0 w1 P N) (f:gz P) (m:ae T w1 w2) (ht:∀ k,T k→N k) (hn:∀ k,N' k→N k∨(w1.heap.size≤k∧k<w2.heap.size)):GI w S0 D0 w2 P N':=by
 obtain⟨S,D,p,m0,hs,hd,hN⟩:=h
 have l:=f.lt p
 have z:=m0.size
 refine⟨S,D,f.keep p m (fun k hk x=>(hN k (ht k x)).2.2.1 hk) (fun k hk x=>(hN k (ht k x)).2.2.2 hk),m0.trans m (fun _ _ x=>x) (fun k hk x=>by have:=(hN k (ht k x)).1;omega),hs,hd,fun k hk=>?_⟩
 rcases hn k hk with x | ⟨x,y⟩
 ·exact⟨(hN k x).1,Nat.lt_of_lt_of_le (hN k x).2.1 m.size,(hN k x).2.2⟩
 ·exact⟨by omega,y,fun s=>by have:=l.1 k s;omega,fun s=>by have:=l.2 k s;omega⟩
section
variable {w:World}{g n:Nat}{F:List aN}{Q:Nat→Prop}
theorem rPut {v t:Nat} (hv:v≤18446744073709551615) (ht:t≤18446744073709551615) (hn:n≤1000000000000) (hF:F.length≤100000):GS Tryz.prog 62 #[.pointer (some ⟨g,0,none⟩),.int .u64 ((v:Nat):Int),.int .u64 ((t:Nat):Int)] w (iR g F n) Q (.tuple #[]) (iR g (jJ F (gp 10 t v) []) (n+1)):=GS.walk fun S D kv hQ=>by
 have G0:=lh (GI.start kv)
 have K:=lh (fun W=>uM (kind:=10) (a:=t) (b:=v) W ht hv)
 clear kv hv ht
 go_enter Tryz.func62,Tryz.ntmps62
 go_wp2_with fail
 refine (K.out w).mono ?_
 rintro e w2 ⟨k,rfl,o2,m2,f2⟩
 have G2:=lh (G0.out.own kX m2 o2 f2)
 have C:=lh (G2.out.calls (Ec o2.rd (Rd.nil _) (oK (fun i hi => .inr hi)) (fun h=>absurd rfl h) hn hF))
 clear o2 m2 f2 G0
 go_wp2_with fail
 refine C.out.mono ?_
 rintro e w3 ⟨rfl,g3,m3⟩
 have DD:=lh g3.done
 clear g3 m3 C G2
 go_wp2
 go_end0
 exact⟨rfl,DD.out⟩
theorem rDrop {v t:Nat} (hv:v≤18446744073709551615) (ht:t≤18446744073709551615) (hn:n≤1000000000000) (hF:F.length≤100000):GS Tryz.prog 64 #[.pointer (some ⟨g,0,none⟩),.int .u64 ((v:Nat):Int),.int .u64 ((t:Nat):Int)] w (iR g F n) Q (.tuple #[]) (iR g (gJ F (gp 10 t v)) (n+1)):=GS.walk fun S D kv hQ=>by
 have G0:=lh (GI.start kv)
 have K:=lh (fun W=>uM (kind:=10) (a:=t) (b:=v) W ht hv)
 clear kv hv ht
 go_enter Tryz.func64,Tryz.ntmps64
 go_wp2_with fail
 refine (K.out w).mono ?_
 rintro e w2 ⟨k,rfl,o2,m2,f2⟩
 have G2:=lh (G0.out.own kX m2 o2 f2)
 have C:=lh (G2.out.calls (Ez o2.rd (oK (fun i hi => .inr hi)) hn hF))
 clear o2 m2 f2 G0
 go_wp2_with fail
 refine C.out.mono ?_
 rintro e w3 ⟨rfl,g3,m3⟩
 have DD:=lh g3.done
 clear g3 m3 C G2
 go_wp2
 go_end0
 exact⟨rfl,DD.out⟩
theorem Hm {v:Nat}{on:Bool} (hv:v≤18446744073709551615) (hn:n≤1000000000000) (hF:F.length≤100000):GS Tryz.prog 66 #[.pointer (some ⟨g,0,none⟩),.int .u64 ((v:Nat):Int),.bool on] w (iR g F n) Q (.tuple #[]) (iR g (nT F v on) (n+1)):=GS.walk fun S D kv hQ=>by
  have G0:=lh (GI.start kv)
  have K:=lh (fun W=>show Calls Tryz.prog 44 #[.int .i64 11,.int .u64 (v:Nat),.int .u64 0] W fun e w'=>∃ u,e = .returned u∧Gl.Own w' u (gp 11 v 0)∧ae ai W w'∧aF W u from uM (kind:=11) (a:=v) (b:=0) W hv (by unfold U64;omega))
  clear kv hv
  cases on with
  | true =>
    go_enter Tryz.func66,Tryz.ntmps66
    go_wp2_with fail
    refine (K.out w).mono ?_
    rintro e w2 ⟨k,rfl,o2,m2,f2⟩
    have G2:=lh (G0.out.own kX m2 o2 f2)
    have C:=lh (G2.out.calls (Ec o2.rd (Rd.nil _) (oK (fun i hi => .inr hi)) (fun h=>absurd rfl h) hn hF))
    clear o2 m2 f2 G0
    go_wp2_with fail
    refine C.out.mono ?_
    rintro e w3 ⟨rfl,g3,m3⟩
    have DD:=lh g3.done
    clear g3 m3 C G2
    go_wp2
    go_end0
    exact⟨rfl,DD.out⟩
  | false =>
    go_enter Tryz.func66,Tryz.ntmps66
    go_wp2_with fail
    refine (K.out w).mono ?_
    rintro e w2 ⟨k,rfl,o2,m2,f2⟩
    have G2:=lh (G0.out.own kX m2 o2 f2)
    have C:=lh (G2.out.calls (Ez o2.rd (oK (fun i hi => .inr hi)) hn hF))
    clear o2 m2 f2 G0
    go_wp2_with fail
    refine C.out.mono ?_
    rintro e w3 ⟨rfl,g3,m3⟩
    have DD:=lh g3.done
    clear g3 m3 C G2
    go_wp2
    go_end0
    exact⟨rfl,DD.out⟩
theorem rTop {k:Int}{T:List (Nat × Nat)} (ht:F.filter (fun e=>bF [105] e.1)=qf T) (hT:∀ t∈T,sS t) (hn:n≤10000000000) (hF:F.length≤90000):GC Tryz.prog 70 #[.pointer (some ⟨g,0,none⟩),.int .i64 k] w (iR g F n) Q (fun w' v P' N=>ON 22 w' v ((T.map (·.2)).take k.toNat)∧P'=iR g F (n+1+F.length)∧N=dC v):=fun S D kv hQ=>by
 have m0:=(ae.refl ai w).alloc (.cells #[.int .u8 105] 5)
 have g0:=(GI.start kv).grow kX m0 (N':=fun k=>k=w.heap.size) (fun k hk => .inr ⟨by omega,by simp;omega⟩)
 have C:=lh (g0.call (rAll (q := .slice (some ⟨w.heap.size,0,none⟩) 1 1) (xs:=[105]) (Ar [105] (w:=w) w.heap.size 1 #[.int .u8 105] rfl rfl rfl rfl).rd (fun _ i hi x=>x (.inl (by simp [Value.ownBlock] at hi;exact hi.symm))) (by omega) hF))
 have HH:=lh (And.intro ht hT)
 have HF:=lh hF
 clear kv hQ m0 g0 ht hT
 go_enter Tryz.func70,Tryz.ntmps70
 go_wp2_with fail
 refine C.out.mono ?_
 rintro e w2 ⟨v,P',N,rfl,⟨M,pr,em,hd,rfl,rfl⟩,g2,hN,m2⟩
 obtain⟨va,vc,rfl,hat⟩:=pr.at
 obtain⟨mn,hmn⟩:∃ q,M.length=q:=⟨_,rfl⟩
 have tok:zg M 10 (T.map (·.2)):=AY (em.trans HH.out.1) HH.out.2
 have PR:=lh (And.intro pr (And.intro hd tok))
 have G2:=lh (g2.less (N':=fun _=>False) (fun _ x=>x.elim))
 have HM:=lh (And.intro hmn (show mn≤90000 by have:=zL em;have:=List.length_filter_le (fun e=>bF [105] e.1) F;omega))
 rw [hmn]
 have hmn2:mn≤90000:=HM.out.2
 have LV:=lh (show (T.map (·.2)).length=mn from tok.1.symm.trans hmn)
 clear pr em hd g2 hN m2 hmn C hat tok
 go_wp2
 go_loopw [5,7] (fun z x wr=>∃ (i:Nat) (av:Value),i≤mn∧i≤k.toNat∧av=z∧x = .int .i64 i∧Hid (ON 22 wr av ((T.map (·.2)).take i)∧GI w S D wr (iR g F (n+1+F.length)) (fun k=>av.ownBlock=some k)∧ae ai w2 wr∧∀ k,av.ownBlock=some k→w2.heap.size≤k)) (fun _ x _=>mn - (intOf x).toNat)
 case atStart=>exact⟨0,_,Nat.zero_le _,Nat.zero_le _,rfl,rfl,lh ⟨fF.nil _ _ _,G2.out.less (fun k hk=>by simp [Value.ownBlock] at hk),ae.refl _ _,fun k hk=>by simp [Value.ownBlock] at hk⟩⟩
 case round =>
  obtain⟨i,av,hi,hik,rfl,rfl,hI⟩:=hrel
  clear G2
  by_cases hkl:(i:Int)<k
  ·by_cases hlt:i<mn
   ·have hil:i<M.length:=by have:=HM.out.1;omega
    obtain⟨rdv,gi,mr,nw⟩:=hI.out
    have pr:=PR.out.1.keep0 mr
    obtain⟨a',c',ev,hat⟩:=pr.at
    cases ev
    obtain⟨gb,off,rfl,hgb,cv,_⟩:=hat i hil
    obtain⟨a2,c2,e2,_⟩:=(pr.own _ (List.getElem_mem hil)).1.form
    rw [e2] at cv
    obtain⟨ka0,xw,hpk,hek,hVi⟩:=PR.out.2.2.2 i _ (List.getElem?_eq_getElem hil)
    have A:=lh (xh (w:=wr) (v := .slice a2 (M[i]).k.length c2) (b:=(M[i]).k) (by rw [← e2];exact (pr.own _ (List.getElem_mem hil)).1))
    have RV:=lh rdv
    have GG:=lh (And.intro gi (And.intro mr nw))
    have HK:=lh (And.intro hpk (And.intro hek hVi))
    generalize M[i]=e at *
    clear hI pr hat e2 rdv gi mr nw hpk hek hVi
    go_wp2_with fail
    refine A.out.mono ?_
    rintro e' w3 ⟨kk,ka,kb,kn,rfl,hg,m3⟩
    obtain⟨hk1,rfl,rfl,_⟩:=iO.same hg (show iO e.k (10:Nat) ka0 xw 0 from by rw [HK.out.2.1];exact .inl ⟨rfl,uY HK.out.1,HK.out.1.1,HK.out.1.2.1,by omega,by omega⟩)
    have MB:=lh (And.intro m3 hk1)
    clear A hg m3 hk1
    go_upto_region 7 with fail
    have m4:=MB.out.1.alloc (.cells #[.int .i64 kk,.int .u64 ((ka:Nat):Int),.int .u64 ((kb:Nat):Int)] 173)
    have b4:=aU w3 (.cells #[.int .i64 kk,.int .u64 ((ka:Nat):Int),.int .u64 ((kb:Nat):Int)] 173)
    obtain⟨w4,hw4⟩:∃ w4,w4=w3.alloc (.cells #[.int .i64 kk,.int .u64 ((ka:Nat):Int),.int .u64 ((kb:Nat):Int)] 173):=⟨_,rfl⟩
    rw [← hw4] at m4 b4 ⊢
    have q4:=fF.keep RV.out m4 (fun _ _ x=>x)
    refine gy (d := .region 7 (aJ 7 Tryz.f70) false) (by kernel_rfl) ?_
    refine RW.wp (rt7 q4 (ag b4 2) (by rw [List.length_take];omega) ?_)
    intros
    rename_i v8 w8 o8 m8 f8
    have FIN:=lh (show ON 22 w8 v8 ((T.map (·.2)).take (i+1))∧GI w S D w8 (iR g F (n+1+F.length)) (fun k=>v8.ownBlock=some k)∧ae ai w2 w8∧∀ k,v8.ownBlock=some k→w2.heap.size≤k from by
     obtain⟨gi,mr,nw⟩:=GG.out
     have z4:=m4.size
     have zr:=mr.size
     refine⟨?_,yJ (gi.keep0 kX m4) kX m8 (fun k hk=>hk) (fun k hk=>f8.imp (fun (x:v8.ownBlock=av.ownBlock)=>x.symm.trans hk) (fun x=>⟨x k hk,aO.lt o8 k hk⟩)),(mr.then0 m4).trans m8 (fun _ _ x=>x) (fun k hk x=>by have:=nw k x;omega),fun k hk=>?_⟩
     ·unfold ON fF
      rw [rD HK.out.2.2,List.map_append,List.length_append]
      exact o8
     ·rcases f8 with x | x
      ·exact nw k (x▸hk)
      ·have:=x k hk;omega)
    clear o8 m8 f8 q4 m4 b4 hw4
    go_wp2
    go_roundw
    case rel=>exact⟨i+1,_,by omega,by omega,rfl,by go_num,FIN⟩
    case measure=>simp [intOf];omega
   ·obtain rfl:i=mn:=by omega
    obtain⟨rdv,gi,mr,nw⟩:=hI.out
    have e1:(T.map (·.2)).take i=((T.map (·.2)).take k.toNat):=by rw [List.take_of_length_le (by rw [LV.out];exact Nat.le_refl _),List.take_of_length_le (by rw [LV.out];omega)]
    rw [e1] at rdv
    obtain⟨S',D',p',mm,s',d',nn⟩:=gi
    have D1:=lh (show ∃ v' P' N,Ending.returned av = .returned v'∧(ON 22 wr v' ((T.map (·.2)).take k.toNat)∧P'=iR g F (n+1+F.length)∧N=dC v')∧∃ S' D',P' wr S' D'∧ae S w wr∧(∀ k,S' k→S k∨w.heap.size≤k)∧(∀ k,D' k→D k∨w.heap.size≤k)∧(∀ k,N k→w.heap.size≤k∧k<wr.heap.size∧¬ S' k∧¬ D' k) from⟨_,_,_,rfl,⟨rdv,rfl,rfl⟩,S',D',p',mm,s',d',nn⟩)
    clear hI rdv p' mm s' d' nn mr nw
    go_wp2
    go_ret
    obtain⟨v',P',N,e1,e2,e3⟩:=D1.out
    first | exact⟨v',P',N,e1,e2,e3⟩ | exact⟨v',e1,P',N,e2,e3⟩
  ·have hki:i=k.toNat:=by omega
   by_cases hlt:i<mn
   ·obtain⟨rdv,gi,mr,nw⟩:=hI.out
    have e1:(T.map (·.2)).take i=((T.map (·.2)).take k.toNat):=by rw [hki]
    rw [e1] at rdv
    obtain⟨S',D',p',mm,s',d',nn⟩:=gi
    have D1:=lh (show ∃ v' P' N,Ending.returned av = .returned v'∧(ON 22 wr v' ((T.map (·.2)).take k.toNat)∧P'=iR g F (n+1+F.length)∧N=dC v')∧∃ S' D',P' wr S' D'∧ae S w wr∧(∀ k,S' k→S k∨w.heap.size≤k)∧(∀ k,D' k→D k∨w.heap.size≤k)∧(∀ k,N k→w.heap.size≤k∧k<wr.heap.size∧¬ S' k∧¬ D' k) from⟨_,_,_,rfl,⟨rdv,rfl,rfl⟩,S',D',p',mm,s',d',nn⟩)
    clear hI rdv p' mm s' d' nn mr nw
    go_wp2
    go_ret
    obtain⟨v',P',N,e1,e2,e3⟩:=D1.out
    first | exact⟨v',P',N,e1,e2,e3⟩ | exact⟨v',e1,P',N,e2,e3⟩
   ·obtain⟨rdv,gi,mr,nw⟩:=hI.out
    have e1:(T.map (·.2)).take i=((T.map (·.2)).take k.toNat):=by rw [hki]
    rw [e1] at rdv
    obtain⟨S',D',p',mm,s',d',nn⟩:=gi
    have D1:=lh (show ∃ v' P' N,Ending.returned av = .returned v'∧(ON 22 wr v' ((T.map (·.2)).take k.toNat)∧P'=iR g F (n+1+F.length)∧N=dC v')∧∃ S' D',P' wr S' D'∧ae S w wr∧(∀ k,S' k→S k∨w.heap.size≤k)∧(∀ k,D' k→D k∨w.heap.size≤k)∧(∀ k,N k→w.heap.size≤k∧k<wr.heap.size∧¬ S' k∧¬ D' k) from⟨_,_,_,rfl,⟨rdv,rfl,rfl⟩,S',D',p',mm,s',d',nn⟩)
    clear hI rdv p' mm s' d' nn mr nw
    go_wp2
    go_ret
    obtain⟨v',P',N,e1,e2,e3⟩:=D1.out
    first | exact⟨v',P',N,e1,e2,e3⟩ | exact⟨v',e1,P',N,e2,e3⟩
theorem IG {V:List Nat} (ht:F.filter (fun e=>bF [98] e.1)=oC V) (hV:∀ v∈V,v≤18446744073709551615) (hn:n≤10000000000) (hF:F.length≤90000):GC Tryz.prog 72 #[.pointer (some ⟨g,0,none⟩)] w (iR g F n) Q (fun w' v P' N=>ON 22 w' v V∧P'=iR g F (n+1+F.length)∧N=dC v):=fun S D kv hQ=>by
 have m0:=(ae.refl ai w).alloc (.cells #[.int .u8 98] 5)
 have g0:=(GI.start kv).grow kX m0 (N':=fun k=>k=w.heap.size) (fun k hk => .inr ⟨by omega,by simp;omega⟩)
 have C:=lh (g0.call (rAll (q := .slice (some ⟨w.heap.size,0,none⟩) 1 1) (xs:=[98]) (Ar [98] (w:=w) w.heap.size 1 #[.int .u8 98] rfl rfl rfl rfl).rd (fun _ i hi x=>x (.inl (by simp [Value.ownBlock] at hi;exact hi.symm))) (by omega) hF))
 have HH:=lh (And.intro ht hV)
 have HF:=lh hF
 clear kv hQ m0 g0 ht hV
 go_enter Tryz.func72,Tryz.ntmps72
 go_wp2_with fail
 refine C.out.mono ?_
 rintro e w2 ⟨v,P',N,rfl,⟨M,pr,em,hd,rfl,rfl⟩,g2,hN,m2⟩
 obtain⟨va,vc,rfl,hat⟩:=pr.at
 obtain⟨mn,hmn⟩:∃ q,M.length=q:=⟨_,rfl⟩
 have tok:zg M 11 V:=yw (em.trans HH.out.1) HH.out.2
 have PR:=lh (And.intro pr (And.intro hd tok))
 have G2:=lh (g2.less (N':=fun _=>False) (fun _ x=>x.elim))
 have HM:=lh (And.intro hmn (show mn≤90000 by have:=zL em;have:=List.length_filter_le (fun e=>bF [98] e.1) F;omega))
 rw [hmn]
 have hmn2:mn≤90000:=HM.out.2
 have LV:=lh (show V.length=mn from tok.1.symm.trans hmn)
 clear pr em hd g2 hN m2 hmn C hat tok
 go_wp2
 go_loopw [3,5] (fun z x wr=>∃ (i:Nat) (av:Value),i≤mn∧av=z∧x = .int .i64 i∧Hid (ON 22 wr av (V.take i)∧GI w S D wr (iR g F (n+1+F.length)) (fun k=>av.ownBlock=some k)∧ae ai w2 wr∧∀ k,av.ownBlock=some k→w2.heap.size≤k)) (fun _ x _=>mn - (intOf x).toNat)
 case atStart=>exact⟨0,_,Nat.zero_le _,rfl,rfl,lh ⟨fF.nil _ _ _,G2.out.less (fun k hk=>by simp [Value.ownBlock] at hk),ae.refl _ _,fun k hk=>by simp [Value.ownBlock] at hk⟩⟩
 case round =>
  obtain⟨i,av,hi,rfl,rfl,hI⟩:=hrel
  clear G2
  by_cases hlt:i<mn
  ·have hil:i<M.length:=by have:=HM.out.1;omega
   obtain⟨rdv,gi,mr,nw⟩:=hI.out
   have pr:=PR.out.1.keep0 mr
   obtain⟨a',c',ev,hat⟩:=pr.at
   cases ev
   obtain⟨gb,off,rfl,hgb,cv,_⟩:=hat i hil
   obtain⟨a2,c2,e2,_⟩:=(pr.own _ (List.getElem_mem hil)).1.form
   rw [e2] at cv
   obtain⟨ka0,xw,hpk,hek,hVi⟩:=PR.out.2.2.2 i _ (List.getElem?_eq_getElem hil)
   have A:=lh (xh (w:=wr) (v := .slice a2 (M[i]).k.length c2) (b:=(M[i]).k) (by rw [← e2];exact (pr.own _ (List.getElem_mem hil)).1))
   have RV:=lh rdv
   have GG:=lh (And.intro gi (And.intro mr nw))
   have HK:=lh (And.intro hpk (And.intro hek hVi))
   generalize M[i]=e at *
   clear hI pr hat e2 rdv gi mr nw hpk hek hVi
   go_wp2_with fail
   refine A.out.mono ?_
   rintro e' w3 ⟨kk,ka,kb,kn,rfl,hg,m3⟩
   obtain⟨hk1,rfl,rfl,_⟩:=iO.same hg (show iO e.k (11:Nat) ka0 xw 0 from by rw [HK.out.2.1];exact .inl ⟨rfl,uY HK.out.1,HK.out.1.1,HK.out.1.2.1,by omega,by omega⟩)
   have MB:=lh (And.intro m3 hk1)
   clear A hg m3 hk1
   go_upto_region 7 with fail
   have m4:=MB.out.1.alloc (.cells #[.int .i64 kk,.int .u64 ((ka:Nat):Int),.int .u64 ((kb:Nat):Int)] 173)
   have b4:=aU w3 (.cells #[.int .i64 kk,.int .u64 ((ka:Nat):Int),.int .u64 ((kb:Nat):Int)] 173)
   obtain⟨w4,hw4⟩:∃ w4,w4=w3.alloc (.cells #[.int .i64 kk,.int .u64 ((ka:Nat):Int),.int .u64 ((kb:Nat):Int)] 173):=⟨_,rfl⟩
   rw [← hw4] at m4 b4 ⊢
   have q4:=fF.keep RV.out m4 (fun _ _ x=>x)
   refine gy (d := .region 7 (aJ 7 Tryz.f72) false) (by kernel_rfl) ?_
   refine RW.wp (rb7 q4 (ag b4 1) (by rw [List.length_take];omega) ?_)
   intros
   rename_i v8 w8 o8 m8 f8
   have FIN:=lh (show ON 22 w8 v8 (V.take (i+1))∧GI w S D w8 (iR g F (n+1+F.length)) (fun k=>v8.ownBlock=some k)∧ae ai w2 w8∧∀ k,v8.ownBlock=some k→w2.heap.size≤k from by
    obtain⟨gi,mr,nw⟩:=GG.out
    have z4:=m4.size
    have zr:=mr.size
    refine⟨?_,yJ (gi.keep0 kX m4) kX m8 (fun k hk=>hk) (fun k hk=>f8.imp (fun (x:v8.ownBlock=av.ownBlock)=>x.symm.trans hk) (fun x=>⟨x k hk,aO.lt o8 k hk⟩)),(mr.then0 m4).trans m8 (fun _ _ x=>x) (fun k hk x=>by have:=nw k x;omega),fun k hk=>?_⟩
    ·unfold ON fF
     rw [rD HK.out.2.2,List.map_append,List.length_append]
     exact o8
    ·rcases f8 with x | x
     ·exact nw k (x▸hk)
     ·have:=x k hk;omega)
   clear o8 m8 f8 q4 m4 b4 hw4
   go_wp2
   go_roundw
   case rel=>exact⟨i+1,_,by omega,rfl,by go_num,FIN⟩
   case measure=>simp [intOf];omega
  ·obtain rfl:i=mn:=by omega
   obtain⟨rdv,gi,mr,nw⟩:=hI.out
   have e1:V.take i=V:=by exact List.take_of_length_le (by rw [LV.out];exact Nat.le_refl _)
   rw [e1] at rdv
   obtain⟨S',D',p',mm,s',d',nn⟩:=gi
   have D1:=lh (show ∃ v' P' N,Ending.returned av = .returned v'∧(ON 22 wr v' V∧P'=iR g F (n+1+F.length)∧N=dC v')∧∃ S' D',P' wr S' D'∧ae S w wr∧(∀ k,S' k→S k∨w.heap.size≤k)∧(∀ k,D' k→D k∨w.heap.size≤k)∧(∀ k,N k→w.heap.size≤k∧k<wr.heap.size∧¬ S' k∧¬ D' k) from⟨_,_,_,rfl,⟨rdv,rfl,rfl⟩,S',D',p',mm,s',d',nn⟩)
   clear hI rdv p' mm s' d' nn mr nw
   go_wp2
   go_ret
   exact D1.out
end
end Go.Proofs.YtglkmaalpammcaaGreat

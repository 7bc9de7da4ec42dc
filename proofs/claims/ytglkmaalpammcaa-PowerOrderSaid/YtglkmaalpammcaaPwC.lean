/- power: key, Put, Drop, Bond, Top, Bonded, as calls on a store. -/
import Derived.Test.YtglkmaalpammcaaPwT
import Derived.Test.YtglkmaalpammcaaSepI
import Derived.Test.YtglkmaalpammcaaZD
set_option maxHeartbeats 64000000
namespace Go.Proofs.Ytglkmaalpammcaa
open Go.Gl Go.RowKit
set_option linter.unusedVariables false
set_option maxRecDepth 100000
theorem pU {kind a b:Nat} (w:World) (ha:a≤18446744073709551615) (hb:b≤18446744073709551615):Calls Try.prog 54 #[.int .i64 (kind:Nat),.int .u64 (a:Nat),.int .u64 (b:Nat)] w fun e w'=>∃ v,e = .returned v∧Gl.Own w' v (fA kind a b)∧ae aj w w'∧aI w v:=by
 have M:=lh (wQ kind a b w ha hb)
 generalize (if (fQ (kind:Nat) a b).isSome=true then (0:Int) else 70)=en at M
 clear ha hb
 go_enter Try.func54,Try.ntmps54
 go_wp2_with fail
 refine M.out.mono ?_
 rintro e w1 ⟨v,rfl,o,m,f⟩
 have O:=lh (And.intro o (And.intro m f))
 clear o m f M
 go_wp2
 go_ret
 exact⟨_,rfl,O.out⟩
theorem rG {w:World}{S0 N:Nat→Prop}{v:Value}{xs:List UInt8} (h:∀ k,fK v k→N k):Off (fun k=>¬ Out w S0 N k) v xs:=fun _ i hi x=>x (.inl (h i hi))
theorem xA (kind a b:Nat):(fA kind a b).length≤1000000:=Nat.le_trans (zk kind a b) (by omega)
theorem Di {L:List EV}{T:List (Nat × Nat)} (h:L.map EV.ent=mW T) (hT:∀ t∈T,mQ t):PwT L 10 (T.map (·.2)):=by
  refine⟨by have:=congrArg List.length h;simpa [mW] using this,fun i e he=>?_⟩
  have h1:=congrArg (fun l=>l[i]?) h
  simp only [mW,List.getElem?_map,he,Option.map_some] at h1
  cases ht:T[i]? with
  | none=>rw [ht] at h1;simp at h1
  | some t =>
    rw [ht] at h1
    simp only [Option.map_some,Option.some.injEq] at h1
    obtain⟨a,b⟩:=Prod.mk.inj h1
    have o:=hT t (List.mem_of_getElem? ht)
    exact⟨t.1,t.2,⟨o.1,o.2,.inl rfl⟩,a,by simp [ht]⟩
theorem Bv {L:List EV}{V:List Nat} (h:L.map EV.ent=oz V) (hV:∀ v∈V,v≤18446744073709551615):PwT L 11 V:=by
  refine⟨by have:=congrArg List.length h;simpa [oz] using this,fun i e he=>?_⟩
  have h1:=congrArg (fun l=>l[i]?) h
  simp only [oz,List.getElem?_map,he,Option.map_some] at h1
  cases ht:V[i]? with
  | none=>rw [ht] at h1;simp at h1
  | some v =>
    rw [ht] at h1
    simp only [Option.map_some,Option.some.injEq] at h1
    obtain⟨a,b⟩:=Prod.mk.inj h1
    exact⟨v,0,⟨hV v (List.mem_of_getElem? ht),by omega,.inr ⟨rfl,rfl⟩⟩,a,by simp⟩
section
variable {w:World}{sg n p:Nat}{F:List aN}{Q:Nat→Prop}
theorem pPut {v t:Nat} (hv:v≤18446744073709551615) (ht:t≤18446744073709551615) (hn:n≤1000000000000) (hp:p≤100000):GS Try.prog 26 #[.pointer (some ⟨sg,0,none⟩),.int .u64 ((v:Nat):Int),.int .u64 ((t:Nat):Int)] w (lT sg F [] n p) Q (.tuple #[]) (lT sg (ji F (fA 10 t v) []) [] (n+1) (p+2)):=GS.walk fun S D kv hQ=>by
 have G0:=lh (GI.start kv)
 have K:=lh (fun W=>pU (kind:=10) (a:=t) (b:=v) W ht hv)
 clear kv hv ht
 go_enter Try.func26,Try.ntmps26
 go_wp2_with fail
 refine (K.out w).mono ?_
 rintro e w2 ⟨k,rfl,o2,m2,f2⟩
 have G2:=lh (G0.out.own qi m2 o2 f2)
 have C:=lh (G2.out.calls (zX o2.rd (Rd.nil _) (rG (fun i hi => .inr hi)) (fun h=>absurd rfl h) hn hp))
 clear o2 m2 f2 G0
 go_wp2_with fail
 refine C.out.mono ?_
 rintro e w3 ⟨rfl,g3,m3⟩
 have DD:=lh g3.done
 clear g3 m3 C G2
 go_wp2
 go_end0
 exact⟨rfl,DD.out⟩
theorem pDrop {v t:Nat} (hv:v≤18446744073709551615) (ht:t≤18446744073709551615) (hn:n≤1000000000000) (hp:p≤100000):GS Try.prog 49 #[.pointer (some ⟨sg,0,none⟩),.int .u64 ((v:Nat):Int),.int .u64 ((t:Nat):Int)] w (lT sg F [] n p) Q (.tuple #[]) (lT sg (iG F (fA 10 t v)) [] (n+1) (p+2)):=GS.walk fun S D kv hQ=>by
 have G0:=lh (GI.start kv)
 have K:=lh (fun W=>pU (kind:=10) (a:=t) (b:=v) W ht hv)
 clear kv hv ht
 go_enter Try.func49,Try.ntmps49
 go_wp2_with fail
 refine (K.out w).mono ?_
 rintro e w2 ⟨k,rfl,o2,m2,f2⟩
 have G2:=lh (G0.out.own qi m2 o2 f2)
 have C:=lh (G2.out.calls (zA o2.rd (rG (fun i hi => .inr hi)) (xA ..) hn hp))
 clear o2 m2 f2 G0
 go_wp2_with fail
 refine C.out.mono ?_
 rintro e w3 ⟨rfl,g3,m3⟩
 have DD:=lh g3.done
 clear g3 m3 C G2
 go_wp2
 go_end0
 exact⟨rfl,DD.out⟩
def qY (F:List aN) (v:Nat) (on:Bool):List aN:=if on then ji F (fA 11 v 0) [] else iG F (fA 11 v 0)
theorem pBond {v:Nat}{on:Bool} (hv:v≤18446744073709551615) (hn:n≤1000000000000) (hp:p≤100000):GS Try.prog 50 #[.pointer (some ⟨sg,0,none⟩),.int .u64 ((v:Nat):Int),.bool on] w (lT sg F [] n p) Q (.tuple #[]) (lT sg (qY F v on) [] (n+1) (p+2)):=GS.walk fun S D kv hQ=>by
  have G0:=lh (GI.start kv)
  have K:=lh (fun W=>show Calls Try.prog 54 #[.int .i64 11,.int .u64 (v:Nat),.int .u64 0] W fun e w'=>∃ u,e = .returned u∧Gl.Own w' u (fA 11 v 0)∧ae aj W w'∧aI W u from pU (kind:=11) (a:=v) (b:=0) W hv (by omega))
  clear kv hv
  cases on with
  | true =>
    go_enter Try.func50,Try.ntmps50
    go_wp2_with fail
    refine (K.out w).mono ?_
    rintro e w2 ⟨k,rfl,o2,m2,f2⟩
    have G2:=lh (G0.out.own qi m2 o2 f2)
    have C:=lh (G2.out.calls (zX o2.rd (Rd.nil _) (rG (fun i hi => .inr hi)) (fun h=>absurd rfl h) hn hp))
    clear o2 m2 f2 G0
    go_wp2_with fail
    refine C.out.mono ?_
    rintro e w3 ⟨rfl,g3,m3⟩
    have DD:=lh g3.done
    clear g3 m3 C G2
    go_wp2
    go_end0
    exact⟨rfl,DD.out⟩
  | false =>
    go_enter Try.func50,Try.ntmps50
    go_wp2_with fail
    refine (K.out w).mono ?_
    rintro e w2 ⟨k,rfl,o2,m2,f2⟩
    have G2:=lh (G0.out.own qi m2 o2 f2)
    have C:=lh (G2.out.calls (zA o2.rd (rG (fun i hi => .inr hi)) (xA ..) hn hp))
    clear o2 m2 f2 G0
    go_wp2_with fail
    refine C.out.mono ?_
    rintro e w3 ⟨rfl,g3,m3⟩
    have DD:=lh g3.done
    clear g3 m3 C G2
    go_wp2
    go_end0
    exact⟨rfl,DD.out⟩
def zO (sg:Nat) (F:List aN) (n p:Nat) (V:List Nat) (w':World) (v:Value) (P':FP) (N:Nat→Prop):Prop:=ON 22 w' v V∧(∃ n',n≤n'∧n'≤n+1+V.length∧P'=lT sg F [] n' p)∧N=fK v
theorem Bz {w:World}{k:Int} (hk:k<1):Calls Try.prog 27 #[.pointer (some ⟨sg,0,none⟩),.int .i64 k] w fun e w'=>e = .returned (.slice none 0 0)∧ae aj w w':=by
 have M1:=lh ((ae.refl aj w).alloc (.cells #[.int .i64 k] 3))
 have hb:=bC w (.cells #[.int .i64 k] 3)
 have hc:=ai hb 0
 have hd:decide (k<1)=true:=decide_eq_true hk
 clear hb
 go_enter Try.func27,Try.ntmps27
 go_wp2
 go_ret
 exact⟨rfl,M1.out⟩
theorem pTop {k:Int}{T:List (Nat × Nat)} (ht:F.filter (fun e=>bQ [105] e.1)=mW T) (hT:∀ t∈T,mQ t) (hn:n≤1000000000000) (hp:p≤100000):GC Try.prog 27 #[.pointer (some ⟨sg,0,none⟩),.int .i64 k] w (lT sg F [] n p) Q (zO sg F n p ((T.map (·.2)).take k.toNat)):=fun S D kv hQ=>by
 by_cases hk:k<1
 ·refine (Bz hk).mono ?_
  rintro e w' ⟨rfl,m⟩
  refine⟨_,_,_,rfl,⟨?_,⟨n,Nat.le_refl _,by omega,rfl⟩,rfl⟩,S,D,KV.keep kv m (fun _ _ x=>x) (fun _ _ x=>x),m.mono (fun _ _ x=>x.elim),fun _ => .inl,fun _ => .inl,fun k hk=>by simp [fK,Value.ownBlock] at hk⟩
  rw [show k.toNat=0 by omega,List.take_zero]
  exact dR.nil _ _ _
 ·obtain⟨mg,vo,R,jv,J,km,ok,rfl,hsn,hj,hpp,rfl,rfl⟩:=kv
  have hb:=mF ok
  rw [dN] at hb
  have tl:T.length≤p:=by
   have h1:=congrArg List.length ht
   simp only [mW,List.length_map] at h1
   have h2:=List.length_filter_le (fun e:aN=>bQ [105] e.1) (aB R).flatten
   omega
  have sk:=km.lt
  have dk:=km.dlt
  refine (BV km (by omega) (by omega) ok (by omega) (by rw [List.length_map];omega) (Di (by rw [xB ok,ht]) hT) (by omega)).mono ?_
  rintro e w' ⟨v,rfl,o,f,mm,c',c0,c1,km'⟩
  obtain⟨c2,rfl⟩:=Int.eq_ofNat_of_zero_le (show 0≤c' by omega)
  refine⟨v,_,_,rfl,⟨o,⟨c2,by omega,by omega,rfl⟩,rfl⟩,_,_,⟨mg,vo,R,jv,J,km',ok,rfl,hsn,hj,hpp,rfl,rfl⟩,mm.mono (fun k _ hk=>by subst hk;exact .inl rfl),fun _ => .inl,fun _ => .inl,fun k hk=>⟨(f k hk).1,(f k hk).2,fun x=>?_,fun x=>?_⟩⟩
  ·have:=sk k x;have:=f k hk;omega
  ·have:=dk k x;have:=f k hk;omega
theorem DW {V:List Nat} (ht:F.filter (fun e=>bQ [98] e.1)=oz V) (hV:∀ v∈V,v≤18446744073709551615) (hn:n≤1000000000000) (hp:p≤100000):GC Try.prog 51 #[.pointer (some ⟨sg,0,none⟩)] w (lT sg F [] n p) Q (zO sg F n p V):=fun S D kv hQ=>by
 obtain⟨mg,vo,R,jv,J,km,ok,rfl,hsn,hj,hpp,rfl,rfl⟩:=kv
 have hb:=mF ok
 rw [dN] at hb
 have tl:V.length≤p:=by
  have h1:=congrArg List.length ht
  simp only [oz,List.length_map] at h1
  have h2:=List.length_filter_le (fun e:aN=>bQ [98] e.1) (aB R).flatten
  omega
 have sk:=km.lt
 have dk:=km.dlt
 refine (yM km (by omega) (by omega) ok (by omega) (by omega) (Bv (by rw [xB ok,ht]) hV)).mono ?_
 rintro e w' ⟨v,rfl,o,f,mm,c',c0,c1,km'⟩
 obtain⟨c2,rfl⟩:=Int.eq_ofNat_of_zero_le (show 0≤c' by omega)
 refine⟨v,_,_,rfl,⟨o,⟨c2,by omega,by omega,rfl⟩,rfl⟩,_,_,⟨mg,vo,R,jv,J,km',ok,rfl,hsn,hj,hpp,rfl,rfl⟩,mm.mono (fun k _ hk=>by subst hk;exact .inl rfl),fun _ => .inl,fun _ => .inl,fun k hk=>⟨(f k hk).1,(f k hk).2,fun x=>?_,fun x=>?_⟩⟩
 ·have:=sk k x;have:=f k hk;omega
 ·have:=dk k x;have:=f k hk;omega
end
end Go.Proofs.Ytglkmaalpammcaa

/- PowerOrder, plain: what lies there when each validator has been put once. -/
import Derived.Test.YtglkmaalpammcaaPwP
import Derived.Test.YtglkmaalpammcaaPwU
namespace Go.Proofs.Ytglkmaalpammcaa
open Go.Gl Go.RowKit
set_option linter.unusedVariables false
def mZ (A:List Nat):Nat→List aN
 | 0=>[]
 | k+1=>ji (mZ A k) (fA 10 (A.getD k 0) k) []
theorem sW {A:List Nat} (hA:∀ x∈A,x≤18446744073709551615) (k:Nat):A.getD k 0≤18446744073709551615:=by
 rw [List.getD_eq_getElem?_getD]
 cases h:A[k]? with
 | none=>simp
 | some x=>exact hA x (List.mem_of_getElem? h)
theorem qy {A:List Nat} (hA:∀ x∈A,x≤18446744073709551615):∀ k,k≤1000→PwF (mZ A k)
 | 0,_=>Dp
 | k+1,h=>EN (qy hA k (by omega)) ⟨sW hA k,by omega,.inl rfl⟩
theorem tJ {F:List aN} (hr:fO F) (k v:List UInt8):(k,v)∈F↔iQ F k=some v:=by
 constructor
 ·intro h
  have:=fO.find hr h
  unfold iQ
  rw [this]
  rfl
 ·intro h
  exact (nH F k hr).2 v h
theorem BR {A:List Nat} (hA:∀ x∈A,x≤18446744073709551615):∀ k,k≤1000→∀ t v,t≤18446744073709551615→v≤18446744073709551615→((fA 10 t v,[])∈mZ A k↔v<k∧t=A.getD v 0):=by
  intro k
  induction k with
  | zero=>intro _ t v _ _;simp [mZ]
  | succ k ih =>
    intro hk t v ht hv
    have h0:=qy hA k (by omega)
    have hkey:qI 10 (A.getD k 0) k:=⟨sW hA k,by omega,.inl rfl⟩
    have i1:=ih (by omega) t v ht hv
    rw [tJ (qy hA (k+1) hk).ris]
    show iQ (ji (mZ A k) (fA 10 (A.getD k 0) k) []) (fA 10 t v)=some []↔_
    rw [zi hkey,CU]
    by_cases e:fA 10 (A.getD k 0) k=fA 10 t v
    · rw [if_pos e]
      obtain⟨_,e1,e2⟩:=zY hkey ⟨ht,hv,.inl rfl⟩ e
      subst e2
      exact⟨fun _=>⟨by omega,e1.symm⟩,fun _=>rfl⟩
    · rw [if_neg e,← tJ h0.ris,i1]
      constructor
      · exact fun⟨a,b⟩=>⟨by omega,b⟩
      · rintro⟨a,b⟩
        refine⟨?_,b⟩
        rcases Nat.lt_or_ge v k with x | x
        · exact x
        · have:v=k:=by omega
          subst this
          exact absurd (by rw [b]) e
theorem CW {A:List Nat} (hA:∀ x∈A,x≤18446744073709551615) (hN:A.length≤1000):∃ (T:List (Nat × Nat)) (V:List Nat),(mZ A A.length).filter (fun e=>bQ [105] e.1)=mW T∧(∀ t∈T,mQ t)∧T.map (·.2)=V∧V.length=A.length∧(∀ i (h:i<V.length),V[i]<A.length)∧∀ i (h:i+1<V.length),A.getD V[i+1] 0≤A.getD V[i] 0∧(A.getD V[i] 0=A.getD V[i+1] 0→V[i]<V[i+1]):=by
 have ok:=qy hA A.length hN
 obtain⟨T,hT,hP,hs⟩:=Es ok
 have hm:∀ t,mQ t→(t∈T↔t.2<A.length∧t.1=A.getD t.2 0):=fun t ht=>(zf hT hP ht).trans (BR hA A.length hN t.1 t.2 ht.1 ht.2)
 have hmT:∀ t∈T,t.2<A.length∧t.1=A.getD t.2 0:=fun t ht=>(hm t (hP t ht)).1 ht
 have hVm:∀ v,v∈T.map (·.2)↔v<A.length:=fun v=>by
  constructor
  ·intro h
   obtain⟨t,ht,rfl⟩:=List.mem_map.1 h
   exact (hmT t ht).1
  ·intro h
   refine List.mem_map.2 ⟨(A.getD v 0,v),?_,rfl⟩
   exact (hm _ ⟨sW hA v,by show v≤_;omega⟩).2 ⟨h,rfl⟩
 have hnd:(T.map (·.2)).Nodup:=by
  refine List.pairwise_map.2 (List.Pairwise.imp_of_mem ?_ hs)
  intro s t hs ht hst e
  have a:=(hmT s hs).2
  have b:=(hmT t ht).2
  rw [e] at a
  omega
 have hlen:(T.map (·.2)).length=A.length:=by
  have a:=kz (b:=List.range A.length) hnd (fun x hx=>List.mem_range.2 ((hVm x).1 hx))
  have b:=kz (a:=List.range A.length) (b:=T.map (·.2)) List.nodup_range (fun x hx=>(hVm x).2 (List.mem_range.1 hx))
  rw [List.length_range] at a b
  omega
 refine⟨T,_,hT,hP,rfl,hlen,fun i h=>(hVm _).1 (List.getElem_mem h),fun i h=>?_⟩
 have hi:i+1<T.length:=by rw [List.length_map] at h;exact h
 have hp:=List.pairwise_iff_getElem.1 hs i (i+1) (by omega) hi (by omega)
 have a:=(hmT _ (List.getElem_mem (show i<T.length by omega))).2
 have b:=(hmT _ (List.getElem_mem hi)).2
 simp only [List.getElem_map]
 rw [← a,← b]
 omega
end Go.Proofs.Ytglkmaalpammcaa

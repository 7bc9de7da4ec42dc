/- queue.Due, From, as calls on a store. -/
import Derived.Test.YtglkmaalpammcaaGreatQuJ
import Derived.Test.YtglkmaalpammcaaGreatZE
namespace Go.Proofs.YtglkmaalpammcaaGreat
open Go.Gl Go.RowKit
set_option linter.unusedVariables false
section
variable {w:World}{sg n p:Nat}{F:List aN}{Q:Nat→Prop}
theorem Qi {h:Nat}{T:List TE} (hh:bD h) (ht:F.filter (fun e=>dh [113] e.1)=oV 14 T) (hq:∀ t∈T,QK 14 t.1 t.2.1∧t.2.2≤17) (hn:n≤1000000000000) (hp:p≤100000):GC Tryz.prog 37 #[.pointer (some ⟨sg,0,none⟩),.int .u64 ((h:Nat):Int)] w (bI sg F n p) Q (fun w' v P' N=>bC w' 86 2 v (jR h T).length (ecs (jR h T))∧P'=bI sg F (n+1+p) p∧N=eY v):=fun S D ⟨m,q,hm,hq',kv⟩ hQ=>by
 obtain⟨mg,vo,R,jv,J,km,ok,rfl,hsn,hj,hpp,rfl,rfl⟩:=kv
 have hb:=ry ok
 rw [fH] at hb
 have tl:T.length≤q:=by
  have h1:=congrArg List.length ht
  simp only [oV,List.length_map] at h1
  have h2:=List.length_filter_le (fun e:aN=>dh [113] e.1) (aI R).flatten
  omega
 have sk:=km.lt
 have dk:=km.dlt
 refine (TC km (by omega) (by omega) ok (by omega) (by omega) ⟨by rw [Jc ok,ht],hq⟩ hh).mono ?_
 rintro e w' ⟨v,rfl,o,f,mm,c',c0,c1,km'⟩
 obtain⟨c2,rfl⟩:=Int.eq_ofNat_of_zero_le c0
 refine⟨v,_,_,rfl,⟨o,rfl,rfl⟩,_,_,⟨c2,q,by omega,hq',mg,vo,R,jv,J,km',ok,rfl,hsn,hj,hpp,rfl,rfl⟩,mm.mono (fun k _ hk=>by subst hk;exact .inl rfl),fun _ => .inl,fun _ => .inl,fun k hk=>⟨(f k hk).1,(f k hk).2,fun x=>?_,fun x=>?_⟩⟩
 ·have:=sk k x;have:=f k hk;omega
 ·have:=dk k x;have:=f k hk;omega
theorem RY {a:Nat}{T:List TE} (ha:bD a) (ht:F.filter (fun e=>dh (101 :: be 8 a) e.1)=oV 15 T) (hq:∀ t∈T,QK 15 t.1 t.2.1∧t.2.2≤17) (hn:n≤1000000000000) (hp:p≤100000):GC Tryz.prog 39 #[.pointer (some ⟨sg,0,none⟩),.int .u64 ((a:Nat):Int)] w (bI sg F n p) Q (fun w' v P' N=>bC w' 86 2 v T.length (ecs T)∧P'=bI sg F (n+1+p) p∧N=eY v):=fun S D ⟨m,q,hm,hq',kv⟩ hQ=>by
 obtain⟨mg,vo,R,jv,J,km,ok,rfl,hsn,hj,hpp,rfl,rfl⟩:=kv
 have hb:=ry ok
 rw [fH] at hb
 have tl:T.length≤q:=by
  have h1:=congrArg List.length ht
  simp only [oV,List.length_map] at h1
  have h2:=List.length_filter_le (fun e:aN=>dh (101 :: be 8 a) e.1) (aI R).flatten
  omega
 have sk:=km.lt
 have dk:=km.dlt
 refine (O4 km (by omega) (by omega) ok (by omega) (by omega) ha ⟨by rw [Jc ok,ht],hq⟩).mono ?_
 rintro e w' ⟨v,rfl,o,f,mm,c',c0,c1,km'⟩
 obtain⟨c2,rfl⟩:=Int.eq_ofNat_of_zero_le c0
 refine⟨v,_,_,rfl,⟨o,rfl,rfl⟩,_,_,⟨c2,q,by omega,hq',mg,vo,R,jv,J,km',ok,rfl,hsn,hj,hpp,rfl,rfl⟩,mm.mono (fun k _ hk=>by subst hk;exact .inl rfl),fun _ => .inl,fun _ => .inl,fun k hk=>⟨(f k hk).1,(f k hk).2,fun x=>?_,fun x=>?_⟩⟩
 ·have:=sk k x;have:=f k hk;omega
 ·have:=dk k x;have:=f k hk;omega
end
end Go.Proofs.YtglkmaalpammcaaGreat

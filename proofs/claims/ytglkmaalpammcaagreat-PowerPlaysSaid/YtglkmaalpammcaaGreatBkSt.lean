/- Both stores beside one another: begun, told, looked at. -/
import Derived.Test.YtglkmaalpammcaaGreatBkL
import Derived.Test.YtglkmaalpammcaaGreatBkR
import Derived.Test.YtglkmaalpammcaaGreatZB
namespace Go.Proofs.YtglkmaalpammcaaGreat
open Go.Gl Go.RowKit
set_option linter.unusedVariables false
set_option maxRecDepth 100000
theorem Jv {w0 w1 w2:World}{sg k:Nat}{S D:Nat→Prop} (m0:ae ai w0 w1) (kv:KV w1 sg [] [] 0 0 S D) (hs:∀ k,S k→w0.heap.size≤k) (hd:∀ k,¬ D k) (m:ae ai w1 w2) (hk:w2.heap[k]?=some (.cells #[.slice none 0 0,.slice none 0 0,.int .i64 0] 32 (0,0))) (hk1:w1.heap.size≤k):G1 w0 w2 (Star (KVe sg [] 0 0) (iR k [] 0)) (fun k=>k<w0.heap.size):=by
 have l:=kv.lt
 have s0:=m0.size
 have s1:=m.size
 have hrs:∀ j,kW k (.slice none 0 0) j→j=k:=fun j hj=>hj.elim id (fun x=>by simp [Value.ownBlock] at x)
 have hmd:∀ j,¬ oV (.slice none 0 0) [] [] j:=fun j hj=>by
  rcases hj with (hj | ⟨e,he,_⟩) | ⟨q,hq,_⟩
  ·simp [Value.ownBlock] at hj
  ·exact List.not_mem_nil he
  ·exact List.not_mem_nil hq
 exact⟨_,_,⟨S,D,_,_,⟨0,0,Nat.le_refl _,Nat.le_refl _,kv.keep0 m⟩,⟨0,Nat.le_refl _,JD hk⟩,fun j x y=>by have:=l.1 j x;have:=hrs j y;omega,fun j x=>(hd j x).elim,fun j x=>(hmd j x).elim,fun _=>Iff.rfl,fun _=>Iff.rfl⟩,fun j hj=>⟨fun x=>x.elim (fun y=>by have:=hs j y;omega) (fun y=>by have:=hrs j y;omega),fun x=>x.elim (hd j) (hmd j),by omega⟩,fun j hj=>hj,m0.then0 m⟩
section
variable {w w0:World}{sg rg n p n2 p2 m a b k:Nat}{F C:List aN}{Q:Nat→Prop}
end
end Go.Proofs.YtglkmaalpammcaaGreat

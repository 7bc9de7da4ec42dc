/- QueueOrder: the walk. -/
import Derived.Test.YtglkmaalpammcaaGreatQuO
import Derived.Deep.DeepCutAuto
namespace Go.Proofs.YtglkmaalpammcaaGreat
open Go.Gl Go.RowKit
set_option linter.unusedVariables false
set_option maxRecDepth 100000
def Ep (x:Nat):List aN:=fV [] (qk 2 0 0) (qJ 3 x)
theorem EC {T:List TE} (hs:T.Pairwise (fun s t=>s.2.1<t.2.1)):T.Nodup:=hs.imp (fun {a b} hab e=>by subst e;omega)
theorem Sv {T:List TE}{es:List QE}{v:Nat} (hs:T.Pairwise (fun s t=>s.2.1<t.2.1)) (hm:∀ t,t∈T↔∃ e∈es,e.v=v∧t=(e.v,e.id,e.k)):T.length≤es.length:=by
 have:=AB (b:=es.map (fun e=>((e.v,e.id,e.k):TE))) (EC hs) (fun x hx=>by
  obtain⟨e,he,_,rfl⟩:=(hm x).1 hx
  exact List.mem_map.2 ⟨e,he,rfl⟩)
 simpa using this
end Go.Proofs.YtglkmaalpammcaaGreat

/- gleanref9: All, Sum. -/
import Derived.Test.YtglkmaalpammcaaGreatBkRm
import Derived.Test.YtglkmaalpammcaaGreatRAdd
import Derived.Test.YtglkmaalpammcaaGreatBsS
import Derived.Test.YtglkmaalpammcaaGreatBkL
namespace Go.Proofs.YtglkmaalpammcaaGreat
open Go.Gl Go.RowKit
set_option linter.unusedVariables false
set_option maxRecDepth 100000
section
variable {w:World}{g n:Nat}{F:List aN}{Q:Nat→Prop}
theorem rAll {q:Value}{xs:List UInt8} (hq:Rd w q xs) (oq:Off (fun k=>¬ Q k) q xs) (hn:n≤100000000000) (hF:F.length≤90000):GC Tryz.prog 101 #[.pointer (some ⟨g,0,none⟩),q] w (iR g F n) Q (fun w' v P' N=>∃ M,iU w' v M∧M.map EV.ent=F.filter (fun e=>bF xs e.1)∧(∀ k,kV M k→k<w'.heap.size)∧P'=iR g F (n+1+F.length)∧N=dC v):=fun S D ⟨m,hm,rf⟩ hQ=>by
 obtain⟨lv,L,a,c,c0,pr,em,_⟩:=rf.look
 obtain⟨la,lc,rfl,_⟩:=pr.at
 have hl:L.length=F.length:=by rw [← em,List.length_map]
 rw [hl] at c0
 have l:=lh rf.lt
 have C:=lh (Fj (N:=F.length) rf hq (oq.mono (fun k hk x=>hQ k x hk)) (by omega) (by omega) (by omega))
 obtain⟨fl,hfl⟩:∃ q,F.length=q:=⟨_,rfl⟩
 rw [hfl] at c0 C hF ⊢
 have HF:=lh hfl
 clear pr em rf hl hq oq hQ hfl
 go_enter Tryz.func101,Tryz.ntmps101
 go_wp2_with fail
 refine C.out.mono ?_
 rintro e w' ⟨v,rfl,M,pr2,em2,fr,l9,hd,rf2,mm⟩
 have D1:=lh (show ∃ v' P' N,Ending.returned v = .returned v'∧(∃ M,iU w' v' M∧M.map EV.ent=F.filter (fun e=>bF xs e.1)∧(∀ k,kV M k→k<w'.heap.size)∧P'=iR g F (n+1+fl)∧N=dC v')∧∃ S' D',P' w' S' D'∧ae S w w'∧(∀ k,S' k→S k∨w.heap.size≤k)∧(∀ k,D' k→D k∨w.heap.size≤k)∧(∀ k,N k→w.heap.size≤k∧k<w'.heap.size∧¬ S' k∧¬ D' k) from
  ⟨v,_,_,rfl,⟨M,pr2,by rw [em2,List.take_of_length_le (by have:=List.length_filter_le (fun e=>bF xs e.1) F;have:=HF.out;omega)],fun k hk=>Nat.lt_of_lt_of_le (l.out.2.1 k (hd k hk)) mm.size,rfl,rfl⟩,S,D,⟨_,by omega,rf2⟩,mm,fun _ => .inl,fun _ => .inl,fun k hk=>⟨fr k hk,l9 k hk,fun x=>by have:=l.out.1 k x;have:=fr k hk;omega,fun x=>by have:=l.out.2.1 k x;have:=fr k hk;omega⟩⟩)
 clear C pr2 em2 fr l9 hd rf2 mm
 go_wp2
 go_ret
 exact D1.out
end
end Go.Proofs.YtglkmaalpammcaaGreat

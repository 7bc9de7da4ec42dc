/- The calls that bank's laws do, on a store of their own (KVe): New, Dump, Copy, bank.Sum. -/
import Derived.Test.YtglkmaalpammcaaGreatZE
import Derived.Test.YtglkmaalpammcaaGreatBsS
namespace Go.Proofs.YtglkmaalpammcaaGreat
open Go.Gl Go.RowKit
set_option linter.unusedVariables false
set_option maxRecDepth 100000
section
variable {w w0:World}{sg n p:Nat}{F:List aN}{Q:Nat→Prop}
theorem UA (w:World):Calls Tryz.prog 12 #[] w fun e w'=>∃ sg,e = .returned (.pointer (some ⟨sg,0,none⟩))∧G1 w w' (bI sg [] 0 0) (fun k=>k<w.heap.size):=by
 refine (hNew w).mono ?_
 rintro e w' ⟨sg,S,D,rfl,kv,m,hs,hd⟩
 exact⟨sg,rfl,S,D,⟨0,0,Nat.le_refl _,Nat.le_refl _,kv⟩,fun k hk=>⟨fun x=>by have:=hs k x;omega,hd k,Nat.lt_of_lt_of_le hk m.size⟩,fun _ h=>h,m⟩
end
end Go.Proofs.YtglkmaalpammcaaGreat

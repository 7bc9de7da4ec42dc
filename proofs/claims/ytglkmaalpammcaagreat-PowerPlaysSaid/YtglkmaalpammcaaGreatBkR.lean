/- gleanref9: Key, Is, over, Get, set, Mint, May, Move, Bump, as calls on a store (Mint, Bump printed by gen_bkr.py out of BkM). -/
import Derived.Test.YtglkmaalpammcaaGreatBkM
import Derived.Test.YtglkmaalpammcaaGreatRMake2
import Derived.Test.YtglkmaalpammcaaGreatRxA
import Derived.Test.YtglkmaalpammcaaGreatRPx
namespace Go.Proofs.YtglkmaalpammcaaGreat
open Go.Gl Go.RowKit
set_option linter.unusedVariables false
set_option maxRecDepth 100000
theorem uM {kind a b:Nat} (w:World) (ha:U64 a) (hb:U64 b):Calls Tryz.prog 44 #[.int .i64 (kind:Nat),.int .u64 (a:Nat),.int .u64 (b:Nat)] w fun e w'=>∃ v,e = .returned v∧Gl.Own w' v ((fE kind a b).getD [])∧ae ai w w'∧aF w v:=by
 have M:=lh (xI kind a b w ha hb)
 generalize (if (fE (kind:Nat) a b).isSome=true then (0:Int) else 70)=en at M
 clear ha hb
 go_enter Tryz.func44,Tryz.ntmps44
 go_wp2_with fail
 refine M.out.mono ?_
 rintro e w1 ⟨v,rfl,o,m,f⟩
 have O:=lh (And.intro o (And.intro m f))
 clear o m f M
 go_wp2
 go_ret
 exact⟨_,rfl,O.out⟩
def HV (F:List aN):Prop:=F.length≤90000∧∀ k v,iy F k=some v→v.length≤1000000
section
variable {w:World}{g n:Nat}{F:List aN}{Q:Nat→Prop}
end
end Go.Proofs.YtglkmaalpammcaaGreat

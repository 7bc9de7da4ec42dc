/- gleanhelp: records that are alike are told alike (printed by gen_rec.py). -/
import Derived.Test.YtglkmaalpammcaaGreatZE
import Derived.Test.YtglkmaalpammcaaGreatHNat
namespace Go.Proofs.YtglkmaalpammcaaGreat
open Go.Gl Go.RowKit
set_option linter.unusedVariables false
set_option maxRecDepth 100000
theorem Ox {w:World}{x y:Value}{l:List Nat} (hx:RN w x l) (hy:RN w y l):Calls Tryz.prog 142 #[.agg #[x],.agg #[y]] w fun r w'=>r = .returned (.bool true)∧ae ai w w' :=
 (Qx hx hy).mono fun r w' ⟨h1,h2⟩=>⟨by rw [h1,decide_eq_true rfl],h2⟩
set_option maxHeartbeats 1000000 in
theorem NF {w:World}{n0 n1 n2 n3 n4 n5:Nat}{u6:Value}{l6:List Nat}{y6:Value} (hx6:RN w u6 l6) (hy6:RN w y6 l6):Calls Tryz.prog 59 #[.agg #[.int .u64 n0,.int .u64 n1,.int .u64 n2,.int .u64 n3,.int .u64 n4,.int .u64 n5,u6],.agg #[.int .u64 n0,.int .u64 n1,.int .u64 n2,.int .u64 n3,.int .u64 n4,.int .u64 n5,y6]] w fun r w'=>r = .returned (.bool true)∧ae ai w w':=by
 obtain⟨ax6,cx6,rfl,_⟩:=hx6.form
 obtain⟨ay6,cy6,rfl,_⟩:=hy6.form
 have X6:=lh (And.intro hx6 hy6)
 clear hx6 hy6
 have b1:=dA (aF w (.cells #[.int .u64 n0,.int .u64 n1,.int .u64 n2,.int .u64 n3,.int .u64 n4,.int .u64 n5,.slice ax6 l6.length cx6] 77)) (.cells #[.int .u64 n0,.int .u64 n1,.int .u64 n2,.int .u64 n3,.int .u64 n4,.int .u64 n5,.slice ay6 l6.length cy6] 77)
 have b2:=aF (w.alloc (.cells #[.int .u64 n0,.int .u64 n1,.int .u64 n2,.int .u64 n3,.int .u64 n4,.int .u64 n5,.slice ax6 l6.length cx6] 77)) (.cells #[.int .u64 n0,.int .u64 n1,.int .u64 n2,.int .u64 n3,.int .u64 n4,.int .u64 n5,.slice ay6 l6.length cy6] 77)
 have m2:=((ae.refl ai w).alloc (.cells #[.int .u64 n0,.int .u64 n1,.int .u64 n2,.int .u64 n3,.int .u64 n4,.int .u64 n5,.slice ax6 l6.length cx6] 77)).alloc (.cells #[.int .u64 n0,.int .u64 n1,.int .u64 n2,.int .u64 n3,.int .u64 n4,.int .u64 n5,.slice ay6 l6.length cy6] 77)
 simp only [World.size_alloc] at b2
 have P:=lh (And.intro b1 (And.intro b2 m2))
 clear b1 b2 m2
 go_enter Tryz.func59,Tryz.ntmps59
 go_wp2_with fail
 generalize World.alloc (World.alloc w _) _=w1 at *
 refine (Ox (X6.out.1.keep P.out.2.2 (fun _ _ x=>x)) (X6.out.2.keep P.out.2.2 (fun _ _ x=>x))).mono ?_
 rintro r v6 ⟨rfl,hm⟩
 replace P:=lh (And.intro (je hm P.out.1) (And.intro (je hm P.out.2.1) (P.out.2.2.then0 hm)))
 have d1:=af P.out.1
 have d2:=af P.out.2.1
 clear hm
 go_wp2_with fail
 go_ret
 exact⟨rfl,P.out.2.2⟩
end Go.Proofs.YtglkmaalpammcaaGreat

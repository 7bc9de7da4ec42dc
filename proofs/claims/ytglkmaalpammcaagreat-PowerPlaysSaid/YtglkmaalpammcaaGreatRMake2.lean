/- gleanref7.Make at every key; gleanref7.Of, Under, Val. -/
import Derived.Test.YtglkmaalpammcaaGreatRMake
namespace Go.Proofs.YtglkmaalpammcaaGreat
open Go.Gl Go.RowKit
set_option linter.unusedVariables false
set_option maxHeartbeats 1000000 in
theorem Df (k a b:Nat) (f:dV) (w:World) (hf:eY k=some f) (hh:f.head.toNat≠0) (hba:f.b=true→f.a=true) (hn:lC f a b=false) :
  Calls Tryz.prog 120 #[.agg #[.int .i64 k,.int .u64 a,.int .u64 b]] w (iV w [] 70):=by
 obtain⟨hd,md,fa,fb,ft⟩:=f
 have HF:=lh hf
 have hh2:(((hd.toNat:Nat):Int) == 0)=false:=by simpa using hh
 clear hf hh
 cases fa <;> cases fb <;> simp [lC] at hn hba
 ·by_cases ha:a=0
  ·have hb:=hn ha
   subst ha
   have hb2:(((b:Nat):Int) != 0)=true:=by simp [hb]
   clear hn hb
   go_enter Tryz.func120,Tryz.ntmps120
   go_wp2_with (first | (go_at_call 198;refine (je _ _ _ HF.out).mono ?_;rintro e w1 ⟨rfl,rfl⟩;simp only [gq]))
   go_returns
   exact iV.nil (by repeat' (first | (with_reducible first | exact ae.refl _ _ | assumption | refine ae.alloc ?_ _ | refine ae.drew ?_ | refine ae.drewN ?_ _ | refine ae.regrown ?_ _ _ | refine ae.setCell ?_ ?_ _) | (refine .inr ?_;first | (simp;done) | (simp;omega) | omega)))
  ·have ha2:(((a:Nat):Int) != 0)=true:=by simp [ha]
   clear hn ha
   go_enter Tryz.func120,Tryz.ntmps120
   go_wp2_with (first | (go_at_call 198;refine (je _ _ _ HF.out).mono ?_;rintro e w1 ⟨rfl,rfl⟩;simp only [gq]))
   go_returns
   exact iV.nil (by repeat' (first | (with_reducible first | exact ae.refl _ _ | assumption | refine ae.alloc ?_ _ | refine ae.drew ?_ | refine ae.drewN ?_ _ | refine ae.regrown ?_ _ _ | refine ae.setCell ?_ ?_ _) | (refine .inr ?_;first | (simp;done) | (simp;omega) | omega)))
 ·have hb2:(((b:Nat):Int) != 0)=true:=by simp [hn]
  clear hn
  go_enter Tryz.func120,Tryz.ntmps120
  go_wp2_with (first | (go_at_call 198;refine (je _ _ _ HF.out).mono ?_;rintro e w1 ⟨rfl,rfl⟩;simp only [gq]))
  go_returns
  exact iV.nil (by repeat' (first | (with_reducible first | exact ae.refl _ _ | assumption | refine ae.alloc ?_ _ | refine ae.drew ?_ | refine ae.drewN ?_ _ | refine ae.regrown ?_ _ _ | refine ae.setCell ?_ ?_ _) | (refine .inr ?_;first | (simp;done) | (simp;omega) | omega)))
theorem BM {k:Nat}{f:dV} (hf:eY k=some f):f.head.toNat≠0∧(f.b=true→f.a=true):=by
 obtain⟨h1,h2⟩:=og hf
 rcases kinds k h1 h2 with rfl | rfl | rfl | rfl | rfl | rfl | rfl | rfl | rfl | rfl | rfl | rfl | rfl | rfl | rfl | rfl | rfl <;> cases hf <;> decide
theorem Dc (k a b:Nat) (f:dV) (w:World) (hf:eY k=some f) (hn:lC f a b=true) (ha:a≤18446744073709551615) (hb:b≤18446744073709551615) :
  Calls Tryz.prog 120 #[.agg #[.int .i64 k,.int .u64 a,.int .u64 b]] w (iV w (dD f a b) 0):=by
 obtain⟨h1,h2⟩:=og hf
 have hf':=hf
 rcases kinds k h1 h2 with rfl | rfl | rfl | rfl | rfl | rfl | rfl | rfl | rfl | rfl | rfl | rfl | rfl | rfl | rfl | rfl | rfl <;> cases hf <;> simp only [lC,Bool.false_or,Bool.true_or,Bool.and_true,Bool.true_and,Bool.and_eq_true,decide_eq_true_eq] at hn
 ·exact qX _ a b _ _ w hf' (by decide) (by decide) (by decide) hn.1 hn.2 ha hb
 ·exact qX _ a b _ _ w hf' (by decide) (by decide) (by decide) hn.1 hn.2 ha hb
 ·exact qX _ a b _ _ w hf' (by decide) (by decide) (by decide) hn.1 hn.2 ha hb
 ·exact nJ _ a b _ _ w hf' (by decide) (by decide) (by decide) hn ha hb
 ·exact CB _ a b _ _ w hf' (by decide) (by decide) (by decide) hn ha hb
 ·exact qV _ a b _ _ w hf' (by decide) (by decide) (by decide) ha hb
 ·exact qV _ a b _ _ w hf' (by decide) (by decide) (by decide) ha hb
 ·exact qV _ a b _ _ w hf' (by decide) (by decide) (by decide) ha hb
 ·exact nJ _ a b _ _ w hf' (by decide) (by decide) (by decide) hn ha hb
 ·exact Cf _ a b _ _ w hf' (by decide) (by decide) (by decide) ha hb
 ·exact nJ _ a b _ _ w hf' (by decide) (by decide) (by decide) hn ha hb
 ·exact nJ _ a b _ _ w hf' (by decide) (by decide) (by decide) hn ha hb
 ·exact nJ _ a b _ _ w hf' (by decide) (by decide) (by decide) hn ha hb
 ·exact pK _ a b _ _ w hf' (by decide) (by decide) (by decide) ha hb
 ·exact pK _ a b _ _ w hf' (by decide) (by decide) (by decide) ha hb
 ·exact pK _ a b _ _ w hf' (by decide) (by decide) (by decide) ha hb
 ·exact pK _ a b _ _ w hf' (by decide) (by decide) (by decide) ha hb
theorem xI (n:Int) (a b:Nat) (w:World) (ha:a≤18446744073709551615) (hb:b≤18446744073709551615) :
  Calls Tryz.prog 120 #[.agg #[.int .i64 n,.int .u64 a,.int .u64 b]] w (iV w ((fE n a b).getD []) (if (fE n a b).isSome then 0 else 70)):=by
 by_cases h:n<1∨17<n
 ·have:=DU n a b w h
  simpa [fE,ru h] using this
 ·obtain⟨k,rfl⟩:=Int.eq_ofNat_of_zero_le (a:=n) (by omega)
  obtain⟨f,hf,_⟩:=mM k (by omega) (by omega)
  obtain⟨hh,hba⟩:=BM hf
  cases hn:lC f a b
  ·have:=Df k a b f w hf hh hba hn
   simpa [fE,hf,hn] using this
  ·have:=Dc k a b f w hf hn ha hb
   simpa [fE,hf,hn] using this
end Go.Proofs.YtglkmaalpammcaaGreat

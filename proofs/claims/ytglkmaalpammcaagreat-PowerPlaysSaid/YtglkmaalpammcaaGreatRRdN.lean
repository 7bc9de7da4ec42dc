/- gleanref4.Reader: End, Bool, Nat, Dec. -/
import Derived.Test.YtglkmaalpammcaaGreatZE
import Derived.Test.YtglkmaalpammcaaGreatRFrom
import Derived.Test.YtglkmaalpammcaaGreatZA
namespace Go.Proofs.YtglkmaalpammcaaGreat
open Go.Gl Go.RowKit
set_option linter.unusedVariables false
set_option maxRecDepth 100000
theorem RR.fail {w:World}{g:Nat}{vB:Value}{xs:List UInt8}{e:Int} (n:Int) (h:RR w g vB xs e):RR (w.setCell ⟨g,1,none⟩ (.int .i64 n)) g vB xs n :=
 ⟨h.setE n,h.rd.keep (ae.one _ _ _ _) (fun k hk e=>h.apart (by rw [hk,e])),h.apart⟩
theorem RR.first {w:World}{g:Nat}{vB:Value}{xs:List UInt8}{e:Int} (h:RR w g vB xs e) (hl:1≤xs.length):∃ gb off ca,vB = .slice (some ⟨gb,off,none⟩) xs.length ca∧xs.length≤ca∧ca≤9223372036854775807∧gb≠g∧∀ i (hi:i<xs.length),w.cell? ⟨gb,off+i,none⟩=some (.int .u8 (xs[i]).toNat):=by
 rcases h.rd.open with ⟨_,rfl⟩ | ⟨gb,off,ca,rfl,h1,h2,h3,h4⟩
 ·simp at hl
 ·exact⟨gb,off,ca,rfl,h1,by simpa [maxLen] using h2,fun e=>h.apart (by rw [e];rfl),h4⟩
end Go.Proofs.YtglkmaalpammcaaGreat

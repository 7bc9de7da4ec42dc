/- enc.Reader: Nat, Dec, Raw. -/
import Derived.Test.YtglkmaalpammcaaERdN
namespace Go.Proofs.Ytglkmaalpammcaa
open Go.Gl Go.RowKit
set_option linter.unusedVariables false
set_option maxRecDepth 100000
theorem RStp.from {w w1 w2 : World} {g : Nat} {v v2 : Value} {xs : List UInt8} {e : Int} (h : RStp w1 g v xs e w2 v2) (hm : Mods noB w w1) : RStp w g v xs e w2 v2 :=
  ⟨h.rr, hm.trans h.mods (fun _ _ x => x.elim) (fun _ _ x => x), h.blk⟩
end Go.Proofs.Ytglkmaalpammcaa

/- gleanref4.Reader: Nat, Dec. -/
import Derived.Test.YtglkmaalpammcaaGreatRRdN
namespace Go.Proofs.YtglkmaalpammcaaGreat
open Go.Gl Go.RowKit
set_option linter.unusedVariables false
set_option maxRecDepth 100000
theorem RS.then0 {w w1 w2 : World} {g : Nat} {vB : Value} {s : ESt} (h : RS w g vB s w1) (hm : Mods noB w1 w2) : RS w g vB s w2 := by
 obtain ⟨⟨v, h1, h2⟩, h3⟩ := h
 exact ⟨⟨v, h1.keep hm (fun x => x) (fun _ _ x => x), h2⟩, h3.then0 hm⟩
theorem RS.from {w w1 w2 : World} {g : Nat} {vB : Value} {s : ESt} (hm : Mods noB w w1) (h : RS w1 g vB s w2) : RS w g vB s w2 :=
 ⟨h.st, hm.trans h.mods (fun _ _ x => x.elim) (fun _ _ x => x)⟩
end Go.Proofs.YtglkmaalpammcaaGreat

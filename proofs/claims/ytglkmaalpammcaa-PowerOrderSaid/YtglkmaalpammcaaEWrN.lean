/- enc.Writer's Nat and Dec. -/
import Derived.Test.YtglkmaalpammcaaEWr3
import Derived.Test.YtglkmaalpammcaaNBytes
namespace Go.Proofs.Ytglkmaalpammcaa
open Go.Gl Go.RowKit
set_option linter.unusedVariables false
set_option maxRecDepth 100000
theorem Wr.then0 {w wy:World}{g:Nat}{v:Value}{xs:List UInt8}{e:Int} (h:Wr w g v xs e) (hm:ae aj w wy):Wr wy g v xs e :=
 ⟨hm.heap h.heap (fun x=>x),h.own.keep hm (fun _ _ x=>x),h.apart⟩
end Go.Proofs.Ytglkmaalpammcaa

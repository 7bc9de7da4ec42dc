/- enc.Writer's Nat and Dec. -/
import Derived.Test.YtglkmaalpammcaaZD
import Derived.Test.YtglkmaalpammcaaNBytes
namespace Go.Proofs.Ytglkmaalpammcaa
open Go.Gl Go.RowKit
set_option linter.unusedVariables false
set_option maxRecDepth 100000
def natL (N : Nat) : List UInt8 := be 1 (blen N) ++ natB N
theorem natB_length (N : Nat) : (natB N).length = blen N := be_length _ _
theorem Wr.then0 {w wy : World} {g : Nat} {v : Value} {xs : List UInt8} {e : Int} (h : Wr w g v xs e) (hm : Mods noB w wy) : Wr wy g v xs e :=
  ⟨hm.heap h.heap (fun x => x), h.own.keep hm (fun _ _ x => x), h.apart⟩
end Go.Proofs.Ytglkmaalpammcaa

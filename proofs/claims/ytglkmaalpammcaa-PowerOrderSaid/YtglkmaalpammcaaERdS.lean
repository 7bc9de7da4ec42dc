/- enc.Reader: Nat, Dec, Raw, told by the reader's state. -/
import Derived.Test.YtglkmaalpammcaaERdP
namespace Go.Proofs.Ytglkmaalpammcaa
open Go.Gl Go.RowKit
set_option linter.unusedVariables false
set_option maxRecDepth 100000
def yV (s:nM):List UInt8:=(s.1.drop 1).take (wI 1 s)
def natV (s:nM):List Nat:=if s.2=0∧1≤s.1.length∧1+wI 1 s≤s.1.length∧(yV s)[0]?≠some 0 then dig 18446744073709551616 (num (yV s)) else []
def natT (s:nM):nM:=if s.2=0 then (if 1≤s.1.length∧1+wI 1 s≤s.1.length then (if (yV s)[0]?=some 0 then (s.1,41) else (s.1.drop (1+wI 1 s),0)) else (s.1,40)) else s
end Go.Proofs.Ytglkmaalpammcaa

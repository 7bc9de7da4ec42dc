/- enc.Reader: Bool, Left, Err, End, Nat, Dec, Raw. -/
import Derived.Test.YtglkmaalpammcaaERd2
import Derived.Test.YtglkmaalpammcaaNFrom
namespace Go.Proofs.Ytglkmaalpammcaa
open Go.Gl Go.RowKit
set_option linter.unusedVariables false
set_option maxRecDepth 100000
abbrev nM:=List UInt8 × Int
def est (n:Nat) (s:nM):nM:=(rleft n s.1 s.2,rerr n s.1 s.2)
def wI (n:Nat) (s:nM):Nat:=rtake n s.1 s.2
def boolS (s:nM):nM:=if s.2=0∧1<wI 1 s then (s.1,41) else est 1 s
end Go.Proofs.Ytglkmaalpammcaa

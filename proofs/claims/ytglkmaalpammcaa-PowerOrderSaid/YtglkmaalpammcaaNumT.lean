/- Plain facts on numbers as bytes, one byte more; results that are numbers. -/
import Derived.Test.YtglkmaalpammcaaZD
import Derived.Test.YtglkmaalpammcaaZA
namespace Go.Proofs.Ytglkmaalpammcaa
open Go.Gl Go.RowKit
set_option linter.unusedVariables false
theorem AA (xs:List UInt8) (k:Nat) (h:k<xs.length):num (xs.take (k+1))=num (xs.take k)*256+(xs[k]).toNat:=by
 rw [List.take_succ_eq_append_getElem h,vV]
theorem wY (xs:List UInt8) (k:Nat) (hx:xs.length≤8) (h:k<xs.length):num (xs.take k)<72057594037927936:=by
 have:=vS (xs.take k)
 have h1:(xs.take k).length≤7:=by rw [List.length_take];omega
 have h2:256 ^ (xs.take k).length≤256 ^ 7:=Nat.pow_le_pow_right (by decide) h1
 have h3:(256:Nat) ^ 7=72057594037927936:=by decide
 omega
theorem DI {a b:Int} (h:a=b):Ending.returned (.int .u64 a) = .returned (.int .u64 b):=by rw [h]
end Go.Proofs.Ytglkmaalpammcaa

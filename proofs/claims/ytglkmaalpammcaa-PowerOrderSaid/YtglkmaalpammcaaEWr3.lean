/- enc.Writer's all, Raw, Out; state's fails. -/
import Derived.Test.YtglkmaalpammcaaZD
namespace Go.Proofs.Ytglkmaalpammcaa
open Go.Gl Go.RowKit
set_option linter.unusedVariables false
set_option maxRecDepth 100000
theorem Wr.fail {w:World}{g:Nat}{v:Value}{xs:List UInt8} (c:Nat) (h:Wr w g v xs 0):kX w g v xs c (w.setCell ⟨g,1,none⟩ (.int .i64 c)) v :=
 ⟨⟨by have:=heap_set h.heap 1 (.int .i64 c);simpa using this,h.own.keep ((ae.refl (fun k=>k=g) w).setCell (.inl rfl) _) (fun k hk e=>h.apart (by rw [hk,e])),h.apart⟩,(ae.refl (WS g v) w).setCell (.inl (.inl rfl)) _,.inl rfl⟩
end Go.Proofs.Ytglkmaalpammcaa

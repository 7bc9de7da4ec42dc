/- bytes.Equal and slices.Clone of bytes. -/
import Derived.Test.YtglkmaalpammcaaZA
import Derived.Lib.BufferRead
namespace Go.Proofs.Ytglkmaalpammcaa
open Go.Gl Go.RowKit
set_option linter.unusedVariables false
theorem Rd.str {w:World}{v:Value}{xs:List UInt8} (h:Rd w v xs):(convert 77 9 v).run Try.prog w = .ok (.string ⟨xs.toArray⟩) w:=by
 rcases h.open with ⟨h0,rfl⟩ | ⟨g,off,cap,rfl,h1,h2,_,h3⟩
 ·rcases h0 with rfl | ⟨g,off,s,rfl⟩
  ·exact Lib.run_convert_nil_bytes w 77 9 5 0 Try.underlying77 Try.underlying5 Try.underlying9
  ·exact run_convert_bytes_back w 77 9 5 ⟨g,off,some s⟩ 0 [] Try.underlying77 Try.underlying5 Try.underlying9 (fun j hj=>by simp at hj)
 ·refine run_convert_bytes_back w 77 9 5 _ cap xs Try.underlying77 Try.underlying5 Try.underlying9 (fun j hj=>?_)
  rw [show (⟨g,off,none⟩:Addr).add j=⟨g,off+j,none⟩ from Addr.add_lit ..]
  exact h3 j hj
theorem EP (xs ys:List UInt8):(xs == ys)=decide (xs=ys):=by
 by_cases h:xs=ys <;> simp [h]
set_option maxHeartbeats 400000 in
theorem zx {x y:Value}{xs ys:List UInt8}{w:World} (hx:Rd w x xs) (hy:Rd w y ys) :
  Calls Try.prog 84 #[x,y] w fun e w'=>e = .returned (.bool (decide (xs=ys)))∧Quiet w w':=by
 have k1:=Rd.str hx
 have k2:=Rd.str hy
 go_enter Try.func84,Try.ntmps84
 go_wp2
 go_ret
 exact⟨nY (EP xs ys),Quiet.refl _⟩
end Go.Proofs.Ytglkmaalpammcaa

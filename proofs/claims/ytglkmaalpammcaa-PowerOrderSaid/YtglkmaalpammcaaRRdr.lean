/- gleanref4.Reader: take and U. -/
import Derived.Test.YtglkmaalpammcaaNumT
import Derived.Test.YtglkmaalpammcaaZA
namespace Go.Proofs.Ytglkmaalpammcaa
open Go.Gl Go.RowKit
set_option linter.unusedVariables false
theorem ae.one (w:World) (g o:Nat) (u:Value):ae (fun k=>k=g) w (w.setCell ⟨g,o,none⟩ u):=(ae.refl (fun k=>k=g) w).setCell (.inl (by rfl)) u
theorem Rd.drop {w:World}{g off n cap:Nat}{xs:List UInt8} (h:Rd w (.slice (some ⟨g,off,none⟩) xs.length cap) xs) (hn:n≤xs.length):Rd w (.slice (if cap=n then some ⟨g,off,none⟩ else some ⟨g,off+n,none⟩) (xs.length - n) (cap - n)) (xs.drop n):=by
 rcases h.open with ⟨h1,_⟩ | ⟨g',off',cap',h1,h2,h3,h4,h5⟩
 ·exact h1.no.elim
 ·cases h1
  by_cases hc:cap=n
  ·rw [if_pos hc]
   obtain rfl:n=xs.length:=by omega
   rw [List.drop_length,Nat.sub_self]
   exact⟨rfl,.inr ⟨g,off,_,rfl,Nat.zero_le _,by omega,.inl rfl,fun j u hj=>by simp [bv] at hj⟩⟩
  ·rw [if_neg hc]
   refine⟨by rw [jI,Nat.mul_one],.inr ⟨_,_,_,by rw [List.length_drop],by rw [List.length_drop];omega,by omega,h4.imp (fun x=>by rw [List.length_drop];omega) id,fun j u hj=>?_⟩⟩
   have hj':j<(xs.drop n).length:=by have:=(List.getElem?_eq_some_iff.1 hj).1;simpa [jI] using this
   rw [pq _ j hj'] at hj
   rw [← hj,Nat.add_assoc,h5 (n+j) (by rw [List.length_drop] at hj';omega)]
   simp
end Go.Proofs.Ytglkmaalpammcaa

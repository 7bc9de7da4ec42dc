/- Plain laws of the order of byte lists: numbers laid highest byte first stand in their order; what Next tells; keys of one kind. -/
import Derived.Test.YtglkmaalpammcaaKPlain
import Derived.Test.YtglkmaalpammcaaKNum
import Derived.Test.YtglkmaalpammcaaZA
namespace Go.Proofs.Ytglkmaalpammcaa
open Go.Gl Go.RowKit
set_option linter.unusedVariables false
theorem yU (p xs ys:List UInt8):aF (p ++ xs) (p ++ ys)=aF xs ys:=by
 induction p with
 | nil=>rfl
 | cons c p ih=>simpa [aF] using ih
theorem BA (n a b:Nat) (ha:a<256 ^ (n+1)) (hb:b<256 ^ (n+1)):a / 256 ^ n<256∧b / 256 ^ n<256:=by
 rw [Nat.pow_succ] at ha hb
 exact⟨Nat.div_lt_of_lt_mul (by rw [Nat.mul_comm];exact ha |> fun h=>by rwa [Nat.mul_comm] at h ⊢),Nat.div_lt_of_lt_mul (by rwa [Nat.mul_comm] at hb ⊢)⟩
theorem zV (n a:Nat):be n (a % 256 ^ n)=be n a:=by
 have h:=Ew (be n a)
 rw [eY,zW] at h
 exact h
theorem vI (n a b:Nat) (xs ys:List UInt8) (ha:a<256 ^ n) (hb:b<256 ^ n):aF (be n a ++ xs) (be n b ++ ys)=if a=b then aF xs ys else decide (a<b):=by
  induction n generalizing a b with
  | zero =>
    simp at ha hb
    subst ha hb
    simp [be]
  | succ n ih =>
    obtain⟨h1,h2⟩:=BA n a b ha hb
    have hp:0<256 ^ n:=Nat.pow_pos (by decide)
    have da:=Nat.div_add_mod a (256 ^ n)
    have db:=Nat.div_add_mod b (256 ^ n)
    have ma:=Nat.mod_lt a hp
    have mb:=Nat.mod_lt b hp
    simp only [be,List.cons_append,aF,← UInt8.toNat_inj,UInt8.toNat_ofNat']
    rw [show a / 256 ^ n % 2 ^ 8=a / 256 ^ n from Nat.mod_eq_of_lt h1,show b / 256 ^ n % 2 ^ 8=b / 256 ^ n from Nat.mod_eq_of_lt h2]
    by_cases he:a / 256 ^ n=b / 256 ^ n
    · rw [if_pos he,← zV n a,← zV n b,ih _ _ ma mb]
      rw [he] at da
      by_cases hm:a % 256 ^ n=b % 256 ^ n
      · rw [if_pos hm,if_pos (by omega)]
      · rw [if_neg hm,if_neg (by intro h;exact hm (by rw [h]))]
        exact decide_eq_decide.2 (by omega)
    · rw [if_neg he,if_neg (by intro h;exact he (by rw [h]))]
      have key:∀ x y:Nat,x / 256 ^ n<y / 256 ^ n→x<y:=fun x y h=>by
        rcases Nat.lt_or_ge x y with h1 | h1
        · exact h1
        · have:=Nat.div_le_div_right (c:=256 ^ n) h1;omega
      refine decide_eq_decide.2 ⟨fun h=>key a b h,fun h=>?_⟩
      rcases Nat.lt_or_ge (a / 256 ^ n) (b / 256 ^ n) with h3 | h3
      · exact h3
      · exact absurd (key b a (by omega)) (by omega)
end Go.Proofs.Ytglkmaalpammcaa

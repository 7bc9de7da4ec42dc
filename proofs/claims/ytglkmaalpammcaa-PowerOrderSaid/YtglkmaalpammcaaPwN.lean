/- gleanhelp.Numbers: are two lists the same? -/
import Derived.Test.YtglkmaalpammcaaERd
import Derived.Test.YtglkmaalpammcaaNLib
import Derived.Test.YtglkmaalpammcaaZA
set_option maxHeartbeats 64000000
namespace Go.Proofs.Ytglkmaalpammcaa
open Go.Gl Go.RowKit
set_option linter.unusedVariables false
theorem DR (a b:Option Addr) (la ca lb cb:Nat) (w:World) (h:la≠lb) (ha:la≤maxLen) (hb:lb≤maxLen) :
  Calls Try.prog 25 #[.slice a la ca,.slice b lb cb] w fun e w'=>e = .returned (.bool false)∧w'=w:=by
 unfold maxLen at ha hb
 go_enter Try.func25,Try.ntmps25
 go_wp2
 go_ret
 exact⟨rfl,rfl⟩
theorem vU (a b:Option Addr) (ca cb:Nat) (w:World) :
  Calls Try.prog 25 #[.slice a 0 ca,.slice b 0 cb] w fun e w'=>e = .returned (.bool true)∧w'=w:=by
 go_enter Try.func25,Try.ntmps25
 go_wp2
 go_rounds 1
 go_ret
 exact⟨rfl,rfl⟩
theorem CZ (g off ca h offh cb n:Nat) (xs ys:List Nat) (w:World) (hx:xs.length=n) (hy:ys.length=n) (hn:n≤maxLen)
  (cx:∀ i (hi:i<xs.length),w.cell? ⟨g,off+i,none⟩=some (u64 xs[i])) (cy:∀ i (hi:i<ys.length),w.cell? ⟨h,offh+i,none⟩=some (u64 ys[i])) :
  Calls Try.prog 25 #[.slice (some ⟨g,off,none⟩) n ca,.slice (some ⟨h,offh,none⟩) n cb] w fun e w'=>e = .returned (.bool (decide (xs=ys)))∧Quiet w w':=by
 unfold maxLen at hn
 have HX:=lh hx
 have HY:=lh hy
 have CX:=lh cx
 have CY:=lh cy
 clear hx hy cx cy
 go_enter Try.func25,Try.ntmps25
 go_wp2
 go_loopw [5] (fun i wr=>∃ k:Nat,k≤n∧i = .int .i64 k∧(∃ m,wr=w.drewN m)∧Hid (xs.take k=ys.take k)) (fun i _=>n - (intOf i).toNat)
 case atStart=>exact⟨0,Nat.zero_le _,rfl,⟨0,rfl⟩,rfl⟩
 case round =>
  obtain⟨k,hk,rfl,⟨m,rfl⟩,he⟩:=hrel
  by_cases hlt:k<n
  ·have lx:k<xs.length:=by rw [HX.out];exact hlt
   have ly:k<ys.length:=by rw [HY.out];exact hlt
   have c1:=CX.out k lx
   have c2:=CY.out k ly
   by_cases hc:xs[k]=ys[k]
   ·have hd:((xs[k]:Int) != (ys[k]:Int))=false:=by simp [hc]
    have HC:=lh hc
    clear hc
    go_wp2
    go_quiet (fail)
    go_wp2
    go_roundw
    case rel =>
     refine⟨k+1,by omega,by go_num,⟨_,rfl⟩,?_⟩
     show _=_
     rw [List.take_succ_eq_append_getElem lx,List.take_succ_eq_append_getElem ly,he.out,HC.out]
    case measure=>simp [intOf];omega
   ·have hd:((xs[k]:Int) != (ys[k]:Int))=true:=by simp;omega
    have HC:=lh hc
    clear hc
    go_wp2
    go_quiet (fail)
    go_wp2
    go_ret
    refine⟨nY ?_,⟨_,World.drewN_drewN ..⟩⟩
    symm
    rw [decide_eq_false_iff_not]
    rintro rfl
    exact HC.out rfl
  ·go_wp2
   go_ret
   refine⟨nY ?_,⟨_,rfl⟩⟩
   symm
   rw [decide_eq_true_iff]
   have h1:=he.out
   rw [List.take_of_length_le (by rw [HX.out];omega),List.take_of_length_le (by rw [HY.out];omega)] at h1
   exact h1
theorem Bi {x y:Value}{xs ys:List Nat}{w:World} (hx:fM u64 w x xs) (hy:fM u64 w y ys) :
  Calls Try.prog 25 #[x,y] w fun e w'=>e = .returned (.bool (decide (xs=ys)))∧Quiet w w':=by
 by_cases hl:xs.length=ys.length
 ·rcases fM.open hx with ⟨h0,rfl⟩ | ⟨g,off,ca,rfl,h1,h2,_,cx⟩
  ·obtain⟨a0,rfl⟩:=h0.form
   obtain rfl:ys=[]:=List.eq_nil_of_length_eq_zero hl.symm
   obtain⟨b,cb,rfl,_⟩:=fM.form hy
   exact (vU a0 b 0 cb w).mono fun e w' ⟨he,hw⟩=>⟨by rw [he];rfl,⟨0,hw⟩⟩
  ·rcases fM.open hy with ⟨h0,rfl⟩ | ⟨h,offh,cb,rfl,k1,k2,_,cy⟩
   ·obtain⟨b0,rfl⟩:=h0.form
    obtain rfl:xs=[]:=List.eq_nil_of_length_eq_zero hl
    exact (vU _ b0 _ 0 w).mono fun e w' ⟨he,hw⟩=>⟨by rw [he];rfl,⟨0,hw⟩⟩
   ·have:=CZ g off ca h offh cb xs.length xs ys w rfl hl.symm (by omega) cx cy
    rw [← hl]
    exact this
 ·obtain⟨a,ca,rfl,h1⟩:=fM.form hx
  obtain⟨b,cb,rfl,h2⟩:=fM.form hy
  refine (DR a b _ ca _ cb w hl h1 h2).mono fun e w' ⟨he,hw⟩=>⟨?_,⟨0,hw⟩⟩
  rw [he]
  refine nY ?_
  symm
  rw [decide_eq_false_iff_not]
  rintro rfl
  exact hl rfl
theorem uu {x y:Value}{xs:List Nat}{w:World} (hx:fM u64 w x xs) (hy:fM u64 w y xs):Calls Try.prog 25 #[x,y] w fun e w'=>e = .returned (.bool true)∧ae aj w w' :=
 (Bi hx hy).mono fun e w' ⟨he,hq⟩=>⟨by rw [he];simp,hq.mods _⟩
end Go.Proofs.Ytglkmaalpammcaa

/- keys.number and keys.Next. -/
import Derived.Test.YtglkmaalpammcaaBEq
import Derived.Test.YtglkmaalpammcaaZD
import Derived.Test.YtglkmaalpammcaaNumT
import Derived.Test.YtglkmaalpammcaaZA
namespace Go.Proofs.Ytglkmaalpammcaa
open Go.Gl Go.RowKit
set_option linter.unusedVariables false
set_option maxHeartbeats 400000 in
theorem xk (ax:Option Addr) (nx cx:Nat) (xs:List UInt8) (w:World) (hx:xs.length=nx) (hnx:nx≤8) (kx:nx=0∨∃ g off,ax=some ⟨g,off,none⟩∧∀ i (hi:i<xs.length),w.cell? ⟨g,off+i,none⟩=some (.int .u8 (xs[i]).toNat)) :
  Calls Try.prog 83 #[.slice ax nx cx] w fun e w'=>e = .returned (.int .u64 (num xs))∧w'=w:=by
 have HX:=lh hx
 have KX:=lh kx
 clear hx kx
 go_enter Try.func83,Try.ntmps83
 go_wp2
 go_loop [3,8] (fun x i=>∃ k:Nat,k≤nx∧i = .int .i64 k∧x = .int .u64 (num (xs.take k))) (fun _ i=>nx - (intOf i).toNat)
 case atStart=>exact⟨0,Nat.zero_le _,rfl,rfl⟩
 case round =>
  obtain⟨k,hk,rfl,rfl⟩:=hrel
  by_cases hlt:k<nx
  ·have lx:k<xs.length:=by rw [HX.out];exact hlt
   obtain⟨g,off,hax,c1⟩:=KX.out.resolve_left (by omega)
   have c2:=c1 k lx
   have hb:=(xs[k]).toNat_lt
   have hb0:(0:Int)≤((xs[k]).toNat:Int):=by omega
   have hn:=wY xs k (by rw [HX.out];exact hnx) lx
   have ht:=lh (AA xs k lx)
   clear c1 KX
   subst hax
   generalize hz:num (xs.take k)=z at *
   have HZ:=lh hz
   clear hz
   have hz1:((z:Nat):Int)<72057594037927936:=by omega
   go_wp2
   go_round
   case rel =>
    refine⟨k+1,by omega,by go_num,?_⟩
    rw [yK _ _ (by omega) hz1 hb0 (by omega),ht.out]
    simp
   case measure=>simp [intOf];omega
  ·obtain rfl:k=nx:=by omega
   go_wp2
   go_ret
   refine⟨DI ?_,rfl⟩
   rw [List.take_of_length_le (by rw [HX.out];omega)]
theorem rV {v:Value}{xs:List UInt8}{w:World} (hv:Rd w v xs) (h8:xs.length≤8) :
  Calls Try.prog 83 #[v] w fun e w'=>e = .returned (.int .u64 (num xs))∧w'=w:=by
 obtain⟨a,ca,rfl,h1,h2⟩:=Rd.at hv
 exact xk a _ ca xs w rfl h8 h2
end Go.Proofs.Ytglkmaalpammcaa

/- queue, plain: the entries that live, and what lies for them in a store. -/
import Derived.Test.YtglkmaalpammcaaGreatQuS
import Derived.Test.YtglkmaalpammcaaGreatBkLw
import Derived.Test.YtglkmaalpammcaaGreatKPlain2
namespace Go.Proofs.YtglkmaalpammcaaGreat
open Go.Gl Go.RowKit
set_option linter.unusedVariables false
set_option linter.unusedSimpArgs false
def QK (k a b:Nat):Prop:=aU a∧aU b∧((k=2∧a=0∧b=0)∨((k=12∨k=13)∧b=0)∨k=14∨k=15∨k=17)
theorem zg {k a b:Nat} (h:QK k a b):dU k a b=some (qk k a b):=by
 have:∃ x,dU k a b=some x:=by
  obtain⟨_,_,h⟩:=h
  rcases h with ⟨rfl,rfl,rfl⟩ | ⟨rfl | rfl,rfl⟩ | rfl | rfl | rfl <;> exact⟨_,rfl⟩
 obtain⟨x,hx⟩:=this
 unfold qk
 rw [hx]
 rfl
theorem zi {k a b k' a' b':Nat} (h:QK k a b) (h':QK k' a' b'):qk k a b=qk k' a' b'↔k=k'∧a=a'∧b=b':=by
 constructor
 ·intro e
  have h1:=zg h
  have h2:=zg h'
  rw [e] at h1
  obtain⟨x,y,z⟩:=yl h1 h2 h.1 h.2.1 h'.1 h'.2.1
  exact⟨by omega,y,z⟩
 ·rintro⟨rfl,rfl,rfl⟩
  rfl
theorem pU {k:Nat}{f:dD} (hf:dK k=some f) {a b:Nat} (h:jT f a b=true):qk k a b=dR f a b:=by
 unfold qk dU
 simp only [Int.toNat_natCast,hf,h,if_true]
 rfl
theorem zJ:qk 2 0 0=[99]:=by decide
theorem Lp (a:Nat):qk 12 a 0=117 :: be 8 a:=by
 rw [pU (k:=12) (f:=⟨117,0,true,false,false⟩) rfl (by simp [jT])]
 simp [dR,fQ,dX]
theorem Ls (a:Nat):qk 13 a 0=114 :: be 8 a:=by
 rw [pU (k:=13) (f:=⟨114,0,true,false,false⟩) rfl (by simp [jT])]
 simp [dR,fQ,dX]
theorem yZ (a b:Nat):qk 14 a b=113 :: (be 8 a ++ be 8 b):=by
 rw [pU (k:=14) (f:=⟨113,0,true,true,false⟩) rfl (by simp [jT])]
 simp [dR,fQ,dX]
theorem yV (a b:Nat):qk 15 a b=101 :: (be 8 a ++ be 8 b):=by
 rw [pU (k:=15) (f:=⟨101,0,true,true,false⟩) rfl (by simp [jT])]
 simp [dR,fQ,dX]
theorem Lc (a b:Nat):qk 17 a b=107 :: (be 8 a ++ be 8 b):=by
 rw [pU (k:=17) (f:=⟨107,0,true,true,false⟩) rfl (by simp [jT])]
 simp [dR,fQ,dX]
theorem MH {k a b:Nat} (h:QK k a b):1≤(qk k a b).length∧(qk k a b).length≤64:=by
 obtain⟨_,_,h⟩:=h
 rcases h with ⟨rfl,rfl,rfl⟩ | ⟨rfl | rfl,rfl⟩ | rfl | rfl | rfl
 ·rw [zJ];simp
 ·rw [Lp];simp [aX]
 ·rw [Ls];simp [aX]
 ·rw [yZ];simp [aX]
 ·rw [yV];simp [aX]
 ·rw [Lc];simp [aX]
theorem A8 {k a b:Nat} (h:QK k a b) (c:UInt8) (p:List UInt8) (hb:bu (c :: p) (qk k a b)=true):(c=113→k=14)∧(c=101→k=15):=by
 obtain⟨_,_,h⟩:=h
 rcases h with ⟨rfl,rfl,rfl⟩ | ⟨rfl | rfl,rfl⟩ | rfl | rfl | rfl
 ·rw [zJ,eP,Bool.and_eq_true,decide_eq_true_iff] at hb
  rw [hb.1];decide
 ·rw [Lp,eP,Bool.and_eq_true,decide_eq_true_iff] at hb
  rw [hb.1];exact⟨fun x=>absurd x (by decide),fun x=>absurd x (by decide)⟩
 ·rw [Ls,eP,Bool.and_eq_true,decide_eq_true_iff] at hb
  rw [hb.1];exact⟨fun x=>absurd x (by decide),fun x=>absurd x (by decide)⟩
 ·rw [yZ,eP,Bool.and_eq_true,decide_eq_true_iff] at hb
  rw [hb.1];exact⟨fun x=>rfl,fun x=>absurd x (by decide)⟩
 ·rw [yV,eP,Bool.and_eq_true,decide_eq_true_iff] at hb
  rw [hb.1];exact⟨fun x=>absurd x (by decide),fun x=>rfl⟩
 ·rw [Lc,eP,Bool.and_eq_true,decide_eq_true_iff] at hb
  rw [hb.1];exact⟨fun x=>absurd x (by decide),fun x=>absurd x (by decide)⟩
def gQ (F:List aN) (k a b:Nat):Option (List UInt8):=dB F (qk k a b)
theorem Np {k a b:Nat} (h:QK k a b) (F:List aN) {v:List UInt8} (hv:v.length≤4096):bZ F (qk k a b) v=insL F (qk k a b) v:=by
 have:=MH h
 have e:fO (qk k a b) v=0:=by unfold fO;rw [if_neg (by omega),if_neg (by omega)]
 unfold bZ
 rw [if_pos e]
theorem su {k a b k' a' b':Nat} (h:QK k a b) (h':QK k' a' b') (F:List aN) {v:List UInt8} (hv:v.length≤4096):gQ (bZ F (qk k a b) v) k' a' b'=if k=k'∧a=a'∧b=b' then some v else gQ F k' a' b':=by
 unfold gQ
 rw [Np h F hv,Nv]
 by_cases e:k=k'∧a=a'∧b=b'
 ·rw [if_pos ((zi h h').2 e),if_pos e]
 ·rw [if_neg (fun x=>e ((zi h h').1 x)),if_neg e]
def IY (F:List aN):Prop:=∀ e∈F,∃ k a b,QK k a b∧e.1=qk k a b
theorem lw {F:List aN} (h:IY F) {k a b:Nat} (hk:QK k a b) (v:List UInt8):IY (bZ F (qk k a b) v):=by
 intro e he
 unfold bZ at he
 split at he
 ·rcases KQ he with x | rfl
  ·exact h e x
  ·exact⟨k,a,b,hk,rfl⟩
 ·exact h e he
def jd (n0 n1 n2 n3 n4 n5:Nat):List UInt8:=bD [⟨0,n0,[]⟩,⟨0,n1,[]⟩,⟨0,n2,[]⟩,⟨0,n3,[]⟩,⟨0,n4,[]⟩,⟨0,n5,[]⟩]
def jc (n0 n1 n2 n3 n4 n5:Nat) (l6:List Nat):List UInt8:=bD [⟨0,n0,[]⟩,⟨0,n1,[]⟩,⟨0,n2,[]⟩,⟨0,n3,[]⟩,⟨0,n4,[]⟩,⟨0,n5,[]⟩,⟨2,0,l6⟩]
theorem NK {n:Nat} (h:aU n):dW.Ok ⟨0,n,[]⟩:=⟨by simp,h,fun x=>by simp at x,fun x hx=>by cases hx⟩
theorem uy {n:Nat} (h:aU n):one1 (dE n)=n:=wV (tN [⟨0,n,[]⟩] (fun f hf=>by rw [List.mem_singleton.1 hf];exact NK h) (ks:=[0]) rfl)
theorem Ko:one1 []=0:=by decide
theorem nT (n:Nat):(dE n).length≤4096:=by simp [dE,bD,dW.lay,aX]
theorem IB (n0 n1 n2 n3 n4 n5:Nat):(jd n0 n1 n2 n3 n4 n5).length≤4096:=by simp [jd,bD,dW.lay,aX]
theorem xK (a b:Nat):(iV a b).length≤4096:=by rw [Il];omega
def ja (F:List aN) (kind:Nat) (bs:List UInt8) (d v due:Nat):List aN :=
 nV (bZ (bZ (bZ (wL F) (qk kind (gZ F).2 0) bs) (qk 14 due (gZ F).2) (dE kind)) (qk 15 v (gZ F).2) (dE kind)) d v ((kV (bZ (bZ (bZ (wL F) (qk kind (gZ F).2 0) bs) (qk 14 due (gZ F).2) (dE kind)) (qk 15 v (gZ F).2) (dE kind)) d v+1) % 18446744073709551616)
def xy (F:List aN) (kind id v due:Nat):List aN:=eY (eY (eY F (qk kind id 0)) (qk 14 due id)) (qk 15 v id)
def mi (F:List aN) (kind id d v due:Nat):List aN:=if 0<kV (xy F kind id v due) d v then nV (xy F kind id v due) d v (kV (xy F kind id v due) d v - 1) else xy F kind id v due
end Go.Proofs.YtglkmaalpammcaaGreat

/- queue, plain: the entries that live, and what lies for them in a store. -/
import Derived.Test.YtglkmaalpammcaaGreatZE
namespace Go.Proofs.YtglkmaalpammcaaGreat
open Go.Gl Go.RowKit
set_option linter.unusedVariables false
set_option linter.unusedSimpArgs false
def QK (k a b:Nat):Prop:=aU a∧aU b∧((k=2∧a=0∧b=0)∨((k=12∨k=13)∧b=0)∨k=14∨k=15∨k=17)
theorem zF {k a b:Nat} (h:QK k a b):dZ k a b=some (qk k a b):=by
 have:∃ x,dZ k a b=some x:=by
  obtain⟨_,_,h⟩:=h
  rcases h with ⟨rfl,rfl,rfl⟩ | ⟨rfl | rfl,rfl⟩ | rfl | rfl | rfl <;> exact⟨_,rfl⟩
 obtain⟨x,hx⟩:=this
 unfold qk
 rw [hx]
 rfl
theorem vX {k a b k' a' b':Nat} (h:QK k a b) (h':QK k' a' b'):qk k a b=qk k' a' b'↔k=k'∧a=a'∧b=b':=by
 constructor
 ·intro e
  have h1:=zF h
  have h2:=zF h'
  rw [e] at h1
  obtain⟨x,y,z⟩:=yl h1 h2 h.1 h.2.1 h'.1 h'.2.1
  exact⟨by omega,y,z⟩
 ·rintro⟨rfl,rfl,rfl⟩
  rfl
theorem pY {k:Nat}{f:dH} (hf:dP k=some f) {a b:Nat} (h:kG f a b=true):qk k a b=dX f a b:=by
 unfold qk dZ
 simp only [Int.toNat_natCast,hf,h,if_true]
 rfl
theorem zZ:qk 2 0 0=[99]:=by decide
theorem MG (a:Nat):qk 12 a 0=117 :: be 8 a:=by
 rw [pY (k:=12) (f:=⟨117,0,true,false,false⟩) rfl (by simp [kG])]
 simp [dX,gm,eu]
theorem Me (a:Nat):qk 13 a 0=114 :: be 8 a:=by
 rw [pY (k:=13) (f:=⟨114,0,true,false,false⟩) rfl (by simp [kG])]
 simp [dX,gm,eu]
theorem zt (a b:Nat):qk 14 a b=113 :: (be 8 a ++ be 8 b):=by
 rw [pY (k:=14) (f:=⟨113,0,true,true,false⟩) rfl (by simp [kG])]
 simp [dX,gm,eu]
theorem LZ (a b:Nat):qk 15 a b=101 :: (be 8 a ++ be 8 b):=by
 rw [pY (k:=15) (f:=⟨101,0,true,true,false⟩) rfl (by simp [kG])]
 simp [dX,gm,eu]
theorem MC (a b:Nat):qk 17 a b=107 :: (be 8 a ++ be 8 b):=by
 rw [pY (k:=17) (f:=⟨107,0,true,true,false⟩) rfl (by simp [kG])]
 simp [dX,gm,eu]
theorem Nb {k a b:Nat} (h:QK k a b):1≤(qk k a b).length∧(qk k a b).length≤64:=by
 obtain⟨_,_,h⟩:=h
 rcases h with ⟨rfl,rfl,rfl⟩ | ⟨rfl | rfl,rfl⟩ | rfl | rfl | rfl
 ·rw [zZ];simp
 ·rw [MG];simp [aX]
 ·rw [Me];simp [aX]
 ·rw [zt];simp [aX]
 ·rw [LZ];simp [aX]
 ·rw [MC];simp [aX]
theorem JC {k a b:Nat} (h:QK k a b) (c:UInt8) (p:List UInt8) (hb:bI (c :: p) (qk k a b)=true):(c=113→k=14)∧(c=101→k=15):=by
 obtain⟨_,_,h⟩:=h
 rcases h with ⟨rfl,rfl,rfl⟩ | ⟨rfl | rfl,rfl⟩ | rfl | rfl | rfl
 ·rw [zZ,fP,Bool.and_eq_true,decide_eq_true_iff] at hb
  rw [hb.1];decide
 ·rw [MG,fP,Bool.and_eq_true,decide_eq_true_iff] at hb
  rw [hb.1];exact⟨fun x=>absurd x (by decide),fun x=>absurd x (by decide)⟩
 ·rw [Me,fP,Bool.and_eq_true,decide_eq_true_iff] at hb
  rw [hb.1];exact⟨fun x=>absurd x (by decide),fun x=>absurd x (by decide)⟩
 ·rw [zt,fP,Bool.and_eq_true,decide_eq_true_iff] at hb
  rw [hb.1];exact⟨fun x=>rfl,fun x=>absurd x (by decide)⟩
 ·rw [LZ,fP,Bool.and_eq_true,decide_eq_true_iff] at hb
  rw [hb.1];exact⟨fun x=>absurd x (by decide),fun x=>rfl⟩
 ·rw [MC,fP,Bool.and_eq_true,decide_eq_true_iff] at hb
  rw [hb.1];exact⟨fun x=>absurd x (by decide),fun x=>absurd x (by decide)⟩
def gQ (F:List aJ) (k a b:Nat):Option (List UInt8):=dE F (qk k a b)
theorem Og {k a b:Nat} (h:QK k a b) (F:List aJ) {v:List UInt8} (hv:v.length≤4096):bW F (qk k a b) v=insL F (qk k a b) v:=by
 have:=Nb h
 have e:fV (qk k a b) v=0:=by unfold fV;rw [if_neg (by omega),if_neg (by omega)]
 unfold bW
 rw [if_pos e]
theorem pG {k a b k' a' b':Nat} (h:QK k a b) (h':QK k' a' b') (F:List aJ) {v:List UInt8} (hv:v.length≤4096):gQ (bW F (qk k a b) v) k' a' b'=if k=k'∧a=a'∧b=b' then some v else gQ F k' a' b':=by
 unfold gQ
 rw [Og h F hv,Oi]
 by_cases e:k=k'∧a=a'∧b=b'
 ·rw [if_pos ((vX h h').2 e),if_pos e]
 ·rw [if_neg (fun x=>e ((vX h h').1 x)),if_neg e]
theorem zu {k a b k' a' b':Nat} (h:QK k a b) (h':QK k' a' b') (F:List aJ):gQ (dR F (qk k a b)) k' a' b'=if k=k'∧a=a'∧b=b' then none else gQ F k' a' b':=by
 unfold gQ
 rw [MJ]
 by_cases e:k=k'∧a=a'∧b=b'
 ·rw [if_pos ((vX h h').2 e),if_pos e]
 ·rw [if_neg (fun x=>e ((vX h h').1 x)),if_neg e]
def Au (F:List aJ):Prop:=∀ e∈F,∃ k a b,QK k a b∧e.1=qk k a b
theorem jq {F:List aJ} (h:Au F) {k a b:Nat} (hk:QK k a b) (v:List UInt8):Au (bW F (qk k a b) v):=by
 intro e he
 unfold bW at he
 split at he
 ·rcases Ja he with x | rfl
  ·exact h e x
  ·exact⟨k,a,b,hk,rfl⟩
 ·exact h e he
theorem kD {F:List aJ} (h:Au F) (k:List UInt8):Au (dR F k):=fun e he=>h e (Jm he)
def iC (n0 n1 n2 n3 n4 n5:Nat):List UInt8:=bF [⟨0,n0,[]⟩,⟨0,n1,[]⟩,⟨0,n2,[]⟩,⟨0,n3,[]⟩,⟨0,n4,[]⟩,⟨0,n5,[]⟩]
def iw (n0 n1 n2 n3 n4 n5:Nat) (l6:List Nat):List UInt8:=bF [⟨0,n0,[]⟩,⟨0,n1,[]⟩,⟨0,n2,[]⟩,⟨0,n3,[]⟩,⟨0,n4,[]⟩,⟨0,n5,[]⟩,⟨2,0,l6⟩]
theorem lQ {n:Nat} (h:aU n):dW.Ok ⟨0,n,[]⟩:=⟨by simp,h,fun x=>by simp at x,fun x hx=>by cases hx⟩
theorem Nj {l:List Nat} (h:dm l):dW.Ok ⟨2,0,l⟩:=⟨by simp,by simp,fun x=>by simp at x,h⟩
theorem uQ {n:Nat} (h:aU n):one1 (dJ n)=n:=xC (mM [⟨0,n,[]⟩] (fun f hf=>by rw [List.mem_singleton.1 hf];exact lQ h) (ks:=[0]) rfl)
theorem JK:one1 []=0:=by decide
theorem lS (n:Nat):(dJ n).length≤4096:=by simp [dJ,bF,dW.lay,aX]
theorem JA (n0 n1 n2 n3 n4 n5:Nat):(iC n0 n1 n2 n3 n4 n5).length≤4096:=by simp [iC,bF,dW.lay,aX]
theorem yM (a b:Nat):(jg a b).length≤4096:=by rw [Ko];omega
theorem Hy {n0 n1 n2 n3 n4 n5:Nat} (h:dm [n0,n1,n2,n3,n4,n5]):bT [0,0,0,0,0,0] (iC n0 n1 n2 n3 n4 n5)=([⟨0,n0,[]⟩,⟨0,n1,[]⟩,⟨0,n2,[]⟩,⟨0,n3,[]⟩,⟨0,n4,[]⟩,⟨0,n5,[]⟩],0) :=
 mM [⟨0,n0,[]⟩,⟨0,n1,[]⟩,⟨0,n2,[]⟩,⟨0,n3,[]⟩,⟨0,n4,[]⟩,⟨0,n5,[]⟩] (fun f hf=>by
  have hk:f.k=0∧f.ls=[]∧f.n∈[n0,n1,n2,n3,n4,n5]:=by
   simp only [List.mem_cons,List.not_mem_nil,or_false] at hf
   rcases hf with rfl | rfl | rfl | rfl | rfl | rfl <;> simp
  exact⟨by omega,h _ hk.2.2,fun x=>by omega,by rw [hk.2.1];exact fun x hx=>absurd hx (by simp)⟩) (ks:=[0,0,0,0,0,0]) rfl
def limQ (l:List Nat):List Nat:=(dW.norm ⟨2,0,l⟩).ls
theorem IL {n0 n1 n2 n3 n4 n5:Nat}{l6:List Nat} (h:dm [n0,n1,n2,n3,n4,n5]) (h6:dm l6):bT [0,0,0,0,0,0,2] (iw n0 n1 n2 n3 n4 n5 l6)=([⟨0,n0,[]⟩,⟨0,n1,[]⟩,⟨0,n2,[]⟩,⟨0,n3,[]⟩,⟨0,n4,[]⟩,⟨0,n5,[]⟩,⟨2,0,limQ l6⟩],0) :=
 mM [⟨0,n0,[]⟩,⟨0,n1,[]⟩,⟨0,n2,[]⟩,⟨0,n3,[]⟩,⟨0,n4,[]⟩,⟨0,n5,[]⟩,⟨2,0,l6⟩] (fun f hf=>by
  simp only [List.mem_cons,List.not_mem_nil,or_false] at hf
  rcases hf with rfl | rfl | rfl | rfl | rfl | rfl | rfl
  ·exact lQ (h _ (by simp))
  ·exact lQ (h _ (by simp))
  ·exact lQ (h _ (by simp))
  ·exact lQ (h _ (by simp))
  ·exact lQ (h _ (by simp))
  ·exact lQ (h _ (by simp))
  ·exact Nj h6) (ks:=[0,0,0,0,0,0,2]) rfl
def ji (F:List aJ) (kind:Nat) (bs:List UInt8) (d v due:Nat):List aJ :=
 jS (bW (bW (bW (vY F) (qk kind (iD F).2 0) bs) (qk 14 due (iD F).2) (dJ kind)) (qk 15 v (iD F).2) (dJ kind)) d v ((nC (bW (bW (bW (vY F) (qk kind (iD F).2 0) bs) (qk 14 due (iD F).2) (dJ kind)) (qk 15 v (iD F).2) (dJ kind)) d v+1) % 18446744073709551616)
def lL (F:List aJ) (kind id v due:Nat):List aJ:=dR (dR (dR F (qk kind id 0)) (qk 14 due id)) (qk 15 v id)
def kK (F:List aJ) (kind id d v due:Nat):List aJ:=if 0<nC (lL F kind id v due) d v then jS (lL F kind id v due) d v (nC (lL F kind id v due) d v - 1) else lL F kind id v due
end Go.Proofs.YtglkmaalpammcaaGreat

/- queue, plain: the entries that live, and what lies for them in a store. -/
import Derived.Test.YtglkmaalpammcaaGreatZE
namespace Go.Proofs.YtglkmaalpammcaaGreat
open Go.Gl Go.RowKit
set_option linter.unusedVariables false
set_option linter.unusedSimpArgs false
def QK (k a b:Nat):Prop:=aU a∧aU b∧((k=2∧a=0∧b=0)∨((k=12∨k=13)∧b=0)∨k=14∨k=15∨k=17)
theorem zu {k a b:Nat} (h:QK k a b):dZ k a b=some (qk k a b):=by
 have:∃ x,dZ k a b=some x:=by
  obtain⟨_,_,h⟩:=h
  rcases h with ⟨rfl,rfl,rfl⟩ | ⟨rfl | rfl,rfl⟩ | rfl | rfl | rfl <;> exact⟨_,rfl⟩
 obtain⟨x,hx⟩:=this
 unfold qk
 rw [hx]
 rfl
theorem wG {k a b k' a' b':Nat} (h:QK k a b) (h':QK k' a' b'):qk k a b=qk k' a' b'↔k=k'∧a=a'∧b=b':=by
 constructor
 ·intro e
  have h1:=zu h
  have h2:=zu h'
  rw [e] at h1
  obtain⟨x,y,z⟩:=yB h1 h2 h.1 h.2.1 h'.1 h'.2.1
  exact⟨by omega,y,z⟩
 ·rintro⟨rfl,rfl,rfl⟩
  rfl
theorem qm {k:Nat}{f:dI} (hf:dP k=some f) {a b:Nat} (h:kD f a b=true):qk k a b=dW f a b:=by
 unfold qk dZ
 simp only [Int.toNat_natCast,hf,h,if_true]
 rfl
theorem Ak:qk 2 0 0=[99]:=by decide
theorem L9 (a:Nat):qk 12 a 0=117 :: be 8 a:=by
 rw [qm (k:=12) (f:=⟨117,0,true,false,false⟩) rfl (by simp [kD])]
 simp [dW,gm,eu]
theorem L8 (a:Nat):qk 13 a 0=114 :: be 8 a:=by
 rw [qm (k:=13) (f:=⟨114,0,true,false,false⟩) rfl (by simp [kD])]
 simp [dW,gm,eu]
theorem zH (a b:Nat):qk 14 a b=113 :: (be 8 a ++ be 8 b):=by
 rw [qm (k:=14) (f:=⟨113,0,true,true,false⟩) rfl (by simp [kD])]
 simp [dW,gm,eu]
theorem MG (a b:Nat):qk 15 a b=101 :: (be 8 a ++ be 8 b):=by
 rw [qm (k:=15) (f:=⟨101,0,true,true,false⟩) rfl (by simp [kD])]
 simp [dW,gm,eu]
theorem MH (a b:Nat):qk 17 a b=107 :: (be 8 a ++ be 8 b):=by
 rw [qm (k:=17) (f:=⟨107,0,true,true,false⟩) rfl (by simp [kD])]
 simp [dW,gm,eu]
theorem MJ {k a b:Nat} (h:QK k a b):1≤(qk k a b).length∧(qk k a b).length≤64:=by
 obtain⟨_,_,h⟩:=h
 rcases h with ⟨rfl,rfl,rfl⟩ | ⟨rfl | rfl,rfl⟩ | rfl | rfl | rfl
 ·rw [Ak];simp
 ·rw [L9];simp [aX]
 ·rw [L8];simp [aX]
 ·rw [zH];simp [aX]
 ·rw [MG];simp [aX]
 ·rw [MH];simp [aX]
theorem I9 {k a b:Nat} (h:QK k a b) (c:UInt8) (p:List UInt8) (hb:bI (c :: p) (qk k a b)=true):(c=113→k=14)∧(c=101→k=15):=by
 obtain⟨_,_,h⟩:=h
 rcases h with ⟨rfl,rfl,rfl⟩ | ⟨rfl | rfl,rfl⟩ | rfl | rfl | rfl
 ·rw [Ak,fO,Bool.and_eq_true,decide_eq_true_iff] at hb
  rw [hb.1];decide
 ·rw [L9,fO,Bool.and_eq_true,decide_eq_true_iff] at hb
  rw [hb.1];exact⟨fun x=>absurd x (by decide),fun x=>absurd x (by decide)⟩
 ·rw [L8,fO,Bool.and_eq_true,decide_eq_true_iff] at hb
  rw [hb.1];exact⟨fun x=>absurd x (by decide),fun x=>absurd x (by decide)⟩
 ·rw [zH,fO,Bool.and_eq_true,decide_eq_true_iff] at hb
  rw [hb.1];exact⟨fun x=>rfl,fun x=>absurd x (by decide)⟩
 ·rw [MG,fO,Bool.and_eq_true,decide_eq_true_iff] at hb
  rw [hb.1];exact⟨fun x=>absurd x (by decide),fun x=>rfl⟩
 ·rw [MH,fO,Bool.and_eq_true,decide_eq_true_iff] at hb
  rw [hb.1];exact⟨fun x=>absurd x (by decide),fun x=>absurd x (by decide)⟩
def gQ (F:List aJ) (k a b:Nat):Option (List UInt8):=dE F (qk k a b)
theorem Nb {k a b:Nat} (h:QK k a b) (F:List aJ) {v:List UInt8} (hv:v.length≤4096):bW F (qk k a b) v=insL F (qk k a b) v:=by
 have:=MJ h
 have e:fQ (qk k a b) v=0:=by unfold fQ;rw [if_neg (by omega),if_neg (by omega)]
 unfold bW
 rw [if_pos e]
theorem pq {k a b k' a' b':Nat} (h:QK k a b) (h':QK k' a' b') (F:List aJ) {v:List UInt8} (hv:v.length≤4096):gQ (bW F (qk k a b) v) k' a' b'=if k=k'∧a=a'∧b=b' then some v else gQ F k' a' b':=by
 unfold gQ
 rw [Nb h F hv,NZ]
 by_cases e:k=k'∧a=a'∧b=b'
 ·rw [if_pos ((wG h h').2 e),if_pos e]
 ·rw [if_neg (fun x=>e ((wG h h').1 x)),if_neg e]
theorem zl {k a b k' a' b':Nat} (h:QK k a b) (h':QK k' a' b') (F:List aJ):gQ (dR F (qk k a b)) k' a' b'=if k=k'∧a=a'∧b=b' then none else gQ F k' a' b':=by
 unfold gQ
 rw [NL]
 by_cases e:k=k'∧a=a'∧b=b'
 ·rw [if_pos ((wG h h').2 e),if_pos e]
 ·rw [if_neg (fun x=>e ((wG h h').1 x)),if_neg e]
def BQ (F:List aJ):Prop:=∀ e∈F,∃ k a b,QK k a b∧e.1=qk k a b
theorem jE {F:List aJ} (h:BQ F) {k a b:Nat} (hk:QK k a b) (v:List UInt8):BQ (bW F (qk k a b) v):=by
 intro e he
 unfold bW at he
 split at he
 ·rcases KH he with x | rfl
  ·exact h e x
  ·exact⟨k,a,b,hk,rfl⟩
 ·exact h e he
theorem kH {F:List aJ} (h:BQ F) (k:List UInt8):BQ (dR F k):=fun e he=>h e (JF he)
def iC (n0 n1 n2 n3 n4 n5:Nat):List UInt8:=bF [⟨0,n0,[]⟩,⟨0,n1,[]⟩,⟨0,n2,[]⟩,⟨0,n3,[]⟩,⟨0,n4,[]⟩,⟨0,n5,[]⟩]
def iy (n0 n1 n2 n3 n4 n5:Nat) (l6:List Nat):List UInt8:=bF [⟨0,n0,[]⟩,⟨0,n1,[]⟩,⟨0,n2,[]⟩,⟨0,n3,[]⟩,⟨0,n4,[]⟩,⟨0,n5,[]⟩,⟨2,0,l6⟩]
theorem lV {n:Nat} (h:aU n):dX.Ok ⟨0,n,[]⟩:=⟨by simp,h,fun x=>by simp at x,fun x hx=>by cases hx⟩
theorem OI {l:List Nat} (h:dm l):dX.Ok ⟨2,0,l⟩:=⟨by simp,by simp,fun x=>by simp at x,h⟩
theorem uS {n:Nat} (h:aU n):one1 (dJ n)=n:=xm (mF [⟨0,n,[]⟩] (fun f hf=>by rw [List.mem_singleton.1 hf];exact lV h) (ks:=[0]) rfl)
theorem J9:one1 []=0:=by decide
theorem lS (n:Nat):(dJ n).length≤4096:=by simp [dJ,bF,dX.lay,aX]
theorem Le (n0 n1 n2 n3 n4 n5:Nat):(iC n0 n1 n2 n3 n4 n5).length≤4096:=by simp [iC,bF,dX.lay,aX]
theorem xZ (a b:Nat):(ji a b).length≤4096:=by rw [LP];omega
theorem Hu {n0 n1 n2 n3 n4 n5:Nat} (h:dm [n0,n1,n2,n3,n4,n5]):bU [0,0,0,0,0,0] (iC n0 n1 n2 n3 n4 n5)=([⟨0,n0,[]⟩,⟨0,n1,[]⟩,⟨0,n2,[]⟩,⟨0,n3,[]⟩,⟨0,n4,[]⟩,⟨0,n5,[]⟩],0) :=
 mF [⟨0,n0,[]⟩,⟨0,n1,[]⟩,⟨0,n2,[]⟩,⟨0,n3,[]⟩,⟨0,n4,[]⟩,⟨0,n5,[]⟩] (fun f hf=>by
  have hk:f.k=0∧f.ls=[]∧f.n∈[n0,n1,n2,n3,n4,n5]:=by
   simp only [List.mem_cons,List.not_mem_nil,or_false] at hf
   rcases hf with rfl | rfl | rfl | rfl | rfl | rfl <;> simp
  exact⟨by omega,h _ hk.2.2,fun x=>by omega,by rw [hk.2.1];exact fun x hx=>absurd hx (by simp)⟩) (ks:=[0,0,0,0,0,0]) rfl
def limQ (l:List Nat):List Nat:=(dX.norm ⟨2,0,l⟩).ls
theorem GG {n0 n1 n2 n3 n4 n5:Nat}{l6:List Nat} (h:dm [n0,n1,n2,n3,n4,n5]) (h6:dm l6):bU [0,0,0,0,0,0,2] (iy n0 n1 n2 n3 n4 n5 l6)=([⟨0,n0,[]⟩,⟨0,n1,[]⟩,⟨0,n2,[]⟩,⟨0,n3,[]⟩,⟨0,n4,[]⟩,⟨0,n5,[]⟩,⟨2,0,limQ l6⟩],0) :=
 mF [⟨0,n0,[]⟩,⟨0,n1,[]⟩,⟨0,n2,[]⟩,⟨0,n3,[]⟩,⟨0,n4,[]⟩,⟨0,n5,[]⟩,⟨2,0,l6⟩] (fun f hf=>by
  simp only [List.mem_cons,List.not_mem_nil,or_false] at hf
  rcases hf with rfl | rfl | rfl | rfl | rfl | rfl | rfl
  ·exact lV (h _ (by simp))
  ·exact lV (h _ (by simp))
  ·exact lV (h _ (by simp))
  ·exact lV (h _ (by simp))
  ·exact lV (h _ (by simp))
  ·exact lV (h _ (by simp))
  ·exact OI h6) (ks:=[0,0,0,0,0,0,2]) rfl
def jk (F:List aJ) (kind:Nat) (bs:List UInt8) (d v due:Nat):List aJ :=
 jS (bW (bW (bW (xg F) (qk kind (iD F).2 0) bs) (qk 14 due (iD F).2) (dJ kind)) (qk 15 v (iD F).2) (dJ kind)) d v ((nz (bW (bW (bW (xg F) (qk kind (iD F).2 0) bs) (qk 14 due (iD F).2) (dJ kind)) (qk 15 v (iD F).2) (dJ kind)) d v+1) % 18446744073709551616)
def lT (F:List aJ) (kind id v due:Nat):List aJ:=dR (dR (dR F (qk kind id 0)) (qk 14 due id)) (qk 15 v id)
def kJ (F:List aJ) (kind id d v due:Nat):List aJ:=if 0<nz (lT F kind id v due) d v then jS (lT F kind id v due) d v (nz (lT F kind id v due) d v - 1) else lT F kind id v due
end Go.Proofs.YtglkmaalpammcaaGreat

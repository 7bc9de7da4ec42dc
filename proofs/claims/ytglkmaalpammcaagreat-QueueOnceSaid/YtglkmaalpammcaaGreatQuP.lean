/- queue, plain: the entries that live, and what lies for them in a store. -/
import Derived.Test.YtglkmaalpammcaaGreatZE
namespace Go.Proofs.YtglkmaalpammcaaGreat
open Go.Gl Go.RowKit
set_option linter.unusedVariables false
set_option linter.unusedSimpArgs false
def QK (k a b:Nat):Prop:=bD a∧bD b∧((k=2∧a=0∧b=0)∨((k=12∨k=13)∧b=0)∨k=14∨k=15∨k=17)
theorem Fa {k a b:Nat} (h:QK k a b):iT k a b=some (qk k a b):=by
 have:∃ x,iT k a b=some x:=by
  obtain⟨_,_,h⟩:=h
  rcases h with ⟨rfl,rfl,rfl⟩ | ⟨rfl | rfl,rfl⟩ | rfl | rfl | rfl <;> exact⟨_,rfl⟩
 obtain⟨x,hx⟩:=this
 unfold qk
 rw [hx]
 rfl
theorem zx {k a b k' a' b':Nat} (h:QK k a b) (h':QK k' a' b'):qk k a b=qk k' a' b'↔k=k'∧a=a'∧b=b':=by
 constructor
 ·intro e
  have h1:=Fa h
  have h2:=Fa h'
  rw [e] at h1
  obtain⟨x,y,z⟩:=EH h1 h2 h.1 h.2.1 h'.1 h'.2.1
  exact⟨by omega,y,z⟩
 ·rintro⟨rfl,rfl,rfl⟩
  rfl
theorem xy {k:Nat}{f:gW} (hf:iw k=some f) {a b:Nat} (h:sG f a b=true):qk k a b=iP f a b:=by
 unfold qk iT
 simp only [Int.toNat_natCast,hf,h,if_true]
 rfl
theorem Gn:qk 2 0 0=[99]:=by decide
theorem RU (a:Nat):qk 12 a 0=117 :: be 8 a:=by
 rw [xy (k:=12) (f:=⟨117,0,true,false,false⟩) rfl (by simp [sG])]
 simp [iP,jT,ja]
theorem RS (a:Nat):qk 13 a 0=114 :: be 8 a:=by
 rw [xy (k:=13) (f:=⟨114,0,true,false,false⟩) rfl (by simp [sG])]
 simp [iP,jT,ja]
theorem EO (a b:Nat):qk 14 a b=113 :: (be 8 a ++ be 8 b):=by
 rw [xy (k:=14) (f:=⟨113,0,true,true,false⟩) rfl (by simp [sG])]
 simp [iP,jT,ja]
theorem EX (a b:Nat):qk 15 a b=101 :: (be 8 a ++ be 8 b):=by
 rw [xy (k:=15) (f:=⟨101,0,true,true,false⟩) rfl (by simp [sG])]
 simp [iP,jT,ja]
theorem RX (a b:Nat):qk 17 a b=107 :: (be 8 a ++ be 8 b):=by
 rw [xy (k:=17) (f:=⟨107,0,true,true,false⟩) rfl (by simp [sG])]
 simp [iP,jT,ja]
theorem SS {k a b:Nat} (h:QK k a b):1≤(qk k a b).length∧(qk k a b).length≤64:=by
 obtain⟨_,_,h⟩:=h
 rcases h with ⟨rfl,rfl,rfl⟩ | ⟨rfl | rfl,rfl⟩ | rfl | rfl | rfl
 ·rw [Gn];simp
 ·rw [RU];simp [bU]
 ·rw [RS];simp [bU]
 ·rw [EO];simp [bU]
 ·rw [EX];simp [bU]
 ·rw [RX];simp [bU]
theorem G9 {k a b:Nat} (h:QK k a b) (c:UInt8) (p:List UInt8) (hb:dh (c :: p) (qk k a b)=true):(c=113→k=14)∧(c=101→k=15):=by
 obtain⟨_,_,h⟩:=h
 rcases h with ⟨rfl,rfl,rfl⟩ | ⟨rfl | rfl,rfl⟩ | rfl | rfl | rfl
 ·rw [Gn,jq,Bool.and_eq_true,decide_eq_true_iff] at hb
  rw [hb.1];decide
 ·rw [RU,jq,Bool.and_eq_true,decide_eq_true_iff] at hb
  rw [hb.1];exact⟨fun x=>absurd x (by decide),fun x=>absurd x (by decide)⟩
 ·rw [RS,jq,Bool.and_eq_true,decide_eq_true_iff] at hb
  rw [hb.1];exact⟨fun x=>absurd x (by decide),fun x=>absurd x (by decide)⟩
 ·rw [EO,jq,Bool.and_eq_true,decide_eq_true_iff] at hb
  rw [hb.1];exact⟨fun x=>rfl,fun x=>absurd x (by decide)⟩
 ·rw [EX,jq,Bool.and_eq_true,decide_eq_true_iff] at hb
  rw [hb.1];exact⟨fun x=>absurd x (by decide),fun x=>rfl⟩
 ·rw [RX,jq,Bool.and_eq_true,decide_eq_true_iff] at hb
  rw [hb.1];exact⟨fun x=>absurd x (by decide),fun x=>absurd x (by decide)⟩
def gQ (F:List aN) (k a b:Nat):Option (List UInt8):=gz F (qk k a b)
theorem Tf {k a b:Nat} (h:QK k a b) (F:List aN) {v:List UInt8} (hv:v.length≤4096):fV F (qk k a b) v=insL F (qk k a b) v:=by
 have:=SS h
 have e:jJ (qk k a b) v=0:=by unfold jJ;rw [if_neg (by omega),if_neg (by omega)]
 unfold fV
 rw [if_pos e]
theorem xZ {k a b k' a' b':Nat} (h:QK k a b) (h':QK k' a' b') (F:List aN) {v:List UInt8} (hv:v.length≤4096):gQ (fV F (qk k a b) v) k' a' b'=if k=k'∧a=a'∧b=b' then some v else gQ F k' a' b':=by
 unfold gQ
 rw [Tf h F hv,Tj]
 by_cases e:k=k'∧a=a'∧b=b'
 ·rw [if_pos ((zx h h').2 e),if_pos e]
 ·rw [if_neg (fun x=>e ((zx h h').1 x)),if_neg e]
theorem ER {k a b k' a' b':Nat} (h:QK k a b) (h':QK k' a' b') (F:List aN):gQ (iC F (qk k a b)) k' a' b'=if k=k'∧a=a'∧b=b' then none else gQ F k' a' b':=by
 unfold gQ
 rw [Un]
 by_cases e:k=k'∧a=a'∧b=b'
 ·rw [if_pos ((zx h h').2 e),if_pos e]
 ·rw [if_neg (fun x=>e ((zx h h').1 x)),if_neg e]
def GV (F:List aN):Prop:=∀ e∈F,∃ k a b,QK k a b∧e.1=qk k a b
theorem sD {F:List aN} (h:GV F) {k a b:Nat} (hk:QK k a b) (v:List UInt8):GV (fV F (qk k a b) v):=by
 intro e he
 unfold fV at he
 split at he
 ·rcases PZ he with x | rfl
  ·exact h e x
  ·exact⟨k,a,b,hk,rfl⟩
 ·exact h e he
theorem su {F:List aN} (h:GV F) (k:List UInt8):GV (iC F k):=fun e he=>h e (Rk he)
def pF (n0 n1 n2 n3 n4 n5:Nat):List UInt8:=dC [⟨0,n0,[]⟩,⟨0,n1,[]⟩,⟨0,n2,[]⟩,⟨0,n3,[]⟩,⟨0,n4,[]⟩,⟨0,n5,[]⟩]
def pq (n0 n1 n2 n3 n4 n5:Nat) (l6:List Nat):List UInt8:=dC [⟨0,n0,[]⟩,⟨0,n1,[]⟩,⟨0,n2,[]⟩,⟨0,n3,[]⟩,⟨0,n4,[]⟩,⟨0,n5,[]⟩,⟨2,0,l6⟩]
theorem uk {n:Nat} (h:bD n):iO.Ok ⟨0,n,[]⟩:=⟨by simp,h,fun x=>by simp at x,fun x hx=>by cases hx⟩
theorem Ul {l:List Nat} (h:gu l):iO.Ok ⟨2,0,l⟩:=⟨by simp,by simp,fun x=>by simp at x,h⟩
theorem AY {n:Nat} (h:bD n):one1 (gV n)=n:=Du (uq [⟨0,n,[]⟩] (fun f hf=>by rw [List.mem_singleton.1 hf];exact uk h) (ks:=[0]) rfl)
theorem Pv:one1 []=0:=by decide
theorem ul (n:Nat):(gV n).length≤4096:=by simp [gV,dC,iO.lay,bU]
theorem Ro (n0 n1 n2 n3 n4 n5:Nat):(pF n0 n1 n2 n3 n4 n5).length≤4096:=by simp [pF,dC,iO.lay,bU]
theorem Eo (a b:Nat):(qJ a b).length≤4096:=by rw [PW];omega
theorem LZ {n0 n1 n2 n3 n4 n5:Nat} (h:gu [n0,n1,n2,n3,n4,n5]):fC [0,0,0,0,0,0] (pF n0 n1 n2 n3 n4 n5)=([⟨0,n0,[]⟩,⟨0,n1,[]⟩,⟨0,n2,[]⟩,⟨0,n3,[]⟩,⟨0,n4,[]⟩,⟨0,n5,[]⟩],0) :=
 uq [⟨0,n0,[]⟩,⟨0,n1,[]⟩,⟨0,n2,[]⟩,⟨0,n3,[]⟩,⟨0,n4,[]⟩,⟨0,n5,[]⟩] (fun f hf=>by
  have hk:f.k=0∧f.ls=[]∧f.n∈[n0,n1,n2,n3,n4,n5]:=by
   simp only [List.mem_cons,List.not_mem_nil,or_false] at hf
   rcases hf with rfl | rfl | rfl | rfl | rfl | rfl <;> simp
  exact⟨by omega,h _ hk.2.2,fun x=>by omega,by rw [hk.2.1];exact fun x hx=>absurd hx (by simp)⟩) (ks:=[0,0,0,0,0,0]) rfl
def limQ (l:List Nat):List Nat:=(iO.norm ⟨2,0,l⟩).ls
theorem Nr {n0 n1 n2 n3 n4 n5:Nat}{l6:List Nat} (h:gu [n0,n1,n2,n3,n4,n5]) (h6:gu l6):fC [0,0,0,0,0,0,2] (pq n0 n1 n2 n3 n4 n5 l6)=([⟨0,n0,[]⟩,⟨0,n1,[]⟩,⟨0,n2,[]⟩,⟨0,n3,[]⟩,⟨0,n4,[]⟩,⟨0,n5,[]⟩,⟨2,0,limQ l6⟩],0) :=
 uq [⟨0,n0,[]⟩,⟨0,n1,[]⟩,⟨0,n2,[]⟩,⟨0,n3,[]⟩,⟨0,n4,[]⟩,⟨0,n5,[]⟩,⟨2,0,l6⟩] (fun f hf=>by
  simp only [List.mem_cons,List.not_mem_nil,or_false] at hf
  rcases hf with rfl | rfl | rfl | rfl | rfl | rfl | rfl
  ·exact uk (h _ (by simp))
  ·exact uk (h _ (by simp))
  ·exact uk (h _ (by simp))
  ·exact uk (h _ (by simp))
  ·exact uk (h _ (by simp))
  ·exact uk (h _ (by simp))
  ·exact Ul h6) (ks:=[0,0,0,0,0,0,2]) rfl
def qf (F:List aN) (kind:Nat) (bs:List UInt8) (d v due:Nat):List aN :=
 rD (fV (fV (fV (A7 F) (qk kind (kC F).2 0) bs) (qk 14 due (kC F).2) (gV kind)) (qk 15 v (kC F).2) (gV kind)) d v ((sN (fV (fV (fV (A7 F) (qk kind (kC F).2 0) bs) (qk 14 due (kC F).2) (gV kind)) (qk 15 v (kC F).2) (gV kind)) d v+1) % 18446744073709551616)
def tZ (F:List aN) (kind id v due:Nat):List aN:=iC (iC (iC F (qk kind id 0)) (qk 14 due id)) (qk 15 v id)
def rX (F:List aN) (kind id d v due:Nat):List aN:=if 0<sN (tZ F kind id v due) d v then rD (tZ F kind id v due) d v (sN (tZ F kind id v due) d v - 1) else tZ F kind id v due
end Go.Proofs.YtglkmaalpammcaaGreat

/- Keys, plainly: what is read out of bytes is what they were made of; no key is another one's beginning; their order. -/
import Derived.Test.YtglkmaalpammcaaGreatZD
namespace Go.Proofs.YtglkmaalpammcaaGreat
open Go.Gl Go.RowKit
set_option linter.unusedVariables false
def mJ:Nat:=18446744073709551615
def qE (f:dD) (b:List UInt8):Nat:=dX f (if f.a=true∧9≤b.length then num ((b.drop 1).take 8) else 0)
def oK (f:dD) (b:List UInt8):Nat:=if f.b=true∧8≤b.length then num (b.drop (b.length - 8)) else 0
theorem jk {k:Nat}{f:dD} (hf:dK k=some f):1≤k∧k≤17:=by
 rcases Nat.lt_or_ge k 18 with h | h
 ·rcases Nat.eq_zero_or_pos k with rfl | h0
  ·simp [dK] at hf
  ·omega
 ·obtain⟨j,rfl⟩:∃ j,k=j+18:=⟨k - 18,by omega⟩
  simp [dK] at hf
theorem Fh {k:Nat}{f:dD} (hf:dK k=some f):(f.turned=true→f.a=true)∧(f.b=true→f.a=true):=by
 obtain⟨h1,h2⟩:=jk hf
 have:k=1∨k=2∨k=3∨k=4∨k=5∨k=6∨k=7∨k=8∨k=9∨k=10∨k=11∨k=12∨k=13∨k=14∨k=15∨k=16∨k=17:=by omega
 rcases this with rfl | rfl | rfl | rfl | rfl | rfl | rfl | rfl | rfl | rfl | rfl | rfl | rfl | rfl | rfl | rfl | rfl <;> cases hf <;> decide
theorem Fg (f:dD) (a:Nat) (h:a≤18446744073709551615):dX f (dX f a)=a:=by
 unfold dX
 split <;> omega
theorem Bl (f:dD) (a:Nat) (h:a≤18446744073709551615):dX f a≤18446744073709551615:=by
 unfold dX
 split <;> omega
theorem LZ {k a b:Nat}{f:dD} (hf:dK k=some f) (hn:jT f a b=true) (ha:a≤18446744073709551615) (hb:b≤18446744073709551615):qE f (dR f a b)=a∧oK f (dR f a b)=b:=by
 obtain⟨ht,hba⟩:=Fh hf
 have hA:dX f a<18446744073709551616:=by have:=Bl f a ha;omega
 have h2:=Fg f a ha
 obtain⟨hd,md,fa,fb,ft⟩:=f
 simp only [jT,Bool.and_eq_true,Bool.or_eq_true,decide_eq_true_eq] at hn
 cases fa
 ·have hbf:fb=false:=by cases fb;rfl;exact absurd (hba rfl) (by simp)
  have htf:ft=false:=by cases ft;rfl;exact absurd (ht rfl) (by simp)
  subst hbf htf
  simp at hn
  simp [qE,oK,dX,hn.1,hn.2]
 ·have e1:(((dR ⟨hd,md,true,fb,ft⟩ a b).drop 1).take 8)=be 8 (dX ⟨hd,md,true,fb,ft⟩ a):=by
   simp only [dR,fQ,if_true,List.append_assoc,List.cons_append,List.nil_append,List.drop_succ_cons,List.drop_zero]
   rw [List.take_append_of_le_length (by rw [aX];omega),List.take_of_length_le (by rw [aX];omega)]
  have l1:9≤(dR ⟨hd,md,true,fb,ft⟩ a b).length:=by
   simp [dR,fQ,aX]
  refine⟨?_,?_⟩
  ·unfold qE
   rw [if_pos ⟨rfl,l1⟩,e1,Ec _ hA,h2]
  ·cases fb
   ·simp at hn
    simp [oK,hn]
   ·unfold oK
    rw [if_pos ⟨rfl,by omega⟩]
    have e2:(dR ⟨hd,md,true,true,ft⟩ a b).drop ((dR ⟨hd,md,true,true,ft⟩ a b).length - 8)=be 8 b:=by
     simp only [dR,if_true]
     rw [List.length_append,aX,Nat.add_sub_cancel,List.drop_left]
    rw [e2,Ec b (by omega)]
def iO (b:List UInt8) (k:Int) (A B:Nat) (n:Int):Prop :=
 (n=0∧dU k A B=some b∧A≤mJ∧B≤mJ∧1≤k∧k≤17)∨(n=70∧k=0∧A=0∧B=0∧∀ (k':Nat) (A' B':Nat),A'≤mJ→B'≤mJ→dU k' A' B'≠some b)
theorem qX {k:Nat}{f:dD}{A B:Nat}{b:List UInt8} (hf:dK k=some f) (h:dU k A B=some b) (hA:A≤mJ) (hB:B≤mJ):qE f b=A∧oK f b=B:=by
 simp only [dU,Int.toNat_natCast,hf] at h
 split at h
 ·rename_i hn
  cases h
  exact LZ hf hn hA hB
 ·cases h
theorem qy {k:Int}{A B:Nat}{b:List UInt8} (h:dU k A B=some b):∃ f,dK k.toNat=some f∧jT f A B=true∧b=dR f A B:=by
 unfold dU at h
 split at h
 ·cases h
 ·rename_i f hf
  split at h
  ·rename_i hn;cases h;exact⟨f,hf,hn,rfl⟩
  ·cases h
theorem lH {k:Int}{A B:Nat}{b:List UInt8} (h:dU k A B=some b):1≤k∧k≤17:=by
 obtain⟨f,hf,_⟩:=qy h
 have:=jk hf
 omega
def ktag (b:List UInt8):Nat × Nat × Nat:=((b.getD 0 0).toNat,(if (b.getD 0 0).toNat=118 then (b.getD 9 0).toNat else 0),b.length)
theorem yC {k:Nat}{A B:Nat}{b:List UInt8}{f:dD} (hf:dK k=some f) (h:dU k A B=some b):ktag b=(f.head.toNat,(if f.head.toNat=118 then f.mid.toNat else 0),b.length):=by
 simp only [dU,Int.toNat_natCast,hf] at h
 split at h
 ·cases h
  obtain⟨h1,h2⟩:=jk hf
  have:k=1∨k=2∨k=3∨k=4∨k=5∨k=6∨k=7∨k=8∨k=9∨k=10∨k=11∨k=12∨k=13∨k=14∨k=15∨k=16∨k=17:=by omega
  rcases this with rfl | rfl | rfl | rfl | rfl | rfl | rfl | rfl | rfl | rfl | rfl | rfl | rfl | rfl | rfl | rfl | rfl <;> cases hf <;> simp [ktag,dR,fQ,be,dX]
 ·cases h
def nJ (k:Nat):Option (Nat × Nat):=(dK k).map fun g=>(g.head.toNat,if g.head.toNat=118 then g.mid.toNat else 0)
theorem H8 {k k':Nat}{f f':dD} (hf:dK k=some f) (hf':dK k'=some f') (h1:f.head.toNat=f'.head.toNat) (h2:(if f.head.toNat=118 then f.mid.toNat else 0)=(if f'.head.toNat=118 then f'.mid.toNat else 0)):k=k':=by
 have r1:=jk hf
 have r2:=jk hf'
 have t:∀ j:Fin 18,∀ j':Fin 18,nJ j.1=nJ j'.1→nJ j.1≠none→j=j':=by decide
 have e1:nJ k=some (f.head.toNat,if f.head.toNat=118 then f.mid.toNat else 0):=by simp [nJ,hf]
 have e2:nJ k'=some (f'.head.toNat,if f'.head.toNat=118 then f'.mid.toNat else 0):=by simp [nJ,hf']
 have:=t ⟨k,by omega⟩ ⟨k',by omega⟩ (by rw [e1,e2,h2,h1]) (by rw [e1];simp)
 exact congrArg Fin.val this
theorem yl {k k':Int}{A B A' B':Nat}{b:List UInt8} (h:dU k A B=some b) (h':dU k' A' B'=some b) (hA:A≤mJ) (hB:B≤mJ) (hA':A'≤mJ) (hB':B'≤mJ):k=k'∧A=A'∧B=B':=by
 have r:=lH h
 have r':=lH h'
 obtain⟨n,rfl⟩:=Int.eq_ofNat_of_zero_le (a:=k) (by omega)
 obtain⟨n',rfl⟩:=Int.eq_ofNat_of_zero_le (a:=k') (by omega)
 obtain⟨f,hf,_,_⟩:=qy h
 obtain⟨f',hf',_,_⟩:=qy h'
 rw [Int.toNat_natCast] at hf hf'
 have t:=yC hf h
 have t':=yC hf' h'
 rw [t] at t'
 simp only [Prod.mk.injEq] at t'
 obtain rfl:=H8 hf hf' t'.1 t'.2.1
 obtain rfl:f=f':=by rw [hf] at hf';exact Option.some.inj hf'
 obtain⟨c1,c2⟩:=qX hf h hA hB
 obtain⟨c3,c4⟩:=qX hf h' hA' hB'
 exact⟨rfl,c1.symm.trans c3,c2.symm.trans c4⟩
theorem iO.same {b:List UInt8}{k k':Int}{A B A' B':Nat}{n n':Int} (h:iO b k A B n) (h':iO b k' A' B' n'):k=k'∧A=A'∧B=B'∧n=n':=by
 rcases h with ⟨rfl,h1,h2,h3,h4,h5⟩ | ⟨rfl,rfl,rfl,rfl,hno⟩ <;> rcases h' with ⟨rfl,h1',h2',h3',h4',h5'⟩ | ⟨rfl,rfl,rfl,rfl,hno'⟩
 ·obtain⟨e1,e2,e3⟩:=yl h1 h1' h2 h3 h2' h3'
  exact⟨e1,e2,e3,rfl⟩
 ·obtain⟨m,rfl⟩:=Int.eq_ofNat_of_zero_le (a:=k) (by omega)
  exact absurd h1 (hno' m A B h2 h3)
 ·obtain⟨m,rfl⟩:=Int.eq_ofNat_of_zero_le (a:=k') (by omega)
  exact absurd h1' (hno m A' B' h2' h3')
 ·exact⟨rfl,rfl,rfl,rfl⟩
end Go.Proofs.YtglkmaalpammcaaGreat

/- Keys, plainly: what is read out of bytes is what they were made of; no key is another one's beginning; their order. -/
import Derived.Test.YtglkmaalpammcaaZD
namespace Go.Proofs.Ytglkmaalpammcaa
open Go.Gl Go.RowKit
set_option linter.unusedVariables false
def lX:Nat:=18446744073709551615
def og (f:fC) (b:List UInt8):Nat:=gV f (if f.a=true∧9≤b.length then num ((b.drop 1).take 8) else 0)
def ny (f:fC) (b:List UInt8):Nat:=if f.b=true∧8≤b.length then num (b.drop (b.length - 8)) else 0
theorem jO {k:Nat}{f:fC} (hf:fU k=some f):1≤k∧k≤17:=by
 rcases Nat.lt_or_ge k 18 with h | h
 ·rcases Nat.eq_zero_or_pos k with rfl | h0
  ·simp [fU] at hf
  ·omega
 ·obtain⟨j,rfl⟩:∃ j,k=j+18:=⟨k - 18,by omega⟩
  simp [fU] at hf
theorem yJ {k:Nat}{f:fC} (hf:fU k=some f):(f.turned=true→f.a=true)∧(f.b=true→f.a=true):=by
 obtain⟨h1,h2⟩:=jO hf
 have:k=1∨k=2∨k=3∨k=4∨k=5∨k=6∨k=7∨k=8∨k=9∨k=10∨k=11∨k=12∨k=13∨k=14∨k=15∨k=16∨k=17:=by omega
 rcases this with rfl | rfl | rfl | rfl | rfl | rfl | rfl | rfl | rfl | rfl | rfl | rfl | rfl | rfl | rfl | rfl | rfl <;> cases hf <;> decide
theorem yN (f:fC) (a:Nat) (h:a≤18446744073709551615):gV f (gV f a)=a:=by
 unfold gV
 split <;> omega
theorem vY (f:fC) (a:Nat) (h:a≤18446744073709551615):gV f a≤18446744073709551615:=by
 unfold gV
 split <;> omega
theorem DL {k a b:Nat}{f:fC} (hf:fU k=some f) (hn:lV f a b=true) (ha:a≤18446744073709551615) (hb:b≤18446744073709551615):og f (gy f a b)=a∧ny f (gy f a b)=b:=by
 obtain⟨ht,hba⟩:=yJ hf
 have hA:gV f a<18446744073709551616:=by have:=vY f a ha;omega
 have h2:=yN f a ha
 obtain⟨hd,md,fa,fb,ft⟩:=f
 simp only [lV,Bool.and_eq_true,Bool.or_eq_true,decide_eq_true_eq] at hn
 cases fa
 ·have hbf:fb=false:=by cases fb;rfl;exact absurd (hba rfl) (by simp)
  have htf:ft=false:=by cases ft;rfl;exact absurd (ht rfl) (by simp)
  subst hbf htf
  simp at hn
  simp [og,ny,gV,hn.1,hn.2]
 ·have e1:(((gy ⟨hd,md,true,fb,ft⟩ a b).drop 1).take 8)=be 8 (gV ⟨hd,md,true,fb,ft⟩ a):=by
   simp only [gy,ku,if_true,List.append_assoc,List.cons_append,List.nil_append,List.drop_succ_cons,List.drop_zero]
   rw [List.take_append_of_le_length (by rw [eY];omega),List.take_of_length_le (by rw [eY];omega)]
  have l1:9≤(gy ⟨hd,md,true,fb,ft⟩ a b).length:=by
   simp [gy,ku,eY]
  refine⟨?_,?_⟩
  ·unfold og
   rw [if_pos ⟨rfl,l1⟩,e1,yg _ hA,h2]
  ·cases fb
   ·simp at hn
    simp [ny,hn]
   ·unfold ny
    rw [if_pos ⟨rfl,by omega⟩]
    have e2:(gy ⟨hd,md,true,true,ft⟩ a b).drop ((gy ⟨hd,md,true,true,ft⟩ a b).length - 8)=be 8 b:=by
     simp only [gy,if_true]
     rw [List.length_append,eY,Nat.add_sub_cancel,List.drop_left]
    rw [e2,yg b (by omega)]
def jm (b:List UInt8) (k:Int) (A B:Nat) (n:Int):Prop :=
 (n=0∧fQ k A B=some b∧A≤lX∧B≤lX∧1≤k∧k≤17)∨(n=70∧k=0∧A=0∧B=0∧∀ (k':Nat) (A' B':Nat),A'≤lX→B'≤lX→fQ k' A' B'≠some b)
theorem pK {k:Nat}{f:fC}{A B:Nat}{b:List UInt8} (hf:fU k=some f) (h:fQ k A B=some b) (hA:A≤lX) (hB:B≤lX):og f b=A∧ny f b=B:=by
 simp only [fQ,Int.toNat_natCast,hf] at h
 split at h
 ·rename_i hn
  cases h
  exact DL hf hn hA hB
 ·cases h
theorem nZ {k:Int}{A B:Nat}{b:List UInt8} (h:fQ k A B=some b):∃ f,fU k.toNat=some f∧lV f A B=true∧b=gy f A B:=by
 unfold fQ at h
 split at h
 ·cases h
 ·rename_i f hf
  split at h
  ·rename_i hn;cases h;exact⟨f,hf,hn,rfl⟩
  ·cases h
theorem lH {k:Int}{A B:Nat}{b:List UInt8} (h:fQ k A B=some b):1≤k∧k≤17:=by
 obtain⟨f,hf,_⟩:=nZ h
 have:=jO hf
 omega
def ktag (b:List UInt8):Nat × Nat × Nat:=((b.getD 0 0).toNat,(if (b.getD 0 0).toNat=118 then (b.getD 9 0).toNat else 0),b.length)
theorem uh {k:Nat}{A B:Nat}{b:List UInt8}{f:fC} (hf:fU k=some f) (h:fQ k A B=some b):ktag b=(f.head.toNat,(if f.head.toNat=118 then f.mid.toNat else 0),b.length):=by
 simp only [fQ,Int.toNat_natCast,hf] at h
 split at h
 ·cases h
  obtain⟨h1,h2⟩:=jO hf
  have:k=1∨k=2∨k=3∨k=4∨k=5∨k=6∨k=7∨k=8∨k=9∨k=10∨k=11∨k=12∨k=13∨k=14∨k=15∨k=16∨k=17:=by omega
  rcases this with rfl | rfl | rfl | rfl | rfl | rfl | rfl | rfl | rfl | rfl | rfl | rfl | rfl | rfl | rfl | rfl | rfl <;> cases hf <;> simp [ktag,gy,ku,be,gV]
 ·cases h
def mP (k:Nat):Option (Nat × Nat):=(fU k).map fun g=>(g.head.toNat,if g.head.toNat=118 then g.mid.toNat else 0)
theorem zG {k k':Nat}{f f':fC} (hf:fU k=some f) (hf':fU k'=some f') (h1:f.head.toNat=f'.head.toNat) (h2:(if f.head.toNat=118 then f.mid.toNat else 0)=(if f'.head.toNat=118 then f'.mid.toNat else 0)):k=k':=by
 have r1:=jO hf
 have r2:=jO hf'
 have t:∀ j:Fin 18,∀ j':Fin 18,mP j.1=mP j'.1→mP j.1≠none→j=j':=by decide
 have e1:mP k=some (f.head.toNat,if f.head.toNat=118 then f.mid.toNat else 0):=by simp [mP,hf]
 have e2:mP k'=some (f'.head.toNat,if f'.head.toNat=118 then f'.mid.toNat else 0):=by simp [mP,hf']
 have:=t ⟨k,by omega⟩ ⟨k',by omega⟩ (by rw [e1,e2,h2,h1]) (by rw [e1];simp)
 exact congrArg Fin.val this
theorem tC {k k':Int}{A B A' B':Nat}{b:List UInt8} (h:fQ k A B=some b) (h':fQ k' A' B'=some b) (hA:A≤lX) (hB:B≤lX) (hA':A'≤lX) (hB':B'≤lX):k=k'∧A=A'∧B=B':=by
 have r:=lH h
 have r':=lH h'
 obtain⟨n,rfl⟩:=Int.eq_ofNat_of_zero_le (a:=k) (by omega)
 obtain⟨n',rfl⟩:=Int.eq_ofNat_of_zero_le (a:=k') (by omega)
 obtain⟨f,hf,_,_⟩:=nZ h
 obtain⟨f',hf',_,_⟩:=nZ h'
 rw [Int.toNat_natCast] at hf hf'
 have t:=uh hf h
 have t':=uh hf' h'
 rw [t] at t'
 simp only [Prod.mk.injEq] at t'
 obtain rfl:=zG hf hf' t'.1 t'.2.1
 obtain rfl:f=f':=by rw [hf] at hf';exact Option.some.inj hf'
 obtain⟨c1,c2⟩:=pK hf h hA hB
 obtain⟨c3,c4⟩:=pK hf h' hA' hB'
 exact⟨rfl,c1.symm.trans c3,c2.symm.trans c4⟩
theorem jm.same {b:List UInt8}{k k':Int}{A B A' B':Nat}{n n':Int} (h:jm b k A B n) (h':jm b k' A' B' n'):k=k'∧A=A'∧B=B'∧n=n':=by
 rcases h with ⟨rfl,h1,h2,h3,h4,h5⟩ | ⟨rfl,rfl,rfl,rfl,hno⟩ <;> rcases h' with ⟨rfl,h1',h2',h3',h4',h5'⟩ | ⟨rfl,rfl,rfl,rfl,hno'⟩
 ·obtain⟨e1,e2,e3⟩:=tC h1 h1' h2 h3 h2' h3'
  exact⟨e1,e2,e3,rfl⟩
 ·obtain⟨m,rfl⟩:=Int.eq_ofNat_of_zero_le (a:=k) (by omega)
  exact absurd h1 (hno' m A B h2 h3)
 ·obtain⟨m,rfl⟩:=Int.eq_ofNat_of_zero_le (a:=k') (by omega)
  exact absurd h1' (hno m A' B' h2' h3')
 ·exact⟨rfl,rfl,rfl,rfl⟩
end Go.Proofs.Ytglkmaalpammcaa

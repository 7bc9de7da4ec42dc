/- power, plain: the keys of the index and of the bonded; what stands under them. -/
import Derived.Test.YtglkmaalpammcaaBkP
import Derived.Test.YtglkmaalpammcaaKPlain2
import Derived.Test.YtglkmaalpammcaaZB
namespace Go.Proofs.Ytglkmaalpammcaa
open Go.Gl Go.RowKit
set_option linter.unusedVariables false
set_option linter.unusedSimpArgs false
def fA (kind a b:Nat):List UInt8:=(fQ kind a b).getD []
def qI (k a b:Nat):Prop:=a≤18446744073709551615∧b≤18446744073709551615∧(k=10∨(k=11∧b=0))
theorem su {k a b:Nat} (h:qI k a b):fQ k a b=some (fA k a b):=by
 have:∃ x,fQ k a b=some x:=by
  obtain⟨_,_,h⟩:=h
  rcases h with rfl | ⟨rfl,rfl⟩ <;> exact⟨_,rfl⟩
 obtain⟨x,hx⟩:=this
 unfold fA
 rw [hx]
 rfl
theorem zY {k a b k' a' b':Nat} (h:qI k a b) (h':qI k' a' b') (e:fA k a b=fA k' a' b'):k=k'∧a=a'∧b=b':=by
 have h1:=su h
 have h2:=su h'
 rw [e] at h1
 obtain⟨x,y,z⟩:=tC h1 h2 h.1 h.2.1 h'.1 h'.2.1
 exact⟨by omega,y,z⟩
theorem vH {k:Nat}{f:fC} (hf:fU k=some f) {a b:Nat} (h:lV f a b=true):fA k a b=gy f a b:=by
 unfold fA fQ
 simp only [Int.toNat_natCast,hf,h,if_true]
 rfl
theorem sF (a b:Nat):fA 10 a b=105 :: (be 8 (18446744073709551615 - a) ++ be 8 b):=by
 rw [vH (k:=10) (f:=⟨105,0,true,true,true⟩) rfl (by simp [lV])]
 simp [gy,ku,gV]
theorem zo (a:Nat):fA 11 a 0=98 :: be 8 a:=by
 rw [vH (k:=11) (f:=⟨98,0,true,false,false⟩) rfl (by simp [lV])]
 simp [gy,ku,gV]
theorem Az {k a b:Nat} (h:qI k a b):1≤(fA k a b).length∧(fA k a b).length≤64:=by
 obtain⟨_,_,h⟩:=h
 rcases h with rfl | ⟨rfl,rfl⟩
 ·rw [sF];simp [eY]
 ·rw [zo];simp [eY]
theorem zy {k a b:Nat} (h:qI k a b) (c:UInt8) (hb:bQ [c] (fA k a b)=true):(c=105→k=10)∧(c=98→k=11∧b=0):=by
 obtain⟨_,_,h⟩:=h
 rcases h with rfl | ⟨rfl,rfl⟩
 ·rw [sF,kD,Bool.and_eq_true,decide_eq_true_iff] at hb
  rw [hb.1];exact⟨fun x=>rfl,fun x=>absurd x (by decide)⟩
 ·rw [zo,kD,Bool.and_eq_true,decide_eq_true_iff] at hb
  rw [hb.1];exact⟨fun x=>absurd x (by decide),fun x=>⟨rfl,rfl⟩⟩
structure PwF (F:List aN):Prop where
 ris:fO F
 all:∀ e∈F,∃ k a b,qI k a b∧e=(fA k a b,[])
theorem Dp:PwF []:=⟨List.Pairwise.nil,fun e he=>by cases he⟩
theorem zi {k a b:Nat} (h:qI k a b) (F:List aN):ji F (fA k a b) []=insL F (fA k a b) []:=by
 have:=Az h
 have e:ik (fA k a b) []=0:=by unfold ik;rw [if_neg (by omega),if_neg (by simp)]
 unfold ji
 rw [if_pos e]
theorem yx {F:List aN}{k v:List UInt8}{e:aN} (h:e∈insL F k v):e∈F∨e=(k,v):=by
 unfold insL at h
 rcases List.mem_append.1 h with h | h
 ·exact .inl (List.mem_filter.1 h).1
 ·rcases List.mem_cons.1 h with h | h
  ·exact .inr h
  ·exact .inl (List.mem_filter.1 h).1
theorem EN {F:List aN} (h:PwF F) {k a b:Nat} (hk:qI k a b):PwF (ji F (fA k a b) []):=by
 refine⟨zJ h.ris _ _,fun e he=>?_⟩
 rw [zi hk] at he
 rcases yx he with x | rfl
 ·exact h.all e x
 ·exact⟨k,a,b,hk,rfl⟩
theorem zS {α β:Type}{P:β→Prop}{f:β→α}:∀ {l:List α},(∀ x∈l,∃ t,P t∧x=f t)→∃ T:List β,l=T.map f∧∀ t∈T,P t:=by
  intro l
  induction l with
  | nil=>intro _;exact⟨[],rfl,fun t ht=>by cases ht⟩
  | cons a l ih =>
    intro h
    obtain⟨t,ht,rfl⟩:=h a List.mem_cons_self
    obtain⟨T,rfl,hT⟩:=ih (fun x hx=>h x (List.mem_cons_of_mem _ hx))
    exact⟨t :: T,rfl,fun s hs=>by
      rcases List.mem_cons.1 hs with rfl | hs
      · exact ht
      · exact hT s hs⟩
theorem AX {c:UInt8}{a b a' b':Nat} (ha:a≤18446744073709551615) (ha':a'≤18446744073709551615) (hb:b≤18446744073709551615) (hb':b'≤18446744073709551615) (h:aF (c :: (be 8 a ++ be 8 b)) (c :: (be 8 a' ++ be 8 b'))=true):a<a'∨(a=a'∧b<b'):=by
 have h1:aF (be 8 a ++ be 8 b) (be 8 a' ++ be 8 b')=true:=by
  have:=yU [c] (be 8 a ++ be 8 b) (be 8 a' ++ be 8 b')
  rw [show [c] ++ (be 8 a ++ be 8 b)=c :: (be 8 a ++ be 8 b) from rfl,show [c] ++ (be 8 a' ++ be 8 b')=c :: (be 8 a' ++ be 8 b') from rfl] at this
  rw [← this];exact h
 rw [vI 8 _ _ _ _ (by omega) (by omega)] at h1
 by_cases e:a=a'
 ·rw [if_pos e] at h1
  have h2:=vI 8 b b' [] [] (by omega) (by omega)
  rw [List.append_nil,List.append_nil] at h2
  rw [h2] at h1
  by_cases e2:b=b'
  ·rw [if_pos e2] at h1;cases h1
  ·rw [if_neg e2] at h1;exact .inr ⟨e,of_decide_eq_true h1⟩
 ·rw [if_neg e] at h1
  exact .inl (of_decide_eq_true h1)
def mQ (t:Nat × Nat):Prop:=t.1≤18446744073709551615∧t.2≤18446744073709551615
def mW (T:List (Nat × Nat)):List aN:=T.map (fun t=>(fA 10 t.1 t.2,[]))
def oz (V:List Nat):List aN:=V.map (fun v=>(fA 11 v 0,[]))
theorem Es {F:List aN} (h:PwF F):∃ T:List (Nat × Nat),F.filter (fun e=>bQ [105] e.1)=mW T∧(∀ t∈T,mQ t)∧T.Pairwise (fun s t=>t.1<s.1∨(s.1=t.1∧s.2<t.2)):=by
 obtain⟨T,hT,hP⟩:=zS (P:=mQ) (f:=fun t:Nat × Nat=>((fA 10 t.1 t.2,[]):aN)) (l:=F.filter (fun e=>bQ [105] e.1)) (fun x hx=>by
  obtain⟨hx,hb⟩:=List.mem_filter.1 hx
  obtain⟨k,a,b,hq,rfl⟩:=h.all x hx
  obtain rfl:=(zy hq _ hb).1 rfl
  exact⟨(a,b),⟨hq.1,hq.2.1⟩,rfl⟩)
 refine⟨T,hT,hP,?_⟩
 have hr:fO (F.filter (fun e=>bQ [105] e.1)):=List.Pairwise.filter _ h.ris
 rw [hT] at hr
 refine List.Pairwise.imp_of_mem ?_ (List.pairwise_map.1 hr)
 intro s t hs ht hl
 have o:=hP s hs
 have o':=hP t ht
 unfold mQ at o o'
 simp only [sF] at hl
 have:=AX (by omega) (by omega) o.2 o'.2 hl
 omega
theorem zf {F:List aN}{T:List (Nat × Nat)} (hT:F.filter (fun e=>bQ [105] e.1)=mW T) (hP:∀ t∈T,mQ t) {t:Nat × Nat} (ht:mQ t):t∈T↔(fA 10 t.1 t.2,[])∈F:=by
 have h1:((fA 10 t.1 t.2,[]):aN)∈F.filter (fun e=>bQ [105] e.1)↔((fA 10 t.1 t.2,[]):aN)∈F:=by
  rw [List.mem_filter]
  exact⟨fun x=>x.1,fun x=>⟨x,by simp only;rw [sF,kD];simp [qX]⟩⟩
 rw [← h1,hT]
 constructor
 ·exact fun x=>List.mem_map.2 ⟨t,x,rfl⟩
 ·intro x
  obtain⟨s,hs,e⟩:=List.mem_map.1 x
  obtain⟨_,e1,e2⟩:=zY ⟨(hP s hs).1,(hP s hs).2,.inl rfl⟩ ⟨ht.1,ht.2,.inl rfl⟩ (Prod.mk.inj e).1
  have:s=t:=Prod.ext e1 e2
  exact this▸hs
end Go.Proofs.Ytglkmaalpammcaa

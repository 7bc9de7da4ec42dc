/- gleanhelp.Entries, Dec, Move (the same); gleanlaw12.light. -/
import Derived.Test.YtglkmaalpammcaaGreatQuH0
import Derived.Test.YtglkmaalpammcaaGreatQuJ
import Derived.Test.YtglkmaalpammcaaGreatQuArg
import Derived.Test.YtglkmaalpammcaaGreatRHlp
import Derived.Deep.DeepCutAuto
set_option maxHeartbeats 64000000
namespace Go.Proofs.YtglkmaalpammcaaGreat
open Go.Gl Go.RowKit
set_option linter.unusedVariables false
set_option maxRecDepth 100000
theorem Ci {T:List TE}{k j:Nat}{t:TE} (h:T[k]?=some t) {u:Value} (hj : [Value.int .u64 ((t.2.1:Nat):Int),.int .i64 ((t.2.2:Nat):Int)][j]?=some u):(ecs T)[k*2+j]?=some u:=by
 have hk:k<T.length:=by
  rcases Nat.lt_or_ge k T.length with x | x
  ·exact x
  ·rw [List.getElem?_eq_none x] at h;cases h
 have hj2:j<2:=by
  rcases Nat.lt_or_ge j 2 with x | x
  ·exact x
  ·rw [List.getElem?_eq_none (by simpa using x)] at hj;cases hj
 have e1:T=T.take k ++ t :: T.drop (k+1):=by
  rw [List.getElem?_eq_getElem hk] at h
  have h:=Option.some.inj h
  rw [← h,← List.drop_eq_getElem_cons hk,List.take_append_drop]
 have e2:ecs T=ecs (T.take k) ++ ([.int .u64 ((t.2.1:Nat):Int),.int .i64 ((t.2.2:Nat):Int)] ++ ecs (T.drop (k+1))):=by
  conv=>lhs;rw [e1]
  simp [ecs]
 have e3:(ecs (T.take k)).length=k*2:=by rw [I5,List.length_take,Nat.min_eq_left (by omega)]
 rw [e2,List.getElem?_append_right (by omega),e3,Nat.add_sub_cancel_left,List.getElem?_append_left (by simpa using hj2)]
 exact hj
theorem Ti {g off ca h offh cb n:Nat}{T:List TE}{w:World} (hT:T.length=n) (hn:n≤1000000) (cx:∀ j u,(ecs T)[j]?=some u→w.cell? ⟨g,off+j,none⟩=some u) (cy:∀ j u,(ecs T)[j]?=some u→w.cell? ⟨h,offh+j,none⟩=some u) (gx:g<w.heap.size) (gy:h<w.heap.size) :
  Calls Tryz.prog 105 #[.slice (some ⟨g,off,none⟩) n ca,.slice (some ⟨h,offh,none⟩) n cb] w fun e w'=>e = .returned (.bool true)∧ae ai w w':=by
 have HT:=lh hT
 have CX:=lh cx
 have CY:=lh cy
 clear cx cy hT
 go_enter Tryz.func105,Tryz.ntmps105
 go_wp2
 go_loopw [5] (fun i wr=>∃ k:Nat,k≤n∧i = .int .i64 k∧ae ai w wr) (fun i _=>n - (intOf i).toNat)
 case atStart=>exact⟨0,Nat.zero_le _,rfl,ae.refl _ _⟩
 case round =>
  obtain⟨k,hk,rfl,hm⟩:=hrel
  by_cases hlt:k<n
  ·obtain⟨t,ht⟩:∃ t,T[k]?=some t:=⟨_,List.getElem?_eq_getElem (by rw [HT.out];exact hlt)⟩
   have HTK:=lh ht
   have HM:=lh hm
   clear ht
   go_upto_region 6 with fail
   refine fM (d := .region 6 (aH 6 Tryz.f105) true) (by kernel_rfl) ?_
   refine RW.wp (hen6 (b:=t.2.1) (kd:=t.2.2) (fun b' m j u hj=>by rw [(HM.out.then0 m).cellAt gx (fun x=>x),Nat.add_assoc];exact CX.out _ _ (Ci HTK.out hj)) (fun b' m j u hj=>by rw [(HM.out.then0 m).cellAt gy (fun x=>x),Nat.add_assoc];exact CY.out _ _ (Ci HTK.out hj)) hlt (by omega) ?_)
   intros
   rename_i w9 m9
   have M9:=lh (HM.out.then0 m9)
   clear m9 hm
   go_wp2
   go_roundw
   case rel=>exact⟨k+1,by omega,by go_num,M9.out⟩
   case measure=>simp [intOf];omega
  ·have HM:=lh hm
   clear hm
   go_wp2
   go_ret
   exact⟨rfl,HM.out⟩
theorem Pj (a b:Option Addr) (ca cb:Nat) (w:World):Calls Tryz.prog 105 #[.slice a 0 ca,.slice b 0 cb] w fun e w'=>e = .returned (.bool true)∧ae ai w w':=by
 go_enter Tryz.func105,Tryz.ntmps105
 go_wp2
 go_rounds 1
 go_ret
 exact⟨rfl,ae.refl _ _⟩
theorem Hy {x y:Value}{T:List TE}{w:World} (hx:jc w 2 x T.length (ecs T)) (hy:jc w 2 y T.length (ecs T)) (hn:T.length≤1000000):Calls Tryz.prog 105 #[x,y] w fun e w'=>e = .returned (.bool true)∧ae ai w w':=by
 rcases Nat.eq_zero_or_pos T.length with h0 | h0
 ·obtain⟨a,ca,rfl,_⟩:=hx.form
  obtain⟨b,cb,rfl,_⟩:=hy.form
  rw [h0]
  exact Pj a b ca cb w
 ·rcases hx.2 with ⟨_,h1⟩ | ⟨g,off,ca,rfl,_,_,g1,cx⟩
  ·omega
  ·rcases hy.2 with ⟨_,h1⟩ | ⟨h,offh,cb,rfl,_,_,g2,cy⟩
   ·omega
   ·exact Ti rfl hn cx cy (g1.resolve_left (by omega)) (g2.resolve_left (by omega))
theorem Ld {w0 w:World}{v:Value}{ss:List dn} (h:tX 16 dn.cell (dn.Ok w0) w v ss) :
  Calls Tryz.prog 33 #[v] w fun e w'=>∃ b,e = .returned (.bool b)∧(b=true→ss.length≤150∧∀ s∈ss,s.sl.length≤30)∧ae ai w w':=by
 obtain⟨a,n,c,rfl,hn,h1,h2,h3⟩:=tX.form h
 have H3:=lh h3
 have HN:=lh hn
 clear h h3 hn
 go_enter Tryz.func33,Tryz.ntmps33
 go_wp2
 go_loopw [3] (fun x wr=>∃ i:Nat,i≤n∧i≤151∧x = .int .i64 i∧ae ai w wr∧Hid (∀ s∈ss.take i,s.sl.length≤30)) (fun x _=>n - (intOf x).toNat)
 case atStart=>exact⟨0,Nat.zero_le _,by omega,rfl,ae.refl _ _,fun s hs=>by simp at hs⟩
 case round =>
  obtain⟨i,hi,hi2,rfl,hm,hR⟩:=hrel
  have HM:=lh hm
  clear hm
  by_cases hlt:i<n
  ·by_cases h150:i≤150
   ·have hil:i<ss.length:=by rw [HN.out];exact hlt
    obtain⟨g,off,rfl,hg,hg0,hc,hok⟩:=Om H3.out HM.out HN.out hil
    obtain⟨sa,sc,sf,_⟩:=dP.form hok.r
    have c15:=hc 15 (by omega)
    rw [show dn.cell ss[i] 15=ss[i].sv from rfl,sf] at c15
    have szb:=hok.sz
    have HS:=lh (show ∀ s∈ss.take (i+1),s.sl.length≤30∨¬ ss[i].sl.length≤30 from fun s hs=>by
     rw [List.take_succ_eq_append_getElem hil] at hs
     rcases List.mem_append.1 hs with hs | hs
     ·exact .inl (hR.out s hs)
     ·rw [List.mem_singleton.1 hs];omega)
    clear hc hok sf
    generalize ss[i].sl.length=sl at *
    by_cases h30:30<sl
    ·go_wp2
     go_ret
     exact⟨false,rfl,(fun x=>by cases x),HM.out⟩
    ·go_wp2
     go_roundw
     case rel=>exact⟨i+1,by omega,by omega,by go_num,HM.out,fun s hs=>(HS.out s hs).resolve_right (by omega)⟩
     case measure=>simp [intOf];omega
   ·go_wp2
    go_ret
    exact⟨_,rfl,fun x=>absurd (of_decide_eq_true x) (by omega),HM.out⟩
  ·go_wp2
   go_ret
   refine⟨_,rfl,fun x=>⟨by have:=of_decide_eq_true x;rw [HN.out];omega,fun s hs=>hR.out s ?_⟩,HM.out⟩
   rw [List.take_of_length_le (by rw [HN.out];omega)]
   exact hs
end Go.Proofs.YtglkmaalpammcaaGreat

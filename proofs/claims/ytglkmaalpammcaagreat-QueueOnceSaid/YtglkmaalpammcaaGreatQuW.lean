/- queue, plain: scripts: what lies there when all of a script has begun. -/
import Derived.Test.YtglkmaalpammcaaGreatQuL
import Derived.Test.YtglkmaalpammcaaGreatQuJ
import Derived.Test.YtglkmaalpammcaaGreatQuArg
namespace Go.Proofs.YtglkmaalpammcaaGreat
open Go.Gl Go.RowKit
set_option linter.unusedVariables false
def dn.ev (s:dn):Bool:=decide (Int.tmod s.what 2=0)
def dn.own (s:dn):Nat:=if s.ev then s.u0 else s.m0
def dn.src (s:dn):Nat:=if s.ev then s.u1 else s.m1
def dn.due (s:dn):Nat:=if s.ev then s.u3 else s.m4
def dn.kd (s:dn):Nat:=if s.ev then 12 else 13
def dn.bs (s:dn):List UInt8:=if s.ev then pF s.u0 s.u1 s.u2 s.u3 s.u4 s.u5 else pq s.m0 s.m1 s.m2 s.m3 s.m4 s.m5 s.sl
def qe (s:dn) (id:Nat):QE:=⟨s.kd,id,s.own,s.src,s.due,s.bs⟩
def uQ (F:List aN) (s:dn):List aN:=qf F s.kd s.bs s.own s.src s.due
theorem UF (F:List aN) {s:dn} (h:s.ev=true):uQ F s=qf F 12 (pF s.u0 s.u1 s.u2 s.u3 s.u4 s.u5) s.u0 s.u1 s.u3:=by
 unfold uQ dn.kd dn.bs dn.own dn.src dn.due
 simp only [h,if_true]
theorem UE (F:List aN) {s:dn} (h:s.ev=false):uQ F s=qf F 13 (pq s.m0 s.m1 s.m2 s.m3 s.m4 s.m5 s.sl) s.m0 s.m1 s.m4:=by
 unfold uQ dn.kd dn.bs dn.own dn.src dn.due
 simp only [h,Bool.false_eq_true,if_false]
def lV:Nat→List dn→List QE
 | _,[]=>[]
 | nx,s :: ss=>qe s nx :: lV (nx+1) ss
def tV (F:List aN) (ss:List dn):List aN:=ss.foldl uQ F
theorem LV (F:List aN) {ss:List dn}{i:Nat} (hi:i<ss.length):tV F (ss.take (i+1))=uQ (tV F (ss.take i)) ss[i]:=by
 unfold tV
 rw [List.take_succ_eq_append_getElem hi,List.foldl_append,List.foldl_cons,List.foldl_nil]
theorem N8 (F:List aN) (s:dn) (ss:List dn):tV F (s :: ss)=tV (uQ F s) ss:=by
 unfold tV
 rw [List.foldl_cons]
theorem Fh:∀ (a b:List dn) (nx:Nat),lV nx (a ++ b)=lV nx a ++ lV (nx+a.length) b:=by
  intro a
  induction a with
  | nil=>intro b nx;rfl
  | cons s a ih =>
    intro b nx
    show qe s nx :: lV (nx+1) (a ++ b)=_
    rw [ih,List.length_cons,show nx+(a.length+1)=nx+1+a.length by omega]
    rfl
theorem vZ:∀ (ss:List dn) (nx:Nat),(lV nx ss).length=ss.length:=by
 intro ss
 induction ss with
 | nil=>intro nx;rfl
 | cons s ss ih=>intro nx;simp [lV,ih]
theorem RH {W:World}{s:dn} (h:dn.Ok W s) {id:Nat} (hi:bD id):pY (qe s id):=by
  have hu:∀ x∈[s.u0,s.u1,s.u2,s.u3,s.u4,s.u5],x≤18446744073709551615:=h.u
  have hm:∀ x∈[s.m0,s.m1,s.m2,s.m3,s.m4,s.m5],x≤18446744073709551615:=h.m
  cases he:s.ev with
  | true =>
    refine⟨hi,?_,?_,?_,.inl ⟨?_,s.u2,s.u4,s.u5,hu _ (by simp),hu _ (by simp),hu _ (by simp),?_⟩⟩
    · show bD s.own;unfold dn.own;rw [he];exact hu _ (by simp)
    · show bD s.src;unfold dn.src;rw [he];exact hu _ (by simp)
    · show bD s.due;unfold dn.due;rw [he];exact hu _ (by simp)
    · show s.kd=12;unfold dn.kd;rw [he];rfl
    · show s.bs=pF s.own s.src _ s.due _ _;unfold dn.bs dn.own dn.src dn.due;rw [he];rfl
  | false =>
    refine⟨hi,?_,?_,?_,.inr ⟨?_,s.m2,s.m3,s.m5,s.sl,hm _ (by simp),hm _ (by simp),hm _ (by simp),h.l,?_⟩⟩
    · show bD s.own;unfold dn.own;rw [he];exact hm _ (by simp)
    · show bD s.src;unfold dn.src;rw [he];exact hm _ (by simp)
    · show bD s.due;unfold dn.due;rw [he];exact hm _ (by simp)
    · show s.kd=13;unfold dn.kd;rw [he];rfl
    · show s.bs=pq s.own s.src _ _ s.due _ _;unfold dn.bs dn.own dn.src dn.due;rw [he];rfl
theorem Ut {W:World}:∀ (ss:List dn) {F:List aN}{h nx:Nat}{es:List QE},QI F h nx es→(∀ s∈ss,dn.Ok W s)→nx+ss.length<18446744073709551615→es.length+ss.length<18446744073709551615→QI (tV F ss) h (nx+ss.length) (es ++ lV nx ss):=by
  intro ss
  induction ss with
  | nil=>intro F h nx es q _ _ _;simpa [tV,lV] using q
  | cons s ss ih =>
    intro F h nx es q hok h1 h2
    simp only [List.length_cons] at h1 h2
    have q1:QI (uQ F s) h (nx+1) (es ++ [qe s nx]):=by
      have:=U8 q (e:=qe s nx) (RH (hok s (by simp)) (by unfold bD;omega)) rfl (by omega) (by omega)
      unfold uQ
      exact this
    have:=ih q1 (fun x hx=>hok x (List.mem_cons_of_mem _ hx)) (by omega) (by simp;omega)
    rw [List.length_cons,show nx+(ss.length+1)=nx+1+ss.length by omega,N8]
    rw [show es ++ lV nx (s :: ss)=(es ++ [qe s nx]) ++ lV (nx+1) ss by simp [lV]]
    exact this
theorem AB {α:Type} [DecidableEq α]:∀ {a b:List α},a.Nodup→(∀ x∈a,x∈b)→a.length≤b.length:=by
  intro a
  induction a with
  | nil=>intro b _ _;simp
  | cons x a ih =>
    intro b hn hs
    have hp:=List.nodup_cons.1 hn
    have hxb:x∈b:=hs x (by simp)
    have:=ih (b:=b.erase x) hp.2 (fun y hy=>by
      have hne:y≠x:=fun e=>hp.1 (e▸hy)
      exact (List.mem_erase_of_ne hne).2 (hs y (List.mem_cons_of_mem _ hy)))
    rw [List.length_erase_of_mem hxb] at this
    have hpos:=List.length_pos_of_mem hxb
    simp only [List.length_cons]
    omega
theorem Ol {es:List QE} (h:es.Pairwise (fun a b=>a.id<b.id)):(es.map (fun e=>((e.t,e.id,e.k):TE))).Nodup:=by
 refine List.pairwise_map.2 (h.imp (fun {a b} hab e=>?_))
 have:=congrArg (fun t:TE=>t.2.1) e
 simp only at this
 omega
theorem Di {T:List TE}{es:List QE} (hs:T.Pairwise (fun s t=>s.1<t.1∨(s.1=t.1∧s.2.1<t.2.1))) (hi:es.Pairwise (fun a b=>a.id<b.id)) (hm:∀ t,t∈T↔∃ e∈es,t=(e.t,e.id,e.k)):T.length=es.length:=by
 have hn:T.Nodup:=hs.imp (fun {a b} hab e=>by subst e;omega)
 have h1:T.length≤(es.map (fun e=>((e.t,e.id,e.k):TE))).length:=AB hn (fun x hx=>by
  obtain⟨e,he,rfl⟩:=(hm x).1 hx
  exact List.mem_map.2 ⟨e,he,rfl⟩)
 have h2:(es.map (fun e=>((e.t,e.id,e.k):TE))).length≤T.length:=AB (Ol hi) (fun x hx=>by
  obtain⟨e,he,rfl⟩:=List.mem_map.1 hx
  exact (hm _).2 ⟨e,he,rfl⟩)
 rw [List.length_map] at h1 h2
 omega
theorem JZ {h:Nat}{T:List TE} (hh:∀ t∈T,t.1≤h):jR h T=T:=by
 have:=xG (h:=h) (T:=T) (i:=T.length) (fun t ht=>hh t (List.mem_of_mem_take ht)) (.inl (Nat.le_refl _))
 rw [this,List.take_of_length_le (Nat.le_refl _)]
theorem CO {F:List aN}{h nx:Nat}{es:List QE} (q:QI F h nx es) {T:List TE} (hm:∀ t,t∈T↔∃ e∈es,t=(e.t,e.id,e.k)):∀ t∈T,QK 14 t.1 t.2.1∧t.2.2≤17:=fun t ht=>by
 obtain⟨e,he,rfl⟩:=(hm t).1 ht
 have o:=(q.ok e he).1
 have:=o.kk
 exact⟨o.q2,by show e.k≤17;omega⟩
theorem TJ {F:List aN}{h nx:Nat}{es:List QE} (q:QI F h nx es) {v:Nat}{T:List TE} (hm:∀ t,t∈T↔∃ e∈es,e.v=v∧t=(e.v,e.id,e.k)):∀ t∈T,QK 15 t.1 t.2.1∧t.2.2≤17:=fun t ht=>by
 obtain⟨e,he,_,rfl⟩:=(hm t).1 ht
 have o:=(q.ok e he).1
 have:=o.kk
 exact⟨o.q3,by show e.k≤17;omega⟩
theorem qi_cn {F:List aN}{h nx:Nat}{es:List QE} (q:QI F h nx es) {d v:Nat} (hd:bD d) (hv:bD v) (hl:es.length<18446744073709551615):sN F d v=cq es d v:=Ko (h:=h) (nx:=nx) (q.c d v hd hv) (by have:=EZ es d v;unfold bD;omega)
end Go.Proofs.YtglkmaalpammcaaGreat

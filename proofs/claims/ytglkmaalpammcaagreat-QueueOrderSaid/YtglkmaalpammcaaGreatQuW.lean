/- queue, plain: scripts: what lies there when all of a script has begun. -/
import Derived.Test.YtglkmaalpammcaaGreatQuL
import Derived.Test.YtglkmaalpammcaaGreatQuJ
import Derived.Test.YtglkmaalpammcaaGreatQuArg
namespace Go.Proofs.YtglkmaalpammcaaGreat
open Go.Gl Go.RowKit
set_option linter.unusedVariables false
def bi.ev (s:bi):Bool:=decide (Int.tmod s.what 2=0)
def bi.own (s:bi):Nat:=if s.ev then s.u0 else s.m0
def bi.src (s:bi):Nat:=if s.ev then s.u1 else s.m1
def bi.due (s:bi):Nat:=if s.ev then s.u3 else s.m4
def bi.kd (s:bi):Nat:=if s.ev then 12 else 13
def bi.bs (s:bi):List UInt8:=if s.ev then jd s.u0 s.u1 s.u2 s.u3 s.u4 s.u5 else jc s.m0 s.m1 s.m2 s.m3 s.m4 s.m5 s.sl
def qe (s:bi) (id:Nat):QE:=⟨s.kd,id,s.own,s.src,s.due,s.bs⟩
def nS (F:List aN) (s:bi):List aN:=ja F s.kd s.bs s.own s.src s.due
theorem PN (F:List aN) {s:bi} (h:s.ev=true):nS F s=ja F 12 (jd s.u0 s.u1 s.u2 s.u3 s.u4 s.u5) s.u0 s.u1 s.u3:=by
 unfold nS bi.kd bi.bs bi.own bi.src bi.due
 simp only [h,if_true]
theorem OH (F:List aN) {s:bi} (h:s.ev=false):nS F s=ja F 13 (jc s.m0 s.m1 s.m2 s.m3 s.m4 s.m5 s.sl) s.m0 s.m1 s.m4:=by
 unfold nS bi.kd bi.bs bi.own bi.src bi.due
 simp only [h,Bool.false_eq_true,if_false]
def kZ:Nat→List bi→List QE
 | _,[]=>[]
 | nx,s :: ss=>qe s nx :: kZ (nx+1) ss
def nC (F:List aN) (ss:List bi):List aN:=ss.foldl nS F
theorem FK (F:List aN) {ss:List bi}{i:Nat} (hi:i<ss.length):nC F (ss.take (i+1))=nS (nC F (ss.take i)) ss[i]:=by
 unfold nC
 rw [List.take_succ_eq_append_getElem hi,List.foldl_append,List.foldl_cons,List.foldl_nil]
theorem Gi (F:List aN) (s:bi) (ss:List bi):nC F (s :: ss)=nC (nS F s) ss:=by
 unfold nC
 rw [List.foldl_cons]
theorem uH:∀ (ss:List bi) (nx:Nat),(kZ nx ss).length=ss.length:=by
 intro ss
 induction ss with
 | nil=>intro nx;rfl
 | cons s ss ih=>intro nx;simp [kZ,ih]
theorem J9:∀ {ss:List bi}{nx:Nat}{e:QE},e∈kZ nx ss↔∃ i s,ss[i]?=some s∧e=qe s (nx+i):=by
  intro ss
  induction ss with
  | nil=>intro nx e;simp [kZ]
  | cons s ss ih =>
    intro nx e
    show e∈qe s nx :: kZ (nx+1) ss↔_
    rw [List.mem_cons,ih]
    constructor
    · rintro (rfl | ⟨i,t,h,rfl⟩)
      · exact⟨0,s,rfl,rfl⟩
      · exact⟨i+1,t,by simpa using h,by rw [show nx+(i+1)=nx+1+i by omega]⟩
    · rintro⟨i,t,h,rfl⟩
      cases i with
      | zero=>left;simp at h;subst h;rfl
      | succ i=>right;exact⟨i,t,by simpa using h,by rw [show nx+(i+1)=nx+1+i by omega]⟩
theorem Lr {W:World}{s:bi} (h:bi.Ok W s) {id:Nat} (hi:aU id):jf (qe s id):=by
  have hu:∀ x∈[s.u0,s.u1,s.u2,s.u3,s.u4,s.u5],x≤18446744073709551615:=h.u
  have hm:∀ x∈[s.m0,s.m1,s.m2,s.m3,s.m4,s.m5],x≤18446744073709551615:=h.m
  cases he:s.ev with
  | true =>
    refine⟨hi,?_,?_,?_,.inl ⟨?_,s.u2,s.u4,s.u5,hu _ (by simp),hu _ (by simp),hu _ (by simp),?_⟩⟩
    · show aU s.own;unfold bi.own;rw [he];exact hu _ (by simp)
    · show aU s.src;unfold bi.src;rw [he];exact hu _ (by simp)
    · show aU s.due;unfold bi.due;rw [he];exact hu _ (by simp)
    · show s.kd=12;unfold bi.kd;rw [he];rfl
    · show s.bs=jd s.own s.src _ s.due _ _;unfold bi.bs bi.own bi.src bi.due;rw [he];rfl
  | false =>
    refine⟨hi,?_,?_,?_,.inr ⟨?_,s.m2,s.m3,s.m5,s.sl,hm _ (by simp),hm _ (by simp),hm _ (by simp),h.l,?_⟩⟩
    · show aU s.own;unfold bi.own;rw [he];exact hm _ (by simp)
    · show aU s.src;unfold bi.src;rw [he];exact hm _ (by simp)
    · show aU s.due;unfold bi.due;rw [he];exact hm _ (by simp)
    · show s.kd=13;unfold bi.kd;rw [he];rfl
    · show s.bs=jc s.own s.src _ _ s.due _ _;unfold bi.bs bi.own bi.src bi.due;rw [he];rfl
theorem Ov {W:World}:∀ (ss:List bi) {F:List aN}{h nx:Nat}{es:List QE},QI F h nx es→(∀ s∈ss,bi.Ok W s)→nx+ss.length<18446744073709551615→es.length+ss.length<18446744073709551615→QI (nC F ss) h (nx+ss.length) (es ++ kZ nx ss):=by
  intro ss
  induction ss with
  | nil=>intro F h nx es q _ _ _;simpa [nC,kZ] using q
  | cons s ss ih =>
    intro F h nx es q hok h1 h2
    simp only [List.length_cons] at h1 h2
    have q1:QI (nS F s) h (nx+1) (es ++ [qe s nx]):=by
      have:=OI q (e:=qe s nx) (Lr (hok s (by simp)) (by unfold aU;omega)) rfl (by omega) (by omega)
      unfold nS
      exact this
    have:=ih q1 (fun x hx=>hok x (List.mem_cons_of_mem _ hx)) (by omega) (by simp;omega)
    rw [List.length_cons,show nx+(ss.length+1)=nx+1+ss.length by omega,Gi]
    rw [show es ++ kZ nx (s :: ss)=(es ++ [qe s nx]) ++ kZ (nx+1) ss by simp [kZ]]
    exact this
theorem Oc:∀ (ss:List bi) (nx d v:Nat),cq (kZ nx ss) d v=ss.countP (fun s=>decide (s.own=d∧s.src=v)):=by
  intro ss
  induction ss with
  | nil=>intro nx d v;rfl
  | cons s ss ih =>
    intro nx d v
    have:=ih (nx+1) d v
    unfold cq at this ⊢
    show List.countP _ (qe s nx :: kZ (nx+1) ss)=_
    rw [List.countP_cons,List.countP_cons,this]
    rfl
theorem uw {α:Type} [DecidableEq α]:∀ {a b:List α},a.Nodup→(∀ x∈a,x∈b)→a.length≤b.length:=by
  intro a
  induction a with
  | nil=>intro b _ _;simp
  | cons x a ih =>
    intro b hn hs
    have hp:=List.nodup_cons.1 hn
    have hxb:x∈b:=hs x (by simp)
    have:=ih (b:=b.erase x) hp.2 (fun y hy=>by
      have hne:y≠x:=fun e=>hp.1 (e▸hy)
      exact (List.mem_erase_of_ne hne).2 (hs y (List.mem_cons_of_mem _ hy)))
    rw [List.length_erase_of_mem hxb] at this
    have hpos:=List.length_pos_of_mem hxb
    simp only [List.length_cons]
    omega
theorem Hl {es:List QE} (h:es.Pairwise (fun a b=>a.id<b.id)):(es.map (fun e=>((e.t,e.id,e.k):TE))).Nodup:=by
 refine List.pairwise_map.2 (h.imp (fun {a b} hab e=>?_))
 have:=congrArg (fun t:TE=>t.2.1) e
 simp only at this
 omega
theorem NJ {T:List TE}{es:List QE} (hs:T.Pairwise (fun s t=>s.1<t.1∨(s.1=t.1∧s.2.1<t.2.1))) (hi:es.Pairwise (fun a b=>a.id<b.id)) (hm:∀ t,t∈T↔∃ e∈es,t=(e.t,e.id,e.k)):T.length=es.length:=by
 have hn:T.Nodup:=hs.imp (fun {a b} hab e=>by subst e;omega)
 have h1:T.length≤(es.map (fun e=>((e.t,e.id,e.k):TE))).length:=uw hn (fun x hx=>by
  obtain⟨e,he,rfl⟩:=(hm x).1 hx
  exact List.mem_map.2 ⟨e,he,rfl⟩)
 have h2:(es.map (fun e=>((e.t,e.id,e.k):TE))).length≤T.length:=uw (Hl hi) (fun x hx=>by
  obtain⟨e,he,rfl⟩:=List.mem_map.1 hx
  exact (hm _).2 ⟨e,he,rfl⟩)
 rw [List.length_map] at h1 h2
 omega
theorem NC {h:Nat}{T:List TE} (hh:∀ t∈T,t.1≤h):oU h T=T:=by
 have:=qf (h:=h) (T:=T) (i:=T.length) (fun t ht=>hh t (List.mem_of_mem_take ht)) (.inl (Nat.le_refl _))
 rw [this,List.take_of_length_le (Nat.le_refl _)]
theorem LV {F:List aN}{h nx:Nat}{es:List QE} (q:QI F h nx es) {T:List TE} (hm:∀ t,t∈T↔∃ e∈es,t=(e.t,e.id,e.k)):∀ t∈T,QK 14 t.1 t.2.1∧t.2.2≤17:=fun t ht=>by
 obtain⟨e,he,rfl⟩:=(hm t).1 ht
 have o:=(q.ok e he).1
 have:=o.kk
 exact⟨o.q2,by show e.k≤17;omega⟩
theorem NL {F:List aN}{h nx:Nat}{es:List QE} (q:QI F h nx es) {v:Nat}{T:List TE} (hm:∀ t,t∈T↔∃ e∈es,e.v=v∧t=(e.v,e.id,e.k)):∀ t∈T,QK 15 t.1 t.2.1∧t.2.2≤17:=fun t ht=>by
 obtain⟨e,he,_,rfl⟩:=(hm t).1 ht
 have o:=(q.ok e he).1
 have:=o.kk
 exact⟨o.q3,by show e.k≤17;omega⟩
theorem qi_cn {F:List aN}{h nx:Nat}{es:List QE} (q:QI F h nx es) {d v:Nat} (hd:aU d) (hv:aU v) (hl:es.length<18446744073709551615):kV F d v=cq es d v:=KR (h:=h) (nx:=nx) (q.c d v hd hv) (by have:=EP es d v;unfold aU;omega)
end Go.Proofs.YtglkmaalpammcaaGreat

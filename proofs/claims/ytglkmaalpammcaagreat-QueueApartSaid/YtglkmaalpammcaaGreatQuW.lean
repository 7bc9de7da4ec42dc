/- queue, plain: scripts: what lies there when all of a script has begun. -/
import Derived.Test.YtglkmaalpammcaaGreatQuL
import Derived.Test.YtglkmaalpammcaaGreatQuJ
import Derived.Test.YtglkmaalpammcaaGreatQuArg
namespace Go.Proofs.YtglkmaalpammcaaGreat
open Go.Gl Go.RowKit
set_option linter.unusedVariables false
def bH.ev (s:bH):Bool:=decide (Int.tmod s.what 2=0)
def bH.own (s:bH):Nat:=if s.ev then s.u0 else s.m0
def bH.src (s:bH):Nat:=if s.ev then s.u1 else s.m1
def bH.due (s:bH):Nat:=if s.ev then s.u3 else s.m4
def bH.kd (s:bH):Nat:=if s.ev then 12 else 13
def bH.bs (s:bH):List UInt8:=if s.ev then iC s.u0 s.u1 s.u2 s.u3 s.u4 s.u5 else iw s.m0 s.m1 s.m2 s.m3 s.m4 s.m5 s.sl
def qe (s:bH) (id:Nat):QE:=⟨s.kd,id,s.own,s.src,s.due,s.bs⟩
def qZ (F:List aJ) (s:bH):List aJ:=ji F s.kd s.bs s.own s.src s.due
theorem P5 (F:List aJ) {s:bH} (h:s.ev=true):qZ F s=ji F 12 (iC s.u0 s.u1 s.u2 s.u3 s.u4 s.u5) s.u0 s.u1 s.u3:=by
 unfold qZ bH.kd bH.bs bH.own bH.src bH.due
 simp only [h,if_true]
theorem PW (F:List aJ) {s:bH} (h:s.ev=false):qZ F s=ji F 13 (iw s.m0 s.m1 s.m2 s.m3 s.m4 s.m5 s.sl) s.m0 s.m1 s.m4:=by
 unfold qZ bH.kd bH.bs bH.own bH.src bH.due
 simp only [h,Bool.false_eq_true,if_false]
def oH:Nat→List bH→List QE
 | _,[]=>[]
 | nx,s :: ss=>qe s nx :: oH (nx+1) ss
def kH (F:List aJ) (ss:List bH):List aJ:=ss.foldl qZ F
theorem GM (F:List aJ) {ss:List bH}{i:Nat} (hi:i<ss.length):kH F (ss.take (i+1))=qZ (kH F (ss.take i)) ss[i]:=by
 unfold kH
 rw [List.take_succ_eq_append_getElem hi,List.foldl_append,List.foldl_cons,List.foldl_nil]
theorem Ht (F:List aJ) (s:bH) (ss:List bH):kH F (s :: ss)=kH (qZ F s) ss:=by
 unfold kH
 rw [List.foldl_cons]
theorem BH:∀ (ss:List bH) (nx:Nat),(oH nx ss).length=ss.length:=by
 intro ss
 induction ss with
 | nil=>intro nx;rfl
 | cons s ss ih=>intro nx;simp [oH,ih]
theorem Jd:∀ {ss:List bH}{nx:Nat}{e:QE},e∈oH nx ss↔∃ i s,ss[i]?=some s∧e=qe s (nx+i):=by
  intro ss
  induction ss with
  | nil=>intro nx e;simp [oH]
  | cons s ss ih =>
    intro nx e
    show e∈qe s nx :: oH (nx+1) ss↔_
    rw [List.mem_cons,ih]
    constructor
    · rintro (rfl | ⟨i,t,h,rfl⟩)
      · exact⟨0,s,rfl,rfl⟩
      · exact⟨i+1,t,by simpa using h,by rw [show nx+(i+1)=nx+1+i by omega]⟩
    · rintro⟨i,t,h,rfl⟩
      cases i with
      | zero=>left;simp at h;subst h;rfl
      | succ i=>right;exact⟨i,t,by simpa using h,by rw [show nx+(i+1)=nx+1+i by omega]⟩
theorem qe_ok {W:World}{s:bH} (h:bH.Ok W s) {id:Nat} (hi:aU id):iM (qe s id):=by
  have hu:∀ x∈[s.u0,s.u1,s.u2,s.u3,s.u4,s.u5],x≤18446744073709551615:=h.u
  have hm:∀ x∈[s.m0,s.m1,s.m2,s.m3,s.m4,s.m5],x≤18446744073709551615:=h.m
  cases he:s.ev with
  | true =>
    refine⟨hi,?_,?_,?_,.inl ⟨?_,s.u2,s.u4,s.u5,hu _ (by simp),hu _ (by simp),hu _ (by simp),?_⟩⟩
    · show aU s.own;unfold bH.own;rw [he];exact hu _ (by simp)
    · show aU s.src;unfold bH.src;rw [he];exact hu _ (by simp)
    · show aU s.due;unfold bH.due;rw [he];exact hu _ (by simp)
    · show s.kd=12;unfold bH.kd;rw [he];rfl
    · show s.bs=iC s.own s.src _ s.due _ _;unfold bH.bs bH.own bH.src bH.due;rw [he];rfl
  | false =>
    refine⟨hi,?_,?_,?_,.inr ⟨?_,s.m2,s.m3,s.m5,s.sl,hm _ (by simp),hm _ (by simp),hm _ (by simp),h.l,?_⟩⟩
    · show aU s.own;unfold bH.own;rw [he];exact hm _ (by simp)
    · show aU s.src;unfold bH.src;rw [he];exact hm _ (by simp)
    · show aU s.due;unfold bH.due;rw [he];exact hm _ (by simp)
    · show s.kd=13;unfold bH.kd;rw [he];rfl
    · show s.bs=iw s.own s.src _ _ s.due _ _;unfold bH.bs bH.own bH.src bH.due;rw [he];rfl
theorem O9 {W:World}:∀ (ss:List bH) {F:List aJ}{h nx:Nat}{es:List QE},QI F h nx es→(∀ s∈ss,bH.Ok W s)→nx+ss.length<18446744073709551615→es.length+ss.length<18446744073709551615→QI (kH F ss) h (nx+ss.length) (es ++ oH nx ss):=by
  intro ss
  induction ss with
  | nil=>intro F h nx es q _ _ _;simpa [kH,oH] using q
  | cons s ss ih =>
    intro F h nx es q hok h1 h2
    simp only [List.length_cons] at h1 h2
    have q1:QI (qZ F s) h (nx+1) (es ++ [qe s nx]):=by
      have:=PY q (e:=qe s nx) (qe_ok (hok s (by simp)) (by unfold aU;omega)) rfl (by omega) (by omega)
      unfold qZ
      exact this
    have:=ih q1 (fun x hx=>hok x (List.mem_cons_of_mem _ hx)) (by omega) (by simp;omega)
    rw [List.length_cons,show nx+(ss.length+1)=nx+1+ss.length by omega,Ht]
    rw [show es ++ oH nx (s :: ss)=(es ++ [qe s nx]) ++ oH (nx+1) ss by simp [oH]]
    exact this
theorem Ah {α:Type} [DecidableEq α]:∀ {a b:List α},a.Nodup→(∀ x∈a,x∈b)→a.length≤b.length:=by
  intro a
  induction a with
  | nil=>intro b _ _;simp
  | cons x a ih =>
    intro b hn hs
    have hp:=List.nodup_cons.1 hn
    have hxb:x∈b:=hs x (by simp)
    have:=ih (b:=b.erase x) hp.2 (fun y hy=>by
      have hne:y≠x:=fun e=>hp.1 (e▸hy)
      exact (List.mem_erase_of_ne hne).2 (hs y (List.mem_cons_of_mem _ hy)))
    rw [List.length_erase_of_mem hxb] at this
    have hpos:=List.length_pos_of_mem hxb
    simp only [List.length_cons]
    omega
theorem GK {es:List QE} (h:es.Pairwise (fun a b=>a.id<b.id)):(es.map (fun e=>((e.t,e.id,e.k):TE))).Nodup:=by
 refine List.pairwise_map.2 (h.imp (fun {a b} hab e=>?_))
 have:=congrArg (fun t:TE=>t.2.1) e
 simp only at this
 omega
theorem OC {T:List TE}{es:List QE} (hs:T.Pairwise (fun s t=>s.1<t.1∨(s.1=t.1∧s.2.1<t.2.1))) (hi:es.Pairwise (fun a b=>a.id<b.id)) (hm:∀ t,t∈T↔∃ e∈es,t=(e.t,e.id,e.k)):T.length=es.length:=by
 have hn:T.Nodup:=hs.imp (fun {a b} hab e=>by subst e;omega)
 have h1:T.length≤(es.map (fun e=>((e.t,e.id,e.k):TE))).length:=Ah hn (fun x hx=>by
  obtain⟨e,he,rfl⟩:=(hm x).1 hx
  exact List.mem_map.2 ⟨e,he,rfl⟩)
 have h2:(es.map (fun e=>((e.t,e.id,e.k):TE))).length≤T.length:=Ah (GK hi) (fun x hx=>by
  obtain⟨e,he,rfl⟩:=List.mem_map.1 hx
  exact (hm _).2 ⟨e,he,rfl⟩)
 rw [List.length_map] at h1 h2
 omega
theorem Nw {h:Nat}{T:List TE} (hh:∀ t∈T,t.1≤h):pR h T=T:=by
 have:=qG (h:=h) (T:=T) (i:=T.length) (fun t ht=>hh t (List.mem_of_mem_take ht)) (.inl (Nat.le_refl _))
 rw [this,List.take_of_length_le (Nat.le_refl _)]
theorem Nv {F:List aJ}{h nx:Nat}{es:List QE} (q:QI F h nx es) {T:List TE} (hm:∀ t,t∈T↔∃ e∈es,t=(e.t,e.id,e.k)):∀ t∈T,QK 14 t.1 t.2.1∧t.2.2≤17:=fun t ht=>by
 obtain⟨e,he,rfl⟩:=(hm t).1 ht
 have o:=(q.ok e he).1
 have:=o.kk
 exact⟨o.q2,by show e.k≤17;omega⟩
end Go.Proofs.YtglkmaalpammcaaGreat

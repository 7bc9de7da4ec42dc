/- Parts of the proof, one behind the other: KvP, KvQ, KvA, KvM, KvN, HCopy, R6M, R6G, Ord2, R60, KvC, KvJ, KvR, KvW, KvS, R6F, R6D, PgK5, PgK, Iter. -/
import Derived.Test.YtglkmaalpammcaaGreatZB
import Derived.Test.YtglkmaalpammcaaGreatZA
import Derived.Laws.LoneSync
import Derived.Laws.BytesArg
import Derived.Lib.Bytes
import Derived.Deep.DeepCutAuto
import Derived.Lib.BufferMore
import Derived.RangeFuncNested
set_option maxHeartbeats 64000000
set_option linter.unusedSimpArgs false
set_option linter.unusedVariables false
set_option maxRecDepth 100000
namespace Go.Proofs.YtglkmaalpammcaaGreat
open Go.Gl
structure sD where
 k:List UInt8
 old:Option (List UInt8)
def qp (u:sD) (F:List aN):List aN:=match u.old with
 | none=>gJ F u.k
 | some v=>insL F u.k v
def qM (l:List sD) (F:List aN):List aN:=l.foldr qp F
def nX:List (List sD)→List aN→List (List aN)
 | [],_=>[]
 | l :: ls,F=>qM l F :: nX ls (qM l F)
theorem ui (l:List aN) (k:List UInt8) (h:fM l):(iy l k=none→l.filter (fun e=>decide (e.1=k))=[])∧∀ v,iy l k=some v→(k,v)∈l:=by
 unfold iy
 refine⟨fun hn=>?_,fun v hv=>?_⟩
 ·have:l.find? (fun e=>decide (e.1=k))=none:=by simpa using hn
  rw [List.find?_eq_none] at this
  exact List.filter_eq_nil_iff.2 this
 ·obtain⟨e,he,hv⟩:=Option.map_eq_some_iff.1 hv
  have h1:=List.find?_some he
  have h2:=List.mem_of_find?_eq_some he
  have:e=(k,v):=by
   have:=of_decide_eq_true h1
   rw [← this,← hv]
  rw [← this];exact h2
theorem sU {l:List aN} (h:fM l) (k:List UInt8):l=l.filter (fun e=>aB e.1 k) ++ l.filter (fun e=>decide (e.1=k)) ++ l.filter (fun e=>aB k e.1):=by
  induction l with
  | nil=>rfl
  | cons e l ih =>
    have h1:=List.pairwise_cons.1 h
    have ih':=ih h1.2
    cases hk:aB e.1 k with
    | true =>
      have a2:decide (e.1=k)=false:=by
        refine decide_eq_false (fun x=>?_)
        rw [x,fO] at hk;cases hk
      have a3:=jY hk
      simp only [List.filter_cons,hk,a2,a3,if_true,Bool.false_eq_true,if_false,List.cons_append]
      exact congrArg _ ih'
    | false =>
      have hn:∀ x∈l,aB x.1 k=false:=fun x hx=>by
        cases hb:aB x.1 k with
        | false=>rfl
        | true=>have:=fP (h1.1 x hx) hb;rw [hk] at this;cases this
      have n1:l.filter (fun e=>aB e.1 k)=[]:=gI hn
      by_cases he:e.1=k
      · have a2:decide (e.1=k)=true:=decide_eq_true he
        have a3:aB k e.1=false:=by rw [he,fO]
        have hn2:∀ x∈l,decide (x.1=k)=false:=fun x hx=>by
          refine decide_eq_false (fun y=>?_)
          have:=h1.1 x hx
          rw [he,y,fO] at this;cases this
        have n2:l.filter (fun e=>decide (e.1=k))=[]:=gI hn2
        rw [n1,n2] at ih'
        simp only [List.filter_cons,hk,a2,a3,if_true,Bool.false_eq_true,if_false,n1,n2,List.nil_append,List.cons_append]
        exact congrArg _ ih'
      · have a2:decide (e.1=k)=false:=decide_eq_false he
        have a3:aB k e.1=true:=by
          cases hb:aB k e.1 with
          | true=>rfl
          | false=>exact absurd (mQ hk hb) he
        have hn2:∀ x∈l,decide (x.1=k)=false:=fun x hx=>by
          refine decide_eq_false (fun y=>?_)
          have:=fP a3 (h1.1 x hx)
          rw [y,fO] at this;cases this
        have n2:l.filter (fun e=>decide (e.1=k))=[]:=gI hn2
        rw [n1,n2] at ih'
        simp only [List.filter_cons,hk,a2,a3,if_true,Bool.false_eq_true,if_false,n1,n2,List.nil_append]
        exact congrArg _ ih'
theorem ff1 (l:List aN) (k:List UInt8):(l.filter (fun e=>aB e.1 k)).filter (fun e=>aB e.1 k)=l.filter (fun e=>aB e.1 k):=filter_all (fun e he=>(List.mem_filter.1 he).2)
theorem ff2 (l:List aN) (k:List UInt8):(l.filter (fun e=>aB k e.1)).filter (fun e=>aB k e.1)=l.filter (fun e=>aB k e.1):=filter_all (fun e he=>(List.mem_filter.1 he).2)
theorem ff3 (l:List aN) (k:List UInt8):(l.filter (fun e=>aB e.1 k)).filter (fun e=>aB k e.1)=[]:=gI (fun e he=>jY (List.mem_filter.1 he).2)
theorem ff4 (l:List aN) (k:List UInt8):(l.filter (fun e=>aB k e.1)).filter (fun e=>aB e.1 k)=[]:=gI (fun e he=>jY (List.mem_filter.1 he).2)
theorem wQ (l:List aN) (k v:List UInt8):(insL l k v).filter (fun e=>aB e.1 k)=l.filter (fun e=>aB e.1 k)∧(insL l k v).filter (fun e=>aB k e.1)=l.filter (fun e=>aB k e.1):=by
 unfold insL
 constructor
 ·rw [List.filter_append,List.filter_cons,ff1,ff4];simp [fO]
 ·rw [List.filter_append,List.filter_cons,ff3,ff2];simp [fO]
theorem xN (l:List aN) (k:List UInt8):(gJ l k).filter (fun e=>aB e.1 k)=l.filter (fun e=>aB e.1 k)∧(gJ l k).filter (fun e=>aB k e.1)=l.filter (fun e=>aB k e.1):=by
 unfold gJ
 constructor
 ·rw [List.filter_append,ff1,ff4];simp
 ·rw [List.filter_append,ff3,ff2];simp
theorem xE {l l':List aN}{k:List UInt8} (h:fM l) (h1:l'.filter (fun e=>aB e.1 k)=l.filter (fun e=>aB e.1 k)) (h2:l'.filter (fun e=>aB k e.1)=l.filter (fun e=>aB k e.1)):qp ⟨k,iy l k⟩ l'=l:=by
  have h3:=sU h k
  obtain⟨g1,g2⟩:=ui l k h
  unfold qp
  cases hg:iy l k with
  | none =>
    show gJ l' k=l
    unfold gJ
    rw [h1,h2]
    rw [g1 hg,List.append_nil] at h3
    exact h3.symm
  | some v =>
    show insL l' k v=l
    unfold insL
    rw [h1,h2]
    have hm:=g2 v hg
    have:l.filter (fun e=>decide (e.1=k))=[(k,v)]:=by
      have hr:fM (l.filter (fun e=>decide (e.1=k))):=List.Pairwise.sublist List.filter_sublist h
      have hmem:(k,v)∈l.filter (fun e=>decide (e.1=k)):=List.mem_filter.2 ⟨hm,by simp⟩
      have hall:∀ e∈l.filter (fun e=>decide (e.1=k)),e.1=k:=fun e he=>of_decide_eq_true (List.mem_filter.1 he).2
      generalize l.filter (fun e=>decide (e.1=k))=q at *
      rcases q with _ | ⟨a,_ | ⟨b,q⟩⟩
      · cases hmem
      · rw [List.mem_singleton.1 hmem]
      · have:=(List.pairwise_cons.1 hr).1 b (List.mem_cons_self ..)
        rw [hall a (List.mem_cons_self ..),hall b (List.mem_cons_of_mem _ (List.mem_cons_self ..)),fO] at this
        cases this
    rw [this] at h3
    rw [show l.filter (fun e=>aB e.1 k) ++ (k,v) :: l.filter (fun e=>aB k e.1)=l.filter (fun e=>aB e.1 k) ++ [(k,v)] ++ l.filter (fun e=>aB k e.1) by simp]
    exact h3.symm
theorem Fh {l:List aN} (h:fM l) (k v:List UInt8):qp ⟨k,iy l k⟩ (insL l k v)=l:=xE h (wQ l k v).1 (wQ l k v).2
theorem Gt {l:List aN} (h:fM l) (k:List UInt8):qp ⟨k,iy l k⟩ (gJ l k)=l:=xE h (xN l k).1 (xN l k).2
theorem yE (l:List sD) (u:sD) (F:List aN):qM (l ++ [u]) F=qM l (qp u F):=by simp [qM]
theorem BF {F F':List aN}{u:sD} (h:qp u F'=F) (l:List sD) (ls:List (List sD)):nX ((l ++ [u]) :: ls) F'=nX (l :: ls) F:=by
 unfold nX
 rw [yE,h]
open Go.Gl
def bF (p k:List UInt8):Bool:=decide (k.take p.length=p)
theorem BN (k:List UInt8):bF [] k=true:=by simp [bF]
theorem oD (x y:UInt8) (p k:List UInt8):bF (x :: p) (y :: k)=(decide (x=y) && bF p k):=by
 unfold bF
 by_cases h:x=y
 ·subst h;simp
 ·have:¬ (List.take (x :: p).length (y :: k)=x :: p):=by
   rw [List.length_cons,List.take_succ_cons]
   intro e
   exact h ((List.cons.inj e).1.symm)
  rw [decide_eq_false this,decide_eq_false h];rfl
theorem xC:∀ {p k:List UInt8},bF p k=true→aB k p=false
  | [],k,_=>by cases k <;> rfl
  | x :: p,[],h=>by simp [bF] at h
  | x :: p, y :: k, h => by
    rw [oD,Bool.and_eq_true,decide_eq_true_eq] at h
    obtain⟨rfl,h⟩:=h
    simp only [aB,if_true]
    exact xC h
theorem uj:∀ {p a b:List UInt8},aB a p=false→bF p a=false→aB a b=true→bF p b=false
  | [],a,b,_,h,_=>by rw [BN] at h;cases h
  | x :: p,[],b,h,_,_=>by simp [aB] at h
  | x :: p,y :: a,[],_,_,h=>by simp [aB] at h
  | x :: p, y :: a, z :: b, h1, h2, h3 => by
    rw [oD] at h2 ⊢
    simp only [aB] at h1 h3
    by_cases hxy:y=x
    · subst hxy
      rw [if_pos rfl] at h1
      rw [decide_eq_true rfl,Bool.true_and] at h2
      by_cases hyz:y=z
      · subst hyz
        rw [if_pos rfl] at h3
        rw [decide_eq_true rfl,Bool.true_and]
        exact uj h1 h2 h3
      · rw [decide_eq_false hyz];rfl
    · rw [if_neg hxy] at h1
      have hz:¬ x=z:=by
        intro e
        subst e
        rw [if_neg hxy] at h3
        rw [h1] at h3
        cases h3
      rw [decide_eq_false hz];rfl
theorem zX {F:List aN} (h:fM F) (p:List UInt8):(F.filter (fun e => !aB e.1 p)).takeWhile (fun e=>bF p e.1)=F.filter (fun e=>bF p e.1):=by
  induction F with
  | nil=>rfl
  | cons e F ih =>
    have h1:=List.pairwise_cons.1 h
    have ih':=ih h1.2
    cases hl:aB e.1 p with
    | true =>
      have:bF p e.1=false:=by
        cases hb:bF p e.1 with
        | false=>rfl
        | true=>have:=xC hb;rw [hl] at this;cases this
      simp only [List.filter_cons,hl,this,Bool.not_true,Bool.false_eq_true,if_false]
      exact ih'
    | false =>
      cases hb:bF p e.1 with
      | true =>
        simp only [List.filter_cons,hl,hb,Bool.not_false,if_true,List.takeWhile_cons]
        exact congrArg _ ih'
      | false =>
        have hn:F.filter (fun e=>bF p e.1)=[]:=List.filter_eq_nil_iff.2 (fun x hx=>by
          rw [uj hl hb (h1.1 x hx)];simp)
        simp only [List.filter_cons,hl,hb,Bool.not_false,if_true,List.takeWhile_cons,Bool.false_eq_true,if_false,hn]
open Go.Gl Go.RowKit
theorem AO {w:World}{g o:Nat}{c d:Int} (hc:w.cell? ⟨g,o,none⟩=some (.int .i64 c)) (hf:w.frozen? ⟨g,o,none⟩=false) (h0 : -9223372036854775808≤c+d) (h1:c+d≤9223372036854775807) :
  Calls Tryz.prog 149 #[.pointer (some ⟨g,o,none⟩),.int .i64 d] w fun e w'=>e = .returned (.int .i64 (c+d))∧w'=w.setCell ⟨g,o,none⟩ (.int .i64 (c+d)):=by
 have HA:=lh (run_call_add (P:=Tryz.prog) Tryz.func212 (by kernel_rfl) (by kernel_rfl) (by kernel_rfl) .i64 (by kernel_rfl) (y:=d) (s:=c+d) hc hf (by simp [Op.intArith,IntWalk.i64_in _ (And.intro h0 h1)]))
 clear hc hf h0 h1
 go_enter Tryz.func149,Tryz.ntmps149
 go_wp2
 rw [HA.out]
 rw [Oper.upon_value]
 go_wp2
 go_ret
 exact⟨rfl,rfl⟩
theorem GM {w:World}{g o:Nat}{c:Int} (hc:w.cell? ⟨g,o,none⟩=some (.int .i64 c)) :
  Calls Tryz.prog 146 #[.pointer (some ⟨g,o,none⟩)] w fun e w'=>e = .returned (.int .i64 c)∧w'=w:=by
 have HA:=lh (run_call_load (P:=Tryz.prog) Tryz.func209 (by kernel_rfl) (by kernel_rfl) (by kernel_rfl) .i64 (by kernel_rfl) hc)
 clear hc
 go_enter Tryz.func146,Tryz.ntmps146
 go_wp2
 rw [HA.out]
 rw [Oper.upon_value]
 go_wp2
 go_ret
 exact⟨rfl,rfl⟩
def nC (xs:List UInt8):List Int:=xs.map (fun b=>(b.toNat:Int))
theorem Rd.conv {w:World}{v:Value}{xs:List UInt8} (h:Rd w v xs):(convert 91 9 v).run Tryz.prog w = .ok (.string (strOfNums (nC xs))) w:=by
 rcases h.open with ⟨h0,rfl⟩ | ⟨g,off,cap,rfl,h1,h2,_,hc⟩
 ·obtain⟨a,rfl⟩:=h0.form
  rw [run_convert_bytes_string w 91 9 5 _ 0 0 Tryz.underlying91 Tryz.underlying5 Tryz.underlying9]
  cases a <;> simp [Conv.bytesToString,loadCells]
  all_goals rfl
 ·have hx:∀ i,i<xs.length→w.cell? ⟨g,off+i,none⟩=some (.int .u8 ((nC xs).getD i 0)):=fun i hi=>by
   rw [hc i hi]
   simp [nC,hi]
  exact run_convert_bytes_arg w 91 5 Tryz.underlying91 Tryz.underlying5 g off xs.length cap (nC xs) (by simp [nC]) hx 9 Tryz.underlying9
theorem sJ (xs:List UInt8):Lib.bytesOf (nC xs)=xs:=by
 unfold Lib.bytesOf nC
 rw [List.map_map]
 have:((fun n:Int=>UInt8.ofNat n.toNat) ∘ fun b:UInt8=>(b.toNat:Int))=id:=by
  funext b
  show UInt8.ofNat ((b.toNat:Int)).toNat=b
  rw [Int.toNat_natCast]
  exact UInt8.toNat_inj.1 (by simp)
 rw [this,List.map_id]
theorem qR {w:World}{x y:Value}{xs ys:List UInt8} (hx:Rd w x xs) (hy:Rd w y ys):Calls Tryz.prog 211 #[x,y] w fun e w'=>e = .returned (.bool (decide (xs=ys)))∧w'=w:=by
 have h1:=Rd.conv hx
 have h2:=Rd.conv hy
 have h3:((strOfNums (nC xs)).toList == (strOfNums (nC ys)).toList)=decide (xs=ys):=by
  rw [Lib.strOfNums_toList,Lib.strOfNums_toList,sJ,sJ]
  by_cases h:xs=ys
  ·subst h;simp
  ·rw [decide_eq_false h,beq_eq_false_iff_ne];exact h
 have H3:=lh h3
 generalize strOfNums (nC xs)=s at *
 generalize strOfNums (nC ys)=t at *
 clear hx hy h3
 rw [← H3.out]
 go_enter Tryz.func211,Tryz.ntmps211
 go_wp2
 go_ret
 exact⟨rfl,rfl⟩
open Go.Gl Go.RowKit
structure UV where
 c:Value
 u:sD
 sb:Nat
 kb:Nat
 ob:Nat
 kv:Value
 ov:Value
def UB (x:UV) (k:Nat):Prop:=k=x.sb∨k=x.kb∨x.kv.ownBlock=some k∨(x.u.old.isSome=true∧(k=x.ob∨x.ov.ownBlock=some k))
def FK (w:World) (x:UV):Prop:=match x.u.old with
 | none=>x.c = .func (.func 213) #[] #[.pointer (some ⟨x.sb,0,none⟩),.pointer (some ⟨x.kb,0,none⟩)]
 | some v=>x.c = .func (.func 214) #[] #[.pointer (some ⟨x.sb,0,none⟩),.pointer (some ⟨x.kb,0,none⟩),.pointer (some ⟨x.ob,0,none⟩)]∧w.heap[x.ob]?=some (.cells #[x.ov] 91 (0,0))∧Rd w x.ov v∧v.length≤1000000
structure nG (w:World) (sg:Nat) (x:UV):Prop where
 sB:w.heap[x.sb]?=some (.cells #[.pointer (some ⟨sg,0,none⟩)] 26 (0,0))
 kB:w.heap[x.kb]?=some (.cells #[x.kv] 91 (0,0))
 k:Rd w x.kv x.u.k
 lk:x.u.k.length≤1000000
 c:FK w x
theorem nG.keep {w w':World}{sg:Nat}{x:UV}{T:Nat→Prop} (h:nG w sg x) (hm:ae T w w') (ht:∀ k,UB x k→¬ T k):nG w' sg x:=by
  refine⟨hm.heap h.sB (ht _ (.inl rfl)),hm.heap h.kB (ht _ (.inr (.inl rfl))),h.k.keep hm (fun k hk=>ht k (.inr (.inr (.inl hk)))),h.lk,?_⟩
  have hc:=h.c
  unfold FK at hc ⊢
  cases ho:x.u.old with
  | none=>rw [ho] at hc;exact hc
  | some v =>
    rw [ho] at hc
    obtain⟨a,b,c,d⟩:=hc
    have hs:x.u.old.isSome=true:=by rw [ho];rfl
    exact⟨a,hm.heap b (ht _ (.inr (.inr (.inr ⟨hs,.inl rfl⟩)))),c.keep hm (fun k hk=>ht k (.inr (.inr (.inr ⟨hs,.inr hk⟩)))),d⟩
theorem nG.one {w:World}{sg:Nat}{x:UV} (h:nG w sg x):x.c.oneCell'=true:=by
 have hc:=h.c
 unfold FK at hc
 cases ho:x.u.old with
 | none=>rw [ho] at hc;rw [show x.c=_ from hc];rfl
 | some v=>rw [ho] at hc;rw [hc.1];rfl
structure JV where
 jv:Value
 us:List UV
def KS (sg mg:Nat) (vo:Value) (R:List PV) (jv:Value) (J:List JV) (k:Nat):Prop:=k=sg∨MS mg vo R k∨jv.ownBlock=some k∨∃ q∈J,q.jv.ownBlock=some k
def KD (R:List PV) (J:List JV) (k:Nat):Prop:=MD R k∨∃ q∈J,∃ x∈q.us,UB x k
structure KM (w:World) (sg mg:Nat) (vo:Value) (R:List PV) (jv:Value) (J:List JV) (n:Int):Prop where
 hg:w.heap[sg]?=some (.cells #[.pointer (some ⟨mg,0,none⟩),jv,.int .i64 n] 138 (0,0))
 pm:PM w mg vo R
 row:aO w 300 1 jv J.length (J.map (·.jv))
 pg:∀ q∈J,aO w 302 1 q.jv q.us.length (q.us.map (·.c))
 un:∀ q∈J,∀ x∈q.us,nG w sg x
 s1:¬ MS mg vo R sg∧jv.ownBlock≠some sg∧∀ q∈J,q.jv.ownBlock≠some sg
 s2:∀ k,jv.ownBlock=some k→¬ MS mg vo R k∧∀ q∈J,q.jv.ownBlock≠some k
 s3:∀ q∈J,∀ k,q.jv.ownBlock=some k→¬ MS mg vo R k
 s4:J.Pairwise (fun p q=>∀ k,p.jv.ownBlock=some k→q.jv.ownBlock≠some k)
 data:∀ k,KD R J k→¬ KS sg mg vo R jv J k
 dlt:∀ k,KD R J k→k<w.heap.size
theorem KM.lt {w:World}{sg mg:Nat}{vo jv:Value}{R:List PV}{J:List JV}{n:Int} (h:KM w sg mg vo R jv J n):∀ k,KS sg mg vo R jv J k→k<w.heap.size:=by
 rintro k (rfl | hk | hk | ⟨q,hq,hk⟩)
 ·exact lt_of_heap h.hg
 ·exact h.pm.lt k hk
 ·exact h.row.lt k hk
 ·exact (h.pg q hq).lt k hk
theorem KM.keep {w w':World}{sg mg:Nat}{vo jv:Value}{R:List PV}{J:List JV}{n:Int}{T:Nat→Prop} (h:KM w sg mg vo R jv J n) (hm:ae T w w') (h1:∀ k,KS sg mg vo R jv J k→¬ T k) (h2:∀ k,KD R J k→¬ T k):KM w' sg mg vo R jv J n :=
 ⟨hm.heap h.hg (h1 _ (.inl rfl)),h.pm.keep hm (fun k hk=>h1 k (.inr (.inl hk))) (fun k hk=>h2 k (.inl hk)),h.row.keep hm (fun k hk=>h1 k (.inr (.inr (.inl hk)))),fun q hq=>(h.pg q hq).keep hm (fun k hk=>h1 k (.inr (.inr (.inr ⟨q,hq,hk⟩)))),
  fun q hq x hx=>(h.un q hq x hx).keep hm (fun k hk=>h2 k (.inr ⟨q,hq,x,hx,hk⟩)),h.s1,h.s2,h.s3,h.s4,h.data,fun k hk=>Nat.lt_of_lt_of_le (h.dlt k hk) hm.size⟩
theorem KM.keep0 {w w':World}{sg mg:Nat}{vo jv:Value}{R:List PV}{J:List JV}{n:Int} (h:KM w sg mg vo R jv J n) (hm:ae ai w w'):KM w' sg mg vo R jv J n:=h.keep hm (fun _ _ x=>x) (fun _ _ x=>x)
structure KT (w w':World) (sg mg:Nat) (vo:Value) (R:List PV) (jv:Value) (J:List JV) (vo':Value) (R':List PV) (jv':Value) (J':List JV) (n':Int):Prop where
 km:KM w' sg mg vo' R' jv' J' n'
 mods:ae (KS sg mg vo R jv J) w w'
 ks:∀ k,KS sg mg vo' R' jv' J' k→KS sg mg vo R jv J k∨w.heap.size≤k
 kd:∀ k,KD R' J' k→KD R J k∨w.heap.size≤k
theorem KT.refl {w:World}{sg mg:Nat}{vo jv:Value}{R:List PV}{J:List JV}{n:Int} (h:KM w sg mg vo R jv J n):KT w w sg mg vo R jv J vo R jv J n:=⟨h,ae.refl _ _,fun _ => .inl,fun _ => .inl⟩
theorem KT.first {a b c:World}{sg mg:Nat}{vo jv vo' jv':Value}{R R':List PV}{J J':List JV}{n':Int} (h:KT b c sg mg vo R jv J vo' R' jv' J' n') (m:ae ai a b):KT a c sg mg vo R jv J vo' R' jv' J' n' :=
 ⟨h.km,m.trans h.mods (fun _ _ x=>x.elim) (fun _ _ x=>x),fun k hk=>(h.ks k hk).imp id (Nat.le_trans m.size),fun k hk=>(h.kd k hk).imp id (Nat.le_trans m.size)⟩
theorem KT.then0 {a b c:World}{sg mg:Nat}{vo jv vo' jv':Value}{R R':List PV}{J J':List JV}{n':Int} (h:KT a b sg mg vo R jv J vo' R' jv' J' n') (m:ae ai b c):KT a c sg mg vo R jv J vo' R' jv' J' n':=⟨h.km.keep0 m,h.mods.then0 m,h.ks,h.kd⟩
theorem KT.trans {a b c:World}{sg mg:Nat}{vo jv vo' jv' vo2 jv2:Value}{R R' R2:List PV}{J J' J2:List JV}{n' n2:Int} (h:KT a b sg mg vo R jv J vo' R' jv' J' n') (k:KT b c sg mg vo' R' jv' J' vo2 R2 jv2 J2 n2):KT a c sg mg vo R jv J vo2 R2 jv2 J2 n2 :=
 ⟨k.km,h.mods.trans k.mods (fun _ _ x=>x) (fun i hi x=>by
  rcases h.ks i x with y | y
  ·exact y
  ·omega),fun i hi=>by
  rcases k.ks i hi with y | y
  ·exact h.ks i y
  ·exact .inr (Nat.le_trans h.mods.size y),fun i hi=>by
  rcases k.kd i hi with y | y
  ·exact h.kd i y
  ·exact .inr (Nat.le_trans h.mods.size y)⟩
theorem KM.map {w w':World}{sg mg:Nat}{vo jv vo':Value}{R R':List PV}{J:List JV}{n:Int} (h:KM w sg mg vo R jv J n) (t:PT w w' mg vo R vo' R'):KT w w' sg mg vo R jv J vo' R' jv J n:=by
 have ks:∀ k,KS sg mg vo' R' jv J k→KS sg mg vo R jv J k∨w.heap.size≤k:=by
  rintro k (rfl | hk | hk | hk)
  ·exact .inl (.inl rfl)
  ·exact (t.ms k hk).imp (fun x => .inr (.inl x)) id
  ·exact .inl (.inr (.inr (.inl hk)))
  ·exact .inl (.inr (.inr (.inr hk)))
 have kd:∀ k,KD R' J k→KD R J k∨w.heap.size≤k:=by
  rintro k (hk | hk)
  ·exact (t.md k hk).imp .inl id
  ·exact .inl (.inr hk)
 have nms:∀ k,k<w.heap.size→¬ MS mg vo R k→¬ MS mg vo' R' k:=fun k hk hn x=>by
  rcases t.ms k x with y | y
  ·exact hn y
  ·omega
 refine⟨⟨t.mods.heap h.hg h.s1.1,t.pm,h.row.keep t.mods (fun k hk=>(h.s2 k hk).1),fun q hq=>(h.pg q hq).keep t.mods (fun k hk=>h.s3 q hq k hk),fun q hq x hx=>(h.un q hq x hx).keep t.mods (fun k hk y=>h.data k (.inr ⟨q,hq,x,hx,hk⟩) (.inr (.inl y))),
  ⟨nms sg (lt_of_heap h.hg) h.s1.1,h.s1.2⟩,fun k hk=>⟨nms k (h.row.lt k hk) (h.s2 k hk).1,(h.s2 k hk).2⟩,fun q hq k hk=>nms k ((h.pg q hq).lt k hk) (h.s3 q hq k hk),h.s4,fun k hk hs=>?_,fun k hk=>?_⟩,t.mods.mono (fun k _ hk => .inr (.inl hk)),ks,kd⟩
 ·rcases hk with hk | hk
  ·have hpm:=t.pm.data k hk
   rcases hs with rfl | hs | hs
   ·rcases t.md k hk with y | y
    ·exact h.data k (.inl y) (.inl rfl)
    ·have:=lt_of_heap h.hg;omega
   ·exact hpm hs
   ·rcases t.md k hk with y | y
    ·exact h.data k (.inl y) (.inr (.inr hs))
    ·have:=h.lt k (.inr (.inr hs));omega
  ·have hlt:=h.dlt k (.inr hk)
   rcases ks k hs with y | y
   ·exact h.data k (.inr hk) y
   ·omega
 ·rcases kd k hk with y | y
  ·exact Nat.lt_of_lt_of_le (h.dlt k y) t.mods.size
  ·rcases hk with hk | hk
   ·exact t.pm.dlt k hk
   ·have:=h.dlt k (.inr hk);omega
theorem KM.chg {w w':World}{sg mg:Nat}{vo jv jv':Value}{R:List PV}{J J':List JV}{n n':Int}{Z:Nat→Prop} (h:KM w sg mg vo R jv J n) (m:ae (fun k=>k=sg∨jv.ownBlock=some k∨∃ q∈J,q.jv.ownBlock=some k) w w')
  (hg':w'.heap[sg]?=some (.cells #[.pointer (some ⟨mg,0,none⟩),jv',.int .i64 n'] 138 (0,0))) (row':aO w' 300 1 jv' J'.length (J'.map (·.jv))) (hjv:jv'.ownBlock=jv.ownBlock∨aF w jv')
  (pg':∀ q∈J',aO w' 302 1 q.jv q.us.length (q.us.map (·.c))∧((∃ p∈J,q.jv.ownBlock=p.jv.ownBlock)∨aF w q.jv))
  (un':∀ q∈J',∀ x∈q.us,(∃ p∈J,x∈p.us)∨(nG w sg x∧∀ k,UB x k→Z k∧k<w.heap.size∧¬ KS sg mg vo R jv J k))
  (s2':∀ q∈J',∀ k,q.jv.ownBlock=some k→jv'.ownBlock≠some k) (s4':J'.Pairwise (fun p q=>∀ k,p.jv.ownBlock=some k→q.jv.ownBlock≠some k)) :
  KM w' sg mg vo R jv' J' n'∧ae (KS sg mg vo R jv J) w w'∧(∀ k,KS sg mg vo R jv' J' k→KS sg mg vo R jv J k∨w.heap.size≤k)∧(∀ k,KD R J' k→KD R J k∨Z k):=by
 have hgl:=lt_of_heap h.hg
 have jb:∀ k,jv'.ownBlock=some k→jv.ownBlock=some k∨w.heap.size≤k:=fun k hk=>by
  rcases hjv with x | x
  ·exact .inl (x▸hk)
  ·exact .inr (x k hk)
 have qb:∀ q∈J',∀ k,q.jv.ownBlock=some k→(∃ p∈J,p.jv.ownBlock=some k)∨w.heap.size≤k:=fun q hq k hk=>by
  rcases (pg' q hq).2 with ⟨p,hp,x⟩ | x
  ·exact .inl ⟨p,hp,x▸hk⟩
  ·exact .inr (x k hk)
 have ks:∀ k,KS sg mg vo R jv' J' k→KS sg mg vo R jv J k∨w.heap.size≤k:=by
  rintro k (rfl | hk | hk | ⟨q,hq,hk⟩)
  ·exact .inl (.inl rfl)
  ·exact .inl (.inr (.inl hk))
  ·exact (jb k hk).imp (fun x => .inr (.inr (.inl x))) id
  ·exact (qb q hq k hk).imp (fun x => .inr (.inr (.inr x))) id
 have kd:∀ k,KD R J' k→(KD R J k∨Z k)∧k<w.heap.size∧¬ KS sg mg vo R jv J k:=by
  rintro k (hk | ⟨q,hq,x,hx,hk⟩)
  ·exact⟨.inl (.inl hk),h.dlt k (.inl hk),h.data k (.inl hk)⟩
  ·rcases un' q hq x hx with ⟨p,hp,hxp⟩ | ⟨_,hu⟩
   ·have:KD R J k := .inr ⟨p,hp,x,hxp,hk⟩
    exact⟨.inl this,h.dlt k this,h.data k this⟩
   ·obtain⟨z,l,s⟩:=hu k hk
    exact⟨.inr z,l,s⟩
 have tin:∀ k,(k=sg∨jv.ownBlock=some k∨∃ q∈J,q.jv.ownBlock=some k)→KS sg mg vo R jv J k:=by
  rintro k (hk | hk | hk)
  ·exact .inl hk
  ·exact .inr (.inr (.inl hk))
  ·exact .inr (.inr (.inr hk))
 have nms:∀ k,MS mg vo R k→¬ (k=sg∨jv.ownBlock=some k∨∃ q∈J,q.jv.ownBlock=some k):=by
  rintro k hk (rfl | x | ⟨q,hq,x⟩)
  ·exact h.s1.1 hk
  ·exact (h.s2 k x).1 hk
  ·exact h.s3 q hq k x hk
 refine⟨⟨hg',h.pm.keep m nms (fun k hk x=>h.data k (.inl hk) (tin k x)),row',fun q hq=>(pg' q hq).1,fun q hq x hx=>?_,⟨h.s1.1,fun x=>?_,fun q hq x=>?_⟩,fun k hk=>⟨fun x=>?_,fun q hq x=>s2' q hq k x hk⟩,fun q hq k hk x=>?_,s4',fun k hk hs=>?_,fun k hk=>Nat.lt_of_lt_of_le (kd k hk).2.1 m.size⟩,m.mono (fun k _ hk=>tin k hk),ks,fun k hk=>(kd k hk).1⟩
 ·rcases un' q hq x hx with ⟨p,hp,hxp⟩ | ⟨hu,hb⟩
  ·exact (h.un p hp x hxp).keep m (fun k hk y=>h.data k (.inr ⟨p,hp,x,hxp,hk⟩) (tin k y))
  ·exact hu.keep m (fun k hk y=>(hb k hk).2.2 (tin k y))
 ·rcases jb sg x with y | y
  ·exact h.s1.2.1 y
  ·omega
 ·rcases qb q hq sg x with ⟨p,hp,y⟩ | y
  ·exact h.s1.2.2 p hp y
  ·omega
 ·rcases jb k hk with y | y
  ·exact (h.s2 k y).1 x
  ·have:=h.pm.lt k x;omega
 ·rcases qb q hq k hk with ⟨p,hp,y⟩ | y
  ·exact h.s3 p hp k y x
  ·have:=h.pm.lt k x;omega
 ·obtain⟨_,l,s⟩:=kd k hk
  rcases ks k hs with y | y
  ·exact s y
  ·omega
theorem KM.tick {w w':World}{sg mg:Nat}{vo jv:Value}{R:List PV}{J:List JV}{n n':Int} (h:KM w sg mg vo R jv J n) (e:w'=w.setCell ⟨sg,2,none⟩ (.int .i64 n')):KT w w' sg mg vo R jv J vo R jv J n':=by
 have m:ae (fun k=>k=sg∨jv.ownBlock=some k∨∃ q∈J,q.jv.ownBlock=some k) w w':=by rw [e];exact (ae.refl _ w).setCell (p:=⟨sg,2,none⟩) (.inl (.inl rfl)) _
 have m1:ae (fun k=>k=sg) w w':=by rw [e];exact (ae.refl (fun k=>k=sg) w).setCell (p:=⟨sg,2,none⟩) (.inl rfl) _
 obtain⟨a,b,c,d⟩:=h.chg (Z:=fun _=>False) (jv':=jv) (J':=J) (n':=n') m (by rw [e];exact heap_set h.hg 2 _) (h.row.keep m1 (fun k hk x=>h.s1.2.1 (x▸hk))) (.inl rfl) (fun q hq=>⟨(h.pg q hq).keep m1 (fun k hk x=>h.s1.2.2 q hq (x▸hk)),.inl ⟨q,hq,rfl⟩⟩) (fun q hq x hx => .inl ⟨q,hq,hx⟩) (fun q hq k hk x=>(h.s2 k x).2 q hq hk) h.s4
 exact⟨a,b,c,fun k hk=>(d k hk).imp id (fun x=>x.elim)⟩
open Go.Gl Go.RowKit
theorem EX (w:World):Calls Tryz.prog 12 #[] w fun e w'=>∃ sg mg,e = .returned (.pointer (some ⟨sg,0,none⟩))∧KM w' sg mg (.slice none 0 0) [] (.slice none 0 0) [] 0∧ae ai w w'∧w.heap.size≤sg∧w.heap.size≤mg:=by
 go_enter Tryz.func12,Tryz.ntmps12
 go_wp2_with fail
 refine (Ik w).mono ?_
 rintro e w1 ⟨g,rfl,pm,m1,hg⟩
 have hl:=pm.lt g (.inl rfl)
 have hb:=aU w1 (.cells #[.pointer (some ⟨g,0,none⟩),.slice none 0 0,.int .i64 0] 138)
 have m2:=(ae.refl ai w1).alloc (.cells #[.pointer (some ⟨g,0,none⟩),.slice none 0 0,.int .i64 0] 138)
 have PM:=lh (And.intro (pm.keep0 m2) (And.intro (m1.then0 m2) (And.intro hg hl)))
 have HB:=lh hb
 clear pm m1 hg hl hb m2
 go_wp2
 go_ret
 have ms0:∀ k,MS g (.slice none 0 0) [] k→k=g:=fun k h=>by
  rcases h with h | h | ⟨p,hp,_⟩
  ·exact h
  ·simp [Value.ownBlock] at h
  ·exact (List.not_mem_nil hp).elim
 refine⟨_,g,rfl,⟨HB.out,PM.out.1,⟨rfl,.inl ⟨rfl,rfl⟩⟩,fun q hq=>(List.not_mem_nil hq).elim,fun q hq=>(List.not_mem_nil hq).elim,⟨fun x=>by have:=ms0 _ x;have:=PM.out.2.2.2;omega,by simp [Value.ownBlock],fun q hq=>(List.not_mem_nil hq).elim⟩,fun k hk=>by simp [Value.ownBlock] at hk,fun q hq=>(List.not_mem_nil hq).elim,List.Pairwise.nil,fun k hk=>?_,fun k hk=>?_⟩,PM.out.2.1,?_,PM.out.2.2.1⟩
 ·rcases hk with ⟨p,hp,_⟩ | ⟨q,hq,_⟩
  ·exact (List.not_mem_nil hp).elim
  ·exact (List.not_mem_nil hq).elim
 ·rcases hk with ⟨p,hp,_⟩ | ⟨q,hq,_⟩
  ·exact (List.not_mem_nil hp).elim
  ·exact (List.not_mem_nil hq).elim
 ·have:=PM.out.2.2.1;have:=PM.out.2.2.2;omega
def Off (S:Nat→Prop) (q:Value) (ys:List UInt8):Prop:=ys≠[]→∀ i,q.ownBlock=some i→¬ S i
theorem Hf {w w':World}{q:Value} (h:Rd w q []):Rd w' q []:=by
 refine⟨h.1,?_⟩
 rcases h.2 with x | ⟨g,off,cap,hv,h1,h2,_,_⟩
 ·exact .inl x
 ·exact .inr ⟨g,off,cap,hv,h1,h2,.inl rfl,fun j u hj=>by simp [bv] at hj⟩
theorem Off.keep {T:Nat→Prop}{w w':World}{q:Value}{ys:List UInt8} (h:Off T q ys) (hq:Rd w q ys) (hm:ae T w w'):Rd w' q ys:=by
 by_cases hy:ys=[]
 ·subst hy;exact Hf hq
 ·exact hq.keep hm (h hy)
theorem Off.mono {S T:Nat→Prop}{q:Value}{ys:List UInt8} (h:Off S q ys) (hs:∀ k,T k→S k):Off T q ys:=fun hy i hi x=>h hy i hi (hs i x)
theorem KM.cells {w:World}{sg mg:Nat}{vo jv:Value}{R:List PV}{J:List JV}{n:Int} (h:KM w sg mg vo R jv J n):w.cell? ⟨sg,0,none⟩=some (.pointer (some ⟨mg,0,none⟩))∧w.cell? ⟨sg,1,none⟩=some jv∧w.cell? ⟨sg,2,none⟩=some (.int .i64 n)∧∀ o,w.frozen? ⟨sg,o,none⟩=false :=
 ⟨ag h.hg 0,ag h.hg 1,ag h.hg 2,fun o=>bY h.hg o⟩
theorem KM.add {w:World}{sg mg:Nat}{vo jv:Value}{R:List PV}{J:List JV}{n:Int} (h:KM w sg mg vo R jv J n) (h0:0≤n) (h1:n≤4611686018427387904):Calls Tryz.prog 149 #[.pointer (some ⟨sg,2,none⟩),.int .i64 1] w fun e w'=>e = .returned (.int .i64 (n+1))∧KT w w' sg mg vo R jv J vo R jv J (n+1)∧ae (fun k=>k=sg) w w':=by
 obtain⟨_,_,c,f⟩:=h.cells
 refine (AO c (f 2) (by omega) (by omega)).mono ?_
 rintro e w' ⟨rfl,e'⟩
 exact⟨rfl,h.tick e',by rw [e'];exact (ae.refl (fun k=>k=sg) w).setCell (p:=⟨sg,2,none⟩) (.inl rfl) _⟩
theorem FC {w:World}{sg mg:Nat}{vo jv:Value}{R:List PV}{J:List JV}{n:Int} (h:KM w sg mg vo R jv J n) (h0:0≤n) (h1:n≤4611686018427387904):Calls Tryz.prog 67 #[.pointer (some ⟨sg,0,none⟩)] w fun e w'=>e = .returned (.int .i64 n)∧w'=w:=by
 have L:=lh (GM h.cells.2.2.1)
 clear h
 go_enter Tryz.func67,Tryz.ntmps67
 go_wp2_with fail
 refine L.out.mono ?_
 rintro e w' ⟨rfl,rfl⟩
 go_wp2
 go_ret
 exact⟨rfl,rfl⟩
open Go.Gl Go.RowKit
theorem rO {v:Value}{xs:List UInt8}{w:World} (hv:Rd w v xs) (hl:xs.length≤140737488355328) :
  Calls Tryz.prog 119 #[v] w fun e w'=>∃ v',e = .returned v'∧Gl.Own w' v' xs∧ae ai w w'∧aF w v':=by
 go_enter Tryz.func119,Tryz.ntmps119
 go_wp2_with (at_builtin;refine stop ?_)
 unfold Stop
 refine gW rfl rfl [] xs (Gl.Own.nil _) hv rfl rfl (by simpa using hl) ?_
 intro v' w' h1 h2 h3
 go_wp2
 go_ret
 refine⟨_,rfl,h1,h2.mono (fun i _ h=>by simp [dC,Value.ownBlock] at h),fun k hk=>?_⟩
 rcases h3 with h3 | h3
 ·exact absurd (h3.symm.trans hk) (by simp [Value.ownBlock])
 ·exact h3 k hk
open Go.Gl Go.RowKit
def dZ (F:List aN) (k:List UInt8):Nat:=(F.filter (fun e=>aB e.1 k)).length
def kU (F:List aN) (k:List UInt8):Nat:=if (iy F k).isSome then 1 else 0
theorem EK {F:List aN}{k:List UInt8}{m:Nat} (hr:fM F) (hm:m≤F.length) (h1:∀ i (hi:i<F.length),i<m→aB F[i].1 k=true) (h2:∀ i (hi:i<F.length),m≤i→aB F[i].1 k=false):F.filter (fun e=>aB e.1 k)=F.take m∧dZ F k=m:=by
 have h:F.filter (fun e=>aB e.1 k)=F.take m:=by
  conv=>lhs;rw [← List.take_append_drop m F]
  rw [List.filter_append,filter_all (l:=F.take m) (fun e he=>?_),gI (l:=F.drop m) (fun e he=>?_),List.append_nil]
  ·obtain⟨i,hi,rfl⟩:=List.getElem_of_mem he
   rw [List.length_drop] at hi
   rw [List.getElem_drop]
   exact h2 _ (by omega) (by omega)
  ·obtain⟨i,hi,rfl⟩:=List.getElem_of_mem he
   rw [List.length_take] at hi
   rw [List.getElem_take]
   exact h1 i (by omega) (by omega)
 exact⟨h,by unfold dZ;rw [h,List.length_take];omega⟩
theorem qQ {F:List aN} (hr:fM F) {i j:Nat} (hi:i<F.length) (hj:j<F.length) (h:i<j):aB F[i].1 F[j].1=true:=List.pairwise_iff_getElem.1 hr i j hi hj h
theorem uz {F:List aN}{k:List UInt8}{m:Nat} (hr:fM F) (hm:m<F.length) (h1:∀ i (hi:i<F.length),i<m→aB F[i].1 k=true) (h2:∀ i (hi:i<F.length),m≤i→aB F[i].1 k=false):iy F k=if F[m].1=k then some F[m].2 else none:=by
 by_cases hk:F[m].1=k
 ·rw [if_pos hk]
  have:=hr.find (List.getElem_mem hm)
  unfold iy
  rw [hk] at this
  rw [this];rfl
 ·rw [if_neg hk]
  unfold iy
  rw [Option.map_eq_none_iff,List.find?_eq_none]
  intro e he hek
  have hek':e.1=k:=by simpa using hek
  obtain⟨i,hi,rfl⟩:=List.getElem_of_mem he
  by_cases him:i<m
  ·have:=h1 i hi him
   rw [hek',fO] at this;cases this
  ·rcases Nat.lt_or_ge m i with h3 | h3
   ·have:=qQ hr hm hi h3
    rw [hek',h2 m hm (Nat.le_refl _)] at this;cases this
   ·obtain rfl:i=m:=by omega
    exact hk hek'
theorem wX {F:List aN}{k:List UInt8} (h1:∀ i (hi:i<F.length),aB F[i].1 k=true):iy F k=none:=by
 unfold iy
 rw [Option.map_eq_none_iff,List.find?_eq_none]
 intro e he hek
 have hek':e.1=k:=by simpa using hek
 obtain⟨i,hi,rfl⟩:=List.getElem_of_mem he
 have:=h1 i hi
 rw [hek',fO] at this;cases this
theorem vI {F:List aN} (hr:fM F) (k:List UInt8):(∀ i (hi:i<F.length),i<dZ F k→aB F[i].1 k=true)∧(∀ i (hi:i<F.length),dZ F k≤i→aB F[i].1 k=false)∧dZ F k≤F.length:=by
  have hle:dZ F k≤F.length:=List.length_filter_le _ _
  induction F with
  | nil=>exact⟨fun i hi=>by simp at hi,fun i hi=>by simp at hi,hle⟩
  | cons a F ih =>
    obtain⟨ha,hF⟩:=List.pairwise_cons.1 hr
    have ih:=ih hF (List.length_filter_le _ _)
    by_cases hl:aB a.1 k=true
    · have hc:dZ (a :: F) k=dZ F k+1:=by unfold dZ;rw [List.filter_cons,if_pos hl];rfl
      rw [hc]
      refine⟨fun i hi him=>?_,fun i hi him=>?_,by simp;exact ih.2.2⟩
      · rcases i with _ | i
        · exact hl
        · exact ih.1 i (by simpa using hi) (by omega)
      · rcases i with _ | i
        · omega
        · exact ih.2.1 i (by simpa using hi) (by omega)
    · have hl':aB a.1 k=false:=by simpa using hl
      have hn:∀ e∈F,aB e.1 k=false:=fun e he=>by
        have:=ha e he
        cases hek:aB e.1 k with
        | false=>rfl
        | true=>rw [fP this hek] at hl';cases hl'
      have hc:dZ (a :: F) k=0:=by unfold dZ;rw [List.filter_cons,if_neg hl,gI hn];rfl
      rw [hc]
      refine⟨fun i hi him=>by omega,fun i hi him=>?_,Nat.zero_le _⟩
      rcases i with _ | i
      · exact hl'
      · exact hn _ (List.getElem_mem _)
theorem xP {F:List aN} (hr:fM F) (k:List UInt8):F.filter (fun e=>aB e.1 k)=F.take (dZ F k):=(EK hr (vI hr k).2.2 (vI hr k).1 (vI hr k).2.1).1
theorem xQ {F:List aN} (hr:fM F) (k:List UInt8):F.filter (fun e=>aB k e.1)=F.drop (dZ F k+kU F k):=by
  obtain⟨h1,h2,h3⟩:=vI hr k
  conv=>lhs;rw [← List.take_append_drop (dZ F k+kU F k) F]
  rw [List.filter_append,gI (fun e he=>?_),filter_all (l:=F.drop _) (fun e he=>?_),List.nil_append]
  · obtain⟨i,hi,rfl⟩:=List.getElem_of_mem he
    rw [List.length_drop] at hi
    rw [List.getElem_drop]
    have hle:aB (F[dZ F k+kU F k+i]'(by omega)).1 k=false:=h2 _ (by omega) (by omega)
    cases hg:aB k (F[dZ F k+kU F k+i]'(by omega)).1 with
    | true=>rfl
    | false =>
      have he:=mQ hle hg
      exfalso
      have hf:=uz hr (by omega:dZ F k<F.length) h1 h2
      by_cases hk:(F[dZ F k]'(by omega)).1=k
      · rw [if_pos hk] at hf
        have hn:kU F k=1:=by unfold kU;rw [hf];rfl
        have:=qQ hr (by omega:dZ F k<F.length) (by omega:dZ F k+kU F k+i<F.length) (by omega)
        rw [hk,he,fO] at this;cases this
      · rw [if_neg hk] at hf
        have hn:kU F k=0:=by unfold kU;rw [hf];rfl
        rcases Nat.lt_or_ge (dZ F k) (dZ F k+kU F k+i) with h | h
        · have:=qQ hr (by omega:dZ F k<F.length) (by omega:dZ F k+kU F k+i<F.length) h
          rw [he,h2 _ (by omega) (Nat.le_refl _)] at this;cases this
        · have:dZ F k+kU F k+i=dZ F k:=by omega
          simp only [this] at he
          exact hk he
  · obtain⟨i,hi,rfl⟩:=List.getElem_of_mem he
    rw [List.length_take] at hi
    rw [List.getElem_take]
    by_cases hic:i<dZ F k
    · exact jY (h1 i (by omega) hic)
    · have hi1:kU F k=1∧i=dZ F k:=by have:kU F k≤1:=(by unfold kU;split <;> omega);omega
      have hs:(iy F k).isSome=true:=by have:=hi1.1;unfold kU at this;split at this <;> simp_all
      rw [uz hr (by omega:dZ F k<F.length) h1 h2] at hs
      have hk:(F[dZ F k]'(by omega)).1=k:=by
        by_cases hk:(F[dZ F k]'(by omega)).1=k
        · exact hk
        · rw [if_neg hk] at hs;cases hs
      have:=hi1.2
      subst this
      rw [hk,fO]
theorem JZ {F:List aN} (hr:fM F) (k v:List UInt8):insL F k v=F.take (dZ F k) ++ (k,v) :: F.drop (dZ F k+kU F k):=by unfold insL;rw [xP hr,xQ hr]
theorem Jl {F:List aN} (hr:fM F) (k:List UInt8):gJ F k=F.take (dZ F k) ++ F.drop (dZ F k+kU F k):=by unfold gJ;rw [xP hr,xQ hr]
theorem DY {F:List aN} (hr:fM F) (k:List UInt8):dZ F k+kU F k≤F.length:=by
 obtain⟨h1,h2,h3⟩:=vI hr k
 unfold kU
 by_cases hc:dZ F k<F.length
 ·split <;> omega
 ·rw [wX (fun i hi=>h1 i hi (by omega))];simpa using h3
structure SV where
 v:Value
 es:List EV
def RB6 (v:Value) (L:List EV) (k:Nat):Prop:=v.ownBlock=some k∨kV L k
def oV (lv:Value) (L:List EV) (H:List SV) (k:Nat):Prop:=RB6 lv L k∨∃ h∈H,RB6 h.v h.es k
def kW (g:Nat) (wv:Value) (k:Nat):Prop:=k=g∨wv.ownBlock=some k
structure lw (w:World) (g:Nat) (lv wv:Value) (L:List EV) (H:List SV) (n:Int):Prop where
 hg:w.heap[g]?=some (.cells #[lv,wv,.int .i64 n] 32 (0,0))
 pr:iU w lv L
 row:aO w 29 1 wv H.length (H.map (·.v))
 old:∀ h∈H,iU w h.v h.es
 s1:wv.ownBlock≠some g
 data:∀ k,oV lv L H k→¬ kW g wv k
 dlt:∀ k,oV lv L H k→k<w.heap.size
theorem lw.lt {w:World}{g:Nat}{lv wv:Value}{L:List EV}{H:List SV}{n:Int} (h:lw w g lv wv L H n):∀ k,kW g wv k→k<w.heap.size:=fun k hk=>by
 rcases hk with rfl | hk
 ·exact lt_of_heap h.hg
 ·exact h.row.lt k hk
theorem lw.keep {w w':World}{g:Nat}{lv wv:Value}{L:List EV}{H:List SV}{n:Int}{T:Nat→Prop} (h:lw w g lv wv L H n) (hm:ae T w w') (h1:∀ k,kW g wv k→¬ T k) (h2:∀ k,oV lv L H k→¬ T k):lw w' g lv wv L H n :=
 ⟨hm.heap h.hg (h1 g (.inl rfl)),h.pr.keep hm (fun k hk=>h2 k (.inl (.inl hk))) (fun k hk=>h2 k (.inl (.inr hk))),h.row.keep hm (fun k hk=>h1 k (.inr hk)),fun q hq=>(h.old q hq).keep hm (fun k hk=>h2 k (.inr ⟨q,hq,.inl hk⟩)) (fun k hk=>h2 k (.inr ⟨q,hq,.inr hk⟩)),h.s1,h.data,fun k hk=>Nat.lt_of_lt_of_le (h.dlt k hk) hm.size⟩
theorem lw.keep0 {w w':World}{g:Nat}{lv wv:Value}{L:List EV}{H:List SV}{n:Int} (h:lw w g lv wv L H n) (hm:ae ai w w'):lw w' g lv wv L H n:=h.keep hm (fun _ _ x=>x) (fun _ _ x=>x)
theorem lw.cells {w:World}{g:Nat}{lv wv:Value}{L:List EV}{H:List SV}{n:Int} (h:lw w g lv wv L H n):w.cell? ⟨g,0,none⟩=some lv∧w.cell? ⟨g,1,none⟩=some wv∧w.cell? ⟨g,2,none⟩=some (.int .i64 n)∧∀ o,w.frozen? ⟨g,o,none⟩=false :=
 ⟨ag h.hg 0,ag h.hg 1,ag h.hg 2,fun o=>bY h.hg o⟩
theorem lw.set {w:World}{g:Nat}{lv wv lv':Value}{L L':List EV}{H:List SV}{n:Int} (h:lw w g lv wv L H n) (hp:iU w lv' L') (hd:∀ k,RB6 lv' L' k→¬ kW g wv k∧k<w.heap.size):lw (w.setCell ⟨g,0,none⟩ lv') g lv' wv L' H n∧ae (fun k=>k=g) w (w.setCell ⟨g,0,none⟩ lv'):=by
 have m:ae (fun k=>k=g) w (w.setCell ⟨g,0,none⟩ lv'):=(ae.refl (fun k=>k=g) w).setCell (p:=⟨g,0,none⟩) (.inl rfl) _
 refine⟨⟨heap_set h.hg 0 _,hp.keep m (fun k hk x=>(hd k (.inl hk)).1 (.inl x)) (fun k hk x=>(hd k (.inr hk)).1 (.inl x)),h.row.keep m (fun k hk x=>h.s1 (x▸hk)),fun q hq=>(h.old q hq).keep m (fun k hk x=>h.data k (.inr ⟨q,hq,.inl hk⟩) (.inl x)) (fun k hk x=>h.data k (.inr ⟨q,hq,.inr hk⟩) (.inl x)),h.s1,fun k hk=>?_,fun k hk=>?_⟩,m⟩
 ·rcases hk with hk | hk
  ·exact (hd k hk).1
  ·exact h.data k (.inr hk)
 ·rcases hk with hk | hk
  ·exact Nat.lt_of_lt_of_le (hd k hk).2 m.size
  ·exact Nat.lt_of_lt_of_le (h.dlt k (.inr hk)) m.size
theorem lw.tick {w:World}{g:Nat}{lv wv:Value}{L:List EV}{H:List SV}{n:Int} (h:lw w g lv wv L H n) (n':Int):lw (w.setCell ⟨g,2,none⟩ (.int .i64 n')) g lv wv L H n'∧ae (fun k=>k=g) w (w.setCell ⟨g,2,none⟩ (.int .i64 n')):=by
 have m:ae (fun k=>k=g) w (w.setCell ⟨g,2,none⟩ (.int .i64 n')):=(ae.refl (fun k=>k=g) w).setCell (p:=⟨g,2,none⟩) (.inl rfl) _
 exact⟨⟨heap_set h.hg 2 _,h.pr.keep m (fun k hk x=>h.data k (.inl (.inl hk)) (.inl x)) (fun k hk x=>h.data k (.inl (.inr hk)) (.inl x)),h.row.keep m (fun k hk x=>h.s1 (x▸hk)),fun q hq=>(h.old q hq).keep m (fun k hk x=>h.data k (.inr ⟨q,hq,.inl hk⟩) (.inl x)) (fun k hk x=>h.data k (.inr ⟨q,hq,.inr hk⟩) (.inl x)),h.s1,h.data,fun k hk=>Nat.lt_of_lt_of_le (h.dlt k hk) m.size⟩,m⟩
theorem nP {L:List EV}{i:Nat} (hi:i<L.length):(L.map EV.ent)[i]'(by simpa using hi)=(L[i].k,L[i].v):=by rw [List.getElem_map];rfl
theorem vk {w:World}{g:Nat}{lv wv q:Value}{L:List EV}{H:List SV}{n:Int}{ks:List UInt8} (h:lw w g lv wv L H n) (hr:fM (L.map EV.ent)) (hq:Rd w q ks) (hn:L.length≤1000000) :
    Calls Tryz.prog 118 #[.pointer (some ⟨g,0,none⟩),q] w fun e w'=>e = .returned (.tuple #[.int .i64 (dZ (L.map EV.ent) ks:Nat),.bool (iy (L.map EV.ent) ks).isSome])∧Quiet w w':=by
  obtain⟨a0,c0,rfl,h0⟩:=h.pr.at
  have C0:=lh h.cells.1
  have HG:=lh (lt_of_heap h.hg)
  have HAT:=lh h0
  have PR:=lh h.pr
  have HR:=lh hr
  have HQ:=lh hq
  obtain⟨m,hm⟩:∃ m,L.length=m:=⟨_,rfl⟩
  have HM:=lh hm
  rw [hm] at C0 hn
  clear h h0 hr hq hm
  have d0:=C0.out
  go_enter Tryz.func118,Tryz.ntmps118
  go_wp2
  go_quiet (fail)
  go_wp2
  go_loopw [6,7] (fun x y wr=>∃ lo hi:Nat,lo≤hi∧hi≤m∧x = .int .i64 lo∧y = .int .i64 hi∧(∃ q,wr=w.drewN q)∧Hid ((∀ i (hi:i<L.length),i<lo→aB (L[i]).k ks=true)∧(∀ i (hi2:i<L.length),hi≤i→aB (L[i]).k ks=false))) (fun x y _=>(intOf y).toNat - (intOf x).toNat)
  case atStart=>exact⟨0,m,Nat.zero_le _,Nat.le_refl _,rfl,rfl,⟨_,rfl⟩,lh ⟨fun i hi h=>by omega,fun i hi h=>by have:=HM.out;omega⟩⟩
  case round =>
    obtain⟨lo,hi,h1,h2,rfl,rfl,⟨dq,rfl⟩,hI⟩:=hrel
    clear d0
    by_cases hlt:lo<hi
    · obtain⟨mid,hmid⟩:∃ mid,(lo+hi) / 2=mid:=⟨_,rfl⟩
      have hm1:lo≤mid:=by omega
      have hm2:mid<hi:=by omega
      have hmi:((lo:Int)+(hi:Int)) / 2=(mid:Int):=by omega
      have hmt:((lo:Int)+(hi:Int)).tdiv 2=(mid:Int):=by rw [Int.tdiv_eq_ediv_of_nonneg (by omega)];exact hmi
      have hil:mid<L.length:=by rw [HM.out];omega
      obtain⟨b,off,rfl,hb,k1,k2⟩:=HAT.out mid hil
      have mq:=(ae.refl ai w).drewN dq
      have d0:=(mq.cellAt HG.out (fun x=>x) _).trans C0.out
      have d1:=(mq.cellAt hb (fun x=>x) _).trans k1
      have rk:=((PR.out.keep0 mq).own _ (List.getElem_mem hil)).1
      obtain⟨ka,kc,ek,_⟩:=rk.form
      have HL:=lh (Gz rk (HQ.out.keep mq (fun _ _ x=>x)))
      rw [ek] at d1 HL
      obtain⟨lb,hlb⟩:∃ lb,aB (L[mid]).k ks=lb:=⟨_,rfl⟩
      rw [hlb] at HL
      have hki:(mid:Int)<(m:Int):=by omega
      clear k1 k2 rk ek hmid hmi mq
      go_wp2_with fail
      refine HL.out.mono ?_
      rintro e w1 ⟨rfl,⟨d1q,rfl⟩⟩
      cases lb with
      | true =>
        have HS:=lh (show (∀ i (hi:i<L.length),i<mid+1→aB (L[i]).k ks=true)∧(∀ i (hi2:i<L.length),hi≤i→aB (L[i]).k ks=false) from⟨fun i hi h=>by
          rcases Nat.lt_or_ge i mid with h3 | h3
          · have h4:=qQ HR.out (i:=i) (j:=mid) (by simpa using hi) (by simpa using hil) h3
            rw [nP hi,nP hil] at h4
            exact fP h4 hlb
          · obtain rfl:i=mid:=by omega
            exact hlb,hI.out.2⟩)
        clear hlb HL hI d0 d1
        go_wp2
        go_roundw
        case rel=>exact⟨mid+1,hi,by omega,by omega,by go_num,rfl,⟨_,rfl⟩,HS⟩
        case measure=>simp [intOf];omega
      | false =>
        have HS:=lh (show (∀ i (hi:i<L.length),i<lo→aB (L[i]).k ks=true)∧(∀ i (hi2:i<L.length),mid≤i→aB (L[i]).k ks=false) from⟨hI.out.1,fun i hi h=>by
          rcases Nat.lt_or_ge mid i with h3 | h3
          · have h4:=qQ HR.out (i:=mid) (j:=i) (by simpa using hil) (by simpa using hi) h3
            rw [nP hi,nP hil] at h4
            cases h5:aB (L[i]).k ks with
            | false=>rfl
            | true=>rw [fP h4 h5] at hlb;cases hlb
          · obtain rfl:i=mid:=by omega
            exact hlb⟩)
        clear hlb HL hI d0 d1
        go_wp2
        go_roundw
        case rel=>exact⟨lo,mid,by omega,by omega,rfl,rfl,⟨_,rfl⟩,HS⟩
        case measure=>simp [intOf];omega
    · obtain rfl:lo=hi:=by omega
      have hcl:∀ i (hi:i<(L.map EV.ent).length),i<lo→aB (L.map EV.ent)[i].1 ks=true:=fun i hi hil=>by
        have hi':i<L.length:=by simpa using hi
        rw [nP hi'];exact hI.out.1 i hi' hil
      have hcg:∀ i (hi:i<(L.map EV.ent).length),lo≤i→aB (L.map EV.ent)[i].1 ks=false:=fun i hi hil=>by
        have hi':i<L.length:=by simpa using hi
        rw [nP hi'];exact hI.out.2 i hi' hil
      have hcnt:dZ (L.map EV.ent) ks=lo:=(EK HR.out (by rw [List.length_map,HM.out];omega) hcl hcg).2
      have CNT:=lh hcnt
      have mq:=(ae.refl ai w).drewN dq
      have d0:=(mq.cellAt HG.out (fun x=>x) _).trans C0.out
      by_cases hlm:lo<m
      · have hil:lo<L.length:=by rw [HM.out];omega
        have HF:=lh (uz HR.out (by simpa using hil) hcl hcg)
        obtain⟨b,off,rfl,hb,k1,k2⟩:=HAT.out lo hil
        have d1:=(mq.cellAt hb (fun x=>x) _).trans k1
        have rk:=((PR.out.keep0 mq).own _ (List.getElem_mem hil)).1
        obtain⟨ka,kc,ek,_⟩:=rk.form
        have HL:=lh (qj rk (HQ.out.keep mq (fun _ _ x=>x)))
        rw [ek] at d1 HL
        have FIN:=lh (show decide ((L[lo]).k=ks)=(iy (L.map EV.ent) ks).isSome from by
          rw [HF.out,nP hil]
          by_cases hk:(L[lo]).k=ks
          · rw [decide_eq_true hk,if_pos hk];rfl
          · rw [decide_eq_false hk,if_neg hk];rfl)
        rw [FIN.out] at HL
        have hki:(lo:Int)<(m:Int):=by omega
        clear k1 k2 rk ek hcl hcg hcnt mq HF FIN hI
        go_wp2_with fail
        refine HL.out.mono ?_
        rintro e w1 ⟨rfl,⟨d1q,rfl⟩⟩
        clear HL d0 d1
        go_wp2
        go_ret2
        exact⟨by rw [CNT.out];rfl,⟨_,rfl⟩⟩
      · obtain rfl:lo=m:=by omega
        have FN:=lh (wX (F:=L.map EV.ent) (k:=ks) (fun i hi=>hcl i hi (by rw [List.length_map,HM.out] at hi;exact hi)))
        clear hcl hcg hcnt mq hI
        go_wp2
        go_ret2
        exact⟨by rw [CNT.out,FN.out];rfl,⟨_,rfl⟩⟩
open Go.Gl Go.RowKit
def kT (w:World) (g:Nat) (F:List aN) (Ws:List (List aN)) (n:Nat) (S D:Nat→Prop):Prop :=
 ∃ lv wv L H,lw w g lv wv L H (n:Int)∧fM F∧L.map EV.ent=F∧(H.map (fun h=>h.es.map EV.ent)).reverse=Ws∧(∀ G∈Ws,fM G)∧S=kW g wv∧D=oV lv L H
theorem kT.ris {w:World}{g n:Nat}{F:List aN}{Ws:List (List aN)}{S D:Nat→Prop} (h:kT w g F Ws n S D):fM F:=by
 obtain⟨_,_,_,_,_,h,_⟩:=h;exact h
theorem kT.lt {w:World}{g n:Nat}{F:List aN}{Ws:List (List aN)}{S D:Nat→Prop} (h:kT w g F Ws n S D):(∀ k,S k→k<w.heap.size)∧(∀ k,D k→k<w.heap.size)∧S g∧(∀ k,D k→¬ S k):=by
 obtain⟨lv,wv,L,H,rs,_,_,_,_,rfl,rfl⟩:=h
 exact⟨rs.lt,rs.dlt,.inl rfl,rs.data⟩
theorem kT.keep {w w':World}{g n:Nat}{F:List aN}{Ws:List (List aN)}{S D T:Nat→Prop} (h:kT w g F Ws n S D) (hm:ae T w w') (h1:∀ k,S k→¬ T k) (h2:∀ k,D k→¬ T k):kT w' g F Ws n S D:=by
 obtain⟨lv,wv,L,H,rs,hr,hf,hw,ho,rfl,rfl⟩:=h
 exact⟨lv,wv,L,H,rs.keep hm h1 h2,hr,hf,hw,ho,rfl,rfl⟩
theorem kT.keep0 {w w':World}{g n:Nat}{F:List aN}{Ws:List (List aN)}{S D:Nat→Prop} (h:kT w g F Ws n S D) (hm:ae ai w w'):kT w' g F Ws n S D:=h.keep hm (fun _ _ x=>x) (fun _ _ x=>x)
theorem kT.look {w:World}{g n:Nat}{F:List aN}{Ws:List (List aN)}{S D:Nat→Prop} (h:kT w g F Ws n S D):∃ lv L a c,w.cell? ⟨g,0,none⟩=some lv∧iU w lv L∧L.map EV.ent=F∧(∀ k,RB6 lv L k→D k)∧w.cell? ⟨g,1,none⟩=some (.slice a Ws.length c)∧w.cell? ⟨g,2,none⟩=some (.int .i64 (n:Int)):=by
 obtain⟨lv,wv,L,H,rs,hr,hf,hw,ho,rfl,rfl⟩:=h
 obtain⟨a,c,e,_⟩:=rs.row.rd.form
 obtain⟨c0,c1,c2,_⟩:=rs.cells
 refine⟨lv,L,a,c,c0,rs.pr,hf,fun k hk => .inl hk,?_,c2⟩
 rw [c1,e,← hw,List.length_reverse,List.length_map]
def uJ (w w':World) (g:Nat) (S D:Nat→Prop) (F':List aN) (Ws':List (List aN)) (n':Nat):Prop :=
 ∃ S' D',kT w' g F' Ws' n' S' D'∧ae S w w'∧(∀ k,S' k→S k∨w.heap.size≤k)∧(∀ k,D' k→D k∨w.heap.size≤k)
theorem JD {w:World}{k:Nat} (hk:w.heap[k]?=some (.cells #[.slice none 0 0,.slice none 0 0,.int .i64 0] 32 (0,0))):kT w k [] [] 0 (kW k (.slice none 0 0)) (oV (.slice none 0 0) [] []):=by
 have hmd:∀ j,¬ oV (.slice none 0 0) [] [] j:=fun j hj=>by
  rcases hj with (hj | ⟨e,he,_⟩) | ⟨q,hq,_⟩
  ·simp [Value.ownBlock] at hj
  ·exact List.not_mem_nil he
  ·exact List.not_mem_nil hq
 exact⟨_,_,[],[],⟨hk,⟨⟨rfl,.inl ⟨.nil,rfl⟩⟩,fun e he=>(List.not_mem_nil he).elim⟩,⟨rfl,.inl ⟨rfl,rfl⟩⟩,fun q hq=>(List.not_mem_nil hq).elim,by simp [Value.ownBlock],fun j hj=>(hmd j hj).elim,fun j hj=>(hmd j hj).elim⟩,List.Pairwise.nil,rfl,rfl,fun G hG=>(List.not_mem_nil hG).elim,rfl,rfl⟩
theorem wG {L:List EV}{F:List aN} (h:L.map EV.ent=F):L.length=F.length:=by rw [← h,List.length_map]
end Go.Proofs.YtglkmaalpammcaaGreat
namespace Go.Gl
open Go.RowKit
section
variable {P:Program}{ops:Array Oper}{Q Q':Exit→Act→World→Prop}{S:World→Prop}{T:List Nat}
theorem IB {o:Oper}{a:Act}{w:World}{K:Act→World→Prop} (h:o.wp P a w K (Calm Q')):o.wp P a w K (Calm Q):=by
  unfold Oper.wp at *
  generalize (execOp a.eval o).run P w=res at *
  cases res with
  | ok x w' =>
    cases x with
    | value v=>exact h
    | skip=>exact h
    | defer d=>exact h
    | enter f args =>
      refine Calls.mono h (fun e w'' he=>?_)
      cases e with
      | returned v=>exact he
      | panicked ch=>exact he.elim
      | outgrown=>exact (Calm.letsOut he).elim
    | row row args=>exact h
    | _=>exact h.elim
  | halt x w'=>cases x <;> exact h.elim
theorem AB {i:Nat}{K:Act→World→Prop}{a:Act}{w:World} (h:wpOp P ops (Calm Q') i K a w):wpOp P ops (Calm Q) i K a w:=by
  unfold wpOp at *
  cases ho:ops[i]? with
  | none=>simpa [ho] using h
  | some o =>
    simp only [ho] at h ⊢
    by_cases hw:Region.wanted o (yielded ops a.tmps)=true
    · simp only [hw,if_true] at h ⊢
      rcases h with h | ⟨_,h⟩
      · exact .inl (IB h)
      · exact (Calm.letsOut h).elim
    · rw [Bool.not_eq_true] at hw
      simp only [hw,Bool.false_eq_true,if_false] at h ⊢
      exact h
def lists:List (Nat × Bool)→Array Bool→Array Bool
 | [],L=>L
 | (i,_) :: l,L=>lists l (L.setIfInBounds i true)
def vN (ops:Array Oper) (T:List Nat):List (Nat × Bool)→Array Bool→Bool
 | [],_=>true
 | (i,b) :: l,listed=>(if b then Region.free .any ops listed i && (Region.ready .any ops listed).contains i && !T.contains i && T.all (fun t=>reach .any ops i 8 t) else (Region.ready .any ops listed) == [i]) && vN ops T l (listed.setIfInBounds i true)
theorem wK (hs:Region.noSelect ops=true) (n:Nat) (l:List (Nat × Bool)) :
    ∀ (listed:Array Bool) (a:Act) (w:World),vN ops T l listed=true→jh .any ops listed→listed.size=ops.size→ST T S listed w→jP P ops (Calm Q') T S l a w →
      (∀ a w,jh .any ops (lists l listed)→(lists l listed).size=ops.size→ST T S (lists l listed) w→Q' .normal a w→jZ P .any ops (Calm Q) T S n (lists l listed) a w)→jZ P .any ops (Calm Q) T S (n+l.length) listed a w:=by
  induction l with
  | nil =>
    intro listed a w _ hcl hsz hS hw H
    exact H a w hcl hsz hS hw
  | cons x l ih =>
    obtain⟨i,b⟩:=x
    intro listed a w h hcl hsz hS hw H
    simp only [vN,Bool.and_eq_true] at h
    rw [List.length_cons,← Nat.add_assoc]
    rcases b with _ | _
    · simp only [Bool.false_eq_true,if_false] at h
      have hr:=eq_of_beq h.1
      refine⟨fun h0=>(by rw [h0] at hr;cases hr),fun j hj=>?_⟩
      rw [hr] at hj
      obtain rfl:=List.mem_singleton.1 hj
      have hjr:j∈Region.ready .any ops listed:=by rw [hr];exact List.mem_singleton.2 rfl
      refine wpOp_mono (fun a' w' h'=>?_) (AB (Q:=Q) hw)
      have hS':ST T S (listed.setIfInBounds j true) w':=by
        intro hn
        refine h'.1 ?_
        cases ht:T.contains j with
        | false=>rfl
        | true =>
          have hm:=List.all_eq_true.1 hn j (by simpa using ht)
          have hlt:j<listed.size:=by
            obtain⟨_,o,ho,_⟩:=mem_ready.1 hjr
            rw [hsz]
            exact (Array.getElem?_eq_some_iff.1 ho).1
          simp [hlt] at hm
      exact⟨hS',ih _ _ _ h.2 (hcl.set hjr) (by simpa using hsz) hS' h'.2 H⟩
    · simp only [if_true,Bool.and_eq_true,Bool.not_eq_true'] at h
      obtain⟨o,v,ho,hy,hr⟩:=hw
      have hir:i∈Region.ready .any ops listed:=by simpa using h.1.1.1.2
      have hiT:i∉T:=by simpa using h.1.1.2
      refine pY ho hiT h.1.2 (Region.noSelect_spec hs) (fun c a w=>Calm.dead c a _ _ w) _ _ _ _ (Region.free_spec ho h.1.1.1.1) hir hcl hy hS ?_
      exact ih _ _ _ h.2 (hcl.set hir) (by simpa using hsz) (fun hn=>hS (by rwa [oU hiT] at hn)) hr H
def Two (P:Program) (ops:Array Oper) (Q:Exit→Act→World→Prop) (T:List Nat) (S:World→Prop) (i j:Nat) (l1 l2:List (Nat × Bool)):Exit→Act→World→Prop
 | .normal,a,w=>dG P ops (Calm Q) T S ((i,false) :: l1) a w∧dG P ops (Calm Q) T S ((j,false) :: l2) a w
 | _,_,_=>False
theorem vV {a:Act}{w:World} (l:List (Nat × Bool)) (i j:Nat) (l1 l2:List (Nat × Bool)) (T:List Nat) (hm:P.follows .mixedOrders=true) (hs:Region.noSelect ops=true) (hl:l.length+1+l1.length=ops.size) (hl2:l2.length=l1.length)
  (ok:(vN ops T l (Array.replicate ops.size false) && (Region.ready .any ops (lists l (Array.replicate ops.size false)) == [i,j]) && (!T.contains i && !T.contains j) &&
   mX .any ops T l1 ((lists l (Array.replicate ops.size false)).setIfInBounds i true) && mX .any ops T l2 ((lists l (Array.replicate ops.size false)).setIfInBounds j true))=true)
  (hS:S w.drew) (h:dG P ops (Calm (Two P ops Q T S i j l1 l2)) T S l a w.drew):RW P ops true Q a w:=by
 refine⟨⟨hm,nH (T:=T) (S:=S) _ _ _ _ ?_⟩⟩
 simp only [Bool.and_eq_true] at ok
 obtain⟨⟨⟨⟨o1,o2⟩,o3⟩,o4⟩,o5⟩:=ok
 have o2':=eq_of_beq o2
 rw [← hl,show l.length+1+l1.length=(l1.length+1)+l.length by omega]
 rw [show ops.size=(l1.length+1)+l.length by omega] at o1 o2' o4 o5
 refine wK hs _ l _ _ _ o1 ?_ (by simp;omega) (fun _=>hS) h.out (fun a w hcl hsz hS hw=>?_)
 ·intro j oj _ hl'
  simp at hl'
  exact absurd hl' (by
   rcases Nat.lt_or_ge j (l1.length+1+l.length) with h' | h'
   ·simp [h']
   ·simp [h'])
 ·refine⟨fun h0=>(by rw [o2'] at h0;cases h0),fun k hk=>?_⟩
  have hk2:=hk
  rw [o2'] at hk2
  have hfin:∀ (k:Nat) (l':List (Nat × Bool)),k∈Region.ready .any ops (lists l (Array.replicate (l1.length+1+l.length) false))→l'.length=l1.length→T.contains k=false→mX .any ops T l' ((lists l (Array.replicate (l1.length+1+l.length) false)).setIfInBounds k true)=true→dG P ops (Calm Q) T S ((k,false) :: l') a w →
    wpOp P ops (Calm Q) k (fun a' w'=>ST T S ((lists l (Array.replicate (l1.length+1+l.length) false)).setIfInBounds k true) w'∧jZ P .any ops (Calm Q) T S l1.length ((lists l (Array.replicate (l1.length+1+l.length) false)).setIfInBounds k true) a' w') a w:=by
   intro k l' hk hl' hT ok' hw'
   refine wpOp_mono (fun a' w' h'=>?_) hw'.out
   have hS':ST T S ((lists l (Array.replicate (l1.length+1+l.length) false)).setIfInBounds k true) w':=fun _=>h'.1 hT
   refine⟨hS',?_⟩
   have:=pW hs Calm.dead l' _ _ _ ok' (hcl.set hk) (by simpa using hsz) hS' h'.2
   rwa [hl'] at this
  rcases List.mem_cons.1 hk2 with rfl | hk3
  ·exact hfin _ l1 hk rfl (by simpa using o3.1) o4 hw.1
  ·obtain rfl:=List.mem_singleton.1 hk3
   exact hfin _ l2 hk hl2 (by simpa using o3.2) o5 hw.2
theorem qi {i j:Nat}{l1 l2:List (Nat × Bool)}{a:Act}{w:World} (h1:dG P ops (Calm Q) T S ((i,false) :: l1) a w) (h2:dG P ops (Calm Q) T S ((j,false) :: l2) a w):dG P ops (Calm (Two P ops Q T S i j l1 l2)) T S [] a w:=⟨⟨h1,h2⟩⟩
end
end Go.Gl
namespace Go.Proofs.YtglkmaalpammcaaGreat
open Go.Gl Go.RowKit
theorem oI:(Tryz.prog.info? 152).map (fun i=>(i.zero,i.size,i.bytes))=some (some (.agg #[.slice none 0 0,.slice none 0 0]),2,48):=by kernel_rfl
section
variable {x0 x1 x2 x3 x4 x5 x6 x7 x8 x9 aW bn bi aZ aP aQ aS aT aX aY bD bC bG bH bJ bQ bP bM bK bV bW cZ dh dn dw di dm dK dE dF dL dM dN dP dQ dR dS dO eF eG fA ed dX dY eH eP eQ fB eU fD fC eX iG iH jg:Value}{df:List Deferred}{Q:Exit→Act→World→Prop}
theorem Jy {w:World}{g i n lc eb:Nat}{la:Option Addr}{wv x u v:Value}{xs:List Value} (hg:w.heap[g]?=some (.cells #[.slice la n lc,wv,x] 32 (0,0))) (hr:fZ w 2 (.slice la n lc) n xs) (h1:∀ y∈xs,y.oneCell'=true) (he:w.heap[eb]?=some (.cells #[u,v] 152 (0,0))) (hu:u.oneCell'=true) (hv:v.oneCell'=true) (hi:i≤n) (hn:n≤1000000)
  (hK:∀ (y40 y41 y42 y43 y44 y45 y46 y47 y48 y49 y50:Value) (v8:Value) (w':World),aO w' 152 2 v8 (i+1) (xs.take (i*2) ++ [u,v])→ae ai w w'→aF w v8→Q .normal ⟨#[.pointer (some ⟨g,0,none⟩),x1,x2,x3,x4,x5,x6,.int .i64 ((i:Nat):Int),x8,.pointer (some ⟨eb,0,none⟩),v8,bn,bi,aZ,aP,aQ,aS,aT,aX,aY,bD,bC,bG,bH,bJ,bQ,bP,bM,bK,bV,bW,cZ,dh,dn,dw,di,dm,dK,dE,dF,y40,y41,y42,y43,y44,y45,y46,y47,y48,y49,y50,ed,dX,dY,eH,eP,eQ,fB,eU,fD,fC,eX,iG,iH,jg],df⟩ w'):RW Tryz.prog (aJ 9 Tryz.f43) true Q ⟨#[.pointer (some ⟨g,0,none⟩),x1,x2,x3,x4,x5,x6,.int .i64 ((i:Nat):Int),x8,.pointer (some ⟨eb,0,none⟩),.slice none 0 0,bn,bi,aZ,aP,aQ,aS,aT,aX,aY,bD,bC,bG,bH,bJ,bQ,bP,bM,bK,bV,bW,cZ,dh,dn,dw,di,dm,dK,dE,dF,dL,dM,dN,dP,dQ,dR,dS,dO,eF,eG,fA,ed,dX,dY,eH,eP,eQ,fB,eU,fD,fC,eX,iG,iH,jg],df⟩ w:=by
 have HQ:=lh hK
 clear hK
 have Q1:=lh (fun b' (hm:ae ai w b')=>ag (hm.heap hg (fun x=>x)) 0)
 have QE:=lh (fun b' (hm:ae ai w b')=>qx (w:=b') (g:=eb) (off:=0) (ag (hm.heap he (fun x=>x)) 0) (ag (hm.heap he (fun x=>x)) 1))
 have hlc:=hr.cap
 have HL:=lh hr
 have H0:=lh h1
 clear hg hr h1 he
 have MR:=lh ((ae.refl ai w).drew)
 refine vV (S:=fun b'=>ae ai w b') [(0,true),(1,true),(2,true),(3,true),(4,true),(5,true),(6,true),(8,true)] 7 9 [(9,false),(10,false),(11,true)] [(7,false),(10,false),(11,true)] [] (by kernel_rfl) (by kernel_rfl) (by kernel_rfl) (by kernel_rfl) (by kernel_rfl) MR.out ?_
 refine aj [0,1,2,3] [.slice none 0 0,af g 0,af g 0,af g 0] rfl (by kernel_rfl) (fun _=>by kernel_rfl) ?_
 refine ah (.slice la n lc) (some 44) (ki (by kernel_rfl)) (fun bb hb=>aG (x:=(.tmp 43)) (by kernel_rfl) (by kernel_rfl) (aI (Q1.out _ hb) Tryz.underlying29 rfl)) ?_
 refine aj [5] [.int .i64 ((i:Nat):Int)] rfl (by kernel_rfl) (fun _=>by kernel_rfl) ?_
 refine ah (.slice la i lc) (some 46) (ki (by kernel_rfl)) (fun bb hb=>zy (s:=2) (e:=152) (x:=(.tmp 44)) (y:=(.tmp 45)) (i:=((i:Nat):Int)) (i) (by kernel_rfl) (by kernel_rfl) (by kernel_rfl) Tryz.underlying29 (by kernel_rfl) (by omega) (by omega) (HL.out)) ?_
 refine ah (.agg #[u,v]) (some 48) (ki (by kernel_rfl)) (fun bb hb=>aG (x:=(.tmp 9)) (by kernel_rfl) (by kernel_rfl) (su [u,v] (QE.out _ hb) Tryz.underlying152 rfl (by kernel_rfl))) ?_
 refine qi ?_ ?_
 ·skip
  obtain⟨inf,hi',hz,hs,hby⟩:=info_parts oI
  obtain⟨v7,w7,hr7,o7,m7,f7⟩:=iE (P:=Tryz.prog) (w:=w.drew) 29 29 29 152 152 inf (.agg #[.slice none 0 0,.slice none 0 0]) Tryz.underlying29 Tryz.underlying29 hi' hz (by rw [hs];rfl) (by rw [hs];exact (show aO _ 152 2 (.slice none 0 0) 0 [] from⟨rfl,.inl ⟨rfl,rfl⟩⟩)) (m:=i) (ys:=xs.take (i*2)) (by rw [hs];exact (fZ.keep HL.out MR.out (fun _ _ x=>x)).hi (by omega:i≤n)) (fun y hy=>H0.out y (List.mem_of_mem_take hy)) (by unfold maxLen;omega) (by rw [hby];omega)
  rw [hs] at o7
  rw [Nat.zero_add,List.nil_append] at o7
  have n7:=m7.mono (T:=ai) (fun k _ x=>(tJ x).elim)
  have g7:aF _ v7:=fun k hk=>f7.elim (fun f=>by rw [f] at hk;simp [Value.ownBlock] at hk) (fun f=>f k hk)
  have F7:=lh (g7.of (show w.heap.size≤_ from MR.out.size))
  replace MR:=lh (MR.out.then0 n7)
  refine aC v7 w7 (some 47) (ki (by kernel_rfl)) (of_append (x:=(.tmp 40)) (y:=(.tmp 46)) (by kernel_rfl) (by kernel_rfl) (by kernel_rfl) hr7) (fun _=>MR.out) ?_
  refine gK (.cells #[u,v] 152) 1 (some 49) (ki (by kernel_rfl)) (by kernel_rfl) ?_
  intro k1 w_k1 hk_k1 hO_k1 hm_k1 hl_k1
  have MZ:=MR.out.size
  replace MR:=lh (MR.out.then0 hm_k1)
  refine⟨fun _=>MR.out,?_⟩
  obtain⟨inf,hi',hz,hs,hby⟩:=info_parts oI
  obtain⟨v8,w8,hr8,o8,m8,f8⟩:=iE (P:=Tryz.prog) (w:=w_k1) 29 29 29 152 152 inf (.agg #[.slice none 0 0,.slice none 0 0]) Tryz.underlying29 Tryz.underlying29 hi' hz (by rw [hs];rfl) (by rw [hs];exact o7.keep hm_k1 (fun _ _ x=>x)) (m:=1) (ys:=[u,v]) (by rw [hs];exact aO.rd (rY hO_k1).own) (by intro y hy;simp at hy;rcases hy with rfl | rfl <;> assumption) (by unfold maxLen;omega) (by rw [hby];omega)
  rw [hs] at o8
  have n8:=MR.out.trans m8 (U:=ai) (fun _ _ x=>x) (fun i hi x=>by have:=F7.out i x;omega)
  have F8:Hid (aF w v8):=lh (f8.elim (fun f k hk=>F7.out k (f▸hk)) (fun f=>f.of MR.out.size))
  replace MR:=lh n8
  refine aC v8 w8 (some 50) (ki (by kernel_rfl)) (of_append (x:=(.tmp 47)) (y:=(.tmp 49)) (by kernel_rfl) (by kernel_rfl) (by kernel_rfl) hr8) (fun _=>MR.out) ?_
  refine aj [11] [v8] rfl (by kernel_rfl) (fun _=>by kernel_rfl) ?_
  exact aA (bg (K:=Q .normal) (by kernel_rfl) (HQ.out (.slice none 0 0) (af g 0) (af g 0) (af g 0) (.slice la n lc) (.int .i64 ((i:Nat):Int)) (.slice la i lc) (v7) (.agg #[u,v]) (.slice (some ⟨k1,0,none⟩) 1 1) (v8) v8 w8 o8 MR.out F8.out))
 ·skip
  refine gK (.cells #[u,v] 152) 1 (some 49) (ki (by kernel_rfl)) (by kernel_rfl) ?_
  intro k1 w_k1 hk_k1 hO_k1 hm_k1 hl_k1
  have MZ:=MR.out.size
  replace MR:=lh (MR.out.then0 hm_k1)
  refine⟨fun _=>MR.out,?_⟩
  obtain⟨inf,hi',hz,hs,hby⟩:=info_parts oI
  obtain⟨v7,w7,hr7,o7,m7,f7⟩:=iE (P:=Tryz.prog) (w:=w_k1) 29 29 29 152 152 inf (.agg #[.slice none 0 0,.slice none 0 0]) Tryz.underlying29 Tryz.underlying29 hi' hz (by rw [hs];rfl) (by rw [hs];exact (show aO _ 152 2 (.slice none 0 0) 0 [] from⟨rfl,.inl ⟨rfl,rfl⟩⟩)) (m:=i) (ys:=xs.take (i*2)) (by rw [hs];exact (fZ.keep HL.out MR.out (fun _ _ x=>x)).hi (by omega:i≤n)) (fun y hy=>H0.out y (List.mem_of_mem_take hy)) (by unfold maxLen;omega) (by rw [hby];omega)
  rw [hs] at o7
  rw [Nat.zero_add,List.nil_append] at o7
  have n7:=m7.mono (T:=ai) (fun k _ x=>(tJ x).elim)
  have g7:aF _ v7:=fun k hk=>f7.elim (fun f=>by rw [f] at hk;simp [Value.ownBlock] at hk) (fun f=>f k hk)
  have F7:=lh (g7.of (show w.heap.size≤_ from MR.out.size))
  replace MR:=lh (MR.out.then0 n7)
  refine aC v7 w7 (some 47) (ki (by kernel_rfl)) (of_append (x:=(.tmp 40)) (y:=(.tmp 46)) (by kernel_rfl) (by kernel_rfl) (by kernel_rfl) hr7) (fun _=>MR.out) ?_
  obtain⟨inf,hi',hz,hs,hby⟩:=info_parts oI
  obtain⟨v8,w8,hr8,o8,m8,f8⟩:=iE (P:=Tryz.prog) (w:=w7) 29 29 29 152 152 inf (.agg #[.slice none 0 0,.slice none 0 0]) Tryz.underlying29 Tryz.underlying29 hi' hz (by rw [hs];rfl) (by rw [hs];exact o7) (m:=1) (ys:=[u,v]) (by rw [hs];exact aO.rd (rY (n7.heap hO_k1 (fun x=>x))).own) (by intro y hy;simp at hy;rcases hy with rfl | rfl <;> assumption) (by unfold maxLen;omega) (by rw [hby];omega)
  rw [hs] at o8
  have n8:=MR.out.trans m8 (U:=ai) (fun _ _ x=>x) (fun i hi x=>by have:=F7.out i x;omega)
  have F8:Hid (aF w v8):=lh (f8.elim (fun f k hk=>F7.out k (f▸hk)) (fun f=>f.of MR.out.size))
  replace MR:=lh n8
  refine aC v8 w8 (some 50) (ki (by kernel_rfl)) (of_append (x:=(.tmp 47)) (y:=(.tmp 49)) (by kernel_rfl) (by kernel_rfl) (by kernel_rfl) hr8) (fun _=>MR.out) ?_
  refine aj [11] [v8] rfl (by kernel_rfl) (fun _=>by kernel_rfl) ?_
  exact aA (bg (K:=Q .normal) (by kernel_rfl) (HQ.out (.slice none 0 0) (af g 0) (af g 0) (af g 0) (.slice la n lc) (.int .i64 ((i:Nat):Int)) (.slice la i lc) (v7) (.agg #[u,v]) (.slice (some ⟨k1,0,none⟩) 1 1) (v8) v8 w8 o8 MR.out F8.out))
theorem AQ {w:World}{g j n lc m:Nat}{la:Option Addr}{wv x vo:Value}{xs ys:List Value} (hg:w.heap[g]?=some (.cells #[.slice la n lc,wv,x] 32 (0,0))) (hr:fZ w 2 (.slice la n lc) n xs) (h1:∀ y∈xs,y.oneCell'=true) (ho:aO w 152 2 vo m ys) (hvg:¬ dC vo g) (hj:j≤n) (hn:n≤1000000) (hm:m≤1000000)
  (hK:∀ (y54 y55 y56 y57 y58 y59 y60 y61 y62 y63 y64:Value) (v8:Value) (w8:World) (w':World),aO w8 152 2 v8 (m+(n - j)) (ys ++ xs.drop (j*2))→ae (dC vo) w w8→(v8.ownBlock=vo.ownBlock∨aF w v8)→w'=w8.setCell ⟨g,0,none⟩ v8→Q .normal ⟨#[.pointer (some ⟨g,0,none⟩),x1,x2,x3,x4,x5,x6,.int .i64 ((j:Nat):Int),x8,x9,vo,bn,bi,aZ,aP,aQ,aS,aT,aX,aY,bD,bC,bG,bH,bJ,bQ,bP,bM,bK,bV,bW,cZ,dh,dn,dw,di,dm,dK,dE,dF,dL,dM,dN,dP,dQ,dR,dS,dO,eF,eG,fA,ed,dX,dY,y54,y55,y56,y57,y58,y59,y60,y61,y62,y63,y64],df⟩ w'):RW Tryz.prog (aJ 12 Tryz.f43) false Q ⟨#[.pointer (some ⟨g,0,none⟩),x1,x2,x3,x4,x5,x6,.int .i64 ((j:Nat):Int),x8,x9,vo,bn,bi,aZ,aP,aQ,aS,aT,aX,aY,bD,bC,bG,bH,bJ,bQ,bP,bM,bK,bV,bW,cZ,dh,dn,dw,di,dm,dK,dE,dF,dL,dM,dN,dP,dQ,dR,dS,dO,eF,eG,fA,ed,dX,dY,eH,eP,eQ,fB,eU,fD,fC,eX,iG,iH,jg],df⟩ w:=by
 have HQ:=lh hK
 clear hK
 have Q1:=lh (ag hg 0)
 have hlc:=hr.cap
 have HL:=lh hr
 have H0:=lh h1
 have HO:=lh ho
 clear hr h1 ho
 refine bU [(0,false),(1,false),(2,false),(3,false),(4,false),(5,false),(6,false),(7,false),(8,false),(9,false),(10,false),(11,false)] (by kernel_rfl) ?_
 refine az [0,1,2,3,4] [af g 0,vo,af g 0,af g 0,af g 0] rfl (by kernel_rfl) (by kernel_rfl) (.inr trivial) ?_
 refine aC (.slice la n lc) _ (some 59) (ki (by kernel_rfl)) (aG (x:=(.tmp 58)) (by kernel_rfl) (by kernel_rfl) (aI ((fun _=>Q1.out) (trivial)) Tryz.underlying29 rfl)) (fun _=>trivial) ?_
 refine az [6] [.int .i64 ((j:Nat):Int)] rfl (by kernel_rfl) (by kernel_rfl) (.inr trivial) ?_
 refine aC (.slice (pM la j lc 2) (n - j) (lc - j)) _ (some 61) (ki (by kernel_rfl)) (zM (s:=2) (e:=152) (x:=(.tmp 59)) (y:=(.tmp 60)) (i:=((j:Nat):Int)) (j) (by kernel_rfl) (by kernel_rfl) (by kernel_rfl) Tryz.underlying29 (by kernel_rfl) (by omega) (by omega)) (fun _=>trivial) ?_
 obtain⟨inf,hi',hz,hs,hby⟩:=info_parts oI
 obtain⟨v8,w8,hr8,o8,m8,f8⟩:=iE (P:=Tryz.prog) (w:=w) 29 29 29 152 152 inf (.agg #[.slice none 0 0,.slice none 0 0]) Tryz.underlying29 Tryz.underlying29 hi' hz (by rw [hs];rfl) (by rw [hs];exact HO.out) (m:=(n - j)) (ys:=xs.drop (j*2)) (by rw [hs];exact HL.out.lo (by omega:j≤n)) (fun y hy=>H0.out y (List.mem_of_mem_drop hy)) (by unfold maxLen;omega) (by rw [hby];omega)
 rw [hs] at o8
 have hg8:=m8.heap hg hvg
 obtain⟨a8,c8,e8,_⟩:=o8.rd.form
 have h18:v8.oneCell'=true:=by rw [e8];rfl
 clear e8
 refine aC v8 w8 (some 62) (ki (by kernel_rfl)) (of_append (x:=(.tmp 55)) (y:=(.tmp 61)) (by kernel_rfl) (by kernel_rfl) (by kernel_rfl) hr8) (fun _=>trivial) ?_
 refine az [9,10] [af g 0,af g 0] rfl (by kernel_rfl) (by kernel_rfl) (.inr trivial) ?_
 refine fH (ty:=29) (x:=(.tmp 64)) (y:=(.tmp 62)) (g:=g) (off:=0) (v:=v8) none (ki (by kernel_rfl)) (by kernel_rfl) (by kernel_rfl) (by kernel_rfl) (by kernel_rfl) (by rw [ag hg8];rfl) (bY hg8 _) (h18) ?_
 intro w9 hw9
 refine⟨(fun h=>by first | (cases h;done) | exact trivial),?_⟩
 exact aA (bg (K:=Q .normal) (by kernel_rfl) (HQ.out (af g 0) (vo) (af g 0) (af g 0) (af g 0) (.slice la n lc) (.int .i64 ((j:Nat):Int)) (.slice (pM la j lc 2) (n - j) (lc - j)) (v8) (af g 0) (af g 0) v8 w8 w9 o8 m8 f8 hw9))
theorem Jo {w:World}{g i n lc:Nat}{la:Option Addr}{wv x:Value}{xs:List Value} (hg:w.heap[g]?=some (.cells #[.slice la n lc,wv,x] 32 (0,0))) (hr:fZ w 2 (.slice la n lc) n xs) (h1:∀ y∈xs,y.oneCell'=true) (hi:i+1≤n) (hn:n≤1000000)
  (hK:∀ (kG jm iY jD iZ jo kH jT jU kJ lG lH kK mi mF lI y37 y38:Value) (v8:Value) (w8:World) (w':World),aO w8 152 2 v8 (i+(n - (i+1))) (xs.take (i*2) ++ xs.drop ((i+1)*2))→ae ai w w8→aF w v8→w'=w8.setCell ⟨g,0,none⟩ v8→Q .normal ⟨#[.pointer (some ⟨g,0,none⟩),x1,x2,x3,x4,.int .i64 ((i:Nat):Int),x6,x7,x8,x9,aW,bn,bi,aZ,aP,aQ,aS,aT,aX,aY,bD,kG,jm,iY,jD,iZ,jo,kH,jT,jU,kJ,lG,lH,kK,mi,mF,lI,y37,y38,dF],df⟩ w'):RW Tryz.prog (aJ 4 Tryz.f134) true Q ⟨#[.pointer (some ⟨g,0,none⟩),x1,x2,x3,x4,.int .i64 ((i:Nat):Int),x6,x7,x8,x9,aW,bn,bi,aZ,aP,aQ,aS,aT,aX,aY,bD,bC,bG,bH,bJ,bQ,bP,bM,bK,bV,bW,cZ,dh,dn,dw,di,dm,dK,dE,dF],df⟩ w:=by
 have HQ:=lh hK
 clear hK
 have Q1:=lh (fun b' (hm:ae ai w b')=>ag (hm.heap hg (fun x=>x)) 0)
 have hlc:=hr.cap
 have HL:=lh hr
 have H0:=lh h1
 have HG:=lh hg
 clear hg hr h1
 have MR:=lh ((ae.refl ai w).drew)
 refine lS (S:=fun b'=>ae ai w b') [(0,true),(1,true),(2,true),(3,true),(4,true),(5,true),(6,true),(8,true),(9,true),(10,true),(11,true),(12,true),(13,true),(14,true),(7,false),(15,false),(16,true),(17,true),(18,false)] [18] (by kernel_rfl) (by kernel_rfl) (by kernel_rfl) (by kernel_rfl) MR.out ?_
 refine aj [0,1,2,3] [af g 0,af g 0,af g 0,af g 0] rfl (by kernel_rfl) (fun _=>by kernel_rfl) ?_
 refine ah (.slice la n lc) (some 25) (ki (by kernel_rfl)) (fun bb hb=>aG (x:=(.tmp 24)) (by kernel_rfl) (by kernel_rfl) (aI (Q1.out _ hb) Tryz.underlying29 rfl)) ?_
 refine aj [5] [.int .i64 ((i:Nat):Int)] rfl (by kernel_rfl) (fun _=>by kernel_rfl) ?_
 refine ah (.slice la i lc) (some 27) (ki (by kernel_rfl)) (fun bb hb=>zy (s:=2) (e:=152) (x:=(.tmp 25)) (y:=(.tmp 26)) (i:=((i:Nat):Int)) (i) (by kernel_rfl) (by kernel_rfl) (by kernel_rfl) Tryz.underlying29 (by kernel_rfl) (by omega) (by omega) (HL.out)) ?_
 refine aj [8,9,10] [af g 0,af g 0,af g 0] rfl (by kernel_rfl) (fun _=>by kernel_rfl) ?_
 refine ah (.slice la n lc) (some 32) (ki (by kernel_rfl)) (fun bb hb=>aG (x:=(.tmp 31)) (by kernel_rfl) (by kernel_rfl) (aI (Q1.out _ hb) Tryz.underlying29 rfl)) ?_
 refine aj [12] [.int .i64 ((i:Nat):Int)] rfl (by kernel_rfl) (fun _=>by kernel_rfl) ?_
 refine ah (.int .i64 (((i+1):Nat):Int)) (some 34) (ki (by kernel_rfl)) (fun bb hb=>cO (t:=3) (t':=3) (xv := .int .i64 ((i:Nat):Int)) (yv := .int .i64 1) (x:=(.tmp 33)) (y:=(.const (.int .i64 1))) (by kernel_rfl) (by kernel_rfl) (by kernel_rfl) (fun _=>by kernel_rfl) (gG _ (by omega) (by omega) (by omega))) ?_
 refine ah (.slice (pM la (i+1) lc 2) (n - (i+1)) (lc - (i+1))) (some 35) (ki (by kernel_rfl)) (fun bb hb=>zM (s:=2) (e:=152) (x:=(.tmp 32)) (y:=(.tmp 34)) (i:=(((i+1):Nat):Int)) ((i+1)) (by kernel_rfl) (by kernel_rfl) (by kernel_rfl) Tryz.underlying29 (by kernel_rfl) (by omega) (by omega)) ?_
 obtain⟨inf,hi',hz,hs,hby⟩:=info_parts oI
 obtain⟨v7,w7,hr7,o7,m7,f7⟩:=iE (P:=Tryz.prog) (w:=w.drew) 29 29 29 152 152 inf (.agg #[.slice none 0 0,.slice none 0 0]) Tryz.underlying29 Tryz.underlying29 hi' hz (by rw [hs];rfl) (by rw [hs];exact (show aO _ 152 2 (.slice none 0 0) 0 [] from⟨rfl,.inl ⟨rfl,rfl⟩⟩)) (m:=i) (ys:=xs.take (i*2)) (by rw [hs];exact (fZ.keep HL.out MR.out (fun _ _ x=>x)).hi (by omega:i≤n)) (fun y hy=>H0.out y (List.mem_of_mem_take hy)) (by unfold maxLen;omega) (by rw [hby];omega)
 rw [hs] at o7
 rw [Nat.zero_add,List.nil_append] at o7
 have n7:=m7.mono (T:=ai) (fun k _ x=>(tJ x).elim)
 have g7:aF _ v7:=fun k hk=>f7.elim (fun f=>by rw [f] at hk;simp [Value.ownBlock] at hk) (fun f=>f k hk)
 have F7:=lh (g7.of (show w.heap.size≤_ from MR.out.size))
 replace MR:=lh (MR.out.then0 n7)
 refine aC v7 w7 (some 28) (ki (by kernel_rfl)) (of_append (x:=(.const (.slice none 0 0))) (y:=(.tmp 27)) (by kernel_rfl) (by kernel_rfl) (by kernel_rfl) hr7) (fun _=>MR.out) ?_
 obtain⟨inf,hi',hz,hs,hby⟩:=info_parts oI
 obtain⟨v8,w8,hr8,o8,m8,f8⟩:=iE (P:=Tryz.prog) (w:=w7) 29 29 29 152 152 inf (.agg #[.slice none 0 0,.slice none 0 0]) Tryz.underlying29 Tryz.underlying29 hi' hz (by rw [hs];rfl) (by rw [hs];exact o7) (m:=(n - (i+1))) (ys:=xs.drop ((i+1)*2)) (by rw [hs];exact (fZ.keep HL.out MR.out (fun _ _ x=>x)).lo (by omega:i+1≤n)) (fun y hy=>H0.out y (List.mem_of_mem_drop hy)) (by unfold maxLen;omega) (by rw [hby];omega)
 rw [hs] at o8
 have n8:=MR.out.trans m8 (U:=ai) (fun _ _ x=>x) (fun i hi x=>by have:=F7.out i x;omega)
 have F8:Hid (aF w v8):=lh (f8.elim (fun f k hk=>F7.out k (f▸hk)) (fun f=>f.of MR.out.size))
 replace MR:=lh n8
 have hg8:=MR.out.heap HG.out (fun x=>x)
 obtain⟨a8,c8,e8,_⟩:=o8.rd.form
 have h18:v8.oneCell'=true:=by rw [e8];rfl
 clear e8
 refine aC v8 w8 (some 36) (ki (by kernel_rfl)) (of_append (x:=(.tmp 28)) (y:=(.tmp 35)) (by kernel_rfl) (by kernel_rfl) (by kernel_rfl) hr8) (fun _=>MR.out) ?_
 refine aj [16,17] [af g 0,af g 0] rfl (by kernel_rfl) (fun _=>by kernel_rfl) ?_
 refine fH (ty:=29) (x:=(.tmp 38)) (y:=(.tmp 36)) (g:=g) (off:=0) (v:=v8) none (ki (by kernel_rfl)) (by kernel_rfl) (by kernel_rfl) (by kernel_rfl) (by kernel_rfl) (by rw [ag hg8];rfl) (bY hg8 _) (h18) ?_
 intro w9 hw9
 refine⟨(fun h=>by first | (cases h;done) | exact trivial),?_⟩
 exact aA (bg (K:=Q .normal) (by kernel_rfl) (HQ.out (af g 0) (af g 0) (af g 0) (af g 0) (.slice la n lc) (.int .i64 ((i:Nat):Int)) (.slice la i lc) (v7) (af g 0) (af g 0) (af g 0) (.slice la n lc) (.int .i64 ((i:Nat):Int)) (.int .i64 (((i+1):Nat):Int)) (.slice (pM la (i+1) lc 2) (n - (i+1)) (lc - (i+1))) (v8) (af g 0) (af g 0) v8 w8 w9 o8 MR.out F8.out hw9))
theorem r6px7 {w:World}{g b off cap n i m:Nat}{vo u v:Value}{ys:List Value} (c0:w.cell? ⟨g,0,none⟩=some (.slice (some ⟨b,off,none⟩) n cap)) (c1:w.cell? ⟨b,off+i*2,none⟩=some u) (c2:w.cell? ⟨b,off+i*2+1,none⟩=some v) (hr:aO w 152 2 vo m ys) (hu:u.oneCell'=true) (hv:v.oneCell'=true) (hi:i<n) (hn:n≤1000000) (hm:m≤1000000)
  (hK:∀ (y41 y42 y43 y44 y45 y46 y47 y48 y49 y50:Value) (v8:Value) (w':World),aO w' 152 2 v8 (m+1) (ys ++ [u,v])→ae (dC vo) w w'→(v8.ownBlock=vo.ownBlock∨aF w v8)→Q .normal ⟨#[.pointer (some ⟨g,0,none⟩),x1,x2,x3,x4,x5,x6,v8,.int .i64 ((i:Nat):Int),x9,aW,bn,bi,aZ,aP,aQ,aS,aT,aX,aY,bD,bC,bG,bH,bJ,bQ,bP,bM,bK,bV,bW,cZ,dh,dn,dw,di,dm,dK,dE,dF,dL,y41,y42,y43,y44,y45,y46,y47,y48,y49,y50,ed,dX,dY,eH,eP,eQ,fB,eU],df⟩ w'):RW Tryz.prog (aJ 7 Tryz.f170) false Q ⟨#[.pointer (some ⟨g,0,none⟩),x1,x2,x3,x4,x5,x6,vo,.int .i64 ((i:Nat):Int),x9,aW,bn,bi,aZ,aP,aQ,aS,aT,aX,aY,bD,bC,bG,bH,bJ,bQ,bP,bM,bK,bV,bW,cZ,dh,dn,dw,di,dm,dK,dE,dF,dL,dM,dN,dP,dQ,dR,dS,dO,eF,eG,fA,ed,dX,dY,eH,eP,eQ,fB,eU],df⟩ w:=by
 have HQ:=lh hK
 clear hK
 have Q1:=qx (w:=w) (g:=b) (off:=off+i*2) c1 c2
 have HO:=lh hr
 clear hr
 refine bU [(0,false),(1,false),(2,false),(3,false),(4,false),(5,false),(6,false),(7,false),(8,false),(9,false),(10,false)] (by kernel_rfl) ?_
 refine az [0,1,2,3] [vo,af g 0,af g 0,af g 0] rfl (by kernel_rfl) (by kernel_rfl) (.inr trivial) ?_
 refine aC (.slice (some ⟨b,off,none⟩) n cap) _ (some 45) (ki (by kernel_rfl)) (aG (x:=(.tmp 44)) (by kernel_rfl) (by kernel_rfl) (aI ((fun _=>c0) (trivial)) Tryz.underlying29 rfl)) (fun _=>trivial) ?_
 refine az [5] [.int .i64 ((i:Nat):Int)] rfl (by kernel_rfl) (by kernel_rfl) (.inr trivial) ?_
 refine aC (af b (off+i*2)) _ (some 47) (ki (by kernel_rfl)) (fQ (s:=2) (e:=152) (g:=b) (off:=off) (n:=n) (c:=cap) (i:=((i:Nat):Int)) (x:=(.tmp 45)) (y:=(.tmp 46)) (off+i*2) (by kernel_rfl) (by kernel_rfl) (by kernel_rfl) Tryz.underlying29 (by kernel_rfl) (by omega) (by omega) (by omega)) (fun _=>trivial) ?_
 refine aC (.agg #[u,v]) _ (some 48) (ki (by kernel_rfl)) (aG (x:=(.tmp 47)) (by kernel_rfl) (by kernel_rfl) (su [u,v] ((fun _=>Q1) (trivial)) Tryz.underlying152 rfl (by kernel_rfl))) (fun _=>trivial) ?_
 refine gK (.cells #[u,v] 152) 1 (some 49) (ki (by kernel_rfl)) (by kernel_rfl) ?_
 intro k1 w_k1 hk_k1 hO_k1 hm_k1 hl_k1
 refine⟨fun _=>trivial,?_⟩
 obtain⟨inf,hi',hz,hs,hby⟩:=info_parts oI
 obtain⟨v8,w8,hr8,o8,m8,f8⟩:=iE (P:=Tryz.prog) (w:=w_k1) 29 29 29 152 152 inf (.agg #[.slice none 0 0,.slice none 0 0]) Tryz.underlying29 Tryz.underlying29 hi' hz (by rw [hs];rfl) (by rw [hs];exact HO.out.keep hm_k1 (fun _ _ x=>x)) (m:=1) (ys:=[u,v]) (by rw [hs];exact aO.rd (rY hO_k1).own) (by intro y hy;simp at hy;rcases hy with rfl | rfl <;> assumption) (by unfold maxLen;omega) (by rw [hby];omega)
 rw [hs] at o8
 have m78:=hm_k1.trans m8 (U:=dC vo) (fun _ _ x=>x.elim) (fun _ _ x=>x)
 have f9:=f8.imp id (fun h=>h.of hm_k1.size)
 refine aC v8 w8 (some 50) (ki (by kernel_rfl)) (of_append (x:=(.tmp 41)) (y:=(.tmp 49)) (by kernel_rfl) (by kernel_rfl) (by kernel_rfl) hr8) (fun _=>trivial) ?_
 refine az [10] [v8] rfl (by kernel_rfl) (by kernel_rfl) (.inr trivial) ?_
 exact aA (bg (K:=Q .normal) (by kernel_rfl) (HQ.out (vo) (af g 0) (af g 0) (af g 0) (.slice (some ⟨b,off,none⟩) n cap) (.int .i64 ((i:Nat):Int)) (af b (off+i*2)) (.agg #[u,v]) (.slice (some ⟨k1,0,none⟩) 1 1) (v8) v8 w8 o8 m78 f9))
end
open Go.Gl Go.RowKit
theorem yU {w:World}{n c:Nat}{xs:List UInt8} (h:Rd w (.slice none n c) xs):xs=[]∧n=0∧c=0:=by
 rcases h.open with ⟨h0,rfl⟩ | ⟨g,off,cap,hv,_⟩
 ·exact⟨rfl,h0.none⟩
 ·simp at hv
theorem xX {w:World}{x y:Value}{xs ys:List UInt8} (hx:Rd w x xs) (hy:Rd w y ys):Calls Tryz.prog 194 #[x,y] w fun e w'=>e = .returned (.bool (bF ys xs))∧w'=w:=by
  obtain⟨a2,c2,rfl,l2⟩:=hy.form
  obtain⟨a1,c1,hv,l1⟩:=hx.form
  by_cases hl:ys.length≤xs.length
  · have hc:xs.length≤c1:=by
      rcases hx.open with ⟨h0,rfl⟩ | ⟨g,off,cap,hv',h1,_⟩
      · simp
      · rw [hv] at hv';injection hv' with _ _ h3;omega
    subst hv
    cases a1 with
    | none =>
      obtain⟨rfl,_,rfl⟩:=yU hx
      obtain rfl:ys=[]:=List.eq_nil_of_length_eq_zero (by simpa using hl)
      have HE:=lh (qR (Rd.nil w) hy)
      simp only [List.length_nil] at HE ⊢
      clear hx hy
      go_enter Tryz.func194,Tryz.ntmps194
      go_wp2_with fail
      refine HE.out.mono ?_
      rintro e w2 ⟨rfl,rfl⟩
      go_wp2
      go_ret
      exact⟨rfl,rfl⟩
    | some a1 =>
      rcases hx.open with ⟨h,rfl⟩ | ⟨g,off,cap,hv,hrest⟩
      · clear hc l1
        rcases h with h | ⟨g,off,s,h⟩
        · simp at h
        · simp only [List.length_nil,Value.slice.injEq,Option.some.injEq,true_and] at h
          obtain⟨rfl,rfl⟩:=h
          obtain rfl:ys=[]:=List.eq_nil_of_length_eq_zero (by simpa using hl)
          have HE:=lh (qR hx hy)
          simp only [List.length_nil] at HE ⊢
          clear hx hy
          go_enter Tryz.func194,Tryz.ntmps194
          go_wp2_with fail
          refine HE.out.mono ?_
          rintro e w2 ⟨rfl,rfl⟩
          go_wp2
          go_ret
          exact⟨rfl,rfl⟩
      obtain rfl:a1=⟨g,off,none⟩:=by simp at hv;exact hv.1
      have ht:=hx.take hl
      have HE:=lh (qR ht hy)
      have hb:bF ys xs=decide (xs.take ys.length=ys):=rfl
      rw [hb]
      clear hx hy ht hb hrest hv
      generalize decide (xs.take ys.length=ys)=b at *
      generalize ys.length=m at *
      generalize xs.length=n at *
      go_enter Tryz.func194,Tryz.ntmps194
      go_wp2_with fail
      refine HE.out.mono ?_
      rintro e w2 ⟨rfl,rfl⟩
      go_wp2
      go_ret
      exact⟨rfl,rfl⟩
  · have:bF ys xs=false:=by
      unfold bF
      refine decide_eq_false (fun e=>?_)
      have:=congrArg List.length e
      rw [List.length_take] at this
      omega
    rw [this]
    subst hv
    clear hx hy this
    generalize ys.length=m at *
    generalize xs.length=n at *
    go_enter Tryz.func194,Tryz.ntmps194
    go_wp2
    go_ret
    exact⟨rfl,rfl⟩
theorem wV {w:World}{q:Value}{xs:List UInt8} (hq:Rd w q xs) (hl:xs.length≤1000000):Calls Tryz.prog 191 #[q] w fun e w'=>∃ v',e = .returned v'∧Gl.Own w' v' xs∧ae ai w w'∧aF w v':=by
  obtain⟨a,c,rfl,_⟩:=hq.form
  cases a with
  | none =>
    obtain⟨rfl,_,rfl⟩:=yU hq
    have hnil:∀ W,(binOp .eql 91 (.slice none 0 0) (.slice none 0 0)).run Tryz.prog W = .ok (.bool true) W:=fun W=>Lib.run_eql_slice_nil_nil W _ _ Tryz.underlying91
    simp only [List.length_nil]
    clear hq
    go_enter Tryz.func191,Tryz.ntmps191
    go_wp2
    go_ret
    exact⟨_,rfl,Gl.Own.nil _,ae.refl _ _,fun k hk=>by simp [Value.ownBlock] at hk⟩
  | some a =>
    have hnil:∀ W,(binOp .eql 91 (.slice (some a) xs.length c) (.slice none 0 0)).run Tryz.prog W = .ok (.bool false) W:=fun W=>Lib.run_eql_slice_some_nil W _ _ _ Tryz.underlying91
    have HQ:=lh hq
    clear hq
    have HL:=lh hl
    clear hl
    go_enter Tryz.func191,Tryz.ntmps191
    go_wp2_with (at_builtin;refine stop ?_)
    unfold Stop
    have m1:=(ae.refl ai w).alloc (.cells #[] 5)
    have ob:=aU w (.cells #[] 5)
    refine gW rfl rfl [] xs (v := .slice (some ⟨w.heap.size,0,none⟩) 0 0) ⟨rfl,.inr ⟨_,_,_,_,rfl,ob,Nat.le_refl _,by simp [maxLen],by simp,fun j u hj=>by simp [bv] at hj⟩⟩ (HQ.out.keep m1 (fun _ _ x=>x)) rfl rfl (by have:=HL.out;simp;omega) ?_
    intro v' w' h1 h2 h3
    have h1:=lh h1
    have h2:=lh (show ae ai w w' from m1.trans h2 (fun _ _ x=>x) (fun i hi h=>by simp [dC,Value.ownBlock] at h;omega))
    have h3:Hid (aF w v'):=lh (by
      rcases h3 with h3 | h3
      · intro k hk;rw [h3] at hk;simp [Value.ownBlock] at hk;omega
      · exact h3.of (by simp))
    clear HQ m1 ob
    go_wp2
    go_ret
    exact⟨_,rfl,h1.out,h2.out,h3.out⟩
open Go.Gl Go.RowKit
theorem KM.put {w wa w8 w9:World}{sg mg b off N cap:Nat}{vo jv jv' v8:Value}{R:List PV}{A B:List JV}{q0:JV}{xs:List UV}{n:Int}{Z:Nat→Prop} (h:KM w sg mg vo R jv (A ++ q0 :: B) n)
  (ejv:jv = .slice (some ⟨b,off,none⟩) N cap) (ejv':jv' = .slice (some ⟨b,off,none⟩) (A.length+1) cap) (ma:ae (fun k=>k=sg) w wa) (hga:wa.heap[sg]?=some (.cells #[.pointer (some ⟨mg,0,none⟩),jv',.int .i64 n] 138 (0,0)))
  (o8:aO w8 302 1 v8 (q0.us.length+xs.length) (q0.us.map (·.c) ++ xs.map (·.c))) (m8:ae (dC q0.jv) wa w8) (f8:v8.ownBlock=q0.jv.ownBlock∨aF wa v8) (e:w9=w8.setCell ⟨b,off+A.length,none⟩ v8)
  (hx:∀ x∈xs,(∃ p∈A ++ q0 :: B,x∈p.us)∨(nG w sg x∧∀ k,UB x k→Z k∧k<w.heap.size∧¬ KS sg mg vo R jv (A ++ q0 :: B) k)) :
  KM w9 sg mg vo R jv' (A ++ [⟨v8,q0.us ++ xs⟩]) n∧ae (KS sg mg vo R jv (A ++ q0 :: B)) w w9∧(∀ k,KS sg mg vo R jv' (A ++ [⟨v8,q0.us ++ xs⟩]) k→KS sg mg vo R jv (A ++ q0 :: B) k∨w.heap.size≤k)∧(∀ k,KD R (A ++ [⟨v8,q0.us ++ xs⟩]) k→KD R (A ++ q0 :: B) k∨Z k):=by
 have hq0:q0∈A ++ q0 :: B:=List.mem_append_right _ (List.mem_cons_self ..)
 have hA:∀ q∈A,q∈A ++ q0 :: B:=fun q hq=>List.mem_append_left _ hq
 have bj:jv.ownBlock=some b:=by rw [ejv];rfl
 have bj':jv'.ownBlock=some b:=by rw [ejv'];rfl
 have bs:b≠sg:=fun x=>h.s1.2.1 (by rw [bj,x])
 have bq:∀ q∈A ++ q0 :: B,q.jv.ownBlock≠some b:=fun q hq=>(h.s2 b bj).2 q hq
 have bl:b<w.heap.size:=h.row.lt b bj
 have qs:∀ q∈A ++ q0 :: B,q.jv.ownBlock≠some sg:=h.s1.2.2
 have qA:∀ q∈A,∀ k,q.jv.ownBlock=some k→q0.jv.ownBlock≠some k:=fun q hq k hk=>(List.pairwise_append.1 h.s4).2.2 q hq q0 (List.mem_cons_self ..) k hk
 have sz:=ma.size
 have v8b:∀ k,v8.ownBlock=some k→q0.jv.ownBlock=some k∨w.heap.size≤k:=fun k hk=>by
  rcases f8 with x | x
  ·exact .inl (x▸hk)
  ·exact .inr (Nat.le_trans sz (x k hk))
 have m9:ae (fun k=>k=b) w8 w9:=by rw [e];exact (ae.refl (fun k=>k=b) w8).setCell (p:=⟨b,_,none⟩) (.inl rfl) _
 have m:ae (fun k=>k=sg∨jv.ownBlock=some k∨∃ q∈A ++ q0 :: B,q.jv.ownBlock=some k) w w9:=by
  have m1:ae (fun k=>k=sg∨q0.jv.ownBlock=some k) w w8:=ma.trans m8 (fun k _ hk => .inl hk) (fun k _ hk => .inr hk)
  exact m1.trans m9 (fun k _ hk=>by
   rcases hk with hk | hk
   ·exact .inl hk
   ·exact .inr (.inr ⟨q0,hq0,hk⟩)) (fun k _ hk => .inr (.inl (by rw [bj,hk])))
 have m18:ae (fun k=>k=sg∨q0.jv.ownBlock=some k) w w8:=ma.trans m8 (fun k _ hk => .inl hk) (fun k _ hk => .inr hk)
 refine h.chg (Z:=Z) m ?_ ?_ (.inl (by rw [bj,bj'])) ?_ ?_ ?_ ?_
 ·refine m9.heap (m8.heap hga (fun x=>qs q0 hq0 x)) (fun x=>bs x.symm)
 ·have hrow:=h.row
  rw [ejv] at hrow
  rcases hrow.ob with ⟨h0,_⟩ | ⟨b',off',cap',hv,ob⟩
  ·cases h0
  ·obtain⟨⟨rfl,rfl⟩,hN,rfl⟩:(b=b'∧off=off')∧N=(A ++ q0 :: B).length∧cap=cap':=by simpa using hv
   have ob8:=ob.keep m18 (fun hk=>by
    rcases hk with hk | hk
    ·exact bs hk
    ·exact bq q0 hq0 hk)
   have hn:=ob.hn
   have:=ob8.set A.length [v8] (by simp at hn ⊢;omega) (A ++ [(⟨v8,q0.us ++ xs⟩:JV)]).length ((A ++ [(⟨v8,q0.us ++ xs⟩:JV)]).map (·.jv)) (by simp at hn ⊢;omega) (by simp) (fun j u hj=>by
    rw [List.map_append] at hj
    by_cases hjA:j<A.length
    ·rw [if_neg (by omega),List.map_append,List.getElem?_append_left (by simpa using hjA)]
     rw [List.getElem?_append_left (by simpa using hjA)] at hj
     exact hj
    ·rw [List.getElem?_append_right (by simpa using Nat.le_of_not_lt hjA)] at hj
     simp only [List.length_map] at hj
     have hj0:j=A.length:=by
      rcases Nat.eq_zero_or_pos (j - A.length) with h0 | h0
      ·omega
      ·rw [show j - A.length=(j - A.length - 1)+1 by omega] at hj
       simp at hj
     subst hj0
     rw [if_pos (by simp)]
     rw [Nat.sub_self] at hj ⊢
     exact hj)
   rw [e,ejv']
   have e2:(A ++ [(⟨v8,q0.us ++ xs⟩:JV)]).length=A.length+1:=by simp
   have h3:=this.own
   rw [e2] at h3 ⊢
   exact h3
 ·intro q hq
  rcases List.mem_append.1 hq with hq | hq
  ·refine⟨((h.pg q (hA q hq)).keep m18 (fun k hk=>?_)).keep m9 (fun k hk x=>bq q (hA q hq) (x▸hk)),.inl ⟨q,hA q hq,rfl⟩⟩
   rintro (x | x)
   ·exact qs q (hA q hq) (x▸hk)
   ·exact qA q hq k hk x
  ·obtain rfl:=List.mem_singleton.1 hq
   refine⟨?_,?_⟩
   ·have o9:=o8.keep m9 (fun k hk x=>by
     subst x
     rcases v8b k hk with y | y
     ·exact bq q0 hq0 y
     ·omega)
    simpa using o9
   ·rcases f8 with x | x
    ·exact .inl ⟨q0,hq0,x⟩
    ·exact .inr (x.of sz)
 ·intro q hq x hxq
  rcases List.mem_append.1 hq with hq | hq
  ·exact .inl ⟨q,hA q hq,hxq⟩
  ·obtain rfl:=List.mem_singleton.1 hq
   rcases List.mem_append.1 hxq with hxq | hxq
   ·exact .inl ⟨q0,hq0,hxq⟩
   ·exact hx x hxq
 ·intro q hq k hk x
  rw [bj'] at x
  obtain rfl:=Option.some.inj x
  rcases List.mem_append.1 hq with hq | hq
  ·exact bq q (hA q hq) hk
  ·obtain rfl:=List.mem_singleton.1 hq
   rcases v8b _ hk with y | y
   ·exact bq q0 hq0 y
   ·omega
 ·refine List.pairwise_append.2 ⟨(List.pairwise_append.1 h.s4).1,List.pairwise_singleton _ _,fun p hp q hq k hk x=>?_⟩
  obtain rfl:=List.mem_singleton.1 hq
  rcases v8b k x with y | y
  ·exact qA p hp k hk y
  ·have:=(h.pg p (hA p hp)).lt k hk
   omega
open Go.Gl Go.RowKit
theorem infoC:(Tryz.prog.info? 302).map (fun i=>(i.zero,i.size,i.bytes))=some (some (.agg #[.nilFunc]),1,8):=by kernel_rfl
section
variable {x0 x1 x2 x3 x4 x5 x6 x7 x8 x9 aW bn bi aZ aP aQ aS aT aX aY bD bC bG bH bJ bQ bP bM bK bV bW cZ dh dn dw di dm dK dE dF dL dM dN dP dQ dR dS dO:Value}{df:List Deferred}{Q:Exit→Act→World→Prop}
theorem kvn4t {w:World}{sbx kbx sg mg:Nat}{kv:Value} (b1:w.heap[sbx]?=some (.cells #[.pointer (some ⟨sg,0,none⟩)] 26 (0,0))) (b2:w.heap[kbx]?=some (.cells #[kv] 91 (0,0))) (b3:w.cell? ⟨sg,0,none⟩=some (.pointer (some ⟨mg,0,none⟩))) (b4:sg<w.heap.size) {xs:List UInt8} (hC:∀ b',ae ai w b'→Calls Tryz.prog 162 #[.pointer (some ⟨mg,0,none⟩),kv] b' fun e w'=>∃ v',e = .returned (.tuple #[v',.bool true])∧Gl.Own w' v' xs∧ae ai b' w'∧aF b' v')
  (hK:∀ (jk jl jC lF kG jm iY jD iZ:Value) (obx:Nat) (v7:Value) (w':World),w.heap.size≤obx→w'.heap[obx]?=some (.cells #[v7] 91 (0,0))→Gl.Own w' v7 xs→aF w v7→ae ai w w'→v7.ownBlock≠some obx→Q .normal ⟨#[x0,x1,.pointer (some ⟨sbx,0,none⟩),.pointer (some ⟨kbx,0,none⟩),x4,.pointer (some ⟨obx,0,none⟩),.bool true,x7,x8,x9,aW,bn,bi,aZ,aP,aQ,aS,jk,jl,jC,lF,kG,jm,iY,jD,iZ,bP,bM,bK,bV,bW,cZ,dh,dn,dw,di,dm,dK,dE,dF,dL,dM,dN,dP,dQ,dR,dS,dO],df⟩ w'):RW Tryz.prog (aJ 4 Tryz.f150) true Q ⟨#[x0,x1,.pointer (some ⟨sbx,0,none⟩),.pointer (some ⟨kbx,0,none⟩),x4,x5,x6,x7,x8,x9,aW,bn,bi,aZ,aP,aQ,aS,aT,aX,aY,bD,bC,bG,bH,bJ,bQ,bP,bM,bK,bV,bW,cZ,dh,dn,dw,di,dm,dK,dE,dF,dL,dM,dN,dP,dQ,dR,dS,dO],df⟩ w:=by
 have HQ:=lh hK
 clear hK
 have HC:=lh hC
 have Q1:=lh (fun b' (hm:ae ai w b')=>ag (hm.heap b1 (fun x=>x)) 0)
 have Q2:=lh (fun b' (hm:ae ai w b')=>ag (hm.heap b2 (fun x=>x)) 0)
 have Q3:=lh (fun b' (hm:ae ai w b')=>(hm.cellAt b4 (fun x=>x) 0).trans b3)
 clear hC b1 b2 b3
 have MR:=lh ((ae.refl ai w).drew)
 refine vV (S:=fun b'=>ae ai w b') [(0,true),(1,true),(2,true),(3,true),(4,true)] 5 9 [(6,true),(7,true),(8,true),(9,false),(10,false),(11,true)] [(5,false),(6,true),(7,true),(8,true),(10,false),(11,true)] [] (by kernel_rfl) (by kernel_rfl) (by kernel_rfl) (by kernel_rfl) (by kernel_rfl) MR.out ?_
 refine ah (af sg 0) (some 18) (ki (by kernel_rfl)) (fun bb hb=>aG (x:=(.tmp 2)) (by kernel_rfl) (by kernel_rfl) (aI (Q1.out _ hb) Tryz.underlying26 rfl)) ?_
 refine aj [1,2] [af sg 0,af sg 0] rfl (by kernel_rfl) (fun _=>by kernel_rfl) ?_
 refine ah (af mg 0) (some 21) (ki (by kernel_rfl)) (fun bb hb=>aG (x:=(.tmp 20)) (by kernel_rfl) (by kernel_rfl) (aI (Q3.out _ hb) Tryz.underlying129 rfl)) ?_
 refine ah (kv) (some 22) (ki (by kernel_rfl)) (fun bb hb=>aG (x:=(.tmp 3)) (by kernel_rfl) (by kernel_rfl) (aI (Q2.out _ hb) Tryz.underlying91 rfl)) ?_
 refine qi ?_ ?_
 ·skip
  refine bu (some 23) (ki (by kernel_rfl)) (HC.out _ MR.out) (fun _=>by kernel_rfl) ?_
  rintro r w7 ⟨v7,rfl,o7,m7,f7⟩
  have F7:=f7.of MR.out.size
  replace MR:=lh (MR.out.then0 m7)
  obtain⟨a7,c7,e7,_⟩:=o7.rd.form
  have h17:v7.oneCell'=true:=by rw [e7];rfl
  clear e7
  have F7L:=o7.lt
  refine⟨_,rfl,fun _=>MR.out,?_⟩
  refine aj [6,7,8] [.tuple #[v7,.bool true],v7,.bool true] rfl (by kernel_rfl) (fun _=>by kernel_rfl) ?_
  refine fG (.cells #[.slice none 0 0] 91) (some 5) (ki (by kernel_rfl)) (by kernel_rfl) ?_
  intro k1 w_k1 hk_k1 hO_k1 hm_k1 hl_k1
  have MZ:=MR.out.size
  replace MR:=lh (MR.out.then0 hm_k1)
  refine⟨fun _=>MR.out,?_⟩
  have o7:=o7.keep hm_k1 (fun _ _ x=>x)
  have N7:v7.ownBlock≠some k1:=fun e=>by have:=F7L _ e;omega
  refine fH (ty:=91) (x:=(.tmp 5)) (y:=(.tmp 24)) (g:=k1) (off:=0) (v:=v7) none (ki (by kernel_rfl)) (by kernel_rfl) (by kernel_rfl) (by kernel_rfl) (by kernel_rfl) (by rw [ag hO_k1];rfl) (bY hO_k1 _) (h17) ?_
  intro w9 hw9
  refine⟨(fun h=>by first | (cases h;done) | exact (by rw [hw9];exact MR.out.setCell (p:=⟨k1,0,none⟩) (.inr (show w.heap.size≤k1 by omega)) v7)),?_⟩
  refine aj [11] [.bool true] rfl (by kernel_rfl) (fun _=>by kernel_rfl) ?_
  exact aA (bg (K:=Q .normal) (by kernel_rfl) (HQ.out (.tuple #[v7,.bool true]) (af sg 0) (af sg 0) (af sg 0) (af mg 0) (kv) (.tuple #[v7,.bool true]) (v7) (.bool true) k1 v7 w9 (by omega) (by rw [hw9];exact heap_set hO_k1 0 v7) (Gl.Own.keep (S:=fun k=>k=k1) o7 (by rw [hw9];exact (ae.refl (fun k=>k=k1) _).setCell (p:=⟨k1,0,none⟩) (.inl rfl) v7) (fun k hk e=>N7 (e▸hk))) F7 (by rw [hw9];exact MR.out.setCell (p:=⟨k1,0,none⟩) (.inr (show w.heap.size≤k1 by omega)) v7) N7))
 ·skip
  refine fG (.cells #[.slice none 0 0] 91) (some 5) (ki (by kernel_rfl)) (by kernel_rfl) ?_
  intro k1 w_k1 hk_k1 hO_k1 hm_k1 hl_k1
  have MZ:=MR.out.size
  replace MR:=lh (MR.out.then0 hm_k1)
  refine⟨fun _=>MR.out,?_⟩
  refine bu (some 23) (ki (by kernel_rfl)) (HC.out _ MR.out) (fun _=>by kernel_rfl) ?_
  rintro r w7 ⟨v7,rfl,o7,m7,f7⟩
  have F7:=f7.of MR.out.size
  have hO_k1:=m7.heap hO_k1 (fun x=>x)
  have N7:v7.ownBlock≠some k1:=fun e=>by have:=f7 _ e;omega
  have hs7:=m7.size
  replace MR:=lh (MR.out.then0 m7)
  obtain⟨a7,c7,e7,_⟩:=o7.rd.form
  have h17:v7.oneCell'=true:=by rw [e7];rfl
  clear e7
  refine⟨_,rfl,fun _=>MR.out,?_⟩
  refine aj [6,7,8] [.tuple #[v7,.bool true],v7,.bool true] rfl (by kernel_rfl) (fun _=>by kernel_rfl) ?_
  refine fH (ty:=91) (x:=(.tmp 5)) (y:=(.tmp 24)) (g:=k1) (off:=0) (v:=v7) none (ki (by kernel_rfl)) (by kernel_rfl) (by kernel_rfl) (by kernel_rfl) (by kernel_rfl) (by rw [ag hO_k1];rfl) (bY hO_k1 _) (h17) ?_
  intro w9 hw9
  refine⟨(fun h=>by first | (cases h;done) | exact (by rw [hw9];exact MR.out.setCell (p:=⟨k1,0,none⟩) (.inr (show w.heap.size≤k1 by omega)) v7)),?_⟩
  refine aj [11] [.bool true] rfl (by kernel_rfl) (fun _=>by kernel_rfl) ?_
  exact aA (bg (K:=Q .normal) (by kernel_rfl) (HQ.out (.tuple #[v7,.bool true]) (af sg 0) (af sg 0) (af sg 0) (af mg 0) (kv) (.tuple #[v7,.bool true]) (v7) (.bool true) k1 v7 w9 (by omega) (by rw [hw9];exact heap_set hO_k1 0 v7) (Gl.Own.keep (S:=fun k=>k=k1) o7 (by rw [hw9];exact (ae.refl (fun k=>k=k1) _).setCell (p:=⟨k1,0,none⟩) (.inl rfl) v7) (fun k hk e=>N7 (e▸hk))) F7 (by rw [hw9];exact MR.out.setCell (p:=⟨k1,0,none⟩) (.inr (show w.heap.size≤k1 by omega)) v7) N7))
theorem kvn4f {w:World}{sbx kbx sg mg:Nat}{kv:Value} (b1:w.heap[sbx]?=some (.cells #[.pointer (some ⟨sg,0,none⟩)] 26 (0,0))) (b2:w.heap[kbx]?=some (.cells #[kv] 91 (0,0))) (b3:w.cell? ⟨sg,0,none⟩=some (.pointer (some ⟨mg,0,none⟩))) (b4:sg<w.heap.size) {xs:List UInt8} (hC:∀ b',ae ai w b'→Calls Tryz.prog 162 #[.pointer (some ⟨mg,0,none⟩),kv] b' fun e w'=>∃ v',e = .returned (.tuple #[v',.bool false])∧Gl.Own w' v' xs∧ae ai b' w'∧aF b' v')
  (hK:∀ (jk jl jC lF kG jm iY jD iZ:Value) (obx:Nat) (v7:Value) (w':World),w.heap.size≤obx→w'.heap[obx]?=some (.cells #[v7] 91 (0,0))→Gl.Own w' v7 xs→aF w v7→ae ai w w'→v7.ownBlock≠some obx→Q .normal ⟨#[x0,x1,.pointer (some ⟨sbx,0,none⟩),.pointer (some ⟨kbx,0,none⟩),x4,.pointer (some ⟨obx,0,none⟩),.bool false,x7,x8,x9,aW,bn,bi,aZ,aP,aQ,aS,jk,jl,jC,lF,kG,jm,iY,jD,iZ,bP,bM,bK,bV,bW,cZ,dh,dn,dw,di,dm,dK,dE,dF,dL,dM,dN,dP,dQ,dR,dS,dO],df⟩ w'):RW Tryz.prog (aJ 4 Tryz.f150) true Q ⟨#[x0,x1,.pointer (some ⟨sbx,0,none⟩),.pointer (some ⟨kbx,0,none⟩),x4,x5,x6,x7,x8,x9,aW,bn,bi,aZ,aP,aQ,aS,aT,aX,aY,bD,bC,bG,bH,bJ,bQ,bP,bM,bK,bV,bW,cZ,dh,dn,dw,di,dm,dK,dE,dF,dL,dM,dN,dP,dQ,dR,dS,dO],df⟩ w:=by
 have HQ:=lh hK
 clear hK
 have HC:=lh hC
 have Q1:=lh (fun b' (hm:ae ai w b')=>ag (hm.heap b1 (fun x=>x)) 0)
 have Q2:=lh (fun b' (hm:ae ai w b')=>ag (hm.heap b2 (fun x=>x)) 0)
 have Q3:=lh (fun b' (hm:ae ai w b')=>(hm.cellAt b4 (fun x=>x) 0).trans b3)
 clear hC b1 b2 b3
 have MR:=lh ((ae.refl ai w).drew)
 refine vV (S:=fun b'=>ae ai w b') [(0,true),(1,true),(2,true),(3,true),(4,true)] 5 9 [(6,true),(7,true),(8,true),(9,false),(10,false),(11,true)] [(5,false),(6,true),(7,true),(8,true),(10,false),(11,true)] [] (by kernel_rfl) (by kernel_rfl) (by kernel_rfl) (by kernel_rfl) (by kernel_rfl) MR.out ?_
 refine ah (af sg 0) (some 18) (ki (by kernel_rfl)) (fun bb hb=>aG (x:=(.tmp 2)) (by kernel_rfl) (by kernel_rfl) (aI (Q1.out _ hb) Tryz.underlying26 rfl)) ?_
 refine aj [1,2] [af sg 0,af sg 0] rfl (by kernel_rfl) (fun _=>by kernel_rfl) ?_
 refine ah (af mg 0) (some 21) (ki (by kernel_rfl)) (fun bb hb=>aG (x:=(.tmp 20)) (by kernel_rfl) (by kernel_rfl) (aI (Q3.out _ hb) Tryz.underlying129 rfl)) ?_
 refine ah (kv) (some 22) (ki (by kernel_rfl)) (fun bb hb=>aG (x:=(.tmp 3)) (by kernel_rfl) (by kernel_rfl) (aI (Q2.out _ hb) Tryz.underlying91 rfl)) ?_
 refine qi ?_ ?_
 ·skip
  refine bu (some 23) (ki (by kernel_rfl)) (HC.out _ MR.out) (fun _=>by kernel_rfl) ?_
  rintro r w7 ⟨v7,rfl,o7,m7,f7⟩
  have F7:=f7.of MR.out.size
  replace MR:=lh (MR.out.then0 m7)
  obtain⟨a7,c7,e7,_⟩:=o7.rd.form
  have h17:v7.oneCell'=true:=by rw [e7];rfl
  clear e7
  have F7L:=o7.lt
  refine⟨_,rfl,fun _=>MR.out,?_⟩
  refine aj [6,7,8] [.tuple #[v7,.bool false],v7,.bool false] rfl (by kernel_rfl) (fun _=>by kernel_rfl) ?_
  refine fG (.cells #[.slice none 0 0] 91) (some 5) (ki (by kernel_rfl)) (by kernel_rfl) ?_
  intro k1 w_k1 hk_k1 hO_k1 hm_k1 hl_k1
  have MZ:=MR.out.size
  replace MR:=lh (MR.out.then0 hm_k1)
  refine⟨fun _=>MR.out,?_⟩
  have o7:=o7.keep hm_k1 (fun _ _ x=>x)
  have N7:v7.ownBlock≠some k1:=fun e=>by have:=F7L _ e;omega
  refine fH (ty:=91) (x:=(.tmp 5)) (y:=(.tmp 24)) (g:=k1) (off:=0) (v:=v7) none (ki (by kernel_rfl)) (by kernel_rfl) (by kernel_rfl) (by kernel_rfl) (by kernel_rfl) (by rw [ag hO_k1];rfl) (bY hO_k1 _) (h17) ?_
  intro w9 hw9
  refine⟨(fun h=>by first | (cases h;done) | exact (by rw [hw9];exact MR.out.setCell (p:=⟨k1,0,none⟩) (.inr (show w.heap.size≤k1 by omega)) v7)),?_⟩
  refine aj [11] [.bool false] rfl (by kernel_rfl) (fun _=>by kernel_rfl) ?_
  exact aA (bg (K:=Q .normal) (by kernel_rfl) (HQ.out (.tuple #[v7,.bool false]) (af sg 0) (af sg 0) (af sg 0) (af mg 0) (kv) (.tuple #[v7,.bool false]) (v7) (.bool false) k1 v7 w9 (by omega) (by rw [hw9];exact heap_set hO_k1 0 v7) (Gl.Own.keep (S:=fun k=>k=k1) o7 (by rw [hw9];exact (ae.refl (fun k=>k=k1) _).setCell (p:=⟨k1,0,none⟩) (.inl rfl) v7) (fun k hk e=>N7 (e▸hk))) F7 (by rw [hw9];exact MR.out.setCell (p:=⟨k1,0,none⟩) (.inr (show w.heap.size≤k1 by omega)) v7) N7))
 ·skip
  refine fG (.cells #[.slice none 0 0] 91) (some 5) (ki (by kernel_rfl)) (by kernel_rfl) ?_
  intro k1 w_k1 hk_k1 hO_k1 hm_k1 hl_k1
  have MZ:=MR.out.size
  replace MR:=lh (MR.out.then0 hm_k1)
  refine⟨fun _=>MR.out,?_⟩
  refine bu (some 23) (ki (by kernel_rfl)) (HC.out _ MR.out) (fun _=>by kernel_rfl) ?_
  rintro r w7 ⟨v7,rfl,o7,m7,f7⟩
  have F7:=f7.of MR.out.size
  have hO_k1:=m7.heap hO_k1 (fun x=>x)
  have N7:v7.ownBlock≠some k1:=fun e=>by have:=f7 _ e;omega
  have hs7:=m7.size
  replace MR:=lh (MR.out.then0 m7)
  obtain⟨a7,c7,e7,_⟩:=o7.rd.form
  have h17:v7.oneCell'=true:=by rw [e7];rfl
  clear e7
  refine⟨_,rfl,fun _=>MR.out,?_⟩
  refine aj [6,7,8] [.tuple #[v7,.bool false],v7,.bool false] rfl (by kernel_rfl) (fun _=>by kernel_rfl) ?_
  refine fH (ty:=91) (x:=(.tmp 5)) (y:=(.tmp 24)) (g:=k1) (off:=0) (v:=v7) none (ki (by kernel_rfl)) (by kernel_rfl) (by kernel_rfl) (by kernel_rfl) (by kernel_rfl) (by rw [ag hO_k1];rfl) (bY hO_k1 _) (h17) ?_
  intro w9 hw9
  refine⟨(fun h=>by first | (cases h;done) | exact (by rw [hw9];exact MR.out.setCell (p:=⟨k1,0,none⟩) (.inr (show w.heap.size≤k1 by omega)) v7)),?_⟩
  refine aj [11] [.bool false] rfl (by kernel_rfl) (fun _=>by kernel_rfl) ?_
  exact aA (bg (K:=Q .normal) (by kernel_rfl) (HQ.out (.tuple #[v7,.bool false]) (af sg 0) (af sg 0) (af sg 0) (af mg 0) (kv) (.tuple #[v7,.bool false]) (v7) (.bool false) k1 v7 w9 (by omega) (by rw [hw9];exact heap_set hO_k1 0 v7) (Gl.Own.keep (S:=fun k=>k=k1) o7 (by rw [hw9];exact (ae.refl (fun k=>k=k1) _).setCell (p:=⟨k1,0,none⟩) (.inl rfl) v7) (fun k hk e=>N7 (e▸hk))) F7 (by rw [hw9];exact MR.out.setCell (p:=⟨k1,0,none⟩) (.inr (show w.heap.size≤k1 by omega)) v7) N7))
theorem kvn8 {w:World}{sbx sg b off m cap l:Nat}{qv:Value}{fn:Nat}{bd:Array Value}{pvs us:List Value} (b1:w.heap[sbx]?=some (.cells #[.pointer (some ⟨sg,0,none⟩)] 26 (0,0))) (b3:w.cell? ⟨sg,1,none⟩=some (.slice (some ⟨b,off,none⟩) (m+1) cap)) (b4:sg<w.heap.size) (hB:OB w 300 1 b off (m+1) cap pvs) (hp:pvs[m]?=some qv) (hQ:aO w 302 1 qv l us) (hm:m≤1000000) (hl:l≤1000000) (hqb:¬ dC qv b) (hqs:¬ dC qv sbx) (hqg:¬ dC qv sg)
  (hK:∀ (jU kJ lG lH kK mi mF lI y37 y38 y39 y40 y41 y42 y43 y44 y45 y46 y47:Value) (v8:Value) (w8:World) (w':World),aO w8 302 1 v8 (l+1) (us ++ [.func (.func fn) #[] bd])→ae (dC qv) w w8→(v8.ownBlock=qv.ownBlock∨aF w v8)→w'=w8.setCell ⟨b,off+m,none⟩ v8→Q .normal ⟨#[x0,x1,.pointer (some ⟨sbx,0,none⟩),x3,.int .i64 (((m+1):Nat):Int),x5,x6,.func (.func fn) #[] bd,x8,x9,aW,bn,bi,aZ,aP,aQ,aS,aT,aX,aY,bD,bC,bG,bH,bJ,bQ,bP,bM,bK,jU,kJ,lG,lH,kK,mi,mF,lI,y37,y38,y39,y40,y41,y42,y43,y44,y45,y46,y47],df⟩ w'):RW Tryz.prog (aJ 8 Tryz.f150) true Q ⟨#[x0,x1,.pointer (some ⟨sbx,0,none⟩),x3,.int .i64 (((m+1):Nat):Int),x5,x6,.func (.func fn) #[] bd,x8,x9,aW,bn,bi,aZ,aP,aQ,aS,aT,aX,aY,bD,bC,bG,bH,bJ,bQ,bP,bM,bK,bV,bW,cZ,dh,dn,dw,di,dm,dK,dE,dF,dL,dM,dN,dP,dQ,dR,dS,dO],df⟩ w:=by
 have HQ:=lh hK
 clear hK
 have Q1:=lh (fun b' (hm:ae (dC qv) w b')=>ag (hm.heap b1 hqs) 0)
 have Q3:=lh (fun b' (hm:ae (dC qv) w b')=>(hm.cellAt b4 hqg 1).trans b3)
 have Q4:=lh (fun b' (hm:ae (dC qv) w b')=>(hB.keep hm hqb).cell hp)
 have HQv:=lh hQ
 have HB:=lh hB
 have hcap:=hB.hn
 clear b1 b3 hB hp hQ
 have MR:=lh ((ae.refl ai w).drew)
 refine lS (S:=fun b'=>ae (dC qv) w b') [(0,true),(1,true),(2,true),(3,true),(4,true),(5,true),(6,true),(7,true),(8,true),(9,true),(10,true),(11,true),(12,true),(13,true),(14,true),(15,true),(16,false),(17,false),(18,true),(19,false)] [19] (by kernel_rfl) (by kernel_rfl) (by kernel_rfl) (by kernel_rfl) (MR.out.mono (fun _ _ x=>x.elim)) ?_
 refine ah (af sg 0) (some 29) (ki (by kernel_rfl)) (fun bb hb=>aG (x:=(.tmp 2)) (by kernel_rfl) (by kernel_rfl) (aI (Q1.out _ hb) Tryz.underlying26 rfl)) ?_
 refine aj [1,2] [af sg 0,af sg 1] rfl (by kernel_rfl) (fun _=>by kernel_rfl) ?_
 refine ah (.slice (some ⟨b,off,none⟩) (m+1) cap) (some 32) (ki (by kernel_rfl)) (fun bb hb=>aG (x:=(.tmp 31)) (by kernel_rfl) (by kernel_rfl) (aI (Q3.out _ hb) Tryz.underlying131 rfl)) ?_
 refine aj [4] [.int .i64 (((m+1):Nat):Int)] rfl (by kernel_rfl) (fun _=>by kernel_rfl) ?_
 refine ah (.int .i64 ((m:Nat):Int)) (some 34) (ki (by kernel_rfl)) (fun bb hb=>cO (t:=3) (t':=3) (xv := .int .i64 (((m+1):Nat):Int)) (yv := .int .i64 1) (x:=(.tmp 33)) (y:=(.const (.int .i64 1))) (by kernel_rfl) (by kernel_rfl) (by kernel_rfl) (fun _=>by kernel_rfl) (yT _ (by omega) (by omega) (by omega))) ?_
 refine ah (af sg 0) (some 35) (ki (by kernel_rfl)) (fun bb hb=>aG (x:=(.tmp 2)) (by kernel_rfl) (by kernel_rfl) (aI (Q1.out _ hb) Tryz.underlying26 rfl)) ?_
 refine aj [7,8] [af sg 0,af sg 1] rfl (by kernel_rfl) (fun _=>by kernel_rfl) ?_
 refine ah (.slice (some ⟨b,off,none⟩) (m+1) cap) (some 38) (ki (by kernel_rfl)) (fun bb hb=>aG (x:=(.tmp 37)) (by kernel_rfl) (by kernel_rfl) (aI (Q3.out _ hb) Tryz.underlying131 rfl)) ?_
 refine aj [10] [.int .i64 (((m+1):Nat):Int)] rfl (by kernel_rfl) (fun _=>by kernel_rfl) ?_
 refine ah (.int .i64 ((m:Nat):Int)) (some 40) (ki (by kernel_rfl)) (fun bb hb=>cO (t:=3) (t':=3) (xv := .int .i64 (((m+1):Nat):Int)) (yv := .int .i64 1) (x:=(.tmp 39)) (y:=(.const (.int .i64 1))) (by kernel_rfl) (by kernel_rfl) (by kernel_rfl) (fun _=>by kernel_rfl) (yT _ (by omega) (by omega) (by omega))) ?_
 refine ah (af b (off+m)) (some 41) (ki (by kernel_rfl)) (fun bb hb=>fQ (s:=1) (e:=300) (g:=b) (off:=off) (n:=(m+1)) (c:=cap) (i:=((m:Nat):Int)) (x:=(.tmp 38)) (y:=(.tmp 40)) (off+m) (by kernel_rfl) (by kernel_rfl) (by kernel_rfl) Tryz.underlying131 (by kernel_rfl) (by omega) (by omega) (by omega)) ?_
 refine ah (qv) (some 42) (ki (by kernel_rfl)) (fun bb hb=>aG (x:=(.tmp 41)) (by kernel_rfl) (by kernel_rfl) (aI (Q4.out _ hb) Tryz.underlying300 rfl)) ?_
 refine aj [14,15] [.func (.func fn) #[] bd,.agg #[.func (.func fn) #[] bd]] rfl (by kernel_rfl) (fun _=>by kernel_rfl) ?_
 refine gK (.cells #[.func (.func fn) #[] bd] 302) 1 (some 45) (ki (by kernel_rfl)) (by kernel_rfl) ?_
 intro k1 w_k1 hk_k1 hO_k1 hm_k1 hl_k1
 have MZ:=MR.out.size
 replace MR:=lh (MR.out.then0 hm_k1)
 refine⟨fun _=>(MR.out.mono (fun _ _ x=>x.elim)),?_⟩
 obtain⟨inf,hi,hz,hs,hby⟩:=info_parts infoC
 obtain⟨v8,w8,hr8,o8,m8,f8⟩:=iE (P:=Tryz.prog) 300 300 300 302 302 inf (.agg #[.nilFunc]) Tryz.underlying300 Tryz.underlying300 hi hz (by rw [hs];rfl) (by rw [hs];exact HQv.out.keep MR.out (fun _ _ x=>x)) (m:=1) (ys:=[.func (.func fn) #[] bd]) (by rw [hs];exact aO.rd (Bh hO_k1).own) (by intro y hy;rw [List.mem_singleton.1 hy];rfl) (by unfold maxLen;omega) (by rw [hby];omega)
 rw [hs] at o8
 refine aC v8 w8 (some 46) (ki (by kernel_rfl)) (of_append (x:=(.tmp 42)) (y:=(.tmp 45)) (by kernel_rfl) (by kernel_rfl) (by kernel_rfl) hr8) (fun _=>MR.out.trans m8 (fun _ _ x=>x.elim) (fun _ _ x=>x)) ?_
 have f9:=f8.imp id (fun h=>h.of MR.out.size)
 have M8:=lh (MR.out.trans m8 (U:=dC qv) (fun _ _ x=>x.elim) (fun _ _ x=>x))
 have ob8:=HB.out.keep M8.out hqb
 obtain⟨a8,c8,e8,_⟩:=o8.rd.form
 have h18:v8.oneCell'=true:=by rw [e8];rfl
 clear e8
 refine ah (af b (off+m)) (some 47) (ki (by kernel_rfl)) (fun bb hb=>fQ (s:=1) (e:=300) (g:=b) (off:=off) (n:=(m+1)) (c:=cap) (i:=((m:Nat):Int)) (x:=(.tmp 32)) (y:=(.tmp 34)) (off+m) (by kernel_rfl) (by kernel_rfl) (by kernel_rfl) Tryz.underlying131 (by kernel_rfl) (by omega) (by omega) (by omega)) ?_
 refine fH (ty:=300) (x:=(.tmp 47)) (y:=(.tmp 46)) (g:=b) (off:=off+m) (v:=v8) none (ki (by kernel_rfl)) (by kernel_rfl) (by kernel_rfl) (by kernel_rfl) (by kernel_rfl) (ob8.there (by have:=ob8.hn;omega)) (ob8.free _) (h18) ?_
 intro w9 hw9
 refine⟨(fun h=>by first | (cases h;done) | exact trivial),?_⟩
 exact aA (bg (K:=Q .normal) (by kernel_rfl) (HQ.out (af sg 0) (af sg 0) (af sg 1) (.slice (some ⟨b,off,none⟩) (m+1) cap) (.int .i64 (((m+1):Nat):Int)) (.int .i64 ((m:Nat):Int)) (af sg 0) (af sg 0) (af sg 1) (.slice (some ⟨b,off,none⟩) (m+1) cap) (.int .i64 (((m+1):Nat):Int)) (.int .i64 ((m:Nat):Int)) (af b (off+m)) (qv) (.func (.func fn) #[] bd) (.agg #[.func (.func fn) #[] bd]) (.slice (some ⟨k1,0,none⟩) 1 1) (v8) (af b (off+m)) v8 w8 w9 o8 M8.out f9 hw9))
end
open Go.Gl Go.RowKit
def vJ (J J':List JV) (k:List UInt8) (old:Option (List UInt8)):Prop:=(J=[]∧J'=[])∨∃ A q0 v x,J=A ++ [q0]∧J'=A ++ [⟨v,q0.us ++ [x]⟩]∧x.u=⟨k,old⟩
theorem xn {w W4 W8 W9:World}{sg mg b off cap:Nat}{vo jv v8:Value}{R:List PV}{A:List JV}{q0:JV}{x:UV}{n:Int} (h:KM w sg mg vo R jv (A ++ [q0]) n) (m4:ae ai w W4) (ejv:jv = .slice (some ⟨b,off,none⟩) (A.length+1) cap) (hx:nG W4 sg x) (hb:∀ k,UB x k→w.heap.size≤k∧k<W4.heap.size)
  (o8:aO W8 302 1 v8 (q0.us.length+1) (q0.us.map (·.c) ++ [x.c])) (m8:ae (dC q0.jv) W4 W8) (f8:v8.ownBlock=q0.jv.ownBlock∨aF W4 v8) (e:W9=W8.setCell ⟨b,off+A.length,none⟩ v8) :
  KT w W9 sg mg vo R jv (A ++ [q0]) vo R jv (A ++ [⟨v8,q0.us ++ [x]⟩]) n:=by
 have k4:=h.keep0 m4
 obtain⟨a,b',c,d⟩:=k4.put (Z:=fun k=>w.heap.size≤k) (xs:=[x]) ejv ejv (ae.refl _ _) k4.hg o8 m8 f8 e (fun y hy=>by
  obtain rfl:=List.mem_singleton.1 hy
  exact .inr ⟨hx,fun k hk=>⟨(hb k hk).1,(hb k hk).2,fun z=>by have:=h.lt k z;have:=(hb k hk).1;omega⟩⟩)
 exact⟨a,m4.trans b' (fun _ _ x=>x.elim) (fun _ _ x=>x),fun k hk=>(c k hk).imp id (fun y=>Nat.le_trans m4.size y),d⟩
theorem uU {w:World}{sg mg:Nat}{vo jv q:Value}{R:List PV}{J:List JV}{n:Int}{ys:List UInt8} (h:KM w sg mg vo R jv J n) (hq:Rd w q ys) (ly:ys.length≤1000000) (ok:gu (aH R)) (hn:R.length≤1000000) (hJ:J.length≤1000000) (hU:∀ q∈J,q.us.length≤1000000) (hv:∀ v,lX (aH R) ys=some v→v.length≤1000000) :
  Calls Tryz.prog 150 #[.pointer (some ⟨sg,0,none⟩),q] w fun e w'=>e = .returned (.tuple #[])∧∃ J',KT w w' sg mg vo R jv J vo R jv J' n∧vJ J J' ys (lX (aH R) ys):=by
 obtain⟨aq,cq,rfl,_⟩:=hq.form
 have m1:ae ai w ((w.alloc (.cells #[.pointer (some ⟨sg,0,none⟩)] 26)).alloc (.cells #[.slice aq ys.length cq] 91)):=((ae.refl ai w).alloc _).alloc _
 have b1:((w.alloc (.cells #[.pointer (some ⟨sg,0,none⟩)] 26)).alloc (.cells #[.slice aq ys.length cq] 91)).heap[w.heap.size]?=some (.cells #[.pointer (some ⟨sg,0,none⟩)] 26 (0,0)):=dA (aU w _) _
 have b2:((w.alloc (.cells #[.pointer (some ⟨sg,0,none⟩)] 26)).alloc (.cells #[.slice aq ys.length cq] 91)).heap[w.heap.size+1]?=some (.cells #[.slice aq ys.length cq] 91 (0,0)):=by have:=aU (w.alloc (.cells #[.pointer (some ⟨sg,0,none⟩)] 26)) (.cells #[.slice aq ys.length cq] 91);rwa [World.size_alloc] at this
 have k1:=h.keep0 m1
 have c1:=k1.cells.2.1
 have d1:=(ag b1 0)
 have d2:=(ag b2 0)
 rcases J.eq_nil_or_concat with rfl | ⟨A,q0,hJe⟩
 ·obtain⟨a,c,hjv,_⟩:=h.row.rd.form
  simp only [List.length_nil] at hjv
  have H:=lh (show KT w ((w.alloc (.cells #[.pointer (some ⟨sg,0,none⟩)] 26)).alloc (.cells #[.slice aq ys.length cq] 91)) sg mg vo R jv [] vo R jv [] n from (KT.refl h).then0 m1)
  rw [hjv] at c1
  clear h hq m1 k1 hJ hU hv ok b1 b2
  go_enter Tryz.func150,Tryz.ntmps150
  go_wp2
  refine bodyPost_ret (by simp [results,Tryz.results150,go_sem];try rfl) rfl ?_
  exact⟨rfl,[],H.out,.inl ⟨rfl,rfl⟩⟩
 ·rw [List.concat_eq_append] at hJe
  subst hJe
  rcases h.row.ob with ⟨_,h0,_⟩ | ⟨b,off,cap,hjv,ob⟩
  ·simp at h0
  have hl1:(A ++ [q0]).length=A.length+1:=by simp
  rw [hl1] at hjv ob hJ
  have hq0:q0∈A ++ [q0]:=List.mem_append_right _ (List.mem_singleton.2 rfl)
  have hq1:=hq.keep m1 (fun _ _ x=>x)
  have CL:=lh (wV hq1 ly)
  have KW:=lh h
  have hsg:=h.lt sg (.inl rfl)
  have M1:=lh m1
  have B1:=lh b1
  have B2:=lh b2
  have OKH:=lh (And.intro ok (And.intro hn (And.intro hJ (And.intro (hU q0 hq0) hv))))
  have hS1:((w.alloc (.cells #[.pointer (some ⟨sg,0,none⟩)] 26)).alloc (.cells #[.slice aq ys.length cq] 91)).heap.size=w.heap.size+2:=by simp
  have HS1:=lh hS1
  rw [hjv] at c1
  clear h hq m1 k1 hJ hU hv ok b1 b2 hq1 hS1
  go_enter Tryz.func150,Tryz.ntmps150
  go_wp2_with fail
  refine CL.out.mono ?_
  rintro e w2 ⟨v2,rfl,o2,m2,f2⟩
  have B2a:=m2.heap B2.out (fun x=>x)
  have e2:=ag B2a 0
  have e3:=bY B2a 0
  have hs2:=m2.size
  rw [HS1.out] at hs2
  have n2:∀ k,v2.ownBlock=some k→w.heap.size+2≤k:=fun k hk=>by have:=f2 k hk;have:=HS1.out;omega
  have O2:=lh o2
  obtain⟨W3,hW3⟩:∃ W3,W3=w2.setCell ⟨w.heap.size+1,0,none⟩ v2:=⟨_,rfl⟩
  have m3:ae (fun k=>k=w.heap.size+1) w2 W3:=by rw [hW3];exact (ae.refl (fun k=>k=w.heap.size+1) w2).setCell (p:=⟨w.heap.size+1,0,none⟩) (.inl rfl) _
  have M3:=lh (show ae ai w W3 from (M1.out.then0 m2).trans m3 (fun _ _ x=>x) (fun i hi x=>by omega))
  have B13:=lh (m3.heap (m2.heap B1.out (fun x=>x)) (show ¬ w.heap.size=w.heap.size+1 by omega))
  have B23:=lh (show W3.heap[w.heap.size+1]?=some (.cells #[v2] 91 (0,0)) by rw [hW3];exact heap_set B2a 0 v2)
  have O3:=lh (o2.keep m3 (fun k hk x=>by have:=n2 k hk;omega))
  have N2:=lh n2
  have S3:=lh (show w.heap.size+2≤W3.heap.size by have:=m3.size;omega)
  obtain⟨a2,cc2,rfl,_⟩:=o2.rd.form
  clear o2 m2 f2 hs2 n2 m3 M1 B1 B2 CL B2a
  go_upto_region 4 with fail
  rw [← hW3]
  clear e2 e3 hW3
  have K3:=KW.out.keep0 M3.out
  have c3:=K3.cells.1
  have GET:=lh (fun b' (hm:ae ai W3 b')=>I9 (K3.keep0 hm).pm (O3.out.rd.keep hm (fun _ _ x=>x)) OKH.out.1 OKH.out.2.1)
  have hsg3:sg<W3.heap.size:=by have:=S3.out;omega
  rcases hg:lX (aH R) ys with _ | v
  ·rw [hg] at GET OKH
   refine gy (d := .region 4 (aJ 4 Tryz.f150) true) (by kernel_rfl) ?_
   refine RW.wp (kvn4f B13.out B23.out c3 hsg3 (xs:=[]) GET.out ?_)
   intros
   rename_i obx v7 W4 hb hO o7 f7 m4 n7
   have K4:=K3.keep0 m4
   have b14:=m4.heap B13.out (fun x=>x)
   have b24:=m4.heap B23.out (fun x=>x)
   have s4:=m4.size
   have s3:=S3.out
   have c4:=K4.cells.2.1
   rw [hjv] at c4
   have ob4:=ob.keep (M3.out.then0 m4) (fun x=>x)
   have q0b:∀ k,q0.jv.ownBlock=some k→k<w.heap.size:=fun k hk=>(KW.out.pg q0 hq0).lt k hk
   have hx:nG W4 sg ⟨.func (.func 213) #[] #[.pointer (some ⟨w.heap.size,0,none⟩),.pointer (some ⟨w.heap.size+1,0,none⟩)],⟨ys,none⟩,w.heap.size,w.heap.size+1,obx,.slice a2 ys.length cc2,v7⟩:=⟨b14,b24,O3.out.rd.keep m4 (fun _ _ x=>x),ly,rfl⟩
   have hxb:∀ k,UB ⟨.func (.func 213) #[] #[.pointer (some ⟨w.heap.size,0,none⟩),.pointer (some ⟨w.heap.size+1,0,none⟩)],⟨ys,none⟩,w.heap.size,w.heap.size+1,obx,.slice a2 ys.length cc2,v7⟩ k→w.heap.size≤k∧k<W4.heap.size:=by
    rintro k (hk | hk | hk | ⟨hs,hk | hk⟩)
    ·simp only at hk;omega
    ·simp only at hk;omega
    ·exact⟨by have:=N2.out k hk;omega,Nat.lt_of_lt_of_le (O3.out.lt k hk) s4⟩
    ·simp at hs
    ·simp at hs
   have HX:=lh hx
   have HXB:=lh hxb
   have M4:=lh (M3.out.then0 m4)
   clear hx hxb hO o7 f7 n7 GET m4 K3 b24 hb
   go_upto_region 8 with fail
   rw [show (A.length:Int)+1=((A.length+1:Nat):Int) from by omega]
   refine gy (d := .region 8 (aJ 8 Tryz.f150) true) (by kernel_rfl) ?_
   refine RW.wp (kvn8 (l:=q0.us.length) (us:=q0.us.map (·.c)) b14 c4 (by omega) ob4 (by simp) (K4.pg q0 hq0) (by have:=OKH.out.2.2.1;omega) OKH.out.2.2.2.1 (fun x=>(KW.out.s2 b (by rw [hjv];rfl)).2 q0 hq0 x) (fun x=>by have:=q0b _ x;omega) (fun x=>KW.out.s1.2.2 q0 hq0 x) ?_)
   intros
   rename_i v8 W8 W9 o8 m8 f8 e9
   have FIN:=lh (xn KW.out M4.out hjv HX.out HXB.out o8 m8 f8 e9)
   clear o8 m8 f8 e9 K4 c4 ob4 b14 ob
   go_wp2
   go_end0
   replace FIN:=FIN.out
   rw [hjv] at FIN
   exact⟨rfl,_,FIN,.inr ⟨A,q0,_,_,rfl,rfl,rfl⟩⟩
  ·rw [hg] at GET OKH
   refine gy (d := .region 4 (aJ 4 Tryz.f150) true) (by kernel_rfl) ?_
   refine RW.wp (kvn4t B13.out B23.out c3 hsg3 (xs:=v) GET.out ?_)
   intros
   rename_i obx v7 W4 hb hO o7 f7 m4 n7
   have K4:=K3.keep0 m4
   have b14:=m4.heap B13.out (fun x=>x)
   have b24:=m4.heap B23.out (fun x=>x)
   have s4:=m4.size
   have s3:=S3.out
   have c4:=K4.cells.2.1
   rw [hjv] at c4
   have ob4:=ob.keep (M3.out.then0 m4) (fun x=>x)
   have q0b:∀ k,q0.jv.ownBlock=some k→k<w.heap.size:=fun k hk=>(KW.out.pg q0 hq0).lt k hk
   have hx:nG W4 sg ⟨.func (.func 214) #[] #[.pointer (some ⟨w.heap.size,0,none⟩),.pointer (some ⟨w.heap.size+1,0,none⟩),.pointer (some ⟨obx,0,none⟩)],⟨ys,some v⟩,w.heap.size,w.heap.size+1,obx,.slice a2 ys.length cc2,v7⟩:=⟨b14,b24,O3.out.rd.keep m4 (fun _ _ x=>x),ly,⟨rfl,hO,o7.rd,OKH.out.2.2.2.2 v rfl⟩⟩
   have hxb:∀ k,UB ⟨.func (.func 214) #[] #[.pointer (some ⟨w.heap.size,0,none⟩),.pointer (some ⟨w.heap.size+1,0,none⟩),.pointer (some ⟨obx,0,none⟩)],⟨ys,some v⟩,w.heap.size,w.heap.size+1,obx,.slice a2 ys.length cc2,v7⟩ k→w.heap.size≤k∧k<W4.heap.size:=by
    rintro k (hk | hk | hk | ⟨hs,hk | hk⟩)
    ·simp only at hk;omega
    ·simp only at hk;omega
    ·exact⟨by have:=N2.out k hk;omega,Nat.lt_of_lt_of_le (O3.out.lt k hk) s4⟩
    ·simp only at hk;subst hk;exact⟨by omega,lt_of_heap hO⟩
    ·exact⟨f7.of (by omega) k hk,o7.lt k hk⟩
   have HX:=lh hx
   have HXB:=lh hxb
   have M4:=lh (M3.out.then0 m4)
   clear hx hxb hO o7 f7 n7 GET m4 K3 b24 hb
   go_upto_region 8 with fail
   rw [show (A.length:Int)+1=((A.length+1:Nat):Int) from by omega]
   refine gy (d := .region 8 (aJ 8 Tryz.f150) true) (by kernel_rfl) ?_
   refine RW.wp (kvn8 (l:=q0.us.length) (us:=q0.us.map (·.c)) b14 c4 (by omega) ob4 (by simp) (K4.pg q0 hq0) (by have:=OKH.out.2.2.1;omega) OKH.out.2.2.2.1 (fun x=>(KW.out.s2 b (by rw [hjv];rfl)).2 q0 hq0 x) (fun x=>by have:=q0b _ x;omega) (fun x=>KW.out.s1.2.2 q0 hq0 x) ?_)
   intros
   rename_i v8 W8 W9 o8 m8 f8 e9
   have FIN:=lh (xn KW.out M4.out hjv HX.out HXB.out o8 m8 f8 e9)
   clear o8 m8 f8 e9 K4 c4 ob4 b14 ob
   go_wp2
   go_end0
   replace FIN:=FIN.out
   rw [hjv] at FIN
   exact⟨rfl,_,FIN,.inr ⟨A,q0,_,_,rfl,rfl,rfl⟩⟩
open Go.Gl Go.RowKit
def gU (k v:List UInt8):Nat:=if k.length<1∨64<k.length then 60 else if 4096<v.length then 61 else 0
theorem KM.rdk {w:World}{sg mg:Nat}{vo jv q:Value}{R:List PV}{J:List JV}{n:Int}{ys:List UInt8} (h:KM w sg mg vo R jv J n) (hq:Rd w q ys) (hqs:Off (KS sg mg vo R jv J) q ys) {vo' jv':Value}{R':List PV}{J':List JV}{n':Int}{w':World} (t:KT w w' sg mg vo R jv J vo' R' jv' J' n') :
  Rd w' q ys:=hqs.keep hq t.mods
theorem EU {w:World}{sg mg:Nat}{vo jv q u:Value}{R:List PV}{J:List JV}{n:Int}{ks vs:List UInt8} (h:KM w sg mg vo R jv J n) (hq:Rd w q ks) (hu:Rd w u vs) (hqs:Off (KS sg mg vo R jv J) q ks) (hus:Off (KS sg mg vo R jv J) u vs)
  (h0:0≤n) (h1:n≤4611686018427387904) (ok:gu (aH R)) (hn:R.length≤1000000) (hc:cnt (aH R)≤1000000000) (hJ:J.length≤1000000) (hU:∀ q∈J,q.us.length≤1000000) (hv:∀ v,lX (aH R) ks=some v→v.length≤1000000) :
  Calls Tryz.prog 74 #[.pointer (some ⟨sg,0,none⟩),q,u] w fun e w'=>e = .returned (.int .i64 (gU ks vs:Nat)) ∧
   ((gU ks vs≠0∧KT w w' sg mg vo R jv J vo R jv J (n+1))∨(gU ks vs=0∧∃ vo' R' J',KT w w' sg mg vo R jv J vo' R' jv J' (n+1)∧aH R'=pq (aH R) ks vs∧vJ J J' ks (lX (aH R) ks))):=by
 have ADD:=lh (h.add h0 h1)
 have HM:=lh h
 have HQ:=lh (And.intro hq hqs)
 have HU:=lh (And.intro hu hus)
 obtain⟨aq,cq,rfl,_⟩:=hq.form
 obtain⟨au,cu,rfl,_⟩:=hu.form
 have PR:=lh (And.intro ok (And.intro hn (And.intro hc (And.intro hJ (And.intro hU hv)))))
 clear h hq hu hqs hus ok hn hc hJ hU hv h0 h1
 by_cases hk:ks.length<1∨64<ks.length
 ·have he:gU ks vs=60:=if_pos hk
  refine Calls.mono (R:=fun e w'=>e = .returned (.int .i64 60)∧KT w w' sg mg vo R jv J vo R jv J (n+1)) ?_ (fun e w' ⟨a,b⟩=>⟨by rw [he];exact a,.inl ⟨by rw [he];decide,b⟩⟩)
  clear he
  go_enter Tryz.func74,Tryz.ntmps74
  go_wp2_with fail
  refine ADD.out.mono ?_
  rintro e w1 ⟨rfl,t1,m1⟩
  have T1:=lh t1
  clear t1 m1 ADD HQ HU PR HM
  rcases hk with hk | hk
  ·go_wp2
   go_ret
   exact⟨rfl,T1.out⟩
  ·go_wp2
   go_ret
   exact⟨rfl,T1.out⟩
 ·by_cases hl:4096<vs.length
  ·have he:gU ks vs=61:=by unfold gU;rw [if_neg hk,if_pos hl]
   refine Calls.mono (R:=fun e w'=>e = .returned (.int .i64 61)∧KT w w' sg mg vo R jv J vo R jv J (n+1)) ?_ (fun e w' ⟨a,b⟩=>⟨by rw [he];exact a,.inl ⟨by rw [he];decide,b⟩⟩)
   clear he
   obtain⟨hk1,hk2⟩:=not_or.1 hk
   go_enter Tryz.func74,Tryz.ntmps74
   go_wp2_with fail
   refine ADD.out.mono ?_
   rintro e w1 ⟨rfl,t1,m1⟩
   have T1:=lh t1
   clear t1 m1 ADD HQ HU PR HM hk
   go_wp2
   go_ret
   exact⟨rfl,T1.out⟩
  ·have he:gU ks vs=0:=by unfold gU;rw [if_neg hk,if_neg hl]
   refine Calls.mono (R:=fun e w'=>e = .returned (.int .i64 0)∧∃ vo' R' J',KT w w' sg mg vo R jv J vo' R' jv J' (n+1)∧aH R'=pq (aH R) ks vs∧vJ J J' ks (lX (aH R) ks)) ?_ (fun e w' ⟨a,b⟩=>⟨by rw [he];exact a,.inr ⟨he,b⟩⟩)
   clear he
   obtain⟨hk1,hk2⟩:=not_or.1 hk
   have HK:=lh (show ks.length≤1000000∧vs.length≤1000000∧ks.length≠0 by omega)
   go_enter Tryz.func74,Tryz.ntmps74
   go_wp2_with fail
   refine ADD.out.mono ?_
   rintro e w1 ⟨rfl,t1,m1⟩
   have q1:=HM.out.rdk HQ.out.1 HQ.out.2 t1
   have ND:=lh (uU t1.km q1 HK.out.1 PR.out.1 PR.out.2.1 PR.out.2.2.2.1 PR.out.2.2.2.2.1 PR.out.2.2.2.2.2)
   have T1:=lh t1
   clear t1 m1 ADD q1 hk
   go_wp2_with fail
   refine ND.out.mono ?_
   rintro e w2 ⟨rfl,J',t2,nt⟩
   have t12:=T1.out.trans t2
   have q2:=HM.out.rdk HQ.out.1 HQ.out.2 t12
   have u2:=HM.out.rdk HU.out.1 HU.out.2 t12
   have SETC:=lh (IC t12.km.pm q2 u2 HK.out.1 HK.out.2.1 PR.out.1 PR.out.2.1 PR.out.2.2.1)
   have T2:=lh t12
   have NT:=lh nt
   have c2:=t12.km.cells.1
   clear t2 t12 nt q2 u2 ND T1
   go_wp2_with fail
   refine SETC.out.mono ?_
   rintro e w3 ⟨vo',R',rfl,t3,e3⟩
   have T3:=lh (T2.out.trans (T2.out.km.map t3))
   have E3:=lh e3
   clear t3 e3 SETC c2 T2
   go_wp2
   go_ret
   exact⟨rfl,vo',R',J',T3.out,E3.out,NT.out⟩
theorem Ag {w:World}{sg mg:Nat}{vo jv q:Value}{R:List PV}{J:List JV}{n:Int}{ks:List UInt8} (h:KM w sg mg vo R jv J n) (hq:Rd w q ks) (hqs:Off (KS sg mg vo R jv J) q ks) (lk:ks.length≤1000000)
  (h0:0≤n) (h1:n≤4611686018427387904) (ok:gu (aH R)) (hn:R.length≤1000000) (hc:cnt (aH R)≤1000000000) (hJ:J.length≤1000000) (hU:∀ q∈J,q.us.length≤1000000) (hv:∀ v,lX (aH R) ks=some v→v.length≤1000000) :
  Calls Tryz.prog 145 #[.pointer (some ⟨sg,0,none⟩),q] w fun e w'=>e = .returned (.bool (bz (aH R) ks).2.2)∧∃ vo' R' J',KT w w' sg mg vo R jv J vo' R' jv J' (n+1)∧aH R'=jM (aH R) ks∧vJ J J' ks (lX (aH R) ks):=by
 have ADD:=lh (h.add h0 h1)
 have HM:=lh h
 have HQ:=lh (And.intro hq hqs)
 obtain⟨aq,cq,rfl,_⟩:=hq.form
 have PR:=lh (And.intro ok (And.intro hn (And.intro hc (And.intro hJ (And.intro hU hv)))))
 obtain⟨B,hB⟩:∃ B,(bz (aH R) ks).2.2=B:=⟨_,rfl⟩
 rw [hB]
 clear h hq hqs ok hn hc hJ hU hv h0 h1
 have HB:=lh hB
 have HK:=lh lk
 clear hB lk
 go_enter Tryz.func145,Tryz.ntmps145
 go_wp2_with fail
 refine ADD.out.mono ?_
 rintro e w1 ⟨rfl,t1,m1⟩
 have q1:=HM.out.rdk HQ.out.1 HQ.out.2 t1
 have ND:=lh (uU t1.km q1 HK.out PR.out.1 PR.out.2.1 PR.out.2.2.2.1 PR.out.2.2.2.2.1 PR.out.2.2.2.2.2)
 have T1:=lh t1
 clear t1 m1 ADD q1
 go_wp2_with fail
 refine ND.out.mono ?_
 rintro e w2 ⟨rfl,J',t2,nt⟩
 have t12:=T1.out.trans t2
 have q2:=HM.out.rdk HQ.out.1 HQ.out.2 t12
 have SETC:=lh (CO t12.km.pm q2 PR.out.1 PR.out.2.1 PR.out.2.2.1)
 have T2:=lh t12
 have NT:=lh nt
 have c2:=t12.km.cells.1
 clear t2 t12 nt q2 ND T1
 go_wp2_with fail
 refine SETC.out.mono ?_
 rintro e w3 ⟨vo',R',rfl,t3,e3⟩
 rw [HB.out]
 have T3:=lh (T2.out.trans (T2.out.km.map t3))
 have E3:=lh e3
 clear t3 e3 SETC c2 T2
 go_wp2
 go_ret
 exact⟨rfl,vo',R',J',T3.out,E3.out,NT.out⟩
open Go.Gl Go.RowKit
theorem AC {w w7:World}{g:Nat}{lv wv v9:Value}{L L':List EV}{H:List SV}{n':Nat}{F':List aN}{Ws:List (List aN)} (t:lw w7 g lv wv L H (n':Int)) (m:ae (kW g wv) w w7) (h0:∀ k,kW g wv k→k<w.heap.size) (hp:iU w7 v9 L') (fr:aF w v9) (l9:∀ k,v9.ownBlock=some k→k<w7.heap.size)
  (hmd:∀ k,kV L' k→oV lv L H k∨(w.heap.size≤k∧k<w7.heap.size)) (hr':fM F') (hf':L'.map EV.ent=F') (hw:(H.map (fun h=>h.es.map EV.ent)).reverse=Ws) (ho:∀ G∈Ws,fM G):uJ w (w7.setCell ⟨g,0,none⟩ v9) g (kW g wv) (oV lv L H) F' Ws n':=by
 obtain⟨t',m'⟩:=t.set (lv':=v9) (L':=L') hp (fun k hk=>by
  rcases hk with hk | hk
  ·exact⟨fun x=>by have:=h0 k x;have:=fr k hk;omega,l9 k hk⟩
  ·rcases hmd k hk with x | ⟨x,y⟩
   ·exact⟨t.data k x,t.dlt k x⟩
   ·exact⟨fun z=>by have:=h0 k z;omega,y⟩)
 refine⟨_,_,⟨v9,wv,L',H,t',hr',hf',hw,ho,rfl,rfl⟩,m.trans m' (fun _ _ x=>x) (fun k _ x => .inl x),fun _ => .inl,fun k hk=>?_⟩
 rcases hk with (hk | hk) | hk
 ·exact .inr (fr k hk)
 ·rcases hmd k hk with x | x
  ·exact .inl x
  ·exact .inr x.1
 ·exact .inl (.inr hk)
theorem Eh {A B:List EV}{e:EV}{k:Nat} (h:kV (A ++ e :: B) k):kV A k∨(e.kv.ownBlock=some k∨e.vv.ownBlock=some k)∨kV B k:=by
 obtain⟨x,hx,hk⟩:=h
 rcases List.mem_append.1 hx with hx | hx
 ·exact .inl ⟨x,hx,hk⟩
 ·rcases List.mem_cons.1 hx with rfl | hx
  ·exact .inr (.inl hk)
  ·exact .inr (.inr ⟨x,hx,hk⟩)
theorem tX {A B:List EV}{k:Nat} (h:kV A k) (hs:∀ e∈A,e∈B):kV B k:=by
 obtain⟨x,hx,hk⟩:=h
 exact⟨x,hs x hx,hk⟩
theorem rSet6 {w:World}{g n:Nat}{F:List aN}{Ws:List (List aN)}{S D:Nat→Prop}{q u:Value}{ks vs:List UInt8} (h:kT w g F Ws n S D) (hq:Rd w q ks) (hu:Rd w u vs) (hqs:Off S q ks) (hus:Off S u vs) (hn:n≤1000000000000) (hF:F.length≤100000) :
    Calls Tryz.prog 43 #[.pointer (some ⟨g,0,none⟩),q,u] w fun e w'=>e = .returned (.int .i64 (gU ks vs:Nat))∧uJ w w' g S D (if gU ks vs=0 then insL F ks vs else F) Ws (n+1):=by
  obtain⟨lv,wv,L,H,rs,hr,hf,hw,ho,rfl,rfl⟩:=h
  have HLF:=lh (wG hf)
  have hF':L.length≤100000:=by have:=HLF.out;omega
  clear hF
  obtain⟨la,lc,rfl,_⟩:=rs.pr.row.form
  have SLT:=lh rs.lt
  have DLT:=lh rs.dlt
  obtain⟨t1,m1⟩:=rs.tick ((n:Int)+1)
  have M1:=lh (m1.mono (T:=kW g wv) (fun k _ e => .inl e))
  have T1:=lh t1
  have HQ:=lh (hqs.keep hq M1.out)
  have HU:=lh (hus.keep hu M1.out)
  have c2:=rs.cells.2.2.1
  have f2:=rs.cells.2.2.2 2
  have SAME:=lh (fun W (r:lw W g (.slice la L.length lc) wv L H ((n:Int)+1)) (m:ae (kW g wv) w W)=>show uJ w W g (kW g wv) (oV (.slice la L.length lc) L H) F Ws (n+1) from⟨_,_,⟨_,wv,L,H,by rw [Int.natCast_succ];exact r,hr,hf,hw,ho,rfl,rfl⟩,m,fun _ => .inl,fun _ => .inl⟩)
  obtain⟨aq,cq,rfl,_⟩:=hq.form
  obtain⟨au,cu,rfl,_⟩:=hu.form
  clear rs t1 m1 hqs hus hq hu
  unfold gU
  by_cases hk:ks.length<1∨64<ks.length
  · rw [if_pos hk]
    rw [if_neg (by omega)]
    obtain⟨lk,hlk⟩:∃ lk,ks.length=lk:=⟨_,rfl⟩
    rw [hlk] at hk ⊢
    by_cases h1:lk<1
    · have z1:(lk:Int)<1:=by omega
      go_enter Tryz.func43,Tryz.ntmps43
      go_wp2
      go_ret
      exact⟨rfl,SAME.out _ T1.out M1.out⟩
    · have z1:¬ (lk:Int)<1:=by omega
      have z2:(64:Int)<(lk:Int):=by omega
      go_enter Tryz.func43,Tryz.ntmps43
      go_wp2
      go_ret
      exact⟨rfl,SAME.out _ T1.out M1.out⟩
  rw [if_neg hk]
  have HK:=lh hk
  by_cases hv:4096<vs.length
  · rw [if_pos hv,if_neg (by omega)]
    obtain⟨lk,hlk⟩:∃ lk,ks.length=lk:=⟨_,rfl⟩
    have z1:¬ (lk:Int)<1:=by omega
    have z2:¬ (64:Int)<(lk:Int):=by omega
    have z3:(4096:Int)<(vs.length:Int):=by omega
    rw [hlk]
    clear hk
    go_enter Tryz.func43,Tryz.ntmps43
    go_wp2
    go_ret
    exact⟨rfl,SAME.out _ T1.out M1.out⟩
  rw [if_neg hv,if_pos rfl]
  have PL:=lh (vk T1.out (by rw [hf];exact hr) HQ.out (by omega))
  rw [hf] at PL
  obtain⟨lk,hlk⟩:∃ lk,ks.length=lk:=⟨_,rfl⟩
  obtain⟨lu,hlu⟩:∃ lu,vs.length=lu:=⟨_,rfl⟩
  have HLK:=lh (show ks.length≤64∧vs.length≤4096 by omega)
  have z1:¬ (lk:Int)<1:=by omega
  have z2:¬ (64:Int)<(lk:Int):=by omega
  have z3:¬ (4096:Int)<(lu:Int):=by omega
  rw [hlk] at PL HQ
  rw [hlu] at HU
  rw [hlk,hlu]
  have INS:=lh (JZ hr ks vs)
  have ILE:=lh (DY hr ks)
  obtain⟨i,hi⟩:∃ i,dZ F ks=i:=⟨_,rfl⟩
  obtain⟨B,hB⟩:∃ B,(iy F ks).isSome=B:=⟨_,rfl⟩
  have hN:kU F ks=if B=true then 1 else 0:=by unfold kU;rw [hB]
  have HRIS:=lh (uH hr ks vs)
  rw [hi,hB] at PL
  rw [hi,hN] at INS ILE
  clear hk hv hlk hlu hi hB hN HK
  have HRR:=lh (And.intro hr (And.intro hf (And.intro hw ho)))
  clear SAME
  go_enter Tryz.func43,Tryz.ntmps43
  go_wp2_with fail
  refine PL.out.mono ?_
  rintro e w2 ⟨rfl,q2⟩
  have T2:=lh (T1.out.keep0 (q2.mods ai))
  have M2:=lh (M1.out.then0 (q2.mods ai))
  have HQ2:=lh (HQ.out.keep (q2.mods ai) (fun _ _ x=>x))
  have HU2:=lh (HU.out.keep (q2.mods ai) (fun _ _ x=>x))
  clear q2 PL T1 M1 c2 f2 HQ HU z1 z2 z3
  have CP:=lh (rO HQ2.out (by have:=HLK.out;omega))
  go_wp2_with fail
  refine CP.out.mono ?_
  rintro e w3 ⟨k',rfl,o3,m3,f3⟩
  have CP2:=lh (rO (HU2.out.keep m3 (fun _ _ x=>x)) (by have:=HLK.out;omega))
  have T3:=lh (T2.out.keep0 m3)
  have M3:=lh (M2.out.then0 m3)
  have O3:=lh (And.intro o3 (f3.of M2.out.size))
  obtain⟨ak,ck,rfl,_⟩:=o3.rd.form
  clear CP HQ2 HU2 T2 M2 o3 m3 f3
  go_wp2_with fail
  refine CP2.out.mono ?_
  rintro e w4 ⟨v',rfl,o4,m4,f4⟩
  have T4:=lh (T3.out.keep0 m4)
  have M4:=lh (M3.out.then0 m4)
  have O34:=lh (And.intro (O3.out.1.keep m4 (fun _ _ x=>x)) (And.intro O3.out.2 (And.intro o4 (f4.of M3.out.size))))
  obtain⟨av,cv,rfl,_⟩:=o4.rd.form
  clear CP2 T3 M3 O3 o4 m4 f4
  have ma:=(ae.refl ai w4).alloc (.cells #[.slice ak ks.length ck,.slice av vs.length cv] 152)
  have he:=aU w4 (.cells #[.slice ak ks.length ck,.slice av vs.length cv] 152)
  obtain⟨w5,hw5⟩:∃ w5,w5=w4.alloc (.cells #[.slice ak ks.length ck,.slice av vs.length cv] 152):=⟨_,rfl⟩
  rw [← hw5] at ma he
  have T5:=lh (T4.out.keep0 ma)
  have M5:=lh (M4.out.then0 ma)
  have O5:=lh (And.intro (O34.out.1.keep ma (fun _ _ x=>x)) (And.intro O34.out.2.1 (And.intro (O34.out.2.2.1.keep ma (fun _ _ x=>x)) O34.out.2.2.2)))
  have HE:=lh he
  have hx1:∀ y∈bZ L,y.oneCell'=true:=fun y hy=>by
    obtain⟨e,he,hy⟩:=List.mem_flatMap.1 hy
    have:=uK T5.out.pr e he
    simp at hy
    rcases hy with rfl | rfl
    · exact this.1
    · exact this.2
  have HX:=lh hx1
  have hiL:i≤L.length:=by have h2:=HLF.out;have:=ILE.out;split at this <;> omega
  clear T4 M4 O34 he ma hx1
  go_upto_region 9 with fail
  rw [← hw5]
  clear hw5
  refine gy (d := .region 9 (aJ 9 Tryz.f43) true) (by kernel_rfl) ?_
  refine RW.wp (Jy T5.out.hg T5.out.pr.row HX.out HE.out rfl rfl hiL (by omega) ?_)
  intros
  rename_i v8 w6 o8 m8 f8
  have T6:=lh (T5.out.keep0 m8)
  have M6:=lh (M5.out.then0 m8)
  have K6:=lh (show ∀ k,((Value.slice ak ks.length ck).ownBlock=some k∨(Value.slice av vs.length cv).ownBlock=some k)→¬ dC v8 k∧w.heap.size≤k∧k<w6.heap.size from fun k hk=>by
    have hlt:k<w5.heap.size∧w.heap.size≤k:=hk.elim (fun x=>⟨O5.out.1.lt k x,O5.out.2.1 k x⟩) (fun x=>⟨O5.out.2.2.1.lt k x,O5.out.2.2.2 k x⟩)
    exact⟨fun x=>by have:=f8 k x;omega,hlt.2,Nat.lt_of_lt_of_le hlt.1 m8.size⟩)
  have O6:=lh (And.intro (O5.out.1.keep m8 (fun _ _ x=>x)).rd (And.intro (O5.out.2.2.1.keep m8 (fun _ _ x=>x)).rd (And.intro o8 (f8.of M5.out.size))))
  have hvg:¬ dC v8 g:=fun x=>by have:=O6.out.2.2.2 g x;have:=SLT.out g (.inl rfl);omega
  clear m8 f8 T5 M5 O5 HE o8
  have FIN:=lh (fun (j:Nat) (hj:j≤L.length) (hfj:(insL F ks vs)=F.take i ++ (ks,vs) :: F.drop j) (v9:Value) (w7:World) (o9:aO w7 152 2 v9 (i+1+(L.length - j)) (((bZ L).take (i*2) ++ [.slice ak ks.length ck,.slice av vs.length cv]) ++ (bZ L).drop (j*2))) (m9:ae (dC v8) w6 w7) (f9:v9.ownBlock=v8.ownBlock∨aF w6 v9)=>show uJ w (w7.setCell ⟨g,0,none⟩ v9) g (kW g wv) (oV (.slice la L.length lc) L H) (insL F ks vs) Ws (n+1) from by
    obtain⟨r3,r4,_,f8⟩:=O6.out
    obtain⟨hr,hf,hw,ho⟩:=HRR.out
    have t7:=T6.out.keep m9 (fun k hk x=>by have:=f8 k x;have:=SLT.out k hk;omega) (fun k hk x=>by have:=f8 k x;have:=DLT.out k hk;omega)
    rw [← Int.natCast_succ] at t7
    have hlen:(L.take i ++ (⟨.slice ak ks.length ck,.slice av vs.length cv,ks,vs⟩:EV) :: L.drop j).length=i+1+(L.length - j):=by
      rw [List.length_append,List.length_take,List.length_cons,List.length_drop];omega
    refine AC (L':=L.take i ++ (⟨.slice ak ks.length ck,.slice av vs.length cv,ks,vs⟩:EV) :: L.drop j) t7 (M6.out.trans m9 (fun _ _ x=>x) (fun k hk x=>by have:=f8 k x;omega)) SLT.out ⟨?_,fun x hx=>?_⟩ (fun k hk=>?_) o9.lt (fun k hk=>?_) HRIS.out ?_ hw ho
    · rw [hlen,iw,show bZ ((⟨.slice ak ks.length ck,.slice av vs.length cv,ks,vs⟩:EV) :: L.drop j)=[.slice ak ks.length ck,.slice av vs.length cv] ++ bZ (L.drop j) from rfl,lN,lK,← List.append_assoc]
      exact o9.rd
    · rcases List.mem_append.1 hx with hx | hx
      · exact t7.pr.own x (List.mem_of_mem_take hx)
      · rcases List.mem_cons.1 hx with rfl | hx
        · exact⟨r3.keep m9 (fun k hk=>(K6.out k (.inl hk)).1),r4.keep m9 (fun k hk=>(K6.out k (.inr hk)).1)⟩
        · exact t7.pr.own x (List.mem_of_mem_drop hx)
    · rcases f9 with f9 | f9
      · rw [f9] at hk;exact f8 k hk
      · exact Nat.le_trans M6.out.size (f9 k hk)
    · rcases Eh hk with hk | hk | hk
      · exact .inl (.inl (.inr (tX hk (fun e he=>List.mem_of_mem_take he))))
      · obtain⟨_,a,b⟩:=K6.out k hk
        exact .inr ⟨a,Nat.lt_of_lt_of_le b m9.size⟩
      · exact .inl (.inl (.inr (tX hk (fun e he=>List.mem_of_mem_drop he))))
    · rw [hfj,← hf,List.map_append,List.map_cons,List.map_take,List.map_drop];rfl)
  have HG6:=lh T6.out.hg
  have HR6:=lh T6.out.pr.row
  have HO6:=lh O6.out.2.2.1
  have hnL:L.length≤1000000:=by omega
  cases B with
  | true =>
    have hj:i+1≤L.length:=by have:=ILE.out;rw [if_pos rfl] at this;have:=HLF.out;omega
    have FI:=lh (FIN.out (i+1) hj (by have:=INS.out;rwa [if_pos rfl] at this))
    clear FIN ILE INS K6 O6 T6 M6
    go_upto_region 12 with fail
    refine gy (d := .region 12 (aJ 12 Tryz.f43) false) (by kernel_rfl) ?_
    refine RW.wp (AQ (j:=i+1) HG6.out HR6.out HX.out HO6.out hvg hj hnL (by omega) ?_)
    intros
    rename_i v9 w7 w8 o9 m9 f9 hw8
    have FF:=lh (FI.out v9 w7 o9 m9 f9)
    rw [← hw8] at FF
    clear o9 m9 f9 hw8 FI
    go_wp2
    go_ret
    exact⟨rfl,FF.out⟩
  | false =>
    have FI:=lh (FIN.out i hiL (by have:=INS.out;rwa [if_neg (by simp)] at this))
    clear FIN ILE INS K6 O6 T6 M6
    go_upto_region 12 with fail
    refine gy (d := .region 12 (aJ 12 Tryz.f43) false) (by kernel_rfl) ?_
    refine RW.wp (AQ (j:=i) HG6.out HR6.out HX.out HO6.out hvg hiL hnL (by omega) ?_)
    intros
    rename_i v9 w7 w8 o9 m9 f9 hw8
    have FF:=lh (FI.out v9 w7 o9 m9 f9)
    rw [← hw8] at FF
    clear o9 m9 f9 hw8 FI
    go_wp2
    go_ret
    exact⟨rfl,FF.out⟩
open Go.Gl Go.RowKit
theorem CE {w:World}{v:Value}{L:List EV} (h:iU w v L):∀ y∈bZ L,y.oneCell'=true:=fun y hy=>by
 obtain⟨e,he,hy⟩:=List.mem_flatMap.1 hy
 have:=uK h e he
 simp at hy
 rcases hy with rfl | rfl
 ·exact this.1
 ·exact this.2
section
variable {w:World}{g n:Nat}{F:List aN}{Ws:List (List aN)}{S D:Nat→Prop}
theorem ET {q:Value}{ks:List UInt8} (h:kT w g F Ws n S D) (hq:Rd w q ks) (hqs:Off S q ks) (hn:n≤1000000000000) (hF:F.length≤100000) :
    Calls Tryz.prog 134 #[.pointer (some ⟨g,0,none⟩),q] w fun e w'=>e = .returned (.bool (iy F ks).isSome)∧uJ w w' g S D (gJ F ks) Ws (n+1):=by
  obtain⟨lv,wv,L,H,rs,hr,hf,hw,ho,rfl,rfl⟩:=h
  have HLF:=lh (wG hf)
  have hF':L.length≤100000:=by have:=HLF.out;omega
  clear hF
  obtain⟨la,lc,rfl,_⟩:=rs.pr.row.form
  have SLT:=lh rs.lt
  have DLT:=lh rs.dlt
  obtain⟨t1,m1⟩:=rs.tick ((n:Int)+1)
  have M1:=lh (m1.mono (T:=kW g wv) (fun k _ e => .inl e))
  have T1:=lh t1
  have HQ:=lh (hqs.keep hq M1.out)
  have c2:=rs.cells.2.2.1
  have f2:=rs.cells.2.2.2 2
  have SAME:=lh (fun W (r:lw W g (.slice la L.length lc) wv L H ((n:Int)+1)) (m:ae (kW g wv) w W)=>show uJ w W g (kW g wv) (oV (.slice la L.length lc) L H) F Ws (n+1) from⟨_,_,⟨_,wv,L,H,by rw [Int.natCast_succ];exact r,hr,hf,hw,ho,rfl,rfl⟩,m,fun _ => .inl,fun _ => .inl⟩)
  have PL:=lh (vk T1.out (by rw [hf];exact hr) HQ.out (by omega))
  rw [hf] at PL
  have DEL:=lh (Jl hr ks)
  have ILE:=lh (DY hr ks)
  have DR:=lh (uN hr ks)
  have HRR:=lh (And.intro hr (And.intro hf (And.intro hw ho)))
  obtain⟨aq,cq,rfl,_⟩:=hq.form
  obtain⟨i,hi⟩:∃ i,dZ F ks=i:=⟨_,rfl⟩
  obtain⟨B,hB⟩:∃ B,(iy F ks).isSome=B:=⟨_,rfl⟩
  have hN:kU F ks=if B=true then 1 else 0:=by unfold kU;rw [hB]
  rw [hi,hB] at PL
  rw [hi,hN] at DEL ILE
  rw [hB]
  generalize ks.length=lk at *
  clear rs t1 m1 hqs hq hi hB hN
  go_enter Tryz.func134,Tryz.ntmps134
  go_wp2_with fail
  refine PL.out.mono ?_
  rintro e w2 ⟨rfl,q2⟩
  have T2:=lh (T1.out.keep0 (q2.mods ai))
  have M2:=lh (M1.out.then0 (q2.mods ai))
  clear q2 PL T1 M1 c2 f2 HQ
  cases B with
  | true =>
    have hj:i+1≤L.length:=by have:=ILE.out;rw [if_pos rfl] at this;have:=HLF.out;omega
    have hD:=DEL.out
    rw [if_pos rfl] at hD
    have HD:=lh hD
    have HG:=lh T2.out.hg
    have HR:=lh T2.out.pr.row
    have HX:=lh (CE T2.out.pr)
    clear hD DEL SAME ILE
    go_upto_region 4 with fail
    refine gy (d := .region 4 (aJ 4 Tryz.f134) true) (by kernel_rfl) ?_
    refine RW.wp (Jo HG.out HR.out HX.out hj (by omega) ?_)
    intros
    rename_i v8 w3 w4 o8 m8 f8 hw4
    have FF:=lh (show uJ w (w3.setCell ⟨g,0,none⟩ v8) g (kW g wv) (oV (.slice la L.length lc) L H) (gJ F ks) Ws (n+1) from by
      obtain⟨hr,hf,hw,ho⟩:=HRR.out
      have t7:=T2.out.keep0 m8
      rw [← Int.natCast_succ] at t7
      have hlen:(L.take i ++ L.drop (i+1)).length=i+(L.length - (i+1)):=by
        rw [List.length_append,List.length_take,List.length_drop];omega
      have hsub:∀ e∈L.take i ++ L.drop (i+1),e∈L:=fun e he=>by
        rcases List.mem_append.1 he with he | he
        · exact List.mem_of_mem_take he
        · exact List.mem_of_mem_drop he
      refine AC (L':=L.take i ++ L.drop (i+1)) t7 (M2.out.then0 m8) SLT.out ⟨?_,fun x hx=>t7.pr.own x (hsub x hx)⟩ (f8.of M2.out.size) o8.lt (fun k hk => .inl (.inl (.inr (tX hk hsub)))) DR.out ?_ hw ho
      · rw [hlen,iw,lN,lK]
        exact o8.rd
      · rw [HD.out,← hf,List.map_append,List.map_take,List.map_drop])
    rw [← hw4] at FF
    clear o8 m8 f8 hw4 HG HR HX T2 M2 HD
    go_wp2
    go_ret
    exact⟨rfl,FF.out⟩
  | false =>
    have hD:=DEL.out
    rw [if_neg (by simp),Nat.add_zero,List.take_append_drop] at hD
    have HD:=lh hD
    clear hD DEL ILE
    go_wp2
    go_ret
    exact⟨rfl,by rw [HD.out];exact SAME.out _ T2.out M2.out⟩
end
open Go.Gl Go.RowKit
open Go.Gl Go.RowKit
end Go.Proofs.YtglkmaalpammcaaGreat
namespace Go.Gl
open Go.RowKit
def lU (base:Nat) (V:Nat→Prop) (J:Nat→(Nat→Prop)→World→Prop):Prop :=
 ∀ i U U' A B,J i U A→ae (fun k=>U k∧(V k∨base≤k)) A B→(∀ k,U k→k<A.heap.size)→(∀ k,U' k→U k∨A.heap.size≤k)→J i U' B
def Ap (P:Program) (l:Nat) (args:Array Value) (W:World) (R:Ending→World→Prop):Prop:=YieldAt Fence.wide 3 P l args W R
def gV (args:Array Value) (k:Nat):Prop:=∃ v,v∈args∧v.ownBlock=some k
def Iter (P:Program) (gf:FuncId) (lb:Array Value) (n:Nat) (A:Nat→(Nat→Prop)→Array Value→World→Prop) (U0 V:Nat→Prop) (w:World):Prop :=
 ∀ (l:Nat) (J Jx:Nat→(Nat→Prop)→World→Prop) (W:World),ae (fun k=>¬ U0 k) w W→lU W.heap.size V J→lU W.heap.size V Jx →
  (∀ i U args W1,i<n→J i U W1→A i U args W1→(∀ k,U k→k<W1.heap.size)→W.heap.size≤W1.heap.size→J i (fun k=>U k∨gV args k) W1→(∀ k,gV args k→k<W1.heap.size)→Ap P l args W1 fun e W' =>
   (e = .returned (.bool true)∧J (i+1) U W'∧ae (fun k=>¬ U k) W1 W')∨(e = .returned (.bool false)∧Jx (i+1) U W'∧ae (fun k=>¬ U k) W1 W')) →
  J 0 U0 W →
  Calls P gf (#[.func (.yield l) #[] #[]] ++ lb) W fun e W'=>(∃ v,e = .returned v)∧((∃ U,J n U W'∧∀ k,U k→k<W'.heap.size)∨(∃ i U,i<n∧Jx (i+1) U W'∧∀ k,U k→k<W'.heap.size))
theorem dJ (W:World) (l:Nat) (o:Obj):ae (fun k=>k=l) W (W.putObj l o) :=
 ⟨rfl,rfl,rfl,by simp,fun k _ hk=>World.putObj_heap_other hk⟩
def xY (I:Nat→(Nat→Prop)→World→Prop) (Ix:Code→Nat→(Nat→Prop)→World→Prop) (U:Nat→Prop) (i:Nat) (W:World):Exit→Act→World→Prop
 | .normal,_,W'=>ae (fun k=>¬ U k) W W'∧I (i+1) U W'
 | .ret,_,W'=>ae (fun k=>¬ U k) W W'∧Ix .ret (i+1) U W'
 | .exit id,_,W'=>ae (fun k=>¬ U k) W W'∧Ix (.exit id) (i+1) U W'
 | .goto t,_,W'=>ae (fun k=>¬ U k) W W'∧Ix (.goto t) (i+1) U W'
 | .panic _,_,_=>False
 | .outgrown,_,_=>False
def qI (A:Nat→(Nat→Prop)→Array Value→World→Prop):Prop :=
 ∀ i U args W l o,A i U args W→W.heap[l]?=some o→o.isCells=false→A i (fun k=>U k∨k=l) args W
section
variable {P:Program}{r:Option Nat}
def iT:List Tmp→List Value→Array Value→Array Value
 | p :: ps,v :: vs,t=>iT ps vs (t.setIfInBounds p v)
 | _,_,t=>t
theorem Af (ps:List Tmp) (vs:List Value):∀ t:Array Value,(ps.zip vs).foldl (fun t (p,v)=>t.setIfInBounds p v) t=iT ps vs t:=by
  induction ps generalizing vs with
  | nil=>intro t;cases vs <;> rfl
  | cons p ps ih =>
    intro t
    cases vs with
    | nil=>rfl
    | cons v vs=>exact ih vs _
theorem uD {rec:LoopState→Option Code→Loop}{l i:Nat}{fn:FuncId}{tm:Array Value}{ps:Array Tmp}{assign body:Code}{args:Array Value}{W:World}{base:Nat}{V U:Nat→Prop}
    {I:Nat→(Nat→Prop)→World→Prop}{Ix:Code→Nat→(Nat→Prop)→World→Prop}{df:Nat}
    (hrec:rec=fun st pe=>{ state:=st,pending:=pe,fn,tmps:=tm,params:=ps,assign,body,defers:=df }) (hI:lU base V I) (hIx:∀ c,lU base V (Ix c)) (hl:W.heap[l]?=some (.loop (rec .ready none))) (hps:args.size=ps.size) (hlb:base≤l) (hUl:U l) (hUs:∀ k,U k→k<W.heap.size)
    (h:assign.wpIn (WF (some l)) 3 P (Exit.then (fun a1 W1=>ae (fun k=>¬ U k) W W1∧∀ W2,ae (fun k=>k=l) W1 W2→(∃ r,W2.heap[l]?=some (.loop r))→body.wpIn (WF (some l)) 3 P (xY I Ix U i W2) a1 W2) (fun _ _ _=>False))
      { tmps:=iT ps.toList args.toList tm,defers:=[] } W)
    (R:Ending→World→Prop)
    (hn:∀ W',I (i+1) U W'→ae (fun k=>¬ U k∨k=l) W W'→W'.heap[l]?=some (.loop (rec .ready none))→R (.returned (.bool true)) W')
    (hx:∀ c W',Ix c (i+1) U W'→ae (fun k=>¬ U k∨k=l) W W'→W'.heap[l]?=some (.loop (rec .done (some c)))→R (.returned (.bool false)) W') :
    Ap P l args W R:=by
  have hy:=run_yield (P:=P) (args:=args) hl (by rw [hrec];exact hps)
  rw [hrec] at hy
  have ep:(ps.zip args).foldl (fun t (p,v)=>t.setIfInBounds p v) tm=iT ps.toList args.toList tm:=by rw [← Af,← Array.foldl_toList,Array.toList_zip]
  rw [← ep] at h
  refine⟨fn,_,assign,body,hy,RoundIn.room (r:=none) (r':=none) (roundIn_of_wpIn (F:=WF none) (n:=3) trivial (wpIn_mono h ?_))⟩
  rintro e a1 W1 he
  cases e with
  | normal =>
    obtain⟨m1,hb⟩:=he
    have hl1:W1.heap[l]?=some (.loop (rec .ready none)):=(m1.block l (lt_of_heap hl) (fun hk=>hk hUl)).trans hl
    have hlt1:=lt_of_heap hl1
    refine⟨_,run_beginRound hl1 (by rw [hrec]),?_⟩
    have hl2:(W1.putObj l (.loop { rec .ready none with state := .busy })).heap[l]?=some (.loop { rec .ready none with state := .busy }):=World.putObj_heap_same hlt1
    refine wpIn_mono (hb _ (dJ W1 l _) ⟨_,hl2⟩) ?_
    have fin:∀ (jump:Option Code) (Wc:World),ae (fun k=>¬ U k) (W1.putObj l (.loop { rec .ready none with state := .busy })) Wc →
        (Instr.endRound l jump).run P Wc = .ok (.bool jump.isNone) (Wc.putObj l (.loop (rec (if jump.isNone then .ready else .done) jump)))∧(Wc.putObj l (.loop (rec (if jump.isNone then .ready else .done) jump))).heap[l]?=some (.loop (rec (if jump.isNone then .ready else .done) jump)) ∧
        ae (fun k=>¬ U k∨k=l) W (Wc.putObj l (.loop (rec (if jump.isNone then .ready else .done) jump)))∧ae (fun k=>U k∧(V k∨base≤k)) Wc (Wc.putObj l (.loop (rec (if jump.isNone then .ready else .done) jump)))∧(∀ k,U k→k<Wc.heap.size):=fun jump Wc m3=>by
      have hl3:=(m3.block l (by simpa using hlt1) (fun hk=>hk hUl)).trans hl2
      have hr:=run_endRound (P:=P) jump hl3
      have hm:=((m1.trans (dJ W1 l _) (U:=fun k=>¬ U k∨k=l) (fun _ _ x => .inl x) (fun _ _ x => .inr x)).trans m3 (U:=fun k=>¬ U k∨k=l) (fun _ _ x=>x) (fun _ _ x => .inl x))
      refine⟨?_,World.putObj_heap_same (lt_of_heap hl3),hm.trans (dJ Wc l _) (fun _ _ x=>x) (fun _ _ x => .inr x),(dJ Wc l _).mono (fun k _ hk=>by subst hk;exact⟨hUl,.inr hlb⟩),fun k hk=>Nat.lt_of_lt_of_le (hUs k hk) hm.size⟩
      rw [hrec] at hr ⊢
      exact hr
    rintro e a3 Wc hp
    cases e with
    | normal =>
      obtain⟨m3,hi3⟩:=hp
      obtain⟨hr,k1,k2,k3,k4⟩:=fin none Wc m3
      exact⟨_,_,hr,hn _ (hI _ _ _ _ _ hi3 k3 k4 (fun k hk => .inl hk)) k2 k1⟩
    | ret =>
      obtain⟨m3,hi3⟩:=hp
      obtain⟨hr,k1,k2,k3,k4⟩:=fin (some .ret) Wc m3
      exact⟨_,_,hr,hx .ret _ (hIx _ _ _ _ _ _ hi3 k3 k4 (fun k hk => .inl hk)) k2 k1⟩
    | exit id =>
      obtain⟨m3,hi3⟩:=hp
      obtain⟨hr,k1,k2,k3,k4⟩:=fin (some (.exit id)) Wc m3
      exact⟨_,_,hr,hx (.exit id) _ (hIx _ _ _ _ _ _ hi3 k3 k4 (fun k hk => .inl hk)) k2 k1⟩
    | goto t =>
      obtain⟨m3,hi3⟩:=hp
      obtain⟨hr,k1,k2,k3,k4⟩:=fin (some (.goto t)) Wc m3
      exact⟨_,_,hr,hx (.goto t) _ (hIx _ _ _ _ _ _ hi3 k3 k4 (fun k hk => .inl hk)) k2 k1⟩
    | panic ch=>exact hp.elim
    | outgrown=>exact hp.elim
  | _=>exact he.elim
theorem qC {g:Operand}{ps:Array Tmp}{assign body:Code}{Q:Exit→Act→World→Prop}{a:Act}{w:World}{gf:FuncId}{lb:Array Value} (hg:a.eval g = .func (.func gf) #[] lb) (eg:∀ args w,(callFunc gf args).run P w = .ok (.enter gf args) w)
  {n:Nat}{A:Nat→(Nat→Prop)→Array Value→World→Prop}{U0 V:Nat→Prop}{w0:World} (it:Iter P gf lb n A U0 V w0) (h0:ae (fun k=>¬ U0 k) w0 w) (hU:∀ k,U0 k→k<w.heap.size) (hA:qI A) (hps:∀ i U args W,A i U args W→args.size=ps.size)
  (I:Nat→(Nat→Prop)→World→Prop) (Ix:Code→Nat→(Nat→Prop)→World→Prop) (hI:lU w.heap.size V I) (hIx:∀ c,lU w.heap.size V (Ix c)) (hs:I 0 U0 w)
  (hround:∀ l i U args W,w.heap.size≤l→U l→i<n→I i U W→A i U args W→(∀ k,U k→k<W.heap.size)→w.heap.size≤W.heap.size→(∃ r,W.heap[l]?=some (.loop r))→I i (fun k=>U k∨gV args k) W→(∀ k,gV args k→k<W.heap.size) →
   assign.wpIn (WF (some l)) 3 P (Exit.then (fun a1 W1=>ae (fun k=>¬ U k) W W1∧∀ W2,ae (fun k=>k=l) W1 W2→(∃ r,W2.heap[l]?=some (.loop r))→body.wpIn (WF (some l)) 3 P (xY I Ix U i W2) a1 W2) (fun _ _ _=>False))
    { tmps:=iT ps.toList args.toList a.tmps,defers:=[] } W)
  (hdone:∀ D U W,w.heap.size≤D→U D→(∀ k,U k→k<W.heap.size)→I n U W→W.heap[D]?=some (.deferred (some []))→Q .normal { a with defers:={ target := .collected D,args:=#[] } :: a.defers } W)
  (hstop:∀ D c i U W,w.heap.size≤D→U D→(∀ k,U k→k<W.heap.size)→i<n→Ix c (i+1) U W→W.heap[D]?=some (.deferred (some []))→c.wpIn (WF none) 3 P Q { a with defers:={ target := .collected D,args:=#[] } :: a.defers } W) :
  (Code.rangeFunc g ps assign body).wpIn (WF none) 3 P Q a w:=by
 refine wpIn_rangeFunc ?_
 intro fn hfn
 obtain⟨rec,hrec⟩:∃ rec:LoopState→Option Code→Loop,rec=fun st pe=>{ state:=st,pending:=pe,fn,tmps:=a.tmps,params:=ps,assign,body,defers:=w.heap.size }:=⟨_,rfl⟩
 obtain⟨W1,hW1⟩:∃ W1,(w.alloc (.deferred (some []))).alloc (.loop (rec .ready none))=W1:=⟨_,rfl⟩
 have hm1:ae ai w W1:=by rw [← hW1];exact ((ae.refl ai w).alloc _).alloc _
 have hsz:W1.heap.size=w.heap.size+2:=by rw [← hW1];simp
 have hL1:W1.heap[w.heap.size+1]?=some (.loop (rec .ready none)):=by
  rw [← hW1];have:=World.alloc_heap_new (w.alloc (.deferred (some []))) (.loop (rec .ready none));rwa [World.size_alloc] at this
 have hK1:W1.heap[w.heap.size]?=some (.deferred (some [])):=by
  rw [← hW1];exact dA (aU w _) _
 obtain⟨l,hl⟩:∃ l,l=w.heap.size+1:=⟨_,rfl⟩
 obtain⟨D,hD⟩:∃ D,D=w.heap.size:=⟨_,rfl⟩
 rw [← hl] at hL1
 rw [← hD] at hK1
 have hw1:ae (fun k=>¬ U0 k) w0 W1:=h0.trans hm1 (fun _ _ x=>x) (fun _ _ x=>x.elim)
 have hUD:∀ (U:Nat→Prop) k,(U k∨k=l)∨k=D↔U k∨k=l∨k=D:=fun U k=>by rw [or_assoc]
 refine⟨l,[{ target := .collected D,args:=#[] }],W1,{ target := .fn (.func gf) lb,args:=#[.func (.yield l) #[] #[]] },W1,gf,#[.func (.yield l) #[] #[]] ++ lb,W1,?_,?_,?_,?_,fun h=>by simp [Fence.wide] at h,?_⟩
 ·rw [← hW1,hrec,hl,hD];exact run_enterLoop_outer _ _ _ _ _
 ·simp only [resolve,hg]
  simp [go_sem]
 ·intro f' hf';trivial
 ·simp [invoke,go_sem,eg]
 ·refine lM.2 ((it l (fun i U W=>I i (fun k=>(U k∨k=l)∨k=D) W∧¬ U l∧¬ U D∧W.heap[l]?=some (.loop (rec .ready none))∧W.heap[D]?=some (.deferred (some [])))
   (fun i U W=>∃ c,Ix c i (fun k=>(U k∨k=l)∨k=D) W∧¬ U l∧¬ U D∧W.heap[l]?=some (.loop (rec .done (some c)))∧W.heap[D]?=some (.deferred (some [])))
   W1 hw1 ?_ ?_ ?_ ⟨hI _ _ _ _ _ hs (hm1.mono (fun _ _ x=>x.elim)) hU (fun k hk=>by rcases hk with (h | h) | h;exact .inl h;exact .inr (by omega);exact .inr (by omega)),fun h=>by have:=hU l h;omega,fun h=>by have:=hU D h;omega,hL1,hK1⟩).mono ?_)
  ·rintro i U U' X Y ⟨hi,h1,h2,h3,h4⟩ hm hus hsub
   have hlX:=lt_of_heap h3
   have hDX:=lt_of_heap h4
   refine⟨hI _ _ _ _ _ hi (hm.mono (fun k _ hk=>⟨.inl (.inl hk.1),hk.2.imp id (fun h=>by omega)⟩)) (fun k hk=>by rcases hk with (h | h) | h;exact hus k h;omega;omega) (fun k hk=>by
    rcases hk with (h | h) | h
    ·exact (hsub k h).imp (fun x => .inl (.inl x)) id
    ·exact .inl (.inl (.inr h))
    ·exact .inl (.inr h)),fun h=>by rcases hsub l h with h | h;exact h1 h;omega,fun h=>by rcases hsub D h with h | h;exact h2 h;omega,(hm.block l hlX (fun hk=>h1 hk.1)).trans h3,(hm.block D hDX (fun hk=>h2 hk.1)).trans h4⟩
  ·rintro i U U' X Y ⟨c,hi,h1,h2,h3,h4⟩ hm hus hsub
   have hlX:=lt_of_heap h3
   have hDX:=lt_of_heap h4
   refine⟨c,hIx c _ _ _ _ _ hi (hm.mono (fun k _ hk=>⟨.inl (.inl hk.1),hk.2.imp id (fun h=>by omega)⟩)) (fun k hk=>by rcases hk with (h | h) | h;exact hus k h;omega;omega) (fun k hk=>by
    rcases hk with (h | h) | h
    ·exact (hsub k h).imp (fun x => .inl (.inl x)) id
    ·exact .inl (.inl (.inr h))
    ·exact .inl (.inr h)),fun h=>by rcases hsub l h with h | h;exact h1 h;omega,fun h=>by rcases hsub D h with h | h;exact h2 h;omega,(hm.block l hlX (fun hk=>h1 hk.1)).trans h3,(hm.block D hDX (fun hk=>h2 hk.1)).trans h4⟩
  ·rintro i U args W hin ⟨hi,h1,h2,h3,h4⟩ hargs hus hge ⟨hi',_,_,_,_⟩ hab
   have hlW:=lt_of_heap h3
   have hDW:=lt_of_heap h4
   have hA2:=hA _ _ _ _ D _ (hA _ _ _ _ l _ hargs h3 rfl) h4 rfl
   have hus2:∀ k,((U k∨k=l)∨k=D)→k<W.heap.size:=fun k hk=>by rcases hk with (h | h) | h;exact hus k h;omega;omega
   refine uD (base:=w.heap.size) (V:=V) (U:=fun k=>(U k∨k=l)∨k=D) (i:=i) hrec hI hIx h3 (hps _ _ _ _ hargs) (by omega) (.inl (.inr rfl)) hus2 (hround l i _ args W (by omega) (.inl (.inr rfl)) hin hi hA2 hus2 (by omega) ⟨_,h3⟩
    (hI _ _ _ _ _ hi' (ae.refl _ _) (fun k hk=>by rcases hk with ((h | h) | h) | h;exact hus k h;exact hab k h;omega;omega) (fun k hk=>by rcases hk with ((h | h) | h) | h;exact .inl (.inl (.inl (.inl h)));exact .inl (.inl (.inr h));exact .inl (.inr h);exact .inl (.inl (.inl (.inr h))))) hab) _ ?_ ?_
   ·intro W' hi' hm' hl'
    have hD':W'.heap[D]?=some (.deferred (some [])):=(hm'.block D hDW (fun hk=>by rcases hk with hk | hk;exact hk (.inr rfl);omega)).trans h4
    exact .inl ⟨rfl,⟨hi',h1,h2,hl',hD'⟩,hm'.mono (fun k _ hk hu=>by rcases hk with hk | hk;exact hk (.inl (.inl hu));exact h1 (hk▸hu))⟩
   ·intro c W' hi' hm' hl'
    have hD':W'.heap[D]?=some (.deferred (some [])):=(hm'.block D hDW (fun hk=>by rcases hk with hk | hk;exact hk (.inr rfl);omega)).trans h4
    exact .inr ⟨rfl,⟨c,hi',h1,h2,hl',hD'⟩,hm'.mono (fun k _ hk hu=>by rcases hk with hk | hk;exact hk (.inl (.inl hu));exact h1 (hk▸hu))⟩
  ·rintro e W2 ⟨⟨v,rfl⟩,(⟨U,⟨hi,h1,h2,h3,h4⟩,hus⟩ | ⟨i,U,hin,⟨c,hi,h1,h2,h3,h4⟩,hus⟩)⟩
   ·refine⟨none,_,by have:=run_endLoop (P:=P) h3 (by rw [hrec];simp);rw [hrec] at this;exact this,?_⟩
    have hlW:=lt_of_heap h3
    have hDW:=lt_of_heap h4
    exact hdone D (fun k=>(U k∨k=l)∨k=D) _ (by omega) (.inr rfl) (fun k hk=>by rw [World.putObj_size];rcases hk with (h | h) | h;exact hus k h;omega;omega) (hI _ _ _ _ _ hi ((dJ W2 l _).mono (fun k _ hk=>by subst hk;exact⟨.inl (.inr rfl),.inr (by omega)⟩)) (fun k hk=>by rcases hk with (h | h) | h;exact hus k h;omega;omega) (fun k hk => .inl hk)) ((World.putObj_heap_other (by omega)).trans h4)
   ·refine⟨some c,_,by have:=run_endLoop (P:=P) h3 (by rw [hrec];simp);rw [hrec] at this;exact this,?_⟩
    have hlW:=lt_of_heap h3
    have hDW:=lt_of_heap h4
    exact hstop D c i (fun k=>(U k∨k=l)∨k=D) _ (by omega) (.inr rfl) (fun k hk=>by rw [World.putObj_size];rcases hk with (h | h) | h;exact hus k h;omega;omega) hin (hIx c _ _ _ _ _ hi ((dJ W2 l _).mono (fun k _ hk=>by subst hk;exact⟨.inl (.inr rfl),.inr (by omega)⟩)) (fun k hk=>by rcases hk with (h | h) | h;exact hus k h;omega;omega) (fun k hk => .inl hk)) ((World.putObj_heap_other (by omega)).trans h4)
section
variable {ops:Array Oper}{Q:Exit→Act→World→Prop}{n:Nat}
theorem iP {id:Nat}{a:Act}{w:World}{draws:Bool}{Q1:Exit→Act→World→Prop} (m:Nat) (hB:(if draws then Fa ops.toList m else decide (m<ops.size) && qy ops && jL ops)=true) (h:RW P (ops.toList.take m).toArray draws Q1 a w)
    (hG:∀ a w,Q1 .normal a w→wpOpsIn (WF r) n P ops Q (List.range' m (ops.size - m)) a w):(Code.region id ops draws).wpIn (WF r) n P Q a w:=by
  have e:ops.toList.toArray=ops:=Array.toArray_toList
  have el:ops.toList.length=ops.size:=Array.length_toList
  cases draws with
  | true =>
    have:=uf (id:=id) (l:=ops.toList) (Q:=Q) (r:=r) (n:=n) m hB h (by rw [e,el];exact hG)
    rw [e] at this
    exact this
  | false =>
    have:=rW (id:=id) (l:=ops.toList) (Q:=Q) (r:=r) (n:=n) m (by rw [e,el];exact hB) h (by rw [e,el];exact hG)
    rw [e] at this
    exact this
theorem ku {i l:Nat}{rest:List Nat}{a:Act}{w:World}{vs:Array Value}{R:Ending→World→Prop} (d:Option Tmp) (h:pz ops i a d true) (hd:jL ops=true) (hrun:(execOp a.eval (kZ ops i)).run P w=(Instr.yield l vs).run P w) (hy:Ap P l vs w R)
  (hK:∀ e w',R e w'→∃ v,e = .returned v∧wpOpsIn (WF r) n P ops Q rest (a.put d v) w'):wpOpsIn (WF r) n P ops Q (i :: rest) a w:=by
 obtain⟨h1,rfl,h2⟩:=h
 rw [wpOpsIn_cons]
 unfold wpOpIn
 simp only [kL h1,h2,if_true]
 refine⟨fun _ _=>trivial,?_⟩
 obtain⟨fn,tmps,assign,body,hyr,hR⟩:=hy
 rw [Oper.semAt_eq _ _ _ (lq hd (kL h1)),hrun,hyr,Oper.uponIn_round]
 refine⟨fun h=>by simp [Fence.wide] at h,(RoundIn.room (r:=none) (r':=r) hR).mono (fun e w' he=>?_)⟩
 obtain⟨v,rfl,hv⟩:=hK e w' he
 exact hv
theorem fJ {i:Nat}{rest:List Nat}{a:Act}{w:World} (v:Value) (d:Option Tmp) (h:pz ops i a d true) (hd:jL ops=true) (hrun:(execOp a.eval (kZ ops i)).run P w = .ok (.value v) w)
  (hK:wpOpsIn (WF r) n P ops Q rest (a.put d v) w):wpOpsIn (WF r) n P ops Q (i :: rest) a w:=by
 obtain⟨h1,rfl,h2⟩:=h
 rw [wpOpsIn_cons]
 unfold wpOpIn
 simp only [kL h1,h2,if_true]
 refine⟨fun _ _=>trivial,?_⟩
 rw [Oper.semAt_eq _ _ _ (lq hd (kL h1)),hrun,Oper.uponIn_value]
 exact hK
theorem bT {n:Nat}{Q:Exit→Act→World→Prop}{a:Act}{w:World}{c d:Code} (e:c=d) (h:d.wpIn (WF r) n P Q a w):c.wpIn (WF r) n P Q a w:=e▸h
end
theorem zf {f:FuncId}{fn:Func}{args:Array Value}{w:World}{R:Ending→World→Prop} (c:Code) (hf:P.funcs[f]?=some fn) (hb:fn.body=some c)
  (h:c.wpIn (WF none) 3 P (bodyPost P fn R) { tmps:=args ++ Array.replicate (fn.ntmps - args.size) undef,defers:=[] } w):Calls P f args w R:=(lM (r:=none) (n:=3)).1 (callsIn_of_wp hf hb trivial h)
theorem kM {f:FuncId}{fn:Func}{args:Array Value}{w:World}{R:Ending→World→Prop} (c:Code) (hf:P.funcs[f]?=some fn) (hb:fn.body=some c)
  (h:c.wpIn (WF none) 3 P (bodyPostM (WF none) 3 P fn R) { tmps:=args ++ Array.replicate (fn.ntmps - args.size) undef,defers:=[] } w):Calls P f args w R:=(lM (r:=none) (n:=3)).1 (callsIn_of_wp_marks hf hb trivial h)
theorem iq {fn:Func}{R:Ending→World→Prop}{tmps:Array Value}{D:Nat}{W:World}{v:Value} (hK:W.heap[D]?=some (.deferred (some []))) (hr:(results fn tmps).run P (W.putObj D (.deferred none)) = .ok v (W.putObj D (.deferred none))) (h:R (.returned v) (W.putObj D (.deferred none))) :
  LeavesInM (WF none) 3 P fn tmps R [{ target := .collected D,args:=#[] }] .returning W:=by
 refine⟨by simp,.inl ⟨_,_,rfl,run_takeDeferred hK,?_⟩⟩
 exact⟨_,hr,h⟩
theorem bI {K:Act→World→Prop}{Q:Exit→Act→World→Prop}{a:Act}{w:World} (h:K a w):Exit.then K Q .normal a w:=h
theorem oJ {K:Act→World→Prop}{Q:Exit→Act→World→Prop}{a:Act}{w:World} (h:Q .ret a w):Exit.then K Q .ret a w:=h
theorem zS {K:Act→World→Prop}{Q:Exit→Act→World→Prop}{a:Act}{w:World}{i:Nat} (h:Q (.exit i) a w):Exit.then K Q (.exit i) a w:=h
theorem kS {id:Nat}{Q:Exit→Act→World→Prop}{a:Act}{w:World} (h:Q .ret a w):Exit.inBlock id Q .ret a w:=h
theorem vZ {id:Nat}{Q:Exit→Act→World→Prop}{a:Act}{w:World} (h:Q .normal a w):Exit.inBlock id Q (.exit id) a w:=by simp only [Exit.inBlock,if_true];exact h
theorem Gj {id j:Nat}{Q:Exit→Act→World→Prop}{a:Act}{w:World} (hne:¬ j=id) (h:Q (.exit j) a w):Exit.inBlock id Q (.exit j) a w:=by simp only [Exit.inBlock,hne,if_false];exact h
theorem iI {id:Nat}{Q:Exit→Act→World→Prop}{a:Act}{w:World} (h:Q .normal a w):Exit.inBlock id Q .normal a w:=h
end
end Go.Gl

/- Parts of the proof, one behind the other: Ord2, R60, KvC, KvJ, KvR, KvW, KvS, R6F, R6D, PgK5, PgK, Iter, PgI0, PgI, PgT, PgQ, PgB0, PgB, PgY, R6W, KvI0, IterC. -/
import Derived.Test.YtglkmaalpammcaaZA
import Derived.Test.YtglkmaalpammcaaZB
import Derived.Lib.BufferMore
import Derived.RangeFuncNested
import Derived.Shelf.Abstract
import Derived.Deep.DeepCutAuto
set_option maxHeartbeats 64000000
set_option linter.unusedSimpArgs false
set_option linter.unusedVariables false
set_option maxRecDepth 100000
namespace Go.Gl
open Go.RowKit
section
variable {P:Program}{ops:Array Oper}{Q Q':Exit→Act→World→Prop}{S:World→Prop}{T:List Nat}
theorem Ea {o:Oper}{a:Act}{w:World}{K:Act→World→Prop} (h:o.wp P a w K (Calm Q')):o.wp P a w K (Calm Q):=by
  unfold Oper.wp at *
  generalize (execOp a.eval o).run P w=res at *
  cases res with
  | ok x w' =>
    cases x with
    | value v=>exact h
    | skip=>exact h
    | defer d=>exact h
    | enter f args =>
      refine Calls.mono h (fun e w'' he=>?_)
      cases e with
      | returned v=>exact he
      | panicked ch=>exact he.elim
      | outgrown=>exact (Calm.letsOut he).elim
    | row row args=>exact h
    | _=>exact h.elim
  | halt x w'=>cases x <;> exact h.elim
theorem CP {i:Nat}{K:Act→World→Prop}{a:Act}{w:World} (h:wpOp P ops (Calm Q') i K a w):wpOp P ops (Calm Q) i K a w:=by
  unfold wpOp at *
  cases ho:ops[i]? with
  | none=>simpa [ho] using h
  | some o =>
    simp only [ho] at h ⊢
    by_cases hw:Region.wanted o (yielded ops a.tmps)=true
    · simp only [hw,if_true] at h ⊢
      rcases h with h | ⟨_,h⟩
      · exact .inl (Ea h)
      · exact (Calm.letsOut h).elim
    · rw [Bool.not_eq_true] at hw
      simp only [hw,Bool.false_eq_true,if_false] at h ⊢
      exact h
def lists:List (Nat × Bool)→Array Bool→Array Bool
 | [],L=>L
 | (i,_) :: l,L=>lists l (L.setIfInBounds i true)
def uP (ops:Array Oper) (T:List Nat):List (Nat × Bool)→Array Bool→Bool
 | [],_=>true
 | (i,b) :: l,listed=>(if b then Region.free .any ops listed i && (Region.ready .any ops listed).contains i && !T.contains i && T.all (fun t=>reach .any ops i 8 t) else (Region.ready .any ops listed) == [i]) && uP ops T l (listed.setIfInBounds i true)
theorem Ah (hs:Region.noSelect ops=true) (n:Nat) (l:List (Nat × Bool)) :
    ∀ (listed:Array Bool) (a:Act) (w:World),uP ops T l listed=true→iU .any ops listed→listed.size=ops.size→ST T S listed w→jK P ops (Calm Q') T S l a w →
      (∀ a w,iU .any ops (lists l listed)→(lists l listed).size=ops.size→ST T S (lists l listed) w→Q' .normal a w→kZ P .any ops (Calm Q) T S n (lists l listed) a w)→kZ P .any ops (Calm Q) T S (n+l.length) listed a w:=by
  induction l with
  | nil =>
    intro listed a w _ hcl hsz hS hw H
    exact H a w hcl hsz hS hw
  | cons x l ih =>
    obtain⟨i,b⟩:=x
    intro listed a w h hcl hsz hS hw H
    simp only [uP,Bool.and_eq_true] at h
    rw [List.length_cons,← Nat.add_assoc]
    rcases b with _ | _
    · simp only [Bool.false_eq_true,if_false] at h
      have hr:=eq_of_beq h.1
      refine⟨fun h0=>(by rw [h0] at hr;cases hr),fun j hj=>?_⟩
      rw [hr] at hj
      obtain rfl:=List.mem_singleton.1 hj
      have hjr:j∈Region.ready .any ops listed:=by rw [hr];exact List.mem_singleton.2 rfl
      refine wpOp_mono (fun a' w' h'=>?_) (CP (Q:=Q) hw)
      have hS':ST T S (listed.setIfInBounds j true) w':=by
        intro hn
        refine h'.1 ?_
        cases ht:T.contains j with
        | false=>rfl
        | true =>
          have hm:=List.all_eq_true.1 hn j (by simpa using ht)
          have hlt:j<listed.size:=by
            obtain⟨_,o,ho,_⟩:=mem_ready.1 hjr
            rw [hsz]
            exact (Array.getElem?_eq_some_iff.1 ho).1
          simp [hlt] at hm
      exact⟨hS',ih _ _ _ h.2 (hcl.set hjr) (by simpa using hsz) hS' h'.2 H⟩
    · simp only [if_true,Bool.and_eq_true,Bool.not_eq_true'] at h
      obtain⟨o,v,ho,hy,hr⟩:=hw
      have hir:i∈Region.ready .any ops listed:=by simpa using h.1.1.1.2
      have hiT:i∉T:=by simpa using h.1.1.2
      refine mV ho hiT h.1.2 (Region.noSelect_spec hs) (fun c a w=>Calm.dead c a _ _ w) _ _ _ _ (Region.free_spec ho h.1.1.1.1) hir hcl hy hS ?_
      exact ih _ _ _ h.2 (hcl.set hir) (by simpa using hsz) (fun hn=>hS (by rwa [lQ hiT] at hn)) hr H
def Two (P:Program) (ops:Array Oper) (Q:Exit→Act→World→Prop) (T:List Nat) (S:World→Prop) (i j:Nat) (l1 l2:List (Nat × Bool)):Exit→Act→World→Prop
 | .normal,a,w=>dP P ops (Calm Q) T S ((i,false) :: l1) a w∧dP P ops (Calm Q) T S ((j,false) :: l2) a w
 | _,_,_=>False
theorem xR {a:Act}{w:World} (l:List (Nat × Bool)) (i j:Nat) (l1 l2:List (Nat × Bool)) (T:List Nat) (hm:P.follows .mixedOrders=true) (hs:Region.noSelect ops=true) (hl:l.length+1+l1.length=ops.size) (hl2:l2.length=l1.length)
  (ok:(uP ops T l (Array.replicate ops.size false) && (Region.ready .any ops (lists l (Array.replicate ops.size false)) == [i,j]) && (!T.contains i && !T.contains j) &&
   lK .any ops T l1 ((lists l (Array.replicate ops.size false)).setIfInBounds i true) && lK .any ops T l2 ((lists l (Array.replicate ops.size false)).setIfInBounds j true))=true)
  (hS:S w.drew) (h:dP P ops (Calm (Two P ops Q T S i j l1 l2)) T S l a w.drew):RW P ops true Q a w:=by
 refine⟨⟨hm,mG (T:=T) (S:=S) _ _ _ _ ?_⟩⟩
 simp only [Bool.and_eq_true] at ok
 obtain⟨⟨⟨⟨o1,o2⟩,o3⟩,o4⟩,o5⟩:=ok
 have o2':=eq_of_beq o2
 rw [← hl,show l.length+1+l1.length=(l1.length+1)+l.length by omega]
 rw [show ops.size=(l1.length+1)+l.length by omega] at o1 o2' o4 o5
 refine Ah hs _ l _ _ _ o1 ?_ (by simp;omega) (fun _=>hS) h.out (fun a w hcl hsz hS hw=>?_)
 ·intro j oj _ hl'
  simp at hl'
  exact absurd hl' (by
   rcases Nat.lt_or_ge j (l1.length+1+l.length) with h' | h'
   ·simp [h']
   ·simp [h'])
 ·refine⟨fun h0=>(by rw [o2'] at h0;cases h0),fun k hk=>?_⟩
  have hk2:=hk
  rw [o2'] at hk2
  have hfin:∀ (k:Nat) (l':List (Nat × Bool)),k∈Region.ready .any ops (lists l (Array.replicate (l1.length+1+l.length) false))→l'.length=l1.length→T.contains k=false→lK .any ops T l' ((lists l (Array.replicate (l1.length+1+l.length) false)).setIfInBounds k true)=true→dP P ops (Calm Q) T S ((k,false) :: l') a w →
    wpOp P ops (Calm Q) k (fun a' w'=>ST T S ((lists l (Array.replicate (l1.length+1+l.length) false)).setIfInBounds k true) w'∧kZ P .any ops (Calm Q) T S l1.length ((lists l (Array.replicate (l1.length+1+l.length) false)).setIfInBounds k true) a' w') a w:=by
   intro k l' hk hl' hT ok' hw'
   refine wpOp_mono (fun a' w' h'=>?_) hw'.out
   have hS':ST T S ((lists l (Array.replicate (l1.length+1+l.length) false)).setIfInBounds k true) w':=fun _=>h'.1 hT
   refine⟨hS',?_⟩
   have:=pJ hs Calm.dead l' _ _ _ ok' (hcl.set hk) (by simpa using hsz) hS' h'.2
   rwa [hl'] at this
  rcases List.mem_cons.1 hk2 with rfl | hk3
  ·exact hfin _ l1 hk rfl (by simpa using o3.1) o4 hw.1
  ·obtain rfl:=List.mem_singleton.1 hk3
   exact hfin _ l2 hk hl2 (by simpa using o3.2) o5 hw.2
theorem pF {i j:Nat}{l1 l2:List (Nat × Bool)}{a:Act}{w:World} (h1:dP P ops (Calm Q) T S ((i,false) :: l1) a w) (h2:dP P ops (Calm Q) T S ((j,false) :: l2) a w):dP P ops (Calm (Two P ops Q T S i j l1 l2)) T S [] a w:=⟨⟨h1,h2⟩⟩
end
end Go.Gl
namespace Go.Proofs.Ytglkmaalpammcaa
open Go.Gl Go.RowKit
open Go.Gl Go.RowKit
theorem wH {w:World}{n c:Nat}{xs:List UInt8} (h:Rd w (.slice none n c) xs):xs=[]∧n=0∧c=0:=by
 rcases h.open with ⟨h0,rfl⟩ | ⟨g,off,cap,hv,_⟩
 ·exact⟨rfl,h0.none⟩
 ·simp at hv
theorem uI {w:World}{x y:Value}{xs ys:List UInt8} (hx:Rd w x xs) (hy:Rd w y ys):Calls Try.prog 82 #[x,y] w fun e w'=>e = .returned (.bool (bQ ys xs))∧w'=w:=by
  obtain⟨a2,c2,rfl,l2⟩:=hy.form
  obtain⟨a1,c1,hv,l1⟩:=hx.form
  by_cases hl:ys.length≤xs.length
  · have hc:xs.length≤c1:=by
      rcases hx.open with ⟨h0,rfl⟩ | ⟨g,off,cap,hv',h1,_⟩
      · simp
      · rw [hv] at hv';injection hv' with _ _ h3;omega
    subst hv
    cases a1 with
    | none =>
      obtain⟨rfl,_,rfl⟩:=wH hx
      obtain rfl:ys=[]:=List.eq_nil_of_length_eq_zero (by simpa using hl)
      have HE:=lh (oD (Rd.nil w) hy)
      simp only [List.length_nil] at HE ⊢
      clear hx hy
      go_enter Try.func82,Try.ntmps82
      go_wp2_with fail
      refine HE.out.mono ?_
      rintro e w2 ⟨rfl,rfl⟩
      go_wp2
      go_ret
      exact⟨rfl,rfl⟩
    | some a1 =>
      rcases hx.open with ⟨h,rfl⟩ | ⟨g,off,cap,hv,hrest⟩
      · clear hc l1
        rcases h with h | ⟨g,off,s,h⟩
        · simp at h
        · simp only [List.length_nil,Value.slice.injEq,Option.some.injEq,true_and] at h
          obtain⟨rfl,rfl⟩:=h
          obtain rfl:ys=[]:=List.eq_nil_of_length_eq_zero (by simpa using hl)
          have HE:=lh (oD hx hy)
          simp only [List.length_nil] at HE ⊢
          clear hx hy
          go_enter Try.func82,Try.ntmps82
          go_wp2_with fail
          refine HE.out.mono ?_
          rintro e w2 ⟨rfl,rfl⟩
          go_wp2
          go_ret
          exact⟨rfl,rfl⟩
      obtain rfl:a1=⟨g,off,none⟩:=by simp at hv;exact hv.1
      have ht:=hx.take hl
      have HE:=lh (oD ht hy)
      have hb:bQ ys xs=decide (xs.take ys.length=ys):=rfl
      rw [hb]
      clear hx hy ht hb hrest hv
      generalize decide (xs.take ys.length=ys)=b at *
      generalize ys.length=m at *
      generalize xs.length=n at *
      go_enter Try.func82,Try.ntmps82
      go_wp2_with fail
      refine HE.out.mono ?_
      rintro e w2 ⟨rfl,rfl⟩
      go_wp2
      go_ret
      exact⟨rfl,rfl⟩
  · have:bQ ys xs=false:=by
      unfold bQ
      refine decide_eq_false (fun e=>?_)
      have:=congrArg List.length e
      rw [List.length_take] at this
      omega
    rw [this]
    subst hv
    clear hx hy this
    generalize ys.length=m at *
    generalize xs.length=n at *
    go_enter Try.func82,Try.ntmps82
    go_wp2
    go_ret
    exact⟨rfl,rfl⟩
theorem uC {w:World}{q:Value}{xs:List UInt8} (hq:Rd w q xs) (hl:xs.length≤1000000):Calls Try.prog 79 #[q] w fun e w'=>∃ v',e = .returned v'∧Gl.Own w' v' xs∧ae aj w w'∧aI w v':=by
  obtain⟨a,c,rfl,_⟩:=hq.form
  cases a with
  | none =>
    obtain⟨rfl,_,rfl⟩:=wH hq
    have hnil:∀ W,(binOp .eql 77 (.slice none 0 0) (.slice none 0 0)).run Try.prog W = .ok (.bool true) W:=fun W=>Lib.run_eql_slice_nil_nil W _ _ Try.underlying77
    simp only [List.length_nil]
    clear hq
    go_enter Try.func79,Try.ntmps79
    go_wp2
    go_ret
    exact⟨_,rfl,Gl.Own.nil _,ae.refl _ _,fun k hk=>by simp [Value.ownBlock] at hk⟩
  | some a =>
    have hnil:∀ W,(binOp .eql 77 (.slice (some a) xs.length c) (.slice none 0 0)).run Try.prog W = .ok (.bool false) W:=fun W=>Lib.run_eql_slice_some_nil W _ _ _ Try.underlying77
    have HQ:=lh hq
    clear hq
    have HL:=lh hl
    clear hl
    go_enter Try.func79,Try.ntmps79
    go_wp2_with (at_builtin;refine stop ?_)
    unfold Stop
    have m1:=(ae.refl aj w).alloc (.cells #[] 5)
    have ob:=bC w (.cells #[] 5)
    refine jk rfl rfl [] xs (v := .slice (some ⟨w.heap.size,0,none⟩) 0 0) ⟨rfl,.inr ⟨_,_,_,_,rfl,ob,Nat.le_refl _,by simp [maxLen],by simp,fun j u hj=>by simp [bv] at hj⟩⟩ (HQ.out.keep m1 (fun _ _ x=>x)) rfl rfl (by have:=HL.out;simp;omega) ?_
    intro v' w' h1 h2 h3
    have h1:=lh h1
    have h2:=lh (show ae aj w w' from m1.trans h2 (fun _ _ x=>x) (fun i hi h=>by simp [fK,Value.ownBlock] at h;omega))
    have h3:Hid (aI w v'):=lh (by
      rcases h3 with h3 | h3
      · intro k hk;rw [h3] at hk;simp [Value.ownBlock] at hk;omega
      · exact h3.of (by simp))
    clear HQ m1 ob
    go_wp2
    go_ret
    exact⟨_,rfl,h1.out,h2.out,h3.out⟩
open Go.Gl Go.RowKit
theorem KM.put {w wa w8 w9:World}{sg mg b off N cap:Nat}{vo jv jv' v8:Value}{R:List PV}{A B:List JV}{q0:JV}{xs:List UV}{n:Int}{Z:Nat→Prop} (h:KM w sg mg vo R jv (A ++ q0 :: B) n)
  (ejv:jv = .slice (some ⟨b,off,none⟩) N cap) (ejv':jv' = .slice (some ⟨b,off,none⟩) (A.length+1) cap) (ma:ae (fun k=>k=sg) w wa) (hga:wa.heap[sg]?=some (.cells #[.pointer (some ⟨mg,0,none⟩),jv',.int .i64 n] 75 (0,0)))
  (o8:aU w8 152 1 v8 (q0.us.length+xs.length) (q0.us.map (·.c) ++ xs.map (·.c))) (m8:ae (fK q0.jv) wa w8) (f8:v8.ownBlock=q0.jv.ownBlock∨aI wa v8) (e:w9=w8.setCell ⟨b,off+A.length,none⟩ v8)
  (hx:∀ x∈xs,(∃ p∈A ++ q0 :: B,x∈p.us)∨(kS w sg x∧∀ k,UB x k→Z k∧k<w.heap.size∧¬ KS sg mg vo R jv (A ++ q0 :: B) k)) :
  KM w9 sg mg vo R jv' (A ++ [⟨v8,q0.us ++ xs⟩]) n∧ae (KS sg mg vo R jv (A ++ q0 :: B)) w w9∧(∀ k,KS sg mg vo R jv' (A ++ [⟨v8,q0.us ++ xs⟩]) k→KS sg mg vo R jv (A ++ q0 :: B) k∨w.heap.size≤k)∧(∀ k,KD R (A ++ [⟨v8,q0.us ++ xs⟩]) k→KD R (A ++ q0 :: B) k∨Z k):=by
 have hq0:q0∈A ++ q0 :: B:=List.mem_append_right _ (List.mem_cons_self ..)
 have hA:∀ q∈A,q∈A ++ q0 :: B:=fun q hq=>List.mem_append_left _ hq
 have bj:jv.ownBlock=some b:=by rw [ejv];rfl
 have bj':jv'.ownBlock=some b:=by rw [ejv'];rfl
 have bs:b≠sg:=fun x=>h.s1.2.1 (by rw [bj,x])
 have bq:∀ q∈A ++ q0 :: B,q.jv.ownBlock≠some b:=fun q hq=>(h.s2 b bj).2 q hq
 have bl:b<w.heap.size:=h.row.lt b bj
 have qs:∀ q∈A ++ q0 :: B,q.jv.ownBlock≠some sg:=h.s1.2.2
 have qA:∀ q∈A,∀ k,q.jv.ownBlock=some k→q0.jv.ownBlock≠some k:=fun q hq k hk=>(List.pairwise_append.1 h.s4).2.2 q hq q0 (List.mem_cons_self ..) k hk
 have sz:=ma.size
 have v8b:∀ k,v8.ownBlock=some k→q0.jv.ownBlock=some k∨w.heap.size≤k:=fun k hk=>by
  rcases f8 with x | x
  ·exact .inl (x▸hk)
  ·exact .inr (Nat.le_trans sz (x k hk))
 have m9:ae (fun k=>k=b) w8 w9:=by rw [e];exact (ae.refl (fun k=>k=b) w8).setCell (p:=⟨b,_,none⟩) (.inl rfl) _
 have m:ae (fun k=>k=sg∨jv.ownBlock=some k∨∃ q∈A ++ q0 :: B,q.jv.ownBlock=some k) w w9:=by
  have m1:ae (fun k=>k=sg∨q0.jv.ownBlock=some k) w w8:=ma.trans m8 (fun k _ hk => .inl hk) (fun k _ hk => .inr hk)
  exact m1.trans m9 (fun k _ hk=>by
   rcases hk with hk | hk
   ·exact .inl hk
   ·exact .inr (.inr ⟨q0,hq0,hk⟩)) (fun k _ hk => .inr (.inl (by rw [bj,hk])))
 have m18:ae (fun k=>k=sg∨q0.jv.ownBlock=some k) w w8:=ma.trans m8 (fun k _ hk => .inl hk) (fun k _ hk => .inr hk)
 refine h.chg (Z:=Z) m ?_ ?_ (.inl (by rw [bj,bj'])) ?_ ?_ ?_ ?_
 ·refine m9.heap (m8.heap hga (fun x=>qs q0 hq0 x)) (fun x=>bs x.symm)
 ·have hrow:=h.row
  rw [ejv] at hrow
  rcases hrow.ob with ⟨h0,_⟩ | ⟨b',off',cap',hv,ob⟩
  ·cases h0
  ·obtain⟨⟨rfl,rfl⟩,hN,rfl⟩:(b=b'∧off=off')∧N=(A ++ q0 :: B).length∧cap=cap':=by simpa using hv
   have ob8:=ob.keep m18 (fun hk=>by
    rcases hk with hk | hk
    ·exact bs hk
    ·exact bq q0 hq0 hk)
   have hn:=ob.hn
   have:=ob8.set A.length [v8] (by simp at hn ⊢;omega) (A ++ [(⟨v8,q0.us ++ xs⟩:JV)]).length ((A ++ [(⟨v8,q0.us ++ xs⟩:JV)]).map (·.jv)) (by simp at hn ⊢;omega) (by simp) (fun j u hj=>by
    rw [List.map_append] at hj
    by_cases hjA:j<A.length
    ·rw [if_neg (by omega),List.map_append,List.getElem?_append_left (by simpa using hjA)]
     rw [List.getElem?_append_left (by simpa using hjA)] at hj
     exact hj
    ·rw [List.getElem?_append_right (by simpa using Nat.le_of_not_lt hjA)] at hj
     simp only [List.length_map] at hj
     have hj0:j=A.length:=by
      rcases Nat.eq_zero_or_pos (j - A.length) with h0 | h0
      ·omega
      ·rw [show j - A.length=(j - A.length - 1)+1 by omega] at hj
       simp at hj
     subst hj0
     rw [if_pos (by simp)]
     rw [Nat.sub_self] at hj ⊢
     exact hj)
   rw [e,ejv']
   have e2:(A ++ [(⟨v8,q0.us ++ xs⟩:JV)]).length=A.length+1:=by simp
   have h3:=this.own
   rw [e2] at h3 ⊢
   exact h3
 ·intro q hq
  rcases List.mem_append.1 hq with hq | hq
  ·refine⟨((h.pg q (hA q hq)).keep m18 (fun k hk=>?_)).keep m9 (fun k hk x=>bq q (hA q hq) (x▸hk)),.inl ⟨q,hA q hq,rfl⟩⟩
   rintro (x | x)
   ·exact qs q (hA q hq) (x▸hk)
   ·exact qA q hq k hk x
  ·obtain rfl:=List.mem_singleton.1 hq
   refine⟨?_,?_⟩
   ·have o9:=o8.keep m9 (fun k hk x=>by
     subst x
     rcases v8b k hk with y | y
     ·exact bq q0 hq0 y
     ·omega)
    simpa using o9
   ·rcases f8 with x | x
    ·exact .inl ⟨q0,hq0,x⟩
    ·exact .inr (x.of sz)
 ·intro q hq x hxq
  rcases List.mem_append.1 hq with hq | hq
  ·exact .inl ⟨q,hA q hq,hxq⟩
  ·obtain rfl:=List.mem_singleton.1 hq
   rcases List.mem_append.1 hxq with hxq | hxq
   ·exact .inl ⟨q0,hq0,hxq⟩
   ·exact hx x hxq
 ·intro q hq k hk x
  rw [bj'] at x
  obtain rfl:=Option.some.inj x
  rcases List.mem_append.1 hq with hq | hq
  ·exact bq q (hA q hq) hk
  ·obtain rfl:=List.mem_singleton.1 hq
   rcases v8b _ hk with y | y
   ·exact bq q0 hq0 y
   ·omega
 ·refine List.pairwise_append.2 ⟨(List.pairwise_append.1 h.s4).1,List.pairwise_singleton _ _,fun p hp q hq k hk x=>?_⟩
  obtain rfl:=List.mem_singleton.1 hq
  rcases v8b k x with y | y
  ·exact qA p hp k hk y
  ·have:=(h.pg p (hA p hp)).lt k hk
   omega
open Go.Gl Go.RowKit
theorem infoC:(Try.prog.info? 152).map (fun i=>(i.zero,i.size,i.bytes))=some (some (.agg #[.nilFunc]),1,8):=by kernel_rfl
section
variable {x0 x1 x2 x3 x4 x5 x6 x7 x8 x9 aS bn bi bg aO aP aV aT aW aX aY aQ bu bz bD bK bI bJ bH bT bU cO cZ dh di bY bZ dQ dJ dK dL dD dE dF dG dH dI dC:Value}{df:List Deferred}{Q:Exit→Act→World→Prop}
theorem kvn4t {w:World}{sbx kbx sg mg:Nat}{kv:Value} (b1:w.heap[sbx]?=some (.cells #[.pointer (some ⟨sg,0,none⟩)] 26 (0,0))) (b2:w.heap[kbx]?=some (.cells #[kv] 77 (0,0))) (b3:w.cell? ⟨sg,0,none⟩=some (.pointer (some ⟨mg,0,none⟩))) (b4:sg<w.heap.size) {xs:List UInt8} (hC:∀ b',ae aj w b'→Calls Try.prog 70 #[.pointer (some ⟨mg,0,none⟩),kv] b' fun e w'=>∃ v',e = .returned (.tuple #[v',.bool true])∧Gl.Own w' v' xs∧ae aj b' w'∧aI b' v')
  (hK:∀ (iZ ja jC kH kJ jc jd jR je:Value) (obx:Nat) (v7:Value) (w':World),w.heap.size≤obx→w'.heap[obx]?=some (.cells #[v7] 77 (0,0))→Gl.Own w' v7 xs→aI w v7→ae aj w w'→v7.ownBlock≠some obx→Q .normal ⟨#[x0,x1,.pointer (some ⟨sbx,0,none⟩),.pointer (some ⟨kbx,0,none⟩),x4,.pointer (some ⟨obx,0,none⟩),.bool true,x7,x8,x9,aS,bn,bi,bg,aO,aP,aV,iZ,ja,jC,kH,kJ,jc,jd,jR,je,bI,bJ,bH,bT,bU,cO,cZ,dh,di,bY,bZ,dQ,dJ,dK,dL,dD,dE,dF,dG,dH,dI,dC],df⟩ w'):RW Try.prog (aJ 4 Try.f59) true Q ⟨#[x0,x1,.pointer (some ⟨sbx,0,none⟩),.pointer (some ⟨kbx,0,none⟩),x4,x5,x6,x7,x8,x9,aS,bn,bi,bg,aO,aP,aV,aT,aW,aX,aY,aQ,bu,bz,bD,bK,bI,bJ,bH,bT,bU,cO,cZ,dh,di,bY,bZ,dQ,dJ,dK,dL,dD,dE,dF,dG,dH,dI,dC],df⟩ w:=by
 have HQ:=lh hK
 clear hK
 have HC:=lh hC
 have Q1:=lh (fun b' (hm:ae aj w b')=>ai (hm.heap b1 (fun x=>x)) 0)
 have Q2:=lh (fun b' (hm:ae aj w b')=>ai (hm.heap b2 (fun x=>x)) 0)
 have Q3:=lh (fun b' (hm:ae aj w b')=>(hm.cellAt b4 (fun x=>x) 0).trans b3)
 clear hC b1 b2 b3
 have MR:=lh ((ae.refl aj w).drew)
 refine xR (S:=fun b'=>ae aj w b') [(0,true),(1,true),(2,true),(3,true),(4,true)] 5 9 [(6,true),(7,true),(8,true),(9,false),(10,false),(11,true)] [(5,false),(6,true),(7,true),(8,true),(10,false),(11,true)] [] (by kernel_rfl) (by kernel_rfl) (by kernel_rfl) (by kernel_rfl) (by kernel_rfl) MR.out ?_
 refine af (ag sg 0) (some 18) (ki (by kernel_rfl)) (fun bb hb=>aC (x:=(.tmp 2)) (by kernel_rfl) (by kernel_rfl) (aH (Q1.out _ hb) Try.underlying26 rfl)) ?_
 refine ah [1,2] [ag sg 0,ag sg 0] rfl (by kernel_rfl) (fun _=>by kernel_rfl) ?_
 refine af (ag mg 0) (some 21) (ki (by kernel_rfl)) (fun bb hb=>aC (x:=(.tmp 20)) (by kernel_rfl) (by kernel_rfl) (aH (Q3.out _ hb) Try.underlying66 rfl)) ?_
 refine af (kv) (some 22) (ki (by kernel_rfl)) (fun bb hb=>aC (x:=(.tmp 3)) (by kernel_rfl) (by kernel_rfl) (aH (Q2.out _ hb) Try.underlying77 rfl)) ?_
 refine pF ?_ ?_
 ·skip
  refine bF (some 23) (ki (by kernel_rfl)) (HC.out _ MR.out) (fun _=>by kernel_rfl) ?_
  rintro r w7 ⟨v7,rfl,o7,m7,f7⟩
  have F7:=f7.of MR.out.size
  replace MR:=lh (MR.out.then0 m7)
  obtain⟨a7,c7,e7,_⟩:=o7.rd.form
  have h17:v7.oneCell'=true:=by rw [e7];rfl
  clear e7
  have F7L:=o7.lt
  refine⟨_,rfl,fun _=>MR.out,?_⟩
  refine ah [6,7,8] [.tuple #[v7,.bool true],v7,.bool true] rfl (by kernel_rfl) (fun _=>by kernel_rfl) ?_
  refine fB (.cells #[.slice none 0 0] 77) (some 5) (ki (by kernel_rfl)) (by kernel_rfl) ?_
  intro k1 w_k1 hk_k1 hO_k1 hm_k1 hl_k1
  have MZ:=MR.out.size
  replace MR:=lh (MR.out.then0 hm_k1)
  refine⟨fun _=>MR.out,?_⟩
  have o7:=o7.keep hm_k1 (fun _ _ x=>x)
  have N7:v7.ownBlock≠some k1:=fun e=>by have:=F7L _ e;omega
  refine fD (ty:=77) (x:=(.tmp 5)) (y:=(.tmp 24)) (g:=k1) (off:=0) (v:=v7) none (ki (by kernel_rfl)) (by kernel_rfl) (by kernel_rfl) (by kernel_rfl) (by kernel_rfl) (by rw [ai hO_k1];rfl) (dw hO_k1 _) (h17) ?_
  intro w9 hw9
  refine⟨(fun h=>by first | (cases h;done) | exact (by rw [hw9];exact MR.out.setCell (p:=⟨k1,0,none⟩) (.inr (show w.heap.size≤k1 by omega)) v7)),?_⟩
  refine ah [11] [.bool true] rfl (by kernel_rfl) (fun _=>by kernel_rfl) ?_
  exact aA (aZ (K:=Q .normal) (by kernel_rfl) (HQ.out (.tuple #[v7,.bool true]) (ag sg 0) (ag sg 0) (ag sg 0) (ag mg 0) (kv) (.tuple #[v7,.bool true]) (v7) (.bool true) k1 v7 w9 (by omega) (by rw [hw9];exact heap_set hO_k1 0 v7) (Gl.Own.keep (S:=fun k=>k=k1) o7 (by rw [hw9];exact (ae.refl (fun k=>k=k1) _).setCell (p:=⟨k1,0,none⟩) (.inl rfl) v7) (fun k hk e=>N7 (e▸hk))) F7 (by rw [hw9];exact MR.out.setCell (p:=⟨k1,0,none⟩) (.inr (show w.heap.size≤k1 by omega)) v7) N7))
 ·skip
  refine fB (.cells #[.slice none 0 0] 77) (some 5) (ki (by kernel_rfl)) (by kernel_rfl) ?_
  intro k1 w_k1 hk_k1 hO_k1 hm_k1 hl_k1
  have MZ:=MR.out.size
  replace MR:=lh (MR.out.then0 hm_k1)
  refine⟨fun _=>MR.out,?_⟩
  refine bF (some 23) (ki (by kernel_rfl)) (HC.out _ MR.out) (fun _=>by kernel_rfl) ?_
  rintro r w7 ⟨v7,rfl,o7,m7,f7⟩
  have F7:=f7.of MR.out.size
  have hO_k1:=m7.heap hO_k1 (fun x=>x)
  have N7:v7.ownBlock≠some k1:=fun e=>by have:=f7 _ e;omega
  have hs7:=m7.size
  replace MR:=lh (MR.out.then0 m7)
  obtain⟨a7,c7,e7,_⟩:=o7.rd.form
  have h17:v7.oneCell'=true:=by rw [e7];rfl
  clear e7
  refine⟨_,rfl,fun _=>MR.out,?_⟩
  refine ah [6,7,8] [.tuple #[v7,.bool true],v7,.bool true] rfl (by kernel_rfl) (fun _=>by kernel_rfl) ?_
  refine fD (ty:=77) (x:=(.tmp 5)) (y:=(.tmp 24)) (g:=k1) (off:=0) (v:=v7) none (ki (by kernel_rfl)) (by kernel_rfl) (by kernel_rfl) (by kernel_rfl) (by kernel_rfl) (by rw [ai hO_k1];rfl) (dw hO_k1 _) (h17) ?_
  intro w9 hw9
  refine⟨(fun h=>by first | (cases h;done) | exact (by rw [hw9];exact MR.out.setCell (p:=⟨k1,0,none⟩) (.inr (show w.heap.size≤k1 by omega)) v7)),?_⟩
  refine ah [11] [.bool true] rfl (by kernel_rfl) (fun _=>by kernel_rfl) ?_
  exact aA (aZ (K:=Q .normal) (by kernel_rfl) (HQ.out (.tuple #[v7,.bool true]) (ag sg 0) (ag sg 0) (ag sg 0) (ag mg 0) (kv) (.tuple #[v7,.bool true]) (v7) (.bool true) k1 v7 w9 (by omega) (by rw [hw9];exact heap_set hO_k1 0 v7) (Gl.Own.keep (S:=fun k=>k=k1) o7 (by rw [hw9];exact (ae.refl (fun k=>k=k1) _).setCell (p:=⟨k1,0,none⟩) (.inl rfl) v7) (fun k hk e=>N7 (e▸hk))) F7 (by rw [hw9];exact MR.out.setCell (p:=⟨k1,0,none⟩) (.inr (show w.heap.size≤k1 by omega)) v7) N7))
theorem kvn4f {w:World}{sbx kbx sg mg:Nat}{kv:Value} (b1:w.heap[sbx]?=some (.cells #[.pointer (some ⟨sg,0,none⟩)] 26 (0,0))) (b2:w.heap[kbx]?=some (.cells #[kv] 77 (0,0))) (b3:w.cell? ⟨sg,0,none⟩=some (.pointer (some ⟨mg,0,none⟩))) (b4:sg<w.heap.size) {xs:List UInt8} (hC:∀ b',ae aj w b'→Calls Try.prog 70 #[.pointer (some ⟨mg,0,none⟩),kv] b' fun e w'=>∃ v',e = .returned (.tuple #[v',.bool false])∧Gl.Own w' v' xs∧ae aj b' w'∧aI b' v')
  (hK:∀ (iZ ja jC kH kJ jc jd jR je:Value) (obx:Nat) (v7:Value) (w':World),w.heap.size≤obx→w'.heap[obx]?=some (.cells #[v7] 77 (0,0))→Gl.Own w' v7 xs→aI w v7→ae aj w w'→v7.ownBlock≠some obx→Q .normal ⟨#[x0,x1,.pointer (some ⟨sbx,0,none⟩),.pointer (some ⟨kbx,0,none⟩),x4,.pointer (some ⟨obx,0,none⟩),.bool false,x7,x8,x9,aS,bn,bi,bg,aO,aP,aV,iZ,ja,jC,kH,kJ,jc,jd,jR,je,bI,bJ,bH,bT,bU,cO,cZ,dh,di,bY,bZ,dQ,dJ,dK,dL,dD,dE,dF,dG,dH,dI,dC],df⟩ w'):RW Try.prog (aJ 4 Try.f59) true Q ⟨#[x0,x1,.pointer (some ⟨sbx,0,none⟩),.pointer (some ⟨kbx,0,none⟩),x4,x5,x6,x7,x8,x9,aS,bn,bi,bg,aO,aP,aV,aT,aW,aX,aY,aQ,bu,bz,bD,bK,bI,bJ,bH,bT,bU,cO,cZ,dh,di,bY,bZ,dQ,dJ,dK,dL,dD,dE,dF,dG,dH,dI,dC],df⟩ w:=by
 have HQ:=lh hK
 clear hK
 have HC:=lh hC
 have Q1:=lh (fun b' (hm:ae aj w b')=>ai (hm.heap b1 (fun x=>x)) 0)
 have Q2:=lh (fun b' (hm:ae aj w b')=>ai (hm.heap b2 (fun x=>x)) 0)
 have Q3:=lh (fun b' (hm:ae aj w b')=>(hm.cellAt b4 (fun x=>x) 0).trans b3)
 clear hC b1 b2 b3
 have MR:=lh ((ae.refl aj w).drew)
 refine xR (S:=fun b'=>ae aj w b') [(0,true),(1,true),(2,true),(3,true),(4,true)] 5 9 [(6,true),(7,true),(8,true),(9,false),(10,false),(11,true)] [(5,false),(6,true),(7,true),(8,true),(10,false),(11,true)] [] (by kernel_rfl) (by kernel_rfl) (by kernel_rfl) (by kernel_rfl) (by kernel_rfl) MR.out ?_
 refine af (ag sg 0) (some 18) (ki (by kernel_rfl)) (fun bb hb=>aC (x:=(.tmp 2)) (by kernel_rfl) (by kernel_rfl) (aH (Q1.out _ hb) Try.underlying26 rfl)) ?_
 refine ah [1,2] [ag sg 0,ag sg 0] rfl (by kernel_rfl) (fun _=>by kernel_rfl) ?_
 refine af (ag mg 0) (some 21) (ki (by kernel_rfl)) (fun bb hb=>aC (x:=(.tmp 20)) (by kernel_rfl) (by kernel_rfl) (aH (Q3.out _ hb) Try.underlying66 rfl)) ?_
 refine af (kv) (some 22) (ki (by kernel_rfl)) (fun bb hb=>aC (x:=(.tmp 3)) (by kernel_rfl) (by kernel_rfl) (aH (Q2.out _ hb) Try.underlying77 rfl)) ?_
 refine pF ?_ ?_
 ·skip
  refine bF (some 23) (ki (by kernel_rfl)) (HC.out _ MR.out) (fun _=>by kernel_rfl) ?_
  rintro r w7 ⟨v7,rfl,o7,m7,f7⟩
  have F7:=f7.of MR.out.size
  replace MR:=lh (MR.out.then0 m7)
  obtain⟨a7,c7,e7,_⟩:=o7.rd.form
  have h17:v7.oneCell'=true:=by rw [e7];rfl
  clear e7
  have F7L:=o7.lt
  refine⟨_,rfl,fun _=>MR.out,?_⟩
  refine ah [6,7,8] [.tuple #[v7,.bool false],v7,.bool false] rfl (by kernel_rfl) (fun _=>by kernel_rfl) ?_
  refine fB (.cells #[.slice none 0 0] 77) (some 5) (ki (by kernel_rfl)) (by kernel_rfl) ?_
  intro k1 w_k1 hk_k1 hO_k1 hm_k1 hl_k1
  have MZ:=MR.out.size
  replace MR:=lh (MR.out.then0 hm_k1)
  refine⟨fun _=>MR.out,?_⟩
  have o7:=o7.keep hm_k1 (fun _ _ x=>x)
  have N7:v7.ownBlock≠some k1:=fun e=>by have:=F7L _ e;omega
  refine fD (ty:=77) (x:=(.tmp 5)) (y:=(.tmp 24)) (g:=k1) (off:=0) (v:=v7) none (ki (by kernel_rfl)) (by kernel_rfl) (by kernel_rfl) (by kernel_rfl) (by kernel_rfl) (by rw [ai hO_k1];rfl) (dw hO_k1 _) (h17) ?_
  intro w9 hw9
  refine⟨(fun h=>by first | (cases h;done) | exact (by rw [hw9];exact MR.out.setCell (p:=⟨k1,0,none⟩) (.inr (show w.heap.size≤k1 by omega)) v7)),?_⟩
  refine ah [11] [.bool false] rfl (by kernel_rfl) (fun _=>by kernel_rfl) ?_
  exact aA (aZ (K:=Q .normal) (by kernel_rfl) (HQ.out (.tuple #[v7,.bool false]) (ag sg 0) (ag sg 0) (ag sg 0) (ag mg 0) (kv) (.tuple #[v7,.bool false]) (v7) (.bool false) k1 v7 w9 (by omega) (by rw [hw9];exact heap_set hO_k1 0 v7) (Gl.Own.keep (S:=fun k=>k=k1) o7 (by rw [hw9];exact (ae.refl (fun k=>k=k1) _).setCell (p:=⟨k1,0,none⟩) (.inl rfl) v7) (fun k hk e=>N7 (e▸hk))) F7 (by rw [hw9];exact MR.out.setCell (p:=⟨k1,0,none⟩) (.inr (show w.heap.size≤k1 by omega)) v7) N7))
 ·skip
  refine fB (.cells #[.slice none 0 0] 77) (some 5) (ki (by kernel_rfl)) (by kernel_rfl) ?_
  intro k1 w_k1 hk_k1 hO_k1 hm_k1 hl_k1
  have MZ:=MR.out.size
  replace MR:=lh (MR.out.then0 hm_k1)
  refine⟨fun _=>MR.out,?_⟩
  refine bF (some 23) (ki (by kernel_rfl)) (HC.out _ MR.out) (fun _=>by kernel_rfl) ?_
  rintro r w7 ⟨v7,rfl,o7,m7,f7⟩
  have F7:=f7.of MR.out.size
  have hO_k1:=m7.heap hO_k1 (fun x=>x)
  have N7:v7.ownBlock≠some k1:=fun e=>by have:=f7 _ e;omega
  have hs7:=m7.size
  replace MR:=lh (MR.out.then0 m7)
  obtain⟨a7,c7,e7,_⟩:=o7.rd.form
  have h17:v7.oneCell'=true:=by rw [e7];rfl
  clear e7
  refine⟨_,rfl,fun _=>MR.out,?_⟩
  refine ah [6,7,8] [.tuple #[v7,.bool false],v7,.bool false] rfl (by kernel_rfl) (fun _=>by kernel_rfl) ?_
  refine fD (ty:=77) (x:=(.tmp 5)) (y:=(.tmp 24)) (g:=k1) (off:=0) (v:=v7) none (ki (by kernel_rfl)) (by kernel_rfl) (by kernel_rfl) (by kernel_rfl) (by kernel_rfl) (by rw [ai hO_k1];rfl) (dw hO_k1 _) (h17) ?_
  intro w9 hw9
  refine⟨(fun h=>by first | (cases h;done) | exact (by rw [hw9];exact MR.out.setCell (p:=⟨k1,0,none⟩) (.inr (show w.heap.size≤k1 by omega)) v7)),?_⟩
  refine ah [11] [.bool false] rfl (by kernel_rfl) (fun _=>by kernel_rfl) ?_
  exact aA (aZ (K:=Q .normal) (by kernel_rfl) (HQ.out (.tuple #[v7,.bool false]) (ag sg 0) (ag sg 0) (ag sg 0) (ag mg 0) (kv) (.tuple #[v7,.bool false]) (v7) (.bool false) k1 v7 w9 (by omega) (by rw [hw9];exact heap_set hO_k1 0 v7) (Gl.Own.keep (S:=fun k=>k=k1) o7 (by rw [hw9];exact (ae.refl (fun k=>k=k1) _).setCell (p:=⟨k1,0,none⟩) (.inl rfl) v7) (fun k hk e=>N7 (e▸hk))) F7 (by rw [hw9];exact MR.out.setCell (p:=⟨k1,0,none⟩) (.inr (show w.heap.size≤k1 by omega)) v7) N7))
theorem kvn8 {w:World}{sbx sg b off m cap l:Nat}{qv:Value}{fn:Nat}{bd:Array Value}{pvs us:List Value} (b1:w.heap[sbx]?=some (.cells #[.pointer (some ⟨sg,0,none⟩)] 26 (0,0))) (b3:w.cell? ⟨sg,1,none⟩=some (.slice (some ⟨b,off,none⟩) (m+1) cap)) (b4:sg<w.heap.size) (hB:OB w 150 1 b off (m+1) cap pvs) (hp:pvs[m]?=some qv) (hQ:aU w 152 1 qv l us) (hm:m≤1000000) (hl:l≤1000000) (hqb:¬ fK qv b) (hqs:¬ fK qv sbx) (hqg:¬ fK qv sg)
  (hK:∀ (kL y30 y31 y32 y33 y34 y35 y36 y37 y38 y39 y40 y41 y42 y43 y44 y45 y46 y47:Value) (v8:Value) (w8:World) (w':World),aU w8 152 1 v8 (l+1) (us ++ [.func (.func fn) #[] bd])→ae (fK qv) w w8→(v8.ownBlock=qv.ownBlock∨aI w v8)→w'=w8.setCell ⟨b,off+m,none⟩ v8→Q .normal ⟨#[x0,x1,.pointer (some ⟨sbx,0,none⟩),x3,.int .i64 (((m+1):Nat):Int),x5,x6,.func (.func fn) #[] bd,x8,x9,aS,bn,bi,bg,aO,aP,aV,aT,aW,aX,aY,aQ,bu,bz,bD,bK,bI,bJ,bH,kL,y30,y31,y32,y33,y34,y35,y36,y37,y38,y39,y40,y41,y42,y43,y44,y45,y46,y47],df⟩ w'):RW Try.prog (aJ 8 Try.f59) true Q ⟨#[x0,x1,.pointer (some ⟨sbx,0,none⟩),x3,.int .i64 (((m+1):Nat):Int),x5,x6,.func (.func fn) #[] bd,x8,x9,aS,bn,bi,bg,aO,aP,aV,aT,aW,aX,aY,aQ,bu,bz,bD,bK,bI,bJ,bH,bT,bU,cO,cZ,dh,di,bY,bZ,dQ,dJ,dK,dL,dD,dE,dF,dG,dH,dI,dC],df⟩ w:=by
 have HQ:=lh hK
 clear hK
 have Q1:=lh (fun b' (hm:ae (fK qv) w b')=>ai (hm.heap b1 hqs) 0)
 have Q3:=lh (fun b' (hm:ae (fK qv) w b')=>(hm.cellAt b4 hqg 1).trans b3)
 have Q4:=lh (fun b' (hm:ae (fK qv) w b')=>(hB.keep hm hqb).cell hp)
 have HQv:=lh hQ
 have HB:=lh hB
 have hcap:=hB.hn
 clear b1 b3 hB hp hQ
 have MR:=lh ((ae.refl aj w).drew)
 refine kQ (S:=fun b'=>ae (fK qv) w b') [(0,true),(1,true),(2,true),(3,true),(4,true),(5,true),(6,true),(7,true),(8,true),(9,true),(10,true),(11,true),(12,true),(13,true),(14,true),(15,true),(16,false),(17,false),(18,true),(19,false)] [19] (by kernel_rfl) (by kernel_rfl) (by kernel_rfl) (by kernel_rfl) (MR.out.mono (fun _ _ x=>x.elim)) ?_
 refine af (ag sg 0) (some 29) (ki (by kernel_rfl)) (fun bb hb=>aC (x:=(.tmp 2)) (by kernel_rfl) (by kernel_rfl) (aH (Q1.out _ hb) Try.underlying26 rfl)) ?_
 refine ah [1,2] [ag sg 0,ag sg 1] rfl (by kernel_rfl) (fun _=>by kernel_rfl) ?_
 refine af (.slice (some ⟨b,off,none⟩) (m+1) cap) (some 32) (ki (by kernel_rfl)) (fun bb hb=>aC (x:=(.tmp 31)) (by kernel_rfl) (by kernel_rfl) (aH (Q3.out _ hb) Try.underlying68 rfl)) ?_
 refine ah [4] [.int .i64 (((m+1):Nat):Int)] rfl (by kernel_rfl) (fun _=>by kernel_rfl) ?_
 refine af (.int .i64 ((m:Nat):Int)) (some 34) (ki (by kernel_rfl)) (fun bb hb=>bM (t:=3) (t':=3) (xv := .int .i64 (((m+1):Nat):Int)) (yv := .int .i64 1) (x:=(.tmp 33)) (y:=(.const (.int .i64 1))) (by kernel_rfl) (by kernel_rfl) (by kernel_rfl) (fun _=>by kernel_rfl) (qV _ (by omega) (by omega) (by omega))) ?_
 refine af (ag sg 0) (some 35) (ki (by kernel_rfl)) (fun bb hb=>aC (x:=(.tmp 2)) (by kernel_rfl) (by kernel_rfl) (aH (Q1.out _ hb) Try.underlying26 rfl)) ?_
 refine ah [7,8] [ag sg 0,ag sg 1] rfl (by kernel_rfl) (fun _=>by kernel_rfl) ?_
 refine af (.slice (some ⟨b,off,none⟩) (m+1) cap) (some 38) (ki (by kernel_rfl)) (fun bb hb=>aC (x:=(.tmp 37)) (by kernel_rfl) (by kernel_rfl) (aH (Q3.out _ hb) Try.underlying68 rfl)) ?_
 refine ah [10] [.int .i64 (((m+1):Nat):Int)] rfl (by kernel_rfl) (fun _=>by kernel_rfl) ?_
 refine af (.int .i64 ((m:Nat):Int)) (some 40) (ki (by kernel_rfl)) (fun bb hb=>bM (t:=3) (t':=3) (xv := .int .i64 (((m+1):Nat):Int)) (yv := .int .i64 1) (x:=(.tmp 39)) (y:=(.const (.int .i64 1))) (by kernel_rfl) (by kernel_rfl) (by kernel_rfl) (fun _=>by kernel_rfl) (qV _ (by omega) (by omega) (by omega))) ?_
 refine af (ag b (off+m)) (some 41) (ki (by kernel_rfl)) (fun bb hb=>fG (s:=1) (e:=150) (g:=b) (off:=off) (n:=(m+1)) (c:=cap) (i:=((m:Nat):Int)) (x:=(.tmp 38)) (y:=(.tmp 40)) (off+m) (by kernel_rfl) (by kernel_rfl) (by kernel_rfl) Try.underlying68 (by kernel_rfl) (by omega) (by omega) (by omega)) ?_
 refine af (qv) (some 42) (ki (by kernel_rfl)) (fun bb hb=>aC (x:=(.tmp 41)) (by kernel_rfl) (by kernel_rfl) (aH (Q4.out _ hb) Try.underlying150 rfl)) ?_
 refine ah [14,15] [.func (.func fn) #[] bd,.agg #[.func (.func fn) #[] bd]] rfl (by kernel_rfl) (fun _=>by kernel_rfl) ?_
 refine jf (.cells #[.func (.func fn) #[] bd] 152) 1 (some 45) (ki (by kernel_rfl)) (by kernel_rfl) ?_
 intro k1 w_k1 hk_k1 hO_k1 hm_k1 hl_k1
 have MZ:=MR.out.size
 replace MR:=lh (MR.out.then0 hm_k1)
 refine⟨fun _=>(MR.out.mono (fun _ _ x=>x.elim)),?_⟩
 obtain⟨inf,hi,hz,hs,hby⟩:=info_parts infoC
 obtain⟨v8,w8,hr8,o8,m8,f8⟩:=nK (P:=Try.prog) 150 150 150 152 152 inf (.agg #[.nilFunc]) Try.underlying150 Try.underlying150 hi hz (by rw [hs];rfl) (by rw [hs];exact HQv.out.keep MR.out (fun _ _ x=>x)) (m:=1) (ys:=[.func (.func fn) #[] bd]) (by rw [hs];exact aU.rd (xG hO_k1).own) (by intro y hy;rw [List.mem_singleton.1 hy];rfl) (by unfold maxLen;omega) (by rw [hby];omega)
 rw [hs] at o8
 refine aG v8 w8 (some 46) (ki (by kernel_rfl)) (of_append (x:=(.tmp 42)) (y:=(.tmp 45)) (by kernel_rfl) (by kernel_rfl) (by kernel_rfl) hr8) (fun _=>MR.out.trans m8 (fun _ _ x=>x.elim) (fun _ _ x=>x)) ?_
 have f9:=f8.imp id (fun h=>h.of MR.out.size)
 have M8:=lh (MR.out.trans m8 (U:=fK qv) (fun _ _ x=>x.elim) (fun _ _ x=>x))
 have ob8:=HB.out.keep M8.out hqb
 obtain⟨a8,c8,e8,_⟩:=o8.rd.form
 have h18:v8.oneCell'=true:=by rw [e8];rfl
 clear e8
 refine af (ag b (off+m)) (some 47) (ki (by kernel_rfl)) (fun bb hb=>fG (s:=1) (e:=150) (g:=b) (off:=off) (n:=(m+1)) (c:=cap) (i:=((m:Nat):Int)) (x:=(.tmp 32)) (y:=(.tmp 34)) (off+m) (by kernel_rfl) (by kernel_rfl) (by kernel_rfl) Try.underlying68 (by kernel_rfl) (by omega) (by omega) (by omega)) ?_
 refine fD (ty:=150) (x:=(.tmp 47)) (y:=(.tmp 46)) (g:=b) (off:=off+m) (v:=v8) none (ki (by kernel_rfl)) (by kernel_rfl) (by kernel_rfl) (by kernel_rfl) (by kernel_rfl) (ob8.there (by have:=ob8.hn;omega)) (ob8.free _) (h18) ?_
 intro w9 hw9
 refine⟨(fun h=>by first | (cases h;done) | exact trivial),?_⟩
 exact aA (aZ (K:=Q .normal) (by kernel_rfl) (HQ.out (ag sg 0) (ag sg 0) (ag sg 1) (.slice (some ⟨b,off,none⟩) (m+1) cap) (.int .i64 (((m+1):Nat):Int)) (.int .i64 ((m:Nat):Int)) (ag sg 0) (ag sg 0) (ag sg 1) (.slice (some ⟨b,off,none⟩) (m+1) cap) (.int .i64 (((m+1):Nat):Int)) (.int .i64 ((m:Nat):Int)) (ag b (off+m)) (qv) (.func (.func fn) #[] bd) (.agg #[.func (.func fn) #[] bd]) (.slice (some ⟨k1,0,none⟩) 1 1) (v8) (ag b (off+m)) v8 w8 w9 o8 M8.out f9 hw9))
end
open Go.Gl Go.RowKit
def rX (J J':List JV) (k:List UInt8) (old:Option (List UInt8)):Prop:=(J=[]∧J'=[])∨∃ A q0 v x,J=A ++ [q0]∧J'=A ++ [⟨v,q0.us ++ [x]⟩]∧x.u=⟨k,old⟩
theorem tH {w W4 W8 W9:World}{sg mg b off cap:Nat}{vo jv v8:Value}{R:List PV}{A:List JV}{q0:JV}{x:UV}{n:Int} (h:KM w sg mg vo R jv (A ++ [q0]) n) (m4:ae aj w W4) (ejv:jv = .slice (some ⟨b,off,none⟩) (A.length+1) cap) (hx:kS W4 sg x) (hb:∀ k,UB x k→w.heap.size≤k∧k<W4.heap.size)
  (o8:aU W8 152 1 v8 (q0.us.length+1) (q0.us.map (·.c) ++ [x.c])) (m8:ae (fK q0.jv) W4 W8) (f8:v8.ownBlock=q0.jv.ownBlock∨aI W4 v8) (e:W9=W8.setCell ⟨b,off+A.length,none⟩ v8) :
  KT w W9 sg mg vo R jv (A ++ [q0]) vo R jv (A ++ [⟨v8,q0.us ++ [x]⟩]) n:=by
 have k4:=h.keep0 m4
 obtain⟨a,b',c,d⟩:=k4.put (Z:=fun k=>w.heap.size≤k) (xs:=[x]) ejv ejv (ae.refl _ _) k4.hg o8 m8 f8 e (fun y hy=>by
  obtain rfl:=List.mem_singleton.1 hy
  exact .inr ⟨hx,fun k hk=>⟨(hb k hk).1,(hb k hk).2,fun z=>by have:=h.lt k z;have:=(hb k hk).1;omega⟩⟩)
 exact⟨a,m4.trans b' (fun _ _ x=>x.elim) (fun _ _ x=>x),fun k hk=>(c k hk).imp id (fun y=>Nat.le_trans m4.size y),d⟩
theorem rF {w:World}{sg mg:Nat}{vo jv q:Value}{R:List PV}{J:List JV}{n:Int}{ys:List UInt8} (h:KM w sg mg vo R jv J n) (hq:Rd w q ys) (ly:ys.length≤1000000) (ok:fH (aB R)) (hn:R.length≤1000000) (hJ:J.length≤1000000) (hU:∀ q∈J,q.us.length≤1000000) (hv:∀ v,jZ (aB R) ys=some v→v.length≤1000000) :
  Calls Try.prog 59 #[.pointer (some ⟨sg,0,none⟩),q] w fun e w'=>e = .returned (.tuple #[])∧∃ J',KT w w' sg mg vo R jv J vo R jv J' n∧rX J J' ys (jZ (aB R) ys):=by
 obtain⟨aq,cq,rfl,_⟩:=hq.form
 have m1:ae aj w ((w.alloc (.cells #[.pointer (some ⟨sg,0,none⟩)] 26)).alloc (.cells #[.slice aq ys.length cq] 77)):=((ae.refl aj w).alloc _).alloc _
 have b1:((w.alloc (.cells #[.pointer (some ⟨sg,0,none⟩)] 26)).alloc (.cells #[.slice aq ys.length cq] 77)).heap[w.heap.size]?=some (.cells #[.pointer (some ⟨sg,0,none⟩)] 26 (0,0)):=dS (bC w _) _
 have b2:((w.alloc (.cells #[.pointer (some ⟨sg,0,none⟩)] 26)).alloc (.cells #[.slice aq ys.length cq] 77)).heap[w.heap.size+1]?=some (.cells #[.slice aq ys.length cq] 77 (0,0)):=by have:=bC (w.alloc (.cells #[.pointer (some ⟨sg,0,none⟩)] 26)) (.cells #[.slice aq ys.length cq] 77);rwa [World.size_alloc] at this
 have k1:=h.keep0 m1
 have c1:=k1.cells.2.1
 have d1:=(ai b1 0)
 have d2:=(ai b2 0)
 rcases J.eq_nil_or_concat with rfl | ⟨A,q0,hJe⟩
 ·obtain⟨a,c,hjv,_⟩:=h.row.rd.form
  simp only [List.length_nil] at hjv
  have H:=lh (show KT w ((w.alloc (.cells #[.pointer (some ⟨sg,0,none⟩)] 26)).alloc (.cells #[.slice aq ys.length cq] 77)) sg mg vo R jv [] vo R jv [] n from (KT.refl h).then0 m1)
  rw [hjv] at c1
  clear h hq m1 k1 hJ hU hv ok b1 b2
  go_enter Try.func59,Try.ntmps59
  go_wp2
  refine bodyPost_ret (by simp [results,Try.results59,go_sem];try rfl) rfl ?_
  exact⟨rfl,[],H.out,.inl ⟨rfl,rfl⟩⟩
 ·rw [List.concat_eq_append] at hJe
  subst hJe
  rcases h.row.ob with ⟨_,h0,_⟩ | ⟨b,off,cap,hjv,ob⟩
  ·simp at h0
  have hl1:(A ++ [q0]).length=A.length+1:=by simp
  rw [hl1] at hjv ob hJ
  have hq0:q0∈A ++ [q0]:=List.mem_append_right _ (List.mem_singleton.2 rfl)
  have hq1:=hq.keep m1 (fun _ _ x=>x)
  have CL:=lh (uC hq1 ly)
  have KW:=lh h
  have hsg:=h.lt sg (.inl rfl)
  have M1:=lh m1
  have B1:=lh b1
  have B2:=lh b2
  have OKH:=lh (And.intro ok (And.intro hn (And.intro hJ (And.intro (hU q0 hq0) hv))))
  have hS1:((w.alloc (.cells #[.pointer (some ⟨sg,0,none⟩)] 26)).alloc (.cells #[.slice aq ys.length cq] 77)).heap.size=w.heap.size+2:=by simp
  have HS1:=lh hS1
  rw [hjv] at c1
  clear h hq m1 k1 hJ hU hv ok b1 b2 hq1 hS1
  go_enter Try.func59,Try.ntmps59
  go_wp2_with fail
  refine CL.out.mono ?_
  rintro e w2 ⟨v2,rfl,o2,m2,f2⟩
  have B2a:=m2.heap B2.out (fun x=>x)
  have e2:=ai B2a 0
  have e3:=dw B2a 0
  have hs2:=m2.size
  rw [HS1.out] at hs2
  have n2:∀ k,v2.ownBlock=some k→w.heap.size+2≤k:=fun k hk=>by have:=f2 k hk;have:=HS1.out;omega
  have O2:=lh o2
  obtain⟨W3,hW3⟩:∃ W3,W3=w2.setCell ⟨w.heap.size+1,0,none⟩ v2:=⟨_,rfl⟩
  have m3:ae (fun k=>k=w.heap.size+1) w2 W3:=by rw [hW3];exact (ae.refl (fun k=>k=w.heap.size+1) w2).setCell (p:=⟨w.heap.size+1,0,none⟩) (.inl rfl) _
  have M3:=lh (show ae aj w W3 from (M1.out.then0 m2).trans m3 (fun _ _ x=>x) (fun i hi x=>by omega))
  have B13:=lh (m3.heap (m2.heap B1.out (fun x=>x)) (show ¬ w.heap.size=w.heap.size+1 by omega))
  have B23:=lh (show W3.heap[w.heap.size+1]?=some (.cells #[v2] 77 (0,0)) by rw [hW3];exact heap_set B2a 0 v2)
  have O3:=lh (o2.keep m3 (fun k hk x=>by have:=n2 k hk;omega))
  have N2:=lh n2
  have S3:=lh (show w.heap.size+2≤W3.heap.size by have:=m3.size;omega)
  obtain⟨a2,cc2,rfl,_⟩:=o2.rd.form
  clear o2 m2 f2 hs2 n2 m3 M1 B1 B2 CL B2a
  go_upto_region 4 with fail
  rw [← hW3]
  clear e2 e3 hW3
  have K3:=KW.out.keep0 M3.out
  have c3:=K3.cells.1
  have GET:=lh (fun b' (hm:ae aj W3 b')=>DU (K3.keep0 hm).pm (O3.out.rd.keep hm (fun _ _ x=>x)) OKH.out.1 OKH.out.2.1)
  have hsg3:sg<W3.heap.size:=by have:=S3.out;omega
  rcases hg:jZ (aB R) ys with _ | v
  ·rw [hg] at GET OKH
   refine gJ (d := .region 4 (aJ 4 Try.f59) true) (by kernel_rfl) ?_
   refine RW.wp (kvn4f B13.out B23.out c3 hsg3 (xs:=[]) GET.out ?_)
   intros
   rename_i obx v7 W4 hb hO o7 f7 m4 n7
   have K4:=K3.keep0 m4
   have b14:=m4.heap B13.out (fun x=>x)
   have b24:=m4.heap B23.out (fun x=>x)
   have s4:=m4.size
   have s3:=S3.out
   have c4:=K4.cells.2.1
   rw [hjv] at c4
   have ob4:=ob.keep (M3.out.then0 m4) (fun x=>x)
   have q0b:∀ k,q0.jv.ownBlock=some k→k<w.heap.size:=fun k hk=>(KW.out.pg q0 hq0).lt k hk
   have hx:kS W4 sg ⟨.func (.func 86) #[] #[.pointer (some ⟨w.heap.size,0,none⟩),.pointer (some ⟨w.heap.size+1,0,none⟩)],⟨ys,none⟩,w.heap.size,w.heap.size+1,obx,.slice a2 ys.length cc2,v7⟩:=⟨b14,b24,O3.out.rd.keep m4 (fun _ _ x=>x),ly,rfl⟩
   have hxb:∀ k,UB ⟨.func (.func 86) #[] #[.pointer (some ⟨w.heap.size,0,none⟩),.pointer (some ⟨w.heap.size+1,0,none⟩)],⟨ys,none⟩,w.heap.size,w.heap.size+1,obx,.slice a2 ys.length cc2,v7⟩ k→w.heap.size≤k∧k<W4.heap.size:=by
    rintro k (hk | hk | hk | ⟨hs,hk | hk⟩)
    ·simp only at hk;omega
    ·simp only at hk;omega
    ·exact⟨by have:=N2.out k hk;omega,Nat.lt_of_lt_of_le (O3.out.lt k hk) s4⟩
    ·simp at hs
    ·simp at hs
   have HX:=lh hx
   have HXB:=lh hxb
   have M4:=lh (M3.out.then0 m4)
   clear hx hxb hO o7 f7 n7 GET m4 K3 b24 hb
   go_upto_region 8 with fail
   rw [show (A.length:Int)+1=((A.length+1:Nat):Int) from by omega]
   refine gJ (d := .region 8 (aJ 8 Try.f59) true) (by kernel_rfl) ?_
   refine RW.wp (kvn8 (l:=q0.us.length) (us:=q0.us.map (·.c)) b14 c4 (by omega) ob4 (by simp) (K4.pg q0 hq0) (by have:=OKH.out.2.2.1;omega) OKH.out.2.2.2.1 (fun x=>(KW.out.s2 b (by rw [hjv];rfl)).2 q0 hq0 x) (fun x=>by have:=q0b _ x;omega) (fun x=>KW.out.s1.2.2 q0 hq0 x) ?_)
   intros
   rename_i v8 W8 W9 o8 m8 f8 e9
   have FIN:=lh (tH KW.out M4.out hjv HX.out HXB.out o8 m8 f8 e9)
   clear o8 m8 f8 e9 K4 c4 ob4 b14 ob
   go_wp2
   go_end0
   replace FIN:=FIN.out
   rw [hjv] at FIN
   exact⟨rfl,_,FIN,.inr ⟨A,q0,_,_,rfl,rfl,rfl⟩⟩
  ·rw [hg] at GET OKH
   refine gJ (d := .region 4 (aJ 4 Try.f59) true) (by kernel_rfl) ?_
   refine RW.wp (kvn4t B13.out B23.out c3 hsg3 (xs:=v) GET.out ?_)
   intros
   rename_i obx v7 W4 hb hO o7 f7 m4 n7
   have K4:=K3.keep0 m4
   have b14:=m4.heap B13.out (fun x=>x)
   have b24:=m4.heap B23.out (fun x=>x)
   have s4:=m4.size
   have s3:=S3.out
   have c4:=K4.cells.2.1
   rw [hjv] at c4
   have ob4:=ob.keep (M3.out.then0 m4) (fun x=>x)
   have q0b:∀ k,q0.jv.ownBlock=some k→k<w.heap.size:=fun k hk=>(KW.out.pg q0 hq0).lt k hk
   have hx:kS W4 sg ⟨.func (.func 88) #[] #[.pointer (some ⟨w.heap.size,0,none⟩),.pointer (some ⟨w.heap.size+1,0,none⟩),.pointer (some ⟨obx,0,none⟩)],⟨ys,some v⟩,w.heap.size,w.heap.size+1,obx,.slice a2 ys.length cc2,v7⟩:=⟨b14,b24,O3.out.rd.keep m4 (fun _ _ x=>x),ly,⟨rfl,hO,o7.rd,OKH.out.2.2.2.2 v rfl⟩⟩
   have hxb:∀ k,UB ⟨.func (.func 88) #[] #[.pointer (some ⟨w.heap.size,0,none⟩),.pointer (some ⟨w.heap.size+1,0,none⟩),.pointer (some ⟨obx,0,none⟩)],⟨ys,some v⟩,w.heap.size,w.heap.size+1,obx,.slice a2 ys.length cc2,v7⟩ k→w.heap.size≤k∧k<W4.heap.size:=by
    rintro k (hk | hk | hk | ⟨hs,hk | hk⟩)
    ·simp only at hk;omega
    ·simp only at hk;omega
    ·exact⟨by have:=N2.out k hk;omega,Nat.lt_of_lt_of_le (O3.out.lt k hk) s4⟩
    ·simp only at hk;subst hk;exact⟨by omega,lt_of_heap hO⟩
    ·exact⟨f7.of (by omega) k hk,o7.lt k hk⟩
   have HX:=lh hx
   have HXB:=lh hxb
   have M4:=lh (M3.out.then0 m4)
   clear hx hxb hO o7 f7 n7 GET m4 K3 b24 hb
   go_upto_region 8 with fail
   rw [show (A.length:Int)+1=((A.length+1:Nat):Int) from by omega]
   refine gJ (d := .region 8 (aJ 8 Try.f59) true) (by kernel_rfl) ?_
   refine RW.wp (kvn8 (l:=q0.us.length) (us:=q0.us.map (·.c)) b14 c4 (by omega) ob4 (by simp) (K4.pg q0 hq0) (by have:=OKH.out.2.2.1;omega) OKH.out.2.2.2.1 (fun x=>(KW.out.s2 b (by rw [hjv];rfl)).2 q0 hq0 x) (fun x=>by have:=q0b _ x;omega) (fun x=>KW.out.s1.2.2 q0 hq0 x) ?_)
   intros
   rename_i v8 W8 W9 o8 m8 f8 e9
   have FIN:=lh (tH KW.out M4.out hjv HX.out HXB.out o8 m8 f8 e9)
   clear o8 m8 f8 e9 K4 c4 ob4 b14 ob
   go_wp2
   go_end0
   replace FIN:=FIN.out
   rw [hjv] at FIN
   exact⟨rfl,_,FIN,.inr ⟨A,q0,_,_,rfl,rfl,rfl⟩⟩
open Go.Gl Go.RowKit
def ik (k v:List UInt8):Nat:=if k.length<1∨64<k.length then 60 else if 4096<v.length then 61 else 0
theorem KM.rdk {w:World}{sg mg:Nat}{vo jv q:Value}{R:List PV}{J:List JV}{n:Int}{ys:List UInt8} (h:KM w sg mg vo R jv J n) (hq:Rd w q ys) (hqs:Off (KS sg mg vo R jv J) q ys) {vo' jv':Value}{R':List PV}{J':List JV}{n':Int}{w':World} (t:KT w w' sg mg vo R jv J vo' R' jv' J' n') :
  Rd w' q ys:=hqs.keep hq t.mods
theorem BZ {w:World}{sg mg:Nat}{vo jv q u:Value}{R:List PV}{J:List JV}{n:Int}{ks vs:List UInt8} (h:KM w sg mg vo R jv J n) (hq:Rd w q ks) (hu:Rd w u vs) (hqs:Off (KS sg mg vo R jv J) q ks) (hus:Off (KS sg mg vo R jv J) u vs)
  (h0:0≤n) (h1:n≤4611686018427387904) (ok:fH (aB R)) (hn:R.length≤1000000) (hc:cnt (aB R)≤1000000000) (hJ:J.length≤1000000) (hU:∀ q∈J,q.us.length≤1000000) (hv:∀ v,jZ (aB R) ks=some v→v.length≤1000000) :
  Calls Try.prog 30 #[.pointer (some ⟨sg,0,none⟩),q,u] w fun e w'=>e = .returned (.int .i64 (ik ks vs:Nat)) ∧
   ((ik ks vs≠0∧KT w w' sg mg vo R jv J vo R jv J (n+1))∨(ik ks vs=0∧∃ vo' R' J',KT w w' sg mg vo R jv J vo' R' jv J' (n+1)∧aB R'=lU (aB R) ks vs∧rX J J' ks (jZ (aB R) ks))):=by
 have ADD:=lh (h.add h0 h1)
 have HM:=lh h
 have HQ:=lh (And.intro hq hqs)
 have HU:=lh (And.intro hu hus)
 obtain⟨aq,cq,rfl,_⟩:=hq.form
 obtain⟨au,cu,rfl,_⟩:=hu.form
 have PR:=lh (And.intro ok (And.intro hn (And.intro hc (And.intro hJ (And.intro hU hv)))))
 clear h hq hu hqs hus ok hn hc hJ hU hv h0 h1
 by_cases hk:ks.length<1∨64<ks.length
 ·have he:ik ks vs=60:=if_pos hk
  refine Calls.mono (R:=fun e w'=>e = .returned (.int .i64 60)∧KT w w' sg mg vo R jv J vo R jv J (n+1)) ?_ (fun e w' ⟨a,b⟩=>⟨by rw [he];exact a,.inl ⟨by rw [he];decide,b⟩⟩)
  clear he
  go_enter Try.func30,Try.ntmps30
  go_wp2_with fail
  refine ADD.out.mono ?_
  rintro e w1 ⟨rfl,t1,m1⟩
  have T1:=lh t1
  clear t1 m1 ADD HQ HU PR HM
  rcases hk with hk | hk
  ·go_wp2
   go_ret
   exact⟨rfl,T1.out⟩
  ·go_wp2
   go_ret
   exact⟨rfl,T1.out⟩
 ·by_cases hl:4096<vs.length
  ·have he:ik ks vs=61:=by unfold ik;rw [if_neg hk,if_pos hl]
   refine Calls.mono (R:=fun e w'=>e = .returned (.int .i64 61)∧KT w w' sg mg vo R jv J vo R jv J (n+1)) ?_ (fun e w' ⟨a,b⟩=>⟨by rw [he];exact a,.inl ⟨by rw [he];decide,b⟩⟩)
   clear he
   obtain⟨hk1,hk2⟩:=not_or.1 hk
   go_enter Try.func30,Try.ntmps30
   go_wp2_with fail
   refine ADD.out.mono ?_
   rintro e w1 ⟨rfl,t1,m1⟩
   have T1:=lh t1
   clear t1 m1 ADD HQ HU PR HM hk
   go_wp2
   go_ret
   exact⟨rfl,T1.out⟩
  ·have he:ik ks vs=0:=by unfold ik;rw [if_neg hk,if_neg hl]
   refine Calls.mono (R:=fun e w'=>e = .returned (.int .i64 0)∧∃ vo' R' J',KT w w' sg mg vo R jv J vo' R' jv J' (n+1)∧aB R'=lU (aB R) ks vs∧rX J J' ks (jZ (aB R) ks)) ?_ (fun e w' ⟨a,b⟩=>⟨by rw [he];exact a,.inr ⟨he,b⟩⟩)
   clear he
   obtain⟨hk1,hk2⟩:=not_or.1 hk
   have HK:=lh (show ks.length≤1000000∧vs.length≤1000000∧ks.length≠0 by omega)
   go_enter Try.func30,Try.ntmps30
   go_wp2_with fail
   refine ADD.out.mono ?_
   rintro e w1 ⟨rfl,t1,m1⟩
   have q1:=HM.out.rdk HQ.out.1 HQ.out.2 t1
   have ND:=lh (rF t1.km q1 HK.out.1 PR.out.1 PR.out.2.1 PR.out.2.2.2.1 PR.out.2.2.2.2.1 PR.out.2.2.2.2.2)
   have T1:=lh t1
   clear t1 m1 ADD q1 hk
   go_wp2_with fail
   refine ND.out.mono ?_
   rintro e w2 ⟨rfl,J',t2,nt⟩
   have t12:=T1.out.trans t2
   have q2:=HM.out.rdk HQ.out.1 HQ.out.2 t12
   have u2:=HM.out.rdk HU.out.1 HU.out.2 t12
   have SETC:=lh (DN t12.km.pm q2 u2 HK.out.1 HK.out.2.1 PR.out.1 PR.out.2.1 PR.out.2.2.1)
   have T2:=lh t12
   have NT:=lh nt
   have c2:=t12.km.cells.1
   clear t2 t12 nt q2 u2 ND T1
   go_wp2_with fail
   refine SETC.out.mono ?_
   rintro e w3 ⟨vo',R',rfl,t3,e3⟩
   have T3:=lh (T2.out.trans (T2.out.km.map t3))
   have E3:=lh e3
   clear t3 e3 SETC c2 T2
   go_wp2
   go_ret
   exact⟨rfl,vo',R',J',T3.out,E3.out,NT.out⟩
theorem xw {w:World}{sg mg:Nat}{vo jv q:Value}{R:List PV}{J:List JV}{n:Int}{ks:List UInt8} (h:KM w sg mg vo R jv J n) (hq:Rd w q ks) (hqs:Off (KS sg mg vo R jv J) q ks) (lk:ks.length≤1000000)
  (h0:0≤n) (h1:n≤4611686018427387904) (ok:fH (aB R)) (hn:R.length≤1000000) (hc:cnt (aB R)≤1000000000) (hJ:J.length≤1000000) (hU:∀ q∈J,q.us.length≤1000000) (hv:∀ v,jZ (aB R) ks=some v→v.length≤1000000) :
  Calls Try.prog 64 #[.pointer (some ⟨sg,0,none⟩),q] w fun e w'=>e = .returned (.bool (aK (aB R) ks).2.2)∧∃ vo' R' J',KT w w' sg mg vo R jv J vo' R' jv J' (n+1)∧aB R'=iV (aB R) ks∧rX J J' ks (jZ (aB R) ks):=by
 have ADD:=lh (h.add h0 h1)
 have HM:=lh h
 have HQ:=lh (And.intro hq hqs)
 obtain⟨aq,cq,rfl,_⟩:=hq.form
 have PR:=lh (And.intro ok (And.intro hn (And.intro hc (And.intro hJ (And.intro hU hv)))))
 obtain⟨B,hB⟩:∃ B,(aK (aB R) ks).2.2=B:=⟨_,rfl⟩
 rw [hB]
 clear h hq hqs ok hn hc hJ hU hv h0 h1
 have HB:=lh hB
 have HK:=lh lk
 clear hB lk
 go_enter Try.func64,Try.ntmps64
 go_wp2_with fail
 refine ADD.out.mono ?_
 rintro e w1 ⟨rfl,t1,m1⟩
 have q1:=HM.out.rdk HQ.out.1 HQ.out.2 t1
 have ND:=lh (rF t1.km q1 HK.out PR.out.1 PR.out.2.1 PR.out.2.2.2.1 PR.out.2.2.2.2.1 PR.out.2.2.2.2.2)
 have T1:=lh t1
 clear t1 m1 ADD q1
 go_wp2_with fail
 refine ND.out.mono ?_
 rintro e w2 ⟨rfl,J',t2,nt⟩
 have t12:=T1.out.trans t2
 have q2:=HM.out.rdk HQ.out.1 HQ.out.2 t12
 have SETC:=lh (yY t12.km.pm q2 PR.out.1 PR.out.2.1 PR.out.2.2.1)
 have T2:=lh t12
 have NT:=lh nt
 have c2:=t12.km.cells.1
 clear t2 t12 nt q2 ND T1
 go_wp2_with fail
 refine SETC.out.mono ?_
 rintro e w3 ⟨vo',R',rfl,t3,e3⟩
 rw [HB.out]
 have T3:=lh (T2.out.trans (T2.out.km.map t3))
 have E3:=lh e3
 clear t3 e3 SETC c2 T2
 go_wp2
 go_ret
 exact⟨rfl,vo',R',J',T3.out,E3.out,NT.out⟩
open Go.Gl Go.RowKit
open Go.Gl Go.RowKit
section
variable {w:World}{g n:Nat}{F:List aN}{Ws:List (List aN)}{S D:Nat→Prop}
end
open Go.Gl Go.RowKit
open Go.Gl Go.RowKit
end Go.Proofs.Ytglkmaalpammcaa
namespace Go.Gl
open Go.RowKit
def jY (base:Nat) (V:Nat→Prop) (J:Nat→(Nat→Prop)→World→Prop):Prop :=
 ∀ i U U' A B,J i U A→ae (fun k=>U k∧(V k∨base≤k)) A B→(∀ k,U k→k<A.heap.size)→(∀ k,U' k→U k∨A.heap.size≤k)→J i U' B
def xN (P:Program) (l:Nat) (args:Array Value) (W:World) (R:Ending→World→Prop):Prop:=YieldAt Fence.wide 3 P l args W R
def ig (args:Array Value) (k:Nat):Prop:=∃ v,v∈args∧v.ownBlock=some k
def Iter (P:Program) (gf:FuncId) (lb:Array Value) (n:Nat) (A:Nat→(Nat→Prop)→Array Value→World→Prop) (U0 V:Nat→Prop) (w:World):Prop :=
 ∀ (l:Nat) (J Jx:Nat→(Nat→Prop)→World→Prop) (W:World),ae (fun k=>¬ U0 k) w W→jY W.heap.size V J→jY W.heap.size V Jx →
  (∀ i U args W1,i<n→J i U W1→A i U args W1→(∀ k,U k→k<W1.heap.size)→W.heap.size≤W1.heap.size→J i (fun k=>U k∨ig args k) W1→(∀ k,ig args k→k<W1.heap.size)→xN P l args W1 fun e W' =>
   (e = .returned (.bool true)∧J (i+1) U W'∧ae (fun k=>¬ U k) W1 W')∨(e = .returned (.bool false)∧Jx (i+1) U W'∧ae (fun k=>¬ U k) W1 W')) →
  J 0 U0 W →
  Calls P gf (#[.func (.yield l) #[] #[]] ++ lb) W fun e W'=>(∃ v,e = .returned v)∧((∃ U,J n U W'∧∀ k,U k→k<W'.heap.size)∨(∃ i U,i<n∧Jx (i+1) U W'∧∀ k,U k→k<W'.heap.size))
theorem dB (W:World) (l:Nat) (o:Obj):ae (fun k=>k=l) W (W.putObj l o) :=
 ⟨rfl,rfl,rfl,by simp,fun k _ hk=>World.putObj_heap_other hk⟩
def uQ (I:Nat→(Nat→Prop)→World→Prop) (Ix:Code→Nat→(Nat→Prop)→World→Prop) (U:Nat→Prop) (i:Nat) (W:World):Exit→Act→World→Prop
 | .normal,_,W'=>ae (fun k=>¬ U k) W W'∧I (i+1) U W'
 | .ret,_,W'=>ae (fun k=>¬ U k) W W'∧Ix .ret (i+1) U W'
 | .exit id,_,W'=>ae (fun k=>¬ U k) W W'∧Ix (.exit id) (i+1) U W'
 | .goto t,_,W'=>ae (fun k=>¬ U k) W W'∧Ix (.goto t) (i+1) U W'
 | .panic _,_,_=>False
 | .outgrown,_,_=>False
def nP (A:Nat→(Nat→Prop)→Array Value→World→Prop):Prop :=
 ∀ i U args W l o,A i U args W→W.heap[l]?=some o→o.isCells=false→A i (fun k=>U k∨k=l) args W
section
variable {P:Program}{r:Option Nat}
def iD:List Tmp→List Value→Array Value→Array Value
 | p :: ps,v :: vs,t=>iD ps vs (t.setIfInBounds p v)
 | _,_,t=>t
theorem xu (ps:List Tmp) (vs:List Value):∀ t:Array Value,(ps.zip vs).foldl (fun t (p,v)=>t.setIfInBounds p v) t=iD ps vs t:=by
  induction ps generalizing vs with
  | nil=>intro t;cases vs <;> rfl
  | cons p ps ih =>
    intro t
    cases vs with
    | nil=>rfl
    | cons v vs=>exact ih vs _
theorem qO {rec:LoopState→Option Code→Loop}{l i:Nat}{fn:FuncId}{tm:Array Value}{ps:Array Tmp}{assign body:Code}{args:Array Value}{W:World}{base:Nat}{V U:Nat→Prop}
    {I:Nat→(Nat→Prop)→World→Prop}{Ix:Code→Nat→(Nat→Prop)→World→Prop}{df:Nat}
    (hrec:rec=fun st pe=>{ state:=st,pending:=pe,fn,tmps:=tm,params:=ps,assign,body,defers:=df }) (hI:jY base V I) (hIx:∀ c,jY base V (Ix c)) (hl:W.heap[l]?=some (.loop (rec .ready none))) (hps:args.size=ps.size) (hlb:base≤l) (hUl:U l) (hUs:∀ k,U k→k<W.heap.size)
    (h:assign.wpIn (WF (some l)) 3 P (Exit.then (fun a1 W1=>ae (fun k=>¬ U k) W W1∧∀ W2,ae (fun k=>k=l) W1 W2→(∃ r,W2.heap[l]?=some (.loop r))→body.wpIn (WF (some l)) 3 P (uQ I Ix U i W2) a1 W2) (fun _ _ _=>False))
      { tmps:=iD ps.toList args.toList tm,defers:=[] } W)
    (R:Ending→World→Prop)
    (hn:∀ W',I (i+1) U W'→ae (fun k=>¬ U k∨k=l) W W'→W'.heap[l]?=some (.loop (rec .ready none))→R (.returned (.bool true)) W')
    (hx:∀ c W',Ix c (i+1) U W'→ae (fun k=>¬ U k∨k=l) W W'→W'.heap[l]?=some (.loop (rec .done (some c)))→R (.returned (.bool false)) W') :
    xN P l args W R:=by
  have hy:=run_yield (P:=P) (args:=args) hl (by rw [hrec];exact hps)
  rw [hrec] at hy
  have ep:(ps.zip args).foldl (fun t (p,v)=>t.setIfInBounds p v) tm=iD ps.toList args.toList tm:=by rw [← xu,← Array.foldl_toList,Array.toList_zip]
  rw [← ep] at h
  refine⟨fn,_,assign,body,hy,RoundIn.room (r:=none) (r':=none) (roundIn_of_wpIn (F:=WF none) (n:=3) trivial (wpIn_mono h ?_))⟩
  rintro e a1 W1 he
  cases e with
  | normal =>
    obtain⟨m1,hb⟩:=he
    have hl1:W1.heap[l]?=some (.loop (rec .ready none)):=(m1.block l (lt_of_heap hl) (fun hk=>hk hUl)).trans hl
    have hlt1:=lt_of_heap hl1
    refine⟨_,run_beginRound hl1 (by rw [hrec]),?_⟩
    have hl2:(W1.putObj l (.loop { rec .ready none with state := .busy })).heap[l]?=some (.loop { rec .ready none with state := .busy }):=World.putObj_heap_same hlt1
    refine wpIn_mono (hb _ (dB W1 l _) ⟨_,hl2⟩) ?_
    have fin:∀ (jump:Option Code) (Wc:World),ae (fun k=>¬ U k) (W1.putObj l (.loop { rec .ready none with state := .busy })) Wc →
        (Instr.endRound l jump).run P Wc = .ok (.bool jump.isNone) (Wc.putObj l (.loop (rec (if jump.isNone then .ready else .done) jump)))∧(Wc.putObj l (.loop (rec (if jump.isNone then .ready else .done) jump))).heap[l]?=some (.loop (rec (if jump.isNone then .ready else .done) jump)) ∧
        ae (fun k=>¬ U k∨k=l) W (Wc.putObj l (.loop (rec (if jump.isNone then .ready else .done) jump)))∧ae (fun k=>U k∧(V k∨base≤k)) Wc (Wc.putObj l (.loop (rec (if jump.isNone then .ready else .done) jump)))∧(∀ k,U k→k<Wc.heap.size):=fun jump Wc m3=>by
      have hl3:=(m3.block l (by simpa using hlt1) (fun hk=>hk hUl)).trans hl2
      have hr:=run_endRound (P:=P) jump hl3
      have hm:=((m1.trans (dB W1 l _) (U:=fun k=>¬ U k∨k=l) (fun _ _ x => .inl x) (fun _ _ x => .inr x)).trans m3 (U:=fun k=>¬ U k∨k=l) (fun _ _ x=>x) (fun _ _ x => .inl x))
      refine⟨?_,World.putObj_heap_same (lt_of_heap hl3),hm.trans (dB Wc l _) (fun _ _ x=>x) (fun _ _ x => .inr x),(dB Wc l _).mono (fun k _ hk=>by subst hk;exact⟨hUl,.inr hlb⟩),fun k hk=>Nat.lt_of_lt_of_le (hUs k hk) hm.size⟩
      rw [hrec] at hr ⊢
      exact hr
    rintro e a3 Wc hp
    cases e with
    | normal =>
      obtain⟨m3,hi3⟩:=hp
      obtain⟨hr,k1,k2,k3,k4⟩:=fin none Wc m3
      exact⟨_,_,hr,hn _ (hI _ _ _ _ _ hi3 k3 k4 (fun k hk => .inl hk)) k2 k1⟩
    | ret =>
      obtain⟨m3,hi3⟩:=hp
      obtain⟨hr,k1,k2,k3,k4⟩:=fin (some .ret) Wc m3
      exact⟨_,_,hr,hx .ret _ (hIx _ _ _ _ _ _ hi3 k3 k4 (fun k hk => .inl hk)) k2 k1⟩
    | exit id =>
      obtain⟨m3,hi3⟩:=hp
      obtain⟨hr,k1,k2,k3,k4⟩:=fin (some (.exit id)) Wc m3
      exact⟨_,_,hr,hx (.exit id) _ (hIx _ _ _ _ _ _ hi3 k3 k4 (fun k hk => .inl hk)) k2 k1⟩
    | goto t =>
      obtain⟨m3,hi3⟩:=hp
      obtain⟨hr,k1,k2,k3,k4⟩:=fin (some (.goto t)) Wc m3
      exact⟨_,_,hr,hx (.goto t) _ (hIx _ _ _ _ _ _ hi3 k3 k4 (fun k hk => .inl hk)) k2 k1⟩
    | panic ch=>exact hp.elim
    | outgrown=>exact hp.elim
  | _=>exact he.elim
theorem qH {g:Operand}{ps:Array Tmp}{assign body:Code}{Q:Exit→Act→World→Prop}{a:Act}{w:World}{gf:FuncId}{lb:Array Value} (hg:a.eval g = .func (.func gf) #[] lb) (eg:∀ args w,(callFunc gf args).run P w = .ok (.enter gf args) w)
  {n:Nat}{A:Nat→(Nat→Prop)→Array Value→World→Prop}{U0 V:Nat→Prop}{w0:World} (it:Iter P gf lb n A U0 V w0) (h0:ae (fun k=>¬ U0 k) w0 w) (hU:∀ k,U0 k→k<w.heap.size) (hA:nP A) (hps:∀ i U args W,A i U args W→args.size=ps.size)
  (I:Nat→(Nat→Prop)→World→Prop) (Ix:Code→Nat→(Nat→Prop)→World→Prop) (hI:jY w.heap.size V I) (hIx:∀ c,jY w.heap.size V (Ix c)) (hs:I 0 U0 w)
  (hround:∀ l i U args W,w.heap.size≤l→U l→i<n→I i U W→A i U args W→(∀ k,U k→k<W.heap.size)→w.heap.size≤W.heap.size→(∃ r,W.heap[l]?=some (.loop r))→I i (fun k=>U k∨ig args k) W→(∀ k,ig args k→k<W.heap.size) →
   assign.wpIn (WF (some l)) 3 P (Exit.then (fun a1 W1=>ae (fun k=>¬ U k) W W1∧∀ W2,ae (fun k=>k=l) W1 W2→(∃ r,W2.heap[l]?=some (.loop r))→body.wpIn (WF (some l)) 3 P (uQ I Ix U i W2) a1 W2) (fun _ _ _=>False))
    { tmps:=iD ps.toList args.toList a.tmps,defers:=[] } W)
  (hdone:∀ D U W,w.heap.size≤D→U D→(∀ k,U k→k<W.heap.size)→I n U W→W.heap[D]?=some (.deferred (some []))→Q .normal { a with defers:={ target := .collected D,args:=#[] } :: a.defers } W)
  (hstop:∀ D c i U W,w.heap.size≤D→U D→(∀ k,U k→k<W.heap.size)→i<n→Ix c (i+1) U W→W.heap[D]?=some (.deferred (some []))→c.wpIn (WF none) 3 P Q { a with defers:={ target := .collected D,args:=#[] } :: a.defers } W) :
  (Code.rangeFunc g ps assign body).wpIn (WF none) 3 P Q a w:=by
 refine wpIn_rangeFunc ?_
 intro fn hfn
 obtain⟨rec,hrec⟩:∃ rec:LoopState→Option Code→Loop,rec=fun st pe=>{ state:=st,pending:=pe,fn,tmps:=a.tmps,params:=ps,assign,body,defers:=w.heap.size }:=⟨_,rfl⟩
 obtain⟨W1,hW1⟩:∃ W1,(w.alloc (.deferred (some []))).alloc (.loop (rec .ready none))=W1:=⟨_,rfl⟩
 have hm1:ae aj w W1:=by rw [← hW1];exact ((ae.refl aj w).alloc _).alloc _
 have hsz:W1.heap.size=w.heap.size+2:=by rw [← hW1];simp
 have hL1:W1.heap[w.heap.size+1]?=some (.loop (rec .ready none)):=by
  rw [← hW1];have:=World.alloc_heap_new (w.alloc (.deferred (some []))) (.loop (rec .ready none));rwa [World.size_alloc] at this
 have hK1:W1.heap[w.heap.size]?=some (.deferred (some [])):=by
  rw [← hW1];exact dS (bC w _) _
 obtain⟨l,hl⟩:∃ l,l=w.heap.size+1:=⟨_,rfl⟩
 obtain⟨D,hD⟩:∃ D,D=w.heap.size:=⟨_,rfl⟩
 rw [← hl] at hL1
 rw [← hD] at hK1
 have hw1:ae (fun k=>¬ U0 k) w0 W1:=h0.trans hm1 (fun _ _ x=>x) (fun _ _ x=>x.elim)
 have hUD:∀ (U:Nat→Prop) k,(U k∨k=l)∨k=D↔U k∨k=l∨k=D:=fun U k=>by rw [or_assoc]
 refine⟨l,[{ target := .collected D,args:=#[] }],W1,{ target := .fn (.func gf) lb,args:=#[.func (.yield l) #[] #[]] },W1,gf,#[.func (.yield l) #[] #[]] ++ lb,W1,?_,?_,?_,?_,fun h=>by simp [Fence.wide] at h,?_⟩
 ·rw [← hW1,hrec,hl,hD];exact run_enterLoop_outer _ _ _ _ _
 ·simp only [resolve,hg]
  simp [go_sem]
 ·intro f' hf';trivial
 ·simp [invoke,go_sem,eg]
 ·refine jW.2 ((it l (fun i U W=>I i (fun k=>(U k∨k=l)∨k=D) W∧¬ U l∧¬ U D∧W.heap[l]?=some (.loop (rec .ready none))∧W.heap[D]?=some (.deferred (some [])))
   (fun i U W=>∃ c,Ix c i (fun k=>(U k∨k=l)∨k=D) W∧¬ U l∧¬ U D∧W.heap[l]?=some (.loop (rec .done (some c)))∧W.heap[D]?=some (.deferred (some [])))
   W1 hw1 ?_ ?_ ?_ ⟨hI _ _ _ _ _ hs (hm1.mono (fun _ _ x=>x.elim)) hU (fun k hk=>by rcases hk with (h | h) | h;exact .inl h;exact .inr (by omega);exact .inr (by omega)),fun h=>by have:=hU l h;omega,fun h=>by have:=hU D h;omega,hL1,hK1⟩).mono ?_)
  ·rintro i U U' X Y ⟨hi,h1,h2,h3,h4⟩ hm hus hsub
   have hlX:=lt_of_heap h3
   have hDX:=lt_of_heap h4
   refine⟨hI _ _ _ _ _ hi (hm.mono (fun k _ hk=>⟨.inl (.inl hk.1),hk.2.imp id (fun h=>by omega)⟩)) (fun k hk=>by rcases hk with (h | h) | h;exact hus k h;omega;omega) (fun k hk=>by
    rcases hk with (h | h) | h
    ·exact (hsub k h).imp (fun x => .inl (.inl x)) id
    ·exact .inl (.inl (.inr h))
    ·exact .inl (.inr h)),fun h=>by rcases hsub l h with h | h;exact h1 h;omega,fun h=>by rcases hsub D h with h | h;exact h2 h;omega,(hm.block l hlX (fun hk=>h1 hk.1)).trans h3,(hm.block D hDX (fun hk=>h2 hk.1)).trans h4⟩
  ·rintro i U U' X Y ⟨c,hi,h1,h2,h3,h4⟩ hm hus hsub
   have hlX:=lt_of_heap h3
   have hDX:=lt_of_heap h4
   refine⟨c,hIx c _ _ _ _ _ hi (hm.mono (fun k _ hk=>⟨.inl (.inl hk.1),hk.2.imp id (fun h=>by omega)⟩)) (fun k hk=>by rcases hk with (h | h) | h;exact hus k h;omega;omega) (fun k hk=>by
    rcases hk with (h | h) | h
    ·exact (hsub k h).imp (fun x => .inl (.inl x)) id
    ·exact .inl (.inl (.inr h))
    ·exact .inl (.inr h)),fun h=>by rcases hsub l h with h | h;exact h1 h;omega,fun h=>by rcases hsub D h with h | h;exact h2 h;omega,(hm.block l hlX (fun hk=>h1 hk.1)).trans h3,(hm.block D hDX (fun hk=>h2 hk.1)).trans h4⟩
  ·rintro i U args W hin ⟨hi,h1,h2,h3,h4⟩ hargs hus hge ⟨hi',_,_,_,_⟩ hab
   have hlW:=lt_of_heap h3
   have hDW:=lt_of_heap h4
   have hA2:=hA _ _ _ _ D _ (hA _ _ _ _ l _ hargs h3 rfl) h4 rfl
   have hus2:∀ k,((U k∨k=l)∨k=D)→k<W.heap.size:=fun k hk=>by rcases hk with (h | h) | h;exact hus k h;omega;omega
   refine qO (base:=w.heap.size) (V:=V) (U:=fun k=>(U k∨k=l)∨k=D) (i:=i) hrec hI hIx h3 (hps _ _ _ _ hargs) (by omega) (.inl (.inr rfl)) hus2 (hround l i _ args W (by omega) (.inl (.inr rfl)) hin hi hA2 hus2 (by omega) ⟨_,h3⟩
    (hI _ _ _ _ _ hi' (ae.refl _ _) (fun k hk=>by rcases hk with ((h | h) | h) | h;exact hus k h;exact hab k h;omega;omega) (fun k hk=>by rcases hk with ((h | h) | h) | h;exact .inl (.inl (.inl (.inl h)));exact .inl (.inl (.inr h));exact .inl (.inr h);exact .inl (.inl (.inl (.inr h))))) hab) _ ?_ ?_
   ·intro W' hi' hm' hl'
    have hD':W'.heap[D]?=some (.deferred (some [])):=(hm'.block D hDW (fun hk=>by rcases hk with hk | hk;exact hk (.inr rfl);omega)).trans h4
    exact .inl ⟨rfl,⟨hi',h1,h2,hl',hD'⟩,hm'.mono (fun k _ hk hu=>by rcases hk with hk | hk;exact hk (.inl (.inl hu));exact h1 (hk▸hu))⟩
   ·intro c W' hi' hm' hl'
    have hD':W'.heap[D]?=some (.deferred (some [])):=(hm'.block D hDW (fun hk=>by rcases hk with hk | hk;exact hk (.inr rfl);omega)).trans h4
    exact .inr ⟨rfl,⟨c,hi',h1,h2,hl',hD'⟩,hm'.mono (fun k _ hk hu=>by rcases hk with hk | hk;exact hk (.inl (.inl hu));exact h1 (hk▸hu))⟩
  ·rintro e W2 ⟨⟨v,rfl⟩,(⟨U,⟨hi,h1,h2,h3,h4⟩,hus⟩ | ⟨i,U,hin,⟨c,hi,h1,h2,h3,h4⟩,hus⟩)⟩
   ·refine⟨none,_,by have:=run_endLoop (P:=P) h3 (by rw [hrec];simp);rw [hrec] at this;exact this,?_⟩
    have hlW:=lt_of_heap h3
    have hDW:=lt_of_heap h4
    exact hdone D (fun k=>(U k∨k=l)∨k=D) _ (by omega) (.inr rfl) (fun k hk=>by rw [World.putObj_size];rcases hk with (h | h) | h;exact hus k h;omega;omega) (hI _ _ _ _ _ hi ((dB W2 l _).mono (fun k _ hk=>by subst hk;exact⟨.inl (.inr rfl),.inr (by omega)⟩)) (fun k hk=>by rcases hk with (h | h) | h;exact hus k h;omega;omega) (fun k hk => .inl hk)) ((World.putObj_heap_other (by omega)).trans h4)
   ·refine⟨some c,_,by have:=run_endLoop (P:=P) h3 (by rw [hrec];simp);rw [hrec] at this;exact this,?_⟩
    have hlW:=lt_of_heap h3
    have hDW:=lt_of_heap h4
    exact hstop D c i (fun k=>(U k∨k=l)∨k=D) _ (by omega) (.inr rfl) (fun k hk=>by rw [World.putObj_size];rcases hk with (h | h) | h;exact hus k h;omega;omega) hin (hIx c _ _ _ _ _ hi ((dB W2 l _).mono (fun k _ hk=>by subst hk;exact⟨.inl (.inr rfl),.inr (by omega)⟩)) (fun k hk=>by rcases hk with (h | h) | h;exact hus k h;omega;omega) (fun k hk => .inl hk)) ((World.putObj_heap_other (by omega)).trans h4)
section
variable {ops:Array Oper}{Q:Exit→Act→World→Prop}{n:Nat}
theorem gW {id:Nat}{a:Act}{w:World}{draws:Bool}{Q1:Exit→Act→World→Prop} (m:Nat) (hB:(if draws then Bj ops.toList m else decide (m<ops.size) && nz ops && iT ops)=true) (h:RW P (ops.toList.take m).toArray draws Q1 a w)
    (hG:∀ a w,Q1 .normal a w→wpOpsIn (WF r) n P ops Q (List.range' m (ops.size - m)) a w):(Code.region id ops draws).wpIn (WF r) n P Q a w:=by
  have e:ops.toList.toArray=ops:=Array.toArray_toList
  have el:ops.toList.length=ops.size:=Array.length_toList
  cases draws with
  | true =>
    have:=qB (id:=id) (l:=ops.toList) (Q:=Q) (r:=r) (n:=n) m hB h (by rw [e,el];exact hG)
    rw [e] at this
    exact this
  | false =>
    have:=pI (id:=id) (l:=ops.toList) (Q:=Q) (r:=r) (n:=n) m (by rw [e,el];exact hB) h (by rw [e,el];exact hG)
    rw [e] at this
    exact this
theorem jo {i l:Nat}{rest:List Nat}{a:Act}{w:World}{vs:Array Value}{R:Ending→World→Prop} (d:Option Tmp) (h:lY ops i a d true) (hd:iT ops=true) (hrun:(execOp a.eval (jL ops i)).run P w=(Instr.yield l vs).run P w) (hy:xN P l vs w R)
  (hK:∀ e w',R e w'→∃ v,e = .returned v∧wpOpsIn (WF r) n P ops Q rest (a.put d v) w'):wpOpsIn (WF r) n P ops Q (i :: rest) a w:=by
 obtain⟨h1,rfl,h2⟩:=h
 rw [wpOpsIn_cons]
 unfold wpOpIn
 simp only [jG h1,h2,if_true]
 refine⟨fun _ _=>trivial,?_⟩
 obtain⟨fn,tmps,assign,body,hyr,hR⟩:=hy
 rw [Oper.semAt_eq _ _ _ (jJ hd (jG h1)),hrun,hyr,Oper.uponIn_round]
 refine⟨fun h=>by simp [Fence.wide] at h,(RoundIn.room (r:=none) (r':=r) hR).mono (fun e w' he=>?_)⟩
 obtain⟨v,rfl,hv⟩:=hK e w' he
 exact hv
theorem eX {i:Nat}{rest:List Nat}{a:Act}{w:World} (v:Value) (d:Option Tmp) (h:lY ops i a d true) (hd:iT ops=true) (hrun:(execOp a.eval (jL ops i)).run P w = .ok (.value v) w)
  (hK:wpOpsIn (WF r) n P ops Q rest (a.put d v) w):wpOpsIn (WF r) n P ops Q (i :: rest) a w:=by
 obtain⟨h1,rfl,h2⟩:=h
 rw [wpOpsIn_cons]
 unfold wpOpIn
 simp only [jG h1,h2,if_true]
 refine⟨fun _ _=>trivial,?_⟩
 rw [Oper.semAt_eq _ _ _ (jJ hd (jG h1)),hrun,Oper.uponIn_value]
 exact hK
theorem bP {n:Nat}{Q:Exit→Act→World→Prop}{a:Act}{w:World}{c d:Code} (e:c=d) (h:d.wpIn (WF r) n P Q a w):c.wpIn (WF r) n P Q a w:=e▸h
end
theorem vT {f:FuncId}{fn:Func}{args:Array Value}{w:World}{R:Ending→World→Prop} (c:Code) (hf:P.funcs[f]?=some fn) (hb:fn.body=some c)
  (h:c.wpIn (WF none) 3 P (bodyPost P fn R) { tmps:=args ++ Array.replicate (fn.ntmps - args.size) undef,defers:=[] } w):Calls P f args w R:=(jW (r:=none) (n:=3)).1 (callsIn_of_wp hf hb trivial h)
theorem kG {f:FuncId}{fn:Func}{args:Array Value}{w:World}{R:Ending→World→Prop} (c:Code) (hf:P.funcs[f]?=some fn) (hb:fn.body=some c)
  (h:c.wpIn (WF none) 3 P (bodyPostM (WF none) 3 P fn R) { tmps:=args ++ Array.replicate (fn.ntmps - args.size) undef,defers:=[] } w):Calls P f args w R:=(jW (r:=none) (n:=3)).1 (callsIn_of_wp_marks hf hb trivial h)
theorem gQ {fn:Func}{R:Ending→World→Prop}{tmps:Array Value}{D:Nat}{W:World}{v:Value} (hK:W.heap[D]?=some (.deferred (some []))) (hr:(results fn tmps).run P (W.putObj D (.deferred none)) = .ok v (W.putObj D (.deferred none))) (h:R (.returned v) (W.putObj D (.deferred none))) :
  LeavesInM (WF none) 3 P fn tmps R [{ target := .collected D,args:=#[] }] .returning W:=by
 refine⟨by simp,.inl ⟨_,_,rfl,run_takeDeferred hK,?_⟩⟩
 exact⟨_,hr,h⟩
theorem bG {K:Act→World→Prop}{Q:Exit→Act→World→Prop}{a:Act}{w:World} (h:K a w):Exit.then K Q .normal a w:=h
theorem lL {K:Act→World→Prop}{Q:Exit→Act→World→Prop}{a:Act}{w:World} (h:Q .ret a w):Exit.then K Q .ret a w:=h
theorem wB {K:Act→World→Prop}{Q:Exit→Act→World→Prop}{a:Act}{w:World}{i:Nat} (h:Q (.exit i) a w):Exit.then K Q (.exit i) a w:=h
theorem jD {id:Nat}{Q:Exit→Act→World→Prop}{a:Act}{w:World} (h:Q .ret a w):Exit.inBlock id Q .ret a w:=h
theorem sS {id:Nat}{Q:Exit→Act→World→Prop}{a:Act}{w:World} (h:Q .normal a w):Exit.inBlock id Q (.exit id) a w:=by simp only [Exit.inBlock,if_true];exact h
theorem Cf {id j:Nat}{Q:Exit→Act→World→Prop}{a:Act}{w:World} (hne:¬ j=id) (h:Q (.exit j) a w):Exit.inBlock id Q (.exit j) a w:=by simp only [Exit.inBlock,hne,if_false];exact h
theorem iC {id:Nat}{Q:Exit→Act→World→Prop}{a:Act}{w:World} (h:Q .normal a w):Exit.inBlock id Q .normal a w:=h
end
end Go.Gl
namespace Go.Proofs.Ytglkmaalpammcaa
open Go.Gl Go.RowKit
def qN (df:List Deferred) (v0 v1 v2 v4 v5:Value) (a:Act):Prop:=∃ x3 x6 x7 x8 x9 aS bn bi bg aO aP aV aT aW aX aY aQ bu bz bD bK bI bJ bH bT bU cO cZ dh di bY bZ dQ dJ dK dL dD dE dF dG dH dI dC dU dV dZ ed dW dX eu eF eG eU eH eP eQ dY:Value,a=⟨#[v0,v1,v2,x3,v4,v5,x6,x7,x8,x9,aS,bn,bi,bg,aO,aP,aV,aT,aW,aX,aY,aQ,bu,bz,bD,bK,bI,bJ,bH,bT,bU,cO,cZ,dh,di,bY,bZ,dQ,dJ,dK,dL,dD,dE,dF,dG,dH,dI,dC,dU,dV,dZ,ed,dW,dX,eu,eF,eG,eU,eH,eP,eQ,dY],df⟩
theorem qN.mk {df:List Deferred}{v0 v1 v2 v4 v5 x3 x6 x7 x8 x9 aS bn bi bg aO aP aV aT aW aX aY aQ bu bz bD bK bI bJ bH bT bU cO cZ dh di bY bZ dQ dJ dK dL dD dE dF dG dH dI dC dU dV dZ ed dW dX eu eF eG eU eH eP eQ dY:Value}:qN df v0 v1 v2 v4 v5 ⟨#[v0,v1,v2,x3,v4,v5,x6,x7,x8,x9,aS,bn,bi,bg,aO,aP,aV,aT,aW,aX,aY,aQ,bu,bz,bD,bK,bI,bJ,bH,bT,bU,cO,cZ,dh,di,bY,bZ,dQ,dJ,dK,dL,dD,dE,dF,dG,dH,dI,dC,dU,dV,dZ,ed,dW,dX,eu,eF,eG,eU,eH,eP,eQ,dY],df⟩:=⟨x3,x6,x7,x8,x9,aS,bn,bi,bg,aO,aP,aV,aT,aW,aX,aY,aQ,bu,bz,bD,bK,bI,bJ,bH,bT,bU,cO,cZ,dh,di,bY,bZ,dQ,dJ,dK,dL,dD,dE,dF,dG,dH,dI,dC,dU,dV,dZ,ed,dW,dX,eu,eF,eG,eU,eH,eP,eQ,dY,rfl⟩
theorem qN.elim {df:List Deferred}{v0 v1 v2 v4 v5:Value}{a:Act}{C:Act→Prop} (h:qN df v0 v1 v2 v4 v5 a) (k:∀ x3 x6 x7 x8 x9 aS bn bi bg aO aP aV aT aW aX aY aQ bu bz bD bK bI bJ bH bT bU cO cZ dh di bY bZ dQ dJ dK dL dD dE dF dG dH dI dC dU dV dZ ed dW dX eu eF eG eU eH eP eQ dY:Value,C ⟨#[v0,v1,v2,x3,v4,v5,x6,x7,x8,x9,aS,bn,bi,bg,aO,aP,aV,aT,aW,aX,aY,aQ,bu,bz,bD,bK,bI,bJ,bH,bT,bU,cO,cZ,dh,di,bY,bZ,dQ,dJ,dK,dL,dD,dE,dF,dG,dH,dI,dC,dU,dV,dZ,ed,dW,dX,eu,eF,eG,eU,eH,eP,eQ,dY],df⟩):C a:=by
 obtain⟨x3,x6,x7,x8,x9,aS,bn,bi,bg,aO,aP,aV,aT,aW,aX,aY,aQ,bu,bz,bD,bK,bI,bJ,bH,bT,bU,cO,cZ,dh,di,bY,bZ,dQ,dJ,dK,dL,dD,dE,dF,dG,dH,dI,dC,dU,dV,dZ,ed,dW,dX,eu,eF,eG,eU,eH,eP,eQ,dY,rfl⟩:=h
 exact k _ _ _ _ _ _ _ _ _ _ _ _ _ _ _ _ _ _ _ _ _ _ _ _ _ _ _ _ _ _ _ _ _ _ _ _ _ _ _ _ _ _ _ _ _ _ _ _ _ _ _ _ _ _ _ _ _
section
variable {x0 x1 x2 x3 x4 x5 x6 x7 x8 x9 aS bn bi bg aO aP aV aT aW aX aY aQ bu bz bD bK bI bJ bH bT bU cO cZ dh di bY bZ dQ dJ dK dL dD dE dF dG dH dI dC dU dV dZ ed dW dX eu eF eG eU eH eP eQ dY:Value}{df:List Deferred}{Q:Exit→Act→World→Prop}
theorem ris0e {w:World}{m g cap n:Nat}{ao:Option Addr} (c1:w.cell? ⟨m,0,none⟩=some (.pointer (some ⟨g,0,none⟩))) (c2:w.cell? ⟨g,0,none⟩=some (.slice ao n cap)) (hn:n=0)
  (hK:∀ (y7 y8 y9 iW jP:Value)  (w':World),w'=w→Q .normal ⟨#[x0,.pointer (some ⟨m,0,none⟩),x2,x3,x4,x5,x6,y7,y8,y9,iW,jP,.bool true,bg,aO,aP,aV,aT,aW,aX,aY,aQ,bu,bz,bD,bK,bI,bJ,bH,bT,bU,cO,cZ,dh,di,bY,bZ,dQ,dJ,dK,dL,dD,dE,dF,dG,dH,dI,dC,dU,dV,dZ,ed,dW,dX,eu,eF,eG,eU,eH,eP,eQ,dY],df⟩ w'):RW Try.prog (aJ 0 Try.f100) false Q ⟨#[x0,.pointer (some ⟨m,0,none⟩),x2,x3,x4,x5,x6,x7,x8,x9,aS,bn,bi,bg,aO,aP,aV,aT,aW,aX,aY,aQ,bu,bz,bD,bK,bI,bJ,bH,bT,bU,cO,cZ,dh,di,bY,bZ,dQ,dJ,dK,dL,dD,dE,dF,dG,dH,dI,dC,dU,dV,dZ,ed,dW,dX,eu,eF,eG,eU,eH,eP,eQ,dY],df⟩ w:=by
 have HQ:=lh hK
 clear hK
 refine bV [(0,false),(1,false),(2,false),(3,false),(4,false),(5,false)] (by kernel_rfl) ?_
 refine aG (ag g 0) _ (some 7) (ki (by kernel_rfl)) (aC (x:=(.tmp 1)) (by kernel_rfl) (by kernel_rfl) (aH ((fun _=>c1) (trivial)) Try.underlying66 rfl)) (fun _=>trivial) ?_
 refine az [1,2] [ag g 0,ag g 0] rfl (by kernel_rfl) (by kernel_rfl) (.inr trivial) ?_
 refine aG ((.slice ao n cap)) _ (some 10) (ki (by kernel_rfl)) (aC (x:=(.tmp 9)) (by kernel_rfl) (by kernel_rfl) (aH ((fun _=>c2) (trivial)) Try.underlying116 rfl)) (fun _=>trivial) ?_
 refine az [4] [.int .i64 ((n:Nat):Int)] rfl (by kernel_rfl) (by kernel_rfl) (.inr trivial) ?_
 refine aG (.bool true) _ (some 12) (ki (by kernel_rfl)) (bM (t:=3) (t':=3) (xv := .int .i64 ((n:Nat):Int)) (yv := .int .i64 0) (x:=(.tmp 11)) (y:=(.const (.int .i64 0))) (by kernel_rfl) (by kernel_rfl) (by kernel_rfl) (fun _=>by kernel_rfl) (nV _ (decide_eq_true (by omega)))) (fun _=>trivial) ?_
 exact aA (aZ (K:=Q .normal) (by kernel_rfl) (HQ.out (ag g 0) (ag g 0) (ag g 0) ((.slice ao n cap)) (.int .i64 ((n:Nat):Int)) _ rfl))
theorem ris0n {w:World}{m g cap n:Nat}{ao:Option Addr} (c1:w.cell? ⟨m,0,none⟩=some (.pointer (some ⟨g,0,none⟩))) (c2:w.cell? ⟨g,0,none⟩=some (.slice ao n cap)) (hn:¬ n=0)
  (hK:∀ (y7 y8 y9 iW jP:Value)  (w':World),w'=w→Q .normal ⟨#[x0,.pointer (some ⟨m,0,none⟩),x2,x3,x4,x5,x6,y7,y8,y9,iW,jP,.bool false,bg,aO,aP,aV,aT,aW,aX,aY,aQ,bu,bz,bD,bK,bI,bJ,bH,bT,bU,cO,cZ,dh,di,bY,bZ,dQ,dJ,dK,dL,dD,dE,dF,dG,dH,dI,dC,dU,dV,dZ,ed,dW,dX,eu,eF,eG,eU,eH,eP,eQ,dY],df⟩ w'):RW Try.prog (aJ 0 Try.f100) false Q ⟨#[x0,.pointer (some ⟨m,0,none⟩),x2,x3,x4,x5,x6,x7,x8,x9,aS,bn,bi,bg,aO,aP,aV,aT,aW,aX,aY,aQ,bu,bz,bD,bK,bI,bJ,bH,bT,bU,cO,cZ,dh,di,bY,bZ,dQ,dJ,dK,dL,dD,dE,dF,dG,dH,dI,dC,dU,dV,dZ,ed,dW,dX,eu,eF,eG,eU,eH,eP,eQ,dY],df⟩ w:=by
 have HQ:=lh hK
 clear hK
 refine bV [(0,false),(1,false),(2,false),(3,false),(4,false),(5,false)] (by kernel_rfl) ?_
 refine aG (ag g 0) _ (some 7) (ki (by kernel_rfl)) (aC (x:=(.tmp 1)) (by kernel_rfl) (by kernel_rfl) (aH ((fun _=>c1) (trivial)) Try.underlying66 rfl)) (fun _=>trivial) ?_
 refine az [1,2] [ag g 0,ag g 0] rfl (by kernel_rfl) (by kernel_rfl) (.inr trivial) ?_
 refine aG ((.slice ao n cap)) _ (some 10) (ki (by kernel_rfl)) (aC (x:=(.tmp 9)) (by kernel_rfl) (by kernel_rfl) (aH ((fun _=>c2) (trivial)) Try.underlying116 rfl)) (fun _=>trivial) ?_
 refine az [4] [.int .i64 ((n:Nat):Int)] rfl (by kernel_rfl) (by kernel_rfl) (.inr trivial) ?_
 refine aG (.bool false) _ (some 12) (ki (by kernel_rfl)) (bM (t:=3) (t':=3) (xv := .int .i64 ((n:Nat):Int)) (yv := .int .i64 0) (x:=(.tmp 11)) (y:=(.const (.int .i64 0))) (by kernel_rfl) (by kernel_rfl) (by kernel_rfl) (fun _=>by kernel_rfl) (nV _ (decide_eq_false (by omega)))) (fun _=>trivial) ?_
 exact aA (aZ (K:=Q .normal) (by kernel_rfl) (HQ.out (ag g 0) (ag g 0) (ag g 0) ((.slice ao n cap)) (.int .i64 ((n:Nat):Int)) _ rfl))
theorem ris1 {w:World}{m bf g p:Nat}{fv:Value} (c1:w.cell? ⟨m,0,none⟩=some (.pointer (some ⟨g,0,none⟩))) (c2:w.cell? ⟨bf,0,none⟩=some fv) (hC:Calls Try.prog 101 #[.pointer (some ⟨g,0,none⟩),fv] w fun e w'=>e = .returned (.int .i64 (p:Nat))∧ae aj w w')
  (hK:∀ (jQ iY jA:Value)  (w':World),ae aj w w'→Q .normal ⟨#[x0,.pointer (some ⟨m,0,none⟩),.pointer (some ⟨bf,0,none⟩),x3,.int .i64 ((p:Nat):Int),x5,x6,x7,x8,x9,aS,bn,bi,jQ,iY,jA,aV,aT,aW,aX,aY,aQ,bu,bz,bD,bK,bI,bJ,bH,bT,bU,cO,cZ,dh,di,bY,bZ,dQ,dJ,dK,dL,dD,dE,dF,dG,dH,dI,dC,dU,dV,dZ,ed,dW,dX,eu,eF,eG,eU,eH,eP,eQ,dY],df⟩ w'):RW Try.prog (aJ 1 Try.f100) false Q ⟨#[x0,.pointer (some ⟨m,0,none⟩),.pointer (some ⟨bf,0,none⟩),x3,x4,x5,x6,x7,x8,x9,aS,bn,bi,bg,aO,aP,aV,aT,aW,aX,aY,aQ,bu,bz,bD,bK,bI,bJ,bH,bT,bU,cO,cZ,dh,di,bY,bZ,dQ,dJ,dK,dL,dD,dE,dF,dG,dH,dI,dC,dU,dV,dZ,ed,dW,dX,eu,eF,eG,eU,eH,eP,eQ,dY],df⟩ w:=by
 have HQ:=lh hK
 clear hK
 refine bV [(0,false),(1,false),(2,false),(3,false)] (by kernel_rfl) ?_
 refine aG (ag g 0) _ (some 13) (ki (by kernel_rfl)) (aC (x:=(.tmp 1)) (by kernel_rfl) (by kernel_rfl) (aH ((fun _=>c1) (trivial)) Try.underlying66 rfl)) (fun _=>trivial) ?_
 refine aG (fv) _ (some 14) (ki (by kernel_rfl)) (aC (x:=(.tmp 2)) (by kernel_rfl) (by kernel_rfl) (aH ((fun _=>c2) (trivial)) Try.underlying77 rfl)) (fun _=>trivial) ?_
 refine bF (some 15) (ki (by kernel_rfl)) hC (fun _=>by kernel_rfl) ?_
 rintro r w7 ⟨rfl,m7⟩
 refine⟨_,rfl,fun _=>trivial,?_⟩
 refine az [3] [.int .i64 ((p:Nat):Int)] rfl (by kernel_rfl) (by kernel_rfl) (.inr trivial) ?_
 exact aA (aZ (K:=Q .normal) (by kernel_rfl) (HQ.out (ag g 0) (fv) (.int .i64 ((p:Nat):Int)) w7 m7))
theorem ris2 {w:World}{m bf g p b off n cap i pc k:Nat}{ap:Option Addr}{fv:Value}{B:Bool} (c1:∀ b',ae aj w b'→b'.cell? ⟨m,0,none⟩=some (.pointer (some ⟨g,0,none⟩))) (c2:∀ b',ae aj w b'→b'.cell? ⟨g,0,none⟩=some (.slice (some ⟨b,off,none⟩) n cap)) (c3:∀ b',ae aj w b'→b'.cell? ⟨b,off+p,none⟩=some (.slice ap k pc)) (c4:∀ b',ae aj w b'→b'.cell? ⟨bf,0,none⟩=some fv) (hp:p<n) (hC:∀ b',ae aj w b'→Calls Try.prog 102 #[.slice ap k pc,fv] b' fun e w'=>e = .returned (.tuple #[.int .i64 (i:Nat),.bool B])∧ae aj b' w')
  (hK:∀ (y6 jB iZ ja jC kH kJ jc jd jR je jS y27:Value)  (w':World),ae aj w w'→Q .normal ⟨#[x0,.pointer (some ⟨m,0,none⟩),.pointer (some ⟨bf,0,none⟩),x3,.int .i64 ((p:Nat):Int),.int .i64 ((i:Nat):Int),y6,x7,x8,x9,aS,bn,bi,bg,aO,aP,jB,iZ,ja,jC,kH,kJ,jc,jd,jR,je,jS,y27,bH,bT,bU,cO,cZ,dh,di,bY,bZ,dQ,dJ,dK,dL,dD,dE,dF,dG,dH,dI,dC,dU,dV,dZ,ed,dW,dX,eu,eF,eG,eU,eH,eP,eQ,dY],df⟩ w'):RW Try.prog (aJ 2 Try.f100) true Q ⟨#[x0,.pointer (some ⟨m,0,none⟩),.pointer (some ⟨bf,0,none⟩),x3,.int .i64 ((p:Nat):Int),x5,x6,x7,x8,x9,aS,bn,bi,bg,aO,aP,aV,aT,aW,aX,aY,aQ,bu,bz,bD,bK,bI,bJ,bH,bT,bU,cO,cZ,dh,di,bY,bZ,dQ,dJ,dK,dL,dD,dE,dF,dG,dH,dI,dC,dU,dV,dZ,ed,dW,dX,eu,eF,eG,eU,eH,eP,eQ,dY],df⟩ w:=by
 have HQ:=lh hK
 clear hK
 have HC:=lh hC
 have Q1:=lh c1
 have Q2:=lh c2
 have Q3:=lh c3
 have Q4:=lh c4
 clear hC c1 c2 c3 c4
 have MR:=lh ((ae.refl aj w).drew)
 refine iJ (S:=fun b'=>ae aj w b') [(0,true),(1,true),(2,true),(3,true),(4,true),(5,true),(6,true),(7,true),(8,false),(9,true),(10,true),(11,true),(12,true),(13,true)] [] [(0,2,131072),(1,131072,262144),(2,262144,524288),(4,524288,1048576),(0,16,2097152),(24,3145728,4194304),(32,4194304,8388608),(0,4,16777216),(192,25165824,33554432),(256,33554432,65536),(512,65536,67108864),(512,65536,134217728),(2047,67108864,32),(8191,134217728,64)] (by kernel_rfl) (by kernel_rfl) (by kernel_rfl) (by kernel_rfl) (by kernel_rfl) MR.out ?_
 refine af (ag g 0) (some 17) (ki (by kernel_rfl)) (fun bb hb=>aC (x:=(.tmp 1)) (by kernel_rfl) (by kernel_rfl) (aH (Q1.out _ hb) Try.underlying66 rfl)) ?_
 refine ah [1,2] [ag g 0,ag g 0] rfl (by kernel_rfl) (fun _=>by kernel_rfl) ?_
 refine af (.slice (some ⟨b,off,none⟩) n cap) (some 20) (ki (by kernel_rfl)) (fun bb hb=>aC (x:=(.tmp 19)) (by kernel_rfl) (by kernel_rfl) (aH (Q2.out _ hb) Try.underlying116 rfl)) ?_
 refine ah [4] [.int .i64 ((p:Nat):Int)] rfl (by kernel_rfl) (fun _=>by kernel_rfl) ?_
 refine af (ag b (off+p)) (some 22) (ki (by kernel_rfl)) (fun bb hb=>fG (s:=1) (e:=153) (g:=b) (off:=off) (n:=n) (c:=cap) (i:=((p:Nat):Int)) (x:=(.tmp 20)) (y:=(.tmp 21)) (off+p) (by kernel_rfl) (by kernel_rfl) (by kernel_rfl) Try.underlying116 (by kernel_rfl) (by omega) (by omega) (by omega)) ?_
 refine af ((.slice ap k pc)) (some 23) (ki (by kernel_rfl)) (fun bb hb=>aC (x:=(.tmp 22)) (by kernel_rfl) (by kernel_rfl) (aH (Q3.out _ hb) Try.underlying153 rfl)) ?_
 refine af (fv) (some 24) (ki (by kernel_rfl)) (fun bb hb=>aC (x:=(.tmp 2)) (by kernel_rfl) (by kernel_rfl) (aH (Q4.out _ hb) Try.underlying77 rfl)) ?_
 refine bF (some 25) (ki (by kernel_rfl)) (HC.out _ MR.out) (fun _=>by kernel_rfl) ?_
 rintro r w7 ⟨rfl,m7⟩
 replace MR:=lh (MR.out.then0 m7)
 refine⟨_,rfl,fun _=>MR.out,?_⟩
 refine ah [9,10,11,12,13] [.tuple #[.int .i64 ((i:Nat):Int),.bool B],.int .i64 ((i:Nat):Int),.bool B,.int .i64 ((i:Nat):Int),.bool B] rfl (by kernel_rfl) (fun _=>by kernel_rfl) ?_
 exact aA (aZ (K:=Q .normal) (by kernel_rfl) (HQ.out (.bool B) (.tuple #[.int .i64 ((i:Nat):Int),.bool B]) (ag g 0) (ag g 0) (ag g 0) (.slice (some ⟨b,off,none⟩) n cap) (.int .i64 ((p:Nat):Int)) (ag b (off+p)) ((.slice ap k pc)) (fv) (.tuple #[.int .i64 ((i:Nat):Int),.bool B]) (.int .i64 ((i:Nat):Int)) (.bool B) _ MR.out))
theorem ris3t {w:World}{m g cap n p:Nat}{ao:Option Addr} (c1:w.cell? ⟨m,0,none⟩=some (.pointer (some ⟨g,0,none⟩))) (c2:w.cell? ⟨g,0,none⟩=some (.slice ao n cap)) (hn:p<n)
  (hK:∀ (kK kL y30 y31 y32 y33:Value)  (w':World),w'=w→Q .normal ⟨#[x0,.pointer (some ⟨m,0,none⟩),x2,x3,.int .i64 ((p:Nat):Int),x5,x6,x7,x8,x9,aS,bn,bi,bg,aO,aP,aV,aT,aW,aX,aY,aQ,bu,bz,bD,bK,bI,bJ,kK,kL,y30,y31,y32,y33,.bool true,bY,bZ,dQ,dJ,dK,dL,dD,dE,dF,dG,dH,dI,dC,dU,dV,dZ,ed,dW,dX,eu,eF,eG,eU,eH,eP,eQ,dY],df⟩ w'):RW Try.prog (aJ 3 Try.f100) false Q ⟨#[x0,.pointer (some ⟨m,0,none⟩),x2,x3,.int .i64 ((p:Nat):Int),x5,x6,x7,x8,x9,aS,bn,bi,bg,aO,aP,aV,aT,aW,aX,aY,aQ,bu,bz,bD,bK,bI,bJ,bH,bT,bU,cO,cZ,dh,di,bY,bZ,dQ,dJ,dK,dL,dD,dE,dF,dG,dH,dI,dC,dU,dV,dZ,ed,dW,dX,eu,eF,eG,eU,eH,eP,eQ,dY],df⟩ w:=by
 have HQ:=lh hK
 clear hK
 refine bV [(0,false),(1,false),(2,false),(3,false),(4,false),(5,false),(6,false)] (by kernel_rfl) ?_
 refine az [0] [.int .i64 ((p:Nat):Int)] rfl (by kernel_rfl) (by kernel_rfl) (.inr trivial) ?_
 refine aG (ag g 0) _ (some 29) (ki (by kernel_rfl)) (aC (x:=(.tmp 1)) (by kernel_rfl) (by kernel_rfl) (aH ((fun _=>c1) (trivial)) Try.underlying66 rfl)) (fun _=>trivial) ?_
 refine az [2,3] [ag g 0,ag g 0] rfl (by kernel_rfl) (by kernel_rfl) (.inr trivial) ?_
 refine aG ((.slice ao n cap)) _ (some 32) (ki (by kernel_rfl)) (aC (x:=(.tmp 31)) (by kernel_rfl) (by kernel_rfl) (aH ((fun _=>c2) (trivial)) Try.underlying116 rfl)) (fun _=>trivial) ?_
 refine az [5] [.int .i64 ((n:Nat):Int)] rfl (by kernel_rfl) (by kernel_rfl) (.inr trivial) ?_
 refine aG (.bool true) _ (some 34) (ki (by kernel_rfl)) (bM (t:=3) (t':=3) (xv := .int .i64 ((p:Nat):Int)) (yv := .int .i64 ((n:Nat):Int)) (x:=(.tmp 28)) (y:=(.tmp 33)) (by kernel_rfl) (by kernel_rfl) (by kernel_rfl) (fun _=>by kernel_rfl) (iH _ (decide_eq_true (by omega)))) (fun _=>trivial) ?_
 exact aA (aZ (K:=Q .normal) (by kernel_rfl) (HQ.out (.int .i64 ((p:Nat):Int)) (ag g 0) (ag g 0) (ag g 0) ((.slice ao n cap)) (.int .i64 ((n:Nat):Int)) _ rfl))
theorem ris3f {w:World}{m g cap n p:Nat}{ao:Option Addr} (c1:w.cell? ⟨m,0,none⟩=some (.pointer (some ⟨g,0,none⟩))) (c2:w.cell? ⟨g,0,none⟩=some (.slice ao n cap)) (hn:¬ p<n)
  (hK:∀ (kK kL y30 y31 y32 y33:Value)  (w':World),w'=w→Q .normal ⟨#[x0,.pointer (some ⟨m,0,none⟩),x2,x3,.int .i64 ((p:Nat):Int),x5,x6,x7,x8,x9,aS,bn,bi,bg,aO,aP,aV,aT,aW,aX,aY,aQ,bu,bz,bD,bK,bI,bJ,kK,kL,y30,y31,y32,y33,.bool false,bY,bZ,dQ,dJ,dK,dL,dD,dE,dF,dG,dH,dI,dC,dU,dV,dZ,ed,dW,dX,eu,eF,eG,eU,eH,eP,eQ,dY],df⟩ w'):RW Try.prog (aJ 3 Try.f100) false Q ⟨#[x0,.pointer (some ⟨m,0,none⟩),x2,x3,.int .i64 ((p:Nat):Int),x5,x6,x7,x8,x9,aS,bn,bi,bg,aO,aP,aV,aT,aW,aX,aY,aQ,bu,bz,bD,bK,bI,bJ,bH,bT,bU,cO,cZ,dh,di,bY,bZ,dQ,dJ,dK,dL,dD,dE,dF,dG,dH,dI,dC,dU,dV,dZ,ed,dW,dX,eu,eF,eG,eU,eH,eP,eQ,dY],df⟩ w:=by
 have HQ:=lh hK
 clear hK
 refine bV [(0,false),(1,false),(2,false),(3,false),(4,false),(5,false),(6,false)] (by kernel_rfl) ?_
 refine az [0] [.int .i64 ((p:Nat):Int)] rfl (by kernel_rfl) (by kernel_rfl) (.inr trivial) ?_
 refine aG (ag g 0) _ (some 29) (ki (by kernel_rfl)) (aC (x:=(.tmp 1)) (by kernel_rfl) (by kernel_rfl) (aH ((fun _=>c1) (trivial)) Try.underlying66 rfl)) (fun _=>trivial) ?_
 refine az [2,3] [ag g 0,ag g 0] rfl (by kernel_rfl) (by kernel_rfl) (.inr trivial) ?_
 refine aG ((.slice ao n cap)) _ (some 32) (ki (by kernel_rfl)) (aC (x:=(.tmp 31)) (by kernel_rfl) (by kernel_rfl) (aH ((fun _=>c2) (trivial)) Try.underlying116 rfl)) (fun _=>trivial) ?_
 refine az [5] [.int .i64 ((n:Nat):Int)] rfl (by kernel_rfl) (by kernel_rfl) (.inr trivial) ?_
 refine aG (.bool false) _ (some 34) (ki (by kernel_rfl)) (bM (t:=3) (t':=3) (xv := .int .i64 ((p:Nat):Int)) (yv := .int .i64 ((n:Nat):Int)) (x:=(.tmp 28)) (y:=(.tmp 33)) (by kernel_rfl) (by kernel_rfl) (by kernel_rfl) (fun _=>by kernel_rfl) (iH _ (decide_eq_false (by omega)))) (fun _=>trivial) ?_
 exact aA (aZ (K:=Q .normal) (by kernel_rfl) (HQ.out (.int .i64 ((p:Nat):Int)) (ag g 0) (ag g 0) (ag g 0) ((.slice ao n cap)) (.int .i64 ((n:Nat):Int)) _ rfl))
theorem ris5t {w:World}{m g b off cap n p k i pc:Nat}{ap:Option Addr} (c1:w.cell? ⟨m,0,none⟩=some (.pointer (some ⟨g,0,none⟩))) (c2:w.cell? ⟨g,0,none⟩=some (.slice (some ⟨b,off,none⟩) n cap)) (c3:w.cell? ⟨b,off+p,none⟩=some (.slice ap k pc)) (hp:p<n) (hn:i<k)
  (hK:∀ (y37 y38 y39 y40 y41 y42 y43 y44 y45:Value)  (w':World),w'=w→Q .normal ⟨#[x0,.pointer (some ⟨m,0,none⟩),x2,x3,.int .i64 ((p:Nat):Int),.int .i64 ((i:Nat):Int),x6,x7,x8,x9,aS,bn,bi,bg,aO,aP,aV,aT,aW,aX,aY,aQ,bu,bz,bD,bK,bI,bJ,bH,bT,bU,cO,cZ,dh,di,bY,bZ,y37,y38,y39,y40,y41,y42,y43,y44,y45,.bool true,dC,dU,dV,dZ,ed,dW,dX,eu,eF,eG,eU,eH,eP,eQ,dY],df⟩ w'):RW Try.prog (aJ 5 Try.f100) false Q ⟨#[x0,.pointer (some ⟨m,0,none⟩),x2,x3,.int .i64 ((p:Nat):Int),.int .i64 ((i:Nat):Int),x6,x7,x8,x9,aS,bn,bi,bg,aO,aP,aV,aT,aW,aX,aY,aQ,bu,bz,bD,bK,bI,bJ,bH,bT,bU,cO,cZ,dh,di,bY,bZ,dQ,dJ,dK,dL,dD,dE,dF,dG,dH,dI,dC,dU,dV,dZ,ed,dW,dX,eu,eF,eG,eU,eH,eP,eQ,dY],df⟩ w:=by
 have HQ:=lh hK
 clear hK
 refine bV [(0,false),(1,false),(2,false),(3,false),(4,false),(5,false),(6,false),(7,false),(8,false),(9,false)] (by kernel_rfl) ?_
 refine az [0] [.int .i64 ((i:Nat):Int)] rfl (by kernel_rfl) (by kernel_rfl) (.inr trivial) ?_
 refine aG (ag g 0) _ (some 38) (ki (by kernel_rfl)) (aC (x:=(.tmp 1)) (by kernel_rfl) (by kernel_rfl) (aH ((fun _=>c1) (trivial)) Try.underlying66 rfl)) (fun _=>trivial) ?_
 refine az [2,3] [ag g 0,ag g 0] rfl (by kernel_rfl) (by kernel_rfl) (.inr trivial) ?_
 refine aG (.slice (some ⟨b,off,none⟩) n cap) _ (some 41) (ki (by kernel_rfl)) (aC (x:=(.tmp 40)) (by kernel_rfl) (by kernel_rfl) (aH ((fun _=>c2) (trivial)) Try.underlying116 rfl)) (fun _=>trivial) ?_
 refine az [5] [.int .i64 ((p:Nat):Int)] rfl (by kernel_rfl) (by kernel_rfl) (.inr trivial) ?_
 refine aG (ag b (off+p)) _ (some 43) (ki (by kernel_rfl)) (fG (s:=1) (e:=153) (g:=b) (off:=off) (n:=n) (c:=cap) (i:=((p:Nat):Int)) (x:=(.tmp 41)) (y:=(.tmp 42)) (off+p) (by kernel_rfl) (by kernel_rfl) (by kernel_rfl) Try.underlying116 (by kernel_rfl) (by omega) (by omega) (by omega)) (fun _=>trivial) ?_
 refine aG ((.slice ap k pc)) _ (some 44) (ki (by kernel_rfl)) (aC (x:=(.tmp 43)) (by kernel_rfl) (by kernel_rfl) (aH ((fun _=>c3) (trivial)) Try.underlying153 rfl)) (fun _=>trivial) ?_
 refine az [8] [.int .i64 ((k:Nat):Int)] rfl (by kernel_rfl) (by kernel_rfl) (.inr trivial) ?_
 refine aG (.bool true) _ (some 46) (ki (by kernel_rfl)) (bM (t:=3) (t':=3) (xv := .int .i64 ((i:Nat):Int)) (yv := .int .i64 ((k:Nat):Int)) (x:=(.tmp 37)) (y:=(.tmp 45)) (by kernel_rfl) (by kernel_rfl) (by kernel_rfl) (fun _=>by kernel_rfl) (iH _ (decide_eq_true (by omega)))) (fun _=>trivial) ?_
 exact aA (aZ (K:=Q .normal) (by kernel_rfl) (HQ.out (.int .i64 ((i:Nat):Int)) (ag g 0) (ag g 0) (ag g 0) (.slice (some ⟨b,off,none⟩) n cap) (.int .i64 ((p:Nat):Int)) (ag b (off+p)) ((.slice ap k pc)) (.int .i64 ((k:Nat):Int)) _ rfl))
theorem ris5f {w:World}{m g b off cap n p k i pc:Nat}{ap:Option Addr} (c1:w.cell? ⟨m,0,none⟩=some (.pointer (some ⟨g,0,none⟩))) (c2:w.cell? ⟨g,0,none⟩=some (.slice (some ⟨b,off,none⟩) n cap)) (c3:w.cell? ⟨b,off+p,none⟩=some (.slice ap k pc)) (hp:p<n) (hn:¬ i<k)
  (hK:∀ (y37 y38 y39 y40 y41 y42 y43 y44 y45:Value)  (w':World),w'=w→Q .normal ⟨#[x0,.pointer (some ⟨m,0,none⟩),x2,x3,.int .i64 ((p:Nat):Int),.int .i64 ((i:Nat):Int),x6,x7,x8,x9,aS,bn,bi,bg,aO,aP,aV,aT,aW,aX,aY,aQ,bu,bz,bD,bK,bI,bJ,bH,bT,bU,cO,cZ,dh,di,bY,bZ,y37,y38,y39,y40,y41,y42,y43,y44,y45,.bool false,dC,dU,dV,dZ,ed,dW,dX,eu,eF,eG,eU,eH,eP,eQ,dY],df⟩ w'):RW Try.prog (aJ 5 Try.f100) false Q ⟨#[x0,.pointer (some ⟨m,0,none⟩),x2,x3,.int .i64 ((p:Nat):Int),.int .i64 ((i:Nat):Int),x6,x7,x8,x9,aS,bn,bi,bg,aO,aP,aV,aT,aW,aX,aY,aQ,bu,bz,bD,bK,bI,bJ,bH,bT,bU,cO,cZ,dh,di,bY,bZ,dQ,dJ,dK,dL,dD,dE,dF,dG,dH,dI,dC,dU,dV,dZ,ed,dW,dX,eu,eF,eG,eU,eH,eP,eQ,dY],df⟩ w:=by
 have HQ:=lh hK
 clear hK
 refine bV [(0,false),(1,false),(2,false),(3,false),(4,false),(5,false),(6,false),(7,false),(8,false),(9,false)] (by kernel_rfl) ?_
 refine az [0] [.int .i64 ((i:Nat):Int)] rfl (by kernel_rfl) (by kernel_rfl) (.inr trivial) ?_
 refine aG (ag g 0) _ (some 38) (ki (by kernel_rfl)) (aC (x:=(.tmp 1)) (by kernel_rfl) (by kernel_rfl) (aH ((fun _=>c1) (trivial)) Try.underlying66 rfl)) (fun _=>trivial) ?_
 refine az [2,3] [ag g 0,ag g 0] rfl (by kernel_rfl) (by kernel_rfl) (.inr trivial) ?_
 refine aG (.slice (some ⟨b,off,none⟩) n cap) _ (some 41) (ki (by kernel_rfl)) (aC (x:=(.tmp 40)) (by kernel_rfl) (by kernel_rfl) (aH ((fun _=>c2) (trivial)) Try.underlying116 rfl)) (fun _=>trivial) ?_
 refine az [5] [.int .i64 ((p:Nat):Int)] rfl (by kernel_rfl) (by kernel_rfl) (.inr trivial) ?_
 refine aG (ag b (off+p)) _ (some 43) (ki (by kernel_rfl)) (fG (s:=1) (e:=153) (g:=b) (off:=off) (n:=n) (c:=cap) (i:=((p:Nat):Int)) (x:=(.tmp 41)) (y:=(.tmp 42)) (off+p) (by kernel_rfl) (by kernel_rfl) (by kernel_rfl) Try.underlying116 (by kernel_rfl) (by omega) (by omega) (by omega)) (fun _=>trivial) ?_
 refine aG ((.slice ap k pc)) _ (some 44) (ki (by kernel_rfl)) (aC (x:=(.tmp 43)) (by kernel_rfl) (by kernel_rfl) (aH ((fun _=>c3) (trivial)) Try.underlying153 rfl)) (fun _=>trivial) ?_
 refine az [8] [.int .i64 ((k:Nat):Int)] rfl (by kernel_rfl) (by kernel_rfl) (.inr trivial) ?_
 refine aG (.bool false) _ (some 46) (ki (by kernel_rfl)) (bM (t:=3) (t':=3) (xv := .int .i64 ((i:Nat):Int)) (yv := .int .i64 ((k:Nat):Int)) (x:=(.tmp 37)) (y:=(.tmp 45)) (by kernel_rfl) (by kernel_rfl) (by kernel_rfl) (fun _=>by kernel_rfl) (iH _ (decide_eq_false (by omega)))) (fun _=>trivial) ?_
 exact aA (aZ (K:=Q .normal) (by kernel_rfl) (HQ.out (.int .i64 ((i:Nat):Int)) (ag g 0) (ag g 0) (ag g 0) (.slice (some ⟨b,off,none⟩) n cap) (.int .i64 ((p:Nat):Int)) (ag b (off+p)) ((.slice ap k pc)) (.int .i64 ((k:Nat):Int)) _ rfl))
theorem ris7 {w:World}{l m g b off cap n p k i pb po pc:Nat}{u v:Value} (c1:w.cell? ⟨m,0,none⟩=some (.pointer (some ⟨g,0,none⟩))) (c2:w.cell? ⟨g,0,none⟩=some (.slice (some ⟨b,off,none⟩) n cap)) (c3:w.cell? ⟨b,off+p,none⟩=some (.slice (some ⟨pb,po,none⟩) k pc)) (c4:w.cell? ⟨pb,po+i*2,none⟩=some u) (c5:w.cell? ⟨pb,po+i*2+1,none⟩=some v) (hp:p<n) (hi:i<k)
  (hK:∀ (y50 y51 y52 y53 y54 y55 y56 y57 y58:Value)  (w':World),w'=w→Q .normal ⟨#[.func (.yield l) #[] #[],.pointer (some ⟨m,0,none⟩),x2,x3,.int .i64 ((p:Nat):Int),.int .i64 ((i:Nat):Int),x6,x7,x8,x9,aS,bn,bi,bg,aO,aP,aV,aT,aW,aX,aY,aQ,bu,bz,bD,bK,bI,bJ,bH,bT,bU,cO,cZ,dh,di,bY,bZ,dQ,dJ,dK,dL,dD,dE,dF,dG,dH,dI,dC,dU,.func (.yield l) #[] #[],y50,y51,y52,y53,y54,y55,y56,y57,y58,.agg #[u,v],eQ,dY],df⟩ w'):RW Try.prog ((aJ 7 Try.f100).toList.take 11).toArray false Q ⟨#[.func (.yield l) #[] #[],.pointer (some ⟨m,0,none⟩),x2,x3,.int .i64 ((p:Nat):Int),.int .i64 ((i:Nat):Int),x6,x7,x8,x9,aS,bn,bi,bg,aO,aP,aV,aT,aW,aX,aY,aQ,bu,bz,bD,bK,bI,bJ,bH,bT,bU,cO,cZ,dh,di,bY,bZ,dQ,dJ,dK,dL,dD,dE,dF,dG,dH,dI,dC,dU,dV,dZ,ed,dW,dX,eu,eF,eG,eU,eH,eP,eQ,dY],df⟩ w:=by
 have HQ:=lh hK
 clear hK
 refine bV [(0,false),(1,false),(2,false),(3,false),(4,false),(5,false),(6,false),(7,false),(8,false),(9,false),(10,false)] (by kernel_rfl) ?_
 refine az [0] [.func (.yield l) #[] #[]] rfl (by kernel_rfl) (by kernel_rfl) (.inr trivial) ?_
 refine aG (ag g 0) _ (some 50) (ki (by kernel_rfl)) (aC (x:=(.tmp 1)) (by kernel_rfl) (by kernel_rfl) (aH ((fun _=>c1) (trivial)) Try.underlying66 rfl)) (fun _=>trivial) ?_
 refine az [2,3] [ag g 0,ag g 0] rfl (by kernel_rfl) (by kernel_rfl) (.inr trivial) ?_
 refine aG (.slice (some ⟨b,off,none⟩) n cap) _ (some 53) (ki (by kernel_rfl)) (aC (x:=(.tmp 52)) (by kernel_rfl) (by kernel_rfl) (aH ((fun _=>c2) (trivial)) Try.underlying116 rfl)) (fun _=>trivial) ?_
 refine az [5] [.int .i64 ((p:Nat):Int)] rfl (by kernel_rfl) (by kernel_rfl) (.inr trivial) ?_
 refine aG (ag b (off+p)) _ (some 55) (ki (by kernel_rfl)) (fG (s:=1) (e:=153) (g:=b) (off:=off) (n:=n) (c:=cap) (i:=((p:Nat):Int)) (x:=(.tmp 53)) (y:=(.tmp 54)) (off+p) (by kernel_rfl) (by kernel_rfl) (by kernel_rfl) Try.underlying116 (by kernel_rfl) (by omega) (by omega) (by omega)) (fun _=>trivial) ?_
 refine aG (.slice (some ⟨pb,po,none⟩) k pc) _ (some 56) (ki (by kernel_rfl)) (aC (x:=(.tmp 55)) (by kernel_rfl) (by kernel_rfl) (aH ((fun _=>c3) (trivial)) Try.underlying153 rfl)) (fun _=>trivial) ?_
 refine az [8] [.int .i64 ((i:Nat):Int)] rfl (by kernel_rfl) (by kernel_rfl) (.inr trivial) ?_
 refine aG (ag pb (po+i*2)) _ (some 58) (ki (by kernel_rfl)) (fG (s:=2) (e:=131) (g:=pb) (off:=po) (n:=k) (c:=pc) (i:=((i:Nat):Int)) (x:=(.tmp 56)) (y:=(.tmp 57)) (po+i*2) (by kernel_rfl) (by kernel_rfl) (by kernel_rfl) Try.underlying153 (by kernel_rfl) (by omega) (by omega) (by omega)) (fun _=>trivial) ?_
 refine aG (.agg #[u,v]) _ (some 59) (ki (by kernel_rfl)) (aC (x:=(.tmp 58)) (by kernel_rfl) (by kernel_rfl) (zK [u,v] ((fun _=>uk c4 c5) (trivial)) Try.underlying131 rfl (by kernel_rfl))) (fun _=>trivial) ?_
 exact aA (aZ (K:=Q .normal) (by kernel_rfl) (HQ.out (ag g 0) (ag g 0) (ag g 0) (.slice (some ⟨b,off,none⟩) n cap) (.int .i64 ((p:Nat):Int)) (ag b (off+p)) (.slice (some ⟨pb,po,none⟩) k pc) (.int .i64 ((i:Nat):Int)) (ag pb (po+i*2)) _ rfl))
theorem ris6 {w:World}{i:Nat} (hi:i≤1000000000)
  (hK:∀ (y47 y48:Value)  (w':World),w'=w→Q .normal ⟨#[x0,x1,x2,x3,x4,.int .i64 (((i+1):Nat):Int),x6,x7,x8,x9,aS,bn,bi,bg,aO,aP,aV,aT,aW,aX,aY,aQ,bu,bz,bD,bK,bI,bJ,bH,bT,bU,cO,cZ,dh,di,bY,bZ,dQ,dJ,dK,dL,dD,dE,dF,dG,dH,dI,y47,y48,dV,dZ,ed,dW,dX,eu,eF,eG,eU,eH,eP,eQ,dY],df⟩ w'):RW Try.prog (aJ 6 Try.f100) false Q ⟨#[x0,x1,x2,x3,x4,.int .i64 ((i:Nat):Int),x6,x7,x8,x9,aS,bn,bi,bg,aO,aP,aV,aT,aW,aX,aY,aQ,bu,bz,bD,bK,bI,bJ,bH,bT,bU,cO,cZ,dh,di,bY,bZ,dQ,dJ,dK,dL,dD,dE,dF,dG,dH,dI,dC,dU,dV,dZ,ed,dW,dX,eu,eF,eG,eU,eH,eP,eQ,dY],df⟩ w:=by
 have HQ:=lh hK
 clear hK
 refine bV [(0,false),(1,false),(2,false)] (by kernel_rfl) ?_
 refine az [0] [.int .i64 ((i:Nat):Int)] rfl (by kernel_rfl) (by kernel_rfl) (.inr trivial) ?_
 refine aG (.int .i64 (((i+1):Nat):Int)) _ (some 48) (ki (by kernel_rfl)) (bM (t:=3) (t':=3) (xv := .int .i64 ((i:Nat):Int)) (yv := .int .i64 1) (x:=(.tmp 47)) (y:=(.const (.int .i64 1))) (by kernel_rfl) (by kernel_rfl) (by kernel_rfl) (fun _=>by kernel_rfl) (fP _ (by omega) (by omega) (by omega))) (fun _=>trivial) ?_
 refine az [2] [.int .i64 (((i+1):Nat):Int)] rfl (by kernel_rfl) (by kernel_rfl) (.inr trivial) ?_
 exact aA (aZ (K:=Q .normal) (by kernel_rfl) (HQ.out (.int .i64 ((i:Nat):Int)) (.int .i64 (((i+1):Nat):Int)) _ rfl))
theorem ris4 {w:World}{p:Nat} (hi:p≤1000000000)
  (hK:∀ (y35 y36:Value)  (w':World),w'=w→Q .normal ⟨#[x0,x1,x2,x3,.int .i64 (((p+1):Nat):Int),.int .i64 0,x6,x7,x8,x9,aS,bn,bi,bg,aO,aP,aV,aT,aW,aX,aY,aQ,bu,bz,bD,bK,bI,bJ,bH,bT,bU,cO,cZ,dh,di,y35,y36,dQ,dJ,dK,dL,dD,dE,dF,dG,dH,dI,dC,dU,dV,dZ,ed,dW,dX,eu,eF,eG,eU,eH,eP,eQ,dY],df⟩ w'):RW Try.prog (aJ 4 Try.f100) false Q ⟨#[x0,x1,x2,x3,.int .i64 ((p:Nat):Int),x5,x6,x7,x8,x9,aS,bn,bi,bg,aO,aP,aV,aT,aW,aX,aY,aQ,bu,bz,bD,bK,bI,bJ,bH,bT,bU,cO,cZ,dh,di,bY,bZ,dQ,dJ,dK,dL,dD,dE,dF,dG,dH,dI,dC,dU,dV,dZ,ed,dW,dX,eu,eF,eG,eU,eH,eP,eQ,dY],df⟩ w:=by
 have HQ:=lh hK
 clear hK
 refine bV [(0,false),(1,false),(2,false),(3,false)] (by kernel_rfl) ?_
 refine az [0] [.int .i64 ((p:Nat):Int)] rfl (by kernel_rfl) (by kernel_rfl) (.inr trivial) ?_
 refine aG (.int .i64 (((p+1):Nat):Int)) _ (some 36) (ki (by kernel_rfl)) (bM (t:=3) (t':=3) (xv := .int .i64 ((p:Nat):Int)) (yv := .int .i64 1) (x:=(.tmp 35)) (y:=(.const (.int .i64 1))) (by kernel_rfl) (by kernel_rfl) (by kernel_rfl) (fun _=>by kernel_rfl) (fP _ (by omega) (by omega) (by omega))) (fun _=>trivial) ?_
 refine az [2,3] [.int .i64 (((p+1):Nat):Int),.int .i64 0] rfl (by kernel_rfl) (by kernel_rfl) (.inr trivial) ?_
 exact aA (aZ (K:=Q .normal) (by kernel_rfl) (HQ.out (.int .i64 ((p:Nat):Int)) (.int .i64 (((p+1):Nat):Int)) _ rfl))
theorem wk0 {w:World}{l:Nat}{x1 x2 x3 x4 x5 x6 x7 x8 x9 aS bn bi bg aO aP aV aT aW aX aY aQ bu bz bD bK bI bJ bH bT bU:Value}{df:List Deferred}{Q:Exit→Act→World→Prop}
  (hK:∀ (bq:Nat) (w':World),bq=w.heap.size→w'.heap[bq]?=some (.cells #[.func (.yield l) #[] #[]] 97)→ae aj w w'→Q .normal ⟨#[.func (.yield l) #[] #[],x1,x2,x3,.pointer (some ⟨bq,0,none⟩),x5,x6,x7,x8,x9,aS,bn,bi,bg,aO,aP,aV,aT,aW,aX,aY,aQ,bu,bz,bD,bK,bI,bJ,bH,bT,bU],df⟩ w'):RW Try.prog (aJ 0 Try.f67) false Q ⟨#[.func (.yield l) #[] #[],x1,x2,x3,x4,x5,x6,x7,x8,x9,aS,bn,bi,bg,aO,aP,aV,aT,aW,aX,aY,aQ,bu,bz,bD,bK,bI,bJ,bH,bT,bU],df⟩ w:=by
 have HQ:=lh hK
 clear hK
 refine bV [(0,false)] (by kernel_rfl) ?_
 refine fB (.cells #[.func (.yield l) #[] #[]] 97) (some 4) (ki (by kernel_rfl)) (by kernel_rfl) ?_
 intro k1 w_k1 hk_k1 hO_k1 hm_k1 hl_k1
 refine⟨fun _=>trivial,?_⟩
 exact aA (aZ (K:=Q .normal) (by kernel_rfl) (HQ.out  k1 w_k1 hk_k1 hO_k1 hm_k1))
theorem wk1 {w:World}{m bf g:Nat}{fv:Value}{X:Nat→Nat→World→Prop} (c1:w.cell? ⟨m,0,none⟩=some (.pointer (some ⟨g,0,none⟩))) (c2:w.cell? ⟨bf,0,none⟩=some fv) (hC:Calls Try.prog 68 #[.pointer (some ⟨g,0,none⟩),fv] w fun e w'=>∃ ma bf:Nat,e = .returned (.func (.func 100) #[] #[.pointer (some ⟨ma,0,none⟩),.pointer (some ⟨bf,0,none⟩)])∧X ma bf w')
  (hK:∀ (y6 y7:Value) (ma bq:Nat) (w':World),X ma bq w'→Q .normal ⟨#[x0,.pointer (some ⟨m,0,none⟩),.pointer (some ⟨bf,0,none⟩),x3,x4,x5,y6,y7,.func (.func 100) #[] #[.pointer (some ⟨ma,0,none⟩),.pointer (some ⟨bq,0,none⟩)],x9,aS,bn,bi,bg,aO,aP,aV,aT,aW,aX,aY,aQ,bu,bz,bD,bK,bI,bJ,bH,bT,bU],df⟩ w'):RW Try.prog (aJ 1 Try.f67) false Q ⟨#[x0,.pointer (some ⟨m,0,none⟩),.pointer (some ⟨bf,0,none⟩),x3,x4,x5,x6,x7,x8,x9,aS,bn,bi,bg,aO,aP,aV,aT,aW,aX,aY,aQ,bu,bz,bD,bK,bI,bJ,bH,bT,bU],df⟩ w:=by
 have HQ:=lh hK
 clear hK
 refine bV [(0,false),(1,false),(2,false)] (by kernel_rfl) ?_
 refine aG (ag g 0) _ (some 6) (ki (by kernel_rfl)) (aC (x:=(.tmp 1)) (by kernel_rfl) (by kernel_rfl) (aH ((fun _=>c1) (trivial)) Try.underlying66 rfl)) (fun _=>trivial) ?_
 refine aG (fv) _ (some 7) (ki (by kernel_rfl)) (aC (x:=(.tmp 2)) (by kernel_rfl) (by kernel_rfl) (aH ((fun _=>c2) (trivial)) Try.underlying77 rfl)) (fun _=>trivial) ?_
 refine bF (some 8) (ki (by kernel_rfl)) hC (fun _=>by kernel_rfl) ?_
 rintro r w7 ⟨ma,bf,rfl,hh⟩
 refine⟨_,rfl,fun _=>trivial,?_⟩
 exact aA (aZ (K:=Q .normal) (by kernel_rfl) (HQ.out (ag g 0) (fv) ma bf w7 hh))
theorem wk2 {w:World}{u v:Value} (hu:u.oneCell'=true) (hv:v.oneCell'=true)
  (hK:∀ (bq:Nat) (w':World),w.heap.size≤bq→w'.heap[bq]?=some (.cells #[u,v] 131 (0,0))→ae aj w w'→Q .normal ⟨#[x0,x1,x2,x3,x4,.pointer (some ⟨bq,0,none⟩),x6,x7,x8,.agg #[u,v],aS,bn,bi,bg,aO,aP,aV,aT,aW,aX,aY,aQ,bu,bz,bD,bK,bI,bJ,bH,bT,bU],df⟩ w'):RW Try.prog (aJ 2 Try.f67) false Q ⟨#[x0,x1,x2,x3,x4,x5,x6,x7,x8,.agg #[u,v],aS,bn,bi,bg,aO,aP,aV,aT,aW,aX,aY,aQ,bu,bz,bD,bK,bI,bJ,bH,bT,bU],df⟩ w:=by
 have HQ:=lh hK
 clear hK
 refine bV [(0,false),(1,false)] (by kernel_rfl) ?_
 refine fB (.cells #[.slice none 0 0,.slice none 0 0] 131) (some 5) (ki (by kernel_rfl)) (by kernel_rfl) ?_
 intro k1 w_k1 hk_k1 hO_k1 hm_k1 hl_k1
 refine⟨fun _=>trivial,?_⟩
 refine mY (off:=0) (ty:=131) (x:=(.tmp 5)) (y:=(.tmp 9)) (cells:=#[u,v]) #[u,v] none (ki (by kernel_rfl)) (by kernel_rfl) (by kernel_rfl) (by kernel_rfl) hO_k1 (by kernel_rfl) (by kernel_rfl) (by simp [hu,hv]) (by kernel_rfl) ?_
 intro w9 hO9 hm9 hs9
 refine⟨fun _=>trivial,?_⟩
 have hM:=hm_k1.trans hm9 (U:=aj) (fun _ _ x=>x) (fun i hi e=>by omega)
 exact aA (aZ (K:=Q .normal) (by kernel_rfl) (HQ.out  k1 w9 (Nat.le_of_eq hk_k1.symm) hO9 hM))
theorem wk3s {w:World}{l x bt by1:Nat}{at1:Option Addr}{ct:Nat}{u v:Value}{ks vs ts:List UInt8} (q1:w.heap[x]?=some (.cells #[u,v] 131 (0,0))) (q2:w.cell? ⟨bt,0,none⟩=some (.slice at1 ts.length ct)) (q3:bt<w.heap.size) (hu:Rd w u ks) (hv:Rd w v vs) (ht:Rd w (.slice at1 ts.length ct) ts) (lk:ks.length≤1000000) (lv:vs.length≤1000000) (h1:ts≠[]) (h2:0≤Lib.compareBytes ks ts)
  (hK:∀ (iW jP y12 jQ iY jA jB iZ ja jC kH kJ jc jd jR je jS y27 kK kL:Value)  (w':World),ae aj w w'→Q .normal ⟨#[x0,x1,x2,.pointer (some ⟨bt,0,none⟩),.pointer (some ⟨by1,0,none⟩),.pointer (some ⟨x,0,none⟩),x6,x7,x8,x9,iW,jP,y12,jQ,iY,jA,jB,iZ,ja,jC,kH,kJ,jc,jd,jR,je,jS,y27,kK,kL,.bool true],df⟩ w'):RW Try.prog (aJ 3 Try.f67) true Q ⟨#[x0,x1,x2,.pointer (some ⟨bt,0,none⟩),.pointer (some ⟨by1,0,none⟩),.pointer (some ⟨x,0,none⟩),x6,x7,x8,x9,aS,bn,bi,bg,aO,aP,aV,aT,aW,aX,aY,aQ,bu,bz,bD,bK,bI,bJ,bH,bT,bU],df⟩ w:=by
 have HQ:=lh hK
 clear hK
 have L1:0<ts.length:=List.length_pos_iff.2 h1
 have HU:=lh hu
 have HV:=lh hv
 have HT:=lh ht
 have MR:=lh ((ae.refl aj w).drew)
 have Q1:=lh (fun b' (hm:ae aj w b')=>show b'.cell? ⟨x,0,none⟩=some u from ai (hm.heap q1 (fun x=>x)) 0)
 have Q6:=lh (fun b' (hm:ae aj w b')=>show b'.cell? ⟨x,1,none⟩=some v from ai (hm.heap q1 (fun x=>x)) 1)
 have Q2:=lh (fun b' (hm:ae aj w b')=>show b'.cell? ⟨bt,0,none⟩=some (.slice at1 ts.length ct) from (hm.cellAt q3 (fun x=>x) 0).trans q2)
 clear hu hv ht q1 q2 q3
 refine iJ (S:=fun b'=>ae aj w b') [(0,true),(1,true),(2,true),(3,true),(4,true),(5,true),(6,true),(7,false),(8,true),(9,true),(10,true),(11,true),(12,true),(13,true),(15,true),(16,true),(14,false),(17,false),(18,false),(19,true),(20,true)] [] [(0,8,1024),(1,1024,2048),(2,2048,4096),(4,4096,8192),(8,8224,16384),(24,24576,32768),(8,8200,65536),(104,106496,131072),(136,139264,262144),(264,270336,524288),(640,524288,1048576),(1024,1048592,2097152),(1024,1048608,4194304),(5120,5242880,8388608),(9216,9437184,16777216),(1024,1048608,33554432),(33792,34603008,67108864),(82944,68157440,134217728),(150528,154140672,268435456),(263168,269484032,536870912),(525312,537919488,1073741824)] (by kernel_rfl) (by kernel_rfl) (by kernel_rfl) (by kernel_rfl) (by kernel_rfl) MR.out ?_
 refine af ((.slice at1 ts.length ct)) (some 10) (ki (by kernel_rfl)) (fun bb hb=>aC (x:=(.tmp 3)) (by kernel_rfl) (by kernel_rfl) (aH (Q2.out _ hb) Try.underlying77 rfl)) ?_
 refine ah [1] [.int .i64 ((ts.length:Nat):Int)] rfl (by kernel_rfl) (fun _=>by kernel_rfl) ?_
 refine af (.bool true) (some 12) (ki (by kernel_rfl)) (fun bb hb=>bM (t:=3) (t':=3) (xv := .int .i64 ((ts.length:Nat):Int)) (yv := .int .i64 0) (x:=(.tmp 11)) (y:=(.const (.int .i64 0))) (by kernel_rfl) (by kernel_rfl) (by kernel_rfl) (fun _=>by kernel_rfl) (nR _ (decide_eq_true (by omega)))) ?_
 refine ah [3,4] [.bool true,ag x 0] rfl (by kernel_rfl) (fun _=>by kernel_rfl) ?_
 refine af (u) (some 15) (ki (by kernel_rfl)) (fun bb hb=>aC (x:=(.tmp 14)) (by kernel_rfl) (by kernel_rfl) (aH (Q1.out _ hb) Try.underlying77 rfl)) ?_
 refine af ((.slice at1 ts.length ct)) (some 16) (ki (by kernel_rfl)) (fun bb hb=>aC (x:=(.tmp 3)) (by kernel_rfl) (by kernel_rfl) (aH (Q2.out _ hb) Try.underlying77 rfl)) ?_
 refine bF (some 17) (ki (by kernel_rfl)) (lJ (HU.out.keep MR.out (fun _ _ x=>x)) (HT.out.keep MR.out (fun _ _ x=>x))) (fun _=>by kernel_rfl) ?_
 rintro r wc ⟨rfl,rfl⟩
 refine⟨_,rfl,fun _=>MR.out,?_⟩
 refine af (.bool true) (some 18) (ki (by kernel_rfl)) (fun bb hb=>bM (t:=3) (t':=3) (xv := .int .i64 (Lib.compareBytes ks ts)) (yv := .int .i64 0) (x:=(.tmp 17)) (y:=(.const (.int .i64 0))) (by kernel_rfl) (by kernel_rfl) (by kernel_rfl) (fun _=>by kernel_rfl) (lC _ (decide_eq_true (by omega)))) ?_
 refine ah [9,10,11,12,13,15,16] [.bool true,.bool true,undef,undef,undef,undef,undef] rfl (by kernel_rfl) (fun _=>by kernel_rfl) ?_
 refine kC (some 24) (ki (by kernel_rfl)) (fun _=>MR.out) ?_
 refine kC (some 27) (ki (by kernel_rfl)) (fun _=>MR.out) ?_
 refine kC (some 28) (ki (by kernel_rfl)) (fun _=>MR.out) ?_
 refine ah [19,20] [undef,.bool true] rfl (by kernel_rfl) (fun _=>by kernel_rfl) ?_
 exact aA (aZ (K:=Q .normal) (by kernel_rfl) (HQ.out ((.slice at1 ts.length ct)) (.int .i64 ((ts.length:Nat):Int)) (.bool true) (.bool true) (ag x 0) (u) ((.slice at1 ts.length ct)) (.int .i64 (Lib.compareBytes ks ts)) (.bool true) (.bool true) (.bool true) (undef) (undef) (undef) (undef) (undef) (undef) (undef) (undef) (undef) _ MR.out))
theorem wk3a {w:World}{l x bt by1:Nat}{at1:Option Addr}{ct:Nat}{u v:Value}{ks vs ts:List UInt8} (q1:w.heap[x]?=some (.cells #[u,v] 131 (0,0))) (q2:w.cell? ⟨bt,0,none⟩=some (.slice at1 ts.length ct)) (q3:bt<w.heap.size) (hu:Rd w u ks) (hv:Rd w v vs) (ht:Rd w (.slice at1 ts.length ct) ts) (lk:ks.length≤1000000) (lv:vs.length≤1000000) (h1:ts=[]) (q4:w.cell? ⟨by1,0,none⟩=some (.func (.yield l) #[] #[])) (q5:by1<w.heap.size)
  (hK:∀ (iW jP y12 jQ iY jA jB iZ ja jC jc jd je jS:Value) (d1 d2:Value) (w':World),Gl.Own w' d1 ks→Gl.Own w' d2 vs→aI w d1→aI w d2→(∀ k,d1.ownBlock=some k→d2.ownBlock≠some k)→ae aj w w'→Q .normal ⟨#[x0,x1,x2,.pointer (some ⟨bt,0,none⟩),.pointer (some ⟨by1,0,none⟩),.pointer (some ⟨x,0,none⟩),x6,x7,x8,x9,iW,jP,y12,jQ,iY,jA,jB,iZ,ja,jC,.bool false,.func (.yield l) #[] #[],jc,jd,d1,je,jS,d2,bH,bT,bU],df⟩ w'):RW Try.prog ((aJ 3 Try.f67).toList.take 18).toArray true Q ⟨#[x0,x1,x2,.pointer (some ⟨bt,0,none⟩),.pointer (some ⟨by1,0,none⟩),.pointer (some ⟨x,0,none⟩),x6,x7,x8,x9,aS,bn,bi,bg,aO,aP,aV,aT,aW,aX,aY,aQ,bu,bz,bD,bK,bI,bJ,bH,bT,bU],df⟩ w:=by
 have HQ:=lh hK
 clear hK
 have L1:¬ 0<ts.length:=by rw [h1];simp
 have HU:=lh hu
 have HV:=lh hv
 have HT:=lh ht
 have MR:=lh ((ae.refl aj w).drew)
 have Q1:=lh (fun b' (hm:ae aj w b')=>show b'.cell? ⟨x,0,none⟩=some u from ai (hm.heap q1 (fun x=>x)) 0)
 have Q6:=lh (fun b' (hm:ae aj w b')=>show b'.cell? ⟨x,1,none⟩=some v from ai (hm.heap q1 (fun x=>x)) 1)
 have Q2:=lh (fun b' (hm:ae aj w b')=>show b'.cell? ⟨bt,0,none⟩=some (.slice at1 ts.length ct) from (hm.cellAt q3 (fun x=>x) 0).trans q2)
 have Q4:=lh (fun b' (hm:ae aj w b')=>show b'.cell? ⟨by1,0,none⟩=some (.func (.yield l) #[] #[]) from (hm.cellAt q5 (fun x=>x) 0).trans q4)
 clear hu hv ht q1 q2 q3 q4 q5
 refine iJ (S:=fun b'=>ae aj w b') [(0,true),(1,true),(2,true),(3,true),(4,true),(5,true),(6,true),(7,false),(8,true),(9,true),(10,true),(11,true),(12,true),(13,true),(15,true),(16,true),(14,false),(17,false)] [] [(0,8,1024),(1,1024,2048),(2,2048,4096),(4,4096,8192),(8,8224,16384),(24,24576,32768),(8,8200,65536),(104,106496,131072),(136,139264,262144),(264,270336,524288),(640,524288,1048576),(1024,1048592,2097152),(1024,1048608,4194304),(5120,5242880,8388608),(9216,9437184,16777216),(1024,1048608,33554432),(33792,34603008,67108864),(82944,68157440,134217728)] (by kernel_rfl) (by kernel_rfl) (by kernel_rfl) (by kernel_rfl) (by kernel_rfl) MR.out ?_
 refine af ((.slice at1 ts.length ct)) (some 10) (ki (by kernel_rfl)) (fun bb hb=>aC (x:=(.tmp 3)) (by kernel_rfl) (by kernel_rfl) (aH (Q2.out _ hb) Try.underlying77 rfl)) ?_
 refine ah [1] [.int .i64 ((ts.length:Nat):Int)] rfl (by kernel_rfl) (fun _=>by kernel_rfl) ?_
 refine af (.bool false) (some 12) (ki (by kernel_rfl)) (fun bb hb=>bM (t:=3) (t':=3) (xv := .int .i64 ((ts.length:Nat):Int)) (yv := .int .i64 0) (x:=(.tmp 11)) (y:=(.const (.int .i64 0))) (by kernel_rfl) (by kernel_rfl) (by kernel_rfl) (fun _=>by kernel_rfl) (nR _ (decide_eq_false (by omega)))) ?_
 refine ah [3,4,5,6] [.bool false,undef,undef,undef] rfl (by kernel_rfl) (fun _=>by kernel_rfl) ?_
 refine kC (some 17) (ki (by kernel_rfl)) (fun _=>MR.out) ?_
 refine ah [8,9,10] [undef,.bool false,.bool false] rfl (by kernel_rfl) (fun _=>by kernel_rfl) ?_
 refine af (.func (.yield l) #[] #[]) (some 21) (ki (by kernel_rfl)) (fun bb hb=>aC (x:=(.tmp 4)) (by kernel_rfl) (by kernel_rfl) (aH (Q4.out _ hb) Try.underlying97 rfl)) ?_
 refine ah [12] [ag x 0] rfl (by kernel_rfl) (fun _=>by kernel_rfl) ?_
 refine af (u) (some 23) (ki (by kernel_rfl)) (fun bb hb=>aC (x:=(.tmp 22)) (by kernel_rfl) (by kernel_rfl) (aH (Q1.out _ hb) Try.underlying77 rfl)) ?_
 refine ah [15] [ag x 1] rfl (by kernel_rfl) (fun _=>by kernel_rfl) ?_
 refine af (v) (some 26) (ki (by kernel_rfl)) (fun bb hb=>aC (x:=(.tmp 25)) (by kernel_rfl) (by kernel_rfl) (aH (Q6.out _ hb) Try.underlying77 rfl)) ?_
 refine bF (some 24) (ki (by kernel_rfl)) (fZ (HU.out.keep MR.out (fun _ _ x=>x)) (by omega)) (fun _=>by kernel_rfl) ?_
 rintro r wd1 ⟨d1,rfl,o1,n1,f1⟩
 have F1:=lh (f1.of MR.out.size)
 have S1:=MR.out.size
 replace MR:=lh (MR.out.then0 n1)
 refine⟨_,rfl,fun _=>MR.out,?_⟩
 refine bF (some 27) (ki (by kernel_rfl)) (fZ (HV.out.keep MR.out (fun _ _ x=>x)) (by omega)) (fun _=>by kernel_rfl) ?_
 rintro r wd2 ⟨d2,rfl,o2,n2,f2⟩
 have F2:=lh (f2.of MR.out.size)
 have S2:=MR.out.size
 replace MR:=lh (MR.out.then0 n2)
 refine⟨_,rfl,fun _=>MR.out,?_⟩
 exact aA (aZ (K:=Q .normal) (by kernel_rfl) (HQ.out ((.slice at1 ts.length ct)) (.int .i64 ((ts.length:Nat):Int)) (.bool false) (.bool false) (undef) (undef) (undef) (undef) (undef) (.bool false) (ag x 0) (u) (ag x 1) (v) d1 d2 _ (o1.keep n2 (fun _ _ x=>x)) o2 F1.out F2.out (fun k hk hk2=>by have:=o1.lt k hk;have:=f2 k hk2;omega) MR.out))
theorem wk3b {w:World}{l x bt by1:Nat}{at1:Option Addr}{ct:Nat}{u v:Value}{ks vs ts:List UInt8} (q1:w.heap[x]?=some (.cells #[u,v] 131 (0,0))) (q2:w.cell? ⟨bt,0,none⟩=some (.slice at1 ts.length ct)) (q3:bt<w.heap.size) (hu:Rd w u ks) (hv:Rd w v vs) (ht:Rd w (.slice at1 ts.length ct) ts) (lk:ks.length≤1000000) (lv:vs.length≤1000000) (h1:ts≠[]) (h2:¬ 0≤Lib.compareBytes ks ts) (q4:w.cell? ⟨by1,0,none⟩=some (.func (.yield l) #[] #[])) (q5:by1<w.heap.size)
  (hK:∀ (iW jP y12 jQ iY jA jB iZ ja jC jc jd je jS:Value) (d1 d2:Value) (w':World),Gl.Own w' d1 ks→Gl.Own w' d2 vs→aI w d1→aI w d2→(∀ k,d1.ownBlock=some k→d2.ownBlock≠some k)→ae aj w w'→Q .normal ⟨#[x0,x1,x2,.pointer (some ⟨bt,0,none⟩),.pointer (some ⟨by1,0,none⟩),.pointer (some ⟨x,0,none⟩),x6,x7,x8,x9,iW,jP,y12,jQ,iY,jA,jB,iZ,ja,jC,.bool false,.func (.yield l) #[] #[],jc,jd,d1,je,jS,d2,bH,bT,bU],df⟩ w'):RW Try.prog ((aJ 3 Try.f67).toList.take 18).toArray true Q ⟨#[x0,x1,x2,.pointer (some ⟨bt,0,none⟩),.pointer (some ⟨by1,0,none⟩),.pointer (some ⟨x,0,none⟩),x6,x7,x8,x9,aS,bn,bi,bg,aO,aP,aV,aT,aW,aX,aY,aQ,bu,bz,bD,bK,bI,bJ,bH,bT,bU],df⟩ w:=by
 have HQ:=lh hK
 clear hK
 have L1:0<ts.length:=List.length_pos_iff.2 h1
 have HU:=lh hu
 have HV:=lh hv
 have HT:=lh ht
 have MR:=lh ((ae.refl aj w).drew)
 have Q1:=lh (fun b' (hm:ae aj w b')=>show b'.cell? ⟨x,0,none⟩=some u from ai (hm.heap q1 (fun x=>x)) 0)
 have Q6:=lh (fun b' (hm:ae aj w b')=>show b'.cell? ⟨x,1,none⟩=some v from ai (hm.heap q1 (fun x=>x)) 1)
 have Q2:=lh (fun b' (hm:ae aj w b')=>show b'.cell? ⟨bt,0,none⟩=some (.slice at1 ts.length ct) from (hm.cellAt q3 (fun x=>x) 0).trans q2)
 have Q4:=lh (fun b' (hm:ae aj w b')=>show b'.cell? ⟨by1,0,none⟩=some (.func (.yield l) #[] #[]) from (hm.cellAt q5 (fun x=>x) 0).trans q4)
 clear hu hv ht q1 q2 q3 q4 q5
 refine iJ (S:=fun b'=>ae aj w b') [(0,true),(1,true),(2,true),(3,true),(4,true),(5,true),(6,true),(7,false),(8,true),(9,true),(10,true),(11,true),(12,true),(13,true),(15,true),(16,true),(14,false),(17,false)] [] [(0,8,1024),(1,1024,2048),(2,2048,4096),(4,4096,8192),(8,8224,16384),(24,24576,32768),(8,8200,65536),(104,106496,131072),(136,139264,262144),(264,270336,524288),(640,524288,1048576),(1024,1048592,2097152),(1024,1048608,4194304),(5120,5242880,8388608),(9216,9437184,16777216),(1024,1048608,33554432),(33792,34603008,67108864),(82944,68157440,134217728)] (by kernel_rfl) (by kernel_rfl) (by kernel_rfl) (by kernel_rfl) (by kernel_rfl) MR.out ?_
 refine af ((.slice at1 ts.length ct)) (some 10) (ki (by kernel_rfl)) (fun bb hb=>aC (x:=(.tmp 3)) (by kernel_rfl) (by kernel_rfl) (aH (Q2.out _ hb) Try.underlying77 rfl)) ?_
 refine ah [1] [.int .i64 ((ts.length:Nat):Int)] rfl (by kernel_rfl) (fun _=>by kernel_rfl) ?_
 refine af (.bool true) (some 12) (ki (by kernel_rfl)) (fun bb hb=>bM (t:=3) (t':=3) (xv := .int .i64 ((ts.length:Nat):Int)) (yv := .int .i64 0) (x:=(.tmp 11)) (y:=(.const (.int .i64 0))) (by kernel_rfl) (by kernel_rfl) (by kernel_rfl) (fun _=>by kernel_rfl) (nR _ (decide_eq_true (by omega)))) ?_
 refine ah [3,4] [.bool true,ag x 0] rfl (by kernel_rfl) (fun _=>by kernel_rfl) ?_
 refine af (u) (some 15) (ki (by kernel_rfl)) (fun bb hb=>aC (x:=(.tmp 14)) (by kernel_rfl) (by kernel_rfl) (aH (Q1.out _ hb) Try.underlying77 rfl)) ?_
 refine af ((.slice at1 ts.length ct)) (some 16) (ki (by kernel_rfl)) (fun bb hb=>aC (x:=(.tmp 3)) (by kernel_rfl) (by kernel_rfl) (aH (Q2.out _ hb) Try.underlying77 rfl)) ?_
 refine bF (some 17) (ki (by kernel_rfl)) (lJ (HU.out.keep MR.out (fun _ _ x=>x)) (HT.out.keep MR.out (fun _ _ x=>x))) (fun _=>by kernel_rfl) ?_
 rintro r wc ⟨rfl,rfl⟩
 refine⟨_,rfl,fun _=>MR.out,?_⟩
 refine af (.bool false) (some 18) (ki (by kernel_rfl)) (fun bb hb=>bM (t:=3) (t':=3) (xv := .int .i64 (Lib.compareBytes ks ts)) (yv := .int .i64 0) (x:=(.tmp 17)) (y:=(.const (.int .i64 0))) (by kernel_rfl) (by kernel_rfl) (by kernel_rfl) (fun _=>by kernel_rfl) (lC _ (decide_eq_false (by omega)))) ?_
 refine ah [9,10] [.bool false,.bool false] rfl (by kernel_rfl) (fun _=>by kernel_rfl) ?_
 refine af (.func (.yield l) #[] #[]) (some 21) (ki (by kernel_rfl)) (fun bb hb=>aC (x:=(.tmp 4)) (by kernel_rfl) (by kernel_rfl) (aH (Q4.out _ hb) Try.underlying97 rfl)) ?_
 refine ah [12] [ag x 0] rfl (by kernel_rfl) (fun _=>by kernel_rfl) ?_
 refine af (u) (some 23) (ki (by kernel_rfl)) (fun bb hb=>aC (x:=(.tmp 22)) (by kernel_rfl) (by kernel_rfl) (aH (Q1.out _ hb) Try.underlying77 rfl)) ?_
 refine ah [15] [ag x 1] rfl (by kernel_rfl) (fun _=>by kernel_rfl) ?_
 refine af (v) (some 26) (ki (by kernel_rfl)) (fun bb hb=>aC (x:=(.tmp 25)) (by kernel_rfl) (by kernel_rfl) (aH (Q6.out _ hb) Try.underlying77 rfl)) ?_
 refine bF (some 24) (ki (by kernel_rfl)) (fZ (HU.out.keep MR.out (fun _ _ x=>x)) (by omega)) (fun _=>by kernel_rfl) ?_
 rintro r wd1 ⟨d1,rfl,o1,n1,f1⟩
 have F1:=lh (f1.of MR.out.size)
 have S1:=MR.out.size
 replace MR:=lh (MR.out.then0 n1)
 refine⟨_,rfl,fun _=>MR.out,?_⟩
 refine bF (some 27) (ki (by kernel_rfl)) (fZ (HV.out.keep MR.out (fun _ _ x=>x)) (by omega)) (fun _=>by kernel_rfl) ?_
 rintro r wd2 ⟨d2,rfl,o2,n2,f2⟩
 have F2:=lh (f2.of MR.out.size)
 have S2:=MR.out.size
 replace MR:=lh (MR.out.then0 n2)
 refine⟨_,rfl,fun _=>MR.out,?_⟩
 exact aA (aZ (K:=Q .normal) (by kernel_rfl) (HQ.out ((.slice at1 ts.length ct)) (.int .i64 ((ts.length:Nat):Int)) (.bool true) (.bool true) (ag x 0) (u) ((.slice at1 ts.length ct)) (.int .i64 (Lib.compareBytes ks ts)) (.bool false) (.bool false) (ag x 0) (u) (ag x 1) (v) d1 d2 _ (o1.keep n2 (fun _ _ x=>x)) o2 F1.out F2.out (fun k hk hk2=>by have:=o1.lt k hk;have:=f2 k hk2;omega) MR.out))
theorem wkOwn {w:World}{bf bt:Nat}{fv tv:Value}{xs ts:List UInt8}{t1 t2:TypeId} (q1:w.heap[bf]?=some (.cells #[fv] t1 (0,0))) (q2:w.heap[bt]?=some (.cells #[tv] t2 (0,0))) (hne:¬ bf=bt) (hu:Rd w fv xs) (hv:Rd w tv ts) (lk:xs.length≤140737488355328) (lv:ts.length≤140737488355328)
  (hK:∀ (y7 y8 y9 iW:Value) (d1 d2:Value) (w':World),w'.heap[bf]?=some (.cells #[d1] t1 (0,0))→w'.heap[bt]?=some (.cells #[d2] t2 (0,0))→Gl.Own w' d1 xs→Gl.Own w' d2 ts→aI w d1→aI w d2→ae (fun k=>k=bf∨k=bt) w w'→Q .normal ⟨#[x0,x1,x2,x3,.pointer (some ⟨bf,0,none⟩),.pointer (some ⟨bt,0,none⟩),x6,y7,y8,y9,iW,bn],df⟩ w'):RW Try.prog (aJ 1 Try.f36) true Q ⟨#[x0,x1,x2,x3,.pointer (some ⟨bf,0,none⟩),.pointer (some ⟨bt,0,none⟩),x6,x7,x8,x9,aS,bn],df⟩ w:=by
 have HQ:=lh hK
 clear hK
 have HU:=lh hu
 have HV:=lh hv
 have Q1:=lh (fun b' (hm:ae aj w b')=>show b'.cell? ⟨bf,0,none⟩=some fv from ai (hm.heap q1 (fun x=>x)) 0)
 have Q2:=lh (fun b' (hm:ae aj w b')=>show b'.cell? ⟨bt,0,none⟩=some tv from ai (hm.heap q2 (fun x=>x)) 0)
 clear hu hv
 have MR:=lh ((ae.refl aj w).drew)
 refine kQ (S:=fun b'=>ae aj w b') [(0,true),(2,true),(1,false),(3,false),(4,false),(5,false)] [4,5] (by kernel_rfl) (by kernel_rfl) (by kernel_rfl) (by kernel_rfl) MR.out ?_
 refine af (fv) (some 7) (ki (by kernel_rfl)) (fun bb hb=>aC (x:=(.tmp 4)) (by kernel_rfl) (by kernel_rfl) (aH (Q1.out _ hb) Try.underlying77 rfl)) ?_
 refine af (tv) (some 9) (ki (by kernel_rfl)) (fun bb hb=>aC (x:=(.tmp 5)) (by kernel_rfl) (by kernel_rfl) (aH (Q2.out _ hb) Try.underlying77 rfl)) ?_
 refine bF (some 8) (ki (by kernel_rfl)) (fZ (HU.out.keep MR.out (fun _ _ x=>x)) lk) (fun _=>by kernel_rfl) ?_
 rintro r wd1 ⟨d1,rfl,o1,n1,f1⟩
 have F1:=lh (f1.of MR.out.size)
 replace MR:=lh (MR.out.then0 n1)
 obtain⟨ad1,cd1,ed1,_⟩:=o1.rd.form
 have od1:d1.oneCell'=true:=by rw [ed1];rfl
 refine⟨_,rfl,fun _=>MR.out,?_⟩
 refine bF (some 10) (ki (by kernel_rfl)) (fZ (HV.out.keep MR.out (fun _ _ x=>x)) lv) (fun _=>by kernel_rfl) ?_
 rintro r wd2 ⟨d2,rfl,o2,n2,f2⟩
 have F2:=lh (f2.of MR.out.size)
 replace MR:=lh (MR.out.then0 n2)
 obtain⟨ad2,cd2,ed2,_⟩:=o2.rd.form
 have od2:d2.oneCell'=true:=by rw [ed2];rfl
 refine⟨_,rfl,fun _=>MR.out,?_⟩
 have hb1:=MR.out.heap q1 (fun x=>x)
 have hb2:=MR.out.heap q2 (fun x=>x)
 refine fD (ty:=77) (x:=(.tmp 4)) (y:=(.tmp 8)) (g:=bf) (off:=0) (v:=d1) none (ki (by kernel_rfl)) (by kernel_rfl) (by kernel_rfl) (by kernel_rfl) (by kernel_rfl) (by rw [ai hb1];rfl) (dw hb1 _) od1 ?_
 intro w91 hw91
 refine⟨(fun h=>by cases h),?_⟩
 have m91:ae (fun k=>k=bf) wd2 w91:=by rw [hw91];exact (ae.refl (fun k=>k=bf) wd2).setCell (p:=⟨bf,0,none⟩) (.inl rfl) d1
 have hc1:w91.heap[bf]?=some (.cells #[d1] t1 (0,0)):=by rw [hw91];exact heap_set hb1 0 d1
 have hc2:=m91.heap hb2 (fun e=>hne e.symm)
 refine fD (ty:=77) (x:=(.tmp 5)) (y:=(.tmp 10)) (g:=bt) (off:=0) (v:=d2) none (ki (by kernel_rfl)) (by kernel_rfl) (by kernel_rfl) (by kernel_rfl) (by kernel_rfl) (by rw [ai hc2];rfl) (dw hc2 _) od2 ?_
 intro w92 hw92
 refine⟨(fun h=>by cases h),?_⟩
 have m92:ae (fun k=>k=bt) w91 w92:=by rw [hw92];exact (ae.refl (fun k=>k=bt) w91).setCell (p:=⟨bt,0,none⟩) (.inl rfl) d2
 have he2:w92.heap[bt]?=some (.cells #[d2] t2 (0,0)):=by rw [hw92];exact heap_set hc2 0 d2
 have he1:=m92.heap hc1 hne
 have hbl:=lt_of_heap q1
 have htl:=lt_of_heap q2
 have p1:=((o1.keep n2 (fun _ _ x=>x)).keep m91 (fun k hk e=>by have:=F1.out k hk;omega)).keep m92 (fun k hk e=>by have:=F1.out k hk;omega)
 have p2:=(o2.keep m91 (fun k hk e=>by have:=F2.out k hk;omega)).keep m92 (fun k hk e=>by have:=F2.out k hk;omega)
 have pm:=(MR.out.trans m91 (U:=fun k=>k=bf∨k=bt) (fun _ _ x=>x.elim) (fun _ _ x => .inl x)).trans m92 (U:=fun k=>k=bf∨k=bt) (fun _ _ x=>x) (fun _ _ x => .inr x)
 exact aA (aZ (K:=Q .normal) (by kernel_rfl) (HQ.out (fv) (d1) (tv) (d2) d1 d2 w92 he1 he2 p1 p2 F1.out F2.out pm))
end
open Go.Gl Go.RowKit
def rest (R:List PV) (p i:Nat):List EV:=((R.drop p).flatMap (·.es)).drop i
def iR (R:List PV) (xs:List UInt8):List EV:=rest R (aK (aB R) xs).1 (aK (aB R) xs).2.1
theorem sQ {R:List PV}{p i:Nat} (hp:p<R.length) (hi:i≤(R[p]).es.length):rest R p i=(R[p]).es.drop i ++ rest R (p+1) 0:=by
 unfold rest
 rw [List.drop_eq_getElem_cons hp,List.flatMap_cons,List.drop_append_of_le_length hi,List.drop_zero]
theorem rest_end {R:List PV}{p i:Nat} (hp:R.length≤p):rest R p i=[]:=by
 unfold rest
 rw [List.drop_of_length_le hp];simp
theorem tN {R:List PV}{p i:Nat} (hp:p<R.length) (hi:i<(R[p]).es.length):rest R p i=(R[p]).es[i] :: rest R p (i+1):=by
 rw [sQ hp (Nat.le_of_lt hi),sQ hp hi,List.drop_eq_getElem_cons hi,List.cons_append]
theorem Aa {R:List PV}{p:Nat} (hp:p<R.length):rest R p (R[p]).es.length=rest R (p+1) 0:=by
 rw [sQ hp (Nat.le_refl _),List.drop_of_length_le (Nat.le_refl _),List.nil_append]
def lw (g:Nat) (vo:Value) (R:List PV) (m bf:Nat) (fv:Value) (k:Nat):Prop:=MS g vo R k∨MD R k∨k=m∨k=bf∨fv.ownBlock=some k
def ARis (R:List PV) (xs:List UInt8) (i:Nat) (_:Nat→Prop) (args:Array Value) (_:World):Prop:=∃ e,(iR R xs)[i]?=some e∧args=#[.agg #[e.kv,e.vv]]
theorem wK {vs:Array Value}{k:Nat} (h:ig #[.agg vs] k):False:=by
 obtain⟨v,hv,hk⟩:=h
 have:v = .agg vs:=by simpa using hv
 rw [this] at hk
 simp [Value.ownBlock] at hk
structure gp (w:World) (g:Nat) (vo:Value) (R:List PV) (m bf:Nat) (fv:Value) (xs:List UInt8):Prop where
 pm:PM w g vo R
 bm:∃ t,w.heap[m]?=some (.cells #[.pointer (some ⟨g,0,none⟩)] t (0,0))
 bfr:∃ t,w.heap[bf]?=some (.cells #[fv] t (0,0))
 fr:Gl.Own w fv xs
theorem gp.keep {w w':World}{g:Nat}{vo:Value}{R:List PV}{m bf:Nat}{fv:Value}{xs:List UInt8} (h:gp w g vo R m bf fv xs) (hm:ae (fun k=>¬ lw g vo R m bf fv k) w w'):gp w' g vo R m bf fv xs:=by
 obtain⟨t1,h1⟩:=h.bm
 obtain⟨t2,h2⟩:=h.bfr
 exact⟨h.pm.keep hm (fun k hk x=>x (.inl hk)) (fun k hk x=>x (.inr (.inl hk))),⟨t1,hm.heap h1 (fun x=>x (.inr (.inr (.inl rfl))))⟩,⟨t2,hm.heap h2 (fun x=>x (.inr (.inr (.inr (.inl rfl)))))⟩,h.fr.keep hm (fun k hk x=>x (.inr (.inr (.inr (.inr hk)))))⟩
theorem gp.lt {w:World}{g:Nat}{vo:Value}{R:List PV}{m bf:Nat}{fv:Value}{xs:List UInt8} (h:gp w g vo R m bf fv xs):∀ k,lw g vo R m bf fv k→k<w.heap.size:=by
 obtain⟨t1,h1⟩:=h.bm
 obtain⟨t2,h2⟩:=h.bfr
 rintro k (hk | hk | rfl | rfl | hk)
 ·exact h.pm.lt k hk
 ·exact h.pm.dlt k hk
 ·exact lt_of_heap h1
 ·exact lt_of_heap h2
 ·exact h.fr.lt k hk
theorem xg {w:World}{g:Nat}{vo:Value}{R:List PV}{m bf:Nat}{fv:Value}{xs:List UInt8} (h:gp w g vo R m bf fv xs) (ok:fH (aB R)) (hn:R.length≤1000000) :
  Iter Try.prog 100 #[.pointer (some ⟨m,0,none⟩),.pointer (some ⟨bf,0,none⟩)] (iR R xs).length (ARis R xs) (lw g vo R m bf fv) aj w:=by
 intro l J Jx W hW hJ hJx hY h0
 have pre:=h.keep hW
 obtain⟨SZ,hSZ⟩:∃ SZ,W.heap.size=SZ:=⟨_,rfl⟩
 rw [hSZ] at hY
 have hs0:SZ≤W.heap.size:=Nat.le_of_eq hSZ.symm
 clear h hW hSZ
 have hlen:∀ q∈R,q.es.length≤32:=fun q hq=>by
  have:=ok.most (ents q.es) (List.mem_map_of_mem (f:=fun p=>ents p.es) hq)
  rwa [dA] at this
 have hne:∀ q∈R,q.es≠[]:=fun q hq e=>by
  have:=ok.ne (ents q.es) (List.mem_map_of_mem (f:=fun p=>ents p.es) hq)
  rw [e] at this
  exact this rfl
 have keepJ:∀ i A B,J i (lw g vo R m bf fv) A→gp A g vo R m bf fv xs→ae aj A B→J i (lw g vo R m bf fv) B:=fun i A B hj hp hm=>hJ i _ _ A B hj (hm.mono (fun _ _ x=>x.elim)) hp.lt (fun k hk => .inl hk)
 have keepX:∀ i A B,Jx i (lw g vo R m bf fv) A→gp A g vo R m bf fv xs→ae aj A B→Jx i (lw g vo R m bf fv) B:=fun i A B hj hp hm=>hJx i _ _ A B hj (hm.mono (fun _ _ x=>x.elim)) hp.lt (fun k hk => .inl hk)
 obtain⟨tm,hbm⟩:=pre.bm
 obtain⟨tf,hbf⟩:=pre.bfr
 obtain⟨ao,cap,hvo,_⟩:=(aU.rd pre.pm.row).form
 have c1:W.cell? ⟨m,0,none⟩=some (.pointer (some ⟨g,0,none⟩)):=ai hbm 0
 have c2:W.cell? ⟨g,0,none⟩=some (.slice ao R.length cap):=by rw [← hvo];exact ai pre.pm.hg 0
 by_cases hR:R=[]
 ·have hz:R.length=0:=by rw [hR];rfl
  have hr0:iR R xs=[]:=by rw [hR];rfl
  (refine vT _ Try.func100 rfl ?_;simp only [Try.ntmps100,List.size_toArray,List.length_cons,List.length_nil,Nat.reduceAdd,Nat.reduceSub,Array.replicate_succ,Array.replicate_zero,List.push_toArray,List.append_toArray,List.nil_append,List.cons_append])
  refine wpIn_seq ?_
  refine wpIn_seq ?_
  refine bP (d := .region 0 (aJ 0 Try.f100) false) (by kernel_rfl) ?_
  refine RW.wpIn (ris0e c1 c2 hz ?_) (by kernel_rfl)
  intros
  rename_i hw
  subst hw
  refine bG ?_
  refine wpIn_cond_true rfl ?_
  refine wpIn_ret ?_
  repeat (refine lL ?_)
  refine bodyPost_ret (results_none rfl _ _ _) rfl ?_
  refine⟨⟨_,rfl⟩,.inl ⟨_,?_,pre.lt⟩⟩
  rw [hr0]
  exact h0
 ·obtain⟨hp0,hi0⟩:=xM (ys:=xs) hR
  obtain⟨b,off,rfl⟩:∃ b off,ao=some ⟨b,off,none⟩:=by
   rcases pre.pm.open with ⟨h1,_⟩ | ⟨b,off,cp,hv,_,_,_⟩
   ·exact absurd h1 hR
   ·rw [hvo] at hv;cases hv;exact⟨_,_,rfl⟩
  have hne':aB R≠[]:=fun h=>hR (by cases R with | nil=>rfl | cons a b=>simp [aB] at h)
  have HP:=lh (fun (wr:World) (hp:gp wr g vo R m bf fv xs)=>rC hp.pm hp.fr.rd ok hn)
  have PL:=lh (fun (wr:World) (hp:gp wr g vo R m bf fv xs) (p:Nat) (hlt:p<R.length)=>uf (hp.pm.page (List.getElem_mem hlt)) hp.fr.rd (by have:=ok.page (i:=p) (by rw [dN];exact hlt);simpa [aB] using this) (by have:=hlen _ (List.getElem_mem hlt);omega))
  have hfind:=oK hne' xs
  have hrl:iR R xs=rest R (aK (aB R) xs).1 (aK (aB R) xs).2.1:=rfl
  generalize aK (aB R) xs=F at *
  obtain⟨P,I,B⟩:=F
  simp only at hp0 hi0 hrl
  have hF1:P=gq (aB R) xs:=congrArg Prod.fst hfind
  have hF2:I=fV (ents (R[P]).es) xs:=by
   have:=congrArg (fun x=>x.2.1) hfind
   simp only at this
   rw [← hF1,iE hp0] at this
   exact this
  have keepM:∀ A B,gp A g vo R m bf fv xs→ae aj A B→gp B g vo R m bf fv xs:=fun A B hp hm=>hp.keep (hm.mono (fun _ _ x=>x.elim))
  have k1:∀ wr,gp wr g vo R m bf fv xs→wr.cell? ⟨m,0,none⟩=some (.pointer (some ⟨g,0,none⟩)):=fun wr hp=>by obtain⟨t,h⟩:=hp.bm;exact ai h 0
  have k2:∀ wr,gp wr g vo R m bf fv xs→wr.cell? ⟨g,0,none⟩=some (.slice (some ⟨b,off,none⟩) R.length cap):=fun wr hp=>by rw [← hvo];exact ai hp.pm.hg 0
  have k3:∀ wr,gp wr g vo R m bf fv xs→wr.cell? ⟨bf,0,none⟩=some fv:=fun wr hp=>by obtain⟨t,h⟩:=hp.bfr;exact ai h 0
  have k4:∀ wr,gp wr g vo R m bf fv xs→∀ p (hp:p<R.length),wr.cell? ⟨b,off+p,none⟩=some (R[p]).pv:=fun wr hp p hlt=>by have:=hp.pm;rw [hvo] at this;exact this.rowcell (ae.refl aj wr) hlt
  have KK:=lh (And.intro k1 (And.intro k2 (And.intro k3 k4)))
  clear k1 k2 k3 k4 hfind c1 hbm hbf
  (refine vT _ Try.func100 rfl ?_;simp only [Try.ntmps100,List.size_toArray,List.length_cons,List.length_nil,Nat.reduceAdd,Nat.reduceSub,Array.replicate_succ,Array.replicate_zero,List.push_toArray,List.append_toArray,List.nil_append,List.cons_append])
  refine wpIn_seq ?_
  refine wpIn_seq ?_
  refine bP (d := .region 0 (aJ 0 Try.f100) false) (by kernel_rfl) ?_
  refine RW.wpIn (ris0n (KK.out.1 _ pre) c2 (fun h=>hR (List.length_eq_zero_iff.1 h)) ?_) (by kernel_rfl)
  intros
  rename_i hw
  subst hw
  refine bG ?_
  refine wpIn_cond_false rfl ?_
  refine wpIn_skip ?_
  refine bG ?_
  refine wpIn_seq ?_
  refine bP (d := .region 1 (aJ 1 Try.f100) false) (by kernel_rfl) ?_
  refine RW.wpIn (ris1 (KK.out.1 _ pre) (KK.out.2.2.1 _ pre) (HP.out _ pre) ?_) (by kernel_rfl)
  intros
  rename_i w1 m1
  have pre1:=keepM _ _ pre m1
  have h1:=keepJ _ _ _ h0 pre m1
  clear h0 pre c2
  rw [← hF1]
  refine bG ?_
  refine wpIn_seq ?_
  obtain⟨ap,pc,hpv,_⟩:=(pre1.pm.page (List.getElem_mem hp0)).row.form
  refine bP (d := .region 2 (aJ 2 Try.f100) true) (by kernel_rfl) ?_
  refine RW.wpIn (ris2 (fun b' hb=>KK.out.1 _ (keepM _ _ pre1 hb)) (fun b' hb=>KK.out.2.1 _ (keepM _ _ pre1 hb)) (fun b' hb=>(KK.out.2.2.2 _ (keepM _ _ pre1 hb) P hp0).trans (congrArg some hpv)) (fun b' hb=>KK.out.2.2.1 _ (keepM _ _ pre1 hb)) hp0 (fun b' hb=>by have:=PL.out _ (keepM _ _ pre1 hb) P hp0;rw [hpv] at this;exact this) ?_) (by kernel_rfl)
  intros
  rename_i w2 m2
  have pre2:=keepM _ _ pre1 m2
  have h2:=keepJ _ _ _ h1 pre1 m2
  have hs2:=Nat.le_trans hs0 (Nat.le_trans m1.size m2.size)
  clear h1 pre1 m1 m2
  rw [← hF2]
  refine bG ?_
  refine wpIn_block ?_
  refine wpIn_loop (fun a wr=>∃ p i j:Nat,qN [] (.func (.yield l) #[] #[]) (.pointer (some ⟨m,0,none⟩)) (.pointer (some ⟨bf,0,none⟩)) (.int .i64 ((p:Nat):Int)) (.int .i64 ((i:Nat):Int)) a∧p≤R.length∧(∀ hp:p<R.length,i≤(R[p]).es.length)∧j≤(iR R xs).length∧(iR R xs).drop j=rest R p i∧J j (lw g vo R m bf fv) wr∧gp wr g vo R m bf fv xs∧SZ≤wr.heap.size)
   (fun a _=>R.length - (intOf (a.tmps.getD 4 undef)).toNat) ⟨P,I,0,qN.mk,Nat.le_of_lt hp0,fun _=>hi0,Nat.zero_le _,by rw [List.drop_zero,hrl],h2,pre2,hs2⟩ ?_
  clear h2 pre2 hs2
  rintro a wr ⟨p,i,j,hfr,hpl,hil,hjl,hdj,hJj,hpre,hws⟩
  have g4:a.tmps.getD 4 undef = .int .i64 ((p:Nat):Int):=hfr.elim (C:=fun a=>a.tmps.getD 4 undef = .int .i64 ((p:Nat):Int)) (by intros;rfl)
  refine hfr.elim (C:=fun a=>Code.wpIn _ _ _ _ _ a _) ?_
  intros
  refine wpIn_seq ?_
  refine wpIn_seq ?_
  refine bP (d := .region 3 (aJ 3 Try.f100) false) (by kernel_rfl) ?_
  by_cases hlt:p<R.length
  ·have hil:=hil hlt
   have hmem:=List.getElem_mem hlt
   obtain⟨pb,po,pc1,hpv1,ob1⟩:=hpre.pm.pageOB hmem (hne _ hmem)
   refine RW.wpIn (ris3t (KK.out.1 _ hpre) (KK.out.2.1 _ hpre) hlt ?_) (by kernel_rfl)
   intros
   rename_i hw
   subst hw
   refine bG ?_
   refine wpIn_cond_true rfl ?_
   refine wpIn_skip ?_
   refine bG ?_
   refine wpIn_seq ?_
   refine wpIn_block ?_
   refine wpIn_block ?_
   refine wpIn_loop (fun a wr=>∃ i j:Nat,qN [] (.func (.yield l) #[] #[]) (.pointer (some ⟨m,0,none⟩)) (.pointer (some ⟨bf,0,none⟩)) (.int .i64 ((p:Nat):Int)) (.int .i64 ((i:Nat):Int)) a∧i≤(R[p]).es.length∧j≤(iR R xs).length∧(iR R xs).drop j=rest R p i∧J j (lw g vo R m bf fv) wr∧gp wr g vo R m bf fv xs∧SZ≤wr.heap.size)
    (fun a _=>(R[p]).es.length - (intOf (a.tmps.getD 5 undef)).toNat) ⟨i,j,qN.mk,hil,hjl,hdj,hJj,hpre,hws⟩ ?_
   clear hil hjl hdj hJj hpre ob1 hpv1 hws
   rintro a5 wr ⟨i,j,hfr,hil,hjl,hdj,hJj,hpre,hws⟩
   have g5:a5.tmps.getD 5 undef = .int .i64 ((i:Nat):Int):=hfr.elim (C:=fun a=>a.tmps.getD 5 undef = .int .i64 ((i:Nat):Int)) (by intros;rfl)
   obtain⟨pb,po,pc1,hpv1,ob1⟩:=hpre.pm.pageOB hmem (hne _ hmem)
   refine hfr.elim (C:=fun a=>Code.wpIn _ _ _ _ _ a _) ?_
   intros
   refine wpIn_seq ?_
   refine wpIn_seq ?_
   refine bP (d := .region 5 (aJ 5 Try.f100) false) (by kernel_rfl) ?_
   have c3:=(KK.out.2.2.2 _ hpre p hlt).trans (congrArg some hpv1)
   by_cases hin:i<(R[p]).es.length
   ·refine RW.wpIn (ris5t (KK.out.1 _ hpre) (KK.out.2.1 _ hpre) c3 hlt hin ?_) (by kernel_rfl)
    intros
    rename_i hw
    subst hw
    refine bG ?_
    refine wpIn_cond_true rfl ?_
    refine wpIn_skip ?_
    refine bG ?_
    refine wpIn_seq ?_
    refine wpIn_block ?_
    refine wpIn_seq ?_
    refine bP (d := .region 7 (aJ 7 Try.f100) false) (by kernel_rfl) ?_
    have hcs:=uw (R[p]).es i hin
    have hjlt:j<(iR R xs).length:=by
     rcases Nat.lt_or_ge j (iR R xs).length with h | h
     ·exact h
     ·rw [List.drop_of_length_le h,tN hlt hin] at hdj;cases hdj
    have hdj':=hdj
    rw [tN hlt hin,List.drop_eq_getElem_cons hjlt] at hdj'
    obtain⟨hd1,hd2⟩:=List.cons.inj hdj'
    refine gW (Q1:=fun _ a' w'=>wpOpsIn _ _ _ _ _ _ a' w') 11 (by kernel_rfl) (ris7 (KK.out.1 _ hpre) (KK.out.2.1 _ hpre) c3 (by have:=ob1.cell hcs.1;exact this) (by have:=ob1.cell hcs.2;rw [Nat.add_assoc];exact this) hlt hin ?_) (fun _ _ h=>h)
    intros
    rename_i hw
    subst hw
    have hY1:=hY j (lw g vo R m bf fv) #[.agg #[((R[p]).es[i]).kv,((R[p]).es[i]).vv]] _ hjlt hJj ⟨(R[p]).es[i],by rw [List.getElem?_eq_getElem hjlt,hd1],rfl⟩ hpre.lt hws (hJ _ _ _ _ _ hJj (ae.refl _ _) hpre.lt (fun k hk => .inl (hk.elim id (fun h=>(wK h).elim)))) (fun k hk=>(wK hk).elim)
    refine jo (some 60) (ki (by kernel_rfl)) (by kernel_rfl) (by kernel_rfl) hY1 ?_
    rintro e w3 (⟨rfl,hJ3,m3⟩ | ⟨rfl,hJ3,m3⟩)
    ·have pre3:=hpre.keep m3
     refine⟨_,rfl,?_⟩
     refine eX (.bool false) (some 61) (ki (by kernel_rfl)) (by kernel_rfl) (by kernel_rfl) ?_
     refine bG ?_
     refine wpIn_cond_false rfl ?_
     refine wpIn_skip ?_
     refine iC ?_
     refine bG ?_
     refine bP (d := .region 6 (aJ 6 Try.f100) false) (by kernel_rfl) ?_
     refine RW.wpIn (ris6 (by have:=hlen _ hmem;omega) ?_) (by kernel_rfl)
     intros
     rename_i hw
     subst hw
     refine bG ?_
     refine⟨⟨i+1,j+1,qN.mk,hin,hjlt,hd2,hJ3,pre3,Nat.le_trans hws m3.size⟩,?_⟩
     rw [g5]
     show (R[p]).es.length - (i+1)<(R[p]).es.length - i
     omega
    ·have pre3:=hpre.keep m3
     refine⟨_,rfl,?_⟩
     refine eX (.bool true) (some 61) (ki (by kernel_rfl)) (by kernel_rfl) (by kernel_rfl) ?_
     refine bG ?_
     refine wpIn_cond_true rfl ?_
     refine wpIn_ret ?_
     repeat (first | refine lL ?_ | refine jD ?_)
     refine bodyPost_ret (results_none rfl _ _ _) rfl ?_
     exact⟨⟨_,rfl⟩,.inr ⟨j,_,hjlt,hJ3,pre3.lt⟩⟩
   ·obtain rfl:i=(R[p]).es.length:=by omega
    refine RW.wpIn (ris5f (KK.out.1 _ hpre) (KK.out.2.1 _ hpre) c3 hlt hin ?_) (by kernel_rfl)
    intros
    rename_i hw
    subst hw
    refine bG ?_
    refine wpIn_cond_false rfl ?_
    refine wpIn_exit ?_
    repeat (refine wB ?_)
    refine sS ?_
    refine iC ?_
    refine bG ?_
    refine bP (d := .region 4 (aJ 4 Try.f100) false) (by kernel_rfl) ?_
    refine RW.wpIn (ris4 (by omega) ?_) (by kernel_rfl)
    intros
    rename_i hw
    subst hw
    refine bG ?_
    refine⟨⟨p+1,0,j,qN.mk,hlt,fun _=>Nat.zero_le _,hjl,by rw [hdj,Aa hlt],hJj,hpre,hws⟩,?_⟩
    rw [g4]
    show R.length - (p+1)<R.length - p
    omega
  ·refine RW.wpIn (ris3f (KK.out.1 _ hpre) (KK.out.2.1 _ hpre) hlt ?_) (by kernel_rfl)
   intros
   rename_i hw
   subst hw
   refine bG ?_
   refine wpIn_cond_false rfl ?_
   refine wpIn_exit ?_
   repeat (refine wB ?_)
   refine sS ?_
   refine bodyPost_end (results_none rfl _ _ _) rfl ?_
   have hj:j=(iR R xs).length:=by
    rw [rest_end (by omega)] at hdj
    have:=List.drop_eq_nil_iff.1 hdj
    omega
   subst hj
   exact⟨⟨_,rfl⟩,.inl ⟨_,hJj,hpre.lt⟩⟩
open Go.Gl Go.RowKit
def under (ts:List UInt8) (e:EV):Bool:=ts.isEmpty || aF e.k ts
def kw (R:List PV) (xs ts:List UInt8):List EV:=(iR R xs).takeWhile (under ts)
theorem Em (R:List PV) (xs ts:List UInt8):(kw R xs ts).length≤(iR R xs).length:=List.Sublist.length_le (List.takeWhile_sublist _)
theorem oP {α:Type} (p:α→Bool) (l:List α):∀ (i:Nat) (e:α),i≤(l.takeWhile p).length→l[i]?=some e→(p e=true↔i<(l.takeWhile p).length)∧(i<(l.takeWhile p).length→(l.takeWhile p)[i]?=some e):=by
  induction l with
  | nil=>intro i e _ h;simp at h
  | cons a l ih =>
    intro i e hi he
    rw [List.takeWhile_cons] at hi ⊢
    cases hp:p a with
    | true =>
      rw [hp] at hi
      simp only [if_true] at hi ⊢
      rcases i with _ | i
      · obtain rfl:a=e:=by simpa using he
        exact⟨⟨fun _=>by simp,fun _=>hp⟩,fun _=>rfl⟩
      · obtain⟨h1,h2⟩:=ih i e (by simpa using hi) (by simpa using he)
        exact⟨⟨fun h=>(by have:=h1.1 h;simp;omega),fun h=>h1.2 (by simpa using h)⟩,fun h=>(by simpa using h2 (by simpa using h))⟩
    | false =>
      rw [hp] at hi
      simp only [Bool.false_eq_true,if_false,List.length_nil,Nat.le_zero] at hi ⊢
      subst hi
      obtain rfl:a=e:=by simpa using he
      exact⟨⟨fun h=>(by rw [hp] at h;cases h),fun h=>(by omega)⟩,fun h=>(by omega)⟩
def pz (B:Nat) (L:List EV) (i:Nat) (U:Nat→Prop) (args:Array Value) (W:World):Prop :=
 ∃ e kv vv,L[i]?=some e∧args=#[kv,vv]∧Gl.Own W kv e.k∧Gl.Own W vv e.v∧(∀ k,kv.ownBlock=some k→¬ U k)∧(∀ k,vv.ownBlock=some k→¬ U k)∧(∀ k,kv.ownBlock=some k→vv.ownBlock≠some k)∧(∀ k,kv.ownBlock=some k→B≤k)∧(∀ k,vv.ownBlock=some k→B≤k)
theorem zn {W:World}{v:Value}{xs:List UInt8} (h:Gl.Own W v xs) {k:Nat} (hk:v.ownBlock=some k):∃ o,W.heap[k]?=some o∧o.isCells=true:=by
 rcases h.2 with ⟨rfl,_⟩ | ⟨g,off,cap,cur,rfl,hg,_⟩
 ·simp [Value.ownBlock] at hk
 ·simp [Value.ownBlock] at hk
  subst hk
  exact⟨_,hg,rfl⟩
theorem nD (B:Nat) (L:List EV):nP (pz B L):=by
 rintro i U args W l o ⟨e,kv,vv,h1,h2,h3,h4,h5,h6,h7,h8,h9⟩ hl hc
 have key:∀ {v:Value}{xs:List UInt8},Gl.Own W v xs→v.ownBlock≠some l:=fun h hk=>by
  obtain⟨o',ho,hc'⟩:=zn h hk
  rw [hl] at ho
  cases ho
  rw [hc] at hc'
  cases hc'
 exact⟨e,kv,vv,h1,h2,h3,h4,fun k hk hu=>by rcases hu with hu | rfl;exact h5 k hk hu;exact key h3 hk,fun k hk hu=>by rcases hu with hu | rfl;exact h6 k hk hu;exact key h4 hk,h7,h8,h9⟩
theorem yZ (R:List PV) (xs:List UInt8):nP (ARis R xs):=fun i U args W l o h _ _=>h
theorem vW {a b:Value}{k:Nat} (h:ig #[a,b] k):a.ownBlock=some k∨b.ownBlock=some k:=by
 obtain⟨v,hv,hk⟩:=h
 have:v=a∨v=b:=by simpa using hv
 rcases this with rfl | rfl
 ·exact .inl hk
 ·exact .inr hk
def xE (g:Nat) (vo:Value) (R:List PV) (m bf bt:Nat) (fv tv:Value) (k:Nat):Prop:=lw g vo R m bf fv k∨k=bt∨tv.ownBlock=some k
structure jV (w:World) (g:Nat) (vo:Value) (R:List PV) (m bf bt:Nat) (fv tv:Value) (xs ts:List UInt8):Prop where
 ris:gp w g vo R m bf fv xs
 bt:∃ t,w.heap[bt]?=some (.cells #[tv] t (0,0))
 tv:Gl.Own w tv ts
theorem jV.keep {w w':World}{g:Nat}{vo:Value}{R:List PV}{m bf bt:Nat}{fv tv:Value}{xs ts:List UInt8} (h:jV w g vo R m bf bt fv tv xs ts) (hm:ae (fun k=>¬ xE g vo R m bf bt fv tv k) w w'):jV w' g vo R m bf bt fv tv xs ts:=by
 obtain⟨t1,h1⟩:=h.bt
 exact⟨h.ris.keep (hm.mono (fun k _ hk x=>hk (.inl x))),⟨t1,hm.heap h1 (fun x=>x (.inr (.inl rfl)))⟩,h.tv.keep hm (fun k hk x=>x (.inr (.inr hk)))⟩
theorem jV.lt {w:World}{g:Nat}{vo:Value}{R:List PV}{m bf bt:Nat}{fv tv:Value}{xs ts:List UInt8} (h:jV w g vo R m bf bt fv tv xs ts):∀ k,xE g vo R m bf bt fv tv k→k<w.heap.size:=by
 obtain⟨t1,h1⟩:=h.bt
 rintro k (hk | rfl | hk)
 ·exact h.ris.lt k hk
 ·exact lt_of_heap h1
 ·exact h.tv.lt k hk
def Ey (w:World) (g:Nat) (fv:Value) (m bf:Nat) (w':World):Prop :=
 (∃ t,w'.heap[m]?=some (.cells #[.pointer (some ⟨g,0,none⟩)] t (0,0)))∧(∃ t,w'.heap[bf]?=some (.cells #[fv] t (0,0)))∧ae aj w w'∧w.heap.size≤m∧w.heap.size≤bf
theorem yD {w:World}{g:Nat}{fv:Value}{xs:List UInt8} (hf:Rd w fv xs) :
  Calls Try.prog 68 #[.pointer (some ⟨g,0,none⟩),fv] w fun e w'=>∃ m bf:Nat,e = .returned (.func (.func 100) #[] #[.pointer (some ⟨m,0,none⟩),.pointer (some ⟨bf,0,none⟩)])∧Ey w g fv m bf w':=by
 obtain⟨a,c,rfl,_⟩:=hf.form
 clear hf
 go_enter Try.func68,Try.ntmps68
 go_wp2
 go_ret
 refine⟨_,_,rfl,⟨66,dS (bC w _) _⟩,⟨77,?_⟩,((ae.refl aj w).alloc _).alloc _,Nat.le_refl _,by omega⟩
 have:=bC (w.alloc (.cells #[.pointer (some ⟨g,0,none⟩)] 66)) (.cells #[.slice a xs.length c] 77)
 rw [World.size_alloc] at this
 exact this
theorem BQ {R:List PV}{xs:List UInt8}{i:Nat}{e:EV} (h:(iR R xs)[i]?=some e):∃ p∈R,e∈p.es:=by
 have h1:e∈iR R xs:=List.mem_of_getElem? h
 unfold iR rest at h1
 have h2:=List.mem_of_mem_drop h1
 obtain⟨p,hp,he⟩:=List.mem_flatMap.1 h2
 exact⟨p,List.mem_of_mem_drop hp,he⟩
def iy (UW:Nat→Prop) (by1:Nat) (U:Nat→Prop) (k:Nat):Prop:=UW k∨U k∨k=by1
theorem Aj {w:World}{g:Nat}{vo:Value}{R:List PV}{m bf bt:Nat}{fv tv:Value}{xs ts:List UInt8} (h:jV w g vo R m bf bt fv tv xs ts) (ok:fH (aB R)) (hn:R.length≤1000000) (hts:ts.length≤1000000) :
  Iter Try.prog 67 #[.pointer (some ⟨m,0,none⟩),.pointer (some ⟨bf,0,none⟩),.pointer (some ⟨bt,0,none⟩)] (kw R xs ts).length (pz w.heap.size (kw R xs ts)) (xE g vo R m bf bt fv tv) aj w:=by
 intro l J Jx W hW hJ hJx hY h0
 have pre:=h.keep hW
 have hwW:w.heap.size≤W.heap.size:=hW.size
 clear h hW
 obtain⟨tm,hbm⟩:=pre.ris.bm
 obtain⟨tf,hbf⟩:=pre.ris.bfr
 obtain⟨a1,ct,htv,_⟩:=pre.tv.rd.form
 obtain⟨UW,hUW⟩:∃ UW,xE g vo R m bf bt fv tv=UW:=⟨_,rfl⟩
 rw [hUW] at h0
 have hUl:∀ k,UW k→k<W.heap.size:=fun k hk=>by rw [← hUW] at hk;exact pre.lt k hk
 have keepP:∀ A B,jV A g vo R m bf bt fv tv xs ts→ae (fun k=>¬ UW k) A B→jV B g vo R m bf bt fv tv xs ts:=fun A B hp hm=>hp.keep (by rw [hUW];exact hm)
 have SW:=lh hUW
 (refine kG _ Try.func67 rfl ?_;simp only [Try.ntmps67,List.size_toArray,List.length_cons,List.length_nil,Nat.reduceAdd,Nat.reduceSub,Array.replicate_succ,Array.replicate_zero,List.push_toArray,List.append_toArray,List.nil_append,List.cons_append])
 refine wpIn_seq ?_
 refine bP (d := .region 0 (aJ 0 Try.f67) false) (by kernel_rfl) ?_
 refine RW.wpIn (wk0 ?_) (by kernel_rfl)
 intro by1 w1 hby hbO m1
 refine bG ?_
 have pre1:=keepP _ _ pre (m1.mono (fun _ _ x=>x.elim))
 refine wpIn_seq ?_
 refine bP (d := .region 1 (aJ 1 Try.f67) false) (by kernel_rfl) ?_
 refine RW.wpIn (wk1 (ai (m1.heap hbm (fun x=>x)) 0) (ai (m1.heap hbf (fun x=>x)) 0) (yD pre1.ris.fr.rd) ?_) (by kernel_rfl)
 intros
 rename_i ma bq w2 hres
 obtain⟨⟨t1,e1⟩,⟨t2,e2⟩,m2,s1,s2⟩:=hres
 refine bG ?_
 have m12:=m1.then0 m2
 have pre2:=keepP _ _ pre (m12.mono (fun _ _ x=>x.elim))
 have rp:gp w2 g vo R ma bq fv xs:=⟨pre2.ris.pm,⟨_,e1⟩,⟨_,e2⟩,pre2.ris.fr⟩
 have hbO2:=m2.heap hbO (fun x=>x)
 have hby2:by1<w2.heap.size:=lt_of_heap hbO2
 have hs12:W.heap.size≤w2.heap.size:=m12.size
 have hUo:∀ U:Nat→Prop,(∀ k,U k→k<w2.heap.size)→∀ k,iy UW by1 U k→k<w2.heap.size:=fun U hU k hk=>by
  rcases hk with hk | hk | rfl
  ·have:=hUl k hk;omega
  ·exact hU k hk
  ·exact hby2
 have hsub0:∀ k,iy UW by1 (lw g vo R ma bq fv) k→UW k∨W.heap.size≤k:=fun k hk=>by
  rcases hk with hk | hk | rfl
  ·exact .inl hk
  ·rcases hk with hk | hk | rfl | rfl | hk
   ·exact .inl (by rw [← SW.out];exact .inl (.inl hk))
   ·exact .inl (by rw [← SW.out];exact .inl (.inr (.inl hk)))
   ·right;have:=m1.size;omega
   ·right;have:=m1.size;omega
   ·exact .inl (by rw [← SW.out];exact .inl (.inr (.inr (.inr (.inr hk)))))
  ·right;omega
 have h2:J 0 (iy UW by1 (lw g vo R ma bq fv)) w2:=hJ _ _ _ _ _ h0 (m12.mono (fun _ _ x=>x.elim)) hUl hsub0
 have frm:∀ (X:Nat→(Nat→Prop)→World→Prop),jY W.heap.size aj X→∀ i U U' A B,X i (iy UW by1 U) A→w2.heap.size≤A.heap.size→ae (fun k=>U k∧(aj k∨w2.heap.size≤k)) A B→(∀ k,U k→k<A.heap.size)→(∀ k,U' k→U k∨A.heap.size≤k)→X i (iy UW by1 U') B:=fun X hX i U U' A B hx hsz hm hus hsub=>by
  refine hX _ _ _ _ _ hx (hm.mono (fun k _ hk=>⟨.inr (.inl hk.1),hk.2.imp id (fun h=>by omega)⟩)) (fun k hk=>?_) (fun k hk=>?_)
  ·rcases hk with hk | hk | rfl
   ·have:=hUl k hk;omega
   ·exact hus k hk
   ·omega
  ·rcases hk with hk | hk | hk
   ·exact .inl (.inl hk)
   ·exact (hsub k hk).imp (fun h => .inr (.inl h)) id
   ·exact .inl (.inr (.inr hk))
 have keep2:∀ (U:Nat→Prop) (A B:World),ae (fun k=>U k∧(aj k∨w2.heap.size≤k)) A B→jV A g vo R m bf bt fv tv xs ts∧A.heap[by1]?=some (.cells #[.func (.yield l) #[] #[]] 97 (0,0))→jV B g vo R m bf bt fv tv xs ts∧B.heap[by1]?=some (.cells #[.func (.yield l) #[] #[]] 97 (0,0)):=fun U A B hm hp=>by
  refine⟨keepP _ _ hp.1 (hm.mono (fun k _ hk hu=>?_)),hm.heap hp.2 (fun hk=>?_)⟩
  ·rcases hk.2 with h | h
   ·exact h
   ·have:=hUl k hu;omega
  ·rcases hk.2 with h | h
   ·exact h
   ·omega
 refine wpIn_block ?_
 refine qH (by rfl) (enters_of Try.func100 (by kernel_rfl) rfl) (xg rp ok hn) (ae.refl _ _) rp.lt (yZ R xs) (fun i U args W1 hA=>by obtain⟨e,_,rfl⟩:=hA;rfl)
  (fun i U Wr=>i≤(kw R xs ts).length∧J i (iy UW by1 U) Wr∧(jV Wr g vo R m bf bt fv tv xs ts∧Wr.heap[by1]?=some (.cells #[.func (.yield l) #[] #[]] 97 (0,0)))∧w2.heap.size≤Wr.heap.size)
  (fun c i U Wr=>c = .ret∧((i=(kw R xs ts).length+1∧J (kw R xs ts).length (iy UW by1 U) Wr)∨(∃ j,i=j+1∧j<(kw R xs ts).length∧Jx (j+1) (iy UW by1 U) Wr))∧w2.heap.size≤Wr.heap.size)
  ?_ ?_ ⟨Nat.zero_le _,h2,⟨pre2,hbO2⟩,Nat.le_refl _⟩ ?_ ?_ ?_
 ·rintro i U U' A B ⟨h1,h2,h3,h4⟩ hm hus hsub
  exact⟨h1,frm J hJ _ _ _ _ _ h2 h4 hm hus hsub,keep2 U _ _ hm h3,Nat.le_trans h4 hm.size⟩
 ·rintro c i U U' A B ⟨h1,h2,h4⟩ hm hus hsub
  refine⟨h1,h2.imp (fun x=>⟨x.1,frm J hJ _ _ _ _ _ x.2 h4 hm hus hsub⟩) (fun⟨j,x1,x2,x3⟩=>⟨j,x1,x2,frm Jx hJx _ _ _ _ _ x3 h4 hm hus hsub⟩),Nat.le_trans h4 hm.size⟩
 ·-- one round
  intro lp i U args Wr hlp hUlp hi ⟨hin,hJi,⟨hpr,hbyr⟩,hszr⟩ ⟨e,hei,hargs⟩ hUs _ _ _ _
  subst hargs
  obtain⟨hq1,hq2⟩:=oP (under ts) (iR R xs) i e hin hei
  obtain⟨pg1,hpg1,hepg⟩:=BQ hei
  have he1:=hpr.ris.pm.ents pg1 hpg1 e hepg
  obtain⟨ak,ck,hak,_⟩:=he1.k.form
  obtain⟨av,cv,hav,_⟩:=he1.v.form
  simp only [iD,List.setIfInBounds_toArray,List.set_cons_succ,List.set_cons_zero]
  refine bP (d := .region 2 (aJ 2 Try.f67) false) (by kernel_rfl) ?_
  refine RW.wpIn (wk2 (u:=e.kv) (v:=e.vv) (by rw [hak];rfl) (by rw [hav];rfl) ?_) (by kernel_rfl)
  intro bx w3 hbx hbxO m3
  refine bG ?_
  refine⟨m3.mono (fun _ _ x=>x.elim),?_⟩
  intro w4 m4 _
  have hxl:bx≠lp:=fun e=>by have:=hUs lp hUlp;omega
  have hbx4:=m4.heap hbxO hxl
  have m34:=m3.trans m4 (U:=fun k=>k=lp) (fun _ _ x=>x.elim) (fun _ _ x=>x)
  have hkl:ae (fun k=>U k∧(aj k∨w2.heap.size≤k)) Wr w4:=m34.mono (fun k _ hk=>by subst hk;exact⟨hUlp,.inr hlp⟩)
  obtain⟨hp4,hby4⟩:=keep2 U _ _ hkl ⟨hpr,hbyr⟩
  have hJ4:=frm J hJ _ _ _ _ _ hJi hszr hkl hUs (fun k hk => .inl hk)
  have hsz4:=Nat.le_trans hszr m34.size
  have he4:=hp4.ris.pm.ents pg1 hpg1 e hepg
  have hUs4:∀ k,U k→k<w4.heap.size:=fun k hk=>Nat.lt_of_lt_of_le (hUs k hk) m34.size
  have hUo4:∀ k,iy UW by1 U k→k<w4.heap.size:=fun k hk=>by
   rcases hk with hk | hk | rfl
   ·have:=hUl k hk;omega
   ·exact hUs4 k hk
   ·omega
  have hbt4:w4.cell? ⟨bt,0,none⟩=some (.slice a1 ts.length ct):=by obtain⟨t,ht⟩:=hp4.bt;rw [← htv];exact ai ht 0
  have hbtl:bt<w4.heap.size:=by obtain⟨t,ht⟩:=hp4.bt;exact lt_of_heap ht
  have htr:Rd w4 (.slice a1 ts.length ct) ts:=by rw [← htv];exact hp4.tv.rd
  have hbyc:w4.cell? ⟨by1,0,none⟩=some (.func (.yield l) #[] #[]):=ai hby4 0
  have hbyl:by1<w4.heap.size:=lt_of_heap hby4
  clear hpr hbyr hJi hbxO m3 hkl he1
  refine wpIn_block ?_
  refine wpIn_seq ?_
  refine bP (d := .region 3 (aJ 3 Try.f67) true) (by kernel_rfl) ?_
  have go:∀ (hu:under ts e=true) (d1 d2:Value) (w5:World),Gl.Own w5 d1 e.k→Gl.Own w5 d2 e.v→aI w4 d1→aI w4 d2→(∀ k,d1.ownBlock=some k→d2.ownBlock≠some k)→ae aj w4 w5 →
    xN Try.prog l #[d1,d2] w5 fun r w6=>(r = .returned (.bool true)∧(i+1≤(kw R xs ts).length∧J (i+1) (iy UW by1 U) w6∧(jV w6 g vo R m bf bt fv tv xs ts∧w6.heap[by1]?=some (.cells #[.func (.yield l) #[] #[]] 97 (0,0)))∧w2.heap.size≤w6.heap.size)∧ae (fun k=>¬ U k) w4 w6) ∨
     (r = .returned (.bool false)∧(i<(kw R xs ts).length∧Jx (i+1) (iy UW by1 U) w6)∧ae (fun k=>¬ U k) w4 w6∧w2.heap.size≤w6.heap.size):=by
   intro hu d1 d2 w5 o1 o2 f1 f2 dd m5
   have hlt:=hq1.1 hu
   have hJ5:=frm J hJ _ _ _ _ _ hJ4 hsz4 (m5.mono (fun _ _ x=>x.elim)) hUs4 (fun k hk => .inl hk)
   have hY5:=hY i (iy UW by1 U) #[d1,d2] w5 hlt hJ5 ⟨e,d1,d2,hq2 hlt,rfl,o1,o2,fun k hk hu=>by have:=f1 k hk;have:=hUo4 k hu;omega,fun k hk hu=>by have:=f2 k hk;have:=hUo4 k hu;omega,dd,fun k hk=>by have:=f1 k hk;omega,fun k hk=>by have:=f2 k hk;omega⟩ (fun k hk=>Nat.lt_of_lt_of_le (hUo4 k hk) m5.size) (by have:=m5.size;omega)
    (hJ _ _ _ _ _ hJ4 (m5.mono (fun _ _ x=>x.elim)) hUo4 (fun k hk=>hk.imp id (fun h=>by rcases vW h with h | h;exact f1 k h;exact f2 k h))) (fun k hk=>by rcases vW hk with h | h;exact o1.lt k h;exact o2.lt k h)
   obtain⟨fn,tm,asg,bd,hy,hR⟩:=hY5
   refine⟨fn,tm,asg,bd,hy,hR.mono ?_⟩
   rintro r w6 (⟨rfl,k1,k2⟩ | ⟨rfl,k1,k2⟩)
   ·have k3:=(m5.trans k2 (U:=fun k=>¬ iy UW by1 U k) (fun _ _ x=>x.elim) (fun _ _ x=>x))
    refine .inl ⟨rfl,⟨hlt,k1,⟨keepP _ _ hp4 (k3.mono (fun k _ hk hu=>hk (.inl hu))),k3.heap hby4 (fun hk=>hk (.inr (.inr rfl)))⟩,Nat.le_trans hsz4 k3.size⟩,k3.mono (fun k _ hk hu=>hk (.inr (.inl hu)))⟩
   ·have k3:=(m5.trans k2 (U:=fun k=>¬ iy UW by1 U k) (fun _ _ x=>x.elim) (fun _ _ x=>x))
    exact .inr ⟨rfl,⟨hlt,k1⟩,k3.mono (fun k _ hk hu=>hk (.inr (.inl hu))),Nat.le_trans hsz4 k3.size⟩
  by_cases hte:ts=[]
  ·have hu:under ts e=true:=by rw [hte];rfl
   refine gW (Q1:=fun _ a' w'=>wpOpsIn _ _ _ _ _ _ a' w') 18 (by kernel_rfl) (wk3a hbx4 hbt4 hbtl he4.k he4.v htr he4.lk he4.lv hte hbyc hbyl ?_) (fun _ _ h=>h)
   intros
   rename_i d1 d2 w5 o1 o2 f1 f2 dd m5
   refine jo (some 28) (ki (by kernel_rfl)) (by kernel_rfl) (by kernel_rfl) (go hu d1 d2 w5 o1 o2 f1 f2 dd m5) ?_
   rintro r w6 (⟨rfl,k1,k2⟩ | ⟨rfl,k1,k2,k3⟩)
   ·refine⟨_,rfl,?_⟩
    refine eX (.bool false) (some 29) (ki (by kernel_rfl)) (by kernel_rfl) (by kernel_rfl) ?_
    refine eX (.bool false) (some 30) (ki (by kernel_rfl)) (by kernel_rfl) (by kernel_rfl) ?_
    refine bG ?_
    refine wpIn_cond_false rfl ?_
    refine wpIn_skip ?_
    refine iC ?_
    exact⟨k2,k1⟩
   ·refine⟨_,rfl,?_⟩
    refine eX (.bool true) (some 29) (ki (by kernel_rfl)) (by kernel_rfl) (by kernel_rfl) ?_
    refine eX (.bool true) (some 30) (ki (by kernel_rfl)) (by kernel_rfl) (by kernel_rfl) ?_
    refine bG ?_
    refine wpIn_cond_true rfl ?_
    refine wpIn_ret ?_
    repeat (first | refine lL ?_ | refine jD ?_)
    exact⟨k2,rfl,.inr ⟨i,rfl,k1.1,k1.2⟩,k3⟩
  ·have hemp:ts.isEmpty=false:=by cases ts with | nil=>exact absurd rfl hte | cons a b=>rfl
   by_cases hcmp:0≤Lib.compareBytes e.k ts
   ·have hu:¬ under ts e=true:=by
     unfold under
     rw [hemp,Bool.false_or,← vM]
     simpa using hcmp
    have hie:i=(kw R xs ts).length:=by
     have:¬ i<(kw R xs ts).length:=fun h=>hu (hq1.2 h)
     omega
    refine RW.wpIn (wk3s (l:=l) hbx4 hbt4 hbtl he4.k he4.v htr he4.lk he4.lv hte hcmp ?_) (by kernel_rfl)
    intros
    rename_i w5 m5
    refine bG ?_
    refine wpIn_cond_true rfl ?_
    refine wpIn_ret ?_
    repeat (first | refine lL ?_ | refine jD ?_)
    have hJ5:=frm J hJ _ _ _ _ _ hJ4 hsz4 (m5.mono (fun _ _ x=>x.elim)) hUs4 (fun k hk => .inl hk)
    rw [hie] at hJ5
    exact⟨m5.mono (fun _ _ x=>x.elim),rfl,.inl ⟨by rw [hie],hJ5⟩,Nat.le_trans hsz4 m5.size⟩
   ·have hu:under ts e=true:=by
     unfold under
     rw [hemp,Bool.false_or,← vM]
     simpa using hcmp
    refine gW (Q1:=fun _ a' w'=>wpOpsIn _ _ _ _ _ _ a' w') 18 (by kernel_rfl) (wk3b hbx4 hbt4 hbtl he4.k he4.v htr he4.lk he4.lv hte hcmp hbyc hbyl ?_) (fun _ _ h=>h)
    intros
    rename_i d1 d2 w5 o1 o2 f1 f2 dd m5
    refine jo (some 28) (ki (by kernel_rfl)) (by kernel_rfl) (by kernel_rfl) (go hu d1 d2 w5 o1 o2 f1 f2 dd m5) ?_
    rintro r w6 (⟨rfl,k1,k2⟩ | ⟨rfl,k1,k2,k3⟩)
    ·refine⟨_,rfl,?_⟩
     refine eX (.bool false) (some 29) (ki (by kernel_rfl)) (by kernel_rfl) (by kernel_rfl) ?_
     refine eX (.bool false) (some 30) (ki (by kernel_rfl)) (by kernel_rfl) (by kernel_rfl) ?_
     refine bG ?_
     refine wpIn_cond_false rfl ?_
     refine wpIn_skip ?_
     refine iC ?_
     exact⟨k2,k1⟩
    ·refine⟨_,rfl,?_⟩
     refine eX (.bool true) (some 29) (ki (by kernel_rfl)) (by kernel_rfl) (by kernel_rfl) ?_
     refine eX (.bool true) (some 30) (ki (by kernel_rfl)) (by kernel_rfl) (by kernel_rfl) ?_
     refine bG ?_
     refine wpIn_cond_true rfl ?_
     refine wpIn_ret ?_
     repeat (first | refine lL ?_ | refine jD ?_)
     exact⟨k2,rfl,.inr ⟨i,rfl,k1.1,k1.2⟩,k3⟩
 ·-- all have come
  rintro D U W5 hD hUD hus ⟨h1,h2,h3,h4⟩ hdef
  refine iC ?_
  refine gQ hdef (results_none rfl _ _ _) ?_
  have hj:(iR R xs).length=(kw R xs ts).length:=by have:=Em R xs ts;omega
  rw [hj] at h2
  have hD5:=lt_of_heap hdef
  refine⟨⟨_,rfl⟩,.inl ⟨iy UW by1 U,frm J hJ _ _ _ _ _ h2 h4 ((dB W5 D _).mono (fun k _ hk=>by subst hk;exact⟨hUD,.inr hD⟩)) hus (fun k hk => .inl hk),fun k hk=>?_⟩⟩
  rw [World.putObj_size]
  rcases hk with hk | hk | rfl
  ·have:=hUl k hk;omega
  ·exact hus k hk
  ·omega
 ·-- a round has left
  rintro D c i U W5 hD hUD hus hi ⟨rfl,h2,h4⟩ hdef
  have hbd:∀ k,iy UW by1 U k→k<(W5.putObj D (.deferred none)).heap.size:=fun k hk=>by
   rw [World.putObj_size]
   rcases hk with hk | hk | rfl
   ·have:=hUl k hk;omega
   ·exact hus k hk
   ·omega
  have hmD:ae (fun k=>U k∧(aj k∨w2.heap.size≤k)) W5 (W5.putObj D (.deferred none)):=(dB W5 D _).mono (fun k _ hk=>by subst hk;exact⟨hUD,.inr hD⟩)
  refine wpIn_ret ?_
  refine jD ?_
  refine gQ hdef (results_none rfl _ _ _) ?_
  rcases h2 with ⟨_,h2⟩ | ⟨j,hj,hjl,h2⟩
  ·exact⟨⟨_,rfl⟩,.inl ⟨iy UW by1 U,frm J hJ _ _ _ _ _ h2 h4 hmD hus (fun k hk => .inl hk),hbd⟩⟩
  ·exact⟨⟨_,rfl⟩,.inr ⟨j,iy UW by1 U,hjl,frm Jx hJx _ _ _ _ _ h2 h4 hmD hus (fun k hk => .inl hk),hbd⟩⟩
open Go.Gl Go.RowKit
def yR (w:World) (g:Nat) (vo:Value) (R:List PV) (xs ts:List UInt8) (m bf bt:Nat) (fv tv:Value) (w':World):Prop :=
 jV w' g vo R m bf bt fv tv xs ts∧ae aj w w'∧w.heap.size≤m∧w.heap.size≤bf∧w.heap.size≤bt∧aI w fv∧aI w tv
theorem AZ {w:World}{g:Nat}{vo fv tv:Value}{R:List PV}{xs ts:List UInt8} (hm:PM w g vo R) (hf:Rd w fv xs) (ht:Rd w tv ts) (lx:xs.length≤1000000) (lt:ts.length≤1000000) :
  Calls Try.prog 36 #[.pointer (some ⟨g,0,none⟩),fv,tv] w fun e w'=>∃ m bf bt fv' tv',e = .returned (.func (.func 67) #[] #[.pointer (some ⟨m,0,none⟩),.pointer (some ⟨bf,0,none⟩),.pointer (some ⟨bt,0,none⟩)])∧yR w g vo R xs ts m bf bt fv' tv' w':=by
 obtain⟨a1,c1,rfl,_⟩:=hf.form
 obtain⟨a2,c2,rfl,_⟩:=ht.form
 have HM:=lh hm
 have HF:=lh hf
 have HT:=lh ht
 have hgl:=lt_of_heap hm.hg
 clear hm hf ht
 go_enter Try.func36,Try.ntmps36
 go_upto_region 1 with fail
 have h1:=bC w (.cells #[.pointer (some ⟨g,0,none⟩)] 66)
 have h2:=bC (w.alloc (.cells #[.pointer (some ⟨g,0,none⟩)] 66)) (.cells #[.slice a1 xs.length c1] 77)
 have h3:=bC ((w.alloc (.cells #[.pointer (some ⟨g,0,none⟩)] 66)).alloc (.cells #[.slice a1 xs.length c1] 77)) (.cells #[.slice a2 ts.length c2] 77)
 have h1':=dS (dS h1 (.cells #[.slice a1 xs.length c1] 77)) (.cells #[.slice a2 ts.length c2] 77)
 have h2':=dS h2 (.cells #[.slice a2 ts.length c2] 77)
 have m1:=(((ae.refl aj w).alloc (.cells #[.pointer (some ⟨g,0,none⟩)] 66)).alloc (.cells #[.slice a1 xs.length c1] 77)).alloc (.cells #[.slice a2 ts.length c2] 77)
 simp only [World.size_alloc] at h2 h3 h1' h2'
 generalize World.alloc (World.alloc (World.alloc w _) _) _=w1 at *
 refine gJ (d := .region 1 (aJ 1 Try.f36) true) (by kernel_rfl) ?_
 refine RW.wp (wkOwn h2' h3 (by omega) (HF.out.keep m1 (fun _ _ x=>x)) (HT.out.keep m1 (fun _ _ x=>x)) (by omega) (by omega) ?_)
 intros
 rename_i d1 d2 w2 e1 e2 o1 o2 f1 f2 m2
 have hs1:w.heap.size≤w1.heap.size:=m1.size
 have hw1:w.heap.size+2<w1.heap.size:=lt_of_heap h3
 have pm:PM w2 g vo R:=(HM.out.keep0 m1).keep m2 (fun k hk e=>by have:=HM.out.lt k hk;omega) (fun k hk e=>by have:=HM.out.dlt k hk;omega)
 have hm3:=m2.heap h1' (fun e=>by omega)
 have m12:ae aj w w2:=m1.trans m2 (fun _ _ x=>x) (fun i hi e=>by omega)
 have RES:=lh (show yR w g vo R xs ts w.heap.size (w.heap.size+1) (w.heap.size+1+1) d1 d2 w2 from⟨⟨⟨pm,⟨_,hm3⟩,⟨_,e1⟩,o1⟩,⟨_,e2⟩,o2⟩,m12,Nat.le_refl _,by omega,by omega,f1.of hs1,f2.of hs1⟩)
 clear h1 h2 h3 h1' h2' m1 m2 e1 e2 o1 o2 f1 f2 pm hm3 m12
 go_wp2
 go_ret
 exact⟨_,_,_,_,_,rfl,RES.out⟩
open Go.Gl Go.RowKit
open Go.Gl Go.RowKit
open Go.Gl
theorem Ag (R:List PV) (p i:Nat):ents (rest R p i)=((aB R).drop p).flatten.drop i:=by
 unfold rest ents aB
 rw [List.map_drop,List.map_flatMap,List.flatMap_def,List.map_drop]
 rfl
theorem A8 {R:List PV} (ok:fH (aB R)) (xs:List UInt8):ents (iR R xs)=(aB R).flatten.filter (fun e => !aF e.1 xs):=by
 unfold iR
 rw [Ag]
 by_cases hne:aB R=[]
 ·rw [hne];simp
 obtain⟨A,l,C,i,h⟩:=lies ok hne xs
 rw [h.fst,h.snd,h.flat]
 rw [List.filter_append,gu (l:=A.flatten ++ l.take i) (fun e he=>by rcases List.mem_append.1 he with he | he;rw [h.lo e he];rfl;rw [h.plo e he];rfl),List.nil_append,
  filter_all (l:=l.drop i ++ C.flatten) (fun e he=>by rcases List.mem_append.1 he with he | he;rw [h.phi e he];rfl;rw [jl (h.hi e he)];rfl)]
 rw [h.eq,List.append_assoc A,List.drop_left' rfl,List.flatten_append,List.flatten_singleton,List.drop_append_of_le_length h.il]
theorem xZ (p:aN→Bool):∀ L:List EV,ents (L.takeWhile (fun e=>p (e.k,e.v)))=(ents L).takeWhile p
  | []=>rfl
  | e :: L => by
    have ih:=xZ p L
    unfold ents at ih ⊢
    rw [List.takeWhile_cons,List.map_cons,List.takeWhile_cons]
    cases hp:p (e.k,e.v) with
    | true=>rw [show p e.ent=true from hp];simp only [if_true];rw [List.map_cons,ih]
    | false=>rw [show p e.ent=false from hp];rfl
def btw (xs ts:List UInt8) (e:aN):Bool := !aF e.1 xs && (ts.isEmpty || aF e.1 ts)
theorem DJ {R:List PV} (ok:fH (aB R)) (xs ts:List UInt8):ents (kw R xs ts)=(aB R).flatten.filter (btw xs ts):=by
  have h1:kw R xs ts=(iR R xs).takeWhile (fun e=>(fun x:aN=>ts.isEmpty || aF x.1 ts) (e.k,e.v)):=rfl
  rw [h1,xZ (fun x:aN=>ts.isEmpty || aF x.1 ts),A8 ok]
  have hr:fO ((aB R).flatten.filter (fun e => !aF e.1 xs)):=List.Pairwise.filter _ ok.ris
  have h2:((aB R).flatten.filter (fun e => !aF e.1 xs)).takeWhile (fun x=>ts.isEmpty || aF x.1 ts)=((aB R).flatten.filter (fun e => !aF e.1 xs)).filter (fun x=>ts.isEmpty || aF x.1 ts):=by
    cases ts with
    | nil =>
      simp only [List.isEmpty_nil,Bool.true_or]
      rw [List.filter_eq_self.2 (fun _ _=>rfl)]
      generalize List.filter _ _=l
      induction l with
      | nil=>rfl
      | cons a l ih=>rw [List.takeWhile_cons_of_pos rfl,ih]
    | cons a b =>
      simp only [List.isEmpty_cons,Bool.false_or]
      exact (hr.split _).1
  rw [h2,List.filter_filter]
  congr 1
  funext e
  exact Bool.and_comm _ _
open Go.Gl Go.RowKit
section
variable {w:World}{g n:Nat}{F:List aN}{Ws:List (List aN)}{S D:Nat→Prop}
end
open Go.Gl Go.RowKit
theorem kci0 {w:World}{l:Nat}{x1 x2 x3 x4 x5 x6 x7 x8 x9 aS bn bi bg aO aP aV aT aW aX aY aQ:Value}{df:List Deferred}{Q:Exit→Act→World→Prop}
  (hK:∀ (bq:Nat) (w':World),bq=w.heap.size→w'.heap[bq]?=some (.cells #[.func (.yield l) #[] #[]] 97 (0,0))→ae aj w w'→Q .normal ⟨#[.func (.yield l) #[] #[],x1,x2,.pointer (some ⟨bq,0,none⟩),x4,x5,x6,x7,x8,x9,aS,bn,bi,bg,aO,aP,aV,aT,aW,aX,aY,aQ],df⟩ w'):RW Try.prog (aJ 0 Try.f120) false Q ⟨#[.func (.yield l) #[] #[],x1,x2,x3,x4,x5,x6,x7,x8,x9,aS,bn,bi,bg,aO,aP,aV,aT,aW,aX,aY,aQ],df⟩ w:=by
 have HQ:=lh hK
 clear hK
 refine bV [(0,false)] (by kernel_rfl) ?_
 refine fB (.cells #[.func (.yield l) #[] #[]] 97) (some 3) (ki (by kernel_rfl)) (by kernel_rfl) ?_
 intro k1 w_k1 hk_k1 hO_k1 hm_k1 hl_k1
 refine⟨fun _=>trivial,?_⟩
 exact aA (aZ (K:=Q .normal) (by kernel_rfl) (HQ.out  k1 w_k1 hk_k1 hO_k1 hm_k1))
section
variable {x0 x1 x2 x3 x4 x5 x6 x7 x8 x9 aS bn bi bg aO aP aV aT aW aX aY aQ bu bz bD:Value}{df:List Deferred}{Q:Exit→Act→World→Prop}
theorem kc1 {w:World}{bs sg:Nat}{X:World→Prop} (c1:w.cell? ⟨bs,0,none⟩=some (.pointer (some ⟨sg,0,none⟩))) (hC:Calls Try.prog 58 #[.pointer (some ⟨sg,2,none⟩),.int .i64 1] w fun e w'=>∃ v,e = .returned v∧X w')
  (hK:∀ (y6 y7 y8 y9:Value)  (w':World),X w'→Q .normal ⟨#[x0,.pointer (some ⟨bs,0,none⟩),x2,x3,x4,x5,y6,y7,y8,y9,aS,bn,bi,bg,aO,aP,aV,aT,aW,aX,aY,aQ],df⟩ w'):RW Try.prog (aJ 1 Try.f120) false Q ⟨#[x0,.pointer (some ⟨bs,0,none⟩),x2,x3,x4,x5,x6,x7,x8,x9,aS,bn,bi,bg,aO,aP,aV,aT,aW,aX,aY,aQ],df⟩ w:=by
 have HQ:=lh hK
 clear hK
 refine bV [(0,false),(1,false),(2,false),(3,false)] (by kernel_rfl) ?_
 refine aG (ag sg 0) _ (some 6) (ki (by kernel_rfl)) (aC (x:=(.tmp 1)) (by kernel_rfl) (by kernel_rfl) (aH ((fun _=>c1) (trivial)) Try.underlying26 rfl)) (fun _=>trivial) ?_
 refine az [1,2] [ag sg 0,ag sg 2] rfl (by kernel_rfl) (by kernel_rfl) (.inr trivial) ?_
 refine bF (some 9) (ki (by kernel_rfl)) hC (fun _=>by kernel_rfl) ?_
 rintro r w7 ⟨v7,rfl,hh⟩
 refine⟨_,rfl,fun _=>trivial,?_⟩
 exact aA (aZ (K:=Q .normal) (by kernel_rfl) (HQ.out (ag sg 0) (ag sg 0) (ag sg 2) (v7) w7 hh))
theorem kc2 {w:World}{bw gf:Nat}{lb:Array Value} (c1:w.cell? ⟨bw,0,none⟩=some (.func (.func gf) #[] lb))
  (hK:∀  (w':World),w'=w→Q .normal ⟨#[x0,x1,.pointer (some ⟨bw,0,none⟩),x3,x4,x5,x6,x7,x8,x9,.func (.func gf) #[] lb,bn,bi,bg,aO,aP,aV,aT,aW,aX,aY,aQ],df⟩ w'):RW Try.prog (aJ 2 Try.f120) false Q ⟨#[x0,x1,.pointer (some ⟨bw,0,none⟩),x3,x4,x5,x6,x7,x8,x9,aS,bn,bi,bg,aO,aP,aV,aT,aW,aX,aY,aQ],df⟩ w:=by
 have HQ:=lh hK
 clear hK
 refine bV [(0,false)] (by kernel_rfl) ?_
 refine aG (.func (.func gf) #[] lb) _ (some 10) (ki (by kernel_rfl)) (aC (x:=(.tmp 2)) (by kernel_rfl) (by kernel_rfl) (aH ((fun _=>c1) (trivial)) Try.underlying84 rfl)) (fun _=>trivial) ?_
 exact aA (aZ (K:=Q .normal) (by kernel_rfl) (HQ.out  _ rfl))
theorem kc3 {w:World}{u:Value}{x0 x1 x2 x3 x4 x5 x6 x7 x8 x9 aS bi bg aO aP aV aT aW aX aY aQ:Value}{df:List Deferred}{Q:Exit→Act→World→Prop}
  (hK:∀  (w':World),w'=w→Q .normal ⟨#[x0,x1,x2,x3,u,x5,x6,x7,x8,x9,aS,u,bi,bg,aO,aP,aV,aT,aW,aX,aY,aQ],df⟩ w'):RW Try.prog (aJ 3 Try.f120) false Q ⟨#[x0,x1,x2,x3,x4,x5,x6,x7,x8,x9,aS,u,bi,bg,aO,aP,aV,aT,aW,aX,aY,aQ],df⟩ w:=by
 have HQ:=lh hK
 clear hK
 refine bV [(0,false)] (by kernel_rfl) ?_
 refine az [0] [u] rfl (by kernel_rfl) (by kernel_rfl) (.inr trivial) ?_
 exact aA (aZ (K:=Q .normal) (by kernel_rfl) (HQ.out  _ rfl))
theorem kc4 {w:World}{u:Value}{x0 x1 x2 x3 x4 x5 x6 x7 x8 x9 aS bn bg aO aP aV aT aW aX aY aQ:Value}{df:List Deferred}{Q:Exit→Act→World→Prop}
  (hK:∀  (w':World),w'=w→Q .normal ⟨#[x0,x1,x2,x3,x4,u,x6,x7,x8,x9,aS,bn,u,bg,aO,aP,aV,aT,aW,aX,aY,aQ],df⟩ w'):RW Try.prog (aJ 4 Try.f120) false Q ⟨#[x0,x1,x2,x3,x4,x5,x6,x7,x8,x9,aS,bn,u,bg,aO,aP,aV,aT,aW,aX,aY,aQ],df⟩ w:=by
 have HQ:=lh hK
 clear hK
 refine bV [(0,false)] (by kernel_rfl) ?_
 refine az [0] [u] rfl (by kernel_rfl) (by kernel_rfl) (.inr trivial) ?_
 exact aA (aZ (K:=Q .normal) (by kernel_rfl) (HQ.out  _ rfl))
theorem kc5 {w:World}{bs sg:Nat}{X:World→Prop} (c1:w.cell? ⟨bs,0,none⟩=some (.pointer (some ⟨sg,0,none⟩))) (hC:Calls Try.prog 58 #[.pointer (some ⟨sg,2,none⟩),.int .i64 1] w fun e w'=>∃ v,e = .returned v∧X w')
  (hK:∀ (jQ iY jA jB:Value)  (w':World),X w'→Q .normal ⟨#[x0,.pointer (some ⟨bs,0,none⟩),x2,x3,x4,x5,x6,x7,x8,x9,aS,bn,bi,jQ,iY,jA,jB,aT,aW,aX,aY,aQ],df⟩ w'):RW Try.prog (aJ 5 Try.f120) false Q ⟨#[x0,.pointer (some ⟨bs,0,none⟩),x2,x3,x4,x5,x6,x7,x8,x9,aS,bn,bi,bg,aO,aP,aV,aT,aW,aX,aY,aQ],df⟩ w:=by
 have HQ:=lh hK
 clear hK
 refine bV [(0,false),(1,false),(2,false),(3,false)] (by kernel_rfl) ?_
 refine aG (ag sg 0) _ (some 13) (ki (by kernel_rfl)) (aC (x:=(.tmp 1)) (by kernel_rfl) (by kernel_rfl) (aH ((fun _=>c1) (trivial)) Try.underlying26 rfl)) (fun _=>trivial) ?_
 refine az [1,2] [ag sg 0,ag sg 2] rfl (by kernel_rfl) (by kernel_rfl) (.inr trivial) ?_
 refine bF (some 16) (ki (by kernel_rfl)) hC (fun _=>by kernel_rfl) ?_
 rintro r w7 ⟨v7,rfl,hh⟩
 refine⟨_,rfl,fun _=>trivial,?_⟩
 exact aA (aZ (K:=Q .normal) (by kernel_rfl) (HQ.out (ag sg 0) (ag sg 0) (ag sg 2) (v7) w7 hh))
theorem kc6 {w:World}{by1 l:Nat}{u v:Value} (c1:w.cell? ⟨by1,0,none⟩=some (.func (.yield l) #[] #[]))
  (hK:∀  (w':World),w'=w→Q .normal ⟨#[x0,x1,x2,.pointer (some ⟨by1,0,none⟩),u,v,x6,x7,x8,x9,aS,bn,bi,bg,aO,aP,aV,.func (.yield l) #[] #[],u,v,aY,aQ],df⟩ w'):RW Try.prog ((aJ 6 Try.f120).toList.take 3).toArray false Q ⟨#[x0,x1,x2,.pointer (some ⟨by1,0,none⟩),u,v,x6,x7,x8,x9,aS,bn,bi,bg,aO,aP,aV,aT,aW,aX,aY,aQ],df⟩ w:=by
 have HQ:=lh hK
 clear hK
 refine bV [(0,false),(1,false),(2,false)] (by kernel_rfl) ?_
 refine aG (.func (.yield l) #[] #[]) _ (some 17) (ki (by kernel_rfl)) (aC (x:=(.tmp 3)) (by kernel_rfl) (by kernel_rfl) (aH ((fun _=>c1) (trivial)) Try.underlying97 rfl)) (fun _=>trivial) ?_
 refine az [1,2] [u,v] rfl (by kernel_rfl) (by kernel_rfl) (.inr trivial) ?_
 exact aA (aZ (K:=Q .normal) (by kernel_rfl) (HQ.out  _ rfl))
theorem kp0 {w:World}{l:Nat}{x1 x2 x3 x4 x5 x6 x7 x8 x9 aS bn bi bg aO aP aV aT aW aX aY aQ bu bz bD:Value}{df:List Deferred}{Q:Exit→Act→World→Prop}
  (hK:∀ (bq:Nat) (w':World),bq=w.heap.size→w'.heap[bq]?=some (.cells #[.func (.yield l) #[] #[]] 97 (0,0))→ae aj w w'→Q .normal ⟨#[.func (.yield l) #[] #[],x1,x2,.pointer (some ⟨bq,0,none⟩),x4,x5,x6,x7,x8,x9,aS,bn,bi,bg,aO,aP,aV,aT,aW,aX,aY,aQ,bu,bz,bD],df⟩ w'):RW Try.prog (aJ 0 Try.f81) false Q ⟨#[.func (.yield l) #[] #[],x1,x2,x3,x4,x5,x6,x7,x8,x9,aS,bn,bi,bg,aO,aP,aV,aT,aW,aX,aY,aQ,bu,bz,bD],df⟩ w:=by
 have HQ:=lh hK
 clear hK
 refine bV [(0,false)] (by kernel_rfl) ?_
 refine fB (.cells #[.func (.yield l) #[] #[]] 97) (some 3) (ki (by kernel_rfl)) (by kernel_rfl) ?_
 intro k1 w_k1 hk_k1 hO_k1 hm_k1 hl_k1
 refine⟨fun _=>trivial,?_⟩
 exact aA (aZ (K:=Q .normal) (by kernel_rfl) (HQ.out  k1 w_k1 hk_k1 hO_k1 hm_k1))
theorem kp1 {w:World}{bs bp sg mg:Nat}{pv:Value}{X:Nat→Nat→Nat→World→Prop} (b1:w.heap[bs]?=some (.cells #[.pointer (some ⟨sg,0,none⟩)] 26 (0,0))) (b2:w.heap[bp]?=some (.cells #[pv] 77 (0,0))) (b3:w.cell? ⟨sg,0,none⟩=some (.pointer (some ⟨mg,0,none⟩))) (b4:sg<w.heap.size) (hC:∀ b',ae aj w b'→Calls Try.prog 36 #[.pointer (some ⟨mg,0,none⟩),pv,.slice none 0 0] b' fun e w'=>∃ m bf bt,e = .returned (.func (.func 67) #[] #[.pointer (some ⟨m,0,none⟩),.pointer (some ⟨bf,0,none⟩),.pointer (some ⟨bt,0,none⟩)])∧X m bf bt w')
  (hK:∀ (y6 y7 y8 y9 iW:Value) (m bf bt:Nat) (w':World),X m bf bt w'→Q .normal ⟨#[x0,.pointer (some ⟨bs,0,none⟩),.pointer (some ⟨bp,0,none⟩),x3,x4,x5,y6,y7,y8,y9,iW,.func (.func 67) #[] #[.pointer (some ⟨m,0,none⟩),.pointer (some ⟨bf,0,none⟩),.pointer (some ⟨bt,0,none⟩)],bi,bg,aO,aP,aV,aT,aW,aX,aY,aQ,bu,bz,bD],df⟩ w'):RW Try.prog (aJ 1 Try.f81) true Q ⟨#[x0,.pointer (some ⟨bs,0,none⟩),.pointer (some ⟨bp,0,none⟩),x3,x4,x5,x6,x7,x8,x9,aS,bn,bi,bg,aO,aP,aV,aT,aW,aX,aY,aQ,bu,bz,bD],df⟩ w:=by
 have HQ:=lh hK
 clear hK
 have HC:=lh hC
 have Q1:=lh (fun b' (hm:ae aj w b')=>ai (hm.heap b1 (fun x=>x)) 0)
 have Q2:=lh (fun b' (hm:ae aj w b')=>ai (hm.heap b2 (fun x=>x)) 0)
 have Q3:=lh (fun b' (hm:ae aj w b')=>(hm.cellAt b4 (fun x=>x) 0).trans b3)
 clear hC b1 b2 b3
 have MR:=lh ((ae.refl aj w).drew)
 refine kQ (S:=fun b'=>ae aj w b') [(0,true),(1,true),(2,true),(3,true),(4,true),(5,false)] [5] (by kernel_rfl) (by kernel_rfl) (by kernel_rfl) (by kernel_rfl) MR.out ?_
 refine af (ag sg 0) (some 6) (ki (by kernel_rfl)) (fun bb hb=>aC (x:=(.tmp 1)) (by kernel_rfl) (by kernel_rfl) (aH (Q1.out _ hb) Try.underlying26 rfl)) ?_
 refine ah [1,2] [ag sg 0,ag sg 0] rfl (by kernel_rfl) (fun _=>by kernel_rfl) ?_
 refine af (ag mg 0) (some 9) (ki (by kernel_rfl)) (fun bb hb=>aC (x:=(.tmp 8)) (by kernel_rfl) (by kernel_rfl) (aH (Q3.out _ hb) Try.underlying66 rfl)) ?_
 refine af (pv) (some 10) (ki (by kernel_rfl)) (fun bb hb=>aC (x:=(.tmp 2)) (by kernel_rfl) (by kernel_rfl) (aH (Q2.out _ hb) Try.underlying77 rfl)) ?_
 refine bF (some 11) (ki (by kernel_rfl)) (HC.out _ MR.out) (fun _=>by kernel_rfl) ?_
 rintro r w7 ⟨m,bf,bt,rfl,hx⟩
 refine⟨_,rfl,(fun h=>by cases h),?_⟩
 exact aA (aZ (K:=Q .normal) (by kernel_rfl) (HQ.out (ag sg 0) (ag sg 0) (ag sg 0) (ag mg 0) (pv) m bf bt w7 hx))
theorem kp2 {w:World}{u:Value}{x0 x1 x2 x3 x4 x5 x6 x7 x8 x9 aS bn bg aO aP aV aT aW aX aY aQ bu bz bD:Value}{df:List Deferred}{Q:Exit→Act→World→Prop}
  (hK:∀  (w':World),w'=w→Q .normal ⟨#[x0,x1,x2,x3,u,x5,x6,x7,x8,x9,aS,bn,u,bg,aO,aP,aV,aT,aW,aX,aY,aQ,bu,bz,bD],df⟩ w'):RW Try.prog (aJ 2 Try.f81) false Q ⟨#[x0,x1,x2,x3,x4,x5,x6,x7,x8,x9,aS,bn,u,bg,aO,aP,aV,aT,aW,aX,aY,aQ,bu,bz,bD],df⟩ w:=by
 have HQ:=lh hK
 clear hK
 refine bV [(0,false)] (by kernel_rfl) ?_
 refine az [0] [u] rfl (by kernel_rfl) (by kernel_rfl) (.inr trivial) ?_
 exact aA (aZ (K:=Q .normal) (by kernel_rfl) (HQ.out  _ rfl))
theorem kp3 {w:World}{u:Value}{x0 x1 x2 x3 x4 x5 x6 x7 x8 x9 aS bn bi aO aP aV aT aW aX aY aQ bu bz bD:Value}{df:List Deferred}{Q:Exit→Act→World→Prop}
  (hK:∀  (w':World),w'=w→Q .normal ⟨#[x0,x1,x2,x3,x4,u,x6,x7,x8,x9,aS,bn,bi,u,aO,aP,aV,aT,aW,aX,aY,aQ,bu,bz,bD],df⟩ w'):RW Try.prog (aJ 3 Try.f81) false Q ⟨#[x0,x1,x2,x3,x4,x5,x6,x7,x8,x9,aS,bn,bi,u,aO,aP,aV,aT,aW,aX,aY,aQ,bu,bz,bD],df⟩ w:=by
 have HQ:=lh hK
 clear hK
 refine bV [(0,false)] (by kernel_rfl) ?_
 refine az [0] [u] rfl (by kernel_rfl) (by kernel_rfl) (.inr trivial) ?_
 exact aA (aZ (K:=Q .normal) (by kernel_rfl) (HQ.out  _ rfl))
theorem kp4t {w:World}{bp by1 l:Nat}{pv u v:Value} (c1:w.cell? ⟨bp,0,none⟩=some pv) (c2:w.cell? ⟨by1,0,none⟩=some (.func (.yield l) #[] #[])) (hC:Calls Try.prog 82 #[u,pv] w fun e w'=>e = .returned (.bool true)∧w'=w)
  (hK:∀ (iY jA jB iZ:Value)  (w':World),w'=w→Q .normal ⟨#[x0,x1,.pointer (some ⟨bp,0,none⟩),.pointer (some ⟨by1,0,none⟩),u,v,x6,x7,x8,x9,aS,bn,bi,bg,iY,jA,jB,iZ,.bool false,.func (.yield l) #[] #[],u,v,bu,bz,bD],df⟩ w'):RW Try.prog ((aJ 4 Try.f81).toList.take 8).toArray false Q ⟨#[x0,x1,.pointer (some ⟨bp,0,none⟩),.pointer (some ⟨by1,0,none⟩),u,v,x6,x7,x8,x9,aS,bn,bi,bg,aO,aP,aV,aT,aW,aX,aY,aQ,bu,bz,bD],df⟩ w:=by
 have HQ:=lh hK
 clear hK
 refine bV [(0,false),(1,false),(2,false),(3,false),(4,false),(5,false),(6,false),(7,false)] (by kernel_rfl) ?_
 refine az [0] [u] rfl (by kernel_rfl) (by kernel_rfl) (.inr trivial) ?_
 refine aG (pv) _ (some 15) (ki (by kernel_rfl)) (aC (x:=(.tmp 2)) (by kernel_rfl) (by kernel_rfl) (aH ((fun _=>c1) (trivial)) Try.underlying77 rfl)) (fun _=>trivial) ?_
 refine bF (some 16) (ki (by kernel_rfl)) hC (fun _=>by kernel_rfl) ?_
 rintro r w7 ⟨rfl,rfl⟩
 refine⟨_,rfl,fun _=>trivial,?_⟩
 refine az [3,4] [.bool false,.bool false] rfl (by kernel_rfl) (by kernel_rfl) (.inr trivial) ?_
 refine aG (.func (.yield l) #[] #[]) _ (some 19) (ki (by kernel_rfl)) (aC (x:=(.tmp 3)) (by kernel_rfl) (by kernel_rfl) (aH ((fun _=>c2) (trivial)) Try.underlying97 rfl)) (fun _=>trivial) ?_
 refine az [6,7] [u,v] rfl (by kernel_rfl) (by kernel_rfl) (.inr trivial) ?_
 exact aA (aZ (K:=Q .normal) (by kernel_rfl) (HQ.out (u) (pv) (.bool true) (.bool false) _ rfl))
theorem kp4f {w:World}{bp by1 l:Nat}{pv u v:Value} (c1:w.cell? ⟨bp,0,none⟩=some pv) (c2:w.cell? ⟨by1,0,none⟩=some (.func (.yield l) #[] #[])) (hC:Calls Try.prog 82 #[u,pv] w fun e w'=>e = .returned (.bool false)∧w'=w)
  (hK:∀ (iY jA jB iZ ja jC kH kJ jc jd:Value)  (w':World),w'=w→Q .normal ⟨#[x0,x1,.pointer (some ⟨bp,0,none⟩),.pointer (some ⟨by1,0,none⟩),u,v,x6,x7,x8,x9,aS,bn,bi,bg,iY,jA,jB,iZ,ja,jC,kH,kJ,jc,jd,.bool true],df⟩ w'):RW Try.prog (aJ 4 Try.f81) false Q ⟨#[x0,x1,.pointer (some ⟨bp,0,none⟩),.pointer (some ⟨by1,0,none⟩),u,v,x6,x7,x8,x9,aS,bn,bi,bg,aO,aP,aV,aT,aW,aX,aY,aQ,bu,bz,bD],df⟩ w:=by
 have HQ:=lh hK
 clear hK
 refine bV [(0,false),(1,false),(2,false),(3,false),(4,false),(5,false),(6,false),(7,false),(8,false),(9,false),(10,false)] (by kernel_rfl) ?_
 refine az [0] [u] rfl (by kernel_rfl) (by kernel_rfl) (.inr trivial) ?_
 refine aG (pv) _ (some 15) (ki (by kernel_rfl)) (aC (x:=(.tmp 2)) (by kernel_rfl) (by kernel_rfl) (aH ((fun _=>c1) (trivial)) Try.underlying77 rfl)) (fun _=>trivial) ?_
 refine bF (some 16) (ki (by kernel_rfl)) hC (fun _=>by kernel_rfl) ?_
 rintro r w7 ⟨rfl,rfl⟩
 refine⟨_,rfl,fun _=>trivial,?_⟩
 refine az [3,4,5,6,7,8,9,10] [.bool true,.bool true,undef,undef,undef,undef,undef,.bool true] rfl (by kernel_rfl) (by kernel_rfl) (.inr trivial) ?_
 exact aA (aZ (K:=Q .normal) (by kernel_rfl) (HQ.out (u) (pv) (.bool false) (.bool true) (.bool true) (undef) (undef) (undef) (undef) (undef) _ rfl))
end
end Go.Proofs.Ytglkmaalpammcaa
namespace Go.Gl
open Go.RowKit
def rW (P:Program) (gf:FuncId) (lb:Array Value) (n:Nat) (A:Nat→(Nat→Prop)→Array Value→World→Prop) (U0:Nat→Prop) (τ:World→World→Prop) (Ok:World→Prop) (w:World):Prop :=
 ∀ (l:Nat) (K J Jt Jx:Nat→(Nat→Prop)→World→Prop) (W:World),ae (fun k=>¬ U0 k) w W→jY W.heap.size aj K→jY W.heap.size aj J→jY W.heap.size aj Jt→jY W.heap.size aj Jx →
  (∀ U A,K 0 U A→Ok A∧∀ B,τ A B→J 0 U B)→(∀ i U A,i<n→J i U A→Ok A∧∀ B,τ A B→Jt i U B) →
  (∀ i U args W1,i<n→Jt i U W1→A i U args W1→(∀ k,U k→k<W1.heap.size)→W.heap.size≤W1.heap.size→Jt i (fun k=>U k∨ig args k) W1→(∀ k,ig args k→k<W1.heap.size)→xN P l args W1 fun e W' =>
   (e = .returned (.bool true)∧J (i+1) U W'∧ae (fun k=>¬ U k) W1 W')∨(e = .returned (.bool false)∧Jx (i+1) U W'∧ae (fun k=>¬ U k) W1 W')) →
  K 0 U0 W →
  Calls P gf (#[.func (.yield l) #[] #[]] ++ lb) W fun e W'=>(∃ v,e = .returned v)∧((∃ U,J n U W'∧∀ k,U k→k<W'.heap.size)∨(∃ i U,i<n∧Jx (i+1) U W'∧∀ k,U k→k<W'.heap.size))
section
variable {P:Program}{r:Option Nat}
theorem wF {g:Operand}{ps:Array Tmp}{assign body:Code}{Q:Exit→Act→World→Prop}{a:Act}{w:World}{gf:FuncId}{lb:Array Value} (hg:a.eval g = .func (.func gf) #[] lb) (eg:∀ args w,(callFunc gf args).run P w = .ok (.enter gf args) w)
  {n:Nat}{A:Nat→(Nat→Prop)→Array Value→World→Prop}{U0:Nat→Prop}{sg:Nat}{τ:World→World→Prop}{Ok:World→Prop}{w0:World} (it:rW P gf lb n A U0 τ Ok w0) (hτ:∀ A B,τ A B→ae (fun k=>k=sg) A B) (hsg:sg<w.heap.size) (h0:ae (fun k=>¬ U0 k) w0 w) (hU:∀ k,U0 k→k<w.heap.size) (hA:nP A) (hps:∀ i U args W,A i U args W→args.size=ps.size)
  (K I It:Nat→(Nat→Prop)→World→Prop) (Ix:Code→Nat→(Nat→Prop)→World→Prop) (hK:jY w.heap.size aj K) (hI:jY w.heap.size aj I) (hIt:jY w.heap.size aj It) (hIx:∀ c,jY w.heap.size aj (Ix c)) (hs:K 0 U0 w)
  (t0:∀ U A,K 0 U A→Ok A∧∀ B,τ A B→I 0 U B) (t1:∀ i U A,i<n→I i U A→Ok A∧∀ B,τ A B→It i U B)
  (hround:∀ l i U args W,w.heap.size≤l→U l→i<n→It i U W→A i U args W→(∀ k,U k→k<W.heap.size)→w.heap.size≤W.heap.size→(∃ r,W.heap[l]?=some (.loop r))→It i (fun k=>U k∨ig args k) W→(∀ k,ig args k→k<W.heap.size) →
   assign.wpIn (WF (some l)) 3 P (Exit.then (fun a1 W1=>ae (fun k=>¬ U k) W W1∧∀ W2,ae (fun k=>k=l) W1 W2→(∃ r,W2.heap[l]?=some (.loop r))→body.wpIn (WF (some l)) 3 P (uQ I Ix U i W2) a1 W2) (fun _ _ _=>False))
    { tmps:=iD ps.toList args.toList a.tmps,defers:=[] } W)
  (hdone:∀ D U W,w.heap.size≤D→U D→(∀ k,U k→k<W.heap.size)→I n U W→W.heap[D]?=some (.deferred (some []))→Q .normal { a with defers:={ target := .collected D,args:=#[] } :: a.defers } W)
  (hstop:∀ D c i U W,w.heap.size≤D→U D→(∀ k,U k→k<W.heap.size)→i<n→Ix c (i+1) U W→W.heap[D]?=some (.deferred (some []))→c.wpIn (WF none) 3 P Q { a with defers:={ target := .collected D,args:=#[] } :: a.defers } W) :
  (Code.rangeFunc g ps assign body).wpIn (WF none) 3 P Q a w:=by
 refine wpIn_rangeFunc ?_
 intro fn hfn
 obtain⟨rec,hrec⟩:∃ rec:LoopState→Option Code→Loop,rec=fun st pe=>{ state:=st,pending:=pe,fn,tmps:=a.tmps,params:=ps,assign,body,defers:=w.heap.size }:=⟨_,rfl⟩
 obtain⟨W1,hW1⟩:∃ W1,(w.alloc (.deferred (some []))).alloc (.loop (rec .ready none))=W1:=⟨_,rfl⟩
 have hm1:ae aj w W1:=by rw [← hW1];exact ((ae.refl aj w).alloc _).alloc _
 have hsz:W1.heap.size=w.heap.size+2:=by rw [← hW1];simp
 have hL1:W1.heap[w.heap.size+1]?=some (.loop (rec .ready none)):=by
  rw [← hW1];have:=World.alloc_heap_new (w.alloc (.deferred (some []))) (.loop (rec .ready none));rwa [World.size_alloc] at this
 have hK1:W1.heap[w.heap.size]?=some (.deferred (some [])):=by
  rw [← hW1];exact dS (bC w _) _
 obtain⟨l,hl⟩:∃ l,l=w.heap.size+1:=⟨_,rfl⟩
 obtain⟨D,hD⟩:∃ D,D=w.heap.size:=⟨_,rfl⟩
 rw [← hl] at hL1
 rw [← hD] at hK1
 have hw1:ae (fun k=>¬ U0 k) w0 W1:=h0.trans hm1 (fun _ _ x=>x) (fun _ _ x=>x.elim)
 have hUD:∀ (U:Nat→Prop) k,(U k∨k=l)∨k=D↔U k∨k=l∨k=D:=fun U k=>by rw [or_assoc]
 refine⟨l,[{ target := .collected D,args:=#[] }],W1,{ target := .fn (.func gf) lb,args:=#[.func (.yield l) #[] #[]] },W1,gf,#[.func (.yield l) #[] #[]] ++ lb,W1,?_,?_,?_,?_,fun h=>by simp [Fence.wide] at h,?_⟩
 ·rw [← hW1,hrec,hl,hD];exact run_enterLoop_outer _ _ _ _ _
 ·simp only [resolve,hg]
  simp [go_sem]
 ·intro f' hf';trivial
 ·simp [invoke,go_sem,eg]
 ·refine jW.2 ((it l (fun i U W=>K i (fun k=>(U k∨k=l)∨k=D) W∧¬ U l∧¬ U D∧W.heap[l]?=some (.loop (rec .ready none))∧W.heap[D]?=some (.deferred (some [])))
   (fun i U W=>I i (fun k=>(U k∨k=l)∨k=D) W∧¬ U l∧¬ U D∧W.heap[l]?=some (.loop (rec .ready none))∧W.heap[D]?=some (.deferred (some [])))
   (fun i U W=>It i (fun k=>(U k∨k=l)∨k=D) W∧¬ U l∧¬ U D∧W.heap[l]?=some (.loop (rec .ready none))∧W.heap[D]?=some (.deferred (some [])))
   (fun i U W=>∃ c,Ix c i (fun k=>(U k∨k=l)∨k=D) W∧¬ U l∧¬ U D∧W.heap[l]?=some (.loop (rec .done (some c)))∧W.heap[D]?=some (.deferred (some [])))
   W1 hw1 ?_ ?_ ?_ ?_ ?_ ?_ ?_ ⟨hK _ _ _ _ _ hs (hm1.mono (fun _ _ x=>x.elim)) hU (fun k hk=>by rcases hk with (h | h) | h;exact .inl h;exact .inr (by omega);exact .inr (by omega)),fun h=>by have:=hU l h;omega,fun h=>by have:=hU D h;omega,hL1,hK1⟩).mono ?_)
  ·rintro i U U' X Y ⟨hi,h1,h2,h3,h4⟩ hm hus hsub
   have hlX:=lt_of_heap h3
   have hDX:=lt_of_heap h4
   refine⟨hK _ _ _ _ _ hi (hm.mono (fun k _ hk=>⟨.inl (.inl hk.1),hk.2.imp id (fun h=>by omega)⟩)) (fun k hk=>by rcases hk with (h | h) | h;exact hus k h;omega;omega) (fun k hk=>by
    rcases hk with (h | h) | h
    ·exact (hsub k h).imp (fun x => .inl (.inl x)) id
    ·exact .inl (.inl (.inr h))
    ·exact .inl (.inr h)),fun h=>by rcases hsub l h with h | h;exact h1 h;omega,fun h=>by rcases hsub D h with h | h;exact h2 h;omega,(hm.block l hlX (fun hk=>h1 hk.1)).trans h3,(hm.block D hDX (fun hk=>h2 hk.1)).trans h4⟩
  ·rintro i U U' X Y ⟨hi,h1,h2,h3,h4⟩ hm hus hsub
   have hlX:=lt_of_heap h3
   have hDX:=lt_of_heap h4
   refine⟨hI _ _ _ _ _ hi (hm.mono (fun k _ hk=>⟨.inl (.inl hk.1),hk.2.imp id (fun h=>by omega)⟩)) (fun k hk=>by rcases hk with (h | h) | h;exact hus k h;omega;omega) (fun k hk=>by
    rcases hk with (h | h) | h
    ·exact (hsub k h).imp (fun x => .inl (.inl x)) id
    ·exact .inl (.inl (.inr h))
    ·exact .inl (.inr h)),fun h=>by rcases hsub l h with h | h;exact h1 h;omega,fun h=>by rcases hsub D h with h | h;exact h2 h;omega,(hm.block l hlX (fun hk=>h1 hk.1)).trans h3,(hm.block D hDX (fun hk=>h2 hk.1)).trans h4⟩
  ·rintro i U U' X Y ⟨hi,h1,h2,h3,h4⟩ hm hus hsub
   have hlX:=lt_of_heap h3
   have hDX:=lt_of_heap h4
   refine⟨hIt _ _ _ _ _ hi (hm.mono (fun k _ hk=>⟨.inl (.inl hk.1),hk.2.imp id (fun h=>by omega)⟩)) (fun k hk=>by rcases hk with (h | h) | h;exact hus k h;omega;omega) (fun k hk=>by
    rcases hk with (h | h) | h
    ·exact (hsub k h).imp (fun x => .inl (.inl x)) id
    ·exact .inl (.inl (.inr h))
    ·exact .inl (.inr h)),fun h=>by rcases hsub l h with h | h;exact h1 h;omega,fun h=>by rcases hsub D h with h | h;exact h2 h;omega,(hm.block l hlX (fun hk=>h1 hk.1)).trans h3,(hm.block D hDX (fun hk=>h2 hk.1)).trans h4⟩
  ·rintro i U U' X Y ⟨c,hi,h1,h2,h3,h4⟩ hm hus hsub
   have hlX:=lt_of_heap h3
   have hDX:=lt_of_heap h4
   refine⟨c,hIx c _ _ _ _ _ hi (hm.mono (fun k _ hk=>⟨.inl (.inl hk.1),hk.2.imp id (fun h=>by omega)⟩)) (fun k hk=>by rcases hk with (h | h) | h;exact hus k h;omega;omega) (fun k hk=>by
    rcases hk with (h | h) | h
    ·exact (hsub k h).imp (fun x => .inl (.inl x)) id
    ·exact .inl (.inl (.inr h))
    ·exact .inl (.inr h)),fun h=>by rcases hsub l h with h | h;exact h1 h;omega,fun h=>by rcases hsub D h with h | h;exact h2 h;omega,(hm.block l hlX (fun hk=>h1 hk.1)).trans h3,(hm.block D hDX (fun hk=>h2 hk.1)).trans h4⟩
  ·rintro U A ⟨hi,h1,h2,h3,h4⟩
   obtain⟨k1,k2⟩:=t0 _ A hi
   exact⟨k1,fun B hB=>⟨k2 B hB,h1,h2,((hτ A B hB).block l (lt_of_heap h3) (fun e=>by omega)).trans h3,((hτ A B hB).block D (lt_of_heap h4) (fun e=>by omega)).trans h4⟩⟩
  ·rintro i U A hin ⟨hi,h1,h2,h3,h4⟩
   obtain⟨k1,k2⟩:=t1 i _ A hin hi
   exact⟨k1,fun B hB=>⟨k2 B hB,h1,h2,((hτ A B hB).block l (lt_of_heap h3) (fun e=>by omega)).trans h3,((hτ A B hB).block D (lt_of_heap h4) (fun e=>by omega)).trans h4⟩⟩
  ·rintro i U args W hin ⟨hi,h1,h2,h3,h4⟩ hargs hus hge ⟨hi',_,_,_,_⟩ hab
   have hlW:=lt_of_heap h3
   have hDW:=lt_of_heap h4
   have hA2:=hA _ _ _ _ D _ (hA _ _ _ _ l _ hargs h3 rfl) h4 rfl
   have hus2:∀ k,((U k∨k=l)∨k=D)→k<W.heap.size:=fun k hk=>by rcases hk with (h | h) | h;exact hus k h;omega;omega
   refine qO (base:=w.heap.size) (V:=aj) (U:=fun k=>(U k∨k=l)∨k=D) (i:=i) hrec hI hIx h3 (hps _ _ _ _ hargs) (by omega) (.inl (.inr rfl)) hus2 (hround l i _ args W (by omega) (.inl (.inr rfl)) hin hi hA2 hus2 (by omega) ⟨_,h3⟩
    (hIt _ _ _ _ _ hi' (ae.refl _ _) (fun k hk=>by rcases hk with ((h | h) | h) | h;exact hus k h;exact hab k h;omega;omega) (fun k hk=>by rcases hk with ((h | h) | h) | h;exact .inl (.inl (.inl (.inl h)));exact .inl (.inl (.inr h));exact .inl (.inr h);exact .inl (.inl (.inl (.inr h))))) hab) _ ?_ ?_
   ·intro W' hi' hm' hl'
    have hD':W'.heap[D]?=some (.deferred (some [])):=(hm'.block D hDW (fun hk=>by rcases hk with hk | hk;exact hk (.inr rfl);omega)).trans h4
    exact .inl ⟨rfl,⟨hi',h1,h2,hl',hD'⟩,hm'.mono (fun k _ hk hu=>by rcases hk with hk | hk;exact hk (.inl (.inl hu));exact h1 (hk▸hu))⟩
   ·intro c W' hi' hm' hl'
    have hD':W'.heap[D]?=some (.deferred (some [])):=(hm'.block D hDW (fun hk=>by rcases hk with hk | hk;exact hk (.inr rfl);omega)).trans h4
    exact .inr ⟨rfl,⟨c,hi',h1,h2,hl',hD'⟩,hm'.mono (fun k _ hk hu=>by rcases hk with hk | hk;exact hk (.inl (.inl hu));exact h1 (hk▸hu))⟩
  ·rintro e W2 ⟨⟨v,rfl⟩,(⟨U,⟨hi,h1,h2,h3,h4⟩,hus⟩ | ⟨i,U,hin,⟨c,hi,h1,h2,h3,h4⟩,hus⟩)⟩
   ·refine⟨none,_,by have:=run_endLoop (P:=P) h3 (by rw [hrec];simp);rw [hrec] at this;exact this,?_⟩
    have hlW:=lt_of_heap h3
    have hDW:=lt_of_heap h4
    exact hdone D (fun k=>(U k∨k=l)∨k=D) _ (by omega) (.inr rfl) (fun k hk=>by rw [World.putObj_size];rcases hk with (h | h) | h;exact hus k h;omega;omega) (hI _ _ _ _ _ hi ((dB W2 l _).mono (fun k _ hk=>by subst hk;exact⟨.inl (.inr rfl),.inr (by omega)⟩)) (fun k hk=>by rcases hk with (h | h) | h;exact hus k h;omega;omega) (fun k hk => .inl hk)) ((World.putObj_heap_other (by omega)).trans h4)
   ·refine⟨some c,_,by have:=run_endLoop (P:=P) h3 (by rw [hrec];simp);rw [hrec] at this;exact this,?_⟩
    have hlW:=lt_of_heap h3
    have hDW:=lt_of_heap h4
    exact hstop D c i (fun k=>(U k∨k=l)∨k=D) _ (by omega) (.inr rfl) (fun k hk=>by rw [World.putObj_size];rcases hk with (h | h) | h;exact hus k h;omega;omega) hin (hIx c _ _ _ _ _ hi ((dB W2 l _).mono (fun k _ hk=>by subst hk;exact⟨.inl (.inr rfl),.inr (by omega)⟩)) (fun k hk=>by rcases hk with (h | h) | h;exact hus k h;omega;omega) (fun k hk => .inl hk)) ((World.putObj_heap_other (by omega)).trans h4)
end
end Go.Gl

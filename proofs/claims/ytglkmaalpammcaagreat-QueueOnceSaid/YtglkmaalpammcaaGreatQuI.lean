/- queue.entries: its closure is an iterator over entries, that ticks the store. -/
import Derived.Test.YtglkmaalpammcaaGreatQuI0
import Derived.Test.YtglkmaalpammcaaGreatZE
import Derived.Test.YtglkmaalpammcaaGreatZD
import Derived.Test.YtglkmaalpammcaaGreatKRead
namespace Go.Proofs.YtglkmaalpammcaaGreat
open Go.Gl Go.RowKit
set_option linter.unusedVariables false
set_option maxRecDepth 100000
theorem zX (w:World) (lb:Array Value):Calls Tryz.prog 113 #[.func (.func 244) #[] lb] w fun e w'=>∃ be,e = .returned (.func (.func 190) #[] #[.pointer (some ⟨be,0,none⟩)]) ∧
   w'.heap[be]?=some (.cells #[.func (.func 244) #[] lb] 154 (0,0))∧ae ai w w'∧w.heap.size≤be:=by
 have b1:=aF w (.cells #[.func (.func 244) #[] lb] 154)
 have M1:=lh (And.intro b1 ((ae.refl ai w).alloc (.cells #[.func (.func 244) #[] lb] 154)))
 have hmf:∀ (fn:Fn) (first cap:Array Value) (w:World),(Instr.makeFunc fn first cap).run Tryz.prog w = .ok (.func fn first cap) w:=fun _ _ _ _=>rfl
 clear b1
 go_enter Tryz.func113,Tryz.ntmps113
 go_wp2
 go_ret
 exact⟨_,rfl,M1.out.1,M1.out.2,Nat.le_refl _⟩
def AEn (L:List EV) (i:Nat) (U:Nat→Prop) (args:Array Value) (W:World):Prop:=∃ (e:EV) (kk:Int) (a b:Nat) (n:Int),L[i]?=some e∧pR e.k kk a b n∧args=#[.int .u64 ((a:Nat):Int),.agg #[.int .u64 ((b:Nat):Int),.int .i64 (IntKind.i64.wrap ((one1 e.v:Nat):Int))]]
theorem DY (L:List EV):vP (AEn L):=fun i U args W l o h _ _=>h
def JC (Ui:Nat→Prop) (be:Nat) (k:Nat):Prop:=Ui k∨k=be
set_option maxHeartbeats 4000000 in
theorem yN {w:World}{sg be B:Nat}{lb:Array Value}{L:List EV}{Ui:Nat→Prop}{Ok:World→Prop} (he:w.heap[be]?=some (.cells #[.func (.func 244) #[] lb] 154 (0,0))) (it:xI Tryz.prog 244 lb L.length (yl B L) Ui (tickR sg) Ok w) (hL:∀ e∈L,e.v.length≤1000000) (hUi:∀ k,Ui k→k<w.heap.size) (nsg:¬ JC Ui be sg) (hsg:sg<w.heap.size) :
  xI Tryz.prog 190 #[.pointer (some ⟨be,0,none⟩)] L.length (AEn L) (JC Ui be) (tickR sg) Ok w:=by
 intro l K J Jt Jx W hW hK hJ hJt hJx tj0 tj1 hY h0
 have be0:=hW.heap he (fun x=>x (.inr rfl))
 have hwi:ae (fun k=>¬ Ui k) w W:=hW.mono (fun k _ hk x=>hk (.inl x))
 have hwW:w.heap.size≤W.heap.size:=hW.size
 have hUl:∀ k,JC Ui be k→k<W.heap.size:=fun k hk=>by
  rcases hk with hk | rfl
  ·have:=hUi k hk;omega
  ·exact lt_of_heap be0
 clear he hW
 obtain⟨UW,hUW⟩:∃ UW,JC Ui be=UW:=⟨_,rfl⟩
 have SW:=lh hUW
 have nsgW:¬ UW sg:=by rw [← hUW];exact nsg
 rw [hUW] at h0 hUl
 (refine lG _ Tryz.func190 rfl ?_;simp only [Tryz.ntmps190,List.size_toArray,List.length_cons,List.length_nil,Nat.reduceAdd,Nat.reduceSub,Array.replicate_succ,Array.replicate_zero,List.push_toArray,List.append_toArray,List.nil_append,List.cons_append])
 refine wpIn_seq ?_
 refine bW (d := .region 0 (aH 0 Tryz.f190) false) (by kernel_rfl) ?_
 refine RW.wpIn (en0 ?_) (by kernel_rfl)
 intro by1 w2 hby hbO2 m12
 refine bP ?_
 refine wpIn_seq ?_
 refine bW (d := .region 1 (aH 1 Tryz.f190) false) (by kernel_rfl) ?_
 refine RW.wpIn (en1 (af (m12.heap be0 (fun x=>x)) 0) ?_) (by kernel_rfl)
 intro w2' e2'
 subst w2'
 refine bP ?_
 have hby2:by1<w2.heap.size:=lt_of_heap hbO2
 have hs12:W.heap.size≤w2.heap.size:=m12.size
 have hsub0:∀ k,iy UW by1 Ui k→UW k∨W.heap.size≤k:=fun k hk=>by
  rcases hk with hk | hk | rfl
  ·exact .inl hk
  ·exact .inl (by rw [← SW.out];exact .inl hk)
  ·right;omega
 have h2:K 0 (iy UW by1 Ui) w2:=hK _ _ _ _ _ h0 (m12.mono (fun _ _ x=>x.elim)) hUl hsub0
 have frm:∀ (X:Nat→(Nat→Prop)→World→Prop),pO W.heap.size ai X→∀ i U U' A B,X i (iy UW by1 U) A→w2.heap.size≤A.heap.size→ae (fun k=>U k∧(ai k∨w2.heap.size≤k)) A B→(∀ k,U k→k<A.heap.size)→(∀ k,U' k→U k∨A.heap.size≤k)→X i (iy UW by1 U') B:=fun X hX i U U' A B hx hsz hm hus hsub=>by
  refine hX _ _ _ _ _ hx (hm.mono (fun k _ hk=>⟨.inr (.inl hk.1),hk.2.imp id (fun h=>by omega)⟩)) (fun k hk=>?_) (fun k hk=>?_)
  ·rcases hk with hk | hk | rfl
   ·have:=hUl k hk;omega
   ·exact hus k hk
   ·omega
  ·rcases hk with hk | hk | hk
   ·exact .inl (.inl hk)
   ·exact (hsub k hk).imp (fun h => .inr (.inl h)) id
   ·exact .inl (.inr (.inr hk))
 have keep2:∀ (U:Nat→Prop) (A B:World),ae (fun k=>U k∧(ai k∨w2.heap.size≤k)) A B→A.heap[by1]?=some (.cells #[.func (.yield l) #[] #[]] 272 (0,0))→B.heap[by1]?=some (.cells #[.func (.yield l) #[] #[]] 272 (0,0)):=fun U A B hm hp=>hm.heap hp (fun hk=>by
   rcases hk.2 with h | h
   ·exact h
   ·omega)
 have fr2:∀ (X:Nat→(Nat→Prop)→World→Prop),pO W.heap.size ai X→pO w2.heap.size ai (fun i U Wr=>X i (iy UW by1 U) Wr∧Wr.heap[by1]?=some (.cells #[.func (.yield l) #[] #[]] 272 (0,0))∧w2.heap.size≤Wr.heap.size):=fun X hX i U U' A B ⟨h2,h3,h4⟩ hm hus hsub=>⟨frm X hX _ _ _ _ _ h2 h4 hm hus hsub,keep2 U _ _ hm h3,Nat.le_trans h4 hm.size⟩
 have tby:∀ {A B:World},tickR sg A B→A.heap[by1]?=some (.cells #[.func (.yield l) #[] #[]] 272 (0,0))→B.heap[by1]?=some (.cells #[.func (.yield l) #[] #[]] 272 (0,0)):=fun t hp=>t.mods.heap hp (fun e=>by omega)
 refine wpIn_block ?_
 refine zf (by rfl) (enters_of Tryz.func244 (by kernel_rfl) rfl) it (fun A C t=>t.mods) (by omega) (hwi.then0 m12) (fun k hk=>by have:=hUi k hk;omega) (wR _ _) (fun i U args W1 hA=>by obtain⟨e,kv,vv,_,rfl,_⟩:=hA;rfl)
  (fun i U Wr=>K i (iy UW by1 U) Wr∧Wr.heap[by1]?=some (.cells #[.func (.yield l) #[] #[]] 272 (0,0))∧w2.heap.size≤Wr.heap.size)
  (fun i U Wr=>J i (iy UW by1 U) Wr∧Wr.heap[by1]?=some (.cells #[.func (.yield l) #[] #[]] 272 (0,0))∧w2.heap.size≤Wr.heap.size)
  (fun i U Wr=>Jt i (iy UW by1 U) Wr∧Wr.heap[by1]?=some (.cells #[.func (.yield l) #[] #[]] 272 (0,0))∧w2.heap.size≤Wr.heap.size)
  (fun c i U Wr=>(c = .ret∧Jx i (iy UW by1 U) Wr)∧w2.heap.size≤Wr.heap.size)
  (fr2 K hK) (fr2 J hJ) (fr2 Jt hJt) ?_ ⟨h2,hbO2,Nat.le_refl _⟩ ?_ ?_ ?_ ?_ ?_
 ·rintro c i U U' A B ⟨⟨h1,h2⟩,h4⟩ hm hus hsub
  exact⟨⟨h1,frm Jx hJx _ _ _ _ _ h2 h4 hm hus hsub⟩,Nat.le_trans h4 hm.size⟩
 ·rintro U A ⟨a1,a2,a3⟩
  obtain⟨b1,b2⟩:=tj0 _ _ a1
  exact⟨b1,fun B t=>⟨b2 B t,tby t a2,Nat.le_trans a3 t.mods.size⟩⟩
 ·rintro i U A hi ⟨a1,a2,a3⟩
  obtain⟨b1,b2⟩:=tj1 i _ _ hi a1
  exact⟨b1,fun B t=>⟨b2 B t,tby t a2,Nat.le_trans a3 t.mods.size⟩⟩
 ·-- one round
  intro lp i U args Wr hlp hUlp hi ⟨hJi,hinv,hszr⟩ hA hUs hszW hloop _ hab
  obtain⟨e,kv,vv,hei,hargs,o1,o2,u1,u2,dd,b1,b2⟩:=hA
  subst hargs
  simp only [jF,List.setIfInBounds_toArray,List.set_cons_succ,List.set_cons_zero]
  refine wpIn_seq ?_
  refine bW (d := .region 2 (aH 2 Tryz.f190) false) (by kernel_rfl) ?_
  refine RW.wpIn (en2 ?_) (by kernel_rfl)
  intro w3 e3
  subst e3
  refine bP ?_
  refine bW (d := .region 3 (aH 3 Tryz.f190) false) (by kernel_rfl) ?_
  refine RW.wpIn (en3 ?_) (by kernel_rfl)
  intro w3' e3
  subst e3
  refine bP ?_
  refine⟨ae.refl _ _,?_⟩
  intro w4 m4 _
  have hkl:ae (fun k=>U k∧(ai k∨w2.heap.size≤k)) w3' w4:=m4.mono (fun k _ hk=>by subst hk;exact⟨hUlp,.inr hlp⟩)
  have hby4:=keep2 U _ _ hkl hinv
  have hJ4:=frm Jt hJt _ _ _ _ _ hJi hszr hkl hUs (fun k hk => .inl hk)
  have hsz4:=Nat.le_trans hszr m4.size
  have hUs4:∀ k,U k→k<w4.heap.size:=fun k hk=>Nat.lt_of_lt_of_le (hUs k hk) m4.size
  have o14:=o1.keep m4 (fun k hk x=>u1 k hk (x▸hUlp))
  have o24:=o2.keep m4 (fun k hk x=>u2 k hk (x▸hUlp))
  have hlv:e.v.length≤1000000:=hL e (List.mem_of_getElem? hei)
  clear hJi hinv
  refine wpIn_block ?_
  refine wpIn_seq ?_
  refine bW (d := .region 4 (aH 4 Tryz.f190) false) (by kernel_rfl) ?_
  refine RW.wpIn (en4 (X:=fun kk a b w'=>∃ n,pR e.k kk a b n∧ae ai w4 w') ((NS o14.rd).mono (fun r w' ⟨kk,a,b,n,hr,hg,hm⟩=>⟨kk,a,b,_,hr,n,hg,hm⟩)) ?_) (by kernel_rfl)
  intros
  rename_i kk ka kb bq wc w5 hx hbq hb5 m5
  obtain⟨kn,hx1,hx2⟩:=hx
  refine bP ?_
  have m45:=hx2.then0 m5
  have o25:=o24.keep m45 (fun _ _ x=>x)
  refine wpIn_seq ?_
  refine bW (d := .region 5 (aH 5 Tryz.f190) false) (by kernel_rfl) ?_
  refine RW.wpIn (en5 (X:=fun n0 w'=>one1 e.v=n0∧ae ai w5 w') ((Jm o25.rd hlv).mono (fun r w' ⟨n0,er,hr,hg,hm⟩=>⟨n0,_,hr,Du hg,hm⟩)) ?_) (by kernel_rfl)
  intros
  rename_i n0 w6 hy
  obtain⟨rfl,m56⟩:=hy
  refine bP ?_
  have m46:=m45.then0 m56
  have hb6:=m56.heap hb5 (fun x=>x)
  have s45:=m45.size
  have s56:=m56.size
  have hJ6:=hJt _ _ _ _ _ hJ4 (m46.mono (fun _ _ x=>x.elim)) (fun k hk=>by
   rcases hk with hk | hk | rfl
   ·have:=hUl k hk;omega
   ·exact hUs4 k hk
   ·omega) (fun k hk => .inl hk)
  have hby6:=m46.heap hby4 (fun x=>x)
  have hUo6:∀ k,iy UW by1 U k→k<w6.heap.size:=fun k hk=>by
   rcases hk with hk | hk | rfl
   ·have:=hUl k hk;omega
   ·have:=hUs4 k hk;omega
   ·omega
  refine wpIn_seq ?_
  refine bW (d := .region 6 (aH 6 Tryz.f190) false) (by kernel_rfl) ?_
  refine jk (Q1:=fun _ a' w'=>wpOpsIn _ _ _ _ _ _ a' w') 8 (by kernel_rfl) (en6 (l:=l) (af hby6 0) (af hb6 1) (af hb6 2) ?_) (fun _ _ h=>h)
  intros
  rename_i w7 e7
  subst e7
  have hA:AEn L i (iy UW by1 U) #[.int .u64 ((ka:Nat):Int),.agg #[.int .u64 ((kb:Nat):Int),.int .i64 (IntKind.i64.wrap ((one1 e.v:Nat):Int))]] w7:=⟨e,kk,ka,kb,kn,hei,hx1,rfl⟩
  have nob:∀ k,¬ iR #[.int .u64 ((ka:Nat):Int),.agg #[.int .u64 ((kb:Nat):Int),.int .i64 (IntKind.i64.wrap ((one1 e.v:Nat):Int))]] k:=fun k ⟨v,hv,hk⟩=>by
   simp at hv
   rcases hv with rfl | rfl <;> simp [Value.ownBlock] at hk
  refine kV (some 30) (ki (by kernel_rfl)) (by kernel_rfl) (by kernel_rfl) (hY i (iy UW by1 U) _ w7 hi hJ6 hA hUo6 (by omega) (hJt _ _ _ _ _ hJ6 (ae.refl _ _) hUo6 (fun k hk => .inl (hk.resolve_right (nob k)))) (fun k hk=>(nob k hk).elim)) ?_
  rintro r w8 (⟨rfl,k1',k2'⟩ | ⟨rfl,k1',k2'⟩)
  ·have m47:ae (fun k=>¬ U k) w4 w8:=m46.trans k2' (fun _ _ x=>x.elim) (fun k _ hk x=>hk (.inr (.inl x)))
   refine⟨_,rfl,?_⟩
   refine fZ (.bool false) (some 31) (ki (by kernel_rfl)) (by kernel_rfl) (by kernel_rfl) ?_
   refine bP ?_
   refine wpIn_cond_false rfl ?_
   refine wpIn_skip ?_
   refine jh ?_
   exact⟨m47,k1',k2'.heap hby6 (fun hk=>hk (.inr (.inr rfl))),Nat.le_trans hsz4 m47.size⟩
  ·have m47:ae (fun k=>¬ U k) w4 w8:=m46.trans k2' (fun _ _ x=>x.elim) (fun k _ hk x=>hk (.inr (.inl x)))
   refine⟨_,rfl,?_⟩
   refine fZ (.bool true) (some 31) (ki (by kernel_rfl)) (by kernel_rfl) (by kernel_rfl) ?_
   refine bP ?_
   refine wpIn_cond_true rfl ?_
   refine wpIn_ret ?_
   repeat (first | refine sU ?_ | refine kU ?_)
   exact⟨m47,⟨rfl,k1'⟩,Nat.le_trans hsz4 m47.size⟩
 ·-- all have come
  rintro D U W5 hD hUD hus ⟨h2,h3,h4⟩ hdef
  refine jh ?_
  refine iF hdef (results_none rfl _ _ _) ?_
  have hD5:=lt_of_heap hdef
  refine⟨⟨_,rfl⟩,.inl ⟨iy UW by1 U,frm J hJ _ _ _ _ _ h2 h4 ((fA W5 D _).mono (fun k _ hk=>by subst hk;exact⟨hUD,.inr hD⟩)) hus (fun k hk => .inl hk),fun k hk=>?_⟩⟩
  rw [World.putObj_size]
  rcases hk with hk | hk | rfl
  ·have:=hUl k hk;omega
  ·exact hus k hk
  ·omega
 ·-- a round has left
  rintro D c i U W5 hD hUD hus hi ⟨⟨rfl,h2⟩,h4⟩ hdef
  have hbd:∀ k,iy UW by1 U k→k<(W5.putObj D (.deferred none)).heap.size:=fun k hk=>by
   rw [World.putObj_size]
   rcases hk with hk | hk | rfl
   ·have:=hUl k hk;omega
   ·exact hus k hk
   ·omega
  have hmD:ae (fun k=>U k∧(ai k∨w2.heap.size≤k)) W5 (W5.putObj D (.deferred none)):=(fA W5 D _).mono (fun k _ hk=>by subst hk;exact⟨hUD,.inr hD⟩)
  refine wpIn_ret ?_
  refine kU ?_
  refine iF hdef (results_none rfl _ _ _) ?_
  exact⟨⟨_,rfl⟩,.inr ⟨i,iy UW by1 U,hi,frm Jx hJx _ _ _ _ _ h2 h4 hmD hus (fun k hk => .inl hk),hbd⟩⟩
end Go.Proofs.YtglkmaalpammcaaGreat

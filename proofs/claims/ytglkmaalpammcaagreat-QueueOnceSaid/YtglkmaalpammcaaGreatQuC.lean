/- QueueOnce: plain; how often an entry stands; calls on a store beside things of one's own; in. -/
import Derived.Test.YtglkmaalpammcaaGreatQuA
import Derived.Test.YtglkmaalpammcaaGreatQuC0
import Derived.Deep.DeepCutAuto
set_option maxHeartbeats 64000000
namespace Go.Proofs.YtglkmaalpammcaaGreat
open Go.Gl Go.RowKit
set_option linter.unusedVariables false
set_option maxRecDepth 100000
def cE (T:List TE) (id kd:Nat):Nat:=T.countP (fun t=>decide (t.2.1=id∧t.2.2=kd))
theorem CZ {T:List TE}{id kd:Nat} (h:∀ t∈T,t.2.1≠id):cE T id kd=0:=by
 unfold cE
 rw [List.countP_eq_zero]
 intro t ht
 rw [decide_eq_true_iff]
 exact fun x=>h t ht x.1
theorem Oy:∀ {T:List TE}{id kd:Nat}{t0:TE},T.Nodup→t0∈T→t0.2.1=id→t0.2.2=kd→(∀ t∈T,t.2.1=id→t=t0)→cE T id kd=1:=by
  intro T
  induction T with
  | nil=>intro id kd t0 _ h;cases h
  | cons a T ih =>
    intro id kd t0 hn hm h1 h2 hu
    have hp:=List.nodup_cons.1 hn
    by_cases ha:a=t0
    · subst ha
      have h0:cE T id kd=0:=CZ (fun t ht e=>hp.1 (hu t (List.mem_cons_of_mem _ ht) e▸ht))
      unfold cE at h0 ⊢
      rw [List.countP_cons,h0,if_pos (decide_eq_true ⟨h1,h2⟩)]
    · have hm':t0∈T:=(List.mem_cons.1 hm).resolve_left (fun e=>ha e.symm)
      have h0:=ih hp.2 hm' h1 h2 (fun t ht=>hu t (List.mem_cons_of_mem _ ht))
      unfold cE at h0 ⊢
      rw [List.countP_cons,h0,if_neg]
      rw [decide_eq_true_iff]
      exact fun x=>ha (hu a List.mem_cons_self x.1)
theorem S9 {T:List TE}{i id kd:Nat} (hi:i<T.length):cE (T.take (i+1)) id kd=cE (T.take i) id kd+if T[i].2.1=id∧T[i].2.2=kd then 1 else 0:=by
 unfold cE
 rw [List.take_succ_eq_append_getElem hi,List.countP_append,List.countP_cons,List.countP_nil]
 by_cases h:T[i].2.1=id∧T[i].2.2=kd
 ·simp [h]
 ·rw [if_neg h];simp [h]
theorem Dl {h:Nat}:∀ {T:List TE},T.Pairwise (fun s t=>s.1≤t.1)→∀ t,t∈jR h T↔t∈T∧t.1≤h:=by
  intro T
  induction T with
  | nil=>intro _ t;simp [jR]
  | cons a T ih =>
    intro hp t
    have hp':=List.pairwise_cons.1 hp
    by_cases ha:a.1≤h
    · have:=ih hp'.2 t
      unfold jR at this ⊢
      rw [List.takeWhile_cons_of_pos (by simpa using ha),List.mem_cons,this,List.mem_cons]
      constructor
      · rintro (rfl | ⟨x,y⟩)
        · exact⟨.inl rfl,ha⟩
        · exact⟨.inr x,y⟩
      · rintro⟨rfl | x,y⟩
        · exact .inl rfl
        · exact .inr ⟨x,y⟩
    · unfold jR
      rw [List.takeWhile_cons_of_neg (by simpa using ha)]
      constructor
      · intro x;cases x
      · rintro⟨hx,hy⟩
        rcases List.mem_cons.1 hx with rfl | hx
        · omega
        · have:=hp'.1 t hx;omega
theorem MG {h:Nat}{T:List TE} (hn:T.Nodup):(jR h T).Nodup:=List.Pairwise.sublist (List.takeWhile_sublist _) hn
theorem yH {h:Nat}{T:List TE}:(jR h T).length≤T.length:=(List.takeWhile_sublist _).length_le
theorem QH {F:List aN}{h nx:Nat}{es:List QE} (q:QI F h nx es) {e:QE} (he:e∈es):∃ T:List TE,F.filter (fun e=>dh [113] e.1)=oV 14 T∧(∀ t∈T,QK 14 t.1 t.2.1∧t.2.2≤17)∧T.length=es.length∧cE (jR e.t T) e.id e.k=1∧∀ d1,e.t=d1+1→cE (jR d1 T) e.id e.k=0:=by
 obtain⟨T,hT,hs,hm⟩:=Ij q
 have hs':T.Pairwise (fun s t=>s.1≤t.1):=hs.imp (fun {a b} x=>by omega)
 have hn:T.Nodup:=hs.imp (fun {a b} hab x=>by subst x;omega)
 have hu:∀ t∈T,t.2.1=e.id→t=(e.t,e.id,e.k):=fun t ht x=>by
  obtain⟨y,hy,rfl⟩:=(hm t).1 ht
  have:=qy q.inc hy he x
  subst this
  rfl
 refine⟨T,hT,CO q hm,Di hs q.inc hm,?_,fun d1 hd=>?_⟩
 ·exact Oy (t0:=(e.t,e.id,e.k)) (MG hn) ((Dl hs' _).2 ⟨(hm _).2 ⟨e,he,rfl⟩,Nat.le_refl _⟩) rfl rfl (fun t ht x=>hu t ((Dl hs' t).1 ht).1 x)
 ·refine CZ (fun t ht x=>?_)
  obtain⟨h1,h2⟩:=(Dl hs' t).1 ht
  have:=hu t h1 x
  subst this
  simp only at h2
  omega
theorem Ob {F:List aN}{h nx:Nat}{es:List QE} (q:QI F h nx es) {e:QE} (he:e∈es):∃ T:List TE,F.filter (fun x=>dh (101 :: be 8 e.v) x.1)=oV 15 T∧(∀ t∈T,QK 15 t.1 t.2.1∧t.2.2≤17)∧T.length≤es.length∧cE T e.id e.k=1:=by
 obtain⟨T,hT,hs,hm⟩:=UC q (q.ok e he).1.v
 refine⟨T,hT,TJ q hm,Sv hs hm,?_⟩
 exact Oy (t0:=(e.v,e.id,e.k)) (EC hs) ((hm _).2 ⟨e,he,rfl,rfl⟩) rfl rfl (fun t ht x=>by
  obtain⟨y,hy,hv,rfl⟩:=(hm t).1 ht
  have:=qy q.inc hy he x
  subst this
  rfl)
theorem Qo {F:List aN}{h nx:Nat}{es:List QE} (q:QI F h nx es) {e:QE} (he:e∈es) (hl:es.length<18446744073709551615):∃ c,0<c∧sN F e.d e.v=c :=
 ⟨cq es e.d e.v,List.countP_pos_iff.2 ⟨e,he,decide_eq_true ⟨rfl,rfl⟩⟩,qi_cn q (q.ok e he).1.d (q.ok e he).1.v hl⟩
theorem MQ {F:List aN}{h nx:Nat}{es:List QE} (q:QI F h nx es) {id kd:Nat} (hn:∀ e∈es,e.id≠id):∃ T:List TE,F.filter (fun e=>dh [113] e.1)=oV 14 T∧(∀ t∈T,QK 14 t.1 t.2.1∧t.2.2≤17)∧jR 18446744073709551615 T=T∧T.length=es.length∧cE T id kd=0:=by
 obtain⟨T,hT,hTs,hTm⟩:=Ij q
 exact⟨T,hT,CO q hTm,JZ (fun t ht=>by
  obtain⟨e,he,rfl⟩:=(hTm t).1 ht
  exact (q.ok e he).1.t),Di hTs q.inc hTm,CZ (fun t ht=>by
  obtain⟨e,he,rfl⟩:=(hTm t).1 ht
  exact hn e he)⟩
theorem NR {F:List aN}{h nx:Nat}{A:List QE}{e:QE} (q:QI F h nx (A ++ [e])) (hl:A.length<1000000):rU F e.id ((e.k:Nat):Int)=true∧QI (qV F e.id ((e.k:Nat):Int)) h nx A∧(∀ a∈A,a.id≠e.id):=by
 have hlt:∀ a∈A,a.id≠e.id:=fun a ha=>by
  have:=(List.pairwise_append.1 q.inc).2.2 a ha e List.mem_cons_self
  omega
 obtain⟨h1,h2⟩:=Si q (e:=e) (by simp) (by rw [List.length_append];simp;omega)
 refine⟨h1,?_,hlt⟩
 rw [List.filter_append,xx hlt,List.filter_cons_of_neg (by simp),List.filter_nil,List.append_nil] at h2
 exact h2
theorem J4 {F:List aN}{h nx:Nat}{A:List QE} (q:QI F h nx A) {id:Nat} (hi:bD id) (hn:∀ a∈A,a.id≠id) (kd:Int):rU F id kd=false∧qV F id kd=F :=
 OC (Ja (Jo q hi hn (.inl rfl))) (IY (Jo q hi hn (.inr rfl)))
theorem Qm {F:List aN}{h nx:Nat} (q:QI F h nx []) (h0:0<h):F.length=1:=by
  have hk:∀ e∈F,e.1=qk 2 0 0:=fun e he=>by
    obtain⟨k,a,b,hq,hk⟩:=q.key e he
    have hg:=Dh q.ris he
    rw [hk] at hg
    have hg:gQ F k a b=some e.2:=hg
    rcases hq.2.2 with ⟨rfl,rfl,rfl⟩ | ⟨h12,rfl⟩ | rfl | rfl | rfl
    · exact hk
    · rw [q.e0 k a h12 hq.1 (fun _ x=>by cases x)] at hg;cases hg
    · rw [q.t0 a b hq.1 hq.2.1 (fun _ x=>by cases x)] at hg;cases hg
    · rw [q.s0 a b hq.1 hq.2.1 (fun _ x=>by cases x)] at hg;cases hg
    · rw [q.c a b hq.1 hq.2.1,if_pos (show cq [] a b=0 from rfl)] at hg;cases hg
  match F,q.ch,hk,q.ris with
  | [], hc, _, _ =>
    have:h=0:=by
      have e:kC []=(0,0):=by decide
      rw [e] at hc
      exact (Prod.mk.inj hc).1.symm
    omega
  | [x],_,_,_=>rfl
  | x :: y :: l, _, hk, hr =>
    have h1:=(List.pairwise_cons.1 hr).1 y (by simp)
    rw [hk x (by simp),hk y (by simp),gJ] at h1
    cases h1
structure Kept (E:World→(Nat→Prop)→Prop):Prop where
 keep:∀ {W W':World}{Q:Nat→Prop},E W Q→ae (fun k=>¬ Q k) W W'→E W' Q
 more:∀ {W:World}{Q Q':Nat→Prop},E W Q→(∀ k,Q k→Q' k)→E W Q'
def EA (w0:World) (vo:Value) (T:List TE) (W:World) (Q:Nat→Prop):Prop:=bC W 86 2 vo T.length (ecs T)∧∀ k,vo.ownBlock=some k→Q k∧w0.heap.size≤k
def EB (eb id kd:Nat) (W:World) (Q:Nat→Prop):Prop:=W.heap[eb]?=some (.cells #[.int .u64 ((id:Nat):Int),.int .i64 ((kd:Nat):Int)] 86 (0,0))∧Q eb
def nS (E E':World→(Nat→Prop)→Prop) (W:World) (Q:Nat→Prop):Prop:=E W Q∧E' W Q
theorem jL (w0:World) (vo:Value) (T:List TE):Kept (EA w0 vo T):=⟨fun⟨a,b⟩ m=>⟨bC.keep a m (fun k hk x=>x (b k hk).1),b⟩,fun⟨a,b⟩ h=>⟨a,fun k hk=>⟨h k (b k hk).1,(b k hk).2⟩⟩⟩
theorem ql (eb id kd:Nat):Kept (EB eb id kd):=⟨fun⟨a,b⟩ m=>⟨m.heap a (fun x=>x b),b⟩,fun⟨a,b⟩ h=>⟨a,h _ b⟩⟩
theorem kJ {E E':World→(Nat→Prop)→Prop} (h:Kept E) (h':Kept E'):Kept (nS E E'):=⟨fun⟨a,b⟩ m=>⟨h.keep a m,h'.keep b m⟩,fun⟨a,b⟩ x=>⟨h.more a x,h'.more b x⟩⟩
def ig (w0:World) (sg:Nat) (F:List aN) (K P:Nat) (E:World→(Nat→Prop)→Prop) (W:World):Prop:=∃ kn kp Q,G1 w0 W (bI sg F kn kp) Q∧kn≤K∧kp≤P∧E W Q
def Cj (w0:World) (sg:Nat) (F:List aN) (K P:Nat) (E:World→(Nat→Prop)→Prop) (T:List TE) (v:Value) (W:World):Prop:=ig w0 sg F K P E W∧bC W 86 2 v T.length (ecs T)
section
variable {w0 W W':World}{sg K P:Nat}{F F':List aN}{E:World→(Nat→Prop)→Prop}{T:List TE}{v:Value}
theorem Me (m:ae ai W W') (Q:Nat→Prop):ae (fun k=>¬ Q k) W W':=m.mono (fun _ _ x=>x.elim)
theorem Dx (kE:Kept E) (h:ig w0 sg F K P E W) (m:ae ai W W'):ig w0 sg F K P E W':=by
 obtain⟨a,b,c,g,h1,h2,h3⟩:=h
 exact⟨a,b,c,g.keep0 bJ m,h1,h2,kE.keep h3 (Me m _)⟩
theorem zN {K2 P2:Nat} (h:ig w0 sg F K P E W) (h1:K≤K2) (h2:P≤P2):ig w0 sg F K2 P2 E W:=by
 obtain⟨a,b,c,g,x,y,z⟩:=h
 exact⟨a,b,c,g,by omega,by omega,z⟩
theorem zJ (h:ig w0 sg F K P E W):ae ai w0 W:=by
 obtain⟨a,b,c,g,x,y,z⟩:=h
 exact g.mods
theorem og_e {E':World→(Nat→Prop)→Prop} (h:ig w0 sg F K P E W) (hE:∀ Q,E W Q→E' W Q):ig w0 sg F K P E' W:=by
 obtain⟨a,b,c,g,x,y,z⟩:=h
 exact⟨a,b,c,g,x,y,hE _ z⟩
theorem yI {hd:Nat} (kE:Kept E) (h:ig w0 sg F K P E W) (hh:bD hd) (ht:F.filter (fun e=>dh [113] e.1)=oV 14 T) (hq:∀ t∈T,QK 14 t.1 t.2.1∧t.2.2≤17) (hK:K≤1000000000) (hP:P≤50000):Calls Tryz.prog 37 #[.pointer (some ⟨sg,0,none⟩),.int .u64 ((hd:Nat):Int)] W fun e w'=>∃ v,e = .returned v∧Cj w0 sg F (K+1+P) P E (jR hd T) v w':=by
 obtain⟨kn,kp,Q,g,h1,h2,h3⟩:=h
 refine (g.call (Qi hh ht hq (by omega) (by omega))).mono ?_
 rintro e w' ⟨v,P',N,rfl,⟨o,rfl,rfl⟩,g',_,m⟩
 exact⟨v,rfl,⟨_,_,_,g',by omega,h2,kE.more (kE.keep h3 m) (fun k hk => .inl hk)⟩,o⟩
theorem Jf {a:Nat} (kE:Kept E) (h:ig w0 sg F K P E W) (ha:bD a) (ht:F.filter (fun e=>dh (101 :: be 8 a) e.1)=oV 15 T) (hq:∀ t∈T,QK 15 t.1 t.2.1∧t.2.2≤17) (hK:K≤1000000000) (hP:P≤50000):Calls Tryz.prog 39 #[.pointer (some ⟨sg,0,none⟩),.int .u64 ((a:Nat):Int)] W fun e w'=>∃ v,e = .returned v∧Cj w0 sg F (K+1+P) P E T v w':=by
 obtain⟨kn,kp,Q,g,h1,h2,h3⟩:=h
 refine (g.call (RY ha ht hq (by omega) (by omega))).mono ?_
 rintro e w' ⟨v,P',N,rfl,⟨o,rfl,rfl⟩,g',_,m⟩
 exact⟨v,rfl,⟨_,_,_,g',by omega,h2,kE.more (kE.keep h3 m) (fun k hk => .inl hk)⟩,o⟩
theorem Gm {d a c:Nat} (kE:Kept E) (h:ig w0 sg F K P E W) (hd:bD d) (ha:bD a) (hc:sN F d a=c) (hK:K≤1000000000) (hP:P≤50000):Calls Tryz.prog 42 #[.pointer (some ⟨sg,0,none⟩),.int .u64 ((d:Nat):Int),.int .u64 ((a:Nat):Int)] W fun e w'=>e = .returned (.int .u64 ((c:Nat):Int))∧ig w0 sg F (K+1) P E w':=by
 obtain⟨kn,kp,Q,g,h1,h2,h3⟩:=h
 have q:=vO (w:=W) (sg:=sg) (n:=kn) (p:=kp) (F:=F) (Q:=Q) hd ha (by omega) (by omega)
 rw [hc] at q
 exact (g.calls q).mono fun r w' ⟨a,b,m⟩=>⟨a,_,_,_,b,by omega,h2,kE.keep h3 m⟩
theorem JJ {id:Nat}{kd:Int}{b:Bool} (kE:Kept E) (h:ig w0 sg F K P E W) (hi:bD id) (hb:rU F id kd=b) (hf:qV F id kd=F') (hK:K≤1000000000) (hP:P≤50000):Calls Tryz.prog 52 #[.pointer (some ⟨sg,0,none⟩),.agg #[.int .u64 ((id:Nat):Int),.int .i64 kd]] W fun e w'=>e = .returned (.bool b)∧ig w0 sg F' (K+6) (P+8) E w':=by
 obtain⟨kn,kp,Q,g,h1,h2,h3⟩:=h
 have q:=LK (w:=W) (sg:=sg) (n:=kn) (p:=kp) (F:=F) (Q:=Q) (kind:=kd) hi (by omega) (by omega)
 rw [hb,hf] at q
 exact (g.calls q).mono fun r w' ⟨a,b,m⟩=>⟨a,_,_,_,b,by omega,by omega,kE.keep h3 m⟩
theorem SI (h:ig w0 sg F K P E W) (hP:P≤50000):Calls Tryz.prog 20 #[.pointer (some ⟨sg,0,none⟩)] W fun e w'=>∃ a c,e = .returned (.slice a F.length c)∧ae ai W w':=by
 obtain⟨kn,kp,Q,⟨S,D,⟨m,q,_,hq,kv⟩,_⟩,h1,h2,h3⟩:=h
 refine (hDump kv (by omega)).mono ?_
 rintro e w' ⟨v,L,rfl,g,mm,rfl⟩
 obtain⟨a,c,rfl,_⟩:=g.prow.at
 exact⟨a,c,by rw [List.length_map],mm⟩
end
theorem G1.turng {w0 w w':World}{P:FP}{Q Q' T:Nat→Prop} (h:G1 w0 w P Q) (f:gK P) (m:ae T w w') (ht:∀ k,T k→Q k∧w0.heap.size≤k) (hq':∀ k,Q' k→Q k∨(w.heap.size≤k∧k<w'.heap.size)) (h1:∀ k,k<w0.heap.size→Q' k):G1 w0 w' P Q':=by
 obtain⟨S,D,p,hq,h0,m0⟩:=h
 have l:=f.lt p
 refine⟨S,D,f.keep p m (fun k hk x=>(hq k (ht k x).1).1 hk) (fun k hk x=>(hq k (ht k x).1).2.1 hk),fun k hk=>?_,h1,m0.trans m (fun _ _ x=>x) (fun k hk x=>by have:=(ht k x).2;omega)⟩
 rcases hq' k hk with x | ⟨x,y⟩
 ·exact⟨(hq k x).1,(hq k x).2.1,Nat.lt_of_lt_of_le (hq k x).2.2 m.size⟩
 ·exact⟨fun z=>by have:=l.1 k z;omega,fun z=>by have:=l.2 k z;omega,y⟩
theorem Tv (a b a' b':Nat) (w:World):(binOp .eql 86 (.agg #[.int .u64 ((a:Nat):Int),.int .i64 ((b:Nat):Int)]) (.agg #[.int .u64 ((a':Nat):Int),.int .i64 ((b':Nat):Int)])).run Tryz.prog w = .ok (.bool (decide (a=a'∧b=b'))) w:=by
 rw [run_eql_struct,FQ 9998]
 have:(((a:Nat):Int) == ((a':Nat):Int) && ((b:Nat):Int) == ((b':Nat):Int))=decide (a=a'∧b=b'):=by
  by_cases h1:a=a' <;> by_cases h2:b=b' <;> simp [h1,h2] <;> omega
 rw [this]
 rfl
theorem SX {h offh cb m id kd:Nat}{T:List TE}{w:World} (hT:T.length=m) (hm:m≤1000000) (cx:∀ j u,(ecs T)[j]?=some u→w.cell? ⟨h,offh+j,none⟩=some u) (gx:h<w.heap.size) :
  Calls Tryz.prog 55 #[.slice (some ⟨h,offh,none⟩) m cb,.agg #[.int .u64 ((id:Nat):Int),.int .i64 ((kd:Nat):Int)]] w fun e w'=>e = .returned (.bool (decide (cE T id kd=1)))∧ae ai w w':=by
 have HT:=lh hT
 have CX:=lh cx
 have b1:=aF w (.cells #[.int .u64 ((id:Nat):Int),.int .i64 ((kd:Nat):Int)] 86)
 have m1:=(ae.refl ai w).alloc (.cells #[.int .u64 ((id:Nat):Int),.int .i64 ((kd:Nat):Int)] 86)
 obtain⟨w1,hw1⟩:∃ w1,w1=w.alloc (.cells #[.int .u64 ((id:Nat):Int),.int .i64 ((kd:Nat):Int)] 86):=⟨_,rfl⟩
 rw [← hw1] at b1 m1
 obtain⟨eb,heb⟩:∃ eb,w.heap.size=eb:=⟨_,rfl⟩
 rw [heb] at b1 gx
 have HW:=lh (And.intro hw1 heb)
 have B1:=lh b1
 have M1:=lh m1
 clear cx hT b1 m1 hw1
 go_enter Tryz.func55,Tryz.ntmps55
 go_wp2
 go_loopw [5,6] (fun x y wr=>∃ (k c:Nat),k≤m∧c≤k∧x = .int .i64 c∧y = .int .i64 k∧Hid (ae ai w1 wr∧cE (T.take k) id kd=c)) (fun _ y _=>m - (intOf y).toNat)
 case atStart=>exact⟨0,0,Nat.zero_le _,Nat.zero_le _,rfl,rfl,lh ⟨by rw [HW.out.1];exact ae.refl _ _,rfl⟩⟩
 case round =>
  obtain⟨k,c,hk,hck,rfl,rfl,hI⟩:=hrel
  by_cases hlt:k<m
  ·have hkT:k<T.length:=by rw [HT.out];exact hlt
   have ht:T[k]?=some T[k]:=List.getElem?_eq_getElem hkT
   have hct:=S9 (id:=id) (kd:=kd) hkT
   rw [hI.out.2] at hct
   have HM:=lh hI.out.1
   have QE:∀ b',ae ai w1 b'→∀ j u,[Value.int .u64 ((id:Nat):Int),.int .i64 ((kd:Nat):Int)][j]?=some u→b'.cell? ⟨eb,0+j,none⟩=some u:=fun b' mm j u hj=>by rw [Nat.zero_add];exact (af (mm.heap B1.out (fun x=>x)) j).trans (by rw [← hj];exact List.getElem?_toArray)
   have QX:∀ b',ae ai w1 b'→∀ j u,[Value.int .u64 ((T[k].2.1:Nat):Int),.int .i64 ((T[k].2.2:Nat):Int)][j]?=some u→b'.cell? ⟨h,offh+k*2+j,none⟩=some u:=fun b' mm j u hj=>by
    rw [(M1.out.then0 mm).cellAt (by have:=HW.out.2;omega) (fun x=>x),Nat.add_assoc]
    exact CX.out _ _ (Ci ht hj)
   generalize T[k].2.1=tb at *
   generalize T[k].2.2=tk at *
   have QE:=lh QE
   have QX:=lh QX
   have CT:=lh hct
   clear hI hct ht
   go_upto_region 5 with fail
   refine fM (d := .region 5 (aH 5 Tryz.f55) true) (by kernel_rfl) ?_
   refine RW.wp (in5 (b:=tb) (kx:=tk) (id:=id) (kd:=kd) (B:=decide (tb=id∧tk=kd)) (fun b' mm=>QX.out b' (HM.out.then0 mm)) (fun b' mm=>QE.out b' (HM.out.then0 mm)) (fun W=>Tv _ _ _ _ W) hlt (by omega) ?_)
   intros
   rename_i w9 m9
   have M9:=lh (HM.out.then0 m9)
   clear m9 QE QX
   by_cases hb:tb=id∧tk=kd
   ·have hb1:decide (tb=id∧tk=kd)=true:=decide_eq_true hb
    rw [hb1]
    go_wp2
    go_roundw
    case rel=>exact⟨k+1,c+1,by omega,by omega,by go_num,by go_num,lh ⟨M9.out,by have:=CT.out;rw [if_pos hb] at this;exact this⟩⟩
    case measure=>simp [intOf];omega
   ·have hb1:decide (tb=id∧tk=kd)=false:=decide_eq_false hb
    rw [hb1]
    go_wp2
    go_roundw
    case rel=>exact⟨k+1,c,by omega,by omega,by go_num,by go_num,lh ⟨M9.out,by have:=CT.out;rw [if_neg hb] at this;exact this⟩⟩
    case measure=>simp [intOf];omega
  ·obtain rfl:k=m:=by omega
   have hc:cE T id kd=c:=by
    have:=hI.out.2
    rw [List.take_of_length_le (by rw [HT.out];exact Nat.le_refl _)] at this
    exact this
   have HC:=lh hc
   have MM:=lh (M1.out.then0 hI.out.1)
   clear hI hc
   go_wp2
   go_ret
   exact⟨by rw [HC.out];congr 2;by_cases hc1:c=1 <;> simp [hc1] <;> omega,MM.out⟩
theorem VG (a:Option Addr) (c id kd:Nat) (w:World):Calls Tryz.prog 55 #[.slice a 0 c,.agg #[.int .u64 ((id:Nat):Int),.int .i64 ((kd:Nat):Int)]] w fun e w'=>e = .returned (.bool false)∧ae ai w w':=by
 have M1:=lh ((ae.refl ai w).alloc (.cells #[.int .u64 ((id:Nat):Int),.int .i64 ((kd:Nat):Int)] 86))
 go_enter Tryz.func55,Tryz.ntmps55
 go_wp2
 go_rounds 1
 go_ret
 exact⟨rfl,M1.out⟩
theorem UY {v:Value}{T:List TE}{w:World}{id kd:Nat}{b:Bool} (hv:jc w 2 v T.length (ecs T)) (hn:T.length≤1000000) (hb:decide (cE T id kd=1)=b):Calls Tryz.prog 55 #[v,.agg #[.int .u64 ((id:Nat):Int),.int .i64 ((kd:Nat):Int)]] w fun e w'=>e = .returned (.bool b)∧ae ai w w':=by
 subst hb
 rcases Nat.eq_zero_or_pos T.length with h0 | h0
 ·obtain⟨a,ca,rfl,_⟩:=hv.form
  rw [h0,List.eq_nil_of_length_eq_zero h0]
  exact VG a ca id kd w
 ·rcases hv.2 with ⟨_,h1⟩ | ⟨g,off,ca,rfl,_,_,g1,cx⟩
  ·omega
  ·exact SX rfl hn cx (g1.resolve_left (by omega))
section
variable {w0 W:World}{sg K P id kd:Nat}{F:List aN}{E:World→(Nat→Prop)→Prop}{T:List TE}{v:Value}{b:Bool}
theorem zu (kE:Kept E) (h:Cj w0 sg F K P E T v W) (hn:T.length≤1000000) (hb:decide (cE T id kd=1)=b):Calls Tryz.prog 55 #[v,.agg #[.int .u64 ((id:Nat):Int),.int .i64 ((kd:Nat):Int)]] W fun e w'=>e = .returned (.bool b)∧ig w0 sg F K P E w' :=
 (UY h.2.rd hn hb).mono fun e w' ⟨a,m⟩=>⟨a,Dx kE h.1 m⟩
end
end Go.Proofs.YtglkmaalpammcaaGreat

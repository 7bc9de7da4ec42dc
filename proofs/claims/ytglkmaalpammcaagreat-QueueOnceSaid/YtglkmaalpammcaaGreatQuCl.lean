/- QueueOnce: plain laws of the walk. -/
import Derived.Test.YtglkmaalpammcaaGreatQuC
namespace Go.Proofs.YtglkmaalpammcaaGreat
open Go.Gl Go.RowKit
set_option linter.unusedVariables false
set_option maxRecDepth 100000
def gG (nx:Nat) (ss:List dn):List TE:=(lV nx ss).map (fun e=>(e.t,e.id,e.k))
theorem vK (nx:Nat) (ss:List dn):(gG nx ss).length=ss.length:=by unfold gG;rw [List.length_map,vZ]
theorem yU (nx:Nat) {ss:List dn}{i:Nat} (hi:i<ss.length):lV nx (ss.take (i+1))=lV nx (ss.take i) ++ [qe ss[i] (nx+i)]:=by
 rw [List.take_succ_eq_append_getElem hi,Fh,List.length_take,Nat.min_eq_left (by omega)]
 rfl
theorem Ha (nx:Nat) {ss:List dn}{i:Nat} (hi:i<ss.length):gG nx (ss.take (i+1))=gG nx (ss.take i) ++ [(ss[i].due,nx+i,ss[i].kd)]:=by
 unfold gG
 rw [yU nx hi,List.map_append]
 rfl
theorem Ve (nx:Nat) {ss:List dn}{i:Nat} (hi:i<ss.length):(gG nx ss)[i]?=some (ss[i].due,nx+i,ss[i].kd):=by
 have e:ss=ss.take (i+1) ++ ss.drop (i+1):=(List.take_append_drop _ _).symm
 have h:=Ha nx hi
 have h1:gG nx ss=gG nx (ss.take (i+1)) ++ (lV (nx+(i+1)) (ss.drop (i+1))).map (fun e=>(e.t,e.id,e.k)):=by
  conv=>lhs;rw [e]
  unfold gG
  rw [Fh,List.map_append,List.length_take,Nat.min_eq_left (by omega)]
 rw [h1,h,List.append_assoc,List.getElem?_append_right (by rw [vK,List.length_take];omega),vK,List.length_take,Nat.min_eq_left (by omega),Nat.sub_self]
 rfl
section
variable {s:dn}{W:World}{xb:Nat}{za:Option Addr}{zc:Nat}
theorem yV (hv:s.sv = .slice za s.sl.length zc) (h:W.heap[xb]?=some (.cells #[.int .i64 s.what,.int .i64 s.kind,.int .u64 ((s.n:Nat):Int),.int .u64 ((s.u0:Nat):Int),.int .u64 ((s.u1:Nat):Int),.int .u64 ((s.u2:Nat):Int),.int .u64 ((s.u3:Nat):Int),.int .u64 ((s.u4:Nat):Int),.int .u64 ((s.u5:Nat):Int),.int .u64 ((s.m0:Nat):Int),.int .u64 ((s.m1:Nat):Int),.int .u64 ((s.m2:Nat):Int),.int .u64 ((s.m3:Nat):Int),.int .u64 ((s.m4:Nat):Int),.int .u64 ((s.m5:Nat):Int),.slice za s.sl.length zc] 79 (0,0))) {j:Nat}{u:Value} (hj:s.cells[j]?=some u):W.cell? ⟨xb,j,none⟩=some u:=by
 have e:([.int .i64 s.what,.int .i64 s.kind,.int .u64 ((s.n:Nat):Int),.int .u64 ((s.u0:Nat):Int),.int .u64 ((s.u1:Nat):Int),.int .u64 ((s.u2:Nat):Int),.int .u64 ((s.u3:Nat):Int),.int .u64 ((s.u4:Nat):Int),.int .u64 ((s.u5:Nat):Int),.int .u64 ((s.m0:Nat):Int),.int .u64 ((s.m1:Nat):Int),.int .u64 ((s.m2:Nat):Int),.int .u64 ((s.m3:Nat):Int),.int .u64 ((s.m4:Nat):Int),.int .u64 ((s.m5:Nat):Int),.slice za s.sl.length zc]:List Value)[j]?=some u:=by
  unfold dn.cells at hj
  rw [hv] at hj
  exact hj
 exact (af h j).trans (by rw [← e];exact List.getElem?_toArray)
theorem xb_u (hv:s.sv = .slice za s.sl.length zc) (h:W.heap[xb]?=some (.cells #[.int .i64 s.what,.int .i64 s.kind,.int .u64 ((s.n:Nat):Int),.int .u64 ((s.u0:Nat):Int),.int .u64 ((s.u1:Nat):Int),.int .u64 ((s.u2:Nat):Int),.int .u64 ((s.u3:Nat):Int),.int .u64 ((s.u4:Nat):Int),.int .u64 ((s.u5:Nat):Int),.int .u64 ((s.m0:Nat):Int),.int .u64 ((s.m1:Nat):Int),.int .u64 ((s.m2:Nat):Int),.int .u64 ((s.m3:Nat):Int),.int .u64 ((s.m4:Nat):Int),.int .u64 ((s.m5:Nat):Int),.slice za s.sl.length zc] 79 (0,0))):∀ j u,([.int .u64 ((s.u0:Nat):Int),.int .u64 ((s.u1:Nat):Int),.int .u64 ((s.u2:Nat):Int),.int .u64 ((s.u3:Nat):Int),.int .u64 ((s.u4:Nat):Int),.int .u64 ((s.u5:Nat):Int)]:List Value)[j]?=some u→W.cell? ⟨xb,3+j,none⟩=some u:=fun j u hj=>yV hv h (Rz (s:=s) hj)
theorem xb_m (hv:s.sv = .slice za s.sl.length zc) (h:W.heap[xb]?=some (.cells #[.int .i64 s.what,.int .i64 s.kind,.int .u64 ((s.n:Nat):Int),.int .u64 ((s.u0:Nat):Int),.int .u64 ((s.u1:Nat):Int),.int .u64 ((s.u2:Nat):Int),.int .u64 ((s.u3:Nat):Int),.int .u64 ((s.u4:Nat):Int),.int .u64 ((s.u5:Nat):Int),.int .u64 ((s.m0:Nat):Int),.int .u64 ((s.m1:Nat):Int),.int .u64 ((s.m2:Nat):Int),.int .u64 ((s.m3:Nat):Int),.int .u64 ((s.m4:Nat):Int),.int .u64 ((s.m5:Nat):Int),.slice za s.sl.length zc] 79 (0,0))):∀ j u,([.int .u64 ((s.m0:Nat):Int),.int .u64 ((s.m1:Nat):Int),.int .u64 ((s.m2:Nat):Int),.int .u64 ((s.m3:Nat):Int),.int .u64 ((s.m4:Nat):Int),.int .u64 ((s.m5:Nat):Int),.slice za s.sl.length zc]:List Value)[j]?=some u→W.cell? ⟨xb,9+j,none⟩=some u:=fun j u hj=>yV hv h (RI (s:=s) (by unfold dn.ms;rw [hv];exact hj))
end
section
variable {w0 W W':World}{sg K P:Nat}{F F':List aN}{E:World→(Nat→Prop)→Prop}{T:List TE}{v:Value}{s:dn}{eb id kd:Nat}
theorem UM (kE:Kept E) (h:ig w0 sg F K P E W) (m:ae ai W W') (he:W.heap.size≤eb) (b:W'.heap[eb]?=some (.cells #[.int .u64 ((id:Nat):Int),.int .i64 ((kd:Nat):Int)] 86 (0,0))):ig w0 sg F K P (nS E (EB eb id kd)) W':=by
 obtain⟨a,c,Q,g,x,y,z⟩:=h
 refine⟨a,c,fun k=>Q k∨k=eb,g.grow bJ m (fun k hk=>?_) (fun k hk => .inl (g.q0 k hk)),x,y,kE.more (kE.keep z (Me m _)) (fun k hk => .inl hk),b,.inr rfl⟩
 rcases hk with hk | rfl
 ·exact .inl hk
 ·exact .inr ⟨he,lt_of_heap b⟩
theorem lL (h:ig w0 sg F K P (nS E (EB eb id kd)) W):W.heap[eb]?=some (.cells #[.int .u64 ((id:Nat):Int),.int .i64 ((kd:Nat):Int)] 86 (0,0)):=by
 obtain⟨a,c,Q,g,x,y,z⟩:=h
 exact z.2.1
theorem H5 (h:ig w0 sg F K P (nS E (EB eb id kd)) W):ig w0 sg F K P E W:=og_e h (fun _ x=>x.1)
theorem Ba (h:ig w0 sg F K P (EA w0 v T) W):bC W 86 2 v T.length (ecs T):=by
 obtain⟨a,c,Q,g,x,y,z⟩:=h
 exact z.1
theorem U1 (h:ig w0 sg F K P (nS (EA w0 v T) (EB eb id kd)) W):bC W 86 2 v T.length (ecs T):=Ba (H5 h)
theorem UX {kd':Nat} (kE:Kept E) (h:ig w0 sg F K P (nS (EA w0 v T) (EB eb id kd)) W) (he:w0.heap.size≤eb) (hv:v.ownBlock≠some eb):ig w0 sg F K P (nS (EA w0 v T) (EB eb id kd')) (W.setCell ⟨eb,1,none⟩ (.int .i64 ((kd':Nat):Int))):=by
 obtain⟨a,c,Q,g,x,y,z,b,q⟩:=h
 have m:ae (fun k=>k=eb) W (W.setCell ⟨eb,1,none⟩ (.int .i64 ((kd':Nat):Int))):=(ae.refl (fun k=>k=eb) W).setCell (.inl rfl) _
 refine⟨a,c,Q,g.turn bJ m (fun k hk=>by subst hk;exact⟨q,he⟩),x,y,⟨bC.keep z.1 m (fun k hk e=>hv (e▸hk)),z.2⟩,?_,q⟩
 exact heap_set b 1 _
theorem Uu {v8:Value}{d:Nat} (h:ig w0 sg F K P (nS (EA w0 v T) (EB eb id kd)) W) (hv:v.ownBlock≠some eb) (o:bC W' 86 2 v8 (T.length+1) (ecs T ++ [.int .u64 ((id:Nat):Int),.int .i64 ((kd:Nat):Int)])) (m:ae (eY v) W W') (f:v8.ownBlock=v.ownBlock∨aG W v8) (he:w0.heap.size≤W.heap.size):ig w0 sg F K P (nS (EA w0 v8 (T ++ [(d,id,kd)])) (EB eb id kd)) W':=by
 obtain⟨a,c,Q,g,x,y,z,b,q⟩:=h
 refine⟨a,c,fun k=>Q k∨v8.ownBlock=some k,G1.turng g bJ m (fun k hk=>z.2 k hk) (fun k hk=>?_) (fun k hk => .inl (g.q0 k hk)),x,y,⟨?_,fun k hk=>⟨.inr hk,?_⟩⟩,m.heap b (fun e=>hv e),.inl q⟩
 ·rcases hk with hk | hk
  ·exact .inl hk
  ·rcases f with f | f
   ·exact .inl (z.2 k (f▸hk)).1
   ·exact .inr ⟨f k hk,o.lt k hk⟩
 ·rw [List.length_append,Aj];exact o
 ·rcases f with f | f
  ·exact (z.2 k (f▸hk)).2
  ·exact Nat.le_trans he (f k hk)
theorem U9 (kE:Kept E) (h:ig w0 sg F K P E W) (ok:dn.Ok w0 s) (hev:s.ev=true) (hF:uQ F s=F') (hc:(kC F).2=id) (hK:K≤1000000000) (hP:P≤50000):Calls Tryz.prog 35 #[.pointer (some ⟨sg,0,none⟩),.agg #[.int .u64 ((s.u0:Nat):Int),.int .u64 ((s.u1:Nat):Int),.int .u64 ((s.u2:Nat):Int),.int .u64 ((s.u3:Nat):Int),.int .u64 ((s.u4:Nat):Int),.int .u64 ((s.u5:Nat):Int)]] W fun r w'=>r = .returned (.int .u64 ((id:Nat):Int))∧ig w0 sg F' (K+7) (P+10) E w':=by
 subst hF
 obtain⟨kn,kp,Q,g,h1,h2,h3⟩:=h
 have c:=Ji (w:=W) (sg:=sg) (n:=kn) (p:=kp) (F:=F) (Q:=Q) ok.u (by omega) (by omega)
 rw [← UF F hev,hc] at c
 exact (g.calls c).mono fun r w' ⟨a,b,m⟩=>⟨a,_,_,_,b,by omega,by omega,kE.keep h3 m⟩
theorem UL (kE:Kept E) (h:ig w0 sg F K P E W) (ok:dn.Ok w0 s) (hev:s.ev=false) (h30:s.sl.length≤30) (hF:uQ F s=F') (hc:(kC F).2=id) (hK:K≤1000000000) (hP:P≤50000):Calls Tryz.prog 36 #[.pointer (some ⟨sg,0,none⟩),.agg #[.int .u64 ((s.m0:Nat):Int),.int .u64 ((s.m1:Nat):Int),.int .u64 ((s.m2:Nat):Int),.int .u64 ((s.m3:Nat):Int),.int .u64 ((s.m4:Nat):Int),.int .u64 ((s.m5:Nat):Int),s.sv]] W fun r w'=>r = .returned (.int .u64 ((id:Nat):Int))∧ig w0 sg F' (K+7) (P+10) E w':=by
 subst hF
 obtain⟨kn,kp,Q,g,h1,h2,h3⟩:=h
 have q6:s.sl=[]∨∀ k,s.sv.ownBlock=some k→Q k:=by
  rcases Nat.eq_zero_or_pos s.sl.length with h0 | h0
  ·exact .inl (List.eq_nil_of_length_eq_zero h0)
  ·exact .inr (fun k hk=>g.q0 k (dP.ltn ok.r (by omega) k hk))
 have c:=RQ (w:=W) (sg:=sg) (n:=kn) (p:=kp) (F:=F) (Q:=Q) ok.m ⟨dP.keep ok.r g.mods (fun _ _ x=>x),ok.l,by omega⟩ q6 (by omega) (by omega)
 rw [← UE F hev,hc] at c
 exact (g.calls c).mono fun r w' ⟨a,b,m⟩=>⟨a,_,_,_,b,by omega,by omega,kE.keep h3 m⟩
end
theorem P9 {W:World}{a:Option Addr}{N cb i:Nat}{T:List TE}{t:TE}{h offh:Nat} (ha:a=some ⟨h,offh,none⟩) (o:bC W 86 2 (.slice a N cb) N (ecs T)) (ht:T[i]?=some t) (hN:0<N):∀ j u,([.int .u64 ((t.2.1:Nat):Int),.int .i64 ((t.2.2:Nat):Int)]:List Value)[j]?=some u→W.cell? ⟨h,offh+i*2+j,none⟩=some u:=by
 subst ha
 rcases o.rd.2 with ⟨_,h1⟩ | ⟨g,off,ca,hv,_,_,g1,cx⟩
 ·omega
 ·cases hv
  exact fun j u hj=>by rw [Nat.add_assoc];exact cx _ _ (Ci ht hj)
theorem Tn {W:World}{a:Option Addr}{N cb:Nat}{T:List TE} (o:bC W 86 2 (.slice a N cb) N (ecs T)) (hN:0<N):∃ h offh,a=some ⟨h,offh,none⟩:=by
 rcases o.rd.2 with ⟨_,h1⟩ | ⟨g,off,ca,hv,_⟩
 ·omega
 ·cases hv
  exact⟨_,_,rfl⟩
end Go.Proofs.YtglkmaalpammcaaGreat

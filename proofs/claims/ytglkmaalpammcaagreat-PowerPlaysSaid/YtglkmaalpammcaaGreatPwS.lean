/- PowerPlays: both stores beside one another. -/
import Derived.Test.YtglkmaalpammcaaGreatPwRf
import Derived.Test.YtglkmaalpammcaaGreatPwG
import Derived.Test.YtglkmaalpammcaaGreatBkSt
namespace Go.Proofs.YtglkmaalpammcaaGreat
open Go.Gl Go.RowKit
set_option linter.unusedVariables false
set_option maxRecDepth 100000
def gQ (w0:World) (sg rg:Nat) (F C:List aN) (n P M:Nat) (E:World→(Nat→Prop)→Prop) (W:World):Prop:=∃ p m Q,G1 w0 W (Star (l7 sg F [] n p) (iR rg C m)) Q∧p≤P∧m≤M∧E W Q
def PBk (xb:Nat) (o:Obj) (W:World) (Q:Nat→Prop):Prop:=W.heap[xb]?=some o∧Q xb
theorem pbk_k (xb:Nat) (o:Obj):iC (PBk xb o):=⟨fun⟨a,b⟩ m=>⟨m.heap a (fun x=>x b),b⟩,fun⟨a,b⟩ h=>⟨a,h _ b⟩⟩
section
variable {w0 W W':World}{sg rg n P M:Nat}{F C F' C':List aN}{E:World→(Nat→Prop)→Prop}{v r:Value}{f:FuncId}{args:Array Value}
theorem zJ (kE:iC E) (h:gQ w0 sg rg F C n P M E W) (m:ae ai W W'):gQ w0 sg rg F C n P M E W':=by
 obtain⟨a,b,c,g,h1,h2,h3⟩:=h
 exact⟨a,b,c,g.keep0 (nV.star kX) m,h1,h2,kE.keep h3 (vX m _)⟩
theorem A8 {P2 M2:Nat} (h:gQ w0 sg rg F C n P M E W) (h1:P≤P2) (h2:M≤M2):gQ w0 sg rg F C n P2 M2 E W:=by
 obtain⟨a,b,c,g,x,y,z⟩:=h
 exact⟨a,b,c,g,by omega,by omega,z⟩
theorem A7 (h:gQ w0 sg rg F C n P M E W):ae ai w0 W:=by
 obtain⟨a,b,c,g,x,y,z⟩:=h
 exact g.mods
theorem Hy (h:gQ w0 sg rg F C n P M E W):∃ Q,E W Q:=by
 obtain⟨a,b,c,g,x,y,z⟩:=h
 exact⟨c,z⟩
theorem JH (h:gQ w0 sg rg F C n P M E W):gQ w0 sg rg F C n P M wH W:=by
 obtain⟨a,b,c,g,x,y,z⟩:=h
 exact⟨a,b,c,g,x,y,trivial⟩
theorem Ef {E':World→(Nat→Prop)→Prop} (h:gQ w0 sg rg F C n P M (nO E E') W):gQ w0 sg rg F C n P M E W:=by
 obtain⟨a,b,c,g,x,y,z⟩:=h
 exact⟨a,b,c,g,x,y,z.1⟩
theorem yL (h:gQ w0 sg rg F C n P M E W):F.length≤P:=by
 obtain⟨a,b,c,g,x,y,z⟩:=h
 obtain⟨S,D,⟨mg,vo,R,jv,J,km,ok,hf,hw,hj,hp,_⟩,_⟩:=g.left
 omega
theorem JQ {xb:Nat}{o:Obj} (h:gQ w0 sg rg F C n P M E W) (m:ae ai W W') (hx:W.heap.size≤xb) (b:W'.heap[xb]?=some o):gQ w0 sg rg F C n P M (PBk xb o) W':=by
 obtain⟨p,c,Q,g,x,y,z⟩:=h
 refine⟨p,c,fun k=>Q k∨k=xb,g.grow (nV.star kX) m (fun k hk=>?_) (fun k hk => .inl (g.q0 k hk)),x,y,b,.inr rfl⟩
 rcases hk with hk | rfl
 ·exact .inl hk
 ·exact .inr ⟨hx,lt_of_heap b⟩
theorem yg (kE:iC E) (h:gQ w0 sg rg F C n P M E W) (c:∀ p Q,p≤P→GS Tryz.prog f args W (l7 sg F [] n p) Q r (l7 sg F' [] (n+1) (p+2))):Calls Tryz.prog f args W fun e w'=>e = .returned r∧gQ w0 sg rg F' C (n+1) (P+2) M E w':=by
 obtain⟨p,m,Q,g,h1,h2,h3⟩:=h
 exact (g.calls (GS.frame (c p Q h1) kX)).mono fun e w' ⟨a,b,mm⟩=>⟨a,_,_,_,b,by omega,h2,kE.keep h3 mm⟩
theorem vz (kE:iC E) (h:gQ w0 sg rg F C n P M E W) (c:∀ m Q,m≤M→GS Tryz.prog f args W (iR rg C m) Q r (iR rg C' (m+1))):Calls Tryz.prog f args W fun e w'=>e = .returned r∧gQ w0 sg rg F C' n P (M+1) E w':=by
 obtain⟨p,m,Q,g,h1,h2,h3⟩:=h
 exact (g.calls (GS.right (c m Q h2) nV)).mono fun e w' ⟨a,b,mm⟩=>⟨a,_,_,_,b,h1,by omega,kE.keep h3 mm⟩
theorem Dq {V:List Nat} (kE:iC E) (h:gQ w0 sg rg F C n P M E W) (c:∀ p Q,p≤P→GC Tryz.prog f args W (l7 sg F [] n p) Q (yY sg F n p V)):Calls Tryz.prog f args W fun e w'=>∃ v n',e = .returned v∧n≤n'∧n'≤n+1+V.length∧gQ w0 sg rg F C n' P M (nO E (rP v V)) w':=by
 obtain⟨p,m,Q,g,h1,h2,h3⟩:=h
 refine (g.call (GC.frame (c p Q h1) kX)).mono ?_
 rintro e w' ⟨v,P',N,rfl,⟨P1,rfl,o,⟨n',n1,n2,rfl⟩,rfl⟩,g',_,mm⟩
 exact⟨v,n',rfl,n1,n2,_,_,_,g',h1,h2,kE.more (kE.keep h3 mm) (fun k hk => .inl hk),o,fun k hk => .inr hk⟩
theorem AX {V:List Nat} (kE:iC E) (h:gQ w0 sg rg F C n P M E W) (c:∀ m Q,m≤M→GC Tryz.prog f args W (iR rg C m) Q (fun w' v P' N=>ON 22 w' v V∧P'=iR rg C (m+1+C.length)∧N=dC v)):Calls Tryz.prog f args W fun e w'=>∃ v,e = .returned v∧gQ w0 sg rg F C n P (M+1+C.length) (nO E (rP v V)) w':=by
 obtain⟨p,m,Q,g,h1,h2,h3⟩:=h
 refine (g.call (GC.right (c m Q h2) nV)).mono ?_
 rintro e w' ⟨v,P',N,rfl,⟨P1,rfl,o,rfl,rfl⟩,g',_,mm⟩
 exact⟨v,rfl,_,_,_,g',h1,by omega,kE.more (kE.keep h3 mm) (fun k hk => .inl hk),o,fun k hk => .inr hk⟩
theorem EG (h:gQ w0 sg rg F C n P M E W) (hn:n≤1000000000000):Calls Tryz.prog 67 #[.pointer (some ⟨sg,0,none⟩)] W fun e w'=>e = .returned (.int .i64 ((n:Nat):Int))∧gQ w0 sg rg F C n P M E w':=by
 have h':=h
 obtain⟨p,m,Q,⟨S,D,⟨S1,D1,S2,D2,kv,_⟩,_⟩,_⟩:=h
 exact (hOps kv hn).mono fun e w' ⟨a,b⟩=>⟨a,by rw [b];exact h'⟩
theorem DV {V:List Nat}{u:Value} (kE:iC E) (h:gQ w0 sg rg F C n P M (nO (nO E (rP v V)) (rP u V)) W):Calls Tryz.prog 68 #[v,u] W fun e w'=>e = .returned (.bool true)∧gQ w0 sg rg F C n P M E w':=by
 obtain⟨Q,hE⟩:=Hy h
 exact (wW hE.1.2.1.rd hE.2.1.rd).mono fun e w' ⟨a,m⟩=>⟨a,zJ kE (Ef (Ef h)) m⟩
def Aj (w0:World) (sg rg:Nat) (F:List aN) (n P M:Nat) (E:World→(Nat→Prop)→Prop) (lv:Value) (W:World):Prop:=gQ w0 sg rg F F n P M E W∧W.cell? ⟨rg,0,none⟩=some lv∧rg<W.heap.size∧∃ L,iU W lv L∧L.map EV.ent=F
theorem I5 (h:gQ w0 sg rg F F n P M E W):∃ lv,Aj w0 sg rg F n P M E lv W:=by
 have h':=h
 obtain⟨p,m,Q,⟨S,D,⟨S1,D1,S2,D2,kv,⟨c,_,rf⟩,_⟩,_⟩,_⟩:=h
 obtain⟨lv,L,a,c',c0,pr,em,_⟩:=rf.look
 exact⟨lv,h',c0,rf.lt.1 rg rf.lt.2.2.1,L,pr,em⟩
theorem IQ {lv:Value} (kE:iC E) (h:Aj w0 sg rg F n P M E lv W) (hP:P≤100000):Calls Tryz.prog 20 #[.pointer (some ⟨sg,0,none⟩)] W fun e w'=>∃ v,e = .returned v∧(Aj w0 sg rg F n P M E lv w'∧∃ L,iU w' v L∧L.map EV.ent=F):=by
 obtain⟨h0,c0,hr,L,pr,em⟩:=h
 have h':=h0
 obtain⟨p,m,Q,⟨S,D,⟨S1,D1,S2,D2,kv,_⟩,_⟩,hp,_⟩:=h0
 refine (hDump kv (by omega)).mono ?_
 rintro e w' ⟨v,L2,rfl,g,mm,em2⟩
 exact⟨v,rfl,⟨zJ kE h' mm,(mm.cellAt hr (fun x=>x) 0).trans c0,mm.size_of hr,L,pr.keep0 mm,em⟩,L2,g.prow,em2⟩
theorem GX {lv:Value} (kE:iC E) (h:Aj w0 sg rg F n P M E lv W∧∃ L,iU W v L∧L.map EV.ent=F) (hP:P≤100000):Calls Tryz.prog 19 #[v,lv] W fun e w'=>e = .returned (.bool true)∧gQ w0 sg rg F F n P M E w':=by
 obtain⟨⟨h0,c0,hr,L,pr,em⟩,L2,pr2,em2⟩:=h
 have hl:=yL h0
 exact (Bv pr2 pr (em2.trans em.symm) (by have:=congrArg List.length em2;rw [List.length_map] at this;omega)).mono fun e w' ⟨a,m⟩=>⟨a,zJ kE h0 m⟩
end
end Go.Proofs.YtglkmaalpammcaaGreat

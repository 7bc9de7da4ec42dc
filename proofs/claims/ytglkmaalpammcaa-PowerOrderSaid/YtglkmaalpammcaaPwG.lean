/- power: a store beside things of one's own; a row of numbers beside a new one. -/
import Derived.Test.YtglkmaalpammcaaPwC
import Derived.Test.YtglkmaalpammcaaPwN
namespace Go.Proofs.Ytglkmaalpammcaa
open Go.Gl Go.RowKit
set_option linter.unusedVariables false
set_option maxRecDepth 100000
structure jX (E:World→(Nat→Prop)→Prop):Prop where
 keep:∀ {W W':World}{Q:Nat→Prop},E W Q→ae (fun k=>¬ Q k) W W'→E W' Q
 more:∀ {W:World}{Q Q':Nat→Prop},E W Q→(∀ k,Q k→Q' k)→E W Q'
def vz (W:World) (Q:Nat→Prop):Prop:=True
theorem fF:jX vz:=⟨fun _ _=>trivial,fun _ _=>trivial⟩
def yc (v:Value) (l:List Nat) (W:World) (Q:Nat→Prop):Prop:=ON 22 W v l∧∀ k,v.ownBlock=some k→Q k
theorem dM (v:Value) (l:List Nat):jX (yc v l):=⟨fun⟨a,b⟩ m=>⟨dR.keep a m (fun k hk x=>x (b k hk)),b⟩,fun⟨a,b⟩ h=>⟨a,fun k hk=>h k (b k hk)⟩⟩
def sJ (E E':World→(Nat→Prop)→Prop) (W:World) (Q:Nat→Prop):Prop:=E W Q∧E' W Q
theorem dm {E E':World→(Nat→Prop)→Prop} (h:jX E) (h':jX E'):jX (sJ E E'):=⟨fun⟨a,b⟩ m=>⟨h.keep a m,h'.keep b m⟩,fun⟨a,b⟩ x=>⟨h.more a x,h'.more b x⟩⟩
def jH (w0:World) (sg:Nat) (F:List aN) (K P:Nat) (E:World→(Nat→Prop)→Prop) (W:World):Prop:=∃ kn kp Q,G1 w0 W (lT sg F [] kn kp) Q∧kn≤K∧kp≤P∧E W Q
theorem xW {W W':World} (m:ae aj W W') (Q:Nat→Prop):ae (fun k=>¬ Q k) W W':=m.mono (fun _ _ x=>x.elim)
section
variable {w0 W W':World}{sg K P:Nat}{F F':List aN}{E:World→(Nat→Prop)→Prop}{v:Value}
theorem zN (w:World):Calls Try.prog 8 #[] w fun e w'=>∃ sg,e = .returned (.pointer (some ⟨sg,0,none⟩))∧jH w sg [] 0 0 vz w':=by
 refine (hNew w).mono ?_
 rintro e w' ⟨sg,S,D,rfl,kv,m,hs,hd⟩
 exact⟨sg,rfl,0,0,fun k=>k<w.heap.size,⟨S,D,kv,fun k hk=>⟨fun x=>by have:=hs k x;omega,hd k,Nat.lt_of_lt_of_le hk m.size⟩,fun _ h=>h,m⟩,Nat.le_refl _,Nat.le_refl _,trivial⟩
theorem wS (kE:jX E) (h:jH w0 sg F K P E W) (m:ae aj W W'):jH w0 sg F K P E W':=by
 obtain⟨a,b,c,g,h1,h2,h3⟩:=h
 exact⟨a,b,c,g.keep0 qi m,h1,h2,kE.keep h3 (xW m _)⟩
theorem xJ {K2 P2:Nat} (h:jH w0 sg F K P E W) (h1:K≤K2) (h2:P≤P2):jH w0 sg F K2 P2 E W:=by
 obtain⟨a,b,c,g,x,y,z⟩:=h
 exact⟨a,b,c,g,by omega,by omega,z⟩
theorem qw (h:jH w0 sg F K P E W):ae aj w0 W:=by
 obtain⟨a,b,c,g,x,y,z⟩:=h
 exact g.mods
theorem wu (h:jH w0 sg F K P E W):∃ Q,E W Q:=by
 obtain⟨a,b,c,g,x,y,z⟩:=h
 exact⟨c,z⟩
theorem ru (v t:Nat) (kE:jX E) (h:jH w0 sg F K P E W) (hv:v≤18446744073709551615) (ht:t≤18446744073709551615) (hF:ji F (fA 10 t v) []=F') (hK:K≤1000000000) (hP:P≤50000):Calls Try.prog 26 #[.pointer (some ⟨sg,0,none⟩),.int .u64 ((v:Nat):Int),.int .u64 ((t:Nat):Int)] W fun e w'=>e = .returned (.tuple #[])∧jH w0 sg F' (K+1) (P+2) E w':=by
 subst hF
 obtain⟨kn,kp,Q,g,h1,h2,h3⟩:=h
 exact (g.calls (pPut hv ht (by omega) (by omega))).mono fun r w' ⟨a,b,m⟩=>⟨a,_,_,_,b,by omega,by omega,kE.keep h3 m⟩
theorem DY (v t:Nat) (kE:jX E) (h:jH w0 sg F K P E W) (hv:v≤18446744073709551615) (ht:t≤18446744073709551615) (hF:iG F (fA 10 t v)=F') (hK:K≤1000000000) (hP:P≤50000):Calls Try.prog 49 #[.pointer (some ⟨sg,0,none⟩),.int .u64 ((v:Nat):Int),.int .u64 ((t:Nat):Int)] W fun e w'=>e = .returned (.tuple #[])∧jH w0 sg F' (K+1) (P+2) E w':=by
 subst hF
 obtain⟨kn,kp,Q,g,h1,h2,h3⟩:=h
 exact (g.calls (pDrop hv ht (by omega) (by omega))).mono fun r w' ⟨a,b,m⟩=>⟨a,_,_,_,b,by omega,by omega,kE.keep h3 m⟩
theorem sK (v:Nat) (on:Bool) (kE:jX E) (h:jH w0 sg F K P E W) (hv:v≤18446744073709551615) (hF:qY F v on=F') (hK:K≤1000000000) (hP:P≤50000):Calls Try.prog 50 #[.pointer (some ⟨sg,0,none⟩),.int .u64 ((v:Nat):Int),.bool on] W fun e w'=>e = .returned (.tuple #[])∧jH w0 sg F' (K+1) (P+2) E w':=by
 subst hF
 obtain⟨kn,kp,Q,g,h1,h2,h3⟩:=h
 exact (g.calls (pBond hv (by omega) (by omega))).mono fun r w' ⟨a,b,m⟩=>⟨a,_,_,_,b,by omega,by omega,kE.keep h3 m⟩
theorem pV (k:Int) {T:List (Nat × Nat)}{V:List Nat} (kE:jX E) (h:jH w0 sg F K P E W) (ht:F.filter (fun e=>bQ [105] e.1)=mW T) (hT:∀ t∈T,mQ t) (hV:(T.map (·.2)).take k.toNat=V) (hK:K≤1000000000) (hP:P≤50000):Calls Try.prog 27 #[.pointer (some ⟨sg,0,none⟩),.int .i64 k] W fun e w'=>∃ v,e = .returned v∧jH w0 sg F (K+1+V.length) P (sJ E (yc v V)) w':=by
 subst hV
 obtain⟨kn,kp,Q,g,h1,h2,h3⟩:=h
 refine (g.call (pTop ht hT (by omega) (by omega))).mono ?_
 rintro e w' ⟨v,P',N,rfl,⟨o,⟨n',n1,n2,rfl⟩,rfl⟩,g',_,m⟩
 exact⟨v,rfl,_,_,_,g',by omega,h2,kE.more (kE.keep h3 m) (fun k hk => .inl hk),o,fun k hk => .inr hk⟩
theorem zg {V:List Nat} (kE:jX E) (h:jH w0 sg F K P E W) (ht:F.filter (fun e=>bQ [98] e.1)=oz V) (hV:∀ v∈V,v≤18446744073709551615) (hK:K≤1000000000) (hP:P≤50000):Calls Try.prog 51 #[.pointer (some ⟨sg,0,none⟩)] W fun e w'=>∃ v,e = .returned v∧jH w0 sg F (K+1+V.length) P (sJ E (yc v V)) w':=by
 obtain⟨kn,kp,Q,g,h1,h2,h3⟩:=h
 refine (g.call (DW ht hV (by omega) (by omega))).mono ?_
 rintro e w' ⟨v,P',N,rfl,⟨o,⟨n',n1,n2,rfl⟩,rfl⟩,g',_,m⟩
 exact⟨v,rfl,_,_,_,g',by omega,h2,kE.more (kE.keep h3 m) (fun k hk => .inl hk),o,fun k hk => .inr hk⟩
end
theorem qP {w:World}{g:Nat}{l:List Nat} (h:w.heap[g]?=some (.cells (l.map u64).toArray 22 (0,0))) (hl:l.length≤1000):ON 22 w (.slice (some ⟨g,0,none⟩) l.length l.length) l:=⟨by rw [List.length_map];omega,.inr ⟨g,0,l.length,_,rfl,h,Nat.le_refl _,by unfold maxLen;omega,by simp,fun j u hj=>by rw [Nat.zero_add,← hj];exact List.getElem?_toArray⟩⟩
theorem Df {W:World}{v:Value} (l:List Nat) (o:ON 22 W v l) (hl:l.length≤1000):Calls Try.prog 25 #[v,.slice (some ⟨W.heap.size,0,none⟩) l.length l.length] (W.alloc (.cells (l.map u64).toArray 22)) fun e w'=>e = .returned (.bool true)∧ae aj W w' :=
 (uu (dR.keep o ((ae.refl aj W).alloc _) (fun _ _ x=>x)).rd (qP (bC W _) hl).rd).mono fun e w' ⟨a,m⟩=>⟨a,((ae.refl aj W).alloc _).then0 m⟩
end Go.Proofs.Ytglkmaalpammcaa

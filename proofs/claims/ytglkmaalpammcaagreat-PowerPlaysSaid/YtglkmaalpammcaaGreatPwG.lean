/- power: a store beside things of one's own; a row of numbers beside a new one. -/
import Derived.Test.YtglkmaalpammcaaGreatZE
import Derived.Test.YtglkmaalpammcaaGreatPwN
namespace Go.Proofs.YtglkmaalpammcaaGreat
open Go.Gl Go.RowKit
set_option linter.unusedVariables false
set_option maxRecDepth 100000
structure iC (E:World→(Nat→Prop)→Prop):Prop where
 keep:∀ {W W':World}{Q:Nat→Prop},E W Q→ae (fun k=>¬ Q k) W W'→E W' Q
 more:∀ {W:World}{Q Q':Nat→Prop},E W Q→(∀ k,Q k→Q' k)→E W Q'
def wH (W:World) (Q:Nat→Prop):Prop:=True
theorem iW:iC wH:=⟨fun _ _=>trivial,fun _ _=>trivial⟩
def rP (v:Value) (l:List Nat) (W:World) (Q:Nat→Prop):Prop:=ON 22 W v l∧∀ k,v.ownBlock=some k→Q k
theorem fK (v:Value) (l:List Nat):iC (rP v l):=⟨fun⟨a,b⟩ m=>⟨fF.keep a m (fun k hk x=>x (b k hk)),b⟩,fun⟨a,b⟩ h=>⟨a,fun k hk=>h k (b k hk)⟩⟩
def nO (E E':World→(Nat→Prop)→Prop) (W:World) (Q:Nat→Prop):Prop:=E W Q∧E' W Q
theorem dU {E E':World→(Nat→Prop)→Prop} (h:iC E) (h':iC E'):iC (nO E E'):=⟨fun⟨a,b⟩ m=>⟨h.keep a m,h'.keep b m⟩,fun⟨a,b⟩ x=>⟨h.more a x,h'.more b x⟩⟩
def mV (w0:World) (sg:Nat) (F:List aN) (K P:Nat) (E:World→(Nat→Prop)→Prop) (W:World):Prop:=∃ kn kp Q,G1 w0 W (l7 sg F [] kn kp) Q∧kn≤K∧kp≤P∧E W Q
theorem vX {W W':World} (m:ae ai W W') (Q:Nat→Prop):ae (fun k=>¬ Q k) W W':=m.mono (fun _ _ x=>x.elim)
section
variable {w0 W W':World}{sg K P:Nat}{F F':List aN}{E:World→(Nat→Prop)→Prop}{v:Value}
theorem Jn (w:World):Calls Tryz.prog 12 #[] w fun e w'=>∃ sg,e = .returned (.pointer (some ⟨sg,0,none⟩))∧mV w sg [] 0 0 wH w':=by
 refine (hNew w).mono ?_
 rintro e w' ⟨sg,S,D,rfl,kv,m,hs,hd⟩
 exact⟨sg,rfl,0,0,fun k=>k<w.heap.size,⟨S,D,kv,fun k hk=>⟨fun x=>by have:=hs k x;omega,hd k,Nat.lt_of_lt_of_le hk m.size⟩,fun _ h=>h,m⟩,Nat.le_refl _,Nat.le_refl _,trivial⟩
theorem pg_0 (kE:iC E) (h:mV w0 sg F K P E W) (m:ae ai W W'):mV w0 sg F K P E W':=by
 obtain⟨a,b,c,g,h1,h2,h3⟩:=h
 exact⟨a,b,c,g.keep0 nV m,h1,h2,kE.keep h3 (vX m _)⟩
theorem Ia (h:mV w0 sg F K P E W):ae ai w0 W:=by
 obtain⟨a,b,c,g,x,y,z⟩:=h
 exact g.mods
theorem pg_e (h:mV w0 sg F K P E W):∃ Q,E W Q:=by
 obtain⟨a,b,c,g,x,y,z⟩:=h
 exact⟨c,z⟩
theorem zl (v t:Nat) (kE:iC E) (h:mV w0 sg F K P E W) (hv:v≤18446744073709551615) (ht:t≤18446744073709551615) (hF:jJ F (gp 10 t v) []=F') (hK:K≤1000000000) (hP:P≤50000):Calls Tryz.prog 61 #[.pointer (some ⟨sg,0,none⟩),.int .u64 ((v:Nat):Int),.int .u64 ((t:Nat):Int)] W fun e w'=>e = .returned (.tuple #[])∧mV w0 sg F' (K+1) (P+2) E w':=by
 subst hF
 obtain⟨kn,kp,Q,g,h1,h2,h3⟩:=h
 exact (g.calls (pPut hv ht (by omega) (by omega))).mono fun r w' ⟨a,b,m⟩=>⟨a,_,_,_,b,by omega,by omega,kE.keep h3 m⟩
theorem II (v t:Nat) (kE:iC E) (h:mV w0 sg F K P E W) (hv:v≤18446744073709551615) (ht:t≤18446744073709551615) (hF:gJ F (gp 10 t v)=F') (hK:K≤1000000000) (hP:P≤50000):Calls Tryz.prog 63 #[.pointer (some ⟨sg,0,none⟩),.int .u64 ((v:Nat):Int),.int .u64 ((t:Nat):Int)] W fun e w'=>e = .returned (.tuple #[])∧mV w0 sg F' (K+1) (P+2) E w':=by
 subst hF
 obtain⟨kn,kp,Q,g,h1,h2,h3⟩:=h
 exact (g.calls (Ht hv ht (by omega) (by omega))).mono fun r w' ⟨a,b,m⟩=>⟨a,_,_,_,b,by omega,by omega,kE.keep h3 m⟩
theorem vW (v:Nat) (on:Bool) (kE:iC E) (h:mV w0 sg F K P E W) (hv:v≤18446744073709551615) (hF:nT F v on=F') (hK:K≤1000000000) (hP:P≤50000):Calls Tryz.prog 65 #[.pointer (some ⟨sg,0,none⟩),.int .u64 ((v:Nat):Int),.bool on] W fun e w'=>e = .returned (.tuple #[])∧mV w0 sg F' (K+1) (P+2) E w':=by
 subst hF
 obtain⟨kn,kp,Q,g,h1,h2,h3⟩:=h
 exact (g.calls (Cj hv (by omega) (by omega))).mono fun r w' ⟨a,b,m⟩=>⟨a,_,_,_,b,by omega,by omega,kE.keep h3 m⟩
theorem Ey (k:Int) {T:List (Nat × Nat)}{V:List Nat} (kE:iC E) (h:mV w0 sg F K P E W) (ht:F.filter (fun e=>bF [105] e.1)=qf T) (hT:∀ t∈T,sS t) (hV:(T.map (·.2)).take k.toNat=V) (hK:K≤1000000000) (hP:P≤50000):Calls Tryz.prog 69 #[.pointer (some ⟨sg,0,none⟩),.int .i64 k] W fun e w'=>∃ v,e = .returned v∧mV w0 sg F (K+1+V.length) P (nO E (rP v V)) w':=by
 subst hV
 obtain⟨kn,kp,Q,g,h1,h2,h3⟩:=h
 refine (g.call (pTop ht hT (by omega) (by omega))).mono ?_
 rintro e w' ⟨v,P',N,rfl,⟨o,⟨n',n1,n2,rfl⟩,rfl⟩,g',_,m⟩
 exact⟨v,rfl,_,_,_,g',by omega,h2,kE.more (kE.keep h3 m) (fun k hk => .inl hk),o,fun k hk => .inr hk⟩
theorem Et {V:List Nat} (kE:iC E) (h:mV w0 sg F K P E W) (ht:F.filter (fun e=>bF [98] e.1)=oC V) (hV:∀ v∈V,v≤18446744073709551615) (hK:K≤1000000000) (hP:P≤50000):Calls Tryz.prog 71 #[.pointer (some ⟨sg,0,none⟩)] W fun e w'=>∃ v,e = .returned v∧mV w0 sg F (K+1+V.length) P (nO E (rP v V)) w':=by
 obtain⟨kn,kp,Q,g,h1,h2,h3⟩:=h
 refine (g.call (Az ht hV (by omega) (by omega))).mono ?_
 rintro e w' ⟨v,P',N,rfl,⟨o,⟨n',n1,n2,rfl⟩,rfl⟩,g',_,m⟩
 exact⟨v,rfl,_,_,_,g',by omega,h2,kE.more (kE.keep h3 m) (fun k hk => .inl hk),o,fun k hk => .inr hk⟩
end
theorem uG {w:World}{g:Nat}{l:List Nat} (h:w.heap[g]?=some (.cells (l.map u64).toArray 22 (0,0))) (hl:l.length≤1000):ON 22 w (.slice (some ⟨g,0,none⟩) l.length l.length) l:=⟨by rw [List.length_map];omega,.inr ⟨g,0,l.length,_,rfl,h,Nat.le_refl _,by unfold maxLen;omega,by simp,fun j u hj=>by rw [Nat.zero_add,← hj];exact List.getElem?_toArray⟩⟩
theorem IR {W:World}{v:Value} (l:List Nat) (o:ON 22 W v l) (hl:l.length≤1000):Calls Tryz.prog 68 #[v,.slice (some ⟨W.heap.size,0,none⟩) l.length l.length] (W.alloc (.cells (l.map u64).toArray 22)) fun e w'=>e = .returned (.bool true)∧ae ai W w' :=
 (wW (fF.keep o ((ae.refl ai W).alloc _) (fun _ _ x=>x)).rd (uG (aU W _) hl).rd).mono fun e w' ⟨a,m⟩=>⟨a,((ae.refl ai W).alloc _).then0 m⟩
end Go.Proofs.YtglkmaalpammcaaGreat

/- gleanlaw11.known: the chapter's examples hold. -/
import Derived.Test.YtglkmaalpammcaaGreatPwG
import Derived.Test.YtglkmaalpammcaaGreatPwS1
namespace Go.Proofs.YtglkmaalpammcaaGreat
open Go.Gl Go.RowKit
set_option linter.unusedVariables false
set_option maxRecDepth 100000
def pf1:List aN:=[(gp 10 5 16,[])]
def pf2:List aN:=[(gp 10 9 17,[]),(gp 10 5 16,[])]
def pf3:List aN:=[(gp 10 9 17,[]),(gp 10 5 16,[]),(gp 10 5 18,[])]
def pf4:List aN:=[(gp 10 5 16,[]),(gp 10 5 18,[])]
def pf5:List aN:=[(gp 11 18 0,[]),(gp 10 5 16,[]),(gp 10 5 18,[])]
def pf6:List aN:=[(gp 11 16 0,[]),(gp 11 18 0,[]),(gp 10 5 16,[]),(gp 10 5 18,[])]
theorem pq1:jJ [] (gp 10 5 16) []=pf1:=by decide
theorem pq2:jJ pf1 (gp 10 9 17) []=pf2:=by decide
theorem pq3:jJ pf2 (gp 10 5 18) []=pf3:=by decide
theorem pq4:gJ pf3 (gp 10 9 17)=pf4:=by decide
theorem pq5:nT pf4 18 true=pf5:=by decide
theorem pq6:nT pf5 16 true=pf6:=by decide
theorem pq7:nT pf6 17 false=pf6:=by decide
theorem pt1k:pf3.filter (fun e=>bF [105] e.1)=qf [(9,17),(5,16),(5,18)]:=by decide
theorem pt2k:pf6.filter (fun e=>bF [105] e.1)=qf [(5,16),(5,18)]:=by decide
theorem pb1k:pf6.filter (fun e=>bF [98] e.1)=oC [16,18]:=by decide
theorem tokk {l:List (Nat × Nat)} (h:l.all (fun t=>decide (t.1≤100) && decide (t.2≤100))=true):∀ t∈l,sS t:=fun t ht=>by
 have:=List.all_eq_true.1 h t ht
 simp at this
 exact⟨by omega,by omega⟩
theorem xe {l:List Nat}{a:Nat} (hs:l.Pairwise (·<·)) (hm:∀ x,x∈l↔x=a):l=[a]:=by
  match l,hs,hm with
  | [],_,hm=>exact absurd ((hm a).2 rfl) (by simp)
  | [x],_,hm=>rw [(hm x).1 (by simp)]
  | x :: y :: l, hs, hm =>
    have h1:=(hm x).1 (by simp)
    have h2:=(hm y).1 (by simp)
    have:=(List.pairwise_cons.1 hs).1 y (by simp)
    omega
theorem GR {w0 W:World}{sg K P:Nat}{F:List aN}{E:World→(Nat→Prop)→Prop} (kE:iC E) (h:mV w0 sg F K P E W):Calls Tryz.prog 143 #[.slice (some ⟨W.heap.size,0,none⟩) 2 2,.slice (some ⟨W.heap.size+1,0,none⟩) 2 2] ((W.alloc (.cells #[.int .u64 1,.int .u64 2] 22)).alloc (.cells #[.int .u64 2,.int .u64 3] 22)) fun e w'=>∃ a b,e = .returned (.tuple #[a,b])∧mV w0 sg F K P (nO (nO E (rP a [1])) (rP b [3])) w':=by
 have e1:(W.alloc (.cells #[.int .u64 1,.int .u64 2] 22)).heap.size=W.heap.size+1:=by simp
 have o1:=uG (l:=[1,2]) (aU W (.cells #[.int .u64 1,.int .u64 2] 22)) (by simp)
 have o2:=uG (l:=[2,3]) (aU (W.alloc (.cells #[.int .u64 1,.int .u64 2] 22)) (.cells #[.int .u64 2,.int .u64 3] 22)) (by simp)
 rw [e1] at o2
 have m1:=(ae.refl ai (W.alloc (.cells #[.int .u64 1,.int .u64 2] 22))).alloc (.cells #[.int .u64 2,.int .u64 3] 22)
 have m0:=((ae.refl ai W).alloc (.cells #[.int .u64 1,.int .u64 2] 22)).then0 m1
 refine (Ee (A:=[1,2]) (B:=[2,3]) (fF.keep o1 m1 (fun _ _ x=>x)).rd o2.rd (by simp) (by simp) (by simp) (by simp) FO (fun l hn hl=>?_) (fun l hn hl=>?_)).mono ?_
 ·refine qE (b:=[1]) hn (fun x hx=>?_)
  have:=hl x hx
  simp at this ⊢
  omega
 ·refine qE (b:=[3]) hn (fun x hx=>?_)
  have:=hl x hx
  simp at this ⊢
  omega
 ·rintro e w' ⟨a,b,l1,l2,rfl,p1,p2,s1,q1,s2,q2,m,f1,f2,fd⟩
  obtain rfl:l1=[1]:=xe s1 (fun x=>by rw [q1];simp;omega)
  obtain rfl:l2=[3]:=xe s2 (fun x=>by rw [q2];simp;omega)
  have mm:=m0.then0 m
  refine⟨a,b,rfl,?_⟩
  obtain⟨n,p,Q,g,x,y,z⟩:=h
  have s0:=m0.size
  refine⟨n,p,fun k=>(Q k∨a.ownBlock=some k)∨b.ownBlock=some k,g.grow nV mm (fun k hk=>?_) (fun k hk => .inl (.inl (g.q0 k hk))),x,y,⟨kE.more (kE.keep z (vX mm _)) (fun k hk => .inl (.inl hk)),p1,fun k hk => .inl (.inr hk)⟩,p2,fun k hk => .inr hk⟩
  rcases hk with (hk | hk) | hk
  ·exact .inl hk
  ·exact .inr ⟨by have:=f1 k hk;omega,fF.lt p1 k hk⟩
  ·exact .inr ⟨by have:=f2 k hk;omega,fF.lt p2 k hk⟩
theorem sQ {w0 W:World}{sg K P:Nat}{F:List aN}{E:World→(Nat→Prop)→Prop}{v:Value} (l:List Nat) (kE:iC E) (h:mV w0 sg F K P E W) (hv:∀ Q,E W Q→ON 22 W v l) (hl:l.length≤1000):Calls Tryz.prog 68 #[v,.slice (some ⟨W.heap.size,0,none⟩) l.length l.length] (W.alloc (.cells (l.map u64).toArray 22)) fun e w'=>e = .returned (.bool true)∧mV w0 sg F K P E w':=by
 obtain⟨Q,hE⟩:=pg_e h
 exact (IR l (hv Q hE) hl).mono fun e w' ⟨a,m⟩=>⟨a,pg_0 kE h m⟩
set_option maxHeartbeats 16000000 in
theorem Ah (w:World):Calls Tryz.prog 60 #[] w fun e w'=>e = .returned (.bool true)∧ae ai w w':=by
 go_enter Tryz.func60,Tryz.ntmps60
 go_wp2_with fail
 refine (Jn w).mono ?_
 rintro e w1 ⟨sg,rfl,g1⟩
 have G1:=lh g1
 clear g1
 have C:=lh (zl 16 5 iW G1.out (by omega) (by omega) pq1 (by omega) (by omega))
 clear G1
 go_wp2_with fail
 refine C.out.mono ?_
 rintro e w2 ⟨rfl,g2⟩
 have G2:=lh g2
 clear C g2
 have C:=lh (zl 17 9 iW G2.out (by omega) (by omega) pq2 (by omega) (by omega))
 clear G2
 go_wp2_with fail
 refine C.out.mono ?_
 rintro e w3 ⟨rfl,g3⟩
 have G3:=lh g3
 clear C g3
 have C:=lh (zl 18 5 iW G3.out (by omega) (by omega) pq3 (by omega) (by omega))
 clear G3
 go_wp2_with fail
 refine C.out.mono ?_
 rintro e w4 ⟨rfl,g4⟩
 have G4:=lh g4
 clear C g4
 have C:=lh (Ey 2 (V:=[17,16]) iW G4.out pt1k (tokk rfl) rfl (by omega) (by omega))
 clear G4
 go_wp2_with fail
 refine C.out.mono ?_
 rintro e w5 ⟨tv,rfl,g5⟩
 have G5:=lh g5
 clear C g5
 have C:=lh (II 17 9 (dU iW (fK tv [17,16])) G5.out (by omega) (by omega) pq4 (by simp) (by omega))
 clear G5
 go_wp2_with fail
 refine C.out.mono ?_
 rintro e w6 ⟨rfl,g6⟩
 have G6:=lh g6
 clear C g6
 have C:=lh (vW 18 true (dU iW (fK tv [17,16])) G6.out (by omega) pq5 (by simp) (by omega))
 clear G6
 go_wp2_with fail
 refine C.out.mono ?_
 rintro e w7 ⟨rfl,g7⟩
 have G7:=lh g7
 clear C g7
 have C:=lh (vW 16 true (dU iW (fK tv [17,16])) G7.out (by omega) pq6 (by simp) (by omega))
 clear G7
 go_wp2_with fail
 refine C.out.mono ?_
 rintro e w8 ⟨rfl,g8⟩
 have G8:=lh g8
 clear C g8
 have C:=lh (vW 17 false (dU iW (fK tv [17,16])) G8.out (by omega) pq7 (by simp) (by omega))
 clear G8
 go_wp2_with fail
 refine C.out.mono ?_
 rintro e w9 ⟨rfl,g9⟩
 have G9:=lh g9
 clear C g9
 have C:=lh (GR (dU iW (fK tv [17,16])) G9.out)
 clear G9
 go_wp2_with fail
 refine C.out.mono ?_
 rintro e w10 ⟨av,bv,rfl,g10⟩
 have G10:=lh g10
 clear C g10
 have C:=lh (sQ [17,16] (dU (dU (dU iW (fK tv [17,16])) (fK av [1])) (fK bv [3])) G10.out (fun _ h=>h.1.1.2.1) (by simp))
 clear G10
 go_wp2_with fail
 refine C.out.mono ?_
 rintro e w11 ⟨rfl,g11⟩
 have G11:=lh g11
 clear C g11
 have C:=lh (Ey 9 (V:=[16,18]) (dU (dU (dU iW (fK tv [17,16])) (fK av [1])) (fK bv [3])) G11.out pt2k (tokk rfl) rfl (by simp) (by omega))
 clear G11
 go_wp2_with fail
 refine C.out.mono ?_
 rintro e w12 ⟨t2,rfl,g12⟩
 have G12:=lh g12
 clear C g12
 have C:=lh (sQ [16,18] (dU (dU (dU (dU iW (fK tv [17,16])) (fK av [1])) (fK bv [3])) (fK t2 [16,18])) G12.out (fun _ h=>h.2.1) (by simp))
 clear G12
 go_wp2_with fail
 refine C.out.mono ?_
 rintro e w13 ⟨rfl,g13⟩
 have G13:=lh g13
 clear C g13
 have C:=lh (Et (V:=[16,18]) (dU (dU (dU (dU iW (fK tv [17,16])) (fK av [1])) (fK bv [3])) (fK t2 [16,18])) G13.out pb1k (by simp) (by simp) (by omega))
 clear G13
 go_wp2_with fail
 refine C.out.mono ?_
 rintro e w14 ⟨b2,rfl,g14⟩
 have G14:=lh g14
 clear C g14
 have C:=lh (sQ [16,18] (dU (dU (dU (dU (dU iW (fK tv [17,16])) (fK av [1])) (fK bv [3])) (fK t2 [16,18])) (fK b2 [16,18])) G14.out (fun _ h=>h.2.1) (by simp))
 clear G14
 go_wp2_with fail
 refine C.out.mono ?_
 rintro e w15 ⟨rfl,g15⟩
 have G15:=lh g15
 clear C g15
 have C:=lh (sQ [1] (dU (dU (dU (dU (dU iW (fK tv [17,16])) (fK av [1])) (fK bv [3])) (fK t2 [16,18])) (fK b2 [16,18])) G15.out (fun _ h=>h.1.1.1.2.1) (by simp))
 clear G15
 go_wp2_with fail
 refine C.out.mono ?_
 rintro e w16 ⟨rfl,g16⟩
 have G16:=lh g16
 clear C g16
 have C:=lh (sQ [3] (dU (dU (dU (dU (dU iW (fK tv [17,16])) (fK av [1])) (fK bv [3])) (fK t2 [16,18])) (fK b2 [16,18])) G16.out (fun _ h=>h.1.1.2.1) (by simp))
 clear G16
 go_wp2_with fail
 refine C.out.mono ?_
 rintro e w17 ⟨rfl,g17⟩
 have G17:=lh g17
 clear C g17
 have MM:=lh (Ia G17.out)
 clear G17
 go_wp2
 go_ret
 exact⟨rfl,MM.out⟩
end Go.Proofs.YtglkmaalpammcaaGreat

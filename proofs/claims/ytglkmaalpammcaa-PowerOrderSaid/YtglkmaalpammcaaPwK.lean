/- gleanlaw11.known: the chapter's examples hold. -/
import Derived.Test.YtglkmaalpammcaaPwG
import Derived.Test.YtglkmaalpammcaaPwS1
namespace Go.Proofs.Ytglkmaalpammcaa
open Go.Gl Go.RowKit
set_option linter.unusedVariables false
set_option maxRecDepth 100000
def pf1:List aN:=[(fA 10 5 16,[])]
def pf2:List aN:=[(fA 10 9 17,[]),(fA 10 5 16,[])]
def pf3:List aN:=[(fA 10 9 17,[]),(fA 10 5 16,[]),(fA 10 5 18,[])]
def pf4:List aN:=[(fA 10 5 16,[]),(fA 10 5 18,[])]
def pf5:List aN:=[(fA 11 18 0,[]),(fA 10 5 16,[]),(fA 10 5 18,[])]
def pf6:List aN:=[(fA 11 16 0,[]),(fA 11 18 0,[]),(fA 10 5 16,[]),(fA 10 5 18,[])]
theorem pq1:ji [] (fA 10 5 16) []=pf1:=by decide
theorem pq2:ji pf1 (fA 10 9 17) []=pf2:=by decide
theorem pq3:ji pf2 (fA 10 5 18) []=pf3:=by decide
theorem pq4:iG pf3 (fA 10 9 17)=pf4:=by decide
theorem pq5:qY pf4 18 true=pf5:=by decide
theorem pq6:qY pf5 16 true=pf6:=by decide
theorem pq7:qY pf6 17 false=pf6:=by decide
theorem pt1k:pf3.filter (fun e=>bQ [105] e.1)=mW [(9,17),(5,16),(5,18)]:=by decide
theorem pt2k:pf6.filter (fun e=>bQ [105] e.1)=mW [(5,16),(5,18)]:=by decide
theorem pb1k:pf6.filter (fun e=>bQ [98] e.1)=oz [16,18]:=by decide
theorem tokk {l:List (Nat × Nat)} (h:l.all (fun t=>decide (t.1≤100) && decide (t.2≤100))=true):∀ t∈l,mQ t:=fun t ht=>by
 have:=List.all_eq_true.1 h t ht
 simp at this
 exact⟨by omega,by omega⟩
theorem ut {l:List Nat}{a:Nat} (hs:l.Pairwise (·<·)) (hm:∀ x,x∈l↔x=a):l=[a]:=by
  match l,hs,hm with
  | [],_,hm=>exact absurd ((hm a).2 rfl) (by simp)
  | [x],_,hm=>rw [(hm x).1 (by simp)]
  | x :: y :: l, hs, hm =>
    have h1:=(hm x).1 (by simp)
    have h2:=(hm y).1 (by simp)
    have:=(List.pairwise_cons.1 hs).1 y (by simp)
    omega
theorem BF {w0 W:World}{sg K P:Nat}{F:List aN}{E:World→(Nat→Prop)→Prop} (kE:jX E) (h:jH w0 sg F K P E W):Calls Try.prog 23 #[.slice (some ⟨W.heap.size,0,none⟩) 2 2,.slice (some ⟨W.heap.size+1,0,none⟩) 2 2] ((W.alloc (.cells #[.int .u64 1,.int .u64 2] 22)).alloc (.cells #[.int .u64 2,.int .u64 3] 22)) fun e w'=>∃ a b,e = .returned (.tuple #[a,b])∧jH w0 sg F K P (sJ (sJ E (yc a [1])) (yc b [3])) w':=by
 have e1:(W.alloc (.cells #[.int .u64 1,.int .u64 2] 22)).heap.size=W.heap.size+1:=by simp
 have o1:=qP (l:=[1,2]) (bC W (.cells #[.int .u64 1,.int .u64 2] 22)) (by simp)
 have o2:=qP (l:=[2,3]) (bC (W.alloc (.cells #[.int .u64 1,.int .u64 2] 22)) (.cells #[.int .u64 2,.int .u64 3] 22)) (by simp)
 rw [e1] at o2
 have m1:=(ae.refl aj (W.alloc (.cells #[.int .u64 1,.int .u64 2] 22))).alloc (.cells #[.int .u64 2,.int .u64 3] 22)
 have m0:=((ae.refl aj W).alloc (.cells #[.int .u64 1,.int .u64 2] 22)).then0 m1
 refine (zh (A:=[1,2]) (B:=[2,3]) (dR.keep o1 m1 (fun _ _ x=>x)).rd o2.rd (by simp) (by simp) (by simp) (by simp) BH (fun l hn hl=>?_) (fun l hn hl=>?_)).mono ?_
 ·refine kz (b:=[1]) hn (fun x hx=>?_)
  have:=hl x hx
  simp at this ⊢
  omega
 ·refine kz (b:=[3]) hn (fun x hx=>?_)
  have:=hl x hx
  simp at this ⊢
  omega
 ·rintro e w' ⟨a,b,l1,l2,rfl,p1,p2,s1,q1,s2,q2,m,f1,f2,fd⟩
  obtain rfl:l1=[1]:=ut s1 (fun x=>by rw [q1];simp;omega)
  obtain rfl:l2=[3]:=ut s2 (fun x=>by rw [q2];simp;omega)
  have mm:=m0.then0 m
  refine⟨a,b,rfl,?_⟩
  obtain⟨n,p,Q,g,x,y,z⟩:=h
  have s0:=m0.size
  refine⟨n,p,fun k=>(Q k∨a.ownBlock=some k)∨b.ownBlock=some k,g.grow qi mm (fun k hk=>?_) (fun k hk => .inl (.inl (g.q0 k hk))),x,y,⟨kE.more (kE.keep z (xW mm _)) (fun k hk => .inl (.inl hk)),p1,fun k hk => .inl (.inr hk)⟩,p2,fun k hk => .inr hk⟩
  rcases hk with (hk | hk) | hk
  ·exact .inl hk
  ·exact .inr ⟨by have:=f1 k hk;omega,dR.lt p1 k hk⟩
  ·exact .inr ⟨by have:=f2 k hk;omega,dR.lt p2 k hk⟩
theorem o6 {w0 W:World}{sg K P:Nat}{F:List aN}{E:World→(Nat→Prop)→Prop}{v:Value} (l:List Nat) (kE:jX E) (h:jH w0 sg F K P E W) (hv:∀ Q,E W Q→ON 22 W v l) (hl:l.length≤1000):Calls Try.prog 25 #[v,.slice (some ⟨W.heap.size,0,none⟩) l.length l.length] (W.alloc (.cells (l.map u64).toArray 22)) fun e w'=>e = .returned (.bool true)∧jH w0 sg F K P E w':=by
 obtain⟨Q,hE⟩:=wu h
 exact (Df l (hv Q hE) hl).mono fun e w' ⟨a,m⟩=>⟨a,wS kE h m⟩
set_option maxHeartbeats 16000000 in
theorem wZ (w:World):Calls Try.prog 22 #[] w fun e w'=>e = .returned (.bool true)∧ae aj w w':=by
 go_enter Try.func22,Try.ntmps22
 go_wp2_with fail
 refine (zN w).mono ?_
 rintro e w1 ⟨sg,rfl,g1⟩
 have G1:=lh g1
 clear g1
 have C:=lh (ru 16 5 fF G1.out (by omega) (by omega) pq1 (by omega) (by omega))
 clear G1
 go_wp2_with fail
 refine C.out.mono ?_
 rintro e w2 ⟨rfl,g2⟩
 have G2:=lh g2
 clear C g2
 have C:=lh (ru 17 9 fF G2.out (by omega) (by omega) pq2 (by omega) (by omega))
 clear G2
 go_wp2_with fail
 refine C.out.mono ?_
 rintro e w3 ⟨rfl,g3⟩
 have G3:=lh g3
 clear C g3
 have C:=lh (ru 18 5 fF G3.out (by omega) (by omega) pq3 (by omega) (by omega))
 clear G3
 go_wp2_with fail
 refine C.out.mono ?_
 rintro e w4 ⟨rfl,g4⟩
 have G4:=lh g4
 clear C g4
 have C:=lh (pV 2 (V:=[17,16]) fF G4.out pt1k (tokk rfl) rfl (by omega) (by omega))
 clear G4
 go_wp2_with fail
 refine C.out.mono ?_
 rintro e w5 ⟨tv,rfl,g5⟩
 have G5:=lh g5
 clear C g5
 have C:=lh (DY 17 9 (dm fF (dM tv [17,16])) G5.out (by omega) (by omega) pq4 (by simp) (by omega))
 clear G5
 go_wp2_with fail
 refine C.out.mono ?_
 rintro e w6 ⟨rfl,g6⟩
 have G6:=lh g6
 clear C g6
 have C:=lh (sK 18 true (dm fF (dM tv [17,16])) G6.out (by omega) pq5 (by simp) (by omega))
 clear G6
 go_wp2_with fail
 refine C.out.mono ?_
 rintro e w7 ⟨rfl,g7⟩
 have G7:=lh g7
 clear C g7
 have C:=lh (sK 16 true (dm fF (dM tv [17,16])) G7.out (by omega) pq6 (by simp) (by omega))
 clear G7
 go_wp2_with fail
 refine C.out.mono ?_
 rintro e w8 ⟨rfl,g8⟩
 have G8:=lh g8
 clear C g8
 have C:=lh (sK 17 false (dm fF (dM tv [17,16])) G8.out (by omega) pq7 (by simp) (by omega))
 clear G8
 go_wp2_with fail
 refine C.out.mono ?_
 rintro e w9 ⟨rfl,g9⟩
 have G9:=lh g9
 clear C g9
 have C:=lh (BF (dm fF (dM tv [17,16])) G9.out)
 clear G9
 go_wp2_with fail
 refine C.out.mono ?_
 rintro e w10 ⟨av,bv,rfl,g10⟩
 have G10:=lh g10
 clear C g10
 have C:=lh (o6 [17,16] (dm (dm (dm fF (dM tv [17,16])) (dM av [1])) (dM bv [3])) G10.out (fun _ h=>h.1.1.2.1) (by simp))
 clear G10
 go_wp2_with fail
 refine C.out.mono ?_
 rintro e w11 ⟨rfl,g11⟩
 have G11:=lh g11
 clear C g11
 have C:=lh (pV 9 (V:=[16,18]) (dm (dm (dm fF (dM tv [17,16])) (dM av [1])) (dM bv [3])) G11.out pt2k (tokk rfl) rfl (by simp) (by omega))
 clear G11
 go_wp2_with fail
 refine C.out.mono ?_
 rintro e w12 ⟨t2,rfl,g12⟩
 have G12:=lh g12
 clear C g12
 have C:=lh (o6 [16,18] (dm (dm (dm (dm fF (dM tv [17,16])) (dM av [1])) (dM bv [3])) (dM t2 [16,18])) G12.out (fun _ h=>h.2.1) (by simp))
 clear G12
 go_wp2_with fail
 refine C.out.mono ?_
 rintro e w13 ⟨rfl,g13⟩
 have G13:=lh g13
 clear C g13
 have C:=lh (zg (V:=[16,18]) (dm (dm (dm (dm fF (dM tv [17,16])) (dM av [1])) (dM bv [3])) (dM t2 [16,18])) G13.out pb1k (by simp) (by simp) (by omega))
 clear G13
 go_wp2_with fail
 refine C.out.mono ?_
 rintro e w14 ⟨b2,rfl,g14⟩
 have G14:=lh g14
 clear C g14
 have C:=lh (o6 [16,18] (dm (dm (dm (dm (dm fF (dM tv [17,16])) (dM av [1])) (dM bv [3])) (dM t2 [16,18])) (dM b2 [16,18])) G14.out (fun _ h=>h.2.1) (by simp))
 clear G14
 go_wp2_with fail
 refine C.out.mono ?_
 rintro e w15 ⟨rfl,g15⟩
 have G15:=lh g15
 clear C g15
 have C:=lh (o6 [1] (dm (dm (dm (dm (dm fF (dM tv [17,16])) (dM av [1])) (dM bv [3])) (dM t2 [16,18])) (dM b2 [16,18])) G15.out (fun _ h=>h.1.1.1.2.1) (by simp))
 clear G15
 go_wp2_with fail
 refine C.out.mono ?_
 rintro e w16 ⟨rfl,g16⟩
 have G16:=lh g16
 clear C g16
 have C:=lh (o6 [3] (dm (dm (dm (dm (dm fF (dM tv [17,16])) (dM av [1])) (dM bv [3])) (dM t2 [16,18])) (dM b2 [16,18])) G16.out (fun _ h=>h.1.1.2.1) (by simp))
 clear G16
 go_wp2_with fail
 refine C.out.mono ?_
 rintro e w17 ⟨rfl,g17⟩
 have G17:=lh g17
 clear C g17
 have MM:=lh (qw G17.out)
 clear G17
 go_wp2
 go_ret
 exact⟨rfl,MM.out⟩
end Go.Proofs.Ytglkmaalpammcaa

/- gleanref7.Make: the document's bytes of a key: those of keys.Make. (Written by gen_rmake.py.) -/
import Derived.Test.YtglkmaalpammcaaGreatRForm
import Derived.Test.YtglkmaalpammcaaGreatZE
set_option maxHeartbeats 64000000
namespace Go.Proofs.YtglkmaalpammcaaGreat
open Go.Gl Go.RowKit
set_option linter.unusedVariables false
theorem DU (n:Int) (a b:Nat) (w:World) (h:n<1∨17<n) :
  Calls Tryz.prog 120 #[.agg #[.int .i64 n,.int .u64 a,.int .u64 b]] w (iV w [] 70):=by
 have H:=lh h
 clear h
 go_enter Tryz.func120,Tryz.ntmps120
 go_wp2_with (go_at_call 198;refine (Ff _ _ H.out).mono ?_;rintro e w1 ⟨rfl,rfl⟩)
 go_returns
 exact iV.nil (by repeat' (first | (with_reducible first | exact ae.refl _ _ | assumption | refine ae.alloc ?_ _ | refine ae.drew ?_ | refine ae.drewN ?_ _ | refine ae.regrown ?_ _ _ | refine ae.setCell ?_ ?_ _) | (refine .inr ?_;first | (simp;done) | (simp;omega) | omega)))
theorem iL {S:Nat→Prop}{w w':World}{g:Nat}{arr:Array Value} (h:∀ o,w.cell? ⟨g,o,none⟩=arr[o]?) (hm:ae S w w') (hg:g<w.heap.size) (hs:¬ S g):∀ o,w'.cell? ⟨g,o,none⟩=arr[o]?:=fun o=>(hm.cellAt hg hs o).trans (h o)
theorem qX (k a b:Nat) (hd md:UInt8) (w:World) (hf:eY k=some ⟨hd,md,false,false,false⟩) (hh:hd.toNat≠0) (hm:md.toNat=0) (hk:k≠10) (zA:a=0) (zB:b=0) (ha:a≤18446744073709551615) (hb:b≤18446744073709551615) :
  Calls Tryz.prog 120 #[.agg #[.int .i64 k,.int .u64 a,.int .u64 b]] w (iV w (dD ⟨hd,md,false,false,false⟩ a b) 0):=by
 have HO:Hid (dD ⟨hd,md,false,false,false⟩ a b=[hd]):=by show _=_;simp [dD,iQ,hm]
 have hh2:(((hd.toNat:Nat):Int) == 0)=false:=by simp [hh]
 have hm2:(((md.toNat:Nat):Int) != 0)=false:=by simp [hm]
 have hk2:(((k:Nat):Int) == 10)=false:=by simp;omega
 have hwa:((a:Nat):Int)≤18446744073709551615:=by omega
 subst zA
 subst zB
 have HF:=lh hf
 clear hf hh hm hk
 go_enter Tryz.func120,Tryz.ntmps120
 go_wp2_with (first | (go_at_call 198;refine (je _ _ _ HF.out).mono ?_;rintro e w1 ⟨rfl,rfl⟩;simp only [gq]) | (at_builtin;refine stop ?_) | (go_at_call 199;refine stop ?_))
 go_returns
 refine⟨_,rfl,?_,(by repeat' (first | (with_reducible first | exact ae.refl _ _ | assumption | refine ae.alloc ?_ _ | refine ae.drew ?_ | refine ae.drewN ?_ _ | refine ae.regrown ?_ _ _ | refine ae.setCell ?_ ?_ _) | (refine .inr ?_;first | (simp;done) | (simp;omega) | omega))),fun k hk=>by simp [Value.ownBlock] at hk;omega⟩
 rw [HO.out]
 exact jw hd _ (by simp)
theorem nJ (k a b:Nat) (hd md:UInt8) (w:World) (hf:eY k=some ⟨hd,md,true,false,false⟩) (hh:hd.toNat≠0) (hm:md.toNat=0) (hk:k≠10) (zB:b=0) (ha:a≤18446744073709551615) (hb:b≤18446744073709551615) :
  Calls Tryz.prog 120 #[.agg #[.int .i64 k,.int .u64 a,.int .u64 b]] w (iV w (dD ⟨hd,md,true,false,false⟩ a b) 0):=by
 have HO:Hid (dD ⟨hd,md,true,false,false⟩ a b=[hd] ++ be 8 (a)):=by show _=_;simp [dD,iQ,fU,hm]
 have hh2:(((hd.toNat:Nat):Int) == 0)=false:=by simp [hh]
 have hm2:(((md.toNat:Nat):Int) != 0)=false:=by simp [hm]
 have hk2:(((k:Nat):Int) == 10)=false:=by simp;omega
 have hwa:((a:Nat):Int)≤18446744073709551615:=by omega
 subst zB
 have HF:=lh hf
 clear hf hh hm hk
 go_enter Tryz.func120,Tryz.ntmps120
 go_wp2_with (first | (go_at_call 198;refine (je _ _ _ HF.out).mono ?_;rintro e w1 ⟨rfl,rfl⟩;simp only [gq]) | (at_builtin;refine stop ?_) | (go_at_call 199;refine stop ?_))
 have o1:Gl.Own ((w.alloc (.cells #[.int .i64 (k:Int),.int .u64 (a:Int),.int .u64 (0:Int)] 173)).alloc (.cells #[.int .u8 hd.toNat] 5)) (.slice (some ⟨w.heap.size+1,0,none⟩) 1 1) [hd]:=jw hd _ (by simp)
 have c1:=ag (dA (aU w (.cells #[.int .i64 (k:Int),.int .u64 (a:Int),.int .u64 (0:Int)] 173)) (.cells #[.int .u8 hd.toNat] 5))
 have m1:ae ai (w.alloc (.cells #[.int .i64 (k:Int),.int .u64 (a:Int),.int .u64 (0:Int)] 173)) ((w.alloc (.cells #[.int .i64 (k:Int),.int .u64 (a:Int),.int .u64 (0:Int)] 173)).alloc (.cells #[.int .u8 hd.toNat] 5)):=(by repeat' (first | (with_reducible first | exact ae.refl _ _ | assumption | refine ae.alloc ?_ _ | refine ae.drew ?_ | refine ae.drewN ?_ _ | refine ae.regrown ?_ _ _ | refine ae.setCell ?_ ?_ _) | (refine .inr ?_;first | (simp;done) | (simp;omega) | omega)))
 have z1:w.heap.size+1<((w.alloc (.cells #[.int .i64 (k:Int),.int .u64 (a:Int),.int .u64 (0:Int)] 173)).alloc (.cells #[.int .u8 hd.toNat] 5)).heap.size:=by simp
 have f1:aF (w.alloc (.cells #[.int .i64 (k:Int),.int .u64 (a:Int),.int .u64 (0:Int)] 173)) (.slice (some ⟨w.heap.size+1,0,none⟩) 1 1):=fun k hk=>by simp [Value.ownBlock] at hk ⊢;omega
 unfold Stop
 generalize World.alloc (World.alloc w _) _=W1 at *
 refine (mP 8 (a) o1 (by decide) (by omega) (by simp)).mono ?_
 rintro e W2 ⟨v2,rfl,p2⟩
 have o2:=p2.own
 have f2:=p2.fresh (w0:=w.alloc _) m1.size f1
 have m2:=p2.mods0 m1 f1
 have z2:w.heap.size+1<W2.heap.size:=p2.mods.size_of z1
 have c2:=iL c1 p2.mods (by omega) (fun x=>absurd (f1 _ x) (by simp))
 clear p2 o1 f1 c1 z1 m1
 go_wp2
 go_returns
 refine⟨_,rfl,?_,m2.after,f2.of (by simp)⟩
 rw [HO.out]
 exact o2
theorem CB (k a b:Nat) (hd md:UInt8) (w:World) (hf:eY k=some ⟨hd,md,true,false,false⟩) (hh:hd.toNat≠0) (hm:md.toNat≠0) (hk:k≠10) (zB:b=0) (ha:a≤18446744073709551615) (hb:b≤18446744073709551615) :
  Calls Tryz.prog 120 #[.agg #[.int .i64 k,.int .u64 a,.int .u64 b]] w (iV w (dD ⟨hd,md,true,false,false⟩ a b) 0):=by
 have HO:Hid (dD ⟨hd,md,true,false,false⟩ a b=[hd] ++ be 8 (a) ++ [md]):=by show _=_;simp [dD,iQ,fU,hm]
 have hh2:(((hd.toNat:Nat):Int) == 0)=false:=by simp [hh]
 have hm2:(((md.toNat:Nat):Int) != 0)=true:=by simp [hm]
 have hk2:(((k:Nat):Int) == 10)=false:=by simp;omega
 have hwa:((a:Nat):Int)≤18446744073709551615:=by omega
 subst zB
 have HF:=lh hf
 clear hf hh hm hk
 go_enter Tryz.func120,Tryz.ntmps120
 go_wp2_with (first | (go_at_call 198;refine (je _ _ _ HF.out).mono ?_;rintro e w1 ⟨rfl,rfl⟩;simp only [gq]) | (at_builtin;refine stop ?_) | (go_at_call 199;refine stop ?_))
 have o1:Gl.Own ((w.alloc (.cells #[.int .i64 (k:Int),.int .u64 (a:Int),.int .u64 (0:Int)] 173)).alloc (.cells #[.int .u8 hd.toNat] 5)) (.slice (some ⟨w.heap.size+1,0,none⟩) 1 1) [hd]:=jw hd _ (by simp)
 have c1:=ag (dA (aU w (.cells #[.int .i64 (k:Int),.int .u64 (a:Int),.int .u64 (0:Int)] 173)) (.cells #[.int .u8 hd.toNat] 5))
 have m1:ae ai (w.alloc (.cells #[.int .i64 (k:Int),.int .u64 (a:Int),.int .u64 (0:Int)] 173)) ((w.alloc (.cells #[.int .i64 (k:Int),.int .u64 (a:Int),.int .u64 (0:Int)] 173)).alloc (.cells #[.int .u8 hd.toNat] 5)):=(by repeat' (first | (with_reducible first | exact ae.refl _ _ | assumption | refine ae.alloc ?_ _ | refine ae.drew ?_ | refine ae.drewN ?_ _ | refine ae.regrown ?_ _ _ | refine ae.setCell ?_ ?_ _) | (refine .inr ?_;first | (simp;done) | (simp;omega) | omega)))
 have z1:w.heap.size+1<((w.alloc (.cells #[.int .i64 (k:Int),.int .u64 (a:Int),.int .u64 (0:Int)] 173)).alloc (.cells #[.int .u8 hd.toNat] 5)).heap.size:=by simp
 have f1:aF (w.alloc (.cells #[.int .i64 (k:Int),.int .u64 (a:Int),.int .u64 (0:Int)] 173)) (.slice (some ⟨w.heap.size+1,0,none⟩) 1 1):=fun k hk=>by simp [Value.ownBlock] at hk ⊢;omega
 unfold Stop
 generalize World.alloc (World.alloc w _) _=W1 at *
 refine (mP 8 (a) o1 (by decide) (by omega) (by simp)).mono ?_
 rintro e W2 ⟨v2,rfl,p2⟩
 have o2:=p2.own
 have f2:=p2.fresh (w0:=w.alloc _) m1.size f1
 have m2:=p2.mods0 m1 f1
 have z2:w.heap.size+1<W2.heap.size:=p2.mods.size_of z1
 have c2:=iL c1 p2.mods (by omega) (fun x=>absurd (f1 _ x) (by simp))
 clear p2 o1 f1 c1 z1 m1
 have z0:w.heap.size<W2.heap.size:=by omega
 go_wp2_with (first | (at_builtin;refine stop ?_) | (go_at_call 199;refine stop ?_))
 unfold Stop
 clear z0
 refine gW rfl rfl _ [md] (o2.alloc _) (jw md _ rfl).rd rfl rfl (by simp [dH]) ?_
 intro v3 W3 k1 k2 k3
 have p3:fV W2 _ _ W3 v3:=⟨k1,((ae.refl _ _).alloc _).trans k2 (fun _ _ x=>x) (fun _ _ x=>x),k3.imp_right (fun h=>h.of (by simp))⟩
 clear k1 k2 k3
 have o3:=p3.own
 have f3:=p3.fresh (w0:=w.alloc _) m2.size f2
 have m3:=p3.mods0 m2 f2
 have z3:w.heap.size+1<W3.heap.size:=p3.mods.size_of z2
 have c3:=iL c2 p3.mods (by omega) (fun x=>absurd (f2 _ x) (by simp))
 clear p3 o2 f2 c2 z2 m2
 go_wp2
 go_returns
 refine⟨_,rfl,?_,m3.after,f3.of (by simp)⟩
 rw [HO.out]
 exact o3
theorem pK (k a b:Nat) (hd md:UInt8) (w:World) (hf:eY k=some ⟨hd,md,true,true,false⟩) (hh:hd.toNat≠0) (hm:md.toNat=0) (hk:k≠10) (ha:a≤18446744073709551615) (hb:b≤18446744073709551615) :
  Calls Tryz.prog 120 #[.agg #[.int .i64 k,.int .u64 a,.int .u64 b]] w (iV w (dD ⟨hd,md,true,true,false⟩ a b) 0):=by
 have HO:Hid (dD ⟨hd,md,true,true,false⟩ a b=[hd] ++ be 8 (a) ++ be 8 b):=by show _=_;simp [dD,iQ,fU,hm]
 have hh2:(((hd.toNat:Nat):Int) == 0)=false:=by simp [hh]
 have hm2:(((md.toNat:Nat):Int) != 0)=false:=by simp [hm]
 have hk2:(((k:Nat):Int) == 10)=false:=by simp;omega
 have hwa:((a:Nat):Int)≤18446744073709551615:=by omega
 have HF:=lh hf
 clear hf hh hm hk
 go_enter Tryz.func120,Tryz.ntmps120
 go_wp2_with (first | (go_at_call 198;refine (je _ _ _ HF.out).mono ?_;rintro e w1 ⟨rfl,rfl⟩;simp only [gq]) | (at_builtin;refine stop ?_) | (go_at_call 199;refine stop ?_))
 have o1:Gl.Own ((w.alloc (.cells #[.int .i64 (k:Int),.int .u64 (a:Int),.int .u64 (b:Int)] 173)).alloc (.cells #[.int .u8 hd.toNat] 5)) (.slice (some ⟨w.heap.size+1,0,none⟩) 1 1) [hd]:=jw hd _ (by simp)
 have c1:=ag (dA (aU w (.cells #[.int .i64 (k:Int),.int .u64 (a:Int),.int .u64 (b:Int)] 173)) (.cells #[.int .u8 hd.toNat] 5))
 have m1:ae ai (w.alloc (.cells #[.int .i64 (k:Int),.int .u64 (a:Int),.int .u64 (b:Int)] 173)) ((w.alloc (.cells #[.int .i64 (k:Int),.int .u64 (a:Int),.int .u64 (b:Int)] 173)).alloc (.cells #[.int .u8 hd.toNat] 5)):=(by repeat' (first | (with_reducible first | exact ae.refl _ _ | assumption | refine ae.alloc ?_ _ | refine ae.drew ?_ | refine ae.drewN ?_ _ | refine ae.regrown ?_ _ _ | refine ae.setCell ?_ ?_ _) | (refine .inr ?_;first | (simp;done) | (simp;omega) | omega)))
 have z1:w.heap.size+1<((w.alloc (.cells #[.int .i64 (k:Int),.int .u64 (a:Int),.int .u64 (b:Int)] 173)).alloc (.cells #[.int .u8 hd.toNat] 5)).heap.size:=by simp
 have f1:aF (w.alloc (.cells #[.int .i64 (k:Int),.int .u64 (a:Int),.int .u64 (b:Int)] 173)) (.slice (some ⟨w.heap.size+1,0,none⟩) 1 1):=fun k hk=>by simp [Value.ownBlock] at hk ⊢;omega
 unfold Stop
 generalize World.alloc (World.alloc w _) _=W1 at *
 refine (mP 8 (a) o1 (by decide) (by omega) (by simp)).mono ?_
 rintro e W2 ⟨v2,rfl,p2⟩
 have o2:=p2.own
 have f2:=p2.fresh (w0:=w.alloc _) m1.size f1
 have m2:=p2.mods0 m1 f1
 have z2:w.heap.size+1<W2.heap.size:=p2.mods.size_of z1
 have c2:=iL c1 p2.mods (by omega) (fun x=>absurd (f1 _ x) (by simp))
 clear p2 o1 f1 c1 z1 m1
 have z0:w.heap.size<W2.heap.size:=by omega
 go_wp2_with (first | (at_builtin;refine stop ?_) | (go_at_call 199;refine stop ?_))
 unfold Stop
 clear z0
 refine (mP 8 (b) o2 (by decide) (by omega) (by simp [dH])).mono ?_
 rintro e W3 ⟨v3,rfl,p3⟩
 have o3:=p3.own
 have f3:=p3.fresh (w0:=w.alloc _) m2.size f2
 have m3:=p3.mods0 m2 f2
 have z3:w.heap.size+1<W3.heap.size:=p3.mods.size_of z2
 have c3:=iL c2 p3.mods (by omega) (fun x=>absurd (f2 _ x) (by simp))
 clear p3 o2 f2 c2 z2 m2
 go_wp2
 go_returns
 refine⟨_,rfl,?_,m3.after,f3.of (by simp)⟩
 rw [HO.out]
 exact o3
theorem qV (k a b:Nat) (hd md:UInt8) (w:World) (hf:eY k=some ⟨hd,md,true,true,false⟩) (hh:hd.toNat≠0) (hm:md.toNat≠0) (hk:k≠10) (ha:a≤18446744073709551615) (hb:b≤18446744073709551615) :
  Calls Tryz.prog 120 #[.agg #[.int .i64 k,.int .u64 a,.int .u64 b]] w (iV w (dD ⟨hd,md,true,true,false⟩ a b) 0):=by
 have HO:Hid (dD ⟨hd,md,true,true,false⟩ a b=[hd] ++ be 8 (a) ++ [md] ++ be 8 b):=by show _=_;simp [dD,iQ,fU,hm]
 have hh2:(((hd.toNat:Nat):Int) == 0)=false:=by simp [hh]
 have hm2:(((md.toNat:Nat):Int) != 0)=true:=by simp [hm]
 have hk2:(((k:Nat):Int) == 10)=false:=by simp;omega
 have hwa:((a:Nat):Int)≤18446744073709551615:=by omega
 have HF:=lh hf
 clear hf hh hm hk
 go_enter Tryz.func120,Tryz.ntmps120
 go_wp2_with (first | (go_at_call 198;refine (je _ _ _ HF.out).mono ?_;rintro e w1 ⟨rfl,rfl⟩;simp only [gq]) | (at_builtin;refine stop ?_) | (go_at_call 199;refine stop ?_))
 have o1:Gl.Own ((w.alloc (.cells #[.int .i64 (k:Int),.int .u64 (a:Int),.int .u64 (b:Int)] 173)).alloc (.cells #[.int .u8 hd.toNat] 5)) (.slice (some ⟨w.heap.size+1,0,none⟩) 1 1) [hd]:=jw hd _ (by simp)
 have c1:=ag (dA (aU w (.cells #[.int .i64 (k:Int),.int .u64 (a:Int),.int .u64 (b:Int)] 173)) (.cells #[.int .u8 hd.toNat] 5))
 have m1:ae ai (w.alloc (.cells #[.int .i64 (k:Int),.int .u64 (a:Int),.int .u64 (b:Int)] 173)) ((w.alloc (.cells #[.int .i64 (k:Int),.int .u64 (a:Int),.int .u64 (b:Int)] 173)).alloc (.cells #[.int .u8 hd.toNat] 5)):=(by repeat' (first | (with_reducible first | exact ae.refl _ _ | assumption | refine ae.alloc ?_ _ | refine ae.drew ?_ | refine ae.drewN ?_ _ | refine ae.regrown ?_ _ _ | refine ae.setCell ?_ ?_ _) | (refine .inr ?_;first | (simp;done) | (simp;omega) | omega)))
 have z1:w.heap.size+1<((w.alloc (.cells #[.int .i64 (k:Int),.int .u64 (a:Int),.int .u64 (b:Int)] 173)).alloc (.cells #[.int .u8 hd.toNat] 5)).heap.size:=by simp
 have f1:aF (w.alloc (.cells #[.int .i64 (k:Int),.int .u64 (a:Int),.int .u64 (b:Int)] 173)) (.slice (some ⟨w.heap.size+1,0,none⟩) 1 1):=fun k hk=>by simp [Value.ownBlock] at hk ⊢;omega
 unfold Stop
 generalize World.alloc (World.alloc w _) _=W1 at *
 refine (mP 8 (a) o1 (by decide) (by omega) (by simp)).mono ?_
 rintro e W2 ⟨v2,rfl,p2⟩
 have o2:=p2.own
 have f2:=p2.fresh (w0:=w.alloc _) m1.size f1
 have m2:=p2.mods0 m1 f1
 have z2:w.heap.size+1<W2.heap.size:=p2.mods.size_of z1
 have c2:=iL c1 p2.mods (by omega) (fun x=>absurd (f1 _ x) (by simp))
 clear p2 o1 f1 c1 z1 m1
 have z0:w.heap.size<W2.heap.size:=by omega
 go_wp2_with (first | (at_builtin;refine stop ?_) | (go_at_call 199;refine stop ?_))
 unfold Stop
 clear z0
 refine gW rfl rfl _ [md] (o2.alloc _) (jw md _ rfl).rd rfl rfl (by simp [dH]) ?_
 intro v3 W3 k1 k2 k3
 have p3:fV W2 _ _ W3 v3:=⟨k1,((ae.refl _ _).alloc _).trans k2 (fun _ _ x=>x) (fun _ _ x=>x),k3.imp_right (fun h=>h.of (by simp))⟩
 clear k1 k2 k3
 have o3:=p3.own
 have f3:=p3.fresh (w0:=w.alloc _) m2.size f2
 have m3:=p3.mods0 m2 f2
 have z3:w.heap.size+1<W3.heap.size:=p3.mods.size_of z2
 have c3:=iL c2 p3.mods (by omega) (fun x=>absurd (f2 _ x) (by simp))
 clear p3 o2 f2 c2 z2 m2
 have z0:w.heap.size<W3.heap.size:=by omega
 go_wp2_with (first | (at_builtin;refine stop ?_) | (go_at_call 199;refine stop ?_))
 unfold Stop
 clear z0
 refine (mP 8 (b) o3 (by decide) (by omega) (by simp [dH])).mono ?_
 rintro e W4 ⟨v4,rfl,p4⟩
 have o4:=p4.own
 have f4:=p4.fresh (w0:=w.alloc _) m3.size f3
 have m4:=p4.mods0 m3 f3
 have z4:w.heap.size+1<W4.heap.size:=p4.mods.size_of z3
 have c4:=iL c3 p4.mods (by omega) (fun x=>absurd (f3 _ x) (by simp))
 clear p4 o3 f3 c3 z3 m3
 go_wp2
 go_returns
 refine⟨_,rfl,?_,m4.after,f4.of (by simp)⟩
 rw [HO.out]
 exact o4
theorem Cf (k a b:Nat) (hd md:UInt8) (w:World) (hf:eY k=some ⟨hd,md,true,true,true⟩) (hh:hd.toNat≠0) (hm:md.toNat=0) (hk:k=10) (ha:a≤18446744073709551615) (hb:b≤18446744073709551615) :
  Calls Tryz.prog 120 #[.agg #[.int .i64 k,.int .u64 a,.int .u64 b]] w (iV w (dD ⟨hd,md,true,true,true⟩ a b) 0):=by
 have HO:Hid (dD ⟨hd,md,true,true,true⟩ a b=[hd] ++ be 8 (18446744073709551615 - a) ++ be 8 b):=by show _=_;simp [dD,iQ,fU,hm]
 have hh2:(((hd.toNat:Nat):Int) == 0)=false:=by simp [hh]
 have hm2:(((md.toNat:Nat):Int) != 0)=false:=by simp [hm]
 have hk2:(((k:Nat):Int) == 10)=true:=by simp;omega
 have hwa:((a:Nat):Int)≤18446744073709551615:=by omega
 have HF:=lh hf
 clear hf hh hm hk
 go_enter Tryz.func120,Tryz.ntmps120
 go_wp2_with (first | (go_at_call 198;refine (je _ _ _ HF.out).mono ?_;rintro e w1 ⟨rfl,rfl⟩;simp only [gq]) | (at_builtin;refine stop ?_) | (go_at_call 199;refine stop ?_))
 have o1:Gl.Own ((w.alloc (.cells #[.int .i64 (k:Int),.int .u64 (a:Int),.int .u64 (b:Int)] 173)).alloc (.cells #[.int .u8 hd.toNat] 5)) (.slice (some ⟨w.heap.size+1,0,none⟩) 1 1) [hd]:=jw hd _ (by simp)
 have c1:=ag (dA (aU w (.cells #[.int .i64 (k:Int),.int .u64 (a:Int),.int .u64 (b:Int)] 173)) (.cells #[.int .u8 hd.toNat] 5))
 have m1:ae ai (w.alloc (.cells #[.int .i64 (k:Int),.int .u64 (a:Int),.int .u64 (b:Int)] 173)) ((w.alloc (.cells #[.int .i64 (k:Int),.int .u64 (a:Int),.int .u64 (b:Int)] 173)).alloc (.cells #[.int .u8 hd.toNat] 5)):=(by repeat' (first | (with_reducible first | exact ae.refl _ _ | assumption | refine ae.alloc ?_ _ | refine ae.drew ?_ | refine ae.drewN ?_ _ | refine ae.regrown ?_ _ _ | refine ae.setCell ?_ ?_ _) | (refine .inr ?_;first | (simp;done) | (simp;omega) | omega)))
 have z1:w.heap.size+1<((w.alloc (.cells #[.int .i64 (k:Int),.int .u64 (a:Int),.int .u64 (b:Int)] 173)).alloc (.cells #[.int .u8 hd.toNat] 5)).heap.size:=by simp
 have f1:aF (w.alloc (.cells #[.int .i64 (k:Int),.int .u64 (a:Int),.int .u64 (b:Int)] 173)) (.slice (some ⟨w.heap.size+1,0,none⟩) 1 1):=fun k hk=>by simp [Value.ownBlock] at hk ⊢;omega
 unfold Stop
 generalize World.alloc (World.alloc w _) _=W1 at *
 rw [show ((18446744073709551615:Int) - (a:Int))=((18446744073709551615 - a:Nat):Int) from by omega]
 refine (mP 8 (18446744073709551615 - a) o1 (by decide) (by omega) (by simp)).mono ?_
 rintro e W2 ⟨v2,rfl,p2⟩
 have o2:=p2.own
 have f2:=p2.fresh (w0:=w.alloc _) m1.size f1
 have m2:=p2.mods0 m1 f1
 have z2:w.heap.size+1<W2.heap.size:=p2.mods.size_of z1
 have c2:=iL c1 p2.mods (by omega) (fun x=>absurd (f1 _ x) (by simp))
 clear p2 o1 f1 c1 z1 m1
 have z0:w.heap.size<W2.heap.size:=by omega
 go_wp2_with (first | (at_builtin;refine stop ?_) | (go_at_call 199;refine stop ?_))
 unfold Stop
 clear z0
 refine (mP 8 (b) o2 (by decide) (by omega) (by simp [dH])).mono ?_
 rintro e W3 ⟨v3,rfl,p3⟩
 have o3:=p3.own
 have f3:=p3.fresh (w0:=w.alloc _) m2.size f2
 have m3:=p3.mods0 m2 f2
 have z3:w.heap.size+1<W3.heap.size:=p3.mods.size_of z2
 have c3:=iL c2 p3.mods (by omega) (fun x=>absurd (f2 _ x) (by simp))
 clear p3 o2 f2 c2 z2 m2
 go_wp2
 go_returns
 refine⟨_,rfl,?_,m3.after,f3.of (by simp)⟩
 rw [HO.out]
 exact o3
end Go.Proofs.YtglkmaalpammcaaGreat

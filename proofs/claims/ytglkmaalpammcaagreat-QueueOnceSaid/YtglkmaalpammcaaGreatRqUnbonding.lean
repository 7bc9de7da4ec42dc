/- rec.Unbonding: the fields function, putters, getters (printed by gen_rec.py). -/
import Derived.Test.YtglkmaalpammcaaGreatZE
set_option maxHeartbeats 64000000
namespace Go.Proofs.YtglkmaalpammcaaGreat
open Go.Gl Go.RowKit
set_option linter.unusedVariables false
set_option maxRecDepth 100000
theorem Iu {w:World}{g B:Nat}{v0:Value}{xs:List UInt8}{n0 n1 n2 n3 n4 n5:Nat} (h:Wr w g v0 xs 0) (hb:w.heap[B]?=some (.cells #[.int .u64 n0,.int .u64 n1,.int .u64 n2,.int .u64 n3,.int .u64 n4,.int .u64 n5] 73 (0,0))) (ne:¬ WS g v0 B) (hn:gu [n0,n1,n2,n3,n4,n5])  (hl:xs.length≤1000000) :
    Calls Tryz.prog 239 #[.agg #[.pointer (some ⟨g,0,none⟩),.pointer none],.pointer (some ⟨B,0,none⟩)] w fun r w'=>r = .returned (.tuple #[])∧∃ v',fQ w g v0 (xs ++ dC [⟨0,n0,[]⟩,⟨0,n1,[]⟩,⟨0,n2,[]⟩,⟨0,n3,[]⟩,⟨0,n4,[]⟩,⟨0,n5,[]⟩]) 0 w' v':=by
  have b:=lh (show Hm w g B v0 #[.int .u64 n0,.int .u64 n1,.int .u64 n2,.int .u64 n3,.int .u64 n4,.int .u64 n5] 73 from⟨⟨xs,h⟩,hb,ne⟩)
  have F:=lh (WF.start h)
  have HN:=lh hn
  clear h hb ne hn
  obtain⟨ys,hys⟩:∃ ys,dC [⟨0,n0,[]⟩,⟨0,n1,[]⟩,⟨0,n2,[]⟩,⟨0,n3,[]⟩,⟨0,n4,[]⟩,⟨0,n5,[]⟩]=ys:=⟨_,rfl⟩
  rw [hys]
  have HY:=lh hys
  clear hys
  go_enter Tryz.func239,Tryz.ntmps239
  go_wp2
  generalize World.alloc w _=wx at *
  obtain⟨c0,c1,t0⟩:=F.out.tS
  go_region_held3 (fun w'=>w'.cell? ⟨w.heap.size,0,none⟩=some (.pointer (some ⟨g,0,none⟩))∧w'.cell? ⟨w.heap.size,1,none⟩=some (.pointer none)∧w.heap.size<w'.heap.size)
    ((first | exact hq.tS | (refine sO (a:=wx) ?_ c0 c1 t0;exact (by repeat' (first | (with_reducible first | exact ae.refl _ _ | assumption | refine ae.alloc ?_ _ | refine ae.drew ?_ | refine ae.drewN ?_ _ | refine ae.regrown ?_ _ _ | refine ae.setCell ?_ ?_ _) | (refine .inr ?_;first | (simp;done) | (simp;omega) | omega))))))
    ((first
      | (go_at_call 220;refine (F.out.nums b.out ?_ (k:=wx.heap.size) (e:=318) [0,1,2,3,4,5] [n0,n1,n2,n3,n4,n5] (Nat.le_refl _) ?_ rfl rfl (Nat.le_of_ble_eq_true rfl) rfl (vM _ _ (And.intro rfl (And.intro rfl (And.intro rfl (And.intro rfl (And.intro rfl (And.intro rfl trivial))))))) ?_ ?_).mono ?_;(next=>exact (by repeat' (first | (with_reducible first | exact ae.refl _ _ | assumption | refine ae.alloc ?_ _ | refine ae.drew ?_ | refine ae.drewN ?_ _ | refine ae.regrown ?_ _ _ | refine ae.setCell ?_ ?_ _) | (refine .inr ?_;first | (simp;done) | (simp;omega) | omega))));(next=>exact aF _ _);(next=>exact (fun x hx=>HN.out x (by simp at hx ⊢;omega)));(next=>omega);rintro r w0 ⟨rfl,hq⟩)))
  have F0:=lh hq
  have hl0:=QM xs [n0,n1,n2,n3,n4,n5] (Nat.le_of_ble_eq_true rfl)
  try clear hHeld
  clear c0 c1 t0 hq
  obtain⟨c0,c1,t0⟩:=F0.out.tS
  go_wp2
  go_end0
  obtain⟨⟨v',hs,_⟩,_,_⟩:=F0.out
  refine⟨rfl,v',?_⟩
  rw [← HY.out]
  simpa only [dC,EW,EQ,EU,List.flatMap_cons,List.flatMap_nil,List.append_nil,List.append_assoc] using hs
theorem Iq {w:World}{g B:Nat}{v0:Value}{s:fJ} (h:TR g B 73 v0 s #[.int .u64 0,.int .u64 0,.int .u64 0,.int .u64 0,.int .u64 0,.int .u64 0] w) (hll:s.1.length≤10000000000) :
    Calls Tryz.prog 239 #[.agg #[.pointer none,.pointer (some ⟨g,0,none⟩)],.pointer (some ⟨B,0,none⟩)] w fun r w'=>r = .returned (.tuple #[])∧∃ (n0 n1 n2 n3 n4 n5:Nat) (s':fJ),gX [0,0,0,0,0,0] s=([⟨0,n0,[]⟩,⟨0,n1,[]⟩,⟨0,n2,[]⟩,⟨0,n3,[]⟩,⟨0,n4,[]⟩,⟨0,n5,[]⟩],s')∧nV w g B 73 v0 s' #[.int .u64 n0,.int .u64 n1,.int .u64 n2,.int .u64 n3,.int .u64 n4,.int .u64 n5] w':=by
  have F:=lh (RF.start h)
  clear h
  obtain⟨Q,hQ⟩:∃ Q:Ending→World→Prop,Q=(fun (r:Ending) (w':World)=>r = .returned (.tuple #[])∧∃ (n0 n1 n2 n3 n4 n5:Nat) (s':fJ),gX [0,0,0,0,0,0] s=([⟨0,n0,[]⟩,⟨0,n1,[]⟩,⟨0,n2,[]⟩,⟨0,n3,[]⟩,⟨0,n4,[]⟩,⟨0,n5,[]⟩],s')∧nV w g B 73 v0 s' #[.int .u64 n0,.int .u64 n1,.int .u64 n2,.int .u64 n3,.int .u64 n4,.int .u64 n5] w'):=⟨_,rfl⟩
  show Calls _ _ _ _ (fun (r:Ending) (w':World)=>r = .returned (.tuple #[])∧∃ (n0 n1 n2 n3 n4 n5:Nat) (s':fJ),gX [0,0,0,0,0,0] s=([⟨0,n0,[]⟩,⟨0,n1,[]⟩,⟨0,n2,[]⟩,⟨0,n3,[]⟩,⟨0,n4,[]⟩,⟨0,n5,[]⟩],s')∧nV w g B 73 v0 s' #[.int .u64 n0,.int .u64 n1,.int .u64 n2,.int .u64 n3,.int .u64 n4,.int .u64 n5] w')
  rw [← hQ]
  have HQ:=lh hQ
  clear hQ
  go_enter Tryz.func239,Tryz.ntmps239
  go_wp2
  generalize World.alloc w _=wx at *
  obtain⟨c0,c1,t0⟩:=F.out.tS
  have hs:s.1.length≤10000000000:=hll
  go_region_held3 (fun w'=>w'.cell? ⟨w.heap.size,0,none⟩=some (.pointer none)∧w'.cell? ⟨w.heap.size,1,none⟩=some (.pointer (some ⟨g,0,none⟩))∧w.heap.size<w'.heap.size)
    ((first | exact hq.tS | (refine sO (a:=wx) ?_ c0 c1 t0;exact (by repeat' (first | (with_reducible first | exact ae.refl _ _ | assumption | refine ae.alloc ?_ _ | refine ae.drew ?_ | refine ae.drewN ?_ _ | refine ae.regrown ?_ _ _ | refine ae.setCell ?_ ?_ _) | (refine .inr ?_;first | (simp;done) | (simp;omega) | omega))))))
    ((first
      | (go_at_call 220;refine (F.out.nums ?_ (k:=wx.heap.size) (e:=318) [0,1,2,3,4,5] (Nat.le_refl _) ?_ rfl rfl (Nat.le_of_ble_eq_true rfl) (vT rfl)).mono ?_;(next=>exact (by repeat' (first | (with_reducible first | exact ae.refl _ _ | assumption | refine ae.alloc ?_ _ | refine ae.drew ?_ | refine ae.drewN ?_ _ | refine ae.regrown ?_ _ _ | refine ae.setCell ?_ ?_ _) | (refine .inr ?_;first | (simp;done) | (simp;omega) | omega))));(next=>exact aF _ _);rintro r w0 ⟨rfl,hq⟩)))
  have F0:=lh (show RF w g B w.heap.size 73 v0 (est 8 (est 8 (est 8 (est 8 (est 8 (est 8 s)))))) #[.int .u64 ((fO 8 s):Nat),.int .u64 ((fO 8 (est 8 s)):Nat),.int .u64 ((fO 8 (est 8 (est 8 s))):Nat),.int .u64 ((fO 8 (est 8 (est 8 (est 8 s)))):Nat),.int .u64 ((fO 8 (est 8 (est 8 (est 8 (est 8 s))))):Nat),.int .u64 ((fO 8 (est 8 (est 8 (est 8 (est 8 (est 8 s)))))):Nat)] [] w0 from hq)
  have hs:((est 8 (est 8 (est 8 (est 8 (est 8 (est 8 s)))))):fJ).1.length≤10000000000:=Nat.le_trans (Dq 6 _) hs
  try clear hHeld
  clear c0 c1 t0 hq
  obtain⟨c0,c1,t0⟩:=F0.out.tS
  go_wp2
  go_end0
  rw [HQ.out]
  exact⟨rfl,(fO 8 s),(fO 8 (est 8 s)),(fO 8 (est 8 (est 8 s))),(fO 8 (est 8 (est 8 (est 8 s)))),(fO 8 (est 8 (est 8 (est 8 (est 8 s))))),(fO 8 (est 8 (est 8 (est 8 (est 8 (est 8 s)))))),(est 8 (est 8 (est 8 (est 8 (est 8 (est 8 s)))))),by kernel_rfl,F0.out.st⟩
theorem yR (w:World):Calls Tryz.prog 238 #[.func (.func 239) #[] #[]] w fun r w'=>∃ k,r = .returned (.func (.func 267) #[] #[.pointer (some ⟨k,0,none⟩)])∧w'.cell? ⟨k,0,none⟩=some (.func (.func 239) #[] #[])∧ae ai w w'∧k<w'.heap.size:=by
 have hmf:∀ (fn:Fn) (first cap:Array Value) (w:World),(Instr.makeFunc fn first cap).run Tryz.prog w = .ok (.func fn first cap) w:=fun _ _ _ _=>rfl
 go_enter Tryz.func238,Tryz.ntmps238
 go_wp2
 go_ret
 exact⟨_,rfl,af (aF w _) 0,(ae.refl _ _).alloc _,by simp⟩
theorem yP {w:World}{k:Nat}{n0 n1 n2 n3 n4 n5:Nat} (hk:w.cell? ⟨k,0,none⟩=some (.func (.func 239) #[] #[])) (hkl:k<w.heap.size) (hn:gu [n0,n1,n2,n3,n4,n5])  :
  Calls Tryz.prog 267 #[.agg #[.int .u64 n0,.int .u64 n1,.int .u64 n2,.int .u64 n3,.int .u64 n4,.int .u64 n5],.pointer (some ⟨k,0,none⟩)] w fun r w'=>∃ v,r = .returned v∧Gl.Own w' v (dC [⟨0,n0,[]⟩,⟨0,n1,[]⟩,⟨0,n2,[]⟩,⟨0,n3,[]⟩,⟨0,n4,[]⟩,⟨0,n5,[]⟩])∧ae ai w w'∧aG w v:=by
 obtain⟨zs,hz⟩:∃ zs,dC [⟨0,n0,[]⟩,⟨0,n1,[]⟩,⟨0,n2,[]⟩,⟨0,n3,[]⟩,⟨0,n4,[]⟩,⟨0,n5,[]⟩]=zs:=⟨_,rfl⟩
 rw [hz]
 have HZ:=lh hz
 clear hz
 have HN:=lh hn
 clear hn
 have m1:=(((ae.refl ai w).alloc (.cells #[.int .u64 n0,.int .u64 n1,.int .u64 n2,.int .u64 n3,.int .u64 n4,.int .u64 n5] 73)).alloc (.cells #[.slice none 0 0,.int .i64 0] 311)).alloc (.cells #[.pointer (some ⟨w.heap.size+1,0,none⟩),.pointer none] 314)
 have c1:=(m1.cellAt hkl (fun x=>x) 0).trans hk
 have P:=lh (zK w #[.int .u64 n0,.int .u64 n1,.int .u64 n2,.int .u64 n3,.int .u64 n4,.int .u64 n5] 73 _ rfl)
 clear hk m1
 go_enter Tryz.func267,Tryz.ntmps267
 go_wp2_with fail
 generalize World.alloc (World.alloc (World.alloc w _) _) _=wx at *
 obtain⟨p1,p2,p3,p4,p5,p6,p7⟩:=P.out
 refine (Iu p1 p2 p3 HN.out (by simp)).mono ?_
 rintro r w4 ⟨rfl,v',hs⟩
 rw [List.nil_append,HZ.out] at hs
 have hzl:=lh (show zs.length≤140737488355328 from HZ.out▸Nat.le_trans (vk _) (Nat.le_of_ble_eq_true rfl))
 have d1:=af (hs.mods.heap p4 p7) 0
 have M:=lh (p5.trans hs.mods (U:=ai) (fun _ _ x=>x) (fun i hi x=>BN x hi))
 have F:=lh hs
 clear hs p1 p2 p3 p4 p5 p6 p7 P c1
 go_wp2_with fail
 refine (rW F.out.wr hzl.out).mono ?_
 rintro r w5 ⟨u,rfl,o1,o2,o3⟩
 obtain⟨ua,uc,rfl,_⟩:=o1.rd.form
 have O:=lh (And.intro o1 (And.intro o2 o3))
 clear o1 o2 o3 d1
 go_wp2
 go_ret
 obtain⟨o1,o2,o3⟩:=O.out
 exact⟨_,rfl,o1,M.out.then0 o2,o3.of M.out.size⟩
theorem yt {w:World}{n0 n1 n2 n3 n4 n5:Nat} (hn:gu [n0,n1,n2,n3,n4,n5])  :
    Calls Tryz.prog 184 #[.agg #[.int .u64 n0,.int .u64 n1,.int .u64 n2,.int .u64 n3,.int .u64 n4,.int .u64 n5]] w fun r w'=>∃ v,r = .returned v∧Gl.Own w' v (dC [⟨0,n0,[]⟩,⟨0,n1,[]⟩,⟨0,n2,[]⟩,⟨0,n3,[]⟩,⟨0,n4,[]⟩,⟨0,n5,[]⟩])∧ae ai w w'∧aG w v:=by
  obtain⟨zs,hz⟩:∃ zs,dC [⟨0,n0,[]⟩,⟨0,n1,[]⟩,⟨0,n2,[]⟩,⟨0,n3,[]⟩,⟨0,n4,[]⟩,⟨0,n5,[]⟩]=zs:=⟨_,rfl⟩
  rw [hz]
  have HZ:=lh hz
  clear hz
  have HN:=lh hn
  clear hn
  have P:=lh (qR w #[.int .u64 n0,.int .u64 n1,.int .u64 n2,.int .u64 n3,.int .u64 n4,.int .u64 n5] 73 _ rfl)
  go_enter Tryz.func184,Tryz.ntmps184
  go_wp2
  generalize World.alloc w _=w1 at *
  have HS:=lh (fun b (hm:ae ai w1 b)=>have h:=je hm P.out.1;show b.cell? ⟨w.heap.size,0,none⟩=some (.int .u64 n0)∧b.cell? ⟨w.heap.size,1,none⟩=some (.int .u64 n1)∧b.cell? ⟨w.heap.size,2,none⟩=some (.int .u64 n2)∧b.cell? ⟨w.heap.size,3,none⟩=some (.int .u64 n3)∧b.cell? ⟨w.heap.size,4,none⟩=some (.int .u64 n4)∧b.cell? ⟨w.heap.size,5,none⟩=some (.int .u64 n5)∧ae ai w1 b from⟨af h 0,af h 1,af h 2,af h 3,af h 4,af h 5,hm⟩)
  go_region_held3 (fun b=>b.cell? ⟨w.heap.size,0,none⟩=some (.int .u64 n0)∧b.cell? ⟨w.heap.size,1,none⟩=some (.int .u64 n1)∧b.cell? ⟨w.heap.size,2,none⟩=some (.int .u64 n2)∧b.cell? ⟨w.heap.size,3,none⟩=some (.int .u64 n3)∧b.cell? ⟨w.heap.size,4,none⟩=some (.int .u64 n4)∧b.cell? ⟨w.heap.size,5,none⟩=some (.int .u64 n5)∧ae ai w1 b)
    ((refine HS.out _ ?_;exact (by repeat' (first | (with_reducible first | exact ae.refl _ _ | assumption | refine ae.alloc ?_ _ | refine ae.drew ?_ | refine ae.drewN ?_ _ | refine ae.regrown ?_ _ _ | refine ae.setCell ?_ ?_ _) | (refine .inr ?_;first | (simp;done) | (simp;omega) | omega)))))
    ((first
      | (go_at_call 238;refine (yR _).mono ?_;rintro r w2 ⟨k,rfl,k1,k2,k3⟩;(try replace k2:=ae.undrew k2))
      | (go_at_call 267;refine (yP (k:=k) ?_ ?_ HN.out).mono ?_;(next=>(refine jG ?_ k1 k3;exact (by repeat' (first | (with_reducible first | exact ae.refl _ _ | assumption | refine ae.alloc ?_ _ | refine ae.drew ?_ | refine ae.drewN ?_ _ | refine ae.regrown ?_ _ _ | refine ae.setCell ?_ ?_ _) | (refine .inr ?_;first | (simp;done) | (simp;omega) | omega)))));(next=>(refine ae.size_of (S:=ai) (a:=w2) ?_ k3;exact (by repeat' (first | (with_reducible first | exact ae.refl _ _ | assumption | refine ae.alloc ?_ _ | refine ae.drew ?_ | refine ae.drewN ?_ _ | refine ae.regrown ?_ _ _ | refine ae.setCell ?_ ?_ _) | (refine .inr ?_;first | (simp;done) | (simp;omega) | omega)))));rintro r w3 ⟨v,rfl,o1,o2,o3⟩;replace o1:=HZ.out▸o1;(try replace o2:=ae.undrew o2);replace o2:=ae.then0 k2 o2)))
  go_wp2
  go_ret
  exact⟨_,rfl,o1,P.out.2.1.then0 o2,o3.of (Nat.le_trans P.out.2.1.size k2.size)⟩
theorem FO (w:World):Calls Tryz.prog 240 #[.func (.func 239) #[] #[]] w fun r w'=>∃ k,r = .returned (.func (.func 268) #[] #[.pointer (some ⟨k,0,none⟩)])∧w'.cell? ⟨k,0,none⟩=some (.func (.func 239) #[] #[])∧ae ai w w'∧k<w'.heap.size:=by
 have hmf:∀ (fn:Fn) (first cap:Array Value) (w:World),(Instr.makeFunc fn first cap).run Tryz.prog w = .ok (.func fn first cap) w:=fun _ _ _ _=>rfl
 go_enter Tryz.func240,Tryz.ntmps240
 go_wp2
 go_ret
 exact⟨_,rfl,af (aF w _) 0,(ae.refl _ _).alloc _,by simp⟩
theorem ui:(Tryz.prog.info? 73).map (·.size)=some 6:=by kernel_rfl
theorem F6 {w:World}{k:Nat}{b:Value}{xs:List UInt8} (hk:w.cell? ⟨k,0,none⟩=some (.func (.func 239) #[] #[])) (hkl:k<w.heap.size) (hb:Rd w b xs) (hl:xs.length≤1000000) :
    Calls Tryz.prog 268 #[b,.pointer (some ⟨k,0,none⟩)] w (fun r w'=>∃ (n0 n1 n2 n3 n4 n5:Nat) (e:Nat),r = .returned (.tuple #[.agg #[.int .u64 (n0:Nat),.int .u64 (n1:Nat),.int .u64 (n2:Nat),.int .u64 (n3:Nat),.int .u64 (n4:Nat),.int .u64 (n5:Nat)],.int .i64 e])∧fC [0,0,0,0,0,0] xs=([⟨0,n0,[]⟩,⟨0,n1,[]⟩,⟨0,n2,[]⟩,⟨0,n3,[]⟩,⟨0,n4,[]⟩,⟨0,n5,[]⟩],e)∧ae ai w w'):=by
  obtain⟨a,c,rfl,hlm⟩:=hb.form
  obtain⟨Q,hQ⟩:∃ Q:Ending→World→Prop,Q=(fun r w'=>∃ (n0 n1 n2 n3 n4 n5:Nat) (e:Nat),r = .returned (.tuple #[.agg #[.int .u64 (n0:Nat),.int .u64 (n1:Nat),.int .u64 (n2:Nat),.int .u64 (n3:Nat),.int .u64 (n4:Nat),.int .u64 (n5:Nat)],.int .i64 e])∧fC [0,0,0,0,0,0] xs=([⟨0,n0,[]⟩,⟨0,n1,[]⟩,⟨0,n2,[]⟩,⟨0,n3,[]⟩,⟨0,n4,[]⟩,⟨0,n5,[]⟩],e)∧ae ai w w'):=⟨_,rfl⟩
  show Calls _ _ _ _ (fun r w'=>∃ (n0 n1 n2 n3 n4 n5:Nat) (e:Nat),r = .returned (.tuple #[.agg #[.int .u64 (n0:Nat),.int .u64 (n1:Nat),.int .u64 (n2:Nat),.int .u64 (n3:Nat),.int .u64 (n4:Nat),.int .u64 (n5:Nat)],.int .i64 e])∧fC [0,0,0,0,0,0] xs=([⟨0,n0,[]⟩,⟨0,n1,[]⟩,⟨0,n2,[]⟩,⟨0,n3,[]⟩,⟨0,n4,[]⟩,⟨0,n5,[]⟩],e)∧ae ai w w')
  rw [← hQ]
  have HQ:=lh hQ
  have P:=lh (CP w #[.int .u64 0,.int .u64 0,.int .u64 0,.int .u64 0,.int .u64 0,.int .u64 0] 73 _ rfl)
  have HB:=lh hb
  have HK:=lh (And.intro hk hkl)
  have HL:=lh hl
  clear hQ hb hk hkl hl hlm
  go_enter Tryz.func268,Tryz.ntmps268
  go_wp2_with fail
  generalize World.alloc (World.alloc (World.alloc w _) _) _=w3 at *
  obtain⟨p0,p1,p2,p3,p4⟩:=P.out
  refine (rM (HB.out.keep p3 (fun _ _ x=>x)) (Nat.le_trans HL.out (Nat.le_of_ble_eq_true rfl))).mono ?_
  rintro r w4 ⟨g,v,rfl,hr,m4,hg,hf⟩
  have G:=lh (zt (B:=w.heap.size+1) (es:=[(w.heap.size,.cells #[.int .u64 0,.int .u64 0,.int .u64 0,.int .u64 0,.int .u64 0,.int .u64 0] 73 (0,0)),(w.heap.size+1+1,.cells #[.int .u64 0,.int .u64 0,.int .u64 0,.int .u64 0,.int .u64 0,.int .u64 0] 73 (0,0))]) p1 (GL p0 p2) p3 hr m4 hg hf _ rfl)
  have c0:=jG G.out.2.1 HK.out.1 HK.out.2
  have HG:=lh (show w.heap.size<g+1∧w.heap.size+1<g∧g<w4.heap.size∧w.heap.size≤w4.heap.size from⟨by omega,by omega,hr.lt,by have:=m4.size;omega⟩)
  clear hr m4 hg hf p0 p2 p1 p3 p4 P
  have z5:(w4.alloc (.cells #[.pointer none,.pointer (some ⟨g,0,none⟩)] 314)).heap.size=w4.heap.size+1:=by simp
  have Z5:=lh z5
  clear z5
  go_wp2_with fail
  generalize World.alloc w4 _=w5 at *
  refine (Iq G.out.1 (Nat.le_trans HL.out (Nat.le_of_ble_eq_true rfl))).mono ?_
  rintro r w6 ⟨rfl,n0,n1,n2,n3,n4,n5,s,hs,ht⟩
  obtain⟨⟨v',t1⟩,t2,t3⟩:=G.out.2.2 _ _ _ ht
  have Y:=lh (t3 (by omega))
  have R:=lh t1
  have HR:=lh hs
  have HS:=lh (fun x (hm:ae (fun i=>i=g) w6 x)=>have y:=GY.step Y.out hm;have h0:=y.get 0 rfl;show x.cell? ⟨k,0,none⟩=some (.func (.func 239) #[] #[])∧x.cell? ⟨w4.heap.size,1,none⟩=some (.pointer (some ⟨g,0,none⟩))∧x.cell? ⟨w.heap.size+1,0,none⟩=some (.int .u64 (n0:Nat))∧x.cell? ⟨w.heap.size+1,1,none⟩=some (.int .u64 (n1:Nat))∧x.cell? ⟨w.heap.size+1,2,none⟩=some (.int .u64 (n2:Nat))∧x.cell? ⟨w.heap.size+1,3,none⟩=some (.int .u64 (n3:Nat))∧x.cell? ⟨w.heap.size+1,4,none⟩=some (.int .u64 (n4:Nat))∧x.cell? ⟨w.heap.size+1,5,none⟩=some (.int .u64 (n5:Nat))∧ae (fun i=>i=g) w6 x from⟨jG y.mods HK.out.1 HK.out.2,af (y.get 1 rfl) 1,af h0 0,af h0 1,af h0 2,af h0 3,af h0 4,af h0 5,hm⟩)
  clear ht t1 t2 t3 c0 G hs
  go_wp2
  by_cases he:s=([],0)
  · subst he
    have HE:=lh (fun wy (hm:ae ai w6 wy)=>Bq (R.out.keep hm (fun x=>x) (fun _ _ x=>x)))
    have HX:=lh (uu HR.out)
    have ho:=(vW [0,0,0,0,0,0] (xs,0) (by decide)).1
    rw [HR.out] at ho
    have HO:=lh (show gu [n0,n1,n2,n3,n4,n5] from (fE (ho ⟨0,n0,[]⟩ (List.mem_of_getElem? (i:=0) rfl)).n (fE (ho ⟨0,n1,[]⟩ (List.mem_of_getElem? (i:=1) rfl)).n (fE (ho ⟨0,n2,[]⟩ (List.mem_of_getElem? (i:=2) rfl)).n (fE (ho ⟨0,n3,[]⟩ (List.mem_of_getElem? (i:=3) rfl)).n (fE (ho ⟨0,n4,[]⟩ (List.mem_of_getElem? (i:=4) rfl)).n (fE (ho ⟨0,n5,[]⟩ (List.mem_of_getElem? (i:=5) rfl)).n uh)))))))
    clear ho
    have HV:=lh (fun wy (hm:ae (fun i=>i=g) w6 wy)=>HB.out.keep (Y.out.step hm).mods (fun _ _ x=>x))
    clear R
    go_region_held3 (fun x=>x.cell? ⟨k,0,none⟩=some (.func (.func 239) #[] #[])∧x.cell? ⟨w4.heap.size,1,none⟩=some (.pointer (some ⟨g,0,none⟩))∧x.cell? ⟨w.heap.size+1,0,none⟩=some (.int .u64 (n0:Nat))∧x.cell? ⟨w.heap.size+1,1,none⟩=some (.int .u64 (n1:Nat))∧x.cell? ⟨w.heap.size+1,2,none⟩=some (.int .u64 (n2:Nat))∧x.cell? ⟨w.heap.size+1,3,none⟩=some (.int .u64 (n3:Nat))∧x.cell? ⟨w.heap.size+1,4,none⟩=some (.int .u64 (n4:Nat))∧x.cell? ⟨w.heap.size+1,5,none⟩=some (.int .u64 (n5:Nat))∧ae (fun i=>i=g) w6 x)
      ((refine HS.out _ ?_;exact (by repeat' (first | (with_reducible first | exact ae.refl _ _ | assumption | refine ae.alloc ?_ _ | refine ae.drew ?_ | refine ae.drewN ?_ _ | refine ae.regrown ?_ _ _ | refine ae.setCell ?_ ?_ _) | (refine .inr ?_;first | (simp;done) | (simp;omega) | omega)))))
      ((first
        | (go_at_call 229;refine (HE.out _ ?_).mono ?_;(next=>exact (by repeat' (first | (with_reducible first | exact ae.refl _ _ | assumption | refine ae.alloc ?_ _ | refine ae.drew ?_ | refine ae.drewN ?_ _ | refine ae.regrown ?_ _ _ | refine ae.setCell ?_ ?_ _) | (refine .inr ?_;first | (simp;done) | (simp;omega) | omega))));rintro r w7 ⟨rfl,m7⟩;(try replace m7:=ae.undrew m7))
        | (go_at_call 238;refine (yR _).mono ?_;rintro r w8 ⟨k2,rfl,kX,nX,lX⟩;(try replace nX:=ae.undrew nX);replace nX:=ae.then0 m7 nX)
        | (go_at_call 267;refine (yP (k:=k2) ?_ ?_ HO.out).mono ?_;(next=>(refine jG ?_ kX lX;exact (by repeat' (first | (with_reducible first | exact ae.refl _ _ | assumption | refine ae.alloc ?_ _ | refine ae.drew ?_ | refine ae.drewN ?_ _ | refine ae.regrown ?_ _ _ | refine ae.setCell ?_ ?_ _) | (refine .inr ?_;first | (simp;done) | (simp;omega) | omega)))));(next=>(refine ae.size_of (S:=ai) (a:=w8) ?_ lX;exact (by repeat' (first | (with_reducible first | exact ae.refl _ _ | assumption | refine ae.alloc ?_ _ | refine ae.drew ?_ | refine ae.drewN ?_ _ | refine ae.regrown ?_ _ _ | refine ae.setCell ?_ ?_ _) | (refine .inr ?_;first | (simp;done) | (simp;omega) | omega)))));rintro r w9 ⟨u,rfl,o1,o2,o3⟩;(try replace o2:=ae.undrew o2);replace o2:=ae.then0 nX o2)
        | (go_at_call 211;refine (wL HX.out ?_ (HV.out _ ?_)).mono ?_;(next=>(refine Rd.keep (S:=ai) (w:=w9) o1.rd ?_ (fun _ _ x=>x);exact (by repeat' (first | (with_reducible first | exact ae.refl _ _ | assumption | refine ae.alloc ?_ _ | refine ae.drew ?_ | refine ae.drewN ?_ _ | refine ae.regrown ?_ _ _ | refine ae.setCell ?_ ?_ _) | (refine .inr ?_;first | (simp;done) | (simp;omega) | omega)))));(next=>exact (by repeat' (first | (with_reducible first | exact ae.refl _ _ | assumption | refine ae.alloc ?_ _ | refine ae.drew ?_ | refine ae.drewN ?_ _ | refine ae.regrown ?_ _ _ | refine ae.setCell ?_ ?_ _) | (refine .inr ?_;first | (simp;done) | (simp;omega) | omega))));rintro r w10 ⟨rfl,m10⟩;(try replace m10:=ae.undrew m10);replace m10:=ae.then0 o2 m10)))
    have y:=Y.out.step m10
    have g0:=y.get 2 rfl
    have x0:=af (y.get 0 rfl) 0
    have x1:=af (y.get 0 rfl) 1
    have x2:=af (y.get 0 rfl) 2
    have x3:=af (y.get 0 rfl) 3
    have x4:=af (y.get 0 rfl) 4
    have x5:=af (y.get 0 rfl) 5
    have MY:=lh (And.intro y.mods m10)
    clear y HE HS HV kX nX o1 o2 o3
    go_wp2_with (refine dm rfl rfl g0 rfl rfl ui rfl rfl ?_;intro w11 q1 q2 q3;have c11:=af q1)
    refine bodyPost_ret (by simp [results,Tryz.results268,go_sem,c11];try rfl) rfl ?_
    rw [HQ.out]
    exact⟨n0,n1,n2,n3,n4,n5,0,rfl,tK HR.out,MY.out.1.trans q2 (fun _ _ x=>x) (fun i hi x=>by omega)⟩
  · have HE:=lh (fun wy (hm:ae ai w6 wy)=>Be (R.out.keep hm (fun x=>x) (fun _ _ x=>x)) he)
    clear R
    obtain⟨_,b1,_⟩:=HS.out w6 (ae.refl _ _)
    refine rQ 2 (by kernel_rfl) (by kernel_rfl) ?_
    simp only [List.take_succ_cons,List.take_zero,List.drop_succ_cons,List.drop_zero]
    repeat (quiet_step (fail))
    refine wpQuiet_nil ?_
    intro w7' h7
    obtain⟨q7,h7⟩:=h7
    subst h7
    refine xQ (by rfl) ?_
    go_wp2_with (go_at_call 229;refine (HE.out _ ?_).mono ?_;(next=>exact (by repeat' (first | (with_reducible first | exact ae.refl _ _ | assumption | refine ae.alloc ?_ _ | refine ae.drew ?_ | refine ae.drewN ?_ _ | refine ae.regrown ?_ _ _ | refine ae.setCell ?_ ?_ _) | (refine .inr ?_;first | (simp;done) | (simp;omega) | omega))));rintro r w7 ⟨ee,rfl,hee,hen,m7⟩)
    refine vF ?_
    clear b1
    repeat (quiet_step (fail))
    refine wpQuiet_nil ?_
    intro w8 h8
    obtain⟨q8,h8⟩:=h8
    subst h8
    replace m7:=((ae.refl (fun i=>i=g) w6).drewN q7).trans m7 (fun _ _ x=>x) (fun _ _ x=>x)
    have m10:=ae.drewN m7 q8
    have y:=Y.out.step m10
    have g0:=y.get 2 rfl
    have x0:=af (y.get 3 rfl) 0
    have x1:=af (y.get 3 rfl) 1
    have x2:=af (y.get 3 rfl) 2
    have x3:=af (y.get 3 rfl) 3
    have x4:=af (y.get 3 rfl) 4
    have x5:=af (y.get 3 rfl) 5
    have MY:=lh (And.intro y.mods m10)
    clear y HE HS
    go_wp2_with (refine dm rfl rfl g0 rfl rfl ui rfl rfl ?_;intro w11 q1 q2 q3;have c11:=af q1)
    refine bodyPost_ret (by simp [results,Tryz.results268,go_sem,c11];try rfl) rfl ?_
    rw [HQ.out]
    exact⟨0,0,0,0,0,0,80,rfl,wO HR.out he,MY.out.1.trans q2 (fun _ _ x=>x) (fun i hi x=>by omega)⟩
theorem EN {w:World}{b:Value}{xs:List UInt8} (hb:Rd w b xs) (hl:xs.length≤1000000) :
  Calls Tryz.prog 185 #[b] w (fun r w'=>∃ (n0 n1 n2 n3 n4 n5:Nat) (e:Nat),r = .returned (.tuple #[.agg #[.int .u64 (n0:Nat),.int .u64 (n1:Nat),.int .u64 (n2:Nat),.int .u64 (n3:Nat),.int .u64 (n4:Nat),.int .u64 (n5:Nat)],.int .i64 e])∧fC [0,0,0,0,0,0] xs=([⟨0,n0,[]⟩,⟨0,n1,[]⟩,⟨0,n2,[]⟩,⟨0,n3,[]⟩,⟨0,n4,[]⟩,⟨0,n5,[]⟩],e)∧ae ai w w'):=by
 obtain⟨a,c,rfl,hlm⟩:=hb.form
 have P:=lh (qR w #[.int .u64 0,.int .u64 0,.int .u64 0,.int .u64 0,.int .u64 0,.int .u64 0] 73 _ rfl)
 have HB:=lh hb
 have HL:=lh hl
 clear hb hl hlm
 go_enter Tryz.func185,Tryz.ntmps185
 go_wp2_with fail
 generalize World.alloc w _=w1 at *
 refine (FO w1).mono ?_
 rintro r w2 ⟨k,rfl,k1,k2,k3⟩
 have M:=lh (P.out.2.1.then0 k2)
 have H1:=lh (je k2 P.out.1)
 have HZ:=lh (show w.heap.size<w2.heap.size from by have:=P.out.2.2;have:=k2.size;omega)
 have K:=lh (And.intro k1 k3)
 clear k1 k2 k3
 go_wp2_with fail
 refine (F6 K.out.1 K.out.2 (HB.out.keep M.out (fun _ _ x=>x)) HL.out).mono ?_
 rintro r w3 ⟨n0,n1,n2,n3,n4,n5,e,rfl,hg,hm⟩
 have g0:=je hm H1.out
 have R:=lh (And.intro hg (M.out.then0 hm))
 clear hg hm
 go_wp2_with (refine dm rfl rfl g0 rfl rfl ui rfl rfl ?_;intro w11 q1 q2 q3;have c11:=af q1)
 refine bodyPost_ret (by simp [results,Tryz.results185,go_sem,c11];try rfl) rfl ?_
 exact⟨n0,n1,n2,n3,n4,n5,e,rfl,R.out.1,R.out.2.trans q2 (fun _ _ x=>x) (fun i hi x=>by omega)⟩
end Go.Proofs.YtglkmaalpammcaaGreat

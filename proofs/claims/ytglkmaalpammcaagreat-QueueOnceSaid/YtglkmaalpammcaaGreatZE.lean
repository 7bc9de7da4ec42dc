/- Parts of the proof, one behind the other: ERdN, ERdP, ERdS, RStp, RecP, RecG, BkP, QuO0, Qu0, SepI, EKnown, Thr, ThrR, RecF, BEq, RecH, RqAccount, Bk0, BkG, BkM, RqChain, RqNumber, QuS, KPlain, BkLw, KNum, KPlain2. -/
import Derived.Test.YtglkmaalpammcaaGreatZD
import Derived.Test.YtglkmaalpammcaaGreatZB
import Derived.Test.YtglkmaalpammcaaGreatZA
import Derived.StillTailTactics
import Derived.Deep.RegionHeld3
import Derived.Lib.BufferRead
set_option maxHeartbeats 64000000
set_option linter.unusedSimpArgs false
set_option linter.unusedVariables false
set_option maxRecDepth 100000
namespace Go.Proofs.YtglkmaalpammcaaGreat
open Go.Gl Go.RowKit
abbrev fJ:=List UInt8 × Int
def est (n:Nat) (s:fJ):fJ:=(um n s.1 s.2,oZ n s.1 s.2)
def fO (n:Nat) (s:fJ):Nat:=jZ n s.1 s.2
def rO (s:fJ):fJ:=if s.2=0∧1<fO 1 s then (s.1,41) else est 1 s
def AO (xs:List UInt8) (e:Int):Int:=if e=0∧xs.length≠0 then 43 else e
theorem JM {w:World}{g:Nat}{v:Value}{xs:List UInt8}{e:Int} (h:Rr w g v xs e) :
  Calls Tryz.prog 229 #[.pointer (some ⟨g,0,none⟩)] w (vV (.int .i64 (AO xs e)) w g v xs (AO xs e)):=by
 obtain⟨a,c,rfl,_⟩:=h.rd.form
 have c:=af h.heap
 have H:=lh h
 by_cases hz:xs.length=0
 ·have he:AO xs e=e:=if_neg (fun x=>x.2 hz)
  rw [he]
  rw [hz] at c H ⊢
  clear h he hz
  go_enter Tryz.func229,Tryz.ntmps229
  go_wp2
  go_ret
  exact⟨rfl,_,jK.refl H.out⟩
 ·have he:AO xs e=wM e 43:=by
   unfold AO wM
   by_cases h0:e=0
   ·rw [if_pos ⟨h0,hz⟩,if_pos h0]
   ·rw [if_neg (fun x=>h0 x.1),if_neg h0]
  rw [he]
  have hpos:(0:Int)<(xs.length:Int):=by omega
  generalize xs.length=n at *
  clear h he hz
  go_enter Tryz.func229,Tryz.ntmps229
  go_wp2_with fail
  refine (vz 43 H.out).mono ?_
  rintro r w1 ⟨rfl,v1,h1⟩
  have c1:=af h1.rr.heap
  have H1:=lh h1
  clear h1
  go_wp2
  go_ret
  exact⟨rfl,v1,H1.out⟩
end Go.Proofs.YtglkmaalpammcaaGreat
namespace Go.Proofs.YtglkmaalpammcaaGreat
open Go.Gl Go.RowKit
theorem Rd.subA {w:World}{g off cap m:Nat}{xs:List UInt8} (h:Rd w (.slice (some ⟨g,off,none⟩) m cap) xs) (hm:xs.length=m) (i n:Nat) (hi:i+n≤m) (hc:m≤cap) (hcm:cap≤maxLen) {A:Option Addr} (hA:(if cap=i then (some ⟨g,off,none⟩:Option Addr) else some ⟨g,off+i,none⟩)=A) :
  Rd w (.slice A n (cap - i)) ((xs.drop i).take n)∧∀ k,(Value.slice A n (cap - i)).ownBlock=some k→k=g:=by
 subst hm hA
 by_cases hci:cap=i
 ·rw [if_pos hci]
  obtain rfl:n=0:=by omega
  refine⟨?_,fun k hk=>by simpa [Value.ownBlock] using hk.symm⟩
  rw [List.take_zero]
  rcases h.open with ⟨h1,_⟩ | ⟨g',off',cap',h1,_,_,h4,_⟩
  ·exact h1.no.elim
  ·cases h1
   exact⟨rfl,.inr ⟨g,off,_,rfl,Nat.zero_le _,by omega,.inl rfl,fun j u hj=>by simp [bv] at hj⟩⟩
 ·rw [if_neg hci]
  exact⟨h.sub i n (cap - i) hi (by omega) (by omega),fun k hk=>by simpa [Value.ownBlock] using hk.symm⟩
theorem Rr.setA {w:World}{g gb off ca n m c':Nat}{xs ys:List UInt8}{e:Int}{A:Option Addr} (h:Rr w g (.slice (some ⟨gb,off,none⟩) n ca) xs e) (hr:Rd w (.slice A m c') ys) (hA:∀ k,(Value.slice A m c').ownBlock=some k→k=gb) :
  jK w g (.slice (some ⟨gb,off,none⟩) n ca) ys e (w.setCell ⟨g,0,none⟩ (.slice A m c')) (.slice A m c'):=by
 have hne:gb≠g:=fun e=>h.apart (by rw [e];rfl)
 refine⟨⟨?_,hr.keep (ae.one _ _ _ _) (fun k hk e=>hne (by rw [← hA k hk,e])),fun e=>hne (hA g e).symm,fun k hk=>by have:=h.blt gb rfl;rw [hA k hk];simpa [World.setCell] using this⟩,ae.one _ _ _ _,fun k hk=>by rw [hA k hk];rfl⟩
 have:=heap_set h.heap 0 (.slice A m c')
 simpa using this
theorem jK.from {w w1 w2:World}{g:Nat}{v v2:Value}{xs:List UInt8}{e:Int} (h:jK w1 g v xs e w2 v2) (hm:ae ai w w1):jK w g v xs e w2 v2 :=
 ⟨h.rr,hm.trans h.mods (fun _ _ x=>x.elim) (fun _ _ x=>x),h.blk⟩
theorem Ht {w:World}{g:Nat}{v:Value}{xs:List UInt8} (z:Nat) (hz:z<256) (h:Rr w g v xs 0) (hl:xs.length<1+z) :
  Calls Tryz.prog 311 #[.pointer (some ⟨g,0,none⟩),.int .i64 1,.int .i64 z,.func (Fn.func 312) #[] #[]] w (vV (.slice none 0 0) w g v xs 40):=by
 obtain⟨a,ca,rfl,h1⟩:=h.rd.form
 have c:=af h.heap
 have R:=lh h
 clear h
 generalize hx:xs.length=len at *
 have HX:=lh hx
 clear hx h1
 go_enter Tryz.func311,Tryz.ntmps311
 go_wp2_with fail
 refine (vz 40 R.out).mono ?_
 rintro r w1 ⟨rfl,v1,hs⟩
 have HS:=lh hs
 clear hs
 go_wp2
 go_ret
 exact⟨rfl,_,HS.out⟩
def NU (w:World) (g:Nat) (v:Value) (xs:List UInt8) (z:Nat) (r:Ending) (w':World):Prop :=
 (((xs.drop 1).take z)[0]?=some 0∧r = .returned (.slice none 0 0)∧∃ v',jK w g v xs 41 w' v') ∨
 (((xs.drop 1).take z)[0]?≠some 0∧∃ u v',r = .returned u∧RN w' u (tY 18446744073709551616 (num ((xs.drop 1).take z)))∧aG w u∧jK w g v (xs.drop (1+z)) 0 w' v')
theorem Md {w:World}{g gb off len ca:Nat}{xs:List UInt8} (z:Nat) (hz:z<256) (h:Rr w g (.slice (some ⟨gb,off,none⟩) len ca) xs 0) (hlen:xs.length=len) (hl:1+z≤len) (hll:len≤10000000000) :
  Calls Tryz.prog 311 #[.pointer (some ⟨g,0,none⟩),.int .i64 1,.int .i64 z,.func (Fn.func 312) #[] #[]] w (NU w g (.slice (some ⟨gb,off,none⟩) len ca) xs z):=by
 obtain⟨_,c9,hc9,_⟩:=h.rd.form
 have hcc:len≤ca∧ca≤maxLen:=by
  rcases h.rd.open with ⟨h1,_⟩ | ⟨g',off',cap',h1,h2,h3,_⟩
  ·exact h1.no.elim
  ·cases h1;omega
 obtain⟨hc1,hc2⟩:=hcc
 have hcm:ca≤9223372036854775807:=by simp only [maxLen] at hc2;omega
 obtain⟨A1,hA1⟩:∃ A,(if ca=1 then (some ⟨gb,off,none⟩:Option Addr) else some ⟨gb,off+1,none⟩)=A:=⟨_,rfl⟩
 obtain⟨A2,hA2⟩:∃ A,(if ca=1+z then (some ⟨gb,off,none⟩:Option Addr) else some ⟨gb,off+(1+z),none⟩)=A:=⟨_,rfl⟩
 have s1:=Rd.subA h.rd hlen 1 z hl hc1 hc2 hA1
 have s2:=Rd.subA h.rd hlen (1+z) (len - (1+z)) (by omega) hc1 hc2 hA2
 rw [List.take_of_length_le (by rw [List.length_drop];omega)] at s2
 have c:=af h.heap
 have f:=bY h.heap
 have H:=lh h
 have S1:=lh s1
 have S2:=lh s2
 have HL:=lh hlen
 clear h s1 s2 hlen hc9 hc2
 go_enter Tryz.func311,Tryz.ntmps311
 go_wp2_with (at_builtin;refine stop ?_)
 unfold Stop
 rw [show 1+z - 1=z from by omega]
 refine jr rfl rfl [] ((xs.drop 1).take z) (Gl.Own.nil _) S1.out.1 rfl rfl (by simp [HL.out];omega) ?_
 intro u w1 o1 m1 f1
 have M1:=lh (m1.mono (T:=ai) (fun i _ x=>(CV x).elim))
 have o1':Gl.Own w1 u ((xs.drop 1).take z):=o1
 have HF:=lh (Rl o1'.rd (by simp [HL.out];omega))
 have S2':=lh (S2.out.1.keep M1.out (fun _ _ x=>x))
 have HR:=lh (H.out.keep M1.out (fun x=>x) (fun _ _ x=>x))
 have c1:=af HR.out.heap
 have f1':=bY HR.out.heap
 clear o1 o1' m1 f1 c f
 go_wp2_with fail
 refine HF.out.mono ?_
 rintro r w2 (⟨hz0,rfl,rfl⟩ | ⟨hz0,u2,rfl,hr2,m2,f2⟩)
 ·have HZ:=lh hz0
  clear hz0 HF
  go_wp2_with fail
  refine (vz 41 HR.out).mono ?_
  rintro r w3 ⟨rfl,v3,h3⟩
  have H3:=lh (h3.from M1.out)
  clear h3
  go_wp2
  go_ret
  exact .inl ⟨HZ.out,rfl,v3,H3.out⟩
 ·have HZ:=lh hz0
  have M2:=lh (M1.out.then0 m2)
  have HR2:=lh (HR.out.keep m2 (fun x=>x) (fun _ _ x=>x))
  have S2'':=lh (S2'.out.keep m2 (fun _ _ x=>x))
  have R2:=lh (And.intro hr2 (f2.of M1.out.size))
  have c2:=af HR2.out.heap
  have f2':=bY HR2.out.heap
  clear hz0 HF hr2 m2 f2 c1 f1'
  have S2p:=lh S2.out.2
  by_cases hca:ca=1+z
  ·subst hca
   rw [if_pos rfl] at hA2
   subst hA2
   rw [show len - (1+z)=0 from by omega,Nat.sub_self] at S2'' S2p
   go_wp2
   go_ret
   refine .inr ⟨HZ.out,u2,_,rfl,dP.keep R2.out.1 (ae.one w2 g 0 _) (fun k hk e=>by have:=R2.out.2 k hk;have:=H.out.lt;omega),R2.out.2,jK.from (Rr.setA HR2.out (by first | exact S2''.out | simpa using S2''.out) (by first | exact S2p.out | simpa using S2p.out)) M2.out⟩
  ·rw [if_neg hca] at hA2
   subst hA2
   go_wp2
   go_ret
   refine .inr ⟨HZ.out,u2,_,rfl,dP.keep R2.out.1 (ae.one w2 g 0 _) (fun k hk e=>by have:=R2.out.2 k hk;have:=H.out.lt;omega),R2.out.2,jK.from (Rr.setA HR2.out (by first | exact S2''.out | simpa using S2''.out) (by first | exact S2p.out | simpa using S2p.out)) M2.out⟩
def PNat (w:World) (g:Nat) (v:Value) (xs:List UInt8) (z:Nat) (r:Ending) (w':World):Prop:=(xs.length<1+z∧vV (.slice none 0 0) w g v xs 40 r w')∨(1+z≤xs.length∧NU w g v xs z r w')
theorem Sj {w:World}{g:Nat}{v:Value}{xs:List UInt8}{e:Int} (h:Rr w g v xs e) (hk:ve 1 xs e=false) :
  Calls Tryz.prog 306 #[.pointer (some ⟨g,0,none⟩)] w (vV (.slice none 0 0) w g v xs (oZ 1 xs e)):=by
 have H:=lh h
 have HK:=lh hk
 clear h hk
 go_enter Tryz.func306,Tryz.ntmps306
 go_wp2_with fail
 refine (Am 1 H.out (by omega) (by omega)).mono ?_
 rw [HK.out]
 rintro r w1 ⟨rfl,v1,h1⟩
 have H1:=lh h1
 clear h1
 go_wp2
 go_ret
 exact⟨rfl,v1,H1.out⟩
theorem PD {w:World}{g:Nat}{v:Value}{xs:List UInt8} (h:Rr w g v xs 0) (hl:1≤xs.length) (hll:xs.length≤10000000000) :
  Calls Tryz.prog 306 #[.pointer (some ⟨g,0,none⟩)] w (fun r w'=>PNat w g v xs (jZ 1 xs 0) r w'):=by
 have hk:ve 1 xs 0=true:=by simp [ve,hl]
 have hre:oZ 1 xs 0=0:=by simp [oZ,hl]
 have H:=lh h
 have HK:=lh hk
 have HRE:=lh hre
 have hlt:=yh 1 xs 0
 simp at hlt
 have HP:Hid (∀ w1 v1,jK w g v xs 0 w1 v1→Calls Tryz.prog 311 #[.pointer (some ⟨g,0,none⟩),.int .i64 1,.int .i64 (jZ 1 xs 0),.func (Fn.func 312) #[] #[]] w1 (PNat w g v xs (jZ 1 xs 0))):=by
  intro w1 v1 h1
  by_cases hz:xs.length<1+jZ 1 xs 0
  ·refine (Ht _ hlt h1.rr hz).mono ?_
   rintro r w2 ⟨rfl,v2,h2⟩
   exact .inl ⟨hz,rfl,v2,h1.trans h2⟩
  ·rcases h1.rr.rd.open with ⟨_,rfl⟩ | ⟨gb,off,ca,rfl,_⟩
   ·simp at hl
   ·refine (Md _ hlt h1.rr rfl (by omega) hll).mono ?_
    rintro r w2 (⟨q1,q2,v2,q3⟩ | ⟨q1,u,v2,q2,q3,q4,q5⟩)
    ·exact .inr ⟨by omega,.inl ⟨q1,q2,v2,h1.trans q3⟩⟩
    ·exact .inr ⟨by omega,.inr ⟨q1,u,v2,q2,q3,q4.of h1.mods.size,h1.trans q5⟩⟩
 clear h hk hre
 obtain⟨z,hz⟩:∃ z,jZ 1 xs 0=z:=⟨_,rfl⟩
 rw [hz] at HP hlt
 have HZ:=lh hz
 clear hz
 go_enter Tryz.func306,Tryz.ntmps306
 go_wp2_with fail
 refine (Am 1 H.out (by omega) (by omega)).mono ?_
 rw [HK.out,HRE.out,HZ.out]
 rintro r w1 ⟨rfl,v1,h1⟩
 have H1:=lh h1
 clear h1
 go_wp2_with fail
 refine (HP.out _ _ H1.out).mono ?_
 rintro r w2 hp
 have e:∃ u,r = .returned u:=by
  rcases hp with ⟨_,h,_⟩ | ⟨_,⟨_,h,_⟩ | ⟨_,u,_,h,_⟩⟩
  ·exact⟨_,h⟩
  ·exact⟨_,h⟩
  ·exact⟨_,h⟩
 obtain⟨u,rfl⟩:=e
 have HQ:=lh hp
 clear hp
 go_wp2
 go_ret
 rw [HZ.out]
 exact HQ.out
end Go.Proofs.YtglkmaalpammcaaGreat
namespace Go.Proofs.YtglkmaalpammcaaGreat
open Go.Gl Go.RowKit
def lq (s:fJ):List UInt8:=(s.1.drop 1).take (fO 1 s)
def kK (s:fJ):List Nat:=if s.2=0∧1≤s.1.length∧1+fO 1 s≤s.1.length∧(lq s)[0]?≠some 0 then tY 18446744073709551616 (num (lq s)) else []
def oW (s:fJ):fJ:=if s.2=0 then (if 1≤s.1.length∧1+fO 1 s≤s.1.length then (if (lq s)[0]?=some 0 then (s.1,41) else (s.1.drop (1+fO 1 s),0)) else (s.1,40)) else s
def RNRes (ls:List Nat) (w:World) (g:Nat) (v:Value) (s:fJ) (r:Ending) (w':World):Prop:=∃ u v',r = .returned u∧RN w' u ls∧aG w u∧jK w g v s.1 s.2 w' v'
theorem Qp {w:World}{g:Nat}{v:Value}{s:fJ} (h:Rr w g v s.1 s.2) (hll:s.1.length≤10000000000) :
  Calls Tryz.prog 306 #[.pointer (some ⟨g,0,none⟩)] w (RNRes (kK s) w g v (oW s)):=by
 obtain⟨xs,e⟩:=s
 simp only at h hll
 unfold kK oW lq fO
 simp only
 by_cases hk:ve 1 xs e=true
 ·have hk2:=hk
  simp only [ve,Bool.and_eq_true,decide_eq_true_eq] at hk2
  obtain⟨rfl,hl⟩:=hk2
  refine (PD h hl hll).mono ?_
  rintro r w' (⟨h1,rfl,v',h2⟩ | ⟨h1,⟨h2,rfl,v',h3⟩ | ⟨h2,u,v',rfl,h4,h5,h6⟩⟩)
  ·rw [if_neg (fun x=>by omega),if_pos rfl,if_neg (fun x=>by omega)]
   exact⟨_,v',rfl,dP.nil _ _,aG.nil _,h2⟩
  ·rw [if_neg (fun x=>x.2.2.2 h2),if_pos rfl,if_pos ⟨hl,h1⟩,if_pos h2]
   exact⟨_,v',rfl,dP.nil _ _,aG.nil _,h3⟩
  ·rw [if_pos ⟨rfl,hl,h1,h2⟩,if_pos rfl,if_pos ⟨hl,h1⟩,if_neg h2]
   exact⟨u,v',rfl,h4,h5,h6⟩
 ·have hk2:ve 1 xs e=false:=by simpa using hk
  refine (Sj h hk2).mono ?_
  rintro r w' ⟨rfl,v',h2⟩
  simp only [ve,Bool.and_eq_true,decide_eq_true_eq] at hk
  rw [if_neg (fun x=>hk ⟨x.1,x.2.1⟩)]
  by_cases he:e=0
  ·have hl:¬ 1≤xs.length:=fun x=>hk ⟨he,x⟩
   rw [if_pos he,if_neg (fun x=>hl x.1)]
   have h3:oZ 1 xs e=40:=by simp [oZ,he,hl]
   rw [h3] at h2
   exact⟨_,v',rfl,dP.nil _ _,aG.nil _,h2⟩
  ·rw [if_neg he]
   have h3:oZ 1 xs e=e:=by simp [oZ,he]
   rw [h3] at h2
   exact⟨_,v',rfl,dP.nil _ _,aG.nil _,h2⟩
def RDRes (ls:List Nat) (w:World) (g:Nat) (v:Value) (s:fJ) (r:Ending) (w':World):Prop:=∃ u v',r = .returned (.agg #[u])∧RN w' u ls∧aG w u∧jK w g v s.1 s.2 w' v'
theorem Rq {w:World}{g:Nat}{v:Value}{s:fJ} (h:Rr w g v s.1 s.2) (hll:s.1.length≤10000000000) :
  Calls Tryz.prog 293 #[.pointer (some ⟨g,0,none⟩)] w (RDRes (kK s) w g v (oW s)):=by
 have h0:Rr (w.alloc (.cells #[.slice none 0 0] 75)) g v s.1 s.2:=h.keep ((ae.refl ai w).alloc _) (fun x=>x) (fun _ _ x=>x)
 have hg:=h.lt
 have H:=lh h0
 clear h0
 have HV:=lh h.blt
 clear h
 go_enter Tryz.func293,Tryz.ntmps293
 go_wp2_with fail
 refine (Qp H.out hll).mono ?_
 rintro r w1 ⟨u,v1,rfl,hr,hf,hs⟩
 have g1:=hs.mods.heap (aF w (.cells #[.slice none 0 0] 75)) (by omega)
 have c1:=af g1
 have f1:=bY g1
 obtain⟨a,c,rfl,_⟩:=dP.form hr
 have R:=lh (And.intro hr (And.intro hf hs))
 clear hr hf hs g1
 go_wp2
 refine bodyPost_ret (by simp [results,Tryz.results293,go_sem,c1];try rfl) rfl ?_
 obtain⟨hr,hf,hs⟩:=R.out
 have hf':aG w (Value.slice a (kK s).length c):=hf.of (by simp)
 refine⟨_,v1,rfl,dP.keep hr (ae.one w1 w.heap.size 0 _) (fun k hk e=>?_),hf',?_⟩
 ·have:=hf k hk
  simp at this
  omega
 ·have h5:=hs.from ((ae.refl ai w).alloc (.cells #[.slice none 0 0] 75))
  exact⟨h5.rr.keep (ae.one w1 w.heap.size 0 _) (by omega) (fun k hk e=>by have:=HV.out k (h5.blk k hk);omega),h5.mods.setCell (.inr (Nat.le_refl _)) _,h5.blk⟩
end Go.Proofs.YtglkmaalpammcaaGreat
namespace Go.Proofs.YtglkmaalpammcaaGreat
open Go.Gl Go.RowKit
def xn (p q:fJ) (z:Bool):Prop:=(p.2≠0→z=true∧q=p)∧(p.2=0→q.2≠0→z=true∧q.1=p.1)∧q.1.length≤p.1.length
theorem xn.id (p:fJ):xn p p true:=⟨fun _=>⟨rfl,rfl⟩,fun h k=>absurd h k,Nat.le_refl _⟩
theorem Jn (n:Nat) (p:fJ) (h:p.2≠0):est n p=p∧fO n p=0:=by
 obtain⟨xs,e⟩:=p
 simp only at h
 simp [est,fO,um,oZ,jZ,h]
theorem xu (n:Nat) (xs:List UInt8) (h:n≤xs.length):est n (xs,0)=(xs.drop n,0)∧fO n (xs,0)=num (xs.take n):=by
 simp [est,fO,um,oZ,jZ,h]
theorem zg (n:Nat) (xs:List UInt8) (h:¬ n≤xs.length):est n (xs,0)=(xs,40)∧fO n (xs,0)=0:=by
 simp [est,fO,um,oZ,jZ,h]
theorem Oc (n:Nat) (p:fJ):xn p (est n p) (decide (fO n p=0)):=by
 obtain⟨xs,e⟩:=p
 by_cases he:e=0
 ·subst he
  by_cases hl:n≤xs.length
  ·obtain⟨h1,h2⟩:=xu n xs hl
   rw [h1]
   exact⟨fun x=>absurd rfl x,fun _ x=>absurd rfl x,by simp⟩
  ·obtain⟨h1,h2⟩:=zg n xs hl
   rw [h1,h2]
   exact⟨fun x=>absurd rfl x,fun _ _=>⟨rfl,rfl⟩,Nat.le_refl _⟩
 ·obtain⟨h1,h2⟩:=Jn n (xs,e) he
  rw [h1,h2]
  exact⟨fun _=>⟨rfl,rfl⟩,fun x=>absurd x he,Nat.le_refl _⟩
theorem Lc (p:fJ):xn p (rO p) (!decide (fO 1 p=1)):=by
 obtain⟨xs,e⟩:=p
 by_cases he:e=0
 ·subst he
  by_cases hl:1≤xs.length
  ·obtain⟨h1,h2⟩:=xu 1 xs hl
   unfold rO
   by_cases hb:1<fO 1 (xs,0)
   ·rw [if_pos ⟨rfl,hb⟩]
    exact⟨fun x=>absurd rfl x,fun _ _=>⟨by simp;omega,rfl⟩,Nat.le_refl _⟩
   ·rw [if_neg (fun x=>hb x.2),h1]
    exact⟨fun x=>absurd rfl x,fun _ x=>absurd rfl x,by simp⟩
  ·obtain⟨h1,h2⟩:=zg 1 xs hl
   unfold rO
   rw [h2,if_neg (fun x=>by omega),h1]
   exact⟨fun x=>absurd rfl x,fun _ _=>⟨rfl,rfl⟩,Nat.le_refl _⟩
 ·obtain⟨h1,h2⟩:=Jn 1 (xs,e) he
  unfold rO
  rw [h2,if_neg (fun x=>he x.1),h1]
  exact⟨fun _=>⟨rfl,rfl⟩,fun x=>absurd x he,Nat.le_refl _⟩
theorem Oa (p:fJ):xn p (oW p) (decide ((kK p).length=0)):=by
 obtain⟨xs,e⟩:=p
 unfold oW kK
 by_cases he:e=0
 ·subst he
  rw [if_pos rfl]
  by_cases hl:1≤xs.length∧1+fO 1 (xs,0)≤xs.length
  ·rw [if_pos hl]
   by_cases hb:(lq (xs,0))[0]?=some 0
   ·rw [if_pos hb,if_neg (fun x=>x.2.2.2 hb)]
    exact⟨fun x=>absurd rfl x,fun _ _=>⟨rfl,rfl⟩,Nat.le_refl _⟩
   ·rw [if_neg hb]
    exact⟨fun x=>absurd rfl x,fun _ x=>absurd rfl x,by simp⟩
  ·rw [if_neg hl,if_neg (fun x=>hl ⟨x.2.1,x.2.2.1⟩)]
   exact⟨fun x=>absurd rfl x,fun _ _=>⟨rfl,rfl⟩,Nat.le_refl _⟩
 ·rw [if_neg he,if_neg (fun x=>he x.1)]
  exact⟨fun _=>⟨rfl,rfl⟩,fun x=>absurd x he,Nat.le_refl _⟩
theorem CW (n:Nat) (xs:List UInt8) (h:(est n (xs,0)).2=0):xs=be n (fO n (xs,0)) ++ (est n (xs,0)).1:=by
 by_cases hl:n≤xs.length
 ·obtain⟨h1,h2⟩:=xu n xs hl
  rw [h1,h2]
  have:=Ho (xs.take n)
  rw [List.length_take,Nat.min_eq_left hl] at this
  rw [this,List.take_append_drop]
 ·obtain⟨h1,h2⟩:=zg n xs hl
  rw [h1] at h
  cases h
theorem Ri (xs:List UInt8) (h:(rO (xs,0)).2=0):xs=be 1 (if decide (fO 1 (xs,0)=1) then 1 else 0) ++ (rO (xs,0)).1:=by
 by_cases hb:1<fO 1 (xs,0)
 ·unfold rO at h
  rw [if_pos ⟨rfl,hb⟩] at h
  cases h
 ·have hS:rO (xs,0)=est 1 (xs,0):=by
   unfold rO
   rw [if_neg (fun x=>hb x.2)]
  rw [hS] at h ⊢
  have:=CW 1 xs h
  have e:(if decide (fO 1 (xs,0)=1)=true then 1 else 0)=fO 1 (xs,0):=by
   by_cases h1:fO 1 (xs,0)=1
   ·simp [h1]
   ·simp [h1];omega
  rw [e]
  exact this
theorem Fg (bs:List UInt8) (h:bs[0]?≠some 0):jA (num bs)=bs.length:=by
  cases bs with
  | nil=>rfl
  | cons c cs =>
    have hc:c.toNat≠0:=fun e=>h (by
      have:c=0:=UInt8.toNat_inj.1 (by simpa using e)
      simp [this])
    have h1:num (c :: cs)<256 ^ (cs.length+1):=ww (c :: cs)
    have h2:256 ^ cs.length≤num (c :: cs):=by
      rw [xP]
      have:1*256 ^ cs.length≤c.toNat*256 ^ cs.length:=Nat.mul_le_mul_right _ (by omega)
      omega
    exact Jw (by omega) h1 h2
theorem QP (bs:List UInt8) (h:bs[0]?≠some 0):qi (num bs)=bs:=by
 unfold qi
 rw [Fg bs h,Ho]
theorem Nq (xs:List UInt8) (h:1+fO 1 (xs,0)≤xs.length):(lq (xs,0)).length=fO 1 (xs,0):=by
 unfold lq
 rw [List.length_take,List.length_drop]
 simp only
 omega
theorem Uo (xs:List UInt8) (h:(oW (xs,0)).2=0):xs=qh (dB 18446744073709551616 (kK (xs,0))) ++ (oW (xs,0)).1∧jA (dB 18446744073709551616 (kK (xs,0)))≤255:=by
 unfold oW kK at *
 rw [if_pos rfl] at h ⊢
 by_cases hl:1≤xs.length∧1+fO 1 (xs,0)≤xs.length
 ·rw [if_pos hl] at h ⊢
  by_cases hb:(lq (xs,0))[0]?=some 0
  ·rw [if_pos hb] at h;cases h
  ·rw [if_neg hb,if_pos ⟨rfl,hl.1,hl.2,hb⟩,xJ (by omega)]
   have hn:=Nq xs hl.2
   have hlt:fO 1 (xs,0)<256:=by have:=yh 1 xs 0;simpa [fO] using this
   have hbl:=Fg _ hb
   refine⟨?_,by rw [hbl,hn];omega⟩
   unfold qh
   rw [hbl,hn,QP _ hb]
   have h1:=CW 1 xs (by rw [(xu 1 xs hl.1).1])
   rw [(xu 1 xs hl.1).1] at h1
   have h2:xs.drop 1=lq (xs,0) ++ xs.drop (1+fO 1 (xs,0)):=by
    unfold lq
    rw [← List.drop_drop,List.take_append_drop]
   rw [List.append_assoc,← h2]
   exact h1
 ·rw [if_neg hl] at h;cases h
theorem Ar (n x:Nat) (ys:List UInt8) (hx:x<256 ^ n):est n (be n x ++ ys,0)=(ys,0)∧fO n (be n x ++ ys,0)=x:=by
 obtain⟨h1,h2⟩:=xu n (be n x ++ ys) (by rw [List.length_append,bU];omega)
 rw [h1,h2,List.drop_left' (bU n x),List.take_left' (bU n x),xh,Nat.mod_eq_of_lt hx]
 exact⟨rfl,rfl⟩
theorem NJ (b:Bool) (ys:List UInt8):rO (be 1 (if b=true then 1 else 0) ++ ys,0)=(ys,0)∧decide (fO 1 (be 1 (if b=true then 1 else 0) ++ ys,0)=1)=b:=by
 obtain⟨h1,h2⟩:=Ar 1 (if b=true then 1 else 0) ys (by split <;> simp)
 unfold rO
 rw [h2,if_neg (fun x=>by have:=x.2;split at this <;> omega),h1]
 exact⟨rfl,by cases b <;> simp⟩
theorem BI (N:Nat):(qi N)[0]?≠some 0:=by
 intro h
 unfold qi jA at h
 have hlt:=CE (B:=256) (by omega) N
 have hv:=xJ (B:=256) (by omega) N
 generalize hds:tY 256 N=ds at *
 have hs:strip ds=ds:=by rw [← hds];exact rH _
 rcases List.eq_nil_or_concat ds with rfl | ⟨es,d,rfl⟩
 ·simp [be] at h
 ·have hd:d≠0:=by
   rintro rfl
   have:strip (es ++ [0])=strip es:=rE es [0] (fun x hx=>by simpa using hx)
   have hl:=qm es
   simp only [List.concat_eq_append] at hs
   rw [this] at hs
   rw [hs] at hl
   simp at hl
   omega
  simp only [List.concat_eq_append,List.length_append,List.length_singleton,be,List.getElem?_cons_zero,Option.some.injEq] at h
  have h2:=congrArg UInt8.toNat h
  rw [UInt8.toNat_ofNat'] at h2
  simp only [List.concat_eq_append,Ec] at hv
  have h3:=Df (B:=256) (ds:=es) (fun x hx=>hlt x (by simp [hx]))
  have h4:=hlt d (by simp)
  have h5:N / 256 ^ es.length=d:=by
   rw [← hv,Nat.add_mul_div_left _ _ (Nat.pow_pos (by omega)),Nat.div_eq_of_lt h3,Nat.zero_add]
  rw [h5,Nat.mod_eq_of_lt h4] at h2
  exact hd (by simpa using h2)
theorem PX (N:Nat):num (qi N)=N:=by
 unfold qi jA
 rw [xh]
 have h:=Df (B:=256) (ds:=tY 256 N) (CE (by omega) N)
 rw [xJ (by omega)] at h
 exact Nat.mod_eq_of_lt h
theorem Q5 (N:Nat) (ys:List UInt8) (h:jA N≤255):oW (qh N ++ ys,0)=(ys,0)∧kK (qh N ++ ys,0)=tY 18446744073709551616 N:=by
 obtain⟨h1,h2⟩:=Ar 1 (jA N) (qi N ++ ys) (by omega)
 have e:qh N ++ ys=be 1 (jA N) ++ (qi N ++ ys):=by simp [qh]
 rw [e]
 have hb:lq (be 1 (jA N) ++ (qi N ++ ys),0)=qi N:=by
  unfold lq
  rw [h2]
  simp only
  rw [List.drop_left' (bU _ _),List.take_left' (kw N)]
 have hl:(be 1 (jA N) ++ (qi N ++ ys)).length=1+(jA N+ys.length):=by
  rw [List.length_append,List.length_append,bU,kw]
 unfold oW kK
 rw [h2,hb,PX]
 simp only [hl]
 rw [if_pos trivial,if_pos (by omega),if_neg (BI N),if_pos ⟨trivial,by omega,by omega,BI N⟩]
 refine⟨?_,rfl⟩
 rw [← List.drop_drop,List.drop_left' (bU _ _),List.drop_left' (kw N)]
end Go.Proofs.YtglkmaalpammcaaGreat
namespace Go.Proofs.YtglkmaalpammcaaGreat
open Go.Gl Go.RowKit
structure iO where
 k:Nat
 n:Nat
 ls:List Nat
def pI (N:Nat):Nat:=if jA N≤255 then N else 0
theorem rG (N:Nat):jA (pI N)≤255:=by
 unfold pI
 split
 ·assumption
 ·decide
theorem He (N:Nat) (h:jA N≤255):pI N=N:=if_pos h
def iO.N (f:iO):Nat:=dB 18446744073709551616 f.ls
def iO.lay (f:iO):List UInt8:=if f.k=0 then be 8 f.n else if f.k=1 then be 1 (if decide (f.n=1)=true then 1 else 0) else qh (pI f.N)
def dC (fs:List iO):List UInt8:=fs.flatMap iO.lay
def rC (k:Nat) (s:fJ):iO × fJ :=
 if k=0 then (⟨0,fO 8 s,[]⟩,est 8 s) else if k=1 then (⟨1,if decide (fO 1 s=1)=true then 1 else 0,[]⟩,rO s) else (⟨2,0,kK s⟩,oW s)
def gX:List Nat→fJ→List iO × fJ
 | [],s=>([],s)
 | k :: ks,s=>((rC k s).1 :: (gX ks (rC k s).2).1,(gX ks (rC k s).2).2)
structure iO.Ok (f:iO):Prop where
 k:f.k≤2
 n:f.n≤18446744073709551615
 b:f.k=1→f.n≤1
 ls:gu f.ls
def iO.norm (f:iO):iO:=if f.k=0 then ⟨0,f.n,[]⟩ else if f.k=1 then ⟨1,f.n,[]⟩ else ⟨2,0,tY 18446744073709551616 (pI f.N)⟩
theorem Sm (N:Nat):gu (tY 18446744073709551616 N):=fun x hx=>by
 have:=CE (B:=18446744073709551616) (by omega) N x hx
 omega
theorem PO (f:iO) (h:f.Ok) (ys:List UInt8):rC f.k (f.lay ++ ys,0)=(f.norm,(ys,0)):=by
 have hn:=h.n
 have hb:=h.b
 unfold rC iO.lay iO.norm
 by_cases h0:f.k=0
 ·simp only [if_pos h0]
  obtain⟨h1,h2⟩:=Ar 8 f.n ys (by omega)
  rw [h1,h2]
 by_cases h1:f.k=1
 ·simp only [if_neg h0,if_pos h1]
  obtain⟨h2,h3⟩:=NJ (decide (f.n=1)) ys
  rw [h2,h3]
  have:=hb h1
  rcases (by omega:f.n=0∨f.n=1) with h4 | h4
  ·simp [h4]
  ·simp [h4]
 ·simp only [if_neg h0,if_neg h1]
  obtain⟨h2,h3⟩:=Q5 (pI f.N) ys (rG _)
  rw [h2,h3]
theorem KR (fs:List iO) (h:∀ f∈fs,f.Ok) (ys:List UInt8):gX (fs.map (·.k)) (dC fs ++ ys,0)=(fs.map iO.norm,(ys,0)):=by
  induction fs with
  | nil=>rfl
  | cons f fs ih =>
    have h1:=PO f (h f (List.mem_cons_self ..)) (dC fs ++ ys)
    have e:dC (f :: fs) ++ ys=f.lay ++ (dC fs ++ ys):=by simp [dC]
    rw [e,List.map_cons]
    simp only [gX,h1,ih (fun g hg=>h g (List.mem_cons_of_mem _ hg)),List.map_cons]
theorem Ue (k:Nat) (s:fJ) (h:s.2≠0):(rC k s).2=s:=by
 unfold rC
 split
 ·exact ((Oc 8 s).1 h).2
 split
 ·exact ((Lc s).1 h).2
 ·exact ((Oa s).1 h).2
theorem Ou (ks:List Nat) (s:fJ) (h:s.2≠0):(gX ks s).2=s:=by
  induction ks generalizing s with
  | nil=>rfl
  | cons k ks ih =>
    simp only [gX]
    have h1:=Ue k s h
    rw [h1]
    exact ih s h
theorem Su (k:Nat) (xs:List UInt8) (h:(rC k (xs,0)).2.2=0):xs=(rC k (xs,0)).1.lay ++ (rC k (xs,0)).2.1:=by
 unfold rC at *
 by_cases h0:k=0
 ·simp only [if_pos h0] at h ⊢
  exact CW 8 xs h
 by_cases h1:k=1
 ·simp only [if_neg h0,if_pos h1] at h ⊢
  have:=Ri xs h
  unfold iO.lay
  simp only [show ¬ (1:Nat)=0 from by omega,if_false,if_true]
  by_cases hb:fO 1 (xs,0)=1
  ·simp only [hb,decide_true,if_true] at this ⊢
   exact this
  ·simp only [hb,decide_false] at this ⊢
   simpa using this
 ·simp only [if_neg h0,if_neg h1] at h ⊢
  obtain⟨h2,h3⟩:=Uo xs h
  unfold iO.lay iO.N
  simp only [show ¬ (2:Nat)=0 from by omega,show ¬ (2:Nat)=1 from by omega,if_false]
  rw [He _ h3]
  exact h2
theorem Nk (ks:List Nat) (xs:List UInt8) (h:(gX ks (xs,0)).2.2=0):xs=dC (gX ks (xs,0)).1 ++ (gX ks (xs,0)).2.1:=by
  induction ks generalizing xs with
  | nil=>rfl
  | cons k ks ih =>
    simp only [gX] at h ⊢
    have h1:(rC k (xs,0)).2.2=0:=by
      by_cases he:(rC k (xs,0)).2.2=0
      · exact he
      · rw [Ou ks _ he] at h
        exact h
    have h2:=Su k xs h1
    have e:(rC k (xs,0)).2=((rC k (xs,0)).2.1,0):=Prod.ext rfl h1
    rw [e] at h
    have h3:=ih _ h
    rw [e]
    show xs=((rC k (xs,0)).1.lay ++ dC _) ++ _
    rw [List.append_assoc,← h3]
    exact h2
theorem VH (k:Nat) (s:fJ) (hk:k≤2):(rC k s).1.Ok∧(rC k s).1.k=k:=by
 unfold rC
 split
 ·have:=yh 8 s.1 s.2
  refine⟨⟨by simp,?_,fun x=>by simp at x,fun x hx=>by cases hx⟩,by simp;omega⟩
  simp only [fO]
  simp at this
  omega
 split
 ·exact⟨⟨by simp,by simp only;split <;> omega,fun _=>by simp only;split <;> omega,fun x hx=>by cases hx⟩,by simp;omega⟩
 ·refine⟨⟨by simp,by simp,fun x=>by simp at x,?_⟩,by simp only;omega⟩
  unfold kK
  split
  ·exact Sm _
  ·intro x hx
   cases hx
theorem vW (ks:List Nat) (s:fJ) (hk:∀ k∈ks,k≤2):(∀ f∈(gX ks s).1,f.Ok)∧(gX ks s).1.map (·.k)=ks:=by
  induction ks generalizing s with
  | nil=>exact⟨fun f hf=>(by cases hf),rfl⟩
  | cons k ks ih =>
    obtain⟨h1,h2⟩:=VH k s (hk k (List.mem_cons_self ..))
    obtain⟨h3,h4⟩:=ih (rC k s).2 (fun j hj=>hk j (List.mem_cons_of_mem _ hj))
    refine⟨fun f hf=>?_,by simp only [gX,List.map_cons,h2,h4]⟩
    rcases List.mem_cons.1 hf with rfl | hf
    · exact h1
    · exact h3 f hf
end Go.Proofs.YtglkmaalpammcaaGreat
namespace Go.Proofs.YtglkmaalpammcaaGreat
open Go.Gl Go.RowKit
def BC (k:Nat):iO:=⟨k,0,[]⟩
def fC (ks:List Nat) (xs:List UInt8):List iO × Nat :=
 if (gX ks (xs,0)).2=([],0) then ((gX ks (xs,0)).1,0) else (ks.map BC,80)
theorem EG (s:fJ):AO s.1 s.2=0↔s=([],0):=by
 obtain⟨xs,e⟩:=s
 unfold AO
 constructor
 ·intro h
  by_cases h0:e=0∧xs.length≠0
  ·rw [if_pos h0] at h
   omega
  ·rw [if_neg h0] at h
   simp only at h
   subst h
   have:xs=[]:=List.eq_nil_of_length_eq_zero (by omega)
   rw [this]
 ·intro h
  cases h
  simp
theorem tK {ks:List Nat}{xs:List UInt8}{fs:List iO} (h:gX ks (xs,0)=(fs,([],0))):fC ks xs=(fs,0):=by
 unfold fC
 rw [h,if_pos rfl]
theorem wO {ks:List Nat}{xs:List UInt8}{fs:List iO}{s:fJ} (h:gX ks (xs,0)=(fs,s)) (hs:s≠([],0)):fC ks xs=(ks.map BC,80):=by
 unfold fC
 rw [h,if_neg hs]
theorem uu {ks:List Nat}{xs:List UInt8}{fs:List iO} (h:gX ks (xs,0)=(fs,([],0))):dC fs=xs:=by
 have:=Nk ks xs (by rw [h])
 rw [h] at this
 simpa using this.symm
theorem uq (fs:List iO) (h:∀ f∈fs,f.Ok) {ks:List Nat} (hk:fs.map (·.k)=ks):fC ks (dC fs)=(fs.map iO.norm,0):=by
 subst hk
 have:=KR fs h []
 rw [List.append_nil] at this
 exact tK this
theorem wQ {ks:List Nat}{xs:List UInt8}{fs:List iO}{e:Nat} (hk:∀ k∈ks,k≤2) (h:fC ks xs=(fs,e)):(∀ f∈fs,f.Ok)∧fs.map (·.k)=ks:=by
 unfold fC at h
 split at h <;> cases h
 ·exact vW ks _ hk
 ·constructor
  ·intro f hf
   obtain⟨k,hk',rfl⟩:=List.mem_map.1 hf
   exact⟨hk k hk',by simp [BC],by simp [BC],fun x hx=>by cases hx⟩
  ·rw [List.map_map]
   exact List.map_id _
theorem OA (p:fJ):(kK p).length≤255:=by
 unfold kK
 split
 ·rename_i h
  have h1:(lq p).length≤255:=by
   unfold lq
   rw [List.length_take]
   have:fO 1 p<256:=by have:=yh 1 p.1 p.2;simpa [fO] using this
   omega
  have h2:=ww (lq p)
  have h3:256 ^ (lq p).length≤256 ^ 255:=Nat.pow_le_pow_right (by omega) h1
  have h4:256 ^ 255≤18446744073709551616 ^ 255:=Nat.pow_le_pow_left (by omega) 255
  have e:=Hq (B:=18446744073709551616) (n:=255) (x:=num (lq p)) (by omega) (Nat.lt_of_lt_of_le h2 (Nat.le_trans h3 h4))
  rw [e]
  exact Nat.le_trans (qm _) (Nat.le_of_eq (xe _ _ _))
 ·simp
theorem Ux (k:Nat) (s:fJ):(rC k s).1.ls.length≤255:=by
 unfold rC
 split
 ·simp
 split
 ·simp
 ·exact OA s
theorem Ie (ks:List Nat) (s:fJ):∀ f∈(gX ks s).1,f.ls.length≤255:=by
  induction ks generalizing s with
  | nil=>exact fun f hf=>by cases hf
  | cons k ks ih =>
    intro f hf
    rcases List.mem_cons.1 hf with rfl | hf
    · exact Ux k s
    · exact ih _ f hf
theorem ML {ks:List Nat}{xs:List UInt8}{fs:List iO}{e:Nat} (h:fC ks xs=(fs,e)):∀ f∈fs,f.ls.length≤255:=by
 unfold fC at h
 split at h <;> cases h
 ·exact Ie _ _
 ·intro f hf
  obtain⟨k,hk',rfl⟩:=List.mem_map.1 hf
  simp [BC]
end Go.Proofs.YtglkmaalpammcaaGreat
namespace Go.Proofs.YtglkmaalpammcaaGreat
open Go.Gl Go.RowKit
def two (xs:List UInt8):Nat × Nat:=match (fC [0,0] xs).1 with
 | [a,b]=>(a.n,b.n)
 | _=>(0,0)
theorem Gh {xs:List UInt8}{a b e:Nat} (h:fC [0,0] xs=([⟨0,a,[]⟩,⟨0,b,[]⟩],e)):two xs=(a,b):=by unfold two;rw [h]
def qJ (a b:Nat):List UInt8:=dC [⟨0,a,[]⟩,⟨0,b,[]⟩]
theorem qM {F:List aN} (h:iD F) (k v:List UInt8):iD (fV F k v):=by
 unfold fV
 split
 ·exact FT h k v
 ·exact h
theorem NP (n:Int) (a b:Nat):((iT n a b).getD []).length≤64:=by
  unfold iT
  cases hf:iw n.toNat with
  | none=>simp
  | some f =>
    simp only
    split
    · simp only [Option.getD_some]
      unfold iP jT
      simp only [List.length_append,List.length_singleton]
      have h1:(if f.a=true then be 8 (ja f a) else []).length≤8:=by split <;> simp [bU]
      have h2:(if f.mid.toNat=0 then ([]:List UInt8) else [f.mid]).length≤1:=by split <;> simp
      have h3:(if f.b=true then be 8 b else []).length≤8:=by split <;> simp [bU]
      omega
    · simp
theorem Ih (xs:List UInt8):(two xs).1≤18446744073709551615∧(two xs).2≤18446744073709551615:=by
 obtain⟨⟨fs,e⟩,hr⟩:∃ q,fC [0,0] xs=q:=⟨_,rfl⟩
 have h:=(wQ (by simp) hr).1
 unfold two
 rw [hr]
 simp only
 split
 ·rename_i a b
  exact⟨(h a (by simp)).n,(h b (by simp)).n⟩
 ·exact⟨by omega,by omega⟩
def bI (sg:Nat) (F:List aN) (n p:Nat):FP:=fun w S D=>∃ m q,m≤n∧q≤p∧KV w sg F [] m q S D
theorem bJ {sg:Nat}{F:List aN}{n p:Nat}:gK (bI sg F n p):=⟨fun⟨_,_,_,_,h⟩=>⟨KV.lt h |>.1,KV.lt h |>.2.1⟩,fun⟨m,q,a,b,h⟩ mm x y=>⟨m,q,a,b,KV.keep h mm x y⟩⟩
theorem bI.more {sg:Nat}{F:List aN}{n p n' p':Nat}{w:World}{S D:Nat→Prop} (h:bI sg F n p w S D) (hn:n≤n') (hp:p≤p'):bI sg F n' p' w S D:=by
 obtain⟨m,q,a,b,h⟩:=h
 exact⟨m,q,by omega,by omega,h⟩
theorem GS.any {prog:Program}{f:FuncId}{args:Array Value}{w:World}{Q:Nat→Prop}{r:Value}{ι:Type}{P P':ι→FP}{R R':FP} (h:∀ i,GS prog f args w (P i) Q r (P' i)) (h1:∀ S D,R w S D→∃ i,P i w S D) (h2:∀ w' S D i,P' i w' S D→(∀ S D,R w S D→True)→R' w' S D):GS prog f args w R Q r R':=GS.of fun S D p hQ=>by
 obtain⟨i,hi⟩:=h1 S D p
 refine (h i S D hi hQ).mono ?_
 rintro e w' ⟨v,P1,N,rfl,⟨rfl,rfl,_⟩,S',D',p',m,s,d,_⟩
 exact⟨rfl,S',D',h2 _ _ _ i p' (fun _ _ _=>trivial),m,s,d⟩
section
variable {w:World}{sg g n p:Nat}{F:List aN}{Q:Nat→Prop}
theorem qI {q u:Value}{ks vs:List UInt8} (hq:Rd w q ks) (hu:Rd w u vs) (oq:Off (fun k=>¬ Q k) q ks) (ou:Off (fun k=>¬ Q k) u vs) (hn:n≤1000000000000) (hp:p≤100000):GS Tryz.prog 74 #[.pointer (some ⟨sg,0,none⟩),q,u] w (bI sg F n p) Q (.int .i64 (jJ ks vs:Nat)) (bI sg (fV F ks vs) (n+1) (p+2)):=GS.of fun S D ⟨m,q',hm,hq',kv⟩ hQ=>by
 refine (VA hq hu oq ou (n:=m) (p:=q') (by omega) (by omega) S D kv hQ).mono ?_
 rintro e w' ⟨v,P1,N,rfl,⟨rfl,rfl,_⟩,S',D',p',m',s,d,_⟩
 exact⟨rfl,S',D',⟨_,_,by omega,by omega,p'⟩,m',s,d⟩
theorem wu {q:Value}{ks:List UInt8} (hq:Rd w q ks) (oq:Off (fun k=>¬ Q k) q ks) (lk:ks.length≤1000000) (hn:n≤1000000000000) (hp:p≤100000):GS Tryz.prog 145 #[.pointer (some ⟨sg,0,none⟩),q] w (bI sg F n p) Q (.bool (gz F ks).isSome) (bI sg (iC F ks) (n+1) (p+2)):=GS.of fun S D ⟨m,q',hm,hq',kv⟩ hQ=>by
 refine (Vq hq oq lk (n:=m) (p:=q') (by omega) (by omega) S D kv hQ).mono ?_
 rintro e w' ⟨v,P1,N,rfl,⟨rfl,rfl,_⟩,S',D',p',m',s,d,_⟩
 exact⟨rfl,S',D',⟨_,_,by omega,by omega,p'⟩,m',s,d⟩
theorem Bh {q:Value}{ks:List UInt8} (hq:Rd w q ks) (oq:Off (fun k=>¬ Q k) q ks) (hn:n≤1000000000000) (hp:p≤100000):GO Tryz.prog 93 #[.pointer (some ⟨sg,0,none⟩),q] w (bI sg F n p) Q (fun v => .tuple #[v,.bool (gz F ks).isSome]) ((gz F ks).getD []) (bI sg F (n+1) p):=fun S D ⟨m,q',hm,hq',kv⟩ hQ=>by
 refine (Vu hq oq (n:=m) (p:=q') (by omega) (by omega) S D kv hQ).mono ?_
 rintro e w' ⟨v,P1,N,rfl,⟨v',rfl,o,rfl,rfl⟩,S',D',p',rest⟩
 exact⟨_,_,_,rfl,⟨v',rfl,o,rfl,rfl⟩,S',D',⟨_,_,by omega,hq',p'⟩,rest⟩
end
end Go.Proofs.YtglkmaalpammcaaGreat
namespace Go.Proofs.YtglkmaalpammcaaGreat
open Go.Gl Go.RowKit
theorem run_sub64 {t:TypeId}{j:Nat} (b:World) (h:j≤18446744073709551614):(binOp .sub t (.int .u64 (((j+1:Nat):Nat):Int)) (.int .u64 1)).run Tryz.prog b = .ok (.int .u64 ((j:Nat):Int)) b:=by
 have e:IntKind.u64.wrap (j:Int)=(j:Int):=by
  simp [IntKind.wrap,IntKind.signed,IntKind.bits]
  omega
 simp [binOp,go_sem,e]
end Go.Proofs.YtglkmaalpammcaaGreat
namespace Go.Proofs.YtglkmaalpammcaaGreat
open Go.Gl Go.RowKit
section
variable {x0 x1 x2 x3 x4 x5 x6 x7 x8 x9 bg bn bi aY aU aS aT aW aZ aX bu bz bF bG bH bM bT bQ cO cZ di dw eH eP dW dQ dR dX dF dM dN dG dH dI dJ dK dL dE dY dO dS dU dZ ed eu eF eG eQ eU:Value}{df:List Deferred}{Q:Exit→Act→World→Prop}
theorem qnx4 {w:World}{sg ab h m:Nat}{X:World→Value→Prop}{Y:World→Value→Value→Prop}{Z:World→Prop} (ha:w.heap[ab]?=some (.cells #[.int .u64 ((h:Nat):Int),.int .u64 ((m:Nat):Int)] 95 (0,0))) (C1:∀ b',ae ai w b'→Calls Tryz.prog 116 #[.int .i64 2,.int .u64 0,.int .u64 0] b' fun e w'=>∃ f,e = .returned f∧X w' f) (C2:∀ b' f,X b' f→Calls Tryz.prog 107 #[.agg #[.int .u64 ((h:Nat):Int),.int .u64 ((m:Nat):Int)]] b' fun e w'=>∃ v,e = .returned v∧Y w' f v) (C3:∀ b' f v,Y b' f v→Calls Tryz.prog 74 #[.pointer (some ⟨sg,0,none⟩),f,v] b' fun e w'=>∃ r,e = .returned r∧Z w') (h1:∀ w' f,X w' f→ae ai w w') (h2:∀ w' f v,Y w' f v→ae ai w w')
  (hK:∀ (jD jl jQ jw jX:Value)  (w':World),Z w'→Q .normal ⟨#[.pointer (some ⟨sg,0,none⟩),x1,x2,x3,x4,.pointer (some ⟨ab,0,none⟩),x6,x7,x8,x9,bg,bn,bi,aY,aU,aS,aT,aW,aZ,aX,bu,bz,jD,jl,jQ,jw,jX,bQ,cO,cZ],df⟩ w'):RW Tryz.prog (aH 4 Tryz.f181) true Q ⟨#[.pointer (some ⟨sg,0,none⟩),x1,x2,x3,x4,.pointer (some ⟨ab,0,none⟩),x6,x7,x8,x9,bg,bn,bi,aY,aU,aS,aT,aW,aZ,aX,bu,bz,bF,bG,bH,bM,bT,bQ,cO,cZ],df⟩ w:=by
 have HQ:=lh hK
 clear hK
 have D1:=lh C1
 have D2:=lh C2
 have D3:=lh C3
 have H1:=lh h1
 have H2:=lh h2
 clear C1 C2 C3 h1 h2
 have QA:=lh (fun b' (hm:ae ai w b')=>show ∀ j u,[Value.int .u64 ((h:Nat):Int),.int .u64 ((m:Nat):Int)][j]?=some u→b'.cell? ⟨ab,0+j,none⟩=some u from fun j u hj=>by rw [Nat.zero_add];exact (af (hm.heap ha (fun x=>x)) j).trans (by rw [← hj];exact List.getElem?_toArray))
 have MR:=lh ((ae.refl ai w).drew)
 refine iq (S:=fun b'=>ae ai w b') [(0,true),(2,true),(1,false),(3,false),(4,false)] [4] (by kernel_rfl) (by kernel_rfl) (by kernel_rfl) (by kernel_rfl) MR.out ?_
 refine ag [0] [aj sg 0] rfl (by kernel_rfl) (fun _=>by kernel_rfl) ?_
 refine ah (.agg #[.int .u64 ((h:Nat):Int),.int .u64 ((m:Nat):Int)]) (some 24) (ki (by kernel_rfl)) (fun bb hb=>aB (x:=(.tmp 5)) (by kernel_rfl) (by kernel_rfl) (dD [.int .u64 ((h:Nat):Int),.int .u64 ((m:Nat):Int)] (QA.out _ hb) Tryz.underlying95 rfl (by kernel_rfl))) ?_
 refine az (some 23) (ki (by kernel_rfl)) (D1.out _ MR.out) (fun _=>by kernel_rfl) ?_
 rintro r w7 ⟨f7,rfl,h7⟩
 replace MR:=lh (H1.out _ _ h7)
 refine⟨_,rfl,fun _=>MR.out,?_⟩
 refine az (some 25) (ki (by kernel_rfl)) (D2.out _ _ h7) (fun _=>by kernel_rfl) ?_
 rintro r w8 ⟨v8,rfl,h8⟩
 replace MR:=lh (H2.out _ _ _ h8)
 refine⟨_,rfl,fun _=>MR.out,?_⟩
 refine az (some 26) (ki (by kernel_rfl)) (D3.out _ _ _ h8) (fun _=>by kernel_rfl) ?_
 rintro r w9 ⟨v9,rfl,h9⟩
 refine⟨_,rfl,(fun h=>by cases h),?_⟩
 exact aA (aQ (K:=Q .normal) (by kernel_rfl) (HQ.out (aj sg 0) (f7) (.agg #[.int .u64 ((h:Nat):Int),.int .u64 ((m:Nat):Int)]) (v8) (v9) w9 h9))
theorem qbU3 {w:World}{sg tb xb id n0 n1 n2 n3 n4 n5:Nat}{X:World→Value→Prop}{Y:World→Value→Value→Prop}{Z:World→Prop} (hk:∀ b',ae ai w b'→b'.cell? ⟨tb,0,none⟩=some (.int .i64 12)) (hf:∀ b',ae ai w b'→b'.cell? ⟨tb,1,none⟩=some (.func (.func 184) #[] #[])) (hx:w.heap[xb]?=some (.cells #[.int .u64 n0,.int .u64 n1,.int .u64 n2,.int .u64 n3,.int .u64 n4,.int .u64 n5] 73 (0,0))) (C1:∀ b',ae ai w b'→Calls Tryz.prog 116 #[.int .i64 12,.int .u64 ((id:Nat):Int),.int .u64 0] b' fun e w'=>∃ f,e = .returned f∧X w' f) (C2:∀ b' f,X b' f→Calls Tryz.prog 184 #[.agg #[.int .u64 n0,.int .u64 n1,.int .u64 n2,.int .u64 n3,.int .u64 n4,.int .u64 n5]] b' fun e w'=>∃ v,e = .returned v∧Y w' f v) (C3:∀ b' f v,Y b' f v→Calls Tryz.prog 74 #[.pointer (some ⟨sg,0,none⟩),f,v] b' fun e w'=>∃ r,e = .returned r∧Z w') (h1:∀ w' f,X w' f→ae ai w w') (h2:∀ w' f v,Y w' f v→ae ai w w')
  (hK:∀ (jP jD jl jQ jw jX mF mJ mM mO:Value)  (w':World),Z w'→Q .normal ⟨#[.pointer (some ⟨sg,0,none⟩),x1,x2,x3,.pointer (some ⟨tb,0,none⟩),.pointer (some ⟨xb,0,none⟩),x6,.int .u64 ((id:Nat):Int),x8,x9,bg,bn,bi,aY,aU,aS,aT,aW,aZ,aX,bu,jP,jD,jl,jQ,jw,jX,mF,mJ,mM,mO,dw,eH,eP,dW,dQ,dR,dX,dF,dM,dN,dG,dH,dI,dJ,dK,dL,dE,dY,dO,dS,dU,dZ,ed,eu,eF,eG,eQ,eU],df⟩ w'):RW Tryz.prog (aH 3 Tryz.f108) true Q ⟨#[.pointer (some ⟨sg,0,none⟩),x1,x2,x3,.pointer (some ⟨tb,0,none⟩),.pointer (some ⟨xb,0,none⟩),x6,.int .u64 ((id:Nat):Int),x8,x9,bg,bn,bi,aY,aU,aS,aT,aW,aZ,aX,bu,bz,bF,bG,bH,bM,bT,bQ,cO,cZ,di,dw,eH,eP,dW,dQ,dR,dX,dF,dM,dN,dG,dH,dI,dJ,dK,dL,dE,dY,dO,dS,dU,dZ,ed,eu,eF,eG,eQ,eU],df⟩ w:=by
 have HQ:=lh hK
 clear hK
 have D1:=lh C1
 have D2:=lh C2
 have D3:=lh C3
 have H1:=lh h1
 have H2:=lh h2
 clear C1 C2 C3 h1 h2
 have QK:=lh hk
 have QF:=lh hf
 have QX:=lh (fun b' (hm:ae ai w b')=>show ∀ j u,[Value.int .u64 n0,.int .u64 n1,.int .u64 n2,.int .u64 n3,.int .u64 n4,.int .u64 n5][j]?=some u→b'.cell? ⟨xb,0+j,none⟩=some u from fun j u hj=>by rw [Nat.zero_add];exact (af (hm.heap hx (fun x=>x)) j).trans (by rw [← hj];exact List.getElem?_toArray))
 have MR:=lh ((ae.refl ai w).drew)
 refine iq (S:=fun b'=>ae ai w b') [(0,true),(1,true),(2,true),(3,true),(5,true),(6,true),(7,true),(4,false),(8,false),(9,false)] [9] (by kernel_rfl) (by kernel_rfl) (by kernel_rfl) (by kernel_rfl) MR.out ?_
 refine ag [0,1] [aj sg 0,aj tb 0] rfl (by kernel_rfl) (fun _=>by kernel_rfl) ?_
 refine ah (.int .i64 12) (some 23) (ki (by kernel_rfl)) (fun bb hb=>aB (x:=(.tmp 22)) (by kernel_rfl) (by kernel_rfl) (aO (QK.out _ hb) Tryz.underlying3 rfl)) ?_
 refine ag [3,5] [.int .u64 ((id:Nat):Int),aj tb 1] rfl (by kernel_rfl) (fun _=>by kernel_rfl) ?_
 refine ah (.func (.func 184) #[] #[]) (some 27) (ki (by kernel_rfl)) (fun bb hb=>aB (x:=(.tmp 26)) (by kernel_rfl) (by kernel_rfl) (aO (QF.out _ hb) Tryz.underlying175 rfl)) ?_
 refine ah (.agg #[.int .u64 n0,.int .u64 n1,.int .u64 n2,.int .u64 n3,.int .u64 n4,.int .u64 n5]) (some 28) (ki (by kernel_rfl)) (fun bb hb=>aB (x:=(.tmp 5)) (by kernel_rfl) (by kernel_rfl) (dD [.int .u64 n0,.int .u64 n1,.int .u64 n2,.int .u64 n3,.int .u64 n4,.int .u64 n5] (QX.out _ hb) Tryz.underlying73 rfl (by kernel_rfl))) ?_
 refine az (some 25) (ki (by kernel_rfl)) (D1.out _ MR.out) (fun _=>by kernel_rfl) ?_
 rintro r w7 ⟨f7,rfl,h7⟩
 replace MR:=lh (H1.out _ _ h7)
 refine⟨_,rfl,fun _=>MR.out,?_⟩
 refine az (some 29) (ki (by kernel_rfl)) (D2.out _ _ h7) (fun _=>by kernel_rfl) ?_
 rintro r w8 ⟨v8,rfl,h8⟩
 replace MR:=lh (H2.out _ _ _ h8)
 refine⟨_,rfl,fun _=>MR.out,?_⟩
 refine az (some 30) (ki (by kernel_rfl)) (D3.out _ _ _ h8) (fun _=>by kernel_rfl) ?_
 rintro r w9 ⟨v9,rfl,h9⟩
 refine⟨_,rfl,(fun h=>by cases h),?_⟩
 exact aA (aQ (K:=Q .normal) (by kernel_rfl) (HQ.out (aj sg 0) (aj tb 0) (.int .i64 12) (.int .u64 ((id:Nat):Int)) (f7) (aj tb 1) (.func (.func 184) #[] #[]) (.agg #[.int .u64 n0,.int .u64 n1,.int .u64 n2,.int .u64 n3,.int .u64 n4,.int .u64 n5]) (v8) (v9) w9 h9))
theorem qbU4 {w:World}{sg tb id d:Nat}{X:World→Value→Prop}{Y:World→Value→Value→Prop}{Z:World→Prop} (hk:∀ b',ae ai w b'→b'.cell? ⟨tb,0,none⟩=some (.int .i64 12)) (C1:∀ b',ae ai w b'→Calls Tryz.prog 116 #[.int .i64 14,.int .u64 ((d:Nat):Int),.int .u64 ((id:Nat):Int)] b' fun e w'=>∃ f,e = .returned f∧X w' f) (C2:∀ b' f,X b' f→Calls Tryz.prog 182 #[.int .u64 12] b' fun e w'=>∃ v,e = .returned v∧Y w' f v) (C3:∀ b' f v,Y b' f v→Calls Tryz.prog 74 #[.pointer (some ⟨sg,0,none⟩),f,v] b' fun e w'=>∃ r,e = .returned r∧Z w') (h1:∀ w' f,X w' f→ae ai w w') (h2:∀ w' f v,Y w' f v→ae ai w w')
  (hK:∀ (qO qP qQ y34 y35 y36 y37 y38 y39:Value)  (w':World),Z w'→Q .normal ⟨#[.pointer (some ⟨sg,0,none⟩),x1,x2,x3,.pointer (some ⟨tb,0,none⟩),x5,x6,.int .u64 ((id:Nat):Int),x8,x9,.int .u64 ((d:Nat):Int),bn,bi,aY,aU,aS,aT,aW,aZ,aX,bu,bz,bF,bG,bH,bM,bT,bQ,cO,cZ,di,qO,qP,qQ,y34,y35,y36,y37,y38,y39,dN,dG,dH,dI,dJ,dK,dL,dE,dY,dO,dS,dU,dZ,ed,eu,eF,eG,eQ,eU],df⟩ w'):RW Tryz.prog (aH 4 Tryz.f108) true Q ⟨#[.pointer (some ⟨sg,0,none⟩),x1,x2,x3,.pointer (some ⟨tb,0,none⟩),x5,x6,.int .u64 ((id:Nat):Int),x8,x9,.int .u64 ((d:Nat):Int),bn,bi,aY,aU,aS,aT,aW,aZ,aX,bu,bz,bF,bG,bH,bM,bT,bQ,cO,cZ,di,dw,eH,eP,dW,dQ,dR,dX,dF,dM,dN,dG,dH,dI,dJ,dK,dL,dE,dY,dO,dS,dU,dZ,ed,eu,eF,eG,eQ,eU],df⟩ w:=by
 have HQ:=lh hK
 clear hK
 have D1:=lh C1
 have D2:=lh C2
 have D3:=lh C3
 have H1:=lh h1
 have H2:=lh h2
 clear C1 C2 C3 h1 h2
 have QK:=lh hk
 have MR:=lh ((ae.refl ai w).drew)
 refine iq (S:=fun b'=>ae ai w b') [(0,true),(1,true),(2,true),(4,true),(5,true),(6,true),(3,false),(7,false),(8,false)] [8] (by kernel_rfl) (by kernel_rfl) (by kernel_rfl) (by kernel_rfl) MR.out ?_
 refine ag [0,1,2,4] [aj sg 0,.int .u64 ((d:Nat):Int),.int .u64 ((id:Nat):Int),aj tb 0] rfl (by kernel_rfl) (fun _=>by kernel_rfl) ?_
 refine ah (.int .i64 12) (some 36) (ki (by kernel_rfl)) (fun bb hb=>aB (x:=(.tmp 35)) (by kernel_rfl) (by kernel_rfl) (aO (QK.out _ hb) Tryz.underlying3 rfl)) ?_
 refine ag [6] [.int .u64 12] rfl (by kernel_rfl) (fun _=>by kernel_rfl) ?_
 refine az (some 34) (ki (by kernel_rfl)) (D1.out _ MR.out) (fun _=>by kernel_rfl) ?_
 rintro r w7 ⟨f7,rfl,h7⟩
 replace MR:=lh (H1.out _ _ h7)
 refine⟨_,rfl,fun _=>MR.out,?_⟩
 refine az (some 38) (ki (by kernel_rfl)) (D2.out _ _ h7) (fun _=>by kernel_rfl) ?_
 rintro r w8 ⟨v8,rfl,h8⟩
 replace MR:=lh (H2.out _ _ _ h8)
 refine⟨_,rfl,fun _=>MR.out,?_⟩
 refine az (some 39) (ki (by kernel_rfl)) (D3.out _ _ _ h8) (fun _=>by kernel_rfl) ?_
 rintro r w9 ⟨v9,rfl,h9⟩
 refine⟨_,rfl,(fun h=>by cases h),?_⟩
 exact aA (aQ (K:=Q .normal) (by kernel_rfl) (HQ.out (aj sg 0) (.int .u64 ((d:Nat):Int)) (.int .u64 ((id:Nat):Int)) (f7) (aj tb 0) (.int .i64 12) (.int .u64 12) (v8) (v9) w9 h9))
theorem qbU5 {w:World}{sg tb id d:Nat}{X:World→Value→Prop}{Y:World→Value→Value→Prop}{Z:World→Prop} (hk:∀ b',ae ai w b'→b'.cell? ⟨tb,0,none⟩=some (.int .i64 12)) (C1:∀ b',ae ai w b'→Calls Tryz.prog 116 #[.int .i64 15,.int .u64 ((d:Nat):Int),.int .u64 ((id:Nat):Int)] b' fun e w'=>∃ f,e = .returned f∧X w' f) (C2:∀ b' f,X b' f→Calls Tryz.prog 182 #[.int .u64 12] b' fun e w'=>∃ v,e = .returned v∧Y w' f v) (C3:∀ b' f v,Y b' f v→Calls Tryz.prog 74 #[.pointer (some ⟨sg,0,none⟩),f,v] b' fun e w'=>∃ r,e = .returned r∧Z w') (h1:∀ w' f,X w' f→ae ai w w') (h2:∀ w' f v,Y w' f v→ae ai w w')
  (hK:∀ (y40 y41 y42 y43 y44 y45 y46 y47 y48:Value)  (w':World),Z w'→Q .normal ⟨#[.pointer (some ⟨sg,0,none⟩),x1,x2,x3,.pointer (some ⟨tb,0,none⟩),x5,x6,.int .u64 ((id:Nat):Int),x8,.int .u64 ((d:Nat):Int),bg,bn,bi,aY,aU,aS,aT,aW,aZ,aX,bu,bz,bF,bG,bH,bM,bT,bQ,cO,cZ,di,dw,eH,eP,dW,dQ,dR,dX,dF,dM,y40,y41,y42,y43,y44,y45,y46,y47,y48,dO,dS,dU,dZ,ed,eu,eF,eG,eQ,eU],df⟩ w'):RW Tryz.prog (aH 5 Tryz.f108) true Q ⟨#[.pointer (some ⟨sg,0,none⟩),x1,x2,x3,.pointer (some ⟨tb,0,none⟩),x5,x6,.int .u64 ((id:Nat):Int),x8,.int .u64 ((d:Nat):Int),bg,bn,bi,aY,aU,aS,aT,aW,aZ,aX,bu,bz,bF,bG,bH,bM,bT,bQ,cO,cZ,di,dw,eH,eP,dW,dQ,dR,dX,dF,dM,dN,dG,dH,dI,dJ,dK,dL,dE,dY,dO,dS,dU,dZ,ed,eu,eF,eG,eQ,eU],df⟩ w:=by
 have HQ:=lh hK
 clear hK
 have D1:=lh C1
 have D2:=lh C2
 have D3:=lh C3
 have H1:=lh h1
 have H2:=lh h2
 clear C1 C2 C3 h1 h2
 have QK:=lh hk
 have MR:=lh ((ae.refl ai w).drew)
 refine iq (S:=fun b'=>ae ai w b') [(0,true),(1,true),(2,true),(4,true),(5,true),(6,true),(3,false),(7,false),(8,false)] [8] (by kernel_rfl) (by kernel_rfl) (by kernel_rfl) (by kernel_rfl) MR.out ?_
 refine ag [0,1,2,4] [aj sg 0,.int .u64 ((d:Nat):Int),.int .u64 ((id:Nat):Int),aj tb 0] rfl (by kernel_rfl) (fun _=>by kernel_rfl) ?_
 refine ah (.int .i64 12) (some 45) (ki (by kernel_rfl)) (fun bb hb=>aB (x:=(.tmp 44)) (by kernel_rfl) (by kernel_rfl) (aO (QK.out _ hb) Tryz.underlying3 rfl)) ?_
 refine ag [6] [.int .u64 12] rfl (by kernel_rfl) (fun _=>by kernel_rfl) ?_
 refine az (some 43) (ki (by kernel_rfl)) (D1.out _ MR.out) (fun _=>by kernel_rfl) ?_
 rintro r w7 ⟨f7,rfl,h7⟩
 replace MR:=lh (H1.out _ _ h7)
 refine⟨_,rfl,fun _=>MR.out,?_⟩
 refine az (some 47) (ki (by kernel_rfl)) (D2.out _ _ h7) (fun _=>by kernel_rfl) ?_
 rintro r w8 ⟨v8,rfl,h8⟩
 replace MR:=lh (H2.out _ _ _ h8)
 refine⟨_,rfl,fun _=>MR.out,?_⟩
 refine az (some 48) (ki (by kernel_rfl)) (D3.out _ _ _ h8) (fun _=>by kernel_rfl) ?_
 rintro r w9 ⟨v9,rfl,h9⟩
 refine⟨_,rfl,(fun h=>by cases h),?_⟩
 exact aA (aQ (K:=Q .normal) (by kernel_rfl) (HQ.out (aj sg 0) (.int .u64 ((d:Nat):Int)) (.int .u64 ((id:Nat):Int)) (f7) (aj tb 0) (.int .i64 12) (.int .u64 12) (v8) (v9) w9 h9))
theorem qbM3 {w:World}{sg tb xb id n0 n1 n2 n3 n4 n5:Nat}{u6:Value}{X:World→Value→Prop}{Y:World→Value→Value→Prop}{Z:World→Prop} (hk:∀ b',ae ai w b'→b'.cell? ⟨tb,0,none⟩=some (.int .i64 13)) (hf:∀ b',ae ai w b'→b'.cell? ⟨tb,1,none⟩=some (.func (.func 187) #[] #[])) (hx:w.heap[xb]?=some (.cells #[.int .u64 n0,.int .u64 n1,.int .u64 n2,.int .u64 n3,.int .u64 n4,.int .u64 n5,u6] 77 (0,0))) (C1:∀ b',ae ai w b'→Calls Tryz.prog 116 #[.int .i64 13,.int .u64 ((id:Nat):Int),.int .u64 0] b' fun e w'=>∃ f,e = .returned f∧X w' f) (C2:∀ b' f,X b' f→Calls Tryz.prog 187 #[.agg #[.int .u64 n0,.int .u64 n1,.int .u64 n2,.int .u64 n3,.int .u64 n4,.int .u64 n5,u6]] b' fun e w'=>∃ v,e = .returned v∧Y w' f v) (C3:∀ b' f v,Y b' f v→Calls Tryz.prog 74 #[.pointer (some ⟨sg,0,none⟩),f,v] b' fun e w'=>∃ r,e = .returned r∧Z w') (h1:∀ w' f,X w' f→ae ai w w') (h2:∀ w' f v,Y w' f v→ae ai w w')
  (hK:∀ (jP jD jl jQ jw jX mF mJ mM mO:Value)  (w':World),Z w'→Q .normal ⟨#[.pointer (some ⟨sg,0,none⟩),x1,x2,x3,.pointer (some ⟨tb,0,none⟩),.pointer (some ⟨xb,0,none⟩),x6,.int .u64 ((id:Nat):Int),x8,x9,bg,bn,bi,aY,aU,aS,aT,aW,aZ,aX,bu,jP,jD,jl,jQ,jw,jX,mF,mJ,mM,mO,dw,eH,eP,dW,dQ,dR,dX,dF,dM,dN,dG,dH,dI,dJ,dK,dL,dE,dY,dO,dS,dU,dZ,ed,eu,eF,eG,eQ,eU],df⟩ w'):RW Tryz.prog (aH 3 Tryz.f110) true Q ⟨#[.pointer (some ⟨sg,0,none⟩),x1,x2,x3,.pointer (some ⟨tb,0,none⟩),.pointer (some ⟨xb,0,none⟩),x6,.int .u64 ((id:Nat):Int),x8,x9,bg,bn,bi,aY,aU,aS,aT,aW,aZ,aX,bu,bz,bF,bG,bH,bM,bT,bQ,cO,cZ,di,dw,eH,eP,dW,dQ,dR,dX,dF,dM,dN,dG,dH,dI,dJ,dK,dL,dE,dY,dO,dS,dU,dZ,ed,eu,eF,eG,eQ,eU],df⟩ w:=by
 have HQ:=lh hK
 clear hK
 have D1:=lh C1
 have D2:=lh C2
 have D3:=lh C3
 have H1:=lh h1
 have H2:=lh h2
 clear C1 C2 C3 h1 h2
 have QK:=lh hk
 have QF:=lh hf
 have QX:=lh (fun b' (hm:ae ai w b')=>show ∀ j u,[Value.int .u64 n0,.int .u64 n1,.int .u64 n2,.int .u64 n3,.int .u64 n4,.int .u64 n5,u6][j]?=some u→b'.cell? ⟨xb,0+j,none⟩=some u from fun j u hj=>by rw [Nat.zero_add];exact (af (hm.heap hx (fun x=>x)) j).trans (by rw [← hj];exact List.getElem?_toArray))
 have MR:=lh ((ae.refl ai w).drew)
 refine iq (S:=fun b'=>ae ai w b') [(0,true),(1,true),(2,true),(3,true),(5,true),(6,true),(7,true),(4,false),(8,false),(9,false)] [9] (by kernel_rfl) (by kernel_rfl) (by kernel_rfl) (by kernel_rfl) MR.out ?_
 refine ag [0,1] [aj sg 0,aj tb 0] rfl (by kernel_rfl) (fun _=>by kernel_rfl) ?_
 refine ah (.int .i64 13) (some 23) (ki (by kernel_rfl)) (fun bb hb=>aB (x:=(.tmp 22)) (by kernel_rfl) (by kernel_rfl) (aO (QK.out _ hb) Tryz.underlying3 rfl)) ?_
 refine ag [3,5] [.int .u64 ((id:Nat):Int),aj tb 1] rfl (by kernel_rfl) (fun _=>by kernel_rfl) ?_
 refine ah (.func (.func 187) #[] #[]) (some 27) (ki (by kernel_rfl)) (fun bb hb=>aB (x:=(.tmp 26)) (by kernel_rfl) (by kernel_rfl) (aO (QF.out _ hb) Tryz.underlying182 rfl)) ?_
 refine ah (.agg #[.int .u64 n0,.int .u64 n1,.int .u64 n2,.int .u64 n3,.int .u64 n4,.int .u64 n5,u6]) (some 28) (ki (by kernel_rfl)) (fun bb hb=>aB (x:=(.tmp 5)) (by kernel_rfl) (by kernel_rfl) (dD [.int .u64 n0,.int .u64 n1,.int .u64 n2,.int .u64 n3,.int .u64 n4,.int .u64 n5,u6] (QX.out _ hb) Tryz.underlying77 rfl (by kernel_rfl))) ?_
 refine az (some 25) (ki (by kernel_rfl)) (D1.out _ MR.out) (fun _=>by kernel_rfl) ?_
 rintro r w7 ⟨f7,rfl,h7⟩
 replace MR:=lh (H1.out _ _ h7)
 refine⟨_,rfl,fun _=>MR.out,?_⟩
 refine az (some 29) (ki (by kernel_rfl)) (D2.out _ _ h7) (fun _=>by kernel_rfl) ?_
 rintro r w8 ⟨v8,rfl,h8⟩
 replace MR:=lh (H2.out _ _ _ h8)
 refine⟨_,rfl,fun _=>MR.out,?_⟩
 refine az (some 30) (ki (by kernel_rfl)) (D3.out _ _ _ h8) (fun _=>by kernel_rfl) ?_
 rintro r w9 ⟨v9,rfl,h9⟩
 refine⟨_,rfl,(fun h=>by cases h),?_⟩
 exact aA (aQ (K:=Q .normal) (by kernel_rfl) (HQ.out (aj sg 0) (aj tb 0) (.int .i64 13) (.int .u64 ((id:Nat):Int)) (f7) (aj tb 1) (.func (.func 187) #[] #[]) (.agg #[.int .u64 n0,.int .u64 n1,.int .u64 n2,.int .u64 n3,.int .u64 n4,.int .u64 n5,u6]) (v8) (v9) w9 h9))
theorem qbM4 {w:World}{sg tb id d:Nat}{X:World→Value→Prop}{Y:World→Value→Value→Prop}{Z:World→Prop} (hk:∀ b',ae ai w b'→b'.cell? ⟨tb,0,none⟩=some (.int .i64 13)) (C1:∀ b',ae ai w b'→Calls Tryz.prog 116 #[.int .i64 14,.int .u64 ((d:Nat):Int),.int .u64 ((id:Nat):Int)] b' fun e w'=>∃ f,e = .returned f∧X w' f) (C2:∀ b' f,X b' f→Calls Tryz.prog 182 #[.int .u64 13] b' fun e w'=>∃ v,e = .returned v∧Y w' f v) (C3:∀ b' f v,Y b' f v→Calls Tryz.prog 74 #[.pointer (some ⟨sg,0,none⟩),f,v] b' fun e w'=>∃ r,e = .returned r∧Z w') (h1:∀ w' f,X w' f→ae ai w w') (h2:∀ w' f v,Y w' f v→ae ai w w')
  (hK:∀ (qO qP qQ y34 y35 y36 y37 y38 y39:Value)  (w':World),Z w'→Q .normal ⟨#[.pointer (some ⟨sg,0,none⟩),x1,x2,x3,.pointer (some ⟨tb,0,none⟩),x5,x6,.int .u64 ((id:Nat):Int),x8,x9,.int .u64 ((d:Nat):Int),bn,bi,aY,aU,aS,aT,aW,aZ,aX,bu,bz,bF,bG,bH,bM,bT,bQ,cO,cZ,di,qO,qP,qQ,y34,y35,y36,y37,y38,y39,dN,dG,dH,dI,dJ,dK,dL,dE,dY,dO,dS,dU,dZ,ed,eu,eF,eG,eQ,eU],df⟩ w'):RW Tryz.prog (aH 4 Tryz.f110) true Q ⟨#[.pointer (some ⟨sg,0,none⟩),x1,x2,x3,.pointer (some ⟨tb,0,none⟩),x5,x6,.int .u64 ((id:Nat):Int),x8,x9,.int .u64 ((d:Nat):Int),bn,bi,aY,aU,aS,aT,aW,aZ,aX,bu,bz,bF,bG,bH,bM,bT,bQ,cO,cZ,di,dw,eH,eP,dW,dQ,dR,dX,dF,dM,dN,dG,dH,dI,dJ,dK,dL,dE,dY,dO,dS,dU,dZ,ed,eu,eF,eG,eQ,eU],df⟩ w:=by
 have HQ:=lh hK
 clear hK
 have D1:=lh C1
 have D2:=lh C2
 have D3:=lh C3
 have H1:=lh h1
 have H2:=lh h2
 clear C1 C2 C3 h1 h2
 have QK:=lh hk
 have MR:=lh ((ae.refl ai w).drew)
 refine iq (S:=fun b'=>ae ai w b') [(0,true),(1,true),(2,true),(4,true),(5,true),(6,true),(3,false),(7,false),(8,false)] [8] (by kernel_rfl) (by kernel_rfl) (by kernel_rfl) (by kernel_rfl) MR.out ?_
 refine ag [0,1,2,4] [aj sg 0,.int .u64 ((d:Nat):Int),.int .u64 ((id:Nat):Int),aj tb 0] rfl (by kernel_rfl) (fun _=>by kernel_rfl) ?_
 refine ah (.int .i64 13) (some 36) (ki (by kernel_rfl)) (fun bb hb=>aB (x:=(.tmp 35)) (by kernel_rfl) (by kernel_rfl) (aO (QK.out _ hb) Tryz.underlying3 rfl)) ?_
 refine ag [6] [.int .u64 13] rfl (by kernel_rfl) (fun _=>by kernel_rfl) ?_
 refine az (some 34) (ki (by kernel_rfl)) (D1.out _ MR.out) (fun _=>by kernel_rfl) ?_
 rintro r w7 ⟨f7,rfl,h7⟩
 replace MR:=lh (H1.out _ _ h7)
 refine⟨_,rfl,fun _=>MR.out,?_⟩
 refine az (some 38) (ki (by kernel_rfl)) (D2.out _ _ h7) (fun _=>by kernel_rfl) ?_
 rintro r w8 ⟨v8,rfl,h8⟩
 replace MR:=lh (H2.out _ _ _ h8)
 refine⟨_,rfl,fun _=>MR.out,?_⟩
 refine az (some 39) (ki (by kernel_rfl)) (D3.out _ _ _ h8) (fun _=>by kernel_rfl) ?_
 rintro r w9 ⟨v9,rfl,h9⟩
 refine⟨_,rfl,(fun h=>by cases h),?_⟩
 exact aA (aQ (K:=Q .normal) (by kernel_rfl) (HQ.out (aj sg 0) (.int .u64 ((d:Nat):Int)) (.int .u64 ((id:Nat):Int)) (f7) (aj tb 0) (.int .i64 13) (.int .u64 13) (v8) (v9) w9 h9))
theorem qbM5 {w:World}{sg tb id d:Nat}{X:World→Value→Prop}{Y:World→Value→Value→Prop}{Z:World→Prop} (hk:∀ b',ae ai w b'→b'.cell? ⟨tb,0,none⟩=some (.int .i64 13)) (C1:∀ b',ae ai w b'→Calls Tryz.prog 116 #[.int .i64 15,.int .u64 ((d:Nat):Int),.int .u64 ((id:Nat):Int)] b' fun e w'=>∃ f,e = .returned f∧X w' f) (C2:∀ b' f,X b' f→Calls Tryz.prog 182 #[.int .u64 13] b' fun e w'=>∃ v,e = .returned v∧Y w' f v) (C3:∀ b' f v,Y b' f v→Calls Tryz.prog 74 #[.pointer (some ⟨sg,0,none⟩),f,v] b' fun e w'=>∃ r,e = .returned r∧Z w') (h1:∀ w' f,X w' f→ae ai w w') (h2:∀ w' f v,Y w' f v→ae ai w w')
  (hK:∀ (y40 y41 y42 y43 y44 y45 y46 y47 y48:Value)  (w':World),Z w'→Q .normal ⟨#[.pointer (some ⟨sg,0,none⟩),x1,x2,x3,.pointer (some ⟨tb,0,none⟩),x5,x6,.int .u64 ((id:Nat):Int),x8,.int .u64 ((d:Nat):Int),bg,bn,bi,aY,aU,aS,aT,aW,aZ,aX,bu,bz,bF,bG,bH,bM,bT,bQ,cO,cZ,di,dw,eH,eP,dW,dQ,dR,dX,dF,dM,y40,y41,y42,y43,y44,y45,y46,y47,y48,dO,dS,dU,dZ,ed,eu,eF,eG,eQ,eU],df⟩ w'):RW Tryz.prog (aH 5 Tryz.f110) true Q ⟨#[.pointer (some ⟨sg,0,none⟩),x1,x2,x3,.pointer (some ⟨tb,0,none⟩),x5,x6,.int .u64 ((id:Nat):Int),x8,.int .u64 ((d:Nat):Int),bg,bn,bi,aY,aU,aS,aT,aW,aZ,aX,bu,bz,bF,bG,bH,bM,bT,bQ,cO,cZ,di,dw,eH,eP,dW,dQ,dR,dX,dF,dM,dN,dG,dH,dI,dJ,dK,dL,dE,dY,dO,dS,dU,dZ,ed,eu,eF,eG,eQ,eU],df⟩ w:=by
 have HQ:=lh hK
 clear hK
 have D1:=lh C1
 have D2:=lh C2
 have D3:=lh C3
 have H1:=lh h1
 have H2:=lh h2
 clear C1 C2 C3 h1 h2
 have QK:=lh hk
 have MR:=lh ((ae.refl ai w).drew)
 refine iq (S:=fun b'=>ae ai w b') [(0,true),(1,true),(2,true),(4,true),(5,true),(6,true),(3,false),(7,false),(8,false)] [8] (by kernel_rfl) (by kernel_rfl) (by kernel_rfl) (by kernel_rfl) MR.out ?_
 refine ag [0,1,2,4] [aj sg 0,.int .u64 ((d:Nat):Int),.int .u64 ((id:Nat):Int),aj tb 0] rfl (by kernel_rfl) (fun _=>by kernel_rfl) ?_
 refine ah (.int .i64 13) (some 45) (ki (by kernel_rfl)) (fun bb hb=>aB (x:=(.tmp 44)) (by kernel_rfl) (by kernel_rfl) (aO (QK.out _ hb) Tryz.underlying3 rfl)) ?_
 refine ag [6] [.int .u64 13] rfl (by kernel_rfl) (fun _=>by kernel_rfl) ?_
 refine az (some 43) (ki (by kernel_rfl)) (D1.out _ MR.out) (fun _=>by kernel_rfl) ?_
 rintro r w7 ⟨f7,rfl,h7⟩
 replace MR:=lh (H1.out _ _ h7)
 refine⟨_,rfl,fun _=>MR.out,?_⟩
 refine az (some 47) (ki (by kernel_rfl)) (D2.out _ _ h7) (fun _=>by kernel_rfl) ?_
 rintro r w8 ⟨v8,rfl,h8⟩
 replace MR:=lh (H2.out _ _ _ h8)
 refine⟨_,rfl,fun _=>MR.out,?_⟩
 refine az (some 48) (ki (by kernel_rfl)) (D3.out _ _ _ h8) (fun _=>by kernel_rfl) ?_
 rintro r w9 ⟨v9,rfl,h9⟩
 refine⟨_,rfl,(fun h=>by cases h),?_⟩
 exact aA (aQ (K:=Q .normal) (by kernel_rfl) (HQ.out (aj sg 0) (.int .u64 ((d:Nat):Int)) (.int .u64 ((id:Nat):Int)) (f7) (aj tb 0) (.int .i64 13) (.int .u64 13) (v8) (v9) w9 h9))
theorem qunb1 {w:World}{sv rv:Value}{sg xb n0 n1 n2 n3 n4 n5:Nat}{Z:World→Prop} (hx:w.heap[xb]?=some (.cells #[.int .u64 n0,.int .u64 n1,.int .u64 n2,.int .u64 n3,.int .u64 n4,.int .u64 n5] 73 (0,0))) (C1:∀ b',ae ai w b'→Calls Tryz.prog 109 #[] b' fun e w'=>e = .returned sv∧ae ai w w') (C2:∀ b',ae ai w b'→Calls Tryz.prog 108 #[.pointer (some ⟨sg,0,none⟩),sv,.agg #[.int .u64 n0,.int .u64 n1,.int .u64 n2,.int .u64 n3,.int .u64 n4,.int .u64 n5]] b' fun e w'=>e = .returned rv∧Z w')
  (hK:∀ (y5 y6 y7 y8:Value)  (w':World),Z w'→Q .normal ⟨#[.pointer (some ⟨sg,0,none⟩),x1,x2,.pointer (some ⟨xb,0,none⟩),rv,y5,y6,y7,y8],df⟩ w'):RW Tryz.prog (aH 1 Tryz.f35) true Q ⟨#[.pointer (some ⟨sg,0,none⟩),x1,x2,.pointer (some ⟨xb,0,none⟩),x4,x5,x6,x7,x8],df⟩ w:=by
 have HQ:=lh hK
 clear hK
 have D1:=lh C1
 have D2:=lh C2
 clear C1 C2
 have QX:=lh (fun b' (hm:ae ai w b')=>show ∀ j u,[Value.int .u64 n0,.int .u64 n1,.int .u64 n2,.int .u64 n3,.int .u64 n4,.int .u64 n5][j]?=some u→b'.cell? ⟨xb,0+j,none⟩=some u from fun j u hj=>by rw [Nat.zero_add];exact (af (hm.heap hx (fun x=>x)) j).trans (by rw [← hj];exact List.getElem?_toArray))
 have MR:=lh ((ae.refl ai w).drew)
 refine iq (S:=fun b'=>ae ai w b') [(0,true),(2,true),(1,false),(3,false),(4,false)] [3,4] (by kernel_rfl) (by kernel_rfl) (by kernel_rfl) (by kernel_rfl) MR.out ?_
 refine ag [0] [aj sg 0] rfl (by kernel_rfl) (fun _=>by kernel_rfl) ?_
 refine ah (.agg #[.int .u64 n0,.int .u64 n1,.int .u64 n2,.int .u64 n3,.int .u64 n4,.int .u64 n5]) (some 7) (ki (by kernel_rfl)) (fun bb hb=>aB (x:=(.tmp 3)) (by kernel_rfl) (by kernel_rfl) (dD [.int .u64 n0,.int .u64 n1,.int .u64 n2,.int .u64 n3,.int .u64 n4,.int .u64 n5] (QX.out _ hb) Tryz.underlying73 rfl (by kernel_rfl))) ?_
 refine az (some 6) (ki (by kernel_rfl)) (D1.out _ MR.out) (fun _=>by kernel_rfl) ?_
 rintro r w7 ⟨rfl,h7⟩
 replace MR:=lh h7
 refine⟨_,rfl,fun _=>MR.out,?_⟩
 refine az (some 8) (ki (by kernel_rfl)) (D2.out _ MR.out) (fun _=>by kernel_rfl) ?_
 rintro r w8 ⟨rfl,h8⟩
 refine⟨_,rfl,(fun h=>by cases h),?_⟩
 refine aC [4] [rv] rfl (by kernel_rfl) (by kernel_rfl) (.inl (by kernel_rfl)) ?_
 exact aA (aQ (K:=Q .normal) (by kernel_rfl) (HQ.out (aj sg 0) (sv) (.agg #[.int .u64 n0,.int .u64 n1,.int .u64 n2,.int .u64 n3,.int .u64 n4,.int .u64 n5]) (rv) w8 h8))
theorem qdrU {w:World}{sv rv:Value}{sg eb id:Nat}{Z:World→Prop} (hk:∀ b',ae ai w b'→b'.cell? ⟨eb,0,none⟩=some (.int .u64 ((id:Nat):Int))) (C1:∀ b',ae ai w b'→Calls Tryz.prog 109 #[] b' fun e w'=>e = .returned sv∧ae ai w w') (C2:∀ b',ae ai w b'→Calls Tryz.prog 132 #[.pointer (some ⟨sg,0,none⟩),sv,.int .u64 ((id:Nat):Int)] b' fun e w'=>e = .returned rv∧Z w')
  (hK:∀ (y9 jU pU qN kF:Value)  (w':World),Z w'→Q .normal ⟨#[.pointer (some ⟨sg,0,none⟩),x1,x2,.pointer (some ⟨eb,0,none⟩),rv,x5,x6,x7,x8,y9,jU,pU,qN,kF,aU,aS,aT,aW,aZ,aX,bu],df⟩ w'):RW Tryz.prog (aH 3 Tryz.f52) true Q ⟨#[.pointer (some ⟨sg,0,none⟩),x1,x2,.pointer (some ⟨eb,0,none⟩),x4,x5,x6,x7,x8,x9,bg,bn,bi,aY,aU,aS,aT,aW,aZ,aX,bu],df⟩ w:=by
 have HQ:=lh hK
 clear hK
 have D1:=lh C1
 have D2:=lh C2
 clear C1 C2
 have QK:=lh hk
 have MR:=lh ((ae.refl ai w).drew)
 refine iq (S:=fun b'=>ae ai w b') [(0,true),(2,true),(3,true),(1,false),(4,false),(5,false)] [4,5] (by kernel_rfl) (by kernel_rfl) (by kernel_rfl) (by kernel_rfl) MR.out ?_
 refine ag [0,2] [aj sg 0,aj eb 0] rfl (by kernel_rfl) (fun _=>by kernel_rfl) ?_
 refine ah (.int .u64 ((id:Nat):Int)) (some 12) (ki (by kernel_rfl)) (fun bb hb=>aB (x:=(.tmp 11)) (by kernel_rfl) (by kernel_rfl) (aO (QK.out _ hb) Tryz.underlying22 rfl)) ?_
 refine az (some 10) (ki (by kernel_rfl)) (D1.out _ MR.out) (fun _=>by kernel_rfl) ?_
 rintro r w7 ⟨rfl,h7⟩
 replace MR:=lh h7
 refine⟨_,rfl,fun _=>MR.out,?_⟩
 refine az (some 13) (ki (by kernel_rfl)) (D2.out _ MR.out) (fun _=>by kernel_rfl) ?_
 rintro r w8 ⟨rfl,h8⟩
 refine⟨_,rfl,(fun h=>by cases h),?_⟩
 refine aC [5] [rv] rfl (by kernel_rfl) (by kernel_rfl) (.inl (by kernel_rfl)) ?_
 exact aA (aQ (K:=Q .normal) (by kernel_rfl) (HQ.out (aj sg 0) (sv) (aj eb 0) (.int .u64 ((id:Nat):Int)) (rv) w8 h8))
theorem qtU4 {w:World}{sg tb xb id n0 n1 n2 n3 n4 n5:Nat}{X:World→Value→Prop}{Y:World→Value→Value→Prop}{Z:World→Prop} (hk:∀ b',ae ai w b'→b'.cell? ⟨tb,0,none⟩=some (.int .i64 12)) (hf:∀ b',ae ai w b'→b'.cell? ⟨tb,1,none⟩=some (.func (.func 184) #[] #[])) (hx:w.heap[xb]?=some (.cells #[.int .u64 n0,.int .u64 n1,.int .u64 n2,.int .u64 n3,.int .u64 n4,.int .u64 n5] 73 (0,0))) (C1:∀ b',ae ai w b'→Calls Tryz.prog 116 #[.int .i64 12,.int .u64 ((id:Nat):Int),.int .u64 0] b' fun e w'=>∃ f,e = .returned f∧X w' f) (C2:∀ b' f,X b' f→Calls Tryz.prog 184 #[.agg #[.int .u64 n0,.int .u64 n1,.int .u64 n2,.int .u64 n3,.int .u64 n4,.int .u64 n5]] b' fun e w'=>∃ v,e = .returned v∧Y w' f v) (C3:∀ b' f v,Y b' f v→Calls Tryz.prog 74 #[.pointer (some ⟨sg,0,none⟩),f,v] b' fun e w'=>∃ r,e = .returned r∧Z w') (h1:∀ w' f,X w' f→ae ai w w') (h2:∀ w' f v,Y w' f v→ae ai w w')
  (hK:∀ (jP jD jl jQ jw jX mF mJ mM mO:Value)  (w':World),Z w'→Q .normal ⟨#[.pointer (some ⟨sg,0,none⟩),x1,.int .u64 ((id:Nat):Int),x3,x4,.pointer (some ⟨tb,0,none⟩),x6,x7,x8,.pointer (some ⟨xb,0,none⟩),bg,bn,bi,aY,aU,aS,aT,aW,aZ,aX,bu,jP,jD,jl,jQ,jw,jX,mF,mJ,mM,mO,dw],df⟩ w'):RW Tryz.prog (aH 4 Tryz.f126) true Q ⟨#[.pointer (some ⟨sg,0,none⟩),x1,.int .u64 ((id:Nat):Int),x3,x4,.pointer (some ⟨tb,0,none⟩),x6,x7,x8,.pointer (some ⟨xb,0,none⟩),bg,bn,bi,aY,aU,aS,aT,aW,aZ,aX,bu,bz,bF,bG,bH,bM,bT,bQ,cO,cZ,di,dw],df⟩ w:=by
 have HQ:=lh hK
 clear hK
 have D1:=lh C1
 have D2:=lh C2
 have D3:=lh C3
 have H1:=lh h1
 have H2:=lh h2
 clear C1 C2 C3 h1 h2
 have QK:=lh hk
 have QF:=lh hf
 have QX:=lh (fun b' (hm:ae ai w b')=>show ∀ j u,[Value.int .u64 n0,.int .u64 n1,.int .u64 n2,.int .u64 n3,.int .u64 n4,.int .u64 n5][j]?=some u→b'.cell? ⟨xb,0+j,none⟩=some u from fun j u hj=>by rw [Nat.zero_add];exact (af (hm.heap hx (fun x=>x)) j).trans (by rw [← hj];exact List.getElem?_toArray))
 have MR:=lh ((ae.refl ai w).drew)
 refine iq (S:=fun b'=>ae ai w b') [(0,true),(1,true),(2,true),(3,true),(5,true),(6,true),(7,true),(4,false),(8,false),(9,false)] [9] (by kernel_rfl) (by kernel_rfl) (by kernel_rfl) (by kernel_rfl) MR.out ?_
 refine ag [0,1] [aj sg 0,aj tb 0] rfl (by kernel_rfl) (fun _=>by kernel_rfl) ?_
 refine ah (.int .i64 12) (some 23) (ki (by kernel_rfl)) (fun bb hb=>aB (x:=(.tmp 22)) (by kernel_rfl) (by kernel_rfl) (aO (QK.out _ hb) Tryz.underlying3 rfl)) ?_
 refine ag [3,5] [.int .u64 ((id:Nat):Int),aj tb 1] rfl (by kernel_rfl) (fun _=>by kernel_rfl) ?_
 refine ah (.func (.func 184) #[] #[]) (some 27) (ki (by kernel_rfl)) (fun bb hb=>aB (x:=(.tmp 26)) (by kernel_rfl) (by kernel_rfl) (aO (QF.out _ hb) Tryz.underlying175 rfl)) ?_
 refine ah (.agg #[.int .u64 n0,.int .u64 n1,.int .u64 n2,.int .u64 n3,.int .u64 n4,.int .u64 n5]) (some 28) (ki (by kernel_rfl)) (fun bb hb=>aB (x:=(.tmp 9)) (by kernel_rfl) (by kernel_rfl) (dD [.int .u64 n0,.int .u64 n1,.int .u64 n2,.int .u64 n3,.int .u64 n4,.int .u64 n5] (QX.out _ hb) Tryz.underlying73 rfl (by kernel_rfl))) ?_
 refine az (some 25) (ki (by kernel_rfl)) (D1.out _ MR.out) (fun _=>by kernel_rfl) ?_
 rintro r w7 ⟨f7,rfl,h7⟩
 replace MR:=lh (H1.out _ _ h7)
 refine⟨_,rfl,fun _=>MR.out,?_⟩
 refine az (some 29) (ki (by kernel_rfl)) (D2.out _ _ h7) (fun _=>by kernel_rfl) ?_
 rintro r w8 ⟨v8,rfl,h8⟩
 replace MR:=lh (H2.out _ _ _ h8)
 refine⟨_,rfl,fun _=>MR.out,?_⟩
 refine az (some 30) (ki (by kernel_rfl)) (D3.out _ _ _ h8) (fun _=>by kernel_rfl) ?_
 rintro r w9 ⟨v9,rfl,h9⟩
 refine⟨_,rfl,(fun h=>by cases h),?_⟩
 exact aA (aQ (K:=Q .normal) (by kernel_rfl) (HQ.out (aj sg 0) (aj tb 0) (.int .i64 12) (.int .u64 ((id:Nat):Int)) (f7) (aj tb 1) (.func (.func 184) #[] #[]) (.agg #[.int .u64 n0,.int .u64 n1,.int .u64 n2,.int .u64 n3,.int .u64 n4,.int .u64 n5]) (v8) (v9) w9 h9))
theorem qmov1 {w:World}{sv rv:Value}{sg xb n0 n1 n2 n3 n4 n5:Nat}{u6:Value}{Z:World→Prop} (hx:w.heap[xb]?=some (.cells #[.int .u64 n0,.int .u64 n1,.int .u64 n2,.int .u64 n3,.int .u64 n4,.int .u64 n5,u6] 77 (0,0))) (C1:∀ b',ae ai w b'→Calls Tryz.prog 111 #[] b' fun e w'=>e = .returned sv∧ae ai w w') (C2:∀ b',ae ai w b'→Calls Tryz.prog 110 #[.pointer (some ⟨sg,0,none⟩),sv,.agg #[.int .u64 n0,.int .u64 n1,.int .u64 n2,.int .u64 n3,.int .u64 n4,.int .u64 n5,u6]] b' fun e w'=>e = .returned rv∧Z w')
  (hK:∀ (y5 y6 y7 y8:Value)  (w':World),Z w'→Q .normal ⟨#[.pointer (some ⟨sg,0,none⟩),x1,x2,.pointer (some ⟨xb,0,none⟩),rv,y5,y6,y7,y8],df⟩ w'):RW Tryz.prog (aH 1 Tryz.f36) true Q ⟨#[.pointer (some ⟨sg,0,none⟩),x1,x2,.pointer (some ⟨xb,0,none⟩),x4,x5,x6,x7,x8],df⟩ w:=by
 have HQ:=lh hK
 clear hK
 have D1:=lh C1
 have D2:=lh C2
 clear C1 C2
 have QX:=lh (fun b' (hm:ae ai w b')=>show ∀ j u,[Value.int .u64 n0,.int .u64 n1,.int .u64 n2,.int .u64 n3,.int .u64 n4,.int .u64 n5,u6][j]?=some u→b'.cell? ⟨xb,0+j,none⟩=some u from fun j u hj=>by rw [Nat.zero_add];exact (af (hm.heap hx (fun x=>x)) j).trans (by rw [← hj];exact List.getElem?_toArray))
 have MR:=lh ((ae.refl ai w).drew)
 refine iq (S:=fun b'=>ae ai w b') [(0,true),(2,true),(1,false),(3,false),(4,false)] [3,4] (by kernel_rfl) (by kernel_rfl) (by kernel_rfl) (by kernel_rfl) MR.out ?_
 refine ag [0] [aj sg 0] rfl (by kernel_rfl) (fun _=>by kernel_rfl) ?_
 refine ah (.agg #[.int .u64 n0,.int .u64 n1,.int .u64 n2,.int .u64 n3,.int .u64 n4,.int .u64 n5,u6]) (some 7) (ki (by kernel_rfl)) (fun bb hb=>aB (x:=(.tmp 3)) (by kernel_rfl) (by kernel_rfl) (dD [.int .u64 n0,.int .u64 n1,.int .u64 n2,.int .u64 n3,.int .u64 n4,.int .u64 n5,u6] (QX.out _ hb) Tryz.underlying77 rfl (by kernel_rfl))) ?_
 refine az (some 6) (ki (by kernel_rfl)) (D1.out _ MR.out) (fun _=>by kernel_rfl) ?_
 rintro r w7 ⟨rfl,h7⟩
 replace MR:=lh h7
 refine⟨_,rfl,fun _=>MR.out,?_⟩
 refine az (some 8) (ki (by kernel_rfl)) (D2.out _ MR.out) (fun _=>by kernel_rfl) ?_
 rintro r w8 ⟨rfl,h8⟩
 refine⟨_,rfl,(fun h=>by cases h),?_⟩
 refine aC [4] [rv] rfl (by kernel_rfl) (by kernel_rfl) (.inl (by kernel_rfl)) ?_
 exact aA (aQ (K:=Q .normal) (by kernel_rfl) (HQ.out (aj sg 0) (sv) (.agg #[.int .u64 n0,.int .u64 n1,.int .u64 n2,.int .u64 n3,.int .u64 n4,.int .u64 n5,u6]) (rv) w8 h8))
theorem qdrM {w:World}{sv rv:Value}{sg eb id:Nat}{Z:World→Prop} (hk:∀ b',ae ai w b'→b'.cell? ⟨eb,0,none⟩=some (.int .u64 ((id:Nat):Int))) (C1:∀ b',ae ai w b'→Calls Tryz.prog 111 #[] b' fun e w'=>e = .returned sv∧ae ai w w') (C2:∀ b',ae ai w b'→Calls Tryz.prog 133 #[.pointer (some ⟨sg,0,none⟩),sv,.int .u64 ((id:Nat):Int)] b' fun e w'=>e = .returned rv∧Z w')
  (hK:∀ (jO jC kG kH mi:Value)  (w':World),Z w'→Q .normal ⟨#[.pointer (some ⟨sg,0,none⟩),x1,x2,.pointer (some ⟨eb,0,none⟩),rv,x5,x6,x7,x8,x9,bg,bn,bi,aY,aU,aS,jO,jC,kG,kH,mi],df⟩ w'):RW Tryz.prog (aH 5 Tryz.f52) true Q ⟨#[.pointer (some ⟨sg,0,none⟩),x1,x2,.pointer (some ⟨eb,0,none⟩),x4,x5,x6,x7,x8,x9,bg,bn,bi,aY,aU,aS,aT,aW,aZ,aX,bu],df⟩ w:=by
 have HQ:=lh hK
 clear hK
 have D1:=lh C1
 have D2:=lh C2
 clear C1 C2
 have QK:=lh hk
 have MR:=lh ((ae.refl ai w).drew)
 refine iq (S:=fun b'=>ae ai w b') [(0,true),(2,true),(3,true),(1,false),(4,false),(5,false)] [4,5] (by kernel_rfl) (by kernel_rfl) (by kernel_rfl) (by kernel_rfl) MR.out ?_
 refine ag [0,2] [aj sg 0,aj eb 0] rfl (by kernel_rfl) (fun _=>by kernel_rfl) ?_
 refine ah (.int .u64 ((id:Nat):Int)) (some 19) (ki (by kernel_rfl)) (fun bb hb=>aB (x:=(.tmp 18)) (by kernel_rfl) (by kernel_rfl) (aO (QK.out _ hb) Tryz.underlying22 rfl)) ?_
 refine az (some 17) (ki (by kernel_rfl)) (D1.out _ MR.out) (fun _=>by kernel_rfl) ?_
 rintro r w7 ⟨rfl,h7⟩
 replace MR:=lh h7
 refine⟨_,rfl,fun _=>MR.out,?_⟩
 refine az (some 20) (ki (by kernel_rfl)) (D2.out _ MR.out) (fun _=>by kernel_rfl) ?_
 rintro r w8 ⟨rfl,h8⟩
 refine⟨_,rfl,(fun h=>by cases h),?_⟩
 refine aC [5] [rv] rfl (by kernel_rfl) (by kernel_rfl) (.inl (by kernel_rfl)) ?_
 exact aA (aQ (K:=Q .normal) (by kernel_rfl) (HQ.out (aj sg 0) (sv) (aj eb 0) (.int .u64 ((id:Nat):Int)) (rv) w8 h8))
theorem qtM4 {w:World}{sg tb xb id n0 n1 n2 n3 n4 n5:Nat}{u6:Value}{X:World→Value→Prop}{Y:World→Value→Value→Prop}{Z:World→Prop} (hk:∀ b',ae ai w b'→b'.cell? ⟨tb,0,none⟩=some (.int .i64 13)) (hf:∀ b',ae ai w b'→b'.cell? ⟨tb,1,none⟩=some (.func (.func 187) #[] #[])) (hx:w.heap[xb]?=some (.cells #[.int .u64 n0,.int .u64 n1,.int .u64 n2,.int .u64 n3,.int .u64 n4,.int .u64 n5,u6] 77 (0,0))) (C1:∀ b',ae ai w b'→Calls Tryz.prog 116 #[.int .i64 13,.int .u64 ((id:Nat):Int),.int .u64 0] b' fun e w'=>∃ f,e = .returned f∧X w' f) (C2:∀ b' f,X b' f→Calls Tryz.prog 187 #[.agg #[.int .u64 n0,.int .u64 n1,.int .u64 n2,.int .u64 n3,.int .u64 n4,.int .u64 n5,u6]] b' fun e w'=>∃ v,e = .returned v∧Y w' f v) (C3:∀ b' f v,Y b' f v→Calls Tryz.prog 74 #[.pointer (some ⟨sg,0,none⟩),f,v] b' fun e w'=>∃ r,e = .returned r∧Z w') (h1:∀ w' f,X w' f→ae ai w w') (h2:∀ w' f v,Y w' f v→ae ai w w')
  (hK:∀ (jP jD jl jQ jw jX mF mJ mM mO:Value)  (w':World),Z w'→Q .normal ⟨#[.pointer (some ⟨sg,0,none⟩),x1,.int .u64 ((id:Nat):Int),x3,x4,.pointer (some ⟨tb,0,none⟩),x6,x7,x8,.pointer (some ⟨xb,0,none⟩),bg,bn,bi,aY,aU,aS,aT,aW,aZ,aX,bu,jP,jD,jl,jQ,jw,jX,mF,mJ,mM,mO,dw],df⟩ w'):RW Tryz.prog (aH 4 Tryz.f129) true Q ⟨#[.pointer (some ⟨sg,0,none⟩),x1,.int .u64 ((id:Nat):Int),x3,x4,.pointer (some ⟨tb,0,none⟩),x6,x7,x8,.pointer (some ⟨xb,0,none⟩),bg,bn,bi,aY,aU,aS,aT,aW,aZ,aX,bu,bz,bF,bG,bH,bM,bT,bQ,cO,cZ,di,dw],df⟩ w:=by
 have HQ:=lh hK
 clear hK
 have D1:=lh C1
 have D2:=lh C2
 have D3:=lh C3
 have H1:=lh h1
 have H2:=lh h2
 clear C1 C2 C3 h1 h2
 have QK:=lh hk
 have QF:=lh hf
 have QX:=lh (fun b' (hm:ae ai w b')=>show ∀ j u,[Value.int .u64 n0,.int .u64 n1,.int .u64 n2,.int .u64 n3,.int .u64 n4,.int .u64 n5,u6][j]?=some u→b'.cell? ⟨xb,0+j,none⟩=some u from fun j u hj=>by rw [Nat.zero_add];exact (af (hm.heap hx (fun x=>x)) j).trans (by rw [← hj];exact List.getElem?_toArray))
 have MR:=lh ((ae.refl ai w).drew)
 refine iq (S:=fun b'=>ae ai w b') [(0,true),(1,true),(2,true),(3,true),(5,true),(6,true),(7,true),(4,false),(8,false),(9,false)] [9] (by kernel_rfl) (by kernel_rfl) (by kernel_rfl) (by kernel_rfl) MR.out ?_
 refine ag [0,1] [aj sg 0,aj tb 0] rfl (by kernel_rfl) (fun _=>by kernel_rfl) ?_
 refine ah (.int .i64 13) (some 23) (ki (by kernel_rfl)) (fun bb hb=>aB (x:=(.tmp 22)) (by kernel_rfl) (by kernel_rfl) (aO (QK.out _ hb) Tryz.underlying3 rfl)) ?_
 refine ag [3,5] [.int .u64 ((id:Nat):Int),aj tb 1] rfl (by kernel_rfl) (fun _=>by kernel_rfl) ?_
 refine ah (.func (.func 187) #[] #[]) (some 27) (ki (by kernel_rfl)) (fun bb hb=>aB (x:=(.tmp 26)) (by kernel_rfl) (by kernel_rfl) (aO (QF.out _ hb) Tryz.underlying182 rfl)) ?_
 refine ah (.agg #[.int .u64 n0,.int .u64 n1,.int .u64 n2,.int .u64 n3,.int .u64 n4,.int .u64 n5,u6]) (some 28) (ki (by kernel_rfl)) (fun bb hb=>aB (x:=(.tmp 9)) (by kernel_rfl) (by kernel_rfl) (dD [.int .u64 n0,.int .u64 n1,.int .u64 n2,.int .u64 n3,.int .u64 n4,.int .u64 n5,u6] (QX.out _ hb) Tryz.underlying77 rfl (by kernel_rfl))) ?_
 refine az (some 25) (ki (by kernel_rfl)) (D1.out _ MR.out) (fun _=>by kernel_rfl) ?_
 rintro r w7 ⟨f7,rfl,h7⟩
 replace MR:=lh (H1.out _ _ h7)
 refine⟨_,rfl,fun _=>MR.out,?_⟩
 refine az (some 29) (ki (by kernel_rfl)) (D2.out _ _ h7) (fun _=>by kernel_rfl) ?_
 rintro r w8 ⟨v8,rfl,h8⟩
 replace MR:=lh (H2.out _ _ _ h8)
 refine⟨_,rfl,fun _=>MR.out,?_⟩
 refine az (some 30) (ki (by kernel_rfl)) (D3.out _ _ _ h8) (fun _=>by kernel_rfl) ?_
 rintro r w9 ⟨v9,rfl,h9⟩
 refine⟨_,rfl,(fun h=>by cases h),?_⟩
 exact aA (aQ (K:=Q .normal) (by kernel_rfl) (HQ.out (aj sg 0) (aj tb 0) (.int .i64 13) (.int .u64 ((id:Nat):Int)) (f7) (aj tb 1) (.func (.func 187) #[] #[]) (.agg #[.int .u64 n0,.int .u64 n1,.int .u64 n2,.int .u64 n3,.int .u64 n4,.int .u64 n5,u6]) (v8) (v9) w9 h9))
theorem qofU {w:World}{xb n0 n1 n2 n3 n4 n5:Nat} (hc0:∀ b',ae ai w b'→b'.cell? ⟨xb,0,none⟩=some (.int .u64 n0)) (hc1:∀ b',ae ai w b'→b'.cell? ⟨xb,1,none⟩=some (.int .u64 n1)) (hc3:∀ b',ae ai w b'→b'.cell? ⟨xb,3,none⟩=some (.int .u64 n3))
  (hK:∀ (y5 y6 y7 y8 y9 jU:Value)  (w':World),ae ai w w'→Q .normal ⟨#[x0,.pointer (some ⟨xb,0,none⟩),.int .u64 n0,.int .u64 n1,.int .u64 n3,y5,y6,y7,y8,y9,jU],df⟩ w'):RW Tryz.prog (aH 1 Tryz.f186) true Q ⟨#[x0,.pointer (some ⟨xb,0,none⟩),x2,x3,x4,x5,x6,x7,x8,x9,bg],df⟩ w:=by
 have HQ:=lh hK
 clear hK
 have QC0:=lh hc0
 have QC1:=lh hc1
 have QC3:=lh hc3
 have MR:=lh ((ae.refl ai w).drew)
 refine iU (S:=fun b'=>ae ai w b') [(0,true),(1,true),(2,true),(3,true),(4,true),(5,true),(6,true),(7,true),(8,true)] [] [(0,2,32),(1,32,64),(0,2,128),(4,128,256),(0,2,512),(16,512,1024),(3,64,4),(79,256,8),(255,1024,16)] (by kernel_rfl) (by kernel_rfl) (by kernel_rfl) (by kernel_rfl) (by kernel_rfl) MR.out ?_
 refine ag [0] [aj xb 0] rfl (by kernel_rfl) (fun _=>by kernel_rfl) ?_
 refine ah (.int .u64 n0) (some 6) (ki (by kernel_rfl)) (fun bb hb=>aB (x:=(.tmp 5)) (by kernel_rfl) (by kernel_rfl) (aO (QC0.out _ hb) Tryz.underlying22 rfl)) ?_
 refine ag [2] [aj xb 1] rfl (by kernel_rfl) (fun _=>by kernel_rfl) ?_
 refine ah (.int .u64 n1) (some 8) (ki (by kernel_rfl)) (fun bb hb=>aB (x:=(.tmp 7)) (by kernel_rfl) (by kernel_rfl) (aO (QC1.out _ hb) Tryz.underlying22 rfl)) ?_
 refine ag [4] [aj xb 3] rfl (by kernel_rfl) (fun _=>by kernel_rfl) ?_
 refine ah (.int .u64 n3) (some 10) (ki (by kernel_rfl)) (fun bb hb=>aB (x:=(.tmp 9)) (by kernel_rfl) (by kernel_rfl) (aO (QC3.out _ hb) Tryz.underlying22 rfl)) ?_
 refine ag [6,7,8] [.int .u64 n0,.int .u64 n1,.int .u64 n3] rfl (by kernel_rfl) (fun _=>by kernel_rfl) ?_
 exact aA (aQ (K:=Q .normal) (by kernel_rfl) (HQ.out (aj xb 0) (.int .u64 n0) (aj xb 1) (.int .u64 n1) (aj xb 3) (.int .u64 n3) _ MR.out))
theorem qofM {w:World}{xb n0 n1 n2 n3 n4 n5:Nat} (hc0:∀ b',ae ai w b'→b'.cell? ⟨xb,0,none⟩=some (.int .u64 n0)) (hc1:∀ b',ae ai w b'→b'.cell? ⟨xb,1,none⟩=some (.int .u64 n1)) (hc4:∀ b',ae ai w b'→b'.cell? ⟨xb,4,none⟩=some (.int .u64 n4))
  (hK:∀ (y5 y6 y7 y8 y9 jU:Value)  (w':World),ae ai w w'→Q .normal ⟨#[x0,.pointer (some ⟨xb,0,none⟩),.int .u64 n0,.int .u64 n1,.int .u64 n4,y5,y6,y7,y8,y9,jU],df⟩ w'):RW Tryz.prog (aH 1 Tryz.f189) true Q ⟨#[x0,.pointer (some ⟨xb,0,none⟩),x2,x3,x4,x5,x6,x7,x8,x9,bg],df⟩ w:=by
 have HQ:=lh hK
 clear hK
 have QC0:=lh hc0
 have QC1:=lh hc1
 have QC4:=lh hc4
 have MR:=lh ((ae.refl ai w).drew)
 refine iU (S:=fun b'=>ae ai w b') [(0,true),(1,true),(2,true),(3,true),(4,true),(5,true),(6,true),(7,true),(8,true)] [] [(0,2,32),(1,32,64),(0,2,128),(4,128,256),(0,2,512),(16,512,1024),(3,64,4),(79,256,8),(255,1024,16)] (by kernel_rfl) (by kernel_rfl) (by kernel_rfl) (by kernel_rfl) (by kernel_rfl) MR.out ?_
 refine ag [0] [aj xb 0] rfl (by kernel_rfl) (fun _=>by kernel_rfl) ?_
 refine ah (.int .u64 n0) (some 6) (ki (by kernel_rfl)) (fun bb hb=>aB (x:=(.tmp 5)) (by kernel_rfl) (by kernel_rfl) (aO (QC0.out _ hb) Tryz.underlying22 rfl)) ?_
 refine ag [2] [aj xb 1] rfl (by kernel_rfl) (fun _=>by kernel_rfl) ?_
 refine ah (.int .u64 n1) (some 8) (ki (by kernel_rfl)) (fun bb hb=>aB (x:=(.tmp 7)) (by kernel_rfl) (by kernel_rfl) (aO (QC1.out _ hb) Tryz.underlying22 rfl)) ?_
 refine ag [4] [aj xb 4] rfl (by kernel_rfl) (fun _=>by kernel_rfl) ?_
 refine ah (.int .u64 n4) (some 10) (ki (by kernel_rfl)) (fun bb hb=>aB (x:=(.tmp 9)) (by kernel_rfl) (by kernel_rfl) (aO (QC4.out _ hb) Tryz.underlying22 rfl)) ?_
 refine ag [6,7,8] [.int .u64 n0,.int .u64 n1,.int .u64 n4] rfl (by kernel_rfl) (fun _=>by kernel_rfl) ?_
 exact aA (aQ (K:=Q .normal) (by kernel_rfl) (HQ.out (aj xb 0) (.int .u64 n0) (aj xb 1) (.int .u64 n1) (aj xb 4) (.int .u64 n4) _ MR.out))
end
end Go.Proofs.YtglkmaalpammcaaGreat
namespace Go.Gl
def GI (w:World) (S0 D0:Nat→Prop) (w':World) (P:FP) (N:Nat→Prop):Prop:=∃ S D,P w' S D∧ae S0 w w'∧(∀ k,S k→S0 k∨w.heap.size≤k)∧(∀ k,D k→D0 k∨w.heap.size≤k)∧(∀ k,N k→w.heap.size≤k∧k<w'.heap.size∧¬ S k∧¬ D k)
def Out (w:World) (S0 N:Nat→Prop) (k:Nat):Prop:=N k∨(k<w.heap.size∧¬ S0 k)
section
variable {prog:Program}{f:FuncId}{args:Array Value}{w w1 w2:World}{S0 D0 N N':Nat→Prop}{P P':FP}{r:Value}
theorem GI.start (p:P w S0 D0):GI w S0 D0 w P (fun _=>False):=⟨S0,D0,p,ae.refl _ _,fun _ => .inl,fun _ => .inl,fun _ x=>x.elim⟩
theorem GI.mods (h:GI w S0 D0 w1 P N):ae S0 w w1:=by obtain⟨_,_,_,m,_⟩:=h;exact m
theorem GI.keep0 (h:GI w S0 D0 w1 P N) (f:gK P) (m:ae ai w1 w2):GI w S0 D0 w2 P N:=by
 obtain⟨S,D,p,m0,s,d,n⟩:=h
 exact⟨S,D,f.keep p m (fun _ _ x=>x) (fun _ _ x=>x),m0.then0 m,s,d,fun k hk=>⟨(n k hk).1,Nat.lt_of_lt_of_le (n k hk).2.1 m.size,(n k hk).2.2⟩⟩
theorem GI.grow (h:GI w S0 D0 w1 P N) (f:gK P) (m:ae ai w1 w2) (hn:∀ k,N' k→N k∨(w1.heap.size≤k∧k<w2.heap.size)):GI w S0 D0 w2 P N':=by
 obtain⟨S,D,p,m0,s,d,n⟩:=h
 have l:=f.lt p
 refine⟨S,D,f.keep p m (fun _ _ x=>x) (fun _ _ x=>x),m0.then0 m,s,d,fun k hk=>?_⟩
 rcases hn k hk with x | ⟨x,y⟩
 ·exact⟨(n k x).1,Nat.lt_of_lt_of_le (n k x).2.1 m.size,(n k x).2.2⟩
 ·exact⟨by have:=m0.size;omega,y,fun z=>by have:=l.1 k z;omega,fun z=>by have:=l.2 k z;omega⟩
theorem GI.turn {T:Nat→Prop} (h:GI w S0 D0 w1 P N) (f:gK P) (m:ae T w1 w2) (ht:∀ k,T k→N k):GI w S0 D0 w2 P N:=by
 obtain⟨S,D,p,m0,s,d,n⟩:=h
 exact⟨S,D,f.keep p m (fun k hk x=>(n k (ht k x)).2.2.1 hk) (fun k hk x=>(n k (ht k x)).2.2.2 hk),m0.trans m (fun _ _ x=>x) (fun k hk x=>by have:=(n k (ht k x)).1;omega),s,d,fun k hk=>⟨(n k hk).1,Nat.lt_of_lt_of_le (n k hk).2.1 m.size,(n k hk).2.2⟩⟩
theorem GI.own (h:GI w S0 D0 w1 P N) (f:gK P) (m:ae ai w1 w2) {v:Value}{xs:List UInt8} (o:Own w2 v xs) (fr:aG w1 v):GI w S0 D0 w2 P (fun k=>N k∨eY v k):=h.grow f m (fun k hk=>hk.imp id (fun x=>⟨fr k x,o.lt k x⟩))
theorem GI.less (h:GI w S0 D0 w1 P N) (hn:∀ k,N' k→N k):GI w S0 D0 w1 P N':=by
 obtain⟨S,D,p,m0,s,d,n⟩:=h
 exact⟨S,D,p,m0,s,d,fun k hk=>n k (hn k hk)⟩
theorem GI.call {R:World→Value→FP→(Nat→Prop)→Prop} (h:GI w S0 D0 w1 P N) (c:GC prog f args w1 P (Out w S0 N) R):Calls prog f args w1 fun e w'=>∃ v P' N',e = .returned v∧R w' v P' N'∧GI w S0 D0 w' P' (fun k=>N k∨N' k)∧(∀ k,N' k→w1.heap.size≤k)∧ae (fun k=>¬ Out w S0 N k) w1 w':=by
 obtain⟨S,D,p,m0,s,d,n⟩:=h
 have hq:∀ k,Out w S0 N k→¬ S k:=fun k hk x=>by
  rcases hk with hk | ⟨h1,h2⟩
  ·exact (n k hk).2.2.1 x
  ·rcases s k x with y | y
   ·exact h2 y
   ·omega
 refine (c S D p hq).mono ?_
 rintro e w' ⟨v,P',N',rfl,hR,S',D',p',m,s1,d1,n1⟩
 have hs:=m0.size
 refine⟨v,P',N',rfl,hR,⟨S',D',p',m0.trans m (fun _ _ x=>x) (fun k hk x=>(s k x).elim id (fun y=>by omega)),fun k hk=>(s1 k hk).elim (s k) (fun y => .inr (by omega)),fun k hk=>(d1 k hk).elim (d k) (fun y => .inr (by omega)),fun k hk=>?_⟩,fun k hk=>(n1 k hk).1,m.mono (fun k _ hk x=>hq k x hk)⟩
 rcases hk with hk | hk
 ·have q:=n k hk
  refine⟨q.1,Nat.lt_of_lt_of_le q.2.1 m.size,fun x=>?_,fun x=>?_⟩
  ·rcases s1 k x with y | y
   ·exact q.2.2.1 y
   ·omega
  ·rcases d1 k x with y | y
   ·exact q.2.2.2 y
   ·omega
 ·exact⟨by have:=(n1 k hk).1;omega,(n1 k hk).2⟩
theorem GI.calls (h:GI w S0 D0 w1 P N) (c:GS prog f args w1 P (Out w S0 N) r P'):Calls prog f args w1 fun e w'=>e = .returned r∧GI w S0 D0 w' P' N∧ae (fun k=>¬ Out w S0 N k) w1 w':=by
 refine (GI.call h c).mono ?_
 rintro e w' ⟨v,P1,N1,rfl,⟨rfl,rfl,_⟩,g,_,m⟩
 exact⟨rfl,g.less (fun k hk => .inl hk),m⟩
theorem GI.callo {mk:Value→Value}{xs:List UInt8} (h:GI w S0 D0 w1 P N) (c:GO prog f args w1 P (Out w S0 N) mk xs P'):Calls prog f args w1 fun e w'=>∃ v',e = .returned (mk v')∧Own w' v' xs∧aG w1 v'∧GI w S0 D0 w' P' (fun k=>N k∨eY v' k)∧ae (fun k=>¬ Out w S0 N k) w1 w':=by
 refine (GI.call h c).mono ?_
 rintro e w' ⟨v,P1,N1,rfl,⟨v',rfl,o,rfl,rfl⟩,g,hN,m⟩
 exact⟨v',rfl,o,hN,g,m⟩
def kZ (w:World) (S D:Nat→Prop) (w':World) (P':FP):Prop:=∃ S' D',P' w' S' D'∧ae S w w'∧(∀ k,S' k→S k∨w.heap.size≤k)∧(∀ k,D' k→D k∨w.heap.size≤k)
theorem GI.done (h:GI w S0 D0 w1 P N):kZ w S0 D0 w1 P:=by
 obtain⟨S,D,p,m0,s,d,n⟩:=h
 exact⟨S,D,p,m0,s,d⟩
theorem GS.walk {Q:Nat→Prop} (h:∀ S D,P w S D→(∀ k,Q k→¬ S k)→Calls prog f args w fun e w'=>e = .returned r∧kZ w S D w' P'):GS prog f args w P Q r P':=GS.of h
end
end Go.Gl
namespace Go.Proofs.YtglkmaalpammcaaGreat
open Go.Gl Go.RowKit
def KW (w:World) (g:Nat) (xs:List UInt8) (wx:World):Prop:=∃ v,Wr wx g v xs 0∧(∀ k,v.ownBlock=some k→w.heap.size≤k)∧ae ai w wx∧w.heap.size≤g
theorem KW.start (w wx:World) (hm:ae ai w wx):KW w wx.heap.size [] (wx.alloc (.cells #[.slice none 0 0,.int .i64 0] 311)) :=
 ⟨.slice none 0 0,⟨aF _ _,Gl.Own.nil _,by simp [Value.ownBlock]⟩,fun k hk=>by simp [Value.ownBlock] at hk,hm.alloc _,hm.size⟩
theorem KW.step {w wx wy:World}{g:Nat}{xs ys:List UInt8}{v v':Value} (hf:∀ k,v.ownBlock=some k→w.heap.size≤k) (hm:ae ai w wx) (hg:w.heap.size≤g) (h:fQ wx g v ys 0 wy v'):KW w g ys wy:=by
 refine⟨v',h.wr,?_,hm.trans h.mods (fun _ _ x=>x) (fun i hi x=>?_),hg⟩
 ·intro k hk
  rcases h.blk with hb | hb
  ·exact hf k (hb▸hk)
  ·exact Nat.le_trans hm.size (hb k hk)
 ·rcases x with x | x
  ·omega
  ·exact absurd hi (Nat.not_lt.2 (hf i x))
theorem KW.then0 {w wx wy:World}{g:Nat}{xs:List UInt8} (h:KW w g xs wx) (hm:ae ai wx wy):KW w g xs wy:=by
 obtain⟨v,h1,h2,h3,h4⟩:=h
 exact⟨v,h1.then0 hm,h2,h3.then0 hm,h4⟩
theorem KW.mods {w wx:World}{g:Nat}{xs:List UInt8} (h:KW w g xs wx):ae ai w wx:=by
 obtain⟨v,h1,h2,h3,h4⟩:=h
 exact h3
theorem KW.u8 {w wx:World}{g:Nat}{xs:List UInt8} (h:KW w g xs wx) (x:Nat) (hx:x≤255) (hl:xs.length≤1000) :
  Calls Tryz.prog 309 #[.pointer (some ⟨g,0,none⟩),.int .u8 x] wx fun r w'=>r = .returned (.tuple #[])∧KW w g (xs ++ be 1 x) w':=by
 obtain⟨v,h1,h2,h3,h4⟩:=h
 exact (JE x h1 hx (by omega)).mono fun r w' ⟨hr,v',hs⟩=>⟨hr,KW.step (xs:=xs) h2 h3 h4 hs⟩
theorem KW.u64 {w wx:World}{g:Nat}{xs:List UInt8} (h:KW w g xs wx) (x:Nat) (hx:x≤18446744073709551615) (hl:xs.length≤1000) :
  Calls Tryz.prog 258 #[.pointer (some ⟨g,0,none⟩),.int .u64 x] wx fun r w'=>r = .returned (.tuple #[])∧KW w g (xs ++ be 8 x) w':=by
 obtain⟨v,h1,h2,h3,h4⟩:=h
 exact (Gt x h1 hx (by omega)).mono fun r w' ⟨hr,v',hs⟩=>⟨hr,KW.step (xs:=xs) h2 h3 h4 hs⟩
theorem KW.out {w wx:World}{g:Nat}{xs:List UInt8} (h:KW w g xs wx) (hl:xs.length≤1000) :
  Calls Tryz.prog 219 #[.pointer (some ⟨g,0,none⟩)] wx fun r w'=>∃ u,r = .returned (.tuple #[u,.int .i64 0])∧Gl.Own w' u xs∧ae ai w w'∧aG w u:=by
 obtain⟨v,h1,h2,h3,h4⟩:=h
 refine (rW h1 (by omega)).mono ?_
 rintro r w' ⟨u,rfl,ho,hm,hf⟩
 exact⟨u,rfl,ho,h3.then0 hm,hf.of h3.size⟩
end Go.Proofs.YtglkmaalpammcaaGreat
namespace Go.Proofs.YtglkmaalpammcaaGreat
open Go.Gl Go.RowKit
def pM (ls:List Nat):List Nat:=if jA (dB 18446744073709551616 ls)≤255 then ls else []
theorem Iy (ls:List Nat):dB 18446744073709551616 (pM ls)=pI (dB 18446744073709551616 ls):=by
 unfold pM pI
 split
 ·rfl
 ·rfl
theorem J7 {ls:List Nat} (h:gu ls):gu (pM ls):=by
 unfold pM
 split
 ·exact h
 ·exact fun x hx=>by cases hx
theorem J9 (ls:List Nat):(pM ls).length≤ls.length:=by
 unfold pM
 split
 ·exact Nat.le_refl _
 ·simp
theorem Bg (e:Int) (xs:List UInt8) (N:Nat):(xR e xs N).length≤xs.length+256:=by
 unfold xR
 split
 ·rename_i h
  have:=IU e xs (qh N)
  have h2:(qh N).length=1+jA N:=by rw [qh,List.length_append,bU,kw]
  omega
 ·omega
theorem short_any {w:World}{u:Value}{ls:List Nat} (hu:RN w u ls) (hL:gu ls) (hl:ls.length≤1000000) :
  Calls Tryz.prog 292 #[.agg #[u]] w fun r w'=>∃ u',r = .returned (.agg #[u'])∧RN w' u' (pM ls)∧ae ai w w':=by
 obtain⟨a,c,rfl,_⟩:=dP.form hu
 have HU:=lh hu
 have HL:=lh hL
 clear hu hL
 have h1:=dA (dA (aF w (.cells #[.slice a ls.length c] 75)) (.cells #[.slice none 0 0] 75)) (.cells #[.slice none 0 0,.int .i64 0] 311)
 have h2:=dA (aF (w.alloc (.cells #[.slice a ls.length c] 75)) (.cells #[.slice none 0 0] 75)) (.cells #[.slice none 0 0,.int .i64 0] 311)
 have h3:=aF ((w.alloc (.cells #[.slice a ls.length c] 75)).alloc (.cells #[.slice none 0 0] 75)) (.cells #[.slice none 0 0,.int .i64 0] 311)
 have hm:=((((ae.refl ai w).alloc (.cells #[.slice a ls.length c] 75)).alloc (.cells #[.slice none 0 0] 75)).alloc (.cells #[.slice none 0 0,.int .i64 0] 311))
 simp only [World.size_alloc] at h2 h3
 have K:=lh (And.intro h1 (And.intro h2 (And.intro h3 hm)))
 clear h1 h2 h3 hm
 go_enter Tryz.func292,Tryz.ntmps292
 go_wp2_with fail
 generalize World.alloc (World.alloc (World.alloc w _) _) _=wx at *
 have hW:Wr wx (w.heap.size+1+1) (.slice none 0 0) [] 0:=⟨K.out.2.2.1,Gl.Own.nil _,by simp [Value.ownBlock]⟩
 refine (Fj hW (HU.out.keep K.out.2.2.2 (fun _ _ x=>x)) HL.out hl (by simp)).mono ?_
 rintro r w1 ⟨rfl,v1,hs⟩
 generalize hN:dB 18446744073709551616 ls=N at *
 have HN:=lh hN
 have hS:∀ k,k<w.heap.size+1+1→¬ WS (w.heap.size+1+1) (.slice none 0 0) k:=fun k hk x=>by
  rcases x with x | x
  ·omega
  ·simp [Value.ownBlock] at x
 have c1:=af (hs.mods.heap K.out.1 (hS _ (by omega))) 0
 have g2:=hs.mods.heap K.out.2.1 (hS _ (by omega))
 have M1:=lh (show ae ai w w1 from K.out.2.2.2.trans hs.mods (fun _ _ x=>x) (fun i hi x=>hS i (by omega) x))
 have HW1:=lh hs.wr
 have HG2:=lh g2
 clear hs hS hW K hN g2
 by_cases hb:jA N≤255
 ·have e1:wI 0 N=0:=if_pos hb
  have e2:pM ls=ls:=by unfold pM;rw [HN.out,if_pos hb]
  have E2:=lh e2
  rw [e1] at HW1
  clear e1 e2
  go_wp2_with fail
  refine (rW HW1.out (by have:=Bg 0 [] N;simp at this;omega)).mono ?_
  rintro r w2 ⟨ub,rfl,ou,mu,fu⟩
  obtain⟨ua,uc,rfl,_⟩:=ou.rd.form
  have hlt:=lt_of_heap HG2.out
  have hsz:=M1.out.size
  have c2:=(mu.cellAt (by omega) (fun x=>x) 0).trans c1
  have d2:=af (mu.heap HG2.out (fun x=>x))
  have f2:=bY (mu.heap HG2.out (fun x=>x))
  have M2:=lh (M1.out.then0 mu)
  have HG3:=lh (mu.heap HG2.out (fun x=>x))
  clear ou mu fu c1
  go_wp2
  have d3:=af (heap_set HG3.out 0 (.slice a ls.length c))
  simp at d3
  refine bodyPost_ret (by simp [results,Tryz.results292,go_sem,d3];try rfl) rfl ?_
  refine⟨_,rfl,?_,?_⟩
  ·rw [E2.out]
   exact HU.out.keep (M2.out.setCell (.inr (by simp)) _) (fun _ _ x=>x)
  ·exact M2.out.setCell (.inr (by simp)) _
 ·have e1:wI 0 N=42:=by unfold wI;rw [if_neg hb];rfl
  have e2:pM ls=[]:=by unfold pM;rw [HN.out,if_neg hb]
  have E2:=lh e2
  rw [e1] at HW1
  clear e1 e2
  go_wp2_with fail
  refine (rW HW1.out (by have:=Bg 0 [] N;simp at this;omega)).mono ?_
  rintro r w2 ⟨ub,rfl,ou,mu,fu⟩
  obtain⟨ua,uc,rfl,_⟩:=ou.rd.form
  have hlt:=lt_of_heap HG2.out
  have hsz:=M1.out.size
  have d2:=af (mu.heap HG2.out (fun x=>x))
  have f2:=bY (mu.heap HG2.out (fun x=>x))
  have M2:=lh (M1.out.then0 mu)
  have HG3:=lh (mu.heap HG2.out (fun x=>x))
  clear ou mu fu c1
  go_wp2
  have d3:=af (heap_set HG3.out 0 (.slice none 0 0))
  simp at d3
  refine bodyPost_ret (by simp [results,Tryz.results292,go_sem,d3];try rfl) rfl ?_
  refine⟨_,rfl,?_,?_⟩
  ·rw [E2.out]
   exact dP.nil _ _
  ·exact M2.out.setCell (.inr (by simp)) _
def ptr (B:Nat) (o:Nat):Value := .pointer (some ⟨B,o,none⟩)
structure TW (w:World) (g B:Nat) (v:Value) (cur:Array Value) (T:TypeId) (sl:Value) (os:List Nat):Prop where
 wr:∃ xs,Wr w g v xs 0
 box:w.heap[B]?=some (.cells cur T (0,0))
 ne:¬ WS g v B
 rd:dP (ptr B) w sl os
 sb:∀ k,sl.ownBlock=some k→k<w.heap.size∧¬ WS g v k
theorem Uz (xs ys:List UInt8):rZ 0 xs ys=xs ++ ys:=if_pos rfl
theorem E8 {w:World}{g:Nat}{v:Value}{xs:List UInt8}{e:Int} (h:Wr w g v xs e) {k:Nat} (hk:WS g v k):k<w.heap.size:=by
 rcases hk with rfl | hk
 ·exact h.lt
 ·exact h.own.lt k hk
theorem VF {w:World}{g B:Nat}{v:Value}{xs:List UInt8}{cur:Array Value}{T:TypeId}{sl:Value}{os ns:List Nat} (h:Wr w g v xs 0) (ht:TW w g B v cur T sl os) (hn:ns.length=os.length) (hc:∀ (i o x:Nat),os[i]?=some o→ns[i]?=some x→cur[o]?=some (.int .u64 x)) (hu:gu ns) (hl:xs.length+8*ns.length≤100000000) :
  Calls Tryz.prog 220 #[.agg #[.pointer (some ⟨g,0,none⟩),.pointer none],sl] w fun r w'=>r = .returned (.tuple #[])∧∃ v',fQ w g v (xs ++ ns.flatMap (be 8)) 0 w' v':=by
 obtain⟨a,c,rfl,hlm⟩:=dP.form ht.rd
 have HT:=lh ht
 have HC:=lh hc
 have HU:=lh hu
 have b0:=aF w (.cells #[.pointer (some ⟨g,0,none⟩),.pointer none] 314)
 have m0:=lh ((ae.refl ai w).alloc (.cells #[.pointer (some ⟨g,0,none⟩),.pointer none] 314))
 have W0:=lh (show ∃ v',fQ (w.alloc (.cells #[.pointer (some ⟨g,0,none⟩),.pointer none] 314)) g v (xs ++ (ns.take 0).flatMap (be 8)) 0 (w.alloc (.cells #[.pointer (some ⟨g,0,none⟩),.pointer none] 314)) v' from
  ⟨v,by simpa using fQ.refl (h.then0 m0.out)⟩)
 have hsz0:=lh (show w.heap.size<(w.alloc (.cells #[.pointer (some ⟨g,0,none⟩),.pointer none] 314)).heap.size from by simp)
 have hws:=fun k (hk:WS g v k)=>E8 h hk
 have HB0:=lh (show (w.alloc (.cells #[.pointer (some ⟨g,0,none⟩),.pointer none] 314)).heap[w.heap.size]?=_ from b0)
 have HW:=lh hws
 have HLN:=lh hn
 obtain⟨n,hos⟩:∃ n,os.length=n:=⟨_,rfl⟩
 have HO:=lh hos
 unfold maxLen at hlm
 rw [hos] at hlm ⊢
 clear ht hc hu b0 hws h hn hos
 go_enter Tryz.func220,Tryz.ntmps220
 go_wp2
 generalize World.alloc w _=w0 at *
 go_loopw [8] (fun i wr=>∃ k:Nat,k≤n∧i = .int .i64 k∧Hid (∃ v',fQ w0 g v (xs ++ (ns.take k).flatMap (be 8)) 0 wr v'∧wr.heap[w.heap.size]?=some (.cells #[.pointer (some ⟨g,0,none⟩),.pointer none] 314 (0,0)))) (fun i _=>n - (intOf i).toNat)
 case atStart =>
  obtain⟨v',h⟩:=W0.out
  exact⟨0,Nat.zero_le _,rfl,lh ⟨v',h,HB0.out⟩⟩
 case round =>
  clear W0 HB0
  obtain⟨k,hk,rfl,hR⟩:=hrel
  obtain⟨v1,r1,r2⟩:=hR.out
  have R:=lh r1
  have c0:=af r2 0
  have c1:=af r2 1
  have HB:=lh r2
  clear hR r1 r2
  by_cases hlt:k<n
  ·have lk:k<os.length:=by rw [HO.out];exact hlt
   have lx:k<ns.length:=by rw [HLN.out];exact lk
   have hx:=HU.out _ (List.getElem_mem lx)
   have hcc:=HC.out k os[k] ns[k] (List.getElem?_eq_getElem lk) (List.getElem?_eq_getElem lx)
   obtain⟨g1,off,hsl,hsc⟩:∃ g1 off,a=some ⟨g1,off,none⟩∧w.cell? ⟨g1,off+k,none⟩=some (ptr B os[k]):=by
    rcases dP.open HT.out.rd with ⟨_,h0⟩ | ⟨g1,off,cap,hv,_,_,_,h5⟩
    ·rw [h0] at lk;simp at lk
    ·cases hv
     exact⟨g1,off,rfl,h5 k lk⟩
   subst hsl
   obtain⟨hg1,hg2⟩:=HT.out.sb g1 rfl
   have M1:=lh (m0.out.trans R.out.mods (U:=WS g v) (fun _ _ x=>x.elim) (fun _ _ x=>x))
   have d0:=(M1.out.cellAt hg1 hg2 (off+k)).trans hsc
   have d1:=(af (M1.out.heap HT.out.box HT.out.ne) os[k]).trans hcc
   have HN1:=lh (show (ns.take (k+1)).flatMap (be 8)=(ns.take k).flatMap (be 8) ++ be 8 ns[k] from by rw [List.take_succ_eq_append_getElem lx,List.flatMap_append];simp)
   have hlk:(xs ++ (ns.take k).flatMap (be 8)).length≤100000000:=by
    have:∀ l:List Nat,(l.flatMap (be 8)).length=8*l.length:=by
     intro l
     induction l with
     | nil=>rfl
     | cons x l ih=>rw [List.flatMap_cons,List.length_append,ih,bU,List.length_cons];omega
    rw [List.length_append,this,List.length_take]
    omega
   generalize os[k]=o at *
   generalize ns[k]=x at *
   clear hsc hcc hg1 hg2
   unfold ptr at d0
   go_wp2
   go_still_tail 5,(by kernel_rfl)
   change wpList _ _ _ _ _ wr.drew
   go_wp2_with fail
   refine (Gt x R.out.wr.drew hx (by omega)).mono ?_
   rintro r w5 ⟨rfl,v2,s2⟩
   have hb2:=s2.mods.heap (show wr.drew.heap[w.heap.size]?=_ from HB.out) (fun y=>by
    rcases y with y | y
    ·have:=HW.out g (.inl rfl);omega
    ·rcases R.out.blk with hb | hb
     ·have:=HW.out _ (.inr (hb▸y));omega
     ·have:=hb _ y;have:=hsz0.out;omega)
   have S2:=R.out.trans (s2.from ((ae.refl ai wr).drew))
   rw [Uz,List.append_assoc,← HN1.out] at S2
   have R2:=lh (And.intro S2 hb2)
   clear s2 hb2 S2 R HB d0 d1 c0 c1
   go_wp2
   go_roundw
   case rel=>exact⟨k+1,by omega,by go_num,lh ⟨v2,R2.out⟩⟩
   case measure=>simp [intOf];omega
  ·have e:ns.take k=ns:=List.take_of_length_le (by rw [HLN.out,HO.out];omega)
   have hr:=R.out.from m0.out
   rw [e] at hr
   have R2:=lh hr
   clear R hr HB c0 c1
   go_wp2
   go_end0
   exact⟨rfl,v1,R2.out⟩
theorem RN.keepW {S:Nat→Prop}{w w':World}{u:Value}{ls:List Nat} (h:RN w u ls) (hm:ae S w w') (ha:ls=[]∨∀ k,u.ownBlock=some k→¬ S k):RN w' u ls:=by
 rcases ha with rfl | ha
 ·refine⟨rfl,?_⟩
  rcases h.2 with h2 | ⟨g,off,cap,hv,h1,h2,hg,h3⟩
  ·exact .inl h2
  ·exact .inr ⟨g,off,cap,hv,h1,h2,.inl rfl,fun j u hj=>by simp at hj⟩
 ·exact dP.keep h hm ha
def qH (ls:List Nat):List UInt8:=qh (pI (dB 18446744073709551616 ls))
theorem AL (ls:List Nat):(qH ls).length≤256:=by
 have:=rG (dB 18446744073709551616 ls)
 unfold qH
 rw [qh,List.length_append,bU,kw]
 omega
theorem U5 {w:World}{g B:Nat}{v:Value}{xs:List UInt8}{cur:Array Value}{T:TypeId}{sl:Value}{os:List Nat}{us:List Value}{ns:List (List Nat)} (h:Wr w g v xs 0) (ht:TW w g B v cur T sl os) (hn:ns.length=os.length) (hun:us.length=os.length) (hc:∀ (i o:Nat) (u:Value) (ls:List Nat),os[i]?=some o→us[i]?=some u→ns[i]?=some ls→cur[o]?=some u∧RN w u ls∧gu ls∧ls.length≤1000000∧(ls=[]∨∀ k,u.ownBlock=some k→¬ WS g v k)) (hl:xs.length+256*ns.length≤100000000) :
  Calls Tryz.prog 270 #[.agg #[.pointer (some ⟨g,0,none⟩),.pointer none],sl] w fun r w'=>r = .returned (.tuple #[])∧∃ v',fQ w g v (xs ++ ns.flatMap qH) 0 w' v':=by
 obtain⟨a,c,rfl,hlm⟩:=dP.form ht.rd
 have HT:=lh ht
 have HC:=lh hc
 have HUN:=lh hun
 have b0:=aF w (.cells #[.pointer (some ⟨g,0,none⟩),.pointer none] 314)
 have m0:=lh ((ae.refl ai w).alloc (.cells #[.pointer (some ⟨g,0,none⟩),.pointer none] 314))
 have W0:=lh (show ∃ v',fQ (w.alloc (.cells #[.pointer (some ⟨g,0,none⟩),.pointer none] 314)) g v (xs ++ (ns.take 0).flatMap qH) 0 (w.alloc (.cells #[.pointer (some ⟨g,0,none⟩),.pointer none] 314)) v' from
  ⟨v,by simpa using fQ.refl (h.then0 m0.out)⟩)
 have hsz0:=lh (show w.heap.size<(w.alloc (.cells #[.pointer (some ⟨g,0,none⟩),.pointer none] 314)).heap.size from by simp)
 have hws:=fun k (hk:WS g v k)=>E8 h hk
 have HB0:=lh (show (w.alloc (.cells #[.pointer (some ⟨g,0,none⟩),.pointer none] 314)).heap[w.heap.size]?=_ from b0)
 have HW:=lh hws
 have HLN:=lh hn
 obtain⟨n,hos⟩:∃ n,os.length=n:=⟨_,rfl⟩
 have HO:=lh hos
 unfold maxLen at hlm
 rw [hos] at hlm ⊢
 clear ht hc hun b0 hws h hn hos
 go_enter Tryz.func270,Tryz.ntmps270
 go_wp2
 generalize World.alloc w _=w0 at *
 go_loopw [8] (fun i wr=>∃ k:Nat,k≤n∧i = .int .i64 k∧Hid (∃ v',fQ w0 g v (xs ++ (ns.take k).flatMap qH) 0 wr v'∧wr.heap[w.heap.size]?=some (.cells #[.pointer (some ⟨g,0,none⟩),.pointer none] 314 (0,0)))) (fun i _=>n - (intOf i).toNat)
 case atStart =>
  obtain⟨v',h⟩:=W0.out
  exact⟨0,Nat.zero_le _,rfl,lh ⟨v',h,HB0.out⟩⟩
 case round =>
  clear W0 HB0
  obtain⟨k,hk,rfl,hR⟩:=hrel
  obtain⟨v1,r1,r2⟩:=hR.out
  have R:=lh r1
  have c0:=af r2 0
  have c1:=af r2 1
  have HB:=lh r2
  clear hR r1 r2
  by_cases hlt:k<n
  ·have lk:k<os.length:=by rw [HO.out];exact hlt
   have lx:k<ns.length:=by rw [HLN.out];exact lk
   have lu:k<us.length:=by rw [HUN.out];exact lk
   obtain⟨hcc,hru,hlu,hll,hap⟩:=HC.out k os[k] us[k] ns[k] (List.getElem?_eq_getElem lk) (List.getElem?_eq_getElem lu) (List.getElem?_eq_getElem lx)
   obtain⟨g1,off,hsl,hsc⟩:∃ g1 off,a=some ⟨g1,off,none⟩∧w.cell? ⟨g1,off+k,none⟩=some (ptr B os[k]):=by
    rcases dP.open HT.out.rd with ⟨_,h0⟩ | ⟨g1,off,cap,hv,_,_,_,h5⟩
    ·rw [h0] at lk;simp at lk
    ·cases hv
     exact⟨g1,off,rfl,h5 k lk⟩
   subst hsl
   obtain⟨hg1,hg2⟩:=HT.out.sb g1 rfl
   have M1:=lh (m0.out.trans R.out.mods (U:=WS g v) (fun _ _ x=>x.elim) (fun _ _ x=>x))
   have d0:=(M1.out.cellAt hg1 hg2 (off+k)).trans hsc
   have d1:=(af (M1.out.heap HT.out.box HT.out.ne) os[k]).trans hcc
   have HN1:=lh (show (ns.take (k+1)).flatMap qH=(ns.take k).flatMap qH ++ qH ns[k] from by rw [List.take_succ_eq_append_getElem lx,List.flatMap_append];simp)
   have hlk:(xs ++ (ns.take k).flatMap qH).length≤100000000:=by
    have:∀ l:List (List Nat),(l.flatMap qH).length≤256*l.length:=by
     intro l
     induction l with
     | nil=>simp
     | cons x l ih=>rw [List.flatMap_cons,List.length_append,List.length_cons];have:=AL x;omega
    have h1:=this (ns.take k)
    rw [List.length_take] at h1
    rw [List.length_append]
    omega
   generalize os[k]=o at *
   generalize ns[k]=x at *
   generalize us[k]=u at *
   clear hsc hcc hg1 hg2
   unfold ptr at d0
   have HRU:=lh (RN.keepW hru M1.out hap)
   obtain⟨ua,uc,rfl,_⟩:=dP.form hru
   have HSH:=lh (fun (wy:World) (hm:ae ai wr wy)=>short_any (dP.keep HRU.out hm (fun _ _ y=>y)) hlu hll)
   have HB1:=lh (fun (wy:World) (hm:ae ai wr wy)=>(show wy.heap[w.heap.size]?=_ from hm.heap HB.out (fun y=>y)))
   have HDC:=lh (fun (wy:World) (u':Value) (hm:ae ai wr wy) (hu':RN wy u' (pM x))=>Fj (R.out.wr.then0 hm) hu' (J7 hlu) (by have:=J9 x;omega) (by omega))
   clear hru hap hll hlu HRU
   go_wp2
   go_region_with (first
    | (go_at_call 292;refine (HSH.out _ ?_).mono ?_;(next=>(repeat' (first | exact ae.refl _ _ | refine ae.drew ?_ | refine ae.drewN ?_ _)));rintro r w5 ⟨u',rfl,hu',m5⟩;obtain⟨sa,sc,rfl,_⟩:=dP.form hu';have M5:ae ai wr w5:=ae.trans (S:=ai) (T:=ai) (by repeat' (first | exact ae.refl _ _ | refine ae.drew ?_ | refine ae.drewN ?_ _)) m5 (fun _ _ y=>y) (fun _ _ y=>y);have c0:=af (HB1.out _ M5) 0)
    | (go_at_call 291;refine (HDC.out _ _ (ae.trans (S:=ai) (T:=ai) M5 ?_ (fun _ _ y=>y) (fun _ _ y=>y)) (dP.keep hu' (S:=ai) ?_ (fun _ _ y=>y))).mono ?_;(next=>(repeat' (first | exact ae.refl _ _ | refine ae.drew ?_ | refine ae.drewN ?_ _)));(next=>(repeat' (first | exact ae.refl _ _ | refine ae.drew ?_ | refine ae.drewN ?_ _)));rintro r w6 ⟨rfl,v2,s2⟩))
   all_goals
    have M6:ae ai wr _:=M5
    rw [Iy,show xR 0 (xs ++ (ns.take k).flatMap qH) (pI (dB 18446744073709551616 x))=(xs ++ (ns.take k).flatMap qH) ++ qH x from (if_pos (rG _)).trans (if_pos rfl),show wI 0 (pI (dB 18446744073709551616 x))=0 from if_pos (rG _)] at s2
    have s3:=s2.from (ae.trans (S:=ai) (T:=ai) M5 (by repeat' (first | exact ae.refl _ _ | refine ae.drew ?_ | refine ae.drewN ?_ _)) (fun _ _ y=>y) (fun _ _ y=>y))
    have hb2:=s3.mods.heap HB.out (fun y=>by
     rcases y with y | y
     ·have:=HW.out g (.inl rfl);omega
     ·rcases R.out.blk with hb | hb
      ·have:=HW.out _ (.inr (hb▸y));omega
      ·have:=hb _ y;have:=hsz0.out;omega)
    have S2:=R.out.trans s3
    rw [List.append_assoc,← HN1.out] at S2
    have R2:=lh (And.intro S2 hb2)
    clear s2 s3 hb2 S2 R HB c0 c1 M5 M6 HSH HB1 HDC hu' m5
    go_wp2
    go_roundw
    case rel=>exact⟨k+1,by omega,by go_num,lh ⟨v2,R2.out⟩⟩
    case measure=>simp [intOf];omega
  ·have e:ns.take k=ns:=List.take_of_length_le (by rw [HLN.out,HO.out];omega)
   have hr:=R.out.from m0.out
   rw [e] at hr
   have R2:=lh hr
   clear R hr HB c0 c1
   go_wp2
   go_end0
   exact⟨rfl,v1,R2.out⟩
end Go.Proofs.YtglkmaalpammcaaGreat
namespace Go.Proofs.YtglkmaalpammcaaGreat
open Go.Gl Go.RowKit
structure TR (g B:Nat) (T:TypeId) (v:Value) (s:fJ) (cur:Array Value) (wx:World):Prop where
 rr:Rr wx g v s.1 s.2
 box:wx.heap[B]?=some (.cells cur T (0,0))
 ne:B≠g
 nb:v.ownBlock≠some B
def nV (w:World) (g B:Nat) (T:TypeId) (v:Value) (s:fJ) (cur:Array Value) (wx:World):Prop :=
 ∃ v',TR g B T v' s cur wx∧ae (fun k=>k=g∨k=B) w wx∧∀ k,v'.ownBlock=some k→v.ownBlock=some k
theorem nV.refl {w:World}{g B:Nat}{T:TypeId}{v:Value}{s:fJ}{cur:Array Value} (h:TR g B T v s cur w):nV w g B T v s cur w:=⟨v,h,ae.refl _ _,fun _ x=>x⟩
theorem nV.trans {w w1 w2:World}{g B:Nat}{T:TypeId}{v v1:Value}{s t:fJ}{cur cur2:Array Value} (h:ae (fun k=>k=g∨k=B) w w1) (hv:∀ k,v1.ownBlock=some k→v.ownBlock=some k) (k:nV w1 g B T v1 t cur2 w2):nV w g B T v t cur2 w2:=by
 obtain⟨v2,k1,k2,k3⟩:=k
 exact⟨v2,k1,h.trans k2 (fun _ _ x=>x) (fun _ _ x=>x),fun i hi=>hv i (k3 i hi)⟩
theorem TR.alloc {w:World}{g B:Nat}{T:TypeId}{v:Value}{s:fJ}{cur:Array Value} (h:TR g B T v s cur w) (o:Obj):TR g B T v s cur (w.alloc o) :=
 ⟨h.rr.keep ((ae.refl ai w).alloc o) (fun x=>x) (fun _ _ x=>x),dA h.box o,h.ne,h.nb⟩
theorem TR.step {w wy:World}{g B:Nat}{T:TypeId}{v v':Value}{s t:fJ}{cur:Array Value} (h:TR g B T v s cur w) (k:jK w g v t.1 t.2 wy v'):TR g B T v' t cur wy :=
 ⟨k.rr,k.mods.heap h.box h.ne,h.ne,fun e=>h.nb (k.blk _ e)⟩
theorem TR.set {w:World}{g B:Nat}{T:TypeId}{v:Value}{s:fJ}{cur:Array Value} (h:TR g B T v s cur w) (o:Nat) (u:Value):TR g B T v s (cur.setIfInBounds o u) (w.setCell ⟨B,o,none⟩ u) :=
 ⟨h.rr.keep (ae.one w B o u) (fun e=>h.ne e.symm) (fun k hk e=>h.nb (by rw [hk,e])),heap_set h.box o u,h.ne,h.nb⟩
def setAt:Array Value→List Nat→List Value→Array Value
 | cur,o :: os,u :: us=>setAt (cur.setIfInBounds o u) os us
 | cur,_,_=>cur
theorem BK (os:List Nat):∀ (cur:Array Value) (us:List Value),(setAt cur os us).size=cur.size:=by
  induction os with
  | nil=>intro cur us;rfl
  | cons o os ih =>
    intro cur us
    cases us with
    | nil=>rfl
    | cons u us=>exact (ih _ _).trans (Array.size_setIfInBounds ..)
theorem Bz (os:List Nat) (o:Nat) (u:Value):∀ (cur:Array Value) (us:List Value),us.length=os.length→setAt cur (os ++ [o]) (us ++ [u])=(setAt cur os us).setIfInBounds o u:=by
  induction os with
  | nil =>
    intro cur us h
    obtain rfl:=List.eq_nil_of_length_eq_zero h
    rfl
  | cons p os ih =>
    intro cur us h
    cases us with
    | nil=>simp at h
    | cons x us=>exact ih _ _ (by simpa using h)
def zW:Nat→fJ→fJ
 | 0,s=>s
 | k+1,s=>est 8 (zW k s)
def yS:Nat→fJ→List Nat
 | 0,_=>[]
 | k+1,s=>yS k s ++ [fO 8 (zW k s)]
theorem Lt (k:Nat) (s:fJ):(yS k s).length=k:=by
 induction k with
 | zero=>rfl
 | succ k ih=>rw [yS,List.length_append,ih];rfl
def uv (x:Nat):Value := .int .u64 x
def dst:Nat→fJ→fJ
 | 0,s=>s
 | k+1,s=>oW (dst k s)
def Bi:Nat→fJ→List (List Nat)
 | 0,_=>[]
 | k+1,s=>Bi k s ++ [kK (dst k s)]
theorem Px (s:fJ):(oW s).1.length≤s.1.length:=by
 unfold oW
 split
 ·split
  ·split
   ·exact Nat.le_refl _
   ·simp
  ·exact Nat.le_refl _
 ·exact Nat.le_refl _
theorem Tm (n:Nat) (s:fJ):(est n s).1.length≤s.1.length:=by
 simp only [est,um]
 split
 ·split
  ·simp
  ·exact Nat.le_refl _
 ·exact Nat.le_refl _
theorem JB (k:Nat) (s:fJ):(dst k s).1.length≤s.1.length:=by
 induction k with
 | zero=>exact Nat.le_refl _
 | succ k ih=>exact Nat.le_trans (Px _) ih
theorem Dq (k:Nat) (s:fJ):(zW k s).1.length≤s.1.length:=by
 induction k with
 | zero=>exact Nat.le_refl _
 | succ k ih=>exact Nat.le_trans (Tm 8 _) ih
theorem Vj {w:World}{g B:Nat}{T:TypeId}{v:Value}{s:fJ}{cur:Array Value}{sl:Value}{os:List Nat} (h:TR g B T v s cur w) (hp:dP (ptr B) w sl os) (sb:∀ k,sl.ownBlock=some k→k<w.heap.size∧¬ (k=g∨k=B)) (hc:∀ (i o:Nat),os[i]?=some o→o<cur.size) :
  Calls Tryz.prog 220 #[.agg #[.pointer none,.pointer (some ⟨g,0,none⟩)],sl] w fun r w'=>r = .returned (.tuple #[])∧nV w g B T v (zW os.length s) (setAt cur os ((yS os.length s).map uv)) w':=by
 obtain⟨a,c,rfl,hlm⟩:=dP.form hp
 have HP:=lh hp
 have HSB:=lh sb
 have HC:=lh hc
 have b0:=aF w (.cells #[.pointer none,.pointer (some ⟨g,0,none⟩)] 314)
 have m0:=lh ((ae.refl ai w).alloc (.cells #[.pointer none,.pointer (some ⟨g,0,none⟩)] 314))
 have W0:=lh (nV.refl (h.alloc (.cells #[.pointer none,.pointer (some ⟨g,0,none⟩)] 314)))
 have HL:=lh (And.intro h.rr.lt (lt_of_heap h.box))
 have HB0:=lh b0
 obtain⟨n,hos⟩:∃ n,os.length=n:=⟨_,rfl⟩
 have HO:=lh hos
 unfold maxLen at hlm
 rw [hos] at hlm ⊢
 clear hp sb hc b0 hos h
 go_enter Tryz.func220,Tryz.ntmps220
 go_wp2
 generalize World.alloc w _=w0 at *
 go_loopw [8] (fun i wr=>∃ k:Nat,k≤n∧i = .int .i64 k∧Hid (nV w0 g B T v (zW k s) (setAt cur (os.take k) ((yS k s).map uv)) wr∧wr.heap[w.heap.size]?=some (.cells #[.pointer none,.pointer (some ⟨g,0,none⟩)] 314 (0,0)))) (fun i _=>n - (intOf i).toNat)
 case atStart=>exact⟨0,Nat.zero_le _,rfl,lh ⟨W0.out,HB0.out⟩⟩
 case round =>
  clear W0 HB0
  obtain⟨k,hk,rfl,hR⟩:=hrel
  obtain⟨⟨v1,r1,rm,rb⟩,r2⟩:=hR.out
  have c0:=af r2 0
  have c1:=af r2 1
  have HB:=lh r2
  have RM:=lh (And.intro rm rb)
  clear hR r2
  by_cases hlt:k<n
  ·have lk:k<os.length:=by rw [HO.out];exact hlt
   have lo:=HC.out k os[k] (List.getElem?_eq_getElem lk)
   obtain⟨g1,off,hsl,hsc⟩:∃ g1 off,a=some ⟨g1,off,none⟩∧w.cell? ⟨g1,off+k,none⟩=some (ptr B os[k]):=by
    rcases dP.open HP.out with ⟨_,h0⟩ | ⟨g1,off,cap,hv,_,_,_,h5⟩
    ·rw [h0] at lk;simp at lk
    ·cases hv
     exact⟨g1,off,rfl,h5 k lk⟩
   subst hsl
   obtain⟨hg1,hg2⟩:=HSB.out g1 rfl
   have M1:=lh (m0.out.trans RM.out.1 (U:=fun k=>k=g∨k=B) (fun _ _ x=>x.elim) (fun _ _ x=>x))
   have d0:=(M1.out.cellAt hg1 hg2 (off+k)).trans hsc
   have HN1:=lh (show setAt cur (os.take (k+1)) ((yS (k+1) s).map uv)=(setAt cur (os.take k) ((yS k s).map uv)).setIfInBounds os[k] (uv (fO 8 (zW k s))) from by
    rw [List.take_succ_eq_append_getElem lk,yS,List.map_append]
    exact Bz _ _ _ _ _ (by rw [List.length_map,Lt,List.length_take];omega))
   have HS1:=lh (show zW (k+1) s=est 8 (zW k s) from rfl)
   have hcs:(setAt cur (os.take k) ((yS k s).map uv)).size=cur.size:=BK _ _ _
   generalize setAt cur (os.take k) ((yS k s).map uv)=ca at *
   generalize zW k s=sa at *
   generalize os[k]=o at *
   obtain⟨old,hold⟩:∃ old,ca[o]?=some old:=⟨_,Array.getElem?_eq_getElem (by omega)⟩
   clear hsc hg1 hg2
   unfold ptr at d0
   have R1:=lh r1
   clear r1 rm rb lo hcs
   go_wp2_with fail
   refine (Qe R1.out.rr).mono ?_
   rintro r w5 ⟨rfl,v2,s2⟩
   have hw:=HL.out
   have hw2:=RM.out.1.size
   have hw3:=m0.out.size
   have hb2:=lh (s2.mods.heap HB.out (by omega))
   have t2:=R1.out.step (t:=est 8 sa) s2
   have d1:=(af t2.box o).trans hold
   have f1:=bY t2.box o
   have T2:=lh t2
   have S2:=lh s2
   clear t2 s2 hw hw2 hw3 c0 c1
   go_wp2
   go_roundw
   case rel =>
    refine⟨k+1,by omega,by go_num,lh ⟨⟨v2,?_,?_,?_⟩,?_⟩⟩
    ·rw [HN1.out,HS1.out]
     exact T2.out.set o _
    ·exact (RM.out.1.trans S2.out.mods (fun _ _ x=>x) (fun _ _ x => .inl x)).setCell (.inl (.inr rfl)) _
    ·exact fun i hi=>RM.out.2 i (S2.out.blk i hi)
    ·have hw:=HL.out
     exact (ik (by simp only;omega) _).trans hb2.out
   case measure=>simp [intOf];omega
  ·have e:os.take k=os:=List.take_of_length_le (by rw [HO.out];omega)
   obtain rfl:k=n:=by omega
   rw [e] at r1
   have R2:=lh (And.intro r1 (And.intro (m0.out.trans RM.out.1 (U:=fun k=>k=g∨k=B) (fun _ _ x=>x.elim) (fun _ _ x=>x)) RM.out.2))
   clear r1 HB rm rb
   go_wp2
   go_end0
   exact⟨rfl,v1,R2.out⟩
def rdW (w:World) (us:List Value) (ns:List (List Nat)):Prop:=us.length=ns.length∧∀ (i:Nat) (u:Value) (ls:List Nat),us[i]?=some u→ns[i]?=some ls→RN w u ls
theorem rdW.snoc {w:World}{us:List Value}{ns:List (List Nat)}{u:Value}{ls:List Nat} (h:rdW w us ns) (k:RN w u ls):rdW w (us ++ [u]) (ns ++ [ls]):=by
 refine⟨by rw [List.length_append,List.length_append,h.1];rfl,fun i x l hx hl=>?_⟩
 by_cases hi:i<us.length
 ·rw [List.getElem?_append_left hi] at hx
  rw [List.getElem?_append_left (by rw [← h.1];exact hi)] at hl
  exact h.2 i x l hx hl
 ·rw [List.getElem?_append_right (by omega)] at hx
  rw [List.getElem?_append_right (by rw [← h.1];omega)] at hl
  rw [← h.1] at hl
  rcases Nat.eq_zero_or_pos (i - us.length) with h0 | h0
  ·rw [h0] at hx hl
   cases hx
   cases hl
   exact k
  ·rw [List.getElem?_eq_none (by simp;omega)] at hx
   cases hx
def RDs (w0 w':World) (us:List Value) (ns:List (List Nat)):Prop:=rdW w' us ns∧∀ u∈us,aG w0 u
theorem RDs.keep {w0 w1 w2:World}{S:Nat→Prop}{us:List Value}{ns:List (List Nat)} (h:RDs w0 w1 us ns) (hm:ae S w1 w2) (hs:∀ k,S k→k<w0.heap.size):RDs w0 w2 us ns :=
  ⟨⟨h.1.1, fun i u ls hu hl => dP.keep (h.1.2 i u ls hu hl) hm (fun k hk hS => by
    have:=h.2 u (List.mem_of_getElem? hu) k hk
    have:=hs k hS
    omega)⟩,h.2⟩
theorem Us {w:World}{g B:Nat}{T:TypeId}{v:Value}{s:fJ}{cur:Array Value}{sl:Value}{os:List Nat} (h:TR g B T v s cur w) (hp:dP (ptr B) w sl os) (sb:∀ k,sl.ownBlock=some k→k<w.heap.size∧¬ (k=g∨k=B)) (hc:∀ (i o:Nat),os[i]?=some o→o<cur.size) (hll:s.1.length≤10000000000) :
  Calls Tryz.prog 270 #[.agg #[.pointer none,.pointer (some ⟨g,0,none⟩)],sl] w fun r w'=>r = .returned (.tuple #[])∧∃ us,nV w g B T v (dst os.length s) (setAt cur os us) w'∧RDs w w' us (Bi os.length s):=by
 obtain⟨a,c,rfl,hlm⟩:=dP.form hp
 have HP:=lh hp
 have HSB:=lh sb
 have HC:=lh hc
 have b0:=aF w (.cells #[.pointer none,.pointer (some ⟨g,0,none⟩)] 314)
 have m0:=lh ((ae.refl ai w).alloc (.cells #[.pointer none,.pointer (some ⟨g,0,none⟩)] 314))
 have W0:=lh (nV.refl (h.alloc (.cells #[.pointer none,.pointer (some ⟨g,0,none⟩)] 314)))
 have HL:=lh (And.intro h.rr.lt (lt_of_heap h.box))
 have HB0:=lh b0
 obtain⟨n,hos⟩:∃ n,os.length=n:=⟨_,rfl⟩
 have HO:=lh hos
 unfold maxLen at hlm
 rw [hos] at hlm ⊢
 clear hp sb hc b0 hos h
 go_enter Tryz.func270,Tryz.ntmps270
 go_wp2
 generalize World.alloc w _=w0 at *
 go_loopw [8] (fun i wr=>∃ k:Nat,k≤n∧i = .int .i64 k∧Hid (∃ us,us.length=k∧nV w0 g B T v (dst k s) (setAt cur (os.take k) us) wr∧RDs w0 wr us (Bi k s)∧wr.heap[w.heap.size]?=some (.cells #[.pointer none,.pointer (some ⟨g,0,none⟩)] 314 (0,0)))) (fun i _=>n - (intOf i).toNat)
 case atStart=>exact⟨0,Nat.zero_le _,rfl,lh ⟨[],rfl,W0.out,⟨⟨rfl,fun _ _ _ x=>by simp at x⟩,fun _ x=>by cases x⟩,HB0.out⟩⟩
 case round =>
  clear W0 HB0
  obtain⟨k,hk,rfl,hR⟩:=hrel
  obtain⟨us,hus,⟨v1,r1,rm,rb⟩,hds,r2⟩:=hR.out
  have c0:=af r2 0
  have c1:=af r2 1
  have HB:=lh r2
  have RM:=lh (And.intro rm rb)
  have DS:=lh (And.intro hus hds)
  clear hR r2 hus hds
  by_cases hlt:k<n
  ·have lk:k<os.length:=by rw [HO.out];exact hlt
   have lo:=HC.out k os[k] (List.getElem?_eq_getElem lk)
   obtain⟨g1,off,hsl,hsc⟩:∃ g1 off,a=some ⟨g1,off,none⟩∧w.cell? ⟨g1,off+k,none⟩=some (ptr B os[k]):=by
    rcases dP.open HP.out with ⟨_,h0⟩ | ⟨g1,off,cap,hv,_,_,_,h5⟩
    ·rw [h0] at lk;simp at lk
    ·cases hv
     exact⟨g1,off,rfl,h5 k lk⟩
   subst hsl
   obtain⟨hg1,hg2⟩:=HSB.out g1 rfl
   have M1:=lh (m0.out.trans RM.out.1 (U:=fun k=>k=g∨k=B) (fun _ _ x=>x.elim) (fun _ _ x=>x))
   have d0:=(M1.out.cellAt hg1 hg2 (off+k)).trans hsc
   have HN1:=lh (fun u:Value=>show setAt cur (os.take (k+1)) (us ++ [u])=(setAt cur (os.take k) us).setIfInBounds os[k] u from by
    rw [List.take_succ_eq_append_getElem lk]
    exact Bz _ _ _ _ _ (by rw [DS.out.1,List.length_take];omega))
   have HS1:=lh (show dst (k+1) s=oW (dst k s) from rfl)
   have HD1:=lh (show Bi (k+1) s=Bi k s ++ [kK (dst k s)] from rfl)
   have hcs:(setAt cur (os.take k) us).size=cur.size:=BK _ _ _
   have hsl:=Nat.le_trans (JB k s) hll
   generalize setAt cur (os.take k) us=ca at *
   generalize dst k s=sa at *
   generalize Bi k s=da at *
   generalize os[k]=o at *
   obtain⟨old,hold⟩:∃ old,ca[o]?=some old:=⟨_,Array.getElem?_eq_getElem (by omega)⟩
   clear hsc hg1 hg2
   unfold ptr at d0
   have R1:=lh r1
   clear r1 rm rb lo hcs
   go_wp2_with fail
   refine (Rq R1.out.rr hsl).mono ?_
   rintro r w5 ⟨u,v2,rfl,hn,hf,s2⟩
   obtain⟨ua,uc,rfl,_⟩:=dP.form hn
   have hw:=HL.out
   have hw2:=RM.out.1.size
   have hw3:=m0.out.size
   have hb2:=lh (s2.mods.heap HB.out (by omega))
   have t2:=R1.out.step (t:=oW sa) s2
   have d1:=(af t2.box o).trans hold
   have f1:=bY t2.box o
   have T2:=lh t2
   have S2:=lh s2
   have HF:=lh (And.intro hn hf)
   clear t2 s2 hw hw2 hw3 c0 c1 hn hf
   go_wp2
   go_roundw
   case rel =>
    have hw:=HL.out
    have hw2:=RM.out.1.size
    have hw3:=m0.out.size
    refine⟨k+1,by omega,by go_num,lh ⟨us ++ [.slice ua (kK sa).length uc],by rw [List.length_append,DS.out.1];rfl,⟨v2,?_,?_,?_⟩,?_,?_⟩⟩
    ·rw [HN1.out,HS1.out]
     exact T2.out.set o _
    ·exact (RM.out.1.trans S2.out.mods (fun _ _ x=>x) (fun _ _ x => .inl x)).setCell (.inl (.inr rfl)) _
    ·exact fun i hi=>RM.out.2 i (S2.out.blk i hi)
    ·rw [HD1.out]
     have hq:=(DS.out.2.keep S2.out.mods (fun k hk=>by omega)).keep (ae.one w5 B o (.slice ua (kK sa).length uc)) (fun k hk=>by omega)
     refine⟨hq.1.snoc (dP.keep HF.out.1 (ae.one w5 B o _) (fun k hk e=>by have:=HF.out.2 k hk;omega)),fun x hx=>?_⟩
     rcases List.mem_append.1 hx with hx | hx
     ·exact hq.2 x hx
     ·obtain rfl:=List.mem_singleton.1 hx
      exact HF.out.2.of (by omega)
    ·have hw:=HL.out
     exact (ik (by simp only;omega) _).trans hb2.out
   case measure=>simp [intOf];omega
  ·have e:os.take k=os:=List.take_of_length_le (by rw [HO.out];omega)
   obtain rfl:k=n:=by omega
   rw [e] at r1
   have R2:=lh (And.intro r1 (And.intro (m0.out.trans RM.out.1 (U:=fun k=>k=g∨k=B) (fun _ _ x=>x.elim) (fun _ _ x=>x)) RM.out.2))
   clear r1 HB rm rb
   go_wp2
   go_end0
   exact⟨rfl,us,⟨v1,R2.out⟩,DS.out.2.1,fun u hu=>(DS.out.2.2 u hu).of m0.out.size⟩
end Go.Proofs.YtglkmaalpammcaaGreat
namespace Go.Proofs.YtglkmaalpammcaaGreat
open Go.Gl Go.RowKit
structure Hm (w:World) (g B:Nat) (v0:Value) (cur:Array Value) (T:TypeId):Prop where
 wr:∃ xs,Wr w g v0 xs 0
 box:w.heap[B]?=some (.cells cur T (0,0))
 ne:¬ WS g v0 B
structure WF (w:World) (g tb:Nat) (v0:Value) (xs:List UInt8) (wx:World):Prop where
 st:∃ v',fQ w g v0 xs 0 wx v'∧¬ WS g v' tb
 tbx:wx.heap[tb]?=some (.cells #[.pointer (some ⟨g,0,none⟩),.pointer none] 314 (0,0))
 new:w.heap.size≤tb
theorem fQ.ws {w wx:World}{g:Nat}{v0 v1:Value}{xs ys:List UInt8} (h:fQ w g v0 xs 0 wx v1) {k:Nat} (hk:WS g v1 k):WS g v0 k∨w.heap.size≤k:=by
 rcases hk with rfl | hk
 ·exact .inl (.inl rfl)
 ·rcases h.blk with hb | hb
  ·exact .inl (.inr (hb▸hk))
  ·exact .inr (hb k hk)
def DV (w:World) (g:Nat) (v:Value) (u:Value) (ls:List Nat):Prop:=RN w u ls∧gu ls∧ls.length≤1000000∧(ls=[]∨∀ k,u.ownBlock=some k→¬ WS g v k)
theorem DV.keep {w wx wy:World}{g:Nat}{v0 v1 u:Value}{ls:List Nat}{xs:List UInt8} (h:DV w g v0 u ls) (hs:fQ w g v0 xs 0 wx v1) (hm:ae ai wx wy):DV wy g v1 u ls:=by
 obtain⟨h1,h2,h3,h4⟩:=h
 refine⟨RN.keepW h1 (hs.mods.then0 hm) h4,h2,h3,?_⟩
 rcases Nat.eq_zero_or_pos ls.length with h0 | h0
 ·exact .inl (List.eq_nil_of_length_eq_zero h0)
 ·refine h4.imp id (fun h4 k hk hw=>?_)
  have:=dP.ltn h1 (by omega) k hk
  rcases hs.ws (ys:=xs) hw with hw | hw
  ·exact h4 k hk hw
  ·omega
variable {w wx wy:World}{g B tb:Nat}{v0:Value}{xs:List UInt8}{cur:Array Value}{T:TypeId}
theorem WF.start (h:Wr w g v0 xs 0):WF w g w.heap.size v0 xs (w.alloc (.cells #[.pointer (some ⟨g,0,none⟩),.pointer none] 314)) :=
 ⟨⟨v0,⟨h.then0 ((ae.refl ai w).alloc _),(ae.refl _ w).alloc _,.inl rfl⟩,fun x=>by have:=E8 h x;omega⟩,aF _ _,Nat.le_refl _⟩
theorem WF.c (h:WF w g tb v0 xs wx) (o:Nat):wx.cell? ⟨tb,o,none⟩=(#[.pointer (some ⟨g,0,none⟩),.pointer none]:Array Value)[o]?:=af h.tbx o
theorem WF.lt (h:WF w g tb v0 xs wx):tb<wx.heap.size:=lt_of_heap h.tbx
theorem zF {wy:World}{k n:Nat}{os:List Nat}{e:TypeId}{B:Nat}{cs:Array Value} (hk:wy.heap[k]?=some (.cells cs e (0,0))) (hc:cs=(os.map (ptr B)).toArray) (hn:os.length=n) (hm:n≤1000):dP (ptr B) wy (.slice (some ⟨k,0,none⟩) n n) os:=by
 subst hc
 exact BJ hn (Nat.le_refl _) (by unfold maxLen;omega) (.inr (lt_of_heap hk)) (fun i hi=>by rw [af hk];simp [hi])
theorem WF.at (h:WF w g tb v0 xs wx) (hm:ae ai wx wy):∃ v1,fQ w g v0 xs 0 wy v1∧fQ w g v0 xs 0 wx v1∧∀ ys w' v2,fQ wy g v1 ys 0 w' v2→WF w g tb v0 ys w':=by
 obtain⟨⟨v1,h1,h4⟩,h2,h3⟩:=h
 have hy:fQ w g v0 xs 0 wy v1:=⟨h1.wr.then0 hm,h1.mods.then0 hm,h1.blk⟩
 refine⟨v1,hy,h1,fun ys w' v2 s=>⟨⟨v2,hy.trans s,fun x=>?_⟩,s.mods.heap (hm.heap h2 (fun x=>x)) h4,h3⟩⟩
 rcases x with x | x
 ·exact h4 (.inl x)
 ·rcases s.blk with hb | hb
  ·exact h4 (.inr (hb▸x))
  ·have:=hb _ x
   have:=lt_of_heap h2
   have:=hm.size
   omega
theorem WF.tw (h:WF w g tb v0 xs wx) (b:Hm w g B v0 cur T) (hm:ae ai wx wy) {k n:Nat}{os:List Nat} (hk:wx.heap.size≤k) (hkl:k<wy.heap.size) (hp:dP (ptr B) wy (.slice (some ⟨k,0,none⟩) n n) os) :
  ∃ v1,Wr wy g v1 xs 0∧fQ w g v0 xs 0 wx v1∧TW wy g B v1 cur T (.slice (some ⟨k,0,none⟩) n n) os∧∀ ys w' v2,fQ wy g v1 ys 0 w' v2→WF w g tb v0 ys w':=by
 obtain⟨v1,hy,hx,hn⟩:=h.at hm
 have hB:=lt_of_heap b.box
 refine⟨v1,hy.wr,hx,⟨⟨xs,hy.wr⟩,hy.mods.heap b.box b.ne,fun x=>?_,hp,fun i hi=>?_⟩,hn⟩
 ·rcases hy.ws (ys:=xs) x with x | x
  ·exact b.ne x
  ·omega
 ·obtain rfl:k=i:=by simpa [Value.ownBlock] using hi
  exact⟨hkl,fun x=>by have:=E8 hx.wr x;omega⟩
theorem WF.nums (h:WF w g tb v0 xs wx) (b:Hm w g B v0 cur T) (hm:ae ai wx wy) {k n:Nat} (os ns:List Nat) (hk:wx.heap.size≤k) {e:TypeId}{cs:Array Value} (hkc:wy.heap[k]?=some (.cells cs e (0,0))) (hcs:cs=(os.map (ptr B)).toArray) (hon:os.length=n) (hn:n≤1000) (hnl:ns.length=os.length)
  (hc:∀ (i o x:Nat),os[i]?=some o→ns[i]?=some x→cur[o]?=some (.int .u64 x)) (hu:gu ns) (hl:xs.length≤50000000) :
  Calls Tryz.prog 220 #[.agg #[.pointer (some ⟨g,0,none⟩),.pointer none],.slice (some ⟨k,0,none⟩) n n] wy fun r w'=>r = .returned (.tuple #[])∧WF w g tb v0 (xs ++ ns.flatMap (be 8)) w':=by
 obtain⟨v1,s1,_,t1,hnx⟩:=h.tw b hm hk (lt_of_heap hkc) (zF hkc hcs hon hn)
 refine (VF s1 t1 hnl hc hu (by omega)).mono ?_
 rintro r w' ⟨rfl,v2,s2⟩
 exact⟨rfl,hnx _ _ _ s2⟩
theorem WF.decs (h:WF w g tb v0 xs wx) (b:Hm w g B v0 cur T) (hm:ae ai wx wy) {k n:Nat} (os:List Nat) (us:List Value) (ns:List (List Nat)) (hk:wx.heap.size≤k) {e:TypeId}{cs:Array Value} (hkc:wy.heap[k]?=some (.cells cs e (0,0))) (hcs:cs=(os.map (ptr B)).toArray) (hon:os.length=n) (hn:n≤1000) (hnl:ns.length=os.length) (hul:us.length=os.length)
  (hc:∀ (i o:Nat) (u:Value) (ls:List Nat),os[i]?=some o→us[i]?=some u→ns[i]?=some ls→cur[o]?=some u∧DV w g v0 u ls) (hl:xs.length≤50000000) :
  Calls Tryz.prog 270 #[.agg #[.pointer (some ⟨g,0,none⟩),.pointer none],.slice (some ⟨k,0,none⟩) n n] wy fun r w'=>r = .returned (.tuple #[])∧WF w g tb v0 (xs ++ ns.flatMap qH) w':=by
 obtain⟨v1,s1,sx,t1,hnx⟩:=h.tw b hm hk (lt_of_heap hkc) (zF hkc hcs hon hn)
 refine (U5 s1 t1 hnl hul (fun i o u ls h1 h2 h3=>?_) (by omega)).mono ?_
 ·obtain⟨h4,h5⟩:=hc i o u ls h1 h2 h3
  exact⟨h4,h5.keep sx hm⟩
 ·rintro r w' ⟨rfl,v2,s2⟩
  exact⟨rfl,hnx _ _ _ s2⟩
structure RF (w:World) (g B tb:Nat) (T:TypeId) (v0:Value) (s:fJ) (cur:Array Value) (ds:List (Value × List Nat)) (wx:World):Prop where
 st:nV w g B T v0 s cur wx
 tbx:wx.heap[tb]?=some (.cells #[.pointer none,.pointer (some ⟨g,0,none⟩)] 314 (0,0))
 new:w.heap.size≤tb
 gB:g<w.heap.size∧B<w.heap.size
 ds:∀ p∈ds,RN wx p.1 p.2∧aG w p.1
variable {s:fJ}{ds:List (Value × List Nat)}
theorem RF.start {v:Value} (h:TR g B T v s cur w):RF w g B w.heap.size T v s cur [] (w.alloc (.cells #[.pointer none,.pointer (some ⟨g,0,none⟩)] 314)) :=
 ⟨⟨v,h.alloc _,(ae.refl _ w).alloc _,fun _ x=>x⟩,aF _ _,Nat.le_refl _,⟨h.rr.lt,lt_of_heap h.box⟩,fun p hp=>by cases hp⟩
theorem RF.c (h:RF w g B tb T v0 s cur ds wx) (o:Nat):wx.cell? ⟨tb,o,none⟩=(#[.pointer none,.pointer (some ⟨g,0,none⟩)]:Array Value)[o]?:=af h.tbx o
theorem RF.lt (h:RF w g B tb T v0 s cur ds wx):tb<wx.heap.size:=lt_of_heap h.tbx
theorem RF.at (h:RF w g B tb T v0 s cur ds wx) (hm:ae ai wx wy):∃ v1,TR g B T v1 s cur wy∧∀ s' cur' w',nV wy g B T v1 s' cur' w'→RF w g B tb T v0 s' cur' ds w':=by
 obtain⟨⟨v1,h1,h2,h3⟩,h4,h5,h6,h7⟩:=h
 have hy:TR g B T v1 s cur wy:=⟨h1.rr.keep hm (fun x=>x) (fun _ _ x=>x),hm.heap h1.box (fun x=>x),h1.ne,h1.nb⟩
 refine⟨v1,hy,fun s' cur' w' k=>?_⟩
 obtain⟨v2,k1,k2,k3⟩:=k
 have hz:=(h2.then0 hm).size
 refine⟨⟨v2,k1,(h2.then0 hm).trans k2 (fun _ _ x=>x) (fun _ _ x=>x),fun i hi=>h3 i (k3 i hi)⟩,k2.heap (hm.heap h4 (fun x=>x)) (by omega),h5,h6,fun p hp=>?_⟩
 obtain⟨q1,q2⟩:=h7 p hp
 exact⟨dP.keep (dP.keep q1 hm (fun _ _ x=>x)) k2 (fun i hi=>by have:=q2 i hi;omega),q2⟩
theorem RF.sb (h:RF w g B tb T v0 s cur ds wx) (hm:ae ai wx wy) {k n:Nat} (hk:wx.heap.size≤k) (hkl:k<wy.heap.size):∀ i,(Value.slice (some ⟨k,0,none⟩) n n).ownBlock=some i→i<wy.heap.size∧¬ (i=g∨i=B):=by
 intro i hi
 obtain rfl:k=i:=by simpa [Value.ownBlock] using hi
 obtain⟨v1,h1,h2,h3⟩:=h.st
 have:=h2.size
 have:=h.gB
 exact⟨hkl,by omega⟩
theorem RF.nums (h:RF w g B tb T v0 s cur ds wx) (hm:ae ai wx wy) {k n:Nat} (os:List Nat) (hk:wx.heap.size≤k) {e:TypeId}{cs:Array Value} (hkc:wy.heap[k]?=some (.cells cs e (0,0))) (hcs:cs=(os.map (ptr B)).toArray) (hon:os.length=n) (hn:n≤1000)
  (hc:∀ (i o:Nat),os[i]?=some o→o<cur.size) :
  Calls Tryz.prog 220 #[.agg #[.pointer none,.pointer (some ⟨g,0,none⟩)],.slice (some ⟨k,0,none⟩) n n] wy fun r w'=>r = .returned (.tuple #[])∧RF w g B tb T v0 (zW n s) (setAt cur os ((yS n s).map uv)) ds w':=by
 obtain⟨v1,h1,hnx⟩:=h.at hm
 refine (Vj h1 (zF hkc hcs hon hn) (h.sb hm hk (lt_of_heap hkc)) hc).mono ?_
 rintro r w' ⟨rfl,t⟩
 subst hon
 exact⟨rfl,hnx _ _ _ t⟩
theorem RF.decs (h:RF w g B tb T v0 s cur ds wx) (hm:ae ai wx wy) {k n:Nat} (os:List Nat) (hk:wx.heap.size≤k) {e:TypeId}{cs:Array Value} (hkc:wy.heap[k]?=some (.cells cs e (0,0))) (hcs:cs=(os.map (ptr B)).toArray) (hon:os.length=n) (hn:n≤1000)
  (hc:∀ (i o:Nat),os[i]?=some o→o<cur.size) (hll:s.1.length≤10000000000) :
  Calls Tryz.prog 270 #[.agg #[.pointer none,.pointer (some ⟨g,0,none⟩)],.slice (some ⟨k,0,none⟩) n n] wy fun r w'=>r = .returned (.tuple #[])∧∃ us,us.length=n∧RF w g B tb T v0 (dst n s) (setAt cur os us) (ds ++ us.zip (Bi n s)) w':=by
 obtain⟨v1,h1,hnx⟩:=h.at hm
 have hz:w.heap.size≤wy.heap.size:=by
  obtain⟨_,_,h2,_⟩:=h.st
  exact (h2.then0 hm).size
 refine (Us h1 (zF hkc hcs hon hn) (h.sb hm hk (lt_of_heap hkc)) hc hll).mono ?_
 rintro r w' ⟨rfl,us,t,hd⟩
 subst hon
 have hq:=hnx _ _ _ t
 have hdl:(Bi os.length s).length=os.length:=by
  generalize os.length=m
  induction m with
  | zero=>rfl
  | succ m ih=>rw [Bi,List.length_append,ih];rfl
 refine⟨rfl,us,hd.1.1.trans hdl,⟨hq.st,hq.tbx,hq.new,hq.gB,fun p hp=>?_⟩⟩
 rcases List.mem_append.1 hp with hp | hp
 ·exact hq.ds p hp
 ·obtain⟨i,hi,rfl⟩:=List.getElem_of_mem hp
  rw [List.getElem_zip]
  simp at hi
  exact⟨hd.1.2 i _ _ (List.getElem?_eq_getElem (by omega)) (List.getElem?_eq_getElem (by omega)),(hd.2 _ (List.getElem_mem _)).of hz⟩
theorem EW (n:Nat):iO.lay ⟨0,n,[]⟩=be 8 n:=rfl
theorem EQ (b:Bool):iO.lay ⟨1,if b then 1 else 0,[]⟩=be 1 (if b then 1 else 0):=by cases b <;> rfl
theorem EU (l:List Nat):iO.lay ⟨2,0,l⟩=qH l:=rfl
theorem sO {a b:World}{tb:Nat}{p q:Value} (hm:ae ai a b) (h1:a.cell? ⟨tb,0,none⟩=some p) (h2:a.cell? ⟨tb,1,none⟩=some q) (h3:tb<a.heap.size):b.cell? ⟨tb,0,none⟩=some p∧b.cell? ⟨tb,1,none⟩=some q∧tb<b.heap.size :=
 ⟨(hm.cellAt h3 (fun x=>x) 0).trans h1,(hm.cellAt h3 (fun x=>x) 1).trans h2,hm.size_of h3⟩
theorem WF.tS (h:WF w g tb v0 xs wx):wx.cell? ⟨tb,0,none⟩=some (.pointer (some ⟨g,0,none⟩))∧wx.cell? ⟨tb,1,none⟩=some (.pointer none)∧tb<wx.heap.size:=⟨h.c 0,h.c 1,h.lt⟩
theorem RF.tS (h:RF w g B tb T v0 s cur ds wx):wx.cell? ⟨tb,0,none⟩=some (.pointer none)∧wx.cell? ⟨tb,1,none⟩=some (.pointer (some ⟨g,0,none⟩))∧tb<wx.heap.size:=⟨h.c 0,h.c 1,h.lt⟩
def allU (cur:Array Value):List Nat→List Nat→Prop
 | o :: os,x :: xs=>cur[o]?=some (.int .u64 x)∧allU cur os xs
 | _,_=>True
theorem vM {cur:Array Value}:∀ (os ns:List Nat),allU cur os ns→∀ (i o x:Nat),os[i]?=some o→ns[i]?=some x→cur[o]?=some (.int .u64 x)
  | [],_,_,i,o,x,h,_=>by simp at h
  | _ :: _,[],_,i,o,x,_,h=>by simp at h
  | o' :: os, x' :: ns, h, 0, o, x, h1, h2 => by
    cases h1
    cases h2
    exact h.1
  | o' :: os,x' :: ns,h,i+1,o,x,h1,h2=>vM os ns h.2 i o x h1 h2
def allD (w:World) (g:Nat) (v0:Value) (cur:Array Value):List Nat→List Value→List (List Nat)→Prop
 | o :: os,u :: us,l :: ls=>(cur[o]?=some u∧DV w g v0 u l)∧allD w g v0 cur os us ls
 | _,_,_=>True
theorem Ib {w:World}{g:Nat}{v0:Value}{cur:Array Value}:∀ (os:List Nat) (us:List Value) (ns:List (List Nat)),allD w g v0 cur os us ns→∀ (i o:Nat) (u:Value) (l:List Nat),os[i]?=some o→us[i]?=some u→ns[i]?=some l→cur[o]?=some u∧DV w g v0 u l
  | [],_,_,_,i,o,u,l,h,_,_=>by simp at h
  | _ :: _,[],_,_,i,o,u,l,_,h,_=>by simp at h
  | _ :: _,_ :: _,[],_,i,o,u,l,_,_,h=>by simp at h
  | o' :: os, x' :: us, l' :: ns, h, 0, o, u, l, h1, h2, h3 => by
    cases h1
    cases h2
    cases h3
    exact h.1
  | o' :: os,x' :: us,l' :: ns,h,i+1,o,u,l,h1,h2,h3=>Ib os us ns h.2 i o u l h1 h2 h3
theorem vT {n:Nat}{os:List Nat} (h:os.all (fun o=>decide (o<n))=true):∀ (i o:Nat),os[i]?=some o→o<n:=fun i o ho=>by
 have:=List.all_eq_true.1 h o (List.mem_of_getElem? ho)
 simpa using this
theorem QM (xs:List UInt8) (ns:List Nat) (h:ns.length≤100):(xs ++ ns.flatMap (be 8)).length≤xs.length+1000:=by
 have:∀ l:List Nat,(l.flatMap (be 8)).length=8*l.length:=by
  intro l
  induction l with
  | nil=>rfl
  | cons x l ih=>rw [List.flatMap_cons,List.length_append,ih,bU,List.length_cons];omega
 rw [List.length_append,this]
 omega
theorem lenD (xs:List UInt8) (ns:List (List Nat)) (h:ns.length≤3):(xs ++ ns.flatMap qH).length≤xs.length+1000:=by
 have:∀ l:List (List Nat),(l.flatMap qH).length≤256*l.length:=by
  intro l
  induction l with
  | nil=>simp
  | cons x l ih=>rw [List.flatMap_cons,List.length_append,List.length_cons];have:=AL x;omega
 have:=this ns
 rw [List.length_append]
 omega
end Go.Proofs.YtglkmaalpammcaaGreat
namespace Go.Proofs.YtglkmaalpammcaaGreat
open Go.Gl Go.RowKit
theorem Rd.str {w:World}{v:Value}{xs:List UInt8} (h:Rd w v xs):(convert 91 9 v).run Tryz.prog w = .ok (.string ⟨xs.toArray⟩) w:=by
 rcases h.open with ⟨h0,rfl⟩ | ⟨g,off,cap,rfl,h1,h2,_,h3⟩
 ·rcases h0 with rfl | ⟨g,off,s,rfl⟩
  ·exact Lib.run_convert_nil_bytes w 91 9 5 0 Tryz.underlying91 Tryz.underlying5 Tryz.underlying9
  ·exact run_convert_bytes_back w 91 9 5 ⟨g,off,some s⟩ 0 [] Tryz.underlying91 Tryz.underlying5 Tryz.underlying9 (fun j hj=>by simp at hj)
 ·refine run_convert_bytes_back w 91 9 5 _ cap xs Tryz.underlying91 Tryz.underlying5 Tryz.underlying9 (fun j hj=>?_)
  rw [show (⟨g,off,none⟩:Addr).add j=⟨g,off+j,none⟩ from Addr.add_lit ..]
  exact h3 j hj
theorem UU (xs ys:List UInt8):(xs == ys)=decide (xs=ys):=by
 by_cases h:xs=ys <;> simp [h]
theorem DJ {x y:Value}{xs ys:List UInt8}{w:World} (hx:Rd w x xs) (hy:Rd w y ys) :
  Calls Tryz.prog 211 #[x,y] w fun e w'=>e = .returned (.bool (decide (xs=ys)))∧Quiet w w':=by
 have k1:=Rd.str hx
 have k2:=Rd.str hy
 go_enter Tryz.func211,Tryz.ntmps211
 go_wp2
 go_ret
 exact⟨yf (UU xs ys),Quiet.refl _⟩
end Go.Proofs.YtglkmaalpammcaaGreat
namespace Go.Proofs.YtglkmaalpammcaaGreat
open Go.Gl Go.RowKit
theorem uh:gu []:=fun x hx=>by cases hx
theorem fE {n:Nat}{l:List Nat} (h:n≤18446744073709551615) (k:gu l):gu (n :: l):=fun x hx=>by
 rcases List.mem_cons.1 hx with rfl | hx
 ·exact h
 ·exact k x hx
theorem zK (w:World) (cs:Array Value) (T:TypeId) (wx:World) (hx:wx=((w.alloc (.cells cs T)).alloc (.cells #[.slice none 0 0,.int .i64 0] 311)).alloc (.cells #[.pointer (some ⟨w.heap.size+1,0,none⟩),.pointer none] 314)) :
  Wr wx (w.heap.size+1) (.slice none 0 0) [] 0∧wx.heap[w.heap.size]?=some (.cells cs T (0,0))∧¬ WS (w.heap.size+1) (.slice none 0 0) w.heap.size∧wx.heap[w.heap.size+1+1]?=some (.cells #[.pointer (some ⟨w.heap.size+1,0,none⟩),.pointer none] 314 (0,0))∧ae ai w wx∧wx.heap.size=w.heap.size+3∧¬ WS (w.heap.size+1) (.slice none 0 0) (w.heap.size+1+1):=by
 subst hx
 have h0:=dA (dA (aF w (.cells cs T)) (.cells #[.slice none 0 0,.int .i64 0] 311)) (.cells #[.pointer (some ⟨w.heap.size+1,0,none⟩),.pointer none] 314)
 have h1:=dA (aF (w.alloc (.cells cs T)) (.cells #[.slice none 0 0,.int .i64 0] 311)) (.cells #[.pointer (some ⟨w.heap.size+1,0,none⟩),.pointer none] 314)
 have h2:=aF ((w.alloc (.cells cs T)).alloc (.cells #[.slice none 0 0,.int .i64 0] 311)) (.cells #[.pointer (some ⟨w.heap.size+1,0,none⟩),.pointer none] 314)
 simp only [World.size_alloc] at h1 h2
 refine⟨⟨h1,Gl.Own.nil _,by simp [Value.ownBlock]⟩,h0,?_,h2,(((ae.refl ai w).alloc _).alloc _).alloc _,by simp,?_⟩
 ·intro x
  rcases x with x | x
  ·omega
  ·simp [Value.ownBlock] at x
 ·intro x
  rcases x with x | x
  ·omega
  ·simp [Value.ownBlock] at x
theorem BN {n m i:Nat} (x:WS m (.slice none 0 0) i) (hi:i<n) (hm:n<m:=by omega):False:=by
 rcases x with x | x
 ·omega
 ·simp [Value.ownBlock] at x
theorem ae.undrew {S:Nat→Prop}{a b:World} (h:ae S a.drew b):ae S a b:=⟨h.os,h.tape,h.output,h.size,h.block⟩
theorem qR (w:World) (cs:Array Value) (T:TypeId) (wx:World) (hx:wx=w.alloc (.cells cs T)):wx.heap[w.heap.size]?=some (.cells cs T (0,0))∧ae ai w wx∧wx.heap.size=w.heap.size+1:=by
 subst hx
 exact⟨aF _ _,(ae.refl _ _).alloc _,by simp⟩
theorem je {a b:World}{k:Nat}{o:Obj} (hm:ae ai a b) (h:a.heap[k]?=some o):b.heap[k]?=some o:=hm.heap h (fun x=>x)
theorem jG {a b:World}{k:Nat}{u:Value} (hm:ae ai a b) (h:a.cell? ⟨k,0,none⟩=some u) (hk:k<a.heap.size):b.cell? ⟨k,0,none⟩=some u:=(hm.cellAt hk (fun x=>x) 0).trans h
structure GY (w:World) (g:Nat) (bs:List (Nat × Obj)) (wx:World):Prop where
 blk:∀ p∈bs,p.1≠g∧wx.heap[p.1]?=some p.2
 mods:ae ai w wx
 new:w.heap.size≤g
theorem GY.step {w wx wy:World}{g:Nat}{bs:List (Nat × Obj)} (h:GY w g bs wx) (hm:ae (fun i=>i=g) wx wy):GY w g bs wy :=
 ⟨fun p hp=>⟨(h.blk p hp).1,hm.heap (h.blk p hp).2 (h.blk p hp).1⟩,h.mods.trans hm (fun _ _ x=>x) (fun i hi x=>by have:=h.new;omega),h.new⟩
theorem GY.get {w wx:World}{g:Nat}{bs:List (Nat × Obj)} (h:GY w g bs wx) (i:Nat) {p:Nat × Obj} (hi:bs[i]?=some p):wx.heap[p.1]?=some p.2:=(h.blk p (List.mem_of_getElem? hi)).2
theorem CP (w:World) (z:Array Value) (T:TypeId) (wx:World) (hx:wx=((w.alloc (.cells z T)).alloc (.cells z T)).alloc (.cells z T)) :
  wx.heap[w.heap.size]?=some (.cells z T (0,0))∧wx.heap[w.heap.size+1]?=some (.cells z T (0,0))∧wx.heap[w.heap.size+1+1]?=some (.cells z T (0,0))∧ae ai w wx∧wx.heap.size=w.heap.size+3:=by
 subst hx
 have h0:=dA (dA (aF w (.cells z T)) (.cells z T)) (.cells z T)
 have h1:=dA (aF (w.alloc (.cells z T)) (.cells z T)) (.cells z T)
 have h2:=aF ((w.alloc (.cells z T)).alloc (.cells z T)) (.cells z T)
 simp only [World.size_alloc] at h1 h2
 exact⟨h0,h1,h2,(((ae.refl ai w).alloc _).alloc _).alloc _,by simp⟩
theorem GL {w:World}{k j B:Nat}{x y:Obj} (h1:w.heap[k]?=some x) (h2:w.heap[j]?=some y) (hk:k≠B:=by omega) (hj:j≠B:=by omega):∀ p∈[(k,x),(j,y)],w.heap[p.1]?=some p.2∧p.1≠B:=by
 intro p hp
 rcases List.mem_cons.1 hp with rfl | hp
 ·exact⟨h1,hk⟩
 ·obtain rfl:=List.mem_singleton.1 hp
  exact⟨h2,hj⟩
theorem Bq {w:World}{g:Nat}{v:Value} (h:Rr w g v [] 0):Calls Tryz.prog 229 #[.pointer (some ⟨g,0,none⟩)] w fun r w'=>r = .returned (.int .i64 0)∧ae (fun i=>i=g) w w' :=
 (JM h).mono fun r w' ⟨h1,v',h2⟩=>⟨h1,h2.mods⟩
theorem Be {w:World}{g:Nat}{v:Value}{s:fJ} (h:Rr w g v s.1 s.2) (hs:s≠([],0)):Calls Tryz.prog 229 #[.pointer (some ⟨g,0,none⟩)] w fun r w'=>∃ e:Int,r = .returned (.int .i64 e)∧(e == 0)=false∧(e != 0)=true∧ae (fun i=>i=g) w w' :=
 (JM h).mono fun r w' ⟨h1,v',h2⟩=>⟨_,h1,beq_false_of_ne (fun e=>hs ((EG s).1 e)),bne_iff_ne.2 (fun e=>hs ((EG s).1 e)),h2.mods⟩
theorem wL {w:World}{x y:Value}{xs ys:List UInt8} (h:xs=ys) (hx:Rd w x xs) (hy:Rd w y ys):Calls Tryz.prog 211 #[x,y] w fun r w'=>r = .returned (.bool true)∧ae ai w w' :=
 (DJ hx hy).mono fun r w' ⟨h1,h2⟩=>⟨by rw [h1,decide_eq_true h],h2.mods _⟩
theorem zt {w w3 w4:World}{g:Nat}{v:Value}{xs:List UInt8}{T:TypeId}{z:Array Value}{B:Nat}{es:List (Nat × Obj)} (hb:w3.heap[B]?=some (.cells z T (0,0))) (he:∀ p∈es,w3.heap[p.1]?=some p.2∧p.1≠B) (hm:ae ai w w3) (hr:Rr w4 g v xs 0) (m4:ae ai w3 w4) (hg:w3.heap.size≤g) (hf:aG w3 v) (wx:World) (hx:wx=w4.alloc (.cells #[.pointer none,.pointer (some ⟨g,0,none⟩)] 314)) :
  TR g B T v (xs,0) z wx∧ae ai w wx∧∀ s cur wy,nV wx g B T v s cur wy→(∃ v',Rr wy g v' s.1 s.2)∧ae (fun k=>k=g∨k=B) wx wy∧(w.heap.size≤B→GY w g ((B,.cells cur T (0,0)) :: (w4.heap.size,.cells #[.pointer none,.pointer (some ⟨g,0,none⟩)] 314 (0,0)) :: es) wy):=by
 subst hx
 have hB:=lt_of_heap hb
 have ml:=(ae.refl ai w4).alloc (.cells #[.pointer none,.pointer (some ⟨g,0,none⟩)] 314)
 have m5:=(hm.then0 m4).then0 ml
 have hgl:=hr.lt
 have z4:=m4.size
 refine⟨⟨hr.keep ml (fun x=>x) (fun _ _ x=>x),je ml (je m4 hb),by omega,fun e=>by have:=hf _ e;omega⟩,m5,fun s cur wy ht=>?_⟩
 obtain⟨v',t1,t2,t3⟩:=ht
 refine⟨⟨v',t1.rr⟩,t2,fun hw=>⟨fun p hp=>?_,m5.trans t2 (fun _ _ x=>x) (fun i hi x=>by have:=hm.size;omega),by have:=hm.size;omega⟩⟩
 rcases List.mem_cons.1 hp with rfl | hp
 ·exact⟨t1.ne,t1.box⟩
 rcases List.mem_cons.1 hp with rfl | hp
 ·exact⟨by simp only;omega,t2.heap (aF _ _) (by omega)⟩
 ·obtain⟨e1,e2⟩:=he p hp
  have:=lt_of_heap e1
  exact⟨by omega,t2.heap (je ml (je m4 e1)) (by omega)⟩
theorem QZ (w:World) (z:Array Value) (T:TypeId) (wx:World) (hx:wx=w.alloc (.cells z T)):wx.heap[w.heap.size]?=some (.cells z T (0,0))∧ae ai w wx∧wx.heap.size=w.heap.size+1:=qR w z T wx hx
theorem no_es {w:World}{B:Nat}:∀ p∈([]:List (Nat × Obj)),w.heap[p.1]?=some p.2∧p.1≠B:=fun p hp=>by cases hp
structure DN (w:World) (u:Value) (l:List Nat):Prop where
 rn:RN w u l
 lim:gu l
 len:l.length≤1000000
theorem DN.keep {w wx:World}{u:Value}{l:List Nat} (h:DN w u l) (hm:ae ai w wx):DN wx u l:=⟨h.rn.keep hm (fun _ _ x=>x),h.lim,h.len⟩
theorem DN.dv {w wx:World}{u:Value}{l:List Nat}{g:Nat} (h:DN w u l) (hm:ae ai w wx) (hg:w.heap.size≤g):DV wx g (.slice none 0 0) u l:=by
 refine⟨h.rn.keep hm (fun _ _ x=>x),h.lim,h.len,?_⟩
 rcases Nat.eq_zero_or_pos l.length with h0 | h0
 ·exact .inl (List.eq_nil_of_length_eq_zero h0)
 ·refine .inr (fun k hk x=>?_)
  have:=dP.ltn h.rn (by omega) k hk
  rcases x with x | x
  ·omega
  ·simp [Value.ownBlock] at x
theorem UK {w w6 wy:World}{u:Value}{l:List Nat}{g:Nat} (h:RN w6 u l) (hf:aG w u) (hg:g<w.heap.size) (hm:ae (fun i=>i=g) w6 wy):RN wy u l :=
 dP.keep h hm (fun k hk e=>by have:=hf k hk;omega)
theorem iO.lay_len (f:iO):f.lay.length≤256:=by
 unfold iO.lay
 split
 ·rw [bU];omega
 split
 ·rw [bU];omega
 ·exact AL f.ls
theorem vk (fs:List iO):(dC fs).length≤256*fs.length:=by
  induction fs with
  | nil=>simp [dC]
  | cons f fs ih =>
    have:=f.lay_len
    unfold dC at ih ⊢
    rw [List.flatMap_cons,List.length_append,List.length_cons]
    omega
theorem Oo {w w10 wy:World}{u:Value}{l:List Nat}{r:Nat} (h:RN w10 u l) (hf:aG w u) (hr:r<w.heap.size) (hm:ae (fun i=>i=r) w10 wy):RN wy u l :=
 dP.keep h hm (fun k hk e=>by have:=hf k hk;omega)
theorem Nw (w:World):aG w (.slice none 0 0):=fun k hk=>by simp [Value.ownBlock] at hk
end Go.Proofs.YtglkmaalpammcaaGreat
namespace Go.Proofs.YtglkmaalpammcaaGreat
open Go.Gl Go.RowKit
end Go.Proofs.YtglkmaalpammcaaGreat
namespace Go.Proofs.YtglkmaalpammcaaGreat
open Go.Gl Go.RowKit
end Go.Proofs.YtglkmaalpammcaaGreat
namespace Go.Proofs.YtglkmaalpammcaaGreat
open Go.Gl Go.RowKit
def bD (n:Nat):Prop:=n≤18446744073709551615
theorem fP {w:World}{S0 N:Nat→Prop}{v:Value}{xs:List UInt8} (h:∀ k,eY v k→N k):Off (fun k=>¬ Out w S0 N k) v xs:=fun _ i hi x=>x (.inl (h i hi))
section
variable {w:World}{sg n p:Nat}{F:List aN}{Q:Nat→Prop}
end
end Go.Proofs.YtglkmaalpammcaaGreat
namespace Go.Proofs.YtglkmaalpammcaaGreat
open Go.Gl Go.RowKit
theorem wrap_u64 (x:Int):IntKind.u64.wrap x=x % 18446744073709551616:=by
 simp [IntKind.wrap,IntKind.signed,IntKind.bits]
section
variable {w:World}{sg n p:Nat}{F:List aN}{Q:Nat→Prop}
end
end Go.Proofs.YtglkmaalpammcaaGreat
namespace Go.Proofs.YtglkmaalpammcaaGreat
open Go.Gl Go.RowKit
theorem Uk {w:World}{g B:Nat}{v0:Value}{xs:List UInt8}{n0 n1:Nat} (h:Wr w g v0 xs 0) (hb:w.heap[B]?=some (.cells #[.int .u64 n0,.int .u64 n1] 95 (0,0))) (ne:¬ WS g v0 B) (hn:gu [n0,n1])  (hl:xs.length≤1000000) :
    Calls Tryz.prog 180 #[.agg #[.pointer (some ⟨g,0,none⟩),.pointer none],.pointer (some ⟨B,0,none⟩)] w fun r w'=>r = .returned (.tuple #[])∧∃ v',fQ w g v0 (xs ++ dC [⟨0,n0,[]⟩,⟨0,n1,[]⟩]) 0 w' v':=by
  have b:=lh (show Hm w g B v0 #[.int .u64 n0,.int .u64 n1] 95 from⟨⟨xs,h⟩,hb,ne⟩)
  have F:=lh (WF.start h)
  have HN:=lh hn
  clear h hb ne hn
  obtain⟨ys,hys⟩:∃ ys,dC [⟨0,n0,[]⟩,⟨0,n1,[]⟩]=ys:=⟨_,rfl⟩
  rw [hys]
  have HY:=lh hys
  clear hys
  go_enter Tryz.func180,Tryz.ntmps180
  go_wp2
  generalize World.alloc w _=wx at *
  obtain⟨c0,c1,t0⟩:=F.out.tS
  go_region_held3 (fun w'=>w'.cell? ⟨w.heap.size,0,none⟩=some (.pointer (some ⟨g,0,none⟩))∧w'.cell? ⟨w.heap.size,1,none⟩=some (.pointer none)∧w.heap.size<w'.heap.size)
    ((first | exact hq.tS | (refine sO (a:=wx) ?_ c0 c1 t0;exact (by repeat' (first | (with_reducible first | exact ae.refl _ _ | assumption | refine ae.alloc ?_ _ | refine ae.drew ?_ | refine ae.drewN ?_ _ | refine ae.regrown ?_ _ _ | refine ae.setCell ?_ ?_ _) | (refine .inr ?_;first | (simp;done) | (simp;omega) | omega))))))
    ((first
      | (go_at_call 220;refine (F.out.nums b.out ?_ (k:=wx.heap.size) (e:=318) [0,1] [n0,n1] (Nat.le_refl _) ?_ rfl rfl (Nat.le_of_ble_eq_true rfl) rfl (vM _ _ (And.intro rfl (And.intro rfl trivial))) ?_ ?_).mono ?_;(next=>exact (by repeat' (first | (with_reducible first | exact ae.refl _ _ | assumption | refine ae.alloc ?_ _ | refine ae.drew ?_ | refine ae.drewN ?_ _ | refine ae.regrown ?_ _ _ | refine ae.setCell ?_ ?_ _) | (refine .inr ?_;first | (simp;done) | (simp;omega) | omega))));(next=>exact aF _ _);(next=>exact (fun x hx=>HN.out x (by simp at hx ⊢;omega)));(next=>omega);rintro r w0 ⟨rfl,hq⟩)))
  have F0:=lh hq
  have hl0:=QM xs [n0,n1] (Nat.le_of_ble_eq_true rfl)
  try clear hHeld
  clear c0 c1 t0 hq
  obtain⟨c0,c1,t0⟩:=F0.out.tS
  go_wp2
  go_end0
  obtain⟨⟨v',hs,_⟩,_,_⟩:=F0.out
  refine⟨rfl,v',?_⟩
  rw [← HY.out]
  simpa only [dC,EW,EQ,EU,List.flatMap_cons,List.flatMap_nil,List.append_nil,List.append_assoc] using hs
theorem Uf {w:World}{g B:Nat}{v0:Value}{s:fJ} (h:TR g B 95 v0 s #[.int .u64 0,.int .u64 0] w) (hll:s.1.length≤10000000000) :
    Calls Tryz.prog 180 #[.agg #[.pointer none,.pointer (some ⟨g,0,none⟩)],.pointer (some ⟨B,0,none⟩)] w fun r w'=>r = .returned (.tuple #[])∧∃ (n0 n1:Nat) (s':fJ),gX [0,0] s=([⟨0,n0,[]⟩,⟨0,n1,[]⟩],s')∧nV w g B 95 v0 s' #[.int .u64 n0,.int .u64 n1] w':=by
  have F:=lh (RF.start h)
  clear h
  obtain⟨Q,hQ⟩:∃ Q:Ending→World→Prop,Q=(fun (r:Ending) (w':World)=>r = .returned (.tuple #[])∧∃ (n0 n1:Nat) (s':fJ),gX [0,0] s=([⟨0,n0,[]⟩,⟨0,n1,[]⟩],s')∧nV w g B 95 v0 s' #[.int .u64 n0,.int .u64 n1] w'):=⟨_,rfl⟩
  show Calls _ _ _ _ (fun (r:Ending) (w':World)=>r = .returned (.tuple #[])∧∃ (n0 n1:Nat) (s':fJ),gX [0,0] s=([⟨0,n0,[]⟩,⟨0,n1,[]⟩],s')∧nV w g B 95 v0 s' #[.int .u64 n0,.int .u64 n1] w')
  rw [← hQ]
  have HQ:=lh hQ
  clear hQ
  go_enter Tryz.func180,Tryz.ntmps180
  go_wp2
  generalize World.alloc w _=wx at *
  obtain⟨c0,c1,t0⟩:=F.out.tS
  have hs:s.1.length≤10000000000:=hll
  go_region_held3 (fun w'=>w'.cell? ⟨w.heap.size,0,none⟩=some (.pointer none)∧w'.cell? ⟨w.heap.size,1,none⟩=some (.pointer (some ⟨g,0,none⟩))∧w.heap.size<w'.heap.size)
    ((first | exact hq.tS | (refine sO (a:=wx) ?_ c0 c1 t0;exact (by repeat' (first | (with_reducible first | exact ae.refl _ _ | assumption | refine ae.alloc ?_ _ | refine ae.drew ?_ | refine ae.drewN ?_ _ | refine ae.regrown ?_ _ _ | refine ae.setCell ?_ ?_ _) | (refine .inr ?_;first | (simp;done) | (simp;omega) | omega))))))
    ((first
      | (go_at_call 220;refine (F.out.nums ?_ (k:=wx.heap.size) (e:=318) [0,1] (Nat.le_refl _) ?_ rfl rfl (Nat.le_of_ble_eq_true rfl) (vT rfl)).mono ?_;(next=>exact (by repeat' (first | (with_reducible first | exact ae.refl _ _ | assumption | refine ae.alloc ?_ _ | refine ae.drew ?_ | refine ae.drewN ?_ _ | refine ae.regrown ?_ _ _ | refine ae.setCell ?_ ?_ _) | (refine .inr ?_;first | (simp;done) | (simp;omega) | omega))));(next=>exact aF _ _);rintro r w0 ⟨rfl,hq⟩)))
  have F0:=lh (show RF w g B w.heap.size 95 v0 (est 8 (est 8 s)) #[.int .u64 ((fO 8 s):Nat),.int .u64 ((fO 8 (est 8 s)):Nat)] [] w0 from hq)
  have hs:((est 8 (est 8 s)):fJ).1.length≤10000000000:=Nat.le_trans (Dq 2 _) hs
  try clear hHeld
  clear c0 c1 t0 hq
  obtain⟨c0,c1,t0⟩:=F0.out.tS
  go_wp2
  go_end0
  rw [HQ.out]
  exact⟨rfl,(fO 8 s),(fO 8 (est 8 s)),(est 8 (est 8 s)),by kernel_rfl,F0.out.st⟩
theorem Ic (w:World):Calls Tryz.prog 179 #[.func (.func 180) #[] #[]] w fun r w'=>∃ k,r = .returned (.func (.func 235) #[] #[.pointer (some ⟨k,0,none⟩)])∧w'.cell? ⟨k,0,none⟩=some (.func (.func 180) #[] #[])∧ae ai w w'∧k<w'.heap.size:=by
 have hmf:∀ (fn:Fn) (first cap:Array Value) (w:World),(Instr.makeFunc fn first cap).run Tryz.prog w = .ok (.func fn first cap) w:=fun _ _ _ _=>rfl
 go_enter Tryz.func179,Tryz.ntmps179
 go_wp2
 go_ret
 exact⟨_,rfl,af (aF w _) 0,(ae.refl _ _).alloc _,by simp⟩
theorem F8 {w:World}{k:Nat}{n0 n1:Nat} (hk:w.cell? ⟨k,0,none⟩=some (.func (.func 180) #[] #[])) (hkl:k<w.heap.size) (hn:gu [n0,n1])  :
  Calls Tryz.prog 235 #[.agg #[.int .u64 n0,.int .u64 n1],.pointer (some ⟨k,0,none⟩)] w fun r w'=>∃ v,r = .returned v∧Gl.Own w' v (dC [⟨0,n0,[]⟩,⟨0,n1,[]⟩])∧ae ai w w'∧aG w v:=by
 obtain⟨zs,hz⟩:∃ zs,dC [⟨0,n0,[]⟩,⟨0,n1,[]⟩]=zs:=⟨_,rfl⟩
 rw [hz]
 have HZ:=lh hz
 clear hz
 have HN:=lh hn
 clear hn
 have m1:=(((ae.refl ai w).alloc (.cells #[.int .u64 n0,.int .u64 n1] 95)).alloc (.cells #[.slice none 0 0,.int .i64 0] 311)).alloc (.cells #[.pointer (some ⟨w.heap.size+1,0,none⟩),.pointer none] 314)
 have c1:=(m1.cellAt hkl (fun x=>x) 0).trans hk
 have P:=lh (zK w #[.int .u64 n0,.int .u64 n1] 95 _ rfl)
 clear hk m1
 go_enter Tryz.func235,Tryz.ntmps235
 go_wp2_with fail
 generalize World.alloc (World.alloc (World.alloc w _) _) _=wx at *
 obtain⟨p1,p2,p3,p4,p5,p6,p7⟩:=P.out
 refine (Uk p1 p2 p3 HN.out (by simp)).mono ?_
 rintro r w4 ⟨rfl,v',hs⟩
 rw [List.nil_append,HZ.out] at hs
 have hzl:=lh (show zs.length≤140737488355328 from HZ.out▸Nat.le_trans (vk _) (Nat.le_of_ble_eq_true rfl))
 have d1:=af (hs.mods.heap p4 p7) 0
 have M:=lh (p5.trans hs.mods (U:=ai) (fun _ _ x=>x) (fun i hi x=>BN x hi))
 have F:=lh hs
 clear hs p1 p2 p3 p4 p5 p6 p7 P c1
 go_wp2_with fail
 refine (rW F.out.wr hzl.out).mono ?_
 rintro r w5 ⟨u,rfl,o1,o2,o3⟩
 obtain⟨ua,uc,rfl,_⟩:=o1.rd.form
 have O:=lh (And.intro o1 (And.intro o2 o3))
 clear o1 o2 o3 d1
 go_wp2
 go_ret
 obtain⟨o1,o2,o3⟩:=O.out
 exact⟨_,rfl,o1,M.out.then0 o2,o3.of M.out.size⟩
theorem EE {w:World}{n0 n1:Nat} (hn:gu [n0,n1])  :
    Calls Tryz.prog 107 #[.agg #[.int .u64 n0,.int .u64 n1]] w fun r w'=>∃ v,r = .returned v∧Gl.Own w' v (dC [⟨0,n0,[]⟩,⟨0,n1,[]⟩])∧ae ai w w'∧aG w v:=by
  obtain⟨zs,hz⟩:∃ zs,dC [⟨0,n0,[]⟩,⟨0,n1,[]⟩]=zs:=⟨_,rfl⟩
  rw [hz]
  have HZ:=lh hz
  clear hz
  have HN:=lh hn
  clear hn
  have P:=lh (qR w #[.int .u64 n0,.int .u64 n1] 95 _ rfl)
  go_enter Tryz.func107,Tryz.ntmps107
  go_wp2
  generalize World.alloc w _=w1 at *
  have HS:=lh (fun b (hm:ae ai w1 b)=>have h:=je hm P.out.1;show b.cell? ⟨w.heap.size,0,none⟩=some (.int .u64 n0)∧b.cell? ⟨w.heap.size,1,none⟩=some (.int .u64 n1)∧ae ai w1 b from⟨af h 0,af h 1,hm⟩)
  go_region_held3 (fun b=>b.cell? ⟨w.heap.size,0,none⟩=some (.int .u64 n0)∧b.cell? ⟨w.heap.size,1,none⟩=some (.int .u64 n1)∧ae ai w1 b)
    ((refine HS.out _ ?_;exact (by repeat' (first | (with_reducible first | exact ae.refl _ _ | assumption | refine ae.alloc ?_ _ | refine ae.drew ?_ | refine ae.drewN ?_ _ | refine ae.regrown ?_ _ _ | refine ae.setCell ?_ ?_ _) | (refine .inr ?_;first | (simp;done) | (simp;omega) | omega)))))
    ((first
      | (go_at_call 179;refine (Ic _).mono ?_;rintro r w2 ⟨k,rfl,k1,k2,k3⟩;(try replace k2:=ae.undrew k2))
      | (go_at_call 235;refine (F8 (k:=k) ?_ ?_ HN.out).mono ?_;(next=>(refine jG ?_ k1 k3;exact (by repeat' (first | (with_reducible first | exact ae.refl _ _ | assumption | refine ae.alloc ?_ _ | refine ae.drew ?_ | refine ae.drewN ?_ _ | refine ae.regrown ?_ _ _ | refine ae.setCell ?_ ?_ _) | (refine .inr ?_;first | (simp;done) | (simp;omega) | omega)))));(next=>(refine ae.size_of (S:=ai) (a:=w2) ?_ k3;exact (by repeat' (first | (with_reducible first | exact ae.refl _ _ | assumption | refine ae.alloc ?_ _ | refine ae.drew ?_ | refine ae.drewN ?_ _ | refine ae.regrown ?_ _ _ | refine ae.setCell ?_ ?_ _) | (refine .inr ?_;first | (simp;done) | (simp;omega) | omega)))));rintro r w3 ⟨v,rfl,o1,o2,o3⟩;replace o1:=HZ.out▸o1;(try replace o2:=ae.undrew o2);replace o2:=ae.then0 k2 o2)))
  go_wp2
  go_ret
  exact⟨_,rfl,o1,P.out.2.1.then0 o2,o3.of (Nat.le_trans P.out.2.1.size k2.size)⟩
theorem Rf (w:World):Calls Tryz.prog 265 #[.func (.func 180) #[] #[]] w fun r w'=>∃ k,r = .returned (.func (.func 290) #[] #[.pointer (some ⟨k,0,none⟩)])∧w'.cell? ⟨k,0,none⟩=some (.func (.func 180) #[] #[])∧ae ai w w'∧k<w'.heap.size:=by
 have hmf:∀ (fn:Fn) (first cap:Array Value) (w:World),(Instr.makeFunc fn first cap).run Tryz.prog w = .ok (.func fn first cap) w:=fun _ _ _ _=>rfl
 go_enter Tryz.func265,Tryz.ntmps265
 go_wp2
 go_ret
 exact⟨_,rfl,af (aF w _) 0,(ae.refl _ _).alloc _,by simp⟩
theorem yj:(Tryz.prog.info? 95).map (·.size)=some 2:=by kernel_rfl
theorem Q7 {w:World}{k:Nat}{b:Value}{xs:List UInt8} (hk:w.cell? ⟨k,0,none⟩=some (.func (.func 180) #[] #[])) (hkl:k<w.heap.size) (hb:Rd w b xs) (hl:xs.length≤1000000) :
    Calls Tryz.prog 290 #[b,.pointer (some ⟨k,0,none⟩)] w (fun r w'=>∃ (n0 n1:Nat) (e:Nat),r = .returned (.tuple #[.agg #[.int .u64 (n0:Nat),.int .u64 (n1:Nat)],.int .i64 e])∧fC [0,0] xs=([⟨0,n0,[]⟩,⟨0,n1,[]⟩],e)∧ae ai w w'):=by
  obtain⟨a,c,rfl,hlm⟩:=hb.form
  obtain⟨Q,hQ⟩:∃ Q:Ending→World→Prop,Q=(fun r w'=>∃ (n0 n1:Nat) (e:Nat),r = .returned (.tuple #[.agg #[.int .u64 (n0:Nat),.int .u64 (n1:Nat)],.int .i64 e])∧fC [0,0] xs=([⟨0,n0,[]⟩,⟨0,n1,[]⟩],e)∧ae ai w w'):=⟨_,rfl⟩
  show Calls _ _ _ _ (fun r w'=>∃ (n0 n1:Nat) (e:Nat),r = .returned (.tuple #[.agg #[.int .u64 (n0:Nat),.int .u64 (n1:Nat)],.int .i64 e])∧fC [0,0] xs=([⟨0,n0,[]⟩,⟨0,n1,[]⟩],e)∧ae ai w w')
  rw [← hQ]
  have HQ:=lh hQ
  have P:=lh (CP w #[.int .u64 0,.int .u64 0] 95 _ rfl)
  have HB:=lh hb
  have HK:=lh (And.intro hk hkl)
  have HL:=lh hl
  clear hQ hb hk hkl hl hlm
  go_enter Tryz.func290,Tryz.ntmps290
  go_wp2_with fail
  generalize World.alloc (World.alloc (World.alloc w _) _) _=w3 at *
  obtain⟨p0,p1,p2,p3,p4⟩:=P.out
  refine (rM (HB.out.keep p3 (fun _ _ x=>x)) (Nat.le_trans HL.out (Nat.le_of_ble_eq_true rfl))).mono ?_
  rintro r w4 ⟨g,v,rfl,hr,m4,hg,hf⟩
  have G:=lh (zt (B:=w.heap.size+1) (es:=[(w.heap.size,.cells #[.int .u64 0,.int .u64 0] 95 (0,0)),(w.heap.size+1+1,.cells #[.int .u64 0,.int .u64 0] 95 (0,0))]) p1 (GL p0 p2) p3 hr m4 hg hf _ rfl)
  have c0:=jG G.out.2.1 HK.out.1 HK.out.2
  have HG:=lh (show w.heap.size<g+1∧w.heap.size+1<g∧g<w4.heap.size∧w.heap.size≤w4.heap.size from⟨by omega,by omega,hr.lt,by have:=m4.size;omega⟩)
  clear hr m4 hg hf p0 p2 p1 p3 p4 P
  have z5:(w4.alloc (.cells #[.pointer none,.pointer (some ⟨g,0,none⟩)] 314)).heap.size=w4.heap.size+1:=by simp
  have Z5:=lh z5
  clear z5
  go_wp2_with fail
  generalize World.alloc w4 _=w5 at *
  refine (Uf G.out.1 (Nat.le_trans HL.out (Nat.le_of_ble_eq_true rfl))).mono ?_
  rintro r w6 ⟨rfl,n0,n1,s,hs,ht⟩
  obtain⟨⟨v',t1⟩,t2,t3⟩:=G.out.2.2 _ _ _ ht
  have Y:=lh (t3 (by omega))
  have R:=lh t1
  have HR:=lh hs
  have HS:=lh (fun x (hm:ae (fun i=>i=g) w6 x)=>have y:=GY.step Y.out hm;have h0:=y.get 0 rfl;show x.cell? ⟨k,0,none⟩=some (.func (.func 180) #[] #[])∧x.cell? ⟨w4.heap.size,1,none⟩=some (.pointer (some ⟨g,0,none⟩))∧x.cell? ⟨w.heap.size+1,0,none⟩=some (.int .u64 (n0:Nat))∧x.cell? ⟨w.heap.size+1,1,none⟩=some (.int .u64 (n1:Nat))∧ae (fun i=>i=g) w6 x from⟨jG y.mods HK.out.1 HK.out.2,af (y.get 1 rfl) 1,af h0 0,af h0 1,hm⟩)
  clear ht t1 t2 t3 c0 G hs
  go_wp2
  by_cases he:s=([],0)
  · subst he
    have HE:=lh (fun wy (hm:ae ai w6 wy)=>Bq (R.out.keep hm (fun x=>x) (fun _ _ x=>x)))
    have HX:=lh (uu HR.out)
    have ho:=(vW [0,0] (xs,0) (by decide)).1
    rw [HR.out] at ho
    have HO:=lh (show gu [n0,n1] from (fE (ho ⟨0,n0,[]⟩ (List.mem_of_getElem? (i:=0) rfl)).n (fE (ho ⟨0,n1,[]⟩ (List.mem_of_getElem? (i:=1) rfl)).n uh)))
    clear ho
    have HV:=lh (fun wy (hm:ae (fun i=>i=g) w6 wy)=>HB.out.keep (Y.out.step hm).mods (fun _ _ x=>x))
    clear R
    go_region_held3 (fun x=>x.cell? ⟨k,0,none⟩=some (.func (.func 180) #[] #[])∧x.cell? ⟨w4.heap.size,1,none⟩=some (.pointer (some ⟨g,0,none⟩))∧x.cell? ⟨w.heap.size+1,0,none⟩=some (.int .u64 (n0:Nat))∧x.cell? ⟨w.heap.size+1,1,none⟩=some (.int .u64 (n1:Nat))∧ae (fun i=>i=g) w6 x)
      ((refine HS.out _ ?_;exact (by repeat' (first | (with_reducible first | exact ae.refl _ _ | assumption | refine ae.alloc ?_ _ | refine ae.drew ?_ | refine ae.drewN ?_ _ | refine ae.regrown ?_ _ _ | refine ae.setCell ?_ ?_ _) | (refine .inr ?_;first | (simp;done) | (simp;omega) | omega)))))
      ((first
        | (go_at_call 229;refine (HE.out _ ?_).mono ?_;(next=>exact (by repeat' (first | (with_reducible first | exact ae.refl _ _ | assumption | refine ae.alloc ?_ _ | refine ae.drew ?_ | refine ae.drewN ?_ _ | refine ae.regrown ?_ _ _ | refine ae.setCell ?_ ?_ _) | (refine .inr ?_;first | (simp;done) | (simp;omega) | omega))));rintro r w7 ⟨rfl,m7⟩;(try replace m7:=ae.undrew m7))
        | (go_at_call 179;refine (Ic _).mono ?_;rintro r w8 ⟨k2,rfl,kX,nX,lX⟩;(try replace nX:=ae.undrew nX);replace nX:=ae.then0 m7 nX)
        | (go_at_call 235;refine (F8 (k:=k2) ?_ ?_ HO.out).mono ?_;(next=>(refine jG ?_ kX lX;exact (by repeat' (first | (with_reducible first | exact ae.refl _ _ | assumption | refine ae.alloc ?_ _ | refine ae.drew ?_ | refine ae.drewN ?_ _ | refine ae.regrown ?_ _ _ | refine ae.setCell ?_ ?_ _) | (refine .inr ?_;first | (simp;done) | (simp;omega) | omega)))));(next=>(refine ae.size_of (S:=ai) (a:=w8) ?_ lX;exact (by repeat' (first | (with_reducible first | exact ae.refl _ _ | assumption | refine ae.alloc ?_ _ | refine ae.drew ?_ | refine ae.drewN ?_ _ | refine ae.regrown ?_ _ _ | refine ae.setCell ?_ ?_ _) | (refine .inr ?_;first | (simp;done) | (simp;omega) | omega)))));rintro r w9 ⟨u,rfl,o1,o2,o3⟩;(try replace o2:=ae.undrew o2);replace o2:=ae.then0 nX o2)
        | (go_at_call 211;refine (wL HX.out ?_ (HV.out _ ?_)).mono ?_;(next=>(refine Rd.keep (S:=ai) (w:=w9) o1.rd ?_ (fun _ _ x=>x);exact (by repeat' (first | (with_reducible first | exact ae.refl _ _ | assumption | refine ae.alloc ?_ _ | refine ae.drew ?_ | refine ae.drewN ?_ _ | refine ae.regrown ?_ _ _ | refine ae.setCell ?_ ?_ _) | (refine .inr ?_;first | (simp;done) | (simp;omega) | omega)))));(next=>exact (by repeat' (first | (with_reducible first | exact ae.refl _ _ | assumption | refine ae.alloc ?_ _ | refine ae.drew ?_ | refine ae.drewN ?_ _ | refine ae.regrown ?_ _ _ | refine ae.setCell ?_ ?_ _) | (refine .inr ?_;first | (simp;done) | (simp;omega) | omega))));rintro r w10 ⟨rfl,m10⟩;(try replace m10:=ae.undrew m10);replace m10:=ae.then0 o2 m10)))
    have y:=Y.out.step m10
    have g0:=y.get 2 rfl
    have x0:=af (y.get 0 rfl) 0
    have x1:=af (y.get 0 rfl) 1
    have MY:=lh (And.intro y.mods m10)
    clear y HE HS HV kX nX o1 o2 o3
    go_wp2_with (refine dm rfl rfl g0 rfl rfl yj rfl rfl ?_;intro w11 q1 q2 q3;have c11:=af q1)
    refine bodyPost_ret (by simp [results,Tryz.results290,go_sem,c11];try rfl) rfl ?_
    rw [HQ.out]
    exact⟨n0,n1,0,rfl,tK HR.out,MY.out.1.trans q2 (fun _ _ x=>x) (fun i hi x=>by omega)⟩
  · have HE:=lh (fun wy (hm:ae ai w6 wy)=>Be (R.out.keep hm (fun x=>x) (fun _ _ x=>x)) he)
    clear R
    obtain⟨_,b1,_⟩:=HS.out w6 (ae.refl _ _)
    refine rQ 2 (by kernel_rfl) (by kernel_rfl) ?_
    simp only [List.take_succ_cons,List.take_zero,List.drop_succ_cons,List.drop_zero]
    repeat (quiet_step (fail))
    refine wpQuiet_nil ?_
    intro w7' h7
    obtain⟨q7,h7⟩:=h7
    subst h7
    refine xQ (by rfl) ?_
    go_wp2_with (go_at_call 229;refine (HE.out _ ?_).mono ?_;(next=>exact (by repeat' (first | (with_reducible first | exact ae.refl _ _ | assumption | refine ae.alloc ?_ _ | refine ae.drew ?_ | refine ae.drewN ?_ _ | refine ae.regrown ?_ _ _ | refine ae.setCell ?_ ?_ _) | (refine .inr ?_;first | (simp;done) | (simp;omega) | omega))));rintro r w7 ⟨ee,rfl,hee,hen,m7⟩)
    refine vF ?_
    clear b1
    repeat (quiet_step (fail))
    refine wpQuiet_nil ?_
    intro w8 h8
    obtain⟨q8,h8⟩:=h8
    subst h8
    replace m7:=((ae.refl (fun i=>i=g) w6).drewN q7).trans m7 (fun _ _ x=>x) (fun _ _ x=>x)
    have m10:=ae.drewN m7 q8
    have y:=Y.out.step m10
    have g0:=y.get 2 rfl
    have x0:=af (y.get 3 rfl) 0
    have x1:=af (y.get 3 rfl) 1
    have MY:=lh (And.intro y.mods m10)
    clear y HE HS
    go_wp2_with (refine dm rfl rfl g0 rfl rfl yj rfl rfl ?_;intro w11 q1 q2 q3;have c11:=af q1)
    refine bodyPost_ret (by simp [results,Tryz.results290,go_sem,c11];try rfl) rfl ?_
    rw [HQ.out]
    exact⟨0,0,80,rfl,wO HR.out he,MY.out.1.trans q2 (fun _ _ x=>x) (fun i hi x=>by omega)⟩
theorem Nc {w:World}{b:Value}{xs:List UInt8} (hb:Rd w b xs) (hl:xs.length≤1000000) :
  Calls Tryz.prog 236 #[b] w (fun r w'=>∃ (n0 n1:Nat) (e:Nat),r = .returned (.tuple #[.agg #[.int .u64 (n0:Nat),.int .u64 (n1:Nat)],.int .i64 e])∧fC [0,0] xs=([⟨0,n0,[]⟩,⟨0,n1,[]⟩],e)∧ae ai w w'):=by
 obtain⟨a,c,rfl,hlm⟩:=hb.form
 have P:=lh (qR w #[.int .u64 0,.int .u64 0] 95 _ rfl)
 have HB:=lh hb
 have HL:=lh hl
 clear hb hl hlm
 go_enter Tryz.func236,Tryz.ntmps236
 go_wp2_with fail
 generalize World.alloc w _=w1 at *
 refine (Rf w1).mono ?_
 rintro r w2 ⟨k,rfl,k1,k2,k3⟩
 have M:=lh (P.out.2.1.then0 k2)
 have H1:=lh (je k2 P.out.1)
 have HZ:=lh (show w.heap.size<w2.heap.size from by have:=P.out.2.2;have:=k2.size;omega)
 have K:=lh (And.intro k1 k3)
 clear k1 k2 k3
 go_wp2_with fail
 refine (Q7 K.out.1 K.out.2 (HB.out.keep M.out (fun _ _ x=>x)) HL.out).mono ?_
 rintro r w3 ⟨n0,n1,e,rfl,hg,hm⟩
 have g0:=je hm H1.out
 have R:=lh (And.intro hg (M.out.then0 hm))
 clear hg hm
 go_wp2_with (refine dm rfl rfl g0 rfl rfl yj rfl rfl ?_;intro w11 q1 q2 q3;have c11:=af q1)
 refine bodyPost_ret (by simp [results,Tryz.results236,go_sem,c11];try rfl) rfl ?_
 exact⟨n0,n1,e,rfl,R.out.1,R.out.2.trans q2 (fun _ _ x=>x) (fun i hi x=>by omega)⟩
end Go.Proofs.YtglkmaalpammcaaGreat
namespace Go.Proofs.YtglkmaalpammcaaGreat
open Go.Gl Go.RowKit
theorem one_w {w:World}{g B:Nat}{v0:Value}{xs:List UInt8}{n0:Nat} (h:Wr w g v0 xs 0) (hb:w.heap[B]?=some (.cells #[.int .u64 n0] 22 (0,0))) (ne:¬ WS g v0 B) (hn:gu [n0])  (hl:xs.length≤1000000) :
  Calls Tryz.prog 196 #[.agg #[.pointer (some ⟨g,0,none⟩),.pointer none],.pointer (some ⟨B,0,none⟩)] w fun r w'=>r = .returned (.tuple #[])∧∃ v',fQ w g v0 (xs ++ dC [⟨0,n0,[]⟩]) 0 w' v':=by
 have b:=lh (show Hm w g B v0 #[.int .u64 n0] 22 from⟨⟨xs,h⟩,hb,ne⟩)
 have F:=lh (WF.start h)
 have HN:=lh hn
 clear h hb ne hn
 obtain⟨ys,hys⟩:∃ ys,dC [⟨0,n0,[]⟩]=ys:=⟨_,rfl⟩
 rw [hys]
 have HY:=lh hys
 clear hys
 obtain⟨c0,c1,t0⟩:=F.out.tS
 have e0:(w.alloc (.cells #[.pointer (some ⟨g,0,none⟩),.pointer none] 314)).heap.size=w.heap.size+1:=by simp
 have e1:((w.alloc (.cells #[.pointer (some ⟨g,0,none⟩),.pointer none] 314)).alloc (.cells #[.pointer (some ⟨B,0,none⟩)] 318)).heap[w.heap.size+1]?=some (.cells #[.pointer (some ⟨B,0,none⟩)] 318 (0,0)):=e0▸aF (w.alloc (.cells #[.pointer (some ⟨g,0,none⟩),.pointer none] 314)) _
 have E:=lh (And.intro e0 e1)
 clear e0 e1
 go_enter Tryz.func196,Tryz.ntmps196
 go_wp2_with fail
 refine (F.out.nums b.out ((ae.refl ai _).alloc (.cells #[.pointer (some ⟨B,0,none⟩)] 318)) (k:=w.heap.size+1) (e:=318) [0] [n0] (Nat.le_of_eq E.out.1) E.out.2 rfl rfl (Nat.le_of_ble_eq_true rfl) rfl (vM _ _ (And.intro rfl trivial)) HN.out (by omega)).mono ?_
 rintro r w0 ⟨rfl,hq⟩
 have F0:=lh hq
 clear c0 c1 t0 hq
 go_wp2
 go_end0
 obtain⟨⟨v',hs,_⟩,_,_⟩:=F0.out
 refine⟨rfl,v',?_⟩
 rw [← HY.out]
 simpa only [dC,EW,EQ,EU,List.flatMap_cons,List.flatMap_nil,List.append_nil,List.append_assoc] using hs
theorem one_r {w:World}{g B:Nat}{v0:Value}{s:fJ} (h:TR g B 22 v0 s #[.int .u64 0] w) (hll:s.1.length≤10000000000) :
  Calls Tryz.prog 196 #[.agg #[.pointer none,.pointer (some ⟨g,0,none⟩)],.pointer (some ⟨B,0,none⟩)] w fun r w'=>r = .returned (.tuple #[])∧∃ (n0:Nat) (s':fJ),gX [0] s=([⟨0,n0,[]⟩],s')∧nV w g B 22 v0 s' #[.int .u64 n0] w':=by
 have F:=lh (RF.start h)
 clear h
 obtain⟨Q,hQ⟩:∃ Q:Ending→World→Prop,Q=(fun (r:Ending) (w':World)=>r = .returned (.tuple #[])∧∃ (n0:Nat) (s':fJ),gX [0] s=([⟨0,n0,[]⟩],s')∧nV w g B 22 v0 s' #[.int .u64 n0] w'):=⟨_,rfl⟩
 show Calls _ _ _ _ (fun (r:Ending) (w':World)=>r = .returned (.tuple #[])∧∃ (n0:Nat) (s':fJ),gX [0] s=([⟨0,n0,[]⟩],s')∧nV w g B 22 v0 s' #[.int .u64 n0] w')
 rw [← hQ]
 have HQ:=lh hQ
 clear hQ
 obtain⟨c0,c1,t0⟩:=F.out.tS
 have e0:(w.alloc (.cells #[.pointer none,.pointer (some ⟨g,0,none⟩)] 314)).heap.size=w.heap.size+1:=by simp
 have e1:((w.alloc (.cells #[.pointer none,.pointer (some ⟨g,0,none⟩)] 314)).alloc (.cells #[.pointer (some ⟨B,0,none⟩)] 318)).heap[w.heap.size+1]?=some (.cells #[.pointer (some ⟨B,0,none⟩)] 318 (0,0)):=e0▸aF (w.alloc (.cells #[.pointer none,.pointer (some ⟨g,0,none⟩)] 314)) _
 have E:=lh (And.intro e0 e1)
 clear e0 e1
 go_enter Tryz.func196,Tryz.ntmps196
 go_wp2_with fail
 refine (F.out.nums ((ae.refl ai _).alloc (.cells #[.pointer (some ⟨B,0,none⟩)] 318)) (k:=w.heap.size+1) (e:=318) [0] (Nat.le_of_eq E.out.1) E.out.2 rfl rfl (Nat.le_of_ble_eq_true rfl) (vT rfl)).mono ?_
 rintro r w0 ⟨rfl,hq⟩
 have F0:=lh (show RF w g B w.heap.size 22 v0 (est 8 s) #[.int .u64 (fO 8 s:Nat)] [] w0 from hq)
 clear c0 c1 t0 hq
 go_wp2
 go_end0
 rw [HQ.out]
 exact⟨rfl,(fO 8 s),(est 8 s),by kernel_rfl,F0.out.st⟩
theorem Oi (w:World):Calls Tryz.prog 237 #[.func (.func 196) #[] #[]] w fun r w'=>∃ k,r = .returned (.func (.func 266) #[] #[.pointer (some ⟨k,0,none⟩)])∧w'.cell? ⟨k,0,none⟩=some (.func (.func 196) #[] #[])∧ae ai w w'∧k<w'.heap.size:=by
 have hmf:∀ (fn:Fn) (first cap:Array Value) (w:World),(Instr.makeFunc fn first cap).run Tryz.prog w = .ok (.func fn first cap) w:=fun _ _ _ _=>rfl
 go_enter Tryz.func237,Tryz.ntmps237
 go_wp2
 go_ret
 exact⟨_,rfl,af (aF w _) 0,(ae.refl _ _).alloc _,by simp⟩
theorem Oh {w:World}{k:Nat}{n0:Nat} (hk:w.cell? ⟨k,0,none⟩=some (.func (.func 196) #[] #[])) (hkl:k<w.heap.size) (hn:gu [n0])  :
  Calls Tryz.prog 266 #[.int .u64 n0,.pointer (some ⟨k,0,none⟩)] w fun r w'=>∃ v,r = .returned v∧Gl.Own w' v (dC [⟨0,n0,[]⟩])∧ae ai w w'∧aG w v:=by
 obtain⟨zs,hz⟩:∃ zs,dC [⟨0,n0,[]⟩]=zs:=⟨_,rfl⟩
 rw [hz]
 have HZ:=lh hz
 clear hz
 have HN:=lh hn
 clear hn
 have m1:=(((ae.refl ai w).alloc (.cells #[.int .u64 n0] 22)).alloc (.cells #[.slice none 0 0,.int .i64 0] 311)).alloc (.cells #[.pointer (some ⟨w.heap.size+1,0,none⟩),.pointer none] 314)
 have c1:=(m1.cellAt hkl (fun x=>x) 0).trans hk
 have P:=lh (zK w #[.int .u64 n0] 22 _ rfl)
 clear hk m1
 go_enter Tryz.func266,Tryz.ntmps266
 go_wp2_with fail
 generalize World.alloc (World.alloc (World.alloc w _) _) _=wx at *
 obtain⟨p1,p2,p3,p4,p5,p6,p7⟩:=P.out
 refine (one_w p1 p2 p3 HN.out (by simp)).mono ?_
 rintro r w4 ⟨rfl,v',hs⟩
 rw [List.nil_append,HZ.out] at hs
 have hzl:=lh (show zs.length≤140737488355328 from HZ.out▸Nat.le_trans (vk _) (Nat.le_of_ble_eq_true rfl))
 have d1:=af (hs.mods.heap p4 p7) 0
 have M:=lh (p5.trans hs.mods (U:=ai) (fun _ _ x=>x) (fun i hi x=>BN x hi))
 have F:=lh hs
 clear hs p1 p2 p3 p4 p5 p6 p7 P c1
 go_wp2_with fail
 refine (rW F.out.wr hzl.out).mono ?_
 rintro r w5 ⟨u,rfl,o1,o2,o3⟩
 obtain⟨ua,uc,rfl,_⟩:=o1.rd.form
 have O:=lh (And.intro o1 (And.intro o2 o3))
 clear o1 o2 o3 d1
 go_wp2
 go_ret
 obtain⟨o1,o2,o3⟩:=O.out
 exact⟨_,rfl,o1,M.out.then0 o2,o3.of M.out.size⟩
theorem DC {w:World}{n0:Nat} (hn:gu [n0])  :
  Calls Tryz.prog 182 #[.int .u64 n0] w fun r w'=>∃ v,r = .returned v∧Gl.Own w' v (dC [⟨0,n0,[]⟩])∧ae ai w w'∧aG w v:=by
 obtain⟨zs,hz⟩:∃ zs,dC [⟨0,n0,[]⟩]=zs:=⟨_,rfl⟩
 rw [hz]
 have HZ:=lh hz
 clear hz
 have HN:=lh hn
 clear hn
 go_enter Tryz.func182,Tryz.ntmps182
 go_wp2_with fail
 refine (Oi w).mono ?_
 rintro r w2 ⟨k,rfl,k1,k2,k3⟩
 go_wp2_with fail
 refine (Oh k1 k3 HN.out).mono ?_
 rintro r w3 ⟨v,rfl,o1,o2,o3⟩
 go_wp2
 go_ret
 exact⟨_,rfl,HZ.out▸o1,k2.then0 o2,o3.of k2.size⟩
theorem Vz (w:World):Calls Tryz.prog 195 #[.func (.func 196) #[] #[]] w fun r w'=>∃ k,r = .returned (.func (.func 245) #[] #[.pointer (some ⟨k,0,none⟩)])∧w'.cell? ⟨k,0,none⟩=some (.func (.func 196) #[] #[])∧ae ai w w'∧k<w'.heap.size:=by
 have hmf:∀ (fn:Fn) (first cap:Array Value) (w:World),(Instr.makeFunc fn first cap).run Tryz.prog w = .ok (.func fn first cap) w:=fun _ _ _ _=>rfl
 go_enter Tryz.func195,Tryz.ntmps195
 go_wp2
 go_ret
 exact⟨_,rfl,af (aF w _) 0,(ae.refl _ _).alloc _,by simp⟩
theorem VC {w:World}{k:Nat}{b:Value}{xs:List UInt8} (hk:w.cell? ⟨k,0,none⟩=some (.func (.func 196) #[] #[])) (hkl:k<w.heap.size) (hb:Rd w b xs) (hl:xs.length≤1000000) :
    Calls Tryz.prog 245 #[b,.pointer (some ⟨k,0,none⟩)] w (fun r w'=>∃ (n0:Nat) (e:Nat),r = .returned (.tuple #[.int .u64 (n0:Nat),.int .i64 e])∧fC [0] xs=([⟨0,n0,[]⟩],e)∧ae ai w w'):=by
  obtain⟨a,c,rfl,hlm⟩:=hb.form
  obtain⟨Q,hQ⟩:∃ Q:Ending→World→Prop,Q=(fun r w'=>∃ (n0:Nat) (e:Nat),r = .returned (.tuple #[.int .u64 (n0:Nat),.int .i64 e])∧fC [0] xs=([⟨0,n0,[]⟩],e)∧ae ai w w'):=⟨_,rfl⟩
  show Calls _ _ _ _ (fun r w'=>∃ (n0:Nat) (e:Nat),r = .returned (.tuple #[.int .u64 (n0:Nat),.int .i64 e])∧fC [0] xs=([⟨0,n0,[]⟩],e)∧ae ai w w')
  rw [← hQ]
  have HQ:=lh hQ
  have P:=lh (QZ w #[.int .u64 0] 22 _ rfl)
  have HB:=lh hb
  have HK:=lh (And.intro hk hkl)
  have HL:=lh hl
  clear hQ hb hk hkl hl hlm
  go_enter Tryz.func245,Tryz.ntmps245
  go_wp2_with fail
  generalize World.alloc w _=w3 at *
  obtain⟨p1,p3,p4⟩:=P.out
  refine (rM (HB.out.keep p3 (fun _ _ x=>x)) (Nat.le_trans HL.out (Nat.le_of_ble_eq_true rfl))).mono ?_
  rintro r w4 ⟨g,v,rfl,hr,m4,hg,hf⟩
  have G:=lh (zt (B:=w.heap.size) (es:=[]) p1 no_es p3 hr m4 hg hf _ rfl)
  have c0:=jG G.out.2.1 HK.out.1 HK.out.2
  have HG:=lh (show w.heap.size<g+1∧w.heap.size<g∧g<w4.heap.size∧w.heap.size≤w4.heap.size from⟨by omega,by omega,hr.lt,by have:=m4.size;omega⟩)
  clear hr m4 hg hf p1 p3 p4 P
  have z5:(w4.alloc (.cells #[.pointer none,.pointer (some ⟨g,0,none⟩)] 314)).heap.size=w4.heap.size+1:=by simp
  have Z5:=lh z5
  clear z5
  go_wp2_with fail
  generalize World.alloc w4 _=w5 at *
  refine (one_r G.out.1 (Nat.le_trans HL.out (Nat.le_of_ble_eq_true rfl))).mono ?_
  rintro r w6 ⟨rfl,n0,s,hs,ht⟩
  obtain⟨⟨v',t1⟩,t2,t3⟩:=G.out.2.2 _ _ _ ht
  have Y:=lh (t3 (by omega))
  have R:=lh t1
  have HR:=lh hs
  have HS:=lh (fun x (hm:ae (fun i=>i=g) w6 x)=>have y:=GY.step Y.out hm;have h0:=y.get 0 rfl;show x.cell? ⟨k,0,none⟩=some (.func (.func 196) #[] #[])∧x.cell? ⟨w4.heap.size,1,none⟩=some (.pointer (some ⟨g,0,none⟩))∧x.cell? ⟨w.heap.size,0,none⟩=some (.int .u64 (n0:Nat))∧ae (fun i=>i=g) w6 x from⟨jG y.mods HK.out.1 HK.out.2,af (y.get 1 rfl) 1,af h0 0,hm⟩)
  clear ht t1 t2 t3 c0 G hs
  go_wp2
  by_cases he:s=([],0)
  · subst he
    have HE:=lh (fun wy (hm:ae ai w6 wy)=>Bq (R.out.keep hm (fun x=>x) (fun _ _ x=>x)))
    have HX:=lh (uu HR.out)
    have ho:=(vW [0] (xs,0) (by decide)).1
    rw [HR.out] at ho
    have HO:=lh (show gu [n0] from (fE (ho ⟨0,n0,[]⟩ (List.mem_of_getElem? (i:=0) rfl)).n uh))
    clear ho
    have HV:=lh (fun wy (hm:ae (fun i=>i=g) w6 wy)=>HB.out.keep (Y.out.step hm).mods (fun _ _ x=>x))
    clear R
    go_region_held3 (fun x=>x.cell? ⟨k,0,none⟩=some (.func (.func 196) #[] #[])∧x.cell? ⟨w4.heap.size,1,none⟩=some (.pointer (some ⟨g,0,none⟩))∧x.cell? ⟨w.heap.size,0,none⟩=some (.int .u64 (n0:Nat))∧ae (fun i=>i=g) w6 x)
      ((refine HS.out _ ?_;exact (by repeat' (first | (with_reducible first | exact ae.refl _ _ | assumption | refine ae.alloc ?_ _ | refine ae.drew ?_ | refine ae.drewN ?_ _ | refine ae.regrown ?_ _ _ | refine ae.setCell ?_ ?_ _) | (refine .inr ?_;first | (simp;done) | (simp;omega) | omega)))))
      ((first
        | (go_at_call 229;refine (HE.out _ ?_).mono ?_;(next=>exact (by repeat' (first | (with_reducible first | exact ae.refl _ _ | assumption | refine ae.alloc ?_ _ | refine ae.drew ?_ | refine ae.drewN ?_ _ | refine ae.regrown ?_ _ _ | refine ae.setCell ?_ ?_ _) | (refine .inr ?_;first | (simp;done) | (simp;omega) | omega))));rintro r w7 ⟨rfl,m7⟩;(try replace m7:=ae.undrew m7))
        | (go_at_call 237;refine (Oi _).mono ?_;rintro r w8 ⟨k2,rfl,kX,nX,lX⟩;(try replace nX:=ae.undrew nX);replace nX:=ae.then0 m7 nX)
        | (go_at_call 266;refine (Oh (k:=k2) ?_ ?_ HO.out).mono ?_;(next=>(refine jG ?_ kX lX;exact (by repeat' (first | (with_reducible first | exact ae.refl _ _ | assumption | refine ae.alloc ?_ _ | refine ae.drew ?_ | refine ae.drewN ?_ _ | refine ae.regrown ?_ _ _ | refine ae.setCell ?_ ?_ _) | (refine .inr ?_;first | (simp;done) | (simp;omega) | omega)))));(next=>(refine ae.size_of (S:=ai) (a:=w8) ?_ lX;exact (by repeat' (first | (with_reducible first | exact ae.refl _ _ | assumption | refine ae.alloc ?_ _ | refine ae.drew ?_ | refine ae.drewN ?_ _ | refine ae.regrown ?_ _ _ | refine ae.setCell ?_ ?_ _) | (refine .inr ?_;first | (simp;done) | (simp;omega) | omega)))));rintro r w9 ⟨u,rfl,o1,o2,o3⟩;(try replace o2:=ae.undrew o2);replace o2:=ae.then0 nX o2)
        | (go_at_call 211;refine (wL HX.out ?_ (HV.out _ ?_)).mono ?_;(next=>(refine Rd.keep (S:=ai) (w:=w9) o1.rd ?_ (fun _ _ x=>x);exact (by repeat' (first | (with_reducible first | exact ae.refl _ _ | assumption | refine ae.alloc ?_ _ | refine ae.drew ?_ | refine ae.drewN ?_ _ | refine ae.regrown ?_ _ _ | refine ae.setCell ?_ ?_ _) | (refine .inr ?_;first | (simp;done) | (simp;omega) | omega)))));(next=>exact (by repeat' (first | (with_reducible first | exact ae.refl _ _ | assumption | refine ae.alloc ?_ _ | refine ae.drew ?_ | refine ae.drewN ?_ _ | refine ae.regrown ?_ _ _ | refine ae.setCell ?_ ?_ _) | (refine .inr ?_;first | (simp;done) | (simp;omega) | omega))));rintro r w10 ⟨rfl,m10⟩;(try replace m10:=ae.undrew m10);replace m10:=ae.then0 o2 m10)))
    have y:=Y.out.step m10
    have x0:=af (y.get 0 rfl) 0
    have MY:=lh (And.intro y.mods m10)
    clear y HE HS HV kX nX o1 o2 o3
    go_wp2
    rw [HQ.out]
    exact⟨n0,0,rfl,tK HR.out,MY.out.1⟩
  · have HE:=lh (fun wy (hm:ae ai w6 wy)=>Be (R.out.keep hm (fun x=>x) (fun _ _ x=>x)) he)
    clear R
    obtain⟨_,b1,_⟩:=HS.out w6 (ae.refl _ _)
    refine rQ 2 (by kernel_rfl) (by kernel_rfl) ?_
    simp only [List.take_succ_cons,List.take_zero,List.drop_succ_cons,List.drop_zero]
    repeat (quiet_step (fail))
    refine wpQuiet_nil ?_
    intro w7' h7
    obtain⟨q7,h7⟩:=h7
    subst h7
    refine xQ (by rfl) ?_
    go_wp2_with (go_at_call 229;refine (HE.out _ ?_).mono ?_;(next=>exact (by repeat' (first | (with_reducible first | exact ae.refl _ _ | assumption | refine ae.alloc ?_ _ | refine ae.drew ?_ | refine ae.drewN ?_ _ | refine ae.regrown ?_ _ _ | refine ae.setCell ?_ ?_ _) | (refine .inr ?_;first | (simp;done) | (simp;omega) | omega))));rintro r w7 ⟨ee,rfl,hee,hen,m7⟩)
    refine vF ?_
    clear b1
    repeat (quiet_step (fail))
    refine wpQuiet_nil ?_
    intro w8 h8
    obtain⟨q8,h8⟩:=h8
    subst h8
    replace m7:=((ae.refl (fun i=>i=g) w6).drewN q7).trans m7 (fun _ _ x=>x) (fun _ _ x=>x)
    have m10:=ae.drewN m7 q8
    have y:=Y.out.step m10
    have MY:=lh (And.intro y.mods m10)
    clear y HE HS
    go_wp2
    rw [HQ.out]
    exact⟨0,80,rfl,wO HR.out he,MY.out.1⟩
theorem Jm {w:World}{b:Value}{xs:List UInt8} (hb:Rd w b xs) (hl:xs.length≤1000000) :
  Calls Tryz.prog 117 #[b] w (fun r w'=>∃ (n0:Nat) (e:Nat),r = .returned (.tuple #[.int .u64 (n0:Nat),.int .i64 e])∧fC [0] xs=([⟨0,n0,[]⟩],e)∧ae ai w w'):=by
 obtain⟨a,c,rfl,hlm⟩:=hb.form
 have HB:=lh hb
 have HL:=lh hl
 clear hb hl hlm
 go_enter Tryz.func117,Tryz.ntmps117
 go_wp2_with fail
 refine (Vz w).mono ?_
 rintro r w2 ⟨k,rfl,k1,k2,k3⟩
 have M:=lh k2
 have K:=lh (And.intro k1 k3)
 clear k1 k2 k3
 go_wp2_with fail
 refine (VC K.out.1 K.out.2 (HB.out.keep M.out (fun _ _ x=>x)) HL.out).mono ?_
 rintro r w3 ⟨n0,e,rfl,hg,hm⟩
 have R:=lh (And.intro hg (M.out.then0 hm))
 clear hg hm
 go_wp2
 go_ret2
 exact⟨n0,e,rfl,R.out⟩
end Go.Proofs.YtglkmaalpammcaaGreat
namespace Go.Proofs.YtglkmaalpammcaaGreat
open Go.Gl Go.RowKit
def qk (kind a b:Nat):List UInt8:=(iT kind a b).getD []
theorem wF (kind a b:Nat):(qk kind a b).length≤1000000:=Nat.le_trans (NP kind a b) (by omega)
def one1 (xs:List UInt8):Nat:=match (fC [0] xs).1 with
 | [a]=>a.n
 | _=>0
theorem Du {xs:List UInt8}{a e:Nat} (h:fC [0] xs=([⟨0,a,[]⟩],e)):one1 xs=a:=by unfold one1;rw [h]
def gV (a:Nat):List UInt8:=dC [⟨0,a,[]⟩]
theorem zL (xs:List UInt8):bD (one1 xs):=by
 obtain⟨⟨fs,e⟩,hr⟩:∃ q,fC [0] xs=q:=⟨_,rfl⟩
 have h:=(wQ (by simp) hr).1
 unfold one1 bD
 rw [hr]
 simp only
 split
 ·rename_i a
  exact (h a (by simp)).n
 ·omega
def kC (F:List aN):Nat × Nat:=two ((gz F (qk 2 0 0)).getD [])
def A7 (F:List aN):List aN:=fV F (qk 2 0 0) (qJ (kC F).1 (((kC F).2+1) % 18446744073709551616))
def sN (F:List aN) (d v:Nat):Nat:=one1 ((gz F (qk 17 d v)).getD [])
def rD (F:List aN) (d v n:Nat):List aN:=if n=0 then iC F (qk 17 d v) else fV F (qk 17 d v) (gV n)
theorem gZ {kind a b:Nat} (w:World) (ha:bD a) (hb:bD b):Calls Tryz.prog 116 #[.int .i64 (kind:Nat),.int .u64 (a:Nat),.int .u64 (b:Nat)] w fun e w'=>∃ v,e = .returned v∧Gl.Own w' v (qk kind a b)∧ae ai w w'∧aG w v:=by
 have M:=lh (Az kind a b w ha hb)
 generalize (if (iT (kind:Nat) a b).isSome=true then (0:Int) else 70)=en at M
 clear ha hb
 go_enter Tryz.func116,Tryz.ntmps116
 go_wp2_with fail
 refine M.out.mono ?_
 rintro e w1 ⟨v,rfl,o,m,f⟩
 have O:=lh (And.intro o (And.intro m f))
 clear o m f M
 go_wp2
 go_ret
 exact⟨_,rfl,O.out⟩
section
variable {w:World}{sg n p:Nat}{F:List aN}{Q:Nat→Prop}
theorem vO {d v:Nat} (hd:bD d) (hv:bD v) (hn:n≤1000000000000) (hp:p≤100000):GS Tryz.prog 42 #[.pointer (some ⟨sg,0,none⟩),.int .u64 ((d:Nat):Int),.int .u64 ((v:Nat):Int)] w (bI sg F n p) Q (.int .u64 ((sN F d v:Nat):Int)) (bI sg F (n+1) p):=GS.walk fun S D kv hQ=>by
 have VL:=lh (show ((gz F (qk 17 d v)).getD []).length≤1000000 from by
  obtain⟨m,q,_,_,kv⟩:=kv
  cases hg:gz F (qk 17 d v) with
  | none=>simp
  | some v=>exact KV.vlen kv hg)
 have G0:=lh (GI.start kv)
 have K:=lh (fun W=>gZ (kind:=17) (a:=d) (b:=v) W hd hv)
 clear kv hd hv
 go_enter Tryz.func42,Tryz.ntmps42
 go_wp2_with fail
 refine (K.out w).mono ?_
 rintro e w2 ⟨k,rfl,o2,m2,f2⟩
 have G2:=lh (G0.out.own bJ m2 o2 f2)
 have C:=lh (G2.out.callo (Bh o2.rd (fP (fun i hi => .inr hi)) hn hp))
 clear o2 m2 f2 G0
 go_wp2_with fail
 refine C.out.mono ?_
 rintro e w3 ⟨b,rfl,o3,f3,g3,m3⟩
 have G3:=lh g3
 have A:=lh (Jm o3.rd VL.out)
 clear C o3 f3 g3 m3 G2
 go_wp2_with fail
 refine A.out.mono ?_
 rintro e w4 ⟨n0,er,rfl,hg,m4⟩
 have DD:=lh (G3.out.keep0 bJ m4).done
 have TW:=lh (show sN F d v=n0 from Du hg)
 clear A hg m4 G3
 go_wp2
 go_ret
 exact⟨by rw [TW.out];rfl,DD.out⟩
theorem BP {d v m:Nat} (hd:bD d) (hv:bD v) (hm:bD m) (hn:n≤1000000000000) (hp:p≤100000):GS Tryz.prog 183 #[.pointer (some ⟨sg,0,none⟩),.int .u64 ((d:Nat):Int),.int .u64 ((v:Nat):Int),.int .u64 ((m:Nat):Int)] w (bI sg F n p) Q (.tuple #[]) (bI sg (rD F d v m) (n+1) (p+2)):=GS.walk fun S D kv hQ=>by
 have G0:=lh (GI.start kv)
 have K:=lh (fun W=>gZ (kind:=17) (a:=d) (b:=v) W hd hv)
 have PU:=lh (fun W=>DC (w:=W) (n0:=m) (by intro x hx;simp at hx;subst hx;exact hm))
 clear kv hd hv
 unfold rD
 by_cases h0:m=0
 ·subst h0
  rw [if_pos rfl]
  go_enter Tryz.func183,Tryz.ntmps183
  go_wp2_with fail
  refine (K.out w).mono ?_
  rintro e w2 ⟨k,rfl,o2,m2,f2⟩
  have G2:=lh (G0.out.own bJ m2 o2 f2)
  have C:=lh (G2.out.calls (wu o2.rd (fP (fun i hi => .inr hi)) (wF ..) hn hp))
  clear o2 m2 f2 G0
  go_wp2_with fail
  refine C.out.mono ?_
  rintro e w3 ⟨rfl,g3,m3⟩
  have DD:=lh g3.done
  clear g3 m3 C G2
  go_wp2
  go_end0
  exact⟨rfl,DD.out⟩
 ·have hI:¬ (m:Int)=0:=by omega
  rw [if_neg h0]
  clear hm
  go_enter Tryz.func183,Tryz.ntmps183
  go_wp2_with fail
  refine (K.out w).mono ?_
  rintro e w2 ⟨k,rfl,o2,m2,f2⟩
  have G2:=lh (G0.out.own bJ m2 o2 f2)
  have O2:=lh o2
  clear o2 m2 f2 G0
  go_wp2_with fail
  refine (PU.out w2).mono ?_
  rintro e w3 ⟨u,rfl,o3,m3,f3⟩
  have G3:=lh (G2.out.own bJ m3 o3 f3)
  have C:=lh (G3.out.calls (qI (O2.out.keep m3 (fun _ _ x=>x)).rd o3.rd (fP (fun i hi => .inl (.inr hi))) (fP (fun i hi => .inr hi)) hn hp))
  clear o3 m3 f3 G2 O2
  go_wp2_with fail
  refine C.out.mono ?_
  rintro e w4 ⟨rfl,g4,m4⟩
  have DD:=lh g4.done
  clear g4 m4 C G3
  go_wp2
  go_end0
  exact⟨rfl,DD.out⟩
theorem RZ (hn:n≤100000000000) (hp:p≤90000):GS Tryz.prog 181 #[.pointer (some ⟨sg,0,none⟩)] w (bI sg F n p) Q (.int .u64 (((kC F).2:Nat):Int)) (bI sg (A7 F) (n+2) (p+2)):=GS.walk fun S D kv hQ=>by
 have VL:=lh (show ((gz F (qk 2 0 0)).getD []).length≤1000000 from by
  obtain⟨m,q,_,_,kv⟩:=kv
  cases hg:gz F (qk 2 0 0) with
  | none=>simp
  | some v=>exact KV.vlen kv hg)
 have G0:=lh (GI.start kv)
 have K:=lh (fun W=>show Calls Tryz.prog 116 #[.int .i64 2,.int .u64 0,.int .u64 0] W fun e w'=>∃ v,e = .returned v∧Gl.Own w' v (qk 2 0 0)∧ae ai W w'∧aG W v from gZ (kind:=2) (a:=0) (b:=0) W (by unfold bD;omega) (by unfold bD;omega))
 clear kv
 go_enter Tryz.func181,Tryz.ntmps181
 go_wp2_with fail
 refine (K.out w).mono ?_
 rintro e w2 ⟨k,rfl,o2,m2,f2⟩
 have G2:=lh (G0.out.own bJ m2 o2 f2)
 have C:=lh (G2.out.callo (Bh o2.rd (fP (fun i hi => .inr hi)) (by omega) (by omega)))
 clear o2 m2 f2 G0
 go_wp2_with fail
 refine C.out.mono ?_
 rintro e w3 ⟨b,rfl,o3,f3,g3,m3⟩
 have G3:=lh (g3.less (N':=fun _=>False) (fun _ x=>x.elim))
 have A:=lh (Nc o3.rd VL.out)
 clear C o3 f3 g3 m3 G2
 go_wp2_with fail
 refine A.out.mono ?_
 rintro e w4 ⟨h,m,er,rfl,hg,m4⟩
 have TW:=lh (show kC F=(h,m) from Gh hg)
 have hlt:=(Ih ((gz F (qk 2 0 0)).getD []))
 have LT:=lh (show h≤18446744073709551615∧m≤18446744073709551615 from by
  have e1:two ((gz F (qk 2 0 0)).getD [])=(h,m):=Gh hg
  rw [e1] at hlt
  exact hlt)
 obtain⟨m',hm'⟩:∃ m',(m+1) % 18446744073709551616=m':=⟨_,rfl⟩
 have t1:IntKind.u64.wrap ((m:Int)+1)=(m':Int):=by rw [wrap_u64];omega
 have t2:IntKind.u64.wrap ((m':Int) - 1)=(m:Int):=by rw [wrap_u64];have:=LT.out.2;omega
 have G4:=lh (G3.out.keep0 bJ m4)
 have HM:=lh hm'
 clear A hg m4 G3 hm' hlt
 have m5:=(ae.refl ai w4).alloc (.cells #[.int .u64 ((h:Nat):Int),.int .u64 ((m':Nat):Int)] 95)
 have b5:=aF w4 (.cells #[.int .u64 ((h:Nat):Int),.int .u64 ((m':Nat):Int)] 95)
 obtain⟨w5,hw5⟩:∃ w5,w5=w4.alloc (.cells #[.int .u64 ((h:Nat):Int),.int .u64 ((m':Nat):Int)] 95):=⟨_,rfl⟩
 rw [← hw5] at m5 b5
 have G5:=lh (G4.out.grow bJ m5 (N':=fun k=>k=w4.heap.size) (fun k hk => .inr (by subst hk;exact⟨Nat.le_refl _,lt_of_heap b5⟩)))
 have B5:=lh b5
 have HW:=lh hw5
 have C1:=lh (fun b' (mb:ae ai w5 b')=>(K.out b').mono (fun (e:Ending) w' ⟨v,a,o,m',f⟩=>show ∃ v,e=Ending.returned v∧(Gl.Own w' v (qk 2 0 0)∧ae ai w5 w'∧GI w S D w' (bI sg F (n+1) p) (fun k=>k=w4.heap.size∨eY v k)) from⟨v,a,o,mb.then0 m',(G5.out.keep0 bJ mb).own bJ m' o f⟩))
 have C2:=lh (fun b' f (hX:Gl.Own b' f (qk 2 0 0)∧ae ai w5 b'∧GI w S D b' (bI sg F (n+1) p) (fun k=>k=w4.heap.size∨eY f k))=>(EE (w:=b') (n0:=h) (n1:=m') (by intro x hx;simp at hx;have:=LT.out;have:=HM.out;rcases hx with rfl | rfl <;> omega)).mono (fun (e:Ending) w' ⟨v,a,o,mv,fr⟩=>show ∃ v,e=Ending.returned v∧(Gl.Own w' f (qk 2 0 0)∧Gl.Own w' v (qJ h m')∧ae ai w5 w'∧GI w S D w' (bI sg F (n+1) p) (fun k=>(k=w4.heap.size∨eY f k)∨eY v k)) from⟨v,a,hX.1.keep mv (fun _ _ x=>x),o,hX.2.1.then0 mv,hX.2.2.own bJ mv o fr⟩))
 have C3:=lh (fun b' f v (hY:Gl.Own b' f (qk 2 0 0)∧Gl.Own b' v (qJ h m')∧ae ai w5 b'∧GI w S D b' (bI sg F (n+1) p) (fun k=>(k=w4.heap.size∨eY f k)∨eY v k))=>(hY.2.2.2.calls (qI hY.1.rd hY.2.1.rd (fP (fun i hi => .inl (.inr hi))) (fP (fun i hi => .inr hi)) (by omega) (by omega))).mono (fun (e:Ending) w' ⟨a,g,mm⟩=>show ∃ r,e=Ending.returned r∧(w'.heap[w4.heap.size]?=some (Obj.cells #[.int .u64 ((h:Nat):Int),.int .u64 ((m':Nat):Int)] 95 (0,0))∧kZ w S D w' (bI sg (fV F (qk 2 0 0) (qJ h m')) (n+2) (p+2))) from⟨_,a,mm.heap (hY.2.2.1.heap B5.out (fun x=>x)) (fun x=>x (.inl (.inl (.inl rfl)))),g.done⟩))
 clear G4 m5 b5 hw5
 go_upto_region 4 with fail
 rw [← HW.out]
 refine fM (d := .region 4 (aH 4 Tryz.f181) true) (by kernel_rfl) ?_
 refine RW.wp (qnx4 B5.out C1.out C2.out C3.out (fun _ _ h=>h.2.1) (fun _ _ _ h=>h.2.2.1) ?_)
 intros
 rename_i w9 h9
 have c1:w9.cell? ⟨w4.heap.size,1,none⟩=some (.int .u64 ((m':Nat):Int)):=af h9.1 1
 have DD:=lh (show kZ w S D w9 (bI sg (A7 F) (n+2) (p+2)) from by
  unfold A7
  rw [TW.out]
  simp only
  rw [HM.out]
  exact h9.2)
 clear h9 C1 C2 C3
 go_wp2
 go_ret
 exact⟨by rw [TW.out];rfl,DD.out⟩
end
end Go.Proofs.YtglkmaalpammcaaGreat
namespace Go.Proofs.YtglkmaalpammcaaGreat
open Go.Gl Go.RowKit
def uS:Nat:=18446744073709551615
def xN (f:gW) (b:List UInt8):Nat:=ja f (if f.a=true∧9≤b.length then num ((b.drop 1).take 8) else 0)
def wP (f:gW) (b:List UInt8):Nat:=if f.b=true∧8≤b.length then num (b.drop (b.length - 8)) else 0
theorem qw {k:Nat}{f:gW} (hf:iw k=some f):1≤k∧k≤17:=by
 rcases Nat.lt_or_ge k 18 with h | h
 ·rcases Nat.eq_zero_or_pos k with rfl | h0
  ·simp [iw] at hf
  ·omega
 ·obtain⟨j,rfl⟩:∃ j,k=j+18:=⟨k - 18,by omega⟩
  simp [iw] at hf
theorem Kw {k:Nat}{f:gW} (hf:iw k=some f):(f.turned=true→f.a=true)∧(f.b=true→f.a=true):=by
 obtain⟨h1,h2⟩:=qw hf
 have:k=1∨k=2∨k=3∨k=4∨k=5∨k=6∨k=7∨k=8∨k=9∨k=10∨k=11∨k=12∨k=13∨k=14∨k=15∨k=16∨k=17:=by omega
 rcases this with rfl | rfl | rfl | rfl | rfl | rfl | rfl | rfl | rfl | rfl | rfl | rfl | rfl | rfl | rfl | rfl | rfl <;> cases hf <;> decide
theorem Ky (f:gW) (a:Nat) (h:a≤18446744073709551615):ja f (ja f a)=a:=by
 unfold ja
 split <;> omega
theorem Fb (f:gW) (a:Nat) (h:a≤18446744073709551615):ja f a≤18446744073709551615:=by
 unfold ja
 split <;> omega
theorem SK {k a b:Nat}{f:gW} (hf:iw k=some f) (hn:sG f a b=true) (ha:a≤18446744073709551615) (hb:b≤18446744073709551615):xN f (iP f a b)=a∧wP f (iP f a b)=b:=by
 obtain⟨ht,hba⟩:=Kw hf
 have hA:ja f a<18446744073709551616:=by have:=Fb f a ha;omega
 have h2:=Ky f a ha
 obtain⟨hd,md,fa,fb,ft⟩:=f
 simp only [sG,Bool.and_eq_true,Bool.or_eq_true,decide_eq_true_eq] at hn
 cases fa
 ·have hbf:fb=false:=by cases fb;rfl;exact absurd (hba rfl) (by simp)
  have htf:ft=false:=by cases ft;rfl;exact absurd (ht rfl) (by simp)
  subst hbf htf
  simp at hn
  simp [xN,wP,ja,hn.1,hn.2]
 ·have e1:(((iP ⟨hd,md,true,fb,ft⟩ a b).drop 1).take 8)=be 8 (ja ⟨hd,md,true,fb,ft⟩ a):=by
   simp only [iP,jT,if_true,List.append_assoc,List.cons_append,List.nil_append,List.drop_succ_cons,List.drop_zero]
   rw [List.take_append_of_le_length (by rw [bU];omega),List.take_of_length_le (by rw [bU];omega)]
  have l1:9≤(iP ⟨hd,md,true,fb,ft⟩ a b).length:=by
   simp [iP,jT,bU]
  refine⟨?_,?_⟩
  ·unfold xN
   rw [if_pos ⟨rfl,l1⟩,e1,JA _ hA,h2]
  ·cases fb
   ·simp at hn
    simp [wP,hn]
   ·unfold wP
    rw [if_pos ⟨rfl,by omega⟩]
    have e2:(iP ⟨hd,md,true,true,ft⟩ a b).drop ((iP ⟨hd,md,true,true,ft⟩ a b).length - 8)=be 8 b:=by
     simp only [iP,if_true]
     rw [List.length_append,bU,Nat.add_sub_cancel,List.drop_left]
    rw [e2,JA b (by omega)]
def pR (b:List UInt8) (k:Int) (A B:Nat) (n:Int):Prop :=
 (n=0∧iT k A B=some b∧A≤uS∧B≤uS∧1≤k∧k≤17)∨(n=70∧k=0∧A=0∧B=0∧∀ (k':Nat) (A' B':Nat),A'≤uS→B'≤uS→iT k' A' B'≠some b)
theorem yK {k:Nat}{f:gW}{A B:Nat}{b:List UInt8} (hf:iw k=some f) (h:iT k A B=some b) (hA:A≤uS) (hB:B≤uS):xN f b=A∧wP f b=B:=by
 simp only [iT,Int.toNat_natCast,hf] at h
 split at h
 ·rename_i hn
  cases h
  exact SK hf hn hA hB
 ·cases h
theorem yg {k:Int}{A B:Nat}{b:List UInt8} (h:iT k A B=some b):∃ f,iw k.toNat=some f∧sG f A B=true∧b=iP f A B:=by
 unfold iT at h
 split at h
 ·cases h
 ·rename_i f hf
  split at h
  ·rename_i hn;cases h;exact⟨f,hf,hn,rfl⟩
  ·cases h
theorem uy {k:Int}{A B:Nat}{b:List UInt8} (h:iT k A B=some b):1≤k∧k≤17:=by
 obtain⟨f,hf,_⟩:=yg h
 have:=qw hf
 omega
def ktag (b:List UInt8):Nat × Nat × Nat:=((b.getD 0 0).toNat,(if (b.getD 0 0).toNat=118 then (b.getD 9 0).toNat else 0),b.length)
theorem Eh {k:Nat}{A B:Nat}{b:List UInt8}{f:gW} (hf:iw k=some f) (h:iT k A B=some b):ktag b=(f.head.toNat,(if f.head.toNat=118 then f.mid.toNat else 0),b.length):=by
 simp only [iT,Int.toNat_natCast,hf] at h
 split at h
 ·cases h
  obtain⟨h1,h2⟩:=qw hf
  have:k=1∨k=2∨k=3∨k=4∨k=5∨k=6∨k=7∨k=8∨k=9∨k=10∨k=11∨k=12∨k=13∨k=14∨k=15∨k=16∨k=17:=by omega
  rcases this with rfl | rfl | rfl | rfl | rfl | rfl | rfl | rfl | rfl | rfl | rfl | rfl | rfl | rfl | rfl | rfl | rfl <;> cases hf <;> simp [ktag,iP,jT,be,ja]
 ·cases h
def vU (k:Nat):Option (Nat × Nat):=(iw k).map fun g=>(g.head.toNat,if g.head.toNat=118 then g.mid.toNat else 0)
theorem L8 {k k':Nat}{f f':gW} (hf:iw k=some f) (hf':iw k'=some f') (h1:f.head.toNat=f'.head.toNat) (h2:(if f.head.toNat=118 then f.mid.toNat else 0)=(if f'.head.toNat=118 then f'.mid.toNat else 0)):k=k':=by
 have r1:=qw hf
 have r2:=qw hf'
 have t:∀ j:Fin 18,∀ j':Fin 18,vU j.1=vU j'.1→vU j.1≠none→j=j':=by decide
 have e1:vU k=some (f.head.toNat,if f.head.toNat=118 then f.mid.toNat else 0):=by simp [vU,hf]
 have e2:vU k'=some (f'.head.toNat,if f'.head.toNat=118 then f'.mid.toNat else 0):=by simp [vU,hf']
 have:=t ⟨k,by omega⟩ ⟨k',by omega⟩ (by rw [e1,e2,h2,h1]) (by rw [e1];simp)
 exact congrArg Fin.val this
theorem EH {k k':Int}{A B A' B':Nat}{b:List UInt8} (h:iT k A B=some b) (h':iT k' A' B'=some b) (hA:A≤uS) (hB:B≤uS) (hA':A'≤uS) (hB':B'≤uS):k=k'∧A=A'∧B=B':=by
 have r:=uy h
 have r':=uy h'
 obtain⟨n,rfl⟩:=Int.eq_ofNat_of_zero_le (a:=k) (by omega)
 obtain⟨n',rfl⟩:=Int.eq_ofNat_of_zero_le (a:=k') (by omega)
 obtain⟨f,hf,_,_⟩:=yg h
 obtain⟨f',hf',_,_⟩:=yg h'
 rw [Int.toNat_natCast] at hf hf'
 have t:=Eh hf h
 have t':=Eh hf' h'
 rw [t] at t'
 simp only [Prod.mk.injEq] at t'
 obtain rfl:=L8 hf hf' t'.1 t'.2.1
 obtain rfl:f=f':=by rw [hf] at hf';exact Option.some.inj hf'
 obtain⟨c1,c2⟩:=yK hf h hA hB
 obtain⟨c3,c4⟩:=yK hf h' hA' hB'
 exact⟨rfl,c1.symm.trans c3,c2.symm.trans c4⟩
theorem pR.same {b:List UInt8}{k k':Int}{A B A' B':Nat}{n n':Int} (h:pR b k A B n) (h':pR b k' A' B' n'):k=k'∧A=A'∧B=B'∧n=n':=by
 rcases h with ⟨rfl,h1,h2,h3,h4,h5⟩ | ⟨rfl,rfl,rfl,rfl,hno⟩ <;> rcases h' with ⟨rfl,h1',h2',h3',h4',h5'⟩ | ⟨rfl,rfl,rfl,rfl,hno'⟩
 ·obtain⟨e1,e2,e3⟩:=EH h1 h1' h2 h3 h2' h3'
  exact⟨e1,e2,e3,rfl⟩
 ·obtain⟨m,rfl⟩:=Int.eq_ofNat_of_zero_le (a:=k) (by omega)
  exact absurd h1 (hno' m A B h2 h3)
 ·obtain⟨m,rfl⟩:=Int.eq_ofNat_of_zero_le (a:=k') (by omega)
  exact absurd h1' (hno m A' B' h2' h3')
 ·exact⟨rfl,rfl,rfl,rfl⟩
end Go.Proofs.YtglkmaalpammcaaGreat
namespace Go.Proofs.YtglkmaalpammcaaGreat
open Go.Gl Go.RowKit
theorem Jj {a b:Nat} (ha:bD a) (hb:bD b):two (qJ a b)=(a,b):=by
 have h:=uq [⟨0,a,[]⟩,⟨0,b,[]⟩] (fun f hf=>by
  rcases List.mem_cons.1 hf with rfl | hf
  ·exact⟨by simp,ha,fun x=>by simp at x,fun x hx=>by cases hx⟩
  ·rcases List.mem_cons.1 hf with rfl | hf
   ·exact⟨by simp,hb,fun x=>by simp at x,fun x hx=>by cases hx⟩
   ·cases hf) (ks:=[0,0]) rfl
 exact Gh h
theorem PW (a b:Nat):(qJ a b).length=16:=by simp [qJ,dC,iO.lay,bU]
theorem PZ {F:List aN}{k v:List UInt8}{e:aN} (h:e∈insL F k v):e∈F∨e=(k,v):=by
 unfold insL at h
 rcases List.mem_append.1 h with h | h
 ·exact .inl (List.mem_filter.1 h).1
 ·rcases List.mem_cons.1 h with h | h
  ·exact .inr h
  ·exact .inl (List.mem_filter.1 h).1
theorem Rk {F:List aN}{k:List UInt8}{e:aN} (h:e∈iC F k):e∈F:=by
 unfold iC at h
 rcases List.mem_append.1 h with h | h <;> exact (List.mem_filter.1 h).1
end Go.Proofs.YtglkmaalpammcaaGreat
namespace Go.Proofs.YtglkmaalpammcaaGreat
open Go.Gl Go.RowKit
theorem IP (ax:Option Addr) (nx cx:Nat) (xs:List UInt8) (w:World) (hx:xs.length=nx) (hnx:nx≤8) (kx:nx=0∨∃ g off,ax=some ⟨g,off,none⟩∧∀ i (hi:i<xs.length),w.cell? ⟨g,off+i,none⟩=some (.int .u8 (xs[i]).toNat)) :
  Calls Tryz.prog 210 #[.slice ax nx cx] w fun e w'=>e = .returned (.int .u64 (num xs))∧w'=w:=by
 have HX:=lh hx
 have KX:=lh kx
 clear hx kx
 go_enter Tryz.func210,Tryz.ntmps210
 go_wp2
 go_loop [3,8] (fun x i=>∃ k:Nat,k≤nx∧i = .int .i64 k∧x = .int .u64 (num (xs.take k))) (fun _ i=>nx - (intOf i).toNat)
 case atStart=>exact⟨0,Nat.zero_le _,rfl,rfl⟩
 case round =>
  obtain⟨k,hk,rfl,rfl⟩:=hrel
  by_cases hlt:k<nx
  ·have lx:k<xs.length:=by rw [HX.out];exact hlt
   obtain⟨g,off,hax,c1⟩:=KX.out.resolve_left (by omega)
   have c2:=c1 k lx
   have hb:=(xs[k]).toNat_lt
   have hb0:(0:Int)≤((xs[k]).toNat:Int):=by omega
   have hn:=zT xs k (by rw [HX.out];exact hnx) lx
   have ht:=lh (Fq xs k lx)
   clear c1 KX
   subst hax
   generalize hz:num (xs.take k)=z at *
   have HZ:=lh hz
   clear hz
   have hz1:((z:Nat):Int)<72057594037927936:=by omega
   go_wp2
   go_round
   case rel =>
    refine⟨k+1,by omega,by go_num,?_⟩
    rw [Bl _ _ (by omega) hz1 hb0 (by omega),ht.out]
    simp
   case measure=>simp [intOf];omega
  ·obtain rfl:k=nx:=by omega
   go_wp2
   go_ret
   refine⟨TV ?_,rfl⟩
   rw [List.take_of_length_le (by rw [HX.out];omega)]
theorem BD {v:Value}{xs:List UInt8}{w:World} (hv:Rd w v xs) (h8:xs.length≤8) :
  Calls Tryz.prog 210 #[v] w fun e w'=>e = .returned (.int .u64 (num xs))∧w'=w:=by
 obtain⟨a,ca,rfl,h1,h2⟩:=Rd.at hv
 exact IP a _ ca xs w rfl h8 h2
end Go.Proofs.YtglkmaalpammcaaGreat
namespace Go.Proofs.YtglkmaalpammcaaGreat
open Go.Gl Go.RowKit
theorem La (p xs ys:List UInt8):aJ (p ++ xs) (p ++ ys)=aJ xs ys:=by
 induction p with
 | nil=>rfl
 | cons c p ih=>simpa [aJ] using ih
theorem QU (n a b:Nat) (ha:a<256 ^ (n+1)) (hb:b<256 ^ (n+1)):a / 256 ^ n<256∧b / 256 ^ n<256:=by
 rw [Nat.pow_succ] at ha hb
 exact⟨Nat.div_lt_of_lt_mul (by rw [Nat.mul_comm];exact ha |> fun h=>by rwa [Nat.mul_comm] at h ⊢),Nat.div_lt_of_lt_mul (by rwa [Nat.mul_comm] at hb ⊢)⟩
theorem Nl (n a:Nat):be n (a % 256 ^ n)=be n a:=by
 have h:=Ho (be n a)
 rw [bU,xh] at h
 exact h
theorem GZ (n a b:Nat) (xs ys:List UInt8) (ha:a<256 ^ n) (hb:b<256 ^ n):aJ (be n a ++ xs) (be n b ++ ys)=if a=b then aJ xs ys else decide (a<b):=by
  induction n generalizing a b with
  | zero =>
    simp at ha hb
    subst ha hb
    simp [be]
  | succ n ih =>
    obtain⟨h1,h2⟩:=QU n a b ha hb
    have hp:0<256 ^ n:=Nat.pow_pos (by decide)
    have da:=Nat.div_add_mod a (256 ^ n)
    have db:=Nat.div_add_mod b (256 ^ n)
    have ma:=Nat.mod_lt a hp
    have mb:=Nat.mod_lt b hp
    simp only [be,List.cons_append,aJ,← UInt8.toNat_inj,UInt8.toNat_ofNat']
    rw [show a / 256 ^ n % 2 ^ 8=a / 256 ^ n from Nat.mod_eq_of_lt h1,show b / 256 ^ n % 2 ^ 8=b / 256 ^ n from Nat.mod_eq_of_lt h2]
    by_cases he:a / 256 ^ n=b / 256 ^ n
    · rw [if_pos he,← Nl n a,← Nl n b,ih _ _ ma mb]
      rw [he] at da
      by_cases hm:a % 256 ^ n=b % 256 ^ n
      · rw [if_pos hm,if_pos (by omega)]
      · rw [if_neg hm,if_neg (by intro h;exact hm (by rw [h]))]
        exact decide_eq_decide.2 (by omega)
    · rw [if_neg he,if_neg (by intro h;exact he (by rw [h]))]
      have key:∀ x y:Nat,x / 256 ^ n<y / 256 ^ n→x<y:=fun x y h=>by
        rcases Nat.lt_or_ge x y with h1 | h1
        · exact h1
        · have:=Nat.div_le_div_right (c:=256 ^ n) h1;omega
      refine decide_eq_decide.2 ⟨fun h=>key a b h,fun h=>?_⟩
      rcases Nat.lt_or_ge (a / 256 ^ n) (b / 256 ^ n) with h3 | h3
      · exact h3
      · exact absurd (key b a (by omega)) (by omega)
end Go.Proofs.YtglkmaalpammcaaGreat

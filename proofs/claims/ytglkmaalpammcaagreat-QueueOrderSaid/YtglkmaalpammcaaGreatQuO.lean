/- gleanlaw12: source, owner, time; a script's entries begin. -/
import Derived.Test.YtglkmaalpammcaaGreatZE
import Derived.Test.YtglkmaalpammcaaGreatQuW
import Derived.Test.YtglkmaalpammcaaGreatQuN
set_option maxHeartbeats 64000000
namespace Go.Proofs.YtglkmaalpammcaaGreat
open Go.Gl Go.RowKit
set_option linter.unusedVariables false
set_option maxRecDepth 100000
theorem us_at {s:bi}{j:Nat}{u:Value} (h:s.us[j]?=some u):s.cells[3+j]?=some u:=by
 match j,h with
 | 0,h=>exact h
 | 1,h=>exact h
 | 2,h=>exact h
 | 3,h=>exact h
 | 4,h=>exact h
 | 5,h=>exact h
 | n+6,h=>simp [bi.us] at h
theorem ms_at {s:bi}{j:Nat}{u:Value} (h:s.ms[j]?=some u):s.cells[9+j]?=some u:=by
 match j,h with
 | 0,h=>exact h
 | 1,h=>exact h
 | 2,h=>exact h
 | 3,h=>exact h
 | 4,h=>exact h
 | 5,h=>exact h
 | 6,h=>exact h
 | n+7,h=>simp [bi.ms] at h
theorem st_at {w:World}{g o:Nat}{s:bi} (hc:∀ j,j<16→w.cell? ⟨g,o+j,none⟩=some (s.cell j)) {j:Nat}{u:Value} (h:s.cells[j]?=some u):w.cell? ⟨g,o+j,none⟩=some u:=by
 have hj:j<16:=by
  rcases Nat.lt_or_ge j 16 with x | x
  ·exact x
  ·rw [List.getElem?_eq_none (by show 16≤j;exact x)] at h;cases h
 rw [hc j hj]
 unfold bi.cell
 rw [List.getD,h]
 rfl
structure oP (w0 w:World) (g o:Nat) (s:bi):Prop where
 ok:bi.Ok w0 s
 c:∀ j u,s.cells[j]?=some u→w.cell? ⟨g,o+j,none⟩=some u
 lt:g<w0.heap.size
theorem oP.keep {w0 w w':World}{g o:Nat}{s:bi} (h:oP w0 w g o s) (m:ae ai w0 w') (m0:ae ai w0 w):oP w0 w' g o s :=
 ⟨h.ok,fun j u hu=>by rw [m.cellAt h.lt (fun x=>x),← m0.cellAt h.lt (fun x=>x)];exact h.c j u hu,h.lt⟩
theorem vw {w0 w:World}{g off n i:Nat}{a:Option Addr}{ss:List bi} (G:n=0∨∃ g off,a=some ⟨g,off,none⟩∧g<w0.heap.size∧∀ i (hi:i<ss.length),(∀ j,j<16→w0.cell? ⟨g,off+i*16+j,none⟩=some (ss[i].cell j))∧bi.Ok w0 ss[i]) (ha:a=some ⟨g,off,none⟩) (m:ae ai w0 w) (hl:ss.length=n) (hi:i<ss.length):oP w0 w g (off+i*16) ss[i]:=by
 obtain⟨g',off',h1,h2,h3,h4,h5⟩:=Gj G m hl hi
 rw [ha] at h1
 cases h1
 exact⟨h5,fun j u hu=>st_at h4 hu,h3⟩
theorem oP.u {w0 w:World}{g o:Nat}{s:bi} (h:oP w0 w g o s):∀ j u,s.us[j]?=some u→w.cell? ⟨g,o+3+j,none⟩=some u:=fun j u hu=>by rw [Nat.add_assoc];exact h.c _ u (us_at hu)
theorem oP.m {w0 w:World}{g o:Nat}{s:bi} (h:oP w0 w g o s):∀ j u,s.ms[j]?=some u→w.cell? ⟨g,o+9+j,none⟩=some u:=fun j u hu=>by rw [Nat.add_assoc];exact h.c _ u (ms_at hu)
section
variable {w0 w:World}{sg n p:Nat}{F:List aN}{Q:Nat→Prop}{s:bi}
theorem f_unb (ok:bi.Ok w0 s) (he:s.ev=true) (hn:n≤1000000) (hp:p≤50000) (g:G1 w0 w (aP sg F n p) Q):Calls Tryz.prog 35 #[.pointer (some ⟨sg,0,none⟩),.agg #[.int .u64 ((s.u0:Nat):Int),.int .u64 ((s.u1:Nat):Int),.int .u64 ((s.u2:Nat):Int),.int .u64 ((s.u3:Nat):Int),.int .u64 ((s.u4:Nat):Int),.int .u64 ((s.u5:Nat):Int)]] w fun r w'=>r = .returned (.int .u64 (((gZ F).2:Nat):Int))∧G1 w0 w' (aP sg (nS F s) (n+7) (p+10)) Q:=by
 have c:=Dc (w:=w) (sg:=sg) (n:=n) (p:=p) (F:=F) (Q:=Q) ok.u (by omega) (by omega)
 rw [← PN F he] at c
 exact (g.calls c).mono fun r w' ⟨a,b,_⟩=>⟨a,b⟩
theorem f_mov (ok:bi.Ok w0 s) (he:s.ev=false) (h30:s.sl.length≤30) (hn:n≤1000000) (hp:p≤50000) (g:G1 w0 w (aP sg F n p) Q):Calls Tryz.prog 36 #[.pointer (some ⟨sg,0,none⟩),.agg #[.int .u64 ((s.m0:Nat):Int),.int .u64 ((s.m1:Nat):Int),.int .u64 ((s.m2:Nat):Int),.int .u64 ((s.m3:Nat):Int),.int .u64 ((s.m4:Nat):Int),.int .u64 ((s.m5:Nat):Int),s.sv]] w fun r w'=>r = .returned (.int .u64 (((gZ F).2:Nat):Int))∧G1 w0 w' (aP sg (nS F s) (n+7) (p+10)) Q:=by
 have q6:s.sl=[]∨∀ k,s.sv.ownBlock=some k→Q k:=by
  rcases Nat.eq_zero_or_pos s.sl.length with h0 | h0
  ·exact .inl (List.eq_nil_of_length_eq_zero h0)
  ·exact .inr (fun k hk=>g.q0 k (bF.ltn ok.r (by omega) k hk))
 have c:=Ld (w:=w) (sg:=sg) (n:=n) (p:=p) (F:=F) (Q:=Q) ok.m ⟨bF.keep ok.r g.mods (fun _ _ x=>x),ok.l,by omega⟩ q6 (by omega) (by omega)
 rw [← OH F he] at c
 exact (g.calls c).mono fun r w' ⟨a,b,_⟩=>⟨a,b⟩
end
def bi.agg (s:bi):Value := .agg #[.int .i64 s.what,.int .i64 s.kind,.int .u64 ((s.n:Nat):Int),.int .u64 ((s.u0:Nat):Int),.int .u64 ((s.u1:Nat):Int),.int .u64 ((s.u2:Nat):Int),.int .u64 ((s.u3:Nat):Int),.int .u64 ((s.u4:Nat):Int),.int .u64 ((s.u5:Nat):Int),.int .u64 ((s.m0:Nat):Int),.int .u64 ((s.m1:Nat):Int),.int .u64 ((s.m2:Nat):Int),.int .u64 ((s.m3:Nat):Int),.int .u64 ((s.m4:Nat):Int),.int .u64 ((s.m5:Nat):Int),s.sv]
theorem yY (z:Int) (h1 : -9223372036854775808≤z) (h2:z≤9223372036854775807):IntKind.i64.wrap (Int.tmod z 2)=Int.tmod z 2:=by
 have h3 : -2<Int.tmod z 2:=by
  have:=Int.lt_tmod_of_pos z (b:=2) (by omega)
  omega
 have h4:Int.tmod z 2<2:=Int.tmod_lt_of_pos z (by omega)
 simp only [IntKind.wrap,IntKind.signed,IntKind.bits]
 simp
 omega
theorem gJ {w0:World}{s:bi} (w:World) (ok:bi.Ok w0 s):Calls Tryz.prog 40 #[s.agg] w fun e w'=>e = .returned (.int .u64 ((s.src:Nat):Int))∧ae ai w w':=by
 obtain⟨a,c,hv,_⟩:=bF.form ok.r
 have t1:=yY _ ok.w1 ok.w2
 have he:s.ev=decide (Int.tmod s.what 2=0):=rfl
 unfold bi.agg bi.src
 rw [he,hv]
 obtain⟨tm,htm⟩:∃ tm,Int.tmod s.what 2=tm:=⟨_,rfl⟩
 rw [htm] at t1 ⊢
 have M:=lh ((ae.refl ai w).alloc (.cells #[.int .i64 s.what,.int .i64 s.kind,.int .u64 ((s.n:Nat):Int),.int .u64 ((s.u0:Nat):Int),.int .u64 ((s.u1:Nat):Int),.int .u64 ((s.u2:Nat):Int),.int .u64 ((s.u3:Nat):Int),.int .u64 ((s.u4:Nat):Int),.int .u64 ((s.u5:Nat):Int),.int .u64 ((s.m0:Nat):Int),.int .u64 ((s.m1:Nat):Int),.int .u64 ((s.m2:Nat):Int),.int .u64 ((s.m3:Nat):Int),.int .u64 ((s.m4:Nat):Int),.int .u64 ((s.m5:Nat):Int),.slice a s.sl.length c] 79))
 clear ok hv he
 by_cases h:tm=0
 ·rw [decide_eq_true h]
  simp only [if_true]
  go_enter Tryz.func40,Tryz.ntmps40
  go_wp2
  go_ret
  exact⟨rfl,M.out⟩
 ·rw [decide_eq_false h]
  simp only [Bool.false_eq_true,if_false]
  go_enter Tryz.func40,Tryz.ntmps40
  go_wp2
  go_ret
  exact⟨rfl,M.out⟩
theorem lQ {w0:World}{s:bi} (w:World) (ok:bi.Ok w0 s):Calls Tryz.prog 41 #[s.agg] w fun e w'=>e = .returned (.int .u64 ((s.own:Nat):Int))∧ae ai w w':=by
 obtain⟨a,c,hv,_⟩:=bF.form ok.r
 have t1:=yY _ ok.w1 ok.w2
 have he:s.ev=decide (Int.tmod s.what 2=0):=rfl
 unfold bi.agg bi.own
 rw [he,hv]
 obtain⟨tm,htm⟩:∃ tm,Int.tmod s.what 2=tm:=⟨_,rfl⟩
 rw [htm] at t1 ⊢
 have M:=lh ((ae.refl ai w).alloc (.cells #[.int .i64 s.what,.int .i64 s.kind,.int .u64 ((s.n:Nat):Int),.int .u64 ((s.u0:Nat):Int),.int .u64 ((s.u1:Nat):Int),.int .u64 ((s.u2:Nat):Int),.int .u64 ((s.u3:Nat):Int),.int .u64 ((s.u4:Nat):Int),.int .u64 ((s.u5:Nat):Int),.int .u64 ((s.m0:Nat):Int),.int .u64 ((s.m1:Nat):Int),.int .u64 ((s.m2:Nat):Int),.int .u64 ((s.m3:Nat):Int),.int .u64 ((s.m4:Nat):Int),.int .u64 ((s.m5:Nat):Int),.slice a s.sl.length c] 79))
 clear ok hv he
 by_cases h:tm=0
 ·rw [decide_eq_true h]
  simp only [if_true]
  go_enter Tryz.func41,Tryz.ntmps41
  go_wp2
  go_ret
  exact⟨rfl,M.out⟩
 ·rw [decide_eq_false h]
  simp only [Bool.false_eq_true,if_false]
  go_enter Tryz.func41,Tryz.ntmps41
  go_wp2
  go_ret
  exact⟨rfl,M.out⟩
theorem zZ {w0 w:World}{g off N ca j:Nat}{s:bi} (st:oP w0 w g (off+j*16) s) (hj:j<N) (hN:N≤1000000) (m0:ae ai w0 w):Calls Tryz.prog 38 #[.slice (some ⟨g,off,none⟩) N ca,.int .u64 (((j+1:Nat):Nat):Int)] w fun e w'=>e = .returned (.int .u64 ((s.due:Nat):Int))∧ae ai w w':=by
 obtain⟨a,c,hv,_⟩:=bF.form st.ok.r
 have t1:=yY _ st.ok.w1 st.ok.w2
 have he:s.ev=decide (Int.tmod s.what 2=0):=rfl
 have X:=lh (show ∀ j' u,([.int .i64 s.what,.int .i64 s.kind,.int .u64 ((s.n:Nat):Int),.int .u64 ((s.u0:Nat):Int),.int .u64 ((s.u1:Nat):Int),.int .u64 ((s.u2:Nat):Int),.int .u64 ((s.u3:Nat):Int),.int .u64 ((s.u4:Nat):Int),.int .u64 ((s.u5:Nat):Int),.int .u64 ((s.m0:Nat):Int),.int .u64 ((s.m1:Nat):Int),.int .u64 ((s.m2:Nat):Int),.int .u64 ((s.m3:Nat):Int),.int .u64 ((s.m4:Nat):Int),.int .u64 ((s.m5:Nat):Int),.slice a s.sl.length c]:List Value)[j']?=some u→w.cell? ⟨g,off+j*16+j',none⟩=some u from fun j' u hu=>st.c j' u (by unfold bi.cells;rw [hv];exact hu))
 have hw:IntKind.u64.wrap (N:Int)=(N:Int):=by simp [IntKind.wrap,IntKind.signed,IntKind.bits];omega
 have i1:¬ ((j+1:Nat):Int)<1:=by omega
 have i2:¬ (N:Int)<((j+1:Nat):Int):=by omega
 unfold bi.due
 rw [he]
 obtain⟨tm,htm⟩:∃ tm,Int.tmod s.what 2=tm:=⟨_,rfl⟩
 rw [htm] at t1 ⊢
 clear st hv he m0
 have KK:=lh (fun (wz:World) (bq:Nat) (hb:wz.heap[bq]?=some (.cells #[.int .i64 s.what,.int .i64 s.kind,.int .u64 ((s.n:Nat):Int),.int .u64 ((s.u0:Nat):Int),.int .u64 ((s.u1:Nat):Int),.int .u64 ((s.u2:Nat):Int),.int .u64 ((s.u3:Nat):Int),.int .u64 ((s.u4:Nat):Int),.int .u64 ((s.u5:Nat):Int),.int .u64 ((s.m0:Nat):Int),.int .u64 ((s.m1:Nat):Int),.int .u64 ((s.m2:Nat):Int),.int .u64 ((s.m3:Nat):Int),.int .u64 ((s.m4:Nat):Int),.int .u64 ((s.m5:Nat):Int),.slice a s.sl.length c] 79 (0,0)))=>show wz.cell? ⟨bq,0,none⟩=some (.int .i64 s.what)∧wz.cell? ⟨bq,6,none⟩=some (.int .u64 ((s.u3:Nat):Int))∧wz.cell? ⟨bq,13,none⟩=some (.int .u64 ((s.m4:Nat):Int)) from⟨af hb 0,af hb 6,af hb 13⟩)
 by_cases h:tm=0
 ·rw [decide_eq_true h]
  simp only [if_true]
  go_enter Tryz.func38,Tryz.ntmps38
  go_upto_region 3 with fail
  refine bK (d := .region 3 (aG 3 Tryz.f38) false) (by kernel_rfl) ?_
  refine RW.wp (qtm3 hj hN X.out ?_)
  intros
  rename_i bq w9 hb9 h9 m9
  obtain⟨k0,k1,k2⟩:=KK.out _ _ h9
  clear h9
  go_wp2
  go_ret
  exact⟨rfl,m9⟩
 ·rw [decide_eq_false h]
  simp only [Bool.false_eq_true,if_false]
  go_enter Tryz.func38,Tryz.ntmps38
  go_upto_region 3 with fail
  refine bK (d := .region 3 (aG 3 Tryz.f38) false) (by kernel_rfl) ?_
  refine RW.wp (qtm3 hj hN X.out ?_)
  intros
  rename_i bq w9 hb9 h9 m9
  obtain⟨k0,k1,k2⟩:=KK.out _ _ h9
  clear h9
  go_wp2
  go_ret
  exact⟨rfl,m9⟩
end Go.Proofs.YtglkmaalpammcaaGreat

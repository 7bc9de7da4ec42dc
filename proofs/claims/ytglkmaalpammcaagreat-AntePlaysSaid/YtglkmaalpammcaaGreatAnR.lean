/- gleanref15.SetParams, Params; gleanref18.Admit. -/
import Derived.Test.YtglkmaalpammcaaGreatAnR0
import Derived.Test.YtglkmaalpammcaaGreatAnLw
import Derived.Test.YtglkmaalpammcaaGreatBkRm
namespace Go.Proofs.YtglkmaalpammcaaGreat
open Go.Gl Go.RowKit
set_option linter.unusedVariables false
set_option maxRecDepth 100000
theorem rpkey_any (w : World) : Calls Tryz.prog 44 #[.int .i64 1, .int .u64 0, .int .u64 0] w fun e w' => ∃ v, e = .returned v ∧ Gl.Own w' v pkey ∧ Mods noB w w' ∧ freshIn w v := rkey_any (kind := 1) (a := 0) (b := 0) w (by unfold U64; omega) (by unfold U64; omega)
theorem prm_none : prmL [] = [0, 0, 0, 0, 0, 0, 0, 0, 0, 0] := by decide
theorem lay_len {F : List Ent} (h : Ris F) (id : Nat) (a : Nat × Nat) : (layF F id a).length ≤ F.length + 1 := by
 unfold layF
 split
 ·have := delL_len h (akey id)
  omega
 ·rw [setFF_lay]
  exact insL_len h _ _
section
variable {w : World} {g n : Nat} {F : List Ent} {Q : Nat → Prop}
set_option maxHeartbeats 2000000 in
theorem rSetP {n0 n1 n2 n3 n4 n5 n6 n7 n8 n9 : Nat} (h : Lim [n0, n1, n2, n3, n4, n5, n6, n7, n8, n9]) (hn : n ≤ 1000000000000) (hF : F.length ≤ 100000) : GS Tryz.prog 14 #[.pointer (some ⟨g, 0, none⟩), .agg #[.int .u64 ((n0 : Nat) : Int), .int .u64 ((n1 : Nat) : Int), .int .u64 ((n2 : Nat) : Int), .int .u64 ((n3 : Nat) : Int), .int .u64 ((n4 : Nat) : Int), .int .u64 ((n5 : Nat) : Int), .int .u64 ((n6 : Nat) : Int), .int .u64 ((n7 : Nat) : Int), .int .u64 ((n8 : Nat) : Int), .int .u64 ((n9 : Nat) : Int)]] w (RFe g F n) Q (.tuple #[]) (RFe g (setFF F pkey (prmLay n0 n1 n2 n3 n4 n5 n6 n7 n8 n9)) (n + 1)) := GS.walk fun S D kv hQ => by
 have P := Lib.hid (put_box w #[.int .u64 ((n0 : Nat) : Int), .int .u64 ((n1 : Nat) : Int), .int .u64 ((n2 : Nat) : Int), .int .u64 ((n3 : Nat) : Int), .int .u64 ((n4 : Nat) : Int), .int .u64 ((n5 : Nat) : Int), .int .u64 ((n6 : Nat) : Int), .int .u64 ((n7 : Nat) : Int), .int .u64 ((n8 : Nat) : Int), .int .u64 ((n9 : Nat) : Int)] 35 _ rfl)
 have G0 := Lib.hid ((GI.start kv).keep0 rfe_f P.out.2.1)
 clear kv
 obtain ⟨w1, hw1⟩ : ∃ w1, w1 = w.alloc (.cells #[.int .u64 ((n0 : Nat) : Int), .int .u64 ((n1 : Nat) : Int), .int .u64 ((n2 : Nat) : Int), .int .u64 ((n3 : Nat) : Int), .int .u64 ((n4 : Nat) : Int), .int .u64 ((n5 : Nat) : Int), .int .u64 ((n6 : Nat) : Int), .int .u64 ((n7 : Nat) : Int), .int .u64 ((n8 : Nat) : Int), .int .u64 ((n9 : Nat) : Int)] 35) := ⟨_, rfl⟩
 have G1 := Lib.hid (show GI w S D w1 (RFe g F n) (fun _ => False) from by rw [hw1]; exact G0.out)
 have hp1 := P.out.1
 rw [← hw1] at hp1
 have HP := Lib.hid hp1
 have HW := Lib.hid hw1
 have C1 := Lib.hid (fun b' (m : Mods noB w1 b') => (rpkey_any b').mono (fun (e : Ending) w' ⟨v, a, o, m', f⟩ => show ∃ v, e = Ending.returned v ∧ (Gl.Own w' v pkey ∧ Mods noB w1 w' ∧ GI w S D w' (RFe g F n) (fun k => False ∨ ofV v k)) from ⟨v, a, o, m.then0 m', (G1.out.keep0 rfe_f m).own rfe_f m' o f⟩))
 have C2 := Lib.hid (fun b' f (hX : Gl.Own b' f pkey ∧ Mods noB w1 b' ∧ GI w S D b' (RFe g F n) (fun k => False ∨ ofV f k)) => (params_rput (w := b') h).mono (fun (e : Ending) w' ⟨v, a, o, m', fr⟩ => show ∃ v, e = Ending.returned v ∧ (Gl.Own w' f pkey ∧ Gl.Own w' v (prmLay n0 n1 n2 n3 n4 n5 n6 n7 n8 n9) ∧ Mods noB w1 w' ∧ GI w S D w' (RFe g F n) (fun k => (False ∨ ofV f k) ∨ ofV v k)) from ⟨v, a, hX.1.keep m' (fun _ _ x => x), o, hX.2.1.then0 m', hX.2.2.own rfe_f m' o fr⟩))
 have C3 := Lib.hid (fun b' f v (hY : Gl.Own b' f pkey ∧ Gl.Own b' v (prmLay n0 n1 n2 n3 n4 n5 n6 n7 n8 n9) ∧ Mods noB w1 b' ∧ GI w S D b' (RFe g F n) (fun k => (False ∨ ofV f k) ∨ ofV v k)) => (hY.2.2.2.calls (re_set hY.1.rd hY.2.1.rd (own_off (fun i hi => .inl (.inr hi))) (own_off (fun i hi => .inr hi)) hn hF)).mono (fun (e : Ending) w' ⟨a, g9, _⟩ => show ∃ r, e = Ending.returned r ∧ LeftB w S D w' (RFe g (setFF F pkey (prmLay n0 n1 n2 n3 n4 n5 n6 n7 n8 n9)) (n + 1)) from ⟨_, a, g9.done⟩))
 clear G0 P hw1 hp1
 go_enter Tryz.func14, Tryz.ntmps14
 go_upto_region 1 with fail
 rw [← HW.out]
 refine wp_tl (d := .region 1 (opsC 1 Tryz.f14) true) (by kernel_rfl) ?_
 refine RW.wp (anrp1 HP.out C1.out C2.out C3.out (fun _ _ h => h.2.1) (fun _ _ _ h => h.2.2.1) ?_)
 intros
 rename_i w9 h9
 have DD := Lib.hid h9
 clear h9 C1 C2 C3
 go_wp2
 go_end0
 exact ⟨rfl, DD.out⟩
set_option maxHeartbeats 4000000 in
theorem rParams (hn : n ≤ 1000000000000) (hv : HV F) : GS Tryz.prog 89 #[.pointer (some ⟨g, 0, none⟩)] w (RFe g F n) Q (prmV (prmF F)) (RFe g F (n + 1)) := GS.walk fun S D kv hQ => by
  have VL := Lib.hid (show ((getL F pkey).getD []).length ≤ 1000000 from by
    cases hg : getL F pkey with
    | none => simp
    | some v => exact hv.2 _ _ hg)
  have P := Lib.hid (put_box w #[.int .u64 0, .int .u64 0, .int .u64 0, .int .u64 0, .int .u64 0, .int .u64 0, .int .u64 0, .int .u64 0, .int .u64 0, .int .u64 0] 35 _ rfl)
  have G0 := Lib.hid ((GI.start kv).grow rfe_f P.out.2.1 (N' := fun k => k = w.heap.size) (fun k hk => .inr ⟨by omega, by have := P.out.2.2; omega⟩))
  have CG := Lib.hid (fun W N (gi : GI w S D W (RFe g F n) N) k (o : Gl.Own W k pkey) (hk : ∀ i, ofV k i → N i) => gi.callo (re_get o.rd (own_off hk) hn (by have := hv.1; omega) (fun v hg => Nat.le_trans (hv.2 _ _ hg) (by omega))))
  obtain ⟨ox, hox⟩ : ∃ ox, getL F pkey = ox := ⟨_, rfl⟩
  unfold prmF
  rw [hox] at VL CG ⊢
  clear kv hv hox
  cases ox with
  | none =>
    simp only [Option.getD_none, Option.isSome_none] at CG VL ⊢
    rw [prm_none]
    go_enter Tryz.func89, Tryz.ntmps89
    go_wp2_with fail
    generalize World.alloc w _ = w1 at *
    refine (rpkey_any w1).mono ?_
    rintro e w2 ⟨k, rfl, o2, m2, f2⟩
    have H2 := Lib.hid (blk_step m2 P.out.1)
    have C := Lib.hid (CG.out _ _ (G0.out.own rfe_f m2 o2 f2) k o2 (fun i hi => .inr hi))
    clear o2 m2 f2 G0 CG
    go_wp2_with fail
    refine C.out.mono ?_
    rintro e w3 ⟨b, rfl, o3, f3, g3, m3⟩
    have H3 := m3.heap H2.out (fun x => x (.inl (.inl rfl)))
    have G3 := Lib.hid g3
    clear C o3 f3 g3 m3 H2
    go_wp2_with (refine wpList_store_blk rfl rfl H3 rfl rfl prm_size rfl rfl ?_; intro w11 q1 q2 q3; have c11 := cells_of q1)
    refine bodyPost_ret (by simp [results, Tryz.results89, go_sem, c11]; try rfl) rfl ?_
    exact ⟨rfl, (G3.out.turn rfe_f q2 (fun k hk => .inl (.inl hk))).done⟩
  | some ov =>
    simp only [Option.getD_some, Option.isSome_some] at CG VL ⊢
    go_enter Tryz.func89, Tryz.ntmps89
    go_wp2_with fail
    generalize World.alloc w _ = w1 at *
    refine (rpkey_any w1).mono ?_
    rintro e w2 ⟨k, rfl, o2, m2, f2⟩
    have H2 := Lib.hid (blk_step m2 P.out.1)
    have C := Lib.hid (CG.out _ _ (G0.out.own rfe_f m2 o2 f2) k o2 (fun i hi => .inr hi))
    clear o2 m2 f2 G0 CG
    go_wp2_with fail
    refine C.out.mono ?_
    rintro e w3 ⟨b, rfl, o3, f3, g3, m3⟩
    have H3 := Lib.hid (m3.heap H2.out (fun x => x (.inl (.inl rfl))))
    have G3 := Lib.hid g3
    have A := Lib.hid (params_ref ⟨o3.rd, o3.lt⟩ VL.out)
    clear C o3 f3 g3 m3 H2
    go_wp2_with fail
    refine A.out.mono ?_
    rintro e w4 ⟨n0, n1, n2, n3, n4, n5, n6, n7, n8, n9, er, rfl, hg, m4⟩
    have G4 := Lib.hid (G3.out.keep0 rfe_f m4)
    have H4 := blk_step m4 H3.out
    have TW := Lib.hid (show prmL ov = [n0, n1, n2, n3, n4, n5, n6, n7, n8, n9] from by unfold prmL; rw [hg]; rfl)
    obtain ⟨w5, hw5⟩ : ∃ w5, w5 = w4.alloc (.cells #[.int .u64 (n0 : Nat), .int .u64 (n1 : Nat), .int .u64 (n2 : Nat), .int .u64 (n3 : Nat), .int .u64 (n4 : Nat), .int .u64 (n5 : Nat), .int .u64 (n6 : Nat), .int .u64 (n7 : Nat), .int .u64 (n8 : Nat), .int .u64 (n9 : Nat)] 35) := ⟨_, rfl⟩
    have m5 : Mods noB w4 w5 := by rw [hw5]; exact (Mods.refl _ _).alloc _
    have H5 := blk_step m5 H4
    have G5 := Lib.hid (G4.out.keep0 rfe_f m5)
    clear A hg m4 G3 H3 H4 G4 m5
    go_wp2_with (rw [← hw5]; refine wpList_store_blk rfl rfl H5 rfl rfl prm_size rfl rfl ?_; intro w11 q1 q2 q3; have c11 := cells_of q1)
    refine bodyPost_ret (by simp [results, Tryz.results89, go_sem, c11]; try rfl) rfl ?_
    exact ⟨by rw [TW.out]; rfl, (G5.out.turn rfe_f q2 (fun k hk => .inl (.inl hk))).done⟩
set_option maxHeartbeats 8000000 in
theorem rAdmit {s q f a b m : Nat} {kd : Int} (hs : U64 s) (hq : U64 q) (hf : U64 f) (hn : n ≤ 1000000000) (hv : HV F) (hr : Ris F) (hl : F.length ≤ 70000) : GS Tryz.prog 18 #[.pointer (some ⟨g, 0, none⟩), .agg #[.int .u64 ((s : Nat) : Int), .int .u64 ((q : Nat) : Int), .int .u64 ((f : Nat) : Int), .int .i64 kd, .int .u64 ((a : Nat) : Int), .int .u64 ((b : Nat) : Int), .int .u64 ((m : Nat) : Int)]] w (RFe g F n) Q (.int .i64 (admE F s q f : Nat)) (RFe g (admF F s q f) (n + 12)) := GS.walk fun S D kv hQ => by
 have b1 := heap_new w (.cells #[.int .u64 ((s : Nat) : Int), .int .u64 ((q : Nat) : Int), .int .u64 ((f : Nat) : Int), .int .i64 kd, .int .u64 ((a : Nat) : Int), .int .u64 ((b : Nat) : Int), .int .u64 ((m : Nat) : Int)] 46)
 have m1 := (Mods.refl noB w).alloc (.cells #[.int .u64 ((s : Nat) : Int), .int .u64 ((q : Nat) : Int), .int .u64 ((f : Nat) : Int), .int .i64 kd, .int .u64 ((a : Nat) : Int), .int .u64 ((b : Nat) : Int), .int .u64 ((m : Nat) : Int)] 46)
 obtain ⟨w1, hw1⟩ : ∃ w1, w1 = w.alloc (.cells #[.int .u64 ((s : Nat) : Int), .int .u64 ((q : Nat) : Int), .int .u64 ((f : Nat) : Int), .int .i64 kd, .int .u64 ((a : Nat) : Int), .int .u64 ((b : Nat) : Int), .int .u64 ((m : Nat) : Int)] 46) := ⟨_, rfl⟩
 rw [← hw1] at b1 m1
 obtain ⟨xt, hxt⟩ : ∃ xt, w.heap.size = xt := ⟨_, rfl⟩
 rw [hxt] at b1
 have G1 := Lib.hid ((GI.start kv).grow rfe_f m1 (N' := fun k => k = xt) (fun k hk => .inr (by
  have := lt_of_heap b1
  omega)))
 have B1 := Lib.hid b1
 have HW := Lib.hid (And.intro hw1 hxt)
 have HU := Lib.hid (And.intro hs (And.intro hq hf))
 have HVV := Lib.hid (And.intro hv (And.intro hr hl))
 obtain ⟨ac, hac⟩ : ∃ ac, acF F s = ac := ⟨_, rfl⟩
 obtain ⟨c, q0⟩ := ac
 have HAC := Lib.hid hac
 clear kv hs hq hf hv hr hl hac b1 m1 hw1 hxt
 by_cases h16 : s < 16
 ·have i1 : (s : Int) < 16 := by omega
  have HE := Lib.hid (show admE F s q f = 180 from by unfold admE; exact if_pos h16)
  have FN := Lib.hid (fun (W : World) (gi : GI w S D W (RFe g F n) (fun k => k = xt)) => show LeftB w S D W (RFe g (admF F s q f) (n + 12)) from by
   unfold admF
   rw [HE.out, if_neg (by omega)]
   obtain ⟨S', D', x, y⟩ := gi.done
   exact ⟨S', D', x.more (by omega), y⟩)
  clear h16
  go_enter Tryz.func18, Tryz.ntmps18
  go_wp2
  go_ret
  rw [HE.out]
  exact ⟨rfl, by rw [← HW.out.1]; exact FN.out _ G1.out⟩
 ·have i1 : ¬ (s : Int) < 16 := by omega
  obtain ⟨n0, n1, n2, n3, n4, n5, n6, n7, n8, n9, hps⟩ := prm_ten ((getL F pkey).getD [])
  have hps : prmF F = [n0, n1, n2, n3, n4, n5, n6, n7, n8, n9] := hps
  have hfe : feeF F = n8 := by unfold feeF; rw [hps]; rfl
  have C1 := Lib.hid ((G1.out.keep0 rfe_f (Mods.refl noB w1).drew).calls (rParams (by omega) HVV.out.1))
  rw [hps] at C1
  have H16 := Lib.hid h16
  have HFE := Lib.hid hfe
  clear hps hfe h16
  go_enter Tryz.func18, Tryz.ntmps18
  go_upto_region 3 with fail
  rw [← HW.out.1, HW.out.2]
  refine wp_tl (d := .region 3 (opsC 3 Tryz.f18) true) (by kernel_rfl) ?_
  refine RW.wp (anra3 (f := f) (n0 := n0) (n1 := n1) (n2 := n2) (n3 := n3) (n4 := n4) (n5 := n5) (n6 := n6) (n7 := n7) (n8 := n8) (n9 := n9) (B := decide (f < n8)) (S := fun W => Mods (fun k => ¬ Out w S (fun k => k = xt) k) w1 W) (X := fun W => GI w S D W (RFe g F (n + 1)) (fun k => k = xt) ∧ Mods (fun k => ¬ Out w S (fun k => k = xt) k) w1 W) (fun b' m => cells_of (m.heap B1.out (fun x => x (.inl rfl))) 2) (Mods.refl _ w1).drew (fun _ h => h.2) (C1.out.mono (fun e w' ⟨x, y, z⟩ => ⟨by rw [x]; rfl, y, ((Mods.refl (fun k => ¬ Out w S (fun k => k = xt) k) w1).drew).trans z (fun _ _ x => x) (fun _ _ x => x)⟩)) (by simp) ?_)
  intros
  rename_i w2 h2
  have G2 := Lib.hid h2.1
  have B2 := Lib.hid (h2.2.heap B1.out (fun x => x (.inl rfl)))
  clear h2 C1 G1 HW
  by_cases hfee : f < n8
  ·rw [decide_eq_true hfee]
   have HE := Lib.hid (show admE F s q f = 181 from by
    unfold admE
    rw [if_neg H16.out, HFE.out]
    exact if_pos hfee)
   have FN := Lib.hid (show LeftB w S D w2 (RFe g (admF F s q f) (n + 12)) from by
    unfold admF
    rw [HE.out, if_neg (by omega)]
    obtain ⟨S', D', x, y⟩ := G2.out.done
    exact ⟨S', D', x.more (by omega), y⟩)
   clear hfee
   go_wp2
   go_ret
   rw [HE.out]
   exact ⟨rfl, FN.out⟩
  ·rw [decide_eq_false hfee]
   have HN := Lib.hid (show ¬ f < feeF F from by rw [HFE.out]; exact hfee)
   have c0 : w2.cell? ⟨xt, 0, none⟩ = some (.int .u64 ((s : Nat) : Int)) := cells_of B2.out 0
   have C2 := Lib.hid (G2.out.calls (rGet (id := s) (n := n + 1) HU.out.1 (by omega) HVV.out.1))
   rw [HAC.out] at C2
   unfold acV at C2
   simp only at C2
   clear hfee
   go_wp2_with fail
   refine C2.out.mono ?_
   rintro e w3 ⟨rfl, g3, m3⟩
   have B3 := Lib.hid (m3.heap B2.out (fun x => x (.inl rfl)))
   obtain ⟨w4, hw4⟩ : ∃ w4, w4 = w3.alloc (.cells #[.int .u64 ((c : Nat) : Int), .int .u64 ((q0 : Nat) : Int)] 59) := ⟨_, rfl⟩
   have m4 : Mods noB w3 w4 := by rw [hw4]; exact (Mods.refl _ _).alloc _
   have G4 := Lib.hid (g3.keep0 rfe_f m4)
   have B4 := Lib.hid (m4.heap B3.out (fun x => x))
   have HW4 := Lib.hid hw4
   have d2 : (w3.alloc (.cells #[.int .u64 ((c : Nat) : Int), .int .u64 ((q0 : Nat) : Int)] 59)).cell? ⟨xt, 2, none⟩ = some (.int .u64 ((f : Nat) : Int)) := by rw [← hw4]; exact cells_of B4.out 2
   have d1 : (w3.alloc (.cells #[.int .u64 ((c : Nat) : Int), .int .u64 ((q0 : Nat) : Int)] 59)).cell? ⟨xt, 1, none⟩ = some (.int .u64 ((q : Nat) : Int)) := by rw [← hw4]; exact cells_of B4.out 1
   have d0 : (w3.alloc (.cells #[.int .u64 ((c : Nat) : Int), .int .u64 ((q0 : Nat) : Int)] 59)).cell? ⟨xt, 0, none⟩ = some (.int .u64 ((s : Nat) : Int)) := by rw [← hw4]; exact cells_of B4.out 0
   clear g3 m3 m4 hw4 C2 c0
   by_cases hc : c < f
   ·have i2 : (c : Int) < (f : Int) := by omega
    have HE := Lib.hid (show admE F s q f = 182 from by
     unfold admE
     rw [if_neg H16.out, if_neg HN.out, HAC.out]
     exact if_pos hc)
    have FN := Lib.hid (show LeftB w S D w4 (RFe g (admF F s q f) (n + 12)) from by
     unfold admF
     rw [HE.out, if_neg (by omega)]
     obtain ⟨S', D', x, y⟩ := G4.out.done
     exact ⟨S', D', x.more (by omega), y⟩)
    clear hc
    go_wp2
    go_ret
    rw [HE.out]
    exact ⟨rfl, by rw [← HW4.out]; exact FN.out⟩
   ·have i2 : ¬ (c : Int) < (f : Int) := by omega
    by_cases hqq : q0 = q
    ·have HE := Lib.hid (show admE F s q f = moveE F s 1 f from by
      unfold admE
      rw [if_neg H16.out, if_neg HN.out, HAC.out, if_neg hc, if_neg (by simp [hqq])])
     have C3 := Lib.hid (G4.out.calls (rMove (a := s) (b := 1) (k := f) (n := n + 1 + 1) HU.out.1 (by unfold U64; omega) HU.out.2.2 (by omega) HVV.out.1 HVV.out.2.1 (by have := HVV.out.2.2; omega)))
     rw [rmove_apart HU.out.1 (by unfold U64; omega) (show s ≠ 1 from fun h => H16.out (by omega))] at C3
     obtain ⟨E, hE⟩ : ∃ E, moveE F s 1 f = E := ⟨_, rfl⟩
     rw [hE] at C3 HE
     have lE : E ≤ 92 := by rw [← hE]; exact moveE_leB ..
     have hEH := Lib.hid hE
     subst hqq
     clear hE hc
     go_wp2_with fail
     rw [← HW4.out]
     refine C3.out.mono ?_
     rintro e w5 ⟨rfl, g5, m5⟩
     have e0 : w5.cell? ⟨xt, 0, none⟩ = some (.int .u64 ((s : Nat) : Int)) := cells_of (m5.heap B4.out (fun x => x (.inl rfl))) 0
     by_cases hE0 : E = 0
     ·obtain rfl : E = 0 := hE0
      have hb : isB s = true := by unfold isB; rw [Bool.or_eq_true]; exact .inr (decide_eq_true (by have := H16.out; omega))
      have hvm : HV (moveF F s 1 f) := by
       unfold moveF
       rw [if_pos ⟨hEH.out, fun h => H16.out (by omega)⟩]
       have h1 := hv_lay HVV.out.1 HVV.out.2.1 (by have := HVV.out.2.2; omega) s ((acF F s).1 - f, (acF F s).2)
       refine hv_lay h1 (layF_ris HVV.out.2.1 _ _) ?_ 1 _
       have := lay_len HVV.out.2.1 s ((acF F s).1 - f, (acF F s).2)
       have := HVV.out.2.2
       omega
      have C4 := Lib.hid (g5.calls (rBump (id := s) HU.out.1 (by omega) hvm))
      clear hb hvm g5 m5 C3 d0 d1 d2
      go_wp2_with fail
      refine C4.out.mono ?_
      rintro e w6 ⟨rfl, g6, m6⟩
      have FN := Lib.hid (show LeftB w S D w6 (RFe g (admF F s q0 f) (n + 12)) from by
       unfold admF
       rw [HE.out, if_pos rfl]
       obtain ⟨S', D', x, y⟩ := g6.done
       exact ⟨S', D', x.more (by omega), y⟩)
      clear g6 m6 C4
      go_wp2
      go_ret
      rw [HE.out]
      exact ⟨rfl, FN.out⟩
     ·have i5 : ¬ (E : Int) = 0 := by omega
      have hF : moveF F s 1 f = F := by unfold moveF; rw [hEH.out, if_neg (fun x => hE0 x.1)]
      rw [hF] at g5
      have FN := Lib.hid (show LeftB w S D w5 (RFe g (admF F s q0 f) (n + 12)) from by
       unfold admF
       rw [HE.out, if_neg hE0]
       obtain ⟨S', D', x, y⟩ := g5.done
       exact ⟨S', D', x.more (by omega), y⟩)
      clear g5 m5 C3 hF d0 d1 d2
      go_wp2
      go_ret
      rw [HE.out]
      exact ⟨rfl, FN.out⟩
    ·have i3 : ¬ (q0 : Int) = (q : Int) := by omega
     have HE := Lib.hid (show admE F s q f = 183 from by
      unfold admE
      rw [if_neg H16.out, if_neg HN.out, HAC.out, if_neg hc]
      exact if_pos hqq)
     have FN := Lib.hid (show LeftB w S D w4 (RFe g (admF F s q f) (n + 12)) from by
      unfold admF
      rw [HE.out, if_neg (by omega)]
      obtain ⟨S', D', x, y⟩ := G4.out.done
      exact ⟨S', D', x.more (by omega), y⟩)
     clear hc hqq
     go_wp2
     go_ret
     rw [HE.out]
     exact ⟨rfl, by rw [← HW4.out]; exact FN.out⟩
end
end Go.Proofs.YtglkmaalpammcaaGreat

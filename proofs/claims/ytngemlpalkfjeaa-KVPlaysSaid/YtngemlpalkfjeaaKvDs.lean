/- gleanlaw6.does: one step on both stores: they answer alike. -/
import Derived.Test.YtngemlpalkfjeaaKvSr
import Derived.Test.YtngemlpalkfjeaaKvDs0
import Derived.Test.YtngemlpalkfjeaaKvDp
import Derived.Test.YtngemlpalkfjeaaHSpoil
import Derived.Test.YtngemlpalkfjeaaPgPl
namespace Go.Proofs.Ytngemlpalkfjeaa
open Go.Gl Go.RowKit
set_option linter.unusedVariables false
set_option maxRecDepth 100000
def BS (sg rg : Nat) (F : List Ent) (Ws : List (List Ent)) (n p : Nat) : FP := Star (KVp sg F Ws n p) (RFp rg F Ws n)
theorem bs_f {sg rg : Nat} {F : List Ent} {Ws : List (List Ent)} {n p : Nat} : Framed (BS sg rg F Ws n p) := kvp_f.star rfp_f
theorem bslen {w0 w : World} {sg rg : Nat} {F F2 : List Ent} {Ws Ws2 : List (List Ent)} {n n2 p : Nat} {Q : Nat → Prop} (h : G1 w0 w (Star (KVp sg F Ws n p) (RFp rg F2 Ws2 n2)) Q) : F.length ≤ p ∧ Ws.length ≤ 16 ∧ ∀ k v, getL F k = some v → v.length ≤ 140737488355328 := by
  obtain ⟨S, D, ⟨S1, D1, S2, D2, kv, _⟩, _⟩ := h
  exact ⟨(KV.len kv).1, (KV.len kv).2, fun k v hg => Nat.le_trans (KV.vlen kv hg) (by omega)⟩
def DsR (w0 w2 : World) (sg rg n p : Nat) (Q : Nat → Prop) (wx : World) : Prop := ∃ F Ws n' p', G1 w0 wx (BS sg rg F Ws n' p') Q ∧ n' ≤ n + 40 ∧ p' ≤ p + 2 ∧ Mods (fun k => ¬ Q k) w2 wx
theorem modsQ {Q : Nat → Prop} {a b c : World} (h : Mods (fun k => ¬ Q k) a b) (k : Mods (fun k => ¬ Q k) b c) : Mods (fun k => ¬ Q k) a c := h.trans k (fun _ _ x => x) (fun _ _ x => x)
theorem modsQ' {Q Q' : Nat → Prop} {a b c : World} (h : Mods (fun k => ¬ Q k) a b) (k : Mods (fun k => ¬ Q' k) b c) (hs : ∀ k, Q k → Q' k) : Mods (fun k => ¬ Q k) a c := h.trans k (fun _ _ x => x) (fun i _ x y => x (hs i y))
theorem mods0Q {Q : Nat → Prop} {a b : World} (h : Mods noB a b) : Mods (fun k => ¬ Q k) a b := h.mono (fun _ _ x => x.elim)
def WX (w0 w2 : World) (sg rg n p : Nat) (F : List Ent) (Ws : List (List Ent)) (Q : Nat → Prop) (P : Ent → Bool) (w' : World) (f : Value) : Prop := ∃ lb, f = .func (.func 73) #[] lb ∧ G1 w0 w' (Star (KVIp sg F Ws n p (F.filter P) lb) (RFp rg F Ws n)) Q ∧ Mods (fun k => ¬ Q k) w2 w'
def WY (w0 w2 : World) (sg rg n p : Nat) (F : List Ent) (Ws : List (List Ent)) (Q : Nat → Prop) (P : Ent → Bool) (N : Nat) (w' : World) (v : Value) : Prop := ∃ M Q3, PRow w' v M ∧ M.map EV.ent = (F.filter P).take N ∧ G1 w0 w' (Star (KVp sg F Ws (n + 1 + min N (F.filter P).length) p) (RFp rg F Ws n)) Q3 ∧ (∀ k, RB6 v M k → Q3 k) ∧ (∀ k, Q k → Q3 k) ∧ Mods (fun k => ¬ Q k) w2 w'
def WU (w0 w2 : World) (sg rg n p : Nat) (F : List Ent) (Ws : List (List Ent)) (Q : Nat → Prop) (P : Ent → Bool) (N : Nat) (w' : World) : Prop := G1 w0 w' (BS sg rg F Ws (n + 1 + min N (F.filter P).length) p) Q ∧ Mods (fun k => ¬ Q k) w2 w'
def WZ (w0 w2 : World) (sg rg n p : Nat) (F : List Ent) (Ws : List (List Ent)) (Q : Nat → Prop) (P : Ent → Bool) (N : Nat) (w' : World) (v v2 : Value) : Prop := ∃ M M2, PRow w' v M ∧ PRow w' v2 M2 ∧ M.map EV.ent = M2.map EV.ent ∧ M.length ≤ 1000000 ∧ WU w0 w2 sg rg n p F Ws Q P N w'
section
variable {w0 w2 : World} {sg rg n p N : Nat} {F : List Ent} {Ws : List (List Ent)} {Q : Nat → Prop} {P : Ent → Bool}
theorem wx_of {b' : World} {f : FuncId} {args : Array Value} (hg : G1 w0 w2 (BS sg rg F Ws n p) Q) (m : Mods noB w2 b')
    (c : GC Try.prog f args b' (KVp sg F Ws n p) Q (fun w' v P' N => ∃ lb, v = .func (.func 73) #[] lb ∧ P' = KVIp sg F Ws n p (F.filter P) lb ∧ ∀ k, ¬ N k)) : Calls Try.prog f args b' fun e w' => ∃ v, e = .returned v ∧ WX w0 w2 sg rg n p F Ws Q P w' v := by
  refine (G1.call (hg.keep0 bs_f m) (GC.frame (P2 := RFp rg F Ws n) c rfp_f)).mono ?_
  rintro e w' ⟨v, P', N, rfl, ⟨P1, rfl, lb, rfl, rfl, hN⟩, g, _, m'⟩
  exact ⟨_, rfl, lb, rfl, g.less (fun k hk => .inl hk) (fun k hk => hg.q0 k hk), modsQ (mods0Q m) m'⟩
theorem wy_of {b' : World} {f : Value} (h : WX w0 w2 sg rg n p F Ws Q P b' f) (hN : 1 ≤ N) (hn : n ≤ 1000000000000) (hp : p ≤ 100000) : Calls Try.prog 24 #[f, .int .i64 (N : Nat)] b' fun e w' => ∃ v, e = .returned v ∧ WY w0 w2 sg rg n p F Ws Q P N w' v := by
  obtain ⟨lb, rfl, g, m⟩ := h
  refine (G1.call g (GC.frame (P2 := RFp rg F Ws n) (gk_taken hN hn hp) rfp_f)).mono ?_
  rintro e w' ⟨v, P', Nn, rfl, ⟨P1, rfl, M, pr, em, rfl, rfl⟩, g', _, m'⟩
  exact ⟨_, rfl, M, _, pr, em, g', fun k hk => .inr hk, fun k hk => .inl hk, modsQ m m'⟩
theorem wz_of {b' : World} {v : Value} {f : FuncId} {args : Array Value} (h : WY w0 w2 sg rg n p F Ws Q P N b' v) (h0 : ∀ k, k < w0.heap.size → Q k)
    (c : ∀ Q3, G1 w0 b' (Star (KVp sg F Ws (n + 1 + min N (F.filter P).length) p) (RFp rg F Ws n)) Q3 → GC Try.prog f args b' (RFp rg F Ws n) Q3 (fun w' v P' Nn => ∃ M, PRow w' v M ∧ M.map EV.ent = (F.filter P).take N ∧ P' = RFp rg F Ws (n + 1 + min N (F.filter P).length) ∧ Nn = ofV v)) (hF : F.length ≤ 1000000) : Calls Try.prog f args b' fun e w' => ∃ v2, e = .returned v2 ∧ WZ w0 w2 sg rg n p F Ws Q P N w' v v2 := by
  obtain ⟨M, Q3, pr, em, g, hq1, hq2, m⟩ := h
  refine (G1.call g (GC.right (P2 := KVp sg F Ws (n + 1 + min N (F.filter P).length) p) (c Q3 g) kvp_f)).mono ?_
  rintro e w' ⟨v2, P', Nn, rfl, ⟨P1, rfl, M2, pr2, em2, rfl, rfl⟩, g', _, m'⟩
  refine ⟨_, rfl, M, M2, pr.keep m' (fun k hk x => x (hq1 k (.inl hk))) (fun k hk x => x (hq1 k (.inr hk))), pr2, by rw [em, em2], ?_, g'.less (fun k hk => .inl (hq2 k hk)) h0, modsQ' m m' hq2⟩
  have h1 := congrArg List.length em
  rw [List.length_map, List.length_take] at h1
  have := List.length_filter_le P F
  omega
theorem wu_of {b' : World} {v v2 : Value} (h : WZ w0 w2 sg rg n p F Ws Q P N b' v v2) : Calls Try.prog 14 #[v, v2] b' fun e w' => e = .returned (.bool true) ∧ WU w0 w2 sg rg n p F Ws Q P N w' := by
  obtain ⟨M, M2, p1, p2, e1, hl, g, m⟩ := h
  exact (Pairs_true p1 p2 e1 hl).mono fun e w' ⟨a, b⟩ => ⟨a, g.keep0 bs_f b, m.then0 b⟩
end
set_option maxHeartbeats 16000000 in
theorem does_any {w0 w : World} {sg rg n p : Nat} {F : List Ent} {Ws : List (List Ent)} {Q : Nat → Prop} {s : KStp} (hg : G1 w0 w (BS sg rg F Ws n p) Q) (h0 : s.At w0) (hk : s.k.length ≤ 8000) (hv : s.v.length ≤ 8000) (hn : n ≤ 1000000) (hp : p ≤ 50000) :
    Calls Try.prog 13 #[.pointer (some ⟨sg, 0, none⟩), .pointer (some ⟨rg, 0, none⟩), .agg #[.int .i64 s.what, .int .i64 s.n, s.kv, s.vv]] w fun e w' => e = .returned (.bool true) ∧ DsR w0 w sg rg n p Q w' := by
  obtain ⟨what, sn, kv, vv, ks, vs⟩ := s
  simp only at hk hv
  obtain ⟨ak, ck, ek, _⟩ := h0.k.form
  obtain ⟨av, cv, ev, _⟩ := h0.v.form
  simp only at ek ev
  subst ek ev
  obtain ⟨z1, z2⟩ := And.intro h0.a1 h0.a2
  obtain ⟨z3, z4⟩ := And.intro h0.n1 h0.n2
  simp only at z1 z2 z3 z4
  have m1 := (Mods.refl noB w).alloc (.cells #[.int .i64 what, .int .i64 sn, .slice ak ks.length ck, .slice av vs.length cv] 34)
  have b1 := heap_new w (.cells #[.int .i64 what, .int .i64 sn, .slice ak ks.length ck, .slice av vs.length cv] 34)
  obtain ⟨w1, hw1⟩ : ∃ w1, w1 = w.alloc (.cells #[.int .i64 what, .int .i64 sn, .slice ak ks.length ck, .slice av vs.length cv] 34) := ⟨_, rfl⟩
  rw [← hw1] at m1 b1
  have M01 := Lib.hid (hg.mods.then0 m1)
  have H0 := Lib.hid h0
  have HB := Lib.hid b1
  have HG := Lib.hid hg
  have M1 := Lib.hid m1
  have CA := Lib.hid (fun b' (m : Mods noB w1 b') => CopyBytes_any ((h0.keep (M01.out.then0 m)).k) (by show ks.length ≤ _; omega))
  have CB := Lib.hid (fun b' (m : Mods noB w1 b') => CopyBytes_any ((h0.keep (M01.out.then0 m)).v) (by show vs.length ≤ _; omega))
  simp only at CA CB
  obtain ⟨xb, hxb⟩ : ∃ xb, xb = w.heap.size := ⟨_, rfl⟩
  have HXB := Lib.hid hxb
  clear h0 hg m1 b1
  go_enter Try.func13, Try.ntmps13
  go_upto_region 1 with fail
  rw [← hw1, ← hxb]
  rw [← hxb] at HB
  clear hw1 hxb
  refine wp_tl (d := .region 1 (opsC 1 Try.f13) true) (by kernel_rfl) ?_
  refine RW.wp (kds1 HB.out CA.out CB.out ?_)
  intros
  rename_i a7 c7 a8 c8 w2 o7 o8 f7 f8 f78 m2
  obtain ⟨Q2, hQ2⟩ : ∃ Q2 : Nat → Prop, Q2 = fun k => Q k ∨ k = xb ∨ ofV (.slice a7 ks.length c7) k ∨ ofV (.slice a8 vs.length c8) k := ⟨_, rfl⟩
  have hq2 : G1 w0 w2 (BS sg rg F Ws n p) Q2 := HG.out.grow bs_f (M1.out.then0 m2) (fun k hk => by
    rw [hQ2] at hk
    have hs := M1.out.size
    have hx : xb < w1.heap.size := lt_of_heap HB.out
    have hs2 := m2.size
    rcases hk with hk | rfl | hk | hk
    · exact .inl hk
    · exact .inr ⟨by rw [HXB.out]; exact Nat.le_refl _, by omega⟩
    · exact .inr ⟨by have := f7 k hk; omega, o7.lt k hk⟩
    · exact .inr ⟨by have := f8 k hk; omega, o8.lt k hk⟩) (fun k hk => by rw [hQ2]; exact .inl (HG.out.q0 k hk))
  have G2 := Lib.hid hq2
  have QB := Lib.hid (show Q2 xb ∧ (∀ k, ofV (.slice a7 ks.length c7) k → Q2 k) ∧ (∀ k, ofV (.slice a8 vs.length c8) k → Q2 k) ∧ (∀ k, Q k → Q2 k) from by rw [hQ2]; exact ⟨.inr (.inl rfl), fun k hk => .inr (.inr (.inl hk)), fun k hk => .inr (.inr (.inr hk)), fun k hk => .inl hk⟩)
  have hT : ¬ (fun k => ¬ Q2 k) xb := fun x => x QB.out.1
  have B2 := Lib.hid (m2.heap HB.out (fun x => x))
  have O2 := Lib.hid (And.intro o7 (And.intro o8 f78))
  have FR := Lib.hid (show (∀ k, ofV (.slice a7 ks.length c7) k → w.heap.size ≤ k) ∧ (∀ k, ofV (.slice a8 vs.length c8) k → w.heap.size ≤ k) from ⟨fun k hk => by have := f7 k hk; have := M1.out.size; omega, fun k hk => by have := f8 k hk; have := M1.out.size; omega⟩)
  have M2 := Lib.hid (M1.out.then0 m2)
  clear o7 o8 f7 f8 f78 m2 hq2 hQ2 CA CB HB M01 M1 HXB
  -- what the step's own bytes read, wherever both stores are
  have RK := Lib.hid (fun W (m : Mods (fun k => ¬ Q2 k) w2 W) => show Rd W (.slice a7 ks.length c7) ks ∧ Rd W (.slice a8 vs.length c8) vs from ⟨(O2.out.1.keep m (fun k hk x => x (QB.out.2.1 k hk))).rd, (O2.out.2.1.keep m (fun k hk x => x (QB.out.2.2.1 k hk))).rd⟩)
  have OK := Lib.hid (show Off (fun k => ¬ Q2 k) (.slice a7 ks.length c7) ks ∧ Off (fun k => ¬ Q2 k) (.slice a8 vs.length c8) vs from ⟨fun _ i hi x => x (QB.out.2.1 i hi), fun _ i hi x => x (QB.out.2.2.1 i hi)⟩)
  have RX := Lib.hid (fun W (m : Mods noB w0 W) => show Rd W (.slice ak ks.length ck) ks ∧ Rd W (.slice av vs.length cv) vs from ⟨(H0.out.keep m).k, (H0.out.keep m).v⟩)
  have OX := Lib.hid (show Off (fun k => ¬ Q2 k) (.slice ak ks.length ck) ks ∧ Off (fun k => ¬ Q2 k) (.slice av vs.length cv) vs from ⟨off_old H0.out.k G2.out.q0, off_old H0.out.v G2.out.q0⟩)
  have GL := Lib.hid (bslen G2.out)
  have hF : F.length ≤ 100000 := by have := GL.out.1; omega
  have DONE := Lib.hid (fun W F' Ws' n' p' (g : G1 w0 W (BS sg rg F' Ws' n' p') Q2) (m : Mods (fun k => ¬ Q2 k) w2 W) (h1 : n' ≤ n + 40) (h2 : p' ≤ p + 2) => show Hid (DsR w0 w2 sg rg n p Q2 W) from Lib.hid ⟨F', Ws', n', p', g, h1, h2, m⟩)
  have SAME := Lib.hid (DONE.out w2 F Ws n p G2.out (Mods.refl _ _) (by omega) (by omega))
  have c0 : w2.cell? ⟨xb, 0, none⟩ = some (.int .i64 what) := cells_of B2.out 0
  go_upto_block 0 with fail
  go_cut [9] (fun x wx => x = .bool true ∧ Hid (DsR w0 w2 sg rg n p Q2 wx))
  case first =>
    by_cases hw : what = 0 ∨ what = 1 ∨ what = 2
    · have C1 := Lib.hid (fun b' (m : Mods noB w2 b') => (G1.calls (G2.out.keep0 bs_f m) (GS.frame (P2 := RFp rg F Ws n) (gk_set (RK.out b' (mods0Q m)).1 (RK.out b' (mods0Q m)).2 OK.out.1 OK.out.2 (by omega) (by omega)) rfp_f)).mono (fun e w' ⟨a, b, c⟩ => And.intro a (And.intro b (modsQ (mods0Q m) c))))
      have C2 := Lib.hid (fun b' (hx : G1 w0 b' (Star (KVp sg (setFF F ks vs) Ws (n + 1) (p + 2)) (RFp rg F Ws n)) Q2 ∧ Mods (fun k => ¬ Q2 k) w2 b') => (G1.calls hx.1 (GS.right (P2 := KVp sg (setFF F ks vs) Ws (n + 1) (p + 2)) (gr_set (RX.out b' hx.1.mods).1 (RX.out b' hx.1.mods).2 OX.out.1 OX.out.2 (by omega) hF) kvp_f)).mono (fun e w' ⟨a, b, c⟩ => And.intro a (And.intro b (modsQ hx.2 c))))
      rcases hw with rfl | rfl | rfl
      all_goals (
        go_upto_region 7 with fail
        refine wp_tl (d := .region 7 (opsC 7 Try.f13) true) (by kernel_rfl) ?_
        refine RW.wp (kds7 B2.out hT C1.out C2.out (fun _ h => h.2) (fun _ h => h.2) ?_)
        intros
        rename_i w9 h9
        have FN := DONE.out _ _ _ _ _ h9.1 h9.2 (by omega) (by omega)
        clear h9 C1 C2 c0 SAME DONE
        go_wp2
        go_meet
        case rel => exact ⟨rfl, FN⟩)
    have hw0 : ¬ what = 0 := fun h => hw (.inl h)
    have hw1 : ¬ what = 1 := fun h => hw (.inr (.inl h))
    have hw2 : ¬ what = 2 := fun h => hw (.inr (.inr h))
    clear hw
    by_cases hw3 : what = 3
    · subst hw3
      have C1 := Lib.hid (fun b' (m : Mods noB w2 b') => (G1.calls (G2.out.keep0 bs_f m) (GS.frame (P2 := RFp rg F Ws n) (gk_del (RK.out b' (mods0Q m)).1 OK.out.1 (by omega) (by omega) (by omega)) rfp_f)).mono (fun e w' ⟨a, b, c⟩ => And.intro a (And.intro b (modsQ (mods0Q m) c))))
      have C2 := Lib.hid (fun b' (hx : G1 w0 b' (Star (KVp sg (delL F ks) Ws (n + 1) (p + 2)) (RFp rg F Ws n)) Q2 ∧ Mods (fun k => ¬ Q2 k) w2 b') => (G1.calls hx.1 (GS.right (P2 := KVp sg (delL F ks) Ws (n + 1) (p + 2)) (gr_del (RX.out b' hx.1.mods).1 OX.out.1 (by omega) hF) kvp_f)).mono (fun e w' ⟨a, b, c⟩ => And.intro a (And.intro b (modsQ hx.2 c))))
      go_upto_region 9 with fail
      refine wp_tl (d := .region 9 (opsC 9 Try.f13) true) (by kernel_rfl) ?_
      refine RW.wp (kds9 B2.out hT C1.out C2.out (fun _ h => h.2) (fun _ h => h.2) ?_)
      intros
      rename_i w9 h9
      have FN := DONE.out _ _ _ _ _ h9.1 h9.2 (by omega) (by omega)
      clear h9 C1 C2 c0 SAME DONE
      go_wp2
      go_meet
      case rel => exact ⟨rfl, FN⟩
    by_cases hw4 : what = 4
    · subst hw4
      obtain ⟨ox, hox⟩ : ∃ ox, getL F ks = ox := ⟨_, rfl⟩
      have C1 := Lib.hid (G1.callo G2.out (GO.frame (P2 := RFp rg F Ws n) (gk_get (RK.out w2 (Mods.refl _ _)).1 OK.out.1 (by omega) (by omega)) rfp_f))
      have GV := GL.out.2.2
      rw [hox] at C1
      have C2 := Lib.hid (fun b' Q3 (g : G1 w0 b' (Star (KVp sg F Ws (n + 1) p) (RFp rg F Ws n)) Q3) => G1.callo g (GO.right (P2 := KVp sg F Ws (n + 1) p) (gr_get (RX.out b' g.mods).1 (off_old H0.out.k g.q0) (by omega) hF (GV ks)) kvp_f))
      rw [hox] at C2
      have HOX := Lib.hid hox
      clear hox GV SAME
      go_wp2_with fail
      refine C1.out.mono ?_
      rintro e w3 ⟨v3, rfl, o3, f3, g3, m3⟩
      have b3 := m3.heap B2.out (fun x => x QB.out.1)
      have d2 : w3.cell? ⟨xb, 2, none⟩ = some (.slice ak ks.length ck) := cells_of b3 2
      have D2 := Lib.hid (C2.out _ _ g3)
      have O3 := Lib.hid (And.intro o3 (And.intro f3 m3))
      obtain ⟨a3, c3, rfl, _⟩ := o3.rd.form
      clear o3 f3 g3 m3 b3 C1 C2 c0
      go_wp2_with fail
      refine D2.out.mono ?_
      rintro e w4 ⟨v4, rfl, o4, f4, g4, m4⟩
      have O4 := Lib.hid (O3.out.1.keep m4 (fun k hk x => x (.inr hk)))
      have PB := Lib.hid (Bytes_any O4.out.rd o4.rd)
      rw [decide_eq_true rfl] at PB
      have G4 := Lib.hid g4
      have M4 := Lib.hid (modsQ' O3.out.2.2 m4 (fun k hk => .inl hk))
      obtain ⟨a4, c4, rfl, _⟩ := o4.rd.form
      have TAIL := Lib.hid (fun w5 (q : Quiet w4 w5) => (Spoil_any (O4.out.keep (q.mods noB) (fun _ _ x => x))).mono (fun e w' ⟨a, b⟩ => And.intro a (DONE.out w' F Ws (n + 1) p ((((G4.out.keep0 bs_f (q.mods noB)).turn bs_f b (fun k hk => ⟨.inl (.inr hk), by have := O3.out.2.1 k hk; have := G2.out.mods.size; omega⟩)).less (fun k hk => .inl (.inl hk)) (fun k hk => G2.out.q0 k hk))) ((M4.out.then0 (q.mods noB)).trans b (fun _ _ x => x) (fun k hk x => by have := O3.out.2.1 k x; omega)) (by omega) (by omega))))
      clear o4 f4 g4 m4 O3 O4 G4 M4 D2 d2 DONE
      cases ox with
      | none =>
        go_wp2_with fail
        refine PB.out.mono ?_
        rintro e w5 ⟨rfl, q5⟩
        have T5 := Lib.hid (TAIL.out w5 q5)
        clear q5 TAIL PB
        go_wp2_with fail
        refine T5.out.mono ?_
        rintro e w6 ⟨rfl, FN⟩
        clear T5
        go_wp2
        go_meet
        case rel => exact ⟨rfl, FN⟩
      | some ov =>
        go_wp2_with fail
        refine PB.out.mono ?_
        rintro e w5 ⟨rfl, q5⟩
        have T5 := Lib.hid (TAIL.out w5 q5)
        clear q5 TAIL PB
        go_wp2_with fail
        refine T5.out.mono ?_
        rintro e w6 ⟨rfl, FN⟩
        clear T5
        go_wp2
        go_meet
        case rel => exact ⟨rfl, FN⟩
    by_cases hw5 : what = 5
    · subst hw5
      obtain ⟨bx, hbx⟩ : ∃ bx, (getL F ks).isSome = bx := ⟨_, rfl⟩
      have d2 : w2.cell? ⟨xb, 2, none⟩ = some (.slice ak ks.length ck) := cells_of B2.out 2
      have C2 := Lib.hid (G1.callo G2.out (GO.right (P2 := KVp sg F Ws n p) (gr_get (RX.out w2 G2.out.mods).1 OX.out.1 (by omega) hF (GL.out.2.2 ks)) kvp_f))
      have C1 := Lib.hid (fun b' Q3 (g : G1 w0 b' (Star (KVp sg F Ws n p) (RFp rg F Ws (n + 1))) Q3) (m : Mods (fun k => ¬ Q2 k) w2 b') (hs : ∀ k, Q2 k → Q3 k) => G1.calls g (GS.frame (P2 := RFp rg F Ws (n + 1)) (gk_has (RK.out b' m).1 (OK.out.1.mono (fun k x y => x (hs k y))) (by omega) (by omega)) rfp_f))
      rw [hbx] at C1 C2
      clear hbx SAME
      go_wp2_with fail
      refine C2.out.mono ?_
      rintro e w3 ⟨v3, rfl, o3, f3, g3, m3⟩
      have D1 := Lib.hid (C1.out _ _ g3 m3 (fun k hk => .inl hk))
      have M3 := Lib.hid m3
      clear o3 f3 g3 m3 C1 C2 c0 d2
      go_wp2_with fail
      refine D1.out.mono ?_
      rintro e w4 ⟨rfl, g4, m4⟩
      have FN := DONE.out w4 F Ws (n + 1) p (g4.less (fun k hk => .inl hk) (fun k hk => G2.out.q0 k hk)) (modsQ' M3.out m4 (fun k hk => .inl hk)) (by omega) (by omega)
      clear g4 m4 D1 M3 DONE
      cases bx with
      | true =>
        go_wp2
        go_meet
        case rel => exact ⟨rfl, FN⟩
      | false =>
        go_wp2
        go_meet
        case rel => exact ⟨rfl, FN⟩
    by_cases hw6 : what = 6
    · subst hw6
      have c1 : w2.cell? ⟨xb, 1, none⟩ = some (.int .i64 sn) := cells_of B2.out 1
      go_wp2_with fail
      refine (PPlace_any sn 30 _ z3 z4 (by omega) (by omega)).mono ?_
      rintro e vv ⟨r, rfl, hr0, hr1, rfl⟩
      obtain ⟨N, hN⟩ : ∃ N : Nat, 1 + r = (N : Int) := ⟨(1 + r).toNat, by omega⟩
      have hN1 : 1 ≤ N := by omega
      have hN2 : N ≤ 30 := by omega
      have C1 := Lib.hid (fun b' (m : Mods noB w2 b') => wx_of G2.out m (gk_walk (RK.out b' (mods0Q m)).1 (RK.out b' (mods0Q m)).2 (by omega) (by omega) (by omega)))
      have C2 := Lib.hid (fun b' f (h : WX w0 w2 sg rg n p F Ws Q2 (btw ks vs) b' f) => wy_of h hN1 (by omega) (by omega))
      have C3 := Lib.hid (fun b' v (h : WY w0 w2 sg rg n p F Ws Q2 (btw ks vs) N b' v) => wz_of h G2.out.q0 (fun Q3 g => gr_walk (RX.out b' g.mods).1 (RX.out b' g.mods).2 (off_old H0.out.k g.q0) (off_old H0.out.v g.q0) (by omega) hF (by omega)) (by omega))
      have C4 := Lib.hid (fun b' v v2 (h : WZ w0 w2 sg rg n p F Ws Q2 (btw ks vs) N b' v v2) => wu_of h)
      clear c1 SAME
      go_upto_region 20 with fail
      refine wp_tl (d := .region 20 (opsC 20 Try.f13) true) (by kernel_rfl) ?_
      refine RW.wp (kds20 B2.out hT C1.out C2.out C3.out C4.out (fun _ _ ⟨_, _, _, h⟩ => h) (fun _ _ ⟨_, _, _, _, _, _, _, h⟩ => h) (fun _ _ _ ⟨_, _, _, _, _, _, _, h⟩ => h) (fun _ h => h.2) ?_)
      intros
      rename_i w9 h9
      have FN := DONE.out w9 F Ws _ p h9.1 h9.2 (by have := Nat.min_le_left N (F.filter (btw ks vs)).length; omega) (by omega)
      clear h9 C1 C2 C3 C4 c0 DONE
      go_wp2
      go_meet
      case rel => exact ⟨rfl, FN⟩
    by_cases hw7 : what = 7
    · subst hw7
      have c1 : w2.cell? ⟨xb, 1, none⟩ = some (.int .i64 sn) := cells_of B2.out 1
      go_wp2_with fail
      refine (PPlace_any sn 30 _ z3 z4 (by omega) (by omega)).mono ?_
      rintro e vv ⟨r, rfl, hr0, hr1, rfl⟩
      obtain ⟨N, hN⟩ : ∃ N : Nat, 1 + r = (N : Int) := ⟨(1 + r).toNat, by omega⟩
      have hN1 : 1 ≤ N := by omega
      have hN2 : N ≤ 30 := by omega
      have C1 := Lib.hid (fun b' (m : Mods noB w2 b') => wx_of G2.out m (gk_prefix (RK.out b' (mods0Q m)).1 (by omega) (by omega)))
      have C2 := Lib.hid (fun b' f (h : WX w0 w2 sg rg n p F Ws Q2 (fun e => beginsB ks e.1) b' f) => wy_of h hN1 (by omega) (by omega))
      have C3 := Lib.hid (fun b' v (h : WY w0 w2 sg rg n p F Ws Q2 (fun e => beginsB ks e.1) N b' v) => wz_of h G2.out.q0 (fun Q3 g => gr_prefix (RX.out b' g.mods).1 (off_old H0.out.k g.q0) (by omega) hF (by omega)) (by omega))
      have C4 := Lib.hid (fun b' v v2 (h : WZ w0 w2 sg rg n p F Ws Q2 (fun e => beginsB ks e.1) N b' v v2) => wu_of h)
      clear c1 SAME
      go_upto_region 23 with fail
      refine wp_tl (d := .region 23 (opsC 23 Try.f13) true) (by kernel_rfl) ?_
      refine RW.wp (kds23 B2.out hT C1.out C2.out C3.out C4.out (fun _ _ ⟨_, _, _, h⟩ => h) (fun _ _ ⟨_, _, _, _, _, _, _, h⟩ => h) (fun _ _ _ ⟨_, _, _, _, _, _, _, h⟩ => h) (fun _ h => h.2) ?_)
      intros
      rename_i w9 h9
      have FN := DONE.out w9 F Ws _ p h9.1 h9.2 (by have := Nat.min_le_left N (F.filter (fun e => beginsB ks e.1)).length; omega) (by omega)
      clear h9 C1 C2 C3 C4 c0 DONE
      go_wp2
      go_meet
      case rel => exact ⟨rfl, FN⟩
    by_cases hw8 : what = 8
    · subst hw8
      have C1 := Lib.hid (G1.calls G2.out (GS.frame (P2 := RFp rg F Ws n) (CC.gs cc_begin) rfp_f))
      go_wp2_with fail
      refine C1.out.mono ?_
      rintro e w3 ⟨rfl, g3, m3⟩
      have C2 := Lib.hid (G1.calls g3 (GS.right (P2 := KVp sg F (bgW F Ws) n p) gr_begin kvp_f))
      have M3 := Lib.hid m3
      clear g3 m3 C1 c0 SAME
      go_wp2_with fail
      refine C2.out.mono ?_
      rintro e w4 ⟨rfl, g4, m4⟩
      have FN := DONE.out w4 _ _ _ _ g4 (modsQ M3.out m4) (by omega) (by omega)
      clear g4 m4 C2 M3 DONE
      generalize bgE Ws = E
      go_wp2
      go_meet
      case rel => exact ⟨by simp, FN⟩
    by_cases hw9 : what = 9
    · subst hw9
      have C1 := Lib.hid (G1.calls G2.out (GS.frame (P2 := RFp rg F Ws n) (CC.gs (cc_commit (by omega))) rfp_f))
      go_wp2_with fail
      refine C1.out.mono ?_
      rintro e w3 ⟨rfl, g3, m3⟩
      have C2 := Lib.hid (G1.calls g3 (GS.right (P2 := KVp sg F Ws.tail n p) (gr_commit (by have := GL.out.2.1; omega)) kvp_f))
      have M3 := Lib.hid m3
      clear g3 m3 C1 c0 SAME
      go_wp2_with fail
      refine C2.out.mono ?_
      rintro e w4 ⟨rfl, g4, m4⟩
      have FN := DONE.out w4 _ _ _ _ g4 (modsQ M3.out m4) (by omega) (by omega)
      clear g4 m4 C2 M3 DONE
      generalize enE Ws = E
      go_wp2
      go_meet
      case rel => exact ⟨by simp, FN⟩
    by_cases hw10 : what = 10
    · subst hw10
      have C1 := Lib.hid (G1.calls G2.out (GS.frame (P2 := RFp rg F Ws n) (CC.gs (cc_rollback (by omega))) rfp_f))
      go_wp2_with fail
      refine C1.out.mono ?_
      rintro e w3 ⟨rfl, g3, m3⟩
      have C2 := Lib.hid (G1.calls g3 (GS.right (P2 := KVp sg (Ws.headD F) Ws.tail n p) (gr_rollback (by have := GL.out.2.1; omega)) kvp_f))
      have M3 := Lib.hid m3
      clear g3 m3 C1 c0 SAME
      go_wp2_with fail
      refine C2.out.mono ?_
      rintro e w4 ⟨rfl, g4, m4⟩
      have FN := DONE.out w4 _ _ _ _ g4 (modsQ M3.out m4) (by omega) (by omega)
      clear g4 m4 C2 M3 DONE
      generalize enE Ws = E
      go_wp2
      go_meet
      case rel => exact ⟨by simp, FN⟩
    clear DONE c0
    go_wp2
    go_meet
    case rel => exact ⟨rfl, SAME⟩
  case rest =>
    obtain ⟨rfl, hD⟩ := hcut
    clear DONE SAME c0 RX
    obtain ⟨F', Ws', n', p', g, h1, h2, m⟩ := hD.out
    have b3 := m.heap B2.out (fun x => x QB.out.1)
    have d2 : wc.cell? ⟨xb, 2, none⟩ = some (.slice ak ks.length ck) := cells_of b3 2
    have HB3 := Lib.hid b3
    have G3 := Lib.hid g
    have M3 := Lib.hid m
    have O7 := Lib.hid (O2.out.1.keep m (fun k hk x => x (QB.out.2.1 k hk)))
    have O8 := Lib.hid (O2.out.2.1.keep m (fun k hk x => x (QB.out.2.2.1 k hk)))
    have F78 := Lib.hid O2.out.2.2
    have PB := Lib.hid (Bytes_any O7.out.rd (H0.out.keep g.mods).k)
    have PB2 := Lib.hid (fun W (q : Quiet wc W) => Bytes_any (O8.out.keep (q.mods noB) (fun _ _ x => x)).rd (H0.out.keep (g.mods.then0 (q.mods noB))).v)
    simp only [decide_true] at PB PB2
    have HH := Lib.hid (And.intro h1 h2)
    clear hD g h1 h2 m b3 O2 RK
    go_wp2_with fail
    refine PB.out.mono ?_
    rintro e w3 ⟨rfl, q3⟩
    have b4 := (q3.mods noB).heap HB3.out (fun x => x)
    have d3 : w3.cell? ⟨xb, 3, none⟩ = some (.slice av vs.length cv) := cells_of b4 3
    have PB3 := Lib.hid (PB2.out w3 q3)
    have Q3 := Lib.hid q3
    clear q3 b4 d2 PB PB2
    go_wp2_with fail
    refine PB3.out.mono ?_
    rintro e w4 ⟨rfl, q4⟩
    have m4 := (Q3.out.mods noB).then0 (q4.mods noB)
    have G4 := Lib.hid (G3.out.keep0 bs_f m4)
    have O7' := Lib.hid (O7.out.keep m4 (fun _ _ x => x))
    have O8' := Lib.hid (O8.out.keep m4 (fun _ _ x => x))
    have M4 := Lib.hid (M3.out.then0 m4)
    have SP := Lib.hid (Spoil_any O7'.out)
    clear q4 m4 d3 PB3 Q3 G3 O7 O8 M3 HB3
    go_wp2_with fail
    refine SP.out.mono ?_
    rintro e w5 ⟨rfl, m5⟩
    have hq7 : ∀ k, ofV (.slice a7 ks.length c7) k → Q2 k ∧ w0.heap.size ≤ k := fun k hk => ⟨QB.out.2.1 k hk, by have := FR.out.1 k hk; have := HG.out.mods.size; omega⟩
    have hq8 : ∀ k, ofV (.slice a8 vs.length c8) k → Q2 k ∧ w0.heap.size ≤ k := fun k hk => ⟨QB.out.2.2.1 k hk, by have := FR.out.2 k hk; have := HG.out.mods.size; omega⟩
    have G5 := Lib.hid (G4.out.turn bs_f m5 hq7)
    have SP2 := Lib.hid (Spoil_any (O8'.out.keep m5 (fun k hk x => F78.out k x hk)))
    have M5 := Lib.hid (show Mods (fun k => ¬ Q k) w w5 from ((mods0Q M2.out).trans M4.out (fun _ _ x => x) (fun k _ x y => x (QB.out.2.2.2 k y))).trans m5 (fun _ _ x => x) (fun k hk x => by have := FR.out.1 k x; omega))
    have H8 := Lib.hid hq8
    clear m5 hq7 hq8 SP G4 O7' O8' M4
    go_wp2_with fail
    refine SP2.out.mono ?_
    rintro e w6 ⟨rfl, m6⟩
    have FIN := Lib.hid (show DsR w0 w sg rg n p Q w6 from ⟨F', Ws', n', p', (G5.out.turn bs_f m6 H8.out).less QB.out.2.2.2 (fun k hk => HG.out.q0 k hk), HH.out.1, HH.out.2, M5.out.trans m6 (fun _ _ x => x) (fun k hk x => by have := FR.out.2 k x; omega)⟩)
    clear m6 SP2 G5 M5 H8
    go_wp2
    go_ret
    exact ⟨rfl, FIN.out⟩
end Go.Proofs.Ytngemlpalkfjeaa

/- gleanref9: May, Move. -/
import Derived.Test.YtglkmaalpammcaaGreatBkR
import Derived.Test.YtglkmaalpammcaaGreatBkLw
namespace Go.Proofs.YtglkmaalpammcaaGreat
open Go.Gl Go.RowKit
set_option linter.unusedVariables false
set_option maxRecDepth 100000
def rmoveF (F : List Ent) (a b n : Nat) : List Ent := if moveE F a b n = 0 then layF (layF F a ((acF F a).1 - n, (acF F a).2)) b (((acF (layF F a ((acF F a).1 - n, (acF F a).2)) b).1 + n) % 18446744073709551616, (acF (layF F a ((acF F a).1 - n, (acF F a).2)) b).2) else F
theorem rmove_apart {F : List Ent} {a b n : Nat} (ha : U64 a) (hb : U64 b) (hab : a ≠ b) : rmoveF F a b n = moveF F a b n := by
 unfold rmoveF moveF
 by_cases h : moveE F a b n = 0
 ·obtain ⟨h1, h2, h3, h4⟩ := moveE_zero h
  have l := acF_lt F a
  rw [if_pos h, if_pos ⟨h, hab⟩, ac_lay F (a := ((acF F a).1 - n, (acF F a).2)) ha hb (show (acF F a).1 - n ≤ 18446744073709551615 by have : (acF F a).1 ≤ 18446744073709551615 := l.1; omega) l.2, if_neg hab, Nat.mod_eq_of_lt (by have := h4 hab; omega)]
 ·rw [if_neg h, if_neg (fun x => h x.1)]
section
variable {w : World} {g n : Nat} {F : List Ent} {Q : Nat → Prop}
set_option maxHeartbeats 4000000 in
theorem rMay {a b k : Nat} (ha : U64 a) (hb : U64 b) (hk : U64 k) (hn : n ≤ 100000000000) (hv : HV F) : GS Tryz.prog 92 #[.pointer (some ⟨g, 0, none⟩), .int .u64 (a : Nat), .int .u64 (b : Nat), .int .u64 (k : Nat)] w (RFe g F n) Q (.int .i64 (moveE F a b k : Nat)) (RFe g F (n + 2)) := GS.walk fun S D kv hQ => by
  have hfd : ∀ (w : World) (u v : Value), (Instr.field 59 (.agg #[u, v]) 0).run Tryz.prog w = .ok u w := fun _ _ _ => by kernel_rfl
  have G0 := Lib.hid (GI.start kv)
  have IA := Lib.hid (fun W => ris_any W ha)
  have IB := Lib.hid (fun W => ris_any W hb)
  have C1 := Lib.hid (G0.out.calls (rGet (id := a) (n := n) ha (by omega) hv))
  have C2 := Lib.hid (fun W (g' : GI w S D W (RFe g F (n + 1)) (fun _ => False)) => g'.calls (rGet (id := b) (n := n + 1) hb (by omega) hv))
  have DONE := Lib.hid (fun W m (g' : GI w S D W (RFe g F m) (fun _ => False)) (h1 : m ≤ n + 2) => show LeftB w S D W (RFe g F (n + 2)) from by
    obtain ⟨S', D', a, b⟩ := g'.done
    exact ⟨S', D', a.more h1, b⟩)
  obtain ⟨BA, hBA⟩ : ∃ B, isB a = B := ⟨_, rfl⟩
  obtain ⟨BB, hBB⟩ : ∃ B, isB b = B := ⟨_, rfl⟩
  obtain ⟨l1, l2⟩ := acF_lt F a
  obtain ⟨l3, l4⟩ := acF_lt F b
  unfold moveE
  rw [hBA] at IA
  rw [hBB] at IB
  rw [hBA, hBB]
  unfold acV at C1 C2
  generalize acF F a = aa at *
  generalize acF F b = bb at *
  obtain ⟨c1, q1⟩ := aa
  obtain ⟨c2, q2⟩ := bb
  simp only at l1 l2 l3 l4 C1 C2 ⊢
  have MU := Lib.hid (fun W => rover_any W l3 hk)
  clear kv
  cases BA with
  | false =>
    simp only [true_or, if_true]
    have DD := Lib.hid (DONE.out _ _ G0.out (by omega))
    clear C1 C2 G0 DONE ha hb hk l1 l2 l3 l4 MU
    go_enter Tryz.func92, Tryz.ntmps92
    go_wp2_with fail
    refine (IA.out _).mono ?_
    rintro e w1 ⟨rfl, rfl⟩
    go_wp2
    go_ret
    exact ⟨rfl, DD.out⟩
  | true =>
  cases BB with
  | false =>
    simp only [or_true, if_true]
    have DD := Lib.hid (DONE.out _ _ G0.out (by omega))
    clear C1 C2 G0 DONE ha hb hk l1 l2 l3 l4 MU
    go_enter Tryz.func92, Tryz.ntmps92
    go_wp2_with fail
    refine (IA.out _).mono ?_
    rintro e w1 ⟨rfl, rfl⟩
    go_wp2_with fail
    refine (IB.out _).mono ?_
    rintro e w1 ⟨rfl, rfl⟩
    go_wp2
    go_ret
    exact ⟨rfl, DD.out⟩
  | true =>
  simp only [Bool.true_eq_false, or_self, if_false]
  by_cases h1 : c1 < k
  · have i1 : (c1 : Int) < (k : Int) := by omega
    rw [if_pos h1]
    clear G0 ha hb hk l1 l2 l3 l4 h1 MU
    go_enter Tryz.func92, Tryz.ntmps92
    go_wp2_with fail
    refine (IA.out _).mono ?_
    rintro e w1 ⟨rfl, rfl⟩
    go_wp2_with fail
    refine (IB.out _).mono ?_
    rintro e w1 ⟨rfl, rfl⟩
    go_wp2_with fail
    refine C1.out.mono ?_
    rintro e w2 ⟨rfl, g2, m2⟩
    have DD := Lib.hid (DONE.out _ _ g2 (by omega))
    clear g2 m2 C1 C2
    go_wp2
    go_ret
    exact ⟨rfl, DD.out⟩
  have i1 : ¬ (c1 : Int) < (k : Int) := by omega
  rw [if_neg h1]
  by_cases h2 : a = b
  · subst h2
    rw [if_pos rfl]
    clear G0 ha hb hk l1 l2 l3 l4 h1 MU
    go_enter Tryz.func92, Tryz.ntmps92
    go_wp2_with fail
    refine (IA.out _).mono ?_
    rintro e w1 ⟨rfl, rfl⟩
    go_wp2_with fail
    refine (IB.out _).mono ?_
    rintro e w1 ⟨rfl, rfl⟩
    go_wp2_with fail
    refine C1.out.mono ?_
    rintro e w2 ⟨rfl, g2, m2⟩
    have DD := Lib.hid (DONE.out _ _ g2 (by omega))
    clear g2 m2 C1 C2
    go_wp2
    go_ret
    exact ⟨rfl, DD.out⟩
  have i2 : ¬ (a : Int) = (b : Int) := by omega
  rw [if_neg h2]
  obtain ⟨b2, hb2⟩ : ∃ b2, muchB c2 k = b2 := ⟨_, rfl⟩
  rw [hb2] at MU ⊢
  clear G0 ha hb hk l1 l2 l3 l4 h1 h2 hb2
  cases b2 with
  | true =>
    simp only [if_true]
    go_enter Tryz.func92, Tryz.ntmps92
    go_wp2_with fail
    refine (IA.out _).mono ?_
    rintro e w1 ⟨rfl, rfl⟩
    go_wp2_with fail
    refine (IB.out _).mono ?_
    rintro e w1 ⟨rfl, rfl⟩
    go_wp2_with fail
    refine C1.out.mono ?_
    rintro e w2 ⟨rfl, g2, m2⟩
    have C3 := Lib.hid (C2.out _ g2)
    clear g2 m2 C1 C2
    go_wp2_with fail
    refine C3.out.mono ?_
    rintro e w3 ⟨rfl, g3, m3⟩
    have DD := Lib.hid (DONE.out _ _ g3 (by omega))
    clear g3 m3 C3
    go_wp2_with fail
    refine (MU.out _).mono ?_
    rintro e w4 ⟨rfl, rfl⟩
    go_wp2
    go_ret
    exact ⟨rfl, DD.out⟩
  | false =>
    simp only [Bool.false_eq_true, if_false]
    go_enter Tryz.func92, Tryz.ntmps92
    go_wp2_with fail
    refine (IA.out _).mono ?_
    rintro e w1 ⟨rfl, rfl⟩
    go_wp2_with fail
    refine (IB.out _).mono ?_
    rintro e w1 ⟨rfl, rfl⟩
    go_wp2_with fail
    refine C1.out.mono ?_
    rintro e w2 ⟨rfl, g2, m2⟩
    have C3 := Lib.hid (C2.out _ g2)
    clear g2 m2 C1 C2
    go_wp2_with fail
    refine C3.out.mono ?_
    rintro e w3 ⟨rfl, g3, m3⟩
    have DD := Lib.hid (DONE.out _ _ g3 (by omega))
    clear g3 m3 C3
    go_wp2_with fail
    refine (MU.out _).mono ?_
    rintro e w4 ⟨rfl, rfl⟩
    go_wp2
    go_ret
    exact ⟨rfl, DD.out⟩
set_option maxHeartbeats 4000000 in
theorem rMove {a b k : Nat} (ha : U64 a) (hb : U64 b) (hk : U64 k) (hn : n ≤ 10000000000) (hv : HV F) (hr : Ris F) (hl : F.length ≤ 80000) : GS Tryz.prog 23 #[.pointer (some ⟨g, 0, none⟩), .int .u64 (a : Nat), .int .u64 (b : Nat), .int .u64 (k : Nat)] w (RFe g F n) Q (.int .i64 (moveE F a b k : Nat)) (RFe g (rmoveF F a b k) (n + 6)) := GS.walk fun S D kv hQ => by
 have G0 := Lib.hid (GI.start kv)
 have CM := Lib.hid (G0.out.calls (rMay (a := a) (b := b) (k := k) (n := n) ha hb hk (by omega) hv))
 obtain ⟨E, hE⟩ : ∃ E, moveE F a b k = E := ⟨_, rfl⟩
 unfold rmoveF
 rw [hE] at CM ⊢
 by_cases hE0 : E = 0
 ·obtain rfl : E = 0 := hE0
  rw [if_pos rfl]
  obtain ⟨_, _, h3, _⟩ := moveE_zero hE
  obtain ⟨l1, l2⟩ := acF_lt F a
  have C1 := Lib.hid (fun W (g' : GI w S D W (RFe g F (n + 2)) (fun _ => False)) => g'.calls (rGet (id := a) (n := n + 2) ha (by omega) hv))
  unfold acV at C1
  generalize hac : acF F a = ac at *
  obtain ⟨c, q⟩ := ac
  simp only at l1 l2 h3 C1 ⊢
  obtain ⟨t, ht⟩ : ∃ t, c - k = t := ⟨_, rfl⟩
  have t1 : (c : Int) - (k : Int) = (t : Int) := by omega
  have hu : U64 t := by unfold U64 at *; omega
  rw [ht]
  obtain ⟨F1, hF1⟩ : ∃ F1, layF F a (t, q) = F1 := ⟨_, rfl⟩
  have C2 := Lib.hid (fun W (g' : GI w S D W (RFe g F (n + 3)) (fun _ => False)) => g'.calls (rLay (id := a) (a := (t, q)) (n := n + 3) ha hu l2 (by omega) hv))
  rw [hF1] at C2 ⊢
  have hv1 : HV F1 := by rw [← hF1]; exact hv_lay hv hr hl a (t, q)
  have C3 := Lib.hid (fun W (g' : GI w S D W (RFe g F1 (n + 4)) (fun _ => False)) => g'.calls (rGet (id := b) (n := n + 4) hb (by omega) hv1))
  obtain ⟨l3, l4⟩ := acF_lt F1 b
  unfold acV at C2 C3
  generalize hac2 : acF F1 b = ac2 at *
  obtain ⟨c2, q2⟩ := ac2
  simp only at l3 l4 C3 ⊢
  obtain ⟨t2, ht2⟩ : ∃ t2, (c2 + k) % 18446744073709551616 = t2 := ⟨_, rfl⟩
  have t3 : IntKind.u64.wrap ((c2 : Int) + (k : Int)) = (t2 : Int) := by rw [wrap_u64]; omega
  have hu2 : U64 t2 := by unfold U64; omega
  rw [ht2]
  have C4 := Lib.hid (fun W (g' : GI w S D W (RFe g F1 (n + 5)) (fun _ => False)) => g'.calls (rLay (id := b) (a := (t2, q2)) (n := n + 5) hb hu2 l4 (by omega) hv1))
  unfold acV at C4
  have i0 : (t : Int) ≤ 18446744073709551615 := by unfold U64 at hu; omega
  clear kv G0 hE hac hF1 hac2 ht ht2 hv1 l1 l2 l3 l4 h3 hu hu2 ha hb hk
  go_enter Tryz.func23, Tryz.ntmps23
  go_wp2_with fail
  refine CM.out.mono ?_
  rintro e w1 ⟨rfl, g1, m1⟩
  have D1 := Lib.hid (C1.out _ g1)
  clear g1 m1 CM C1
  go_wp2_with fail
  refine D1.out.mono ?_
  rintro e w2 ⟨rfl, g2, m2⟩
  have G2 := Lib.hid (fun o => g2.keep0 rfe_f ((Mods.refl noB w2).alloc o))
  clear g2 m2 D1
  go_wp2_with fail
  refine (C2.out _ (G2.out _)).mono ?_
  rintro e w3 ⟨rfl, g3, m3⟩
  have D3 := Lib.hid (C3.out _ g3)
  clear g3 m3 C2 C3 G2
  go_wp2_with fail
  refine D3.out.mono ?_
  rintro e w4 ⟨rfl, g4, m4⟩
  have G4 := Lib.hid (fun o => g4.keep0 rfe_f ((Mods.refl noB w4).alloc o))
  clear g4 m4 D3
  go_wp2_with fail
  refine (C4.out _ (G4.out _)).mono ?_
  rintro e w5 ⟨rfl, g5, m5⟩
  have DD := Lib.hid g5.done
  clear g5 m5 C4 G4
  go_wp2
  go_ret
  exact ⟨rfl, DD.out⟩
 ·have i1 : ¬ (E : Int) = 0 := by omega
  rw [if_neg hE0]
  clear kv G0 hE
  go_enter Tryz.func23, Tryz.ntmps23
  go_wp2_with fail
  refine CM.out.mono ?_
  rintro e w1 ⟨rfl, g1, m1⟩
  have DD := Lib.hid (show LeftB w S D w1 (RFe g F (n + 6)) from by
   obtain ⟨S', D', a, b⟩ := g1.done
   exact ⟨S', D', a.more (by omega), b⟩)
  clear g1 m1 CM
  go_wp2
  go_ret
  exact ⟨rfl, DD.out⟩
end
end Go.Proofs.YtglkmaalpammcaaGreat

/- bank: Mint, Move, Bump, as calls on a store. -/
import Derived.Test.YtglkmaalpammcaaGreatBkG
namespace Go.Proofs.YtglkmaalpammcaaGreat
open Go.Gl Go.RowKit
set_option linter.unusedVariables false
set_option maxRecDepth 100000
theorem acF_lt (F : List Ent) (id : Nat) : U64 (acF F id).1 ∧ U64 (acF F id).2 := two_lt _
theorem wrap_u64 (x : Int) : IntKind.u64.wrap x = x % 18446744073709551616 := by
 simp [IntKind.wrap, IntKind.signed, IntKind.bits]
section
variable {w : World} {sg n p : Nat} {F : List Ent} {Q : Nat → Prop}
set_option maxHeartbeats 2000000 in
theorem bMint {id k : Nat} (h : U64 id) (hk : U64 k) (hn : n ≤ 100000000000) (hp : p ≤ 90000) : GS Tryz.prog 15 #[.pointer (some ⟨sg, 0, none⟩), .int .u64 (id : Nat), .int .u64 (k : Nat)] w (KVe sg F n p) Q (.int .i64 (mintE F id k : Nat)) (KVe sg (mintF F id k) (n + 2) (p + 2)) := GS.walk fun S D kv hQ => by
  have G0 := Lib.hid (GI.start kv)
  have IS := Lib.hid (fun W => bis_any W h)
  have C := Lib.hid (G0.out.calls (bGet (id := id) (n := n) (p := p) h (by omega) (by omega)))
  obtain ⟨B, hB⟩ : ∃ B, isB id = B := ⟨_, rfl⟩
  obtain ⟨l1, l2⟩ := acF_lt F id
  unfold mintF
  unfold mintE
  rw [hB] at IS ⊢
  have HU := Lib.hid (And.intro h hk)
  cases B with
  | false =>
    simp only [if_true]
    have DD := Lib.hid (show LeftB w S D w (KVe sg F (n + 2) (p + 2)) from by
      obtain ⟨S', D', a, b⟩ := G0.out.done
      exact ⟨S', D', a.more (by omega) (by omega), b⟩)
    clear kv G0 C h hk l1 l2
    go_enter Tryz.func15, Tryz.ntmps15
    go_wp2_with fail
    refine (IS.out _).mono ?_
    rintro e w1 ⟨rfl, rfl⟩
    go_wp2
    go_ret
    exact ⟨rfl, DD.out⟩
  | true =>
    simp only [Bool.true_eq_false, if_false]
    unfold acV at C
    generalize acF F id = ac at *
    obtain ⟨c, q⟩ := ac
    simp only at l1 l2 C ⊢
    obtain ⟨b2, hb2⟩ : ∃ b2, muchB c k = b2 := ⟨_, rfl⟩
    have MU := Lib.hid (fun W => bmuch_any W l1 hk)
    rw [hb2] at MU ⊢
    clear kv G0
    cases b2 with
    | true =>
      simp only [if_true]
      rw [if_neg (by omega)]
      clear h hk l1 l2 hb2
      go_enter Tryz.func15, Tryz.ntmps15
      go_wp2_with fail
      refine (IS.out _).mono ?_
      rintro e w1 ⟨rfl, rfl⟩
      go_wp2_with fail
      refine C.out.mono ?_
      rintro e w2 ⟨rfl, g2, m2⟩
      have G2 := Lib.hid (g2.keep0 kve_f ((Mods.refl noB w2).alloc (.cells #[.int .u64 (c : Nat), .int .u64 (q : Nat)] 59)))
      clear g2 m2 C
      go_wp2_with fail
      refine (MU.out _).mono ?_
      rintro e w3 ⟨rfl, rfl⟩
      have DD := Lib.hid (show LeftB w S D _ (KVe sg F (n + 2) (p + 2)) from by
        obtain ⟨S', D', a, b⟩ := G2.out.done
        exact ⟨S', D', a.more (by omega) (by omega), b⟩)
      go_wp2
      go_ret
      exact ⟨rfl, DD.out⟩
    | false =>
      simp only [Bool.false_eq_true, if_false, if_true]
      have hle : c + k ≤ 1000000000000000000 := by unfold muchB at hb2; exact Nat.le_of_not_lt (of_decide_eq_false hb2)
      obtain ⟨t, ht⟩ : ∃ t, c + k = t := ⟨_, rfl⟩
      have htI : (c : Int) + (k : Int) = (t : Int) := by omega
      rw [ht] at hle ⊢
      have hu : U64 t := by unfold U64; omega
      have L := Lib.hid (fun W (g : GI w S D W (KVe sg F (n + 1) p) (fun _ => False)) => g.calls (bLay (id := id) (a := (t, q)) h hu l2 (by omega) (by omega)))
      unfold acV at L
      have i0 : (t : Int) ≤ 18446744073709551615 := by omega
      clear h hk l1 l2 hb2 ht hu hle
      go_enter Tryz.func15, Tryz.ntmps15
      go_wp2_with fail
      refine (IS.out _).mono ?_
      rintro e w1 ⟨rfl, rfl⟩
      go_wp2_with fail
      refine C.out.mono ?_
      rintro e w2 ⟨rfl, g2, m2⟩
      have G2 := Lib.hid (fun o => g2.keep0 kve_f ((Mods.refl noB w2).alloc o))
      clear g2 m2 C
      go_wp2_with fail
      refine (MU.out _).mono ?_
      rintro e w3 ⟨rfl, rfl⟩
      go_wp2_with fail
      refine (L.out _ (G2.out _)).mono ?_
      rintro e w4 ⟨rfl, g4, m4⟩
      have DD := Lib.hid g4.done
      clear g4 m4 L G2
      go_wp2
      go_ret
      exact ⟨rfl, DD.out⟩
set_option maxHeartbeats 2000000 in
theorem bBump {id : Nat} (h : U64 id) (hn : n ≤ 100000000000) (hp : p ≤ 90000) : GS Tryz.prog 24 #[.pointer (some ⟨sg, 0, none⟩), .int .u64 (id : Nat)] w (KVe sg F n p) Q (.int .i64 (bumpE id : Nat)) (KVe sg (bumpF F id) (n + 2) (p + 2)) := GS.walk fun S D kv hQ => by
  have G0 := Lib.hid (GI.start kv)
  have IS := Lib.hid (fun W => bis_any W h)
  have C := Lib.hid (G0.out.calls (bGet (id := id) (n := n) (p := p) h (by omega) (by omega)))
  obtain ⟨B, hB⟩ : ∃ B, isB id = B := ⟨_, rfl⟩
  obtain ⟨l1, l2⟩ := acF_lt F id
  unfold bumpF
  unfold bumpE
  rw [hB] at IS ⊢
  cases B with
  | false =>
    simp only [if_true]
    have DD := Lib.hid (show LeftB w S D w (KVe sg F (n + 2) (p + 2)) from by
      obtain ⟨S', D', a, b⟩ := G0.out.done
      exact ⟨S', D', a.more (by omega) (by omega), b⟩)
    clear kv G0 C h l1 l2
    go_enter Tryz.func24, Tryz.ntmps24
    go_wp2_with fail
    refine (IS.out _).mono ?_
    rintro e w1 ⟨rfl, rfl⟩
    go_wp2
    go_ret
    exact ⟨rfl, DD.out⟩
  | true =>
    simp only [Bool.true_eq_false, if_false]
    unfold acV at C
    generalize acF F id = ac at *
    obtain ⟨c, q⟩ := ac
    simp only at l1 l2 C ⊢
    clear kv G0
    obtain ⟨t, ht⟩ : ∃ t, (q + 1) % 18446744073709551616 = t := ⟨_, rfl⟩
    have htI : IntKind.u64.wrap ((q : Int) + 1) = (t : Int) := by rw [wrap_u64]; omega
    have hu : U64 t := by unfold U64; omega
    rw [ht]
    have L := Lib.hid (fun W (g : GI w S D W (KVe sg F (n + 1) p) (fun _ => False)) => g.calls (bLay (id := id) (a := (c, t)) h l1 hu (by omega) (by omega)))
    unfold acV at L
    clear h l1 l2 ht hu
    go_enter Tryz.func24, Tryz.ntmps24
    go_wp2_with fail
    refine (IS.out _).mono ?_
    rintro e w1 ⟨rfl, rfl⟩
    go_wp2_with fail
    refine C.out.mono ?_
    rintro e w2 ⟨rfl, g2, m2⟩
    have G2 := Lib.hid (fun o => g2.keep0 kve_f ((Mods.refl noB w2).alloc o))
    clear g2 m2 C
    go_wp2_with fail
    refine (L.out _ (G2.out _)).mono ?_
    rintro e w4 ⟨rfl, g4, m4⟩
    have DD := Lib.hid g4.done
    clear g4 m4 L G2
    go_wp2
    go_ret
    exact ⟨rfl, DD.out⟩
set_option maxHeartbeats 4000000 in
theorem bMove {a b k : Nat} (ha : U64 a) (hb : U64 b) (hk : U64 k) (hn : n ≤ 100000000000) (hp : p ≤ 90000) : GS Tryz.prog 22 #[.pointer (some ⟨sg, 0, none⟩), .int .u64 (a : Nat), .int .u64 (b : Nat), .int .u64 (k : Nat)] w (KVe sg F n p) Q (.int .i64 (moveE F a b k : Nat)) (KVe sg (moveF F a b k) (n + 4) (p + 4)) := GS.walk fun S D kv hQ => by
  have G0 := Lib.hid (GI.start kv)
  have IA := Lib.hid (fun W => bis_any W ha)
  have IB := Lib.hid (fun W => bis_any W hb)
  have C1 := Lib.hid (G0.out.calls (bGet (id := a) (n := n) (p := p) ha (by omega) (by omega)))
  have C2 := Lib.hid (fun W (g : GI w S D W (KVe sg F (n + 1) p) (fun _ => False)) => g.calls (bGet (id := b) (n := n + 1) (p := p) hb (by omega) (by omega)))
  have DONE := Lib.hid (fun W m r (g : GI w S D W (KVe sg F m r) (fun _ => False)) (h1 : m ≤ n + 4) (h2 : r ≤ p + 4) => show LeftB w S D W (KVe sg F (n + 4) (p + 4)) from by
    obtain ⟨S', D', a, b⟩ := g.done
    exact ⟨S', D', a.more h1 h2, b⟩)
  obtain ⟨BA, hBA⟩ : ∃ B, isB a = B := ⟨_, rfl⟩
  obtain ⟨BB, hBB⟩ : ∃ B, isB b = B := ⟨_, rfl⟩
  obtain ⟨l1, l2⟩ := acF_lt F a
  obtain ⟨l3, l4⟩ := acF_lt F b
  unfold moveF
  unfold moveE
  rw [hBA] at IA
  rw [hBB] at IB
  rw [hBA, hBB]
  unfold acV at C1 C2
  generalize acF F a = aa at *
  generalize acF F b = bb at *
  obtain ⟨c1, q1⟩ := aa
  obtain ⟨c2, q2⟩ := bb
  simp only at l1 l2 l3 l4 C1 C2 ⊢
  clear kv
  cases BA with
  | false =>
    simp only [true_or, if_true]
    rw [if_neg (by omega)]
    have DD := Lib.hid (DONE.out _ _ _ G0.out (by omega) (by omega))
    clear C1 C2 G0 DONE ha hb hk l1 l2 l3 l4
    go_enter Tryz.func22, Tryz.ntmps22
    go_wp2_with fail
    refine (IA.out _).mono ?_
    rintro e w1 ⟨rfl, rfl⟩
    go_wp2
    go_ret
    exact ⟨rfl, DD.out⟩
  | true =>
  cases BB with
  | false =>
    simp only [or_true, if_true]
    rw [if_neg (by omega)]
    have DD := Lib.hid (DONE.out _ _ _ G0.out (by omega) (by omega))
    clear C1 C2 G0 DONE ha hb hk l1 l2 l3 l4
    go_enter Tryz.func22, Tryz.ntmps22
    go_wp2_with fail
    refine (IA.out _).mono ?_
    rintro e w1 ⟨rfl, rfl⟩
    go_wp2_with fail
    refine (IB.out _).mono ?_
    rintro e w1 ⟨rfl, rfl⟩
    go_wp2
    go_ret
    exact ⟨rfl, DD.out⟩
  | true =>
  simp only [Bool.true_eq_false, or_self, if_false]
  by_cases h1 : c1 < k
  · have i1 : (c1 : Int) < (k : Int) := by omega
    rw [if_pos h1, if_neg (by omega)]
    clear G0 ha hb hk l1 l2 l3 l4 h1
    go_enter Tryz.func22, Tryz.ntmps22
    go_wp2_with fail
    refine (IA.out _).mono ?_
    rintro e w1 ⟨rfl, rfl⟩
    go_wp2_with fail
    refine (IB.out _).mono ?_
    rintro e w1 ⟨rfl, rfl⟩
    go_wp2_with fail
    refine C1.out.mono ?_
    rintro e w2 ⟨rfl, g2, m2⟩
    have C3 := Lib.hid (C2.out _ g2)
    clear g2 m2 C1 C2
    go_wp2_with fail
    refine C3.out.mono ?_
    rintro e w3 ⟨rfl, g3, m3⟩
    have DD := Lib.hid (fun o o' => DONE.out _ _ _ ((g3.keep0 kve_f ((Mods.refl noB w3).alloc o)).keep0 kve_f ((Mods.refl noB _).alloc o')) (by omega) (by omega))
    clear g3 m3 C3 DONE
    go_wp2
    go_ret
    exact ⟨rfl, DD.out _ _⟩
  have i1 : ¬ (c1 : Int) < (k : Int) := by omega
  rw [if_neg h1]
  by_cases h2 : a = b
  · subst h2
    rw [if_pos rfl, if_neg (by simp)]
    clear G0 ha hb hk l1 l2 l3 l4 h1
    go_enter Tryz.func22, Tryz.ntmps22
    go_wp2_with fail
    refine (IA.out _).mono ?_
    rintro e w1 ⟨rfl, rfl⟩
    go_wp2_with fail
    refine (IB.out _).mono ?_
    rintro e w1 ⟨rfl, rfl⟩
    go_wp2_with fail
    refine C1.out.mono ?_
    rintro e w2 ⟨rfl, g2, m2⟩
    have C3 := Lib.hid (C2.out _ g2)
    clear g2 m2 C1 C2
    go_wp2_with fail
    refine C3.out.mono ?_
    rintro e w3 ⟨rfl, g3, m3⟩
    have DD := Lib.hid (fun o o' => DONE.out _ _ _ ((g3.keep0 kve_f ((Mods.refl noB w3).alloc o)).keep0 kve_f ((Mods.refl noB _).alloc o')) (by omega) (by omega))
    clear g3 m3 C3 DONE
    go_wp2
    go_ret
    exact ⟨rfl, DD.out _ _⟩
  have i2 : ¬ (a : Int) = (b : Int) := by omega
  rw [if_neg h2]
  obtain ⟨b2, hb2⟩ : ∃ b2, muchB c2 k = b2 := ⟨_, rfl⟩
  have MU := Lib.hid (fun W => bmuch_any W l3 hk)
  rw [hb2] at MU ⊢
  cases b2 with
  | true =>
    simp only [if_true]
    rw [if_neg (by omega)]
    clear G0 ha hb hk l1 l2 l3 l4 h1 h2 hb2
    go_enter Tryz.func22, Tryz.ntmps22
    go_wp2_with fail
    refine (IA.out _).mono ?_
    rintro e w1 ⟨rfl, rfl⟩
    go_wp2_with fail
    refine (IB.out _).mono ?_
    rintro e w1 ⟨rfl, rfl⟩
    go_wp2_with fail
    refine C1.out.mono ?_
    rintro e w2 ⟨rfl, g2, m2⟩
    have C3 := Lib.hid (C2.out _ g2)
    clear g2 m2 C1 C2
    go_wp2_with fail
    refine C3.out.mono ?_
    rintro e w3 ⟨rfl, g3, m3⟩
    have DD := Lib.hid (fun o o' => DONE.out _ _ _ ((g3.keep0 kve_f ((Mods.refl noB w3).alloc o)).keep0 kve_f ((Mods.refl noB _).alloc o')) (by omega) (by omega))
    clear g3 m3 C3 DONE
    go_wp2_with fail
    refine (MU.out _).mono ?_
    rintro e w4 ⟨rfl, rfl⟩
    go_wp2
    go_ret
    exact ⟨rfl, DD.out _ _⟩
  | false =>
    simp only [Bool.false_eq_true, if_false]
    rw [if_pos ⟨trivial, h2⟩]
    have hle : c2 + k ≤ 1000000000000000000 := by unfold muchB at hb2; exact Nat.le_of_not_lt (of_decide_eq_false hb2)
    obtain ⟨t, ht⟩ : ∃ t, c2 + k = t := ⟨_, rfl⟩
    obtain ⟨r, hr⟩ : ∃ r, c1 - k = r := ⟨_, rfl⟩
    have htI : (c2 : Int) + (k : Int) = (t : Int) := by omega
    have hrI : (c1 : Int) - (k : Int) = (r : Int) := by omega
    rw [ht] at hle ⊢
    rw [hr]
    have hu : U64 t := by unfold U64; omega
    have hv : U64 r := by unfold U64 at *; omega
    have i3 : (t : Int) ≤ 18446744073709551615 := by omega
    have i4 : (r : Int) ≤ 18446744073709551615 := by unfold U64 at hv; omega
    have L1 := Lib.hid (fun W N (g : GI w S D W (KVe sg F (n + 2) p) N) => g.calls (bLay (id := a) (a := (r, q1)) ha hv l2 (by omega) (by omega)))
    have L2 := Lib.hid (fun W N (g : GI w S D W (KVe sg (layF F a (r, q1)) (n + 3) (p + 2)) N) => g.calls (bLay (id := b) (a := (t, q2)) hb hu l4 (by omega) (by omega)))
    unfold acV at L1 L2
    clear G0 ha hb hk l1 l2 l3 l4 h1 h2 hb2 ht hu hle hv hr DONE
    go_enter Tryz.func22, Tryz.ntmps22
    go_wp2_with fail
    refine (IA.out _).mono ?_
    rintro e w1 ⟨rfl, rfl⟩
    go_wp2_with fail
    refine (IB.out _).mono ?_
    rintro e w1 ⟨rfl, rfl⟩
    go_wp2_with fail
    refine C1.out.mono ?_
    rintro e w2 ⟨rfl, g2, m2⟩
    have C3 := Lib.hid (C2.out _ g2)
    clear g2 m2 C1 C2
    go_wp2_with fail
    refine C3.out.mono ?_
    rintro e w3 ⟨rfl, g3, m3⟩
    have G3 := Lib.hid g3
    clear g3 m3 C3
    go_wp2_with fail
    refine (MU.out _).mono ?_
    rintro e w4 ⟨rfl, rfl⟩
    obtain ⟨W1, hW1⟩ : ∃ W1, W1 = (w3.alloc (.cells #[.int .u64 (r : Nat), .int .u64 (q1 : Nat)] 59)).alloc (.cells #[.int .u64 (t : Nat), .int .u64 (q2 : Nat)] 59) := ⟨_, rfl⟩
    have mW : Mods noB w3 W1 := by rw [hW1]; exact ((Mods.refl noB w3).alloc _).alloc _
    have bW : W1.heap[w3.heap.size + 1]? = some (.cells #[.int .u64 (t : Nat), .int .u64 (q2 : Nat)] 59 (0, 0)) := by
      rw [hW1]
      have := heap_new (w3.alloc (.cells #[.int .u64 (r : Nat), .int .u64 (q1 : Nat)] 59)) (.cells #[.int .u64 (t : Nat), .int .u64 (q2 : Nat)] 59)
      rwa [World.size_alloc] at this
    have GW := Lib.hid (G3.out.grow kve_f mW (N' := fun k => k = w3.heap.size + 1) (fun k hk => .inr ⟨by omega, by rw [hk]; exact lt_of_heap bW⟩))
    have BW := Lib.hid bW
    clear mW bW G3
    go_wp2_with fail
    rw [← hW1]
    refine (L1.out _ _ GW.out).mono ?_
    rintro e w5 ⟨rfl, g5, m5⟩
    have b5 := m5.heap BW.out (fun x => x (.inl rfl))
    have b50 := cells_of b5 0
    have b51 := cells_of b5 1
    have L3 := Lib.hid (L2.out _ _ g5)
    clear g5 m5 L1 L2 GW BW hW1 b5
    go_wp2_with fail
    refine L3.out.mono ?_
    rintro e w6 ⟨rfl, g6, m6⟩
    have DD := Lib.hid g6.done
    clear g6 m6 L3 b50 b51
    go_wp2
    go_ret
    exact ⟨rfl, DD.out⟩
end
end Go.Proofs.YtglkmaalpammcaaGreat

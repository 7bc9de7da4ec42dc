/- BankPlays: P9.1, P9.2: every script: answers, and all that lies in the store. -/
import Derived.Test.YtglkmaalpammcaaGreatBkPl0
import Derived.Test.YtglkmaalpammcaaGreatBkLs
import Derived.Test.YtglkmaalpammcaaGreatBkArg
import Derived.Test.YtglkmaalpammcaaGreatZB
import Derived.Deep.CutBlock
import Derived.Deep.DeepCutAuto
namespace Go.Proofs.YtglkmaalpammcaaGreat
open Go.Gl Go.RowKit
set_option linter.unusedVariables false
set_option maxRecDepth 100000
theorem be_new {w0 w1 w2 : World} {sg k : Nat} {S D : Nat → Prop} (m0 : Mods noB w0 w1) (kv : KV w1 sg [] [] 0 0 S D) (hs : ∀ k, S k → w0.heap.size ≤ k) (hd : ∀ k, ¬ D k) (m : Mods noB w1 w2) (hk : w2.heap[k]? = some (.cells #[.slice none 0 0, .slice none 0 0, .int .i64 0] 32 (0, 0))) (hk1 : w1.heap.size ≤ k) : G1 w0 w2 (Star (KVe sg [] 0 0) (RFe k [] 0)) (fun k => k < w0.heap.size) := by
 have l := kv.lt
 have s0 := m0.size
 have s1 := m.size
 have hrs : ∀ j, RS6 k (.slice none 0 0) j → j = k := fun j hj => hj.elim id (fun x => by simp [Value.ownBlock] at x)
 have hmd : ∀ j, ¬ RD6 (.slice none 0 0) [] [] j := fun j hj => by
  rcases hj with (hj | ⟨e, he, _⟩) | ⟨q, hq, _⟩
  ·simp [Value.ownBlock] at hj
  ·exact List.not_mem_nil he
  ·exact List.not_mem_nil hq
 exact ⟨_, _, ⟨S, D, _, _, ⟨0, 0, Nat.le_refl _, Nat.le_refl _, kv.keep0 m⟩, ⟨0, Nat.le_refl _, rf_new hk⟩, fun j x y => by have := l.1 j x; have := hrs j y; omega, fun j x => (hd j x).elim, fun j x => (hmd j x).elim, fun _ => Iff.rfl, fun _ => Iff.rfl⟩, fun j hj => ⟨fun x => x.elim (fun y => by have := hs j y; omega) (fun y => by have := hrs j y; omega), fun x => x.elim (hd j) (hmd j), by omega⟩, fun j hj => hj, m0.then0 m⟩
theorem acc_hv {F : List Ent} (h : AccOk F) (hl : F.length ≤ 80000) : HV F := ⟨by omega, fun k v hg => by
 obtain ⟨id, c, s, _, _, _, _, _, e⟩ := h.all _ ((getL_filter F k h.ris).2 v hg)
 have := (Prod.mk.inj e).2
 rw [this, lay2_len]
 omega⟩
theorem acc_vals {F : List Ent} (h : AccOk F) : ∀ e ∈ F, e.2.length ≤ 1000000 := fun e he => by
 obtain ⟨id, c, s, _, _, _, _, _, rfl⟩ := h.all e he
 show (lay2 c s).length ≤ _
 rw [lay2_len]
 omega
section
variable {w w0 : World} {sg rg n p n2 p2 m a b k : Nat} {F C : List Ent} {Q : Nat → Prop}
theorem be_more (g : G1 w0 w (Star (KVe sg F n p) (RFe rg C m)) Q) (h1 : n ≤ n2) (h2 : p ≤ p2) (h3 : m ≤ n2) : G1 w0 w (Star (KVe sg F n2 p2) (RFe rg C n2)) Q := g.mono fun S D ⟨S1, D1, S2, D2, x, y, r⟩ => ⟨S1, D1, S2, D2, x.more h1 h2, y.more h3, r⟩
theorem be_dump (g : G1 w0 w (Star (KVe sg F n p) (RFe rg C m)) Q) (hp : p ≤ 100000) : Calls Tryz.prog 20 #[.pointer (some ⟨sg, 0, none⟩)] w fun e w' => ∃ v M, e = .returned v ∧ PRow w' v M ∧ M.map EV.ent = F ∧ Mods noB w w' := by
 obtain ⟨S, D, ⟨S1, D1, S2, D2, ⟨c, q, _, hq, kv⟩, rf, _⟩, _⟩ := g
 exact (hDump kv (by omega)).mono (fun e w' ⟨v, M, a, g, mm, em⟩ => ⟨v, M, a, g.prow, em, mm⟩)
theorem be_look (g : G1 w0 w (Star (KVe sg F n p) (RFe rg C m)) Q) : ∃ lv L, w.cell? ⟨rg, 0, none⟩ = some lv ∧ PRow w lv L ∧ L.map EV.ent = C ∧ rg < w.heap.size := by
 obtain ⟨S, D, ⟨S1, D1, S2, D2, kv, ⟨c, _, rf⟩, _⟩, _⟩ := g
 obtain ⟨lv, L, a, c', c0, pr, em, _⟩ := rf.look
 exact ⟨lv, L, c0, pr, em, rf.lt.1 rg rf.lt.2.2.1⟩
end
structure PlE (w wa wx : World) (sg rg n p : Nat) (Q1 : Nat → Prop) : Prop where
 out : ∃ F' n' p', AccOk F' ∧ G1 w wx (Star (KVe sg F' n' p') (RFe rg F' n')) Q1 ∧ n' ≤ n + 6 ∧ p' ≤ p + 4 ∧ Mods (fun k => ¬ Q1 k) wa wx
set_option maxHeartbeats 16000000 in
theorem bplays_walk (v0 : Value) (xs : List BStp) (w : World) (h0 : RdBs w v0 xs) : Calls Tryz.prog 4 #[v0] w fun e w' => e = .returned (.bool true) ∧ Mods noB w w' := by
 have KN := Lib.hid (known9_any w)
 obtain ⟨a0, N, c0, rfl, hN, hc0, hb0, g0⟩ := h0.form
 have G0 := Lib.hid g0
 have N0 := Lib.hid hN
 clear h0 g0 hN
 go_enter Tryz.func4, Tryz.ntmps4
 go_wp2_with fail
 refine KN.out.mono ?_
 rintro e w1 ⟨rfl, m1⟩
 have M1 := Lib.hid m1
 clear KN m1
 by_cases h300 : 300 < N
 ·have i1 : (300 : Int) < (N : Int) := by omega
  go_wp2
  go_ret
  exact ⟨rfl, M1.out⟩
 have i1 : ¬ (300 : Int) < (N : Int) := by omega
 go_wp2_with fail
 refine (hNew _).mono ?_
 rintro e w5 ⟨sg0, S, D, rfl, kv, m5, hs, hd⟩
 have m6 := (Mods.refl noB w5).alloc (.cells #[.slice none 0 0, .slice none 0 0, .int .i64 0] 32)
 have K5 := Lib.hid (be_new (M1.out.then0 m5) kv (fun k hk => Nat.le_trans M1.out.size (hs k hk)) hd m6 (heap_new w5 _) (Nat.le_refl _))
 clear kv m5 hs hd m6 M1
 go_wp2
 generalize w5.heap.size = rg at K5 ⊢
 obtain ⟨sg, hsg⟩ : ∃ sg, sg = sg0 := ⟨_, rfl⟩
 subst hsg
 go_loopw [5] (fun x wr => ∃ i : Nat, i ≤ N ∧ x = .int .i64 i ∧ Hid (∃ F n p, AccOk F ∧ G1 w wr (Star (KVe sg F n p) (RFe rg F n)) (fun k => k < w.heap.size) ∧ n ≤ 2000 * i ∧ p ≤ 4 * i)) (fun x _ => N - (intOf x).toNat)
 case atStart => exact ⟨0, Nat.zero_le _, rfl, Lib.hid ⟨_, _, _, AccOk.nil, K5.out, Nat.le_refl _, Nat.le_refl _⟩⟩
 case round =>
  clear K5
  obtain ⟨i, hi, rfl, hI⟩ := hrel
  by_cases hlt : i < N
  ·obtain ⟨F, n, p, ok, g1, hn, hp⟩ := hI.out
   have hil : i < xs.length := by rw [N0.out]; exact hlt
   obtain ⟨g, off, rfl, hg, w0c, w1c, w2c, w3c, so⟩ := bstep_at G0.out g1.mods N0.out hil
   have OK := Lib.hid ok
   have KK := Lib.hid g1
   have hn0 : n ≤ 600000 := by omega
   have hp0 : p ≤ 1200 := by omega
   have KB := Lib.hid (And.intro hn hp)
   generalize xs[i] = s at *
   obtain ⟨what, A, B, k⟩ := s
   simp only at w0c w1c w2c w3c so
   have SO := Lib.hid (show U64 A ∧ U64 B ∧ U64 k from ⟨so.a, so.b, so.n⟩)
   clear hI ok g1 hn hp so
   go_upto_region 9 with fail
   refine wp_tl (d := .region 9 (opsC 9 Tryz.f4) false) (by kernel_rfl) ?_
   refine RW.wp (bp9 w0c w1c w2c w3c hlt (by omega) ?_)
   intros
   rename_i xb wa hxb hX m2
   obtain ⟨Q1, hQ1⟩ : ∃ Q1 : Nat → Prop, Q1 = fun j => j < w.heap.size ∨ j = xb := ⟨_, rfl⟩
   have K3 := Lib.hid (show G1 w wa (Star (KVe sg F n p) (RFe rg F n)) Q1 from KK.out.grow (kve_f.star rfe_f) m2 (fun j hj => by
    rw [hQ1] at hj
    exact hj.imp id (fun e => by subst e; exact ⟨Nat.le_of_eq hxb.symm, lt_of_heap hX⟩)) (fun j hj => by rw [hQ1]; exact .inl hj))
   have Q1H := Lib.hid (show Q1 xb ∧ ∀ j, j < w.heap.size → Q1 j from by rw [hQ1]; exact ⟨.inr rfl, fun j hj => .inl hj⟩)
   have HX := Lib.hid hX
   have HL := Lib.hid (kve_len K3.out.left)
   have HVF := Lib.hid (acc_hv OK.out (by have := HL.out; omega))
   have c0 : wa.cell? ⟨xb, 0, none⟩ = some (.int .i64 what) := cells_of HX.out 0
   clear w0c w1c w2c w3c hX hxb m2 hQ1 KK
   go_upto_block 2 with fail
   go_cut [7] (fun z wx => z = .bool true ∧ Hid (PlE w wa wx sg rg n p Q1))
   case first =>
    by_cases h0 : what = 0
    ·subst h0
     have C1 := Lib.hid (((K3.out.keep0 (kve_f.star rfe_f) (Mods.refl noB wa).drew).calls (GS.frame (bMint (id := A) (k := k) (n := n) (p := p) SO.out.1 SO.out.2.2 (by omega) (by omega)) rfe_f)).mono (fun e w' ⟨x, y, z⟩ => show e = Ending.returned (.int .i64 ((mintE F A k : Nat) : Int)) ∧ (G1 w w' (Star (KVe sg (mintF F A k) (n + 2) (p + 2)) (RFe rg F n)) Q1 ∧ Mods (fun j => ¬ Q1 j) wa w') from ⟨x, y, ((Mods.refl (fun j => ¬ Q1 j) wa).drew).trans z (fun _ _ x => x) (fun _ _ x => x)⟩))
     go_upto_region 13 with fail
     refine wp_tl (d := .region 13 (opsC 13 Tryz.f4) true) (by kernel_rfl) ?_
     refine RW.wp (bp13 (A := A) (B := B) (N := k) (S := fun W => Mods (fun j => ¬ Q1 j) wa W) (X2 := fun w' => G1 w w' (Star (KVe sg (mintF F A k) (n + 2) (p + 2)) (RFe rg (mintF F A k) (n + 2))) Q1 ∧ Mods (fun j => ¬ Q1 j) wa w') (fun b' m => cells_of (m.heap HX.out (fun x => x Q1H.out.1)) 1) (fun b' m => cells_of (m.heap HX.out (fun x => x Q1H.out.1)) 3) (Mods.refl _ wa).drew (fun _ h => h.2) C1.out (fun b' h => (h.1.calls (GS.right (rMint (id := A) (k := k) (n := n) SO.out.1 SO.out.2.2 (by omega) HVF.out) kve_f)).mono (fun e w' ⟨x, y, z⟩ => ⟨x, y, h.2.trans z (fun _ _ x => x) (fun _ _ x => x)⟩)) ?_)
     intros
     rename_i wx hx
     have FIN := Lib.hid (show PlE w wa wx sg rg n p Q1 from ⟨⟨_, _, _, mint_ok OK.out SO.out.1, hx.1, by omega, by omega, hx.2⟩⟩)
     clear hx C1 c0
     go_wp2
     go_meet
     case rel => exact ⟨rfl, FIN⟩
    by_cases h12 : what = 1 ∨ what = 2
    ·have C1 := Lib.hid (((K3.out.keep0 (kve_f.star rfe_f) (Mods.refl noB wa).drew).calls (GS.frame (bMove (a := A) (b := B) (k := k) (n := n) (p := p) SO.out.1 SO.out.2.1 SO.out.2.2 (by omega) (by omega)) rfe_f)).mono (fun e w' ⟨x, y, z⟩ => show e = Ending.returned (.int .i64 ((moveE F A B k : Nat) : Int)) ∧ (G1 w w' (Star (KVe sg (moveF F A B k) (n + 4) (p + 4)) (RFe rg F n)) Q1 ∧ Mods (fun j => ¬ Q1 j) wa w') from ⟨x, y, ((Mods.refl (fun j => ¬ Q1 j) wa).drew).trans z (fun _ _ x => x) (fun _ _ x => x)⟩))
     rcases h12 with rfl | rfl
     all_goals (
      go_upto_region 16 with fail
      refine wp_tl (d := .region 16 (opsC 16 Tryz.f4) true) (by kernel_rfl) ?_
      refine RW.wp (bp16 (A := A) (B := B) (N := k) (S := fun W => Mods (fun j => ¬ Q1 j) wa W) (X2 := fun w' => G1 w w' (Star (KVe sg (moveF F A B k) (n + 4) (p + 4)) (RFe rg (moveF F A B k) (n + 6))) Q1 ∧ Mods (fun j => ¬ Q1 j) wa w') (fun b' m => cells_of (m.heap HX.out (fun x => x Q1H.out.1)) 1) (fun b' m => cells_of (m.heap HX.out (fun x => x Q1H.out.1)) 2) (fun b' m => cells_of (m.heap HX.out (fun x => x Q1H.out.1)) 3) (Mods.refl _ wa).drew (fun _ h => h.2) C1.out (fun b' h => (h.1.calls (GS.right (rMove (a := A) (b := B) (k := k) (n := n) SO.out.1 SO.out.2.1 SO.out.2.2 (by omega) HVF.out OK.out.ris (by have := HL.out; omega)) kve_f)).mono (fun e w' ⟨x, y, z⟩ => ⟨x, by rw [rmove_is OK.out SO.out.1 SO.out.2.1] at y; exact y, h.2.trans z (fun _ _ x => x) (fun _ _ x => x)⟩)) ?_)
      intros
      rename_i wx hx
      have FIN := Lib.hid (show PlE w wa wx sg rg n p Q1 from ⟨⟨_, n + 6, p + 4, move_ok OK.out SO.out.1 SO.out.2.1, be_more hx.1 (by omega) (by omega) (by omega), by omega, by omega, hx.2⟩⟩)
      clear hx C1 c0
      go_wp2
      go_meet
      case rel => exact ⟨rfl, FIN⟩)
    have h1 : ¬ what = 1 := fun h => h12 (.inl h)
    have h2 : ¬ what = 2 := fun h => h12 (.inr h)
    clear h12
    by_cases h3 : what = 3
    ·subst h3
     have C1 := Lib.hid (((K3.out.keep0 (kve_f.star rfe_f) (Mods.refl noB wa).drew).calls (GS.frame (bBump (id := A) (n := n) (p := p) SO.out.1 (by omega) (by omega)) rfe_f)).mono (fun e w' ⟨x, y, z⟩ => show e = Ending.returned (.int .i64 ((bumpE A : Nat) : Int)) ∧ (G1 w w' (Star (KVe sg (bumpF F A) (n + 2) (p + 2)) (RFe rg F n)) Q1 ∧ Mods (fun j => ¬ Q1 j) wa w') from ⟨x, y, ((Mods.refl (fun j => ¬ Q1 j) wa).drew).trans z (fun _ _ x => x) (fun _ _ x => x)⟩))
     go_upto_region 18 with fail
     refine wp_tl (d := .region 18 (opsC 18 Tryz.f4) true) (by kernel_rfl) ?_
     refine RW.wp (bp18 (A := A) (B := B) (N := k) (S := fun W => Mods (fun j => ¬ Q1 j) wa W) (X2 := fun w' => G1 w w' (Star (KVe sg (bumpF F A) (n + 2) (p + 2)) (RFe rg (bumpF F A) (n + 2))) Q1 ∧ Mods (fun j => ¬ Q1 j) wa w') (fun b' m => cells_of (m.heap HX.out (fun x => x Q1H.out.1)) 1) (Mods.refl _ wa).drew (fun _ h => h.2) C1.out (fun b' h => (h.1.calls (GS.right (rBump (id := A) (n := n) SO.out.1 (by omega) HVF.out) kve_f)).mono (fun e w' ⟨x, y, z⟩ => ⟨x, y, h.2.trans z (fun _ _ x => x) (fun _ _ x => x)⟩)) ?_)
     intros
     rename_i wx hx
     have FIN := Lib.hid (show PlE w wa wx sg rg n p Q1 from ⟨⟨_, _, _, bump_ok OK.out SO.out.1, hx.1, by omega, by omega, hx.2⟩⟩)
     clear hx C1 c0
     go_wp2
     go_meet
     case rel => exact ⟨rfl, FIN⟩
    have FIN := Lib.hid (show PlE w wa wa sg rg n p Q1 from ⟨⟨_, _, _, OK.out, K3.out, by omega, by omega, Mods.refl _ _⟩⟩)
    go_wp2
    go_meet
    case rel => exact ⟨rfl, FIN⟩
   case rest =>
    obtain ⟨rfl, hD⟩ := hcut
    obtain ⟨F', n', p', ok', g', hn', hp', mm⟩ := hD.out.out
    have OK' := Lib.hid ok'
    have K5 := Lib.hid g'
    have M5 := Lib.hid mm
    have SB := Lib.hid (And.intro hn' hp')
    have hn1 : n' ≤ 700000 := by omega
    have hp1 : p' ≤ 1300 := by omega
    have HL' := Lib.hid (kve_len K5.out.left)
    have HV' := Lib.hid (acc_hv OK'.out (by have := HL'.out; omega))
    clear hD ok' g' mm hn' hp' c0 K3 HL HVF OK
    obtain ⟨ac, hac⟩ : ∃ ac, acF F' A = ac := ⟨_, rfl⟩
    obtain ⟨c, q⟩ := ac
    have HAC := Lib.hid hac
    clear hac
    go_upto_region 19 with fail
    refine wp_tl (d := .region 19 (opsC 19 Tryz.f4) true) (by kernel_rfl) ?_
    refine RW.wp (bp19 (A := A) (c := c) (q := q) (S := fun W => Mods (fun j => ¬ Q1 j) wc W)
     (X1 := fun W => G1 w W (Star (KVe sg F' (n' + 1) p') (RFe rg F' n')) Q1 ∧ Mods (fun j => ¬ Q1 j) wc W)
     (R := fun lv a b u v W => Mods (fun j => ¬ Q1 j) wc W ∧ G1 w W (Star (KVe sg F' (n' + 1) p') (RFe rg F' (n' + 1))) Q1 ∧ W.cell? ⟨rg, 0, none⟩ = some lv ∧ rg < W.heap.size ∧ (∃ L, PRow W lv L ∧ L.map EV.ent = F') ∧ (a = true → ∃ M, PRow W u M ∧ M.map EV.ent = F') ∧ (b = true → v = lv))
     (Y4 := fun W => Mods (fun j => ¬ Q1 j) wc W ∧ G1 w W (Star (KVe sg F' (n' + 1) p') (RFe rg F' (n' + 1))) Q1)
     (Y5 := fun z W => Mods (fun j => ¬ Q1 j) wc W ∧ RN W z (dig BB (sumF F')) ∧ G1 w W (Star (KVe sg F' (n' + 1 + 1 + p') p') (RFe rg F' (n' + 1))) (fun j => Q1 j ∨ z.ownBlock = some j))
     (Y6 := fun z y W => Mods (fun j => ¬ Q1 j) wc W ∧ RN W z (dig BB (sumF F')) ∧ RN W y (dig BB (sumF F')) ∧ G1 w W (Star (KVe sg F' (n' + 1 + 1 + p') p') (RFe rg F' (n' + 1 + 1 + F'.length))) Q1)
     (Y7 := fun W => G1 w W (Star (KVe sg F' (n' + 1 + 1 + p') p') (RFe rg F' (n' + 1 + 1 + F'.length))) Q1)
     (fun b' m => cells_of (m.heap (M5.out.heap HX.out (fun x => x Q1H.out.1)) (fun x => x Q1H.out.1)) 1) (Mods.refl _ wc).drew (fun _ h => h.2) (fun _ _ _ _ _ _ h => h.1) (fun _ h => h.1) (fun _ _ h => h.1) (fun _ _ _ h => h.1)
     ?c1 ?c2 ?c3 ?cl (fun _ _ _ _ _ h => h.2.2.2.2.2.2 rfl) ?c4 ?c5 ?c6 ?c7 ?_)
    case c1 =>
     refine ((K5.out.keep0 (kve_f.star rfe_f) (Mods.refl noB wc).drew).calls (GS.frame (bGet (id := A) (n := n') (p := p') SO.out.1 (by omega) (by omega)) rfe_f)).mono ?_
     rintro e w' ⟨x, y, z⟩
     exact ⟨by rw [x, HAC.out]; rfl, y, ((Mods.refl (fun j => ¬ Q1 j) wc).drew).trans z (fun _ _ x => x) (fun _ _ x => x)⟩
    case c2 =>
     intro b' h
     refine (h.1.calls (GS.right (rGet (id := A) (n := n') SO.out.1 (by omega) HV'.out) kve_f)).mono ?_
     rintro e w' ⟨x, y, z⟩
     obtain ⟨lv, L, d0, pr, em, hr⟩ := be_look y
     exact ⟨by rw [x, HAC.out]; rfl, lv, fun u v => ⟨h.2.trans z (fun _ _ x => x) (fun _ _ x => x), y, d0, hr, ⟨L, pr, em⟩, (fun h => by cases h), (fun h => by cases h)⟩⟩
    case c3 =>
     rintro lv b u v b' ⟨h1, h2, h3, h4, ⟨L, h5, h6⟩, _, h8⟩
     refine (be_dump h2 (by omega)).mono ?_
     rintro e w' ⟨d, M, rfl, pr, em, m⟩
     exact ⟨d, rfl, h1.then0 m, h2.keep0 (kve_f.star rfe_f) m, (m.cellAt h4 (fun x => x) _).trans h3, m.size_of h4, ⟨L, h5.keep0 m, h6⟩, fun _ => ⟨M, pr, em⟩, h8⟩
    case cl =>
     rintro lv a u v b' ⟨h1, h2, h3, h4, h5, h7, _⟩
     exact ⟨h3, h1, h2, h3, h4, h5, h7, fun _ => rfl⟩
    case c4 =>
     rintro lv d b' ⟨h1, h2, h3, h4, ⟨L, h5, h6⟩, h7, _⟩
     obtain ⟨M, pr, em⟩ := h7 rfl
     refine (Pairs_true pr h5 (em.trans h6.symm) (by rw [len_ents em]; have := HL'.out; omega)).mono ?_
     rintro e w' ⟨rfl, m⟩
     exact ⟨rfl, h1.then0 m, h2.keep0 (kve_f.star rfe_f) m⟩
    case c5 =>
     rintro b' ⟨h1, h2⟩
     refine (h2.call (GC.frame (ge_sum (n := n' + 1) (p := p') (by omega) (by omega)) (P2 := RFe rg F' (n' + 1)) rfe_f)).mono ?_
     rintro e w' ⟨z, P', N, rfl, ⟨P1, rfl, rd, rfl, rfl⟩, g', _, m⟩
     exact ⟨z, rfl, h1.trans m (fun _ _ x => x) (fun _ _ x => x), rd, g'⟩
    case c6 =>
     rintro z b' ⟨h1, h2, h3⟩
     refine (h3.call (GC.right (rSum (n := n' + 1) (by omega) (by have := HL'.out; omega) (acc_vals OK'.out)) (P2 := KVe sg F' (n' + 1 + 1 + p') p') kve_f)).mono ?_
     rintro e w' ⟨y, P', N, rfl, ⟨P1, rfl, rd, rfl, rfl⟩, g', _, m⟩
     exact ⟨y, rfl, h1.trans m (fun _ _ x => x) (fun _ _ x y => x (.inl y)), RdM.keep h2 m (fun k hk x => x (.inr hk)), rd, g'.less (fun j hj => .inl (.inl hj)) Q1H.out.2⟩
    case c7 =>
     rintro z y b' ⟨h1, h2, h3, h4⟩
     refine (HNat_any h2 h3).mono ?_
     rintro e w' ⟨rfl, q⟩
     exact ⟨by simp, h4.keep0 (kve_f.star rfe_f) (q.mods noB)⟩
    intros
    rename_i wd hx
    have FIN := Lib.hid (show ∃ F n p, AccOk F ∧ G1 w wd (Star (KVe sg F n p) (RFe rg F n)) (fun k => k < w.heap.size) ∧ n ≤ 2000 * (i + 1) ∧ p ≤ 4 * (i + 1) from
     ⟨F', n' + 1 + 1 + p', p', OK'.out, (be_more hx (Nat.le_refl _) (Nat.le_refl _) (by have := HL'.out; omega)).less (fun j hj => Q1H.out.2 j hj) (fun j hj => hj), by have := KB.out; have := SB.out; omega, by have := KB.out; have := SB.out; omega⟩)
    clear hx
    go_wp2
    go_roundw
    case rel => exact ⟨i + 1, by omega, by go_num, FIN⟩
    case measure => simp [intOf]; omega
  ·obtain ⟨F, n, p, ok, g1, hn, hp⟩ := hI.out
   have M := Lib.hid g1.mods
   clear hI ok g1 hn hp
   go_wp2
   go_ret
   exact ⟨rfl, M.out⟩
end Go.Proofs.YtglkmaalpammcaaGreat

/- gleanref9: Key, Is, over, Get, set, Mint, May, Move, Bump, as calls on a store (Mint, Bump printed by gen_bkr.py out of BkM). -/
import Derived.Test.YtglkmaalpammcaaGreatBkM
import Derived.Test.YtglkmaalpammcaaGreatRMake2
import Derived.Test.YtglkmaalpammcaaGreatRxA
import Derived.Test.YtglkmaalpammcaaGreatRPx
namespace Go.Proofs.YtglkmaalpammcaaGreat
open Go.Gl Go.RowKit
set_option linter.unusedVariables false
set_option maxRecDepth 100000
theorem rkey_any {kind a b : Nat} (w : World) (ha : U64 a) (hb : U64 b) : Calls Tryz.prog 44 #[.int .i64 (kind : Nat), .int .u64 (a : Nat), .int .u64 (b : Nat)] w fun e w' => ∃ v, e = .returned v ∧ Gl.Own w' v ((kmake kind a b).getD []) ∧ Mods noB w w' ∧ freshIn w v := by
 have M := Lib.hid (RMake_any kind a b w ha hb)
 generalize (if (kmake (kind : Nat) a b).isSome = true then (0 : Int) else 70) = en at M
 clear ha hb
 go_enter Tryz.func44, Tryz.ntmps44
 go_wp2_with fail
 refine M.out.mono ?_
 rintro e w1 ⟨v, rfl, o, m, f⟩
 have O := Lib.hid (And.intro o (And.intro m f))
 clear o m f M
 go_wp2
 go_ret
 exact ⟨_, rfl, O.out⟩
theorem ris_any {id : Nat} (w : World) (h : U64 id) : Calls Tryz.prog 81 #[.int .u64 (id : Nat)] w fun e w' => e = .returned (.bool (isB id)) ∧ w = w' := by
 unfold U64 at h
 unfold isB
 by_cases h1 : 1 ≤ id
 ·have i1 : (1 : Int) ≤ (id : Int) := by omega
  rw [decide_eq_true h1]
  by_cases h2 : id ≤ 4
  ·have i2 : (id : Int) ≤ 4 := by omega
   rw [decide_eq_true h2]
   clear h
   go_enter Tryz.func81, Tryz.ntmps81
   go_wp2
   go_ret
   exact ⟨rfl, rfl⟩
  ·have i2 : ¬ (id : Int) ≤ 4 := by omega
   rw [decide_eq_false h2]
   by_cases h3 : 16 ≤ id
   ·have i3 : (16 : Int) ≤ (id : Int) := by omega
    rw [decide_eq_true h3]
    clear h
    go_enter Tryz.func81, Tryz.ntmps81
    go_wp2
    go_ret
    exact ⟨rfl, rfl⟩
   ·have i3 : ¬ (16 : Int) ≤ (id : Int) := by omega
    rw [decide_eq_false h3]
    clear h
    go_enter Tryz.func81, Tryz.ntmps81
    go_wp2
    go_ret
    exact ⟨rfl, rfl⟩
 ·have i1 : ¬ (1 : Int) ≤ (id : Int) := by omega
  have i3 : ¬ (16 : Int) ≤ (id : Int) := by omega
  rw [decide_eq_false h1, decide_eq_false (show ¬ 16 ≤ id by omega)]
  clear h
  go_enter Tryz.func81, Tryz.ntmps81
  go_wp2
  go_ret
  exact ⟨rfl, rfl⟩
theorem rover_any {c n : Nat} (w : World) (hc : U64 c) (hn : U64 n) : Calls Tryz.prog 82 #[.int .u64 (c : Nat), .int .u64 (n : Nat)] w fun e w' => e = .returned (.bool (muchB c n)) ∧ w = w' := by
 unfold U64 at hc hn
 unfold muchB
 by_cases h1 : 1000000000000000000 < n
 ·have i1 : (1000000000000000000 : Int) < (n : Int) := by omega
  rw [decide_eq_true (show 1000000000000000000 < c + n by omega)]
  clear hc hn
  go_enter Tryz.func82, Tryz.ntmps82
  go_wp2
  go_ret
  exact ⟨rfl, rfl⟩
 ·have i1 : ¬ (1000000000000000000 : Int) < (n : Int) := by omega
  obtain ⟨d, hd⟩ : ∃ d, 1000000000000000000 - n = d := ⟨_, rfl⟩
  have hdI : (1000000000000000000 : Int) - (n : Int) = (d : Int) := by omega
  by_cases h2 : d < c
  ·have i2 : (d : Int) < (c : Int) := by omega
   rw [decide_eq_true (show 1000000000000000000 < c + n by omega)]
   clear hd h1 h2
   go_enter Tryz.func82, Tryz.ntmps82
   go_wp2
   go_ret
   exact ⟨rfl, rfl⟩
  ·have i2 : ¬ (d : Int) < (c : Int) := by omega
   rw [decide_eq_false (show ¬ 1000000000000000000 < c + n by omega)]
   clear hd h1 h2
   go_enter Tryz.func82, Tryz.ntmps82
   go_wp2
   go_ret
   exact ⟨rfl, rfl⟩
def HV (F : List Ent) : Prop := F.length ≤ 90000 ∧ ∀ k v, getL F k = some v → v.length ≤ 1000000
theorem hv_set {F : List Ent} (h : HV F) (hr : Ris F) (hl : F.length ≤ 80000) (k v : List UInt8) : HV (setFF F k v) := by
 unfold setFF
 split
 ·rename_i he
  have hv : v.length ≤ 4096 := by
   unfold setErr at he
   split at he
   ·omega
   ·split at he <;> omega
  refine ⟨by have := insL_len hr k v; omega, fun k' v' hg => ?_⟩
  rw [get_ins] at hg
  split at hg
  ·cases hg; omega
  ·exact h.2 k' v' hg
 ·exact h
theorem hv_del {F : List Ent} (h : HV F) (hr : Ris F) (k : List UInt8) : HV (delL F k) := by
 refine ⟨by have := delL_len hr k; have := h.1; omega, fun k' v' hg => ?_⟩
 rw [get_del] at hg
 split at hg
 ·cases hg
 ·exact h.2 k' v' hg
theorem hv_lay {F : List Ent} (h : HV F) (hr : Ris F) (hl : F.length ≤ 80000) (id : Nat) (a : Nat × Nat) : HV (layF F id a) := by
 unfold layF
 split
 ·exact hv_del h hr _
 ·exact hv_set h hr hl _ _
theorem two_nil : two [] = (0, 0) := by decide
section
variable {w : World} {g n : Nat} {F : List Ent} {Q : Nat → Prop}
set_option maxHeartbeats 2000000 in
theorem rGet {id : Nat} (h : U64 id) (hn : n ≤ 1000000000000) (hv : HV F) : GS Tryz.prog 27 #[.pointer (some ⟨g, 0, none⟩), .int .u64 (id : Nat)] w (RFe g F n) Q (acV (acF F id)) (RFe g F (n + 1)) := GS.walk fun S D kv hQ => by
  have VL := Lib.hid (show ((getL F (akey id)).getD []).length ≤ 1000000 from by
    cases hg : getL F (akey id) with
    | none => simp
    | some v => exact hv.2 _ _ hg)
  have P := Lib.hid (put_box w #[.int .u64 0, .int .u64 0] 59 _ rfl)
  have G0 := Lib.hid ((GI.start kv).grow rfe_f P.out.2.1 (N' := fun k => k = w.heap.size) (fun k hk => .inr ⟨by omega, by have := P.out.2.2; omega⟩))
  have HK := Lib.hid (fun W => rkey_any (kind := 4) (a := id) (b := 0) W h (by unfold U64; omega))
  have CG := Lib.hid (fun W N (gi : GI w S D W (RFe g F n) N) k (o : Gl.Own W k (akey id)) (hk : ∀ i, ofV k i → N i) => gi.callo (re_get o.rd (own_off hk) hn (by have := hv.1; omega) (fun v hg => Nat.le_trans (hv.2 _ _ hg) (by omega))))
  obtain ⟨ox, hox⟩ : ∃ ox, getL F (akey id) = ox := ⟨_, rfl⟩
  unfold acF
  rw [hox] at VL CG ⊢
  clear kv h hv hox
  cases ox with
  | none =>
    simp only [Option.getD_none, Option.isSome_none] at CG VL ⊢
    rw [two_nil]
    go_enter Tryz.func27, Tryz.ntmps27
    go_wp2_with fail
    generalize World.alloc w _ = w1 at *
    refine (HK.out w1).mono ?_
    rintro e w2 ⟨k, rfl, o2, m2, f2⟩
    have H2 := Lib.hid (blk_step m2 P.out.1)
    have C := Lib.hid (CG.out _ _ (G0.out.own rfe_f m2 o2 f2) k o2 (fun i hi => .inr hi))
    clear o2 m2 f2 G0 HK CG
    go_wp2_with fail
    refine C.out.mono ?_
    rintro e w3 ⟨b, rfl, o3, f3, g3, m3⟩
    have H3 := m3.heap H2.out (fun x => x (.inl (.inl rfl)))
    have G3 := Lib.hid g3
    clear C o3 f3 g3 m3 H2
    go_wp2_with (refine wpList_store_blk rfl rfl H3 rfl rfl account_size rfl rfl ?_; intro w11 q1 q2 q3; have c11 := cells_of q1)
    refine bodyPost_ret (by simp [results, Tryz.results27, go_sem, c11]; try rfl) rfl ?_
    exact ⟨rfl, (G3.out.turn rfe_f q2 (fun k hk => .inl (.inl hk))).done⟩
  | some ov =>
    simp only [Option.getD_some, Option.isSome_some] at CG VL ⊢
    go_enter Tryz.func27, Tryz.ntmps27
    go_wp2_with fail
    generalize World.alloc w _ = w1 at *
    refine (HK.out w1).mono ?_
    rintro e w2 ⟨k, rfl, o2, m2, f2⟩
    have H2 := Lib.hid (blk_step m2 P.out.1)
    have C := Lib.hid (CG.out _ _ (G0.out.own rfe_f m2 o2 f2) k o2 (fun i hi => .inr hi))
    clear o2 m2 f2 G0 HK CG
    go_wp2_with fail
    refine C.out.mono ?_
    rintro e w3 ⟨b, rfl, o3, f3, g3, m3⟩
    have H3 := Lib.hid (m3.heap H2.out (fun x => x (.inl (.inl rfl))))
    have G3 := Lib.hid g3
    have A := Lib.hid (account_ref ⟨o3.rd, o3.lt⟩ VL.out)
    clear C o3 f3 g3 m3 H2
    go_wp2_with fail
    refine A.out.mono ?_
    rintro e w4 ⟨n0, n1, er, rfl, hg, m4⟩
    have G4 := Lib.hid (G3.out.keep0 rfe_f m4)
    have H4 := blk_step m4 H3.out
    have TW := Lib.hid (show two ov = (n0, n1) from two_of hg)
    obtain ⟨w5, hw5⟩ : ∃ w5, w5 = w4.alloc (.cells #[.int .u64 (n0 : Nat), .int .u64 (n1 : Nat)] 59) := ⟨_, rfl⟩
    have m5 : Mods noB w4 w5 := by rw [hw5]; exact (Mods.refl _ _).alloc _
    have H5 := blk_step m5 H4
    have G5 := Lib.hid (G4.out.keep0 rfe_f m5)
    clear A hg m4 G3 H3 H4 G4 m5
    go_wp2_with (rw [← hw5]; refine wpList_store_blk rfl rfl H5 rfl rfl account_size rfl rfl ?_; intro w11 q1 q2 q3; have c11 := cells_of q1)
    refine bodyPost_ret (by simp [results, Tryz.results27, go_sem, c11]; try rfl) rfl ?_
    exact ⟨by rw [TW.out]; rfl, (G5.out.turn rfe_f q2 (fun k hk => .inl (.inl hk))).done⟩
set_option maxHeartbeats 2000000 in
theorem rLay {id : Nat} {a : Nat × Nat} (h : U64 id) (h1 : U64 a.1) (h2 : U64 a.2) (hn : n ≤ 1000000000000) (hv : HV F) : GS Tryz.prog 83 #[.pointer (some ⟨g, 0, none⟩), .int .u64 (id : Nat), acV a] w (RFe g F n) Q (.tuple #[]) (RFe g (layF F id a) (n + 1)) := GS.walk fun S D kv hQ => by
 obtain ⟨c, q⟩ := a
 simp only at h1 h2
 have P := Lib.hid (put_box w #[.int .u64 (c : Nat), .int .u64 (q : Nat)] 59 _ rfl)
 have G0 := Lib.hid ((GI.start kv).grow rfe_f P.out.2.1 (N' := fun k => k = w.heap.size) (fun k hk => .inr ⟨by omega, by have := P.out.2.2; omega⟩))
 have HK := Lib.hid (fun W => rkey_any (kind := 4) (a := id) (b := 0) W h (by unfold U64; omega))
 have HF : F.length ≤ 100000 := by have := hv.1; omega
 have CD := Lib.hid (fun W N (gi : GI w S D W (RFe g F n) N) k (o : Gl.Own W k (akey id)) (hk : ∀ i, ofV k i → N i) => gi.calls (re_del o.rd (own_off hk) hn HF))
 have CS := Lib.hid (fun W N (gi : GI w S D W (RFe g F n) N) k (o : Gl.Own W k (akey id)) (hk : ∀ i, ofV k i → N i) v (o2 : Gl.Own W v (lay2 c q)) (hk2 : ∀ i, ofV v i → N i) => gi.calls (re_set o.rd o2.rd (own_off hk) (own_off hk2) hn HF))
 have PU := Lib.hid (fun W => account_rput (w := W) (n0 := c) (n1 := q) (by intro x hx; simp at hx; rcases hx with rfl | rfl <;> assumption))
 clear kv h hv
 unfold layF acV
 simp only
 by_cases hz : c = 0 ∧ q = 0
 ·obtain ⟨rfl, rfl⟩ := hz
  simp only [and_self, if_true]
  go_enter Tryz.func83, Tryz.ntmps83
  go_wp2_with fail
  generalize World.alloc w _ = w1 at *
  refine (HK.out w1).mono ?_
  rintro e w2 ⟨k, rfl, o2, m2, f2⟩
  have H2 := blk_step m2 P.out.1
  have c20 := cells_of H2 0
  have c21 := cells_of H2 1
  have C := Lib.hid (CD.out _ _ (G0.out.own rfe_f m2 o2 f2) k o2 (fun i hi => .inr hi))
  clear o2 m2 f2 G0 HK CD CS PU H2
  go_wp2_with fail
  refine C.out.mono ?_
  rintro e w3 ⟨rfl, g3, m3⟩
  have DD := Lib.hid g3.done
  clear g3 m3 C c20 c21
  go_wp2
  (try simp only [Exit.inBlock, Exit.then])
  refine bodyPost_ret (results_none rfl _ _ _) rfl ?_
  exact ⟨rfl, DD.out⟩
 ·rw [if_neg hz]
  by_cases hc : c = 0
  ·have hqI : ¬ (q : Int) = 0 := fun e => hz ⟨hc, by omega⟩
   subst hc
   clear hz
   go_enter Tryz.func83, Tryz.ntmps83
   go_wp2_with fail
   generalize World.alloc w _ = w1 at *
   refine (HK.out w1).mono ?_
   rintro e w2 ⟨k, rfl, o2, m2, f2⟩
   have H2 := blk_step m2 P.out.1
   have c20 := cells_of H2 0
   have c21 := cells_of H2 1
   have G2 := Lib.hid (G0.out.own rfe_f m2 o2 f2)
   have O2 := Lib.hid o2
   clear o2 m2 f2 G0 HK CD H2
   go_wp2_with fail
   refine (PU.out w2).mono ?_
   rintro e w3 ⟨v, rfl, o3, m3, f3⟩
   have C := Lib.hid (CS.out _ _ (G2.out.own rfe_f m3 o3 f3) k (O2.out.keep m3 (fun _ _ x => x)) (fun i hi => .inl (.inr hi)) v o3 (fun i hi => .inr hi))
   clear o3 m3 f3 G2 CS PU O2 c20 c21
   go_wp2_with fail
   refine C.out.mono ?_
   rintro e w4 ⟨rfl, g4, m4⟩
   have DD := Lib.hid g4.done
   clear g4 m4 C
   go_wp2
   go_end0
   exact ⟨rfl, DD.out⟩
  ·have hcI : ¬ (c : Int) = 0 := by omega
   clear hz
   go_enter Tryz.func83, Tryz.ntmps83
   go_wp2_with fail
   generalize World.alloc w _ = w1 at *
   refine (HK.out w1).mono ?_
   rintro e w2 ⟨k, rfl, o2, m2, f2⟩
   have H2 := blk_step m2 P.out.1
   have c20 := cells_of H2 0
   have c21 := cells_of H2 1
   have G2 := Lib.hid (G0.out.own rfe_f m2 o2 f2)
   have O2 := Lib.hid o2
   clear o2 m2 f2 G0 HK CD H2
   go_wp2_with fail
   refine (PU.out w2).mono ?_
   rintro e w3 ⟨v, rfl, o3, m3, f3⟩
   have C := Lib.hid (CS.out _ _ (G2.out.own rfe_f m3 o3 f3) k (O2.out.keep m3 (fun _ _ x => x)) (fun i hi => .inl (.inr hi)) v o3 (fun i hi => .inr hi))
   clear o3 m3 f3 G2 CS PU O2 c20 c21
   go_wp2_with fail
   refine C.out.mono ?_
   rintro e w4 ⟨rfl, g4, m4⟩
   have DD := Lib.hid g4.done
   clear g4 m4 C
   go_wp2
   go_end0
   exact ⟨rfl, DD.out⟩
set_option maxHeartbeats 2000000 in
theorem rMint {id k : Nat} (h : U64 id) (hk : U64 k) (hn : n ≤ 100000000000) (hv : HV F) : GS Tryz.prog 16 #[.pointer (some ⟨g, 0, none⟩), .int .u64 (id : Nat), .int .u64 (k : Nat)] w (RFe g F n) Q (.int .i64 (mintE F id k : Nat)) (RFe g (mintF F id k) (n + 2)) := GS.walk fun S D kv hQ => by
  have G0 := Lib.hid (GI.start kv)
  have IS := Lib.hid (fun W => ris_any W h)
  have C := Lib.hid (G0.out.calls (rGet (id := id) (n := n) h (by omega) hv))
  obtain ⟨B, hB⟩ : ∃ B, isB id = B := ⟨_, rfl⟩
  obtain ⟨l1, l2⟩ := acF_lt F id
  unfold mintF
  unfold mintE
  rw [hB] at IS ⊢
  have HU := Lib.hid (And.intro h hk)
  cases B with
  | false =>
    simp only [if_true]
    have DD := Lib.hid (show LeftB w S D w (RFe g F (n + 2)) from by
      obtain ⟨S', D', a, b⟩ := G0.out.done
      exact ⟨S', D', a.more (by omega), b⟩)
    clear kv G0 C h hk l1 l2
    go_enter Tryz.func16, Tryz.ntmps16
    go_wp2_with fail
    refine (IS.out _).mono ?_
    rintro e w1 ⟨rfl, rfl⟩
    go_wp2
    go_ret
    exact ⟨rfl, DD.out⟩
  | true =>
    simp only [Bool.true_eq_false, if_false]
    unfold acV at C
    generalize acF F id = ac at *
    obtain ⟨c, q⟩ := ac
    simp only at l1 l2 C ⊢
    obtain ⟨b2, hb2⟩ : ∃ b2, muchB c k = b2 := ⟨_, rfl⟩
    have MU := Lib.hid (fun W => rover_any W l1 hk)
    rw [hb2] at MU ⊢
    clear kv G0
    cases b2 with
    | true =>
      simp only [if_true]
      rw [if_neg (by omega)]
      clear h hk l1 l2 hb2
      go_enter Tryz.func16, Tryz.ntmps16
      go_wp2_with fail
      refine (IS.out _).mono ?_
      rintro e w1 ⟨rfl, rfl⟩
      go_wp2_with fail
      refine C.out.mono ?_
      rintro e w2 ⟨rfl, g2, m2⟩
      have G2 := Lib.hid (g2.keep0 rfe_f ((Mods.refl noB w2).alloc (.cells #[.int .u64 (c : Nat), .int .u64 (q : Nat)] 59)))
      clear g2 m2 C
      go_wp2_with fail
      refine (MU.out _).mono ?_
      rintro e w3 ⟨rfl, rfl⟩
      have DD := Lib.hid (show LeftB w S D _ (RFe g F (n + 2)) from by
        obtain ⟨S', D', a, b⟩ := G2.out.done
        exact ⟨S', D', a.more (by omega), b⟩)
      go_wp2
      go_ret
      exact ⟨rfl, DD.out⟩
    | false =>
      simp only [Bool.false_eq_true, if_false, if_true]
      have hle : c + k ≤ 1000000000000000000 := by unfold muchB at hb2; exact Nat.le_of_not_lt (of_decide_eq_false hb2)
      obtain ⟨t, ht⟩ : ∃ t, c + k = t := ⟨_, rfl⟩
      have htI : (c : Int) + (k : Int) = (t : Int) := by omega
      rw [ht] at hle ⊢
      have hu : U64 t := by unfold U64; omega
      have L := Lib.hid (fun W (gi : GI w S D W (RFe g F (n + 1)) (fun _ => False)) => gi.calls (rLay (id := id) (a := (t, q)) h hu l2 (by omega) hv))
      unfold acV at L
      have i0 : (t : Int) ≤ 18446744073709551615 := by omega
      clear h hk l1 l2 hb2 ht hu hle
      go_enter Tryz.func16, Tryz.ntmps16
      go_wp2_with fail
      refine (IS.out _).mono ?_
      rintro e w1 ⟨rfl, rfl⟩
      go_wp2_with fail
      refine C.out.mono ?_
      rintro e w2 ⟨rfl, g2, m2⟩
      have G2 := Lib.hid (fun o => g2.keep0 rfe_f ((Mods.refl noB w2).alloc o))
      clear g2 m2 C
      go_wp2_with fail
      refine (MU.out _).mono ?_
      rintro e w3 ⟨rfl, rfl⟩
      go_wp2_with fail
      refine (L.out _ (G2.out _)).mono ?_
      rintro e w4 ⟨rfl, g4, m4⟩
      have DD := Lib.hid g4.done
      clear g4 m4 L G2
      go_wp2
      go_ret
      exact ⟨rfl, DD.out⟩
set_option maxHeartbeats 2000000 in
theorem rBump {id : Nat} (h : U64 id) (hn : n ≤ 100000000000) (hv : HV F) : GS Tryz.prog 25 #[.pointer (some ⟨g, 0, none⟩), .int .u64 (id : Nat)] w (RFe g F n) Q (.int .i64 (bumpE id : Nat)) (RFe g (bumpF F id) (n + 2)) := GS.walk fun S D kv hQ => by
  have G0 := Lib.hid (GI.start kv)
  have IS := Lib.hid (fun W => ris_any W h)
  have C := Lib.hid (G0.out.calls (rGet (id := id) (n := n) h (by omega) hv))
  obtain ⟨B, hB⟩ : ∃ B, isB id = B := ⟨_, rfl⟩
  obtain ⟨l1, l2⟩ := acF_lt F id
  unfold bumpF
  unfold bumpE
  rw [hB] at IS ⊢
  cases B with
  | false =>
    simp only [if_true]
    have DD := Lib.hid (show LeftB w S D w (RFe g F (n + 2)) from by
      obtain ⟨S', D', a, b⟩ := G0.out.done
      exact ⟨S', D', a.more (by omega), b⟩)
    clear kv G0 C h l1 l2
    go_enter Tryz.func25, Tryz.ntmps25
    go_wp2_with fail
    refine (IS.out _).mono ?_
    rintro e w1 ⟨rfl, rfl⟩
    go_wp2
    go_ret
    exact ⟨rfl, DD.out⟩
  | true =>
    simp only [Bool.true_eq_false, if_false]
    unfold acV at C
    generalize acF F id = ac at *
    obtain ⟨c, q⟩ := ac
    simp only at l1 l2 C ⊢
    clear kv G0
    obtain ⟨t, ht⟩ : ∃ t, (q + 1) % 18446744073709551616 = t := ⟨_, rfl⟩
    have htI : IntKind.u64.wrap ((q : Int) + 1) = (t : Int) := by rw [wrap_u64]; omega
    have hu : U64 t := by unfold U64; omega
    rw [ht]
    have L := Lib.hid (fun W (gi : GI w S D W (RFe g F (n + 1)) (fun _ => False)) => gi.calls (rLay (id := id) (a := (c, t)) h l1 hu (by omega) hv))
    unfold acV at L
    clear h l1 l2 ht hu
    go_enter Tryz.func25, Tryz.ntmps25
    go_wp2_with fail
    refine (IS.out _).mono ?_
    rintro e w1 ⟨rfl, rfl⟩
    go_wp2_with fail
    refine C.out.mono ?_
    rintro e w2 ⟨rfl, g2, m2⟩
    have G2 := Lib.hid (fun o => g2.keep0 rfe_f ((Mods.refl noB w2).alloc o))
    clear g2 m2 C
    go_wp2_with fail
    refine (L.out _ (G2.out _)).mono ?_
    rintro e w4 ⟨rfl, g4, m4⟩
    have DD := Lib.hid g4.done
    clear g4 m4 L G2
    go_wp2
    go_ret
    exact ⟨rfl, DD.out⟩
end
end Go.Proofs.YtglkmaalpammcaaGreat

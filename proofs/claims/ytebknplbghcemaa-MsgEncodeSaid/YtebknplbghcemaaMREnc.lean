/- gleanref17.Encode: an item's bytes, the document's way. -/
import Derived.Test.YtebknplbghcemaaMEnc
import Derived.Deep.RegionHeld3
import Derived.Deep.DeepCutAuto
namespace Go.Proofs.Ytebknplbghcemaa
open Go.Gl Go.RowKit
set_option linter.unusedVariables false
set_option maxRecDepth 100000

set_option maxHeartbeats 2000000 in
theorem rEnc_fno (i : Itm) (w : World) (h : ¬ i.mayF) (hk : i.kind = 2) : Calls Try.prog 14 #[.agg i.cells] w (BRes w [] 170) := by
  have HN := Lib.hid h
  clear h
  unfold Itm.cells
  unfold Itm.mayF Itm.txZero at HN
  obtain ⟨kind, s, q, f, m, a, b, n, fk, fv, fh⟩ := i
  simp only at hk HN ⊢
  subst hk
  go_enter Try.func14, Try.ntmps14
  go_wp2
  all_goals first
    | (go_ret2; exact ⟨_, rfl, Own.nil _, (by repeat' (first | (with_reducible exact Mods.refl _ _) | (with_reducible assumption) | (with_reducible refine Mods.alloc ?_ _) | (with_reducible refine Mods.drew ?_) | (with_reducible refine Mods.drewN ?_ _) | (with_reducible refine Mods.regrown ?_ _ _) | (with_reducible refine Mods.setCell ?_ ?_ _) | (refine .inr ?_; first | (simp; done) | (simp; omega) | omega))), freshIn.nil _⟩)
    | (exfalso; have := HN.out; simp_all)

/-- what the reads of a drawn statement need of the item's block -/
theorem enc_S {W0 w' : World} {g : Nat} {c8 c9 c10 : Value} (h8 : W0.cell? ⟨g, 8, none⟩ = some c8) (h9 : W0.cell? ⟨g, 9, none⟩ = some c9) (h10 : W0.cell? ⟨g, 10, none⟩ = some c10) (hg : g < W0.heap.size) (hm : Mods noB W0 w') :
    w'.cell? ⟨g, 8, none⟩ = some c8 ∧ w'.cell? ⟨g, 9, none⟩ = some c9 ∧ w'.cell? ⟨g, 10, none⟩ = some c10 ∧ Mods noB W0 w' :=
  ⟨(hm.cellAt hg (fun x => x) 8).trans h8, (hm.cellAt hg (fun x => x) 9).trans h9, (hm.cellAt hg (fun x => x) 10).trans h10, hm⟩

set_option maxHeartbeats 2000000 in
theorem rEnc_fault (i : Itm) (w : World) (hi : i.Fits) (h : i.mayF) (hk : i.kind = 2) : Calls Try.prog 14 #[.agg i.cells] w (BRes w i.bytesF 0) := by
  unfold Itm.cells Itm.bytesF at *
  obtain ⟨h1, h2, h3⟩ := h
  obtain ⟨kind, s, q, f, m, a, b, n, fk, fv, fh⟩ := i
  have b1 := hi.fv
  have b2 := hi.fh
  obtain ⟨e1, e2, e3, e4, e5, e6, e7⟩ := h1
  simp only at hk h2 h3 b1 b2 e1 e2 e3 e4 e5 e6 e7 ⊢
  subst hk e1 e2 e3 e4 e5 e6 e7
  obtain ⟨k, rfl⟩ := Int.eq_ofNat_of_zero_le h2
  have hk2 : k ≤ 255 := by omega
  rw [Int.toNat_natCast]
  clear hi
  obtain ⟨out, hout⟩ : ∃ out, be 1 70 ++ be 1 k ++ be 8 fv ++ be 8 fh = out := ⟨_, rfl⟩
  rw [hout]
  have HO := Lib.hid hout
  clear hout
  go_enter Try.func14, Try.ntmps14
  go_wp2
  obtain ⟨hW, m0, hz⟩ := blk_facts w (.cells #[.int .i64 2, .int .u64 0, .int .u64 0, .int .u64 0, .int .i64 0, .int .u64 0, .int .u64 0, .int .u64 0, .int .i64 k, .int .u64 fv, .int .u64 fh] 30)
  have M0 := Lib.hid m0
  have c8 := cells_of hW 8
  have c9 := cells_of hW 9
  have c10 := cells_of hW 10
  simp only [List.getElem?_toArray, List.getElem?_cons_succ, List.getElem?_cons_zero] at c8 c9 c10
  clear hW m0
  generalize World.alloc w _ = W0 at *
  generalize w.heap.size = g at *
  have i1 : IntKind.u8.wrap (k : Int) = k := by rw [IntKind.wrap_u8]; omega
  go_region_held3 (fun w' => w'.cell? ⟨g, 8, none⟩ = some (.int .i64 k) ∧ w'.cell? ⟨g, 9, none⟩ = some (.int .u64 fv) ∧ w'.cell? ⟨g, 10, none⟩ = some (.int .u64 fh) ∧ Mods noB W0 w')
    ((first | (exact enc_S c8 c9 c10 hz (Mods.refl noB W0).drew) | (go_split_ands; exact enc_S c8 c9 c10 hz (Mods.alloc (by assumption) _)) | (exact enc_S c8 c9 c10 hz hG.mods)))
    ((first
      | (go_at_call 50; refine (hG.put 8 _ (Nat.le_refl _) ?_ ?_).mono ?_; (next => assumption); (next => simp [be_length]); rintro r w' ⟨v', rfl, hG⟩)
      | (go_at_call 50; refine (Grow.put (W0 := W0) (xs := [70, UInt8.ofNat k]) ?_ 8 fv (Nat.le_refl _) b1 (by simp)).mono ?_; (next => go_split_ands; refine Grow.lit _ _ _ _ (heap_new W0 _) (Nat.le_refl _) rfl rfl ?_ ?_; (next => first | (simp [bv]; done) | (simp [bv]; omega)); (next => assumption)); rintro r w' ⟨v', rfl, hG⟩)))
  go_wp2
  go_ret2
  refine ⟨_, rfl, ?_, M0.out.then0 hG.mods, hG.fresh.of M0.out.size⟩
  rw [← HO.out, be_one, be_one]
  exact hG.own

/-- what the reads of a drawn statement need of the item's block -/
theorem enc_S3 {W0 w' : World} {g : Nat} {c8 c9 c10 : Value} (h8 : W0.cell? ⟨g, 1, none⟩ = some c8) (h9 : W0.cell? ⟨g, 2, none⟩ = some c9) (h10 : W0.cell? ⟨g, 3, none⟩ = some c10) (hg : g < W0.heap.size) (hm : Mods noB W0 w') :
    w'.cell? ⟨g, 1, none⟩ = some c8 ∧ w'.cell? ⟨g, 2, none⟩ = some c9 ∧ w'.cell? ⟨g, 3, none⟩ = some c10 ∧ Mods noB W0 w' :=
  ⟨(hm.cellAt hg (fun x => x) 1).trans h8, (hm.cellAt hg (fun x => x) 2).trans h9, (hm.cellAt hg (fun x => x) 3).trans h10, hm⟩

theorem blk_facts2 (w : World) (o o2 : Obj) : ((w.alloc o).alloc o2).heap[w.heap.size]? = some o ∧ ((w.alloc o).alloc o2).heap[w.heap.size + 1]? = some o2 ∧ Mods noB w ((w.alloc o).alloc o2) ∧ w.heap.size < ((w.alloc o).alloc o2).heap.size ∧ w.heap.size + 1 < ((w.alloc o).alloc o2).heap.size := ⟨heap_old (heap_new _ _) _, heap_at _ _ (by simp), ((Mods.refl _ _).alloc _).alloc _, by simp; omega, by simp⟩

set_option maxHeartbeats 8000000 in
theorem rEnc_tx (s q f k a b n : Nat) (w : World) (b1 : s ≤ 18446744073709551615) (b2 : q ≤ 18446744073709551615) (b3 : f ≤ 18446744073709551615) (b4 : a ≤ 18446744073709551615) (b5 : b ≤ 18446744073709551615) (b6 : n ≤ 18446744073709551615)
    (hk1 : 1 ≤ k) (hk2 : k ≤ 10) (ha : usA k = false → a = 0) (hb : usB k = false → b = 0) (hn : usN k = false → n = 0) : Calls Try.prog 14 #[.agg #[.int .i64 1, .int .u64 s, .int .u64 q, .int .u64 f, .int .i64 k, .int .u64 a, .int .u64 b, .int .u64 n, .int .i64 0, .int .u64 0, .int .u64 0]] w
      (BRes w (be 1 84 ++ be 8 s ++ be 8 q ++ be 8 f ++ be 1 k ++ (if usA k then be 8 a else []) ++ (if usB k then be 8 b else []) ++ (if usN k then be 8 n else [])) 0) := by
  have hw := us_ways (k : Int)
  have hok : usK (k : Int) = true := by simp [usK]; omega
  rw [hok] at hw
  have HD := RUses_any (k : Int)
  generalize usA (k : Int) = ua at *
  generalize usB (k : Int) = ub at *
  generalize usN (k : Int) = un at *
  have HD2 := Lib.hid HD
  clear HD hok
  obtain ⟨out, hout⟩ : ∃ out, be 1 84 ++ be 8 s ++ be 8 q ++ be 8 f ++ be 1 k ++ (if ua then be 8 a else []) ++ (if ub then be 8 b else []) ++ (if un then be 8 n else []) = out := ⟨_, rfl⟩
  rw [hout]
  have HO := Lib.hid hout
  clear hout
  have ha' : ua = false → (((a : Nat) : Int) != 0) = false := fun h => by simp [ha h]
  have hb' : ub = false → (((b : Nat) : Int) != 0) = false := fun h => by simp [hb h]
  have hn' : un = false → (((n : Nat) : Int) != 0) = false := fun h => by simp [hn h]
  clear ha hb hn
  have g0 : ¬ (k : Int) < 1 := by omega
  have g1 : ¬ (10 : Int) < (k : Int) := by omega
  have HW := Lib.hid hw
  have HA := Lib.hid ha'
  have HB := Lib.hid hb'
  have HN := Lib.hid hn'
  clear hw ha' hb' hn'
  go_enter Try.func14, Try.ntmps14
  go_upto_region 7 with (go_at_call 16; refine (HD2.out _).mono ?_; rintro r w' ⟨rfl, rfl⟩)
  obtain ⟨hW, hM, m0, hz, hz1⟩ := blk_facts2 w (.cells #[.int .i64 1, .int .u64 s, .int .u64 q, .int .u64 f, .int .i64 k, .int .u64 a, .int .u64 b, .int .u64 n, .int .i64 0, .int .u64 0, .int .u64 0] 30) (.cells #[.int .i64 k, .int .u64 a, .int .u64 b, .int .u64 n] 24)
  have M0 := Lib.hid m0
  have HM := Lib.hid hM
  have cW := cells_of hW
  have cM := cells_of hM
  have c1 := cells_of hW 1
  have c2 := cells_of hW 2
  have c3 := cells_of hW 3
  simp only [List.getElem?_toArray, List.getElem?_cons_succ, List.getElem?_cons_zero] at c1 c2 c3
  clear hW m0 hM
  generalize World.alloc (World.alloc w _) _ = W0 at *
  generalize w.heap.size = g at *
  go_cut [96] (fun x wx => x = .bool false ∧ wx = W0)
  case first =>
    rcases HW.out with ⟨rfl, rfl, rfl, _⟩ | ⟨rfl, rfl, rfl, _⟩ | ⟨rfl, rfl, rfl, _⟩ | ⟨rfl, rfl, rfl, _⟩ | ⟨rfl, rfl, rfl, _⟩ | ⟨_, _, _, h⟩
    case inr.inr.inr.inr.inr => cases h
    all_goals
      try have hA := HA.out rfl
      try have hB := HB.out rfl
      try have hN := HN.out rfl
      go_wp2
      go_meet
      exact ⟨by simp; omega, rfl⟩
  case rest =>
    obtain ⟨rfl, rfl⟩ := hcut
    go_wp2
    go_region_held3 (fun w' => w'.cell? ⟨g, 1, none⟩ = some (.int .u64 s) ∧ w'.cell? ⟨g, 2, none⟩ = some (.int .u64 q) ∧ w'.cell? ⟨g, 3, none⟩ = some (.int .u64 f) ∧ Mods noB wc w')
      ((first | (exact enc_S3 c1 c2 c3 hz (Mods.refl noB wc).drew) | (go_split_ands; exact enc_S3 c1 c2 c3 hz (Mods.alloc (by assumption) _)) | (exact enc_S3 c1 c2 c3 hz hG.mods)))
      ((first
        | (go_at_call 50; refine (hG.put 8 _ (Nat.le_refl _) ?_ ?_).mono ?_; (next => assumption); (next => simp [be_length]); rintro r w' ⟨v', rfl, hG⟩)
        | (go_at_call 50; refine (Grow.put (W0 := wc) (xs := be 1 84) ?_ 8 s (Nat.le_refl _) b1 (by simp [be_length])).mono ?_; (next => go_split_ands; refine Grow.lit _ _ _ _ (heap_new wc _) (Nat.le_refl _) rfl rfl ?_ ?_; (next => rfl); (next => assumption)); rintro r w' ⟨v', rfl, hG⟩)))
    have HG := Lib.hid hG
    have cM := Mods.cellsAt HG.out.mods HM.out
    clear c1 c2 c3 cW
    clear hG
    go_wp2_with (at_builtin; refine stop ?_)
    unfold Stop
    refine wpList_apb rfl rfl _ [UInt8.ofNat k] (HG.out.own.alloc _) (own_atI (UInt8.ofNat k) (by simp; omega) _ rfl).rd rfl rfl (by simp [be_length]) ?_
    intro v2 w2 o2 m2 f2
    replace HG := Lib.hid ((HG.out.then0 ((Mods.refl noB w').alloc _)).more o2 m2 f2)
    clear o2 m2 f2 cM
    have cM := Mods.cellsAt HG.out.mods HM.out
    go_wp2_with (go_at_call 50; refine (HG.out.put 8 _ (Nat.le_refl _) ?_ ?_).mono ?_; (next => assumption); (next => simp [be_length]); rintro r w' ⟨v', rfl, hG⟩; replace HG := Lib.hid hG; clear hG cM; have cM := Mods.cellsAt HG.out.mods HM.out)
    all_goals
      go_ret2
      refine ⟨_, rfl, ?_, M0.out.then0 HG.out.mods, HG.out.fresh.of M0.out.size⟩
      rw [← HO.out]
      have := HG.out.own
      clear cM HG HD2 HW HA HB HN HM M0 HO
      simpa [be_one, *] using this

set_option maxHeartbeats 8000000 in
theorem rEnc_no1 (i : Itm) (w : World) (h : ¬ i.mayT) (hk : i.kind = 1) : Calls Try.prog 14 #[.agg i.cells] w (BRes w [] 170) := by
  have HN := Lib.hid h
  clear h
  unfold Itm.cells
  unfold Itm.mayT Itm.ftZero at HN
  obtain ⟨kind, s, q, f, m, a, b, n, fk, fv, fh⟩ := i
  simp only at hk HN ⊢
  subst hk
  have HD := Lib.hid (RUses_any m)
  generalize usA m = ua at *
  generalize usB m = ub at *
  generalize usN m = un at *
  go_enter Try.func14, Try.ntmps14
  go_wp2_with (go_at_call 16; refine (HD.out _).mono ?_; rintro r w' ⟨rfl, rfl⟩)
  all_goals first
    | (go_ret2; exact ⟨_, rfl, Own.nil _, (by repeat' (first | (with_reducible exact Mods.refl _ _) | (with_reducible assumption) | (with_reducible refine Mods.alloc ?_ _) | (with_reducible refine Mods.drew ?_) | (with_reducible refine Mods.drewN ?_ _) | (with_reducible refine Mods.regrown ?_ _ _) | (with_reducible refine Mods.setCell ?_ ?_ _) | (refine .inr ?_; first | (simp; done) | (simp; omega) | omega))), freshIn.nil _⟩)
    | (exfalso; have := HN.out; simp_all; done)
    | (exfalso; have := HN.out; simp_all; omega)
    | trace_state

theorem rEnc_no2 (i : Itm) (w : World) (h1 : i.kind ≠ 1) (h2 : i.kind ≠ 2) : Calls Try.prog 14 #[.agg i.cells] w (BRes w [] 170) := by
  unfold Itm.cells
  obtain ⟨kind, s, q, f, m, a, b, n, fk, fv, fh⟩ := i
  simp only at h1 h2 ⊢
  have b1 : (kind == 2) = false := by simp [h2]
  have b2 : (kind != 1) = true := by simp [h1]
  have HD := Lib.hid (RUses_any m)
  clear h1 h2
  generalize usA m = ua at *
  generalize usB m = ub at *
  generalize usN m = un at *
  go_enter Try.func14, Try.ntmps14
  go_wp2_with (go_at_call 16; refine (HD.out _).mono ?_; rintro r w' ⟨rfl, rfl⟩)
  go_ret2
  exact ⟨_, rfl, Own.nil _, (by repeat' (first | (with_reducible exact Mods.refl _ _) | (with_reducible assumption) | (with_reducible refine Mods.alloc ?_ _) | (with_reducible refine Mods.drew ?_) | (with_reducible refine Mods.drewN ?_ _) | (with_reducible refine Mods.regrown ?_ _ _) | (with_reducible refine Mods.setCell ?_ ?_ _) | (refine .inr ?_; first | (simp; done) | (simp; omega) | omega))), freshIn.nil _⟩

theorem rEnc_any (i : Itm) (w : World) (hi : i.Fits) : Calls Try.prog 14 #[.agg i.cells] w (BRes w (if mayB i then i.bytes else []) (if mayB i then 0 else 170)) := by
  unfold mayB Itm.bytes
  by_cases h1 : i.kind = 1
  · rw [if_pos h1]
    by_cases h : i.mayT
    · simp only [decide_eq_true h, if_true]
      rw [if_neg (by omega)]
      obtain ⟨⟨k1, k2⟩, ⟨k3, k4, k5⟩, k6, k7, k8⟩ := h
      unfold Itm.cells Itm.bytesT
      obtain ⟨kind, s, q, f, m, a, b, n, fk, fv, fh⟩ := i
      have b1 := hi.s
      have b2 := hi.q
      have b3 := hi.f
      have b4 := hi.a
      have b5 := hi.b
      have b6 := hi.n
      simp only at h1 k1 k2 k3 k4 k5 k6 k7 k8 b1 b2 b3 b4 b5 b6 ⊢
      subst h1 k6 k7 k8
      obtain ⟨k, rfl⟩ := Int.eq_ofNat_of_zero_le (show 0 ≤ m by omega)
      rw [Int.toNat_natCast]
      exact rEnc_tx s q f k a b n w b1 b2 b3 b4 b5 b6 (by omega) (by omega) k3 k4 k5
    · simp only [decide_eq_false h, Bool.false_eq_true, if_false]
      exact rEnc_no1 i w h h1
  · rw [if_neg h1]
    by_cases h2 : i.kind = 2
    · rw [if_pos h2]
      by_cases h : i.mayF
      · simp only [decide_eq_true h, if_true]
        rw [if_pos h2]
        exact rEnc_fault i w hi h h2
      · simp only [decide_eq_false h, Bool.false_eq_true, if_false]
        exact rEnc_fno i w h h2
    · rw [if_neg h2]
      simp only [Bool.false_eq_true, if_false]
      exact rEnc_no2 i w h1 h2

end Go.Proofs.Ytebknplbghcemaa

/- gleanlaw5.same; the reference's maps beside the program's own. -/
import Derived.Test.YtjlomnhngngkiaaPgQk
import Derived.Test.YtjlomnhngngkiaaPgSh
namespace Go.Proofs.Ytjlomnhngngkiaa
open Go.Gl Go.RowKit
set_option linter.unusedVariables false
set_option maxRecDepth 100000

theorem qn_set {w0 w : World} {g : Nat} {vo kv vv : Value} {R : List PV} {ps : Pgs} {k v : List UInt8} (h : QN w0 w g vo R ps) (hk : Rd w kv k) (hv : Rd w vv v) (lk : k.length ≤ 1000000) (lv : v.length ≤ 1000000) (ok : PgOk ps) (hn : ps.length ≤ 1000000) :
    Calls Try.prog 13 #[.pointer (some ⟨g, 0, none⟩), kv, vv] w fun e w' => e = .returned (.bool (newP ps k)) ∧ ∃ vo' R', QN w0 w' g vo' R' (setP ps k v) ∧ QT w w' g vo R vo' R' := by
  have e := h.eq
  refine (rSet_any h.pm hk hv lk lv (by rw [e]; exact ok) (by rw [h.rl]; exact hn)).mono ?_
  rintro r w' ⟨vo', R', rfl, t, e2⟩
  rw [e] at e2 ⊢
  exact ⟨rfl, vo', R', h.pt t e2, t⟩
theorem qn_del {w0 w : World} {g : Nat} {vo kv : Value} {R : List PV} {ps : Pgs} {k : List UInt8} (h : QN w0 w g vo R ps) (hk : Rd w kv k) (ok : PgOk ps) (hn : ps.length ≤ 1000000) :
    Calls Try.prog 15 #[.pointer (some ⟨g, 0, none⟩), kv] w fun e w' => e = .returned (.bool (findP ps k).2.2) ∧ ∃ vo' R', QN w0 w' g vo' R' (delP ps k) ∧ QT w w' g vo R vo' R' := by
  have e := h.eq
  refine (rDelete_any h.pm hk (by rw [e]; exact ok) (by rw [h.rl]; exact hn)).mono ?_
  rintro r w' ⟨vo', R', rfl, t, e2⟩
  rw [e] at e2 ⊢
  exact ⟨rfl, vo', R', h.pt t e2, t⟩
theorem qn_get {w0 w : World} {g : Nat} {vo kv : Value} {R : List PV} {ps : Pgs} {k : List UInt8} (h : QN w0 w g vo R ps) (hk : Rd w kv k) (ok : PgOk ps) (hn : ps.length ≤ 1000000) :
    Calls Try.prog 17 #[.pointer (some ⟨g, 0, none⟩), kv] w fun e w' => ∃ v', e = .returned (.tuple #[v', .bool (getP ps k).isSome]) ∧ Gl.Own w' v' ((getP ps k).getD []) ∧ Mods noB w w' ∧ freshIn w v' := by
  have := rGet_any h.pm hk (by rw [h.eq]; exact ok) (by rw [h.rl]; exact hn)
  rw [h.eq] at this
  exact this
theorem qn_shape {w0 w : World} {g : Nat} {vo : Value} {R : List PV} {ps : Pgs} (h : QN w0 w g vo R ps) (hn : ps.length ≤ 1000000) :
    Calls Try.prog 46 #[.pointer (some ⟨g, 0, none⟩)] w fun e w' => ∃ v', e = .returned v' ∧ IG w (ps.map List.length) w' v' := by
  have := Shape_any h.pm (by rw [h.rl]; exact hn)
  rw [h.eq] at this
  exact this
theorem qn_all {w0 w : World} {g : Nat} {vo : Value} {R : List PV} {ps : Pgs} (h : QN w0 w g vo R ps) (hn : ps.length ≤ 1000000) (hc : cnt ps ≤ 100000000) :
    Calls Try.prog 45 #[.pointer (some ⟨g, 0, none⟩)] w fun e w' => ∃ v' L, e = .returned v' ∧ GrP w w' v' L ∧ PRow w' v' L ∧ L.map EV.ent = ps.flatten := by
  refine (All_any h.pm (by rw [h.rl]; exact hn) (by rw [h.eq]; exact hc)).mono ?_
  rintro e w' ⟨v', rfl, gr⟩
  exact ⟨v', _, rfl, gr, gr.row1 h.pm.allE1, by rw [allE_ent, h.eq]⟩
theorem qn_walk {w0 w : World} {g : Nat} {vo fv tv : Value} {R : List PV} {ps : Pgs} {xs ts : List UInt8} (h : QN w0 w g vo R ps) (hf : Rd w fv xs) (ht : Rd w tv ts) (hn : ps.length ≤ 1000000) (hc : cnt ps ≤ 100000000) :
    Calls Try.prog 23 #[.pointer (some ⟨g, 0, none⟩), fv, tv] w fun e w' => ∃ v' L, e = .returned v' ∧ GrP w w' v' L ∧ PRow w' v' L ∧ L.map EV.ent = ps.flatten.filter (btw xs ts) := by
  refine (rWalk_any h.pm hf ht (by rw [h.rl]; exact hn) (by rw [h.eq]; exact hc)).mono ?_
  rintro e w' ⟨v', rfl, gr⟩
  refine ⟨v', _, rfl, gr, gr.row1 (fun e he => h.pm.allE1 e (List.mem_filter.1 he).1), ?_⟩
  rw [← h.eq, ← allE_ent, List.filter_map]
  rfl
theorem qn_copy {w0 w : World} {g : Nat} {vo : Value} {R : List PV} {ps : Pgs} (h : QN w0 w g vo R ps) (ok : PgOk ps) (hn : ps.length ≤ 900000) :
    Calls Try.prog 25 #[.pointer (some ⟨g, 0, none⟩)] w fun e w' => ∃ c vo' R', e = .returned (.pointer (some ⟨c, 0, none⟩)) ∧ QN w0 w' c vo' R' ps ∧ Mods noB w w' ∧ (∀ k, MS c vo' R' k → w.heap.size ≤ k) ∧ (∀ k, MD R' k → MD R k) := by
  have e := h.eq
  have hq : ∀ q ∈ R, ents q.es ∈ ps := fun q hq => by rw [← e]; exact List.mem_map_of_mem (f := fun p : PV => ents p.es) hq
  refine (rCopy_any h.pm (fun q hq' x => ok.ne _ (hq q hq') (by rw [x]; rfl)) (by rw [h.rl]; exact hn) (fun q hq' => by have := ok.most _ (hq q hq'); rwa [ents_length] at this)).mono ?_
  rintro r w' ⟨c, vo', R', rfl, p, es, m, f⟩
  have hp : pgs R' = ps := by
    rw [← e]
    have : ∀ R : List PV, pgs R = (R.map (·.es)).map ents := fun R => by rw [List.map_map]; rfl
    rw [this, this, es]
  exact ⟨c, vo', R', rfl, ⟨p, hp, h.mods.then0 m, fun k hk => by have := f k hk; have := h.mods.size; omega⟩, m, f, fun k hk => md_same es hk⟩
theorem kn_copy2 {w0 w : World} {g : Nat} {vo : Value} {R : List PV} {ps : Pgs} (h : KN w0 w g vo R ps) (ok : PgOk ps) (hn : ps.length ≤ 900000) :
    Calls Try.prog 24 #[.pointer (some ⟨g, 0, none⟩)] w fun e w' => ∃ c vo' R', e = .returned (.pointer (some ⟨c, 0, none⟩)) ∧ KN w0 w' c vo' R' ps ∧ Mods noB w w' ∧ (∀ k, MS c vo' R' k → w.heap.size ≤ k) ∧ (∀ k, MD R' k → MD R k) := by
  have e := h.eq
  have hq : ∀ q ∈ R, ents q.es ∈ ps := fun q hq => by rw [← e]; exact List.mem_map_of_mem (f := fun p : PV => ents p.es) hq
  refine (Copy_any h.pm (fun q hq' x => ok.ne _ (hq q hq') (by rw [x]; rfl)) (by rw [h.rl]; exact hn) (fun q hq' => by have := ok.most _ (hq q hq'); rwa [ents_length] at this)).mono ?_
  rintro r w' ⟨c, vo', R', rfl, p, es, m, f⟩
  have hp : pgs R' = ps := by
    rw [← e]
    have : ∀ R : List PV, pgs R = (R.map (·.es)).map ents := fun R => by rw [List.map_map]; rfl
    rw [this, this, es]
  exact ⟨c, vo', R', rfl, ⟨p, hp, h.mods.then0 m, fun k hk => by have := f k hk; have := h.mods.size; omega⟩, m, f, fun k hk => md_same es hk⟩

set_option maxHeartbeats 8000000 in
theorem same_any {w0 w : World} {g h : Nat} {vo wo : Value} {R Q : List PV} {ps : Pgs} (hk : KN w0 w g vo R ps) (hq : QN w0 w h wo Q ps) (ok : PgOk ps) (hn : ps.length ≤ 100000) (hc : cnt ps ≤ 100000) :
    Calls Try.prog 26 #[.pointer (some ⟨g, 0, none⟩), .pointer (some ⟨h, 0, none⟩)] w fun e w' => e = .returned (.bool true) ∧ Mods noB w w' := by
  have HK := Lib.hid hk
  have HQ := Lib.hid hq
  have OK := Lib.hid ok
  have HN := Lib.hid hn
  have HC := Lib.hid hc
  obtain ⟨N, hcn⟩ : ∃ N, cnt ps = N := ⟨_, rfl⟩
  have HCN := Lib.hid hcn
  obtain ⟨l, hl⟩ : ∃ l, ps.map List.length = l := ⟨_, rfl⟩
  have HL := Lib.hid hl
  obtain ⟨n, hnn⟩ : ∃ n, ps.length = n := ⟨_, rfl⟩
  have HNN := Lib.hid hnn
  have hll : l.length = n := by rw [← hl, List.length_map, hnn]
  have HLL := Lib.hid hll
  clear hk hq ok hn hc hl hnn hll hcn
  go_enter Try.func26, Try.ntmps26
  go_wp2_with fail
  refine (kn_pages HK.out (by have := HN.out; omega)).mono ?_
  rintro e w1 ⟨pv, rfl, i1⟩
  rw [HL.out] at i1
  have I1 := Lib.hid i1
  obtain ⟨pa, pc, rfl, _⟩ := i1.own.rd.form
  rw [HLL.out] at I1 ⊢
  clear i1
  go_wp2_with fail
  refine (qn_shape (HQ.out.then0 I1.out.mods) (by have := HN.out; omega)).mono ?_
  rintro e w2 ⟨qv, rfl, i2⟩
  rw [HL.out] at i2
  have I2 := Lib.hid i2
  obtain ⟨qa, qc, rfl, _⟩ := i2.own.rd.form
  have M2 := Lib.hid (I1.out.mods.then0 i2.mods)
  have J1 := Lib.hid (I1.out.then0 i2.mods)
  clear i2
  go_wp2_with fail
  refine (HInt_true (xs := l) J1.out.own.rd I2.out.own.rd).mono ?_
  rintro e w3 ⟨rfl, m3⟩
  have M3 := Lib.hid (M2.out.then0 m3)
  have J3 := Lib.hid (J1.out.then0 m3)
  clear m3 M2 J1 I1 I2
  go_wp2_with fail
  refine (kn_len (HK.out.then0 M3.out)).mono ?_
  rintro e w4 ⟨rfl, rfl⟩
  rw [HCN.out]
  go_wp2_with fail
  refine (qn_all (HQ.out.then0 M3.out) (by have := HN.out; omega) (by have := HC.out; omega)).mono ?_
  rintro e w4 ⟨v4, L4, rfl, g4, _, e4⟩
  obtain ⟨a4, c4, rfl, _⟩ := g4.row.rd.form
  have e5 : L4.length = N := by
    have := congrArg List.length e4
    rw [List.length_map] at this
    rw [this, ← HCN.out]
    rfl
  rw [e5]
  have M4 := Lib.hid (M3.out.then0 g4.mods)
  have J4 := Lib.hid (J3.out.then0 g4.mods)
  clear g4 e4 e5 J3 M3
  go_wp2
  go_loopw [6] (fun i wr => ∃ k : Nat, k ≤ n ∧ i = .int .i64 k ∧ Hid ((∃ xs, OwnG wr 3 1 (.slice pa n pc) n xs) ∧ Mods (ofV (.slice pa n pc)) w4 wr)) (fun i _ => n - (intOf i).toNat)
  case atStart => exact ⟨0, Nat.zero_le _, rfl, Lib.hid ⟨⟨_, by have := J4.out.own; rw [HLL.out] at this; exact this⟩, Mods.refl _ _⟩⟩
  case round =>
    obtain ⟨k, hk, rfl, hI⟩ := hrel
    by_cases hlt : k < n
    · obtain ⟨⟨xs, ho⟩, hm⟩ := hI.out
      rcases ho.ob with ⟨_, h2, _⟩ | ⟨b, off, cap, hv, ob⟩
      · omega
      obtain ⟨rfl, rfl⟩ : pa = some ⟨b, off, none⟩ ∧ pc = cap := by simpa using hv
      obtain ⟨u1, d1⟩ := Option.isSome_iff_exists.1 (ob.there (j := k) (by have := ob.hn; omega))
      have d2 := ob.free (off + k)
      have hki : (k : Int) < (n : Int) := by omega
      have hkB : (k : Int) < 100000 := by have := HN.out; have := HNN.out; omega
      have I2 := Lib.hid (And.intro (show ∃ xs, OwnG (wr.setCell ⟨b, off + k, none⟩ (.int .i64 (-1))) 3 1 (.slice (some ⟨b, off, none⟩) n pc) n xs from ⟨_, (ob_set1 ob hlt (.int .i64 (-1))).own⟩) (hm.setCell (p := ⟨b, off + k, none⟩) (.inl rfl) (.int .i64 (-1))))
      clear ho hm ob hv hI
      go_wp2
      go_roundw
      case rel => exact ⟨k + 1, by omega, by go_num, I2⟩
      case measure => simp [intOf]; omega
    · obtain rfl : k = n := by omega
      have mw : Mods noB w wr := M4.out.trans hI.out.2 (fun _ _ x => x) (fun i hi x => by have := J4.out.fresh i x; omega)
      have MW := Lib.hid mw
      clear mw hI J4 M4
      go_wp2_with fail
      refine (kn_walked (n := 1073741824) (back := false) (HK.out.then0 MW.out) (Rd.nil _) (Rd.nil _) (by simp) (by simp) OK.out (by have := HN.out; omega) (by have := HC.out; omega)).mono ?_
      rintro e w6 ⟨v6, L6, rfl, q6, l6⟩
      rw [wlk_all, List.take_of_length_le (by show cnt ps ≤ _; have := HC.out; omega)] at l6
      have Q6 := Lib.hid q6
      have L6' := Lib.hid l6
      obtain ⟨a6, c6, rfl, _⟩ := q6.row.rd.form
      have M6 := Lib.hid (MW.out.then0 q6.mods)
      clear q6 l6 MW
      go_wp2_with fail
      refine (qn_all (HQ.out.then0 M6.out) (by have := HN.out; omega) (by have := HC.out; omega)).mono ?_
      rintro e w7 ⟨v7, L7, rfl, g7, p7, e7⟩
      obtain ⟨a7, c7, rfl, _⟩ := g7.row.rd.form
      have hle : L6.length ≤ 1000000 := by
        have := congrArg List.length L6'.out
        rw [List.length_map] at this
        rw [this]
        show cnt ps ≤ _
        have := HC.out
        omega
      have P := Lib.hid (Pairs_true (Q6.out.prow.keep0 g7.mods) p7 (by rw [L6'.out, e7]) hle)
      have M7 := Lib.hid (M6.out.then0 g7.mods)
      clear g7 p7 e7 hle Q6 L6' M6
      go_wp2_with fail
      refine P.out.mono ?_
      rintro e w8 ⟨rfl, m8⟩
      go_wp2
      go_ret
      exact ⟨rfl, M7.out.then0 m8⟩

end Go.Proofs.Ytjlomnhngngkiaa

/- gleanlaw5.known: the chapter's examples hold. -/
import Derived.Test.YtjlomnhngngkiaaPgKp
import Derived.Test.YtjlomnhngngkiaaPgHI
import Derived.Test.YtjlomnhngngkiaaPgK
import Derived.Deep.DeepCutAuto
namespace Go.Proofs.Ytjlomnhngngkiaa
open Go.Gl Go.RowKit
set_option linter.unusedVariables false
set_option maxRecDepth 100000

/-- a map of our own making -/
structure KN (w0 w : World) (g : Nat) (vo : Value) (R : List PV) (ps : Pgs) : Prop where
  pm : PM w g vo R
  eq : pgs R = ps
  mods : Mods noB w0 w
  own : ∀ k, MS g vo R k → w0.heap.size ≤ k
theorem KN.then0 {w0 w w' : World} {g : Nat} {vo : Value} {R : List PV} {ps : Pgs} (h : KN w0 w g vo R ps) (m : Mods noB w w') : KN w0 w' g vo R ps := ⟨h.pm.keep0 m, h.eq, h.mods.then0 m, h.own⟩
theorem KN.pt {w0 w w' : World} {g : Nat} {vo vo' : Value} {R R' : List PV} {ps qs : Pgs} (h : KN w0 w g vo R ps) (t : PT w w' g vo R vo' R') (e : pgs R' = qs) : KN w0 w' g vo' R' qs :=
  ⟨t.pm, e, h.mods.trans t.mods (fun _ _ x => x) (fun i hi x => by have := h.own i x; omega), fun k hk => by
    rcases t.ms k hk with x | x
    · exact h.own k x
    · have := h.mods.size; omega⟩
theorem KN.rl {w0 w : World} {g : Nat} {vo : Value} {R : List PV} {ps : Pgs} (h : KN w0 w g vo R ps) : R.length = ps.length := by rw [← h.eq, pgs_length]

theorem kn_set {w0 w : World} {g : Nat} {vo kv vv : Value} {R : List PV} {ps : Pgs} {k v : List UInt8} (h : KN w0 w g vo R ps) (hk : Rd w kv k) (hv : Rd w vv v) (lk : k.length ≤ 1000000) (lv : v.length ≤ 1000000) (ok : PgOk ps) (hn : ps.length ≤ 1000000) (hc : cnt ps ≤ 1000000000) :
    Calls Try.prog 12 #[.pointer (some ⟨g, 0, none⟩), kv, vv] w fun e w' => e = .returned (.bool (newP ps k)) ∧ ∃ vo' R', KN w0 w' g vo' R' (setP ps k v) ∧ PT w w' g vo R vo' R' := by
  have e := h.eq
  refine (Set_any h.pm hk hv lk lv (by rw [e]; exact ok) (by rw [h.rl]; exact hn) (by rw [e]; exact hc)).mono ?_
  rintro r w' ⟨vo', R', rfl, t, e2⟩
  rw [e] at e2 ⊢
  exact ⟨rfl, vo', R', h.pt t e2, t⟩
theorem kn_del {w0 w : World} {g : Nat} {vo kv : Value} {R : List PV} {ps : Pgs} {k : List UInt8} (h : KN w0 w g vo R ps) (hk : Rd w kv k) (ok : PgOk ps) (hn : ps.length ≤ 1000000) (hc : cnt ps ≤ 1000000000) :
    Calls Try.prog 14 #[.pointer (some ⟨g, 0, none⟩), kv] w fun e w' => e = .returned (.bool (findP ps k).2.2) ∧ ∃ vo' R', KN w0 w' g vo' R' (delP ps k) ∧ PT w w' g vo R vo' R' := by
  have e := h.eq
  refine (Delete_any h.pm hk (by rw [e]; exact ok) (by rw [h.rl]; exact hn) (by rw [e]; exact hc)).mono ?_
  rintro r w' ⟨vo', R', rfl, t, e2⟩
  rw [e] at e2 ⊢
  exact ⟨rfl, vo', R', h.pt t e2, t⟩
theorem kn_get {w0 w : World} {g : Nat} {vo kv : Value} {R : List PV} {ps : Pgs} {k : List UInt8} (h : KN w0 w g vo R ps) (hk : Rd w kv k) (ok : PgOk ps) (hn : ps.length ≤ 1000000) :
    Calls Try.prog 16 #[.pointer (some ⟨g, 0, none⟩), kv] w fun e w' => ∃ v', e = .returned (.tuple #[v', .bool (getP ps k).isSome]) ∧ Gl.Own w' v' ((getP ps k).getD []) ∧ Mods noB w w' ∧ freshIn w v' := by
  have := Get_any h.pm hk (by rw [h.eq]; exact ok) (by rw [h.rl]; exact hn)
  rw [h.eq] at this
  exact this
theorem kn_pages {w0 w : World} {g : Nat} {vo : Value} {R : List PV} {ps : Pgs} (h : KN w0 w g vo R ps) (hn : ps.length ≤ 1000000) :
    Calls Try.prog 30 #[.pointer (some ⟨g, 0, none⟩)] w fun e w' => ∃ v', e = .returned v' ∧ IG w (ps.map List.length) w' v' := by
  have := Pages_any h.pm (by rw [h.rl]; exact hn)
  rw [h.eq] at this
  exact this
theorem kn_len {w0 w : World} {g : Nat} {vo : Value} {R : List PV} {ps : Pgs} (h : KN w0 w g vo R ps) : Calls Try.prog 29 #[.pointer (some ⟨g, 0, none⟩)] w fun e w' => e = .returned (.int .i64 (cnt ps : Nat)) ∧ w' = w := by
  have := Len_any h.pm
  rw [h.eq] at this
  exact this
theorem kn_walked {w0 w : World} {g n : Nat} {vo fv tv : Value} {R : List PV} {ps : Pgs} {xs ts : List UInt8} {back : Bool} (h : KN w0 w g vo R ps) (hf : Rd w fv xs) (ht : Rd w tv ts) (lx : xs.length ≤ 1000000) (lt : ts.length ≤ 1000000) (ok : PgOk ps) (hn : ps.length ≤ 1000000) (hc : cnt ps ≤ 100000000) :
    Calls Try.prog 21 #[.pointer (some ⟨g, 0, none⟩), fv, tv, .bool back, .int .i64 (n : Nat)] w fun e w' => ∃ v L, e = .returned v ∧ WkGot w w' v L ∧ L.map EV.ent = (wlk ps xs ts back).take n := by
  have := walked_any (n := n) (back := back) h.pm hf ht lx lt (by rw [h.eq]; exact ok) (by rw [h.rl]; exact hn) (by rw [h.eq]; exact hc)
  rw [h.eq] at this
  exact this

/-- two maps share no block that one of them turns -/
def ApM (g : Nat) (vo : Value) (R : List PV) (h : Nat) (vo2 : Value) (R2 : List PV) : Prop := (∀ k, MS g vo R k → ¬ MS h vo2 R2 k) ∧ (∀ k, MD R k → ¬ MS h vo2 R2 k) ∧ (∀ k, MD R2 k → ¬ MS g vo R k)
theorem ApM.symm {g : Nat} {vo : Value} {R : List PV} {h : Nat} {vo2 : Value} {R2 : List PV} (a : ApM g vo R h vo2 R2) : ApM h vo2 R2 g vo R := ⟨fun k x y => a.1 k y x, a.2.2, a.2.1⟩
theorem PT.apart {w w' : World} {g h : Nat} {vo vo' vo2 : Value} {R R' R2 : List PV} (t : PT w w' g vo R vo' R') (p : PM w h vo2 R2) (a : ApM g vo R h vo2 R2) : PM w' h vo2 R2 ∧ ApM g vo' R' h vo2 R2 := by
  refine ⟨p.keep t.mods (fun k hk x => a.1 k x hk) (fun k hk x => a.2.2 k hk x), fun k hk x => ?_, fun k hk x => ?_, fun k hk x => ?_⟩
  · rcases t.ms k hk with y | y
    · exact a.1 k y x
    · have := p.lt k x; omega
  · rcases t.md k hk with y | y
    · exact a.2.1 k y x
    · have := p.lt k x; omega
  · rcases t.ms k x with y | y
    · exact a.2.2 k hk y
    · have := p.dlt k hk; omega
theorem md_same {R R' : List PV} (h : R'.map (·.es) = R.map (·.es)) {k : Nat} (hk : MD R' k) : MD R k := by
  obtain ⟨p, hp, e, he, hk⟩ := hk
  have : p.es ∈ R.map (·.es) := by rw [← h]; exact List.mem_map_of_mem hp
  obtain ⟨q, hq, hqe⟩ := List.mem_map.1 this
  exact ⟨q, hq, e, by rw [hqe]; exact he, hk⟩
theorem kn_copy {w0 w : World} {g : Nat} {vo : Value} {R : List PV} {ps : Pgs} (h : KN w0 w g vo R ps) (ok : PgOk ps) (hn : ps.length ≤ 900000) :
    Calls Try.prog 24 #[.pointer (some ⟨g, 0, none⟩)] w fun e w' => ∃ c vo' R', e = .returned (.pointer (some ⟨c, 0, none⟩)) ∧ KN w0 w' c vo' R' ps ∧ KN w0 w' g vo R ps ∧ ApM g vo R c vo' R' ∧ Mods noB w w' := by
  have e := h.eq
  have hq : ∀ q ∈ R, ents q.es ∈ ps := fun q hq => by rw [← e]; exact List.mem_map_of_mem (f := fun p : PV => ents p.es) hq
  refine (Copy_any h.pm (fun q hq' x => ok.ne _ (hq q hq') (by rw [x]; rfl)) (by rw [h.rl]; exact hn) (fun q hq' => by have := ok.most _ (hq q hq'); rwa [ents_length] at this)).mono ?_
  rintro r w' ⟨c, vo', R', rfl, p, es, m, f⟩
  have hp : pgs R' = ps := by
    rw [← e]
    have : ∀ R : List PV, pgs R = (R.map (·.es)).map ents := fun R => by rw [List.map_map]; rfl
    rw [this, this, es]
  refine ⟨c, vo', R', rfl, ⟨p, hp, h.mods.then0 m, fun k hk => by have := f k hk; have := h.mods.size; omega⟩, h.then0 m, ⟨fun k hk x => ?_, fun k hk x => ?_, fun k hk x => ?_⟩, m⟩
  · have := h.pm.lt k hk; have := f k x; omega
  · have := h.pm.dlt k hk; have := f k x; omega
  · exact h.pm.data k (md_same es hk) x

theorem kF1' {i : Nat} (h : i < 33) : newP (kset i) (bt i) = true ∧ (kset i).length ≤ 100 ∧ cnt (kset i) ≤ 100 := by
  have := List.all_eq_true.1 kF1 i (List.mem_range.2 h)
  simpa [and_assoc] using this
theorem kF3' {i : Nat} (h : i < 17) : (findP (kdel i) (bt (32 - i))).2.2 = true ∧ (kdel i).length ≤ 100 ∧ cnt (kdel i) ≤ 100 := by
  have := List.all_eq_true.1 kF3 i (List.mem_range.2 h)
  simpa [and_assoc] using this
/-- a new list of one byte -/
theorem rd_lit {w : World} {h : Nat} {x : Int} {b : UInt8} (hh : w.heap[h]? = some (.cells #[.int .u8 x] 5 (0, 0))) (hx : x = (b.toNat : Int)) : Rd w (.slice (some ⟨h, 0, none⟩) 1 1) [b] := by
  subst hx
  exact (ob_new1 hh).own.rd

theorem PBytes_true {x y : Value} {xs : List UInt8} {w : World} (hx : Rd w x xs) (hy : Rd w y xs) : Calls Try.prog 18 #[x, y] w fun e w' => e = .returned (.bool true) ∧ Mods noB w w' :=
  (Bytes_any hx hy).mono fun e w' ⟨he, hq⟩ => ⟨by rw [he]; simp, hq.mods _⟩
theorem two_ints {w : World} {h : Nat} {a b : Nat} (hh : w.heap[h]? = some (.cells #[.int .i64 a, .int .i64 b] 3 (0, 0))) : RdM i64n w (.slice (some ⟨h, 0, none⟩) 2 2) [a, b] :=
  (show OB w 3 1 h 0 2 2 [.int .i64 a, .int .i64 b] from ⟨rfl, Nat.le_refl _, by simp [maxLen], _, hh, by simp, fun j x hj => by rw [Nat.zero_add]; simpa using hj⟩).own.rd
theorem one_int {w : World} {h : Nat} {a : Nat} (hh : w.heap[h]? = some (.cells #[.int .i64 a] 3 (0, 0))) : RdM i64n w (.slice (some ⟨h, 0, none⟩) 1 1) [a] := (ob_new1 hh).own.rd

theorem WkGot.keep {w w' w'' : World} {v : Value} {L : List EV} (h : WkGot w w' v L) (hm : Mods noB w' w'') : WkGot w w'' v L :=
  ⟨h.row.keep hm (fun _ _ x => x), fun e he => ⟨(h.own e he).1.keep hm (fun _ _ x => x), (h.own e he).2.keep hm (fun _ _ x => x)⟩, h.vf, h.df, h.mods.then0 hm⟩
theorem WkGot.first {w w' : World} {v : Value} {L : List EV} {a : Nat} {x : List UInt8} {y : Ent} (h : WkGot w w' v L) (e : L.map EV.ent = [(bt a, x), y]) :
    ∃ b off cap kb ko kc, v = .slice (some ⟨b, off, none⟩) 2 cap ∧ w'.cell? ⟨b, off, none⟩ = some (.slice (some ⟨kb, ko, none⟩) 1 kc) ∧ w'.cell? ⟨kb, ko, none⟩ = some (.int .u8 ((UInt8.ofNat a).toNat : Nat)) := by
  have hl : L.length = 2 := by have := congrArg List.length e; simpa using this
  rcases L with _ | ⟨e1, _ | ⟨e2, _ | ⟨e3, L⟩⟩⟩
  · simp at hl
  · simp at hl
  · have hk : e1.k = bt a := by
      have h1 := congrArg List.head? e
      simp only [List.map_cons, List.head?_cons, Option.some.injEq] at h1
      exact congrArg Prod.fst h1
    rcases h.row.ob with ⟨_, hz, _⟩ | ⟨b, off, cap, hv, ob⟩
    · simp at hz
    have c0 := ob.cell (j := 0) (u := e1.kv) rfl
    rw [Nat.add_zero] at c0
    have hr := (h.own e1 (List.mem_cons_self ..)).1.rd
    rw [hk] at hr
    rcases hr.open with ⟨_, h0⟩ | ⟨kb, ko, kc, hv2, _, _, _, hc⟩
    · exact absurd h0 (by simp [bt])
    · have := hc 0 (by simp [bt])
      rw [Nat.add_zero] at this
      refine ⟨b, off, cap, kb, ko, kc, hv, ?_, this⟩
      rw [c0, hv2]
      rfl
  · simp at hl

set_option maxHeartbeats 8000000 in
theorem pknown_any (w : World) : Calls Try.prog 7 #[] w fun e w' => e = .returned (.bool true) ∧ Mods noB w w' := by
  go_enter Try.func7, Try.ntmps7
  go_wp2_with fail
  refine (New_any w).mono ?_
  rintro e w1 ⟨g, rfl, pm, m1, hg⟩
  have K0 := Lib.hid (show KN w w1 g (.slice none 0 0) [] (kset 0) from ⟨pm, kset_zero.symm, m1, fun k hk => by
    rcases hk with rfl | hk | ⟨p, hp, _⟩
    · exact hg
    · simp [Value.ownBlock] at hk
    · exact (List.not_mem_nil hp).elim⟩)
  clear pm m1 hg
  go_wp2
  go_loopw [2] (fun i wr => ∃ k : Nat, k ≤ 33 ∧ i = .int .i64 k ∧ Hid (∃ vo R, KN w wr g vo R (kset k))) (fun i _ => 33 - (intOf i).toNat)
  case atStart => exact ⟨0, by omega, rfl, Lib.hid ⟨_, _, K0.out⟩⟩
  case round =>
    clear K0
    obtain ⟨k, hk, rfl, hI⟩ := hrel
    obtain ⟨vo, R, h⟩ := hI.out
    have H := Lib.hid h
    clear h hI
    by_cases hlt : k < 33
    · go_wp2_with fail
      obtain ⟨f1, f2, f3⟩ := kF1' hlt
      have b1 : (k : Int) = ((UInt8.ofNat k).toNat : Int) := by rw [UInt8.toNat_ofNat']; omega
      have b2 : 2 * (k : Int) = ((UInt8.ofNat (2 * k)).toNat : Int) := by rw [UInt8.toNat_ofNat']; omega
      have r1 := rd_lit (heap_old (heap_new wr (.cells #[.int .u8 (k : Int)] 5)) (.cells #[.int .u8 (2 * (k : Int))] 5)) b1
      have r2 := rd_lit (heap_new (wr.alloc (.cells #[.int .u8 (k : Int)] 5)) (.cells #[.int .u8 (2 * (k : Int))] 5)) b2
      rw [World.size_alloc] at r2
      refine (kn_set (H.out.then0 (((Mods.refl noB wr).alloc _).alloc _)) r1 r2 (by simp) (by simp) (kset_ok k) (by omega) (by omega)).mono ?_
      rintro e w2 ⟨rfl, vo', R', h', _⟩
      rw [show newP (kset k) [UInt8.ofNat k] = true from f1]
      have H2 := Lib.hid (show ∃ vo R, KN w w2 g vo R (kset (k + 1)) from ⟨vo', R', by rw [kset_succ]; exact h'⟩)
      clear h' H r1 r2 b1 b2 f1 f2 f3
      go_wp2
      go_roundw
      case rel => exact ⟨k + 1, by omega, by go_num, H2⟩
      case measure => simp [intOf]; omega
    · obtain rfl : k = 33 := by omega
      clear hlt hk
      go_wp2_with fail
      refine (kn_get (H.out.then0 ((Mods.refl noB wr).alloc _)) (rd_lit (b := 7) (heap_new wr _) rfl) (kset_ok 33) (by rw [kA6]; omega)).mono ?_
      rintro e w2 ⟨v2, rfl, o2, m2, q2⟩
      rw [show getP (kset 33) [(7 : UInt8)] = some (bt 14) from kA2] at o2 ⊢
      have H2 := Lib.hid ((H.out.then0 ((Mods.refl noB wr).alloc _)).then0 m2)
      replace o2 : Gl.Own w2 v2 [14] := o2
      obtain ⟨a2, c2, rfl, _⟩ := o2.rd.form
      have O2 := Lib.hid o2
      simp only [Option.isSome, List.length_cons, List.length_nil, Nat.zero_add] at O2 ⊢
      clear H m2 q2 o2
      go_wp2_with fail
      refine (kn_pages H2.out (by rw [kA6]; omega)).mono ?_
      rintro e w3 ⟨v3, rfl, i3⟩
      rw [kA1] at i3
      obtain ⟨a3, c3, rfl, _⟩ := i3.own.rd.form
      have I3 := Lib.hid i3
      clear i3
      simp only [List.length_cons, List.length_nil, Nat.zero_add, Nat.reduceAdd] at I3 ⊢
      go_wp2_with fail
      refine (HInt_true (xs := [16, 17]) (RdG.keep I3.out.own.rd ((Mods.refl noB w3).alloc _) (fun _ _ x => x)) (two_ints (heap_new w3 _))).mono ?_
      rintro e w4 ⟨rfl, m4⟩
      have M4 := Lib.hid ((I3.out.mods.then0 ((Mods.refl noB w3).alloc _)).then0 m4)
      clear m4 I3
      go_wp2_with fail
      refine (PBytes_true (xs := [14]) ((O2.out.rd.keep M4.out (fun _ _ x => x)).keep ((Mods.refl noB w4).alloc _) (fun _ _ x => x)) (rd_lit (b := 14) (heap_new w4 _) rfl)).mono ?_
      rintro e w5 ⟨rfl, m5⟩
      have H5 := Lib.hid ((H2.out.then0 M4.out).then0 (((Mods.refl noB w4).alloc _).then0 m5))
      clear H2 m5 M4 O2
      go_wp2_with fail
      refine (kn_set (H5.out.then0 ((Mods.refl noB w5).alloc _)) (rd_lit (b := 7) (heap_new w5 _) rfl) (Rd.nil _) (by simp) (by simp) (kset_ok 33) (by rw [kA6]; omega) (by rw [kA5]; omega)).mono ?_
      rintro e w6 ⟨rfl, vo6, R6, h6, _⟩
      rw [show newP (kset 33) [(7 : UInt8)] = false from kA3]
      replace h6 : KN w w6 g vo6 R6 (kdel 0) := by rw [kdel_zero]; exact h6
      have H6 := Lib.hid h6
      clear h6 H5
      go_wp2_with fail
      refine (kn_len H6.out).mono ?_
      rintro e w7 ⟨rfl, rfl⟩
      rw [kA4]
      go_wp2
      go_loopw [5] (fun i wr => ∃ k : Nat, k ≤ 17 ∧ i = .int .i64 (32 - (k : Int)) ∧ Hid (∃ vo R, KN w wr g vo R (kdel k))) (fun i _ => (intOf i).toNat)
      case atStart => exact ⟨0, by omega, by simp, Lib.hid ⟨_, _, H6.out⟩⟩
      case round =>
        clear H6
        obtain ⟨k, hk, rfl, hI⟩ := hrel
        obtain ⟨vo, R, h⟩ := hI.out
        have H := Lib.hid h
        clear h hI
        by_cases hlt : k < 17
        · go_wp2_with fail
          obtain ⟨f1, f2, f3⟩ := kF3' hlt
          have b1 : 32 - (k : Int) = ((UInt8.ofNat (32 - k)).toNat : Int) := by rw [UInt8.toNat_ofNat']; omega
          refine (kn_del (H.out.then0 ((Mods.refl noB wr).alloc _)) (rd_lit (heap_new wr _) b1) (kdel_ok k) (by omega) (by omega)).mono ?_
          rintro e w8 ⟨rfl, vo8, R8, h8, _⟩
          rw [show (findP (kdel k) [UInt8.ofNat (32 - k)]).2.2 = true from f1]
          have H8 := Lib.hid (show ∃ vo R, KN w w8 g vo R (kdel (k + 1)) from ⟨vo8, R8, by rw [kdel_succ]; exact h8⟩)
          clear h8 H b1 f1 f2 f3
          go_wp2
          go_roundw
          case rel => exact ⟨k + 1, by omega, by congr 1; omega, H8⟩
          case measure => simp [intOf]; omega
        · obtain rfl : k = 17 := by omega
          clear hlt hk
          go_wp2_with fail
          refine (kn_copy H.out (kdel_ok 17) (by rw [kB6]; omega)).mono ?_
          rintro e w8 ⟨c, voc, Rc, rfl, hc, hg, ap, _⟩
          have HC := Lib.hid hc
          have HG := Lib.hid hg
          have HA := Lib.hid ap
          clear hc hg ap H
          go_wp2_with fail
          refine (kn_get (HG.out.then0 ((Mods.refl noB w8).alloc _)) (rd_lit (b := 20) (heap_new w8 _) rfl) (kdel_ok 17) (by rw [kB6]; omega)).mono ?_
          rintro e w9 ⟨v9, rfl, _, m9, _⟩
          rw [show getP (kdel 17) [(20 : UInt8)] = none from kB2]
          have M9 := Lib.hid (((Mods.refl noB w8).alloc (.cells #[.int .u8 20] 5)).then0 m9)
          clear m9
          simp only [Option.isSome]
          go_wp2_with fail
          refine (kn_del ((HG.out.then0 M9.out).then0 ((Mods.refl noB w9).alloc _)) (rd_lit (b := 20) (heap_new w9 _) rfl) (kdel_ok 17) (by rw [kB6]; omega) (by rw [kB5]; omega)).mono ?_
          rintro e w10 ⟨rfl, vo10, R10, h10, t10⟩
          obtain ⟨pc, ap⟩ := t10.apart ((HC.out.pm.keep0 M9.out).keep0 ((Mods.refl noB w9).alloc _)) HA.out
          rw [show (findP (kdel 17) [(20 : UInt8)]).2.2 = false from kB3]
          rw [delP_no (show (findP (kdel 17) [(20 : UInt8)]).2.2 = false from kB3)] at h10
          have HG2 := Lib.hid h10
          have HC2 := Lib.hid (show KN w w10 c voc Rc (kdel 17) from ⟨pc, HC.out.eq, h10.mods, HC.out.own⟩)
          have HA2 := Lib.hid ap
          clear h10 t10 pc ap HC HG HA M9
          go_wp2_with fail
          refine (kn_pages HG2.out (by rw [kB6]; omega)).mono ?_
          rintro e w11 ⟨v11, rfl, i11⟩
          rw [kB1] at i11
          obtain ⟨a3, c3, rfl, _⟩ := i11.own.rd.form
          have I3 := Lib.hid i11
          clear i11
          simp only [List.length_cons, List.length_nil, Nat.zero_add] at I3 ⊢
          go_wp2_with fail
          refine (HInt_true (xs := [16]) (RdG.keep I3.out.own.rd ((Mods.refl noB w11).alloc _) (fun _ _ x => x)) (one_int (heap_new w11 _))).mono ?_
          rintro e w12 ⟨rfl, m12⟩
          have M12 := Lib.hid ((I3.out.mods.then0 ((Mods.refl noB w11).alloc _)).then0 m12)
          clear m12 I3
          go_wp2_with fail
          refine (kn_del ((HG2.out.then0 M12.out).then0 ((Mods.refl noB w12).alloc _)) (rd_lit (b := 0) (heap_new w12 _) rfl) (kdel_ok 17) (by rw [kB6]; omega) (by rw [kB5]; omega)).mono ?_
          rintro e w13 ⟨rfl, vo13, R13, h13, t13⟩
          obtain ⟨pc, ap⟩ := t13.apart ((HC2.out.pm.keep0 M12.out).keep0 ((Mods.refl noB w12).alloc _)) HA2.out
          rw [show (findP (kdel 17) [(0 : UInt8)]).2.2 = true from kB4]
          have HC3 := Lib.hid (show KN w w13 c voc Rc (kdel 17) from ⟨pc, HC2.out.eq, h13.mods, HC2.out.own⟩)
          clear h13 t13 pc ap HC2 HG2 HA2 M12
          go_wp2_with fail
          refine (kn_len HC3.out).mono ?_
          rintro e w14 ⟨rfl, rfl⟩
          rw [kB5]
          go_wp2_with fail
          refine (kn_walked (n := 9) (back := false) (xs := bt 2) (ts := bt 4) (HC3.out.then0 (((Mods.refl noB _).alloc _).alloc _)) (rd_lit (b := 2) (heap_old (heap_new _ _) _) rfl) (rd_lit (b := 4) (by have := heap_new (World.alloc w14 (.cells #[.int .u8 2] 5)) (.cells #[.int .u8 4] 5); rwa [World.size_alloc] at this) rfl) (by simp [bt]) (by simp [bt]) (kdel_ok 17) (by rw [kB6]; omega) (by rw [kB5]; omega)).mono ?_
          rintro e w15 ⟨v15, L15, rfl, q15, l15⟩
          rw [kF5] at l15
          have HC4 := Lib.hid ((HC3.out.then0 (((Mods.refl noB _).alloc _).alloc _)).then0 q15.mods)
          have Q15 := Lib.hid q15
          have L15' := Lib.hid l15
          obtain ⟨a15, c15, e15, _⟩ := q15.row.rd.form
          have n15 : L15.length = 2 := by have := congrArg List.length l15; simpa using this
          have E15 := Lib.hid e15
          rw [n15] at e15
          subst e15
          clear q15 l15 HC3 n15
          go_wp2_with fail
          refine (kn_walked (n := 9) (back := true) (xs := bt 2) (ts := bt 4) (HC4.out.then0 (((Mods.refl noB _).alloc _).alloc _)) (rd_lit (b := 2) (heap_old (heap_new _ _) _) rfl) (rd_lit (b := 4) (by have := heap_new (World.alloc w15 (.cells #[.int .u8 2] 5)) (.cells #[.int .u8 4] 5); rwa [World.size_alloc] at this) rfl) (by simp [bt]) (by simp [bt]) (kdel_ok 17) (by rw [kB6]; omega) (by rw [kB5]; omega)).mono ?_
          rintro e w16 ⟨v16, L16, rfl, q16, l16⟩
          rw [kF6] at l16
          have M := Lib.hid (HC4.out.then0 ((((Mods.refl noB _).alloc _).alloc _).then0 q16.mods)).mods
          have Q15' := Q15.out.keep ((((Mods.refl noB _).alloc (.cells #[.int .u8 2] 5)).alloc (.cells #[.int .u8 4] 5)).then0 q16.mods)
          obtain ⟨b1, o1, p1, kb1, ko1, kc1, f1, d1, d2⟩ := Q15'.first L15'.out
          obtain ⟨b2, o2, p2, kb2, ko2, kc2, rfl, d3, d4⟩ := q16.first l16
          obtain ⟨rfl, rfl⟩ : a15 = some ⟨b1, o1, none⟩ ∧ c15 = p1 := by simpa using f1
          clear Q15 Q15' l16 q16 HC4 L15' E15 f1
          go_wp2
          go_ret
          exact ⟨by simp, M.out⟩

end Go.Proofs.Ytjlomnhngngkiaa

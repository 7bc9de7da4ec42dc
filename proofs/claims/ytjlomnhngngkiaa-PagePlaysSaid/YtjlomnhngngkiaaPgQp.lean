/- gleanref5.Map: rows of new pages, put. -/
import Derived.Test.YtjlomnhngngkiaaPgQa
namespace Go.Proofs.Ytjlomnhngngkiaa
open Go.Gl Go.RowKit
set_option linter.unusedVariables false
set_option maxRecDepth 100000

/-- a row that has grown out of other pages' values and of new pages -/
structure GR (w wr : World) (pre : List Value) (vo : Value) (N : List PV) : Prop where
  row : OwnG wr 44 1 vo (pre.length + N.length) (pre ++ N.map (·.pv))
  pg : ∀ p ∈ N, OwnG wr 52 2 p.pv p.es.length (ecell p.es)
  fr : ∀ p ∈ N, freshIn w p.pv
  vf : freshIn w vo
  sep2 : ∀ p ∈ N, ∀ k, p.pv.ownBlock = some k → vo.ownBlock ≠ some k
  sep3 : N.Pairwise (fun p q => ∀ k, p.pv.ownBlock = some k → q.pv.ownBlock ≠ some k)
  mods : Mods noB w wr

theorem GR.push {w w0 w7 w8 : World} {pre : List Value} {N : List PV} {es : List EV} {vo v7 v8 : Value} (c : GR w w0 pre vo N) (o7 : OwnG w7 52 2 v7 es.length (ecell es)) (m7 : Mods noB w0 w7) (f7 : freshIn w0 v7)
    (o8 : OwnG w8 44 1 v8 (pre.length + N.length + 1) (pre ++ N.map (·.pv) ++ [v7])) (m8 : Mods (ofV vo) w7 w8) (f8 : v8.ownBlock = vo.ownBlock ∨ freshIn w7 v8) : GR w w8 pre v8 (N ++ [⟨v7, es⟩]) := by
  have h7 : ∀ k, v7.ownBlock = some k → w0.heap.size ≤ k ∧ k < w7.heap.size := fun k hk => ⟨f7 k hk, o7.lt k hk⟩
  have hvl : ∀ k, vo.ownBlock = some k → k < w0.heap.size := fun k hk => c.row.lt k hk
  have h8 : ∀ k, v8.ownBlock = some k → vo.ownBlock = some k ∨ w7.heap.size ≤ k := fun k hk => by
    rcases f8 with f | f
    · exact .inl (f ▸ hk)
    · exact .inr (f k hk)
  have o7' := o7.keep m8 (fun k hk e => by have := h7 k hk; have := hvl k e; omega)
  refine ⟨?_, ?_, ?_, ?_, ?_, ?_, ?_⟩
  · rw [List.length_append, List.length_singleton, List.map_append, ← List.append_assoc, ← Nat.add_assoc]
    exact o8
  · intro p hp
    rw [List.mem_append, List.mem_singleton] at hp
    rcases hp with hp | rfl
    · exact ((c.pg p hp).keep m7 (fun _ _ x => x)).keep m8 (fun k hk e => c.sep2 p hp k hk e)
    · exact o7'
  · intro p hp
    rw [List.mem_append, List.mem_singleton] at hp
    rcases hp with hp | rfl
    · exact c.fr p hp
    · exact f7.of c.mods.size
  · intro k hk
    rcases h8 k hk with h | h
    · exact c.vf k h
    · have := m7.size; have := c.mods.size; omega
  · intro p hp
    rw [List.mem_append, List.mem_singleton] at hp
    rcases hp with hp | rfl
    · intro k hk hk2
      rcases h8 k hk2 with h | h
      · exact c.sep2 p hp k hk h
      · have := (c.pg p hp).lt k hk; have := m7.size; omega
    · intro k hk hk2
      have := h7 k hk
      rcases h8 k hk2 with h | h
      · have := hvl k h; omega
      · omega
  · refine List.pairwise_append.2 ⟨c.sep3, List.pairwise_singleton _ _, fun p hp r hr k hk hk2 => ?_⟩
    rw [List.mem_singleton.1 hr] at hk2
    have := (c.pg p hp).lt k hk
    have := h7 k hk2
    omega
  · exact (c.mods.then0 m7).trans m8 (U := noB) (fun _ _ x => x) (fun i hi e => by have := c.vf i e; omega)

theorem GR.keep {w w0 w' : World} {pre : List Value} {N : List PV} {vo : Value} {T : Nat → Prop} (c : GR w w0 pre vo N) (m : Mods T w0 w') (h : ∀ k, T k → w.heap.size ≤ k) (h1 : ∀ k, vo.ownBlock = some k → ¬ T k) (h2 : ∀ p ∈ N, ∀ k, p.pv.ownBlock = some k → ¬ T k) : GR w w' pre vo N :=
  ⟨c.row.keep m h1, fun p hp => (c.pg p hp).keep m (h2 p hp), c.fr, c.vf, c.sep2, c.sep3, c.mods.trans m (fun _ _ x => x) (fun i hi x => by have := h i x; omega)⟩

theorem QM.put_end {w wr w8 w' : World} {g : Nat} {vo vN v8 : Value} {A C N : List PV} {q : PV} (h : QM w g vo (A ++ [q] ++ C)) (gr : GR w wr (A.map (·.pv)) vN N) (hes : ∀ r ∈ N, ∀ e ∈ r.es, e ∈ q.es)
    (o8 : OwnG w8 44 1 v8 (A.length + N.length + C.length) (A.map (·.pv) ++ N.map (·.pv) ++ C.map (·.pv))) (m8 : Mods (ofV vN) wr w8) (f8 : v8.ownBlock = vN.ownBlock ∨ freshIn wr v8) (e : w' = w8.setCell ⟨g, 0, none⟩ v8) :
    QT w w' g vo (A ++ [q] ++ C) v8 (A ++ N ++ C) := by
  have hgl : g < w.heap.size := lt_of_heap h.hg
  have ms := gr.mods.size
  have m1 : Mods noB w w8 := gr.mods.trans m8 (U := noB) (fun _ _ x => x) (fun i hi x => by have := gr.vf i x; omega)
  have m2 : Mods (fun k => k = g) w8 w' := by rw [e]; exact (Mods.refl (fun k => k = g) w8).setCell (p := ⟨g, 0, none⟩) (.inl rfl) v8
  have mods : Mods (fun k => k = g ∨ vo.ownBlock = some k ∨ ∃ r ∈ [q], r.pv.ownBlock = some k) w w' := m1.trans m2 (fun _ _ x => x.elim) (fun _ _ x => .inl x)
  have fv8 : freshIn w v8 := by
    rcases f8 with f | f
    · intro k hk; exact gr.vf k (f ▸ hk)
    · exact f.of ms
  have up := QM.upd (vo' := v8) (A := A) (B := [q]) (C := C) (N := N) (X := fun _ => False) h mods (by rw [e]; exact heap_set (m1.heap h.hg (fun x => x)) 0 v8)
    (by
      rw [List.length_append, List.length_append, List.map_append, List.map_append]
      exact o8.keep m2 (fun k hk x => by have := fv8 k hk; omega))
    (.inr fv8)
    (fun r hr => ⟨((gr.pg r hr).keep m8 (fun k hk x => gr.sep2 r hr k hk x)).keep m2 (fun k hk x => by have := gr.fr r hr k hk; omega), .inr (gr.fr r hr)⟩)
    (fun r hr k hk hk2 => by
      rcases f8 with f | f
      · exact gr.sep2 r hr k hk (f ▸ hk2)
      · have := (gr.pg r hr).lt k hk; have := f k hk2; omega)
    gr.sep3
    (fun r hr x hx => .inl ⟨q, List.mem_singleton.2 rfl, hes r hr x hx⟩)
  exact ⟨up.1, mods.mono (fun k _ hk => by
    rcases hk with h | h | ⟨b, hb, h⟩
    · exact .inl h
    · exact .inr (.inl h)
    · exact .inr (.inr ⟨q, by simp, by rw [List.mem_singleton.1 hb] at h; exact h⟩)), up.2.1, fun k hk => (up.2.2 k hk).imp id (fun x => x.elim)⟩

/-- pages that are handed over as a list of rows -/
structure RdL (w : World) (v : Value) (L : List PV) : Prop where
  row : RdG w 1 v L.length (L.map (·.pv))
  pg : ∀ p ∈ L, RdG w 2 p.pv p.es.length (ecell p.es) ∧ (∀ y ∈ ecell p.es, y.oneCell' = true) ∧ p.es.length ≤ 1000000
theorem RdL.keep0 {w w' : World} {v : Value} {L : List PV} (h : RdL w v L) (m : Mods noB w w') : RdL w' v L := ⟨RdG.keep h.row m (fun _ _ x => x), fun p hp => ⟨RdG.keep (h.pg p hp).1 m (fun _ _ x => x), (h.pg p hp).2⟩⟩
theorem RdL.at {w : World} {v : Value} {L : List PV} (h : RdL w v L) : ∃ a cap, v = .slice a L.length cap ∧ ∀ i (hi : i < L.length), ∃ b off, a = some ⟨b, off, none⟩ ∧ ∀ w', Mods noB w w' → w'.cell? ⟨b, off + i, none⟩ = some (L[i]).pv := by
  rcases h.row.2 with ⟨h0, hn⟩ | ⟨b, off, cap, hv, h1, h2, hg, hc⟩
  · obtain ⟨a, rfl⟩ := h0.form
    exact ⟨a, 0, by rw [hn], fun i hi => by omega⟩
  · refine ⟨_, cap, hv, fun i hi => ⟨b, off, rfl, fun w' m => ?_⟩⟩
    exact (m.cellAt (hg.resolve_left (by omega)) (fun x => x) _).trans (hc i _ (by simp [hi]))

theorem OwnG.obp {w : World} {e : TypeId} {s n b off m cap : Nat} {xs : List Value} (h : OwnG w e s (.slice (some ⟨b, off, none⟩) m cap) n xs) : OB w e s b off n cap xs := by
  rcases h.ob with ⟨h0, _⟩ | ⟨b', off', cap', hv, ob⟩
  · cases h0
  · cases hv; exact ob

set_option maxHeartbeats 8000000 in
theorem put_any {w : World} {g p : Nat} {vo lv : Value} {R L : List PV} (hm : QM w g vo R) (hp : p < R.length) (hn : R.length ≤ 1000000) (hl : RdL w lv L) (hln : L.length ≤ 1000) (hes : ∀ r ∈ L, ∀ e ∈ r.es, e ∈ (R[p]).es) :
    Calls Try.prog 38 #[.pointer (some ⟨g, 0, none⟩), .int .i64 (p : Nat), lv] w fun e w' => e = .returned (.tuple #[]) ∧ ∃ vo' N, QT w w' g vo R vo' (R.take p ++ N ++ R.drop (p + 1)) ∧ N.map (·.es) = L.map (·.es) := by
  obtain ⟨A, q, C, rfl, rfl, hq⟩ := parts R p hp
  rw [hq] at hes
  have e1 : (A ++ [q] ++ C).take A.length = A := by rw [List.append_assoc]; exact List.take_left' rfl
  have e2 : (A ++ [q] ++ C).drop (A.length + 1) = C := List.drop_left' (by simp)
  rw [e1, e2]
  clear e1 e2 hq
  rcases hm.open with ⟨h0, _⟩ | ⟨b, off, cap, hv, k1, k2, hc⟩
  · simp at h0
  subst hv
  have ob := OwnG.obp hm.row
  have H1 := Lib.hid (qv_one hm)
  have HM := Lib.hid hm
  have HL := Lib.hid hl
  have HES := Lib.hid hes
  obtain ⟨la, lc, rfl, hla⟩ := hl.at
  have HLA := Lib.hid hla
  obtain ⟨n, hN⟩ : ∃ n, (A ++ [q] ++ C).length = n := ⟨_, rfl⟩
  have HN := Lib.hid hN
  obtain ⟨m, hM⟩ : ∃ m, L.length = m := ⟨_, rfl⟩
  have HMl := Lib.hid hM
  obtain ⟨p, hP⟩ : ∃ p, A.length = p := ⟨_, rfl⟩
  have HP := Lib.hid hP
  have HOB := Lib.hid ob
  rw [hN] at hn hp k1
  rw [hM] at hln
  rw [hP] at hp ⊢
  rw [hM]
  have c0 := cells_of hm.hg 0
  rw [hN] at c0
  have hpn : (p : Int) ≤ (n : Int) := by omega
  have hpc : (p : Int) ≤ (cap : Int) := by omega
  clear hm hl hes hla hM hN hP hc ob
  go_enter Try.func38, Try.ntmps38
  go_wp2_with (at_builtin; refine stop ?_)
  unfold Stop
  have hA : ((A ++ [q] ++ C).map (·.pv)).take (p * 1) = A.map (·.pv) := by
    rw [List.append_assoc, List.map_append, Nat.mul_one]
    exact List.take_left' (by rw [List.length_map]; exact HP.out)
  have hcut := (ob_cut HOB.out (m := p) (by rw [HN.out]; omega)).own.rd
  rw [hA] at hcut
  have hA1 : ∀ y ∈ A.map (·.pv), y.oneCell' = true := fun y hy => H1.out y (by rw [List.append_assoc, List.map_append]; exact List.mem_append_left _ hy)
  refine apR (n := 0) (xs := []) ⟨rfl, .inl ⟨rfl, rfl⟩⟩ hcut hA1 (by omega) _ _ _ _ _ _ _ rfl rfl rfl rfl ?_
  intro v1 w1 o1 m1 f1
  have G0 := Lib.hid (show GR w w1 (A.map (·.pv)) v1 [] from ⟨by rw [List.length_map, HP.out, List.map_nil, List.append_nil]; rw [Nat.zero_add, List.nil_append] at o1; exact o1, fun p hp => (by cases hp), fun p hp => (by cases hp), fun k hk => by
      rcases f1 with f | f
      · rw [f] at hk; simp [Value.ownBlock] at hk
      · exact f k hk, fun p hp => (by cases hp), List.Pairwise.nil, m1.mono (fun k _ x => (ofV_nil x).elim)⟩)
  clear hcut hA hA1 o1 m1 f1 c0
  go_wp2
  go_loopw [6, 7] (fun v i wr => ∃ k : Nat, k ≤ m ∧ i = .int .i64 k ∧ Hid (∃ N, N.map (·.es) = (L.take k).map (·.es) ∧ GR w wr (A.map (·.pv)) v N)) (fun _ i _ => m - (intOf i).toNat)
  case atStart => exact ⟨0, Nat.zero_le _, rfl, Lib.hid ⟨[], rfl, G0.out⟩⟩
  case round =>
    clear G0
    obtain ⟨k, hk, rfl, hI⟩ := hrel
    obtain ⟨N, hNe, hG⟩ := hI.out
    have G := Lib.hid hG
    have HNe := Lib.hid hNe
    have hNl : N.length = k := by
      have := congrArg List.length hNe
      rw [List.length_map, List.length_map, List.length_take, HMl.out] at this
      omega
    have HNl := Lib.hid hNl
    clear hI hG hNe hNl
    by_cases hlt : k < m
    · have lk : k < L.length := by rw [HMl.out]; exact hlt
      have hki : (k : Int) < (m : Int) := by omega
      obtain ⟨lb, lo, rfl, hc⟩ := HLA.out k lk
      have c1 := hc _ G.out.mods
      obtain ⟨hr, h1, hle⟩ := (HL.out.keep0 G.out.mods).pg _ (List.getElem_mem lk)
      obtain ⟨a1, k1', e1, _⟩ := hr.form
      have HT := Lib.hid (show (L.take (k + 1)).map (·.es) = (L.take k).map (·.es) ++ [(L[k]).es] by rw [List.take_succ_eq_append_getElem lk, List.map_append]; rfl)
      rw [e1] at c1 hr
      have HR := Lib.hid (And.intro hr (And.intro h1 hle))
      clear hc hr h1 hle e1
      generalize (L[k]).es = es at *
      obtain ⟨em, hem⟩ : ∃ m, es.length = m := ⟨_, rfl⟩
      have HEM := Lib.hid hem
      rw [hem] at c1 HR
      clear hem
      go_wp2_with (at_builtin; refine stop ?_)
      unfold Stop
      refine apP (n := 0) (xs := []) ⟨rfl, .inl ⟨rfl, rfl⟩⟩ HR.out.1 HR.out.2.1 (by have := HR.out.2.2; omega) _ _ _ _ _ _ _ rfl rfl rfl rfl ?_
      intro v7 w7 o7 m7 f7
      rw [Nat.zero_add, List.nil_append] at o7
      have m7' := Lib.hid (m7.mono (T := noB) (fun k _ x => (ofV_nil x).elim))
      have f7' : Hid (freshIn wr v7) := Lib.hid (fun k hk => by
        rcases f7 with f | f
        · rw [f] at hk; simp [Value.ownBlock] at hk
        · exact f k hk)
      obtain ⟨a7, c7, rfl, _⟩ := o7.rd.form
      have O7 := Lib.hid o7
      have G7 := Lib.hid (G.out.keep (T := noB) m7'.out (fun _ x => x.elim) (fun _ _ x => x) (fun _ _ _ _ x => x))
      clear o7 m7 f7 c1
      go_wp2_with (at_builtin; refine stop ?_)
      unfold Stop
      refine apR (OwnG.keep G7.out.row ((Mods.refl noB w7).alloc _) (fun _ _ x => x)) (ob_new1 (heap_new w7 _)).own.rd (by simp [Value.oneCell']) (by rw [List.length_map, HP.out, HNl.out]; omega) _ _ _ _ _ _ _ rfl rfl rfl rfl ?_
      intro v8 w8 o8 m8 f8
      have G8 := Lib.hid (G.out.push (es := es) (by rw [HEM.out]; exact O7.out.keep ((Mods.refl noB w7).alloc (.cells #[.slice a7 em c7] 44)) (fun _ _ x => x)) (m7'.out.alloc _) f7'.out o8 m8 f8)
      have H8 := Lib.hid (show (N ++ [(⟨.slice a7 em c7, es⟩ : PV)]).map (·.es) = (L.take (k + 1)).map (·.es) by rw [List.map_append, HNe.out, HT.out]; rfl)
      clear o8 m8 f8
      go_wp2
      go_roundw
      case rel => exact ⟨k + 1, by omega, by go_num, Lib.hid ⟨_, H8.out, G8.out⟩⟩
      case measure => simp [intOf]; omega
    · obtain rfl : k = m := by omega
      have c0 := cells_of (HM.out.keep0 G.out.mods).hg 0
      rw [HN.out] at c0
      have hf0 := free_of (HM.out.keep0 G.out.mods).hg 0
      have hp1 : (p : Int) + 1 ≤ (n : Int) := by omega
      have hp2 : (p : Int) + 1 ≤ (cap : Int) := by omega
      have hC : ((A ++ [q] ++ C).map (·.pv)).drop ((p + 1) * 1) = C.map (·.pv) := by
        rw [List.map_append, Nat.mul_one]
        exact List.drop_left' (by simp [HP.out])
      have hcut := (ob_rest (HOB.out.keep G.out.mods (fun x => x)) (m := p + 1) (by rw [HN.out]; omega)).own.rd
      rw [hC, HN.out] at hcut
      rw [Nat.mul_one] at hcut
      have hC1 : ∀ y ∈ C.map (·.pv), y.oneCell' = true := fun y hy => H1.out y (by rw [List.map_append]; exact List.mem_append_right _ hy)
      have HES2 : Hid (∀ r ∈ N, ∀ e ∈ r.es, e ∈ q.es) := Lib.hid (fun r hr e he => by
        have : r.es ∈ (L.take k).map (·.es) := by rw [← HNe.out]; exact List.mem_map_of_mem (f := (·.es)) hr
        obtain ⟨r', hr', e'⟩ := List.mem_map.1 this
        exact HES.out r' (List.mem_of_mem_take hr') e (by rw [e']; exact he))
      have hCl : C.length = n - (p + 1) := by
        have h1 := HN.out
        have h2 := HP.out
        rw [List.length_append, List.length_append, List.length_singleton] at h1
        omega
      have HCl := Lib.hid hCl
      clear hC hCl
      by_cases hcp : cap = p + 1
      · subst hcp
        have hn1 : n = p + 1 := by omega
        have hC0 : C = [] := List.eq_nil_of_length_eq_zero (by rw [HCl.out]; omega)
        have HC0 := Lib.hid hC0
        clear hn1 hC0
        go_wp2_with (at_builtin; refine stop ?_)
        unfold Stop
        refine apR G.out.row (u := .slice (some ⟨b, off, none⟩) 0 0) (m := 0) (ys := []) ⟨rfl, .inr ⟨b, off, 0, rfl, Nat.le_refl _, by simp [maxLen], .inl rfl, fun j u hj => by simp at hj⟩⟩ (by simp) (by rw [List.length_map, HP.out, HNl.out]; omega) _ _ _ _ _ _ _ rfl rfl rfl rfl ?_
        intro v8 w8 o8 m8 f8
        rw [List.length_map] at o8
        have m18 := G.out.mods.trans m8 (U := noB) (fun _ _ x => x) (fun i hi x => by have := G.out.vf i x; omega)
        have d0 := cells_of (m18.heap HM.out.hg (fun x => x)) 0
        have df := free_of (m18.heap HM.out.hg (fun x => x)) 0
        obtain ⟨a8, c8, rfl, _⟩ := o8.rd.form
        have o8' : OwnG w8 44 1 (.slice a8 (A.length + N.length + 0) c8) (A.length + N.length + C.length) (A.map (·.pv) ++ N.map (·.pv) ++ C.map (·.pv)) := by
          rw [HC0.out]
          exact o8
        have END := Lib.hid (fun (w' : World) (e : w' = w8.setCell ⟨g, 0, none⟩ (.slice a8 (A.length + N.length + 0) c8)) => HM.out.put_end G.out HES2.out o8' m8 f8 e)
        clear o8 o8' m8 f8 m18 c0 hf0 hcut
        go_wp2
        first | go_end0 | (refine bodyPost_ret (by simp [results, Try.results38, go_sem]; try rfl) rfl ?_)
        exact ⟨rfl, _, N, END.out _ rfl, by rw [HNe.out, List.take_of_length_le (by rw [HMl.out]; exact Nat.le_refl _)]⟩
      · go_wp2_with (at_builtin; refine stop ?_)
        unfold Stop
        refine apR G.out.row hcut hC1 (by rw [List.length_map, HP.out, HNl.out]; omega) _ _ _ _ _ _ _ rfl rfl rfl rfl ?_
        intro v8 w8 o8 m8 f8
        rw [List.length_map] at o8
        have m18 := G.out.mods.trans m8 (U := noB) (fun _ _ x => x) (fun i hi x => by have := G.out.vf i x; omega)
        have d0 := cells_of (m18.heap HM.out.hg (fun x => x)) 0
        have df := free_of (m18.heap HM.out.hg (fun x => x)) 0
        obtain ⟨a8, c8, rfl, _⟩ := o8.rd.form
        have o8' : OwnG w8 44 1 (.slice a8 (A.length + N.length + (n - (p + 1))) c8) (A.length + N.length + C.length) (A.map (·.pv) ++ N.map (·.pv) ++ C.map (·.pv)) := by
          rw [HCl.out]
          exact o8
        have END := Lib.hid (fun (w' : World) (e : w' = w8.setCell ⟨g, 0, none⟩ (.slice a8 (A.length + N.length + (n - (p + 1))) c8)) => HM.out.put_end G.out HES2.out o8' m8 f8 e)
        clear o8 o8' m8 f8 m18 c0 hf0 hcut
        go_wp2
        first | go_end0 | (refine bodyPost_ret (by simp [results, Try.results38, go_sem]; try rfl) rfl ?_)
        exact ⟨rfl, _, N, END.out _ rfl, by rw [HNe.out, List.take_of_length_le (by rw [HMl.out]; exact Nat.le_refl _)]⟩

end Go.Proofs.Ytjlomnhngngkiaa

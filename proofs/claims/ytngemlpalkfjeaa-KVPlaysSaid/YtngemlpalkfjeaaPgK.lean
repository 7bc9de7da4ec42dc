/- page.Map: Copy. -/
import Derived.Test.YtngemlpalkfjeaaPgK5
namespace Go.Proofs.Ytngemlpalkfjeaa
open Go.Gl Go.RowKit
set_option linter.unusedVariables false
set_option maxRecDepth 100000
structure CPI (w : World) (h k N : Nat) (R : List PV) (wr : World) (vo : Value) (R' : List PV) : Prop where
  hg : wr.heap[h]? = some (.cells #[vo, .int .i64 (N : Nat)] 84 (0, 0))
  es : R'.map (·.es) = (R.take k).map (·.es)
  row : OwnG wr 85 1 vo R'.length (R'.map (·.pv))
  pg : ∀ p ∈ R', OwnG wr 88 2 p.pv p.es.length (ecell p.es)
  fr : ∀ p ∈ R', freshIn w p.pv
  hf : w.heap.size ≤ h
  vf : freshIn w vo
  sep1 : vo.ownBlock ≠ some h
  sep2 : ∀ p ∈ R', p.pv.ownBlock ≠ some h ∧ ∀ k, p.pv.ownBlock = some k → vo.ownBlock ≠ some k
  sep3 : R'.Pairwise (fun p q => ∀ k, p.pv.ownBlock = some k → q.pv.ownBlock ≠ some k)
  mods : Mods noB w wr
theorem CPI.step {w w0 w7 w8 w' : World} {h k N : Nat} {R R' : List PV} {vo v7 v8 : Value} {q : PV} (hk : k < R.length) (hq : R[k] = q) (c : CPI w h k N R w0 vo R') (o7 : OwnG w7 88 2 v7 q.es.length (ecell q.es)) (m7 : Mods noB w0 w7) (f7 : freshIn w0 v7)
    (o8 : OwnG w8 85 1 v8 (R'.length + 1) (R'.map (·.pv) ++ [v7])) (m8 : Mods (ofV vo) w7 w8) (f8 : v8.ownBlock = vo.ownBlock ∨ freshIn w7 v8) (h' : w' = w8.setCell ⟨h, 0, none⟩ v8) : CPI w h (k + 1) N R w' v8 (R' ++ [⟨v7, q.es⟩]) := by
  have hl0 : h < w0.heap.size := lt_of_heap c.hg
  have hvo : ¬ ofV vo h := c.sep1
  have hg8 := m8.heap (m7.heap c.hg (fun x => x)) hvo
  have m' : Mods (fun k => k = h) w8 w' := by rw [h']; exact (Mods.refl (fun k => k = h) w8).setCell (p := ⟨h, 0, none⟩) (.inl rfl) v8
  have hv8h : v8.ownBlock ≠ some h := by
    rcases f8 with f | f
    · rw [f]; exact c.sep1
    · intro e; have := f h e; have := m7.size; omega
  have h7 : ∀ k, v7.ownBlock = some k → w0.heap.size ≤ k ∧ k < w7.heap.size := fun k hk => ⟨f7 k hk, o7.lt k hk⟩
  have hvl : ∀ k, vo.ownBlock = some k → k < w0.heap.size := fun k hk => c.row.lt k hk
  have h8 : ∀ k, v8.ownBlock = some k → vo.ownBlock = some k ∨ w7.heap.size ≤ k := fun k hk => by
    rcases f8 with f | f
    · exact .inl (f ▸ hk)
    · exact .inr (f k hk)
  have o7' := (o7.keep m8 (fun k hk e => by have := h7 k hk; have := hvl k e; omega)).keep m' (fun k hk e => by have := h7 k hk; omega)
  refine ⟨by rw [h']; exact heap_set hg8 0 v8, ?_, ?_, ?_, ?_, c.hf, ?_, hv8h, ?_, ?_, ?_⟩
  · rw [List.take_succ_eq_append_getElem hk, List.map_append, List.map_append, c.es, hq]; rfl
  · rw [List.length_append, List.length_singleton, List.map_append]
    exact o8.keep m' (fun k hk e => hv8h (e ▸ hk))
  · intro p hp
    rw [List.mem_append, List.mem_singleton] at hp
    rcases hp with hp | rfl
    · exact (((c.pg p hp).keep m7 (fun _ _ x => x)).keep m8 (fun k hk e => (c.sep2 p hp).2 k hk e)).keep m' (fun k hk e => (c.sep2 p hp).1 (e ▸ hk))
    · exact o7'
  · intro p hp
    rw [List.mem_append, List.mem_singleton] at hp
    rcases hp with hp | rfl
    · exact c.fr p hp
    · exact f7.of c.mods.size
  · intro k hk
    rcases h8 k hk with h | h
    · exact c.vf k h
    · have := m7.size; have := c.mods.size; omega
  · intro p hp
    rw [List.mem_append, List.mem_singleton] at hp
    rcases hp with hp | rfl
    · refine ⟨(c.sep2 p hp).1, fun k hk hk2 => ?_⟩
      rcases h8 k hk2 with h | h
      · exact (c.sep2 p hp).2 k hk h
      · have := (c.pg p hp).lt k hk; have := m7.size; omega
    · refine ⟨fun e => by have := h7 h e; omega, fun k hk hk2 => ?_⟩
      have := h7 k hk
      rcases h8 k hk2 with h | h
      · have := hvl k h; omega
      · omega
  · refine List.pairwise_append.2 ⟨c.sep3, List.pairwise_singleton _ _, fun p hp r hr k hk hk2 => ?_⟩
    rw [List.mem_singleton.1 hr] at hk2
    have := (c.pg p hp).lt k hk
    have := h7 k hk2
    omega
  · have h3 := c.vf
    have h4 := c.hf
    exact ((c.mods.then0 m7).trans m8 (U := noB) (fun _ _ x => x) (fun i hi e => by have := h3 i e; omega)).trans m' (fun _ _ x => x) (fun i hi e => by omega)
set_option maxHeartbeats 4000000 in
theorem Copy_any {w : World} {g : Nat} {vo : Value} {R : List PV} (hm : PM w g vo R) (ne : ∀ q ∈ R, q.es ≠ []) (hn : R.length ≤ 900000) (hl : ∀ q ∈ R, q.es.length ≤ 32) :
    Calls Try.prog 31 #[.pointer (some ⟨g, 0, none⟩)] w fun e w' => ∃ h vo' R', e = .returned (.pointer (some ⟨h, 0, none⟩)) ∧ PM w' h vo' R' ∧ R'.map (·.es) = R.map (·.es) ∧ Mods noB w w' ∧ (∀ k, MS h vo' R' k → w.heap.size ≤ k) := by
  obtain ⟨ao, cap, hvo, _⟩ := (OwnG.rd hm.row).form
  have c1 := cells_of hm.hg 1
  have HM := Lib.hid hm
  obtain ⟨N, hN⟩ : ∃ N, cnt (pgs R) = N := ⟨_, rfl⟩
  have HN := Lib.hid hN
  rw [hN] at c1
  have hgl := lt_of_heap hm.hg
  have m1 := (Mods.refl noB w).alloc (.cells #[.slice none 0 0, .int .i64 (N : Nat)] 84)
  have hnew := heap_new w (.cells #[.slice none 0 0, .int .i64 (N : Nat)] 84)
  have C0 := Lib.hid (show CPI w w.heap.size 0 N R (w.alloc (.cells #[.slice none 0 0, .int .i64 (N : Nat)] 84)) (.slice none 0 0) [] from
    ⟨hnew, rfl, ⟨rfl, .inl ⟨rfl, rfl⟩⟩, fun p hp => (by cases hp), fun p hp => (by cases hp), Nat.le_refl _, fun k hk => by simp [Value.ownBlock] at hk, by simp [Value.ownBlock], fun p hp => (by cases hp), List.Pairwise.nil, m1⟩)
  obtain ⟨n, hNn⟩ : ∃ n, R.length = n := ⟨_, rfl⟩
  have HNn := Lib.hid hNn
  have NE := Lib.hid ne
  have HL := Lib.hid hl
  have H0 : (w.alloc (.cells #[.slice none 0 0, .int .i64 (N : Nat)] 84)).cell? ⟨g, 0, none⟩ = some (.slice ao n cap) := by
    have := cells_of (m1.heap hm.hg (fun x => x)) 0
    rw [hvo, hNn] at this
    exact this
  rw [hNn] at hn
  clear hm hN hNn ne hl hnew
  go_enter Try.func31, Try.ntmps31
  go_upto_region 2 with fail
  generalize World.alloc w _ = w1 at *
  generalize w.heap.size = h at *
  go_wp2
  go_loopw [17] (fun i wr => ∃ k : Nat, k ≤ n ∧ i = .int .i64 k ∧ Hid (∃ vo' R', CPI w h k N R wr vo' R')) (fun i _ => n - (intOf i).toNat)
  case atStart => exact ⟨0, Nat.zero_le _, rfl, Lib.hid ⟨_, _, C0.out⟩⟩
  case round =>
    obtain ⟨k, hk, rfl, hI⟩ := hrel
    obtain ⟨vo', R', hC⟩ := hI.out
    have HC := Lib.hid hC
    clear hC hI C0
    by_cases hlt : k < n
    · have lk : k < R.length := by rw [HNn.out]; exact hlt
      rcases HM.out.open with ⟨h0, _⟩ | ⟨b, off, cp, hv, _, _, _⟩
      · rw [h0] at lk; simp at lk
      obtain ⟨rfl, rfl⟩ : ao = some ⟨b, off, none⟩ ∧ cap = cp := by have := hvo.symm.trans hv; simpa using this
      subst hv
      have c2 := HM.out.rowcell HC.out.mods lk
      obtain ⟨pb, po, pc, e1, ob1⟩ := HM.out.pageOB (List.getElem_mem lk) (NE.out _ (List.getElem_mem lk))
      have hone := ecell_one (HM.out.ents _ (List.getElem_mem lk))
      have hle := HL.out _ (List.getElem_mem lk)
      have hki : (k : Int) < (n : Int) := by omega
      rw [e1] at c2
      obtain ⟨q, hq⟩ : ∃ q, R[k] = q := ⟨_, rfl⟩
      have HQ := Lib.hid hq
      rw [hq] at c2 ob1 hone hle e1
      have OB1 := Lib.hid ob1
      clear hq ob1 e1
      go_upto_region 5 with fail
      have hlR : R'.length ≤ k := by
        have := congrArg List.length HC.out.es
        rw [List.length_map, List.length_map, List.length_take] at this
        omega
      refine wp_tl (d := .region 5 (opsC 5 Try.f31) true) (by kernel_rfl) ?_
      refine RW.wp (copy5 HC.out.hg HC.out.row (OB1.out.keep HC.out.mods (fun x => x)) hone (by omega) (by omega) HC.out.sep1 ?_)
      intros
      rename_i v7 v8 w7 w8 w9 o7 m7 f7 o8 m8 f8 h9
      have HS := Lib.hid (HC.out.step lk HQ.out o7 m7 f7 o8 m8 f8 h9)
      clear o7 m7 f7 o8 m8 f8 h9 c2 hone
      go_wp2
      go_roundw
      case rel => exact ⟨k + 1, by omega, by go_num, Lib.hid ⟨_, _, HS.out⟩⟩
      case measure => simp [intOf]; omega
    · obtain rfl : k = n := by omega
      go_wp2
      go_ret
      have c := HC.out
      have hes : R'.map (·.es) = R.map (·.es) := by rw [c.es, List.take_of_length_le (by rw [HNn.out]; exact Nat.le_refl _)]
      have hpg : pgs R' = pgs R := by
        have e : ∀ (A : List PV), pgs A = (A.map (·.es)).map ents := fun A => by simp [pgs]
        rw [e, e, hes]
      have hmem : ∀ p ∈ R', ∃ q ∈ R, q.es = p.es := fun p hp => by
        have : p.es ∈ R.map (·.es) := by rw [← hes]; exact List.mem_map_of_mem (f := (·.es)) hp
        obtain ⟨q, hq, he⟩ := List.mem_map.1 this
        exact ⟨q, hq, he⟩
      have hmd : ∀ k, MD R' k → MD R k := fun k ⟨p, hp, e, he, hk⟩ => by
        obtain ⟨q, hq, hqe⟩ := hmem p hp
        exact ⟨q, hq, e, by rw [hqe]; exact he, hk⟩
      have hms : ∀ k, MS h vo' R' k → w.heap.size ≤ k := by
        rintro k (rfl | hk | ⟨p, hp, hk⟩)
        · exact c.hf
        · exact c.vf k hk
        · exact c.fr p hp k hk
      have hdlt : ∀ k, MD R' k → k < w.heap.size := fun k hk => HM.out.dlt k (hmd k hk)
      refine ⟨_, _, _, rfl, ⟨by rw [hpg, HN.out]; exact c.hg, c.row, c.pg, fun p hp => ?_, c.sep1, c.sep2, c.sep3, fun k hk hk2 => ?_, fun k hk => ?_⟩, hes, c.mods, hms⟩
      · obtain ⟨q, hq, hqe⟩ := hmem p hp
        rw [← hqe]
        exact (HM.out.ents q hq).keep c.mods
      · have := hdlt k hk; have := hms k hk2; omega
      · have := hdlt k hk; have := c.mods.size; omega
end Go.Proofs.Ytngemlpalkfjeaa

/- gleanref5.Map as it lies (printed by gen_q.py). -/
import Derived.Test.YtjlomnhngngkiaaPgKn
namespace Go.Proofs.Ytjlomnhngngkiaa
open Go.Gl Go.RowKit
set_option linter.unusedVariables false
set_option maxRecDepth 100000

structure QM (w : World) (g : Nat) (vo : Value) (R : List PV) : Prop where
  hg : w.heap[g]? = some (.cells #[vo] 31 (0, 0))
  row : OwnG w 44 1 vo R.length (R.map (·.pv))
  pg : ∀ p ∈ R, OwnG w 52 2 p.pv p.es.length (ecell p.es)
  ents : ∀ p ∈ R, ERd w p.es
  sep1 : vo.ownBlock ≠ some g
  sep2 : ∀ p ∈ R, p.pv.ownBlock ≠ some g ∧ ∀ k, p.pv.ownBlock = some k → vo.ownBlock ≠ some k
  sep3 : R.Pairwise (fun p q => ∀ k, p.pv.ownBlock = some k → q.pv.ownBlock ≠ some k)
  data : ∀ k, MD R k → ¬ MS g vo R k
  dlt : ∀ k, MD R k → k < w.heap.size

theorem QM.keep {w w' : World} {g : Nat} {vo : Value} {R : List PV} {T : Nat → Prop} (h : QM w g vo R) (hm : Mods T w w') (h1 : ∀ k, MS g vo R k → ¬ T k) (h2 : ∀ k, MD R k → ¬ T k) : QM w' g vo R where
  hg := hm.heap h.hg (h1 g (.inl rfl))
  row := h.row.keep hm (fun k hk => h1 k (.inr (.inl hk)))
  pg := fun p hp => (h.pg p hp).keep hm (fun k hk => h1 k (.inr (.inr ⟨p, hp, hk⟩)))
  ents := fun p hp e he => (h.ents p hp e he).keep hm (fun k hk => h2 k ⟨p, hp, e, he, hk⟩)
  sep1 := h.sep1
  sep2 := h.sep2
  sep3 := h.sep3
  data := h.data
  dlt := fun k hk => Nat.lt_of_lt_of_le (h.dlt k hk) hm.size
theorem QM.keep0 {w w' : World} {g : Nat} {vo : Value} {R : List PV} (h : QM w g vo R) (hm : Mods noB w w') : QM w' g vo R := h.keep hm (fun _ _ x => x) (fun _ _ x => x)

theorem QM.lt {w : World} {g : Nat} {vo : Value} {R : List PV} (h : QM w g vo R) : ∀ k, MS g vo R k → k < w.heap.size := by
  rintro k (rfl | hk | ⟨p, hp, hk⟩)
  · exact lt_of_heap h.hg
  · exact h.row.lt k hk
  · exact (h.pg p hp).lt k hk

theorem QM.page {w : World} {g : Nat} {vo : Value} {R : List PV} (h : QM w g vo R) {p : PV} (hp : p ∈ R) : PRd w p.pv p.es := ⟨OwnG.rd (h.pg p hp), h.ents p hp⟩

/-- the row of the pages, opened -/
theorem QM.open {w : World} {g : Nat} {vo : Value} {R : List PV} (h : QM w g vo R) : (R = [] ∧ vo = .slice none 0 0) ∨ ∃ b off cap, vo = .slice (some ⟨b, off, none⟩) R.length cap ∧ R.length ≤ cap ∧ cap ≤ maxLen ∧
    ∀ i (hi : i < R.length), w.cell? ⟨b, off + i, none⟩ = some (R[i]).pv := by
  rcases h.row.2 with ⟨h0, hn⟩ | ⟨b, off, cap, cur, hv, hb, h1, h2, _, hc⟩
  · exact .inl ⟨List.eq_nil_of_length_eq_zero hn, h0⟩
  · refine .inr ⟨b, off, cap, hv, h1, h2, fun i hi => ?_⟩
    exact (cells_of hb _).trans (hc i _ (by simp [hi]))

theorem qv_one {w : World} {g : Nat} {vo : Value} {R : List PV} (h : QM w g vo R) : ∀ y ∈ R.map (·.pv), y.oneCell' = true := by
  intro y hy
  obtain ⟨p, hp, rfl⟩ := List.mem_map.1 hy
  obtain ⟨a, c, h1, _⟩ := (OwnG.rd (h.pg p hp)).form
  show (PV.pv p).oneCell' = true
  rw [h1]; rfl

theorem QM.upd {w w' : World} {g : Nat} {vo vo' : Value} {A B C N : List PV} {X : Nat → Prop} (h : QM w g vo (A ++ B ++ C)) (hm : Mods (fun k => k = g ∨ vo.ownBlock = some k ∨ ∃ q ∈ B, q.pv.ownBlock = some k) w w')
    (hg' : w'.heap[g]? = some (.cells #[vo'] 31 (0, 0)))
    (row' : OwnG w' 44 1 vo' (A ++ N ++ C).length ((A ++ N ++ C).map (·.pv)))
    (hvo : vo'.ownBlock = vo.ownBlock ∨ freshIn w vo')
    (hN : ∀ q ∈ N, OwnG w' 52 2 q.pv q.es.length (ecell q.es) ∧ ((∃ b ∈ B, q.pv.ownBlock = b.pv.ownBlock) ∨ freshIn w q.pv))
    (hNv : ∀ q ∈ N, ∀ k, q.pv.ownBlock = some k → vo'.ownBlock ≠ some k)
    (hNN : N.Pairwise (fun p q => ∀ k, p.pv.ownBlock = some k → q.pv.ownBlock ≠ some k))
    (hE : ∀ q ∈ N, ∀ e ∈ q.es, (∃ b ∈ B, e ∈ b.es) ∨ (E1 w e ∧ ∀ k, (e.kv.ownBlock = some k ∨ e.vv.ownBlock = some k) → X k ∧ k < w.heap.size ∧ ¬ MS g vo (A ++ B ++ C) k)) :
    QM w' g vo' (A ++ N ++ C) ∧ (∀ k, MS g vo' (A ++ N ++ C) k → MS g vo (A ++ B ++ C) k ∨ w.heap.size ≤ k) ∧ (∀ k, MD (A ++ N ++ C) k → MD (A ++ B ++ C) k ∨ X k) := by
  have hgl : g < w.heap.size := lt_of_heap h.hg
  have inB : ∀ b ∈ B, b ∈ A ++ B ++ C := fun b hb => List.mem_append_left _ (List.mem_append_right _ hb)
  have inA : ∀ b ∈ A, b ∈ A ++ B ++ C := fun b hb => List.mem_append_left _ (List.mem_append_left _ hb)
  have inC : ∀ b ∈ C, b ∈ A ++ B ++ C := fun b hb => List.mem_append_right _ hb
  have hs3 := h.sep3
  rw [List.pairwise_append, List.pairwise_append] at hs3
  obtain ⟨⟨sA, sB, sAB⟩, sC, sABC⟩ := hs3
  have old : ∀ q, q ∈ A ∨ q ∈ C → q ∈ A ++ B ++ C ∧ ∀ k, q.pv.ownBlock = some k → ¬ (k = g ∨ vo.ownBlock = some k ∨ ∃ b ∈ B, b.pv.ownBlock = some k) := by
    intro q hq
    have hin : q ∈ A ++ B ++ C := by rcases hq with hq | hq; exact inA q hq; exact inC q hq
    refine ⟨hin, ?_⟩
    rintro k hk (rfl | hv | ⟨b, hb, hbk⟩)
    · exact (h.sep2 q hin).1 hk
    · exact (h.sep2 q hin).2 k hk hv
    · rcases hq with hq | hq
      · exact sAB q hq b hb k hk hbk
      · exact sABC b (List.mem_append_right _ hb) q hq k hbk hk
  have ms' : ∀ k, MS g vo' (A ++ N ++ C) k → MS g vo (A ++ B ++ C) k ∨ w.heap.size ≤ k := by
    rintro k (rfl | hk | ⟨q, hq, hk⟩)
    · exact .inl (.inl rfl)
    · rcases hvo with hvo | hvo
      · exact .inl (.inr (.inl (hvo ▸ hk)))
      · exact .inr (hvo k hk)
    · rw [List.mem_append, List.mem_append] at hq
      rcases hq with (hq | hq) | hq
      · exact .inl (.inr (.inr ⟨q, inA q hq, hk⟩))
      · rcases (hN q hq).2 with ⟨b, hb, hbk⟩ | hf
        · exact .inl (.inr (.inr ⟨b, inB b hb, hbk ▸ hk⟩))
        · exact .inr (hf k hk)
      · exact .inl (.inr (.inr ⟨q, inC q hq, hk⟩))
  have md' : ∀ k, MD (A ++ N ++ C) k → (MD (A ++ B ++ C) k ∨ X k) ∧ k < w.heap.size ∧ ¬ MS g vo (A ++ B ++ C) k := by
    rintro k ⟨q, hq, e, he, hk⟩
    have fromOld : ∀ q ∈ A ++ B ++ C, e ∈ q.es → (MD (A ++ B ++ C) k ∨ X k) ∧ k < w.heap.size ∧ ¬ MS g vo (A ++ B ++ C) k := fun q hq he =>
      have : MD (A ++ B ++ C) k := ⟨q, hq, e, he, hk⟩
      ⟨.inl this, h.dlt k this, h.data k this⟩
    rw [List.mem_append, List.mem_append] at hq
    rcases hq with (hq | hq) | hq
    · exact fromOld q (inA q hq) he
    · rcases hE q hq e he with ⟨b, hb, heb⟩ | ⟨_, h2⟩
      · exact fromOld b (inB b hb) heb
      · obtain ⟨k1, k2, k3⟩ := h2 k hk
        exact ⟨.inr k1, k2, k3⟩
    · exact fromOld q (inC q hq) he
  have keepE : ∀ e, E1 w e → (∀ k, (e.kv.ownBlock = some k ∨ e.vv.ownBlock = some k) → ¬ MS g vo (A ++ B ++ C) k) → E1 w' e := fun e he hk => he.keep hm (fun k hk2 => by
    rintro (rfl | hv | ⟨b, hb, hbk⟩)
    · exact hk k hk2 (.inl rfl)
    · exact hk k hk2 (.inr (.inl hv))
    · exact hk k hk2 (.inr (.inr ⟨b, inB b hb, hbk⟩)))
  have keepO : ∀ q ∈ A ++ B ++ C, ∀ e ∈ q.es, E1 w' e := fun q hq e he => keepE e (h.ents q hq e he) (fun k hk => h.data k ⟨q, hq, e, he, hk⟩)
  refine ⟨⟨hg', row', ?_, ?_, ?_, ?_, ?_, ?_, ?_⟩, ms', fun k hk => (md' k hk).1⟩
  · intro q hq
    rw [List.mem_append, List.mem_append] at hq
    rcases hq with (hq | hq) | hq
    · exact (h.pg q (inA q hq)).keep hm (old q (.inl hq)).2
    · exact (hN q hq).1
    · exact (h.pg q (inC q hq)).keep hm (old q (.inr hq)).2
  · intro q hq e he
    rw [List.mem_append, List.mem_append] at hq
    rcases hq with (hq | hq) | hq
    · exact keepO q (inA q hq) e he
    · rcases hE q hq e he with ⟨b, hb, heb⟩ | ⟨h1, h2⟩
      · exact keepO b (inB b hb) e heb
      · exact keepE e h1 (fun k hk => (h2 k hk).2.2)
    · exact keepO q (inC q hq) e he
  · rcases hvo with hvo | hvo
    · rw [hvo]; exact h.sep1
    · exact hvo.not hgl
  · intro q hq
    have base : q ∈ A ++ B ++ C → q.pv.ownBlock ≠ some g ∧ ∀ k, q.pv.ownBlock = some k → vo'.ownBlock ≠ some k := fun hin => ⟨(h.sep2 q hin).1, fun k hk => by
      rcases hvo with hvo | hvo
      · rw [hvo]; exact (h.sep2 q hin).2 k hk
      · exact hvo.not ((h.pg q hin).lt k hk)⟩
    rw [List.mem_append, List.mem_append] at hq
    rcases hq with (hq | hq) | hq
    · exact base (inA q hq)
    · refine ⟨?_, hNv q hq⟩
      rcases (hN q hq).2 with ⟨b, hb, hbk⟩ | hf
      · rw [hbk]; exact (h.sep2 b (inB b hb)).1
      · exact hf.not hgl
    · exact base (inC q hq)
  · have nOld : ∀ q ∈ N, ∀ p, p ∈ A ∨ p ∈ C → ∀ k, q.pv.ownBlock = some k → p.pv.ownBlock ≠ some k := by
      intro q hq p hp k hk hpk
      obtain ⟨hpin, hpo⟩ := old p hp
      rcases (hN q hq).2 with ⟨b, hb, hbk⟩ | hf
      · exact hpo k hpk (.inr (.inr ⟨b, hb, hbk ▸ hk⟩))
      · exact absurd ((h.pg p hpin).lt k hpk) (Nat.not_lt.2 (hf k hk))
    rw [List.pairwise_append, List.pairwise_append]
    refine ⟨⟨sA, hNN, fun p hp q hq k hpk hqk => nOld q hq p (.inl hp) k hqk hpk⟩, sC, fun p hp q hq k hpk hqk => ?_⟩
    rw [List.mem_append] at hp
    rcases hp with hp | hp
    · exact sABC p (List.mem_append_left _ hp) q hq k hpk hqk
    · exact nOld p hp q (.inr hq) k hpk hqk
  · intro k hk hms
    obtain ⟨_, k2, k3⟩ := md' k hk
    rcases ms' k hms with h1 | h1
    · exact k3 h1
    · omega
  · intro k hk
    exact Nat.lt_of_lt_of_le (md' k hk).2.1 hm.size

/-- what a call that changes a map leaves -/
structure QT (w w' : World) (g : Nat) (vo : Value) (R : List PV) (vo' : Value) (R' : List PV) : Prop where
  pm : QM w' g vo' R'
  mods : Mods (MS g vo R) w w'
  ms : ∀ k, MS g vo' R' k → MS g vo R k ∨ w.heap.size ≤ k
  md : ∀ k, MD R' k → MD R k ∨ w.heap.size ≤ k
theorem QT.first {a b c : World} {g : Nat} {vo vo' : Value} {R R' : List PV} (h : QT b c g vo R vo' R') (hm : Mods noB a b) : QT a c g vo R vo' R' :=
  ⟨h.pm, hm.trans h.mods (fun _ _ x => x.elim) (fun _ _ x => x), fun k hk => (h.ms k hk).imp id (Nat.le_trans hm.size), fun k hk => (h.md k hk).imp id (Nat.le_trans hm.size)⟩
theorem QT.then0 {a b c : World} {g : Nat} {vo vo' : Value} {R R' : List PV} (h : QT a b g vo R vo' R') (hm : Mods noB b c) : QT a c g vo R vo' R' :=
  ⟨h.pm.keep0 hm, h.mods.then0 hm, h.ms, h.md⟩
theorem QT.refl {w : World} {g : Nat} {vo : Value} {R : List PV} (h : QM w g vo R) : QT w w g vo R vo R := ⟨h, Mods.refl _ _, fun _ => .inl, fun _ => .inl⟩

/-- a map of our own making -/
structure QN (w0 w : World) (g : Nat) (vo : Value) (R : List PV) (ps : Pgs) : Prop where
  pm : QM w g vo R
  eq : pgs R = ps
  mods : Mods noB w0 w
  own : ∀ k, MS g vo R k → w0.heap.size ≤ k
theorem QN.then0 {w0 w w' : World} {g : Nat} {vo : Value} {R : List PV} {ps : Pgs} (h : QN w0 w g vo R ps) (m : Mods noB w w') : QN w0 w' g vo R ps := ⟨h.pm.keep0 m, h.eq, h.mods.then0 m, h.own⟩
theorem QN.pt {w0 w w' : World} {g : Nat} {vo vo' : Value} {R R' : List PV} {ps qs : Pgs} (h : QN w0 w g vo R ps) (t : QT w w' g vo R vo' R') (e : pgs R' = qs) : QN w0 w' g vo' R' qs :=
  ⟨t.pm, e, h.mods.trans t.mods (fun _ _ x => x) (fun i hi x => by have := h.own i x; omega), fun k hk => by
    rcases t.ms k hk with x | x
    · exact h.own k x
    · have := h.mods.size; omega⟩
theorem QN.rl {w0 w : World} {g : Nat} {vo : Value} {R : List PV} {ps : Pgs} (h : QN w0 w g vo R ps) : R.length = ps.length := by rw [← h.eq, pgs_length]

theorem QT.apart {w w' : World} {g h : Nat} {vo vo' vo2 : Value} {R R' R2 : List PV} (t : QT w w' g vo R vo' R') (p : QM w h vo2 R2) (a : ApM g vo R h vo2 R2) : QM w' h vo2 R2 ∧ ApM g vo' R' h vo2 R2 := by
  refine ⟨p.keep t.mods (fun k hk x => a.1 k x hk) (fun k hk x => a.2.2 k hk x), fun k hk x => ?_, fun k hk x => ?_, fun k hk x => ?_⟩
  · rcases t.ms k hk with y | y
    · exact a.1 k y x
    · have := p.lt k x; omega
  · rcases t.md k hk with y | y
    · exact a.2.1 k y x
    · have := p.lt k x; omega
  · rcases t.ms k x with y | y
    · exact a.2.2 k hk y
    · have := p.dlt k hk; omega
theorem QT.apartP {w w' : World} {g h : Nat} {vo vo' vo2 : Value} {R R' R2 : List PV} (t : QT w w' g vo R vo' R') (p : PM w h vo2 R2) (a : ApM g vo R h vo2 R2) : PM w' h vo2 R2 ∧ ApM g vo' R' h vo2 R2 := by
  refine ⟨p.keep t.mods (fun k hk x => a.1 k x hk) (fun k hk x => a.2.2 k hk x), fun k hk x => ?_, fun k hk x => ?_, fun k hk x => ?_⟩
  · rcases t.ms k hk with y | y
    · exact a.1 k y x
    · have := p.lt k x; omega
  · rcases t.md k hk with y | y
    · exact a.2.1 k y x
    · have := p.lt k x; omega
  · rcases t.ms k x with y | y
    · exact a.2.2 k hk y
    · have := p.dlt k hk; omega
theorem PT.apartQ {w w' : World} {g h : Nat} {vo vo' vo2 : Value} {R R' R2 : List PV} (t : PT w w' g vo R vo' R') (p : QM w h vo2 R2) (a : ApM g vo R h vo2 R2) : QM w' h vo2 R2 ∧ ApM g vo' R' h vo2 R2 := by
  refine ⟨p.keep t.mods (fun k hk x => a.1 k x hk) (fun k hk x => a.2.2 k hk x), fun k hk x => ?_, fun k hk x => ?_, fun k hk x => ?_⟩
  · rcases t.ms k hk with y | y
    · exact a.1 k y x
    · have := p.lt k x; omega
  · rcases t.md k hk with y | y
    · exact a.2.1 k y x
    · have := p.lt k x; omega
  · rcases t.ms k x with y | y
    · exact a.2.2 k hk y
    · have := p.dlt k hk; omega

end Go.Proofs.Ytjlomnhngngkiaa

/- PagePlays: what holds in a round; the pairs of calls. -/
import Derived.Test.YtjlomnhngngkiaaPgP0
namespace Go.Proofs.Ytjlomnhngngkiaa
open Go.Gl Go.RowKit
set_option linter.unusedVariables false
set_option maxRecDepth 100000

/-- what a round's own blocks are kept apart from -/
def Off (mb rb : Nat) (X : Nat → BX) (b : Nat) : Prop := b ≠ mb ∧ b ≠ rb ∧ ∀ j, j < 6 → ¬ MS (X j).g (X j).vo (X j).R b ∧ ¬ MD (X j).R b
structure PL (w2 w : World) (mb rb sb : Nat) (s : PStp) (kv vv : Value) (X : Nat → BX) (A : Nat → Pgs) (n : Nat) : Prop where
  p : P6 w2 w X A n
  t : T6 w2 w mb rb X
  sB : w.heap[sb]? = some (.cells #[.int .i64 s.at_, .int .i64 s.what, .int .i64 s.n, s.kv, s.vv] 35 (0, 0))
  s0 : w2.heap.size ≤ sb
  sa : Off mb rb X sb
  kO : Gl.Own w kv s.k
  vO : Gl.Own w vv s.v
  kA : ∀ b, kv.ownBlock = some b → w2.heap.size ≤ b ∧ b ≠ sb ∧ vv.ownBlock ≠ some b ∧ Off mb rb X b
  vA : ∀ b, vv.ownBlock = some b → w2.heap.size ≤ b ∧ b ≠ sb ∧ Off mb rb X b
theorem PL.keep {w2 w w' : World} {mb rb sb n : Nat} {s : PStp} {kv vv : Value} {X : Nat → BX} {A : Nat → Pgs} {T : Nat → Prop} (h : PL w2 w mb rb sb s kv vv X A n) (m : Mods T w w') (h0 : ∀ k, T k → w.heap.size ≤ k) : PL w2 w' mb rb sb s kv vv X A n := by
  have hs := h.p.mods.size
  obtain ⟨l1, l2⟩ := h.t.lt
  have l3 := lt_of_heap h.sB
  exact ⟨h.p.keep m (fun k x => by have := h0 k x; omega) (fun j hj k x => ⟨fun y => by have := (h.p.st j hj).lt k y; have := h0 k x; omega, fun y => by have := (h.p.st j hj).dlt k y; have := h0 k x; omega⟩),
    h.t.keep m (fun x => by have := h0 _ x; omega) (fun x => by have := h0 _ x; omega), m.heap h.sB (fun x => by have := h0 _ x; omega), h.s0, h.sa, h.kO.keep m (fun k hk x => by have := h.kO.lt k hk; have := h0 k x; omega), h.vO.keep m (fun k hk x => by have := h.vO.lt k hk; have := h0 k x; omega), h.kA, h.vA⟩
theorem PL.then0 {w2 w w' : World} {mb rb sb n : Nat} {s : PStp} {kv vv : Value} {X : Nat → BX} {A : Nat → Pgs} (h : PL w2 w mb rb sb s kv vv X A n) (m : Mods noB w w') : PL w2 w' mb rb sb s kv vv X A n := h.keep m (fun _ x => x.elim)
theorem PL.more {w2 w : World} {mb rb sb n n' : Nat} {s : PStp} {kv vv : Value} {X : Nat → BX} {A : Nat → Pgs} (h : PL w2 w mb rb sb s kv vv X A n) (hn : n ≤ n') : PL w2 w mb rb sb s kv vv X A n' := ⟨h.p.more hn, h.t, h.sB, h.s0, h.sa, h.kO, h.vO, h.kA, h.vA⟩
theorem Off.up {w w' : World} {mb rb j b : Nat} {X : Nat → BX} {b' : BX} (h : Off mb rb X b) (hj : j < 6) (t : TX w w' (X j) b') (hb : b < w.heap.size) : Off mb rb (up X j b') b := by
  refine ⟨h.1, h.2.1, fun i hi => ?_⟩
  by_cases e : i = j
  · subst e
    rw [up_self]
    refine ⟨fun x => ?_, fun x => ?_⟩
    · rcases t.ms b x with y | y
      · exact (h.2.2 i hi).1 y
      · omega
    · rcases t.md b x with y | y
      · exact (h.2.2 i hi).2 y
      · omega
  · rw [up_other _ _ e]; exact h.2.2 i hi
theorem PL.chg {w2 w w' : World} {mb rb sb n j : Nat} {s : PStp} {kv vv : Value} {X : Nat → BX} {A : Nat → Pgs} {b' : BX} {ps : Pgs} (h : PL w2 w mb rb sb s kv vv X A n) (hj : j < 6) (t : TX w w' (X j) b') (hb : BM (kd j) w' b') (he : pgs b'.R = ps) (hok : PgOk ps) (hc : cnt ps ≤ n) (hg : b'.g = (X j).g) : PL w2 w' mb rb sb s kv vv (up X j b') (up A j ps) n := by
  have l3 := lt_of_heap h.sB
  exact ⟨h.p.chg hj t hb he hok hc, h.t.chg hj t hg, t.mods.heap h.sB (h.sa.2.2 j hj).1, h.s0, h.sa.up hj t l3, h.kO.keep t.mods (fun k hk x => ((h.kA k hk).2.2.2.2.2 j hj).1 x), h.vO.keep t.mods (fun k hk x => ((h.vA k hk).2.2.2.2 j hj).1 x),
    fun b hb => by obtain ⟨a1, a2, a3, a4⟩ := h.kA b hb; exact ⟨a1, a2, a3, a4.up hj t (h.kO.lt b hb)⟩, fun b hb => by obtain ⟨a1, a2, a4⟩ := h.vA b hb; exact ⟨a1, a2, a4.up hj t (h.vO.lt b hb)⟩⟩
/-- the cells that the calls' arguments are loaded from -/
theorem PL.cells {w2 w : World} {mb rb sb n t : Nat} {s : PStp} {kv vv : Value} {X : Nat → BX} {A : Nat → Pgs} (h : PL w2 w mb rb sb s kv vv X A n) (ht : t < 3) : w.cell? ⟨mb, 0 + t, none⟩ = some (.pointer (some ⟨(X t).g, 0, none⟩)) ∧ w.cell? ⟨rb, 0 + t, none⟩ = some (.pointer (some ⟨(X (t + 3)).g, 0, none⟩)) ∧ w.cell? ⟨sb, 3, none⟩ = some s.kv ∧ w.cell? ⟨sb, 4, none⟩ = some s.vv :=
  ⟨(h.t.cells ht).1, (h.t.cells ht).2, cells_of h.sB 3, cells_of h.sB 4⟩
theorem PStp.At.at {w2 w : World} {s : PStp} (h : s.At w2) (m : Mods noB w2 w) : Rd w s.kv s.k ∧ Rd w s.vv s.v := ⟨h.k.keep m (fun _ _ x => x), h.v.keep m (fun _ _ x => x)⟩

/-- both kinds of maps are alike -/
def Co (A : Nat → Pgs) : Prop := ∀ j, j < 3 → A (j + 3) = A j
theorem Co.up {A : Nat → Pgs} {t : Nat} {ps : Pgs} (h : Co A) (ht : t < 3) : Co (up (up A t ps) (t + 3) ps) := by
  intro j hj
  by_cases e : j = t
  · subst e; rw [up_self, up_other _ _ (by omega), up_self]
  · rw [up_other _ _ (by omega), up_other _ _ (by omega), up_other _ _ (by omega), up_other _ _ e]; exact h j hj

theorem PL.twice {w2 w w' w'' : World} {mb rb sb n t : Nat} {s : PStp} {kv vv : Value} {X : Nat → BX} {A : Nat → Pgs} {vo' wo' : Value} {R' Q' : List PV} {ps : Pgs} (h : PL w2 w mb rb sb s kv vv X A n) (co : Co A) (ht : t < 3) (hok : PgOk ps) (hc : cnt ps ≤ n + 1)
    (k : KN w2 w' (X t).g vo' R' ps) (kt : PT w w' (X t).g (X t).vo (X t).R vo' R') (q : QN w2 w'' (X (t + 3)).g wo' Q' ps) (qt : QT w' w'' (X (t + 3)).g (X (t + 3)).vo (X (t + 3)).R wo' Q') : ∃ X' A', PL w2 w'' mb rb sb s kv vv X' A' (n + 1) ∧ Co A' := by
  have kd0 : kd t = false := decide_eq_false (by omega)
  have kd1 : kd (t + 3) = true := decide_eq_true (by omega)
  have h1 := (h.more (Nat.le_succ n)).chg (j := t) (b' := ⟨(X t).g, vo', R'⟩) (by omega) ⟨kt.mods, kt.ms, kt.md⟩ (by rw [kd0]; exact k.pm) k.eq hok hc rfl
  have e3 : up X t ⟨(X t).g, vo', R'⟩ (t + 3) = X (t + 3) := up_other _ _ (by omega)
  have h2 := h1.chg (j := t + 3) (b' := ⟨(X (t + 3)).g, wo', Q'⟩) (by omega) (by rw [e3]; exact ⟨qt.mods, qt.ms, qt.md⟩) (by rw [kd1]; exact q.pm) q.eq hok hc (by rw [e3])
  exact ⟨_, _, h2, co.up ht⟩
theorem PL.once {w2 w w' : World} {mb rb sb n t : Nat} {s : PStp} {kv vv : Value} {X : Nat → BX} {A : Nat → Pgs} {vo' : Value} {R' : List PV} {ps : Pgs} (h : PL w2 w mb rb sb s kv vv X A n) (ht : t < 3) (hok : PgOk ps) (hc : cnt ps ≤ n + 1)
    (k : KN w2 w' (X t).g vo' R' ps) (kt : PT w w' (X t).g (X t).vo (X t).R vo' R') : (w'.cell? ⟨mb, 0 + t, none⟩ = some (.pointer (some ⟨(X t).g, 0, none⟩)) ∧ w'.cell? ⟨rb, 0 + t, none⟩ = some (.pointer (some ⟨(X (t + 3)).g, 0, none⟩)) ∧ w'.cell? ⟨sb, 3, none⟩ = some s.kv ∧ w'.cell? ⟨sb, 4, none⟩ = some s.vv) ∧ QN w2 w' (X (t + 3)).g (X (t + 3)).vo (X (t + 3)).R (A (t + 3)) ∧ Mods noB w2 w' := by
  have kd0 : kd t = false := decide_eq_false (by omega)
  have h1 := (h.more (Nat.le_succ n)).chg (j := t) (b' := ⟨(X t).g, vo', R'⟩) (by omega) ⟨kt.mods, kt.ms, kt.md⟩ (by rw [kd0]; exact k.pm) k.eq hok hc rfl
  have e3 : up X t ⟨(X t).g, vo', R'⟩ (t + 3) = X (t + 3) := up_other _ _ (by omega)
  have c := h1.cells ht
  have q := h1.p.qn ht
  rw [e3, up_self] at c
  rw [e3, up_other A _ (by omega : t + 3 ≠ t)] at q
  exact ⟨c, q, h1.p.mods⟩

theorem PL.setC {w2 w : World} {mb rb sb n t : Nat} {s : PStp} {kv vv : Value} {X : Nat → BX} {A : Nat → Pgs} (h : PL w2 w mb rb sb s kv vv X A n) (co : Co A) (sa : s.At w2) (ht : t < 3) (hn : n ≤ 10000) (lk : s.k.length ≤ 6000) (lv : s.v.length ≤ 6000) :
    Calls Try.prog 12 #[.pointer (some ⟨(X t).g, 0, none⟩), kv, vv] w fun e w' => e = .returned (.bool (newP (A t) s.k)) ∧ (w'.cell? ⟨mb, 0 + t, none⟩ = some (.pointer (some ⟨(X t).g, 0, none⟩)) ∧ w'.cell? ⟨rb, 0 + t, none⟩ = some (.pointer (some ⟨(X (t + 3)).g, 0, none⟩)) ∧ w'.cell? ⟨sb, 3, none⟩ = some s.kv ∧ w'.cell? ⟨sb, 4, none⟩ = some s.vv) ∧
      Calls Try.prog 13 #[.pointer (some ⟨(X (t + 3)).g, 0, none⟩), s.kv, s.vv] w' fun e w' => e = .returned (.bool (newP (A t) s.k)) ∧ (w'.cell? ⟨mb, 0 + t, none⟩ = some (.pointer (some ⟨(X t).g, 0, none⟩)) ∧ w'.cell? ⟨rb, 0 + t, none⟩ = some (.pointer (some ⟨(X (t + 3)).g, 0, none⟩)) ∧ w'.cell? ⟨sb, 3, none⟩ = some s.kv ∧ w'.cell? ⟨sb, 4, none⟩ = some s.vv) ∧ ∃ X' A', PL w2 w' mb rb sb s kv vv X' A' (n + 1) ∧ Co A' := by
  have l := h.p.len (j := t) (by omega)
  have c := h.p.cn t (by omega)
  have ok := h.p.ok t (by omega)
  have hok := setP_ok ok s.k s.v
  have hc : cnt (setP (A t) s.k s.v) ≤ n + 1 := Nat.le_trans (setP_cnt ok _ _) (by omega)
  refine (kn_set (h.p.kn ht) h.kO.rd h.vO.rd (by omega) (by omega) ok (by omega) (by omega)).mono ?_
  rintro e w' ⟨rfl, vo', R', k, kt⟩
  obtain ⟨c1, q1, m1⟩ := h.once ht hok hc k kt
  rw [co t ht] at q1
  obtain ⟨a1, a2⟩ := sa.at m1
  refine ⟨rfl, c1, (qn_set q1 a1 a2 (by omega) (by omega) ok (by omega)).mono ?_⟩
  rintro e w'' ⟨rfl, wo', Q', q, qt⟩
  obtain ⟨X', A', p, co'⟩ := h.twice co ht hok hc k kt q qt
  have t1 := c1
  refine ⟨rfl, ?_, X', A', p, co'⟩
  have h1 := (h.more (Nat.le_succ n)).chg (j := t) (b' := ⟨(X t).g, vo', R'⟩) (by omega) ⟨kt.mods, kt.ms, kt.md⟩ (by rw [show kd t = false from decide_eq_false (by omega)]; exact k.pm) k.eq hok hc rfl
  have e3 : up X t ⟨(X t).g, vo', R'⟩ (t + 3) = X (t + 3) := up_other _ _ (by omega)
  have h2 := h1.chg (j := t + 3) (b' := ⟨(X (t + 3)).g, wo', Q'⟩) (by omega) (by rw [e3]; exact ⟨qt.mods, qt.ms, qt.md⟩) (by rw [show kd (t + 3) = true from decide_eq_true (by omega)]; exact q.pm) q.eq hok hc (by rw [e3])
  have c2 := h2.cells ht
  rw [up_self, up_other _ _ (by omega : t ≠ t + 3), up_self] at c2
  exact c2

theorem PL.delC {w2 w : World} {mb rb sb n t : Nat} {s : PStp} {kv vv : Value} {X : Nat → BX} {A : Nat → Pgs} (h : PL w2 w mb rb sb s kv vv X A n) (co : Co A) (sa : s.At w2) (ht : t < 3) (hn : n ≤ 10000) :
    Calls Try.prog 14 #[.pointer (some ⟨(X t).g, 0, none⟩), kv] w fun e w' => e = .returned (.bool (findP (A t) s.k).2.2) ∧ (w'.cell? ⟨mb, 0 + t, none⟩ = some (.pointer (some ⟨(X t).g, 0, none⟩)) ∧ w'.cell? ⟨rb, 0 + t, none⟩ = some (.pointer (some ⟨(X (t + 3)).g, 0, none⟩)) ∧ w'.cell? ⟨sb, 3, none⟩ = some s.kv ∧ w'.cell? ⟨sb, 4, none⟩ = some s.vv) ∧
      Calls Try.prog 15 #[.pointer (some ⟨(X (t + 3)).g, 0, none⟩), s.kv] w' fun e w' => e = .returned (.bool (findP (A t) s.k).2.2) ∧ (w'.cell? ⟨mb, 0 + t, none⟩ = some (.pointer (some ⟨(X t).g, 0, none⟩)) ∧ w'.cell? ⟨rb, 0 + t, none⟩ = some (.pointer (some ⟨(X (t + 3)).g, 0, none⟩)) ∧ w'.cell? ⟨sb, 3, none⟩ = some s.kv ∧ w'.cell? ⟨sb, 4, none⟩ = some s.vv) ∧ ∃ X' A', PL w2 w' mb rb sb s kv vv X' A' (n + 1) ∧ Co A' := by
  have l := h.p.len (j := t) (by omega)
  have c := h.p.cn t (by omega)
  have ok := h.p.ok t (by omega)
  have hok := delP_ok ok s.k
  have hc : cnt (delP (A t) s.k) ≤ n + 1 := Nat.le_trans (delP_cnt ok _) (by omega)
  refine (kn_del (h.p.kn ht) h.kO.rd ok (by omega) (by omega)).mono ?_
  rintro e w' ⟨rfl, vo', R', k, kt⟩
  obtain ⟨c1, q1, m1⟩ := h.once ht hok hc k kt
  rw [co t ht] at q1
  obtain ⟨a1, a2⟩ := sa.at m1
  refine ⟨rfl, c1, (qn_del q1 a1 ok (by omega)).mono ?_⟩
  rintro e w'' ⟨rfl, wo', Q', q, qt⟩
  obtain ⟨X', A', p, co'⟩ := h.twice co ht hok hc k kt q qt
  refine ⟨rfl, ?_, X', A', p, co'⟩
  have h1 := (h.more (Nat.le_succ n)).chg (j := t) (b' := ⟨(X t).g, vo', R'⟩) (by omega) ⟨kt.mods, kt.ms, kt.md⟩ (by rw [show kd t = false from decide_eq_false (by omega)]; exact k.pm) k.eq hok hc rfl
  have e3 : up X t ⟨(X t).g, vo', R'⟩ (t + 3) = X (t + 3) := up_other _ _ (by omega)
  have h2 := h1.chg (j := t + 3) (b' := ⟨(X (t + 3)).g, wo', Q'⟩) (by omega) (by rw [e3]; exact ⟨qt.mods, qt.ms, qt.md⟩) (by rw [show kd (t + 3) = true from decide_eq_true (by omega)]; exact q.pm) q.eq hok hc (by rw [e3])
  have c2 := h2.cells ht
  rw [up_self, up_other _ _ (by omega : t ≠ t + 3), up_self] at c2
  exact c2

theorem fst_wlk {L : List EV} {ps : Pgs} {xs ts : List UInt8} (h : L.map EV.ent = ps.flatten.filter (btw xs ts)) (back : Bool) (n : Nat) : (fstL L back n).map EV.ent = (wlk ps xs ts back).take n := by
  unfold fstL wlk
  cases back with
  | true => simp only [if_true]; rw [List.map_take, List.map_reverse, h]
  | false => simp only [Bool.false_eq_true, if_false]; rw [List.map_take, h]
theorem fst_mem {L : List EV} {back : Bool} {n : Nat} : ∀ e ∈ fstL L back n, e ∈ L := fun e he => by
  unfold fstL at he
  cases back with
  | true => simp only [if_true] at he; exact List.mem_reverse.1 (List.mem_of_mem_take he)
  | false => simp only [Bool.false_eq_true, if_false] at he; exact List.mem_of_mem_take he

theorem PL.walkC {w2 w : World} {mb rb sb n t : Nat} {s : PStp} {kv vv : Value} {X : Nat → BX} {A : Nat → Pgs} (h : PL w2 w mb rb sb s kv vv X A n) (co : Co A) (sa : s.At w2) (ht : t < 3) (hn : n ≤ 10000) (lk : s.k.length ≤ 6000) (lv : s.v.length ≤ 6000) (back : Bool) (m : Nat) (hm : m ≤ 1000) :
    Calls Try.prog 21 #[.pointer (some ⟨(X t).g, 0, none⟩), kv, vv, .bool back, .int .i64 (m : Nat)] w fun e w' => ∃ v1, e = .returned v1 ∧ Mods noB w w' ∧ ∀ b', Mods noB w' b' → Calls Try.prog 23 #[.pointer (some ⟨(X (t + 3)).g, 0, none⟩), s.kv, s.vv] b' fun e w' => ∃ v2, e = .returned v2 ∧ Mods noB b' w' ∧
      ∀ b', Mods noB w' b' → Calls Try.prog 22 #[v2, .bool back, .int .i64 (m : Nat)] b' fun e w' => ∃ v3, e = .returned v3 ∧ Mods noB b' w' ∧ ∀ b', Mods noB w' b' → Calls Try.prog 20 #[v1, v3] b' fun e w' => e = .returned (.bool true) ∧ Mods noB b' w' := by
  have l := h.p.len (j := t) (by omega)
  have c := h.p.cn t (by omega)
  have ok := h.p.ok t (by omega)
  refine (kn_walked (n := m) (back := back) (h.p.kn ht) h.kO.rd h.vO.rd (by omega) (by omega) ok (by omega) (by omega)).mono ?_
  rintro e w3 ⟨v1, L1, rfl, g1, e1⟩
  refine ⟨v1, rfl, g1.mods, fun b3 m3 => ?_⟩
  have hb := h.then0 (g1.mods.then0 m3)
  have q := hb.p.qn ht
  rw [co t ht] at q
  obtain ⟨a1, a2⟩ := sa.at hb.p.mods
  refine (qn_walk q a1 a2 (by omega) (by omega)).mono ?_
  rintro e w4 ⟨v2, L2, rfl, g2, p2, e2⟩
  refine ⟨v2, rfl, g2.mods, fun b4 m4 => ?_⟩
  have hl2 : L2.length ≤ 1000000 := by
    have h1 := congrArg List.length e2
    rw [List.length_map] at h1
    have h2 := List.length_filter_le (btw s.k s.v) (A t).flatten
    have h3 : (A t).flatten.length = cnt (A t) := rfl
    omega
  refine (first_any (back := back) (n := m) (p2.keep0 m4) hl2 (by omega)).mono ?_
  rintro e w5 ⟨v3, rfl, g3⟩
  refine ⟨v3, rfl, g3.mods, fun b5 m5 => ?_⟩
  have mm : Mods noB w3 b5 := ((((m3.then0 g2.mods).then0 m4).then0 g3.mods).then0 m5)
  refine Pairs_true (g1.prow.keep0 mm) ((g3.prow (p2.keep0 m4) fst_mem).keep0 m5) (by rw [e1, fst_wlk e2]) ?_
  have h1 := congrArg List.length e1
  rw [List.length_map, List.length_take] at h1
  omega

theorem off_rep {w : World} {mb rb j a b : Nat} {X : Nat → BX} {b' : BX} (h : Off mb rb X b) (ha : a < 6) (hb : b < w.heap.size) (hf : ∀ k, MS b'.g b'.vo b'.R k → w.heap.size ≤ k) (hd : ∀ k, MD b'.R k → MD (X a).R k) : Off mb rb (up X j b') b := by
  refine ⟨h.1, h.2.1, fun i hi => ?_⟩
  by_cases e : i = j
  · subst e
    rw [up_self]
    exact ⟨fun x => by have := hf b x; omega, fun x => (h.2.2 a ha).2 (hd b x)⟩
  · rw [up_other _ _ e]; exact h.2.2 i hi
theorem co_copy {A : Nat → Pgs} {t u : Nat} (h : Co A) (ht : t < 3) (hu : u < 3) : Co (up (up A u (A t)) (u + 3) (A (t + 3))) := by
  rw [h t ht]
  exact h.up hu

theorem PL.copyC {w2 w : World} {mb rb sb n t u : Nat} {s : PStp} {kv vv : Value} {X : Nat → BX} {A : Nat → Pgs} (h : PL w2 w mb rb sb s kv vv X A n) (co : Co A) (ht : t < 3) (hu : u < 3) (hn : n ≤ 10000) :
    Calls Try.prog 24 #[.pointer (some ⟨(X t).g, 0, none⟩)] w fun e w' => ∃ p1, e = .returned (.pointer (some ⟨p1, 0, none⟩)) ∧ Mods noB w w' ∧ ∀ b', Mods noB w' b' → Calls Try.prog 25 #[.pointer (some ⟨(X (t + 3)).g, 0, none⟩)] b' fun e w' => ∃ p2, e = .returned (.pointer (some ⟨p2, 0, none⟩)) ∧ Mods noB b' w' ∧
      ∀ w9, w9 = (w'.setCell ⟨mb, 0 + u, none⟩ (.pointer (some ⟨p1, 0, none⟩))).setCell ⟨rb, 0 + u, none⟩ (.pointer (some ⟨p2, 0, none⟩)) → ∃ X' A', PL w2 w9 mb rb sb s kv vv X' A' n ∧ Co A' := by
  have l := h.p.len (j := t) (by omega)
  have c := h.p.cn t (by omega)
  have ok := h.p.ok t (by omega)
  have kd0 : kd u = false := decide_eq_false (by omega)
  have kd1 : kd (u + 3) = true := decide_eq_true (by omega)
  refine (kn_copy2 (h.p.kn ht) ok (by omega)).mono ?_
  rintro e w3 ⟨p1, vo1, R1, rfl, k1, m1, f1, d1⟩
  refine ⟨p1, rfl, m1, fun b4 m4 => ?_⟩
  have P1 := h.p.rep (j := u) (a := t) (b' := ⟨p1, vo1, R1⟩) (by omega) (by omega) m1 (by rw [kd0]; exact k1.pm) k1.eq f1 d1
  have q := (P1.then0 m4).qn ht
  have e3 : up X u ⟨p1, vo1, R1⟩ (t + 3) = X (t + 3) := up_other _ _ (by omega)
  have e4 : up A u (A t) (t + 3) = A (t + 3) := up_other _ _ (by omega)
  rw [e3, e4] at q
  refine (qn_copy q (h.p.ok (t + 3) (by omega)) (by have := h.p.len (j := t + 3) (by omega); omega)).mono ?_
  rintro e w5 ⟨p2, vo2, R2, rfl, k2, m2, f2, d2⟩
  refine ⟨p2, rfl, m2, fun w9 e9 => ⟨up (up X u ⟨p1, vo1, R1⟩) (u + 3) ⟨p2, vo2, R2⟩, _, ?_, co_copy co ht hu⟩⟩
  have mm : Mods noB w w5 := (m1.then0 m4).then0 m2
  have P2 := (P1.then0 m4).rep (j := u + 3) (a := t + 3) (b' := ⟨p2, vo2, R2⟩) (by omega) (by omega) m2 (by rw [kd1]; exact k2.pm) (by rw [k2.eq, e4]) f2 (by rw [e3]; exact d2)
  rw [e4] at P2
  have s4 := (m1.then0 m4).size
  have f2' : ∀ k, MS p2 vo2 R2 k → w.heap.size ≤ k := fun k hk => Nat.le_trans s4 (f2 k hk)
  have T9 := h.t.put (j := u) (b := ⟨p1, vo1, R1⟩) (c := ⟨p2, vo2, R2⟩) hu mm f1 f2' (fun k hk x => (h.t.a t (by omega) k x).2 (d1 k hk)) (fun k hk x => (h.t.a (t + 3) (by omega) k x).2 (d2 k hk)) e9
  have m9 : Mods (fun k => k = mb ∨ k = rb) w5 w9 := by
    rw [e9]
    exact ((Mods.refl (fun k => k = mb ∨ k = rb) w5).setCell (p := ⟨mb, 0 + u, none⟩) (.inl (.inl rfl)) _).setCell (p := ⟨rb, 0 + u, none⟩) (.inl (.inr rfl)) _
  have l3 := lt_of_heap h.sB
  have off : ∀ b, Off mb rb X b → b < w.heap.size → Off mb rb (up (up X u ⟨p1, vo1, R1⟩) (u + 3) ⟨p2, vo2, R2⟩) b := fun b ho hb => by
    have o1 := off_rep ho (w := w) (j := u) (a := t) (b' := ⟨p1, vo1, R1⟩) (by omega) hb f1 d1
    exact off_rep o1 (w := w) (j := u + 3) (a := t + 3) (b' := ⟨p2, vo2, R2⟩) (by omega) hb f2' (by rw [e3]; exact d2)
  have h5 := h.then0 mm
  refine ⟨P2.keep m9 (fun k hk => ?_) (fun j hj k hk => ⟨fun x => (T9.a j hj k hk).1 x, fun x => (T9.a j hj k hk).2 x⟩), T9, m9.heap h5.sB (fun x => ?_), h.s0, off sb h.sa l3, h5.kO.keep m9 (fun k hk x => ?_), h5.vO.keep m9 (fun k hk x => ?_), fun b hb => ?_, fun b hb => ?_⟩
  · rcases hk with rfl | rfl
    · exact h.t.m0
    · exact h.t.r0
  · rcases x with x | x
    · exact h.sa.1 x
    · exact h.sa.2.1 x
  · obtain ⟨_, _, _, o⟩ := h.kA k hk
    rcases x with x | x
    · exact o.1 x
    · exact o.2.1 x
  · obtain ⟨_, _, o⟩ := h.vA k hk
    rcases x with x | x
    · exact o.1 x
    · exact o.2.1 x
  · obtain ⟨a1, a2, a3, o⟩ := h.kA b hb
    exact ⟨a1, a2, a3, off b o (h.kO.lt b hb)⟩
  · obtain ⟨a1, a2, o⟩ := h.vA b hb
    exact ⟨a1, a2, off b o (h.vO.lt b hb)⟩

/-- both bytes copies are written over -/
theorem PL.spoil {w2 w w' w'' : World} {mb rb sb n : Nat} {s : PStp} {kv vv : Value} {X : Nat → BX} {A : Nat → Pgs} (h : PL w2 w mb rb sb s kv vv X A n) (m1 : Mods (ofV kv) w w') (m2 : Mods (ofV vv) w' w'') : P6 w2 w'' X A n ∧ T6 w2 w'' mb rb X := by
  have p1 := h.p.keep m1 (fun k x => (h.kA k x).1) (fun j hj k x => (h.kA k x).2.2.2.2.2 j hj)
  have t1 := h.t.keep m1 (fun x => (h.kA mb x).2.2.2.1 rfl) (fun x => (h.kA rb x).2.2.2.2.1 rfl)
  exact ⟨p1.keep m2 (fun k x => (h.vA k x).1) (fun j hj k x => (h.vA k x).2.2.2.2 j hj), t1.keep m2 (fun x => (h.vA mb x).2.2.1 rfl) (fun x => (h.vA rb x).2.2.2.1 rfl)⟩
theorem P6.sameC {w2 w : World} {n t : Nat} {X : Nat → BX} {A : Nat → Pgs} (h : P6 w2 w X A n) (co : Co A) (ht : t < 3) (hn : n ≤ 10000) : Calls Try.prog 26 #[.pointer (some ⟨(X t).g, 0, none⟩), .pointer (some ⟨(X (t + 3)).g, 0, none⟩)] w fun e w' => e = .returned (.bool true) ∧ Mods noB w w' := by
  have q := h.qn ht
  rw [co t ht] at q
  have := h.len (j := t) (by omega)
  have := h.cn t (by omega)
  exact same_any (h.kn ht) q (h.ok t (by omega)) (by omega) (by omega)

theorem PL.start {w2 wr w3 wk w5 : World} {mb rb sb n : Nat} {s : PStp} {kv vv : Value} {X : Nat → BX} {A : Nat → Pgs} (p : P6 w2 wr X A n) (t : T6 w2 wr mb rb X) (hs : wr.heap.size ≤ sb) (sB : w3.heap[sb]? = some (.cells #[.int .i64 s.at_, .int .i64 s.what, .int .i64 s.n, s.kv, s.vv] 35 (0, 0))) (m3 : Mods noB wr w3)
    (oK : Gl.Own wk kv s.k) (mK : Mods noB wk w5) (oV : Gl.Own w5 vv s.v) (fK : freshIn w3 kv) (fV : freshIn w3 vv) (fV1 : freshIn wk vv) (m5 : Mods noB w3 w5) : PL w2 w5 mb rb sb s kv vv X A n := by
  have s2 := p.mods.size
  have s3 := m3.size
  have l3 := lt_of_heap sB
  obtain ⟨l1, l2⟩ := t.lt
  have off : ∀ b, wr.heap.size ≤ b → Off mb rb X b := fun b hb => ⟨by omega, by omega, fun j hj => ⟨fun x => by have := (p.st j hj).lt b x; omega, fun x => by have := (p.st j hj).dlt b x; omega⟩⟩
  refine ⟨(p.then0 m3).then0 m5, (t.then0 m3).then0 m5, m5.heap sB (fun x => x), by omega, off sb hs, oK.keep mK (fun _ _ x => x), oV, fun b hb => ?_, fun b hb => ?_⟩
  · have := fK b hb
    exact ⟨by omega, by omega, fun h => by have := fV1 b h; have := oK.lt b hb; omega, off b (by omega)⟩
  · have := fV b hb
    exact ⟨by omega, by omega, off b (by omega)⟩

end Go.Proofs.Ytjlomnhngngkiaa

/- gleanhelp.Items: lists of bytes held against one another. -/
import Derived.Test.YtnkbbclcileleaaGreatHBytes
import Derived.Test.YtnkbbclcileleaaGreatZA
import Derived.Test.YtnkbbclcileleaaGreatEKnown2
import Derived.Test.YtnkbbclcileleaaGreatRecH
namespace Go.Proofs.YtnkbbclcileleaaGreat
open Go.Gl Go.RowKit
set_option linter.unusedVariables false

/-- a list of bytes' lists, as it lies in a block -/
def ItemsAt (w : World) (g n : Nat) (zs : List (List UInt8)) : Prop := zs.length = n ∧ n ≤ 1000 ∧ ∃ cs : Array Value, w.heap[g]? = some (.cells cs 49 (0, 0)) ∧ ∀ i (hi : i < zs.length), ∃ v, cs[i]? = some v ∧ Rd w v zs[i]

theorem ItemsAt.cell {w : World} {g n : Nat} {zs : List (List UInt8)} (h : ItemsAt w g n zs) (i : Nat) (hi : i < zs.length) : ∃ a m c, Rd w (.slice a m c) zs[i] ∧ ∀ b, Mods noB w b → b.cell? ⟨g, i, none⟩ = some (.slice a m c) := by
  obtain ⟨_, _, cs, hg, hc⟩ := h
  obtain ⟨v, h1, h2⟩ := hc i hi
  obtain ⟨a, c, rfl, _⟩ := h2.form
  exact ⟨a, _, c, h2, fun b hm => by rw [cells_of (blk_step hm hg), h1]⟩

set_option maxHeartbeats 1000000 in
theorem items_true {w : World} {g h n : Nat} (zs : List (List UInt8)) (hx : ItemsAt w g n zs) (hy : ItemsAt w h n zs) :
    Calls Tryz.prog 31 #[.slice (some ⟨g, 0, none⟩) n n, .slice (some ⟨h, 0, none⟩) n n] w fun r w' => r = .returned (.bool true) ∧ Mods noB w w' := by
  have HX := Lib.hid hx
  have HY := Lib.hid hy
  have hn := hx.2.1
  have HL := Lib.hid hx.1
  have M0 : Hid (Mods noB w w) := Lib.hid (Mods.refl _ _)
  clear hx hy
  go_enter Tryz.func31, Tryz.ntmps31
  go_wp2
  go_loopw [5] (fun i wr => ∃ k : Nat, k ≤ n ∧ i = .int .i64 k ∧ Hid (Mods noB w wr)) (fun i _ => n - (intOf i).toNat)
  case atStart => exact ⟨0, Nat.zero_le _, rfl, M0⟩
  case round =>
    obtain ⟨k, hk, rfl, hR⟩ := hrel
    clear M0
    by_cases hlt : k < n
    · have lk : k < zs.length := by rw [HL.out]; exact hlt
      obtain ⟨a1, m1, c1, r1, q1⟩ := HX.out.cell k lk
      obtain ⟨a2, m2, c2, r2, q2⟩ := HY.out.cell k lk
      have R1 := Lib.hid (fun (b : World) (hm : Mods noB wr b) => Bytes_true (r1.keep (hR.out.then0 hm) (fun _ _ x => x)) (r2.keep (hR.out.then0 hm) (fun _ _ x => x)))
      have q3 : ∀ b, Mods noB wr b → b.cell? ⟨g, k, none⟩ = some (.slice a1 m1 c1) := fun b hm => q1 b (hR.out.then0 hm)
      have q4 : ∀ b, Mods noB wr b → b.cell? ⟨h, k, none⟩ = some (.slice a2 m2 c2) := fun b hm => q2 b (hR.out.then0 hm)
      clear q1 q2 r1 r2
      have q5 := q3 wr (Mods.refl _ _)
      have q6 := q4 wr (Mods.refl _ _)
      have b8 : (k : Int) < (n : Int) := by omega
      have b7 : (0 : Int) ≤ (k : Int) := by omega
      go_wp2
      go_region_held3 (fun b => Mods noB wr b)
        (exact (by repeat' (first | (with_reducible exact Mods.refl _ _) | (with_reducible assumption) | (with_reducible refine Mods.alloc ?_ _) | (with_reducible refine Mods.drew ?_) | (with_reducible refine Mods.drewN ?_ _) | (with_reducible refine Mods.regrown ?_ _ _) | (with_reducible refine Mods.setCell ?_ ?_ _) | (refine .inr ?_; first | (simp; done) | (simp; omega) | omega))))
        ((first
          | (go_at_call 36; refine (R1.out _ ?_).mono ?_; (next => exact (by repeat' (first | (with_reducible exact Mods.refl _ _) | (with_reducible assumption) | (with_reducible refine Mods.alloc ?_ _) | (with_reducible refine Mods.drew ?_) | (with_reducible refine Mods.drewN ?_ _) | (with_reducible refine Mods.regrown ?_ _ _) | (with_reducible refine Mods.setCell ?_ ?_ _) | (refine .inr ?_; first | (simp; done) | (simp; omega) | omega)))); rintro r w1 ⟨rfl, m7⟩; replace m7 := ((Mods.refl noB wr).drew).then0 m7)))
      have M2 := Lib.hid (hR.out.then0 m7)
      go_wp2
      go_roundw
      case rel => exact ⟨k + 1, by omega, by go_num, M2⟩
      case measure => simp [intOf]; omega
    · obtain rfl : k = n := by omega
      go_wp2
      go_ret
      exact ⟨rfl, hR.out⟩

/-- bytes in new memory, one block each -/
structure OL (w0 : World) (l : List (Value × List UInt8)) (w : World) : Prop where
  own : ∀ p ∈ l, Own w p.1 p.2 ∧ freshIn w0 p.1
  ne : l.Pairwise (fun p q => ∀ k, p.1.ownBlock = some k → q.1.ownBlock ≠ some k)
  mods : Mods noB w0 w
theorem OL.nil (w : World) : OL w [] w := ⟨fun p hp => (by cases hp), List.Pairwise.nil, Mods.refl _ _⟩
theorem OL.push {w0 w wz w' : World} {l : List (Value × List UInt8)} {v : Value} {xs : List UInt8} (h : OL w0 l w) (mz : Mods noB w wz) (o : Own w' v xs) (m : Mods noB wz w') (f : freshIn wz v) : OL w0 (l ++ [(v, xs)]) w' := by
  have m2 := mz.then0 m
  refine ⟨fun p hp => ?_, List.pairwise_append.2 ⟨h.ne, List.pairwise_singleton _ _, fun p hp q hq k hk hk2 => ?_⟩, h.mods.then0 m2⟩
  · rcases List.mem_append.1 hp with hp | hp
    · exact ⟨(h.own p hp).1.keep m2 (fun _ _ x => x), (h.own p hp).2⟩
    · obtain rfl := List.mem_singleton.1 hp
      exact ⟨o, f.of (h.mods.then0 mz).size⟩
  · obtain rfl := List.mem_singleton.1 hq
    have h1 := f k hk2
    have h2 := (h.own p hp).1.lt k hk
    have := mz.size
    omega

/-- lists of bytes in a block of their own: those from the k-th on as they were laid -/
structure SL (w0 : World) (G : Nat) (ps : List (Value × List UInt8)) (k : Nat) (w : World) : Prop where
  mods : Mods noB w0 w
  blk : w.heap[G]? = some (.cells (ps.map (·.1)).toArray 49 (0, 0))
  own : ∀ j (hj : j < ps.length), k ≤ j → Own w ps[j].1 ps[j].2
  fresh : ∀ p ∈ ps, freshIn w0 p.1
  ne : ps.Pairwise (fun p q => ∀ k, p.1.ownBlock = some k → q.1.ownBlock ≠ some k)
  off : ∀ p ∈ ps, p.1.ownBlock ≠ some G
theorem SL.mk0 {w0 w wz : World} {ps : List (Value × List UInt8)} {cs : Array Value} (h : OL w0 ps w) (mz : Mods noB w wz) (hc : cs = (ps.map (·.1)).toArray) : SL w0 wz.heap.size ps 0 (wz.alloc (.cells cs 49)) := by
  subst hc
  have m := mz.alloc (.cells (ps.map (·.1)).toArray 49)
  refine ⟨h.mods.then0 m, heap_new _ _, fun j hj _ => (h.own _ (List.getElem_mem hj)).1.keep m (fun _ _ x => x), fun p hp => (h.own p hp).2, h.ne, fun p hp e => ?_⟩
  have := (h.own p hp).1.lt _ e
  have := mz.size
  omega
theorem SL.keep {w0 w w' : World} {G k : Nat} {ps : List (Value × List UInt8)} (h : SL w0 G ps k w) (m : Mods noB w w') : SL w0 G ps k w' :=
  ⟨h.mods.then0 m, blk_step m h.blk, fun j hj hk => (h.own j hj hk).keep m (fun _ _ x => x), h.fresh, h.ne, h.off⟩
theorem SL.step {w0 w w' : World} {G k : Nat} {ps : List (Value × List UInt8)} (h : SL w0 G ps k w) (hk : k < ps.length) (m : Mods (ofV ps[k].1) w w') : SL w0 G ps (k + 1) w' := by
  have hp := List.getElem_mem hk
  refine ⟨h.mods.trans m (fun _ _ x => x) (fun i hi hx => absurd hi (Nat.not_lt.2 (h.fresh _ hp i hx))), m.heap h.blk (fun e => h.off _ hp e), fun j hj hkj => (h.own j hj (by omega)).keep m (fun b hb x => ?_), h.fresh, h.ne, h.off⟩
  exact List.pairwise_iff_getElem.1 h.ne k j hk hj (by omega) b x hb
theorem SL.cell {w0 w : World} {G k : Nat} {ps : List (Value × List UInt8)} (h : SL w0 G ps k w) (hk : k < ps.length) : w.cell? ⟨G, k, none⟩ = some ps[k].1 := by
  rw [cells_of h.blk]
  simp [hk]

/-- .. with the bytes told -/
def LAt (w0 : World) (Z : List (List UInt8)) (G : Nat) (w : World) : Prop := ∃ ps : List (Value × List UInt8), ps.map (·.2) = Z ∧ SL w0 G ps 0 w
theorem LAt.keep {w0 w w' : World} {G : Nat} {Z : List (List UInt8)} (h : LAt w0 Z G w) (m : Mods noB w w') : LAt w0 Z G w' := by
  obtain ⟨ps, h1, h2⟩ := h
  exact ⟨ps, h1, h2.keep m⟩
theorem LAt.mods {w0 w : World} {G : Nat} {Z : List (List UInt8)} (h : LAt w0 Z G w) : Mods noB w0 w := by
  obtain ⟨ps, h1, h2⟩ := h
  exact h2.mods
theorem LAt.items {w0 w : World} {G n : Nat} {Z : List (List UInt8)} (h : LAt w0 Z G w) (hl : Z.length = n) (hn : n ≤ 1000) : ItemsAt w G n Z := by
  obtain ⟨ps, rfl, h2⟩ := h
  refine ⟨hl, hn, _, h2.blk, fun i hi => ⟨ps[i]'(by simpa using hi) |>.1, ?_, ?_⟩⟩
  · have : i < ps.length := by simpa using hi
    simp [this]
  · have hi' : i < ps.length := by simpa using hi
    have := (h2.own i hi' (Nat.zero_le _)).rd
    simpa using this

end Go.Proofs.YtnkbbclcileleaaGreat

/- gleanlaw7.known: the chapter's examples hold. -/
import Derived.Test.YtdoeadoaffmgpaaKRead
import Derived.Test.YtdoeadoaffmgpaaKMade
import Derived.Test.YtdoeadoaffmgpaaBase2
import Derived.Deep.RegionHeld3
namespace Go.Proofs.Ytdoeadoaffmgpaa
open Go.Gl Go.RowKit
set_option linter.unusedVariables false

def kB : List UInt8 := [118, 0, 0, 0, 0, 0, 0, 0, 16, 104, 0, 0, 0, 0, 0, 0, 0, 2]
def kU : List UInt8 := [118, 0, 0, 0, 0, 0, 0, 0, 16, 115]

theorem kn_make (w : World) : Calls Try.prog 18 #[.agg #[.int .i64 7, .int .u64 16, .int .u64 2]] w (KRes w kB 0) := by
  have h := Make_any 7 16 2 w (by decide) (by decide)
  rw [show kmake 7 16 2 = some kB from by decide] at h
  exact h

theorem kn_pool (w : World) : Calls Try.prog 18 #[.agg #[.int .i64 3, .int .u64 1, .int .u64 0]] w (KRes w [] 70) := by
  have h := Make_any 3 1 0 w (by decide) (by decide)
  rw [show kmake 3 1 0 = none from by decide] at h
  exact h

theorem kn_under (w : World) : Calls Try.prog 21 #[.int .i64 8, .int .u64 16] w (KRes w kU 0) := by
  have h := Under_any 8 16 w (by decide)
  rw [show kunder 8 16 = some kU from by decide] at h
  exact h

theorem kn_of (w : World) : Calls Try.prog 22 #[.int .i64 5] w (KRes w [118] 0) := by
  have h := Of_any 5 w
  rw [show kof 5 = some [118] from by decide] at h
  exact h

theorem kn_read {v : Value} {w : World} (hv : Rd w v kB) : Calls Try.prog 13 #[v] w fun e w' => e = .returned (.tuple #[.agg #[.int .i64 7, .int .u64 16, .int .u64 2], .int .i64 0]) ∧ Mods noB w w' :=
  (KRead_any hv).mono fun e w' ⟨k, A, B, n, he, hr, hm⟩ => by
    have h2 : KReads kB 7 16 2 0 := .inl ⟨rfl, by decide, by decide, by decide, by decide, by decide⟩
    obtain ⟨rfl, rfl, rfl, rfl⟩ := hr.same h2
    exact ⟨he, hm⟩

theorem own_lit (xs : List UInt8) {w : World} (n len : Nat) (cs : Array Value) (hn : n = w.heap.size) (hl : xs.length = len) (hm : Nat.ble len 1000 = true) (hc : cs.toList = bv xs) : Own (w.alloc (.cells cs 5)) (.slice (some ⟨n, 0, none⟩) len len) xs := by
  subst hn hl
  have hs : cs.size = xs.length := by rw [← Array.length_toList, hc, bv_length]
  refine ⟨by rw [bv_length, Nat.mul_one], .inr ⟨_, 0, _, _, rfl, heap_new _ _, Nat.le_refl _, by have := Nat.le_of_ble_eq_true hm; simp only [maxLen]; omega, by omega, fun j u hj => ?_⟩⟩
  rw [Nat.zero_add, ← Array.getElem?_toList, hc]
  exact hj

theorem kS_step {w0 a b : World} {g4 : Nat} {v1 v2 v6 wt : Value} (hm : Mods noB a b) (h1 : a.cell? ⟨g4, 0, none⟩ = some (.int .i64 7)) (h2 : a.cell? ⟨g4, 1, none⟩ = some (.int .u64 16)) (h3 : a.cell? ⟨g4, 2, none⟩ = some (.int .u64 2)) (h4 : g4 < a.heap.size) (h5 : Rd a v1 kB) (h6 : Rd a v2 kU) (h7 : Rd a v6 [118]) (h8 : Rd a wt kB) (h9 : Mods noB w0 a) :
    b.cell? ⟨g4, 0, none⟩ = some (.int .i64 7) ∧ b.cell? ⟨g4, 1, none⟩ = some (.int .u64 16) ∧ b.cell? ⟨g4, 2, none⟩ = some (.int .u64 2) ∧ g4 < b.heap.size ∧ Rd b v1 kB ∧ Rd b v2 kU ∧ Rd b v6 [118] ∧ Rd b wt kB ∧ Mods noB w0 b :=
  ⟨(hm.cellAt h4 (fun x => x) 0).trans h1, (hm.cellAt h4 (fun x => x) 1).trans h2, (hm.cellAt h4 (fun x => x) 2).trans h3, hm.size_of h4, h5.keep hm (fun _ _ x => x), h6.keep hm (fun _ _ x => x), h7.keep hm (fun _ _ x => x), h8.keep hm (fun _ _ x => x), h9.then0 hm⟩

theorem Bytes_rd {x y : Value} {xs ys : List UInt8} {w : World} (hx : Rd w x xs) (hy : Rd w y ys) (he : xs = ys) :
    Calls Try.prog 9 #[x, y] w fun e w' => e = .returned (.bool true) ∧ Mods noB w w' := by
  subst he
  exact (Bytes_same hx hy).mono fun e w' ⟨he, hq⟩ => ⟨he, hq.mods _⟩

theorem Rd.cut {w : World} {g off m n cap cap' : Nat} {xs : List UInt8} (h : Rd w (.slice (some ⟨g, off, none⟩) m cap) xs) (hm : xs.length = m) (hn : n ≤ m) (hc : n ≤ cap') (hc' : cap' ≤ maxLen) : Rd w (.slice (some ⟨g, off, none⟩) n cap') (xs.take n) := by
  subst hm
  have := h.sub 0 n cap' (by omega) hc hc'
  simpa using this

theorem cut18 : 18 ≤ maxLen := by simp [maxLen]
theorem cut9 : 9 ≤ maxLen := by simp [maxLen]
theorem kN : knext [112, 255, 255] = [113] := by decide
theorem kV : (118 :: be 8 16) = kB.take 9 := by decide

set_option maxHeartbeats 8000000 in
theorem known_any (w : World) : Calls Try.prog 7 #[] w (TrueM w) := by
  go_enter Try.func7, Try.ntmps7
  go_wp2_with fail
  refine (kn_make _).mono ?_
  rintro e w1 ⟨v1, rfl, o1, m1, f1⟩
  go_wp2_with fail
  refine (kn_under _).mono ?_
  rintro e w2 ⟨v2, rfl, o2, m2, f2⟩
  go_wp2_with fail
  refine (kn_pool _).mono ?_
  rintro e w3 ⟨v3, rfl, o3, m3, f3⟩
  have o1 := (o1.keep m2 (fun _ _ x => x)).keep m3 (fun _ _ x => x)
  have o2 := o2.keep m3 (fun _ _ x => x)
  have mw := (m1.then0 m2).then0 m3
  clear m1 m2 m3 o3 f3
  go_wp2_with fail
  refine (kn_read o1.rd).mono ?_
  rintro e w4 ⟨rfl, m4⟩
  have o1 := o1.keep m4 (fun _ _ x => x)
  have o2 := o2.keep m4 (fun _ _ x => x)
  have mw := mw.then0 m4
  clear m4
  go_wp2_with fail
  have o1 := o1.alloc (.cells #[.int .i64 7, .int .u64 16, .int .u64 2] 30)
  have o2 := o2.alloc (.cells #[.int .i64 7, .int .u64 16, .int .u64 2] 30)
  have mw := mw.alloc (.cells #[.int .i64 7, .int .u64 16, .int .u64 2] 30)
  have c7 := cells_of (heap_new w4 (.cells #[.int .i64 7, .int .u64 16, .int .u64 2] 30))
  have z7 : w4.heap.size < (w4.alloc (.cells #[.int .i64 7, .int .u64 16, .int .u64 2] 30)).heap.size := by simp
  generalize World.alloc w4 _ = w5 at *
  refine (kn_of _).mono ?_
  rintro e w6 ⟨v6, rfl, o6, m6, f6⟩
  have o1 := o1.keep m6 (fun _ _ x => x)
  have o2 := o2.keep m6 (fun _ _ x => x)
  have mw := mw.then0 m6
  have c7 := fun o => (m6.cellAt z7 (fun x => x) o).trans (c7 o)
  have z7 := m6.size_of z7
  clear m6 f1 f2 f6
  go_wp2_with fail
  have o7 := own_lit kB (w := w6) w6.heap.size 18 #[.int .u8 118, .int .u8 0, .int .u8 0, .int .u8 0, .int .u8 0, .int .u8 0, .int .u8 0, .int .u8 0, .int .u8 16, .int .u8 104, .int .u8 0, .int .u8 0, .int .u8 0, .int .u8 0, .int .u8 0, .int .u8 0, .int .u8 0, .int .u8 2] rfl rfl rfl rfl
  have hS := kS_step (((Mods.refl noB w6)).alloc (.cells #[.int .u8 118, .int .u8 0, .int .u8 0, .int .u8 0, .int .u8 0, .int .u8 0, .int .u8 0, .int .u8 0, .int .u8 16, .int .u8 104, .int .u8 0, .int .u8 0, .int .u8 0, .int .u8 0, .int .u8 0, .int .u8 0, .int .u8 0, .int .u8 2] 5)) (c7 0) (c7 1) (c7 2) z7 o1.rd o2.rd o6.rd (o1.rd) mw
  obtain ⟨h1, h2, h3, h4, h5, h6, h7, _, h9⟩ := hS
  have h8 := o7.rd
  clear o1 o2 o6 o7 c7 z7 mw
  generalize World.alloc w6 _ = w7 at *
  generalize w6.heap.size = g6 at *
  generalize w4.heap.size = g4 at *
  go_region_held3 (fun w' => w'.cell? ⟨g4, 0, none⟩ = some (.int .i64 7) ∧ w'.cell? ⟨g4, 1, none⟩ = some (.int .u64 16) ∧ w'.cell? ⟨g4, 2, none⟩ = some (.int .u64 2) ∧ g4 < w'.heap.size ∧ Rd w' v1 kB ∧ Rd w' v2 kU ∧ Rd w' v6 [118] ∧ Rd w' (.slice (some ⟨g6, 0, none⟩) 18 18) kB ∧ Mods noB w w')
    ((first | (exact kS_step (Mods.refl noB _).drew (by assumption) (by assumption) (by assumption) (by assumption) (by assumption) (by assumption) (by assumption) (by assumption) (by assumption) ) | (go_split_ands; exact kS_step hq (by assumption) (by assumption) (by assumption) (by assumption) (by assumption) (by assumption) (by assumption) (by assumption) (by assumption) ) | (go_split_ands; exact kS_step ((Mods.refl _ _).alloc _) (by assumption) (by assumption) (by assumption) (by assumption) (by assumption) (by assumption) (by assumption) (by assumption) (by assumption) )))
    ((first
      | (go_at_call 9; refine (Bytes_rd (xs := kB) (ys := kB) ?_ ?_ rfl).mono ?_; (next => (go_split_ands; first | assumption)); (next => (go_split_ands; first | assumption)); rintro e w' ⟨rfl, hq⟩)
      | (go_at_call 9; refine (Bytes_rd (xs := kU) (ys := kU) ?_ ?_ rfl).mono ?_; (next => (go_split_ands; first | assumption)); (next => (go_split_ands; first | assumption)); rintro e w' ⟨rfl, hq⟩)
      | (go_at_call 9; refine (Bytes_rd (xs := [118]) (ys := [118]) ?_ ?_ rfl).mono ?_; (next => (go_split_ands; first | assumption)); (next => (go_split_ands; first | assumption | (refine Own.rd (own_lit [118] _ 1 _ ?_ rfl rfl rfl); simp))); rintro e w' ⟨rfl, hq⟩)
      | (go_at_call 9; refine (Bytes_rd (xs := [113]) (ys := [113]) ?_ ?_ rfl).mono ?_; (next => (go_split_ands; first | assumption | (refine Rd.alloc ?_ _; assumption))); (next => (go_split_ands; first | assumption | (refine Own.rd (own_lit [113] _ 1 _ ?_ rfl rfl rfl); simp) | (refine Rd.alloc (Own.rd (own_lit [113] _ 1 _ ?_ rfl rfl rfl)) _; simp))); rintro e w' ⟨rfl, hq⟩)
      | (go_at_call 9; refine (Bytes_rd (xs := (118 :: be 8 16)) (ys := (kB.take 9)) ?_ ?_ kV).mono ?_; (next => (go_split_ands; first | assumption)); (next => (go_split_ands; first | (refine Rd.cut (m := 18) (cap := 18) (xs := kB) ?_ rfl (Nat.le_of_ble_eq_true rfl) (Nat.le_of_ble_eq_true rfl) cut18; assumption))); rintro e w' ⟨rfl, hq⟩)
      | (go_at_call 15; refine (KNext_any (b := [112, 255, 255]) ?_ (Nat.le_of_ble_eq_true rfl)).mono ?_; (next => (go_split_ands; first | (refine Own.rd (own_lit [112, 255, 255] _ 3 _ ?_ rfl rfl rfl); simp) | (refine Rd.alloc (Own.rd (own_lit [112, 255, 255] _ 3 _ ?_ rfl rfl rfl)) _; simp))); rintro e w' ⟨v', rfl, ho, hq, _⟩; rw [kN] at ho; replace ho := Own.rd ho; try (first | (have hY := Rd.keep (Own.rd (own_lit [113] _ 1 _ rfl rfl rfl rfl)) hq (fun _ _ x => x)) | (have hY := Rd.keep (Rd.alloc (Own.rd (own_lit [113] _ 1 _ rfl rfl rfl rfl)) _) hq (fun _ _ x => x))); try simp only [World.size_alloc] at hY)
      | (go_at_call 10; refine (Val_any 16 _ (Nat.le_of_ble_eq_true rfl)).mono ?_; rintro e w' ⟨v', rfl, ho, hq, _⟩; replace ho := Own.rd ho)
      | (refine step_apg (xs := kB.take 9) (ys := [115]) ?_ rfl rfl ?_ ?_ rfl rfl (Nat.le_of_ble_eq_true rfl) (Nat.le_of_ble_eq_true rfl) ?_; (next => rfl); (next => (go_split_ands; refine Rd.cut (m := 18) (cap := 18) (xs := kB) ?_ rfl (Nat.le_of_ble_eq_true rfl) (Nat.le_of_ble_eq_true rfl) cut9; assumption)); (next => (go_split_ands; (refine Own.rd (own_lit [115] _ 1 _ ?_ rfl rfl rfl); simp))); intro v' w' ho hq _; replace ho : Rd w' v' kU := Own.rd ho)))
  all_goals
    go_wp2_with fail
    go_ret
    go_split_ands
    exact ⟨rfl, by assumption⟩

end Go.Proofs.Ytdoeadoaffmgpaa

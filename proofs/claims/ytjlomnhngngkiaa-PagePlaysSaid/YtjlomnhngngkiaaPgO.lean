/- gleanlaw5.shaped: what has its shape is found to have it. -/
import Derived.Test.YtjlomnhngngkiaaPgO0
import Derived.Deep.DeepCutAuto
namespace Go.Proofs.Ytjlomnhngngkiaa
open Go.Gl Go.RowKit
set_option linter.unusedVariables false
set_option maxRecDepth 100000

theorem adj_get : ∀ {L : List Nat}, Adj L → ∀ j (h : j + 1 < L.length), 17 ≤ L[j] + L[j + 1]
  | [], _, j, h => by simp at h
  | [a], _, j, h => by simp at h
  | a :: b :: t, h, 0, _ => h.1
  | a :: b :: t, h, j + 1, hj => adj_get (L := b :: t) h.2 j (by simpa using hj)
theorem lens_sum (ps : Pgs) : (lens ps).sum = cnt ps := by
  unfold lens cnt
  rw [List.length_flatten]
theorem sum_take {L : List Nat} {k : Nat} (h : k < L.length) : (L.take (k + 1)).sum = (L.take k).sum + L[k] := by
  rw [List.take_succ_eq_append_getElem h, List.sum_append]; simp
theorem sum_le {L : List Nat} (h : ∀ x ∈ L, x ≤ 32) : ∀ k, (L.take k).sum ≤ 32 * k := by
  intro k
  induction k with
  | zero => simp
  | succ k ih =>
    by_cases hk : k < L.length
    · rw [sum_take hk]
      have := h _ (List.getElem_mem hk)
      omega
    · rw [List.take_of_length_le (by omega)] at ih ⊢
      omega

set_option maxHeartbeats 4000000 in
theorem shaped_any {w : World} {g : Nat} {vo : Value} {R : List PV} (hm : PM w g vo R) (ok : PgOk (pgs R)) (ha : Adj (lens (pgs R))) (hn : R.length ≤ 1000000) :
    Calls Try.prog 27 #[.pointer (some ⟨g, 0, none⟩)] w fun e w' => e = .returned (.bool true) ∧ Mods noB w w' := by
  have HP := Lib.hid (Pages_any hm hn)
  have HM := Lib.hid hm
  have hsum := lens_sum (pgs R)
  have hlen : (lens (pgs R)).length = R.length := by rw [lens, List.length_map, pgs_length]
  have hx : ∀ x ∈ lens (pgs R), 1 ≤ x ∧ x ≤ 32 := fun x hx => by
    obtain ⟨p, hp, rfl⟩ := List.mem_map.1 hx
    exact ⟨List.length_pos_iff.2 (ok.ne p hp), ok.most p hp⟩
  have hLS := sum_le (L := lens (pgs R)) (fun x h => (hx x h).2)
  have hAd := fun j h => adj_get ha j h
  have hL : (pgs R).map List.length = lens (pgs R) := rfl
  rw [hL] at HP
  have HS := Lib.hid hsum
  clear hm ok ha hsum hL
  generalize lens (pgs R) = L at *
  obtain ⟨n, hN⟩ : ∃ n, L.length = n := ⟨_, rfl⟩
  have HN := Lib.hid hN
  have HX := Lib.hid hx
  have HA := Lib.hid hAd
  have HL := Lib.hid hLS
  have hn' : n ≤ 1000000 := by omega
  clear hx hAd hLS hlen hn hN
  go_enter Try.func27, Try.ntmps27
  go_wp2_with fail
  refine HP.out.mono ?_
  rintro e w1 ⟨v, rfl, ig⟩
  obtain ⟨a1, c1, rfl, _⟩ := ig.own.rd.form
  rw [HN.out] at ig ⊢
  have IG := Lib.hid ig
  clear ig HP
  go_wp2
  go_loopw [4, 5] (fun s i wr => ∃ k : Nat, k ≤ n ∧ s = .int .i64 ((L.take k).sum : Nat) ∧ i = .int .i64 k ∧ Hid (Mods noB w1 wr)) (fun _ i _ => n - (intOf i).toNat)
  case atStart => exact ⟨0, Nat.zero_le _, by simp, rfl, Lib.hid (Mods.refl _ _)⟩
  case round =>
    obtain ⟨k, hk, rfl, rfl, hM⟩ := hrel
    by_cases hlt : k < n
    · have hkl : k < L.length := by rw [HN.out]; exact hlt
      have hs := HL.out k
      have hs1 := sum_take hkl
      obtain ⟨hx1, hx2⟩ := HX.out _ (List.getElem_mem hkl)
      have ow := IG.out.own.keep hM.out (fun _ _ x => x)
      rcases ow.ob with ⟨_, hz, _⟩ | ⟨b, off, cap, hvv, ob⟩
      · omega
      obtain ⟨rfl, _, rfl⟩ : a1 = some ⟨b, off, none⟩ ∧ n = L.length ∧ c1 = cap := by simpa using hvv
      have c0 : wr.cell? ⟨b, off + k, none⟩ = some (.int .i64 (L[k] : Nat)) := ob.cell (by unfold ints; rw [List.getElem?_map, List.getElem?_eq_getElem hkl]; rfl)
      have hbl := ob.lt
      have c9 : ∀ j (hj : j + 1 = k), ∃ y : Nat, wr.cell? ⟨b, off + j, none⟩ = some (.int .i64 (y : Nat)) ∧ y ≤ 32 ∧ 17 ≤ y + L[k] := fun j hj => by
        have hjl : j < L.length := by omega
        refine ⟨L[j], ob.cell (by unfold ints; rw [List.getElem?_map, List.getElem?_eq_getElem hjl]; rfl), (HX.out _ (List.getElem_mem hjl)).2, ?_⟩
        subst hj
        exact HA.out j hkl
      clear ow ob hvv
      generalize L[k] = x at *
      obtain ⟨S, hS⟩ : ∃ S, (L.take k).sum = S := ⟨_, rfl⟩
      rw [hS] at hs hs1 ⊢
      have HS1 := Lib.hid hs1
      clear hS hs1
      have hki : (k : Int) < (n : Int) := by omega
      go_upto_region 6 with fail
      cases k with
      | zero =>
        refine wp_tl (d := .region 6 (opsC 6 Try.f27) true) (by kernel_rfl) ?_
        refine RW.wp (shp6z c0 (by omega) hbl hx1 hx2 hn' ?_)
        intros
        rename_i w2 m2
        have c2 : w2.cell? ⟨b, off + 0, none⟩ = some (.int .i64 (x : Nat)) := (m2.cellAt hbl (fun x => x) _).trans c0
        rw [Nat.add_zero] at c2
        have M2 := Lib.hid (hM.out.then0 m2)
        clear c0 c9 m2 hM
        go_wp2
        go_roundw
        case rel => exact ⟨0 + 1, by omega, by rw [HS1.out]; go_num, by go_num, M2⟩
        case measure => simp [intOf]; omega
      | succ j =>
        obtain ⟨y, d0, hy1, hy2⟩ := c9 j rfl
        refine wp_tl (d := .region 6 (opsC 6 Try.f27) true) (by kernel_rfl) ?_
        refine RW.wp (shp6s c0 d0 (by omega) hy1 hy2 hbl hx1 hx2 hn' ?_)
        intros
        rename_i w2 m2
        have c2 : w2.cell? ⟨b, off + (j + 1), none⟩ = some (.int .i64 (x : Nat)) := (m2.cellAt hbl (fun x => x) _).trans c0
        have M2 := Lib.hid (hM.out.then0 m2)
        clear c0 c9 m2 hM d0
        go_wp2
        go_roundw
        case rel => exact ⟨j + 1 + 1, by omega, by rw [HS1.out]; go_num, by go_num, M2⟩
        case measure => simp [intOf]; omega
    · obtain rfl : k = n := by omega
      have hsum : (L.take k).sum = cnt (pgs R) := by rw [List.take_of_length_le (by rw [HN.out]; exact Nat.le_refl _), HS.out]
      rw [hsum]
      have LE := Lib.hid (Len_any (HM.out.keep0 (IG.out.mods.then0 hM.out)))
      have M := Lib.hid (IG.out.mods.then0 hM.out)
      generalize cnt (pgs R) = C at *
      clear hsum hM
      go_wp2_with fail
      refine LE.out.mono ?_
      rintro e w3 ⟨rfl, rfl⟩
      go_wp2
      go_ret
      exact ⟨by simp, M.out⟩

end Go.Proofs.Ytjlomnhngngkiaa

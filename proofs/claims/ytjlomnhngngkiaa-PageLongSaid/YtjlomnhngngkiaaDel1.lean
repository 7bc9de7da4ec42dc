/- slices.Delete of one element, at elements of 1 cells. -/
import Derived.Test.YtjlomnhngngkiaaZA
import Derived.Lib.Overlaps
import Derived.Laws.Externs
import Derived.StillTailTactics
import Derived.Outline
namespace Go.Proofs.Ytjlomnhngngkiaa
open Go.Gl Go.RowKit
set_option linter.unusedVariables false
set_option maxRecDepth 100000

theorem infod1 : (Try.prog.info? 64).map (fun i => (i.zero, i.size, i.bytes)) = some (some (.slice none 0 0), 1, 24) := by kernel_rfl

theorem del1_ob {w w2 : World} {g off n c i : Nat} {xs zs : List Value} (h : OB w 64 1 g off n c xs) (hi : i < n) (hz : zs.length = 1) (w1 : World) (h1 : w1 = w.setCells g (off + i * 1) (xs.drop ((i + 1) * 1))) (hw2 : w2 = w1.setCells g (off + (n - 1) * 1) zs) :
    OB w1 64 1 g off (n - 1) c (xs.take (i * 1) ++ xs.drop ((i + 1) * 1)) ∧ OB w2 64 1 g off (n - 1) c (xs.take (i * 1) ++ xs.drop ((i + 1) * 1)) := by
  have hl := h.hl
  have hn := h.hn
  have ht : (xs.take (i * 1)).length = i * 1 := by rw [List.length_take]; omega
  have hd : (xs.drop ((i + 1) * 1)).length = (n - 1 - i) * 1 := by rw [List.length_drop]; omega
  have hlen : (xs.take (i * 1) ++ xs.drop ((i + 1) * 1)).length = (n - 1) * 1 := by rw [List.length_append, ht, hd]; omega
  have k1 : OB w1 64 1 g off (n - 1) c (xs.take (i * 1) ++ xs.drop ((i + 1) * 1)) := by
    rw [h1]
    refine h.set (i * 1) _ (by omega) (n - 1) _ (by omega) hlen (fun j u hj => ?_)
    by_cases c1 : j < i * 1
    · rw [if_neg (by omega)]
      rw [List.getElem?_append_left (by omega), List.getElem?_take_of_lt c1] at hj
      exact hj
    · have := (List.getElem?_eq_some_iff.1 hj).1
      rw [hlen] at this
      rw [List.getElem?_append_right (by omega), ht] at hj
      rw [if_pos (by omega)]
      exact hj
  refine ⟨k1, ?_⟩
  rw [hw2]
  refine k1.set ((n - 1) * 1) zs (by omega) (n - 1) _ (by omega) hlen (fun j u hj => ?_)
  have := (List.getElem?_eq_some_iff.1 hj).1
  rw [hlen] at this
  rw [if_neg (by omega)]
  exact hj

theorem ret_slice1 {a : Option Addr} {n m c : Nat} (h : n = m) : Ending.returned (.slice a n c) = .returned (.slice a m c) := by rw [h]

set_option maxHeartbeats 1000000 in
theorem Del1_any {w : World} {g off n c i : Nat} {xs : List Value} (hv : OB w 64 1 g off n c xs) (h0 : ∀ y ∈ xs, y.oneCell' = true) (hi : i < n) (hn : n ≤ 1000000) :
    Calls Try.prog 40 #[.slice (some ⟨g, off, none⟩) n c, .int .i64 i, .int .i64 ((i : Int) + 1)] w fun r w' => r = .returned (.slice (some ⟨g, off, none⟩) (n - 1 : Nat) c) ∧ OB w' 64 1 g off (n - 1) c (xs.take (i * 1) ++ xs.drop ((i + 1) * 1)) ∧ Mods (fun k => k = g) w w' := by
  obtain ⟨inf, hinf, hz0, hsz, hby⟩ := info_parts infod1
  have hnc := hv.hn
  have hc63 : c ≤ 9223372036854775807 := by simpa [maxLen] using hv.hc
  obtain ⟨zs, hzs⟩ : ∃ zs, (Builtin.zeroCells (Value.cells (.slice none 0 0)) 1).toList = zs := ⟨_, rfl⟩
  have hzl : zs.length = 1 := by rw [← hzs, Array.length_toList, size_zeroCells]; rfl
  have hz1 : ∀ v ∈ zs, v.oneCell' = true := by rw [← hzs]; intro v hv; simp [Builtin.zeroCells, Value.cells] at hv; first | (rcases hv with rfl | rfl <;> rfl) | (rw [hv]; rfl) | (obtain ⟨a, _, rfl⟩ := hv; rcases (by omega : a = 0 ∨ a = 1) with rfl | rfl <;> rfl) | (obtain ⟨a, _, rfl⟩ := hv; rfl)
  obtain ⟨w3, hw3⟩ : ∃ w3, (w.drewN 1).setCells g (off + i * 1) (xs.drop ((i + 1) * 1)) = w3 := ⟨_, rfl⟩
  obtain ⟨w4, hw4⟩ : ∃ w4, w3.setCells g (off + (n - 1) * 1) zs = w4 := ⟨_, rfl⟩
  have hvd := hv.keep ((Mods.refl noB w).drewN 1) (fun x => x)
  obtain ⟨ob3, ob4⟩ := del1_ob hvd hi hzl w3 hw3.symm hw4.symm
  have AP := Lib.hid (fun (ty : TypeId) (o3 ln c3 : Nat) (ho : o3 = off + (i + 1) * 1 ∨ n = i + 1) (hln : ln = n - (i + 1)) => show (Builtin.append_ #[59, 59] ty #[.slice (some ⟨g, off, none⟩) i c, .slice (some ⟨g, o3, none⟩) ln c3]).run Try.prog (w.drewN 1) = .ok (.slice (some ⟨g, off, none⟩) (i + (n - (i + 1))) c) w3 from by
    subst hln
    have hdl : (xs.drop ((i + 1) * 1)).length = (n - (i + 1)) * 1 := by rw [List.length_drop, hv.hl]; omega
    have hsrc : Src Try.prog inf.size 59 (.slice (some ⟨g, o3, none⟩) (n - (i + 1)) c3) (n - (i + 1)) (xs.drop ((i + 1) * 1)) (w.drewN 1) := by
      rw [hsz]
      refine Src.ofSlice (w.drewN 1) Try.underlying59 ⟨g, o3, none⟩ (n - (i + 1)) c3 _ hdl (fun j u hj => ?_) (fun v hv => h0 v (List.mem_of_mem_drop hv))
      have hjl := (List.getElem?_eq_some_iff.1 hj).1
      rw [hdl] at hjl
      rcases ho with rfl | ho
      · rw [Addr.add_lit, show off + (i + 1) * 1 + j = off + ((i + 1) * 1 + j) from by omega]
        rw [List.getElem?_drop] at hj
        exact hvd.cell hj
      · omega
    have := run_append_room_src (P := Try.prog) (w := w.drewN 1) 59 59 ty 64 inf Try.underlying59 hinf g off i c _ _ _ hsrc (by omega) (fun j hj => by rw [hsz, show off + i * 1 + j = off + (i * 1 + j) from by omega]; exact hvd.there (by omega)) (fun j hj => hvd.free _)
    rw [this, hsz, hw3])
  have CL := Lib.hid (fun (ty : TypeId) (o3 ln c3 : Nat) (ho : o3 = off + (n - 1) * 1) (hln : ln = 1) => show (Builtin.clear_ #[59] ty #[.slice (some ⟨g, o3, none⟩) ln c3]).run Try.prog w3 = .ok (.tuple #[]) w4 from by
    subst ho hln
    rw [← hw4]
    exact run_clear_many (P := Try.prog) w3 59 64 ty (.slice none 0 0) Try.underlying59 (fun w => Try.zeroValue64 w) g (off + (n - 1) * 1) 1 c3 (by omega) zs hzs hz1 (fun j hj => by rw [show off + (n - 1) * 1 + j = off + ((n - 1) * 1 + j) from by omega]; exact ob3.there (by omega)) (fun j hj => ob3.free _))
  have M := Lib.hid (show Mods (fun k => k = g) w w4 from (((Mods.refl (fun k => k = g) w).drewN 1).trans (hw3 ▸ setCells_mods (w.drewN 1) g (off + i * 1) (xs.drop ((i + 1) * 1))) (fun _ _ x => x) (fun _ _ x => x)).trans (hw4 ▸ setCells_mods w3 g (off + (n - 1) * 1) zs) (fun _ _ x => x) (fun _ _ x => x))
  have OB4 := Lib.hid ob4
  clear hv h0 hinf hz0 hsz hby hzs hzl hz1 hw3 hw4 hvd ob3 ob4
  have hne : ((i : Int) == (i : Int) + 1) = false := by simp; omega
  have w1 : IntKind.i64.wrap ((i : Int) + 1) = (i : Int) + 1 := IntWalk.i64_in _ (by omega)
  have b1 : (0 : Int) ≤ (i : Int) + 1 := by omega
  have b3 : ((i : Int) + 1).toNat = i + 1 := by omega
  have b5 : (0 : Int) ≤ (i : Int) := by omega
  have b7 : i ≤ n := by omega
  have b13 : i + 1 ≤ n := by omega
  have b14 : (i : Int) + 1 ≤ (n : Int) := by omega
  have b16 : (i : Int) ≤ (n : Int) := by omega
  have b17 : i ≤ c := by omega
  have b18 : (i : Int) ≤ (c : Int) := by omega
  by_cases hci : c = i + 1
  · obtain rfl : n = i + 1 := by omega
    subst hci
    have b19 : (i : Int) ≤ (i : Int) + 1 := by omega
    go_enter Try.func40, Try.ntmps40
    go_wp2
    go_still_tail 6, (by kernel_rfl)
    change wpList _ _ _ _ _ (w.drewN 1)
    clear w1 b1 b3 b5 b7 b13 b14 b16 b17 b18 b19
    refine Lib.wpList_append_run _ rfl _ _ _ _ rfl _ _ rfl rfl _ _ (AP.out _ _ _ _ (by first | omega | simp) (by first | omega | simp)) ?_
    go_wp2_with fail
    rw [CL.out _ _ _ _ (by first | omega | simp) (by first | omega | simp)]
    simp only [Result.andThen]
    rw [Oper.upon_value]
    go_wp2
    go_ret
    exact ⟨ret_slice1 (by omega), OB4.out, M.out⟩
  · have b8 : ¬ (i + 1 = c) := by omega
    go_enter Try.func40, Try.ntmps40
    go_wp2
    go_still_tail 6, (by kernel_rfl)
    change wpList _ _ _ _ _ (w.drewN 1)
    clear w1 b1 b3 b5 b7 b13 b14 b16 b17 b18 b8 hci
    refine Lib.wpList_append_run _ rfl _ _ _ _ rfl _ _ rfl rfl _ _ (AP.out _ _ _ _ (by omega) (by omega)) ?_
    go_wp2_with fail
    rw [CL.out _ _ _ _ (by first | omega | simp) (by first | omega | simp)]
    simp only [Result.andThen]
    rw [Oper.upon_value]
    go_wp2
    go_ret
    exact ⟨ret_slice1 (by omega), OB4.out, M.out⟩

end Go.Proofs.Ytjlomnhngngkiaa

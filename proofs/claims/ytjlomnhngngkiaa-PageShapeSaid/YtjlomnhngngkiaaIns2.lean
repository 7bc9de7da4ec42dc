/- slices.Insert of one element, at elements of 2 cells. -/
import Derived.Test.YtjlomnhngngkiaaRow
import Derived.Test.YtjlomnhngngkiaaZA
import Derived.Lib.Overlaps
import Derived.Laws.Externs
import Derived.StillTailTactics
import Derived.Outline
namespace Go.Proofs.Ytjlomnhngngkiaa
open Go.Gl Go.RowKit
set_option linter.unusedVariables false
set_option maxRecDepth 100000

theorem info2 : (Try.prog.info? 63).map (fun i => (i.zero, i.size, i.bytes)) = some (some (.agg #[.slice none 0 0, .slice none 0 0]), 2, 48) := by kernel_rfl

set_option maxHeartbeats 1000000 in
theorem Ins2_end {w : World} {v : Value} {n : Nat} {xs ys : List Value} {ug uo uc : Nat} (hv : OwnG w 63 2 v n xs) (hu : OB w 63 2 ug uo 1 uc ys) (h1 : ∀ y ∈ ys, y.oneCell' = true) (hn : n ≤ 1000000) :
    Calls Try.prog 34 #[v, .int .i64 n, .slice (some ⟨ug, uo, none⟩) 1 uc] w fun r w' => ∃ v', r = .returned v' ∧ OwnG w' 63 2 v' (n + 1) (xs ++ ys) ∧ Mods (ofV v) w w' ∧ (v'.ownBlock = v.ownBlock ∨ freshIn w v') := by
  obtain ⟨inf, hi, hz, hs, hb⟩ := info_parts info2
  have hrd := OwnG.rd hu.own
  have key := fun (ops : Array Oper) (Q : Exit → Act → World → Prop) (rest : List Oper) (o : Oper) (a : Act) (s x : Operand) (hgd : o.guard = none) (ho : o.op = .call { callee := .builtin .append, args := #[s, x], argTypes := #[64, 64] }) (h2 : a.eval s = v) (h3 : a.eval x = .slice (some ⟨ug, uo, none⟩) 1 uc) (h) =>
    wpList_ap (P := Try.prog) (ops := ops) (Q := Q) (rest := rest) (w := w) hgd ho Try.underlying64 Try.underlying64 hi hz (by rw [hs]; rfl) h2 (by rw [hs]; exact hv) h3 (by rw [hs]; exact hrd) h1 (by unfold maxLen; omega) (by rw [hb]; omega) h
  obtain ⟨a, c, hvv, hcap, hc6⟩ : ∃ a c, v = .slice a n c ∧ n ≤ c ∧ c ≤ 9223372036854775807 := by
    rcases hv.ob with ⟨h, rfl, _⟩ | ⟨g, off, cap, h, ob⟩
    · exact ⟨none, 0, h, by omega, by omega⟩
    · exact ⟨_, cap, h, ob.hn, by simpa [maxLen] using ob.hc⟩
  have KY := Lib.hid key
  have HS := Lib.hid hs
  subst hvv
  clear hv hrd h1 hi hz hs hb hu key
  have hnc : n ≤ c := hcap
  have hc63 : c ≤ 9223372036854775807 := hc6
  clear hcap hc6
  by_cases hcn : c = n
  case pos => (subst hcn; go_enter Try.func34, Try.ntmps34; go_wp2_with (at_builtin; refine stop ?_); unfold Stop; refine KY.out _ _ _ _ _ _ _ rfl rfl rfl rfl ?_; intro v' w' o1 m1 f1; rw [HS.out] at o1; have O := Lib.hid (And.intro o1 (And.intro m1 f1)); obtain ⟨a1, c1, rfl, _⟩ := (OwnG.rd o1).form; clear o1 m1 f1; go_wp2; go_ret; exact ⟨_, rfl, O.out.1, O.out.2.1, O.out.2.2⟩)
  have hcn' : (n : Int) < (c : Int) := by omega
  (go_enter Try.func34, Try.ntmps34; go_wp2_with (at_builtin; refine stop ?_); unfold Stop; refine KY.out _ _ _ _ _ _ _ rfl rfl rfl rfl ?_; intro v' w' o1 m1 f1; rw [HS.out] at o1; have O := Lib.hid (And.intro o1 (And.intro m1 f1)); obtain ⟨a1, c1, rfl, _⟩ := (OwnG.rd o1).form; clear o1 m1 f1; go_wp2; go_ret; exact ⟨_, rfl, O.out.1, O.out.2.1, O.out.2.2⟩)

/-- the copy of cells upwards, then the new ones: what the row reads -/
theorem insCg2 {s n i : Nat} {xs ys : List Value} (hx : xs.length = n * s) (hy : ys.length = s) (hi : i ≤ n) (j : Nat) (u : Value) (hj : (xs.take (i * s) ++ ys ++ xs.drop (i * s))[j]? = some u) :
    if i * s ≤ j ∧ j < i * s + ys.length then ys[j - i * s]? = some u else if j < i * s then xs[j]? = some u else xs[j - s]? = some u := by
  have h1 : i * s ≤ n * s := Nat.mul_le_mul_right _ hi
  have ht : (xs.take (i * s)).length = i * s := by rw [List.length_take]; omega
  by_cases c1 : j < i * s
  · rw [List.append_assoc, List.getElem?_append_left (by omega), List.getElem?_take_of_lt c1] at hj
    rw [if_neg (by omega), if_pos c1]
    exact hj
  · by_cases c2 : j < i * s + ys.length
    · rw [List.getElem?_append_left (by rw [List.length_append]; omega), List.getElem?_append_right (by omega), ht] at hj
      rw [if_pos (by omega)]
      exact hj
    · rw [List.getElem?_append_right (by rw [List.length_append]; omega), List.length_append, ht, List.getElem?_drop] at hj
      rw [if_neg (by omega), if_neg c1, ← hj]
      congr 1
      omega
theorem insCl2 {s n i : Nat} {xs ys : List Value} (hx : xs.length = n * s) (hy : ys.length = s) : (xs.take (i * s) ++ ys ++ xs.drop (i * s)).length = (n + 1) * s := by
  rw [List.length_append, List.length_append, Nat.add_mul, Nat.one_mul]
  have := List.take_append_drop (i * s) xs
  have := congrArg List.length this
  rw [List.length_append] at this
  omega

theorem ov2 {w : World} {g off n c : Nat} {xs : List Value} {ug uo uc : Nat} {ys : List Value} (hv : OB w 63 2 g off n c xs) (hu : OB w 63 2 ug uo 1 uc ys) (hne : ug ≠ g) (hc : 0 < c) (o2 lb cb : Nat) :
    (Extern.SlicesOverlaps.overlaps #[64, 64] #[4] #[.slice (some ⟨ug, uo, none⟩) 1 uc, .slice (some ⟨g, o2, none⟩) lb cb]).run Try.prog w = .ok (.bool false) w := by
  obtain ⟨cv, hv1, hv2, _⟩ := hv.row
  obtain ⟨cu, hu1, hu2, _⟩ := hu.row
  exact Lib.run_overlaps_apart w 64 4 63 Try.underlying64 2 Try.sizeOf63 ⟨ug, uo, none⟩ ⟨g, o2, none⟩ 1 uc lb cb hne 63 63 cu.size cv.size (by simp [World.shape?, hu1]) (by simp [World.shape?, hv1]) (by omega) (free_of hu1 _) (free_of hu1 _)

theorem ins2_ob {w : World} {g off n c i : Nat} {xs ys : List Value} (h : OB w 63 2 g off n c xs) (hy : ys.length = 2) (hi : i < n) (hc : n < c) : OB ((w.setCells g (off + (i + 1) * 2) (xs.drop (i * 2))).setCells g (off + i * 2) ys) 63 2 g off (n + 1) c (xs.take (i * 2) ++ ys ++ xs.drop (i * 2)) := by
  have hl := h.hl
  have hd : (xs.drop (i * 2)).length = (n - i) * 2 := by rw [List.length_drop]; omega
  have ht : (xs.take ((i + 1) * 2)).length = (i + 1) * 2 := by rw [List.length_take]; omega
  have h1 := h.set ((i + 1) * 2) (xs.drop (i * 2)) (by omega) (n + 1) (xs.take ((i + 1) * 2) ++ xs.drop (i * 2)) (by omega) (by rw [List.length_append, ht, hd]; omega) (fun j u hj => by
    by_cases hc : j < (i + 1) * 2
    · rw [if_neg (by omega)]
      rw [List.getElem?_append_left (by omega), List.getElem?_take_of_lt hc] at hj
      exact hj
    · rw [List.getElem?_append_right (by omega), ht] at hj
      have := (List.getElem?_eq_some_iff.1 hj).1
      rw [if_pos (by omega)]
      exact hj)
  refine h1.set (i * 2) ys (by omega) (n + 1) _ (by omega) (insCl2 hl hy) (fun j u hj => ?_)
  have h2 := insCg2 hl hy (Nat.le_of_lt hi) j u hj
  by_cases hc : i * 2 ≤ j ∧ j < i * 2 + ys.length
  · rw [if_pos hc] at h2 ⊢
    exact h2
  · rw [if_neg hc] at h2 ⊢
    by_cases hc2 : j < i * 2
    · rw [if_pos hc2] at h2
      rw [List.getElem?_append_left (by omega), List.getElem?_take_of_lt (by omega)]
      exact h2
    · rw [if_neg hc2] at h2
      rw [List.getElem?_append_right (by omega), ht, List.getElem?_drop, ← h2]
      congr 1
      omega

set_option maxHeartbeats 4000000 in
theorem Ins2_in {w : World} {g off n c i : Nat} {xs ys : List Value} {ug uo uc : Nat} (hv : OB w 63 2 g off n c xs) (hu : OB w 63 2 ug uo 1 uc ys) (hne : ug ≠ g) (h0 : ∀ y ∈ xs, y.oneCell' = true) (h1 : ∀ y ∈ ys, y.oneCell' = true) (hi : i < n) (hc : n < c) (hn : n ≤ 1000000) :
    Calls Try.prog 34 #[.slice (some ⟨g, off, none⟩) n c, .int .i64 i, .slice (some ⟨ug, uo, none⟩) 1 uc] w fun r w' => r = .returned (.slice (some ⟨g, off, none⟩) (n + 1) c) ∧ OB w' 63 2 g off (n + 1) c (xs.take (i * 2) ++ ys ++ xs.drop (i * 2)) ∧ Mods (fun k => k = g) w w' := by
  obtain ⟨inf, hinf, _, hsz, _⟩ := info_parts info2
  have HI := Lib.hid (And.intro hinf hsz)
  clear hinf hsz
  have OV := Lib.hid (fun (o2 lb cb : Nat) => ov2 hv hu hne (by omega) o2 lb cb)
  have hc63 : c ≤ 9223372036854775807 := by simpa [maxLen] using hv.hc
  have HV := Lib.hid hv
  have HU := Lib.hid hu
  have H0 := Lib.hid h0
  have H1 := Lib.hid h1
  clear hv hu h0 h1
  have hin : ((i : Int) == (n : Int)) = false := by simp; omega
  have hgt : ¬ (c : Int) < (n : Int) + 1 := by omega
  go_enter Try.func34, Try.ntmps34
  go_wp2_with fail
  rw [run_callFunc_extern Try.func49 (by kernel_rfl) (by kernel_rfl) (by kernel_rfl) (e := Extern.SlicesOverlaps.overlaps #[64, 64] #[4]) (by kernel_rfl), OV.out]
  simp only [Result.andThen]
  rw [Oper.upon_value]
  go_wp2_with fail
  have CP1 := Lib.hid (fun (ty : TypeId) (q d1 c2 o2 o3 l1 l2 : Nat) (e2 : o2 = off + (i + 1) * 2) (e3 : o3 = off + i * 2) (e4 : l1 = n - i) (e5 : l2 = n + 1 - i) => show (Builtin.copy_ #[64, 64] ty #[.slice (some ⟨g, o2, none⟩) l1 d1, .slice (some ⟨g, o3, none⟩) l2 c2]).run Try.prog (w.drewN q) = .ok (goInt (n - i : Nat)) ((w.drewN q).setCells g (off + (i + 1) * 2) (xs.drop (i * 2))) from by
    subst e2 e3 e4 e5
    exact run_copy_many (P := Try.prog) (w.drewN q) 64 64 ty 63 inf g (off + (i + 1) * 2) (n - i) d1 ⟨g, off + i * 2, none⟩ (n + 1 - i) c2 (n - i) (xs.drop (i * 2)) Try.underlying64 HI.out.1 (by show min _ _ = _; omega) (by rw [HI.out.2, List.length_drop, HV.out.hl]; omega)
        (fun j v hj => by rw [Addr.add_lit]; rw [List.getElem?_drop] at hj; have := HV.out.cell hj; rw [show off + i * 2 + j = off + (i * 2 + j) from by omega]; exact this)
        (fun j hj => by rw [List.length_drop, HV.out.hl] at hj; rw [show off + (i + 1) * 2 + j = off + ((i + 1) * 2 + j) from by omega]; exact HV.out.there (by omega))
        (fun j hj => HV.out.free _) (fun v hv => H0.out v (List.mem_of_mem_drop hv)))
  have w1 : IntKind.i64.wrap ((i : Int) + 1) = (i : Int) + 1 := IntWalk.i64_in _ (by omega)
  have b1 : (0 : Int) ≤ (i : Int) + 1 := by omega
  have b2 : (i : Int) + 1 ≤ ((n + 1 : Nat) : Int) := by omega
  have b3 : ((i : Int) + 1).toNat = i + 1 := by omega
  have b4 : (i : Int) ≤ ((n + 1 : Nat) : Int) := by omega
  have b5 : (0 : Int) ≤ (i : Int) := by omega
  have b6 : i + 1 ≤ n + 1 := by omega
  have b7 : i ≤ n + 1 := by omega
  have b8 : ¬ (i + 1 = c) := by omega
  have b9 : ¬ (c = i + 1) := by omega
  have b10 : ¬ (i = c) := by omega
  have b11 : i + 1 < c := by omega
  have b12 : ¬ c ≤ i + 1 := by omega
  have b13 : i ≤ n := by omega
  have b14 : (i : Int) ≤ (n : Int) + 1 := by omega
  have b15 : ¬ (c = i) := by omega
  go_still_tail 8, (by kernel_rfl)
  change wpList _ _ _ _ _ w.drew
  clear w1 b1 b2 b3 b4 b5 b6 b7 b8 b9 b10 b11 b12 b13 b14 b15
  refine wpList_copyR rfl rfl rfl rfl (CP1.out _ 1 _ _ _ _ _ _ (by omega) (by omega) (by omega) (by omega)) ?_
  have HB2 := Lib.hid (ins2_ob (ys := ys) (HV.out.keep (w' := w.drewN 1) ((Mods.refl noB w).drewN 1) (fun x => x)) (by rw [HU.out.hl, Nat.one_mul]) hi hc)
  have M1 := Lib.hid (((Mods.refl (fun k => k = g) w).drewN 1).trans (setCells_mods (w.drewN 1) g (off + (i + 1) * 2) (xs.drop (i * 2))) (fun _ _ x => x) (fun _ _ x => x))
  have CP2 := Lib.hid (fun (ty : TypeId) (d1 o2 l1 : Nat) (e2 : o2 = off + i * 2) (e4 : l1 = n + 1 - i) => show (Builtin.copy_ #[64, 64] ty #[.slice (some ⟨g, o2, none⟩) l1 d1, .slice (some ⟨ug, uo, none⟩) 1 uc]).run Try.prog ((w.drewN 1).setCells g (off + (i + 1) * 2) (xs.drop (i * 2))) = .ok (goInt (1 : Nat)) (((w.drewN 1).setCells g (off + (i + 1) * 2) (xs.drop (i * 2))).setCells g (off + i * 2) ys) from by
    subst e2 e4
    exact run_copy_many (P := Try.prog) ((w.drewN 1).setCells g (off + (i + 1) * 2) (xs.drop (i * 2))) 64 64 ty 63 inf g (off + i * 2) (n + 1 - i) d1 ⟨ug, uo, none⟩ 1 uc 1 ys Try.underlying64 HI.out.1 (by show min _ _ = _; omega) (by rw [HI.out.2, HU.out.hl])
        (fun j v hj => by rw [Addr.add_lit]; exact (HU.out.keep M1.out hne).cell hj)
        (fun j hj => by
          rw [HU.out.hl] at hj
          obtain ⟨cur, k1, k2, k3⟩ := HV.out.row
          have k4 := (heap_spl (xs.drop (i * 2)) cur (off + (i + 1) * 2) (w.drewN 1) k1).1
          rw [cells_of k4, Array.getElem?_eq_getElem (by rw [spl_size]; omega)]
          rfl)
        (fun j hj => by
          obtain ⟨cur, k1, k2, k3⟩ := HV.out.row
          exact free_of (heap_spl (xs.drop (i * 2)) cur (off + (i + 1) * 2) (w.drewN 1) k1).1 _) H1.out)
  generalize World.setCells (w.drewN 1) g (off + (i + 1) * 2) (xs.drop (i * 2)) = w1 at *
  go_wp2_with fail
  rw [CP2.out _ _ _ _ (by omega) (by omega)]
  simp only [Result.andThen]
  rw [Oper.upon_value]
  have M5 := Lib.hid (M1.out.trans (setCells_mods w1 g (off + i * 2) ys) (fun _ _ x => x) (fun _ _ x => x))
  generalize World.setCells w1 _ _ _ = w5 at *
  go_wp2
  go_ret
  exact ⟨rfl, HB2.out, M5.out⟩

theorem ins2_og {w w2 : World} {g n c i : Nat} {xs ys Z : List Value} (h : OB w 63 2 g 0 (n + 1) c (xs.take (i * 2) ++ Z)) (hx : xs.length = n * 2) (hy : ys.length = 2) (hi : i < n) (w1 : World) (h1 : w1 = w.setCells g (0 + i * 2) ys) (h2 : OB w1 63 2 g 0 (n + 1) c (xs.take (i * 2) ++ ys ++ Z.drop 2) → OB w2 63 2 g 0 (n + 1) c (xs.take (i * 2) ++ ys ++ Z.drop 2)) :
    OB w1 63 2 g 0 (n + 1) c (xs.take (i * 2) ++ ys ++ Z.drop 2) ∧ OB (w2.setCells g (0 + (i + 1) * 2) (xs.drop (i * 2))) 63 2 g 0 (n + 1) c (xs.take (i * 2) ++ ys ++ xs.drop (i * 2)) := by
  have hl := h.hl
  have hn := h.hn
  have ht : (xs.take (i * 2)).length = i * 2 := by rw [List.length_take]; omega
  have hd : (xs.drop (i * 2)).length = (n - i) * 2 := by rw [List.length_drop]; omega
  rw [List.length_append, ht] at hl
  have k1 : OB w1 63 2 g 0 (n + 1) c (xs.take (i * 2) ++ ys ++ Z.drop 2) := by
    rw [h1]
    refine h.set (i * 2) ys (by omega) (n + 1) _ hn (by rw [List.length_append, List.length_append, List.length_drop, ht, hy]; omega) (fun j u hj => ?_)
    by_cases c1 : j < i * 2
    · rw [if_neg (by omega)]
      rw [List.append_assoc, List.getElem?_append_left (by omega)] at hj
      rw [List.getElem?_append_left (by omega)]
      exact hj
    · by_cases c2 : j < i * 2 + ys.length
      · rw [if_pos (by omega)]
        rw [List.getElem?_append_left (by rw [List.length_append]; omega), List.getElem?_append_right (by omega), ht] at hj
        exact hj
      · rw [if_neg (by omega)]
        rw [List.getElem?_append_right (by rw [List.length_append]; omega), List.length_append, ht, List.getElem?_drop] at hj
        rw [List.getElem?_append_right (by omega), ht, ← hj]
        congr 1
        omega
  refine ⟨k1, (h2 k1).set ((i + 1) * 2) (xs.drop (i * 2)) (by omega) (n + 1) _ hn (insCl2 hx hy) (fun j u hj => ?_)⟩
  have h3 := insCg2 hx hy (Nat.le_of_lt hi) j u hj
  by_cases c1 : j < i * 2
  · rw [if_neg (by omega)]
    rw [if_neg (by omega), if_pos c1] at h3
    rw [List.append_assoc, List.getElem?_append_left (by omega), List.getElem?_take_of_lt c1]
    exact h3
  · by_cases c2 : j < i * 2 + ys.length
    · rw [if_neg (by omega)]
      rw [if_pos (by omega)] at h3
      rw [List.getElem?_append_left (by rw [List.length_append]; omega), List.getElem?_append_right (by omega), ht]
      exact h3
    · have := (List.getElem?_eq_some_iff.1 hj).1
      rw [insCl2 hx hy] at this
      rw [if_pos (by omega)]
      rw [if_neg (by omega), if_neg c1] at h3
      rw [List.getElem?_drop, ← h3]
      congr 1
      omega

set_option maxHeartbeats 4000000 in
theorem Ins2_gr {w : World} {g off n i : Nat} {xs ys : List Value} {ug uo uc : Nat} (hv : OB w 63 2 g off n n xs) (hu : OB w 63 2 ug uo 1 uc ys) (h0 : ∀ y ∈ xs, y.oneCell' = true) (h1 : ∀ y ∈ ys, y.oneCell' = true) (hi : i < n) (hn : n ≤ 1000000) :
    Calls Try.prog 34 #[.slice (some ⟨g, off, none⟩) n n, .int .i64 i, .slice (some ⟨ug, uo, none⟩) 1 uc] w fun r w' => ∃ v', r = .returned v' ∧ OwnG w' 63 2 v' (n + 1) (xs.take (i * 2) ++ ys ++ xs.drop (i * 2)) ∧ Mods noB w w' ∧ freshIn w v' := by
  obtain ⟨inf, hinf, hz0, hsz, hby⟩ := info_parts info2
  have hold : (Builtin.firstCells inf.size i (.slice (some ⟨g, off, none⟩) i n)).run Try.prog w.drew = .ok (xs.take (i * 2)).toArray w.drew := by
    rw [hsz]
    refine run_firstCells_some w.drew 2 i ⟨g, off, none⟩ i n _ (by rw [List.length_take, hv.hl]; omega) (fun j v hj => ?_)
    rw [Addr.add_lit]
    have hjl := (List.getElem?_eq_some_iff.1 hj).1
    rw [List.length_take] at hjl
    rw [List.getElem?_take_of_lt (by omega)] at hj
    exact hv.cell hj
  obtain ⟨Z, cap2, W2, hap, hob, hm2, hsz2⟩ : ∃ (Z : List Value) (cap2 : Nat) (W2 : World), (∀ ty, (Builtin.append_ #[64, 3] ty #[.slice (some ⟨g, off, none⟩) i n, .int .i64 (n + 1 - i : Nat)]).run Try.prog w = .ok (.slice (some ⟨w.heap.size, 0, none⟩) (n + 1) cap2) W2) ∧ OB W2 63 2 w.heap.size 0 (n + 1) cap2 (xs.take (i * 2) ++ Z) ∧ Mods noB w W2 ∧ W2.heap.size = w.heap.size + 1 := by
    have e : i + (n + 1 - i) = n + 1 := by omega
    have hr := fun ty => Lib.run_append_grow_zeros (P := Try.prog) w 64 3 ty 63 inf _ .i64 .i64 Try.underlying64 Try.underlying3 hinf hz0 (some ⟨g, off, none⟩) i n (xs.take (i * 2)) hold (n + 1 - i) (by omega) (by rw [hsz]; omega) (by omega) (by omega) (by rw [hby]; omega) (by rw [hby]; exact growslice_fits (by omega) (by omega))
    have hge := grownCap_ge w (n + 1) n 63
    have hlm := grownCap_le_maxLen w (n + 1) n 63 (by unfold maxLen; omega)
    have hzc : ∀ k, (Builtin.zeroCells (Value.cells (.agg #[.slice none 0 0, .slice none 0 0])) k).size = k * 2 := fun k => by rw [size_zeroCells]; rfl
    have ht : (xs.take (i * 2)).length = i * 2 := by rw [List.length_take, hv.hl]; omega
    rw [e] at hr
    refine ⟨(Builtin.zeroCells (Value.cells (.agg #[.slice none 0 0, .slice none 0 0])) (n + 1 - i)).toList, _, _, hr, ⟨?_, hge, hlm, _, heap_new w.drew _, ?_, ?_⟩, ((Mods.refl noB w).drew).alloc _, by simp⟩
    · rw [List.length_append, ht, Array.length_toList, hzc]; omega
    · simp only [Array.size_append, List.size_toArray, hzc, ht]
      omega
    · intro j u hj
      have hjl := (List.getElem?_eq_some_iff.1 hj).1
      rw [List.length_append, ht, Array.length_toList, hzc] at hjl
      rw [Nat.zero_add, Array.getElem?_append_left (by simp only [Array.size_append, List.size_toArray, hzc, ht]; omega), ← Array.getElem?_toList]
      simpa using hj
  have AP := Lib.hid hap
  have HB := Lib.hid (And.intro hob (And.intro hm2 hsz2))
  clear hap hob hm2 hsz2
  have HI := Lib.hid (And.intro hinf (And.intro hz0 (And.intro hsz hby)))
  have HV := Lib.hid hv
  have HU := Lib.hid hu
  have H0 := Lib.hid h0
  have H1 := Lib.hid h1
  clear hv hu h0 h1 hold hinf hz0 hsz hby
  have hin : ((i : Int) == (n : Int)) = false := by simp; omega
  have hgt : (n : Int) < (n : Int) + 1 := by omega
  have hki : (n : Int) + 1 - (i : Int) = ((n + 1 - i : Nat) : Int) := by omega
  have hni : ¬ (n = i) := by omega
  go_enter Try.func34, Try.ntmps34
  go_wp2_with (at_builtin; refine stop ?_)
  unfold Stop
  refine Lib.wpList_append_run _ rfl _ _ _ _ rfl _ _ rfl rfl _ _ (AP.out _) ?_
  have hg2 : w.heap.size < W2.heap.size := by rw [HB.out.2.2]; omega
  obtain ⟨g2, hg2e⟩ : ∃ g2, w.heap.size = g2 := ⟨_, rfl⟩
  have HG := Lib.hid hg2e
  rw [hg2e] at HB ⊢
  have hc2 : n + 1 ≤ cap2 := HB.out.1.hn
  have hc263 : cap2 ≤ 9223372036854775807 := by simpa [maxLen] using HB.out.1.hc
  have hnc : ¬ (cap2 = i) := by omega
  clear hg2 hg2e
  have HUG := Lib.hid (show ug ≠ g2 ∧ g ≠ g2 from ⟨by have := HU.out.lt; have := HG.out; omega, by have := HV.out.lt; have := HG.out; omega⟩)
  have HZ := Lib.hid (show Z.length = (n + 1 - i) * 2 from by have := HB.out.1.hl; rw [List.length_append, List.length_take, HV.out.hl] at this; omega)
  obtain ⟨w3, hw3⟩ : ∃ w3, W2.setCells g2 (0 + i * 2) ys = w3 := ⟨_, rfl⟩
  have CP1 := Lib.hid (fun (ty : TypeId) (d1 o2 : Nat) (ho : o2 = 0 + i * 2) => show (Builtin.copy_ #[64, 64] ty #[.slice (some ⟨g2, o2, none⟩) (n + 1 - i) d1, .slice (some ⟨ug, uo, none⟩) 1 uc]).run Try.prog W2 = .ok (goInt (1 : Nat)) w3 from by
    subst ho
    rw [← hw3]
    exact run_copy_many (P := Try.prog) W2 64 64 ty 63 inf g2 (0 + i * 2) (n + 1 - i) d1 ⟨ug, uo, none⟩ 1 uc 1 ys Try.underlying64 HI.out.1 (by show min _ _ = _; omega) (by rw [HI.out.2.2.1, HU.out.hl])
      (fun j v hj => by rw [Addr.add_lit]; exact (HU.out.keep HB.out.2.1 (fun x => x)).cell hj)
      (fun j hj => by rw [HU.out.hl] at hj; rw [show 0 + i * 2 + j = 0 + (i * 2 + j) from by omega]; exact HB.out.1.there (by omega))
      (fun j hj => HB.out.1.free _) H1.out)
  have OG2 := Lib.hid (ins2_og (w2 := w3.drewN 1) HB.out.1 HV.out.hl (by rw [HU.out.hl, Nat.one_mul]) hi w3 hw3.symm (fun h => h.keep ((Mods.refl noB w3).drewN 1) (fun x => x)))
  have M3 := Lib.hid (show Mods (fun k => k = g2) W2 w3 from hw3 ▸ setCells_mods W2 g2 (0 + i * 2) ys)
  have MM := Lib.hid (HB.out.2.1.trans M3.out (U := noB) (fun _ _ x => x) (fun b hb e => by have := HG.out; omega))
  clear hw3 M3
  go_wp2_with fail
  rw [CP1.out _ _ _ (by omega)]
  simp only [Result.andThen]
  rw [Oper.upon_value]
  clear CP1
  go_wp2_with fail
  obtain ⟨w4, hw4⟩ : ∃ w4, (w3.drewN 1).setCells g2 (0 + (i + 1) * 2) (xs.drop (i * 2)) = w4 := ⟨_, rfl⟩
  have CP2 := Lib.hid (fun (ty : TypeId) (d1 c1 o2 o3 : Nat) (ho : o2 = 0 + (i + 1) * 2) (ho3 : o3 = off + i * 2) => show (Builtin.copy_ #[64, 64] ty #[.slice (some ⟨g2, o2, none⟩) (n - i) d1, .slice (some ⟨g, o3, none⟩) (n - i) c1]).run Try.prog (w3.drewN 1) = .ok (goInt (n - i : Nat)) w4 from by
    subst ho ho3
    rw [← hw4]
    exact run_copy_many (P := Try.prog) (w3.drewN 1) 64 64 ty 63 inf g2 (0 + (i + 1) * 2) (n - i) d1 ⟨g, off + i * 2, none⟩ (n - i) c1 (n - i) (xs.drop (i * 2)) Try.underlying64 HI.out.1 (by show min _ _ = _; omega) (by rw [HI.out.2.2.1, List.length_drop, HV.out.hl]; omega)
      (fun j v hj => by rw [Addr.add_lit]; rw [List.getElem?_drop] at hj; have := ((HV.out.keep MM.out (fun x => x)).keep ((Mods.refl noB w3).drewN 1) (fun x => x)).cell hj; rw [show off + i * 2 + j = off + (i * 2 + j) from by omega]; exact this)
      (fun j hj => by rw [List.length_drop, HV.out.hl] at hj; rw [show 0 + (i + 1) * 2 + j = 0 + ((i + 1) * 2 + j) from by omega]; exact (OG2.out.1.keep ((Mods.refl noB w3).drewN 1) (fun x => x)).there (by omega))
      (fun j hj => (OG2.out.1.keep ((Mods.refl noB w3).drewN 1) (fun x => x)).free _) (fun v hv => H0.out v (List.mem_of_mem_drop hv)))
  have M4 := Lib.hid (show Mods (fun k => k = g2) (w3.drewN 1) w4 from hw4 ▸ setCells_mods (w3.drewN 1) g2 (0 + (i + 1) * 2) (xs.drop (i * 2)))
  have FIN := Lib.hid (hw4 ▸ OG2.out.2)
  clear hw4
  have w1 : IntKind.i64.wrap ((i : Int) + 1) = (i : Int) + 1 := IntWalk.i64_in _ (by omega)
  have b1 : (0 : Int) ≤ (i : Int) + 1 := by omega
  have b2 : (i : Int) + 1 ≤ ((n + 1 : Nat) : Int) := by omega
  have b3 : ((i : Int) + 1).toNat = i + 1 := by omega
  have b5 : (0 : Int) ≤ (i : Int) := by omega
  have b6 : i + 1 ≤ n + 1 := by omega
  have b7 : i ≤ n := by omega
  have b8 : ¬ (i + 1 = cap2) := by omega
  have b9 : ¬ (cap2 = i + 1) := by omega
  have b14 : (i : Int) ≤ (n : Int) := by omega
  go_still_tail 8, (by kernel_rfl)
  change wpList _ _ _ _ _ (w3.drewN 1)
  clear w1 b1 b2 b3 b5 b6 b7 b8 b9 b14
  refine wpList_copyR rfl rfl rfl rfl (CP2.out _ _ _ _ _ (by omega) (by omega)) ?_
  go_wp2
  go_ret
  exact ⟨_, rfl, FIN.out.own, (MM.out.drewN 1).trans M4.out (U := noB) (fun _ _ x => x) (fun b hb e => by have := HG.out; omega), fun k hk => by simp [Value.ownBlock] at hk; have := HG.out; omega⟩

theorem Ins2_any {w : World} {v : Value} {n i : Nat} {xs ys : List Value} {ug uo uc : Nat} (hv : OwnG w 63 2 v n xs) (hu : OB w 63 2 ug uo 1 uc ys) (hne : v.ownBlock ≠ some ug) (h0 : ∀ y ∈ xs, y.oneCell' = true) (h1 : ∀ y ∈ ys, y.oneCell' = true) (hi : i ≤ n) (hn : n ≤ 1000000) :
    Calls Try.prog 34 #[v, .int .i64 i, .slice (some ⟨ug, uo, none⟩) 1 uc] w fun r w' => ∃ v', r = .returned v' ∧ OwnG w' 63 2 v' (n + 1) (xs.take (i * 2) ++ ys ++ xs.drop (i * 2)) ∧ Mods (ofV v) w w' ∧ (v'.ownBlock = v.ownBlock ∨ freshIn w v') := by
  by_cases hin : i = n
  · subst hin
    refine (Ins2_end hv hu h1 hn).mono ?_
    rintro r w' ⟨v', rfl, k1, k2, k3⟩
    refine ⟨v', rfl, ?_, k2, k3⟩
    rw [List.take_of_length_le (by rw [hv.1]; exact Nat.le_refl _), List.drop_of_length_le (by rw [hv.1]; exact Nat.le_refl _), List.append_nil]
    exact k1
  · rcases hv.ob with ⟨_, h2, _⟩ | ⟨g, off, c, rfl, ob⟩
    · omega
    by_cases hc : c = n
    · subst hc
      refine (Ins2_gr ob hu h0 h1 (by omega) hn).mono ?_
      rintro r w' ⟨v', rfl, k1, k2, k3⟩
      exact ⟨v', rfl, k1, k2.mono (fun _ _ x => x.elim), .inr k3⟩
    · refine (Ins2_in ob hu (fun e => hne (by rw [e]; rfl)) h0 h1 (by omega) (by have := ob.hn; omega) hn).mono ?_
      rintro r w' ⟨rfl, k1, k2⟩
      exact ⟨_, rfl, k1.own, k2.mono (fun k _ e => by rw [e]; rfl), .inl rfl⟩

end Go.Proofs.Ytjlomnhngngkiaa

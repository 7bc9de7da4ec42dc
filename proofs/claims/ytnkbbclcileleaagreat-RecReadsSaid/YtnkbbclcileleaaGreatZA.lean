/- Parts of the proof, one behind the other: RDig, RNum, RFrom, RRdN, RRdA, RRdB, RefQ, RxA, RxB. -/
import Derived.Test.YtnkbbclcileleaaGreatNTrim
import Derived.Test.YtnkbbclcileleaaGreatNFrom
import Derived.Deep.RegionLaw
import Derived.Deep.DrawnRows
import Derived.StillTailTactics
import Derived.Test.YtnkbbclcileleaaGreatRRdr
import Derived.Test.YtnkbbclcileleaaGreatERdS
import Derived.Test.YtnkbbclcileleaaGreatHBytes
import Derived.Test.YtnkbbclcileleaaGreatRecH

/- gleanref1: digits, number, Norm. -/
namespace Go.Gl
/-- digits of 32 bits -/
def hdig (ls : List Nat) : List Nat := ls.flatMap fun x => [x % 4294967296, x / 4294967296]
theorem hdig_snoc (ls : List Nat) (x : Nat) : hdig (ls ++ [x]) = hdig ls ++ [x % 4294967296, x / 4294967296] := by simp [hdig]
theorem hdig_length (ls : List Nat) : (hdig ls).length = 2 * ls.length := by
  induction ls with
  | nil => rfl
  | cons x ls ih =>
    show ([x % 4294967296, x / 4294967296] ++ hdig ls).length = _
    rw [List.length_append, ih]
    simp
    omega
theorem hdig_lt {ls : List Nat} (h : Lim ls) : ∀ d ∈ hdig ls, d < 4294967296 := by
  intro d hd
  obtain ⟨x, hx, hd⟩ := List.mem_flatMap.1 hd
  have := h x hx
  simp at hd
  omega
theorem hdig_lim {ls : List Nat} (h : Lim ls) : Lim (hdig ls) := fun d hd => by have := hdig_lt h d hd; omega
theorem dval_hdig (ls : List Nat) : dval 4294967296 (hdig ls) = dval 18446744073709551616 ls := by
  induction ls with
  | nil => rfl
  | cons x ls ih =>
    show dval 4294967296 (x % 4294967296 :: x / 4294967296 :: hdig ls) = _
    simp only [dval, ih]
    omega
/-- a number's digits of 32 bits -/
def rdig (ls : List Nat) : List Nat := strip (hdig ls)
theorem rdig_is {ls : List Nat} (h : Lim ls) : rdig ls = dig 4294967296 (dval 18446744073709551616 ls) := by
  unfold rdig
  rw [strip_dig (B := 4294967296) (by decide) (hdig_lt h), dval_hdig]
end Go.Gl
namespace Go.Proofs.YtnkbbclcileleaaGreat
open Go.Gl Go.RowKit
set_option linter.unusedVariables false
set_option maxRecDepth 100000
attribute [local go_sem ↓] Go.wp_at_zero Go.wp_at_succ

theorem and_half (x : Nat) (h : x ≤ 18446744073709551615) : bits .and .u64 (x : Int) 4294967295 = ((x % 4294967296 : Nat) : Int) := by
  have e : (4294967295 : Int) = ((4294967295 : Nat) : Int) := rfl
  rw [e]
  unfold bits
  have e1 : (BitVec.ofInt 64 ((x : Nat) : Int)) = BitVec.ofNat 64 x := BitVec.ofInt_natCast ..
  have e2 : (BitVec.ofInt 64 ((4294967295 : Nat) : Int)) = BitVec.ofNat 64 4294967295 := BitVec.ofInt_natCast ..
  show IntKind.u64.wrap (((BitVec.ofInt 64 (x : Int)) &&& (BitVec.ofInt 64 ((4294967295 : Nat) : Int))).toNat : Int) = _
  rw [e1, e2, BitVec.toNat_and, BitVec.toNat_ofNat, BitVec.toNat_ofNat, Nat.mod_eq_of_lt (by omega), Nat.mod_eq_of_lt (by omega), show (4294967295 : Nat) = 2 ^ 32 - 1 from rfl, Nat.and_two_pow_sub_one_eq_mod, IntKind.wrap_u64]
  omega

/-- append on owned numbers, as a step of a region that draws -/
theorem step_apn (t tx : TypeId) (ht : Tryz.prog.underlying t = some (.slice 22)) (htx : Tryz.prog.underlying tx = some (.slice 22)) {ops : Array Oper} {Q : Exit → Act → World → Prop} {K : Act → World → Prop} {E : Prop} {o : Oper} {a : Act} {w : World} {s x : Operand} (hw : Region.wanted o (yielded ops a.tmps) = true)
    (ho : o.op = .call { callee := .builtin .append, args := #[s, x], argTypes := #[t, tx] })
    {v u : Value} (xs ys : List Nat) (hown : ON 22 w v xs) (hrd : RN w u ys) (hs : a.eval s = v) (hx : a.eval x = u) (hlen : xs.length + ys.length ≤ 17592186044416)
    (h : ∀ v' w', ON 22 w' v' (xs ++ ys) → Mods (ofV v) w w' → (v'.ownBlock = v.ownBlock ∨ freshIn w v') → K (a.put o.dst v') w') :
    if Region.wanted o (yielded ops a.tmps) = true then Oper.wp Tryz.prog o a w K Q else E := by
  rw [if_pos hw]
  obtain ⟨i, hi, hz, hs1, hb1⟩ := info_parts Tryz.infoU64
  obtain ⟨v', w', hr, h2, h3, h4⟩ := run_ap (P := Tryz.prog) t tx o.type 22 22 i _ ht htx hi hz (by rw [hs1]; rfl) (by rw [hs1]; exact hown) (by rw [hs1]; exact hrd) (u64_one _) (by simp only [maxLen]; omega) (by rw [hb1]; omega)
  unfold Oper.wp execOp
  simp only [ho, resolve, invoke, builtin, Sem.run_bind, Sem.run_pure, Result.andThen_ok, List.map_toArray, List.map_cons, List.map_nil, hs, hx, hr]
  refine h v' w' ?_ h3 h4
  rw [hs1] at h2
  unfold ON OwnM
  rw [List.map_append, List.length_append]
  exact h2

theorem wpList_mkn0 (t : TypeId) (ht : Tryz.prog.underlying t = some (.slice 22)) {w : World} {ops : Array Oper} {rest : List Oper} {o : Oper} {a : Act} {Q : Exit → Act → World → Prop}
    (hg : o.guard = none) (l c : Operand) (hop : o.op = Op.makeSlice t l c) (kl kc : IntKind) (n : Nat) (hl : a.eval l = .int kl 0) (hc : a.eval c = .int kc (n : Int)) (hn : n ≤ 17592186044416)
    (hK : ∀ w', ON 22 w' (.slice (some ⟨w.heap.size, 0, none⟩) 0 n) [] → Mods noB w w' → w.heap.size < w'.heap.size → wpList Tryz.prog ops Q rest (a.put o.dst (.slice (some ⟨w.heap.size, 0, none⟩) 0 n)) w') :
    wpList Tryz.prog ops Q (o :: rest) a w := by
  obtain ⟨i, hi, hz, hs1, hb1⟩ := info_parts Tryz.infoU64
  refine wpList_plain hg fun K hK' => ?_
  have hr := run_make (P := Tryz.prog) w t 22 i _ ht hi hz kl kc 0 (n : Int) (Int.le_refl _) (by omega) (by rw [hb1]; omega) (by omega)
  simp only [Int.toNat_zero, Int.toNat_natCast] at hr
  unfold Oper.wp
  simp [execOp, hop, hl, hc, hr, Result.andThen]
  refine hK' _ _ (hK _ ?_ ((Mods.refl _ _).alloc _) (by simp))
  refine ownM_of rfl (heap_new _ _) (Nat.zero_le _) (by simp only [maxLen]; omega) ?_ (fun i hi => by simp at hi)
  rw [size_madeCells, hs1]
  omega

theorem rn2 (x y : Nat) {zx zy : Int} (hx : zx = x) (hy : zy = y) {w : World} (n : Nat) (hn : n = w.heap.size) : RN (w.alloc (.cells #[.int .u64 zx, .int .u64 zy] 22)) (.slice (some ⟨n, 0, none⟩) 2 2) [x, y] := by
  subst hn hx hy
  refine rdM_of rfl (Nat.le_refl _) (by simp [maxLen]) (by simp) (fun i hi => ?_)
  have h := cells_of (heap_new w (.cells #[.int .u64 (x : Int), .int .u64 (y : Int)] 22)) (0 + i)
  rw [h, Nat.zero_add]
  rcases i with _ | _ | i
  · rfl
  · rfl
  · simp at hi; omega

set_option maxHeartbeats 2000000 in
theorem digits_walk (ax : Option Addr) (nx cx : Nat) (ls : List Nat) (w : World) (h : RN w (.slice ax nx cx) ls) (hL : Lim ls) (hl : nx ≤ 1000000000000) :
    Calls Tryz.prog 150 #[.slice ax nx cx] w fun e w' => ∃ v, e = .returned v ∧ RN w' v (rdig ls) ∧ Mods noB w w' ∧ freshIn w v := by
  obtain ⟨h1, h2, h3, h4⟩ := RN.cells h
  have H := Lib.hid h
  have H1 := Lib.hid h1
  have HL := Lib.hid hL
  clear h h1 h4 hL
  obtain ⟨m, hm⟩ : ∃ m : Nat, 2 * nx = m := ⟨_, rfl⟩
  have HM := Lib.hid hm
  have hq : (2 : Int) * (nx : Int) = (m : Int) := by omega
  have hml : m ≤ 2000000000000 := by omega
  clear hm
  go_enter Tryz.func150, Tryz.ntmps150
  go_wp2_with (refine wpList_mkn0 27 Tryz.underlying27 rfl (.const (.int .i64 0)) (.tmp 7) (by rfl) .i64 .i64 m (by rfl) (by rfl) (by omega) ?_; intro w2 o2 m2 z2; have R0 : Hid (∃ v, (Value.slice (some ⟨w.heap.size, 0, none⟩) 0 m) = v ∧ ON 22 w2 v (hdig (ls.take 0)) ∧ Mods noB w w2 ∧ freshIn w v) := ⟨_, rfl, o2, m2, fun i hi => by simp [Value.ownBlock] at hi; omega⟩; clear o2 m2 z2)
  clear hq
  go_loopw [3, 4] (fun v i wr => ∃ k : Nat, k ≤ nx ∧ i = .int .i64 k ∧ Hid (ON 22 wr v (hdig (ls.take k)) ∧ Mods noB w wr ∧ freshIn w v)) (fun _ i _ => nx - (intOf i).toNat)
  case atStart =>
    obtain ⟨v, rfl, h⟩ := R0.out
    exact ⟨0, Nat.zero_le _, rfl, Lib.hid h⟩
  case round =>
    obtain ⟨k, hk, rfl, hR⟩ := hrel
    clear R0
    by_cases hlt : k < nx
    · have lk : k < ls.length := by rw [H1.out]; exact hlt
      obtain ⟨g, off, rfl, hcc⟩ := ((RN.cells (RdM.keep H.out hR.out.2.1 (fun _ _ x => x))).2.2.2).resolve_left (by omega)
      have c1 := hcc k lk
      have hx := HL.out _ (List.getElem_mem lk)
      have HT := Lib.hid (show hdig (ls.take (k + 1)) = hdig (ls.take k) ++ [ls[k] % 4294967296, ls[k] / 4294967296] from by rw [List.take_succ_eq_append_getElem lk, hdig_snoc])
      generalize ls[k] = x at *
      clear hcc
      go_wp2
      have hlen := Lib.hid (show (hdig (ls.take k)).length ≤ 2000000000000 from by rw [hdig_length]; have := List.length_take_le k ls; omega)
      go_region_law ((refine step_apn 27 27 Tryz.underlying27 Tryz.underlying27 (by rfl) (by rfl) (hdig (ls.take k)) [x % 4294967296, x / 4294967296] ?_ ?_ (by rfl) (by rfl) ?_ ?_; (next => exact ((hR.out.1.keep (S := noB) (by first | exact (Mods.refl noB wr).drew | exact Mods.refl noB wr) (fun _ _ x => x)).keep ((Mods.refl noB _).alloc _) (fun _ _ x => x))); (next => exact rn2 _ _ (by first | rfl | exact and_half x hx | skip) (by first | rfl | omega) _ rfl); (next => have := hlen.out; simp; omega); intro v' w' k1 k2 k3))
      all_goals
        have R1 := Lib.hid (show ON 22 w' v' (hdig (ls.take (k + 1))) ∧ Mods noB w w' ∧ freshIn w v' from by
          refine ⟨by rw [HT.out]; exact k1, Mods.trans (S := noB) (T := ofV u3) (U := noB) (by repeat' (first | (with_reducible exact hR.out.2.1) | (with_reducible refine Mods.alloc ?_ _) | (with_reducible refine Mods.drew ?_))) k2 (fun _ _ x => x) (fun i hi x => absurd hi (Nat.not_lt.2 (hR.out.2.2 i x))), ?_⟩
          rcases k3 with k3 | k3
          · exact fun i hi => hR.out.2.2 i (k3 ▸ hi)
          · exact k3.of (by have := hR.out.2.1.size; simp; omega))
        clear hR k1 k2 k3 HT hlen c1
        go_wp2
        go_roundw
        case rel => exact ⟨k + 1, by omega, by go_num, R1⟩
        case measure => simp [intOf]; omega
    · obtain rfl : k = nx := by omega
      have hT := hR.out
      rw [List.take_of_length_le (by rw [H1.out]; omega)] at hT
      have HT := Lib.hid hT
      clear hR hT
      go_wp2_with fail
      refine (rtrim_any HT.out.1.rd).mono ?_
      rintro e w9 ⟨⟨v9, rfl, hr9, hb9⟩, rfl⟩
      have R9 := Lib.hid (And.intro hr9 hb9)
      clear hr9 hb9
      go_wp2
      go_ret
      exact ⟨v9, rfl, R9.out.1, HT.out.2.1, fun i hi => HT.out.2.2 i (R9.out.2 i hi)⟩

theorem rdigits_any {w : World} {v : Value} {ls : List Nat} (h : RN w v ls) (hL : Lim ls) (hl : ls.length ≤ 1000000000000) :
    Calls Tryz.prog 150 #[v] w fun e w' => ∃ v, e = .returned v ∧ RN w' v (rdig ls) ∧ Mods noB w w' ∧ freshIn w v := by
  obtain ⟨a, c, rfl, _⟩ := RdM.form h
  exact digits_walk a _ c ls w h hL hl

end Go.Proofs.YtnkbbclcileleaaGreat

/- gleanref1: number, Norm. -/
namespace Go.Gl
theorem dval_ge {B : Nat} {ds : List Nat} (hs : strip ds = ds) (hn : ds ≠ []) : B ^ (ds.length - 1) ≤ dval B ds := by
  rcases List.eq_nil_or_concat ds with rfl | ⟨es, d, rfl⟩
  · exact absurd rfl hn
  · have hd : d ≠ 0 := by
      rintro rfl
      simp only [List.concat_eq_append] at hs
      rw [strip_append_zero es [0] (fun x hx => by simpa using hx)] at hs
      have hl := strip_length_le es
      rw [hs] at hl
      simp at hl
      omega
    simp only [List.concat_eq_append, dval_snoc, List.length_append, List.length_singleton, Nat.add_sub_cancel]
    have h1 : B ^ es.length * 1 ≤ B ^ es.length * d := Nat.mul_le_mul_left _ (by omega)
    omega

theorem dval_take_succ (B : Nat) (ds : List Nat) (k : Nat) (hk : k < ds.length) : dval B (ds.take (k + 1)) = dval B (ds.take k) + ds[k] * B ^ k := by
  rw [List.take_succ_eq_append_getElem hk, dval_snoc, List.length_take, Nat.min_eq_left (by omega), Nat.mul_comm (B ^ k)]

theorem pow32 (k : Nat) : 4294967296 ^ k = 256 ^ (4 * k) := by
  rw [Nat.pow_mul]

/-- halves put together -/
theorem packed {ds ls : List Nat} (hs : strip ds = ds) (hl : ls.length = (ds.length + 1) / 2) (hd : ∀ d ∈ ds, d < 4294967296) (hL : Lim ls) (hv : dval 18446744073709551616 ls = dval 4294967296 ds) : ls = dig 18446744073709551616 (dval 4294967296 ds) := by
  have h1 : strip ls = dig 18446744073709551616 (dval 4294967296 ds) := by rw [← hv]; exact strip_dig (by decide) (fun x hx => by have := hL x hx; omega)
  rw [← h1]
  by_cases hn : ds = []
  · subst hn
    obtain rfl : ls = [] := List.eq_nil_of_length_eq_zero (by simpa using hl)
    rfl
  · have hne : 0 < ds.length := by
      rcases Nat.eq_zero_or_pos ds.length with h0 | h0
      · exact absurd (List.eq_nil_of_length_eq_zero h0) hn
      · exact h0
    have h2 := dval_ge (B := 4294967296) hs hn
    have h3 : (dig 18446744073709551616 (dval 4294967296 ds)).length = ls.length - 1 + 1 := by
      refine dig_len (by decide) ?_ ?_
      · rw [show ls.length - 1 + 1 = ls.length from by omega, ← hv]
        exact dval_lt (fun x hx => by have := hL x hx; omega)
      · refine Nat.le_trans ?_ h2
        rw [show (18446744073709551616 : Nat) = 4294967296 ^ 2 from by decide, ← Nat.pow_mul]
        exact Nat.pow_le_pow_right (by decide) (by omega)
    rw [← h1] at h3
    rw [strip_take, show (strip ls).length = ls.length from by omega, List.take_of_length_le (Nat.le_refl _)]

theorem strip_lt {B : Nat} {ds : List Nat} (h : ∀ d ∈ ds, d < B) : ∀ d ∈ strip ds, d < B := fun d hd => h d (strip_mem hd)

end Go.Gl
namespace Go.Proofs.YtnkbbclcileleaaGreat
open Go.Gl Go.RowKit
set_option linter.unusedVariables false
set_option maxRecDepth 100000

theorem half_pow : (256 : Nat) ^ (4 * 1) = 4294967296 := by decide
theorem half_val (x y r : Nat) (hy : y < 4294967296) (hr : r < 2) (hx : x < 256 ^ (4 * r)) : bits .or .u64 (x : Int) (IntKind.u64.wrap ((y : Int) * 2 ^ (32 * r))) = ((x + y * 256 ^ (4 * r) : Nat) : Int) := by
  have hx4 : x < 4294967296 := by
    rcases (by omega : r = 0 ∨ r = 1) with rfl | rfl
    · simp only [Nat.mul_zero, Nat.pow_zero] at hx; omega
    · rw [half_pow] at hx; omega
  have hp : 2 ^ (32 * r) ≤ 4294967296 := by
    rcases (by omega : r = 0 ∨ r = 1) with rfl | rfl <;> decide
  have e : (256 : Nat) ^ (4 * r) = 2 ^ (32 * r) := by
    rcases (by omega : r = 0 ∨ r = 1) with rfl | rfl <;> decide
  rw [e] at hx ⊢
  have hm : y * 2 ^ (32 * r) ≤ 18446744073709551615 := by
    have : y * 2 ^ (32 * r) ≤ 4294967295 * 4294967296 := Nat.mul_le_mul (by omega) hp
    omega
  have hw : IntKind.u64.wrap ((y : Int) * 2 ^ (32 * r)) = ((y * 2 ^ (32 * r) : Nat) : Int) := by
    have : ((y : Int) * 2 ^ (32 * r)) = ((y * 2 ^ (32 * r) : Nat) : Int) := by simp
    rw [this, IntKind.wrap_u64]
    omega
  rw [hw, or_u64 _ _ (by omega) hm, or_add_pow x y _ hx]

theorem half_new (x y k : Nat) (hy : y < 4294967296) (hx : x < 256 ^ (4 * (k % 2))) : x + y * 256 ^ (4 * (k % 2)) ≤ 18446744073709551615 := by
  rcases Nat.mod_two_eq_zero_or_one k with h | h
  · rw [h] at hx ⊢
    simp only [Nat.mul_zero, Nat.pow_zero] at hx ⊢
    omega
  · rw [h, half_pow] at hx ⊢
    omega

set_option maxHeartbeats 2000000 in
theorem number_walk {w : World} {v : Value} {es : List Nat} (h : RN w v es) (hd : ∀ d ∈ es, d < 4294967296) (hl : es.length ≤ 2000000000000) :
    Calls Tryz.prog 170 #[v] w (NRes w (dig 18446744073709551616 (dval 4294967296 es))) := by
  rw [← dval_strip]
  have hdl : ∀ d ∈ strip es, d < 4294967296 := strip_lt hd
  have hss := strip_strip es
  have hsl := strip_length_le es
  have HT := Lib.hid (rtrim_any h)
  obtain ⟨a, c, rfl, _⟩ := RdM.form h
  clear h hd
  go_enter Tryz.func170, Tryz.ntmps170
  go_wp2_with fail
  refine HT.out.mono ?_
  rintro e w1 ⟨⟨v1, rfl, hr, hb⟩, rfl⟩
  generalize strip es = ds at *
  clear HT hb
  obtain ⟨a1, c1, rfl, _⟩ := RdM.form hr
  obtain ⟨n, hn⟩ : ∃ n, ds.length = n := ⟨_, rfl⟩
  obtain ⟨m, hm⟩ : ∃ m, (n + 1) / 2 = m := ⟨_, rfl⟩
  have hq : ((n : Int) + 1) / 2 = (m : Int) := by omega
  rw [hn] at hr
  have H := Lib.hid hr
  have HN := Lib.hid hn
  have HD := Lib.hid hdl
  have HS := Lib.hid hss
  have hmn : m ≤ 2000000000000 := by omega
  have hnl : n ≤ 2000000000000 := by omega
  rw [hn]
  clear hr hn hdl hss hsl
  have HMM := Lib.hid hm
  go_wp2_with (refine wpList_mkn 28 Tryz.underlying28 rfl (.tmp 10) (.tmp 10) (by rfl) .i64 .i64 m (by first | rfl | exact congrArg (Value.int .i64) hq) (by first | rfl | exact congrArg (Value.int .i64) hq) (by omega) ?_; intro w2 o2 m2 z2; have R0 : Hid (∃ ls : List Nat, ls.length = m ∧ Lim ls ∧ dval 18446744073709551616 ls = dval 4294967296 (ds.take 0) ∧ ON 22 w2 (.slice (some ⟨w1.heap.size, 0, none⟩) m m) ls ∧ Mods noB w1 w2) := ⟨List.replicate m 0, by simp, fun x hx => by rw [List.eq_of_mem_replicate hx]; omega, by rw [← dval_strip, strip_zero (fun x hx => List.eq_of_mem_replicate hx)]; rfl, o2, m2⟩; clear o2 m2 z2)
  clear hq
  go_loopw [4] (fun i wr => ∃ k : Nat, k ≤ n ∧ i = .int .i64 k ∧ Hid (∃ ls : List Nat, ls.length = m ∧ Lim ls ∧ dval 18446744073709551616 ls = dval 4294967296 (ds.take k) ∧ ON 22 wr (.slice (some ⟨w1.heap.size, 0, none⟩) m m) ls ∧ Mods noB w1 wr)) (fun i _ => n - (intOf i).toNat)
  case atStart => exact ⟨0, Nat.zero_le _, rfl, R0⟩
  case round =>
    obtain ⟨k, hk, rfl, hR⟩ := hrel
    clear R0
    obtain ⟨ls, l1, l2, l3, l4, l5⟩ := hR.out
    by_cases hlt : k < n
    · have hk8 : k / 2 < m := by omega
      have lb : k < ds.length := by rw [HN.out]; exact hlt
      obtain ⟨g1, off1, rfl, hcc⟩ := ((RN.cells (RdM.keep H.out l5 (fun _ _ x => x))).2.2.2).resolve_left (by omega)
      have c1 := hcc k lb
      have hlq : k / 2 < ls.length := by omega
      obtain ⟨gg, oo, cc, cur, hv, hg, _, _, hsz, hcu⟩ := (OwnM.open l4).resolve_left (by rintro ⟨hh, _⟩; cases hh)
      rw [l1] at hv
      cases hv
      have c2 := (cells_of hg (0 + k / 2)).trans (hcu (k / 2) hlq)
      have f2 := free_of hg (0 + k / 2)
      simp only [Nat.zero_add] at c2 f2
      have hxl : ls[k / 2] ≤ 18446744073709551615 := l2 _ (List.getElem_mem hlq)
      have hdp := Lib.hid (dval_take_succ 4294967296 ds k lb)
      have hlt2 : dval 18446744073709551616 ls < 256 ^ (4 * k) := by
        rw [l3, ← pow32]
        have := dval_lt (B := 4294967296) (ds := ds.take k) (fun x hx => HD.out x (List.mem_of_mem_take hx))
        rw [List.length_take, Nat.min_eq_left (by omega)] at this
        exact this
      have hsm0 := limb_small l2 (4 * k) (by omega) hlt2
      have hsm := Lib.hid (show ls[k / 2] < 256 ^ (4 * (k % 2)) from by
        have e1 : 4 * k / 8 = k / 2 := by omega
        have e2 : 4 * k % 8 = 4 * (k % 2) := by omega
        simp only [e1, e2] at hsm0
        exact hsm0)
      have hb := HD.out _ (List.getElem_mem lb)
      have L := Lib.hid (And.intro l2 (And.intro l3 (And.intro l4 l5)))
      have L1 := Lib.hid l1
      clear hcu hg hsz l2 l3 l4 l5 l1 hR hcc hlt2 hsm0
      generalize hlx : ls[k / 2] = x at *
      generalize hby : ds[k] = y at *
      have HX := Lib.hid hlx
      have HY := Lib.hid hby
      clear hlx hby
      go_wp2
      have t1 : ((k : Int) / 2).toNat = k / 2 := by omega
      have t3 : (32 * ((k : Int) % 2)).toNat = 32 * (k % 2) := by omega
      have b1 : (0 : Int) ≤ (k : Int) / 2 := by omega
      have b2 : (k : Int) / 2 < (m : Int) := by omega
      have b6 : (k : Int) ≤ (n : Int) - 1 := by omega
      have b7 : (0 : Int) ≤ (k : Int) := by omega
      have b8 : (k : Int) < (n : Int) := by omega
      have b5 : (0 : Int) ≤ 32 * ((k : Int) % 2) := by omega
      have w1' : IntKind.i64.wrap ((k : Int) / 2) = (k : Int) / 2 := IntWalk.i64_in _ (by omega)
      have w4 : IntKind.i64.wrap ((k : Int) % 2) = (k : Int) % 2 := IntWalk.i64_in _ (by omega)
      have w5 : IntKind.i64.wrap (32 * ((k : Int) % 2)) = 32 * ((k : Int) % 2) := IntWalk.i64_in _ (by omega)
      have w6 : ((k : Int)).tmod 2 = (k : Int) % 2 := Int.tmod_eq_emod_of_nonneg (by omega)
      go_still_tail 18, (by kernel_rfl)
      change wpList _ _ _ _ _ wr.drew
      clear t1 t3 b1 b2 b5 b6 b7 b8 w1' w4 w5 w6
      have hval : bits .or .u64 (x : Int) (IntKind.u64.wrap ((y : Int) * 2 ^ (32 * (k % 2)))) = ((x + y * 256 ^ (4 * (k % 2)) : Nat) : Int) := half_val x y (k % 2) hb (Nat.mod_lt _ (by decide)) hsm.out
      have hnew := half_new x y k hb hsm.out
      rw [hval]
      obtain ⟨l2, l3, l4, l5⟩ := L.out
      have R1 : Hid (∃ ls' : List Nat, ls'.length = m ∧ Lim ls' ∧ dval 18446744073709551616 ls' = dval 4294967296 (ds.take (k + 1)) ∧ ON 22 (wr.drew.setCell ⟨w1.heap.size, k / 2, none⟩ (.int .u64 ((x + y * 256 ^ (4 * (k % 2)) : Nat) : Int))) (.slice (some ⟨w1.heap.size, 0, none⟩) m m) ls' ∧ Mods noB w1 (wr.drew.setCell ⟨w1.heap.size, k / 2, none⟩ (.int .u64 ((x + y * 256 ^ (4 * (k % 2)) : Nat) : Int)))) := by
        refine ⟨ls.set (k / 2) (x + y * 256 ^ (4 * (k % 2))), by rw [List.length_set, L1.out], lim_set l2 _ _ hnew, ?_, ?_, (l5.drew).setCell (.inr (Nat.le_refl _)) _⟩
        · have h1 := dval_set (B := 18446744073709551616) (y * 256 ^ (4 * (k % 2))) ls (k / 2) hlq
          rw [HX.out] at h1
          have h2 := hdp.out
          rw [h1, l3, h2, Nat.mul_assoc]
          congr 2
          rw [show (18446744073709551616 : Nat) = 256 ^ 8 from by decide, show (4294967296 : Nat) = 256 ^ 4 from by decide, ← Nat.pow_mul, ← Nat.pow_mul, ← Nat.pow_add]
          congr 1
          omega
        · have h1 := ownM_set (f := u64) (OwnM.keep l4 ((Mods.refl noB wr).drew) (fun _ _ x => x)) L1.out (k / 2) hk8 (x + y * 256 ^ (4 * (k % 2)))
          rw [Nat.zero_add] at h1
          exact h1
      have c3 : wr.drew.cell? ⟨w1.heap.size, k / 2, none⟩ = some (u64 x) := c2
      have f3 : wr.drew.frozen? ⟨w1.heap.size, k / 2, none⟩ = false := f2
      clear hval hnew l2 l3 l4 l5 c2 f2 c1
      generalize ((x + y * 256 ^ (4 * (k % 2)) : Nat) : Int) = nv at *
      generalize wr.drew = wd at *
      go_wp2
      go_roundw
      case rel => exact ⟨k + 1, by omega, by go_num, R1⟩
      case measure => simp [intOf]; omega
    · obtain rfl : k = n := by omega
      rw [List.take_of_length_le (by rw [HN.out]; omega)] at l3
      have hp := packed HS.out (by rw [l1, HN.out]; exact HMM.out.symm) HD.out l2 l3
      have R := Lib.hid (And.intro l4 (And.intro l5 hp))
      clear hR l1 l2 l3 l4 l5 hp
      go_wp2
      go_ret
      refine ⟨_, rfl, ?_, R.out.2.1, fun i hi => by simp [Value.ownBlock] at hi; omega⟩
      rw [← R.out.2.2]
      exact R.out.1

/-- a number read back from its digits of 32 bits -/
theorem rnorm_any {w : World} {v : Value} {ls : List Nat} (h : RN w v ls) (hL : Lim ls) (hl : ls.length ≤ 100000000000) : Calls Tryz.prog 169 #[v] w (NRes w (strip ls)) := by
  have H := Lib.hid (rdigits_any h hL (by omega))
  have HD := Lib.hid (show ∀ d ∈ rdig ls, d < 4294967296 from strip_lt (hdig_lt hL))
  have HN := Lib.hid (show (rdig ls).length ≤ 2000000000000 from by
    have := strip_length_le (hdig ls)
    rw [hdig_length] at this
    unfold rdig
    omega)
  have HE := Lib.hid (show dig 18446744073709551616 (dval 4294967296 (rdig ls)) = strip ls from by
    unfold rdig
    rw [dval_strip, dval_hdig]
    exact (strip_dig (by decide) (fun x hx => by have := hL x hx; omega)).symm)
  clear h hL hl
  go_enter Tryz.func169, Tryz.ntmps169
  go_wp2_with fail
  refine H.out.mono ?_
  rintro e w1 ⟨v1, rfl, hr, hm, hf⟩
  have M := Lib.hid hm
  have R := Lib.hid hr
  clear hr hm hf
  go_wp2_with fail
  refine (number_walk R.out HD.out HN.out).mono ?_
  rw [HE.out]
  rintro e w2 ⟨v2, rfl, ho, hm, hf⟩
  have R2 := Lib.hid (And.intro ho (And.intro (M.out.then0 hm) (hf.of M.out.size)))
  clear ho hm hf
  go_wp2
  go_ret
  exact ⟨_, rfl, R2.out⟩

end Go.Proofs.YtnkbbclcileleaaGreat

/- gleanref1.FromBytes. -/
namespace Go.Proofs.YtnkbbclcileleaaGreat
open Go.Gl Go.RowKit
set_option linter.unusedVariables false
set_option maxRecDepth 100000

set_option maxHeartbeats 1000000 in
theorem rFrom_walk {w : World} {ga off n c0 : Nat} {bs : List UInt8} (h : Rd w (.slice (some ⟨ga, off, none⟩) n c0) bs) (hn : bs.length = n) (hl : n ≤ 10000000000) (hpos : 0 < n) (h0 : bs[0]? ≠ some 0) :
    Calls Tryz.prog 165 #[.slice (some ⟨ga, off, none⟩) n c0] w fun e w' => ∃ v, e = .returned (.tuple #[v, .int .i64 0]) ∧ RN w' v (dig 18446744073709551616 (num bs)) ∧ Mods noB w w' ∧ freshIn w v := by
  have cc : ∀ i (hi : i < bs.length), w.cell? ⟨ga, off + i, none⟩ = some (.int .u8 (bs[i]).toNat) := by
    rcases h.open with ⟨h1, _⟩ | ⟨g', off', cap', h1, _, _, _, h5⟩
    · exact h1.no.elim
    · cases h1; exact h5
  obtain ⟨c, ct0, hcb⟩ : ∃ c : Int, w.cell? ⟨ga, off, none⟩ = some (.int .u8 c) ∧ (c == 0) = false := by
    refine ⟨_, cc 0 (by omega), ?_⟩
    have h1 := h0
    rw [List.getElem?_eq_getElem (by omega)] at h1
    simp only [beq_eq_false_iff_ne]
    intro h2
    exact h1 (by rw [show bs[0] = 0 from UInt8.toNat_inj.1 (by simpa using h2)])
  have HC := Lib.hid cc
  have HN := Lib.hid hn
  have H := Lib.hid h
  have hq : ((n : Int) + 7) / 8 = (((n + 7) / 8 : Nat) : Int) := by omega
  obtain ⟨m, hm⟩ : ∃ m, (n + 7) / 8 = m := ⟨_, rfl⟩
  rw [hm] at hq
  clear cc h h0 hn
  have hnpos : (0 : Int) < (n : Int) := by omega
  go_enter Tryz.func165, Tryz.ntmps165
  go_wp2_with (refine wpList_mkn 28 Tryz.underlying28 rfl (.tmp 19) (.tmp 19) (by rfl) .i64 .i64 m (congrArg (Value.int .i64) hq) (congrArg (Value.int .i64) hq) (by omega) ?_; intro w2 o2 m2 z2; have R0 : Hid (∃ ls : List Nat, ls.length = m ∧ Lim ls ∧ dval 18446744073709551616 ls = num (bs.drop (n - 0)) ∧ ON 22 w2 (.slice (some ⟨w.heap.size, 0, none⟩) m m) ls ∧ Mods noB w w2) := ⟨List.replicate m 0, by simp, fun x hx => by rw [List.eq_of_mem_replicate hx]; omega, by rw [Nat.sub_zero, List.drop_of_length_le (by rw [HN.out]; omega), ← dval_strip, strip_zero (fun x hx => List.eq_of_mem_replicate hx)]; rfl, o2, m2⟩; clear o2 m2 z2)
  clear hq ct0 hcb
  go_loopw [5] (fun i wr => ∃ k : Nat, k ≤ n ∧ i = .int .i64 k ∧ Hid (∃ ls : List Nat, ls.length = m ∧ Lim ls ∧ dval 18446744073709551616 ls = num (bs.drop (n - k)) ∧ ON 22 wr (.slice (some ⟨w.heap.size, 0, none⟩) m m) ls ∧ Mods noB w wr)) (fun i _ => n - (intOf i).toNat)
  case atStart => exact ⟨0, Nat.zero_le _, rfl, R0⟩
  case round =>
    obtain ⟨k, hk, rfl, hR⟩ := hrel
    clear R0
    obtain ⟨ls, l1, l2, l3, l4, l5⟩ := hR.out
    by_cases hlt : k < n
    · have hk8 : k / 8 < m := by omega
      have lb : n - 1 - k < bs.length := by rw [HN.out]; omega
      have c1 := (l5.cellAt (H.out.ltn (by rw [HN.out]; omega) ga rfl) (fun x => x) (off + (n - 1 - k))).trans (HC.out (n - 1 - k) lb)
      have hlq : k / 8 < ls.length := by omega
      obtain ⟨gg, oo, cc, cur, hv, hg, _, _, hsz, hcu⟩ := (OwnM.open l4).resolve_left (by rintro ⟨hh, _⟩; cases hh)
      rw [l1] at hv
      cases hv
      have c2 := (cells_of hg (0 + k / 8)).trans (hcu (k / 8) hlq)
      have f2 := free_of hg (0 + k / 8)
      simp only [Nat.zero_add] at c2 f2
      have hxl : ls[k / 8] ≤ 18446744073709551615 := l2 _ (List.getElem_mem hlq)
      have hnk : n - 1 - k < n := by omega
      have hdp := Lib.hid (num_drop bs k (by rw [HN.out]; exact hlt))
      have hsm := Lib.hid (limb_small l2 k hlq (by rw [l3]; have := num_lt (bs.drop (n - k)); rw [List.length_drop, HN.out, show n - (n - k) = k from by omega] at this; exact this))
      have hb := (bs[n - 1 - k]).toNat_lt
      have L := Lib.hid (And.intro l2 (And.intro l3 (And.intro l4 l5)))
      have L1 := Lib.hid l1
      clear hcu hg hsz l2 l3 l4 l5 l1 hR
      have HBx := Lib.hid (show (bs[n - 1 - k]).toNat = (bs[n - 1 - k]).toNat from rfl)
      generalize hlx : ls[k / 8] = x at *
      generalize hby : (bs[n - 1 - k]).toNat = y at *
      have HX := Lib.hid hlx
      have HY := Lib.hid hby
      clear hlx hby HBx
      go_wp2
      have t1 : ((k : Int) / 8).toNat = k / 8 := by omega
      have t2 : ((n : Int) - 1 - (k : Int)).toNat = n - 1 - k := by omega
      have t3 : (8 * ((k : Int) % 8)).toNat = 8 * (k % 8) := by omega
      have b1 : (0 : Int) ≤ (k : Int) / 8 := by omega
      have b2 : (k : Int) / 8 < (m : Int) := by omega
      have b3 : (0 : Int) ≤ (n : Int) - 1 - (k : Int) := by omega
      have b4 : (n : Int) - 1 - (k : Int) < (n : Int) := by omega
      have b6 : (k : Int) ≤ (n : Int) - 1 := by omega
      have b5 : (0 : Int) ≤ 8 * ((k : Int) % 8) := by omega
      have w1 : IntKind.i64.wrap ((k : Int) / 8) = (k : Int) / 8 := IntWalk.i64_in _ (by omega)
      have w2' : IntKind.i64.wrap ((n : Int) - 1) = (n : Int) - 1 := IntWalk.i64_in _ (by omega)
      have w3 : IntKind.i64.wrap ((n : Int) - 1 - (k : Int)) = (n : Int) - 1 - (k : Int) := IntWalk.i64_in _ (by omega)
      have w4 : IntKind.i64.wrap ((k : Int) % 8) = (k : Int) % 8 := IntWalk.i64_in _ (by omega)
      have w5 : IntKind.i64.wrap (8 * ((k : Int) % 8)) = 8 * ((k : Int) % 8) := IntWalk.i64_in _ (by omega)
      have w6 : ((k : Int)).tmod 8 = (k : Int) % 8 := Int.tmod_eq_emod_of_nonneg (by omega)
      have w7 : IntKind.u64.wrap (y : Int) = (y : Int) := by rw [IntKind.wrap_u64]; omega
      go_still_tail 19, (by kernel_rfl)
      change wpList _ _ _ _ _ wr.drew
      clear t1 t2 t3 b1 b2 b3 b4 b5 b6 w1 w2' w3 w4 w5 w6 w7
      have hval : bits .or .u64 (x : Int) (IntKind.u64.wrap ((y : Int) * 2 ^ (8 * (k % 8)))) = ((x + y * 256 ^ (k % 8) : Nat) : Int) := from_val x y (k % 8) hb (Nat.mod_lt _ (by decide)) hsm.out
      have hnew := from_new x y k hb hsm.out
      rw [hval]
      obtain ⟨l2, l3, l4, l5⟩ := L.out
      have R1 : Hid (∃ ls' : List Nat, ls'.length = m ∧ Lim ls' ∧ dval 18446744073709551616 ls' = num (bs.drop (n - (k + 1))) ∧ ON 22 (wr.drew.setCell ⟨w.heap.size, k / 8, none⟩ (.int .u64 ((x + y * 256 ^ (k % 8) : Nat) : Int))) (.slice (some ⟨w.heap.size, 0, none⟩) m m) ls' ∧ Mods noB w (wr.drew.setCell ⟨w.heap.size, k / 8, none⟩ (.int .u64 ((x + y * 256 ^ (k % 8) : Nat) : Int)))) := by
        refine ⟨ls.set (k / 8) (x + y * 256 ^ (k % 8)), by rw [List.length_set, L1.out], lim_set l2 _ _ hnew, ?_, ?_, (l5.drew).setCell (.inr (Nat.le_refl _)) _⟩
        · have h1 := dval_set (B := 18446744073709551616) (y * 256 ^ (k % 8)) ls (k / 8) hlq
          rw [HX.out] at h1
          have h2 := hdp.out
          simp only [HN.out] at h2
          rw [HY.out] at h2
          rw [h1, l3, h2, Nat.mul_assoc]
          congr 2
          rw [show (18446744073709551616 : Nat) = 256 ^ 8 from by decide, ← Nat.pow_mul, ← Nat.pow_add, Nat.add_comm, show 8 * (k / 8) + k % 8 = k from Nat.div_add_mod k 8]
        · have h1 := ownM_set (f := u64) (OwnM.keep l4 ((Mods.refl noB wr).drew) (fun _ _ x => x)) L1.out (k / 8) hk8 (x + y * 256 ^ (k % 8))
          rw [Nat.zero_add] at h1
          exact h1
      have c3 : wr.drew.cell? ⟨w.heap.size, k / 8, none⟩ = some (u64 x) := c2
      have f3 : wr.drew.frozen? ⟨w.heap.size, k / 8, none⟩ = false := f2
      clear hval hnew l2 l3 l4 l5 c2 f2 c1
      generalize ((x + y * 256 ^ (k % 8) : Nat) : Int) = nv at *
      generalize wr.drew = wd at *
      go_wp2
      go_roundw
      case rel => exact ⟨k + 1, by omega, by go_num, R1⟩
      case measure => simp [intOf]; omega
    · obtain rfl : k = n := by omega
      have R := Lib.hid (And.intro l2 (And.intro l3 (And.intro l4 l5)))
      have HLL := Lib.hid l1
      clear hR l1 l2 l3 l4 l5
      go_wp2_with fail
      refine (rnorm_any R.out.2.2.1.rd R.out.1 (by rw [HLL.out]; omega)).mono ?_
      rintro e w9 ⟨v9, rfl, ho9, hm9, hf9⟩
      have R9 := Lib.hid (And.intro ho9 (And.intro hm9 hf9))
      clear ho9 hm9 hf9
      go_wp2
      go_ret2
      obtain ⟨l2, l3, l4, l5⟩ := R.out
      obtain ⟨r1, r2, r3⟩ := R9.out
      refine ⟨v9, rfl, ?_, l5.then0 r2, r3.of l5.size⟩
      have r1 := r1.rd
      rw [strip_dig (B := 18446744073709551616) (by decide) (fun x hx => by have := l2 x hx; omega), l3, Nat.sub_self, List.drop_zero] at r1
      exact r1

theorem rFrom_zero {w : World} {ga off n c0 : Nat} {bs : List UInt8} (h : Rd w (.slice (some ⟨ga, off, none⟩) n c0) bs) (hn : bs.length = n) (hl : n ≤ 10000000000) (h0 : bs[0]? = some 0) :
    Calls Tryz.prog 165 #[.slice (some ⟨ga, off, none⟩) n c0] w fun e w' => e = .returned (.tuple #[.slice none 0 0, .int .i64 13]) ∧ w' = w := by
  have hpos : 0 < n := by
    rcases Nat.eq_zero_or_pos n with hz | hz
    · rw [List.eq_nil_of_length_eq_zero (hn.trans hz)] at h0
      cases h0
    · exact hz
  have cc : w.cell? ⟨ga, off, none⟩ = some (.int .u8 0) := by
    rcases h.open with ⟨h1, _⟩ | ⟨g', off', cap', h1, _, _, _, h5⟩
    · exact h1.no.elim
    · cases h1
      have h2 := h5 0 (by omega)
      rw [List.getElem?_eq_getElem (by omega)] at h0
      rw [Option.some.inj h0] at h2
      exact h2
  have hnpos : (0 : Int) < (n : Int) := by omega
  clear h h0
  go_enter Tryz.func165, Tryz.ntmps165
  go_wp2
  go_ret2
  exact ⟨rfl, rfl⟩

theorem rFrom_nil {w : World} {a : Option Addr} {c0 : Nat} :
    Calls Tryz.prog 165 #[.slice a 0 c0] w fun e w' => ∃ v, e = .returned (.tuple #[v, .int .i64 0]) ∧ RN w' v [] ∧ Mods noB w w' ∧ freshIn w v := by
  go_enter Tryz.func165, Tryz.ntmps165
  go_wp2_with (refine wpList_mkn 28 Tryz.underlying28 rfl (.tmp 19) (.tmp 19) (by rfl) .i64 .i64 0 (by rfl) (by rfl) (by omega) ?_; intro w2 o2 m2 z2; have R := Lib.hid (And.intro o2 m2); clear o2 m2 z2)
  refine wp_loop_rounds 1 ?_
  rw [rounds_succ]
  go_wp2_with fail
  refine (rnorm_any R.out.1.rd (fun x hx => by cases hx) (by simp)).mono ?_
  rintro e w9 ⟨v9, rfl, ho9, hm9, hf9⟩
  have R9 := Lib.hid (And.intro ho9 (And.intro hm9 hf9))
  clear ho9 hm9 hf9
  go_wp2
  go_ret2
  exact ⟨v9, rfl, R9.out.1.rd, R.out.2.then0 R9.out.2.1, R9.out.2.2.of R.out.2.size⟩

theorem rFrom_any {w : World} {v : Value} {bs : List UInt8} (h : Rd w v bs) (hl : bs.length ≤ 10000000000) : Calls Tryz.prog 165 #[v] w (FromRes bs w) := by
  rcases Nat.eq_zero_or_pos bs.length with hz | hz
  · obtain ⟨a, c, rfl, _⟩ := h.form
    rw [hz]
    have e := List.eq_nil_of_length_eq_zero hz
    subst e
    exact rFrom_nil.mono fun e w' he => .inr ⟨by simp, he⟩
  · rcases h.open with ⟨_, rfl⟩ | ⟨g, off, cap, rfl, _⟩
    · simp at hz
    · by_cases h0 : bs[0]? = some 0
      · exact (rFrom_zero h rfl hl h0).mono fun e w' he => .inl ⟨h0, he⟩
      · exact (rFrom_walk h rfl hl hz h0).mono fun e w' he => .inr ⟨h0, he⟩

end Go.Proofs.YtnkbbclcileleaaGreat

/- gleanref4.Reader: End, Bool, Nat, Dec. -/
namespace Go.Proofs.YtnkbbclcileleaaGreat
open Go.Gl Go.RowKit
set_option linter.unusedVariables false
set_option maxRecDepth 100000

theorem rtakeYnum (n : Nat) (xs : List UInt8) (e : Int) : num (rtakeY n xs e) = rtake n xs e := by
  unfold rtakeY rtake
  split
  · split <;> rfl
  · rfl

/-- The reference's reader behind a step: its state. -/
def RS (w : World) (g : Nat) (vB : Value) (s : ESt) (w' : World) : Prop := RStep w g vB s.1 s.2 w'
theorem RS.refl {w : World} {g : Nat} {vB : Value} {s : ESt} (h : RR w g vB s.1 s.2) : RS w g vB s w := ⟨⟨vB, h, fun _ x => x⟩, Mods.refl _ _⟩
theorem RR.fail {w : World} {g : Nat} {vB : Value} {xs : List UInt8} {e : Int} (n : Int) (h : RR w g vB xs e) : RR (w.setCell ⟨g, 1, none⟩ (.int .i64 n)) g vB xs n :=
  ⟨h.setE n, h.rd.keep (Mods.one _ _ _ _) (fun k hk e => h.apart (by rw [hk, e])), h.apart⟩
theorem RS.fail {w : World} {g : Nat} {vB : Value} {xs : List UInt8} {e : Int} (n : Int) (h : RR w g vB xs e) : RS w g vB (xs, n) (w.setCell ⟨g, 1, none⟩ (.int .i64 n)) := ⟨⟨vB, h.fail n, fun _ x => x⟩, Mods.one _ _ _ _⟩

theorem rU_st {w : World} {g : Nat} {vB : Value} {s : ESt} (n : Nat) (h : RR w g vB s.1 s.2) (hm : n ≤ 8) :
    Calls Tryz.prog 123 #[.pointer (some ⟨g, 0, none⟩), .int .i64 n] w fun e w' => e = .returned (.int .u64 (evl n s)) ∧ RS w g vB (est n s) w' := by
  refine (rU_any n h hm).mono ?_
  rintro r w' ⟨rfl, hs⟩
  rw [rtakeYnum]
  exact ⟨rfl, hs⟩

theorem rEndE {w : World} {g : Nat} {vB : Value} {s : ESt} (h : RR w g vB s.1 s.2) :
    Calls Tryz.prog 153 #[.pointer (some ⟨g, 0, none⟩)] w fun r w' => r = .returned (.int .i64 (endS s.1 s.2)) ∧ RS w g vB (s.1, endS s.1 s.2) w' := by
  obtain ⟨xs, e⟩ := s
  simp only at h ⊢
  obtain ⟨a, ca, rfl, h1⟩ := h.rd.form
  have c := cells_of h.heap
  have f := free_of h.heap
  by_cases he : e = 0
  · subst he
    by_cases hl : xs.length = 0
    · have e2 : endS xs 0 = 0 := by simp [endS, hl]
      rw [e2]
      have H := Lib.hid h
      rw [hl] at c
      clear h h1 hl e2
      go_enter Tryz.func153, Tryz.ntmps153
      go_wp2
      go_ret
      exact ⟨rfl, ⟨_, H.out, fun _ x => x⟩, Mods.refl _ _⟩
    · have e2 : endS xs 0 = 43 := by unfold endS; rw [if_pos ⟨rfl, hl⟩]
      rw [e2]
      have H := Lib.hid (RS.fail 43 h)
      have hp : (0 : Int) < (xs.length : Int) := by omega
      generalize xs.length = len at *
      clear h h1 hl e2
      go_enter Tryz.func153, Tryz.ntmps153
      go_wp2
      go_ret
      exact ⟨rfl, H.out⟩
  · have e2 : endS xs e = e := if_neg (fun x => he x.1)
    rw [e2]
    have hb : (e == 0) = false := by simpa using he
    have H := Lib.hid h
    clear h h1 he e2
    go_enter Tryz.func153, Tryz.ntmps153
    go_wp2
    go_ret
    exact ⟨rfl, ⟨_, H.out, fun _ x => x⟩, Mods.refl _ _⟩

/-- the first byte, as the walk loads it -/
theorem RR.first {w : World} {g : Nat} {vB : Value} {xs : List UInt8} {e : Int} (h : RR w g vB xs e) (hl : 1 ≤ xs.length) : ∃ gb off ca, vB = .slice (some ⟨gb, off, none⟩) xs.length ca ∧ xs.length ≤ ca ∧ ca ≤ 9223372036854775807 ∧ gb ≠ g ∧ ∀ i (hi : i < xs.length), w.cell? ⟨gb, off + i, none⟩ = some (.int .u8 (xs[i]).toNat) := by
  rcases h.rd.open with ⟨_, rfl⟩ | ⟨gb, off, ca, rfl, h1, h2, h3, h4⟩
  · simp at hl
  · exact ⟨gb, off, ca, rfl, h1, by simpa [maxLen] using h2, fun e => h.apart (by rw [e]; rfl), h4⟩

theorem evl_first {xs : List UInt8} (hl : 1 ≤ xs.length) : evl 1 (xs, 0) = (xs[0]'(by omega)).toNat := by
  cases xs with
  | nil => simp at hl
  | cons c cs => simp [evl, rtake, num]

theorem rBool_st {w : World} {g : Nat} {vB : Value} {s : ESt} (h : RR w g vB s.1 s.2) :
    Calls Tryz.prog 126 #[.pointer (some ⟨g, 0, none⟩)] w fun r w' => r = .returned (.bool (decide (evl 1 s = 1))) ∧ RS w g vB (boolS s) w' := by
  have HU := Lib.hid (fun (w1 : World) (t : ESt) (k : RR w1 g vB t.1 t.2) => rU_st 1 k (by omega))
  obtain ⟨xs, e⟩ := s
  simp only at h
  have c := cells_of h.heap
  have f := free_of h.heap
  by_cases he : e = 0
  · subst he
    by_cases hl : 1 ≤ xs.length
    · obtain ⟨gb, off, ca, rfl, h1, h2, h3, h4⟩ := h.first hl
      have c0 := h4 0 (by omega)
      have hx := evl_first hl
      have hb8 := (xs[0]'(by omega)).toNat_lt
      generalize (xs[0]'(by omega)).toNat = b at *
      rw [Nat.add_zero] at c0
      have hlp : (0 : Int) < (xs.length : Int) := by omega
      by_cases hb : 1 < b
      · have e1 : boolS (xs, 0) = (xs, 41) := if_pos ⟨rfl, by rw [hx]; exact hb⟩
        have e2 : decide (evl 1 (xs, 0) = 1) = false := by rw [hx]; simp; omega
        rw [e1, e2]
        have H := Lib.hid (h.fail 41)
        have hs : est 1 (xs, (41 : Int)) = (xs, 41) ∧ evl 1 (xs, (41 : Int)) = 0 := by simp [est, evl, rleft, rerr, rtake]
        have HS := Lib.hid hs
        clear h h4 hx e1 e2 hs
        generalize hlen : xs.length = len at *
        clear hl h1 hlen
        go_enter Tryz.func126, Tryz.ntmps126
        go_wp2_with fail
        refine (HU.out _ (xs, 41) H.out).mono ?_
        rw [HS.out.1, HS.out.2]
        rintro r w1 ⟨rfl, h1⟩
        have H1 := Lib.hid (show RS w g (.slice (some ⟨gb, off, none⟩) len ca) (xs, 41) w1 from ⟨h1.st, (Mods.one w g 1 _).trans h1.mods (fun _ _ x => x) (fun _ _ x => x)⟩)
        clear h1
        go_wp2
        go_ret
        exact ⟨rfl, H1.out⟩
      · have e1 : boolS (xs, 0) = est 1 (xs, 0) := if_neg (fun x => by have := x.2; rw [hx] at this; exact hb this)
        rw [e1, hx]
        have H := Lib.hid h
        have HX := Lib.hid hx
        clear h h4 hx e1
        generalize hlen : xs.length = len at *
        clear hl h1 hlen
        go_enter Tryz.func126, Tryz.ntmps126
        go_wp2_with fail
        refine (HU.out _ (xs, 0) H.out).mono ?_
        rw [HX.out]
        rintro r w1 ⟨rfl, h1⟩
        have H1 := Lib.hid h1
        clear h1
        go_wp2
        go_ret
        exact ⟨ret_bool (by rw [Bool.eq_iff_iff]; simp; omega), H1.out⟩
    · obtain ⟨a, ca, rfl, h1⟩ := h.rd.form
      obtain rfl : xs = [] := List.eq_nil_of_length_eq_zero (by omega)
      have e1 : boolS ([], 0) = est 1 ([], 0) ∧ decide (evl 1 ([], 0) = 1) = false ∧ evl 1 ([], 0) = 0 := by decide
      have E1 := Lib.hid e1
      rw [e1.1, e1.2.1]
      have H := Lib.hid h
      simp only [List.length_nil] at *
      clear h h1 e1
      go_enter Tryz.func126, Tryz.ntmps126
      go_wp2_with fail
      refine (HU.out _ ([], 0) H.out).mono ?_
      rw [E1.out.2.2]
      rintro r w1 ⟨rfl, h1⟩
      have H1 := Lib.hid h1
      clear h1
      go_wp2
      go_ret
      exact ⟨rfl, H1.out⟩
  · have hb : (e == 0) = false := by simpa using he
    have e1 : boolS (xs, e) = est 1 (xs, e) := if_neg (fun x => he x.1)
    have e2 : evl 1 (xs, e) = 0 := by simp [evl, rtake, he]
    rw [e1, e2]
    have H := Lib.hid h
    have E2 := Lib.hid e2
    clear h he e1 e2
    go_enter Tryz.func126, Tryz.ntmps126
    go_wp2_with fail
    refine (HU.out _ (xs, e) H.out).mono ?_
    rw [E2.out]
    rintro r w1 ⟨rfl, h1⟩
    have H1 := Lib.hid h1
    clear h1
    go_wp2
    go_ret
    exact ⟨rfl, H1.out⟩

end Go.Proofs.YtnkbbclcileleaaGreat

/- gleanref4.Reader: Nat, Dec. -/
namespace Go.Proofs.YtnkbbclcileleaaGreat
open Go.Gl Go.RowKit
set_option linter.unusedVariables false
set_option maxRecDepth 100000

theorem RS.then0 {w w1 w2 : World} {g : Nat} {vB : Value} {s : ESt} (h : RS w g vB s w1) (hm : Mods noB w1 w2) : RS w g vB s w2 := by
  obtain ⟨⟨v, h1, h2⟩, h3⟩ := h
  exact ⟨⟨v, h1.keep hm (fun x => x) (fun _ _ x => x), h2⟩, h3.then0 hm⟩

theorem RS.from {w w1 w2 : World} {g : Nat} {vB : Value} {s : ESt} (hm : Mods noB w w1) (h : RS w1 g vB s w2) : RS w g vB s w2 :=
  ⟨h.st, hm.trans h.mods (fun _ _ x => x.elim) (fun _ _ x => x)⟩
theorem RS.failq {w : World} {g : Nat} {vB : Value} {xs : List UInt8} {e : Int} (n : Int) (q : Nat) (h : RR w g vB xs e) : RS w g vB (xs, n) ((w.drewN q).setCell ⟨g, 1, none⟩ (.int .i64 n)) :=
  RS.from ((Mods.refl noB w).drewN q) (RS.fail n (h.keep ((Mods.refl noB w).drewN q) (fun x => x) (fun _ _ x => x)))

/-- a number read by the reference's reader -/
def RNR (ls : List Nat) (w : World) (g : Nat) (vB : Value) (s : ESt) (r : Ending) (w' : World) : Prop := ∃ u, r = .returned u ∧ RN w' u ls ∧ RS w g vB s w' ∧ freshIn w u

theorem freshnil (w : World) : freshIn w (.slice none 0 0) := fun k hk => by simp [Value.ownBlock] at hk

theorem rNat_err {w : World} {g : Nat} {vB : Value} {xs : List UInt8} {e : Int} (h : RR w g vB xs e) (he : e ≠ 0) :
    Calls Tryz.prog 154 #[.pointer (some ⟨g, 0, none⟩)] w (RNR [] w g vB (xs, e)) := by
  have c0 := cells_of h.heap 0
  have c1 := cells_of h.heap 1
  have H := Lib.hid h
  have hb : (e == 0) = false := by simpa using he
  have hb2 : (e != 0) = true := by simpa using he
  clear h he
  go_enter Tryz.func154, Tryz.ntmps154
  go_wp2
  go_quiet (fail)
  go_wp2
  go_ret
  exact ⟨_, rfl, RdM.nil _ _, (RS.refl (s := (xs, e)) H.out).then0 ((Mods.refl _ _).drewN _), freshnil _⟩

theorem rNat_none {w : World} {g : Nat} {vB : Value} (h : RR w g vB [] 0) :
    Calls Tryz.prog 154 #[.pointer (some ⟨g, 0, none⟩)] w (RNR [] w g vB ([], 40)) := by
  obtain ⟨a, ca, rfl, h1⟩ := h.rd.form
  have c0 := cells_of h.heap 0
  have c1 := cells_of h.heap 1
  have f := free_of h.heap
  have H := Lib.hid h
  simp only [List.length_nil] at *
  clear h h1
  go_enter Tryz.func154, Tryz.ntmps154
  go_wp2
  go_quiet (fail)
  go_wp2
  go_ret
  exact ⟨_, rfl, RdM.nil _ _, RS.failq 40 _ H.out, freshnil _⟩

theorem rNat_short {w : World} {g gb off len ca b : Nat} {xs : List UInt8} (h : RR w g (.slice (some ⟨gb, off, none⟩) len ca) xs 0) (hlen : 0 < len) (hm : len ≤ 10000000000) (hb8 : b < 256) (hs : len < 1 + b) (c2 : w.cell? ⟨gb, off, none⟩ = some (.int .u8 b)) :
    Calls Tryz.prog 154 #[.pointer (some ⟨g, 0, none⟩)] w (RNR [] w g (.slice (some ⟨gb, off, none⟩) len ca) (xs, 40)) := by
  have c0 := cells_of h.heap 0
  have c1 := cells_of h.heap 1
  have f := free_of h.heap
  have H := Lib.hid h
  have g1 : ((len : Int) == 0) = false := by simp; omega
  have g2 : decide ((len : Int) < 1 + (b : Int)) = true := by simp; omega
  have g3 : (0 : Int) < (len : Int) := by omega
  have s1 : IntKind.i64.wrap (1 + (b : Int)) = 1 + (b : Int) := IntWalk.i64_in _ (by omega)
  have s2 : IntKind.i64.wrap (b : Int) = (b : Int) := IntWalk.i64_in _ (by omega)
  clear h
  go_enter Tryz.func154, Tryz.ntmps154
  go_wp2
  go_quiet (fail)
  go_wp2
  go_ret
  exact ⟨_, rfl, RdM.nil _ _, RS.failq 40 _ H.out, freshnil _⟩

theorem rNat_form {w : World} {g gb off len ca b : Nat} {xs : List UInt8} (h : RR w g (.slice (some ⟨gb, off, none⟩) len ca) xs 0) (hlen : 1 < len) (hm : len ≤ 10000000000) (hb8 : b < 256) (hb0 : 0 < b) (hs : 1 + b ≤ len) (c2 : w.cell? ⟨gb, off, none⟩ = some (.int .u8 b)) (c3 : w.cell? ⟨gb, off + 1, none⟩ = some (.int .u8 0)) :
    Calls Tryz.prog 154 #[.pointer (some ⟨g, 0, none⟩)] w (RNR [] w g (.slice (some ⟨gb, off, none⟩) len ca) (xs, 41)) := by
  have c0 := cells_of h.heap 0
  have c1 := cells_of h.heap 1
  have f := free_of h.heap
  have H := Lib.hid h
  have g1 : ((len : Int) == 0) = false := by simp; omega
  have g2 : decide ((len : Int) < 1 + (b : Int)) = false := by simp; omega
  have g3 : (0 : Int) < (len : Int) := by omega
  have g4 : (1 : Int) < (len : Int) := by omega
  have g5 : (0 : Int) < (b : Int) := by omega
  have s1 : IntKind.i64.wrap (1 + (b : Int)) = 1 + (b : Int) := IntWalk.i64_in _ (by omega)
  have s2 : IntKind.i64.wrap (b : Int) = (b : Int) := IntWalk.i64_in _ (by omega)
  clear h
  go_enter Tryz.func154, Tryz.ntmps154
  go_wp2
  go_quiet (fail)
  go_wp2
  go_ret
  exact ⟨_, rfl, RdM.nil _ _, RS.failq 41 _ H.out, freshnil _⟩

/-- 1 + b bytes taken; what stands behind the first of them -/
theorem rtake_cut {w : World} {g gb off len ca b : Nat} {xs : List UInt8} (h : RR w g (.slice (some ⟨gb, off, none⟩) len ca) xs 0) (hx : xs.length = len) (hs : 1 + b ≤ len) :
    Calls Tryz.prog 152 #[.pointer (some ⟨g, 0, none⟩), .int .i64 ((1 + b : Nat) : Int)] w fun e w1 => ∃ (a : Addr) (c : Nat), e = .returned (.slice (some ⟨a.block, a.off, none⟩) (1 + b) c) ∧ 1 + b ≤ c ∧ c ≤ 9223372036854775807 ∧
      Rd w1 (.slice (if c = 1 then some ⟨a.block, a.off, none⟩ else some ⟨a.block, a.off + 1, none⟩) b (c - 1)) ((xs.drop 1).take b) ∧ RS w g (.slice (some ⟨gb, off, none⟩) len ca) (xs.drop (1 + b), 0) w1 := by
  subst hx
  refine (rtake_ok (1 + b) h hs).mono ?_
  rintro e w1 ⟨v, rfl, hr, _, hst⟩
  have hl : (xs.take (1 + b)).length = 1 + b := by rw [List.length_take]; omega
  rcases hr.open with ⟨_, h0⟩ | ⟨g', off', c, rfl, h1, h2, _, _⟩
  · rw [h0] at hl; simp at hl; omega
  · have hd := Rd.drop hr (n := 1) (by omega)
    rw [hl] at h1 hd ⊢
    rw [show 1 + b - 1 = b from by omega, List.drop_take, show 1 + b - 1 = b from by omega] at hd
    exact ⟨⟨g', off', none⟩, c, rfl, h1, by simpa [maxLen] using h2, hd, hst⟩

set_option maxHeartbeats 1000000 in
theorem rNat_zero {w : World} {g gb off len ca : Nat} {xs : List UInt8} (h : RR w g (.slice (some ⟨gb, off, none⟩) len ca) xs 0) (hx : xs.length = len) (hlen : 0 < len) (hm : len ≤ 10000000000) (c2 : w.cell? ⟨gb, off, none⟩ = some (.int .u8 0)) :
    Calls Tryz.prog 154 #[.pointer (some ⟨g, 0, none⟩)] w (RNR [] w g (.slice (some ⟨gb, off, none⟩) len ca) (xs.drop 1, 0)) := by
  have c0 := cells_of h.heap 0
  have c1 := cells_of h.heap 1
  have f := free_of h.heap
  have HT := Lib.hid (fun (q : Nat) => show Calls Tryz.prog 152 #[.pointer (some ⟨g, 0, none⟩), .int .i64 1] (w.drewN q) _ from rtake_cut (b := 0) (h.keep ((Mods.refl noB w).drewN q) (fun x => x) (fun _ _ x => x)) hx (by omega))
  have g1 : ((len : Int) == 0) = false := by simp; omega
  have g2 : decide ((len : Int) < 1 + 0) = false := by simp; omega
  have g3 : (0 : Int) < (len : Int) := by omega
  have s1 : IntKind.i64.wrap (1 + 0) = 1 + 0 := IntWalk.i64_in _ (by omega)
  have s2 : IntKind.i64.wrap 0 = 0 := IntWalk.i64_in _ (by omega)
  clear h hx
  go_enter Tryz.func154, Tryz.ntmps154
  go_wp2
  go_quiet (fail)
  clear g2 s1 s2
  go_wp2_with fail
  refine (HT.out _).mono ?_
  rintro r w1 ⟨a, c, rfl, h1, h2, h3, h4⟩
  have R4 := Lib.hid (RS.from ((Mods.refl noB w).drewN _) h4)
  have R3 := Lib.hid h3
  clear h3 h4 HT
  by_cases hc1 : c = 1
  · rw [if_pos hc1] at R3
    subst hc1
    go_wp2_with fail
    refine (rFrom_any R3.out (by simp)).mono ?_
    rintro r w2 (⟨h5, _⟩ | ⟨_, u, rfl, h6, h7, h8⟩)
    · exact absurd h5 (by simp)
    have R6 := Lib.hid (And.intro h6 (And.intro (R4.out.then0 h7) h8))
    have hsz := Lib.hid (R4.out.mods.size)
    clear h6 h7 h8
    go_wp2
    go_ret
    exact ⟨u, rfl, R6.out.1, R6.out.2.1, R6.out.2.2.of hsz.out⟩
  · rw [if_neg hc1] at R3
    have hc2 : 1 < c := by omega
    clear hc1
    go_wp2_with fail
    refine (rFrom_any R3.out (by rw [List.length_take]; omega)).mono ?_
    rintro r w2 (⟨h5, _⟩ | ⟨_, u, rfl, h6, h7, h8⟩)
    · exact absurd h5 (by simp)
    have R6 := Lib.hid (And.intro h6 (And.intro (R4.out.then0 h7) h8))
    have hsz := Lib.hid (R4.out.mods.size)
    clear h6 h7 h8
    go_wp2
    go_ret
    exact ⟨u, rfl, R6.out.1, R6.out.2.1, R6.out.2.2.of hsz.out⟩

set_option maxHeartbeats 1000000 in
theorem rNat_many {w : World} {g gb off len ca b : Nat} {xs : List UInt8} (h : RR w g (.slice (some ⟨gb, off, none⟩) len ca) xs 0) (hx : xs.length = len) (hlen : 0 < len) (hm : len ≤ 10000000000) (hb8 : b < 256) (hs : 1 + b ≤ len) (c2 : w.cell? ⟨gb, off, none⟩ = some (.int .u8 b)) {b1 : Nat} (hb0 : 0 < b) (c3 : w.cell? ⟨gb, off + 1, none⟩ = some (.int .u8 b1)) (hb1 : b1 ≠ 0) (hn : ((xs.drop 1).take b)[0]? ≠ some 0) :
    Calls Tryz.prog 154 #[.pointer (some ⟨g, 0, none⟩)] w (RNR (dig 18446744073709551616 (num ((xs.drop 1).take b))) w g (.slice (some ⟨gb, off, none⟩) len ca) (xs.drop (1 + b), 0)) := by
  have c0 := cells_of h.heap 0
  have c1 := cells_of h.heap 1
  have f := free_of h.heap
  have HT := Lib.hid (fun (q : Nat) => rtake_cut (h.keep ((Mods.refl noB w).drewN q) (fun x => x) (fun _ _ x => x)) hx hs)
  have HN := Lib.hid hn
  have g1 : ((len : Int) == 0) = false := by simp; omega
  have g2 : decide ((len : Int) < 1 + (b : Int)) = false := by simp; omega
  have g3 : (0 : Int) < (len : Int) := by omega
  have g4 : (1 : Int) < (len : Int) := by omega
  have g5 : (0 : Int) < (b : Int) := by omega
  have g6 : ((b1 : Int) == 0) = false := by simp; omega
  have s1 : IntKind.i64.wrap (1 + (b : Int)) = 1 + (b : Int) := IntWalk.i64_in _ (by omega)
  have s2 : IntKind.i64.wrap (b : Int) = (b : Int) := IntWalk.i64_in _ (by omega)
  have hk : (1 : Int) + (b : Int) = ((1 + b : Nat) : Int) := by omega
  have HK := Lib.hid hk
  clear h hn hk hx
  go_enter Tryz.func154, Tryz.ntmps154
  go_wp2
  go_quiet (fail)
  clear g2 s1 s2
  go_wp2_with fail
  rw [HK.out]
  refine (HT.out _).mono ?_
  rintro r w1 ⟨a, c, rfl, h1, h2, h3, h4⟩
  have R4 := Lib.hid (RS.from ((Mods.refl noB w).drewN _) h4)
  have R3 := Lib.hid h3
  clear h3 h4 HT
  by_cases hc1 : c = 1
  · rw [if_pos hc1] at R3
    subst hc1
    obtain rfl : b = 0 := by omega
    go_wp2_with fail
    refine (rFrom_any R3.out (by simp)).mono ?_
    rintro r w2 (⟨h5, _⟩ | ⟨_, u, rfl, h6, h7, h8⟩)
    · exact absurd h5 (by simp)
    have R6 := Lib.hid (And.intro h6 (And.intro (R4.out.then0 h7) h8))
    have hsz := Lib.hid (R4.out.mods.size)
    clear h6 h7 h8
    go_wp2
    go_ret
    exact ⟨u, rfl, R6.out.1, R6.out.2.1, R6.out.2.2.of hsz.out⟩
  · rw [if_neg hc1] at R3
    have hc2 : 1 < c := by omega
    clear hc1
    go_wp2_with fail
    refine (rFrom_any R3.out (by rw [List.length_take]; omega)).mono ?_
    rintro r w2 (⟨h5, _⟩ | ⟨_, u, rfl, h6, h7, h8⟩)
    · exact absurd h5 HN.out
    have R6 := Lib.hid (And.intro h6 (And.intro (R4.out.then0 h7) h8))
    have hsz := Lib.hid (R4.out.mods.size)
    clear h6 h7 h8
    go_wp2
    go_ret
    exact ⟨u, rfl, R6.out.1, R6.out.2.1, R6.out.2.2.of hsz.out⟩

theorem nat_at {xs : List UInt8} {b : Nat} (h0 : 0 < b) (hl : 1 < xs.length) : ((xs.drop 1).take b)[0]? = some xs[1] := by
  rw [List.getElem?_take_of_lt h0, List.getElem?_drop, List.getElem?_eq_getElem (by omega)]

theorem rNat_st {w : World} {g : Nat} {vB : Value} {s : ESt} (h : RR w g vB s.1 s.2) (hll : s.1.length ≤ 10000000000) :
    Calls Tryz.prog 154 #[.pointer (some ⟨g, 0, none⟩)] w (RNR (natV s) w g vB (natT s)) := by
  obtain ⟨xs, e⟩ := s
  simp only at h hll
  unfold natV natT nbody
  simp only
  by_cases he : e = 0
  · subst he
    by_cases hl : 1 ≤ xs.length
    · obtain ⟨gb, off, ca, rfl, h1, h2, h3, h4⟩ := h.first hl
      have c0 := h4 0 (by omega)
      have hx := evl_first hl
      have hb8 := (xs[0]'(by omega)).toNat_lt
      rw [hx]
      generalize (xs[0]'(by omega)).toNat = b at *
      rw [Nat.add_zero] at c0
      by_cases hs : 1 + b ≤ xs.length
      · rcases Nat.eq_zero_or_pos b with rfl | hb
        · rw [if_pos ⟨rfl, hl, hs, by simp⟩, if_pos rfl, if_pos ⟨hl, hs⟩, if_neg (by simp)]
          exact rNat_zero h rfl (by omega) hll c0
        · have hat := nat_at hb (show 1 < xs.length by omega)
          have c1 := h4 1 (by omega)
          by_cases hz : xs[1] = 0
          · rw [hat, hz, if_neg (fun x => x.2.2.2 rfl), if_pos rfl, if_pos ⟨hl, hs⟩, if_pos rfl]
            rw [hz] at c1
            exact rNat_form h (by omega) hll (by omega) hb hs c0 c1
          · have hn : ((xs.drop 1).take b)[0]? ≠ some 0 := by rw [hat]; simpa using hz
            rw [if_pos ⟨rfl, hl, hs, hn⟩, if_pos rfl, if_pos ⟨hl, hs⟩, if_neg hn]
            exact rNat_many h rfl (by omega) hll (by omega) hs c0 hb c1 (fun e => hz (UInt8.toNat_inj.1 (by simpa using e))) hn
      · rw [if_neg (fun x => hs x.2.2.1), if_pos rfl, if_neg (fun x => hs x.2)]
        exact rNat_short h (by omega) hll (by omega) (by omega) c0
    · obtain rfl : xs = [] := List.eq_nil_of_length_eq_zero (by omega)
      rw [if_neg (fun x => hl x.2.1), if_pos rfl, if_neg (fun x => hl x.1)]
      exact rNat_none h
  · rw [if_neg (fun x => he x.1), if_neg he]
    exact rNat_err h he

end Go.Proofs.YtnkbbclcileleaaGreat

/- gleanref4.Reader: Dec, Raw. -/
namespace Go.Proofs.YtnkbbclcileleaaGreat
open Go.Gl Go.RowKit
set_option linter.unusedVariables false
set_option maxRecDepth 100000

def RDR (ls : List Nat) (w : World) (g : Nat) (vB : Value) (s : ESt) (r : Ending) (w' : World) : Prop := ∃ u, r = .returned (.agg #[u]) ∧ RN w' u ls ∧ RS w g vB s w' ∧ freshIn w u

theorem rDec_st {w : World} {g : Nat} {vB : Value} {s : ESt} (h : RR w g vB s.1 s.2) (hv : ∀ k, vB.ownBlock = some k → k < w.heap.size) (hll : s.1.length ≤ 10000000000) :
    Calls Tryz.prog 125 #[.pointer (some ⟨g, 0, none⟩)] w (RDR (natV s) w g vB (natT s)) := by
  have h0 : RR (w.alloc (.cells #[.slice none 0 0] 30)) g vB s.1 s.2 := h.keep ((Mods.refl noB w).alloc _) (fun x => x) (fun _ _ x => x)
  have hg := h.lt
  have H := Lib.hid h0
  clear h0 h
  have HV := Lib.hid hv
  clear hv
  go_enter Tryz.func125, Tryz.ntmps125
  go_wp2_with fail
  refine (rNat_st H.out hll).mono ?_
  rintro r w1 ⟨u, rfl, hr, hs, hf⟩
  have g1 := hs.mods.heap (heap_new w (.cells #[.slice none 0 0] 30)) (by omega)
  have c1 := cells_of g1
  have f1 := free_of g1
  obtain ⟨a, c, rfl, _⟩ := RdM.form hr
  have R := Lib.hid (And.intro hr (And.intro hf hs))
  clear hr hf hs g1
  go_wp2
  refine bodyPost_ret (by simp [results, Tryz.results125, go_sem, c1]; try rfl) rfl ?_
  obtain ⟨hr, hf, hs⟩ := R.out
  have hf' : freshIn w (Value.slice a (natV s).length c) := hf.of (by simp)
  refine ⟨_, rfl, RdM.keep hr (Mods.one w1 w.heap.size 0 _) (fun k hk e => ?_), ?_, hf'⟩
  · have := hf k hk
    simp at this
    omega
  · obtain ⟨⟨v1, k1, k2⟩, k3⟩ := RS.from ((Mods.refl noB w).alloc (.cells #[.slice none 0 0] 30)) hs
    exact ⟨⟨v1, k1.keep (Mods.one w1 w.heap.size 0 _) (by omega) (fun k hk e => by have := HV.out k (k2 k hk); omega), k2⟩, k3.setCell (.inr (Nat.le_refl _)) _⟩

/-- 4 + N bytes taken; what stands behind the fourth of them -/
theorem rtake_cut4 {w : World} {g gb off len ca N : Nat} {xs : List UInt8} (h : RR w g (.slice (some ⟨gb, off, none⟩) len ca) xs 0) (hx : xs.length = len) (hs : 4 + N ≤ len) :
    Calls Tryz.prog 152 #[.pointer (some ⟨g, 0, none⟩), .int .i64 ((4 + N : Nat) : Int)] w fun e w1 => ∃ (a : Addr) (c : Nat), e = .returned (.slice (some ⟨a.block, a.off, none⟩) (4 + N) c) ∧ 4 + N ≤ c ∧ c ≤ 9223372036854775807 ∧
      Rd w1 (.slice (if c = 4 then some ⟨a.block, a.off, none⟩ else some ⟨a.block, a.off + 4, none⟩) N (c - 4)) ((xs.drop 4).take N) ∧ RS w g (.slice (some ⟨gb, off, none⟩) len ca) (xs.drop (4 + N), 0) w1 := by
  subst hx
  refine (rtake_ok (4 + N) h hs).mono ?_
  rintro e w1 ⟨v, rfl, hr, _, hst⟩
  have hl : (xs.take (4 + N)).length = 4 + N := by rw [List.length_take]; omega
  rcases hr.open with ⟨_, h0⟩ | ⟨g', off', c, rfl, h1, h2, _, _⟩
  · rw [h0] at hl; simp at hl; omega
  · have hd := Rd.drop hr (n := 4) (by omega)
    rw [hl] at h1 hd ⊢
    rw [show 4 + N - 4 = N from by omega, List.drop_take, show 4 + N - 4 = N from by omega] at hd
    exact ⟨⟨g', off', none⟩, c, rfl, h1, by simpa [maxLen] using h2, hd, hst⟩

/-- bytes read by the reference's reader -/
def RBR (bs : List UInt8) (w : World) (g : Nat) (vB : Value) (s : ESt) (r : Ending) (w' : World) : Prop := ∃ u, r = .returned u ∧ Own w' u bs ∧ RS w g vB s w' ∧ freshIn w u



theorem or_i64 (x y : Nat) (hx : x < 9223372036854775808) (hy : y < 9223372036854775808) : bits .or .i64 (x : Int) (y : Int) = ((x ||| y : Nat) : Int) := by
  unfold bits
  have e1 : (BitVec.ofInt 64 ((x : Nat) : Int)) = BitVec.ofNat 64 x := BitVec.ofInt_natCast ..
  have e2 : (BitVec.ofInt 64 ((y : Nat) : Int)) = BitVec.ofNat 64 y := BitVec.ofInt_natCast ..
  show IntKind.i64.wrap (((BitVec.ofInt 64 (x : Int)) ||| (BitVec.ofInt 64 (y : Int))).toNat : Int) = _
  rw [e1, e2, BitVec.toNat_or, BitVec.toNat_ofNat, BitVec.toNat_ofNat, Nat.mod_eq_of_lt (by omega), Nat.mod_eq_of_lt (by omega)]
  have := Nat.or_lt_two_pow (n := 63) (x := x) (y := y) hx hy
  exact IntWalk.i64_in _ (by omega)

theorem or_hi (c x s : Nat) (h : x < 2 ^ s) : (c * 2 ^ s) ||| x = c * 2 ^ s + x := by
  rw [Nat.or_comm, or_add_pow x c s h, Nat.add_comm]

theorem or4 (b0 b1 b2 b3 : Nat) (l0 : b0 < 256) (l1 : b1 < 256) (l2 : b2 < 256) (l3 : b3 < 256) :
    bits .or .i64 (bits .or .i64 (bits .or .i64 ((b0 : Int) * 16777216) ((b1 : Int) * 65536)) ((b2 : Int) * 256)) (b3 : Int) = ((b0 * 16777216 + b1 * 65536 + b2 * 256 + b3 : Nat) : Int) := by
  have e0 : ((b0 : Int) * 16777216) = ((b0 * 16777216 : Nat) : Int) := by simp
  have e1 : ((b1 : Int) * 65536) = ((b1 * 65536 : Nat) : Int) := by simp
  have e2 : ((b2 : Int) * 256) = ((b2 * 256 : Nat) : Int) := by simp
  rw [e0, e1, e2, or_i64 _ _ (by omega) (by omega)]
  have h1 : (b0 * 16777216) ||| (b1 * 65536) = b0 * 16777216 + b1 * 65536 := or_hi b0 (b1 * 65536) 24 (by omega)
  rw [h1, or_i64 _ _ (by omega) (by omega)]
  have h2 : (b0 * 16777216 + b1 * 65536) ||| (b2 * 256) = b0 * 16777216 + b1 * 65536 + b2 * 256 := by
    have := or_hi (b0 * 256 + b1) (b2 * 256) 16 (by omega)
    rw [show (b0 * 256 + b1) * 2 ^ 16 = b0 * 16777216 + b1 * 65536 from by omega] at this
    exact this
  rw [h2, or_i64 _ _ (by omega) (by omega)]
  have h3 : (b0 * 16777216 + b1 * 65536 + b2 * 256) ||| b3 = b0 * 16777216 + b1 * 65536 + b2 * 256 + b3 := by
    have := or_hi (b0 * 65536 + b1 * 256 + b2) b3 8 (by omega)
    rw [show (b0 * 65536 + b1 * 256 + b2) * 2 ^ 8 = b0 * 16777216 + b1 * 65536 + b2 * 256 from by omega] at this
    exact this
  rw [h3]

theorem num4 {xs : List UInt8} (h : 4 ≤ xs.length) : evl 4 (xs, 0) = (xs[0]'(by omega)).toNat * 16777216 + (xs[1]'(by omega)).toNat * 65536 + (xs[2]'(by omega)).toNat * 256 + (xs[3]'(by omega)).toNat := by
  match xs, h with
  | a :: b :: c :: d :: rest, _ =>
    simp only [evl, rtake, if_true, List.length_cons, show 4 ≤ rest.length + 1 + 1 + 1 + 1 from by omega, List.take_succ_cons, List.take_zero, num, List.foldl_cons, List.foldl_nil, List.getElem_cons_zero, List.getElem_cons_succ]
    omega





end Go.Proofs.YtnkbbclcileleaaGreat

/- gleanref8: a reader in new memory, the record's block beside it; ends. -/
namespace Go.Proofs.YtnkbbclcileleaaGreat
open Go.Gl Go.RowKit
set_option linter.unusedVariables false
set_option maxRecDepth 100000

/-- bytes that are read, whose block (if any) is there -/
def RdB (w : World) (v : Value) (xs : List UInt8) : Prop := Rd w v xs ∧ ∀ k, v.ownBlock = some k → k < w.heap.size
theorem RdB.keep {w wx : World} {v : Value} {xs : List UInt8} (h : RdB w v xs) (hm : Mods noB w wx) : RdB wx v xs := ⟨h.1.keep hm (fun _ _ x => x), fun k hk => hm.size_of (h.2 k hk)⟩

structure QF (w : World) (g : Nat) (s : ESt) (bs : List (Nat × Obj)) (ds : List (Value × List Nat)) (wx : World) : Prop where
  rr : ∃ v, RR wx g v s.1 s.2 ∧ ∀ k, v.ownBlock = some k → k < w.heap.size
  blk : ∀ p ∈ bs, p.1 ≠ g ∧ w.heap.size ≤ p.1 ∧ wx.heap[p.1]? = some p.2
  mods : Mods noB w wx
  new : w.heap.size ≤ g
  lt : g < wx.heap.size
  ds : ∀ p ∈ ds, RN wx p.1 p.2 ∧ freshIn w p.1 ∧ (p.2 = [] ∨ ∀ k, p.1.ownBlock = some k → k < wx.heap.size ∧ k ≠ g ∧ ∀ q ∈ bs, k ≠ q.1)

variable {w wx wy : World} {g : Nat} {s : ESt} {bs : List (Nat × Obj)} {ds : List (Value × List Nat)}

theorem QF.start {b : Value} {xs : List UInt8} (hb : RdB w b xs) (o : Obj) (wy : World) (hy : wy = (w.alloc o).alloc (.cells #[b, .int .i64 0] 187)) (ho : ∃ cs T, o = .cells cs T (0, 0)) :
    QF w (w.heap.size + 1) (xs, 0) [(w.heap.size, o)] [] wy := by
  subst hy
  have e : (w.alloc o).heap.size = w.heap.size + 1 := by simp
  have hm := ((Mods.refl noB w).alloc o).alloc (.cells #[b, .int .i64 0] 187)
  have h2 := heap_new (w.alloc o) (.cells #[b, .int .i64 0] 187)
  rw [e] at h2
  refine ⟨⟨b, ⟨h2, hb.1.keep hm (fun _ _ x => x), fun x => by have := hb.2 _ x; omega⟩, hb.2⟩, fun p hp => ?_, hm, by omega, by simp, fun p hp => by cases hp⟩
  obtain rfl := List.mem_singleton.1 hp
  exact ⟨by simp, Nat.le_refl _, heap_old (heap_new w o) _⟩

theorem QF.start1 {b : Value} {xs : List UInt8} (hb : RdB w b xs) (wy : World) (hy : wy = w.alloc (.cells #[b, .int .i64 0] 187)) : QF w w.heap.size (xs, 0) [] [] wy := by
  subst hy
  have hm := (Mods.refl noB w).alloc (.cells #[b, .int .i64 0] 187)
  exact ⟨⟨b, ⟨heap_new _ _, hb.1.keep hm (fun _ _ x => x), fun x => by have := hb.2 _ x; omega⟩, hb.2⟩, fun p hp => (by cases hp), hm, Nat.le_refl _, by simp, fun p hp => by cases hp⟩

theorem QF.step (h : QF w g s bs ds wx) {t : ESt} {v : Value} (hv : ∀ k, v.ownBlock = some k → k < w.heap.size) (k : RS wx g v t wy) : QF w g t bs ds wy := by
  obtain ⟨⟨v', k1, k2⟩, k3⟩ := k
  refine ⟨⟨v', k1, fun i hi => hv i (k2 i hi)⟩, fun p hp => ⟨(h.blk p hp).1, (h.blk p hp).2.1, k3.heap (h.blk p hp).2.2 (h.blk p hp).1⟩, h.mods.trans k3 (fun _ _ x => x) (fun i hi x => by have := h.new; omega), h.new, k3.size_of h.lt, fun p hp => ?_⟩
  obtain ⟨h1, h2, h3⟩ := h.ds p hp
  exact ⟨RN.keepW h1 k3 (h3.imp id (fun h3 k hk => (h3 k hk).2.1)), h2, h3.imp id (fun h3 k hk => ⟨k3.size_of (h3 k hk).1, (h3 k hk).2⟩)⟩

theorem QF.alloc (h : QF w g s bs ds wx) (o : Obj) : QF w g s ((wx.heap.size, o) :: bs) ds (wx.alloc o) := by
  have hm := (Mods.refl noB wx).alloc o
  obtain ⟨v, r1, r2⟩ := h.rr
  refine ⟨⟨v, r1.keep hm (fun x => x) (fun _ _ x => x), r2⟩, fun p hp => ?_, h.mods.alloc o, h.new, hm.size_of h.lt, fun p hp => ?_⟩
  · rcases List.mem_cons.1 hp with rfl | hp
    · exact ⟨by have := h.lt; simp only; omega, h.mods.size, heap_new _ _⟩
    · exact ⟨(h.blk p hp).1, (h.blk p hp).2.1, heap_old (h.blk p hp).2.2 o⟩
  · obtain ⟨h1, h2, h3⟩ := h.ds p hp
    refine ⟨h1.keep hm (fun _ _ x => x), h2, h3.imp id (fun h3 k hk => ⟨hm.size_of (h3 k hk).1, (h3 k hk).2.1, fun q hq => ?_⟩)⟩
    rcases List.mem_cons.1 hq with rfl | hq
    · have := (h3 k hk).1; simp only; omega
    · exact (h3 k hk).2.2 q hq

theorem QF.set {B : Nat} {cur : Array Value} {T : TypeId} (h : QF w g s ((B, .cells cur T (0, 0)) :: bs) ds wx) (hB : ∀ q ∈ bs, q.1 ≠ B) (o : Nat) (u : Value) : QF w g s ((B, .cells (cur.setIfInBounds o u) T (0, 0)) :: bs) ds (wx.setCell ⟨B, o, none⟩ u) := by
  obtain ⟨b1, b2, b3⟩ := h.blk _ (List.mem_cons_self ..)
  have hm := Mods.one wx B o u
  obtain ⟨v, r1, r2⟩ := h.rr
  have hmn := h.mods.setCell (p := ⟨B, o, none⟩) (.inr b2) u
  refine ⟨⟨v, r1.keep hm (fun e => b1 e.symm) (fun k hk e => by have := r2 k hk; simp only at b2; omega), r2⟩, fun p hp => ?_, hmn, h.new, hm.size_of h.lt, fun p hp => ?_⟩
  · rcases List.mem_cons.1 hp with rfl | hp
    · exact ⟨b1, b2, heap_set b3 o u⟩
    · obtain ⟨q1, q2, q3⟩ := h.blk p (List.mem_cons_of_mem _ hp)
      exact ⟨q1, q2, hm.heap q3 (hB p hp)⟩
  · obtain ⟨h1, h2, h3⟩ := h.ds p hp
    refine ⟨RN.keepW h1 hm (h3.imp id (fun h3 k hk => (h3 k hk).2.2 _ (List.mem_cons_self ..))), h2, h3.imp id (fun h3 k hk => ⟨hm.size_of (h3 k hk).1, (h3 k hk).2.1, fun q hq => ?_⟩)⟩
    rcases List.mem_cons.1 hq with rfl | hq
    · exact (h3 k hk).2.2 (B, .cells cur T (0, 0)) (List.mem_cons_self ..)
    · exact (h3 k hk).2.2 q (List.mem_cons_of_mem _ hq)

theorem QF.get (h : QF w g s bs ds wx) (i : Nat) {p : Nat × Obj} (hi : bs[i]? = some p) : wx.heap[p.1]? = some p.2 := (h.blk p (List.mem_of_getElem? hi)).2.2

theorem QF.u (h : QF w g s bs ds wx) : Calls Tryz.prog 123 #[.pointer (some ⟨g, 0, none⟩), .int .i64 8] wx fun r w' => r = .returned (.int .u64 (evl 8 s)) ∧ QF w g (est 8 s) bs ds w' := by
  obtain ⟨v, r1, r2⟩ := h.rr
  exact (rU_st 8 r1 (by omega)).mono fun r w' ⟨hr, hs⟩ => ⟨hr, h.step r2 hs⟩
theorem QF.bool (h : QF w g s bs ds wx) : Calls Tryz.prog 126 #[.pointer (some ⟨g, 0, none⟩)] wx fun r w' => r = .returned (.bool (decide (evl 1 s = 1))) ∧ QF w g (boolS s) bs ds w' := by
  obtain ⟨v, r1, r2⟩ := h.rr
  exact (rBool_st r1).mono fun r w' ⟨hr, hs⟩ => ⟨hr, h.step r2 hs⟩
theorem QF.dec (h : QF w g s bs ds wx) (hl : s.1.length ≤ 10000000000) : Calls Tryz.prog 125 #[.pointer (some ⟨g, 0, none⟩)] wx fun r w' => ∃ u, r = .returned (.agg #[u]) ∧ RN w' u (natV s) ∧ QF w g (natT s) bs ((u, natV s) :: ds) w' := by
  obtain ⟨v, r1, r2⟩ := h.rr
  refine (rDec_st r1 (fun k hk => by have := r2 k hk; have := h.mods.size; omega) hl).mono ?_
  rintro r w' ⟨u, hr, hn, hs, hf⟩
  have hq := h.step r2 hs
  refine ⟨u, hr, hn, hq.rr, hq.blk, hq.mods, hq.new, hq.lt, fun p hp => ?_⟩
  rcases List.mem_cons.1 hp with rfl | hp
  · refine ⟨hn, hf.of h.mods.size, ?_⟩
    rcases Nat.eq_zero_or_pos (natV s).length with h0 | h0
    · exact .inl (List.eq_nil_of_length_eq_zero h0)
    · refine .inr (fun k hk => ⟨RdM.ltn hn (by omega) k hk, ?_, fun q hq => ?_⟩)
      · have := hf k hk; have := h.lt; omega
      · have := hf k hk; have := lt_of_heap (h.blk q hq).2.2; omega
  · exact hq.ds p hp

/-- a reader's error as a record's -/
theorem QF.ends (h : QF w g s bs ds wx) : Calls Tryz.prog 124 #[.pointer (some ⟨g, 0, none⟩)] wx fun r w' => r = .returned (.int .i64 (if s = ([], 0) then 0 else 80)) ∧ ∃ t, QF w g t bs ds w' := by
  obtain ⟨v, r1, r2⟩ := h.rr
  have HE := Lib.hid (rEndE r1)
  have H := Lib.hid h
  have HR := Lib.hid r2
  clear h r1 r2
  by_cases he : s = ([], 0)
  · have e0 : endS s.1 s.2 = 0 := (endS_zero s).2 he
    rw [if_pos he]
    rw [e0] at HE
    go_enter Tryz.func124, Tryz.ntmps124
    go_wp2_with fail
    refine HE.out.mono ?_
    rintro r w1 ⟨rfl, hs⟩
    have HS := Lib.hid hs
    clear hs
    go_wp2
    go_ret
    exact ⟨rfl, _, H.out.step HR.out HS.out⟩
  · have e0 : endS s.1 s.2 ≠ 0 := fun x => he ((endS_zero s).1 x)
    have e1 : (endS s.1 s.2 == 0) = false := beq_false_of_ne e0
    have e2 : (endS s.1 s.2 != 0) = true := bne_iff_ne.2 e0
    rw [if_neg he]
    generalize endS s.1 s.2 = ee at *
    go_enter Tryz.func124, Tryz.ntmps124
    go_wp2_with fail
    refine HE.out.mono ?_
    rintro r w1 ⟨rfl, hs⟩
    have HS := Lib.hid hs
    clear hs
    go_wp2
    go_ret
    exact ⟨rfl, _, H.out.step HR.out HS.out⟩

theorem rn_res8 {w10 wy : World} {u : Value} {l : List Nat} {r : Nat} (h : RN w10 u l) (hf : freshIn w u) (h3 : l = [] ∨ ∀ k, u.ownBlock = some k → k ≠ r) (hm : Mods (fun i => i = r) w10 wy) : RN wy u l := RN.keepW h hm h3

end Go.Proofs.YtnkbbclcileleaaGreat

/- gleanref8: readers (printed by gen_rec.py). -/
namespace Go.Proofs.YtnkbbclcileleaaGreat
open Go.Gl Go.RowKit
set_option linter.unusedVariables false
set_option maxRecDepth 100000

theorem params_size8 : (Tryz.prog.info? 24).map (·.size) = some 10 := by kernel_rfl

set_option maxHeartbeats 4000000 in
theorem params_ref {w : World} {b : Value} {xs : List UInt8} (hb : RdB w b xs) (hl : xs.length ≤ 1000000) :
    Calls Tryz.prog 80 #[b] w (fun r w' => ∃ (n0 n1 n2 n3 n4 n5 n6 n7 n8 n9 : Nat) (e : Nat), r = .returned (.tuple #[.agg #[.int .u64 (n0 : Nat), .int .u64 (n1 : Nat), .int .u64 (n2 : Nat), .int .u64 (n3 : Nat), .int .u64 (n4 : Nat), .int .u64 (n5 : Nat), .int .u64 (n6 : Nat), .int .u64 (n7 : Nat), .int .u64 (n8 : Nat), .int .u64 (n9 : Nat)], .int .i64 e]) ∧ recGet [0, 0, 0, 0, 0, 0, 0, 0, 0, 0] xs = ([⟨0, n0, []⟩, ⟨0, n1, []⟩, ⟨0, n2, []⟩, ⟨0, n3, []⟩, ⟨0, n4, []⟩, ⟨0, n5, []⟩, ⟨0, n6, []⟩, ⟨0, n7, []⟩, ⟨0, n8, []⟩, ⟨0, n9, []⟩], e) ∧ Mods noB w w') := by
  obtain ⟨a, c, rfl, hlm⟩ := hb.1.form
  obtain ⟨Q, hQ⟩ : ∃ Q : Ending → World → Prop, Q = (fun r w' => ∃ (n0 n1 n2 n3 n4 n5 n6 n7 n8 n9 : Nat) (e : Nat), r = .returned (.tuple #[.agg #[.int .u64 (n0 : Nat), .int .u64 (n1 : Nat), .int .u64 (n2 : Nat), .int .u64 (n3 : Nat), .int .u64 (n4 : Nat), .int .u64 (n5 : Nat), .int .u64 (n6 : Nat), .int .u64 (n7 : Nat), .int .u64 (n8 : Nat), .int .u64 (n9 : Nat)], .int .i64 e]) ∧ recGet [0, 0, 0, 0, 0, 0, 0, 0, 0, 0] xs = ([⟨0, n0, []⟩, ⟨0, n1, []⟩, ⟨0, n2, []⟩, ⟨0, n3, []⟩, ⟨0, n4, []⟩, ⟨0, n5, []⟩, ⟨0, n6, []⟩, ⟨0, n7, []⟩, ⟨0, n8, []⟩, ⟨0, n9, []⟩], e) ∧ Mods noB w w') := ⟨_, rfl⟩
  show Calls _ _ _ _ (fun r w' => ∃ (n0 n1 n2 n3 n4 n5 n6 n7 n8 n9 : Nat) (e : Nat), r = .returned (.tuple #[.agg #[.int .u64 (n0 : Nat), .int .u64 (n1 : Nat), .int .u64 (n2 : Nat), .int .u64 (n3 : Nat), .int .u64 (n4 : Nat), .int .u64 (n5 : Nat), .int .u64 (n6 : Nat), .int .u64 (n7 : Nat), .int .u64 (n8 : Nat), .int .u64 (n9 : Nat)], .int .i64 e]) ∧ recGet [0, 0, 0, 0, 0, 0, 0, 0, 0, 0] xs = ([⟨0, n0, []⟩, ⟨0, n1, []⟩, ⟨0, n2, []⟩, ⟨0, n3, []⟩, ⟨0, n4, []⟩, ⟨0, n5, []⟩, ⟨0, n6, []⟩, ⟨0, n7, []⟩, ⟨0, n8, []⟩, ⟨0, n9, []⟩], e) ∧ Mods noB w w')
  rw [← hQ]
  have HQ := Lib.hid hQ
  have HL := Lib.hid (show ((xs, 0) : ESt).1.length ≤ 10000000000 from Nat.le_trans hl (Nat.le_of_ble_eq_true rfl))
  have F0 := Lib.hid (QF.start hb (.cells #[.int .u64 0, .int .u64 0, .int .u64 0, .int .u64 0, .int .u64 0, .int .u64 0, .int .u64 0, .int .u64 0, .int .u64 0, .int .u64 0] 24 (0, 0)) _ rfl ⟨_, _, rfl⟩)
  clear hQ hb hl hlm
  go_enter Tryz.func80, Tryz.ntmps80
  go_wp2_with fail
  have hbs : ((w.alloc (.cells #[.int .u64 0, .int .u64 0, .int .u64 0, .int .u64 0, .int .u64 0, .int .u64 0, .int .u64 0, .int .u64 0, .int .u64 0, .int .u64 0] 24 (0, 0))).alloc (.cells #[.slice a xs.length c, .int .i64 0] 187)).heap.size = w.heap.size + 1 + 1 := by simp
  replace F0 := Lib.hid (F0.out.alloc (.cells #[.int .u64 0, .int .u64 0, .int .u64 0, .int .u64 0, .int .u64 0, .int .u64 0, .int .u64 0, .int .u64 0, .int .u64 0, .int .u64 0] 24 (0, 0)))
  rw [hbs] at F0
  clear hbs
  generalize World.alloc (World.alloc (World.alloc w _) _) _ = y0 at *
  refine F0.out.u.mono ?_
  rintro r y1 ⟨rfl, hq⟩
  replace HL := Lib.hid (show ((est 8 ((xs, 0) : ESt)) : ESt).1.length ≤ 10000000000 from Nat.le_trans (est_len 8 _) HL.out)
  have k0 := cells_of (hq.get 0 rfl) 0
  have k1 := free_of (hq.get 0 rfl) 0
  have F1 := Lib.hid (hq.set (by intro q hq; simp at hq; subst hq; simp; try omega) 0 (.int .u64 ((evl 8 ((xs, 0) : ESt)) : Nat)))
  clear hq F0
  go_wp2_with fail
  generalize World.setCell y1 _ _ = z1 at *
  refine F1.out.u.mono ?_
  rintro r y2 ⟨rfl, hq⟩
  replace HL := Lib.hid (show ((est 8 (est 8 ((xs, 0) : ESt))) : ESt).1.length ≤ 10000000000 from Nat.le_trans (est_len 8 _) HL.out)
  clear k0 k1
  have k0 := cells_of (hq.get 0 rfl) 1
  have k1 := free_of (hq.get 0 rfl) 1
  have F2 := Lib.hid (hq.set (by intro q hq; simp at hq; subst hq; simp; try omega) 1 (.int .u64 ((evl 8 (est 8 ((xs, 0) : ESt))) : Nat)))
  clear hq F1
  go_wp2_with fail
  generalize World.setCell y2 _ _ = z2 at *
  refine F2.out.u.mono ?_
  rintro r y3 ⟨rfl, hq⟩
  replace HL := Lib.hid (show ((est 8 (est 8 (est 8 ((xs, 0) : ESt)))) : ESt).1.length ≤ 10000000000 from Nat.le_trans (est_len 8 _) HL.out)
  clear k0 k1
  have k0 := cells_of (hq.get 0 rfl) 2
  have k1 := free_of (hq.get 0 rfl) 2
  have F3 := Lib.hid (hq.set (by intro q hq; simp at hq; subst hq; simp; try omega) 2 (.int .u64 ((evl 8 (est 8 (est 8 ((xs, 0) : ESt)))) : Nat)))
  clear hq F2
  go_wp2_with fail
  generalize World.setCell y3 _ _ = z3 at *
  refine F3.out.u.mono ?_
  rintro r y4 ⟨rfl, hq⟩
  replace HL := Lib.hid (show ((est 8 (est 8 (est 8 (est 8 ((xs, 0) : ESt))))) : ESt).1.length ≤ 10000000000 from Nat.le_trans (est_len 8 _) HL.out)
  clear k0 k1
  have k0 := cells_of (hq.get 0 rfl) 3
  have k1 := free_of (hq.get 0 rfl) 3
  have F4 := Lib.hid (hq.set (by intro q hq; simp at hq; subst hq; simp; try omega) 3 (.int .u64 ((evl 8 (est 8 (est 8 (est 8 ((xs, 0) : ESt))))) : Nat)))
  clear hq F3
  go_wp2_with fail
  generalize World.setCell y4 _ _ = z4 at *
  refine F4.out.u.mono ?_
  rintro r y5 ⟨rfl, hq⟩
  replace HL := Lib.hid (show ((est 8 (est 8 (est 8 (est 8 (est 8 ((xs, 0) : ESt)))))) : ESt).1.length ≤ 10000000000 from Nat.le_trans (est_len 8 _) HL.out)
  clear k0 k1
  have k0 := cells_of (hq.get 0 rfl) 4
  have k1 := free_of (hq.get 0 rfl) 4
  have F5 := Lib.hid (hq.set (by intro q hq; simp at hq; subst hq; simp; try omega) 4 (.int .u64 ((evl 8 (est 8 (est 8 (est 8 (est 8 ((xs, 0) : ESt)))))) : Nat)))
  clear hq F4
  go_wp2_with fail
  generalize World.setCell y5 _ _ = z5 at *
  refine F5.out.u.mono ?_
  rintro r y6 ⟨rfl, hq⟩
  replace HL := Lib.hid (show ((est 8 (est 8 (est 8 (est 8 (est 8 (est 8 ((xs, 0) : ESt))))))) : ESt).1.length ≤ 10000000000 from Nat.le_trans (est_len 8 _) HL.out)
  clear k0 k1
  have k0 := cells_of (hq.get 0 rfl) 5
  have k1 := free_of (hq.get 0 rfl) 5
  have F6 := Lib.hid (hq.set (by intro q hq; simp at hq; subst hq; simp; try omega) 5 (.int .u64 ((evl 8 (est 8 (est 8 (est 8 (est 8 (est 8 ((xs, 0) : ESt))))))) : Nat)))
  clear hq F5
  go_wp2_with fail
  generalize World.setCell y6 _ _ = z6 at *
  refine F6.out.u.mono ?_
  rintro r y7 ⟨rfl, hq⟩
  replace HL := Lib.hid (show ((est 8 (est 8 (est 8 (est 8 (est 8 (est 8 (est 8 ((xs, 0) : ESt)))))))) : ESt).1.length ≤ 10000000000 from Nat.le_trans (est_len 8 _) HL.out)
  clear k0 k1
  have k0 := cells_of (hq.get 0 rfl) 6
  have k1 := free_of (hq.get 0 rfl) 6
  have F7 := Lib.hid (hq.set (by intro q hq; simp at hq; subst hq; simp; try omega) 6 (.int .u64 ((evl 8 (est 8 (est 8 (est 8 (est 8 (est 8 (est 8 ((xs, 0) : ESt)))))))) : Nat)))
  clear hq F6
  go_wp2_with fail
  generalize World.setCell y7 _ _ = z7 at *
  refine F7.out.u.mono ?_
  rintro r y8 ⟨rfl, hq⟩
  replace HL := Lib.hid (show ((est 8 (est 8 (est 8 (est 8 (est 8 (est 8 (est 8 (est 8 ((xs, 0) : ESt))))))))) : ESt).1.length ≤ 10000000000 from Nat.le_trans (est_len 8 _) HL.out)
  clear k0 k1
  have k0 := cells_of (hq.get 0 rfl) 7
  have k1 := free_of (hq.get 0 rfl) 7
  have F8 := Lib.hid (hq.set (by intro q hq; simp at hq; subst hq; simp; try omega) 7 (.int .u64 ((evl 8 (est 8 (est 8 (est 8 (est 8 (est 8 (est 8 (est 8 ((xs, 0) : ESt))))))))) : Nat)))
  clear hq F7
  go_wp2_with fail
  generalize World.setCell y8 _ _ = z8 at *
  refine F8.out.u.mono ?_
  rintro r y9 ⟨rfl, hq⟩
  replace HL := Lib.hid (show ((est 8 (est 8 (est 8 (est 8 (est 8 (est 8 (est 8 (est 8 (est 8 ((xs, 0) : ESt)))))))))) : ESt).1.length ≤ 10000000000 from Nat.le_trans (est_len 8 _) HL.out)
  clear k0 k1
  have k0 := cells_of (hq.get 0 rfl) 8
  have k1 := free_of (hq.get 0 rfl) 8
  have F9 := Lib.hid (hq.set (by intro q hq; simp at hq; subst hq; simp; try omega) 8 (.int .u64 ((evl 8 (est 8 (est 8 (est 8 (est 8 (est 8 (est 8 (est 8 (est 8 ((xs, 0) : ESt)))))))))) : Nat)))
  clear hq F8
  go_wp2_with fail
  generalize World.setCell y9 _ _ = z9 at *
  refine F9.out.u.mono ?_
  rintro r y10 ⟨rfl, hq⟩
  replace HL := Lib.hid (show ((est 8 (est 8 (est 8 (est 8 (est 8 (est 8 (est 8 (est 8 (est 8 (est 8 ((xs, 0) : ESt))))))))))) : ESt).1.length ≤ 10000000000 from Nat.le_trans (est_len 8 _) HL.out)
  clear k0 k1
  have k0 := cells_of (hq.get 0 rfl) 9
  have k1 := free_of (hq.get 0 rfl) 9
  have F10 := Lib.hid (hq.set (by intro q hq; simp at hq; subst hq; simp; try omega) 9 (.int .u64 ((evl 8 (est 8 (est 8 (est 8 (est 8 (est 8 (est 8 (est 8 (est 8 (est 8 ((xs, 0) : ESt))))))))))) : Nat)))
  clear hq F9
  go_wp2_with fail
  generalize World.setCell y10 _ _ = z10 at *
  refine F10.out.ends.mono ?_
  rintro r y ⟨rfl, t, hq⟩
  have HF := Lib.hid hq
  clear k0 k1
  have g0 := hq.get 1 rfl
  have x0 := cells_of (hq.get 0 rfl) 0
  have x1 := cells_of (hq.get 0 rfl) 1
  have x2 := cells_of (hq.get 0 rfl) 2
  have x3 := cells_of (hq.get 0 rfl) 3
  have x4 := cells_of (hq.get 0 rfl) 4
  have x5 := cells_of (hq.get 0 rfl) 5
  have x6 := cells_of (hq.get 0 rfl) 6
  have x7 := cells_of (hq.get 0 rfl) 7
  have x8 := cells_of (hq.get 0 rfl) 8
  have x9 := cells_of (hq.get 0 rfl) 9
  clear hq F10
  by_cases he : (est 8 (est 8 (est 8 (est 8 (est 8 (est 8 (est 8 (est 8 (est 8 (est 8 ((xs, 0) : ESt))))))))))) = ([], 0)
  · rw [if_pos he]
    go_wp2_with (refine wpList_store_blk rfl rfl g0 rfl rfl params_size8 rfl rfl ?_; intro w11 q1 q2 q3; have c11 := cells_of q1)
    refine bodyPost_ret (by simp [results, Tryz.results80, go_sem, c11]; try rfl) rfl ?_
    rw [HQ.out]
    exact ⟨(evl 8 ((xs, 0) : ESt)), (evl 8 (est 8 ((xs, 0) : ESt))), (evl 8 (est 8 (est 8 ((xs, 0) : ESt)))), (evl 8 (est 8 (est 8 (est 8 ((xs, 0) : ESt))))), (evl 8 (est 8 (est 8 (est 8 (est 8 ((xs, 0) : ESt)))))), (evl 8 (est 8 (est 8 (est 8 (est 8 (est 8 ((xs, 0) : ESt))))))), (evl 8 (est 8 (est 8 (est 8 (est 8 (est 8 (est 8 ((xs, 0) : ESt)))))))), (evl 8 (est 8 (est 8 (est 8 (est 8 (est 8 (est 8 (est 8 ((xs, 0) : ESt))))))))), (evl 8 (est 8 (est 8 (est 8 (est 8 (est 8 (est 8 (est 8 (est 8 ((xs, 0) : ESt)))))))))), (evl 8 (est 8 (est 8 (est 8 (est 8 (est 8 (est 8 (est 8 (est 8 (est 8 ((xs, 0) : ESt))))))))))), 0, rfl, recGet_yes (fs := [⟨0, (evl 8 ((xs, 0) : ESt)), []⟩, ⟨0, (evl 8 (est 8 ((xs, 0) : ESt))), []⟩, ⟨0, (evl 8 (est 8 (est 8 ((xs, 0) : ESt)))), []⟩, ⟨0, (evl 8 (est 8 (est 8 (est 8 ((xs, 0) : ESt))))), []⟩, ⟨0, (evl 8 (est 8 (est 8 (est 8 (est 8 ((xs, 0) : ESt)))))), []⟩, ⟨0, (evl 8 (est 8 (est 8 (est 8 (est 8 (est 8 ((xs, 0) : ESt))))))), []⟩, ⟨0, (evl 8 (est 8 (est 8 (est 8 (est 8 (est 8 (est 8 ((xs, 0) : ESt)))))))), []⟩, ⟨0, (evl 8 (est 8 (est 8 (est 8 (est 8 (est 8 (est 8 (est 8 ((xs, 0) : ESt))))))))), []⟩, ⟨0, (evl 8 (est 8 (est 8 (est 8 (est 8 (est 8 (est 8 (est 8 (est 8 ((xs, 0) : ESt)))))))))), []⟩, ⟨0, (evl 8 (est 8 (est 8 (est 8 (est 8 (est 8 (est 8 (est 8 (est 8 (est 8 ((xs, 0) : ESt))))))))))), []⟩]) (show rdAll [0, 0, 0, 0, 0, 0, 0, 0, 0, 0] (xs, 0) = _ from he ▸ (by kernel_rfl : rdAll [0, 0, 0, 0, 0, 0, 0, 0, 0, 0] (xs, 0) = ([⟨0, (evl 8 ((xs, 0) : ESt)), []⟩, ⟨0, (evl 8 (est 8 ((xs, 0) : ESt))), []⟩, ⟨0, (evl 8 (est 8 (est 8 ((xs, 0) : ESt)))), []⟩, ⟨0, (evl 8 (est 8 (est 8 (est 8 ((xs, 0) : ESt))))), []⟩, ⟨0, (evl 8 (est 8 (est 8 (est 8 (est 8 ((xs, 0) : ESt)))))), []⟩, ⟨0, (evl 8 (est 8 (est 8 (est 8 (est 8 (est 8 ((xs, 0) : ESt))))))), []⟩, ⟨0, (evl 8 (est 8 (est 8 (est 8 (est 8 (est 8 (est 8 ((xs, 0) : ESt)))))))), []⟩, ⟨0, (evl 8 (est 8 (est 8 (est 8 (est 8 (est 8 (est 8 (est 8 ((xs, 0) : ESt))))))))), []⟩, ⟨0, (evl 8 (est 8 (est 8 (est 8 (est 8 (est 8 (est 8 (est 8 (est 8 ((xs, 0) : ESt)))))))))), []⟩, ⟨0, (evl 8 (est 8 (est 8 (est 8 (est 8 (est 8 (est 8 (est 8 (est 8 (est 8 ((xs, 0) : ESt))))))))))), []⟩], (est 8 (est 8 (est 8 (est 8 (est 8 (est 8 (est 8 (est 8 (est 8 (est 8 ((xs, 0) : ESt)))))))))))))), HF.out.mods.trans q2 (fun _ _ x => x) (fun i hi x => by omega)⟩
  · rw [if_neg he]
    go_wp2_with (refine wpList_store_blk rfl rfl g0 rfl rfl params_size8 rfl rfl ?_; intro w11 q1 q2 q3; have c11 := cells_of q1)
    refine bodyPost_ret (by simp [results, Tryz.results80, go_sem, c11]; try rfl) rfl ?_
    rw [HQ.out]
    exact ⟨0, 0, 0, 0, 0, 0, 0, 0, 0, 0, 80, rfl, recGet_no (fs := [⟨0, (evl 8 ((xs, 0) : ESt)), []⟩, ⟨0, (evl 8 (est 8 ((xs, 0) : ESt))), []⟩, ⟨0, (evl 8 (est 8 (est 8 ((xs, 0) : ESt)))), []⟩, ⟨0, (evl 8 (est 8 (est 8 (est 8 ((xs, 0) : ESt))))), []⟩, ⟨0, (evl 8 (est 8 (est 8 (est 8 (est 8 ((xs, 0) : ESt)))))), []⟩, ⟨0, (evl 8 (est 8 (est 8 (est 8 (est 8 (est 8 ((xs, 0) : ESt))))))), []⟩, ⟨0, (evl 8 (est 8 (est 8 (est 8 (est 8 (est 8 (est 8 ((xs, 0) : ESt)))))))), []⟩, ⟨0, (evl 8 (est 8 (est 8 (est 8 (est 8 (est 8 (est 8 (est 8 ((xs, 0) : ESt))))))))), []⟩, ⟨0, (evl 8 (est 8 (est 8 (est 8 (est 8 (est 8 (est 8 (est 8 (est 8 ((xs, 0) : ESt)))))))))), []⟩, ⟨0, (evl 8 (est 8 (est 8 (est 8 (est 8 (est 8 (est 8 (est 8 (est 8 (est 8 ((xs, 0) : ESt))))))))))), []⟩]) (s := (est 8 (est 8 (est 8 (est 8 (est 8 (est 8 (est 8 (est 8 (est 8 (est 8 ((xs, 0) : ESt)))))))))))) (by kernel_rfl) he, HF.out.mods.trans q2 (fun _ _ x => x) (fun i hi x => by omega)⟩

theorem chain_size8 : (Tryz.prog.info? 26).map (·.size) = some 2 := by kernel_rfl

set_option maxHeartbeats 4000000 in
theorem chain_ref {w : World} {b : Value} {xs : List UInt8} (hb : RdB w b xs) (hl : xs.length ≤ 1000000) :
    Calls Tryz.prog 81 #[b] w (fun r w' => ∃ (n0 n1 : Nat) (e : Nat), r = .returned (.tuple #[.agg #[.int .u64 (n0 : Nat), .int .u64 (n1 : Nat)], .int .i64 e]) ∧ recGet [0, 0] xs = ([⟨0, n0, []⟩, ⟨0, n1, []⟩], e) ∧ Mods noB w w') := by
  obtain ⟨a, c, rfl, hlm⟩ := hb.1.form
  obtain ⟨Q, hQ⟩ : ∃ Q : Ending → World → Prop, Q = (fun r w' => ∃ (n0 n1 : Nat) (e : Nat), r = .returned (.tuple #[.agg #[.int .u64 (n0 : Nat), .int .u64 (n1 : Nat)], .int .i64 e]) ∧ recGet [0, 0] xs = ([⟨0, n0, []⟩, ⟨0, n1, []⟩], e) ∧ Mods noB w w') := ⟨_, rfl⟩
  show Calls _ _ _ _ (fun r w' => ∃ (n0 n1 : Nat) (e : Nat), r = .returned (.tuple #[.agg #[.int .u64 (n0 : Nat), .int .u64 (n1 : Nat)], .int .i64 e]) ∧ recGet [0, 0] xs = ([⟨0, n0, []⟩, ⟨0, n1, []⟩], e) ∧ Mods noB w w')
  rw [← hQ]
  have HQ := Lib.hid hQ
  have HL := Lib.hid (show ((xs, 0) : ESt).1.length ≤ 10000000000 from Nat.le_trans hl (Nat.le_of_ble_eq_true rfl))
  have F0 := Lib.hid (QF.start hb (.cells #[.int .u64 0, .int .u64 0] 26 (0, 0)) _ rfl ⟨_, _, rfl⟩)
  clear hQ hb hl hlm
  go_enter Tryz.func81, Tryz.ntmps81
  go_wp2_with fail
  generalize World.alloc (World.alloc w _) _ = y0 at *
  refine F0.out.u.mono ?_
  rintro r y1 ⟨rfl, hq⟩
  replace HL := Lib.hid (show ((est 8 ((xs, 0) : ESt)) : ESt).1.length ≤ 10000000000 from Nat.le_trans (est_len 8 _) HL.out)
  have F1 := Lib.hid (hq.alloc (.cells #[.int .u64 ((evl 8 ((xs, 0) : ESt)) : Nat), .int .u64 0] 26 (0, 0)))
  have HB := Lib.hid (show w.heap.size < y1.heap.size from by have := lt_of_heap (hq.get 0 rfl); simp only at this; omega)
  have hne : ∀ q ∈ [((w.heap.size, (.cells #[.int .u64 0, .int .u64 0] 26 (0, 0))) : Nat × Obj)], q.1 ≠ y1.heap.size := by intro q hq; simp at hq; subst hq; have := HB.out; simp only; omega
  have HNE := Lib.hid hne
  clear hq hne F0
  go_wp2_with fail
  generalize World.alloc y1 _ = z1 at *
  refine F1.out.u.mono ?_
  rintro r y2 ⟨rfl, hq⟩
  replace HL := Lib.hid (show ((est 8 (est 8 ((xs, 0) : ESt))) : ESt).1.length ≤ 10000000000 from Nat.le_trans (est_len 8 _) HL.out)
  have k0 := cells_of (hq.get 0 rfl) 1
  have k1 := free_of (hq.get 0 rfl) 1
  have F2 := Lib.hid (hq.set HNE.out 1 (.int .u64 ((evl 8 (est 8 ((xs, 0) : ESt))) : Nat)))
  clear hq F1
  go_wp2_with fail
  generalize World.setCell y2 _ _ = z2 at *
  refine F2.out.ends.mono ?_
  rintro r y ⟨rfl, t, hq⟩
  have HF := Lib.hid hq
  clear k0 k1
  have g0 := hq.get 1 rfl
  have x0 := cells_of (hq.get 0 rfl) 0
  have x1 := cells_of (hq.get 0 rfl) 1
  clear hq F2
  by_cases he : (est 8 (est 8 ((xs, 0) : ESt))) = ([], 0)
  · rw [if_pos he]
    go_wp2_with (refine wpList_store_blk rfl rfl g0 rfl rfl chain_size8 rfl rfl ?_; intro w11 q1 q2 q3; have c11 := cells_of q1)
    refine bodyPost_ret (by simp [results, Tryz.results81, go_sem, c11]; try rfl) rfl ?_
    rw [HQ.out]
    exact ⟨(evl 8 ((xs, 0) : ESt)), (evl 8 (est 8 ((xs, 0) : ESt))), 0, rfl, recGet_yes (fs := [⟨0, (evl 8 ((xs, 0) : ESt)), []⟩, ⟨0, (evl 8 (est 8 ((xs, 0) : ESt))), []⟩]) (show rdAll [0, 0] (xs, 0) = _ from he ▸ (by kernel_rfl : rdAll [0, 0] (xs, 0) = ([⟨0, (evl 8 ((xs, 0) : ESt)), []⟩, ⟨0, (evl 8 (est 8 ((xs, 0) : ESt))), []⟩], (est 8 (est 8 ((xs, 0) : ESt)))))), HF.out.mods.trans q2 (fun _ _ x => x) (fun i hi x => by omega)⟩
  · rw [if_neg he]
    go_wp2_with (refine wpList_store_blk rfl rfl g0 rfl rfl chain_size8 rfl rfl ?_; intro w11 q1 q2 q3; have c11 := cells_of q1)
    refine bodyPost_ret (by simp [results, Tryz.results81, go_sem, c11]; try rfl) rfl ?_
    rw [HQ.out]
    exact ⟨0, 0, 80, rfl, recGet_no (fs := [⟨0, (evl 8 ((xs, 0) : ESt)), []⟩, ⟨0, (evl 8 (est 8 ((xs, 0) : ESt))), []⟩]) (s := (est 8 (est 8 ((xs, 0) : ESt)))) (by kernel_rfl) he, HF.out.mods.trans q2 (fun _ _ x => x) (fun i hi x => by omega)⟩

theorem pool_size8 : (Tryz.prog.info? 30).map (·.size) = some 1 := by kernel_rfl

set_option maxHeartbeats 4000000 in
theorem pool_ref {w : World} {b : Value} {xs : List UInt8} (hb : RdB w b xs) (hl : xs.length ≤ 1000000) :
    Calls Tryz.prog 82 #[b] w (fun r w' => ∃ (u0 : Value) (l0 : List Nat) (e : Nat), r = .returned (.tuple #[.agg #[u0], .int .i64 e]) ∧ recGet [2] xs = ([⟨2, 0, l0⟩], e) ∧ Mods noB w w' ∧ RN w' u0 l0) := by
  obtain ⟨a, c, rfl, hlm⟩ := hb.1.form
  obtain ⟨Q, hQ⟩ : ∃ Q : Ending → World → Prop, Q = (fun r w' => ∃ (u0 : Value) (l0 : List Nat) (e : Nat), r = .returned (.tuple #[.agg #[u0], .int .i64 e]) ∧ recGet [2] xs = ([⟨2, 0, l0⟩], e) ∧ Mods noB w w' ∧ RN w' u0 l0) := ⟨_, rfl⟩
  show Calls _ _ _ _ (fun r w' => ∃ (u0 : Value) (l0 : List Nat) (e : Nat), r = .returned (.tuple #[.agg #[u0], .int .i64 e]) ∧ recGet [2] xs = ([⟨2, 0, l0⟩], e) ∧ Mods noB w w' ∧ RN w' u0 l0)
  rw [← hQ]
  have HQ := Lib.hid hQ
  have HL := Lib.hid (show ((xs, 0) : ESt).1.length ≤ 10000000000 from Nat.le_trans hl (Nat.le_of_ble_eq_true rfl))
  have F0 := Lib.hid (QF.start hb (.cells #[.slice none 0 0] 30 (0, 0)) _ rfl ⟨_, _, rfl⟩)
  clear hQ hb hl hlm
  go_enter Tryz.func82, Tryz.ntmps82
  go_wp2_with fail
  generalize World.alloc (World.alloc w _) _ = y0 at *
  refine (F0.out.dec HL.out).mono ?_
  rintro r y1 ⟨u0, rfl, hn, hq⟩
  obtain ⟨ad0, cp0, rfl, _⟩ := hn.form
  clear hn
  replace HL := Lib.hid (show ((natT ((xs, 0) : ESt)) : ESt).1.length ≤ 10000000000 from Nat.le_trans (natT_len _) HL.out)
  have F1 := Lib.hid (hq.alloc (.cells #[.slice ad0 ((natV ((xs, 0) : ESt))).length cp0] 30 (0, 0)))
  have HB := Lib.hid (show w.heap.size < y1.heap.size from by have := lt_of_heap (hq.get 0 rfl); simp only at this; omega)
  have hne : ∀ q ∈ [((w.heap.size, (.cells #[.slice none 0 0] 30 (0, 0))) : Nat × Obj)], q.1 ≠ y1.heap.size := by intro q hq; simp at hq; subst hq; have := HB.out; simp only; omega
  have HNE := Lib.hid hne
  clear hq hne F0
  go_wp2_with fail
  generalize World.alloc y1 _ = z1 at *
  refine F1.out.ends.mono ?_
  rintro r y ⟨rfl, t, hq⟩
  have HF := Lib.hid hq
  skip
  have g0 := hq.get 1 rfl
  have x0 := cells_of (hq.get 0 rfl) 0
  clear hq F1
  by_cases he : (natT ((xs, 0) : ESt)) = ([], 0)
  · rw [if_pos he]
    go_wp2_with (refine wpList_store_blk rfl rfl g0 rfl rfl pool_size8 rfl rfl ?_; intro w11 q1 q2 q3; have c11 := cells_of q1)
    refine bodyPost_ret (by simp [results, Tryz.results82, go_sem, c11]; try rfl) rfl ?_
    rw [HQ.out]
    exact ⟨_, (natV ((xs, 0) : ESt)), 0, rfl, recGet_yes (fs := [⟨2, 0, (natV ((xs, 0) : ESt))⟩]) (show rdAll [2] (xs, 0) = _ from he ▸ (by kernel_rfl : rdAll [2] (xs, 0) = ([⟨2, 0, (natV ((xs, 0) : ESt))⟩], (natT ((xs, 0) : ESt))))), HF.out.mods.trans q2 (fun _ _ x => x) (fun i hi x => by omega), rn_res8 (HF.out.ds (.slice ad0 ((natV ((xs, 0) : ESt))).length cp0, (natV ((xs, 0) : ESt))) (by simp)).1 (HF.out.ds (.slice ad0 ((natV ((xs, 0) : ESt))).length cp0, (natV ((xs, 0) : ESt))) (by simp)).2.1 ((HF.out.ds (.slice ad0 ((natV ((xs, 0) : ESt))).length cp0, (natV ((xs, 0) : ESt))) (by simp)).2.2.imp id (fun h k hk => (h k hk).2.2 _ (List.mem_of_getElem? (i := 1) rfl))) q2⟩
  · rw [if_neg he]
    go_wp2_with (refine wpList_store_blk rfl rfl g0 rfl rfl pool_size8 rfl rfl ?_; intro w11 q1 q2 q3; have c11 := cells_of q1)
    refine bodyPost_ret (by simp [results, Tryz.results82, go_sem, c11]; try rfl) rfl ?_
    rw [HQ.out]
    exact ⟨_, [], 80, rfl, recGet_no (fs := [⟨2, 0, (natV ((xs, 0) : ESt))⟩]) (s := (natT ((xs, 0) : ESt))) (by kernel_rfl) he, HF.out.mods.trans q2 (fun _ _ x => x) (fun i hi x => by omega), RdM.nil _ _⟩

theorem account_size8 : (Tryz.prog.info? 32).map (·.size) = some 2 := by kernel_rfl

set_option maxHeartbeats 4000000 in
theorem account_ref {w : World} {b : Value} {xs : List UInt8} (hb : RdB w b xs) (hl : xs.length ≤ 1000000) :
    Calls Tryz.prog 83 #[b] w (fun r w' => ∃ (n0 n1 : Nat) (e : Nat), r = .returned (.tuple #[.agg #[.int .u64 (n0 : Nat), .int .u64 (n1 : Nat)], .int .i64 e]) ∧ recGet [0, 0] xs = ([⟨0, n0, []⟩, ⟨0, n1, []⟩], e) ∧ Mods noB w w') := by
  obtain ⟨a, c, rfl, hlm⟩ := hb.1.form
  obtain ⟨Q, hQ⟩ : ∃ Q : Ending → World → Prop, Q = (fun r w' => ∃ (n0 n1 : Nat) (e : Nat), r = .returned (.tuple #[.agg #[.int .u64 (n0 : Nat), .int .u64 (n1 : Nat)], .int .i64 e]) ∧ recGet [0, 0] xs = ([⟨0, n0, []⟩, ⟨0, n1, []⟩], e) ∧ Mods noB w w') := ⟨_, rfl⟩
  show Calls _ _ _ _ (fun r w' => ∃ (n0 n1 : Nat) (e : Nat), r = .returned (.tuple #[.agg #[.int .u64 (n0 : Nat), .int .u64 (n1 : Nat)], .int .i64 e]) ∧ recGet [0, 0] xs = ([⟨0, n0, []⟩, ⟨0, n1, []⟩], e) ∧ Mods noB w w')
  rw [← hQ]
  have HQ := Lib.hid hQ
  have HL := Lib.hid (show ((xs, 0) : ESt).1.length ≤ 10000000000 from Nat.le_trans hl (Nat.le_of_ble_eq_true rfl))
  have F0 := Lib.hid (QF.start hb (.cells #[.int .u64 0, .int .u64 0] 32 (0, 0)) _ rfl ⟨_, _, rfl⟩)
  clear hQ hb hl hlm
  go_enter Tryz.func83, Tryz.ntmps83
  go_wp2_with fail
  generalize World.alloc (World.alloc w _) _ = y0 at *
  refine F0.out.u.mono ?_
  rintro r y1 ⟨rfl, hq⟩
  replace HL := Lib.hid (show ((est 8 ((xs, 0) : ESt)) : ESt).1.length ≤ 10000000000 from Nat.le_trans (est_len 8 _) HL.out)
  have F1 := Lib.hid (hq.alloc (.cells #[.int .u64 ((evl 8 ((xs, 0) : ESt)) : Nat), .int .u64 0] 32 (0, 0)))
  have HB := Lib.hid (show w.heap.size < y1.heap.size from by have := lt_of_heap (hq.get 0 rfl); simp only at this; omega)
  have hne : ∀ q ∈ [((w.heap.size, (.cells #[.int .u64 0, .int .u64 0] 32 (0, 0))) : Nat × Obj)], q.1 ≠ y1.heap.size := by intro q hq; simp at hq; subst hq; have := HB.out; simp only; omega
  have HNE := Lib.hid hne
  clear hq hne F0
  go_wp2_with fail
  generalize World.alloc y1 _ = z1 at *
  refine F1.out.u.mono ?_
  rintro r y2 ⟨rfl, hq⟩
  replace HL := Lib.hid (show ((est 8 (est 8 ((xs, 0) : ESt))) : ESt).1.length ≤ 10000000000 from Nat.le_trans (est_len 8 _) HL.out)
  have k0 := cells_of (hq.get 0 rfl) 1
  have k1 := free_of (hq.get 0 rfl) 1
  have F2 := Lib.hid (hq.set HNE.out 1 (.int .u64 ((evl 8 (est 8 ((xs, 0) : ESt))) : Nat)))
  clear hq F1
  go_wp2_with fail
  generalize World.setCell y2 _ _ = z2 at *
  refine F2.out.ends.mono ?_
  rintro r y ⟨rfl, t, hq⟩
  have HF := Lib.hid hq
  clear k0 k1
  have g0 := hq.get 1 rfl
  have x0 := cells_of (hq.get 0 rfl) 0
  have x1 := cells_of (hq.get 0 rfl) 1
  clear hq F2
  by_cases he : (est 8 (est 8 ((xs, 0) : ESt))) = ([], 0)
  · rw [if_pos he]
    go_wp2_with (refine wpList_store_blk rfl rfl g0 rfl rfl account_size8 rfl rfl ?_; intro w11 q1 q2 q3; have c11 := cells_of q1)
    refine bodyPost_ret (by simp [results, Tryz.results83, go_sem, c11]; try rfl) rfl ?_
    rw [HQ.out]
    exact ⟨(evl 8 ((xs, 0) : ESt)), (evl 8 (est 8 ((xs, 0) : ESt))), 0, rfl, recGet_yes (fs := [⟨0, (evl 8 ((xs, 0) : ESt)), []⟩, ⟨0, (evl 8 (est 8 ((xs, 0) : ESt))), []⟩]) (show rdAll [0, 0] (xs, 0) = _ from he ▸ (by kernel_rfl : rdAll [0, 0] (xs, 0) = ([⟨0, (evl 8 ((xs, 0) : ESt)), []⟩, ⟨0, (evl 8 (est 8 ((xs, 0) : ESt))), []⟩], (est 8 (est 8 ((xs, 0) : ESt)))))), HF.out.mods.trans q2 (fun _ _ x => x) (fun i hi x => by omega)⟩
  · rw [if_neg he]
    go_wp2_with (refine wpList_store_blk rfl rfl g0 rfl rfl account_size8 rfl rfl ?_; intro w11 q1 q2 q3; have c11 := cells_of q1)
    refine bodyPost_ret (by simp [results, Tryz.results83, go_sem, c11]; try rfl) rfl ?_
    rw [HQ.out]
    exact ⟨0, 0, 80, rfl, recGet_no (fs := [⟨0, (evl 8 ((xs, 0) : ESt)), []⟩, ⟨0, (evl 8 (est 8 ((xs, 0) : ESt))), []⟩]) (s := (est 8 (est 8 ((xs, 0) : ESt)))) (by kernel_rfl) he, HF.out.mods.trans q2 (fun _ _ x => x) (fun i hi x => by omega)⟩

theorem cut_size8 : (Tryz.prog.info? 40).map (·.size) = some 2 := by kernel_rfl

set_option maxHeartbeats 4000000 in
theorem cut_ref {w : World} {b : Value} {xs : List UInt8} (hb : RdB w b xs) (hl : xs.length ≤ 1000000) :
    Calls Tryz.prog 87 #[b] w (fun r w' => ∃ (n0 n1 : Nat) (e : Nat), r = .returned (.tuple #[.agg #[.int .u64 (n0 : Nat), .int .u64 (n1 : Nat)], .int .i64 e]) ∧ recGet [0, 0] xs = ([⟨0, n0, []⟩, ⟨0, n1, []⟩], e) ∧ Mods noB w w') := by
  obtain ⟨a, c, rfl, hlm⟩ := hb.1.form
  obtain ⟨Q, hQ⟩ : ∃ Q : Ending → World → Prop, Q = (fun r w' => ∃ (n0 n1 : Nat) (e : Nat), r = .returned (.tuple #[.agg #[.int .u64 (n0 : Nat), .int .u64 (n1 : Nat)], .int .i64 e]) ∧ recGet [0, 0] xs = ([⟨0, n0, []⟩, ⟨0, n1, []⟩], e) ∧ Mods noB w w') := ⟨_, rfl⟩
  show Calls _ _ _ _ (fun r w' => ∃ (n0 n1 : Nat) (e : Nat), r = .returned (.tuple #[.agg #[.int .u64 (n0 : Nat), .int .u64 (n1 : Nat)], .int .i64 e]) ∧ recGet [0, 0] xs = ([⟨0, n0, []⟩, ⟨0, n1, []⟩], e) ∧ Mods noB w w')
  rw [← hQ]
  have HQ := Lib.hid hQ
  have HL := Lib.hid (show ((xs, 0) : ESt).1.length ≤ 10000000000 from Nat.le_trans hl (Nat.le_of_ble_eq_true rfl))
  have F0 := Lib.hid (QF.start hb (.cells #[.int .u64 0, .int .u64 0] 40 (0, 0)) _ rfl ⟨_, _, rfl⟩)
  clear hQ hb hl hlm
  go_enter Tryz.func87, Tryz.ntmps87
  go_wp2_with fail
  generalize World.alloc (World.alloc w _) _ = y0 at *
  refine F0.out.u.mono ?_
  rintro r y1 ⟨rfl, hq⟩
  replace HL := Lib.hid (show ((est 8 ((xs, 0) : ESt)) : ESt).1.length ≤ 10000000000 from Nat.le_trans (est_len 8 _) HL.out)
  have F1 := Lib.hid (hq.alloc (.cells #[.int .u64 ((evl 8 ((xs, 0) : ESt)) : Nat), .int .u64 0] 40 (0, 0)))
  have HB := Lib.hid (show w.heap.size < y1.heap.size from by have := lt_of_heap (hq.get 0 rfl); simp only at this; omega)
  have hne : ∀ q ∈ [((w.heap.size, (.cells #[.int .u64 0, .int .u64 0] 40 (0, 0))) : Nat × Obj)], q.1 ≠ y1.heap.size := by intro q hq; simp at hq; subst hq; have := HB.out; simp only; omega
  have HNE := Lib.hid hne
  clear hq hne F0
  go_wp2_with fail
  generalize World.alloc y1 _ = z1 at *
  refine F1.out.u.mono ?_
  rintro r y2 ⟨rfl, hq⟩
  replace HL := Lib.hid (show ((est 8 (est 8 ((xs, 0) : ESt))) : ESt).1.length ≤ 10000000000 from Nat.le_trans (est_len 8 _) HL.out)
  have k0 := cells_of (hq.get 0 rfl) 1
  have k1 := free_of (hq.get 0 rfl) 1
  have F2 := Lib.hid (hq.set HNE.out 1 (.int .u64 ((evl 8 (est 8 ((xs, 0) : ESt))) : Nat)))
  clear hq F1
  go_wp2_with fail
  generalize World.setCell y2 _ _ = z2 at *
  refine F2.out.ends.mono ?_
  rintro r y ⟨rfl, t, hq⟩
  have HF := Lib.hid hq
  clear k0 k1
  have g0 := hq.get 1 rfl
  have x0 := cells_of (hq.get 0 rfl) 0
  have x1 := cells_of (hq.get 0 rfl) 1
  clear hq F2
  by_cases he : (est 8 (est 8 ((xs, 0) : ESt))) = ([], 0)
  · rw [if_pos he]
    go_wp2_with (refine wpList_store_blk rfl rfl g0 rfl rfl cut_size8 rfl rfl ?_; intro w11 q1 q2 q3; have c11 := cells_of q1)
    refine bodyPost_ret (by simp [results, Tryz.results87, go_sem, c11]; try rfl) rfl ?_
    rw [HQ.out]
    exact ⟨(evl 8 ((xs, 0) : ESt)), (evl 8 (est 8 ((xs, 0) : ESt))), 0, rfl, recGet_yes (fs := [⟨0, (evl 8 ((xs, 0) : ESt)), []⟩, ⟨0, (evl 8 (est 8 ((xs, 0) : ESt))), []⟩]) (show rdAll [0, 0] (xs, 0) = _ from he ▸ (by kernel_rfl : rdAll [0, 0] (xs, 0) = ([⟨0, (evl 8 ((xs, 0) : ESt)), []⟩, ⟨0, (evl 8 (est 8 ((xs, 0) : ESt))), []⟩], (est 8 (est 8 ((xs, 0) : ESt)))))), HF.out.mods.trans q2 (fun _ _ x => x) (fun i hi x => by omega)⟩
  · rw [if_neg he]
    go_wp2_with (refine wpList_store_blk rfl rfl g0 rfl rfl cut_size8 rfl rfl ?_; intro w11 q1 q2 q3; have c11 := cells_of q1)
    refine bodyPost_ret (by simp [results, Tryz.results87, go_sem, c11]; try rfl) rfl ?_
    rw [HQ.out]
    exact ⟨0, 0, 80, rfl, recGet_no (fs := [⟨0, (evl 8 ((xs, 0) : ESt)), []⟩, ⟨0, (evl 8 (est 8 ((xs, 0) : ESt))), []⟩]) (s := (est 8 (est 8 ((xs, 0) : ESt)))) (by kernel_rfl) he, HF.out.mods.trans q2 (fun _ _ x => x) (fun i hi x => by omega)⟩

set_option maxHeartbeats 4000000 in
theorem one_ref {w : World} {b : Value} {xs : List UInt8} (hb : RdB w b xs) (hl : xs.length ≤ 1000000) :
    Calls Tryz.prog 90 #[b] w (fun r w' => ∃ (n0 : Nat) (e : Nat), r = .returned (.tuple #[.int .u64 (n0 : Nat), .int .i64 e]) ∧ recGet [0] xs = ([⟨0, n0, []⟩], e) ∧ Mods noB w w') := by
  obtain ⟨a, c, rfl, hlm⟩ := hb.1.form
  obtain ⟨Q, hQ⟩ : ∃ Q : Ending → World → Prop, Q = (fun r w' => ∃ (n0 : Nat) (e : Nat), r = .returned (.tuple #[.int .u64 (n0 : Nat), .int .i64 e]) ∧ recGet [0] xs = ([⟨0, n0, []⟩], e) ∧ Mods noB w w') := ⟨_, rfl⟩
  show Calls _ _ _ _ (fun r w' => ∃ (n0 : Nat) (e : Nat), r = .returned (.tuple #[.int .u64 (n0 : Nat), .int .i64 e]) ∧ recGet [0] xs = ([⟨0, n0, []⟩], e) ∧ Mods noB w w')
  rw [← hQ]
  have HQ := Lib.hid hQ
  have HL := Lib.hid (show ((xs, 0) : ESt).1.length ≤ 10000000000 from Nat.le_trans hl (Nat.le_of_ble_eq_true rfl))
  have F0 := Lib.hid (QF.start1 hb _ rfl)
  clear hQ hb hl hlm
  go_enter Tryz.func90, Tryz.ntmps90
  go_wp2_with fail
  generalize World.alloc w _ = y0 at *
  refine F0.out.u.mono ?_
  rintro r y1 ⟨rfl, hq⟩
  replace HL := Lib.hid (show ((est 8 ((xs, 0) : ESt)) : ESt).1.length ≤ 10000000000 from Nat.le_trans (est_len 8 _) HL.out)
  have F1 := Lib.hid hq
  clear hq F0
  go_wp2_with fail
  refine F1.out.ends.mono ?_
  rintro r y ⟨rfl, t, hq⟩
  have HF := Lib.hid hq
  clear hq F1
  by_cases he : (est 8 ((xs, 0) : ESt)) = ([], 0)
  · rw [if_pos he]
    go_wp2
    rw [HQ.out]
    exact ⟨(evl 8 ((xs, 0) : ESt)), 0, rfl, recGet_yes (fs := [⟨0, (evl 8 ((xs, 0) : ESt)), []⟩]) (show rdAll [0] (xs, 0) = _ from he ▸ (by kernel_rfl : rdAll [0] (xs, 0) = ([⟨0, (evl 8 ((xs, 0) : ESt)), []⟩], (est 8 ((xs, 0) : ESt))))), HF.out.mods⟩
  · rw [if_neg he]
    go_wp2
    rw [HQ.out]
    exact ⟨0, 80, rfl, recGet_no (fs := [⟨0, (evl 8 ((xs, 0) : ESt)), []⟩]) (s := (est 8 ((xs, 0) : ESt))) (by kernel_rfl) he, HF.out.mods⟩

end Go.Proofs.YtnkbbclcileleaaGreat

/- gleanref8: readers (printed by gen_rec.py). -/
namespace Go.Proofs.YtnkbbclcileleaaGreat
open Go.Gl Go.RowKit
set_option linter.unusedVariables false
set_option maxRecDepth 100000

theorem val_size8 : (Tryz.prog.info? 34).map (·.size) = some 10 := by kernel_rfl

set_option maxHeartbeats 4000000 in
theorem val_ref {w : World} {b : Value} {xs : List UInt8} (hb : RdB w b xs) (hl : xs.length ≤ 1000000) :
    Calls Tryz.prog 84 #[b] w (fun r w' => ∃ (n0 n1 n4 n6 : Nat) (b3 b5 : Bool) (u2 u7 u8 u9 : Value) (l2 l7 l8 l9 : List Nat) (e : Nat), r = .returned (.tuple #[.agg #[.int .u64 (n0 : Nat), .int .u64 (n1 : Nat), u2, .bool b3, .int .u64 (n4 : Nat), .bool b5, .int .u64 (n6 : Nat), u7, u8, u9], .int .i64 e]) ∧ recGet [0, 0, 2, 1, 0, 1, 0, 2, 2, 2] xs = ([⟨0, n0, []⟩, ⟨0, n1, []⟩, ⟨2, 0, l2⟩, ⟨1, if b3 then 1 else 0, []⟩, ⟨0, n4, []⟩, ⟨1, if b5 then 1 else 0, []⟩, ⟨0, n6, []⟩, ⟨2, 0, l7⟩, ⟨2, 0, l8⟩, ⟨2, 0, l9⟩], e) ∧ Mods noB w w' ∧ RN w' u2 l2 ∧ RN w' u7 l7 ∧ RN w' u8 l8 ∧ RN w' u9 l9) := by
  obtain ⟨a, c, rfl, hlm⟩ := hb.1.form
  obtain ⟨Q, hQ⟩ : ∃ Q : Ending → World → Prop, Q = (fun r w' => ∃ (n0 n1 n4 n6 : Nat) (b3 b5 : Bool) (u2 u7 u8 u9 : Value) (l2 l7 l8 l9 : List Nat) (e : Nat), r = .returned (.tuple #[.agg #[.int .u64 (n0 : Nat), .int .u64 (n1 : Nat), u2, .bool b3, .int .u64 (n4 : Nat), .bool b5, .int .u64 (n6 : Nat), u7, u8, u9], .int .i64 e]) ∧ recGet [0, 0, 2, 1, 0, 1, 0, 2, 2, 2] xs = ([⟨0, n0, []⟩, ⟨0, n1, []⟩, ⟨2, 0, l2⟩, ⟨1, if b3 then 1 else 0, []⟩, ⟨0, n4, []⟩, ⟨1, if b5 then 1 else 0, []⟩, ⟨0, n6, []⟩, ⟨2, 0, l7⟩, ⟨2, 0, l8⟩, ⟨2, 0, l9⟩], e) ∧ Mods noB w w' ∧ RN w' u2 l2 ∧ RN w' u7 l7 ∧ RN w' u8 l8 ∧ RN w' u9 l9) := ⟨_, rfl⟩
  show Calls _ _ _ _ (fun r w' => ∃ (n0 n1 n4 n6 : Nat) (b3 b5 : Bool) (u2 u7 u8 u9 : Value) (l2 l7 l8 l9 : List Nat) (e : Nat), r = .returned (.tuple #[.agg #[.int .u64 (n0 : Nat), .int .u64 (n1 : Nat), u2, .bool b3, .int .u64 (n4 : Nat), .bool b5, .int .u64 (n6 : Nat), u7, u8, u9], .int .i64 e]) ∧ recGet [0, 0, 2, 1, 0, 1, 0, 2, 2, 2] xs = ([⟨0, n0, []⟩, ⟨0, n1, []⟩, ⟨2, 0, l2⟩, ⟨1, if b3 then 1 else 0, []⟩, ⟨0, n4, []⟩, ⟨1, if b5 then 1 else 0, []⟩, ⟨0, n6, []⟩, ⟨2, 0, l7⟩, ⟨2, 0, l8⟩, ⟨2, 0, l9⟩], e) ∧ Mods noB w w' ∧ RN w' u2 l2 ∧ RN w' u7 l7 ∧ RN w' u8 l8 ∧ RN w' u9 l9)
  rw [← hQ]
  have HQ := Lib.hid hQ
  have HL := Lib.hid (show ((xs, 0) : ESt).1.length ≤ 10000000000 from Nat.le_trans hl (Nat.le_of_ble_eq_true rfl))
  have F0 := Lib.hid (QF.start hb (.cells #[.int .u64 0, .int .u64 0, .slice none 0 0, .bool false, .int .u64 0, .bool false, .int .u64 0, .slice none 0 0, .slice none 0 0, .slice none 0 0] 34 (0, 0)) _ rfl ⟨_, _, rfl⟩)
  clear hQ hb hl hlm
  go_enter Tryz.func84, Tryz.ntmps84
  go_wp2_with fail
  have hbs : ((w.alloc (.cells #[.int .u64 0, .int .u64 0, .slice none 0 0, .bool false, .int .u64 0, .bool false, .int .u64 0, .slice none 0 0, .slice none 0 0, .slice none 0 0] 34 (0, 0))).alloc (.cells #[.slice a xs.length c, .int .i64 0] 187)).heap.size = w.heap.size + 1 + 1 := by simp
  replace F0 := Lib.hid (F0.out.alloc (.cells #[.int .u64 0, .int .u64 0, .slice none 0 0, .bool false, .int .u64 0, .bool false, .int .u64 0, .slice none 0 0, .slice none 0 0, .slice none 0 0] 34 (0, 0)))
  rw [hbs] at F0
  clear hbs
  generalize World.alloc (World.alloc (World.alloc w _) _) _ = y0 at *
  refine F0.out.u.mono ?_
  rintro r y1 ⟨rfl, hq⟩
  replace HL := Lib.hid (show ((est 8 ((xs, 0) : ESt)) : ESt).1.length ≤ 10000000000 from Nat.le_trans (est_len 8 _) HL.out)
  have k0 := cells_of (hq.get 0 rfl) 0
  have k1 := free_of (hq.get 0 rfl) 0
  have F1 := Lib.hid (hq.set (by intro q hq; simp at hq; subst hq; simp; try omega) 0 (.int .u64 ((evl 8 ((xs, 0) : ESt)) : Nat)))
  clear hq F0
  go_wp2_with fail
  generalize World.setCell y1 _ _ = z1 at *
  refine F1.out.u.mono ?_
  rintro r y2 ⟨rfl, hq⟩
  replace HL := Lib.hid (show ((est 8 (est 8 ((xs, 0) : ESt))) : ESt).1.length ≤ 10000000000 from Nat.le_trans (est_len 8 _) HL.out)
  clear k0 k1
  have k0 := cells_of (hq.get 0 rfl) 1
  have k1 := free_of (hq.get 0 rfl) 1
  have F2 := Lib.hid (hq.set (by intro q hq; simp at hq; subst hq; simp; try omega) 1 (.int .u64 ((evl 8 (est 8 ((xs, 0) : ESt))) : Nat)))
  clear hq F1
  go_wp2_with fail
  generalize World.setCell y2 _ _ = z2 at *
  refine (F2.out.dec HL.out).mono ?_
  rintro r y3 ⟨u2, rfl, hn, hq⟩
  obtain ⟨ad2, cp2, rfl, _⟩ := hn.form
  clear hn
  replace HL := Lib.hid (show ((natT (est 8 (est 8 ((xs, 0) : ESt)))) : ESt).1.length ≤ 10000000000 from Nat.le_trans (natT_len _) HL.out)
  clear k0 k1
  have k0 := cells_of (hq.get 0 rfl) 2
  have k1 := free_of (hq.get 0 rfl) 2
  have F3 := Lib.hid (hq.set (by intro q hq; simp at hq; subst hq; simp; try omega) 2 (.slice ad2 ((natV (est 8 (est 8 ((xs, 0) : ESt))))).length cp2))
  clear hq F2
  go_wp2_with fail
  generalize World.setCell y3 _ _ = z3 at *
  refine F3.out.bool.mono ?_
  rintro r y4 ⟨rfl, hq⟩
  replace HL := Lib.hid (show ((boolS (natT (est 8 (est 8 ((xs, 0) : ESt))))) : ESt).1.length ≤ 10000000000 from Nat.le_trans (boolS_len _) HL.out)
  clear k0 k1
  have k0 := cells_of (hq.get 0 rfl) 3
  have k1 := free_of (hq.get 0 rfl) 3
  have F4 := Lib.hid (hq.set (by intro q hq; simp at hq; subst hq; simp; try omega) 3 (.bool (decide (evl 1 (natT (est 8 (est 8 ((xs, 0) : ESt)))) = 1))))
  clear hq F3
  go_wp2_with fail
  generalize World.setCell y4 _ _ = z4 at *
  refine F4.out.u.mono ?_
  rintro r y5 ⟨rfl, hq⟩
  replace HL := Lib.hid (show ((est 8 (boolS (natT (est 8 (est 8 ((xs, 0) : ESt)))))) : ESt).1.length ≤ 10000000000 from Nat.le_trans (est_len 8 _) HL.out)
  clear k0 k1
  have k0 := cells_of (hq.get 0 rfl) 4
  have k1 := free_of (hq.get 0 rfl) 4
  have F5 := Lib.hid (hq.set (by intro q hq; simp at hq; subst hq; simp; try omega) 4 (.int .u64 ((evl 8 (boolS (natT (est 8 (est 8 ((xs, 0) : ESt)))))) : Nat)))
  clear hq F4
  go_wp2_with fail
  generalize World.setCell y5 _ _ = z5 at *
  refine F5.out.bool.mono ?_
  rintro r y6 ⟨rfl, hq⟩
  replace HL := Lib.hid (show ((boolS (est 8 (boolS (natT (est 8 (est 8 ((xs, 0) : ESt))))))) : ESt).1.length ≤ 10000000000 from Nat.le_trans (boolS_len _) HL.out)
  clear k0 k1
  have k0 := cells_of (hq.get 0 rfl) 5
  have k1 := free_of (hq.get 0 rfl) 5
  have F6 := Lib.hid (hq.set (by intro q hq; simp at hq; subst hq; simp; try omega) 5 (.bool (decide (evl 1 (est 8 (boolS (natT (est 8 (est 8 ((xs, 0) : ESt)))))) = 1))))
  clear hq F5
  go_wp2_with fail
  generalize World.setCell y6 _ _ = z6 at *
  refine F6.out.u.mono ?_
  rintro r y7 ⟨rfl, hq⟩
  replace HL := Lib.hid (show ((est 8 (boolS (est 8 (boolS (natT (est 8 (est 8 ((xs, 0) : ESt)))))))) : ESt).1.length ≤ 10000000000 from Nat.le_trans (est_len 8 _) HL.out)
  clear k0 k1
  have k0 := cells_of (hq.get 0 rfl) 6
  have k1 := free_of (hq.get 0 rfl) 6
  have F7 := Lib.hid (hq.set (by intro q hq; simp at hq; subst hq; simp; try omega) 6 (.int .u64 ((evl 8 (boolS (est 8 (boolS (natT (est 8 (est 8 ((xs, 0) : ESt)))))))) : Nat)))
  clear hq F6
  go_wp2_with fail
  generalize World.setCell y7 _ _ = z7 at *
  refine (F7.out.dec HL.out).mono ?_
  rintro r y8 ⟨u7, rfl, hn, hq⟩
  obtain ⟨ad7, cp7, rfl, _⟩ := hn.form
  clear hn
  replace HL := Lib.hid (show ((natT (est 8 (boolS (est 8 (boolS (natT (est 8 (est 8 ((xs, 0) : ESt))))))))) : ESt).1.length ≤ 10000000000 from Nat.le_trans (natT_len _) HL.out)
  clear k0 k1
  have k0 := cells_of (hq.get 0 rfl) 7
  have k1 := free_of (hq.get 0 rfl) 7
  have F8 := Lib.hid (hq.set (by intro q hq; simp at hq; subst hq; simp; try omega) 7 (.slice ad7 ((natV (est 8 (boolS (est 8 (boolS (natT (est 8 (est 8 ((xs, 0) : ESt)))))))))).length cp7))
  clear hq F7
  go_wp2_with fail
  generalize World.setCell y8 _ _ = z8 at *
  refine (F8.out.dec HL.out).mono ?_
  rintro r y9 ⟨u8, rfl, hn, hq⟩
  obtain ⟨ad8, cp8, rfl, _⟩ := hn.form
  clear hn
  replace HL := Lib.hid (show ((natT (natT (est 8 (boolS (est 8 (boolS (natT (est 8 (est 8 ((xs, 0) : ESt)))))))))) : ESt).1.length ≤ 10000000000 from Nat.le_trans (natT_len _) HL.out)
  clear k0 k1
  have k0 := cells_of (hq.get 0 rfl) 8
  have k1 := free_of (hq.get 0 rfl) 8
  have F9 := Lib.hid (hq.set (by intro q hq; simp at hq; subst hq; simp; try omega) 8 (.slice ad8 ((natV (natT (est 8 (boolS (est 8 (boolS (natT (est 8 (est 8 ((xs, 0) : ESt))))))))))).length cp8))
  clear hq F8
  go_wp2_with fail
  generalize World.setCell y9 _ _ = z9 at *
  refine (F9.out.dec HL.out).mono ?_
  rintro r y10 ⟨u9, rfl, hn, hq⟩
  obtain ⟨ad9, cp9, rfl, _⟩ := hn.form
  clear hn
  replace HL := Lib.hid (show ((natT (natT (natT (est 8 (boolS (est 8 (boolS (natT (est 8 (est 8 ((xs, 0) : ESt))))))))))) : ESt).1.length ≤ 10000000000 from Nat.le_trans (natT_len _) HL.out)
  clear k0 k1
  have k0 := cells_of (hq.get 0 rfl) 9
  have k1 := free_of (hq.get 0 rfl) 9
  have F10 := Lib.hid (hq.set (by intro q hq; simp at hq; subst hq; simp; try omega) 9 (.slice ad9 ((natV (natT (natT (est 8 (boolS (est 8 (boolS (natT (est 8 (est 8 ((xs, 0) : ESt)))))))))))).length cp9))
  clear hq F9
  go_wp2_with fail
  generalize World.setCell y10 _ _ = z10 at *
  refine F10.out.ends.mono ?_
  rintro r y ⟨rfl, t, hq⟩
  have HF := Lib.hid hq
  clear k0 k1
  have g0 := hq.get 1 rfl
  have x0 := cells_of (hq.get 0 rfl) 0
  have x1 := cells_of (hq.get 0 rfl) 1
  have x2 := cells_of (hq.get 0 rfl) 2
  have x3 := cells_of (hq.get 0 rfl) 3
  have x4 := cells_of (hq.get 0 rfl) 4
  have x5 := cells_of (hq.get 0 rfl) 5
  have x6 := cells_of (hq.get 0 rfl) 6
  have x7 := cells_of (hq.get 0 rfl) 7
  have x8 := cells_of (hq.get 0 rfl) 8
  have x9 := cells_of (hq.get 0 rfl) 9
  clear hq F10
  by_cases he : (natT (natT (natT (est 8 (boolS (est 8 (boolS (natT (est 8 (est 8 ((xs, 0) : ESt))))))))))) = ([], 0)
  · rw [if_pos he]
    go_wp2_with (refine wpList_store_blk rfl rfl g0 rfl rfl val_size8 rfl rfl ?_; intro w11 q1 q2 q3; have c11 := cells_of q1)
    refine bodyPost_ret (by simp [results, Tryz.results84, go_sem, c11]; try rfl) rfl ?_
    rw [HQ.out]
    exact ⟨(evl 8 ((xs, 0) : ESt)), (evl 8 (est 8 ((xs, 0) : ESt))), (evl 8 (boolS (natT (est 8 (est 8 ((xs, 0) : ESt)))))), (evl 8 (boolS (est 8 (boolS (natT (est 8 (est 8 ((xs, 0) : ESt)))))))), (decide (evl 1 (natT (est 8 (est 8 ((xs, 0) : ESt)))) = 1)), (decide (evl 1 (est 8 (boolS (natT (est 8 (est 8 ((xs, 0) : ESt)))))) = 1)), _, _, _, _, (natV (est 8 (est 8 ((xs, 0) : ESt)))), (natV (est 8 (boolS (est 8 (boolS (natT (est 8 (est 8 ((xs, 0) : ESt))))))))), (natV (natT (est 8 (boolS (est 8 (boolS (natT (est 8 (est 8 ((xs, 0) : ESt)))))))))), (natV (natT (natT (est 8 (boolS (est 8 (boolS (natT (est 8 (est 8 ((xs, 0) : ESt))))))))))), 0, rfl, recGet_yes (fs := [⟨0, (evl 8 ((xs, 0) : ESt)), []⟩, ⟨0, (evl 8 (est 8 ((xs, 0) : ESt))), []⟩, ⟨2, 0, (natV (est 8 (est 8 ((xs, 0) : ESt))))⟩, ⟨1, if (decide (evl 1 (natT (est 8 (est 8 ((xs, 0) : ESt)))) = 1)) then 1 else 0, []⟩, ⟨0, (evl 8 (boolS (natT (est 8 (est 8 ((xs, 0) : ESt)))))), []⟩, ⟨1, if (decide (evl 1 (est 8 (boolS (natT (est 8 (est 8 ((xs, 0) : ESt)))))) = 1)) then 1 else 0, []⟩, ⟨0, (evl 8 (boolS (est 8 (boolS (natT (est 8 (est 8 ((xs, 0) : ESt)))))))), []⟩, ⟨2, 0, (natV (est 8 (boolS (est 8 (boolS (natT (est 8 (est 8 ((xs, 0) : ESt)))))))))⟩, ⟨2, 0, (natV (natT (est 8 (boolS (est 8 (boolS (natT (est 8 (est 8 ((xs, 0) : ESt))))))))))⟩, ⟨2, 0, (natV (natT (natT (est 8 (boolS (est 8 (boolS (natT (est 8 (est 8 ((xs, 0) : ESt)))))))))))⟩]) (show rdAll [0, 0, 2, 1, 0, 1, 0, 2, 2, 2] (xs, 0) = _ from he ▸ (by kernel_rfl : rdAll [0, 0, 2, 1, 0, 1, 0, 2, 2, 2] (xs, 0) = ([⟨0, (evl 8 ((xs, 0) : ESt)), []⟩, ⟨0, (evl 8 (est 8 ((xs, 0) : ESt))), []⟩, ⟨2, 0, (natV (est 8 (est 8 ((xs, 0) : ESt))))⟩, ⟨1, if (decide (evl 1 (natT (est 8 (est 8 ((xs, 0) : ESt)))) = 1)) then 1 else 0, []⟩, ⟨0, (evl 8 (boolS (natT (est 8 (est 8 ((xs, 0) : ESt)))))), []⟩, ⟨1, if (decide (evl 1 (est 8 (boolS (natT (est 8 (est 8 ((xs, 0) : ESt)))))) = 1)) then 1 else 0, []⟩, ⟨0, (evl 8 (boolS (est 8 (boolS (natT (est 8 (est 8 ((xs, 0) : ESt)))))))), []⟩, ⟨2, 0, (natV (est 8 (boolS (est 8 (boolS (natT (est 8 (est 8 ((xs, 0) : ESt)))))))))⟩, ⟨2, 0, (natV (natT (est 8 (boolS (est 8 (boolS (natT (est 8 (est 8 ((xs, 0) : ESt))))))))))⟩, ⟨2, 0, (natV (natT (natT (est 8 (boolS (est 8 (boolS (natT (est 8 (est 8 ((xs, 0) : ESt)))))))))))⟩], (natT (natT (natT (est 8 (boolS (est 8 (boolS (natT (est 8 (est 8 ((xs, 0) : ESt)))))))))))))), HF.out.mods.trans q2 (fun _ _ x => x) (fun i hi x => by omega), rn_res8 (HF.out.ds (.slice ad2 ((natV (est 8 (est 8 ((xs, 0) : ESt))))).length cp2, (natV (est 8 (est 8 ((xs, 0) : ESt))))) (by simp)).1 (HF.out.ds (.slice ad2 ((natV (est 8 (est 8 ((xs, 0) : ESt))))).length cp2, (natV (est 8 (est 8 ((xs, 0) : ESt))))) (by simp)).2.1 ((HF.out.ds (.slice ad2 ((natV (est 8 (est 8 ((xs, 0) : ESt))))).length cp2, (natV (est 8 (est 8 ((xs, 0) : ESt))))) (by simp)).2.2.imp id (fun h k hk => (h k hk).2.2 _ (List.mem_of_getElem? (i := 1) rfl))) q2, rn_res8 (HF.out.ds (.slice ad7 ((natV (est 8 (boolS (est 8 (boolS (natT (est 8 (est 8 ((xs, 0) : ESt)))))))))).length cp7, (natV (est 8 (boolS (est 8 (boolS (natT (est 8 (est 8 ((xs, 0) : ESt)))))))))) (by simp)).1 (HF.out.ds (.slice ad7 ((natV (est 8 (boolS (est 8 (boolS (natT (est 8 (est 8 ((xs, 0) : ESt)))))))))).length cp7, (natV (est 8 (boolS (est 8 (boolS (natT (est 8 (est 8 ((xs, 0) : ESt)))))))))) (by simp)).2.1 ((HF.out.ds (.slice ad7 ((natV (est 8 (boolS (est 8 (boolS (natT (est 8 (est 8 ((xs, 0) : ESt)))))))))).length cp7, (natV (est 8 (boolS (est 8 (boolS (natT (est 8 (est 8 ((xs, 0) : ESt)))))))))) (by simp)).2.2.imp id (fun h k hk => (h k hk).2.2 _ (List.mem_of_getElem? (i := 1) rfl))) q2, rn_res8 (HF.out.ds (.slice ad8 ((natV (natT (est 8 (boolS (est 8 (boolS (natT (est 8 (est 8 ((xs, 0) : ESt))))))))))).length cp8, (natV (natT (est 8 (boolS (est 8 (boolS (natT (est 8 (est 8 ((xs, 0) : ESt))))))))))) (by simp)).1 (HF.out.ds (.slice ad8 ((natV (natT (est 8 (boolS (est 8 (boolS (natT (est 8 (est 8 ((xs, 0) : ESt))))))))))).length cp8, (natV (natT (est 8 (boolS (est 8 (boolS (natT (est 8 (est 8 ((xs, 0) : ESt))))))))))) (by simp)).2.1 ((HF.out.ds (.slice ad8 ((natV (natT (est 8 (boolS (est 8 (boolS (natT (est 8 (est 8 ((xs, 0) : ESt))))))))))).length cp8, (natV (natT (est 8 (boolS (est 8 (boolS (natT (est 8 (est 8 ((xs, 0) : ESt))))))))))) (by simp)).2.2.imp id (fun h k hk => (h k hk).2.2 _ (List.mem_of_getElem? (i := 1) rfl))) q2, rn_res8 (HF.out.ds (.slice ad9 ((natV (natT (natT (est 8 (boolS (est 8 (boolS (natT (est 8 (est 8 ((xs, 0) : ESt)))))))))))).length cp9, (natV (natT (natT (est 8 (boolS (est 8 (boolS (natT (est 8 (est 8 ((xs, 0) : ESt)))))))))))) (by simp)).1 (HF.out.ds (.slice ad9 ((natV (natT (natT (est 8 (boolS (est 8 (boolS (natT (est 8 (est 8 ((xs, 0) : ESt)))))))))))).length cp9, (natV (natT (natT (est 8 (boolS (est 8 (boolS (natT (est 8 (est 8 ((xs, 0) : ESt)))))))))))) (by simp)).2.1 ((HF.out.ds (.slice ad9 ((natV (natT (natT (est 8 (boolS (est 8 (boolS (natT (est 8 (est 8 ((xs, 0) : ESt)))))))))))).length cp9, (natV (natT (natT (est 8 (boolS (est 8 (boolS (natT (est 8 (est 8 ((xs, 0) : ESt)))))))))))) (by simp)).2.2.imp id (fun h k hk => (h k hk).2.2 _ (List.mem_of_getElem? (i := 1) rfl))) q2⟩
  · rw [if_neg he]
    go_wp2_with (refine wpList_store_blk rfl rfl g0 rfl rfl val_size8 rfl rfl ?_; intro w11 q1 q2 q3; have c11 := cells_of q1)
    refine bodyPost_ret (by simp [results, Tryz.results84, go_sem, c11]; try rfl) rfl ?_
    rw [HQ.out]
    exact ⟨0, 0, 0, 0, false, false, _, _, _, _, [], [], [], [], 80, rfl, recGet_no (fs := [⟨0, (evl 8 ((xs, 0) : ESt)), []⟩, ⟨0, (evl 8 (est 8 ((xs, 0) : ESt))), []⟩, ⟨2, 0, (natV (est 8 (est 8 ((xs, 0) : ESt))))⟩, ⟨1, if (decide (evl 1 (natT (est 8 (est 8 ((xs, 0) : ESt)))) = 1)) then 1 else 0, []⟩, ⟨0, (evl 8 (boolS (natT (est 8 (est 8 ((xs, 0) : ESt)))))), []⟩, ⟨1, if (decide (evl 1 (est 8 (boolS (natT (est 8 (est 8 ((xs, 0) : ESt)))))) = 1)) then 1 else 0, []⟩, ⟨0, (evl 8 (boolS (est 8 (boolS (natT (est 8 (est 8 ((xs, 0) : ESt)))))))), []⟩, ⟨2, 0, (natV (est 8 (boolS (est 8 (boolS (natT (est 8 (est 8 ((xs, 0) : ESt)))))))))⟩, ⟨2, 0, (natV (natT (est 8 (boolS (est 8 (boolS (natT (est 8 (est 8 ((xs, 0) : ESt))))))))))⟩, ⟨2, 0, (natV (natT (natT (est 8 (boolS (est 8 (boolS (natT (est 8 (est 8 ((xs, 0) : ESt)))))))))))⟩]) (s := (natT (natT (natT (est 8 (boolS (est 8 (boolS (natT (est 8 (est 8 ((xs, 0) : ESt)))))))))))) (by kernel_rfl) he, HF.out.mods.trans q2 (fun _ _ x => x) (fun i hi x => by omega), RdM.nil _ _, RdM.nil _ _, RdM.nil _ _, RdM.nil _ _⟩

theorem delegation_size8 : (Tryz.prog.info? 36).map (·.size) = some 3 := by kernel_rfl

set_option maxHeartbeats 4000000 in
theorem delegation_ref {w : World} {b : Value} {xs : List UInt8} (hb : RdB w b xs) (hl : xs.length ≤ 1000000) :
    Calls Tryz.prog 85 #[b] w (fun r w' => ∃ (n1 : Nat) (u0 u2 : Value) (l0 l2 : List Nat) (e : Nat), r = .returned (.tuple #[.agg #[u0, .int .u64 (n1 : Nat), u2], .int .i64 e]) ∧ recGet [2, 0, 2] xs = ([⟨2, 0, l0⟩, ⟨0, n1, []⟩, ⟨2, 0, l2⟩], e) ∧ Mods noB w w' ∧ RN w' u0 l0 ∧ RN w' u2 l2) := by
  obtain ⟨a, c, rfl, hlm⟩ := hb.1.form
  obtain ⟨Q, hQ⟩ : ∃ Q : Ending → World → Prop, Q = (fun r w' => ∃ (n1 : Nat) (u0 u2 : Value) (l0 l2 : List Nat) (e : Nat), r = .returned (.tuple #[.agg #[u0, .int .u64 (n1 : Nat), u2], .int .i64 e]) ∧ recGet [2, 0, 2] xs = ([⟨2, 0, l0⟩, ⟨0, n1, []⟩, ⟨2, 0, l2⟩], e) ∧ Mods noB w w' ∧ RN w' u0 l0 ∧ RN w' u2 l2) := ⟨_, rfl⟩
  show Calls _ _ _ _ (fun r w' => ∃ (n1 : Nat) (u0 u2 : Value) (l0 l2 : List Nat) (e : Nat), r = .returned (.tuple #[.agg #[u0, .int .u64 (n1 : Nat), u2], .int .i64 e]) ∧ recGet [2, 0, 2] xs = ([⟨2, 0, l0⟩, ⟨0, n1, []⟩, ⟨2, 0, l2⟩], e) ∧ Mods noB w w' ∧ RN w' u0 l0 ∧ RN w' u2 l2)
  rw [← hQ]
  have HQ := Lib.hid hQ
  have HL := Lib.hid (show ((xs, 0) : ESt).1.length ≤ 10000000000 from Nat.le_trans hl (Nat.le_of_ble_eq_true rfl))
  have F0 := Lib.hid (QF.start hb (.cells #[.slice none 0 0, .int .u64 0, .slice none 0 0] 36 (0, 0)) _ rfl ⟨_, _, rfl⟩)
  clear hQ hb hl hlm
  go_enter Tryz.func85, Tryz.ntmps85
  go_wp2_with fail
  generalize World.alloc (World.alloc w _) _ = y0 at *
  refine (F0.out.dec HL.out).mono ?_
  rintro r y1 ⟨u0, rfl, hn, hq⟩
  obtain ⟨ad0, cp0, rfl, _⟩ := hn.form
  clear hn
  replace HL := Lib.hid (show ((natT ((xs, 0) : ESt)) : ESt).1.length ≤ 10000000000 from Nat.le_trans (natT_len _) HL.out)
  have F1 := Lib.hid (hq.alloc (.cells #[.slice ad0 ((natV ((xs, 0) : ESt))).length cp0, .int .u64 0, .slice none 0 0] 36 (0, 0)))
  have HB := Lib.hid (show w.heap.size < y1.heap.size from by have := lt_of_heap (hq.get 0 rfl); simp only at this; omega)
  have hne : ∀ q ∈ [((w.heap.size, (.cells #[.slice none 0 0, .int .u64 0, .slice none 0 0] 36 (0, 0))) : Nat × Obj)], q.1 ≠ y1.heap.size := by intro q hq; simp at hq; subst hq; have := HB.out; simp only; omega
  have HNE := Lib.hid hne
  clear hq hne F0
  go_wp2_with fail
  generalize World.alloc y1 _ = z1 at *
  refine F1.out.u.mono ?_
  rintro r y2 ⟨rfl, hq⟩
  replace HL := Lib.hid (show ((est 8 (natT ((xs, 0) : ESt))) : ESt).1.length ≤ 10000000000 from Nat.le_trans (est_len 8 _) HL.out)
  have k0 := cells_of (hq.get 0 rfl) 1
  have k1 := free_of (hq.get 0 rfl) 1
  have F2 := Lib.hid (hq.set HNE.out 1 (.int .u64 ((evl 8 (natT ((xs, 0) : ESt))) : Nat)))
  clear hq F1
  go_wp2_with fail
  generalize World.setCell y2 _ _ = z2 at *
  refine (F2.out.dec HL.out).mono ?_
  rintro r y3 ⟨u2, rfl, hn, hq⟩
  obtain ⟨ad2, cp2, rfl, _⟩ := hn.form
  clear hn
  replace HL := Lib.hid (show ((natT (est 8 (natT ((xs, 0) : ESt)))) : ESt).1.length ≤ 10000000000 from Nat.le_trans (natT_len _) HL.out)
  clear k0 k1
  have k0 := cells_of (hq.get 0 rfl) 2
  have k1 := free_of (hq.get 0 rfl) 2
  have F3 := Lib.hid (hq.set HNE.out 2 (.slice ad2 ((natV (est 8 (natT ((xs, 0) : ESt))))).length cp2))
  clear hq F2
  go_wp2_with fail
  generalize World.setCell y3 _ _ = z3 at *
  refine F3.out.ends.mono ?_
  rintro r y ⟨rfl, t, hq⟩
  have HF := Lib.hid hq
  clear k0 k1
  have g0 := hq.get 1 rfl
  have x0 := cells_of (hq.get 0 rfl) 0
  have x1 := cells_of (hq.get 0 rfl) 1
  have x2 := cells_of (hq.get 0 rfl) 2
  clear hq F3
  by_cases he : (natT (est 8 (natT ((xs, 0) : ESt)))) = ([], 0)
  · rw [if_pos he]
    go_wp2_with (refine wpList_store_blk rfl rfl g0 rfl rfl delegation_size8 rfl rfl ?_; intro w11 q1 q2 q3; have c11 := cells_of q1)
    refine bodyPost_ret (by simp [results, Tryz.results85, go_sem, c11]; try rfl) rfl ?_
    rw [HQ.out]
    exact ⟨(evl 8 (natT ((xs, 0) : ESt))), _, _, (natV ((xs, 0) : ESt)), (natV (est 8 (natT ((xs, 0) : ESt)))), 0, rfl, recGet_yes (fs := [⟨2, 0, (natV ((xs, 0) : ESt))⟩, ⟨0, (evl 8 (natT ((xs, 0) : ESt))), []⟩, ⟨2, 0, (natV (est 8 (natT ((xs, 0) : ESt))))⟩]) (show rdAll [2, 0, 2] (xs, 0) = _ from he ▸ (by kernel_rfl : rdAll [2, 0, 2] (xs, 0) = ([⟨2, 0, (natV ((xs, 0) : ESt))⟩, ⟨0, (evl 8 (natT ((xs, 0) : ESt))), []⟩, ⟨2, 0, (natV (est 8 (natT ((xs, 0) : ESt))))⟩], (natT (est 8 (natT ((xs, 0) : ESt))))))), HF.out.mods.trans q2 (fun _ _ x => x) (fun i hi x => by omega), rn_res8 (HF.out.ds (.slice ad0 ((natV ((xs, 0) : ESt))).length cp0, (natV ((xs, 0) : ESt))) (by simp)).1 (HF.out.ds (.slice ad0 ((natV ((xs, 0) : ESt))).length cp0, (natV ((xs, 0) : ESt))) (by simp)).2.1 ((HF.out.ds (.slice ad0 ((natV ((xs, 0) : ESt))).length cp0, (natV ((xs, 0) : ESt))) (by simp)).2.2.imp id (fun h k hk => (h k hk).2.2 _ (List.mem_of_getElem? (i := 1) rfl))) q2, rn_res8 (HF.out.ds (.slice ad2 ((natV (est 8 (natT ((xs, 0) : ESt))))).length cp2, (natV (est 8 (natT ((xs, 0) : ESt))))) (by simp)).1 (HF.out.ds (.slice ad2 ((natV (est 8 (natT ((xs, 0) : ESt))))).length cp2, (natV (est 8 (natT ((xs, 0) : ESt))))) (by simp)).2.1 ((HF.out.ds (.slice ad2 ((natV (est 8 (natT ((xs, 0) : ESt))))).length cp2, (natV (est 8 (natT ((xs, 0) : ESt))))) (by simp)).2.2.imp id (fun h k hk => (h k hk).2.2 _ (List.mem_of_getElem? (i := 1) rfl))) q2⟩
  · rw [if_neg he]
    go_wp2_with (refine wpList_store_blk rfl rfl g0 rfl rfl delegation_size8 rfl rfl ?_; intro w11 q1 q2 q3; have c11 := cells_of q1)
    refine bodyPost_ret (by simp [results, Tryz.results85, go_sem, c11]; try rfl) rfl ?_
    rw [HQ.out]
    exact ⟨0, _, _, [], [], 80, rfl, recGet_no (fs := [⟨2, 0, (natV ((xs, 0) : ESt))⟩, ⟨0, (evl 8 (natT ((xs, 0) : ESt))), []⟩, ⟨2, 0, (natV (est 8 (natT ((xs, 0) : ESt))))⟩]) (s := (natT (est 8 (natT ((xs, 0) : ESt))))) (by kernel_rfl) he, HF.out.mods.trans q2 (fun _ _ x => x) (fun i hi x => by omega), RdM.nil _ _, RdM.nil _ _⟩

theorem history_size8 : (Tryz.prog.info? 38).map (·.size) = some 2 := by kernel_rfl

set_option maxHeartbeats 4000000 in
theorem history_ref {w : World} {b : Value} {xs : List UInt8} (hb : RdB w b xs) (hl : xs.length ≤ 1000000) :
    Calls Tryz.prog 86 #[b] w (fun r w' => ∃ (n1 : Nat) (u0 : Value) (l0 : List Nat) (e : Nat), r = .returned (.tuple #[.agg #[u0, .int .u64 (n1 : Nat)], .int .i64 e]) ∧ recGet [2, 0] xs = ([⟨2, 0, l0⟩, ⟨0, n1, []⟩], e) ∧ Mods noB w w' ∧ RN w' u0 l0) := by
  obtain ⟨a, c, rfl, hlm⟩ := hb.1.form
  obtain ⟨Q, hQ⟩ : ∃ Q : Ending → World → Prop, Q = (fun r w' => ∃ (n1 : Nat) (u0 : Value) (l0 : List Nat) (e : Nat), r = .returned (.tuple #[.agg #[u0, .int .u64 (n1 : Nat)], .int .i64 e]) ∧ recGet [2, 0] xs = ([⟨2, 0, l0⟩, ⟨0, n1, []⟩], e) ∧ Mods noB w w' ∧ RN w' u0 l0) := ⟨_, rfl⟩
  show Calls _ _ _ _ (fun r w' => ∃ (n1 : Nat) (u0 : Value) (l0 : List Nat) (e : Nat), r = .returned (.tuple #[.agg #[u0, .int .u64 (n1 : Nat)], .int .i64 e]) ∧ recGet [2, 0] xs = ([⟨2, 0, l0⟩, ⟨0, n1, []⟩], e) ∧ Mods noB w w' ∧ RN w' u0 l0)
  rw [← hQ]
  have HQ := Lib.hid hQ
  have HL := Lib.hid (show ((xs, 0) : ESt).1.length ≤ 10000000000 from Nat.le_trans hl (Nat.le_of_ble_eq_true rfl))
  have F0 := Lib.hid (QF.start hb (.cells #[.slice none 0 0, .int .u64 0] 38 (0, 0)) _ rfl ⟨_, _, rfl⟩)
  clear hQ hb hl hlm
  go_enter Tryz.func86, Tryz.ntmps86
  go_wp2_with fail
  generalize World.alloc (World.alloc w _) _ = y0 at *
  refine (F0.out.dec HL.out).mono ?_
  rintro r y1 ⟨u0, rfl, hn, hq⟩
  obtain ⟨ad0, cp0, rfl, _⟩ := hn.form
  clear hn
  replace HL := Lib.hid (show ((natT ((xs, 0) : ESt)) : ESt).1.length ≤ 10000000000 from Nat.le_trans (natT_len _) HL.out)
  have F1 := Lib.hid (hq.alloc (.cells #[.slice ad0 ((natV ((xs, 0) : ESt))).length cp0, .int .u64 0] 38 (0, 0)))
  have HB := Lib.hid (show w.heap.size < y1.heap.size from by have := lt_of_heap (hq.get 0 rfl); simp only at this; omega)
  have hne : ∀ q ∈ [((w.heap.size, (.cells #[.slice none 0 0, .int .u64 0] 38 (0, 0))) : Nat × Obj)], q.1 ≠ y1.heap.size := by intro q hq; simp at hq; subst hq; have := HB.out; simp only; omega
  have HNE := Lib.hid hne
  clear hq hne F0
  go_wp2_with fail
  generalize World.alloc y1 _ = z1 at *
  refine F1.out.u.mono ?_
  rintro r y2 ⟨rfl, hq⟩
  replace HL := Lib.hid (show ((est 8 (natT ((xs, 0) : ESt))) : ESt).1.length ≤ 10000000000 from Nat.le_trans (est_len 8 _) HL.out)
  have k0 := cells_of (hq.get 0 rfl) 1
  have k1 := free_of (hq.get 0 rfl) 1
  have F2 := Lib.hid (hq.set HNE.out 1 (.int .u64 ((evl 8 (natT ((xs, 0) : ESt))) : Nat)))
  clear hq F1
  go_wp2_with fail
  generalize World.setCell y2 _ _ = z2 at *
  refine F2.out.ends.mono ?_
  rintro r y ⟨rfl, t, hq⟩
  have HF := Lib.hid hq
  clear k0 k1
  have g0 := hq.get 1 rfl
  have x0 := cells_of (hq.get 0 rfl) 0
  have x1 := cells_of (hq.get 0 rfl) 1
  clear hq F2
  by_cases he : (est 8 (natT ((xs, 0) : ESt))) = ([], 0)
  · rw [if_pos he]
    go_wp2_with (refine wpList_store_blk rfl rfl g0 rfl rfl history_size8 rfl rfl ?_; intro w11 q1 q2 q3; have c11 := cells_of q1)
    refine bodyPost_ret (by simp [results, Tryz.results86, go_sem, c11]; try rfl) rfl ?_
    rw [HQ.out]
    exact ⟨(evl 8 (natT ((xs, 0) : ESt))), _, (natV ((xs, 0) : ESt)), 0, rfl, recGet_yes (fs := [⟨2, 0, (natV ((xs, 0) : ESt))⟩, ⟨0, (evl 8 (natT ((xs, 0) : ESt))), []⟩]) (show rdAll [2, 0] (xs, 0) = _ from he ▸ (by kernel_rfl : rdAll [2, 0] (xs, 0) = ([⟨2, 0, (natV ((xs, 0) : ESt))⟩, ⟨0, (evl 8 (natT ((xs, 0) : ESt))), []⟩], (est 8 (natT ((xs, 0) : ESt)))))), HF.out.mods.trans q2 (fun _ _ x => x) (fun i hi x => by omega), rn_res8 (HF.out.ds (.slice ad0 ((natV ((xs, 0) : ESt))).length cp0, (natV ((xs, 0) : ESt))) (by simp)).1 (HF.out.ds (.slice ad0 ((natV ((xs, 0) : ESt))).length cp0, (natV ((xs, 0) : ESt))) (by simp)).2.1 ((HF.out.ds (.slice ad0 ((natV ((xs, 0) : ESt))).length cp0, (natV ((xs, 0) : ESt))) (by simp)).2.2.imp id (fun h k hk => (h k hk).2.2 _ (List.mem_of_getElem? (i := 1) rfl))) q2⟩
  · rw [if_neg he]
    go_wp2_with (refine wpList_store_blk rfl rfl g0 rfl rfl history_size8 rfl rfl ?_; intro w11 q1 q2 q3; have c11 := cells_of q1)
    refine bodyPost_ret (by simp [results, Tryz.results86, go_sem, c11]; try rfl) rfl ?_
    rw [HQ.out]
    exact ⟨0, _, [], 80, rfl, recGet_no (fs := [⟨2, 0, (natV ((xs, 0) : ESt))⟩, ⟨0, (evl 8 (natT ((xs, 0) : ESt))), []⟩]) (s := (est 8 (natT ((xs, 0) : ESt)))) (by kernel_rfl) he, HF.out.mods.trans q2 (fun _ _ x => x) (fun i hi x => by omega), RdM.nil _ _⟩

theorem unbonding_size8 : (Tryz.prog.info? 42).map (·.size) = some 6 := by kernel_rfl

set_option maxHeartbeats 4000000 in
theorem unbonding_ref {w : World} {b : Value} {xs : List UInt8} (hb : RdB w b xs) (hl : xs.length ≤ 1000000) :
    Calls Tryz.prog 88 #[b] w (fun r w' => ∃ (n0 n1 n2 n3 n4 n5 : Nat) (e : Nat), r = .returned (.tuple #[.agg #[.int .u64 (n0 : Nat), .int .u64 (n1 : Nat), .int .u64 (n2 : Nat), .int .u64 (n3 : Nat), .int .u64 (n4 : Nat), .int .u64 (n5 : Nat)], .int .i64 e]) ∧ recGet [0, 0, 0, 0, 0, 0] xs = ([⟨0, n0, []⟩, ⟨0, n1, []⟩, ⟨0, n2, []⟩, ⟨0, n3, []⟩, ⟨0, n4, []⟩, ⟨0, n5, []⟩], e) ∧ Mods noB w w') := by
  obtain ⟨a, c, rfl, hlm⟩ := hb.1.form
  obtain ⟨Q, hQ⟩ : ∃ Q : Ending → World → Prop, Q = (fun r w' => ∃ (n0 n1 n2 n3 n4 n5 : Nat) (e : Nat), r = .returned (.tuple #[.agg #[.int .u64 (n0 : Nat), .int .u64 (n1 : Nat), .int .u64 (n2 : Nat), .int .u64 (n3 : Nat), .int .u64 (n4 : Nat), .int .u64 (n5 : Nat)], .int .i64 e]) ∧ recGet [0, 0, 0, 0, 0, 0] xs = ([⟨0, n0, []⟩, ⟨0, n1, []⟩, ⟨0, n2, []⟩, ⟨0, n3, []⟩, ⟨0, n4, []⟩, ⟨0, n5, []⟩], e) ∧ Mods noB w w') := ⟨_, rfl⟩
  show Calls _ _ _ _ (fun r w' => ∃ (n0 n1 n2 n3 n4 n5 : Nat) (e : Nat), r = .returned (.tuple #[.agg #[.int .u64 (n0 : Nat), .int .u64 (n1 : Nat), .int .u64 (n2 : Nat), .int .u64 (n3 : Nat), .int .u64 (n4 : Nat), .int .u64 (n5 : Nat)], .int .i64 e]) ∧ recGet [0, 0, 0, 0, 0, 0] xs = ([⟨0, n0, []⟩, ⟨0, n1, []⟩, ⟨0, n2, []⟩, ⟨0, n3, []⟩, ⟨0, n4, []⟩, ⟨0, n5, []⟩], e) ∧ Mods noB w w')
  rw [← hQ]
  have HQ := Lib.hid hQ
  have HL := Lib.hid (show ((xs, 0) : ESt).1.length ≤ 10000000000 from Nat.le_trans hl (Nat.le_of_ble_eq_true rfl))
  have F0 := Lib.hid (QF.start hb (.cells #[.int .u64 0, .int .u64 0, .int .u64 0, .int .u64 0, .int .u64 0, .int .u64 0] 42 (0, 0)) _ rfl ⟨_, _, rfl⟩)
  clear hQ hb hl hlm
  go_enter Tryz.func88, Tryz.ntmps88
  go_wp2_with fail
  have hbs : ((w.alloc (.cells #[.int .u64 0, .int .u64 0, .int .u64 0, .int .u64 0, .int .u64 0, .int .u64 0] 42 (0, 0))).alloc (.cells #[.slice a xs.length c, .int .i64 0] 187)).heap.size = w.heap.size + 1 + 1 := by simp
  replace F0 := Lib.hid (F0.out.alloc (.cells #[.int .u64 0, .int .u64 0, .int .u64 0, .int .u64 0, .int .u64 0, .int .u64 0] 42 (0, 0)))
  rw [hbs] at F0
  clear hbs
  generalize World.alloc (World.alloc (World.alloc w _) _) _ = y0 at *
  refine F0.out.u.mono ?_
  rintro r y1 ⟨rfl, hq⟩
  replace HL := Lib.hid (show ((est 8 ((xs, 0) : ESt)) : ESt).1.length ≤ 10000000000 from Nat.le_trans (est_len 8 _) HL.out)
  have k0 := cells_of (hq.get 0 rfl) 0
  have k1 := free_of (hq.get 0 rfl) 0
  have F1 := Lib.hid (hq.set (by intro q hq; simp at hq; subst hq; simp; try omega) 0 (.int .u64 ((evl 8 ((xs, 0) : ESt)) : Nat)))
  clear hq F0
  go_wp2_with fail
  generalize World.setCell y1 _ _ = z1 at *
  refine F1.out.u.mono ?_
  rintro r y2 ⟨rfl, hq⟩
  replace HL := Lib.hid (show ((est 8 (est 8 ((xs, 0) : ESt))) : ESt).1.length ≤ 10000000000 from Nat.le_trans (est_len 8 _) HL.out)
  clear k0 k1
  have k0 := cells_of (hq.get 0 rfl) 1
  have k1 := free_of (hq.get 0 rfl) 1
  have F2 := Lib.hid (hq.set (by intro q hq; simp at hq; subst hq; simp; try omega) 1 (.int .u64 ((evl 8 (est 8 ((xs, 0) : ESt))) : Nat)))
  clear hq F1
  go_wp2_with fail
  generalize World.setCell y2 _ _ = z2 at *
  refine F2.out.u.mono ?_
  rintro r y3 ⟨rfl, hq⟩
  replace HL := Lib.hid (show ((est 8 (est 8 (est 8 ((xs, 0) : ESt)))) : ESt).1.length ≤ 10000000000 from Nat.le_trans (est_len 8 _) HL.out)
  clear k0 k1
  have k0 := cells_of (hq.get 0 rfl) 2
  have k1 := free_of (hq.get 0 rfl) 2
  have F3 := Lib.hid (hq.set (by intro q hq; simp at hq; subst hq; simp; try omega) 2 (.int .u64 ((evl 8 (est 8 (est 8 ((xs, 0) : ESt)))) : Nat)))
  clear hq F2
  go_wp2_with fail
  generalize World.setCell y3 _ _ = z3 at *
  refine F3.out.u.mono ?_
  rintro r y4 ⟨rfl, hq⟩
  replace HL := Lib.hid (show ((est 8 (est 8 (est 8 (est 8 ((xs, 0) : ESt))))) : ESt).1.length ≤ 10000000000 from Nat.le_trans (est_len 8 _) HL.out)
  clear k0 k1
  have k0 := cells_of (hq.get 0 rfl) 3
  have k1 := free_of (hq.get 0 rfl) 3
  have F4 := Lib.hid (hq.set (by intro q hq; simp at hq; subst hq; simp; try omega) 3 (.int .u64 ((evl 8 (est 8 (est 8 (est 8 ((xs, 0) : ESt))))) : Nat)))
  clear hq F3
  go_wp2_with fail
  generalize World.setCell y4 _ _ = z4 at *
  refine F4.out.u.mono ?_
  rintro r y5 ⟨rfl, hq⟩
  replace HL := Lib.hid (show ((est 8 (est 8 (est 8 (est 8 (est 8 ((xs, 0) : ESt)))))) : ESt).1.length ≤ 10000000000 from Nat.le_trans (est_len 8 _) HL.out)
  clear k0 k1
  have k0 := cells_of (hq.get 0 rfl) 4
  have k1 := free_of (hq.get 0 rfl) 4
  have F5 := Lib.hid (hq.set (by intro q hq; simp at hq; subst hq; simp; try omega) 4 (.int .u64 ((evl 8 (est 8 (est 8 (est 8 (est 8 ((xs, 0) : ESt)))))) : Nat)))
  clear hq F4
  go_wp2_with fail
  generalize World.setCell y5 _ _ = z5 at *
  refine F5.out.u.mono ?_
  rintro r y6 ⟨rfl, hq⟩
  replace HL := Lib.hid (show ((est 8 (est 8 (est 8 (est 8 (est 8 (est 8 ((xs, 0) : ESt))))))) : ESt).1.length ≤ 10000000000 from Nat.le_trans (est_len 8 _) HL.out)
  clear k0 k1
  have k0 := cells_of (hq.get 0 rfl) 5
  have k1 := free_of (hq.get 0 rfl) 5
  have F6 := Lib.hid (hq.set (by intro q hq; simp at hq; subst hq; simp; try omega) 5 (.int .u64 ((evl 8 (est 8 (est 8 (est 8 (est 8 (est 8 ((xs, 0) : ESt))))))) : Nat)))
  clear hq F5
  go_wp2_with fail
  generalize World.setCell y6 _ _ = z6 at *
  refine F6.out.ends.mono ?_
  rintro r y ⟨rfl, t, hq⟩
  have HF := Lib.hid hq
  clear k0 k1
  have g0 := hq.get 1 rfl
  have x0 := cells_of (hq.get 0 rfl) 0
  have x1 := cells_of (hq.get 0 rfl) 1
  have x2 := cells_of (hq.get 0 rfl) 2
  have x3 := cells_of (hq.get 0 rfl) 3
  have x4 := cells_of (hq.get 0 rfl) 4
  have x5 := cells_of (hq.get 0 rfl) 5
  clear hq F6
  by_cases he : (est 8 (est 8 (est 8 (est 8 (est 8 (est 8 ((xs, 0) : ESt))))))) = ([], 0)
  · rw [if_pos he]
    go_wp2_with (refine wpList_store_blk rfl rfl g0 rfl rfl unbonding_size8 rfl rfl ?_; intro w11 q1 q2 q3; have c11 := cells_of q1)
    refine bodyPost_ret (by simp [results, Tryz.results88, go_sem, c11]; try rfl) rfl ?_
    rw [HQ.out]
    exact ⟨(evl 8 ((xs, 0) : ESt)), (evl 8 (est 8 ((xs, 0) : ESt))), (evl 8 (est 8 (est 8 ((xs, 0) : ESt)))), (evl 8 (est 8 (est 8 (est 8 ((xs, 0) : ESt))))), (evl 8 (est 8 (est 8 (est 8 (est 8 ((xs, 0) : ESt)))))), (evl 8 (est 8 (est 8 (est 8 (est 8 (est 8 ((xs, 0) : ESt))))))), 0, rfl, recGet_yes (fs := [⟨0, (evl 8 ((xs, 0) : ESt)), []⟩, ⟨0, (evl 8 (est 8 ((xs, 0) : ESt))), []⟩, ⟨0, (evl 8 (est 8 (est 8 ((xs, 0) : ESt)))), []⟩, ⟨0, (evl 8 (est 8 (est 8 (est 8 ((xs, 0) : ESt))))), []⟩, ⟨0, (evl 8 (est 8 (est 8 (est 8 (est 8 ((xs, 0) : ESt)))))), []⟩, ⟨0, (evl 8 (est 8 (est 8 (est 8 (est 8 (est 8 ((xs, 0) : ESt))))))), []⟩]) (show rdAll [0, 0, 0, 0, 0, 0] (xs, 0) = _ from he ▸ (by kernel_rfl : rdAll [0, 0, 0, 0, 0, 0] (xs, 0) = ([⟨0, (evl 8 ((xs, 0) : ESt)), []⟩, ⟨0, (evl 8 (est 8 ((xs, 0) : ESt))), []⟩, ⟨0, (evl 8 (est 8 (est 8 ((xs, 0) : ESt)))), []⟩, ⟨0, (evl 8 (est 8 (est 8 (est 8 ((xs, 0) : ESt))))), []⟩, ⟨0, (evl 8 (est 8 (est 8 (est 8 (est 8 ((xs, 0) : ESt)))))), []⟩, ⟨0, (evl 8 (est 8 (est 8 (est 8 (est 8 (est 8 ((xs, 0) : ESt))))))), []⟩], (est 8 (est 8 (est 8 (est 8 (est 8 (est 8 ((xs, 0) : ESt)))))))))), HF.out.mods.trans q2 (fun _ _ x => x) (fun i hi x => by omega)⟩
  · rw [if_neg he]
    go_wp2_with (refine wpList_store_blk rfl rfl g0 rfl rfl unbonding_size8 rfl rfl ?_; intro w11 q1 q2 q3; have c11 := cells_of q1)
    refine bodyPost_ret (by simp [results, Tryz.results88, go_sem, c11]; try rfl) rfl ?_
    rw [HQ.out]
    exact ⟨0, 0, 0, 0, 0, 0, 80, rfl, recGet_no (fs := [⟨0, (evl 8 ((xs, 0) : ESt)), []⟩, ⟨0, (evl 8 (est 8 ((xs, 0) : ESt))), []⟩, ⟨0, (evl 8 (est 8 (est 8 ((xs, 0) : ESt)))), []⟩, ⟨0, (evl 8 (est 8 (est 8 (est 8 ((xs, 0) : ESt))))), []⟩, ⟨0, (evl 8 (est 8 (est 8 (est 8 (est 8 ((xs, 0) : ESt)))))), []⟩, ⟨0, (evl 8 (est 8 (est 8 (est 8 (est 8 (est 8 ((xs, 0) : ESt))))))), []⟩]) (s := (est 8 (est 8 (est 8 (est 8 (est 8 (est 8 ((xs, 0) : ESt)))))))) (by kernel_rfl) he, HF.out.mods.trans q2 (fun _ _ x => x) (fun i hi x => by omega)⟩

theorem move_size8 : (Tryz.prog.info? 44).map (·.size) = some 7 := by kernel_rfl

set_option maxHeartbeats 4000000 in
theorem move_ref {w : World} {b : Value} {xs : List UInt8} (hb : RdB w b xs) (hl : xs.length ≤ 1000000) :
    Calls Tryz.prog 89 #[b] w (fun r w' => ∃ (n0 n1 n2 n3 n4 n5 : Nat) (u6 : Value) (l6 : List Nat) (e : Nat), r = .returned (.tuple #[.agg #[.int .u64 (n0 : Nat), .int .u64 (n1 : Nat), .int .u64 (n2 : Nat), .int .u64 (n3 : Nat), .int .u64 (n4 : Nat), .int .u64 (n5 : Nat), u6], .int .i64 e]) ∧ recGet [0, 0, 0, 0, 0, 0, 2] xs = ([⟨0, n0, []⟩, ⟨0, n1, []⟩, ⟨0, n2, []⟩, ⟨0, n3, []⟩, ⟨0, n4, []⟩, ⟨0, n5, []⟩, ⟨2, 0, l6⟩], e) ∧ Mods noB w w' ∧ RN w' u6 l6) := by
  obtain ⟨a, c, rfl, hlm⟩ := hb.1.form
  obtain ⟨Q, hQ⟩ : ∃ Q : Ending → World → Prop, Q = (fun r w' => ∃ (n0 n1 n2 n3 n4 n5 : Nat) (u6 : Value) (l6 : List Nat) (e : Nat), r = .returned (.tuple #[.agg #[.int .u64 (n0 : Nat), .int .u64 (n1 : Nat), .int .u64 (n2 : Nat), .int .u64 (n3 : Nat), .int .u64 (n4 : Nat), .int .u64 (n5 : Nat), u6], .int .i64 e]) ∧ recGet [0, 0, 0, 0, 0, 0, 2] xs = ([⟨0, n0, []⟩, ⟨0, n1, []⟩, ⟨0, n2, []⟩, ⟨0, n3, []⟩, ⟨0, n4, []⟩, ⟨0, n5, []⟩, ⟨2, 0, l6⟩], e) ∧ Mods noB w w' ∧ RN w' u6 l6) := ⟨_, rfl⟩
  show Calls _ _ _ _ (fun r w' => ∃ (n0 n1 n2 n3 n4 n5 : Nat) (u6 : Value) (l6 : List Nat) (e : Nat), r = .returned (.tuple #[.agg #[.int .u64 (n0 : Nat), .int .u64 (n1 : Nat), .int .u64 (n2 : Nat), .int .u64 (n3 : Nat), .int .u64 (n4 : Nat), .int .u64 (n5 : Nat), u6], .int .i64 e]) ∧ recGet [0, 0, 0, 0, 0, 0, 2] xs = ([⟨0, n0, []⟩, ⟨0, n1, []⟩, ⟨0, n2, []⟩, ⟨0, n3, []⟩, ⟨0, n4, []⟩, ⟨0, n5, []⟩, ⟨2, 0, l6⟩], e) ∧ Mods noB w w' ∧ RN w' u6 l6)
  rw [← hQ]
  have HQ := Lib.hid hQ
  have HL := Lib.hid (show ((xs, 0) : ESt).1.length ≤ 10000000000 from Nat.le_trans hl (Nat.le_of_ble_eq_true rfl))
  have F0 := Lib.hid (QF.start hb (.cells #[.int .u64 0, .int .u64 0, .int .u64 0, .int .u64 0, .int .u64 0, .int .u64 0, .slice none 0 0] 44 (0, 0)) _ rfl ⟨_, _, rfl⟩)
  clear hQ hb hl hlm
  go_enter Tryz.func89, Tryz.ntmps89
  go_wp2_with fail
  have hbs : ((w.alloc (.cells #[.int .u64 0, .int .u64 0, .int .u64 0, .int .u64 0, .int .u64 0, .int .u64 0, .slice none 0 0] 44 (0, 0))).alloc (.cells #[.slice a xs.length c, .int .i64 0] 187)).heap.size = w.heap.size + 1 + 1 := by simp
  replace F0 := Lib.hid (F0.out.alloc (.cells #[.int .u64 0, .int .u64 0, .int .u64 0, .int .u64 0, .int .u64 0, .int .u64 0, .slice none 0 0] 44 (0, 0)))
  rw [hbs] at F0
  clear hbs
  generalize World.alloc (World.alloc (World.alloc w _) _) _ = y0 at *
  refine F0.out.u.mono ?_
  rintro r y1 ⟨rfl, hq⟩
  replace HL := Lib.hid (show ((est 8 ((xs, 0) : ESt)) : ESt).1.length ≤ 10000000000 from Nat.le_trans (est_len 8 _) HL.out)
  have k0 := cells_of (hq.get 0 rfl) 0
  have k1 := free_of (hq.get 0 rfl) 0
  have F1 := Lib.hid (hq.set (by intro q hq; simp at hq; subst hq; simp; try omega) 0 (.int .u64 ((evl 8 ((xs, 0) : ESt)) : Nat)))
  clear hq F0
  go_wp2_with fail
  generalize World.setCell y1 _ _ = z1 at *
  refine F1.out.u.mono ?_
  rintro r y2 ⟨rfl, hq⟩
  replace HL := Lib.hid (show ((est 8 (est 8 ((xs, 0) : ESt))) : ESt).1.length ≤ 10000000000 from Nat.le_trans (est_len 8 _) HL.out)
  clear k0 k1
  have k0 := cells_of (hq.get 0 rfl) 1
  have k1 := free_of (hq.get 0 rfl) 1
  have F2 := Lib.hid (hq.set (by intro q hq; simp at hq; subst hq; simp; try omega) 1 (.int .u64 ((evl 8 (est 8 ((xs, 0) : ESt))) : Nat)))
  clear hq F1
  go_wp2_with fail
  generalize World.setCell y2 _ _ = z2 at *
  refine F2.out.u.mono ?_
  rintro r y3 ⟨rfl, hq⟩
  replace HL := Lib.hid (show ((est 8 (est 8 (est 8 ((xs, 0) : ESt)))) : ESt).1.length ≤ 10000000000 from Nat.le_trans (est_len 8 _) HL.out)
  clear k0 k1
  have k0 := cells_of (hq.get 0 rfl) 2
  have k1 := free_of (hq.get 0 rfl) 2
  have F3 := Lib.hid (hq.set (by intro q hq; simp at hq; subst hq; simp; try omega) 2 (.int .u64 ((evl 8 (est 8 (est 8 ((xs, 0) : ESt)))) : Nat)))
  clear hq F2
  go_wp2_with fail
  generalize World.setCell y3 _ _ = z3 at *
  refine F3.out.u.mono ?_
  rintro r y4 ⟨rfl, hq⟩
  replace HL := Lib.hid (show ((est 8 (est 8 (est 8 (est 8 ((xs, 0) : ESt))))) : ESt).1.length ≤ 10000000000 from Nat.le_trans (est_len 8 _) HL.out)
  clear k0 k1
  have k0 := cells_of (hq.get 0 rfl) 3
  have k1 := free_of (hq.get 0 rfl) 3
  have F4 := Lib.hid (hq.set (by intro q hq; simp at hq; subst hq; simp; try omega) 3 (.int .u64 ((evl 8 (est 8 (est 8 (est 8 ((xs, 0) : ESt))))) : Nat)))
  clear hq F3
  go_wp2_with fail
  generalize World.setCell y4 _ _ = z4 at *
  refine F4.out.u.mono ?_
  rintro r y5 ⟨rfl, hq⟩
  replace HL := Lib.hid (show ((est 8 (est 8 (est 8 (est 8 (est 8 ((xs, 0) : ESt)))))) : ESt).1.length ≤ 10000000000 from Nat.le_trans (est_len 8 _) HL.out)
  clear k0 k1
  have k0 := cells_of (hq.get 0 rfl) 4
  have k1 := free_of (hq.get 0 rfl) 4
  have F5 := Lib.hid (hq.set (by intro q hq; simp at hq; subst hq; simp; try omega) 4 (.int .u64 ((evl 8 (est 8 (est 8 (est 8 (est 8 ((xs, 0) : ESt)))))) : Nat)))
  clear hq F4
  go_wp2_with fail
  generalize World.setCell y5 _ _ = z5 at *
  refine F5.out.u.mono ?_
  rintro r y6 ⟨rfl, hq⟩
  replace HL := Lib.hid (show ((est 8 (est 8 (est 8 (est 8 (est 8 (est 8 ((xs, 0) : ESt))))))) : ESt).1.length ≤ 10000000000 from Nat.le_trans (est_len 8 _) HL.out)
  clear k0 k1
  have k0 := cells_of (hq.get 0 rfl) 5
  have k1 := free_of (hq.get 0 rfl) 5
  have F6 := Lib.hid (hq.set (by intro q hq; simp at hq; subst hq; simp; try omega) 5 (.int .u64 ((evl 8 (est 8 (est 8 (est 8 (est 8 (est 8 ((xs, 0) : ESt))))))) : Nat)))
  clear hq F5
  go_wp2_with fail
  generalize World.setCell y6 _ _ = z6 at *
  refine (F6.out.dec HL.out).mono ?_
  rintro r y7 ⟨u6, rfl, hn, hq⟩
  obtain ⟨ad6, cp6, rfl, _⟩ := hn.form
  clear hn
  replace HL := Lib.hid (show ((natT (est 8 (est 8 (est 8 (est 8 (est 8 (est 8 ((xs, 0) : ESt)))))))) : ESt).1.length ≤ 10000000000 from Nat.le_trans (natT_len _) HL.out)
  clear k0 k1
  have k0 := cells_of (hq.get 0 rfl) 6
  have k1 := free_of (hq.get 0 rfl) 6
  have F7 := Lib.hid (hq.set (by intro q hq; simp at hq; subst hq; simp; try omega) 6 (.slice ad6 ((natV (est 8 (est 8 (est 8 (est 8 (est 8 (est 8 ((xs, 0) : ESt))))))))).length cp6))
  clear hq F6
  go_wp2_with fail
  generalize World.setCell y7 _ _ = z7 at *
  refine F7.out.ends.mono ?_
  rintro r y ⟨rfl, t, hq⟩
  have HF := Lib.hid hq
  clear k0 k1
  have g0 := hq.get 1 rfl
  have x0 := cells_of (hq.get 0 rfl) 0
  have x1 := cells_of (hq.get 0 rfl) 1
  have x2 := cells_of (hq.get 0 rfl) 2
  have x3 := cells_of (hq.get 0 rfl) 3
  have x4 := cells_of (hq.get 0 rfl) 4
  have x5 := cells_of (hq.get 0 rfl) 5
  have x6 := cells_of (hq.get 0 rfl) 6
  clear hq F7
  by_cases he : (natT (est 8 (est 8 (est 8 (est 8 (est 8 (est 8 ((xs, 0) : ESt)))))))) = ([], 0)
  · rw [if_pos he]
    go_wp2_with (refine wpList_store_blk rfl rfl g0 rfl rfl move_size8 rfl rfl ?_; intro w11 q1 q2 q3; have c11 := cells_of q1)
    refine bodyPost_ret (by simp [results, Tryz.results89, go_sem, c11]; try rfl) rfl ?_
    rw [HQ.out]
    exact ⟨(evl 8 ((xs, 0) : ESt)), (evl 8 (est 8 ((xs, 0) : ESt))), (evl 8 (est 8 (est 8 ((xs, 0) : ESt)))), (evl 8 (est 8 (est 8 (est 8 ((xs, 0) : ESt))))), (evl 8 (est 8 (est 8 (est 8 (est 8 ((xs, 0) : ESt)))))), (evl 8 (est 8 (est 8 (est 8 (est 8 (est 8 ((xs, 0) : ESt))))))), _, (natV (est 8 (est 8 (est 8 (est 8 (est 8 (est 8 ((xs, 0) : ESt)))))))), 0, rfl, recGet_yes (fs := [⟨0, (evl 8 ((xs, 0) : ESt)), []⟩, ⟨0, (evl 8 (est 8 ((xs, 0) : ESt))), []⟩, ⟨0, (evl 8 (est 8 (est 8 ((xs, 0) : ESt)))), []⟩, ⟨0, (evl 8 (est 8 (est 8 (est 8 ((xs, 0) : ESt))))), []⟩, ⟨0, (evl 8 (est 8 (est 8 (est 8 (est 8 ((xs, 0) : ESt)))))), []⟩, ⟨0, (evl 8 (est 8 (est 8 (est 8 (est 8 (est 8 ((xs, 0) : ESt))))))), []⟩, ⟨2, 0, (natV (est 8 (est 8 (est 8 (est 8 (est 8 (est 8 ((xs, 0) : ESt))))))))⟩]) (show rdAll [0, 0, 0, 0, 0, 0, 2] (xs, 0) = _ from he ▸ (by kernel_rfl : rdAll [0, 0, 0, 0, 0, 0, 2] (xs, 0) = ([⟨0, (evl 8 ((xs, 0) : ESt)), []⟩, ⟨0, (evl 8 (est 8 ((xs, 0) : ESt))), []⟩, ⟨0, (evl 8 (est 8 (est 8 ((xs, 0) : ESt)))), []⟩, ⟨0, (evl 8 (est 8 (est 8 (est 8 ((xs, 0) : ESt))))), []⟩, ⟨0, (evl 8 (est 8 (est 8 (est 8 (est 8 ((xs, 0) : ESt)))))), []⟩, ⟨0, (evl 8 (est 8 (est 8 (est 8 (est 8 (est 8 ((xs, 0) : ESt))))))), []⟩, ⟨2, 0, (natV (est 8 (est 8 (est 8 (est 8 (est 8 (est 8 ((xs, 0) : ESt))))))))⟩], (natT (est 8 (est 8 (est 8 (est 8 (est 8 (est 8 ((xs, 0) : ESt))))))))))), HF.out.mods.trans q2 (fun _ _ x => x) (fun i hi x => by omega), rn_res8 (HF.out.ds (.slice ad6 ((natV (est 8 (est 8 (est 8 (est 8 (est 8 (est 8 ((xs, 0) : ESt))))))))).length cp6, (natV (est 8 (est 8 (est 8 (est 8 (est 8 (est 8 ((xs, 0) : ESt))))))))) (by simp)).1 (HF.out.ds (.slice ad6 ((natV (est 8 (est 8 (est 8 (est 8 (est 8 (est 8 ((xs, 0) : ESt))))))))).length cp6, (natV (est 8 (est 8 (est 8 (est 8 (est 8 (est 8 ((xs, 0) : ESt))))))))) (by simp)).2.1 ((HF.out.ds (.slice ad6 ((natV (est 8 (est 8 (est 8 (est 8 (est 8 (est 8 ((xs, 0) : ESt))))))))).length cp6, (natV (est 8 (est 8 (est 8 (est 8 (est 8 (est 8 ((xs, 0) : ESt))))))))) (by simp)).2.2.imp id (fun h k hk => (h k hk).2.2 _ (List.mem_of_getElem? (i := 1) rfl))) q2⟩
  · rw [if_neg he]
    go_wp2_with (refine wpList_store_blk rfl rfl g0 rfl rfl move_size8 rfl rfl ?_; intro w11 q1 q2 q3; have c11 := cells_of q1)
    refine bodyPost_ret (by simp [results, Tryz.results89, go_sem, c11]; try rfl) rfl ?_
    rw [HQ.out]
    exact ⟨0, 0, 0, 0, 0, 0, _, [], 80, rfl, recGet_no (fs := [⟨0, (evl 8 ((xs, 0) : ESt)), []⟩, ⟨0, (evl 8 (est 8 ((xs, 0) : ESt))), []⟩, ⟨0, (evl 8 (est 8 (est 8 ((xs, 0) : ESt)))), []⟩, ⟨0, (evl 8 (est 8 (est 8 (est 8 ((xs, 0) : ESt))))), []⟩, ⟨0, (evl 8 (est 8 (est 8 (est 8 (est 8 ((xs, 0) : ESt)))))), []⟩, ⟨0, (evl 8 (est 8 (est 8 (est 8 (est 8 (est 8 ((xs, 0) : ESt))))))), []⟩, ⟨2, 0, (natV (est 8 (est 8 (est 8 (est 8 (est 8 (est 8 ((xs, 0) : ESt))))))))⟩]) (s := (natT (est 8 (est 8 (est 8 (est 8 (est 8 (est 8 ((xs, 0) : ESt))))))))) (by kernel_rfl) he, HF.out.mods.trans q2 (fun _ _ x => x) (fun i hi x => by omega), RdM.nil _ _⟩

end Go.Proofs.YtnkbbclcileleaaGreat

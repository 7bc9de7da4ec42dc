/- gleanref1: digits, number, Norm. -/
import Derived.Test.YtglkmaalpammcaaGreatZE
import Derived.Deep.RegionLaw
import Derived.Deep.DrawnRows
namespace Go.Gl
def hdig (ls : List Nat) : List Nat := ls.flatMap fun x => [x % 4294967296, x / 4294967296]
theorem hdig_snoc (ls : List Nat) (x : Nat) : hdig (ls ++ [x]) = hdig ls ++ [x % 4294967296, x / 4294967296] := by simp [hdig]
theorem hdig_length (ls : List Nat) : (hdig ls).length = 2 * ls.length := by
  induction ls with
  | nil => rfl
  | cons x ls ih =>
    show ([x % 4294967296, x / 4294967296] ++ hdig ls).length = _
    rw [List.length_append, ih]
    simp
    omega
theorem hdig_lt {ls : List Nat} (h : Lim ls) : ∀ d ∈ hdig ls, d < 4294967296 := by
 intro d hd
 obtain ⟨x, hx, hd⟩ := List.mem_flatMap.1 hd
 have := h x hx
 simp at hd
 omega
theorem dval_hdig (ls : List Nat) : dval 4294967296 (hdig ls) = dval 18446744073709551616 ls := by
  induction ls with
  | nil => rfl
  | cons x ls ih =>
    show dval 4294967296 (x % 4294967296 :: x / 4294967296 :: hdig ls) = _
    simp only [dval, ih]
    omega
def rdig (ls : List Nat) : List Nat := strip (hdig ls)
end Go.Gl
namespace Go.Proofs.YtglkmaalpammcaaGreat
open Go.Gl Go.RowKit
set_option linter.unusedVariables false
set_option maxRecDepth 100000
attribute [local go_sem ↓] Go.wp_at_zero Go.wp_at_succ
theorem and_half (x : Nat) (h : x ≤ 18446744073709551615) : bits .and .u64 (x : Int) 4294967295 = ((x % 4294967296 : Nat) : Int) := by
 have e : (4294967295 : Int) = ((4294967295 : Nat) : Int) := rfl
 rw [e]
 unfold bits
 have e1 : (BitVec.ofInt 64 ((x : Nat) : Int)) = BitVec.ofNat 64 x := BitVec.ofInt_natCast ..
 have e2 : (BitVec.ofInt 64 ((4294967295 : Nat) : Int)) = BitVec.ofNat 64 4294967295 := BitVec.ofInt_natCast ..
 show IntKind.u64.wrap (((BitVec.ofInt 64 (x : Int)) &&& (BitVec.ofInt 64 ((4294967295 : Nat) : Int))).toNat : Int) = _
 rw [e1, e2, BitVec.toNat_and, BitVec.toNat_ofNat, BitVec.toNat_ofNat, Nat.mod_eq_of_lt (by omega), Nat.mod_eq_of_lt (by omega), show (4294967295 : Nat) = 2 ^ 32 - 1 from rfl, Nat.and_two_pow_sub_one_eq_mod, IntKind.wrap_u64]
 omega
theorem step_apn (t tx : TypeId) (ht : Tryz.prog.underlying t = some (.slice 22)) (htx : Tryz.prog.underlying tx = some (.slice 22)) {ops : Array Oper} {Q : Exit → Act → World → Prop} {K : Act → World → Prop} {E : Prop} {o : Oper} {a : Act} {w : World} {s x : Operand} (hw : Region.wanted o (yielded ops a.tmps) = true)
  (ho : o.op = .call { callee := .builtin .append, args := #[s, x], argTypes := #[t, tx] })
  {v u : Value} (xs ys : List Nat) (hown : ON 22 w v xs) (hrd : RN w u ys) (hs : a.eval s = v) (hx : a.eval x = u) (hlen : xs.length + ys.length ≤ 17592186044416)
  (h : ∀ v' w', ON 22 w' v' (xs ++ ys) → Mods (ofV v) w w' → (v'.ownBlock = v.ownBlock ∨ freshIn w v') → K (a.put o.dst v') w') :
  if Region.wanted o (yielded ops a.tmps) = true then Oper.wp Tryz.prog o a w K Q else E := by
 rw [if_pos hw]
 obtain ⟨i, hi, hz, hs1, hb1⟩ := info_parts Tryz.infoU64
 obtain ⟨v', w', hr, h2, h3, h4⟩ := run_ap (P := Tryz.prog) t tx o.type 22 22 i _ ht htx hi hz (by rw [hs1]; rfl) (by rw [hs1]; exact hown) (by rw [hs1]; exact hrd) (u64_one _) (by simp only [maxLen]; omega) (by rw [hb1]; omega)
 unfold Oper.wp execOp
 simp only [ho, resolve, invoke, builtin, Sem.run_bind, Sem.run_pure, Result.andThen_ok, List.map_toArray, List.map_cons, List.map_nil, hs, hx, hr]
 refine h v' w' ?_ h3 h4
 rw [hs1] at h2
 unfold ON OwnM
 rw [List.map_append, List.length_append]
 exact h2
theorem wpList_mkn0 (t : TypeId) (ht : Tryz.prog.underlying t = some (.slice 22)) {w : World} {ops : Array Oper} {rest : List Oper} {o : Oper} {a : Act} {Q : Exit → Act → World → Prop}
  (hg : o.guard = none) (l c : Operand) (hop : o.op = Op.makeSlice t l c) (kl kc : IntKind) (n : Nat) (hl : a.eval l = .int kl 0) (hc : a.eval c = .int kc (n : Int)) (hn : n ≤ 17592186044416)
  (hK : ∀ w', ON 22 w' (.slice (some ⟨w.heap.size, 0, none⟩) 0 n) [] → Mods noB w w' → w.heap.size < w'.heap.size → wpList Tryz.prog ops Q rest (a.put o.dst (.slice (some ⟨w.heap.size, 0, none⟩) 0 n)) w') :
  wpList Tryz.prog ops Q (o :: rest) a w := by
 obtain ⟨i, hi, hz, hs1, hb1⟩ := info_parts Tryz.infoU64
 refine wpList_plain hg fun K hK' => ?_
 have hr := run_make (P := Tryz.prog) w t 22 i _ ht hi hz kl kc 0 (n : Int) (Int.le_refl _) (by omega) (by rw [hb1]; omega) (by omega)
 simp only [Int.toNat_zero, Int.toNat_natCast] at hr
 unfold Oper.wp
 simp [execOp, hop, hl, hc, hr, Result.andThen]
 refine hK' _ _ (hK _ ?_ ((Mods.refl _ _).alloc _) (by simp))
 refine ownM_of rfl (heap_new _ _) (Nat.zero_le _) (by simp only [maxLen]; omega) ?_ (fun i hi => by simp at hi)
 rw [size_madeCells, hs1]
 omega
theorem rn2 (x y : Nat) {zx zy : Int} (hx : zx = x) (hy : zy = y) {w : World} (n : Nat) (hn : n = w.heap.size) : RN (w.alloc (.cells #[.int .u64 zx, .int .u64 zy] 22)) (.slice (some ⟨n, 0, none⟩) 2 2) [x, y] := by
 subst hn hx hy
 refine rdM_of rfl (Nat.le_refl _) (by simp [maxLen]) (by simp) (fun i hi => ?_)
 have h := cells_of (heap_new w (.cells #[.int .u64 (x : Int), .int .u64 (y : Int)] 22)) (0 + i)
 rw [h, Nat.zero_add]
 rcases i with _ | _ | i
 ·rfl
 ·rfl
 ·simp at hi; omega
set_option maxHeartbeats 2000000 in
theorem digits_walk (ax : Option Addr) (nx cx : Nat) (ls : List Nat) (w : World) (h : RN w (.slice ax nx cx) ls) (hL : Lim ls) (hl : nx ≤ 1000000000000) :
  Calls Tryz.prog 171 #[.slice ax nx cx] w fun e w' => ∃ v, e = .returned v ∧ RN w' v (rdig ls) ∧ Mods noB w w' ∧ freshIn w v := by
 obtain ⟨h1, h2, h3, h4⟩ := RN.cells h
 have H := Lib.hid h
 have H1 := Lib.hid h1
 have HL := Lib.hid hL
 clear h h1 h4 hL
 obtain ⟨m, hm⟩ : ∃ m : Nat, 2 * nx = m := ⟨_, rfl⟩
 have HM := Lib.hid hm
 have hq : (2 : Int) * (nx : Int) = (m : Int) := by omega
 have hml : m ≤ 2000000000000 := by omega
 clear hm
 go_enter Tryz.func171, Tryz.ntmps171
 go_wp2_with (refine wpList_mkn0 63 Tryz.underlying63 rfl (.const (.int .i64 0)) (.tmp 7) (by rfl) .i64 .i64 m (by rfl) (by rfl) (by omega) ?_; intro w2 o2 m2 z2; have R0 : Hid (∃ v, (Value.slice (some ⟨w.heap.size, 0, none⟩) 0 m) = v ∧ ON 22 w2 v (hdig (ls.take 0)) ∧ Mods noB w w2 ∧ freshIn w v) := ⟨_, rfl, o2, m2, fun i hi => by simp [Value.ownBlock] at hi; omega⟩; clear o2 m2 z2)
 clear hq
 go_loopw [3, 4] (fun v i wr => ∃ k : Nat, k ≤ nx ∧ i = .int .i64 k ∧ Hid (ON 22 wr v (hdig (ls.take k)) ∧ Mods noB w wr ∧ freshIn w v)) (fun _ i _ => nx - (intOf i).toNat)
 case atStart =>
  obtain ⟨v, rfl, h⟩ := R0.out
  exact ⟨0, Nat.zero_le _, rfl, Lib.hid h⟩
 case round =>
  obtain ⟨k, hk, rfl, hR⟩ := hrel
  clear R0
  by_cases hlt : k < nx
  ·have lk : k < ls.length := by rw [H1.out]; exact hlt
   obtain ⟨g, off, rfl, hcc⟩ := ((RN.cells (RdM.keep H.out hR.out.2.1 (fun _ _ x => x))).2.2.2).resolve_left (by omega)
   have c1 := hcc k lk
   have hx := HL.out _ (List.getElem_mem lk)
   have HT := Lib.hid (show hdig (ls.take (k + 1)) = hdig (ls.take k) ++ [ls[k] % 4294967296, ls[k] / 4294967296] from by rw [List.take_succ_eq_append_getElem lk, hdig_snoc])
   generalize ls[k] = x at *
   clear hcc
   go_wp2
   have hlen := Lib.hid (show (hdig (ls.take k)).length ≤ 2000000000000 from by rw [hdig_length]; have := List.length_take_le k ls; omega)
   go_region_law ((refine step_apn 63 63 Tryz.underlying63 Tryz.underlying63 (by rfl) (by rfl) (hdig (ls.take k)) [x % 4294967296, x / 4294967296] ?_ ?_ (by rfl) (by rfl) ?_ ?_; (next => exact ((hR.out.1.keep (S := noB) (by first | exact (Mods.refl noB wr).drew | exact Mods.refl noB wr) (fun _ _ x => x)).keep ((Mods.refl noB _).alloc _) (fun _ _ x => x))); (next => exact rn2 _ _ (by first | rfl | exact and_half x hx | skip) (by first | rfl | omega) _ rfl); (next => have := hlen.out; simp; omega); intro v' w' k1 k2 k3))
   all_goals
    have R1 := Lib.hid (show ON 22 w' v' (hdig (ls.take (k + 1))) ∧ Mods noB w w' ∧ freshIn w v' from by
     refine ⟨by rw [HT.out]; exact k1, Mods.trans (S := noB) (T := ofV u3) (U := noB) (by repeat' (first | (with_reducible exact hR.out.2.1) | (with_reducible refine Mods.alloc ?_ _) | (with_reducible refine Mods.drew ?_))) k2 (fun _ _ x => x) (fun i hi x => absurd hi (Nat.not_lt.2 (hR.out.2.2 i x))), ?_⟩
     rcases k3 with k3 | k3
     ·exact fun i hi => hR.out.2.2 i (k3 ▸ hi)
     ·exact k3.of (by have := hR.out.2.1.size; simp; omega))
    clear hR k1 k2 k3 HT hlen c1
    go_wp2
    go_roundw
    case rel => exact ⟨k + 1, by omega, by go_num, R1⟩
    case measure => simp [intOf]; omega
  ·obtain rfl : k = nx := by omega
   have hT := hR.out
   rw [List.take_of_length_le (by rw [H1.out]; omega)] at hT
   have HT := Lib.hid hT
   clear hR hT
   go_wp2_with fail
   refine (rtrim_any HT.out.1.rd).mono ?_
   rintro e w9 ⟨⟨v9, rfl, hr9, hb9⟩, rfl⟩
   have R9 := Lib.hid (And.intro hr9 hb9)
   clear hr9 hb9
   go_wp2
   go_ret
   exact ⟨v9, rfl, R9.out.1, HT.out.2.1, fun i hi => HT.out.2.2 i (R9.out.2 i hi)⟩
theorem rdigits_any {w : World} {v : Value} {ls : List Nat} (h : RN w v ls) (hL : Lim ls) (hl : ls.length ≤ 1000000000000) :
  Calls Tryz.prog 171 #[v] w fun e w' => ∃ v, e = .returned v ∧ RN w' v (rdig ls) ∧ Mods noB w w' ∧ freshIn w v := by
 obtain ⟨a, c, rfl, _⟩ := RdM.form h
 exact digits_walk a _ c ls w h hL hl
end Go.Proofs.YtglkmaalpammcaaGreat

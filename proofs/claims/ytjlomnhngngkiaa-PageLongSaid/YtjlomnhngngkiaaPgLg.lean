/- PageLong: P5.1, P5.4. -/
import Derived.Test.YtjlomnhngngkiaaPgLg0
import Derived.Test.YtjlomnhngngkiaaMake
import Derived.Deep.CutBlock
import Derived.Deep.DeepCutAuto
import Derived.Outline
namespace Go.Proofs.Ytjlomnhngngkiaa
open Go.Gl Go.RowKit
set_option linter.unusedVariables false

theorem info3 : (Try.prog.info? 3).map (fun i => (i.zero, i.size, i.bytes)) = some (some (.int .i64 0), 1, 8) := by kernel_rfl
theorem wpList_mki {w : World} {ops : Array Oper} {rest : List Oper} {o : Oper} {a : Act} {Q : Exit → Act → World → Prop}
    (hg : o.guard = none) (l c : Operand) (hop : o.op = Op.makeSlice 54 l c) (kl kc : IntKind) (n : Nat) (hl : a.eval l = .int kl (n : Int)) (hc : a.eval c = .int kc (n : Int)) (hn : n ≤ 1000000)
    (hK : ∀ w', w'.heap[w.heap.size]? = some (.cells (madeCells #[.int .i64 0] n) 3 (0, 0)) → Mods noB w w' → w.heap.size < w'.heap.size → wpList Try.prog ops Q rest (a.put o.dst (.slice (some ⟨w.heap.size, 0, none⟩) n n)) w') :
    wpList Try.prog ops Q (o :: rest) a w := by
  obtain ⟨i, hi, hz, hs1, hb1⟩ := info_parts info3
  exact wpList_make_row w hg l c 54 hop 3 i _ Try.underlying54 hi hz hs1 rfl kl kc n hl hc (by rw [hb1]; omega) (by omega) (hK _ (heap_new _ _) ((Mods.refl _ _).alloc _) (by simp))
theorem PPlace2_any (k n : Int) (w : World) (h1 : -9223372036854775808 ≤ k) (h2 : k ≤ 9223372036854775807) (hn : 0 < n) (hn2 : n ≤ 4294967296) :
    Calls Try.prog 10 #[.int .i64 k, .int .i64 n] w fun e w' => ∃ r : Int, e = .returned (.int .i64 r) ∧ 0 ≤ r ∧ r < n ∧ w = w' := by
  have ht1 : k.tmod n < n := Int.tmod_lt_of_pos k hn
  have ht2 : -n < k.tmod n := by
    have := Int.tmod_lt_of_pos (-k) hn
    rw [Int.neg_tmod] at this
    omega
  have hn0 : ¬ n = 0 := by omega
  by_cases hk : 0 ≤ k
  · have h3 : k.tmod n = k % n := Int.tmod_eq_emod_of_nonneg hk
    have h4 : 0 ≤ k % n := Int.emod_nonneg _ hn0
    rw [h3] at ht1
    clear ht2 h3
    go_enter Try.func10, Try.ntmps10
    go_wp2_with fail
    go_ret
    exact ⟨k % n, rfl, h4, ht1, rfl⟩
  · obtain ⟨r, hr⟩ : ∃ r, r = k.tmod n := ⟨_, rfl⟩
    by_cases hneg : k.tmod n < 0
    · go_enter Try.func10, Try.ntmps10
      go_wp2_with fail
      go_ret
      exact ⟨k.tmod n + n, rfl, by omega, by omega, rfl⟩
    · have hneg2 : 0 ≤ k.tmod n := by omega
      go_enter Try.func10, Try.ntmps10
      go_wp2_with fail
      go_ret
      exact ⟨k.tmod n, rfl, hneg2, ht1, rfl⟩


theorem lg_k {q k : Nat} (hq : q < 2147483648) (hk : q / 64 % 600 = k) : (wrap64 ((q : Int).tdiv 64)).tmod 600 = (k : Int) := by
  have h1 : ((q : Int)).tdiv 64 = ((q / 64 : Nat) : Int) := by rw [Int.tdiv_eq_ediv_of_nonneg (by omega)]; omega
  rw [h1, IntWalk.wrap64_in _ (by omega), Int.tmod_eq_emod_of_nonneg (by omega)]
  omega
theorem lg_d {k : Nat} (hk : k < 600) : wrap64 ((k : Int).tdiv 256) = ((k / 256 : Nat) : Int) := by
  have h1 : ((k : Int)).tdiv 256 = ((k / 256 : Nat) : Int) := by rw [Int.tdiv_eq_ediv_of_nonneg (by omega)]; omega
  rw [h1, IntWalk.wrap64_in _ (by omega)]
theorem lg_z {q z : Nat} (hq : q < 2147483648) (hk : q / 8192 % 3 = z) : (wrap64 ((q : Int).tdiv 8192)).tmod 3 = (z : Int) := by
  have h1 : ((q : Int)).tdiv 8192 = ((q / 8192 : Nat) : Int) := by rw [Int.tdiv_eq_ediv_of_nonneg (by omega)]; omega
  rw [h1, IntWalk.wrap64_in _ (by omega), Int.tmod_eq_emod_of_nonneg (by omega)]
  omega

theorem and31 (n : Int) : bits .and .i64 n 2147483647 = n % 2147483648 := by
  have h1 : (BitVec.ofInt 64 2147483647).toNat = 2 ^ 31 - 1 := by decide +kernel
  have h2 : (BitVec.ofInt 64 n &&& BitVec.ofInt 64 2147483647).toNat = (n % ((2 ^ 64 : Nat) : Int)).toNat % 2 ^ 31 := by
    rw [BitVec.toNat_and, BitVec.toNat_ofInt, h1, Nat.and_two_pow_sub_one_eq_mod]
  show IntKind.i64.wrap ((BitVec.ofInt 64 n &&& BitVec.ofInt 64 2147483647).toNat : Nat) = n % 2147483648
  rw [h2, IntKind.wrap_i64]
  omega
theorem lg_step (q : Nat) : ∃ q2 k z : Nat, q2 < 2147483648 ∧ k < 600 ∧ z < 3 ∧ (wrap64 ((q2 : Int).tdiv 64)).tmod 600 = (k : Int) ∧ wrap64 ((k : Int).tdiv 256) = ((k / 256 : Nat) : Int) ∧ (wrap64 ((q2 : Int).tdiv 8192)).tmod 3 = (z : Int) ∧ bits .and .i64 ((q : Int) * 1103515 + 12345) 2147483647 = (q2 : Int) := by
  obtain ⟨r, hr⟩ : ∃ r : Int, ((q : Int) * 1103515 + 12345) % 2147483648 = r := ⟨_, rfl⟩
  have r0 : 0 ≤ r := by rw [← hr]; exact Int.emod_nonneg _ (by decide)
  have r1 : r < 2147483648 := by rw [← hr]; exact Int.emod_lt_of_pos _ (by decide)
  obtain ⟨q2, hq2⟩ : ∃ q2 : Nat, r = (q2 : Int) := ⟨r.toNat, (Int.toNat_of_nonneg r0).symm⟩
  have h0 : q2 < 2147483648 := by omega
  have h1 : (q2 : Int) = ((q : Int) * 1103515 + 12345) % 2147483648 := by rw [hr, hq2]
  obtain ⟨k, hkd⟩ : ∃ k, q2 / 64 % 600 = k := ⟨_, rfl⟩
  obtain ⟨z, hzd⟩ : ∃ z, q2 / 8192 % 3 = z := ⟨_, rfl⟩
  have hk : k < 600 := by omega
  have hz : z < 3 := by omega
  have e1 := lg_k h0 hkd
  have e2 := lg_d hk
  have e3 := lg_z h0 hzd
  refine ⟨q2, k, z, h0, hk, hz, e1, e2, e3, ?_⟩
  rw [and31]
  exact h1.symm
/-- the map and the table that tells it -/
structure LgI (w0 w : World) (g i tk : Nat) (vo : Value) (R : List PV) (ps : Pgs) (th : List Nat) : Prop where
  sh : ShI w0 w g i vo R ps
  fl : ps.flatten = tb th
  len : th.length = 600
  tab : ∃ cur, w.heap[tk]? = some (.cells cur 3 (0, 0)) ∧ cur.size = 600 ∧ ∀ j, j < 600 → cur[j]? = some (.int .i64 (th.getD j 0 : Nat))
  le : ∀ j, th.getD j 0 ≤ 256
  tkg : w0.heap.size ≤ tk
  tka : ¬ MS g vo R tk
  tkd : ¬ MD R tk
theorem LgI.cell {w0 w : World} {g i tk : Nat} {vo : Value} {R : List PV} {ps : Pgs} {th : List Nat} (h : LgI w0 w g i tk vo R ps th) {j : Nat} (hj : j < 600) : w.cell? ⟨tk, 0 + j, none⟩ = some (.int .i64 (th.getD j 0 : Nat)) ∧ tk < w.heap.size := by
  obtain ⟨cur, h1, _, h3⟩ := h.tab
  rw [Nat.zero_add]
  exact ⟨(cells_of h1 j).trans (h3 j hj), lt_of_heap h1⟩
theorem LgI.then0 {w0 w w' : World} {g i tk : Nat} {vo : Value} {R : List PV} {ps : Pgs} {th : List Nat} (h : LgI w0 w g i tk vo R ps th) (m : Mods noB w w') : LgI w0 w' g i tk vo R ps th := by
  obtain ⟨cur, h1, h2, h3⟩ := h.tab
  exact ⟨h.sh.then0 m, h.fl, h.len, ⟨cur, m.heap h1 (fun x => x), h2, h3⟩, h.le, h.tkg, h.tka, h.tkd⟩
theorem LgI.start {w0 w w' : World} {g : Nat} (pm : PM w g (.slice none 0 0) []) (m : Mods noB w0 w) (hg : w0.heap.size ≤ g) (h : w'.heap[w.heap.size]? = some (.cells (madeCells #[.int .i64 0] 600) 3 (0, 0))) (m' : Mods noB w w') : LgI w0 w' g 0 w.heap.size (.slice none 0 0) [] [] (List.replicate 600 0) := by
  have hz : ∀ j, (List.replicate 600 0).getD j 0 = 0 := fun j => by
    rw [List.getD_eq_getElem?_getD, List.getElem?_replicate]
    split <;> rfl
  refine ⟨⟨⟨pm.keep0 m', rfl, m.then0 m', fun k hk => by
      rcases hk with rfl | hk | ⟨p, hp, _⟩
      · exact hg
      · simp [Value.ownBlock] at hk
      · exact (List.not_mem_nil hp).elim⟩, ⟨List.Pairwise.nil, fun p hp => (List.not_mem_nil hp).elim, fun p hp => (List.not_mem_nil hp).elim⟩, trivial, Nat.le_refl _⟩, ?_, List.length_replicate, ⟨_, h, size_madeCells _ _, fun j hj => by rw [hz]; exact made_get _ _ _ hj⟩, fun j => by rw [hz]; omega, m.size, fun hk => ?_, fun ⟨p, hp, _⟩ => (List.not_mem_nil hp).elim⟩
  · unfold tb seg
    have : ∀ l : List Nat, l.filterMap (ent1 (List.replicate 600 0)) = [] := fun l => by
      induction l with
      | nil => rfl
      | cons a l ih => rw [List.filterMap_cons]; unfold ent1; rw [hz, if_pos rfl]; exact ih
    rw [this]; rfl
  · have := pm.lt _ hk; omega
/-- the map was changed, the table not yet -/
structure LgJ (w0 w : World) (g i tk : Nat) (vo : Value) (R : List PV) (ps : Pgs) (th : List Nat) (fl : List Ent) : Prop where
  sh : ShI w0 w g i vo R ps
  fl : ps.flatten = fl
  len : th.length = 600
  tab : ∃ cur, w.heap[tk]? = some (.cells cur 3 (0, 0)) ∧ cur.size = 600 ∧ ∀ j, j < 600 → cur[j]? = some (.int .i64 (th.getD j 0 : Nat))
  le : ∀ j, th.getD j 0 ≤ 256
  tkg : w0.heap.size ≤ tk
  tka : ¬ MS g vo R tk
  tkd : ¬ MD R tk
theorem LgI.set {w0 w : World} {g i tk k x : Nat} {kv vv : Value} {vo : Value} {R : List PV} {ps : Pgs} {th : List Nat} (h : LgI w0 w g i tk vo R ps th) (hk : k < 600) (hi : i ≤ 100000) (rk : Rd w kv (kb k)) (rv : Rd w vv [UInt8.ofNat x]) :
    Calls Try.prog 12 #[.pointer (some ⟨g, 0, none⟩), kv, vv] w fun e w' => e = .returned (.bool (decide (th.getD k 0 = 0))) ∧ (∃ vo R qs, LgJ w0 w' g (i + 1) tk vo R qs th (tb (th.set k (x + 1)))) ∧ w'.cell? ⟨tk, 0 + k, none⟩ = some (.int .i64 (th.getD k 0 : Nat)) ∧ tk < w'.heap.size := by
  have hp := pages_le h.sh.ok
  have hcn := h.sh.cn
  obtain ⟨cur, h1, h2, h3⟩ := h.tab
  refine (kn_set h.sh.kn rk rv (by simp [kb]) (by simp) h.sh.ok (by omega) (by omega)).mono ?_
  rintro e w' ⟨rfl, vo', R', h', t⟩
  have h1' := t.mods.heap h1 h.tka
  have hn : newP ps (kb k) = decide (th.getD k 0 = 0) := by
    unfold newP
    rw [tb_there h.sh.ok h.fl hk]
    simp
  refine ⟨by rw [hn], ⟨vo', R', _, ⟨h', setP_ok h.sh.ok _ _, setP_adj h.sh.ok h.sh.adj _ _, Nat.le_trans (setP_cnt h.sh.ok _ _) (by omega)⟩, by rw [setP_flat h.sh.ok, h.fl, tb_ins hk h.len], h.len, ⟨cur, h1', h2, h3⟩, h.le, h.tkg, fun x => ?_, fun x => ?_⟩, ?_, lt_of_heap h1'⟩
  · rcases t.ms tk x with y | y
    · exact h.tka y
    · have := lt_of_heap h1; omega
  · rcases t.md tk x with y | y
    · exact h.tkd y
    · have := lt_of_heap h1; omega
  · rw [Nat.zero_add]; exact (cells_of h1' k).trans (h3 k hk)
theorem LgI.del {w0 w : World} {g i tk k : Nat} {kv : Value} {vo : Value} {R : List PV} {ps : Pgs} {th : List Nat} (h : LgI w0 w g i tk vo R ps th) (hk : k < 600) (hi : i ≤ 100000) (rk : Rd w kv (kb k)) :
    Calls Try.prog 14 #[.pointer (some ⟨g, 0, none⟩), kv] w fun e w' => e = .returned (.bool (decide (th.getD k 0 ≠ 0))) ∧ (∃ vo R qs, LgJ w0 w' g (i + 1) tk vo R qs th (tb (th.set k 0))) ∧ w'.cell? ⟨tk, 0 + k, none⟩ = some (.int .i64 (th.getD k 0 : Nat)) ∧ tk < w'.heap.size := by
  have hp := pages_le h.sh.ok
  have hcn := h.sh.cn
  obtain ⟨cur, h1, h2, h3⟩ := h.tab
  refine (kn_del h.sh.kn rk h.sh.ok (by omega) (by omega)).mono ?_
  rintro e w' ⟨rfl, vo', R', h', t⟩
  have h1' := t.mods.heap h1 h.tka
  refine ⟨by rw [tb_there h.sh.ok h.fl hk], ⟨vo', R', _, ⟨h', delP_ok h.sh.ok _, delP_adj h.sh.ok h.sh.adj _, Nat.le_trans (delP_cnt h.sh.ok _) (by omega)⟩, by rw [delP_flat h.sh.ok, h.fl, tb_del hk h.len], h.len, ⟨cur, h1', h2, h3⟩, h.le, h.tkg, fun x => ?_, fun x => ?_⟩, ?_, lt_of_heap h1'⟩
  · rcases t.ms tk x with y | y
    · exact h.tka y
    · have := lt_of_heap h1; omega
  · rcases t.md tk x with y | y
    · exact h.tkd y
    · have := lt_of_heap h1; omega
  · rw [Nat.zero_add]; exact (cells_of h1' k).trans (h3 k hk)
/-- the table is written too -/
theorem LgJ.write {w0 w w' : World} {g i tk k x : Nat} {vo : Value} {R : List PV} {ps : Pgs} {th : List Nat} (h : LgJ w0 w g i tk vo R ps th (tb (th.set k x))) (hk : k < 600) (hx : x ≤ 256) (e : w' = w.setCell ⟨tk, k, none⟩ (.int .i64 (x : Nat))) : LgI w0 w' g i tk vo R ps (th.set k x) := by
  obtain ⟨cur, h1, h2, h3⟩ := h.tab
  have m : Mods (fun q => q = tk) w w' := by rw [e]; exact (Mods.refl (fun q => q = tk) w).setCell (p := ⟨tk, k, none⟩) (.inl rfl) _
  have hs := h.sh.kn
  have hd : ∀ q, MD R q → q ≠ tk := fun q hq x => h.tkd (x ▸ hq)
  refine ⟨⟨⟨hs.pm.keep m (fun q hq x => h.tka (x ▸ hq)) (fun q hq x => hd q hq x), hs.eq, hs.mods.trans m (fun _ _ x => x) (fun q hq x => by have := h.tkg; omega), hs.own⟩, h.sh.ok, h.sh.adj, h.sh.cn⟩, h.fl, by rw [List.length_set]; exact h.len,
    ⟨cur.setIfInBounds k (.int .i64 (x : Nat)), by rw [e]; exact heap_set h1 k _, by simp [h2], fun j hj => ?_⟩, fun j => ?_, h.tkg, h.tka, h.tkd⟩
  · rw [set_getD (by rw [h.len]; exact hk), Array.getElem?_setIfInBounds]
    by_cases hjk : k = j
    · subst hjk; simp [h2, hk]
    · rw [if_neg hjk, if_neg (fun x => hjk x.symm)]; exact h3 j hj
  · rw [set_getD (by rw [h.len]; exact hk)]
    split
    · exact hx
    · exact h.le j

namespace pageLong
open Go.Gl Go.RowKit Go.ChangeShapes Go.WideShapes Go.ChangeAt
set_option maxRecDepth 100000
set_option maxHeartbeats 8000000 in
theorem walk (M N : Int) (w : World) (hM : -9223372036854775808 ≤ M ∧ M ≤ 9223372036854775807) (hN : -9223372036854775808 ≤ N ∧ N ≤ 9223372036854775807) :
    Calls Try.prog 6 #[.int .i64 M, .int .i64 N] w fun e w' => e = .returned (.bool true) ∧ Below w.heap.size w w' := by
  have HMN := Lib.hid (And.intro hM hN)
  clear hM hN
  go_enter Try.func6, Try.ntmps6
  go_wp2_with fail
  refine (pknown_any _).mono ?_
  rintro e w1 ⟨rfl, m1⟩
  have M1 := Lib.hid m1
  clear m1
  go_wp2_with fail
  refine (PPlace_any N 4000 _ HMN.out.2.1 HMN.out.2.2 (by decide) (by decide)).mono ?_
  rintro e w2 ⟨n, rfl, hn0, hn1, rfl⟩
  obtain ⟨n, rfl⟩ : ∃ q : Nat, n = (q : Int) := ⟨n.toNat, by omega⟩
  go_wp2_with fail
  refine (PPlace2_any M 2147483647 _ HMN.out.1.1 HMN.out.1.2 (by decide) (by decide)).mono ?_
  rintro e w2 ⟨s, rfl, hs0, hs1, rfl⟩
  obtain ⟨s, rfl⟩ : ∃ q : Nat, s = (q : Int) := ⟨s.toNat, by omega⟩
  go_wp2_with fail
  refine (New_any w1).mono ?_
  rintro e w3 ⟨g, rfl, pm, m3, hg⟩
  go_wp2_with (refine wpList_mki rfl (.const (.int .i64 600)) (.const (.int .i64 600)) (by rfl) .i64 .i64 600 (by rfl) (by rfl) (by omega) ?_; intro w4 h4 m4 z4; have I0 := Lib.hid (LgI.start pm m3 hg h4 m4); clear h4 m4 z4 pm m3 hg)
  generalize w3.heap.size = tk at *
  go_wp2
  go_loopw [6, 9, 10, 11] (fun s i _ _ wr => ∃ (j q : Nat), i = .int .i64 j ∧ j ≤ n ∧ s = .int .i64 q ∧ q < 2147483648 ∧ Hid (∃ vo R ps th, LgI w1 wr g j tk vo R ps th)) (fun _ i _ _ _ => n - (intOf i).toNat)
  case atStart => exact ⟨0, s, rfl, by omega, rfl, by omega, Lib.hid ⟨_, _, _, _, I0.out⟩⟩
  case round =>
    clear I0
    obtain ⟨j, q, rfl, hj, rfl, hq, hR⟩ := hrel
    obtain ⟨vo, R, ps, th, h⟩ := hR.out
    have H := Lib.hid h
    clear hR h
    by_cases h1 : j < n
    · have h1b : (j : Int) < (n : Int) := by omega
      obtain ⟨q', k, z, hq2, hk6, hz3, e1, e2, e3, hq1⟩ := lg_step q
      have E := Lib.hid (And.intro e1 (And.intro e2 (And.intro e3 hq1)))
      clear e1 e2 e3 hq1
      go_upto_region 13 with fail
      rw [E.out.2.2.2, E.out.1, E.out.2.1]
      have hkey : Rd (wr.alloc (.cells #[.int .u8 (((k / 256 : Nat) : Int) % 256), .int .u8 ((k : Int) % 256)] 5)) (.slice (some ⟨wr.heap.size, 0, none⟩) 2 2) (kb k) := by
        have ob : OB (wr.alloc (.cells #[.int .u8 (((k / 256 : Nat) : Int) % 256), .int .u8 ((k : Int) % 256)] 5)) 5 1 wr.heap.size 0 2 2 (bv (kb k)) := ⟨rfl, Nat.le_refl _, by simp [maxLen], _, heap_new _ _, by simp, fun j x hj => by
          rw [Nat.zero_add]
          rcases j with _ | _ | j
          · simpa [bv, kb] using hj
          · simpa [bv, kb] using hj
          · simp [bv, kb] at hj⟩
        exact ob.own.rd
      have HKEY := Lib.hid hkey
      have m4 := (Mods.refl noB wr).alloc (.cells #[.int .u8 (((k / 256 : Nat) : Int) % 256), .int .u8 ((k : Int) % 256)] 5)
      have H4 := Lib.hid (H.out.then0 m4)
      clear hkey m4 H
      generalize wr.alloc _ = w4 at *
      generalize wr.heap.size = kh at *
      by_cases hz : 0 < q' / 8192 % 3
      · refine wp_tl (d := .region 13 (opsC 13 Try.f6) false) (by kernel_rfl) ?_
        refine RW.wp (plg13t hq2 hz ?_)
        intros
        rename_i hw
        subst hw
        clear hz
        go_upto_region 14 with fail
        by_cases hx : th.getD k 0 = 0
        · skip
          refine wp_tl (d := .region 14 (opsC 14 Try.f6) true) (by kernel_rfl) ?_
          refine RW.wp (plg14z (tq := 0) (X := fun w' => ∃ vo R qs, LgJ w1 w' g (j + 1) tk vo R qs th (tb (th.set k (j % 256 + 1)))) (H4.out.cell hk6).1 (H4.out.cell hk6).2 hk6 hx (fun b' h m hh => by
            have := (H4.out.then0 m).set (x := j % 256) hk6 (by omega) (HKEY.out.keep m (fun _ _ x => x)) (rd_lit hh (by rw [UInt8.toNat_ofNat']; omega))
            rw [decide_eq_true hx] at this
            exact this) ?_)
          intros
          rename_i w7 hx7
          have HX := Lib.hid hx7
          clear hx7 hx H4 HKEY
          obtain ⟨vo7, R7, p7, h7⟩ := HX.out
          obtain ⟨cur, t1, t2, t3⟩ := h7.tab
          have H7 := Lib.hid h7
          have hcur : (cur[0 + k]?).isSome = true := by rw [Nat.zero_add, t3 k hk6]; rfl
          clear h7 HX
          go_upto_region 16 with fail
          refine wp_tl (d := .region 16 (opsC 16 Try.f6) false) (by kernel_rfl) ?_
          refine RW.wp (plg16 (v := undef) (tq := 0) (j := j) t1 hcur hk6 (by omega) ?_)
          intros
          rename_i w8 h8
          have H8 := Lib.hid (H7.out.write (w' := w8) hk6 (by omega) (by rw [h8, Nat.zero_add]; rw [Nat.add_comm]))
          clear h8 t1 t2 t3 hcur H7
          go_wp2
          go_roundw
          case rel => exact ⟨j + 1, q', by go_num, by omega, rfl, hq2, Lib.hid ⟨_, _, _, _, H8.out⟩⟩
          case measure => simp [intOf]; omega
        · skip
          refine wp_tl (d := .region 14 (opsC 14 Try.f6) true) (by kernel_rfl) ?_
          refine RW.wp (plg14n (tq := 0) (X := fun w' => ∃ vo R qs, LgJ w1 w' g (j + 1) tk vo R qs th (tb (th.set k (j % 256 + 1)))) (H4.out.cell hk6).1 (H4.out.cell hk6).2 hk6 hx (fun b' h m hh => by
            have := (H4.out.then0 m).set (x := j % 256) hk6 (by omega) (HKEY.out.keep m (fun _ _ x => x)) (rd_lit hh (by rw [UInt8.toNat_ofNat']; omega))
            rw [decide_eq_false hx] at this
            exact this) ?_)
          intros
          rename_i w7 hx7
          have HX := Lib.hid hx7
          clear hx7 hx H4 HKEY
          obtain ⟨vo7, R7, p7, h7⟩ := HX.out
          obtain ⟨cur, t1, t2, t3⟩ := h7.tab
          have H7 := Lib.hid h7
          have hcur : (cur[0 + k]?).isSome = true := by rw [Nat.zero_add, t3 k hk6]; rfl
          clear h7 HX
          go_upto_region 16 with fail
          refine wp_tl (d := .region 16 (opsC 16 Try.f6) false) (by kernel_rfl) ?_
          refine RW.wp (plg16 (v := undef) (tq := 0) (j := j) t1 hcur hk6 (by omega) ?_)
          intros
          rename_i w8 h8
          have H8 := Lib.hid (H7.out.write (w' := w8) hk6 (by omega) (by rw [h8, Nat.zero_add]; rw [Nat.add_comm]))
          clear h8 t1 t2 t3 hcur H7
          go_wp2
          go_roundw
          case rel => exact ⟨j + 1, q', by go_num, by omega, rfl, hq2, Lib.hid ⟨_, _, _, _, H8.out⟩⟩
          case measure => simp [intOf]; omega
      · refine wp_tl (d := .region 13 (opsC 13 Try.f6) false) (by kernel_rfl) ?_
        refine RW.wp (plg13f hq2 hz ?_)
        intros
        rename_i hw
        subst hw
        clear hz
        go_upto_region 17 with fail
        by_cases hx : th.getD k 0 = 0
        · skip
          refine wp_tl (d := .region 17 (opsC 17 Try.f6) true) (by kernel_rfl) ?_
          refine RW.wp (plg17z (tq := 0) (X := fun w' => ∃ vo R qs, LgJ w1 w' g (j + 1) tk vo R qs th (tb (th.set k (0)))) (H4.out.cell hk6).1 (H4.out.cell hk6).2 hk6 hx (fun b' m => by
            have := (H4.out.then0 m).del hk6 (by omega) (HKEY.out.keep m (fun _ _ x => x))
            rw [decide_eq_false (fun h => h hx)] at this
            exact this) ?_)
          intros
          rename_i w7 hx7
          have HX := Lib.hid hx7
          clear hx7 hx H4 HKEY
          obtain ⟨vo7, R7, p7, h7⟩ := HX.out
          obtain ⟨cur, t1, t2, t3⟩ := h7.tab
          have H7 := Lib.hid h7
          have hcur : (cur[0 + k]?).isSome = true := by rw [Nat.zero_add, t3 k hk6]; rfl
          clear h7 HX
          go_upto_region 19 with fail
          refine wp_tl (d := .region 19 (opsC 19 Try.f6) false) (by kernel_rfl) ?_
          refine RW.wp (plg19 (v := undef) (tq := 0) (j := j) t1 hcur hk6 (by omega) ?_)
          intros
          rename_i w8 h8
          have H8 := Lib.hid (H7.out.write (w' := w8) hk6 (by omega) (by rw [h8, Nat.zero_add]; rfl))
          clear h8 t1 t2 t3 hcur H7
          go_wp2
          go_roundw
          case rel => exact ⟨j + 1, q', by go_num, by omega, rfl, hq2, Lib.hid ⟨_, _, _, _, H8.out⟩⟩
          case measure => simp [intOf]; omega
        · skip
          refine wp_tl (d := .region 17 (opsC 17 Try.f6) true) (by kernel_rfl) ?_
          refine RW.wp (plg17n (tq := 0) (X := fun w' => ∃ vo R qs, LgJ w1 w' g (j + 1) tk vo R qs th (tb (th.set k (0)))) (H4.out.cell hk6).1 (H4.out.cell hk6).2 hk6 hx (fun b' m => by
            have := (H4.out.then0 m).del hk6 (by omega) (HKEY.out.keep m (fun _ _ x => x))
            rw [decide_eq_true hx] at this
            exact this) ?_)
          intros
          rename_i w7 hx7
          have HX := Lib.hid hx7
          clear hx7 hx H4 HKEY
          obtain ⟨vo7, R7, p7, h7⟩ := HX.out
          obtain ⟨cur, t1, t2, t3⟩ := h7.tab
          have H7 := Lib.hid h7
          have hcur : (cur[0 + k]?).isSome = true := by rw [Nat.zero_add, t3 k hk6]; rfl
          clear h7 HX
          go_upto_region 19 with fail
          refine wp_tl (d := .region 19 (opsC 19 Try.f6) false) (by kernel_rfl) ?_
          refine RW.wp (plg19 (v := undef) (tq := 0) (j := j) t1 hcur hk6 (by omega) ?_)
          intros
          rename_i w8 h8
          have H8 := Lib.hid (H7.out.write (w' := w8) hk6 (by omega) (by rw [h8, Nat.zero_add]; rfl))
          clear h8 t1 t2 t3 hcur H7
          go_wp2
          go_roundw
          case rel => exact ⟨j + 1, q', by go_num, by omega, rfl, hq2, Lib.hid ⟨_, _, _, _, H8.out⟩⟩
          case measure => simp [intOf]; omega
    · obtain rfl : j = n := by omega
      clear h1
      go_wp2_with fail
      refine (H.out.sh.shaped (by omega)).mono ?_
      rintro e w5 ⟨rfl, m5⟩
      have H5 := Lib.hid (H.out.then0 m5)
      clear m5 H
      go_wp2_with fail
      have hcn := H5.out.sh.cn
      have hpl := pages_le H5.out.sh.ok
      refine (kn_walked (n := 1073741824) (back := false) H5.out.sh.kn (Rd.nil _) (Rd.nil _) (by simp) (by simp) H5.out.sh.ok (by omega) (by omega)).mono ?_
      rintro e w6 ⟨v6, L, rfl, q6, l6⟩
      rw [wlk_all, List.take_of_length_le (by show cnt ps ≤ _; omega), H5.out.fl] at l6
      obtain ⟨a6, c6, rfl, _⟩ := q6.row.rd.form
      obtain ⟨ln, hln⟩ : ∃ m, L.length = m := ⟨_, rfl⟩
      have H6 := Lib.hid (H5.out.then0 q6.mods)
      have Q6 := Lib.hid q6
      have L6 := Lib.hid l6
      have HL := Lib.hid hln
      rw [hln]
      have hl4 : ln ≤ 4000 := by
        have := congrArg List.length l6
        rw [List.length_map, hln, ← H5.out.fl] at this
        have h9 : ps.flatten.length = cnt ps := rfl
        omega
      clear q6 l6 hln hcn hpl H5
      go_wp2
      go_loopw [13, 14] (fun a i wr => ∃ k : Nat, k ≤ 600 ∧ i = .int .i64 k ∧ a = .int .i64 ((seg th 0 k).length : Nat) ∧ Hid (Mods noB w6 wr)) (fun _ i _ => 600 - (intOf i).toNat)
      case atStart => exact ⟨0, by omega, rfl, rfl, Lib.hid (Mods.refl _ _)⟩
      case round =>
        obtain ⟨k, hk, rfl, rfl, hM⟩ := hrel
        by_cases hlt : k < 600
        · obtain ⟨c0, ht⟩ := (H6.out.then0 hM.out).cell hlt
          have hsg := congrArg List.length (seg_succ th k)
          rw [List.length_append] at hsg
          by_cases hx : th.getD k 0 = 0
          · have h0 : (ent1 th k).toList.length = 0 := by unfold ent1; rw [if_pos hx]; rfl
            rw [hx, Nat.zero_add] at c0
            have hkI : (k : Int) < 600 := by omega
            have HKK := Lib.hid hlt
            have HS := Lib.hid (show (seg th 0 (k + 1)).length = (seg th 0 k).length by omega)
            clear hsg h0 hx hlt hk
            generalize (seg th 0 k).length = a at *
            go_wp2
            go_roundw
            case rel => exact ⟨k + 1, by have := HKK.out; omega, by go_num, by rw [HS.out], hM⟩
            case measure => simp [intOf]; omega
          · have h0 : (ent1 th k).toList.length = 1 := by unfold ent1; rw [if_neg hx]; rfl
            have hat := tb_at hlt hx
            have hle := H6.out.le k
            obtain ⟨y, hy⟩ : ∃ y, th.getD k 0 = y + 1 := ⟨th.getD k 0 - 1, by omega⟩
            rw [hy] at c0 hat hle
            have HS := Lib.hid (show (seg th 0 (k + 1)).length = (seg th 0 k).length + 1 by omega)
            clear hsg h0 hx hy
            generalize (seg th 0 k).length = a at *
            rw [← L6.out, List.getElem?_map] at hat
            obtain ⟨ev, hev, hee⟩ := Option.map_eq_some_iff.1 hat
            obtain ⟨hal, hee2⟩ := List.getElem?_eq_some_iff.1 hev
            obtain ⟨aa, ac, e9, ha⟩ := (Q6.out.prow.keep0 hM.out).at
            obtain ⟨b, off, rfl, hb, k1, k2⟩ := ha a hal
            obtain ⟨rfl, _, rfl⟩ : a6 = some ⟨b, off, none⟩ ∧ ln = L.length ∧ c6 = ac := by rw [HL.out] at e9 ⊢; simpa using e9
            obtain ⟨o1, o2⟩ := (Q6.out.prow.keep0 hM.out).own _ (List.getElem_mem hal)
            rw [hee2, show ev.k = kb k from congrArg Prod.fst hee] at o1
            rw [hee2, show ev.v = [UInt8.ofNat y] from congrArg Prod.snd hee] at o2
            rw [hee2] at k1 k2
            have C0 := Lib.hid c0
            have hal2 : a < ln := by rw [← HL.out]; exact hal
            have HKK := Lib.hid hlt
            have HLE := Lib.hid hle
            have HAL := Lib.hid hal2
            have HB := Lib.hid (And.intro hb ht)
            have HL4 := Lib.hid hl4
            have hkI : (k : Int) < 600 := by omega
            clear hat hee hee2 hev e9 ha hlt hk hle c0 hal hal2 hb ht hl4
            go_upto_region 27 with fail
            refine wp_tl (d := .region 27 (opsC 27 Try.f6) false) (by kernel_rfl) ?_
            refine RW.wp (plg27n (tq := 0) C0.out HKK.out ?_)
            intros
            rename_i hw
            subst hw
            clear hkI
            go_upto_region 28 with fail
            refine wp_tl (d := .region 28 (opsC 28 Try.f6) true) (by kernel_rfl) ?_
            refine RW.wp (plg28 (tq := 0) k1 k2 C0.out HB.out.1 HB.out.2 HAL.out (by have := HL4.out; omega) HKK.out (by have := HLE.out; omega) o1 o2 ?_)
            intros
            rename_i w8 m8
            have M8 := Lib.hid (hM.out.then0 m8)
            clear k1 k2 o1 o2 m8 hM
            have hkI : (k : Int) < 600 := by have := HKK.out; omega
            have haI : (a : Int) < 4000 := by have := HAL.out; have := HL4.out; omega
            go_wp2
            go_roundw
            case rel => exact ⟨k + 1, by have := HKK.out; omega, by go_num, by rw [HS.out]; go_num, M8⟩
            case measure => simp [intOf]; omega
        · obtain rfl : k = 600 := by omega
          have hlen : (seg th 0 600).length = ln := by
            have := congrArg List.length L6.out
            rw [List.length_map, HL.out] at this
            exact this.symm
          rw [hlen]
          have MM := Lib.hid (M1.out.then0 (H6.out.then0 hM.out).sh.kn.mods)
          clear hlen hM hlt
          go_wp2
          go_ret
          exact ⟨by simp, MM.out.below⟩

end pageLong
end Go.Proofs.Ytjlomnhngngkiaa

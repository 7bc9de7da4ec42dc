/- rec.short; rec.through's nums, decs, flag: writing, reading. -/
import Derived.Test.YtnkbbclcileleaaRecP
import Derived.Test.YtnkbbclcileleaaEKnown
import Derived.StillTailTactics
namespace Go.Proofs.Ytnkbbclcileleaa
open Go.Gl Go.RowKit
set_option linter.unusedVariables false
set_option maxRecDepth 100000

/-- limbs that aren't too long to be laid -/
def shortL (ls : List Nat) : List Nat := if blen (dval 18446744073709551616 ls) ≤ 255 then ls else []
theorem dval_shortL (ls : List Nat) : dval 18446744073709551616 (shortL ls) = shortN (dval 18446744073709551616 ls) := by
  unfold shortL shortN
  split
  · rfl
  · rfl
theorem shortL_lim {ls : List Nat} (h : Lim ls) : Lim (shortL ls) := by
  unfold shortL
  split
  · exact h
  · exact fun x hx => by cases hx
theorem shortL_len (ls : List Nat) : (shortL ls).length ≤ ls.length := by
  unfold shortL
  split
  · exact Nat.le_refl _
  · simp

theorem wnatX_len' (e : Int) (xs : List UInt8) (N : Nat) : (wnatX e xs N).length ≤ xs.length + 256 := by
  unfold wnatX
  split
  · rename_i h
    have := wput_le e xs (natL N)
    have h2 : (natL N).length = 1 + blen N := by rw [natL, List.length_append, be_length, natB_length]
    omega
  · omega

set_option maxHeartbeats 1000000 in
theorem short_any {w : World} {u : Value} {ls : List Nat} (hu : RN w u ls) (hL : Lim ls) (hl : ls.length ≤ 1000000) :
    Calls Try.prog 78 #[.agg #[u]] w fun r w' => ∃ u', r = .returned (.agg #[u']) ∧ RN w' u' (shortL ls) ∧ Mods noB w w' := by
  obtain ⟨a, c, rfl, _⟩ := RdM.form hu
  have HU := Lib.hid hu
  have HL := Lib.hid hL
  clear hu hL
  have h1 := heap_old (heap_old (heap_new w (.cells #[.slice a ls.length c] 30)) (.cells #[.slice none 0 0] 30)) (.cells #[.slice none 0 0, .int .i64 0] 108)
  have h2 := heap_old (heap_new (w.alloc (.cells #[.slice a ls.length c] 30)) (.cells #[.slice none 0 0] 30)) (.cells #[.slice none 0 0, .int .i64 0] 108)
  have h3 := heap_new ((w.alloc (.cells #[.slice a ls.length c] 30)).alloc (.cells #[.slice none 0 0] 30)) (.cells #[.slice none 0 0, .int .i64 0] 108)
  have hm := ((((Mods.refl noB w).alloc (.cells #[.slice a ls.length c] 30)).alloc (.cells #[.slice none 0 0] 30)).alloc (.cells #[.slice none 0 0, .int .i64 0] 108))
  simp only [World.size_alloc] at h2 h3
  have K := Lib.hid (And.intro h1 (And.intro h2 (And.intro h3 hm)))
  clear h1 h2 h3 hm
  go_enter Try.func78, Try.ntmps78
  go_wp2_with fail
  generalize World.alloc (World.alloc (World.alloc w _) _) _ = wx at *
  have hW : Wr wx (w.heap.size + 1 + 1) (.slice none 0 0) [] 0 := ⟨K.out.2.2.1, Own.nil _, by simp [Value.ownBlock]⟩
  refine (WDec_any hW (HU.out.keep K.out.2.2.2 (fun _ _ x => x)) HL.out hl (by simp)).mono ?_
  rintro r w1 ⟨rfl, v1, hs⟩
  generalize hN : dval 18446744073709551616 ls = N at *
  have HN := Lib.hid hN
  have hS : ∀ k, k < w.heap.size + 1 + 1 → ¬ WS (w.heap.size + 1 + 1) (.slice none 0 0) k := fun k hk x => by
    rcases x with x | x
    · omega
    · simp [Value.ownBlock] at x
  have c1 := cells_of (hs.mods.heap K.out.1 (hS _ (by omega))) 0
  have g2 := hs.mods.heap K.out.2.1 (hS _ (by omega))
  have M1 := Lib.hid (show Mods noB w w1 from K.out.2.2.2.trans hs.mods (fun _ _ x => x) (fun i hi x => hS i (by omega) x))
  have HW1 := Lib.hid hs.wr
  have HG2 := Lib.hid g2
  clear hs hS hW K hN g2
  by_cases hb : blen N ≤ 255
  · have e1 : wnatE 0 N = 0 := if_pos hb
    have e2 : shortL ls = ls := by unfold shortL; rw [HN.out, if_pos hb]
    have E2 := Lib.hid e2
    rw [e1] at HW1
    clear e1 e2
    go_wp2_with fail
    refine (WOut_any HW1.out (by have := wnatX_len' 0 [] N; simp at this; omega)).mono ?_
    rintro r w2 ⟨ub, rfl, ou, mu, fu⟩
    obtain ⟨ua, uc, rfl, _⟩ := ou.rd.form
    have hlt := lt_of_heap HG2.out
    have hsz := M1.out.size
    have c2 := (mu.cellAt (by omega) (fun x => x) 0).trans c1
    have d2 := cells_of (mu.heap HG2.out (fun x => x))
    have f2 := free_of (mu.heap HG2.out (fun x => x))
    have M2 := Lib.hid (M1.out.then0 mu)
    have HG3 := Lib.hid (mu.heap HG2.out (fun x => x))
    clear ou mu fu c1
    go_wp2
    have d3 := cells_of (heap_set HG3.out 0 (.slice a ls.length c))
    simp at d3
    refine bodyPost_ret (by simp [results, Try.results78, go_sem, d3]; try rfl) rfl ?_
    refine ⟨_, rfl, ?_, ?_⟩
    · rw [E2.out]
      exact HU.out.keep (M2.out.setCell (.inr (by simp)) _) (fun _ _ x => x)
    · exact M2.out.setCell (.inr (by simp)) _
  · have e1 : wnatE 0 N = 42 := by unfold wnatE; rw [if_neg hb]; rfl
    have e2 : shortL ls = [] := by unfold shortL; rw [HN.out, if_neg hb]
    have E2 := Lib.hid e2
    rw [e1] at HW1
    clear e1 e2
    go_wp2_with fail
    refine (WOut_any HW1.out (by have := wnatX_len' 0 [] N; simp at this; omega)).mono ?_
    rintro r w2 ⟨ub, rfl, ou, mu, fu⟩
    obtain ⟨ua, uc, rfl, _⟩ := ou.rd.form
    have hlt := lt_of_heap HG2.out
    have hsz := M1.out.size
    have d2 := cells_of (mu.heap HG2.out (fun x => x))
    have f2 := free_of (mu.heap HG2.out (fun x => x))
    have M2 := Lib.hid (M1.out.then0 mu)
    have HG3 := Lib.hid (mu.heap HG2.out (fun x => x))
    clear ou mu fu c1
    go_wp2
    have d3 := cells_of (heap_set HG3.out 0 (.slice none 0 0))
    simp at d3
    refine bodyPost_ret (by simp [results, Try.results78, go_sem, d3]; try rfl) rfl ?_
    refine ⟨_, rfl, ?_, ?_⟩
    · rw [E2.out]
      exact RdM.nil _ _
    · exact M2.out.setCell (.inr (by simp)) _

/-- pointers to cells of one block -/
def ptr (B : Nat) (o : Nat) : Value := .pointer (some ⟨B, o, none⟩)

/-- what a writer's walk over a record's cells holds -/
structure TW (w : World) (g B : Nat) (v : Value) (cur : Array Value) (T : TypeId) (sl : Value) (os : List Nat) : Prop where
  wr : ∃ xs, Wr w g v xs 0
  box : w.heap[B]? = some (.cells cur T (0, 0))
  ne : ¬ WS g v B
  rd : RdM (ptr B) w sl os
  sb : ∀ k, sl.ownBlock = some k → k < w.heap.size ∧ ¬ WS g v k

theorem wput0' (xs ys : List UInt8) : wput 0 xs ys = xs ++ ys := if_pos rfl
theorem WS_lt {w : World} {g : Nat} {v : Value} {xs : List UInt8} {e : Int} (h : Wr w g v xs e) {k : Nat} (hk : WS g v k) : k < w.heap.size := by
  rcases hk with rfl | hk
  · exact h.lt
  · exact h.own.lt k hk

set_option maxHeartbeats 2000000 in
theorem nums_w {w : World} {g B : Nat} {v : Value} {xs : List UInt8} {cur : Array Value} {T : TypeId} {sl : Value} {os ns : List Nat} (h : Wr w g v xs 0) (ht : TW w g B v cur T sl os) (hn : ns.length = os.length) (hc : ∀ (i o x : Nat), os[i]? = some o → ns[i]? = some x → cur[o]? = some (.int .u64 x)) (hu : Lim ns) (hl : xs.length + 8 * ns.length ≤ 100000000) :
    Calls Try.prog 54 #[.agg #[.pointer (some ⟨g, 0, none⟩), .pointer none], sl] w fun r w' => r = .returned (.tuple #[]) ∧ ∃ v', WStep w g v (xs ++ ns.flatMap (be 8)) 0 w' v' := by
  obtain ⟨a, c, rfl, hlm⟩ := RdM.form ht.rd
  have HT := Lib.hid ht
  have HC := Lib.hid hc
  have HU := Lib.hid hu
  have b0 := heap_new w (.cells #[.pointer (some ⟨g, 0, none⟩), .pointer none] 111)
  have m0 := Lib.hid ((Mods.refl noB w).alloc (.cells #[.pointer (some ⟨g, 0, none⟩), .pointer none] 111))
  have W0 := Lib.hid (show ∃ v', WStep (w.alloc (.cells #[.pointer (some ⟨g, 0, none⟩), .pointer none] 111)) g v (xs ++ (ns.take 0).flatMap (be 8)) 0 (w.alloc (.cells #[.pointer (some ⟨g, 0, none⟩), .pointer none] 111)) v' from
    ⟨v, by simpa using WStep.refl (h.then0 m0.out)⟩)
  have hsz0 := Lib.hid (show w.heap.size < (w.alloc (.cells #[.pointer (some ⟨g, 0, none⟩), .pointer none] 111)).heap.size from by simp)
  have hws := fun k (hk : WS g v k) => WS_lt h hk
  have HB0 := Lib.hid (show (w.alloc (.cells #[.pointer (some ⟨g, 0, none⟩), .pointer none] 111)).heap[w.heap.size]? = _ from b0)
  have HW := Lib.hid hws
  have HLN := Lib.hid hn
  obtain ⟨n, hos⟩ : ∃ n, os.length = n := ⟨_, rfl⟩
  have HO := Lib.hid hos
  unfold maxLen at hlm
  rw [hos] at hlm ⊢
  clear ht hc hu b0 hws h hn hos
  go_enter Try.func54, Try.ntmps54
  go_wp2
  generalize World.alloc w _ = w0 at *
  go_loopw [8] (fun i wr => ∃ k : Nat, k ≤ n ∧ i = .int .i64 k ∧ Hid (∃ v', WStep w0 g v (xs ++ (ns.take k).flatMap (be 8)) 0 wr v' ∧ wr.heap[w.heap.size]? = some (.cells #[.pointer (some ⟨g, 0, none⟩), .pointer none] 111 (0, 0)))) (fun i _ => n - (intOf i).toNat)
  case atStart =>
    obtain ⟨v', h⟩ := W0.out
    exact ⟨0, Nat.zero_le _, rfl, Lib.hid ⟨v', h, HB0.out⟩⟩
  case round =>
    clear W0 HB0
    obtain ⟨k, hk, rfl, hR⟩ := hrel
    obtain ⟨v1, r1, r2⟩ := hR.out
    have R := Lib.hid r1
    have c0 := cells_of r2 0
    have c1 := cells_of r2 1
    have HB := Lib.hid r2
    clear hR r1 r2
    by_cases hlt : k < n
    · have lk : k < os.length := by rw [HO.out]; exact hlt
      have lx : k < ns.length := by rw [HLN.out]; exact lk
      have hx := HU.out _ (List.getElem_mem lx)
      have hcc := HC.out k os[k] ns[k] (List.getElem?_eq_getElem lk) (List.getElem?_eq_getElem lx)
      obtain ⟨g1, off, hsl, hsc⟩ : ∃ g1 off, a = some ⟨g1, off, none⟩ ∧ w.cell? ⟨g1, off + k, none⟩ = some (ptr B os[k]) := by
        rcases RdM.open HT.out.rd with ⟨_, h0⟩ | ⟨g1, off, cap, hv, _, _, _, h5⟩
        · rw [h0] at lk; simp at lk
        · cases hv
          exact ⟨g1, off, rfl, h5 k lk⟩
      subst hsl
      obtain ⟨hg1, hg2⟩ := HT.out.sb g1 rfl
      have M1 := Lib.hid (m0.out.trans R.out.mods (U := WS g v) (fun _ _ x => x.elim) (fun _ _ x => x))
      have d0 := (M1.out.cellAt hg1 hg2 (off + k)).trans hsc
      have d1 := (cells_of (M1.out.heap HT.out.box HT.out.ne) os[k]).trans hcc
      have HN1 := Lib.hid (show (ns.take (k + 1)).flatMap (be 8) = (ns.take k).flatMap (be 8) ++ be 8 ns[k] from by rw [List.take_succ_eq_append_getElem lx, List.flatMap_append]; simp)
      have hlk : (xs ++ (ns.take k).flatMap (be 8)).length ≤ 100000000 := by
        have : ∀ l : List Nat, (l.flatMap (be 8)).length = 8 * l.length := by
          intro l
          induction l with
          | nil => rfl
          | cons x l ih => rw [List.flatMap_cons, List.length_append, ih, be_length, List.length_cons]; omega
        rw [List.length_append, this, List.length_take]
        omega
      generalize os[k] = o at *
      generalize ns[k] = x at *
      clear hsc hcc hg1 hg2
      unfold ptr at d0
      go_wp2
      go_still_tail 5, (by kernel_rfl)
      change wpList _ _ _ _ _ wr.drew
      go_wp2_with fail
      refine (WU64_any x R.out.wr.drew hx (by omega)).mono ?_
      rintro r w5 ⟨rfl, v2, s2⟩
      have hb2 := s2.mods.heap (show wr.drew.heap[w.heap.size]? = _ from HB.out) (fun y => by
        rcases y with y | y
        · have := HW.out g (.inl rfl); omega
        · rcases R.out.blk with hb | hb
          · have := HW.out _ (.inr (hb ▸ y)); omega
          · have := hb _ y; have := hsz0.out; omega)
      have S2 := R.out.trans (s2.from ((Mods.refl noB wr).drew))
      rw [wput0', List.append_assoc, ← HN1.out] at S2
      have R2 := Lib.hid (And.intro S2 hb2)
      clear s2 hb2 S2 R HB d0 d1 c0 c1
      go_wp2
      go_roundw
      case rel => exact ⟨k + 1, by omega, by go_num, Lib.hid ⟨v2, R2.out⟩⟩
      case measure => simp [intOf]; omega
    · have e : ns.take k = ns := List.take_of_length_le (by rw [HLN.out, HO.out]; omega)
      have hr := R.out.from m0.out
      rw [e] at hr
      have R2 := Lib.hid hr
      clear R hr HB c0 c1
      go_wp2
      go_end0
      exact ⟨rfl, v1, R2.out⟩

theorem RN.keepW {S : Nat → Prop} {w w' : World} {u : Value} {ls : List Nat} (h : RN w u ls) (hm : Mods S w w') (ha : ls = [] ∨ ∀ k, u.ownBlock = some k → ¬ S k) : RN w' u ls := by
  rcases ha with rfl | ha
  · refine ⟨rfl, ?_⟩
    rcases h.2 with h2 | ⟨g, off, cap, hv, h1, h2, hg, h3⟩
    · exact .inl h2
    · exact .inr ⟨g, off, cap, hv, h1, h2, .inl rfl, fun j u hj => by simp at hj⟩
  · exact RdM.keep h hm ha

/-- what a number with places lays -/
def dlay (ls : List Nat) : List UInt8 := natL (shortN (dval 18446744073709551616 ls))
theorem dlay_len (ls : List Nat) : (dlay ls).length ≤ 256 := by
  have := shortN_blen (dval 18446744073709551616 ls)
  unfold dlay
  rw [natL, List.length_append, be_length, natB_length]
  omega

set_option maxHeartbeats 2000000 in
theorem decs_w {w : World} {g B : Nat} {v : Value} {xs : List UInt8} {cur : Array Value} {T : TypeId} {sl : Value} {os : List Nat} {us : List Value} {ns : List (List Nat)} (h : Wr w g v xs 0) (ht : TW w g B v cur T sl os) (hn : ns.length = os.length) (hun : us.length = os.length) (hc : ∀ (i o : Nat) (u : Value) (ls : List Nat), os[i]? = some o → us[i]? = some u → ns[i]? = some ls → cur[o]? = some u ∧ RN w u ls ∧ Lim ls ∧ ls.length ≤ 1000000 ∧ (ls = [] ∨ ∀ k, u.ownBlock = some k → ¬ WS g v k)) (hl : xs.length + 256 * ns.length ≤ 100000000) :
    Calls Try.prog 58 #[.agg #[.pointer (some ⟨g, 0, none⟩), .pointer none], sl] w fun r w' => r = .returned (.tuple #[]) ∧ ∃ v', WStep w g v (xs ++ ns.flatMap dlay) 0 w' v' := by
  obtain ⟨a, c, rfl, hlm⟩ := RdM.form ht.rd
  have HT := Lib.hid ht
  have HC := Lib.hid hc
  have HUN := Lib.hid hun
  have b0 := heap_new w (.cells #[.pointer (some ⟨g, 0, none⟩), .pointer none] 111)
  have m0 := Lib.hid ((Mods.refl noB w).alloc (.cells #[.pointer (some ⟨g, 0, none⟩), .pointer none] 111))
  have W0 := Lib.hid (show ∃ v', WStep (w.alloc (.cells #[.pointer (some ⟨g, 0, none⟩), .pointer none] 111)) g v (xs ++ (ns.take 0).flatMap dlay) 0 (w.alloc (.cells #[.pointer (some ⟨g, 0, none⟩), .pointer none] 111)) v' from
    ⟨v, by simpa using WStep.refl (h.then0 m0.out)⟩)
  have hsz0 := Lib.hid (show w.heap.size < (w.alloc (.cells #[.pointer (some ⟨g, 0, none⟩), .pointer none] 111)).heap.size from by simp)
  have hws := fun k (hk : WS g v k) => WS_lt h hk
  have HB0 := Lib.hid (show (w.alloc (.cells #[.pointer (some ⟨g, 0, none⟩), .pointer none] 111)).heap[w.heap.size]? = _ from b0)
  have HW := Lib.hid hws
  have HLN := Lib.hid hn
  obtain ⟨n, hos⟩ : ∃ n, os.length = n := ⟨_, rfl⟩
  have HO := Lib.hid hos
  unfold maxLen at hlm
  rw [hos] at hlm ⊢
  clear ht hc hun b0 hws h hn hos
  go_enter Try.func58, Try.ntmps58
  go_wp2
  generalize World.alloc w _ = w0 at *
  go_loopw [8] (fun i wr => ∃ k : Nat, k ≤ n ∧ i = .int .i64 k ∧ Hid (∃ v', WStep w0 g v (xs ++ (ns.take k).flatMap dlay) 0 wr v' ∧ wr.heap[w.heap.size]? = some (.cells #[.pointer (some ⟨g, 0, none⟩), .pointer none] 111 (0, 0)))) (fun i _ => n - (intOf i).toNat)
  case atStart =>
    obtain ⟨v', h⟩ := W0.out
    exact ⟨0, Nat.zero_le _, rfl, Lib.hid ⟨v', h, HB0.out⟩⟩
  case round =>
    clear W0 HB0
    obtain ⟨k, hk, rfl, hR⟩ := hrel
    obtain ⟨v1, r1, r2⟩ := hR.out
    have R := Lib.hid r1
    have c0 := cells_of r2 0
    have c1 := cells_of r2 1
    have HB := Lib.hid r2
    clear hR r1 r2
    by_cases hlt : k < n
    · have lk : k < os.length := by rw [HO.out]; exact hlt
      have lx : k < ns.length := by rw [HLN.out]; exact lk
      have lu : k < us.length := by rw [HUN.out]; exact lk
      obtain ⟨hcc, hru, hlu, hll, hap⟩ := HC.out k os[k] us[k] ns[k] (List.getElem?_eq_getElem lk) (List.getElem?_eq_getElem lu) (List.getElem?_eq_getElem lx)
      obtain ⟨g1, off, hsl, hsc⟩ : ∃ g1 off, a = some ⟨g1, off, none⟩ ∧ w.cell? ⟨g1, off + k, none⟩ = some (ptr B os[k]) := by
        rcases RdM.open HT.out.rd with ⟨_, h0⟩ | ⟨g1, off, cap, hv, _, _, _, h5⟩
        · rw [h0] at lk; simp at lk
        · cases hv
          exact ⟨g1, off, rfl, h5 k lk⟩
      subst hsl
      obtain ⟨hg1, hg2⟩ := HT.out.sb g1 rfl
      have M1 := Lib.hid (m0.out.trans R.out.mods (U := WS g v) (fun _ _ x => x.elim) (fun _ _ x => x))
      have d0 := (M1.out.cellAt hg1 hg2 (off + k)).trans hsc
      have d1 := (cells_of (M1.out.heap HT.out.box HT.out.ne) os[k]).trans hcc
      have HN1 := Lib.hid (show (ns.take (k + 1)).flatMap dlay = (ns.take k).flatMap dlay ++ dlay ns[k] from by rw [List.take_succ_eq_append_getElem lx, List.flatMap_append]; simp)
      have hlk : (xs ++ (ns.take k).flatMap dlay).length ≤ 100000000 := by
        have : ∀ l : List (List Nat), (l.flatMap dlay).length ≤ 256 * l.length := by
          intro l
          induction l with
          | nil => simp
          | cons x l ih => rw [List.flatMap_cons, List.length_append, List.length_cons]; have := dlay_len x; omega
        have h1 := this (ns.take k)
        rw [List.length_take] at h1
        rw [List.length_append]
        omega
      generalize os[k] = o at *
      generalize ns[k] = x at *
      generalize us[k] = u at *
      clear hsc hcc hg1 hg2
      unfold ptr at d0
      have HRU := Lib.hid (RN.keepW hru M1.out hap)
      obtain ⟨ua, uc, rfl, _⟩ := RdM.form hru
      have HSH := Lib.hid (fun (wy : World) (hm : Mods noB wr wy) => short_any (RdM.keep HRU.out hm (fun _ _ y => y)) hlu hll)
      have HB1 := Lib.hid (fun (wy : World) (hm : Mods noB wr wy) => (show wy.heap[w.heap.size]? = _ from hm.heap HB.out (fun y => y)))
      have HDC := Lib.hid (fun (wy : World) (u' : Value) (hm : Mods noB wr wy) (hu' : RN wy u' (shortL x)) => WDec_any (R.out.wr.then0 hm) hu' (shortL_lim hlu) (by have := shortL_len x; omega) (by omega))
      clear hru hap hll hlu HRU
      go_wp2
      go_region_with (first
        | (go_at_call 78; refine (HSH.out _ ?_).mono ?_; (next => (repeat' (first | exact Mods.refl _ _ | refine Mods.drew ?_ | refine Mods.drewN ?_ _))); rintro r w5 ⟨u', rfl, hu', m5⟩; obtain ⟨sa, sc, rfl, _⟩ := RdM.form hu'; have M5 : Mods noB wr w5 := Mods.trans (S := noB) (T := noB) (by repeat' (first | exact Mods.refl _ _ | refine Mods.drew ?_ | refine Mods.drewN ?_ _)) m5 (fun _ _ y => y) (fun _ _ y => y); have c0 := cells_of (HB1.out _ M5) 0)
        | (go_at_call 77; refine (HDC.out _ _ (Mods.trans (S := noB) (T := noB) M5 ?_ (fun _ _ y => y) (fun _ _ y => y)) (RdM.keep hu' (S := noB) ?_ (fun _ _ y => y))).mono ?_; (next => (repeat' (first | exact Mods.refl _ _ | refine Mods.drew ?_ | refine Mods.drewN ?_ _))); (next => (repeat' (first | exact Mods.refl _ _ | refine Mods.drew ?_ | refine Mods.drewN ?_ _))); rintro r w6 ⟨rfl, v2, s2⟩))
      all_goals
        have M6 : Mods noB wr _ := M5
        rw [dval_shortL, show wnatX 0 (xs ++ (ns.take k).flatMap dlay) (shortN (dval 18446744073709551616 x)) = (xs ++ (ns.take k).flatMap dlay) ++ dlay x from (if_pos (shortN_blen _)).trans (if_pos rfl), show wnatE 0 (shortN (dval 18446744073709551616 x)) = 0 from if_pos (shortN_blen _)] at s2
        have s3 := s2.from (Mods.trans (S := noB) (T := noB) M5 (by repeat' (first | exact Mods.refl _ _ | refine Mods.drew ?_ | refine Mods.drewN ?_ _)) (fun _ _ y => y) (fun _ _ y => y))
        have hb2 := s3.mods.heap HB.out (fun y => by
          rcases y with y | y
          · have := HW.out g (.inl rfl); omega
          · rcases R.out.blk with hb | hb
            · have := HW.out _ (.inr (hb ▸ y)); omega
            · have := hb _ y; have := hsz0.out; omega)
        have S2 := R.out.trans s3
        rw [List.append_assoc, ← HN1.out] at S2
        have R2 := Lib.hid (And.intro S2 hb2)
        clear s2 s3 hb2 S2 R HB c0 c1 M5 M6 HSH HB1 HDC hu' m5
        go_wp2
        go_roundw
        case rel => exact ⟨k + 1, by omega, by go_num, Lib.hid ⟨v2, R2.out⟩⟩
        case measure => simp [intOf]; omega
    · have e : ns.take k = ns := List.take_of_length_le (by rw [HLN.out, HO.out]; omega)
      have hr := R.out.from m0.out
      rw [e] at hr
      have R2 := Lib.hid hr
      clear R hr HB c0 c1
      go_wp2
      go_end0
      exact ⟨rfl, v1, R2.out⟩

set_option maxHeartbeats 1000000 in
theorem flag_w {w : World} {g B o : Nat} {v : Value} {xs : List UInt8} {b : Bool} (h : Wr w g v xs 0) (hc : w.cell? ⟨B, o, none⟩ = some (.bool b)) (hB : B < w.heap.size) (hl : xs.length ≤ 100000000) :
    Calls Try.prog 64 #[.agg #[.pointer (some ⟨g, 0, none⟩), .pointer none], .pointer (some ⟨B, o, none⟩)] w fun r w' => r = .returned (.tuple #[]) ∧ ∃ v', WStep w g v (xs ++ be 1 (if b then 1 else 0)) 0 w' v' := by
  have b0 := heap_new w (.cells #[.pointer (some ⟨g, 0, none⟩), .pointer none] 111)
  have m0 := (Mods.refl noB w).alloc (.cells #[.pointer (some ⟨g, 0, none⟩), .pointer none] 111)
  have c0 := cells_of b0 0
  have d0 := (m0.cellAt hB (fun x => x) o).trans hc
  have HW := Lib.hid (And.intro (h.then0 m0) m0)
  have HWB := Lib.hid (fun (wy : World) (k : Wr wy g v xs 0) => WBool_any b k (by omega))
  generalize be 1 (if b = true then 1 else 0) = ys at *
  clear h hc b0 m0
  go_enter Try.func64, Try.ntmps64
  go_wp2
  generalize World.alloc w _ = w0 at *
  go_still_tail 5, (by kernel_rfl)
  change wpList _ _ _ _ _ w0.drew
  go_wp2_with fail
  refine (HWB.out _ HW.out.1.drew).mono ?_
  rintro r w5 ⟨rfl, v2, s2⟩
  have S2 := Lib.hid (s2.from (HW.out.2.drew))
  clear s2
  go_wp2
  go_end0
  refine ⟨rfl, v2, ?_⟩
  have := S2.out
  rw [wput0'] at this
  exact this

end Go.Proofs.Ytnkbbclcileleaa

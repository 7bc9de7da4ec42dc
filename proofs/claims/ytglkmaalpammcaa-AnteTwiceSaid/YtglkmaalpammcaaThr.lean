/- rec.short; rec.through's nums, decs, flag: writing, reading. -/
import Derived.Test.YtglkmaalpammcaaRecP
import Derived.Test.YtglkmaalpammcaaEKnown
import Derived.StillTailTactics
namespace Go.Proofs.Ytglkmaalpammcaa
open Go.Gl Go.RowKit
set_option linter.unusedVariables false
set_option maxRecDepth 100000
def ptr (B : Nat) (o : Nat) : Value := .pointer (some ⟨B, o, none⟩)
structure TW (w : World) (g B : Nat) (v : Value) (cur : Array Value) (T : TypeId) (sl : Value) (os : List Nat) : Prop where
  wr : ∃ xs, Wr w g v xs 0
  box : w.heap[B]? = some (.cells cur T (0, 0))
  ne : ¬ WS g v B
  rd : RdM (ptr B) w sl os
  sb : ∀ k, sl.ownBlock = some k → k < w.heap.size ∧ ¬ WS g v k
theorem wput0' (xs ys : List UInt8) : wput 0 xs ys = xs ++ ys := if_pos rfl
theorem WS_lt {w : World} {g : Nat} {v : Value} {xs : List UInt8} {e : Int} (h : Wr w g v xs e) {k : Nat} (hk : WS g v k) : k < w.heap.size := by
  rcases hk with rfl | hk
  · exact h.lt
  · exact h.own.lt k hk
set_option maxHeartbeats 2000000 in
theorem nums_w {w : World} {g B : Nat} {v : Value} {xs : List UInt8} {cur : Array Value} {T : TypeId} {sl : Value} {os ns : List Nat} (h : Wr w g v xs 0) (ht : TW w g B v cur T sl os) (hn : ns.length = os.length) (hc : ∀ (i o x : Nat), os[i]? = some o → ns[i]? = some x → cur[o]? = some (.int .u64 x)) (hu : Lim ns) (hl : xs.length + 8 * ns.length ≤ 100000000) :
    Calls Try.prog 98 #[.agg #[.pointer (some ⟨g, 0, none⟩), .pointer none], sl] w fun r w' => r = .returned (.tuple #[]) ∧ ∃ v', WStep w g v (xs ++ ns.flatMap (be 8)) 0 w' v' := by
  obtain ⟨a, c, rfl, hlm⟩ := RdM.form ht.rd
  have HT := Lib.hid ht
  have HC := Lib.hid hc
  have HU := Lib.hid hu
  have b0 := heap_new w (.cells #[.pointer (some ⟨g, 0, none⟩), .pointer none] 169)
  have m0 := Lib.hid ((Mods.refl noB w).alloc (.cells #[.pointer (some ⟨g, 0, none⟩), .pointer none] 169))
  have W0 := Lib.hid (show ∃ v', WStep (w.alloc (.cells #[.pointer (some ⟨g, 0, none⟩), .pointer none] 169)) g v (xs ++ (ns.take 0).flatMap (be 8)) 0 (w.alloc (.cells #[.pointer (some ⟨g, 0, none⟩), .pointer none] 169)) v' from
    ⟨v, by simpa using WStep.refl (h.then0 m0.out)⟩)
  have hsz0 := Lib.hid (show w.heap.size < (w.alloc (.cells #[.pointer (some ⟨g, 0, none⟩), .pointer none] 169)).heap.size from by simp)
  have hws := fun k (hk : WS g v k) => WS_lt h hk
  have HB0 := Lib.hid (show (w.alloc (.cells #[.pointer (some ⟨g, 0, none⟩), .pointer none] 169)).heap[w.heap.size]? = _ from b0)
  have HW := Lib.hid hws
  have HLN := Lib.hid hn
  obtain ⟨n, hos⟩ : ∃ n, os.length = n := ⟨_, rfl⟩
  have HO := Lib.hid hos
  unfold maxLen at hlm
  rw [hos] at hlm ⊢
  clear ht hc hu b0 hws h hn hos
  go_enter Try.func98, Try.ntmps98
  go_wp2
  generalize World.alloc w _ = w0 at *
  go_loopw [8] (fun i wr => ∃ k : Nat, k ≤ n ∧ i = .int .i64 k ∧ Hid (∃ v', WStep w0 g v (xs ++ (ns.take k).flatMap (be 8)) 0 wr v' ∧ wr.heap[w.heap.size]? = some (.cells #[.pointer (some ⟨g, 0, none⟩), .pointer none] 169 (0, 0)))) (fun i _ => n - (intOf i).toNat)
  case atStart =>
    obtain ⟨v', h⟩ := W0.out
    exact ⟨0, Nat.zero_le _, rfl, Lib.hid ⟨v', h, HB0.out⟩⟩
  case round =>
    clear W0 HB0
    obtain ⟨k, hk, rfl, hR⟩ := hrel
    obtain ⟨v1, r1, r2⟩ := hR.out
    have R := Lib.hid r1
    have c0 := cells_of r2 0
    have c1 := cells_of r2 1
    have HB := Lib.hid r2
    clear hR r1 r2
    by_cases hlt : k < n
    · have lk : k < os.length := by rw [HO.out]; exact hlt
      have lx : k < ns.length := by rw [HLN.out]; exact lk
      have hx := HU.out _ (List.getElem_mem lx)
      have hcc := HC.out k os[k] ns[k] (List.getElem?_eq_getElem lk) (List.getElem?_eq_getElem lx)
      obtain ⟨g1, off, hsl, hsc⟩ : ∃ g1 off, a = some ⟨g1, off, none⟩ ∧ w.cell? ⟨g1, off + k, none⟩ = some (ptr B os[k]) := by
        rcases RdM.open HT.out.rd with ⟨_, h0⟩ | ⟨g1, off, cap, hv, _, _, _, h5⟩
        · rw [h0] at lk; simp at lk
        · cases hv
          exact ⟨g1, off, rfl, h5 k lk⟩
      subst hsl
      obtain ⟨hg1, hg2⟩ := HT.out.sb g1 rfl
      have M1 := Lib.hid (m0.out.trans R.out.mods (U := WS g v) (fun _ _ x => x.elim) (fun _ _ x => x))
      have d0 := (M1.out.cellAt hg1 hg2 (off + k)).trans hsc
      have d1 := (cells_of (M1.out.heap HT.out.box HT.out.ne) os[k]).trans hcc
      have HN1 := Lib.hid (show (ns.take (k + 1)).flatMap (be 8) = (ns.take k).flatMap (be 8) ++ be 8 ns[k] from by rw [List.take_succ_eq_append_getElem lx, List.flatMap_append]; simp)
      have hlk : (xs ++ (ns.take k).flatMap (be 8)).length ≤ 100000000 := by
        have : ∀ l : List Nat, (l.flatMap (be 8)).length = 8 * l.length := by
          intro l
          induction l with
          | nil => rfl
          | cons x l ih => rw [List.flatMap_cons, List.length_append, ih, be_length, List.length_cons]; omega
        rw [List.length_append, this, List.length_take]
        omega
      generalize os[k] = o at *
      generalize ns[k] = x at *
      clear hsc hcc hg1 hg2
      unfold ptr at d0
      go_wp2
      go_still_tail 5, (by kernel_rfl)
      change wpList _ _ _ _ _ wr.drew
      go_wp2_with fail
      refine (WU64_any x R.out.wr.drew hx (by omega)).mono ?_
      rintro r w5 ⟨rfl, v2, s2⟩
      have hb2 := s2.mods.heap (show wr.drew.heap[w.heap.size]? = _ from HB.out) (fun y => by
        rcases y with y | y
        · have := HW.out g (.inl rfl); omega
        · rcases R.out.blk with hb | hb
          · have := HW.out _ (.inr (hb ▸ y)); omega
          · have := hb _ y; have := hsz0.out; omega)
      have S2 := R.out.trans (s2.from ((Mods.refl noB wr).drew))
      rw [wput0', List.append_assoc, ← HN1.out] at S2
      have R2 := Lib.hid (And.intro S2 hb2)
      clear s2 hb2 S2 R HB d0 d1 c0 c1
      go_wp2
      go_roundw
      case rel => exact ⟨k + 1, by omega, by go_num, Lib.hid ⟨v2, R2.out⟩⟩
      case measure => simp [intOf]; omega
    · have e : ns.take k = ns := List.take_of_length_le (by rw [HLN.out, HO.out]; omega)
      have hr := R.out.from m0.out
      rw [e] at hr
      have R2 := Lib.hid hr
      clear R hr HB c0 c1
      go_wp2
      go_end0
      exact ⟨rfl, v1, R2.out⟩
def dlay (ls : List Nat) : List UInt8 := natL (shortN (dval 18446744073709551616 ls))
theorem dlay_len (ls : List Nat) : (dlay ls).length ≤ 256 := by
  have := shortN_blen (dval 18446744073709551616 ls)
  unfold dlay
  rw [natL, List.length_append, be_length, natB_length]
  omega
end Go.Proofs.Ytglkmaalpammcaa

/- rec.through's nums, decs, flag: reading into a record's cells. -/
import Derived.Test.YtglkmaalpammcaaThr
namespace Go.Proofs.Ytglkmaalpammcaa
open Go.Gl Go.RowKit
set_option linter.unusedVariables false
set_option maxRecDepth 100000
structure TR (g B : Nat) (T : TypeId) (v : Value) (s : ESt) (cur : Array Value) (wx : World) : Prop where
  rr : Rr wx g v s.1 s.2
  box : wx.heap[B]? = some (.cells cur T (0, 0))
  ne : B ≠ g
  nb : v.ownBlock ≠ some B
def TRs (w : World) (g B : Nat) (T : TypeId) (v : Value) (s : ESt) (cur : Array Value) (wx : World) : Prop :=
  ∃ v', TR g B T v' s cur wx ∧ Mods (fun k => k = g ∨ k = B) w wx ∧ ∀ k, v'.ownBlock = some k → v.ownBlock = some k
theorem TRs.refl {w : World} {g B : Nat} {T : TypeId} {v : Value} {s : ESt} {cur : Array Value} (h : TR g B T v s cur w) : TRs w g B T v s cur w := ⟨v, h, Mods.refl _ _, fun _ x => x⟩
theorem TRs.trans {w w1 w2 : World} {g B : Nat} {T : TypeId} {v v1 : Value} {s t : ESt} {cur cur2 : Array Value} (h : Mods (fun k => k = g ∨ k = B) w w1) (hv : ∀ k, v1.ownBlock = some k → v.ownBlock = some k) (k : TRs w1 g B T v1 t cur2 w2) : TRs w g B T v t cur2 w2 := by
  obtain ⟨v2, k1, k2, k3⟩ := k
  exact ⟨v2, k1, h.trans k2 (fun _ _ x => x) (fun _ _ x => x), fun i hi => hv i (k3 i hi)⟩
theorem TR.alloc {w : World} {g B : Nat} {T : TypeId} {v : Value} {s : ESt} {cur : Array Value} (h : TR g B T v s cur w) (o : Obj) : TR g B T v s cur (w.alloc o) :=
  ⟨h.rr.keep ((Mods.refl noB w).alloc o) (fun x => x) (fun _ _ x => x), heap_old h.box o, h.ne, h.nb⟩
theorem TR.step {w wy : World} {g B : Nat} {T : TypeId} {v v' : Value} {s t : ESt} {cur : Array Value} (h : TR g B T v s cur w) (k : RStp w g v t.1 t.2 wy v') : TR g B T v' t cur wy :=
  ⟨k.rr, k.mods.heap h.box h.ne, h.ne, fun e => h.nb (k.blk _ e)⟩
theorem TR.set {w : World} {g B : Nat} {T : TypeId} {v : Value} {s : ESt} {cur : Array Value} (h : TR g B T v s cur w) (o : Nat) (u : Value) : TR g B T v s (cur.setIfInBounds o u) (w.setCell ⟨B, o, none⟩ u) :=
  ⟨h.rr.keep (Mods.one w B o u) (fun e => h.ne e.symm) (fun k hk e => h.nb (by rw [hk, e])), heap_set h.box o u, h.ne, h.nb⟩
def setAt : Array Value → List Nat → List Value → Array Value
  | cur, o :: os, u :: us => setAt (cur.setIfInBounds o u) os us
  | cur, _, _ => cur
theorem setAt_size (os : List Nat) : ∀ (cur : Array Value) (us : List Value), (setAt cur os us).size = cur.size := by
  induction os with
  | nil => intro cur us; rfl
  | cons o os ih =>
    intro cur us
    cases us with
    | nil => rfl
    | cons u us => exact (ih _ _).trans (Array.size_setIfInBounds ..)
theorem setAt_snoc (os : List Nat) (o : Nat) (u : Value) : ∀ (cur : Array Value) (us : List Value), us.length = os.length → setAt cur (os ++ [o]) (us ++ [u]) = (setAt cur os us).setIfInBounds o u := by
  induction os with
  | nil =>
    intro cur us h
    obtain rfl := List.eq_nil_of_length_eq_zero h
    rfl
  | cons p os ih =>
    intro cur us h
    cases us with
    | nil => simp at h
    | cons x us => exact ih _ _ (by simpa using h)
def nst : Nat → ESt → ESt
  | 0, s => s
  | k + 1, s => est 8 (nst k s)
def nvs : Nat → ESt → List Nat
  | 0, _ => []
  | k + 1, s => nvs k s ++ [evl 8 (nst k s)]
theorem nvs_length (k : Nat) (s : ESt) : (nvs k s).length = k := by
  induction k with
  | zero => rfl
  | succ k ih => rw [nvs, List.length_append, ih]; rfl
def uv (x : Nat) : Value := .int .u64 x
def dst : Nat → ESt → ESt
  | 0, s => s
  | k + 1, s => natT (dst k s)
theorem est_len (n : Nat) (s : ESt) : (est n s).1.length ≤ s.1.length := by
  simp only [est, rleft]
  split
  · split
    · simp
    · exact Nat.le_refl _
  · exact Nat.le_refl _
theorem nst_len (k : Nat) (s : ESt) : (nst k s).1.length ≤ s.1.length := by
  induction k with
  | zero => exact Nat.le_refl _
  | succ k ih => exact Nat.le_trans (est_len 8 _) ih
set_option maxHeartbeats 2000000 in
theorem nums_r {w : World} {g B : Nat} {T : TypeId} {v : Value} {s : ESt} {cur : Array Value} {sl : Value} {os : List Nat} (h : TR g B T v s cur w) (hp : RdM (ptr B) w sl os) (sb : ∀ k, sl.ownBlock = some k → k < w.heap.size ∧ ¬ (k = g ∨ k = B)) (hc : ∀ (i o : Nat), os[i]? = some o → o < cur.size) :
    Calls Try.prog 98 #[.agg #[.pointer none, .pointer (some ⟨g, 0, none⟩)], sl] w fun r w' => r = .returned (.tuple #[]) ∧ TRs w g B T v (nst os.length s) (setAt cur os ((nvs os.length s).map uv)) w' := by
  obtain ⟨a, c, rfl, hlm⟩ := RdM.form hp
  have HP := Lib.hid hp
  have HSB := Lib.hid sb
  have HC := Lib.hid hc
  have b0 := heap_new w (.cells #[.pointer none, .pointer (some ⟨g, 0, none⟩)] 169)
  have m0 := Lib.hid ((Mods.refl noB w).alloc (.cells #[.pointer none, .pointer (some ⟨g, 0, none⟩)] 169))
  have W0 := Lib.hid (TRs.refl (h.alloc (.cells #[.pointer none, .pointer (some ⟨g, 0, none⟩)] 169)))
  have HL := Lib.hid (And.intro h.rr.lt (lt_of_heap h.box))
  have HB0 := Lib.hid b0
  obtain ⟨n, hos⟩ : ∃ n, os.length = n := ⟨_, rfl⟩
  have HO := Lib.hid hos
  unfold maxLen at hlm
  rw [hos] at hlm ⊢
  clear hp sb hc b0 hos h
  go_enter Try.func98, Try.ntmps98
  go_wp2
  generalize World.alloc w _ = w0 at *
  go_loopw [8] (fun i wr => ∃ k : Nat, k ≤ n ∧ i = .int .i64 k ∧ Hid (TRs w0 g B T v (nst k s) (setAt cur (os.take k) ((nvs k s).map uv)) wr ∧ wr.heap[w.heap.size]? = some (.cells #[.pointer none, .pointer (some ⟨g, 0, none⟩)] 169 (0, 0)))) (fun i _ => n - (intOf i).toNat)
  case atStart => exact ⟨0, Nat.zero_le _, rfl, Lib.hid ⟨W0.out, HB0.out⟩⟩
  case round =>
    clear W0 HB0
    obtain ⟨k, hk, rfl, hR⟩ := hrel
    obtain ⟨⟨v1, r1, rm, rb⟩, r2⟩ := hR.out
    have c0 := cells_of r2 0
    have c1 := cells_of r2 1
    have HB := Lib.hid r2
    have RM := Lib.hid (And.intro rm rb)
    clear hR r2
    by_cases hlt : k < n
    · have lk : k < os.length := by rw [HO.out]; exact hlt
      have lo := HC.out k os[k] (List.getElem?_eq_getElem lk)
      obtain ⟨g1, off, hsl, hsc⟩ : ∃ g1 off, a = some ⟨g1, off, none⟩ ∧ w.cell? ⟨g1, off + k, none⟩ = some (ptr B os[k]) := by
        rcases RdM.open HP.out with ⟨_, h0⟩ | ⟨g1, off, cap, hv, _, _, _, h5⟩
        · rw [h0] at lk; simp at lk
        · cases hv
          exact ⟨g1, off, rfl, h5 k lk⟩
      subst hsl
      obtain ⟨hg1, hg2⟩ := HSB.out g1 rfl
      have M1 := Lib.hid (m0.out.trans RM.out.1 (U := fun k => k = g ∨ k = B) (fun _ _ x => x.elim) (fun _ _ x => x))
      have d0 := (M1.out.cellAt hg1 hg2 (off + k)).trans hsc
      have HN1 := Lib.hid (show setAt cur (os.take (k + 1)) ((nvs (k + 1) s).map uv) = (setAt cur (os.take k) ((nvs k s).map uv)).setIfInBounds os[k] (uv (evl 8 (nst k s))) from by
        rw [List.take_succ_eq_append_getElem lk, nvs, List.map_append]
        exact setAt_snoc _ _ _ _ _ (by rw [List.length_map, nvs_length, List.length_take]; omega))
      have HS1 := Lib.hid (show nst (k + 1) s = est 8 (nst k s) from rfl)
      have hcs : (setAt cur (os.take k) ((nvs k s).map uv)).size = cur.size := setAt_size _ _ _
      generalize setAt cur (os.take k) ((nvs k s).map uv) = ca at *
      generalize nst k s = sa at *
      generalize os[k] = o at *
      obtain ⟨old, hold⟩ : ∃ old, ca[o]? = some old := ⟨_, Array.getElem?_eq_getElem (by omega)⟩
      clear hsc hg1 hg2
      unfold ptr at d0
      have R1 := Lib.hid r1
      clear r1 rm rb lo hcs
      go_wp2_with fail
      refine (RU64_any R1.out.rr).mono ?_
      rintro r w5 ⟨rfl, v2, s2⟩
      have hw := HL.out
      have hw2 := RM.out.1.size
      have hw3 := m0.out.size
      have hb2 := Lib.hid (s2.mods.heap HB.out (by omega))
      have t2 := R1.out.step (t := est 8 sa) s2
      have d1 := (cells_of t2.box o).trans hold
      have f1 := free_of t2.box o
      have T2 := Lib.hid t2
      have S2 := Lib.hid s2
      clear t2 s2 hw hw2 hw3 c0 c1
      go_wp2
      go_roundw
      case rel =>
        refine ⟨k + 1, by omega, by go_num, Lib.hid ⟨⟨v2, ?_, ?_, ?_⟩, ?_⟩⟩
        · rw [HN1.out, HS1.out]
          exact T2.out.set o _
        · exact (RM.out.1.trans S2.out.mods (fun _ _ x => x) (fun _ _ x => .inl x)).setCell (.inl (.inr rfl)) _
        · exact fun i hi => RM.out.2 i (S2.out.blk i hi)
        · have hw := HL.out
          exact (heap_set_other (by simp only; omega) _).trans hb2.out
      case measure => simp [intOf]; omega
    · have e : os.take k = os := List.take_of_length_le (by rw [HO.out]; omega)
      obtain rfl : k = n := by omega
      rw [e] at r1
      have R2 := Lib.hid (And.intro r1 (And.intro (m0.out.trans RM.out.1 (U := fun k => k = g ∨ k = B) (fun _ _ x => x.elim) (fun _ _ x => x)) RM.out.2))
      clear r1 HB rm rb
      go_wp2
      go_end0
      exact ⟨rfl, v1, R2.out⟩
end Go.Proofs.Ytglkmaalpammcaa

/- keys.Read: the key that bytes are, or none. -/
import Derived.Test.YtdoeadoaffmgpaaKPlain
import Derived.Test.YtdoeadoaffmgpaaKNum
import Derived.Deep.DeepCutAuto
import Derived.Deep.LoopGhost
namespace Go.Proofs.Ytdoeadoaffmgpaa
open Go.Gl Go.RowKit
set_option linter.unusedVariables false

theorem Make_int (n a b : Int) (w : World) (ha : 0 ≤ a) (ha' : a ≤ 18446744073709551615) (hb : 0 ≤ b) (hb' : b ≤ 18446744073709551615) :
    Calls Try.prog 18 #[.agg #[.int .i64 n, .int .u64 a, .int .u64 b]] w (KRes w ((kmake n a.toNat b.toNat).getD []) (if (kmake n a.toNat b.toNat).isSome then 0 else 70)) := by
  obtain ⟨x, rfl⟩ := Int.eq_ofNat_of_zero_le ha
  obtain ⟨y, rfl⟩ := Int.eq_ofNat_of_zero_le hb
  exact Make_any n x y w (by omega) (by omega)

/-- so far no kind's candidate was it -/
def noKind (b : List UInt8) (k : Nat) : Prop := ∀ (k' A' B' : Nat), k' < k → A' ≤ maxU → B' ≤ maxU → kmake k' A' B' ≠ some b

theorem noKind_zero (b : List UInt8) : noKind b 1 := by
  intro k' A' B' h _ _ e
  have := kmake_range e
  omega

theorem noKind_next {b : List UInt8} {k : Nat} {f : KForm} (h : noKind b k) (hf : kform k = some f) (hne : kmake k (candA f b) (candB f b) ≠ some b) : noKind b (k + 1) := by
  intro k' A' B' hk hA hB e
  by_cases hkk : k' = k
  · subst hkk
    obtain ⟨e1, e2⟩ := cand_make hf e hA hB
    rw [← e1, ← e2] at e
    exact hne e
  · exact h k' A' B' (by omega) hA hB e

theorem noKind_all {b : List UInt8} (h : noKind b 18) : KReads b 0 0 0 70 :=
  .inr ⟨rfl, rfl, rfl, rfl, fun k' A' B' hA hB e => by
    have := kmake_range e
    exact h k' A' B' (by omega) hA hB e⟩

theorem candA_le (f : KForm) (b : List UInt8) : candA f b ≤ maxU := by
  unfold candA maxU
  refine kturn_le _ _ ?_
  split
  · have := num_lt ((b.drop 1).take 8)
    have h8 : ((b.drop 1).take 8).length ≤ 8 := List.length_take_le _ _
    have : 256 ^ ((b.drop 1).take 8).length ≤ 256 ^ 8 := Nat.pow_le_pow_right (by decide) h8
    have e : (256 : Nat) ^ 8 = 18446744073709551616 := by decide
    omega
  · omega

theorem num8_le (xs : List UInt8) (h : xs.length ≤ 8) : num xs ≤ 18446744073709551615 := by
  have := num_lt xs
  have : 256 ^ xs.length ≤ 256 ^ 8 := Nat.pow_le_pow_right (by decide) h
  have e : (256 : Nat) ^ 8 = 18446744073709551616 := by decide
  omega

theorem candB_le (f : KForm) (b : List UInt8) : candB f b ≤ maxU := by
  unfold candB maxU
  split
  · exact num8_le _ (by simp; omega)
  · omega

/-- the result of Read, as a call hands it back -/
def KReadRes (b : List UInt8) (w : World) (e : Ending) (w' : World) : Prop := ∃ (k : Int) (A B : Nat) (n : Int), e = .returned (.tuple #[.agg #[.int .i64 k, .int .u64 A, .int .u64 B], .int .i64 n]) ∧ KReads b k A B n ∧ Mods noB w w'

/-- behind the first statements of a round: the form's block, the key's block -/
def RdR (w1 : World) (f : KForm) (k A B : Nat) (wx : World) : Prop :=
  wx.heap[w1.heap.size]? = some (.cells #[.int .u8 f.head.toNat, .int .u8 f.mid.toNat, .bool f.a, .bool f.b, .bool f.turned] 50 (0, 0)) ∧
  wx.heap[w1.heap.size + 1]? = some (.cells #[.int .i64 (k : Int), .int .u64 (A : Int), .int .u64 (B : Int)] 30 (0, 0)) ∧ Mods noB w1 wx

theorem RdR.setA {w1 : World} {f : KForm} {k A B : Nat} {wx : World} (h : RdR w1 f k A B wx) (A' : Nat) : RdR w1 f k A' B (wx.setCell ⟨w1.heap.size + 1, 1, none⟩ (.int .u64 (A' : Int))) :=
  ⟨(heap_set_other (by simp) _).trans h.1, by have := heap_set h.2.1 1 (.int .u64 (A' : Int)); simpa using this, h.2.2.setCell (.inr (by simp)) _⟩
theorem RdR.setB {w1 : World} {f : KForm} {k A B : Nat} {wx : World} (h : RdR w1 f k A B wx) (B' : Nat) : RdR w1 f k A B' (wx.setCell ⟨w1.heap.size + 1, 2, none⟩ (.int .u64 (B' : Int))) :=
  ⟨(heap_set_other (by simp) _).trans h.1, by have := heap_set h.2.1 2 (.int .u64 (B' : Int)); simpa using this, h.2.2.setCell (.inr (by simp)) _⟩

theorem RdR.start (w1 : World) (f : KForm) (k : Nat) : RdR w1 f k 0 0 ((w1.alloc (.cells #[.int .u8 f.head.toNat, .int .u8 f.mid.toNat, .bool f.a, .bool f.b, .bool f.turned] 50)).alloc (.cells #[.int .i64 (k : Int), .int .u64 0, .int .u64 0] 30)) :=
  ⟨heap_old (heap_new _ _) _, by have := heap_new (w1.alloc (.cells #[.int .u8 f.head.toNat, .int .u8 f.mid.toNat, .bool f.a, .bool f.b, .bool f.turned] 50)) (.cells #[.int .i64 (k : Int), .int .u64 0, .int .u64 0] 30); simpa using this, ((Mods.refl _ _).alloc _).alloc _⟩

set_option maxHeartbeats 800000 in
theorem KRead_walk (b : List UInt8) (ax : Option Addr) (nx cx : Nat) (w : World) (hr : Rd w (.slice ax nx cx) b) (hx : b.length = nx) (hcx : nx ≤ cx) (hcm : cx ≤ maxLen) :
    Calls Try.prog 13 #[.slice ax nx cx] w (KReadRes b w) := by
  have HX := Lib.hid hx
  have HR := Lib.hid hr
  unfold maxLen at hcm
  clear hx hr
  go_enter Try.func13, Try.ntmps13
  go_wp2
  go_loopg [4] 17 (fun gk i wr => ∃ k : Nat, k + gk = 18 ∧ 1 ≤ k ∧ i = .int .i64 k ∧ Hid (noKind b k ∧ Mods noB (w.alloc (.cells #[.int .i64 0, .int .u64 0, .int .u64 0] 30)) wr))
  case atStart => exact ⟨1, by omega, Nat.le_refl _, rfl, noKind_zero b, Mods.refl _ _⟩
  case round =>
    obtain ⟨k, hk1, hk2, rfl, hR⟩ := hrel
    by_cases hlt : k < 18
    · obtain ⟨f, hf, _⟩ := formsV_at k hk2 (by omega)
      have HF := Lib.hid hf
      have hmw := hR.out.2
      have hz : w.heap.size < wr.heap.size := hmw.size_of (by simp)
      obtain ⟨hd, md, fa, fb, ft⟩ := f
      clear hf hmw
      go_upto_region 6 with (first | (go_at_call 29; refine (formOf_yes _ _ _ HF.out).mono ?_; rintro e w1 ⟨rfl, hm⟩; unfold fv fcells))
      have B0 : RdR w1 ⟨hd, md, fa, fb, ft⟩ k 0 0 ((w1.alloc (.cells #[.int .u8 hd.toNat, .int .u8 md.toNat, .bool fa, .bool fb, .bool ft] 50)).alloc (.cells #[.int .i64 (k : Int), .int .u64 0, .int .u64 0] 30)) := RdR.start _ _ _
      generalize World.alloc (World.alloc w1 _) _ = wa at *
      obtain ⟨cA, hcA⟩ : ∃ c : Bool, c = (fa && decide (9 ≤ nx)) := ⟨_, rfl⟩
      obtain ⟨cB, hcB⟩ : ∃ c : Bool, c = (fb && decide (8 ≤ nx)) := ⟨_, rfl⟩
      have HA := Lib.hid hcA
      have HB := Lib.hid hcB
      go_cut [27] (fun s wx => s = .bool cA ∧ Hid (RdR w1 ⟨hd, md, fa, fb, ft⟩ k 0 0 wx))
      case first =>
        have c0 := cells_of B0.1
        clear hcA hcB
        cases fa
        all_goals
          go_wp2
          go_meet
          refine ⟨?_, B0⟩
          rw [HA.out]
          simp
        all_goals omega
      case rest =>
        obtain ⟨rfl, hB⟩ := hcut
        clear hcA hcB B0
        obtain ⟨A1, hA1⟩ : ∃ A1 : Nat, A1 = if cA then num ((b.drop 1).take 8) else 0 := ⟨_, rfl⟩
        obtain ⟨B1, hB1⟩ : ∃ B1 : Nat, B1 = if cB then num (b.drop (b.length - 8)) else 0 := ⟨_, rfl⟩
        have lA1 : A1 ≤ 18446744073709551615 := by rw [hA1]; split; exact num8_le _ (List.length_take_le _ _); omega
        have lB1 : B1 ≤ 18446744073709551615 := by
          rw [hB1]; split
          · rename_i hcb; have := HB.out; rw [hcb] at this; simp at this; exact num8_le _ (by rw [List.length_drop, HX.out]; omega)
          · omega
        have HA1 := Lib.hid hA1
        have HB1 := Lib.hid hB1
        have MW : ∀ wx, RdR w1 ⟨hd, md, fa, fb, ft⟩ k A1 0 wx ∨ RdR w1 ⟨hd, md, fa, fb, ft⟩ k 0 0 wx ∨ RdR w1 ⟨hd, md, fa, fb, ft⟩ k (kturn ⟨hd, md, fa, fb, ft⟩ A1) 0 wx → Mods noB w wx := by
          intro wx h
          have h1 : Mods noB w1 wx := by rcases h with h | h | h <;> exact h.2.2
          exact (hR.out.2.after.then0 hm).then0 h1
        have HMW := Lib.hid MW
        clear hA1 hB1 MW
        go_upto_if 27 with fail
        go_cut [] (fun wx => Hid (RdR w1 ⟨hd, md, fa, fb, ft⟩ k A1 0 wx))
        case first =>
          cases cA
          · go_wp2
            go_meet
            have e : A1 = 0 := by rw [HA1.out]; simp
            rw [e]
            exact hB
          · have c9 : 9 ≤ nx := by have := HA.out; simp at this; exact this.2
            obtain ⟨g, off, hax⟩ := Rd.addr HR.out (by omega)
            subst hax
            have HR2 : Rd w (.slice (some ⟨g, off, none⟩) b.length cx) b := by rw [HX.out]; exact HR.out
            have r1 := (HR2.sub 1 8 (cx - 1) (by rw [HX.out]; omega) (by omega) (by unfold maxLen; omega)).keep (HMW.out wc (.inr (.inl hB.out))) (fun _ _ x => x)
            have ck := cells_of hB.out.2.1
            have fk := free_of hB.out.2.1
            have hA1' : num ((b.drop 1).take 8) = A1 := by rw [HA1.out]; simp
            have HA1' := Lib.hid hA1'
            clear HR2 hA1'
            go_wp2_with fail
            refine (number_any r1 (List.length_take_le _ _)).mono ?_
            rw [HA1'.out]
            rintro e _ ⟨rfl, rfl⟩
            go_wp2
            go_meet
            exact RdR.setA hB.out A1
        case rest =>
          have hB := hcut
          clear hcut
          have cf := cells_of hB.out.1
          go_upto_if 33 with fail
          go_cut [] (fun wx => Hid (RdR w1 ⟨hd, md, fa, fb, ft⟩ k (kturn ⟨hd, md, fa, fb, ft⟩ A1) 0 wx))
          case first =>
            clear cf
            have ck := cells_of hB.out.2.1
            have fk := free_of hB.out.2.1
            cases ft
            · go_wp2
              go_meet
              exact hB
            · go_wp2
              go_meet
              rw [not_u64 _ (by omega) (by omega), show (18446744073709551615 : Int) - (A1 : Int) = ((18446744073709551615 - A1 : Nat) : Int) from by omega]
              exact RdR.setA hB.out _
          case rest =>
            clear cf hB
            have hB := hcut
            clear hcut
            go_upto_region 10 with fail
            go_cut [44] (fun s wx => s = .bool cB ∧ Hid (RdR w1 ⟨hd, md, fa, fb, ft⟩ k (kturn ⟨hd, md, fa, fb, ft⟩ A1) 0 wx))
            case first =>
              have c0 := cells_of hB.out.1
              cases fb
              all_goals
                go_wp2
                go_meet
                refine ⟨?_, hB⟩
                rw [HB.out]
                simp
              all_goals omega
            case rest =>
              clear hB
              obtain ⟨rfl, hB⟩ := hcut
              have hT := kturn_le ⟨hd, md, fa, fb, ft⟩ A1 lA1
              obtain ⟨A2, hA2⟩ : ∃ A2, A2 = kturn ⟨hd, md, fa, fb, ft⟩ A1 := ⟨_, rfl⟩
              rw [← hA2] at hB hT
              have HA2 := Lib.hid hA2
              have mwc := (hR.out.2.after.then0 hm).then0 hB.out.2.2
              clear hA2 HMW
              go_upto_if 44 with fail
              go_cut [] (fun wx => Hid (RdR w1 ⟨hd, md, fa, fb, ft⟩ k A2 B1 wx))
              case first =>
                cases cB
                · go_wp2
                  go_meet
                  have e : B1 = 0 := by rw [HB1.out]; simp
                  rw [e]
                  exact hB
                · have c8 : 8 ≤ nx := by have := HB.out; simp at this; exact this.2
                  obtain ⟨g, off, hax⟩ := Rd.addr HR.out (by omega)
                  subst hax
                  have HR2 : Rd w (.slice (some ⟨g, off, none⟩) b.length cx) b := by rw [HX.out]; exact HR.out
                  have r1 := (HR2.sub (nx - 8) 8 (cx - (nx - 8)) (by rw [HX.out]; omega) (by omega) (by unfold maxLen; omega)).keep mwc (fun _ _ x => x)
                  have ck := cells_of hB.out.2.1
                  have fk := free_of hB.out.2.1
                  have hB1' : num ((b.drop (nx - 8)).take 8) = B1 := by
                    rw [HB1.out, if_pos rfl, HX.out, List.take_of_length_le (by rw [List.length_drop, HX.out]; omega)]
                  have HB1' := Lib.hid hB1'
                  clear HR2 hB1'
                  go_wp2_with fail
                  rw [show nx - (nx - 8) = 8 from by omega]
                  refine (number_any r1 (List.length_take_le _ _)).mono ?_
                  rw [HB1'.out]
                  rintro e _ ⟨rfl, rfl⟩
                  go_wp2
                  go_meet
                  exact RdR.setB hB.out B1
              case rest =>
                clear hB mwc
                have hB := hcut
                clear hcut
                have ck := cells_of hB.out.2.1
                have mwc := (hR.out.2.after.then0 hm).then0 hB.out.2.2
                have hcand : A2 = candA ⟨hd, md, fa, fb, ft⟩ b ∧ B1 = candB ⟨hd, md, fa, fb, ft⟩ b := by
                  rw [HA2.out, HB1.out, HA1.out, HA.out, HB.out]
                  unfold candA candB
                  rw [HX.out]
                  simp
                have HC := Lib.hid hcand
                clear hcand
                go_wp2_with fail
                refine (Make_any (k : Int) A2 B1 _ hT lB1).mono ?_
                rintro e w2 ⟨v, rfl, ov, mv, fv'⟩
                have hz2 := mv.size
                have rb := (HR.out.keep mwc (fun _ _ x => x)).keep mv (fun _ _ x => x)
                have hk3 := lt_of_heap hB.out.2.1
                have ck2 := fun o => (mv.cellAt hk3 (fun x => x) o).trans (ck o)
                have mw2 := (hR.out.2.then0 hm).then0 hB.out.2.2 |>.then0 mv
                clear ck
                have c0 := cells_of (mw2.heap (heap_new w _) (fun x => x))
                have f0 := free_of (mw2.heap (heap_new w _) (fun x => x))
                cases hmk : kmake (k : Int) A2 B1 with
                | none =>
                  have HN := Lib.hid hmk
                  rw [hmk] at ov
                  simp only [Option.isSome_none, Bool.false_eq_true, if_false]
                  clear hmk
                  go_wp2
                  go_roundg (gk - 1)
                  case measure => omega
                  case rel =>
                    refine ⟨k + 1, by omega, by omega, by go_num, noKind_next hR.out.1 HF.out ?_, mw2⟩
                    rw [← HC.out.1, ← HC.out.2, HN.out]
                    simp
                | some b' =>
                  have HN := Lib.hid hmk
                  rw [hmk] at ov
                  simp only [Option.isSome_some, if_true]
                  clear hmk
                  simp only [Option.getD_some] at ov
                  go_wp2_with fail
                  refine (Equal_any ov.rd rb).mono ?_
                  rintro e w3 ⟨rfl, nq, rfl⟩
                  by_cases hbb : b' = b
                  · subst hbb
                    rw [show decide (b' = b') = true from by simp]
                    have hkr : KReads b' (k : Int) A2 B1 0 := .inl ⟨rfl, HN.out, hT, lB1, by omega, by omega⟩
                    clear rb ov mv fv' hB
                    have g0 : (w2.drewN nq).heap[w.heap.size]? = _ := mw2.heap (heap_new w _) (fun x => x)
                    have mw3 := mw2.drewN nq
                    clear c0 f0 mw2
                    go_wp2_with (refine wpList_store_blk rfl rfl g0 rfl rfl key_size rfl rfl ?_; intro w4 k1 k2 k3; have c4 := cells_of k1)
                    refine bodyPost_ret (by simp [results, Try.results13, go_sem, c4]; try rfl) rfl ?_
                    exact ⟨k, A2, B1, 0, rfl, hkr, mw3.after.trans k2 (fun _ _ x => x) (fun i hi x => by omega)⟩
                  · rw [show decide (b' = b) = false from by simp [hbb]]
                    have HBB := Lib.hid hbb
                    clear rb ov mv fv' hB hbb
                    go_wp2
                    go_roundg (gk - 1)
                    case measure => omega
                    case rel =>
                      refine ⟨k + 1, by omega, by omega, by go_num, noKind_next hR.out.1 HF.out ?_, mw2.drewN nq⟩
                      rw [← HC.out.1, ← HC.out.2, HN.out]
                      intro e
                      exact HBB.out (Option.some.inj e)
    · obtain rfl : k = 18 := by omega
      obtain ⟨h1, h2⟩ := hR.out
      have g0 := h2.heap (heap_new w _) (fun x => x)
      clear hR
      go_wp2_with (refine wpList_store_blk rfl rfl g0 rfl rfl key_size rfl rfl ?_; intro w4 k1 k2 k3; have c4 := cells_of k1)
      refine bodyPost_ret (by simp [results, Try.results13, go_sem, c4]; try rfl) rfl ?_
      exact ⟨0, 0, 0, 70, rfl, noKind_all h1, h2.after.trans k2 (fun _ _ x => x) (fun i hi x => by omega)⟩

theorem KRead_any {v : Value} {b : List UInt8} {w : World} (hv : Rd w v b) : Calls Try.prog 13 #[v] w (KReadRes b w) := by
  obtain ⟨a, ca, rfl, h1, h2, h3, h4⟩ := hv.at'
  exact KRead_walk b a _ ca w hv rfl h1 h2

end Go.Proofs.Ytdoeadoaffmgpaa

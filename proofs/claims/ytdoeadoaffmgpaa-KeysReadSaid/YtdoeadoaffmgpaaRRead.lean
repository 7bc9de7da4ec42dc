/- gleanref7.Read: the key that bytes are, or none: the document's way. -/
import Derived.Test.YtdoeadoaffmgpaaRRdr
import Derived.Test.YtdoeadoaffmgpaaRMake2
import Derived.Test.YtdoeadoaffmgpaaKRead
namespace Go.Proofs.Ytdoeadoaffmgpaa
open Go.Gl Go.RowKit
set_option linter.unusedVariables false

def ksize (f : KForm) : Nat := 1 + 8 * kcount f + (if f.mid.toNat = 0 then 0 else 1)

theorem kbytes_len (f : KForm) (a b : Nat) : (kbytes f a b).length = ksize f := by
  obtain ⟨hd, md, fa, fb, ft⟩ := f
  unfold kbytes kfirst ksize kcount
  cases fa <;> cases fb <;> simp [be_length] <;> split <;> simp

theorem kmake_len {k A B : Nat} {b : List UInt8} {f : KForm} (hf : kform k = some f) (h : kmake k A B = some b) : b.length = ksize f := by
  obtain ⟨f', hf', _, rfl⟩ := kmake_form h
  rw [Int.toNat_natCast, hf] at hf'
  cases hf'
  exact kbytes_len f A B

theorem kform_ten {k : Nat} {f : KForm} (hf : kform k = some f) : (k = 10 ↔ f.turned = true) := by
  obtain ⟨h1, h2⟩ := kform_range hf
  rcases kinds k h1 h2 with rfl | rfl | rfl | rfl | rfl | rfl | rfl | rfl | rfl | rfl | rfl | rfl | rfl | rfl | rfl | rfl | rfl <;> cases hf <;> decide

theorem kcount_ab {f : KForm} (h : f.b = true → f.a = true) : (1 ≤ kcount f ↔ f.a = true) ∧ (2 ≤ kcount f ↔ f.b = true) := by
  obtain ⟨hd, md, fa, fb, ft⟩ := f
  cases fa <;> cases fb <;> simp [kcount]
  simp at h

/-- the key's block, the reader's block -/
def RdS (w1 : World) (k A B : Nat) (xs : List UInt8) (wx : World) : Prop :=
  wx.heap[w1.heap.size]? = some (.cells #[.int .i64 (k : Int), .int .u64 (A : Int), .int .u64 (B : Int)] 30 (0, 0)) ∧ (∃ vB, RR wx (w1.heap.size + 1) vB xs 0 ∧ ∀ i, vB.ownBlock = some i → i < w1.heap.size) ∧ Mods noB w1 wx

theorem RdS.setA {w1 : World} {k A B : Nat} {xs : List UInt8} {wx : World} (h : RdS w1 k A B xs wx) (A' : Nat) : RdS w1 k A' B xs (wx.setCell ⟨w1.heap.size, 1, none⟩ (.int .u64 (A' : Int))) := by
  obtain ⟨h1, ⟨vB, h2, h4⟩, h3⟩ := h
  refine ⟨by have := heap_set h1 1 (.int .u64 (A' : Int)); simpa using this, ⟨vB, h2.keep (Mods.one _ _ _ _) (by simp) (fun i hi e => by have := h4 i hi; omega), h4⟩, h3.setCell (.inr (by simp)) _⟩
theorem RdS.setB {w1 : World} {k A B : Nat} {xs : List UInt8} {wx : World} (h : RdS w1 k A B xs wx) (B' : Nat) : RdS w1 k A B' xs (wx.setCell ⟨w1.heap.size, 2, none⟩ (.int .u64 (B' : Int))) := by
  obtain ⟨h1, ⟨vB, h2, h4⟩, h3⟩ := h
  refine ⟨by have := heap_set h1 2 (.int .u64 (B' : Int)); simpa using this, ⟨vB, h2.keep (Mods.one _ _ _ _) (by simp) (fun i hi e => by have := h4 i hi; omega), h4⟩, h3.setCell (.inr (by simp)) _⟩

/-- behind a call of U that found its bytes -/
theorem RdS.step {w1 : World} {k A B n : Nat} {xs : List UInt8} {wx wy : World} {vB : Value} (h : RdS w1 k A B xs wx) (hv : ∀ i, vB.ownBlock = some i → i < w1.heap.size) (hn : n ≤ xs.length) (hs : RStep wx (w1.heap.size + 1) vB (rtakeX n xs 0) (rtakeE n xs 0) wy) : RdS w1 k A B (xs.drop n) wy := by
  obtain ⟨⟨vB', h1, h2⟩, h3⟩ := hs
  have e1 : rtakeX n xs 0 = xs.drop n := by simp [rtakeX, hn]
  have e2 : rtakeE n xs 0 = 0 := by simp [rtakeE, hn]
  rw [e1, e2] at h1
  exact ⟨h3.heap h.1 (by omega), ⟨vB', h1, fun i hi => hv i (h2 i hi)⟩, h.2.2.trans h3 (fun _ _ x => x) (fun i hi x => by omega)⟩

/-- what the reader gives is what the candidates are -/
theorem cand_read {f : KForm} {b : List UInt8} (hba : f.b = true → f.a = true) (hta : f.turned = true → f.a = true) (hl : b.length = ksize f) :
    candA f b = kturn f (if f.a then num ((b.drop 1).take 8) else 0) ∧
    candB f b = (if f.b then num (((((b.drop 1).drop 8).drop (if f.mid.toNat = 0 then 0 else 1))).take 8) else 0) := by
  obtain ⟨hd, md, fa, fb, ft⟩ := f
  unfold ksize kcount at hl
  unfold candA candB
  cases fa
  · cases fb
    · simp at hl ⊢
    · exact absurd (hba rfl) (by simp)
  · cases fb
    · refine ⟨?_, by simp⟩
      have : 9 ≤ b.length := by simp at hl; omega
      simp [this]
    · have h9 : 9 ≤ b.length := by simp at hl; omega
      have h8 : 8 ≤ b.length := by omega
      refine ⟨by simp [h9], ?_⟩
      simp only [h8, and_self, if_true, List.drop_drop]
      rw [List.take_of_length_le (by rw [List.length_drop]; simp at hl; omega)]
      congr 2
      simp at hl
      omega

set_option maxHeartbeats 2000000 in
theorem RRead_walk (b : List UInt8) (ax : Option Addr) (nx cx : Nat) (w : World) (hr : Rd w (.slice ax nx cx) b) (hx : b.length = nx) (hcx : nx ≤ cx) (hcm : cx ≤ maxLen) :
    Calls Try.prog 14 #[.slice ax nx cx] w (KReadRes b w) := by
  have HX := Lib.hid hx
  have HR := Lib.hid hr
  unfold maxLen at hcm
  clear hx hr
  go_enter Try.func14, Try.ntmps14
  go_wp2
  go_loopg [4] 17 (fun gk i wr => ∃ k : Nat, k + gk = 18 ∧ 1 ≤ k ∧ i = .int .i64 k ∧ Hid (noKind b k ∧ Mods noB (w.alloc (.cells #[.int .i64 0, .int .u64 0, .int .u64 0] 30)) wr))
  case atStart => exact ⟨1, by omega, Nat.le_refl _, rfl, noKind_zero b, Mods.refl _ _⟩
  case round =>
    obtain ⟨k, hk1, hk2, rfl, hR⟩ := hrel
    by_cases hlt : k < 18
    · obtain ⟨f, hf, _⟩ := formsV_at k hk2 (by omega)
      have HF := Lib.hid hf
      have hz : w.heap.size < wr.heap.size := hR.out.2.size_of (by simp)
      have hkc : ((kcount f : Nat) : Int) ≤ 2 := by unfold kcount; split <;> split <;> omega
      go_upto_if 27 with (first | (go_at_call 32; refine (rform_yes _ _ _ HF.out).mono ?_; rintro e w1 ⟨rfl, rfl⟩))
      go_cut [8] (fun s wx => s = .int .i64 (ksize f) ∧ wx = w1)
      case first =>
        by_cases hm0 : f.mid.toNat = 0
        · have hm2 : (((f.mid.toNat : Nat) : Int) != 0) = false := by simp [hm0]
          have e : Hid ((ksize f : Int) = 1 + 8 * (kcount f : Int)) := by show _ = _; unfold ksize; rw [if_pos hm0]; omega
          clear hm0
          go_wp2
          go_meet
          exact ⟨by rw [e.out], rfl⟩
        · have hm2 : (((f.mid.toNat : Nat) : Int) != 0) = true := by simp [hm0]
          have e : Hid ((ksize f : Int) = 1 + 8 * (kcount f : Int) + 1) := by show _ = _; unfold ksize; rw [if_neg hm0]; omega
          clear hm0
          go_wp2
          go_meet
          exact ⟨by rw [e.out], rfl⟩
      case rest =>
        obtain ⟨rfl, hwc⟩ := hcut
        subst hwc
        obtain ⟨wb, rfl⟩ : ∃ wb : World, wb = wc := ⟨_, rfl⟩
        by_cases hsz : nx = ksize f
        · subst hsz
          have hl1 : 1 ≤ ksize f := by unfold ksize; omega
          obtain ⟨g, off, hax⟩ := Rd.addr HR.out (by omega)
          subst hax
          have hRd0 := HR.out.keep hR.out.2.after (fun _ _ x => x)
          have hgb := hRd0.lt g rfl
          have hf1 := kform_turn hf
          have hf2 := kform_ten hf
          have hcr := cand_read hf1.2 hf1.1 HX.out
          have hlen : b.length = 1 + 8 * kcount f + (if f.mid.toNat = 0 then 0 else 1) := HX.out
          obtain ⟨hkA, hkB⟩ := kcount_ab hf1.2
          obtain ⟨A1, hA1⟩ : ∃ A1 : Nat, A1 = if f.a then num ((b.drop 1).take 8) else 0 := ⟨_, rfl⟩
          obtain ⟨B1, hB1⟩ : ∃ B1 : Nat, B1 = if f.b then num (((((b.drop 1).drop 8).drop (if f.mid.toNat = 0 then 0 else 1))).take 8) else 0 := ⟨_, rfl⟩
          have lA1 : A1 ≤ 18446744073709551615 := by rw [hA1]; split; exact num8_le _ (List.length_take_le _ _); omega
          have lB1 : B1 ≤ 18446744073709551615 := by rw [hB1]; split; exact num8_le _ (List.length_take_le _ _); omega
          rw [← hA1, ← hB1] at hcr
          have FX := Lib.hid (show _ ∧ _ ∧ _ ∧ _ ∧ _ ∧ _ ∧ _ from ⟨hcr, hf2, hlen, hkA, hkB, hA1, hB1⟩)
          clear hf1 hf2 hcr hlen hkA hkB hA1 hB1 hf
          have HRd := Lib.hid (show Rd wb (.slice (some ⟨g, off, none⟩) b.length cx) b by rw [HX.out]; exact hRd0)
          clear hRd0
          go_upto_region 10 with fail
          go_cut [10] (fun s wx => s = .pointer (some ⟨wb.heap.size + 1, 0, none⟩) ∧ Hid (RdS wb k 0 0 (b.drop 1) wx))
          case first =>
            by_cases hc1 : cx = 1
            · subst hc1
              have r1 := Rd.drop (n := 1) HRd.out (by rw [HX.out]; exact hl1)
              rw [if_pos rfl, HX.out, show ksize f - 1 = 0 from by omega, Nat.sub_self] at r1
              have R1 := Lib.hid r1
              clear r1
              go_wp2
              go_meet
              refine ⟨rfl, heap_old (heap_new _ _) _, ⟨_, ⟨by have := heap_new (wb.alloc (.cells #[.int .i64 (k : Int), .int .u64 0, .int .u64 0] 30)); simp only [World.size_alloc] at this; exact this _, ?_, fun e => by simp [Value.ownBlock] at e; omega⟩, fun i hi => by simp [Value.ownBlock] at hi; omega⟩, ((Mods.refl _ _).alloc _).alloc _⟩
              exact (R1.out.alloc _).alloc _
            · have r1 := Rd.drop (n := 1) HRd.out (by rw [HX.out]; exact hl1)
              rw [if_neg hc1, HX.out] at r1
              have R1 := Lib.hid r1
              clear r1
              go_wp2
              go_meet
              refine ⟨rfl, heap_old (heap_new _ _) _, ⟨_, ⟨by have := heap_new (wb.alloc (.cells #[.int .i64 (k : Int), .int .u64 0, .int .u64 0] 30)); simp only [World.size_alloc] at this; exact this _, ?_, fun e => by simp [Value.ownBlock] at e; omega⟩, fun i hi => by simp [Value.ownBlock] at hi; omega⟩, ((Mods.refl _ _).alloc _).alloc _⟩
              exact (R1.out.alloc _).alloc _
          case rest =>
            obtain ⟨rfl, hB⟩ := hcut
            obtain ⟨X1, hX1⟩ : ∃ X1, X1 = if f.a then (b.drop 1).drop 8 else b.drop 1 := ⟨_, rfl⟩
            obtain ⟨X2, hX2⟩ : ∃ X2, X2 = X1.drop (if f.mid.toNat = 0 then 0 else 1) := ⟨_, rfl⟩
            have HX1 := Lib.hid hX1
            have HX2 := Lib.hid hX2
            clear hX1 hX2 HRd
            go_upto_if 41 with fail
            go_cut [] (fun wx => Hid (RdS wb k A1 0 X1 wx))
            case first =>
              obtain ⟨-, -, hlen, hkA, -, hA1, -⟩ := FX.out
              cases hfa : f.a
              · have hk0 : ((kcount f : Nat) : Int) ≤ 0 := by have := mt hkA.1 (by simp [hfa]); omega
                have e : Hid (A1 = 0 ∧ X1 = b.drop 1) := by rw [hA1, HX1.out, hfa]; exact ⟨rfl, rfl⟩
                clear hlen hkA hA1 hfa
                go_wp2
                go_meet
                rw [e.out.1, e.out.2]
                exact hB
              · have hk0 : (1 : Int) ≤ ((kcount f : Nat) : Int) := by have := hkA.2 hfa; omega
                have h8 : 8 ≤ (b.drop 1).length := by rw [List.length_drop]; have := hkA.2 hfa; omega
                have e : Hid (num (rtakeY 8 (b.drop 1) 0) = A1 ∧ X1 = (b.drop 1).drop 8) := by
                  show _ ∧ _
                  rw [hA1, HX1.out, hfa]
                  exact ⟨by simp only [rtakeY, if_true, h8], rfl⟩
                obtain ⟨vB, hvB, hv2⟩ := hB.out.2.1
                have H8 := Lib.hid h8
                clear hlen hkA hA1 hfa h8
                go_wp2_with fail
                refine (rU_any 8 hvB (by decide)).mono ?_
                rw [e.out.1]
                rintro e' w2 ⟨rfl, hs⟩
                have hB2 := Lib.hid (RdS.step hB.out hv2 H8.out hs)
                have ck := cells_of hB2.out.1
                have fk := free_of hB2.out.1
                clear hs hvB hv2
                go_wp2
                go_meet
                rw [e.out.2]
                exact RdS.setA hB2.out A1
            case rest =>
              clear hB
              have hB := hcut
              clear hcut
              go_upto_if 46 with fail
              go_cut [] (fun wx => Hid (RdS wb k A1 0 X2 wx))
              case first =>
                obtain ⟨-, -, hlen, hkA, -, hA1, -⟩ := FX.out
                by_cases hm0 : f.mid.toNat = 0
                · have hm2 : (((f.mid.toNat : Nat) : Int) != 0) = false := by simp [hm0]
                  have e : Hid (X2 = X1) := by rw [HX2.out, if_pos hm0]; rfl
                  clear hlen hkA hA1 hm0
                  go_wp2
                  go_meet
                  rw [e.out]
                  exact hB
                · have hm2 : (((f.mid.toNat : Nat) : Int) != 0) = true := by simp [hm0]
                  have h1 : 1 ≤ X1.length := by
                    rw [HX1.out]
                    rw [if_neg hm0] at hlen
                    cases hfa : f.a
                    · have := mt hkA.1 (by simp [hfa]); simp; omega
                    · have := hkA.2 hfa; simp; omega
                  have e : Hid (X2 = X1.drop 1) := by rw [HX2.out, if_neg hm0]; rfl
                  obtain ⟨vB, hvB, hv2⟩ := hB.out.2.1
                  have H1 := Lib.hid h1
                  clear hlen hkA hA1 hm0 h1
                  go_wp2_with fail
                  refine (rU_any 1 hvB (by decide)).mono ?_
                  rintro e' w2 ⟨rfl, hs⟩
                  have hB2 := Lib.hid (RdS.step hB.out hv2 H1.out hs)
                  clear hs hvB hv2
                  go_wp2
                  go_meet
                  rw [e.out]
                  exact hB2
              case rest =>
                clear hB
                have hB := hcut
                clear hcut
                go_upto_if 50 with fail
                go_cut [] (fun wx => Hid (∃ xs, RdS wb k A1 B1 xs wx))
                case first =>
                  obtain ⟨-, -, hlen, hkA, hkB, -, hB1⟩ := FX.out
                  cases hfb : f.b
                  · have hk0 : ((kcount f : Nat) : Int) ≤ 1 := by have := mt hkB.1 (by simp [hfb]); omega
                    have e : Hid (B1 = 0) := by rw [hB1, hfb]; rfl
                    clear hlen hkA hkB hB1 hfb
                    go_wp2
                    go_meet
                    rw [e.out]
                    exact ⟨_, hB⟩
                  · have hk0 : (2 : Int) ≤ ((kcount f : Nat) : Int) := by have := hkB.2 hfb; omega
                    have hfa : f.a = true := hkA.1 (by have := hkB.2 hfb; omega)
                    have h8 : 8 ≤ X2.length := by rw [HX2.out, HX1.out, hfa]; have := hkB.2 hfb; simp; omega
                    have e : Hid (num (rtakeY 8 X2 0) = B1) := by
                      show _ = _
                      rw [hB1, hfb]
                      simp only [rtakeY, if_true, h8]
                      rw [HX2.out, HX1.out, hfa]
                      rfl
                    obtain ⟨vB, hvB, hv2⟩ := hB.out.2.1
                    have H8 := Lib.hid h8
                    clear hlen hkA hkB hB1 hfb hfa h8
                    go_wp2_with fail
                    refine (rU_any 8 hvB (by decide)).mono ?_
                    rw [e.out]
                    rintro e' w2 ⟨rfl, hs⟩
                    have hB2 := Lib.hid (RdS.step hB.out hv2 H8.out hs)
                    have ck := cells_of hB2.out.1
                    have fk := free_of hB2.out.1
                    clear hs hvB hv2
                    go_wp2
                    go_meet
                    exact ⟨_, RdS.setB hB2.out B1⟩
                case rest =>
                  clear hB
                  obtain ⟨X3, hB0⟩ := hcut.out
                  have hB := Lib.hid hB0
                  clear hcut hB0
                  go_upto_if 55 with fail
                  go_cut [] (fun wx => Hid (RdS wb k (kturn f A1) B1 X3 wx))
                  case first =>
                    obtain ⟨-, hten, -⟩ := FX.out
                    have ck := cells_of hB.out.1
                    have fk := free_of hB.out.1
                    by_cases hk10 : k = 10
                    · have hk2' : (((k : Nat) : Int) == 10) = true := by simp; omega
                      have e : Hid (kturn f A1 = 18446744073709551615 - A1) := by show _ = _; unfold kturn; rw [hten.1 hk10]; rfl
                      clear hten hk10
                      go_wp2
                      go_meet
                      rw [show (18446744073709551615 : Int) - (A1 : Int) = ((18446744073709551615 - A1 : Nat) : Int) from by omega, e.out]
                      exact RdS.setA hB.out _
                    · have hk2' : (((k : Nat) : Int) == 10) = false := by simp; omega
                      have e : Hid (kturn f A1 = A1) := by show _ = _; unfold kturn; rw [if_neg (fun h => hk10 (hten.2 h))]
                      clear hten hk10
                      go_wp2
                      go_meet
                      rw [e.out]
                      exact hB
                  case rest =>
                    clear hB
                    have hB := hcut
                    clear hcut
                    have hT := kturn_le f A1 lA1
                    obtain ⟨A2, hA2⟩ : ∃ A2, A2 = kturn f A1 := ⟨_, rfl⟩
                    rw [← hA2] at hB hT
                    have HC : Hid (candA f b = A2 ∧ candB f b = B1) := by rw [hA2]; exact FX.out.1
                    clear hA2
                    have ck := cells_of hB.out.1
                    have mwc := hR.out.2.after.then0 hB.out.2.2
                    go_wp2_with fail
                    refine (RMake_any (k : Int) A2 B1 _ hT lB1).mono ?_
                    rintro e w2 ⟨v, rfl, ov, mv, fv'⟩
                    have hz2 := mv.size
                    have hk3 := lt_of_heap hB.out.1
                    have ck2 := fun o => (mv.cellAt hk3 (fun x => x) o).trans (ck o)
                    have mw2 := (hR.out.2.then0 hB.out.2.2).then0 mv
                    have rb := (HR.out.keep mwc (fun _ _ x => x)).keep mv (fun _ _ x => x)
                    have g0 := mw2.heap (heap_new w _) (fun x => x)
                    obtain ⟨bb, hbb0⟩ : ∃ bb, bb = (kmake (k : Int) A2 B1).getD [] := ⟨_, rfl⟩
                    rw [← hbb0] at ov
                    have hbe : bb = b → kmake (k : Int) A2 B1 = some b := by
                      intro e
                      cases hm : kmake (k : Int) A2 B1 with
                      | none => rw [hm] at hbb0; have := HX.out; rw [← e, hbb0] at this; simp at this; omega
                      | some b' => rw [hm] at hbb0; rw [← e, hbb0]; rfl
                    have hbn : bb ≠ b → kmake (k : Int) A2 B1 ≠ some b := by
                      intro e h
                      rw [h] at hbb0
                      exact e hbb0
                    have HBE := Lib.hid (And.intro hbe hbn)
                    clear hbe hbn hbb0 ck
                    generalize (if (kmake (k : Int) A2 B1).isSome = true then (0 : Int) else 70) = er
                    go_wp2_with fail
                    refine (Bytes_any ov.rd rb).mono ?_
                    rintro e w3 ⟨rfl, nq, rfl⟩
                    clear rb ov mv fv' hB
                    by_cases hbb : bb = b
                    · have hkr : KReads b (k : Int) A2 B1 0 := .inl ⟨rfl, HBE.out.1 hbb, hT, lB1, by omega, by omega⟩
                      rw [show decide (bb = b) = true from by simp [hbb]]
                      clear hbb
                      have g0' : (w2.drewN nq).heap[w.heap.size]? = _ := g0
                      have mw3 := mw2.drewN nq
                      clear mw2 g0
                      go_wp2_with (refine wpList_store_blk rfl rfl g0' rfl rfl key_size rfl rfl ?_; intro w4 k1 k2 k3; have c4 := cells_of k1)
                      refine bodyPost_ret (by simp [results, Try.results14, go_sem, c4]; try rfl) rfl ?_
                      exact ⟨k, A2, B1, 0, rfl, hkr, mw3.after.trans k2 (fun _ _ x => x) (fun i hi x => by omega)⟩
                    · have HBB := Lib.hid hbb
                      rw [show decide (bb = b) = false from by simp [hbb]]
                      clear hbb g0
                      go_wp2
                      go_roundg (gk - 1)
                      case measure => omega
                      case rel =>
                        refine ⟨k + 1, by omega, by omega, by go_num, noKind_next hR.out.1 HF.out ?_, mw2.drewN nq⟩
                        rw [HC.out.1, HC.out.2]
                        exact HBE.out.2 HBB.out
        · have hsz2 : (((nx : Nat) : Int) != ((ksize f : Nat) : Int)) = true := by simp; omega
          have HS := Lib.hid hsz
          clear hsz
          go_wp2
          go_roundg (gk - 1)
          case measure => omega
          case rel =>
            refine ⟨k + 1, by omega, by omega, by go_num, noKind_next hR.out.1 HF.out (fun e => HS.out ?_), hR.out.2⟩
            rw [← HX.out]
            exact kmake_len HF.out e
    · obtain rfl : k = 18 := by omega
      obtain ⟨h1, h2⟩ := hR.out
      have g0 := h2.heap (heap_new w _) (fun x => x)
      clear hR
      go_wp2_with (refine wpList_store_blk rfl rfl g0 rfl rfl key_size rfl rfl ?_; intro w4 k1 k2 k3; have c4 := cells_of k1)
      refine bodyPost_ret (by simp [results, Try.results14, go_sem, c4]; try rfl) rfl ?_
      exact ⟨0, 0, 0, 70, rfl, noKind_all h1, h2.after.trans k2 (fun _ _ x => x) (fun i hi x => by omega)⟩

theorem RRead_any {v : Value} {b : List UInt8} {w : World} (hv : Rd w v b) : Calls Try.prog 14 #[v] w (KReadRes b w) := by
  obtain ⟨a, ca, rfl, h1, h2, h3, h4⟩ := hv.at'
  exact RRead_walk b a _ ca w hv rfl h1 h2

end Go.Proofs.Ytdoeadoaffmgpaa

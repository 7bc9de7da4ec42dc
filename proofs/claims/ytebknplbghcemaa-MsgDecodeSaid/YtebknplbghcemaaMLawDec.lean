/- MsgDecode: for all bytes of at most 3,000 msg.Decode tells the item and the error of the document's Decode, and leaves the bytes as they were: P17.3. No conditions. -/
import Derived.Test.YtebknplbghcemaaMKnown
import Derived.Test.YtebknplbghcemaaMRDec2
import Derived.Test.YtebknplbghcemaaHCopy
import Derived.Test.YtebknplbghcemaaArgs
namespace Go.Proofs.Ytebknplbghcemaa.msgDecode
open Go.Gl Go.RowKit Go.ChangeShapes Go.WideShapes Go.ChangeAt
set_option linter.unusedVariables false
set_option maxRecDepth 100000

theorem rDec_any {w : World} {u : Value} {xs : List UInt8} (hu : Rd w u xs) : Calls Try.prog 20 #[u] w (DRes w (decI xs) (decE xs)) := by
  unfold decI decE
  by_cases hl : xs.length ≤ 1024
  · simp only [hl, true_and, if_true]
    have hiff := rdOk_iff xs
    by_cases h1 : val 1 (xs, 0) = 84
    · have hR : itmR (xs, 0) = itmT (xs, 0) := by unfold itmR; rw [if_pos h1]
      have hq : ((1 ≤ mkd (xs, 0) ∧ mkd (xs, 0) ≤ 10) ∧ endE (endT (xs, 0)) = 0) ↔ isItm xs := by
        rw [← hiff]
        unfold rdOk
        constructor
        · exact fun h => .inl ⟨h1, h.1, h.2⟩
        · rintro (h | h)
          · exact ⟨h.2.1, h.2.2⟩
          · rw [h1] at h; exact absurd h.1 (by decide)
      have h := rDec_tx _ _ _ hu hl h1 rfl rfl rfl (by
        rcases us_ways ((mkd (xs, 0) : Nat) : Int) with h | h | h | h | h | h
        · exact .inl ⟨h.1, h.2.1, h.2.2.1⟩
        · exact .inr (.inl ⟨h.1, h.2.1, h.2.2.1⟩)
        · exact .inr (.inr (.inl ⟨h.1, h.2.1, h.2.2.1⟩))
        · exact .inr (.inr (.inr (.inl ⟨h.1, h.2.1, h.2.2.1⟩)))
        · exact .inr (.inr (.inr (.inr ⟨h.1, h.2.1, h.2.2.1⟩)))
        · exact .inr (.inr (.inr (.inr ⟨h.1, h.2.1, h.2.2.1⟩)))) (fun hk => by
        simp only [usA, usB, usN, Bool.or_eq_false_iff, beq_eq_false_iff_ne]
        omega)
      rw [hR]
      by_cases hi : isItm xs
      · rw [if_pos hi, if_pos hi]
        rw [if_pos (hq.2 hi), if_pos (hq.2 hi)] at h
        exact h
      · rw [if_neg hi, if_neg hi]
        rw [if_neg (fun x => hi (hq.1 x)), if_neg (fun x => hi (hq.1 x))] at h
        exact h
    · by_cases h2 : val 1 (xs, 0) = 70
      · have hR : itmR (xs, 0) = itmF (xs, 0) := by unfold itmR; rw [if_neg h1, if_pos h2]
        have hq : endE (endF (xs, 0)) = 0 ↔ isItm xs := by
          rw [← hiff]
          unfold rdOk
          constructor
          · exact fun h => .inr ⟨h2, h⟩
          · rintro (h | h)
            · exact absurd h.1 h1
            · exact h.2
        have h := rDec_fault hu hl h2
        rw [hR]
        by_cases hi : isItm xs
        · rw [if_pos hi, if_pos hi]
          rw [if_pos (hq.2 hi), if_pos (hq.2 hi)] at h
          exact h
        · rw [if_neg hi, if_neg hi]
          rw [if_neg (fun x => hi (hq.1 x)), if_neg (fun x => hi (hq.1 x))] at h
          exact h
      · have hi : ¬ isItm xs := by
          rw [← hiff]
          unfold rdOk
          rintro (h | h)
          · exact h1 h.1
          · exact h2 h.1
        rw [if_neg hi, if_neg hi]
        exact rDec_other hu hl h1 h2
  · simp only [hl, false_and, if_false]
    exact rDec_long hu hl

set_option maxHeartbeats 4000000 in
theorem walk (a0 : Option Addr) (len0 cap0 : Nat) (w : World) (b : List UInt8) (hr : Rd w (.slice a0 len0 cap0) b) :
    Calls Try.prog 4 #[.slice a0 len0 cap0] w fun e w' => e = .returned (.bool true) ∧ Below w.heap.size w w' := by
  obtain ⟨hl, hm⟩ : b.length = len0 ∧ len0 ≤ 9223372036854775807 := by
    obtain ⟨a, c, h, h2⟩ := hr.form
    cases h
    exact ⟨rfl, by simp only [maxLen] at h2; omega⟩
  have HR := Lib.hid hr
  have HL := Lib.hid hl
  have HD := Lib.hid (fun (w : World) (u : Value) (h : Rd w u b) => mDec_any h)
  have HE := Lib.hid (fun (w : World) (u : Value) (h : Rd w u b) => rDec_any h)
  generalize decI b = it at *
  generalize decE b = er at *
  obtain ⟨kd, s, q, f, m, a, bb, n, fk, fv, fh⟩ := it
  unfold DRes Itm.cells at *
  simp only at HD HE
  clear hr hl
  go_enter Try.func4, Try.ntmps4
  go_wp2_with fail
  refine (mknown_any _).mono ?_
  rintro e w1 ⟨rfl, m1⟩
  by_cases hbig : 3000 < len0
  · have M1 := Lib.hid m1
    clear m1
    go_wp2_with fail
    go_ret
    exact ⟨rfl, M1.out.below⟩
  · have R1 := Lib.hid (HR.out.keep m1 (fun _ _ x => x))
    have M1 := Lib.hid m1
    clear m1
    go_wp2_with fail
    refine (CopyBytes_any R1.out (by rw [HL.out]; omega)).mono ?_
    rintro e w2 ⟨v2, rfl, o2, m2, f2⟩
    have R2 := Lib.hid (R1.out.keep m2 (fun _ _ x => x))
    have M2 := Lib.hid (M1.out.then0 m2)
    have O2 := Lib.hid o2
    clear o2 m2 f2 R1
    go_wp2_with fail
    refine (HD.out _ _ O2.out.rd).mono ?_
    rintro e w3 ⟨rfl, m3⟩
    have m3 := m3.alloc (.cells #[.int .i64 kd, .int .u64 s, .int .u64 q, .int .u64 f, .int .i64 m, .int .u64 a, .int .u64 bb, .int .u64 n, .int .i64 fk, .int .u64 fv, .int .u64 fh] 30)
    have R3 := Lib.hid (R2.out.keep m3 (fun _ _ x => x))
    have O3 := Lib.hid (O2.out.keep m3 (fun _ _ x => x))
    have M3 := Lib.hid (M2.out.then0 m3)
    have G3 := Lib.hid (heap_new w3 (.cells #[.int .i64 kd, .int .u64 s, .int .u64 q, .int .u64 f, .int .i64 m, .int .u64 a, .int .u64 bb, .int .u64 n, .int .i64 fk, .int .u64 fv, .int .u64 fh] 30))
    clear m3 O2 R2
    go_wp2_with fail
    refine (HE.out _ _ R3.out).mono ?_
    rintro e w4 ⟨rfl, m4⟩
    have G4 := Lib.hid (m4.heap G3.out (fun x => x))
    have z4 : w3.heap.size < w4.heap.size := lt_of_heap G4.out
    have c4 := cells_of G4.out
    have m4 := m4.alloc (.cells #[.int .i64 kd, .int .u64 s, .int .u64 q, .int .u64 f, .int .i64 m, .int .u64 a, .int .u64 bb, .int .u64 n, .int .i64 fk, .int .u64 fv, .int .u64 fh] 30)
    have R4 := Lib.hid (R3.out.keep m4 (fun _ _ x => x))
    have O4 := Lib.hid (O3.out.keep m4 (fun _ _ x => x))
    have M4 := Lib.hid (M3.out.then0 m4)
    clear m4 O3 R3
    go_wp2_with (go_at_call 17; refine (Bytes_any O4.out.rd R4.out).mono ?_; rw [decide_eq_true rfl]; rintro r w5 ⟨rfl, nq, rfl⟩)
    go_ret
    exact ⟨rfl, (M4.out.drewN _).below⟩

theorem lifted (os : Os) (started : os.Started) (H : Type) (enc : TypeId × Value → H) :
    ReturnsInHanded {} Try.checked os 4 .any (Rows.msgDecodeSpec.pre6 enc Try.prog Try.f4 Rows.msgDecodeRow.domain false) (Rows.msgDecodeSpec.post enc Try.prog Try.f4 false true false false) := by
  refine returnsInHanded_of_change (C := Try.checked) own started (by kernel_rfl) Try.func4
    (ChangeSpec.witness6 (enc := enc) (C := Try.checked) false ⟨#[], #[.slice none 0 0], []⟩ 8 (by kernel_rfl) (by kernel_rfl) (by kernel_rfl) (by kernel_rfl)) ?_
  intro W base args ds gs before hval0 hW hcnd _
  have hval : ∀ (j : Nat) t v, Try.f4.params[j]? = some t → args[j]? = some v → Value.okWide Try.prog W .any base t v := hval0
  have hW' := hW
  obtain ⟨p, q, hA0, hV, rfl, hfz, hnd⟩ := hW
  have hA : DataW.TrodAll enc Try.prog W 0 (fun _ => true) true Try.f4.params.toList args.toList ds p := hA0
  rw [Try.params4] at hA hval
  obtain ⟨v0, vs0, d0, ds0, p0, q0, hargs, rfl, rfl, h0, r0⟩ := trodAll_cons hA
  obtain ⟨rfl, rfl, rfl⟩ := trodAll_nil r0
  obtain rfl : args = #[v0] := by cases args; simp_all
  obtain ⟨rfl, rfl⟩ := trodVars_none hV
  obtain ⟨a0, len0, cap0, rfl⟩ := okWide_slice Try.underlying32 (hval 0 32 v0 rfl rfl)
  obtain ⟨b0, wb0⟩ := rd_of_arg (hval 0 32 _ rfl rfl) h0
  have k0 := h0
  have lt0 : ∀ x ∈ p0, x.block < W.heap.size := by obtain ⟨m, hm⟩ := k0; exact DataW.trod_lt m _ _ _ hm
  clear hA0 hval0
  refine (walk a0 len0 cap0 W b0 wb0).mono fun e W' ⟨he, bel⟩ => ?_
  subst he
  exact ⟨_, rfl, _, _, _, [], _, [], hW', trodAll_mk1 (shut_bool Try.underlying4 _), (trodAll_cons_mk (Below.trod laidOut (by kernel_rfl) (of_decide_eq_true (by kernel_rfl)) k0 bel lt0) trodAll_mk0), rfl, bel.frame _, fun h => by cases h⟩

theorem over : Rows.msgDecodeRow.holds Try.pinned (OpenSpec.ofChange Rows.msgDecodeSpec) :=
  OpenClaim.holds_of_wide 4 Try.f4 rfl rfl rfl rfl rfl rfl rfl ⟨rfl, rfl, rfl, rfl, rfl⟩ rfl rfl rfl rfl rfl (by kernel_rfl) Try.func4 (by kernel_rfl)
    (of_decide_eq_true (by kernel_rfl)) (by unfold Func.isWrapper; first | (rw [if_pos (by decide +kernel)]; kernel_rfl) | (rw [if_neg (by decide +kernel)]; exact ⟨rfl, rfl⟩))
    (fun os started H enc _ => lifted os started H enc)

theorem proved : Rows.MsgDecodeSaid := over
#print axioms proved
end Go.Proofs.Ytebknplbghcemaa.msgDecode

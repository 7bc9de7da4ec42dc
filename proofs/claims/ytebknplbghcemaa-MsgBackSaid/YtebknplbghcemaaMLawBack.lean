/- MsgBack: for every item and all bytes of at most 3,000: what Encode tells Decode reads back, one byte more or less is refused; what Decode takes Encode writes again: P17.4. No conditions. -/
import Derived.Test.YtebknplbghcemaaMKnown
import Derived.Test.YtebknplbghcemaaMArgs
import Derived.Test.YtebknplbghcemaaLib3
import Derived.Deep.DeepCutAuto
namespace Go.Proofs.Ytebknplbghcemaa.msgBack
open Go.Gl Go.RowKit Go.ChangeShapes Go.WideShapes Go.ChangeAt
set_option linter.unusedVariables false
set_option maxRecDepth 100000

theorem bytes_len (i : Itm) : 1 ≤ i.bytes.length ∧ i.bytes.length ≤ 60 := by
  unfold Itm.bytes
  split
  · unfold Itm.bytesF
    simp [be_length]
  · unfold Itm.bytesT
    simp only [List.length_append, be_length]
    split <;> split <;> split <;> simp [be_length]

theorem dec_more (i : Itm) (c : UInt8) (h : mayB i = true) (hf : i.Fits) : decI (i.bytes ++ [c]) = itm0 ∧ decE (i.bytes ++ [c]) = 170 := by
  have hn : ¬ isItm (i.bytes ++ [c]) := by
    rw [isItm_bytes i [c] h hf]
    simp
  have := bytes_len i
  exact ⟨decI_no hn, decE_no hn (by simp; omega)⟩

theorem dec_less (i : Itm) (h : mayB i = true) (hf : i.Fits) : decI (i.bytes.take (i.bytes.length - 1)) = itm0 ∧ decE (i.bytes.take (i.bytes.length - 1)) = 170 := by
  have hl := bytes_len i
  have hn : ¬ isItm (i.bytes.take (i.bytes.length - 1)) := by
    intro hx
    have h2 : i.bytes.take (i.bytes.length - 1) ++ [i.bytes[i.bytes.length - 1]'(by omega)] = i.bytes := by
      have := List.take_succ_eq_append_getElem (l := i.bytes) (i := i.bytes.length - 1) (by omega)
      rw [← this, List.take_of_length_le (by omega)]
    have h3 := (isItm_bytes i [] h hf).2 rfl
    rw [List.append_nil, ← h2, ← hx.2, isItm_bytes _ _ hx.1 (itmR_fits _)] at h3
    cases h3
  exact ⟨decI_no hn, decE_no hn (by rw [List.length_take]; omega)⟩

theorem dec_same (i : Itm) (h : mayB i = true) (hf : i.Fits) : decI i.bytes = i ∧ decE i.bytes = 0 := by
  have h1 := (isItm_bytes i [] h hf).2 rfl
  rw [List.append_nil] at h1
  have hl := bytes_len i
  exact ⟨decI_back i h hf (by omega), decE_back h1 (by omega)⟩

/-- what the second half asks of Decode -/
theorem dec_ways (b : List UInt8) : (decE b ≠ 0 ∧ decI b = itm0) ∨ (decE b = 0 ∧ mayB (decI b) = true ∧ (decI b).bytes = b ∧ (decI b).Fits) := by
  unfold decE decI
  by_cases hl : b.length ≤ 1024
  · by_cases hi : isItm b
    · rw [if_pos hl, if_pos hi, if_pos ⟨hl, hi⟩]
      exact .inr ⟨rfl, hi.1, hi.2, itmR_fits _⟩
    · rw [if_pos hl, if_neg hi, if_neg (fun x => hi x.2)]
      exact .inl ⟨by decide, rfl⟩
  · rw [if_neg hl, if_neg (fun x => hl x.1)]
    exact .inl ⟨by decide, rfl⟩

/-- behind the first half: nothing that was there has turned; the bytes are read -/
def Half (w : World) (v : Value) (b : List UInt8) (wx : World) : Prop := Rd wx v b ∧ Mods noB w wx

set_option maxHeartbeats 8000000 in
theorem walk (i : Itm) (a0 : Option Addr) (len0 cap0 : Nat) (w : World) (b : List UInt8) (hi : i.Fits) (hr : Rd w (.slice a0 len0 cap0) b) :
    Calls Try.prog 5 #[.agg i.cells, .slice a0 len0 cap0] w fun e w' => e = .returned (.bool true) ∧ Below w.heap.size w w' := by
  obtain ⟨hl, hm⟩ : b.length = len0 ∧ len0 ≤ 9223372036854775807 := by
    obtain ⟨a, c, h, h2⟩ := hr.form
    cases h
    exact ⟨rfl, by simp only [maxLen] at h2; omega⟩
  have HR := Lib.hid hr
  have HL := Lib.hid hl
  have HE := Lib.hid (fun w => mEnc_any i w hi)
  have HM := Lib.hid (fun h => dec_more i 0 h hi)
  have HS := Lib.hid (fun h => dec_less i h hi)
  have HB := Lib.hid (fun h => dec_same i h hi)
  have HN := Lib.hid (bytes_len i)
  obtain ⟨bs, hbs⟩ : ∃ bs, i.bytes = bs := ⟨_, rfl⟩
  rw [hbs] at HE HM HS HB HN
  obtain ⟨mb, hmb⟩ : ∃ mb, mayB i = mb := ⟨_, rfl⟩
  rw [hmb] at HE HM HS HB
  clear hbs hmb hr hl hi
  obtain ⟨kd, s, q, f, m, a, bb, n, fk, fv, fh⟩ := i
  unfold Itm.cells at *
  simp only at HE ⊢
  go_enter Try.func5, Try.ntmps5
  go_wp2_with fail
  refine (mknown_any _).mono ?_
  rintro e w1 ⟨rfl, m1⟩
  have G1 := Lib.hid (m1.heap (heap_new w (.cells #[.int .i64 kd, .int .u64 s, .int .u64 q, .int .u64 f, .int .i64 m, .int .u64 a, .int .u64 bb, .int .u64 n, .int .i64 fk, .int .u64 fv, .int .u64 fh] 30)) (fun x => x))
  have c1 := cells_of G1.out
  have M1 := Lib.hid m1.after
  have R1 := Lib.hid (HR.out.keep m1.after (fun _ _ x => x))
  clear m1
  by_cases hbig : 3000 < len0
  · go_wp2_with fail
    go_ret
    exact ⟨rfl, M1.out.below⟩
  · go_wp2_with fail
    refine (HE.out _).mono ?_
    rintro e w2 ⟨v2, rfl, o2, m2, f2⟩
    obtain ⟨er, her⟩ : ∃ er : Int, (if mb then 0 else 170) = er := ⟨_, rfl⟩
    obtain ⟨xs, hxs⟩ : ∃ xs, (if mb then bs else []) = xs := ⟨_, rfl⟩
    rw [her]
    rw [hxs] at o2
    have HER := Lib.hid her
    have HXS := Lib.hid hxs
    have O2 := Lib.hid o2
    have M2 := Lib.hid (M1.out.then0 m2)
    have R2 := Lib.hid (R1.out.keep m2 (fun _ _ x => x))
    have G2 := Lib.hid (m2.heap G1.out (fun x => x))
    have F2 := Lib.hid f2
    have M1L := Lib.hid M1.out.size
    have M1Z := Lib.hid (lt_of_heap G1.out)
    clear o2 m2 f2 her hxs c1 M1 R1 HE
    go_upto_if 28 with fail
    go_cut [5] (fun _ wx => Hid (Half w (.slice a0 len0 cap0) b wx))
    case first =>
      cases mb
      · obtain rfl : 170 = er := HER.out
        go_wp2_with fail
        go_meet
        exact ⟨R2.out, M2.out⟩
      · obtain rfl : 0 = er := HER.out
        obtain rfl : bs = xs := HXS.out
        obtain ⟨p, q', c0, rfl, hc0⟩ : ∃ p q' c0, v2 = .slice (some ⟨p, q', none⟩) bs.length c0 ∧ bs.length ≤ c0 := by
          rcases O2.out.open with ⟨_, h⟩ | ⟨p, q', c0, _, h, _, hc, _⟩
          · have := HN.out.1
            rw [h] at this
            simp at this
          · exact ⟨p, q', c0, h, hc⟩
        have hn1 := HN.out.1
        have hn2 := HN.out.2
        obtain ⟨nb, hnb⟩ : ∃ nb, bs.length = nb := ⟨_, rfl⟩
        have HNB := Lib.hid hnb
        rw [hnb] at O2 hn1 hn2 hc0 ⊢
        have HS2 := Lib.hid (HS.out rfl)
        have HB2 := Lib.hid (HB.out rfl)
        have HM2 := Lib.hid (HM.out rfl)
        clear HS HB HM
        rw [hnb] at HS2
        have M1S := Lib.hid M1L.out
        have O2L := Lib.hid (fun k hk => O2.out.lt k hk)
        have R3L := Lib.hid (fun k hk => HR.out.lt k hk)
        clear hnb HN
        go_wp2_with fail
        refine (mDec_any O2.out.rd).mono ?_
        rw [HB2.out.1, HB2.out.2]
        unfold DRes
        simp only [Itm.cells]
        rintro e w3 ⟨rfl, m3⟩
        have M23 := Lib.hid m3.size
        have G3 := Lib.hid (heap_old (m3.heap G2.out (fun x => x)) (.cells #[.int .i64 kd, .int .u64 s, .int .u64 q, .int .u64 f, .int .i64 m, .int .u64 a, .int .u64 bb, .int .u64 n, .int .i64 fk, .int .u64 fv, .int .u64 fh] 30))
        have H3 := Lib.hid (heap_new w3 (.cells #[.int .i64 kd, .int .u64 s, .int .u64 q, .int .u64 f, .int .i64 m, .int .u64 a, .int .u64 bb, .int .u64 n, .int .i64 fk, .int .u64 fv, .int .u64 fh] 30))
        have O3 := Lib.hid (O2.out.keep (m3.alloc (.cells #[.int .i64 kd, .int .u64 s, .int .u64 q, .int .u64 f, .int .i64 m, .int .u64 a, .int .u64 bb, .int .u64 n, .int .i64 fk, .int .u64 fv, .int .u64 fh] 30)) (fun _ _ x => x))
        have M3 := Lib.hid ((M2.out.then0 m3).alloc (.cells #[.int .i64 kd, .int .u64 s, .int .u64 q, .int .u64 f, .int .i64 m, .int .u64 a, .int .u64 bb, .int .u64 n, .int .i64 fk, .int .u64 fv, .int .u64 fh] 30))
        have R3 := Lib.hid (R2.out.keep (m3.alloc (.cells #[.int .i64 kd, .int .u64 s, .int .u64 q, .int .u64 f, .int .i64 m, .int .u64 a, .int .u64 bb, .int .u64 n, .int .i64 fk, .int .u64 fv, .int .u64 fh] 30)) (fun _ _ x => x))
        clear m3 G2 O2 M2 R2
        go_wp2_with (at_builtin; refine stop ?_)
        unfold Stop
        refine wpList_apk rfl rfl bs [0] (O3.out.alloc _) (own_at 0 (w3.heap.size + 1) (by simp)).rd rfl rfl (by rw [HNB.out]; simp; omega) ?_
        intro v5 w5 o5 m5 f5 k5
        have M5 := Lib.hid ((M3.out.alloc (.cells #[.int .u8 0] 5)).trans m5 (U := noB) (fun _ _ x => x) (fun i hi x => by have := F2.out i x; have := M1S.out; omega))
        have R5 := Lib.hid ((R3.out.alloc (.cells #[.int .u8 0] 5)).keep m5 (fun k hk x => by have := F2.out k x; have := R3L.out k hk; have := M1S.out; omega))
        have G5 := Lib.hid (m5.heap (heap_old G3.out (.cells #[.int .u8 0] 5)) (fun x => by have := F2.out _ x; have := M1Z.out; omega))
        have H5 := Lib.hid (m5.heap (heap_old H3.out (.cells #[.int .u8 0] 5)) (fun x => by have := O2L.out _ x; have := M23.out; omega))
        have O5 := Lib.hid o5
        have K5 := Lib.hid k5
        clear o5 m5 f5 k5 M3 R3 G3 H3 O3
        go_wp2_with fail
        refine (mDec_any O5.out.rd).mono ?_
        rw [HM2.out.1, HM2.out.2]
        unfold DRes
        simp only [Itm.cells, itm0]
        rintro e w6 ⟨rfl, m6⟩
        have m6' := m6
        have m6 := m6.alloc (.cells #[.int .i64 0, .int .u64 0, .int .u64 0, .int .u64 0, .int .i64 0, .int .u64 0, .int .u64 0, .int .u64 0, .int .i64 0, .int .u64 0, .int .u64 0] 30)
        have M6 := Lib.hid (M5.out.then0 m6)
        have R6 := Lib.hid (R5.out.keep m6 (fun _ _ x => x))
        have G6 := Lib.hid (m6.heap G5.out (fun x => x))
        have H6 := Lib.hid (m6.heap H5.out (fun x => x))
        have K6 := Lib.hid (K5.out.keep m6 (fun _ _ x => x))
        have z6 : w3.heap.size < w6.heap.size := by have := lt_of_heap (m6'.heap H5.out (fun x => x)); omega
        clear m6 m6' M5 R5 G5 H5 K5 O5
        go_wp2_with fail
        refine (mDec_any (K6.out.rd.take' HNB.out (by omega))).mono ?_
        rw [HS2.out.1, HS2.out.2]
        unfold DRes
        simp only [Itm.cells, itm0]
        rintro e w7 ⟨rfl, m7⟩
        have m7' := m7
        have m7 := m7.alloc (.cells #[.int .i64 0, .int .u64 0, .int .u64 0, .int .u64 0, .int .i64 0, .int .u64 0, .int .u64 0, .int .u64 0, .int .i64 0, .int .u64 0, .int .u64 0] 30)
        have M7 := Lib.hid (M6.out.then0 m7)
        have R7 := Lib.hid (R6.out.keep m7 (fun _ _ x => x))
        have c7 := cells_of (m7'.heap G6.out (fun x => x))
        have d7 := cells_of (m7'.heap H6.out (fun x => x))
        have z7 : w.heap.size < w7.heap.size := lt_of_heap (m7'.heap G6.out (fun x => x))
        have z8 : w3.heap.size < w7.heap.size := lt_of_heap (m7'.heap H6.out (fun x => x))
        clear m7 m7' M6 R6 G6 H6 K6 z6
        go_wp2_with fail
        go_meet
        exact ⟨R7.out, M7.out⟩
    case rest =>
      clear O2 M2 R2 G2 F2 HM HS HB HN
      have RR := Lib.hid hcut.out.1
      have MM := Lib.hid hcut.out.2
      clear hcut
      go_wp2_with fail
      refine (mDec_any RR.out).mono ?_
      rintro e w3 ⟨rfl, m3⟩
      have R4 := Lib.hid (RR.out.keep m3 (fun _ _ x => x))
      have M4 := Lib.hid (MM.out.then0 m3)
      rcases dec_ways b with ⟨d1, d2⟩ | ⟨d1, d2, d3, d4⟩
      · have hb : (decE b == 0) = false := by simp [d1]
        have hb2 : (decE b != 0) = true := by simp [d1]
        rw [d2]
        generalize decE b = er2 at *
        simp only [Itm.cells, itm0]
        clear d1 d2 m3 RR MM
        go_wp2_with fail
        go_ret
        exact ⟨rfl, (M4.out.alloc _).below⟩
      · rw [d1]
        have HE := Lib.hid (fun w => mEnc_any (decI b) w d4)
        rw [d2, d3] at HE
        simp only [if_true] at HE
        generalize decI b = it2 at *
        obtain ⟨kd2, s2, q2, f2, mm2, a2, b2, n2, fk2, fv2, fh2⟩ := it2
        unfold Itm.cells at *
        simp only at HE ⊢
        clear d1 d2 d3 d4 m3 RR MM
        go_wp2_with fail
        refine (HE.out _).mono ?_
        rintro e w5 ⟨v5, rfl, o5, m5, f5⟩
        have m5 := (((Mods.refl noB w3).alloc (.cells #[.int .i64 kd2, .int .u64 s2, .int .u64 q2, .int .u64 f2, .int .i64 mm2, .int .u64 a2, .int .u64 b2, .int .u64 n2, .int .i64 fk2, .int .u64 fv2, .int .u64 fh2] 30)).then0 m5)
        have R5 := Lib.hid (R4.out.keep m5 (fun _ _ x => x))
        have M5 := Lib.hid (M4.out.then0 m5)
        have O5 := Lib.hid o5
        clear m5 o5 f5 R4 M4
        go_wp2_with (go_at_call 17; refine (Bytes_any O5.out.rd R5.out).mono ?_; rw [decide_eq_true rfl]; rintro r w6 ⟨rfl, nq, rfl⟩)
        go_ret
        exact ⟨rfl, (M5.out.drewN _).below⟩

theorem lifted (os : Os) (started : os.Started) (H : Type) (enc : TypeId × Value → H) :
    ReturnsInHanded {} Try.checked os 5 .any (Rows.msgBackSpec.pre6 enc Try.prog Try.f5 Rows.msgBackRow.domain false) (Rows.msgBackSpec.post enc Try.prog Try.f5 false true false false) := by
  refine returnsInHanded_of_change (C := Try.checked) own started (by kernel_rfl) Try.func5
    (ChangeSpec.witness6 (enc := enc) (C := Try.checked) false ⟨#[], #[.agg #[.int .i64 0, .int .u64 0, .int .u64 0, .int .u64 0, .int .i64 0, .int .u64 0, .int .u64 0, .int .u64 0, .int .i64 0, .int .u64 0, .int .u64 0], .slice none 0 0], []⟩ 8 (by kernel_rfl) (by kernel_rfl) (by kernel_rfl) (by kernel_rfl)) ?_
  intro W base args ds gs before hval0 hW hcnd _
  have hval : ∀ (j : Nat) t v, Try.f5.params[j]? = some t → args[j]? = some v → Value.okWide Try.prog W .any base t v := hval0
  have hW' := hW
  obtain ⟨p, q, hA0, hV, rfl, hfz, hnd⟩ := hW
  have hA : DataW.TrodAll enc Try.prog W 0 (fun _ => true) true Try.f5.params.toList args.toList ds p := hA0
  rw [Try.params5] at hA hval
  obtain ⟨v0, vs0, d0, ds0, p0, q0, hargs, rfl, rfl, h0, r0⟩ := trodAll_cons hA
  obtain ⟨v1, vs1, d1, ds1, p1, q1, rfl, rfl, rfl, h1, r1⟩ := trodAll_cons r0
  obtain ⟨rfl, rfl, rfl⟩ := trodAll_nil r1
  obtain rfl : args = #[v0, v1] := by cases args; simp_all
  obtain ⟨rfl, rfl⟩ := trodVars_none hV
  obtain ⟨i, rfl, hi⟩ := item_of_arg (hval 0 30 v0 rfl rfl)
  obtain ⟨a0, len0, cap0, rfl⟩ := okWide_slice Try.underlying32 (hval 1 32 v1 rfl rfl)
  obtain ⟨b0, wb0⟩ := rd_of_arg (hval 1 32 _ rfl rfl) h1
  have k0 := h0
  have k1 := h1
  have lt1 : ∀ x ∈ p1, x.block < W.heap.size := by obtain ⟨m, hm⟩ := k1; exact DataW.trod_lt m _ _ _ hm
  have lt0 : ∀ x ∈ p0, x.block < W.heap.size := by obtain ⟨m, hm⟩ := k0; exact DataW.trod_lt m _ _ _ hm
  clear hA0 hval0
  refine (walk i a0 len0 cap0 W b0 hi wb0).mono fun e W' ⟨he, bel⟩ => ?_
  subst he
  exact ⟨_, rfl, _, _, _, [], _, [], hW', trodAll_mk1 (shut_bool Try.underlying4 _), (trodAll_cons_mk (Below.trod laidOut (by kernel_rfl) (of_decide_eq_true (by kernel_rfl)) k0 bel lt0) (trodAll_cons_mk (Below.trod laidOut (by kernel_rfl) (of_decide_eq_true (by kernel_rfl)) k1 bel lt1) trodAll_mk0)), rfl, bel.frame _, fun h => by cases h⟩

theorem over : Rows.msgBackRow.holds Try.pinned (OpenSpec.ofChange Rows.msgBackSpec) :=
  OpenClaim.holds_of_wide 5 Try.f5 rfl rfl rfl rfl rfl rfl rfl ⟨rfl, rfl, rfl, rfl, rfl⟩ rfl rfl rfl rfl rfl (by kernel_rfl) Try.func5 (by kernel_rfl)
    (of_decide_eq_true (by kernel_rfl)) (by unfold Func.isWrapper; first | (rw [if_pos (by decide +kernel)]; kernel_rfl) | (rw [if_neg (by decide +kernel)]; exact ⟨rfl, rfl⟩))
    (fun os started H enc _ => lifted os started H enc)

theorem proved : Rows.MsgBackSaid := over
#print axioms proved
end Go.Proofs.Ytebknplbghcemaa.msgBack

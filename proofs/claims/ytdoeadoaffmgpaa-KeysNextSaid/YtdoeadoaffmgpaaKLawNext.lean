/- KeysNext: for all bytes what keys.Next tells is above all that begin so, and least so; keys begin as Under and Val say: P7.3. No conditions. -/
import Derived.Test.YtdoeadoaffmgpaaKKnown
import Derived.Test.YtdoeadoaffmgpaaKPlain2
import Derived.Test.YtdoeadoaffmgpaaKBegins
import Derived.Test.YtdoeadoaffmgpaaArgs
namespace Go.Proofs.Ytdoeadoaffmgpaa.keysNext
open Go.Gl Go.RowKit Go.ChangeShapes Go.WideShapes Go.ChangeAt
set_option linter.unusedVariables false

theorem three (k a n : Nat) (h1 : 6 ≤ k) (h2 : k ≤ 8) : ∃ x u, kmake (k : Int) a n = some x ∧ kunder (k : Int) a = some u ∧ x.take u.length = u ∧ u.take (118 :: be 8 a).length = 118 :: be 8 a := by
  have h3 : k = 6 ∨ k = 7 ∨ k = 8 := by omega
  rcases h3 with rfl | rfl | rfl
  all_goals
    refine ⟨_, _, rfl, rfl, ?_, ?_⟩
    · simp [kbytes]
    · simp only [kfirst, kturn, List.length_cons, be_length]
      simp [be_length]

theorem rd_cells {a : Option Addr} {n c : Nat} {w : World} {xs : List UInt8} (h : Rd w (.slice a n c) xs) : n = 0 ∨ ∃ g off, a = some ⟨g, off, none⟩ ∧ ∀ i (hi : i < xs.length), w.cell? ⟨g, off + i, none⟩ = some (.int .u8 (xs[i]).toNat) := by
  obtain ⟨a', c', he, _, hc⟩ := h.at
  cases he
  exact hc

theorem make_some {k : Int} {a b : Nat} {x : List UInt8} (h : kmake k a b = some x) (w : World) (ha : a ≤ 18446744073709551615) (hb : b ≤ 18446744073709551615) : Calls Try.prog 18 #[.agg #[.int .i64 k, .int .u64 a, .int .u64 b]] w (KRes w x 0) := by
  have := Make_any k a b w ha hb
  rw [h] at this
  exact this

theorem under_some {k : Int} {a : Nat} {x : List UInt8} (h : kunder k a = some x) (w : World) (ha : a ≤ 18446744073709551615) : Calls Try.prog 21 #[.int .i64 k, .int .u64 a] w (KRes w x 0) := by
  have := Under_any k a w ha
  rw [h] at this
  exact this

theorem begins_is {x y : Value} {xs ys : List UInt8} {w : World} (hx : Rd w x xs) (hy : Rd w y ys) (d : Bool) (hd : decide (xs.take ys.length = ys) = d) :
    Calls Try.prog 19 #[x, y] w fun e w' => e = .returned (.bool d) ∧ Mods noB w w' := (begins_any hx hy).mono fun e w' ⟨he, hq⟩ => ⟨by rw [he, hd], hq.mods _⟩
theorem less_is {x y : Value} {xs ys : List UInt8} {w : World} (hx : Rd w x xs) (hy : Rd w y ys) (d : Bool) (hd : lessB xs ys = d) :
    Calls Try.prog 20 #[x, y] w fun e w' => e = .returned (.bool d) ∧ Mods noB w w' := (Less_any hx hy).mono fun e w' ⟨he, hq⟩ => ⟨by rw [he, hd], hq.mods _⟩

theorem take_prefix (xs ys : List UInt8) : decide (xs.take ys.length = ys) = decide (ys <+: xs) := decide_eq_decide.2 ⟨fun h => List.prefix_iff_eq_take.2 h.symm, fun h => (List.prefix_iff_eq_take.1 h).symm⟩

set_option maxRecDepth 20000 in
set_option maxHeartbeats 2000000 in
theorem walk (a0 a1 : Option Addr) (len0 cap0 len1 cap1 : Nat) (A N : Nat) (w : World) (b c : List UInt8) (hr : Rd w (.slice a0 len0 cap0) b) (hs : Rd w (.slice a1 len1 cap1) c) (hA : A ≤ 18446744073709551615) (hN : N ≤ 18446744073709551615) :
    Calls Try.prog 6 #[.slice a0 len0 cap0, .slice a1 len1 cap1, .int .u64 A, .int .u64 N] w fun e w' => e = .returned (.bool true) ∧ Below w.heap.size w w' := by
  obtain ⟨hl, hm⟩ : b.length = len0 ∧ len0 ≤ 9223372036854775807 := by
    obtain ⟨a, c, h, h2⟩ := hr.form
    cases h
    exact ⟨rfl, by simp only [maxLen] at h2; omega⟩
  obtain ⟨hl1, hm1⟩ : c.length = len1 ∧ len1 ≤ 9223372036854775807 := by
    obtain ⟨a, c, h, h2⟩ := hs.form
    cases h
    exact ⟨rfl, by simp only [maxLen] at h2; omega⟩
  have HR := Lib.hid hr
  have HL := Lib.hid hl
  have HS := Lib.hid hs
  have HL1 := Lib.hid hl1
  clear hr hl hs hl1
  go_enter Try.func6, Try.ntmps6
  go_wp2_with fail
  refine (known_any _).mono ?_
  rintro e w1 ⟨rfl, m1⟩
  by_cases hbig : 500 < len0
  · have M1 := Lib.hid m1
    clear m1
    go_wp2_with fail
    go_ret
    exact ⟨rfl, M1.out.below⟩
  by_cases hbig1 : 500 < len1
  · have M1 := Lib.hid m1
    clear m1
    go_wp2_with fail
    go_ret
    exact ⟨rfl, M1.out.below⟩
  have r1 := HR.out.keep m1 (fun _ _ x => x)
  have s1 := HS.out.keep m1 (fun _ _ x => x)
  go_wp2_with fail
  refine (KNext_any r1 (by rw [HL.out]; omega)).mono ?_
  rintro e w2 ⟨v2, rfl, o2, m2, f2⟩
  have r2 := Lib.hid (r1.keep m2 (fun _ _ x => x))
  have s2 := Lib.hid (s1.keep m2 (fun _ _ x => x))
  have mw := Lib.hid (m1.then0 m2)
  obtain ⟨an, cn, rfl, hn⟩ := o2.rd.form
  have O2 := Lib.hid o2
  clear r1 s1 m1 m2 f2 o2 hn
  obtain ⟨ln, hln⟩ : ∃ ln, (knext b).length = ln := ⟨_, rfl⟩
  rw [hln] at O2 ⊢
  have HLN := Lib.hid hln
  clear hln
  have HC := Lib.hid (rd_cells r2.out)
  go_upto_if 30 with fail
  go_cut [] (fun wx => Hid (Mods noB w wx))
  case first =>
    by_cases hz : ln = 0
    · subst hz
      have HA' := Lib.hid (knext_nil (List.eq_nil_of_length_eq_zero HLN.out))
      go_wp2_with fail
      go_loopg [10] len0 (fun gk i wr => ∃ k : Nat, k + gk = len0 ∧ i = .int .i64 k ∧ wr = w2)
      case atStart => exact ⟨0, by omega, rfl, rfl⟩
      case round =>
        obtain ⟨k, hk, rfl, hw⟩ := hrel
        subst hw
        by_cases hlt : k < len0
        · obtain ⟨g, off, hax, c1⟩ := HC.out.resolve_left (by omega)
          have lk : k < b.length := by rw [HL.out]; exact hlt
          have c2 := c1 k lk
          rw [HA'.out k lk] at c2
          clear c1 HC lk
          subst hax
          go_wp2_with fail
          go_roundg (gk - 1)
          case measure => omega
          case rel => exact ⟨k + 1, by omega, by go_num, rfl⟩
        · go_wp2_with fail
          go_meet
          exact mw
    · have hzi : (((ln : Nat) : Int) == 0) = false := by simp; omega
      have hne : knext b ≠ [] := fun h => hz (by rw [← HLN.out, h]; rfl)
      have HNE := Lib.hid hne
      clear hne HC
      go_wp2_with fail
      refine (less_is r2.out O2.out.rd true (knext_above HNE.out).1).mono ?_
      rintro e w3 ⟨rfl, m3⟩
      have r3 := Lib.hid (r2.out.keep m3 (fun _ _ x => x))
      have s3 := Lib.hid (s2.out.keep m3 (fun _ _ x => x))
      have o3 := Lib.hid (O2.out.rd.keep m3 (fun _ _ x => x))
      have mw := Lib.hid (mw.out.then0 m3)
      clear m3 r2 s2 O2
      go_wp2_with fail
      refine (begins_is o3.out r3.out false (by rw [take_prefix]; exact decide_eq_false (knext_above HNE.out).2)).mono ?_
      rintro e w4 ⟨rfl, m3⟩
      have r4 := Lib.hid (r3.out.keep m3 (fun _ _ x => x))
      have s4 := Lib.hid (s3.out.keep m3 (fun _ _ x => x))
      have o4 := Lib.hid (o3.out.keep m3 (fun _ _ x => x))
      have mw := Lib.hid (mw.out.then0 m3)
      clear m3 r3 s3 o3
      go_wp2_with fail
      by_cases hp : b <+: c
      · have HP := Lib.hid hp
        clear hp
        refine (begins_is s4.out r4.out true (by rw [take_prefix]; exact decide_eq_true HP.out)).mono ?_
        rintro e w5 ⟨rfl, m3⟩
        have r5 := Lib.hid (r4.out.keep m3 (fun _ _ x => x))
        have s5 := Lib.hid (s4.out.keep m3 (fun _ _ x => x))
        have o5 := Lib.hid (o4.out.keep m3 (fun _ _ x => x))
        have mw := Lib.hid (mw.out.then0 m3)
        clear m3 r4 s4 o4
        go_wp2_with fail
        refine (less_is s5.out o5.out true (lessB_trans_prefix HP.out HNE.out)).mono ?_
        rintro e w6 ⟨rfl, m3⟩
        have mw := Lib.hid (mw.out.then0 m3)
        have r6 := Lib.hid (r5.out.keep m3 (fun _ _ x => x))
        have s6 := Lib.hid (s5.out.keep m3 (fun _ _ x => x))
        clear m3 r5 s5 o5
        go_wp2_with fail
        refine (begins_is s6.out r6.out true (by rw [take_prefix]; exact decide_eq_true HP.out)).mono ?_
        rintro e w7 ⟨rfl, m3⟩
        have mw := Lib.hid (mw.out.then0 m3)
        clear m3
        go_wp2_with fail
        go_meet
        exact mw
      · have HP := Lib.hid hp
        clear hp
        refine (begins_is s4.out r4.out false (by rw [take_prefix]; exact decide_eq_false HP.out)).mono ?_
        rintro e w5 ⟨rfl, m3⟩
        have r5 := Lib.hid (r4.out.keep m3 (fun _ _ x => x))
        have s5 := Lib.hid (s4.out.keep m3 (fun _ _ x => x))
        have o5 := Lib.hid (o4.out.keep m3 (fun _ _ x => x))
        have mw := Lib.hid (mw.out.then0 m3)
        clear m3 r4 s4 o4
        go_wp2_with fail
        refine (begins_is s5.out r5.out false (by rw [take_prefix]; exact decide_eq_false HP.out)).mono ?_
        rintro e w6 ⟨rfl, m3⟩
        have r6 := Lib.hid (r5.out.keep m3 (fun _ _ x => x))
        have s6 := Lib.hid (s5.out.keep m3 (fun _ _ x => x))
        have o6 := Lib.hid (o5.out.keep m3 (fun _ _ x => x))
        have mw := Lib.hid (mw.out.then0 m3)
        clear m3 r5 s5 o5
        go_wp2_with fail
        cases hd : lessB c b
        · have HD := Lib.hid hd
          clear hd
          refine (less_is s6.out r6.out false HD.out).mono ?_
          rintro e w7 ⟨rfl, m3⟩
          have r7 := Lib.hid (r6.out.keep m3 (fun _ _ x => x))
          have s7 := Lib.hid (s6.out.keep m3 (fun _ _ x => x))
          have o7 := Lib.hid (o6.out.keep m3 (fun _ _ x => x))
          have mw := Lib.hid (mw.out.then0 m3)
          clear m3 r6 s6 o6
          go_wp2_with fail
          refine (less_is s7.out o7.out false (knext_least HNE.out HP.out HD.out)).mono ?_
          rintro e w8 ⟨rfl, m3⟩
          have mw := Lib.hid (mw.out.then0 m3)
          clear m3
          go_wp2_with fail
          go_meet
          exact mw
        · have HD := Lib.hid hd
          clear hd
          refine (less_is s6.out r6.out true HD.out).mono ?_
          rintro e w8 ⟨rfl, m3⟩
          have mw := Lib.hid (mw.out.then0 m3)
          clear m3
          go_wp2_with fail
          go_meet
          exact mw
  case rest =>
    clear HC O2 r2 s2 HLN HR HS mw HL HL1
    have MW := hcut
    clear hcut
    go_wp2_with fail
    go_loopg [11] 3 (fun gk i wr => ∃ k : Nat, k + gk = 9 ∧ 6 ≤ k ∧ i = .int .i64 k ∧ Hid (Mods noB w wr))
    case atStart => exact ⟨6, by omega, Nat.le_refl _, rfl, MW⟩
    case round =>
      obtain ⟨k, hk, hk6, rfl, hR⟩ := hrel
      by_cases hlt : k < 9
      · obtain ⟨x, u, hx, hu, h1, h2⟩ := three k A N hk6 (by omega)
        have HX := Lib.hid hx
        have HU := Lib.hid hu
        have H1 := Lib.hid h1
        have H2 := Lib.hid h2
        clear hx hu h1 h2
        go_wp2_with fail
        refine (make_some HX.out _ hA hN).mono ?_
        rintro e w3 ⟨v3, rfl, o3, m3, f3⟩
        have mw := hR.out.then0 m3
        clear m3 f3
        go_wp2_with fail
        refine (under_some HU.out _ hA).mono ?_
        rintro e w4 ⟨v4, rfl, o4, m4, f4⟩
        have o3 := o3.keep m4 (fun _ _ x => x)
        have mw := mw.then0 m4
        clear m4 f4
        go_wp2_with fail
        refine (begins_is o3.rd o4.rd true (decide_eq_true H1.out)).mono ?_
        rintro e w5 ⟨rfl, m5⟩
        have o4 := o4.keep m5 (fun _ _ x => x)
        have mw := mw.then0 m5
        clear m5 o3
        go_wp2_with fail
        refine (Val_any A _ hA).mono ?_
        rintro e w6 ⟨v6, rfl, o6, m6, f6⟩
        have o4 := o4.keep m6 (fun _ _ x => x)
        have mw := mw.then0 m6
        clear m6 f6
        go_wp2_with fail
        refine (begins_is o4.rd o6.rd true (decide_eq_true H2.out)).mono ?_
        rintro e w7 ⟨rfl, m7⟩
        have mw := Lib.hid (mw.then0 m7)
        clear m7 o4 o6
        go_wp2_with fail
        go_roundg (gk - 1)
        case measure => omega
        case rel => exact ⟨k + 1, by omega, by omega, by go_num, mw⟩
      · go_wp2_with fail
        go_ret
        exact ⟨rfl, hR.out.below⟩

set_option maxRecDepth 100000 in
theorem lifted (os : Os) (started : os.Started) (H : Type) (enc : TypeId × Value → H) :
    ReturnsInHanded {} Try.checked os 6 .any (Rows.keysNextSpec.pre6 enc Try.prog Try.f6 Rows.keysNextRow.domain false) (Rows.keysNextSpec.post enc Try.prog Try.f6 false true false false) := by
  refine returnsInHanded_of_change (C := Try.checked) own started (by kernel_rfl) Try.func6
    (ChangeSpec.witness6 (enc := enc) (C := Try.checked) false ⟨#[], #[.slice none 0 0, .slice none 0 0, .int .u64 0, .int .u64 0], []⟩ 8 (by kernel_rfl) (by kernel_rfl) (by kernel_rfl) (by kernel_rfl)) ?_
  intro W base args ds gs before hval0 hW hcnd _
  have hval : ∀ (j : Nat) t v, Try.f6.params[j]? = some t → args[j]? = some v → Value.okWide Try.prog W .any base t v := hval0
  have hW' := hW
  obtain ⟨p, q, hA0, hV, rfl, hfz, hnd⟩ := hW
  have hA : DataW.TrodAll enc Try.prog W 0 (fun _ => true) true Try.f6.params.toList args.toList ds p := hA0
  rw [Try.params6] at hA hval
  obtain ⟨v0, vs0, d0, ds0, p0, q0, hargs, rfl, rfl, h0, r0⟩ := trodAll_cons hA
  obtain ⟨v1, vs1, d1, ds1, p1, q1, rfl, rfl, rfl, h1, r1⟩ := trodAll_cons r0
  obtain ⟨v2, vs2, d2, ds2, p2, q2, rfl, rfl, rfl, h2, r2⟩ := trodAll_cons r1
  obtain ⟨v3, vs3, d3, ds3, p3, q3, rfl, rfl, rfl, h3, r3⟩ := trodAll_cons r2
  obtain ⟨rfl, rfl, rfl⟩ := trodAll_nil r3
  obtain rfl : args = #[v0, v1, v2, v3] := by cases args; simp_all
  obtain ⟨rfl, rfl⟩ := trodVars_none hV
  obtain ⟨a0, len0, cap0, rfl⟩ := okWide_slice Try.underlying26 (hval 0 26 v0 rfl rfl)
  obtain ⟨a1, len1, cap1, rfl⟩ := okWide_slice Try.underlying26 (hval 1 26 v1 rfl rfl)
  obtain ⟨a2, rfl, rfl, rfl, w2⟩ := open_int Try.underlying22 (hval 2 22 v2 rfl rfl) h2
  obtain ⟨a3, rfl, rfl, rfl, w3⟩ := open_int Try.underlying22 (hval 3 22 v3 rfl rfl) h3
  have k0 := h0
  have k1 := h1
  have lt0 : ∀ x ∈ p0, x.block < W.heap.size := by obtain ⟨m, hm⟩ := k0; exact DataW.trod_lt m _ _ _ hm
  have lt1 : ∀ x ∈ p1, x.block < W.heap.size := by obtain ⟨m, hm⟩ := k1; exact DataW.trod_lt m _ _ _ hm
  obtain ⟨b0, wb0⟩ := rd_of_arg (hval 0 26 _ rfl rfl) h0
  obtain ⟨b1, wb1⟩ := rd_of_arg (hval 1 26 _ rfl rfl) h1
  clear hA0 hval0
  have bd2 := bounds_u64 w2
  have bd3 := bounds_u64 w3
  obtain ⟨x2, rfl⟩ := Int.eq_ofNat_of_zero_le bd2.1
  obtain ⟨x3, rfl⟩ := Int.eq_ofNat_of_zero_le bd3.1
  refine (walk a0 a1 len0 cap0 len1 cap1 x2 x3 W b0 b1 wb0 wb1 (by have := bd2.2; omega) (by have := bd3.2; omega)).mono fun e W' ⟨he, bel⟩ => ?_
  subst he
  exact ⟨_, rfl, _, _, _, [], _, [], hW', trodAll_mk1 (shut_bool Try.underlying4 _), (trodAll_cons_mk (Below.trod laidOut (by kernel_rfl) (of_decide_eq_true (by kernel_rfl)) k0 bel lt0) (trodAll_cons_mk (Below.trod laidOut (by kernel_rfl) (of_decide_eq_true (by kernel_rfl)) k1 bel lt1) (trodAll_cons_mk (shut_int Try.underlying22 w2) (trodAll_cons_mk (shut_int Try.underlying22 w3) trodAll_mk0)))), rfl, bel.frame _, fun h => by cases h⟩

theorem over : Rows.keysNextRow.holds Try.pinned (OpenSpec.ofChange Rows.keysNextSpec) :=
  OpenClaim.holds_of_wide 6 Try.f6 rfl rfl rfl rfl rfl rfl rfl ⟨rfl, rfl, rfl, rfl, rfl⟩ rfl rfl rfl rfl rfl (by kernel_rfl) Try.func6 (by kernel_rfl)
    (of_decide_eq_true (by kernel_rfl)) (by unfold Func.isWrapper; first | (rw [if_pos (by decide +kernel)]; kernel_rfl) | (rw [if_neg (by decide +kernel)]; exact ⟨rfl, rfl⟩))
    (fun os started H enc _ => lifted os started H enc)

theorem proved : Rows.KeysNextSaid := over
#print axioms proved
end Go.Proofs.Ytdoeadoaffmgpaa.keysNext

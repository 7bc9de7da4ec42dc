/- KeysOrder: keys of any two kinds and numbers: what Make makes Read tells again, no two make one, no key begins another, and they stand in order: P7.1, P7.3. No conditions. -/
import Derived.Test.YtdoeadoaffmgpaaKKnown
import Derived.Test.YtdoeadoaffmgpaaKPlain2
import Derived.Test.YtdoeadoaffmgpaaKBegins
import Derived.Test.YtdoeadoaffmgpaaArgs
namespace Go.Proofs.Ytdoeadoaffmgpaa.keysOrder
open Go.Gl Go.RowKit Go.ChangeShapes Go.WideShapes Go.ChangeAt
set_option linter.unusedVariables false

theorem make_some {k : Int} {a b : Nat} {x : List UInt8} (h : kmake k a b = some x) (w : World) (ha : a ≤ 18446744073709551615) (hb : b ≤ 18446744073709551615) : Calls Try.prog 18 #[.agg #[.int .i64 k, .int .u64 a, .int .u64 b]] w (KRes w x 0) := by
  have := Make_any k a b w ha hb
  rw [h] at this
  exact this
theorem make_none {k : Int} {a b : Nat} (h : kmake k a b = none) (w : World) (ha : a ≤ 18446744073709551615) (hb : b ≤ 18446744073709551615) : Calls Try.prog 18 #[.agg #[.int .i64 k, .int .u64 a, .int .u64 b]] w (KRes w [] 70) := by
  have := Make_any k a b w ha hb
  rw [h] at this
  exact this
theorem read_made {k : Int} {a b : Nat} {x : List UInt8} {v : Value} {w : World} (h : kmake k a b = some x) (ha : a ≤ 18446744073709551615) (hb : b ≤ 18446744073709551615) (hv : Rd w v x) :
    Calls Try.prog 13 #[v] w fun e w' => e = .returned (.tuple #[.agg #[.int .i64 k, .int .u64 a, .int .u64 b], .int .i64 0]) ∧ Mods noB w w' :=
  (KRead_any hv).mono fun e w' ⟨k', A, B, n, he, hr, hm⟩ => by
    have r := kmake_range h
    have h2 : KReads x k a b 0 := .inl ⟨rfl, h, ha, hb, by omega, by omega⟩
    obtain ⟨rfl, rfl, rfl, rfl⟩ := hr.same h2
    exact ⟨he, hm⟩

theorem begins_is {x y : Value} {xs ys : List UInt8} {w : World} (hx : Rd w x xs) (hy : Rd w y ys) (d : Bool) (hd : decide (xs.take ys.length = ys) = d) :
    Calls Try.prog 19 #[x, y] w fun e w' => e = .returned (.bool d) ∧ Mods noB w w' := (begins_any hx hy).mono fun e w' ⟨he, hq⟩ => ⟨by rw [he, hd], hq.mods _⟩
theorem less_is {x y : Value} {xs ys : List UInt8} {w : World} (hx : Rd w x xs) (hy : Rd w y ys) (d : Bool) (hd : lessB xs ys = d) :
    Calls Try.prog 20 #[x, y] w fun e w' => e = .returned (.bool d) ∧ Mods noB w w' := (Less_any hx hy).mono fun e w' ⟨he, hq⟩ => ⟨by rw [he, hd], hq.mods _⟩
theorem bytes_is {x y : Value} {xs ys : List UInt8} {w : World} (hx : Rd w x xs) (hy : Rd w y ys) (d : Bool) (hd : decide (xs = ys) = d) :
    Calls Try.prog 9 #[x, y] w fun e w' => e = .returned (.bool d) ∧ Mods noB w w' := (Bytes_any hx hy).mono fun e w' ⟨he, hq⟩ => ⟨by rw [he, hd], hq.mods _⟩

theorem take_prefix (xs ys : List UInt8) : decide (xs.take ys.length = ys) = decide (ys <+: xs) := decide_eq_decide.2 ⟨fun h => List.prefix_iff_eq_take.2 h.symm, fun h => (List.prefix_iff_eq_take.1 h).symm⟩

theorem kmake_zero (k : Int) (h1 : 1 ≤ k) (h2 : k ≤ 17) : ∃ x, kmake k 0 0 = some x := by
  obtain ⟨n, rfl⟩ := Int.eq_ofNat_of_zero_le (a := k) (by omega)
  obtain ⟨f, hf, _⟩ := formsV_at n (by omega) (by omega)
  exact ⟨kbytes f 0 0, by simp [kmake, hf, kfit]⟩

theorem make_e (k : Int) (a b : Nat) (w : World) (ha : a ≤ 18446744073709551615) (hb : b ≤ 18446744073709551615) : Calls Try.prog 18 #[.agg #[.int .i64 k, .int .u64 a, .int .u64 b]] w fun e w' => ∃ (v : Value) (e0 : Int), e = .returned (.tuple #[v, .int .i64 e0]) ∧ ((e0 = 0 ∧ ∃ x, kmake k a b = some x ∧ Own w' v x) ∨ (e0 = 70 ∧ kmake k a b = none)) ∧ Mods noB w w' := by
  cases h : kmake k a b with
  | none => exact (make_none h w ha hb).mono fun e w' ⟨v, he, ho, hm, hf⟩ => ⟨v, 70, he, .inr ⟨rfl, rfl⟩, hm⟩
  | some x => exact (make_some h w ha hb).mono fun e w' ⟨v, he, ho, hm, hf⟩ => ⟨v, 0, he, .inl ⟨rfl, x, rfl, ho⟩, hm⟩

/-- behind the first Make -/
def S1 (w : World) (k : Int) (a B : Nat) (e : Int) (s13 : Value) (wx : World) : Prop :=
  B ≤ 18446744073709551615 ∧ Mods noB w wx ∧ ((e = 0 ∧ ∃ x, kmake k a B = some x ∧ Own wx s13 x) ∨ (e = 70 ∧ B = 0))
/-- behind the last Make -/
def S2 (w : World) (k : Int) (A B : Nat) (s13 : Value) (wx : World) : Prop :=
  A ≤ 18446744073709551615 ∧ B ≤ 18446744073709551615 ∧ Mods noB w wx ∧ ∃ x, kmake k A B = some x ∧ Own wx s13 x

set_option maxRecDepth 20000 in
set_option maxHeartbeats 2000000 in
theorem walk (n0 n1 : Int) (a b c d : Nat) (w : World) (l0 : -9223372036854775808 ≤ n0) (u0 : n0 ≤ 9223372036854775807) (l1 : -9223372036854775808 ≤ n1) (u1 : n1 ≤ 9223372036854775807) (ha : a ≤ 18446744073709551615) (hb : b ≤ 18446744073709551615) (hc : c ≤ 18446744073709551615) (hd : d ≤ 18446744073709551615) :
    Calls Try.prog 5 #[.int .i64 n0, .int .i64 n1, .int .u64 a, .int .u64 b, .int .u64 c, .int .u64 d] w fun e w' => e = .returned (.bool true) ∧ Below w.heap.size w w' := by
  go_enter Try.func5, Try.ntmps5
  go_wp2_with fail
  refine (known_any _).mono ?_
  rintro e w1 ⟨rfl, m1⟩
  have M1 := Lib.hid m1
  clear m1
  go_wp2_with fail
  refine (Place_any n0 17 _ l0 u0 (by decide) (by decide)).mono ?_
  rintro e w2 ⟨r, rfl, hr0, hr1, hw⟩
  subst hw
  go_wp2_with fail
  refine (Place_any n1 17 _ l1 u1 (by decide) (by decide)).mono ?_
  rintro e w2 ⟨q, rfl, hq0, hq1, hw⟩
  subst hw
  clear l0 u0 l1 u1
  obtain ⟨k, hk⟩ : ∃ k, 1 + r = k := ⟨_, rfl⟩
  obtain ⟨o, ho⟩ : ∃ o, 1 + q = o := ⟨_, rfl⟩
  go_wp2_with fail
  have hk1 : 1 ≤ k := by omega
  have hk2 : k ≤ 17 := by omega
  have ho1 : 1 ≤ o := by omega
  have ho2 : o ≤ 17 := by omega
  clear hk ho hr0 hr1 hq0 hq1
  refine (make_e k a b _ ha hb).mono ?_
  rintro e w3 ⟨v3, e3, rfl, h3, m3⟩
  have H3 := Lib.hid h3
  have M3 := Lib.hid (M1.out.then0 m3)
  clear h3 m3 M1
  go_upto_if 37 with fail
  go_cut [3, 13, 14] (fun s3 s13 s14 wx => ∃ (B : Nat) (e : Int), s3 = .int .u64 (B : Int) ∧ s14 = .int .i64 e ∧ S1 w k a B e s13 wx)
  case first =>
    rcases H3.out with ⟨rfl, x, hx, hox⟩ | ⟨rfl, hx⟩
    · have HO := Lib.hid hox
      have HX := Lib.hid hx
      clear hox hx
      go_wp2_with fail
      go_meet
      exact ⟨b, 0, rfl, rfl, hb, M3.out, .inl ⟨rfl, x, HX.out, HO.out⟩⟩
    · have HX := Lib.hid hx
      clear hx
      go_wp2_with fail
      refine (make_e k a 0 _ ha (by decide)).mono ?_
      rintro e w4 ⟨v4, e4, rfl, h4, m4⟩
      have H4 := Lib.hid h4
      have M4 := Lib.hid (M3.out.then0 m4)
      clear h4 m4
      go_wp2_with fail
      go_meet
      refine ⟨0, e4, rfl, rfl, by decide, M4.out, ?_⟩
      rcases H4.out with ⟨h, x, hx, hox⟩ | ⟨h, hx⟩
      · exact .inl ⟨h, x, hx, hox⟩
      · exact .inr ⟨h, rfl⟩
  case rest =>
    obtain ⟨B, e4, rfl, rfl, h4⟩ := hcut
    have H4 := Lib.hid h4
    clear h4 H3 M3
    go_upto_if 46 with fail
    go_cut [2, 13, 14] (fun s2 s13 s14 wx => ∃ (A : Nat), s2 = .int .u64 (A : Int) ∧ s14 = .int .i64 0 ∧ S2 w k A B s13 wx)
    case first =>
      obtain ⟨hB, hm, h5⟩ := H4.out
      have M4 := Lib.hid hm
      clear hm H4
      rcases h5 with ⟨rfl, x, hx, hox⟩ | ⟨rfl, rfl⟩
      · have HO := Lib.hid hox
        have HX := Lib.hid hx
        clear hox hx
        go_wp2_with fail
        go_meet
        exact ⟨a, rfl, rfl, ha, hB, M4.out, x, HX.out, HO.out⟩
      · obtain ⟨x, hx⟩ := kmake_zero k hk1 hk2
        have HX := Lib.hid hx
        clear hx
        go_wp2_with fail
        refine (make_some HX.out _ (by decide) (by decide)).mono ?_
        rintro e w5 ⟨v5, rfl, h5, m5, f5⟩
        have H5 := Lib.hid h5
        have M5 := Lib.hid (M4.out.then0 m5)
        clear h5 m5 f5
        go_wp2_with fail
        go_meet
        exact ⟨0, rfl, rfl, by decide, by decide, M5.out, x, HX.out, H5.out⟩
    case rest =>
      clear H4
      obtain ⟨A, rfl, rfl, hA, hB, hm, x, hx, hox⟩ := hcut
      have HX := Lib.hid hx
      have x4 := Lib.hid hox.rd
      have mw := Lib.hid hm
      clear hx hox hm
      go_wp2_with fail
      refine (read_made HX.out hA hB x4.out).mono ?_
      rintro e w5 ⟨rfl, m5⟩
      have x5 := Lib.hid ((x4.out.keep m5 (fun _ _ x => x)).alloc (.cells #[.int .i64 k, .int .u64 (A : Int), .int .u64 (B : Int)] 30))
      have mw := Lib.hid ((mw.out.then0 m5).alloc (.cells #[.int .i64 k, .int .u64 (A : Int), .int .u64 (B : Int)] 30))
      have c5 := cells_of (heap_new w5 (.cells #[.int .i64 k, .int .u64 (A : Int), .int .u64 (B : Int)] 30))
      have hne := fun w => (key_neq k A B k A B w).trans (show _ = Result.ok (Value.bool false) w by simp)
      clear m5 x4
      go_wp2_with fail
      clear hne c5
      generalize World.alloc w5 _ = w6 at *
      refine (make_e o c d _ hc hd).mono ?_
      rintro e w7 ⟨v7, e7, rfl, h7, m7⟩
      have x7 := Lib.hid (x5.out.keep m7 (fun _ _ x => x))
      have mw := Lib.hid (mw.out.then0 m7)
      clear m7 x5
      rcases h7 with ⟨rfl, y, hy, hoy⟩ | ⟨rfl, hy⟩
      · have HY := Lib.hid hy
        have y7 := Lib.hid hoy.rd
        clear hy hoy
        go_wp2_with fail
        by_cases hxy : x = y
        · subst hxy
          obtain ⟨he1, he2, he3⟩ := kmake_inj HX.out HY.out hA hB hc hd
          subst he1 he2 he3
          clear HX
          refine (bytes_is x7.out y7.out true (decide_eq_true rfl)).mono ?_
          rintro e w8 ⟨rfl, mm⟩
          have x8 := Lib.hid (x7.out.keep mm (fun _ _ x => x))
          have y8 := Lib.hid (y7.out.keep mm (fun _ _ x => x))
          have mw := Lib.hid (mw.out.then0 mm)
          clear mm x7 y7
          go_wp2_with fail
          refine (bytes_is x8.out y8.out true (decide_eq_true rfl)).mono ?_
          rintro e w9 ⟨rfl, mm⟩
          have x9 := Lib.hid (x8.out.keep mm (fun _ _ x => x))
          have y9 := Lib.hid (y8.out.keep mm (fun _ _ x => x))
          have mw := Lib.hid (mw.out.then0 mm)
          clear mm x8 y8
          go_wp2_with fail
          all_goals
            refine (less_is x9.out y9.out false (lessB_self _)).mono ?_
            rintro e w10 ⟨rfl, mm⟩
            have mw := Lib.hid (mw.out.then0 mm)
            clear mm
            go_wp2_with fail
            go_ret
            exact ⟨rfl, mw.out.below⟩
        · have HN := Lib.hid hxy
          have hno1 : ¬ y <+: x := fun h => HN.out (kmake_prefix HX.out HY.out h)
          have hno2 : ¬ x <+: y := fun h => HN.out (kmake_prefix HY.out HX.out h).symm
          have H1 := Lib.hid hno1
          have H2 := Lib.hid hno2
          clear hxy hno1 hno2
          refine (bytes_is x7.out y7.out false (decide_eq_false HN.out)).mono ?_
          rintro e w8 ⟨rfl, mm⟩
          have x8 := Lib.hid (x7.out.keep mm (fun _ _ x => x))
          have y8 := Lib.hid (y7.out.keep mm (fun _ _ x => x))
          have mw := Lib.hid (mw.out.then0 mm)
          clear mm x7 y7
          go_wp2_with fail
          refine (begins_is x8.out y8.out false (by rw [take_prefix]; exact decide_eq_false H1.out)).mono ?_
          rintro e w9 ⟨rfl, mm⟩
          have x9 := Lib.hid (x8.out.keep mm (fun _ _ x => x))
          have y9 := Lib.hid (y8.out.keep mm (fun _ _ x => x))
          have mw := Lib.hid (mw.out.then0 mm)
          clear mm x8 y8
          go_wp2_with fail
          refine (begins_is y9.out x9.out false (by rw [take_prefix]; exact decide_eq_false H2.out)).mono ?_
          rintro e w10 ⟨rfl, mm⟩
          have x10 := Lib.hid (x9.out.keep mm (fun _ _ x => x))
          have y10 := Lib.hid (y9.out.keep mm (fun _ _ x => x))
          have mw := Lib.hid (mw.out.then0 mm)
          clear mm x9 y9
          go_wp2_with fail
          refine (bytes_is x10.out y10.out false (decide_eq_false HN.out)).mono ?_
          rintro e w11 ⟨rfl, mm⟩
          have x11 := Lib.hid (x10.out.keep mm (fun _ _ x => x))
          have y11 := Lib.hid (y10.out.keep mm (fun _ _ x => x))
          have mw := Lib.hid (mw.out.then0 mm)
          clear mm x10 y10
          by_cases hko : k = o
          · subst hko
            have hK := kless_ok HX.out HY.out hA hB hc hd
            obtain ⟨K, hKK⟩ : ∃ K, kless k A B c d = K := ⟨_, rfl⟩
            rw [hKK] at hK
            have HK := Lib.hid hK
            have HKK := Lib.hid hKK
            have hne : ¬ (A = c ∧ B = d) := fun h => HN.out (by have h1 := HX.out; have h2 := HY.out; rw [h.1, h.2, h2] at h1; exact (Option.some.inj h1).symm)
            have HNE := Lib.hid hne
            clear hK hKK H1 H2 HX HY HN
            have qq : ((A : Int) = (c : Int) ∧ ((B : Int) == (d : Int)) = false) ∨ ((A : Int) == (c : Int)) = false := by
              by_cases q1 : A = c
              · exact .inl ⟨by rw [q1], by simp only [beq_eq_false_iff_ne]; intro h; exact hne ⟨q1, by omega⟩⟩
              · exact .inr (by simp only [beq_eq_false_iff_ne]; intro h; exact q1 (by omega))
            clear hne
            rcases qq with ⟨qa, qb⟩ | qa
            all_goals
              go_wp2_with fail
            all_goals
              refine (less_is x11.out y11.out K HK.out).mono ?_
              rintro e w12 ⟨rfl, mm⟩
              have mw := Lib.hid (mw.out.then0 mm)
              clear mm
              go_wp2_with fail
              go_ret
              refine ⟨ret_bool ?_, mw.out.below⟩
              have hne := HNE.out
              rw [← HKK.out]
              clear HKK HK HNE mw x11 y11 ha hb hc hd hA hB hk1 hk2 ho1 ho2
              simp only [beq_iff_eq, beq_eq_false_iff_ne] at *
              unfold kless
              by_cases q10 : k = 10
              · rw [if_pos q10]
                by_cases q1 : A = c
                · by_cases q2 : B < d <;> simp_all
                · by_cases q2 : A < c <;> simp_all <;> omega
              · rw [if_neg q10]
                by_cases q1 : A = c
                · by_cases q2 : B < d <;> simp_all
                · by_cases q2 : A < c <;> simp_all <;> omega
          · have hkf : (k == o) = false := by simp [hko]
            go_wp2_with fail
            go_ret
            exact ⟨rfl, mw.out.below⟩
      · clear hy
        go_wp2_with fail
        go_ret
        exact ⟨rfl, mw.out.below⟩

set_option maxRecDepth 100000 in
theorem lifted (os : Os) (started : os.Started) (H : Type) (enc : TypeId × Value → H) :
    ReturnsInHanded {} Try.checked os 5 .any (Rows.keysOrderSpec.pre6 enc Try.prog Try.f5 Rows.keysOrderRow.domain false) (Rows.keysOrderSpec.post enc Try.prog Try.f5 false true false false) := by
  refine returnsInHanded_of_change (C := Try.checked) own started (by kernel_rfl) Try.func5
    (ChangeSpec.witness6 (enc := enc) (C := Try.checked) false ⟨#[], #[.int .i64 0, .int .i64 0, .int .u64 0, .int .u64 0, .int .u64 0, .int .u64 0], []⟩ 8 (by kernel_rfl) (by kernel_rfl) (by kernel_rfl) (by kernel_rfl)) ?_
  intro W base args ds gs before hval0 hW hcnd _
  have hval : ∀ (j : Nat) t v, Try.f5.params[j]? = some t → args[j]? = some v → Value.okWide Try.prog W .any base t v := hval0
  have hW' := hW
  obtain ⟨p, q, hA0, hV, rfl, hfz, hnd⟩ := hW
  have hA : DataW.TrodAll enc Try.prog W 0 (fun _ => true) true Try.f5.params.toList args.toList ds p := hA0
  rw [Try.params5] at hA hval
  obtain ⟨v0, vs0, d0, ds0, p0, q0, hargs, rfl, rfl, h0, r0⟩ := trodAll_cons hA
  obtain ⟨v1, vs1, d1, ds1, p1, q1, rfl, rfl, rfl, h1, r1⟩ := trodAll_cons r0
  obtain ⟨v2, vs2, d2, ds2, p2, q2, rfl, rfl, rfl, h2, r2⟩ := trodAll_cons r1
  obtain ⟨v3, vs3, d3, ds3, p3, q3, rfl, rfl, rfl, h3, r3⟩ := trodAll_cons r2
  obtain ⟨v4, vs4, d4, ds4, p4, q4, rfl, rfl, rfl, h4, r4⟩ := trodAll_cons r3
  obtain ⟨v5, vs5, d5, ds5, p5, q5, rfl, rfl, rfl, h5, r5⟩ := trodAll_cons r4
  obtain ⟨rfl, rfl, rfl⟩ := trodAll_nil r5
  obtain rfl : args = #[v0, v1, v2, v3, v4, v5] := by cases args; simp_all
  obtain ⟨rfl, rfl⟩ := trodVars_none hV
  obtain ⟨a0, rfl, rfl, rfl, w0⟩ := open_int Try.underlying3 (hval 0 3 v0 rfl rfl) h0
  obtain ⟨a1, rfl, rfl, rfl, w1⟩ := open_int Try.underlying3 (hval 1 3 v1 rfl rfl) h1
  obtain ⟨a2, rfl, rfl, rfl, w2⟩ := open_int Try.underlying22 (hval 2 22 v2 rfl rfl) h2
  obtain ⟨a3, rfl, rfl, rfl, w3⟩ := open_int Try.underlying22 (hval 3 22 v3 rfl rfl) h3
  obtain ⟨a4, rfl, rfl, rfl, w4⟩ := open_int Try.underlying22 (hval 4 22 v4 rfl rfl) h4
  obtain ⟨a5, rfl, rfl, rfl, w5⟩ := open_int Try.underlying22 (hval 5 22 v5 rfl rfl) h5
  clear hA0 hval0
  have bd0 := bounds_i64 w0
  have bd1 := bounds_i64 w1
  have bd2 := bounds_u64 w2
  obtain ⟨x2, rfl⟩ := Int.eq_ofNat_of_zero_le bd2.1
  have bd3 := bounds_u64 w3
  obtain ⟨x3, rfl⟩ := Int.eq_ofNat_of_zero_le bd3.1
  have bd4 := bounds_u64 w4
  obtain ⟨x4, rfl⟩ := Int.eq_ofNat_of_zero_le bd4.1
  have bd5 := bounds_u64 w5
  obtain ⟨x5, rfl⟩ := Int.eq_ofNat_of_zero_le bd5.1
  refine (walk a0 a1 x2 x3 x4 x5 W bd0.1 bd0.2 bd1.1 bd1.2 (by have := bd2.2; omega) (by have := bd3.2; omega) (by have := bd4.2; omega) (by have := bd5.2; omega)).mono fun e W' ⟨he, bel⟩ => ?_
  subst he
  exact ⟨_, rfl, _, _, _, [], _, [], hW', trodAll_mk1 (shut_bool Try.underlying4 _), (trodAll_cons_mk (shut_int Try.underlying3 w0) (trodAll_cons_mk (shut_int Try.underlying3 w1) (trodAll_cons_mk (shut_int Try.underlying22 w2) (trodAll_cons_mk (shut_int Try.underlying22 w3) (trodAll_cons_mk (shut_int Try.underlying22 w4) (trodAll_cons_mk (shut_int Try.underlying22 w5) trodAll_mk0)))))), rfl, bel.frame _, fun h => by cases h⟩

theorem over : Rows.keysOrderRow.holds Try.pinned (OpenSpec.ofChange Rows.keysOrderSpec) :=
  OpenClaim.holds_of_wide 5 Try.f5 rfl rfl rfl rfl rfl rfl rfl ⟨rfl, rfl, rfl, rfl, rfl⟩ rfl rfl rfl rfl rfl (by kernel_rfl) Try.func5 (by kernel_rfl)
    (of_decide_eq_true (by kernel_rfl)) (by unfold Func.isWrapper; first | (rw [if_pos (by decide +kernel)]; kernel_rfl) | (rw [if_neg (by decide +kernel)]; exact ⟨rfl, rfl⟩))
    (fun os started H enc _ => lifted os started H enc)

theorem proved : Rows.KeysOrderSaid := over
#print axioms proved
end Go.Proofs.Ytdoeadoaffmgpaa.keysOrder

/- gleanlaw7.made: at every key the bytes of keys are the document's. -/
import Derived.Test.YtdoeadoaffmgpaaRMake2
import Derived.Test.YtdoeadoaffmgpaaHSpoil
import Derived.Test.YtdoeadoaffmgpaaHBytes
namespace Go.Proofs.Ytdoeadoaffmgpaa
open Go.Gl Go.RowKit
set_option linter.unusedVariables false

theorem Bytes_same {x y : Value} {xs : List UInt8} {w : World} (hx : Rd w x xs) (hy : Rd w y xs) :
    Calls Try.prog 9 #[x, y] w fun e w' => e = .returned (.bool true) ∧ Quiet w w' :=
  (Bytes_any hx hy).mono fun e w' ⟨he, hq⟩ => ⟨by rw [he]; simp, hq⟩

def TrueM (w : World) (e : Ending) (w' : World) : Prop := e = .returned (.bool true) ∧ Mods noB w w'

set_option maxHeartbeats 1000000 in
theorem made_any (n : Int) (a b : Nat) (w : World) (ha : a ≤ 18446744073709551615) (hb : b ≤ 18446744073709551615) :
    Calls Try.prog 8 #[.int .i64 n, .int .u64 a, .int .u64 b] w (TrueM w) := by
  obtain ⟨xs, e1, h1⟩ : ∃ xs e1, Hid ((∀ w, Calls Try.prog 18 #[.agg #[.int .i64 n, .int .u64 a, .int .u64 b]] w (KRes w xs e1)) ∧ (∀ w, Calls Try.prog 23 #[.agg #[.int .i64 n, .int .u64 a, .int .u64 b]] w (KRes w xs e1))) :=
    ⟨_, _, fun w => Make_any n a b w ha hb, fun w => RMake_any n a b w ha hb⟩
  obtain ⟨ys, e2, h2⟩ : ∃ ys e2, Hid ((∀ w, Calls Try.prog 22 #[.int .i64 n] w (KRes w ys e2)) ∧ (∀ w, Calls Try.prog 24 #[.int .i64 n] w (KRes w ys e2))) :=
    ⟨_, _, fun w => Of_any n w, fun w => ROf_any n w⟩
  obtain ⟨zs, e3, h3⟩ : ∃ zs e3, Hid ((∀ w, Calls Try.prog 21 #[.int .i64 n, .int .u64 a] w (KRes w zs e3)) ∧ (∀ w, Calls Try.prog 25 #[.int .i64 n, .int .u64 a] w (KRes w zs e3))) :=
    ⟨_, _, fun w => Under_any n a w ha, fun w => RUnder_any n a w ha⟩
  go_enter Try.func8, Try.ntmps8
  go_wp2_with fail
  refine (h1.out.1 _).mono ?_
  rintro e w1 ⟨v1, rfl, o1, m1, f1⟩
  go_wp2_with fail
  refine (h1.out.2 _).mono ?_
  rintro e w2 ⟨v2, rfl, o2, m2, f2⟩
  go_wp2_with fail
  refine (h2.out.1 _).mono ?_
  rintro e w3 ⟨v3, rfl, o3, m3, f3⟩
  go_wp2_with fail
  refine (h2.out.2 _).mono ?_
  rintro e w4 ⟨v4, rfl, o4, m4, f4⟩
  go_wp2_with fail
  refine (h3.out.1 _).mono ?_
  rintro e w5 ⟨v5, rfl, o5, m5, f5⟩
  go_wp2_with fail
  refine (h3.out.2 _).mono ?_
  rintro e w6 ⟨v6, rfl, o6, m6, f6⟩
  have p1 := ((((o1.keep m2 (fun _ _ x => x)).keep m3 (fun _ _ x => x)).keep m4 (fun _ _ x => x)).keep m5 (fun _ _ x => x)).keep m6 (fun _ _ x => x)
  have p2 := (((o2.keep m3 (fun _ _ x => x)).keep m4 (fun _ _ x => x)).keep m5 (fun _ _ x => x)).keep m6 (fun _ _ x => x)
  have p3 := ((o3.keep m4 (fun _ _ x => x)).keep m5 (fun _ _ x => x)).keep m6 (fun _ _ x => x)
  have p4 := (o4.keep m5 (fun _ _ x => x)).keep m6 (fun _ _ x => x)
  have p5 := o5.keep m6 (fun _ _ x => x)
  have mw := ((((m1.then0 m2).then0 m3).then0 m4).then0 m5).then0 m6
  have l1 := o1.lt
  have l3 := o3.lt
  have s2 := m2.size
  have s3 := m3.size
  have s4 := m4.size
  have fx1 : freshIn w v1 := f1
  have fx3 : freshIn w v3 := f3.of (m1.then0 m2).size
  have fx5 : freshIn w v5 := f5.of (((m1.then0 m2).then0 m3).then0 m4).size
  have S := Lib.hid (show _ ∧ _ ∧ _ ∧ _ ∧ _ ∧ _ ∧ _ ∧ _ from ⟨l1, l3, f3, f5, fx1, fx3, fx5, m2⟩)
  clear l1 l3 f1 f2 f3 f4 f5 f6 fx1 fx3 fx5 o1 o2 o3 o4 o5 m1 m2 m3 m4 m5 m6
  go_wp2_with fail
  refine (Bytes_same p1.rd p2.rd).mono ?_
  rintro e w7 ⟨rfl, q7⟩
  have p1 := p1.quiet q7
  have p3 := p3.quiet q7
  have p4 := p4.quiet q7
  have p5 := p5.quiet q7
  have o6 := o6.quiet q7
  go_wp2_with fail
  refine (Bytes_same p3.rd p4.rd).mono ?_
  rintro e w8 ⟨rfl, q8⟩
  have p1 := p1.quiet q8
  have p3 := p3.quiet q8
  have p5 := p5.quiet q8
  have o6 := o6.quiet q8
  go_wp2_with fail
  refine (Bytes_same p5.rd o6.rd).mono ?_
  rintro e w9 ⟨rfl, q9⟩
  have p1 := p1.quiet q9
  have p3 := p3.quiet q9
  have p5 := p5.quiet q9
  go_wp2_with fail
  refine (Spoil_any p1).mono ?_
  rintro e w10 ⟨rfl, k10⟩
  obtain ⟨l1, l3, f3, f5, fx1, fx3, fx5, m2⟩ := S.out
  have p3 := p3.keep k10 (fun k hk hx => by have := f3 k hk; have := l1 k hx; omega)
  have p5 := p5.keep k10 (fun k hk hx => by have := f5 k hk; have := l1 k hx; omega)
  clear l1 l3 f3 f5 fx1 fx3 fx5 m2
  go_wp2_with fail
  refine (Spoil_any p3).mono ?_
  rintro e w11 ⟨rfl, k11⟩
  obtain ⟨l1, l3, f3, f5, fx1, fx3, fx5, m2⟩ := S.out
  have p5 := p5.keep k11 (fun k hk hx => by have := f5 k hk; have := l3 k hx; omega)
  clear l1 l3 f3 f5 fx1 fx3 fx5 m2
  go_wp2_with fail
  refine (Spoil_any p5).mono ?_
  rintro e w12 ⟨rfl, k12⟩
  go_wp2
  go_ret
  obtain ⟨l1, l3, f3, f5, fx1, fx3, fx5, m2⟩ := S.out
  have q := ((mw.then0 (q7.mods noB)).then0 (q8.mods noB)).then0 (q9.mods noB)
  refine ⟨rfl, ?_⟩
  have r1 := q.trans k10 (U := noB) (fun _ _ x => x) (fun i hi hx => absurd hi (Nat.not_lt.2 (fx1 i hx)))
  have r2 := r1.trans k11 (U := noB) (fun _ _ x => x) (fun i hi hx => absurd hi (Nat.not_lt.2 (fx3 i hx)))
  exact r2.trans k12 (U := noB) (fun _ _ x => x) (fun i hi hx => absurd hi (Nat.not_lt.2 (fx5 i hx)))

end Go.Proofs.Ytdoeadoaffmgpaa

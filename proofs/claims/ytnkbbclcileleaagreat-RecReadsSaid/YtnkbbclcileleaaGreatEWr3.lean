/- enc.Writer's all, Raw, Out; state's fails. -/
import Derived.Test.YtnkbbclcileleaaGreatEWr2
namespace Go.Proofs.YtnkbbclcileleaaGreat
open Go.Gl Go.RowKit
set_option linter.unusedVariables false
set_option maxRecDepth 100000

theorem fails_first {w : World} {g : Nat} {cur : Array Value} {t : TypeId} (c : Nat) (h : w.heap[g]? = some (.cells cur t (0, 0))) (h1 : cur[1]? = some (.int .i64 0)) :
    Calls Tryz.prog 155 #[.pointer (some ⟨g, 0, none⟩), .int .i64 c] w fun r w' => r = .returned (.tuple #[]) ∧ w' = w.setCell ⟨g, 1, none⟩ (.int .i64 c) := by
  have c1 := cells_of h 1
  have f1 := free_of h 1
  rw [h1] at c1
  clear h h1
  go_enter Tryz.func155, Tryz.ntmps155
  go_wp2
  go_end0
  exact ⟨rfl, rfl⟩

theorem fails_then {w : World} {g : Nat} {cur : Array Value} {t : TypeId} {e : Int} (c : Nat) (h : w.heap[g]? = some (.cells cur t (0, 0))) (h1 : cur[1]? = some (.int .i64 e)) (he : e ≠ 0) :
    Calls Tryz.prog 155 #[.pointer (some ⟨g, 0, none⟩), .int .i64 c] w fun r w' => r = .returned (.tuple #[]) ∧ w' = w := by
  have c1 := cells_of h 1
  rw [h1] at c1
  have hb : (e == 0) = false := by simp [he]
  clear h h1 he
  go_enter Tryz.func155, Tryz.ntmps155
  go_wp2
  go_end0
  exact ⟨rfl, rfl⟩

/-- a writer's error behind a step that fails with c -/
def wfail (e c : Int) : Int := if e = 0 then c else e

theorem Wr.fail {w : World} {g : Nat} {v : Value} {xs : List UInt8} (c : Nat) (h : Wr w g v xs 0) : WStep w g v xs c (w.setCell ⟨g, 1, none⟩ (.int .i64 c)) v :=
  ⟨⟨by have := heap_set h.heap 1 (.int .i64 c); simpa using this, h.own.keep ((Mods.refl (fun k => k = g) w).setCell (.inl rfl) _) (fun k hk e => h.apart (by rw [hk, e])), h.apart⟩, (Mods.refl (WS g v) w).setCell (.inl (.inl rfl)) _, .inl rfl⟩

theorem wfails_any {w : World} {g : Nat} {v : Value} {xs : List UInt8} {e : Int} (c : Nat) (h : Wr w g v xs e) :
    Calls Tryz.prog 155 #[.pointer (some ⟨g, 0, none⟩), .int .i64 c] w (WRes w g v xs (wfail e c)) := by
  by_cases he : e = 0
  · subst he
    refine (fails_first c h.heap rfl).mono ?_
    rintro r w' ⟨rfl, rfl⟩
    exact ⟨rfl, _, h.fail c⟩
  · refine (fails_then c h.heap rfl he).mono ?_
    rintro r w' ⟨rfl, rfl⟩
    rw [wfail, if_neg he]
    exact ⟨rfl, _, WStep.refl h⟩

set_option maxHeartbeats 1000000 in
theorem wall_ok {w : World} {g : Nat} {v u : Value} {xs ys : List UInt8} (h : Wr w g v xs 0) (hu : Rd w u ys) (hl : xs.length + ys.length ≤ 140737488355328) :
    Calls Tryz.prog 166 #[.pointer (some ⟨g, 0, none⟩), u] w (WRes w g v (xs ++ ys) 0) := by
  have H := Lib.hid h
  have HU := Lib.hid hu
  have c := cells_of h.heap
  have f := free_of h.heap
  clear h hu
  go_enter Tryz.func166, Tryz.ntmps166
  go_wp2_with (at_builtin; refine stop ?_)
  unfold Stop
  refine wpList_apb rfl rfl xs ys H.out.own HU.out rfl rfl hl ?_
  intro v' w' k1 k2 k3
  obtain ⟨a', cap', rfl, hm'⟩ := k1.rd.form
  have R := Lib.hid (H.out.set k1 k2 k3)
  rw [List.length_append] at R
  have c' := cells_of (k2.heap H.out.heap H.out.apart)
  have f' := free_of (k2.heap H.out.heap H.out.apart)
  clear k1 k2 k3 hm' c f
  go_wp2
  go_end0
  exact ⟨rfl, _, R.out⟩

theorem wall_err {w : World} {g : Nat} {v u : Value} {xs : List UInt8} {e : Int} (h : Wr w g v xs e) (he : e ≠ 0) :
    Calls Tryz.prog 166 #[.pointer (some ⟨g, 0, none⟩), u] w fun r w' => r = .returned (.tuple #[]) ∧ w' = w := by
  have c := cells_of h.heap
  have hb : (e == 0) = false := by simp [he]
  clear h he
  go_enter Tryz.func166, Tryz.ntmps166
  go_wp2
  go_end0
  exact ⟨rfl, rfl⟩

theorem wall_any {w : World} {g : Nat} {v u : Value} {xs ys : List UInt8} {e : Int} (h : Wr w g v xs e) (hu : Rd w u ys) (hl : xs.length + ys.length ≤ 140737488355328) :
    Calls Tryz.prog 166 #[.pointer (some ⟨g, 0, none⟩), u] w (WRes w g v (wput e xs ys) e) := by
  by_cases he : e = 0
  · subst he
    exact wall_ok h hu hl
  · refine (wall_err h he).mono ?_
    rintro r w' ⟨rfl, rfl⟩
    rw [wput, if_neg he]
    exact ⟨rfl, _, WStep.refl h⟩

theorem wout_ok {w : World} {g : Nat} {v : Value} {xs : List UInt8} (h : Wr w g v xs 0) (hl : xs.length ≤ 140737488355328) :
    Calls Tryz.prog 106 #[.pointer (some ⟨g, 0, none⟩)] w fun r w' => ∃ u, r = .returned (.tuple #[u, .int .i64 0]) ∧ Own w' u xs ∧ Mods noB w w' ∧ freshIn w u := by
  have H := Lib.hid h
  have c := cells_of h.heap
  clear h
  go_enter Tryz.func106, Tryz.ntmps106
  go_wp2_with (at_builtin; refine stop ?_)
  unfold Stop
  refine wpList_apb rfl rfl [] xs (Own.nil _) H.out.own.rd rfl rfl (by simpa using hl) ?_
  intro v' w' k1 k2 k3
  have R := Lib.hid (And.intro k1 (And.intro k2 k3))
  clear k1 k2 k3
  go_wp2
  go_ret2
  obtain ⟨k1, k2, k3⟩ := R.out
  exact ⟨v', rfl, k1, k2.mono (fun i _ x => (ofV_nil x).elim), by rcases k3 with k3 | k3; exact (fun k hk => by rw [k3] at hk; simp [Value.ownBlock] at hk); exact k3⟩

theorem wout_err {w : World} {g : Nat} {v : Value} {xs : List UInt8} {e : Int} (h : Wr w g v xs e) (he : e ≠ 0) :
    Calls Tryz.prog 106 #[.pointer (some ⟨g, 0, none⟩)] w fun r w' => r = .returned (.tuple #[.slice none 0 0, .int .i64 e]) ∧ Quiet w w' := by
  have c := cells_of h.heap
  have hb : (e != 0) = true := by simp [he]
  clear h he
  go_enter Tryz.func106, Tryz.ntmps106
  go_wp2
  go_quiet (fail)
  go_wp2
  go_ret2
  exact ⟨rfl, _, rfl⟩

/-- what Out tells -/
def woutB (e : Int) (xs : List UInt8) : List UInt8 := if e = 0 then xs else []
def OutRes (w : World) (xs : List UInt8) (e : Int) (r : Ending) (w' : World) : Prop := ∃ u, r = .returned (.tuple #[u, .int .i64 e]) ∧ Own w' u (woutB e xs) ∧ Mods noB w w' ∧ freshIn w u

theorem WOut_any {w : World} {g : Nat} {v : Value} {xs : List UInt8} {e : Int} (h : Wr w g v xs e) (hl : xs.length ≤ 140737488355328) :
    Calls Tryz.prog 106 #[.pointer (some ⟨g, 0, none⟩)] w (OutRes w xs e) := by
  by_cases he : e = 0
  · subst he
    exact wout_ok h hl
  · refine (wout_err h he).mono ?_
    rintro r w' ⟨rfl, hq⟩
    exact ⟨_, rfl, by rw [woutB, if_neg he]; exact Own.nil _, hq.mods _, fun k hk => by simp [Value.ownBlock] at hk⟩

/-- Raw's bytes. -/
def rawB (ys : List UInt8) : List UInt8 := be 4 ys.length ++ ys

theorem wput_append (e : Int) (xs ys zs : List UInt8) : wput e (wput e xs ys) zs = wput e xs (ys ++ zs) := by
  unfold wput
  split <;> simp

theorem wput_le (e : Int) (xs ys : List UInt8) : (wput e xs ys).length ≤ xs.length + ys.length := by
  unfold wput
  split <;> simp


end Go.Proofs.YtnkbbclcileleaaGreat

/- kv.Store: Begin, ends. -/
import Derived.Test.YtngemlpalkfjeaaZC
namespace Go.Proofs.Ytngemlpalkfjeaa
open Go.Gl Go.RowKit
set_option linter.unusedVariables false
set_option maxRecDepth 100000
theorem infoJ : (Try.prog.info? 76).map (fun i => (i.zero, i.size, i.bytes)) = some (some (.slice none 0 0), 1, 24) := by kernel_rfl
theorem KM.begun {w w1 w8 w9 : World} {sg mg : Nat} {vo jv v8 : Value} {R : List PV} {J : List JV} {n : Int} (h : KM w sg mg vo R jv J n) (m1 : Mods noB w w1) (o8 : OwnG w8 76 1 v8 (J.length + 1) (J.map (·.jv) ++ [.slice none 0 0])) (m8 : Mods (ofV jv) w1 w8) (f8 : v8.ownBlock = jv.ownBlock ∨ freshIn w1 v8) (e : w9 = w8.setCell ⟨sg, 1, none⟩ v8) :
    KT w w9 sg mg vo R jv J vo R v8 (J ++ [⟨.slice none 0 0, []⟩]) n := by
  have k1 := h.keep0 m1
  have m9 : Mods (fun k => k = sg) w8 w9 := by rw [e]; exact (Mods.refl (fun k => k = sg) w8).setCell (p := ⟨sg, 1, none⟩) (.inl rfl) _
  have sl := k1.lt sg (.inl rfl)
  have v8b : ∀ k, v8.ownBlock = some k → jv.ownBlock = some k ∨ w1.heap.size ≤ k := fun k hk => by
    rcases f8 with x | x
    · exact .inl (x ▸ hk)
    · exact .inr (x k hk)
  have v8s : v8.ownBlock ≠ some sg := fun x => by
    rcases v8b sg x with y | y
    · exact h.s1.2.1 y
    · omega
  have hg8 := m8.heap k1.hg (fun x => h.s1.2.1 x)
  obtain ⟨a, b, c, d⟩ := k1.chg (Z := fun _ => False) (jv' := v8) (J' := J ++ [⟨.slice none 0 0, []⟩]) (n' := n) (w' := w9) (m8.trans m9 (fun k _ hk => .inr (.inl hk)) (fun k _ hk => .inl hk)) (by rw [e]; exact heap_set hg8 1 v8)
    (by
      have := o8.keep m9 (fun k hk x => v8s (x ▸ hk))
      rw [List.length_append, List.length_singleton, List.map_append]
      exact this) f8 (fun q hq => by
      rcases List.mem_append.1 hq with hq | hq
      · exact ⟨((k1.pg q hq).keep m8 (fun k hk x => (h.s2 k x).2 q hq hk)).keep m9 (fun k hk x => h.s1.2.2 q hq (x ▸ hk)), .inl ⟨q, hq, rfl⟩⟩
      · obtain rfl := List.mem_singleton.1 hq
        exact ⟨⟨rfl, .inl ⟨rfl, rfl⟩⟩, .inr (fun k hk => by simp [Value.ownBlock] at hk)⟩) (fun q hq x hx => by
      rcases List.mem_append.1 hq with hq | hq
      · exact .inl ⟨q, hq, hx⟩
      · obtain rfl := List.mem_singleton.1 hq
        exact (List.not_mem_nil hx).elim) (fun q hq k hk x => by
      rcases List.mem_append.1 hq with hq | hq
      · rcases v8b k x with y | y
        · exact (h.s2 k y).2 q hq hk
        · have := (k1.pg q hq).lt k hk; omega
      · obtain rfl := List.mem_singleton.1 hq
        simp [Value.ownBlock] at hk) (List.pairwise_append.2 ⟨h.s4, List.pairwise_singleton _ _, fun p hp q hq k hk x => by
        obtain rfl := List.mem_singleton.1 hq
        simp [Value.ownBlock] at x⟩)
  exact (⟨a, b, c, fun k hk => .inl ((d k hk).resolve_right (fun x => x))⟩ : KT w1 w9 sg mg vo R jv J vo R v8 (J ++ [⟨.slice none 0 0, []⟩]) n).first m1
set_option maxHeartbeats 2000000 in
theorem kBegin_any {w : World} {sg mg : Nat} {vo jv : Value} {R : List PV} {J : List JV} {n : Int} (h : KM w sg mg vo R jv J n) (hJ : J.length ≤ 1000000) :
    Calls Try.prog 19 #[.pointer (some ⟨sg, 0, none⟩)] w fun e w' => (16 ≤ J.length ∧ e = .returned (.int .i64 62) ∧ w' = w) ∨ (J.length < 16 ∧ e = .returned (.int .i64 0) ∧ ∃ jv', KT w w' sg mg vo R jv J vo R jv' (J ++ [⟨.slice none 0 0, []⟩]) n) := by
  obtain ⟨a, c, hjv, _⟩ := h.row.rd.form
  have c1 := h.cells.2.1
  rw [hjv] at c1
  have HM := Lib.hid h
  have hrow := h.row
  by_cases hl : 16 ≤ J.length
  · refine Calls.mono (R := fun e w' => e = .returned (.int .i64 62) ∧ w' = w) ?_ (fun e w' ⟨a, b⟩ => .inl ⟨hl, a, b⟩)
    clear h hrow HM hjv
    generalize J.length = l at *
    go_enter Try.func19, Try.ntmps19
    go_wp2
    go_ret
    exact ⟨rfl, rfl⟩
  · refine Calls.mono (R := fun e w' => e = .returned (.int .i64 0) ∧ ∃ jv', KT w w' sg mg vo R jv J vo R jv' (J ++ [⟨.slice none 0 0, []⟩]) n) ?_ (fun e w' ⟨a, b⟩ => .inr ⟨by omega, a, b⟩)
    have HJ := Lib.hid hjv
    have HL := Lib.hid hJ
    clear h hrow hjv
    have HL2 := Lib.hid hl
    obtain ⟨l, hll⟩ : ∃ l, J.length = l := ⟨_, rfl⟩
    have HLL := Lib.hid hll
    rw [hll] at c1 hJ hl
    clear hll
    go_enter Try.func19, Try.ntmps19
    go_wp2_with (at_builtin; refine stop ?_)
    unfold Stop
    obtain ⟨inf, hi, hz, hs, hby⟩ := info_parts infoJ
    have m1 := (Mods.refl noB w).alloc (.cells #[.slice none 0 0] 76)
    have ob := ob_new1 (heap_new w (.cells #[.slice none 0 0] 76))
    refine wpList_ap (xs := J.map (·.jv)) (n := J.length) (v := jv) (ys := [.slice none 0 0]) (m := 1) rfl rfl Try.underlying60 Try.underlying60 hi hz (by rw [hs]; rfl) (by rw [HJ.out, HLL.out]; rfl) (by rw [hs]; exact HM.out.row.keep m1 (fun _ _ x => x)) rfl (by rw [hs]; exact ob.own.rd) (by simp [Value.oneCell']) (by have := HL.out; unfold maxLen; omega) (by rw [hby]; have := HL.out; omega) ?_
    intro v8 w8 o8 m8 f8
    rw [hs] at o8
    have hg8 := m8.heap (HM.out.keep0 m1).hg (fun x => HM.out.s1.2.1 x)
    have c8 := cells_of hg8 1
    have d8 := free_of hg8 1
    have FIN := Lib.hid (fun w9 (e : w9 = w8.setCell ⟨sg, 1, none⟩ v8) => HM.out.begun m1 o8 m8 f8 e)
    obtain ⟨a8, cc8, e8, _⟩ := o8.rd.form
    subst e8
    clear o8 m8 f8 hg8 ob m1 hi hz hs hby
    go_wp2
    go_ret
    exact ⟨rfl, _, FIN.out _ rfl⟩
end Go.Proofs.Ytngemlpalkfjeaa

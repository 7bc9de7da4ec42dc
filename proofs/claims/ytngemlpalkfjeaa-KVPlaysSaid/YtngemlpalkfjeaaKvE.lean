/- kv.Store: ends, Commit. -/
import Derived.Test.YtngemlpalkfjeaaKvB
namespace Go.Proofs.Ytngemlpalkfjeaa
open Go.Gl Go.RowKit
set_option linter.unusedVariables false
set_option maxRecDepth 100000
theorem kEnds_none {w : World} {sg mg : Nat} {vo jv : Value} {R : List PV} {n : Int} (h : KM w sg mg vo R jv [] n) : Calls Try.prog 49 #[.pointer (some ⟨sg, 0, none⟩)] w fun e w' => e = .returned (.tuple #[.slice none 0 0, .bool false]) ∧ w' = w := by
  obtain ⟨a, c, hjv, _⟩ := h.row.rd.form
  have c1 := h.cells.2.1
  rw [hjv] at c1
  simp only [List.length_nil] at c1
  clear h hjv
  go_enter Try.func49, Try.ntmps49
  go_wp2
  go_ret2
  exact ⟨rfl, rfl⟩
set_option maxHeartbeats 2000000 in
theorem kEnds_some {w : World} {sg mg b off cap : Nat} {vo jv : Value} {R : List PV} {A : List JV} {q0 : JV} {n : Int} (h : KM w sg mg vo R jv (A ++ [q0]) n) (hjv : jv = .slice (some ⟨b, off, none⟩) (A.length + 1) cap) (hJ : A.length ≤ 1000000) :
    Calls Try.prog 49 #[.pointer (some ⟨sg, 0, none⟩)] w fun e w' => e = .returned (.tuple #[q0.jv, .bool true]) ∧ w' = w.setCell ⟨sg, 1, none⟩ (.slice (some ⟨b, off, none⟩) A.length cap) := by
  obtain ⟨a, c, hqv, _⟩ := (h.pg q0 (List.mem_append_right _ (List.mem_singleton.2 rfl))).rd.form
  have c1 := h.cells.2.1
  have f1 := h.cells.2.2.2 1
  rw [hjv] at c1
  have hrow := h.row
  rw [hjv] at hrow
  rcases hrow.ob with ⟨h0, _⟩ | ⟨b', off', cap', hv, ob⟩
  · cases h0
  obtain ⟨⟨rfl, rfl⟩, hN, rfl⟩ : (b = b' ∧ off = off') ∧ A.length + 1 = (A ++ [q0]).length ∧ cap = cap' := by simpa using hv
  have c2 : w.cell? ⟨b, off + A.length, none⟩ = some q0.jv := ob.cell (by simp)
  have hcap := ob.hn
  rw [← hN] at hcap
  rw [hqv] at c2 ⊢
  clear h hrow ob hv hN hjv hqv
  generalize A.length = m at *
  go_enter Try.func49, Try.ntmps49
  go_wp2
  go_ret2
  exact ⟨rfl, rfl⟩
theorem KM.ended {w w1 : World} {sg mg b off cap : Nat} {vo jv : Value} {R : List PV} {A : List JV} {q0 : JV} {n : Int} (h : KM w sg mg vo R jv (A ++ [q0]) n) (hjv : jv = .slice (some ⟨b, off, none⟩) (A.length + 1) cap) (e : w1 = w.setCell ⟨sg, 1, none⟩ (.slice (some ⟨b, off, none⟩) A.length cap)) :
    KT w w1 sg mg vo R jv (A ++ [q0]) vo R (.slice (some ⟨b, off, none⟩) A.length cap) A n := by
  have m1 : Mods (fun k => k = sg) w w1 := by rw [e]; exact (Mods.refl (fun k => k = sg) w).setCell (p := ⟨sg, 1, none⟩) (.inl rfl) _
  have hA : ∀ q ∈ A, q ∈ A ++ [q0] := fun q hq => List.mem_append_left _ hq
  have bj : jv.ownBlock = some b := by rw [hjv]; rfl
  have hrow := h.row
  rw [hjv] at hrow
  rcases hrow.ob with ⟨h0, _⟩ | ⟨b', off', cap', hv, ob⟩
  · cases h0
  obtain ⟨⟨rfl, rfl⟩, hN, rfl⟩ : (b = b' ∧ off = off') ∧ A.length + 1 = (A ++ [q0]).length ∧ cap = cap' := by simpa using hv
  have ob1 := ob.keep m1 (fun x => h.s1.2.1 (by rw [bj, x]))
  obtain ⟨cur, g1, g2, g3⟩ := ob1.row
  have hcap := ob.hn
  have row1 : OB w1 76 1 b off A.length cap (A.map (·.jv)) := ⟨by simp, by omega, ob.hc, cur, g1, g2, fun j u hj => g3 j u (by
    rw [List.map_append]
    have : j < (A.map (·.jv)).length := (List.getElem?_eq_some_iff.1 hj).1
    rw [List.getElem?_append_left this]
    exact hj)⟩
  obtain ⟨a, b', c, d⟩ := h.chg (Z := fun _ => False) (jv' := .slice (some ⟨b, off, none⟩) A.length cap) (J' := A) (n' := n) (w' := w1) (m1.mono (fun k _ hk => .inl hk)) (by rw [e]; exact heap_set h.hg 1 _) row1.own (.inl (by rw [bj]; rfl)) (fun q hq => ⟨(h.pg q (hA q hq)).keep m1 (fun k hk x => h.s1.2.2 q (hA q hq) (x ▸ hk)), .inl ⟨q, hA q hq, rfl⟩⟩) (fun q hq x hx => .inl ⟨q, hA q hq, hx⟩) (fun q hq k hk x => (h.s2 k (by rw [bj]; exact x)).2 q (hA q hq) hk) (List.pairwise_append.1 h.s4).1
  exact ⟨a, b', c, fun k hk => .inl ((d k hk).resolve_right (fun x => x))⟩
theorem KM.slot {w : World} {sg mg : Nat} {vo jv : Value} {R : List PV} {A : List JV} {q0 : JV} {n : Int} (h : KM w sg mg vo R jv (A ++ [q0]) n) : ∃ b off cap, jv = .slice (some ⟨b, off, none⟩) (A.length + 1) cap := by
  rcases h.row.ob with ⟨_, h0, _⟩ | ⟨b, off, cap, hjv, ob⟩
  · simp at h0
  · exact ⟨b, off, cap, by rw [hjv]; simp⟩
def Commd (J J' : List JV) : Prop := (∃ q0, J = [q0] ∧ J' = []) ∨ ∃ A p0 q0 v, J = A ++ [p0] ++ [q0] ∧ J' = A ++ [⟨v, p0.us ++ q0.us⟩]
set_option maxHeartbeats 2000000 in
theorem kCommit_any {w : World} {sg mg : Nat} {vo jv : Value} {R : List PV} {J : List JV} {n : Int} (h : KM w sg mg vo R jv J n) (hJ : J.length ≤ 1000000) (hU : ∀ q ∈ J, q.us.length ≤ 1000000) :
    Calls Try.prog 21 #[.pointer (some ⟨sg, 0, none⟩)] w fun e w' => (J = [] ∧ e = .returned (.int .i64 62) ∧ w' = w) ∨ (J ≠ [] ∧ e = .returned (.int .i64 0) ∧ ∃ jv' J', KT w w' sg mg vo R jv J vo R jv' J' n ∧ Commd J J') := by
  rcases J.eq_nil_or_concat with rfl | ⟨B, q0, hJe⟩
  · refine Calls.mono (R := fun e w' => e = .returned (.int .i64 62) ∧ w' = w) ?_ (fun e w' ⟨a, b⟩ => .inl ⟨rfl, a, b⟩)
    have E := Lib.hid (kEnds_none h)
    clear h hJ hU
    go_enter Try.func21, Try.ntmps21
    go_wp2_with fail
    refine E.out.mono ?_
    rintro e w1 ⟨rfl, rfl⟩
    go_wp2
    go_ret
    exact ⟨rfl, rfl⟩
  · rw [List.concat_eq_append] at hJe
    subst hJe
    refine Calls.mono (R := fun e w' => e = .returned (.int .i64 0) ∧ ∃ jv' J', KT w w' sg mg vo R jv (B ++ [q0]) vo R jv' J' n ∧ Commd (B ++ [q0]) J') ?_ (fun e w' ⟨a, b⟩ => .inr ⟨by simp, a, b⟩)
    obtain ⟨b, off, cap, hjv⟩ := h.slot
    have hBl : B.length ≤ 1000000 := by simp at hJ; omega
    have E := Lib.hid (kEnds_some h hjv hBl)
    have HM := Lib.hid h
    have HE := Lib.hid (fun w1 (e : w1 = w.setCell ⟨sg, 1, none⟩ (.slice (some ⟨b, off, none⟩) B.length cap)) => h.ended hjv e)
    obtain ⟨aq, cq, hqv, _⟩ := (h.pg q0 (List.mem_append_right _ (List.mem_singleton.2 rfl))).rd.form
    rcases B.eq_nil_or_concat with rfl | ⟨A, p0, hBe⟩
    · rw [hqv] at E
      generalize q0.us.length = l at *
      simp only [List.length_nil] at E HE
      clear h hJ hU hjv HM hqv
      go_enter Try.func21, Try.ntmps21
      go_wp2_with fail
      refine E.out.mono ?_
      rintro e w1 ⟨rfl, e1⟩
      have T1 := Lib.hid (HE.out w1 e1)
      have c1 := (HE.out w1 e1).km.cells.2.1
      clear e1 E HE
      go_wp2
      go_ret
      exact ⟨rfl, _, [], T1.out, .inl ⟨q0, rfl, rfl⟩⟩
    · rw [List.concat_eq_append] at hBe
      subst hBe
      have hlB : (A ++ [p0]).length = A.length + 1 := by simp
      rw [hlB] at hBl
      have HJV := Lib.hid hjv
      have HU := Lib.hid hU
      have HQV := Lib.hid hqv
      rw [hqv] at E
      rw [hlB] at E HE
      obtain ⟨lq, hlq⟩ : ∃ l, q0.us.length = l := ⟨_, rfl⟩
      have HLQ := Lib.hid hlq
      rw [hlq] at E
      clear h hJ hU hjv hqv hlq
      go_enter Try.func21, Try.ntmps21
      go_wp2_with fail
      refine E.out.mono ?_
      rintro e w1 ⟨rfl, e1⟩
      have T1 := Lib.hid (HE.out w1 e1)
      have M1 := Lib.hid (show Mods (fun k => k = sg) w w1 from by rw [e1]; exact (Mods.refl (fun k => k = sg) w).setCell (p := ⟨sg, 1, none⟩) (.inl rfl) _)
      have c1 := (HE.out w1 e1).km.cells.2.1
      clear e1 E HE
      go_upto_region 6 with fail
      rw [show (A.length : Int) + 1 = ((A.length + 1 : Nat) : Int) from by omega]
      have hp0 : p0 ∈ A ++ [p0] := List.mem_append_right _ (List.mem_singleton.2 rfl)
      have hp0' : p0 ∈ A ++ [p0] ++ [q0] := List.mem_append_left _ hp0
      have hq0' : q0 ∈ A ++ [p0] ++ [q0] := List.mem_append_right _ (List.mem_singleton.2 rfl)
      have hrow := T1.out.km.row
      rcases hrow.ob with ⟨h0, _⟩ | ⟨b', off', cap', hv, ob⟩
      · cases h0
      obtain ⟨⟨rfl, rfl⟩, rfl⟩ : (b = b' ∧ off = off') ∧ cap = cap' := by simpa using hv
      rw [hlB] at ob
      have hQ2 := (HM.out.pg q0 hq0').rd.keep M1.out (fun k hk x => HM.out.s1.2.2 q0 hq0' (x ▸ hk))
      rw [HQV.out] at hQ2
      rw [HLQ.out] at hQ2
      refine wp_tl (d := .region 6 (opsC 6 Try.f21) true) (by kernel_rfl) ?_
      refine RW.wp (kvc6 (l := p0.us.length) (us := p0.us.map (·.c)) (l2 := lq) (us2 := q0.us.map (·.c)) c1 (T1.out.km.lt sg (.inl rfl)) ob (by simp) (T1.out.km.pg p0 hp0) hQ2 (fun y hy => by
        obtain ⟨x, hx, rfl⟩ := List.mem_map.1 hy
        exact (HM.out.un q0 hq0' x hx).one) (by omega) (HU.out p0 hp0') (by have := HU.out q0 hq0'; rw [HLQ.out] at this; exact this) (fun x => (T1.out.km.s2 b rfl).2 p0 hp0 x) (fun x => HM.out.s1.2.2 p0 hp0' x) ?_)
      intros
      rename_i v8 W8 W9 o8 m8 f8 e9
      have FIN := Lib.hid (show KT w W9 sg mg vo R jv (A ++ [p0] ++ [q0]) vo R (.slice (some ⟨b, off, none⟩) (A.length + 1) cap) (A ++ [⟨v8, p0.us ++ q0.us⟩]) n from by
        have hh := HM.out
        rw [show A ++ [p0] ++ [q0] = A ++ p0 :: [q0] by simp] at hh ⊢
        have hg1 := T1.out.km.hg
        obtain ⟨r1, r2, r3, r4⟩ := hh.put (Z := fun _ => False) (jv' := .slice (some ⟨b, off, none⟩) (A.length + 1) cap) (xs := q0.us) HJV.out rfl M1.out hg1 (by rw [HLQ.out]; exact o8) m8 f8 e9 (fun x hx => .inl ⟨q0, by simp, hx⟩)
        exact ⟨r1, r2, r3, fun k hk => .inl ((r4 k hk).resolve_right (fun x => x))⟩)
      clear o8 m8 f8 e9 ob hv hrow hQ2
      go_wp2
      go_ret
      exact ⟨rfl, _, _, FIN.out, .inr ⟨A, p0, q0, v8, rfl, rfl⟩⟩
end Go.Proofs.Ytngemlpalkfjeaa

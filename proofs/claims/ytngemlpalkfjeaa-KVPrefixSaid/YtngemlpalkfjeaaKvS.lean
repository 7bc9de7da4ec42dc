/- kv.Store: Set, Delete, Has, Begin. -/
import Derived.Test.YtngemlpalkfjeaaKvW
import Derived.Test.YtngemlpalkfjeaaZB
namespace Go.Proofs.Ytngemlpalkfjeaa
open Go.Gl Go.RowKit
set_option linter.unusedVariables false
set_option maxRecDepth 100000
def setErr (k v : List UInt8) : Nat := if k.length < 1 ∨ 64 < k.length then 60 else if 4096 < v.length then 61 else 0
theorem KM.rdk {w : World} {sg mg : Nat} {vo jv q : Value} {R : List PV} {J : List JV} {n : Int} {ys : List UInt8} (h : KM w sg mg vo R jv J n) (hq : Rd w q ys) (hqs : Off (KS sg mg vo R jv J) q ys) {vo' jv' : Value} {R' : List PV} {J' : List JV} {n' : Int} {w' : World} (t : KT w w' sg mg vo R jv J vo' R' jv' J' n') :
    Rd w' q ys := hqs.keep hq t.mods
set_option maxHeartbeats 2000000 in
theorem kSet_any {w : World} {sg mg : Nat} {vo jv q u : Value} {R : List PV} {J : List JV} {n : Int} {ks vs : List UInt8} (h : KM w sg mg vo R jv J n) (hq : Rd w q ks) (hu : Rd w u vs) (hqs : Off (KS sg mg vo R jv J) q ks) (hus : Off (KS sg mg vo R jv J) u vs)
    (h0 : 0 ≤ n) (h1 : n ≤ 4611686018427387904) (ok : PgOk (pgs R)) (hn : R.length ≤ 1000000) (hc : cnt (pgs R) ≤ 1000000000) (hJ : J.length ≤ 1000000) (hU : ∀ q ∈ J, q.us.length ≤ 1000000) (hv : ∀ v, getP (pgs R) ks = some v → v.length ≤ 1000000) :
    Calls Try.prog 18 #[.pointer (some ⟨sg, 0, none⟩), q, u] w fun e w' => e = .returned (.int .i64 (setErr ks vs : Nat)) ∧
      ((setErr ks vs ≠ 0 ∧ KT w w' sg mg vo R jv J vo R jv J (n + 1)) ∨ (setErr ks vs = 0 ∧ ∃ vo' R' J', KT w w' sg mg vo R jv J vo' R' jv J' (n + 1) ∧ pgs R' = setP (pgs R) ks vs ∧ Noted J J' ks (getP (pgs R) ks))) := by
  have ADD := Lib.hid (h.add h0 h1)
  have HM := Lib.hid h
  have HQ := Lib.hid (And.intro hq hqs)
  have HU := Lib.hid (And.intro hu hus)
  obtain ⟨aq, cq, rfl, _⟩ := hq.form
  obtain ⟨au, cu, rfl, _⟩ := hu.form
  have PR := Lib.hid (And.intro ok (And.intro hn (And.intro hc (And.intro hJ (And.intro hU hv)))))
  clear h hq hu hqs hus ok hn hc hJ hU hv h0 h1
  by_cases hk : ks.length < 1 ∨ 64 < ks.length
  · have he : setErr ks vs = 60 := if_pos hk
    refine Calls.mono (R := fun e w' => e = .returned (.int .i64 60) ∧ KT w w' sg mg vo R jv J vo R jv J (n + 1)) ?_ (fun e w' ⟨a, b⟩ => ⟨by rw [he]; exact a, .inl ⟨by rw [he]; decide, b⟩⟩)
    clear he
    go_enter Try.func18, Try.ntmps18
    go_wp2_with fail
    refine ADD.out.mono ?_
    rintro e w1 ⟨rfl, t1, m1⟩
    have T1 := Lib.hid t1
    clear t1 m1 ADD HQ HU PR HM
    rcases hk with hk | hk
    · go_wp2
      go_ret
      exact ⟨rfl, T1.out⟩
    · go_wp2
      go_ret
      exact ⟨rfl, T1.out⟩
  · by_cases hl : 4096 < vs.length
    · have he : setErr ks vs = 61 := by unfold setErr; rw [if_neg hk, if_pos hl]
      refine Calls.mono (R := fun e w' => e = .returned (.int .i64 61) ∧ KT w w' sg mg vo R jv J vo R jv J (n + 1)) ?_ (fun e w' ⟨a, b⟩ => ⟨by rw [he]; exact a, .inl ⟨by rw [he]; decide, b⟩⟩)
      clear he
      obtain ⟨hk1, hk2⟩ := not_or.1 hk
      go_enter Try.func18, Try.ntmps18
      go_wp2_with fail
      refine ADD.out.mono ?_
      rintro e w1 ⟨rfl, t1, m1⟩
      have T1 := Lib.hid t1
      clear t1 m1 ADD HQ HU PR HM hk
      go_wp2
      go_ret
      exact ⟨rfl, T1.out⟩
    · have he : setErr ks vs = 0 := by unfold setErr; rw [if_neg hk, if_neg hl]
      refine Calls.mono (R := fun e w' => e = .returned (.int .i64 0) ∧ ∃ vo' R' J', KT w w' sg mg vo R jv J vo' R' jv J' (n + 1) ∧ pgs R' = setP (pgs R) ks vs ∧ Noted J J' ks (getP (pgs R) ks)) ?_ (fun e w' ⟨a, b⟩ => ⟨by rw [he]; exact a, .inr ⟨he, b⟩⟩)
      clear he
      obtain ⟨hk1, hk2⟩ := not_or.1 hk
      have HK := Lib.hid (show ks.length ≤ 1000000 ∧ vs.length ≤ 1000000 ∧ ks.length ≠ 0 by omega)
      go_enter Try.func18, Try.ntmps18
      go_wp2_with fail
      refine ADD.out.mono ?_
      rintro e w1 ⟨rfl, t1, m1⟩
      have q1 := HM.out.rdk HQ.out.1 HQ.out.2 t1
      have ND := Lib.hid (kNoted_any t1.km q1 HK.out.1 PR.out.1 PR.out.2.1 PR.out.2.2.2.1 PR.out.2.2.2.2.1 PR.out.2.2.2.2.2)
      have T1 := Lib.hid t1
      clear t1 m1 ADD q1 hk
      go_wp2_with fail
      refine ND.out.mono ?_
      rintro e w2 ⟨rfl, J', t2, nt⟩
      have t12 := T1.out.trans t2
      have q2 := HM.out.rdk HQ.out.1 HQ.out.2 t12
      have u2 := HM.out.rdk HU.out.1 HU.out.2 t12
      have SETC := Lib.hid (Set_any t12.km.pm q2 u2 HK.out.1 HK.out.2.1 PR.out.1 PR.out.2.1 PR.out.2.2.1)
      have T2 := Lib.hid t12
      have NT := Lib.hid nt
      have c2 := t12.km.cells.1
      clear t2 t12 nt q2 u2 ND T1
      go_wp2_with fail
      refine SETC.out.mono ?_
      rintro e w3 ⟨vo', R', rfl, t3, e3⟩
      have T3 := Lib.hid (T2.out.trans (T2.out.km.map t3))
      have E3 := Lib.hid e3
      clear t3 e3 SETC c2 T2
      go_wp2
      go_ret
      exact ⟨rfl, vo', R', J', T3.out, E3.out, NT.out⟩
set_option maxHeartbeats 2000000 in
theorem kDelete_any {w : World} {sg mg : Nat} {vo jv q : Value} {R : List PV} {J : List JV} {n : Int} {ks : List UInt8} (h : KM w sg mg vo R jv J n) (hq : Rd w q ks) (hqs : Off (KS sg mg vo R jv J) q ks) (lk : ks.length ≤ 1000000)
    (h0 : 0 ≤ n) (h1 : n ≤ 4611686018427387904) (ok : PgOk (pgs R)) (hn : R.length ≤ 1000000) (hc : cnt (pgs R) ≤ 1000000000) (hJ : J.length ≤ 1000000) (hU : ∀ q ∈ J, q.us.length ≤ 1000000) (hv : ∀ v, getP (pgs R) ks = some v → v.length ≤ 1000000) :
    Calls Try.prog 20 #[.pointer (some ⟨sg, 0, none⟩), q] w fun e w' => e = .returned (.bool (findP (pgs R) ks).2.2) ∧ ∃ vo' R' J', KT w w' sg mg vo R jv J vo' R' jv J' (n + 1) ∧ pgs R' = delP (pgs R) ks ∧ Noted J J' ks (getP (pgs R) ks) := by
  have ADD := Lib.hid (h.add h0 h1)
  have HM := Lib.hid h
  have HQ := Lib.hid (And.intro hq hqs)
  obtain ⟨aq, cq, rfl, _⟩ := hq.form
  have PR := Lib.hid (And.intro ok (And.intro hn (And.intro hc (And.intro hJ (And.intro hU hv)))))
  obtain ⟨B, hB⟩ : ∃ B, (findP (pgs R) ks).2.2 = B := ⟨_, rfl⟩
  rw [hB]
  clear h hq hqs ok hn hc hJ hU hv h0 h1
  have HB := Lib.hid hB
  have HK := Lib.hid lk
  clear hB lk
  go_enter Try.func20, Try.ntmps20
  go_wp2_with fail
  refine ADD.out.mono ?_
  rintro e w1 ⟨rfl, t1, m1⟩
  have q1 := HM.out.rdk HQ.out.1 HQ.out.2 t1
  have ND := Lib.hid (kNoted_any t1.km q1 HK.out PR.out.1 PR.out.2.1 PR.out.2.2.2.1 PR.out.2.2.2.2.1 PR.out.2.2.2.2.2)
  have T1 := Lib.hid t1
  clear t1 m1 ADD q1
  go_wp2_with fail
  refine ND.out.mono ?_
  rintro e w2 ⟨rfl, J', t2, nt⟩
  have t12 := T1.out.trans t2
  have q2 := HM.out.rdk HQ.out.1 HQ.out.2 t12
  have SETC := Lib.hid (Delete_any t12.km.pm q2 PR.out.1 PR.out.2.1 PR.out.2.2.1)
  have T2 := Lib.hid t12
  have NT := Lib.hid nt
  have c2 := t12.km.cells.1
  clear t2 t12 nt q2 ND T1
  go_wp2_with fail
  refine SETC.out.mono ?_
  rintro e w3 ⟨vo', R', rfl, t3, e3⟩
  rw [HB.out]
  have T3 := Lib.hid (T2.out.trans (T2.out.km.map t3))
  have E3 := Lib.hid e3
  clear t3 e3 SETC c2 T2
  go_wp2
  go_ret
  exact ⟨rfl, vo', R', J', T3.out, E3.out, NT.out⟩
theorem kHas_any {w : World} {sg mg : Nat} {vo jv q : Value} {R : List PV} {J : List JV} {n : Int} {ys : List UInt8} (h : KM w sg mg vo R jv J n) (hq : Rd w q ys) (ok : PgOk (pgs R)) (hn : R.length ≤ 1000000) (h0 : 0 ≤ n) (h1 : n ≤ 4611686018427387904) (hqs : Off (fun k => k = sg) q ys) :
    Calls Try.prog 29 #[.pointer (some ⟨sg, 0, none⟩), q] w fun e w' => e = .returned (.bool (getP (pgs R) ys).isSome) ∧ KT w w' sg mg vo R jv J vo R jv J (n + 1) := by
  have G := Lib.hid (kGet_any h hq ok hn h0 h1 hqs)
  obtain ⟨aq, cq, rfl, _⟩ := hq.form
  generalize (getP (pgs R) ys).isSome = B at *
  clear h hq ok hn h0 h1 hqs
  go_enter Try.func29, Try.ntmps29
  go_wp2_with fail
  refine G.out.mono ?_
  rintro e w1 ⟨v', rfl, o1, t1, f1⟩
  have T1 := Lib.hid t1
  clear o1 t1 f1 G
  go_wp2
  go_ret
  exact ⟨rfl, T1.out⟩
end Go.Proofs.Ytngemlpalkfjeaa

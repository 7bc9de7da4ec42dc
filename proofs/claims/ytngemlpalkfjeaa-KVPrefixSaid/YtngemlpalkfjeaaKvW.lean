/- kv.Store: noted, Set, Delete. -/
import Derived.Test.YtngemlpalkfjeaaKvC
import Derived.Test.YtngemlpalkfjeaaKvJ
import Derived.Test.YtngemlpalkfjeaaKvR
namespace Go.Proofs.Ytngemlpalkfjeaa
open Go.Gl Go.RowKit
set_option linter.unusedVariables false
set_option maxRecDepth 100000
def Noted (J J' : List JV) (k : List UInt8) (old : Option (List UInt8)) : Prop := (J = [] ∧ J' = []) ∨ ∃ A q0 v x, J = A ++ [q0] ∧ J' = A ++ [⟨v, q0.us ++ [x]⟩] ∧ x.u = ⟨k, old⟩
theorem noted_end {w W4 W8 W9 : World} {sg mg b off cap : Nat} {vo jv v8 : Value} {R : List PV} {A : List JV} {q0 : JV} {x : UV} {n : Int} (h : KM w sg mg vo R jv (A ++ [q0]) n) (m4 : Mods noB w W4) (ejv : jv = .slice (some ⟨b, off, none⟩) (A.length + 1) cap) (hx : UndAt W4 sg x) (hb : ∀ k, UB x k → w.heap.size ≤ k ∧ k < W4.heap.size)
    (o8 : OwnG W8 80 1 v8 (q0.us.length + 1) (q0.us.map (·.c) ++ [x.c])) (m8 : Mods (ofV q0.jv) W4 W8) (f8 : v8.ownBlock = q0.jv.ownBlock ∨ freshIn W4 v8) (e : W9 = W8.setCell ⟨b, off + A.length, none⟩ v8) :
    KT w W9 sg mg vo R jv (A ++ [q0]) vo R jv (A ++ [⟨v8, q0.us ++ [x]⟩]) n := by
  have k4 := h.keep0 m4
  obtain ⟨a, b', c, d⟩ := k4.put (Z := fun k => w.heap.size ≤ k) (xs := [x]) ejv ejv (Mods.refl _ _) k4.hg o8 m8 f8 e (fun y hy => by
    obtain rfl := List.mem_singleton.1 hy
    exact .inr ⟨hx, fun k hk => ⟨(hb k hk).1, (hb k hk).2, fun z => by have := h.lt k z; have := (hb k hk).1; omega⟩⟩)
  exact ⟨a, m4.trans b' (fun _ _ x => x.elim) (fun _ _ x => x), fun k hk => (c k hk).imp id (fun y => Nat.le_trans m4.size y), d⟩
set_option maxHeartbeats 4000000 in
theorem kNoted_any {w : World} {sg mg : Nat} {vo jv q : Value} {R : List PV} {J : List JV} {n : Int} {ys : List UInt8} (h : KM w sg mg vo R jv J n) (hq : Rd w q ys) (ly : ys.length ≤ 1000000) (ok : PgOk (pgs R)) (hn : R.length ≤ 1000000) (hJ : J.length ≤ 1000000) (hU : ∀ q ∈ J, q.us.length ≤ 1000000) (hv : ∀ v, getP (pgs R) ys = some v → v.length ≤ 1000000) :
    Calls Try.prog 46 #[.pointer (some ⟨sg, 0, none⟩), q] w fun e w' => e = .returned (.tuple #[]) ∧ ∃ J', KT w w' sg mg vo R jv J vo R jv J' n ∧ Noted J J' ys (getP (pgs R) ys) := by
  obtain ⟨aq, cq, rfl, _⟩ := hq.form
  have m1 : Mods noB w ((w.alloc (.cells #[.pointer (some ⟨sg, 0, none⟩)] 25)).alloc (.cells #[.slice aq ys.length cq] 32)) := ((Mods.refl noB w).alloc _).alloc _
  have b1 : ((w.alloc (.cells #[.pointer (some ⟨sg, 0, none⟩)] 25)).alloc (.cells #[.slice aq ys.length cq] 32)).heap[w.heap.size]? = some (.cells #[.pointer (some ⟨sg, 0, none⟩)] 25 (0, 0)) := heap_old (heap_new w _) _
  have b2 : ((w.alloc (.cells #[.pointer (some ⟨sg, 0, none⟩)] 25)).alloc (.cells #[.slice aq ys.length cq] 32)).heap[w.heap.size + 1]? = some (.cells #[.slice aq ys.length cq] 32 (0, 0)) := by have := heap_new (w.alloc (.cells #[.pointer (some ⟨sg, 0, none⟩)] 25)) (.cells #[.slice aq ys.length cq] 32); rwa [World.size_alloc] at this
  have k1 := h.keep0 m1
  have c1 := k1.cells.2.1
  have d1 := (cells_of b1 0)
  have d2 := (cells_of b2 0)
  rcases J.eq_nil_or_concat with rfl | ⟨A, q0, hJe⟩
  · obtain ⟨a, c, hjv, _⟩ := h.row.rd.form
    simp only [List.length_nil] at hjv
    have H := Lib.hid (show KT w ((w.alloc (.cells #[.pointer (some ⟨sg, 0, none⟩)] 25)).alloc (.cells #[.slice aq ys.length cq] 32)) sg mg vo R jv [] vo R jv [] n from (KT.refl h).then0 m1)
    rw [hjv] at c1
    clear h hq m1 k1 hJ hU hv ok b1 b2
    go_enter Try.func46, Try.ntmps46
    go_wp2
    refine bodyPost_ret (by simp [results, Try.results46, go_sem]; try rfl) rfl ?_
    exact ⟨rfl, [], H.out, .inl ⟨rfl, rfl⟩⟩
  · rw [List.concat_eq_append] at hJe
    subst hJe
    rcases h.row.ob with ⟨_, h0, _⟩ | ⟨b, off, cap, hjv, ob⟩
    · simp at h0
    have hl1 : (A ++ [q0]).length = A.length + 1 := by simp
    rw [hl1] at hjv ob hJ
    have hq0 : q0 ∈ A ++ [q0] := List.mem_append_right _ (List.mem_singleton.2 rfl)
    have hq1 := hq.keep m1 (fun _ _ x => x)
    have CL := Lib.hid (Clone_any hq1 ly)
    have KW := Lib.hid h
    have hsg := h.lt sg (.inl rfl)
    have M1 := Lib.hid m1
    have B1 := Lib.hid b1
    have B2 := Lib.hid b2
    have OKH := Lib.hid (And.intro ok (And.intro hn (And.intro hJ (And.intro (hU q0 hq0) hv))))
    have hS1 : ((w.alloc (.cells #[.pointer (some ⟨sg, 0, none⟩)] 25)).alloc (.cells #[.slice aq ys.length cq] 32)).heap.size = w.heap.size + 2 := by simp
    have HS1 := Lib.hid hS1
    rw [hjv] at c1
    clear h hq m1 k1 hJ hU hv ok b1 b2 hq1 hS1
    go_enter Try.func46, Try.ntmps46
    go_wp2_with fail
    refine CL.out.mono ?_
    rintro e w2 ⟨v2, rfl, o2, m2, f2⟩
    have B2a := m2.heap B2.out (fun x => x)
    have e2 := cells_of B2a 0
    have e3 := free_of B2a 0
    have hs2 := m2.size
    rw [HS1.out] at hs2
    have n2 : ∀ k, v2.ownBlock = some k → w.heap.size + 2 ≤ k := fun k hk => by have := f2 k hk; have := HS1.out; omega
    have O2 := Lib.hid o2
    obtain ⟨W3, hW3⟩ : ∃ W3, W3 = w2.setCell ⟨w.heap.size + 1, 0, none⟩ v2 := ⟨_, rfl⟩
    have m3 : Mods (fun k => k = w.heap.size + 1) w2 W3 := by rw [hW3]; exact (Mods.refl (fun k => k = w.heap.size + 1) w2).setCell (p := ⟨w.heap.size + 1, 0, none⟩) (.inl rfl) _
    have M3 := Lib.hid (show Mods noB w W3 from (M1.out.then0 m2).trans m3 (fun _ _ x => x) (fun i hi x => by omega))
    have B13 := Lib.hid (m3.heap (m2.heap B1.out (fun x => x)) (show ¬ w.heap.size = w.heap.size + 1 by omega))
    have B23 := Lib.hid (show W3.heap[w.heap.size + 1]? = some (.cells #[v2] 32 (0, 0)) by rw [hW3]; exact heap_set B2a 0 v2)
    have O3 := Lib.hid (o2.keep m3 (fun k hk x => by have := n2 k hk; omega))
    have N2 := Lib.hid n2
    have S3 := Lib.hid (show w.heap.size + 2 ≤ W3.heap.size by have := m3.size; omega)
    obtain ⟨a2, cc2, rfl, _⟩ := o2.rd.form
    clear o2 m2 f2 hs2 n2 m3 M1 B1 B2 CL B2a
    go_upto_region 4 with fail
    rw [← hW3]
    clear e2 e3 hW3
    have K3 := KW.out.keep0 M3.out
    have c3 := K3.cells.1
    have GET := Lib.hid (fun b' (hm : Mods noB W3 b') => Get_any (K3.keep0 hm).pm (O3.out.rd.keep hm (fun _ _ x => x)) OKH.out.1 OKH.out.2.1)
    have hsg3 : sg < W3.heap.size := by have := S3.out; omega
    rcases hg : getP (pgs R) ys with _ | v
    · rw [hg] at GET OKH
      refine wp_tl (d := .region 4 (opsC 4 Try.f46) true) (by kernel_rfl) ?_
      refine RW.wp (kvn4f B13.out B23.out c3 hsg3 (xs := []) GET.out ?_)
      intros
      rename_i obx v7 W4 hb hO o7 f7 m4 n7
      have K4 := K3.keep0 m4
      have b14 := m4.heap B13.out (fun x => x)
      have b24 := m4.heap B23.out (fun x => x)
      have s4 := m4.size
      have s3 := S3.out
      have c4 := K4.cells.2.1
      rw [hjv] at c4
      have ob4 := ob.keep (M3.out.then0 m4) (fun x => x)
      have q0b : ∀ k, q0.jv.ownBlock = some k → k < w.heap.size := fun k hk => (KW.out.pg q0 hq0).lt k hk
      have hx : UndAt W4 sg ⟨.func (.func 65) #[] #[.pointer (some ⟨w.heap.size, 0, none⟩), .pointer (some ⟨w.heap.size + 1, 0, none⟩)], ⟨ys, none⟩, w.heap.size, w.heap.size + 1, obx, .slice a2 ys.length cc2, v7⟩ := ⟨b14, b24, O3.out.rd.keep m4 (fun _ _ x => x), ly, rfl⟩
      have hxb : ∀ k, UB ⟨.func (.func 65) #[] #[.pointer (some ⟨w.heap.size, 0, none⟩), .pointer (some ⟨w.heap.size + 1, 0, none⟩)], ⟨ys, none⟩, w.heap.size, w.heap.size + 1, obx, .slice a2 ys.length cc2, v7⟩ k → w.heap.size ≤ k ∧ k < W4.heap.size := by
        rintro k (hk | hk | hk | ⟨hs, hk | hk⟩)
        · simp only at hk; omega
        · simp only at hk; omega
        · exact ⟨by have := N2.out k hk; omega, Nat.lt_of_lt_of_le (O3.out.lt k hk) s4⟩
        · simp at hs
        · simp at hs
      have HX := Lib.hid hx
      have HXB := Lib.hid hxb
      have M4 := Lib.hid (M3.out.then0 m4)
      clear hx hxb hO o7 f7 n7 GET m4 K3 b24 hb
      go_upto_region 8 with fail
      rw [show (A.length : Int) + 1 = ((A.length + 1 : Nat) : Int) from by omega]
      refine wp_tl (d := .region 8 (opsC 8 Try.f46) true) (by kernel_rfl) ?_
      refine RW.wp (kvn8 (l := q0.us.length) (us := q0.us.map (·.c)) b14 c4 (by omega) ob4 (by simp) (K4.pg q0 hq0) (by have := OKH.out.2.2.1; omega) OKH.out.2.2.2.1 (fun x => (KW.out.s2 b (by rw [hjv]; rfl)).2 q0 hq0 x) (fun x => by have := q0b _ x; omega) (fun x => KW.out.s1.2.2 q0 hq0 x) ?_)
      intros
      rename_i v8 W8 W9 o8 m8 f8 e9
      have FIN := Lib.hid (noted_end KW.out M4.out hjv HX.out HXB.out o8 m8 f8 e9)
      clear o8 m8 f8 e9 K4 c4 ob4 b14 ob
      go_wp2
      go_end0
      replace FIN := FIN.out
      rw [hjv] at FIN
      exact ⟨rfl, _, FIN, .inr ⟨A, q0, _, _, rfl, rfl, rfl⟩⟩
    · rw [hg] at GET OKH
      refine wp_tl (d := .region 4 (opsC 4 Try.f46) true) (by kernel_rfl) ?_
      refine RW.wp (kvn4t B13.out B23.out c3 hsg3 (xs := v) GET.out ?_)
      intros
      rename_i obx v7 W4 hb hO o7 f7 m4 n7
      have K4 := K3.keep0 m4
      have b14 := m4.heap B13.out (fun x => x)
      have b24 := m4.heap B23.out (fun x => x)
      have s4 := m4.size
      have s3 := S3.out
      have c4 := K4.cells.2.1
      rw [hjv] at c4
      have ob4 := ob.keep (M3.out.then0 m4) (fun x => x)
      have q0b : ∀ k, q0.jv.ownBlock = some k → k < w.heap.size := fun k hk => (KW.out.pg q0 hq0).lt k hk
      have hx : UndAt W4 sg ⟨.func (.func 66) #[] #[.pointer (some ⟨w.heap.size, 0, none⟩), .pointer (some ⟨w.heap.size + 1, 0, none⟩), .pointer (some ⟨obx, 0, none⟩)], ⟨ys, some v⟩, w.heap.size, w.heap.size + 1, obx, .slice a2 ys.length cc2, v7⟩ := ⟨b14, b24, O3.out.rd.keep m4 (fun _ _ x => x), ly, ⟨rfl, hO, o7.rd, OKH.out.2.2.2.2 v rfl⟩⟩
      have hxb : ∀ k, UB ⟨.func (.func 66) #[] #[.pointer (some ⟨w.heap.size, 0, none⟩), .pointer (some ⟨w.heap.size + 1, 0, none⟩), .pointer (some ⟨obx, 0, none⟩)], ⟨ys, some v⟩, w.heap.size, w.heap.size + 1, obx, .slice a2 ys.length cc2, v7⟩ k → w.heap.size ≤ k ∧ k < W4.heap.size := by
        rintro k (hk | hk | hk | ⟨hs, hk | hk⟩)
        · simp only at hk; omega
        · simp only at hk; omega
        · exact ⟨by have := N2.out k hk; omega, Nat.lt_of_lt_of_le (O3.out.lt k hk) s4⟩
        · simp only at hk; subst hk; exact ⟨by omega, lt_of_heap hO⟩
        · exact ⟨f7.of (by omega) k hk, o7.lt k hk⟩
      have HX := Lib.hid hx
      have HXB := Lib.hid hxb
      have M4 := Lib.hid (M3.out.then0 m4)
      clear hx hxb hO o7 f7 n7 GET m4 K3 b24 hb
      go_upto_region 8 with fail
      rw [show (A.length : Int) + 1 = ((A.length + 1 : Nat) : Int) from by omega]
      refine wp_tl (d := .region 8 (opsC 8 Try.f46) true) (by kernel_rfl) ?_
      refine RW.wp (kvn8 (l := q0.us.length) (us := q0.us.map (·.c)) b14 c4 (by omega) ob4 (by simp) (K4.pg q0 hq0) (by have := OKH.out.2.2.1; omega) OKH.out.2.2.2.1 (fun x => (KW.out.s2 b (by rw [hjv]; rfl)).2 q0 hq0 x) (fun x => by have := q0b _ x; omega) (fun x => KW.out.s1.2.2 q0 hq0 x) ?_)
      intros
      rename_i v8 W8 W9 o8 m8 f8 e9
      have FIN := Lib.hid (noted_end KW.out M4.out hjv HX.out HXB.out o8 m8 f8 e9)
      clear o8 m8 f8 e9 K4 c4 ob4 b14 ob
      go_wp2
      go_end0
      replace FIN := FIN.out
      rw [hjv] at FIN
      exact ⟨rfl, _, FIN, .inr ⟨A, q0, _, _, rfl, rfl, rfl⟩⟩
end Go.Proofs.Ytngemlpalkfjeaa

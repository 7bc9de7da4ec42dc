/- kv.Store: counted, Walk, Prefix: the makers of its iterators. -/
import Derived.Test.YtngemlpalkfjeaaKvP1
import Derived.Test.YtngemlpalkfjeaaZC
namespace Go.Proofs.Ytngemlpalkfjeaa
open Go.Gl Go.RowKit
set_option linter.unusedVariables false
set_option maxRecDepth 100000
theorem counted_any (w : World) (sg gf : Nat) (lb : Array Value) : Calls Try.prog 51 #[.pointer (some ⟨sg, 0, none⟩), .func (.func gf) #[] lb] w fun e w' => ∃ bs bw, e = .returned (.func (.func 73) #[] #[.pointer (some ⟨bs, 0, none⟩), .pointer (some ⟨bw, 0, none⟩)]) ∧
      w'.heap[bs]? = some (.cells #[.pointer (some ⟨sg, 0, none⟩)] 25 (0, 0)) ∧ (∃ t, w'.heap[bw]? = some (.cells #[.func (.func gf) #[] lb] t (0, 0))) ∧ Mods noB w w' ∧ w.heap.size ≤ bs ∧ w.heap.size ≤ bw := by
  go_enter Try.func51, Try.ntmps51
  go_wp2
  go_ret
  refine ⟨w.heap.size, w.heap.size + 1, rfl, heap_old (heap_new w _) _, ⟨49, ?_⟩, ((Mods.refl noB w).alloc _).alloc _, Nat.le_refl _, by omega⟩
  · have := heap_new (w.alloc (.cells #[.pointer (some ⟨sg, 0, none⟩)] 25)) (.cells #[.func (.func gf) #[] lb] 49)
    rw [World.size_alloc] at this
    exact this
def OkS (sg mg : Nat) (A : World) : Prop := tickOk sg A ∧ SgM sg mg A
theorem OkS.after {sg mg : Nat} {A C : World} (h : OkS sg mg A) (t : tickR sg A C) : SgM sg mg C := by
  obtain ⟨h1, h2, h3⟩ := h
  obtain ⟨c, hc, rfl⟩ := t
  refine ⟨?_, by rw [World.size_setCell]; exact h3⟩
  rw [← h2]
  exact World.cell?_setCell_other A (a := ⟨sg, 2, none⟩) (b := ⟨sg, 0, none⟩) (v := .int .i64 (c + 1)) (fun e => by injection e with _ h _; exact absurd h (by decide))
theorem AWk.mono {B B' : Nat} {L : List EV} {i : Nat} {U : Nat → Prop} {args : Array Value} {W : World} (h : AWk B L i U args W) (hb : B' ≤ B) : AWk B' L i U args W := by
  obtain ⟨e, kv, vv, h1, h2, h3, h4, h5, h6, h7, h8, h9⟩ := h
  exact ⟨e, kv, vv, h1, h2, h3, h4, h5, h6, h7, fun k hk => Nat.le_trans hb (h8 k hk), fun k hk => Nat.le_trans hb (h9 k hk)⟩
theorem tk_of {w0 w : World} {sg mg bs bw gf B : Nat} {vo : Value} {R : List PV} {lb : Array Value} {L : List EV} {Ui : Nat → Prop} {t1 t2 : TypeId} (it : ∀ W, Mods (fun k => ¬ Ui k) w W → IterP Try.prog gf lb L.length (AWk W.heap.size L) Ui noB (SgM sg mg) W) (eg : ∀ args w, (callFunc gf args).run Try.prog w = .ok (.enter gf args) w)
    (hbs : w.heap[bs]? = some (.cells #[.pointer (some ⟨sg, 0, none⟩)] t1 (0, 0))) (hbw : w.heap[bw]? = some (.cells #[.func (.func gf) #[] lb] t2 (0, 0))) (hUi : ∀ k, Ui k → k < B ∧ k ≠ sg ∧ (MS mg vo R k ∨ MD R k ∨ w0.heap.size ≤ k)) (hB : B ≤ w.heap.size) (hsg : sg < B) (n1 : B ≤ bs) (n2 : B ≤ bw) (h0 : w0.heap.size ≤ B) :
    ∃ U0, (∀ W, Mods (fun k => ¬ U0 k) w W → CIter Try.prog 73 #[.pointer (some ⟨bs, 0, none⟩), .pointer (some ⟨bw, 0, none⟩)] L.length (AWk W.heap.size L) U0 (tickR sg) (OkS sg mg) W) ∧ ∀ k, U0 k → k < w.heap.size ∧ k ≠ sg ∧ (MS mg vo R k ∨ MD R k ∨ w0.heap.size ≤ k) := by
  refine ⟨fun k => Ui k ∨ k = bs ∨ k = bw, fun W hm => counted_iter (it W (hm.mono (fun k _ hk x => hk (.inl x)))) (fun A B h hm => h.keep hm) (fun A h => h.1) (fun A C h t => h.after t) eg (hm.heap hbs (fun x => x (.inr (.inl rfl)))) (hm.heap hbw (fun x => x (.inr (.inr rfl)))) (fun k hk => by have := (hUi k hk).1; have := hm.size; omega) (by have := hm.size; omega) (fun x => by have := (hUi _ x).1; omega) (fun x => by have := (hUi _ x).1; omega) (fun x => (hUi _ x).2.1 rfl) (by omega) (by omega), fun k hk => ?_⟩
  rcases hk with hk | rfl | rfl
  · exact ⟨by have := (hUi k hk).1; omega, (hUi k hk).2⟩
  · exact ⟨lt_of_heap hbs, by omega, .inr (.inr (by omega))⟩
  · exact ⟨lt_of_heap hbw, by omega, .inr (.inr (by omega))⟩
def TkIt (w w' : World) (sg mg : Nat) (vo : Value) (R : List PV) (L : List EV) (lb : Array Value) : Prop :=
  ∃ U0, (∀ W, Mods (fun k => ¬ U0 k) w' W → CIter Try.prog 73 lb L.length (AWk W.heap.size L) U0 (tickR sg) (OkS sg mg) W) ∧ ∀ k, U0 k → k < w'.heap.size ∧ k ≠ sg ∧ (MS mg vo R k ∨ MD R k ∨ w.heap.size ≤ k)
theorem TkIt.keep {w w' w'' : World} {sg mg : Nat} {vo : Value} {R : List PV} {L : List EV} {lb : Array Value} {T : Nat → Prop} (h : TkIt w w' sg mg vo R L lb) (hm : Mods T w' w'') (ht : ∀ k, T k → k < w.heap.size) (h1 : ∀ k, T k → k = sg ∨ (¬ MS mg vo R k ∧ ¬ MD R k)) : TkIt w w'' sg mg vo R L lb := by
  obtain ⟨U0, it, hU⟩ := h
  refine ⟨U0, fun W hW => it W (hm.trans hW (fun k _ hk x => ?_) (fun _ _ x => x)), fun k hk => ⟨Nat.lt_of_lt_of_le (hU k hk).1 hm.size, (hU k hk).2⟩⟩
  obtain ⟨_, a, b⟩ := hU k x
  rcases h1 k hk with y | ⟨y, z⟩
  · exact a y
  · rcases b with b | b | b
    · exact y b
    · exact z b
    · have := ht k hk; omega
def TkGot (w w' : World) (sg mg : Nat) (vo : Value) (R : List PV) (L : List EV) (lb : Array Value) : Prop := Mods noB w w' ∧ TkIt w w' sg mg vo R L lb
set_option maxHeartbeats 1000000 in
theorem kWalk_any {w : World} {sg mg : Nat} {vo jv fv tv : Value} {R : List PV} {J : List JV} {n : Int} {xs ts : List UInt8} (h : KM w sg mg vo R jv J n) (hf : Rd w fv xs) (ht : Rd w tv ts) (lx : xs.length ≤ 1000000) (lt : ts.length ≤ 1000000) (ok : PgOk (pgs R)) (hn : R.length ≤ 1000000) :
    Calls Try.prog 26 #[.pointer (some ⟨sg, 0, none⟩), fv, tv] w fun e w' => ∃ b1 b2, e = .returned (.func (.func 73) #[] #[.pointer (some ⟨b1, 0, none⟩), .pointer (some ⟨b2, 0, none⟩)]) ∧ TkGot w w' sg mg vo R (wkL R xs ts) #[.pointer (some ⟨b1, 0, none⟩), .pointer (some ⟨b2, 0, none⟩)] := by
  have CW := Lib.hid (Walk_any h.pm hf ht lx lt)
  have c0 := h.cells.1
  have HM := Lib.hid h
  have sgl := h.lt sg (.inl rfl)
  obtain ⟨a1, c1, rfl, _⟩ := hf.form
  obtain ⟨a2, c2, rfl, _⟩ := ht.form
  have OKH := Lib.hid (And.intro ok (And.intro hn lt))
  clear h hf ht ok hn lx lt
  go_enter Try.func26, Try.ntmps26
  go_wp2_with fail
  refine CW.out.mono ?_
  rintro e w1 ⟨m, bf, bt, fv', tv', rfl, wp, m1, s1, s2, s3, f1, f2⟩
  have IT := Lib.hid (fun W (hm : Mods (fun k => ¬ UWk mg vo R m bf bt fv' tv' k) w1 W) => walk_iter (wp.keep hm) OKH.out.1 OKH.out.2.1 OKH.out.2.2)
  have SZ := Lib.hid (And.intro m1 (And.intro s1 (And.intro s2 (And.intro s3 (And.intro f1 f2)))))
  have WL := Lib.hid wp
  clear wp m1 s1 s2 s3 f1 f2 CW c0
  go_wp2_with fail
  refine (counted_any w1 sg 60 #[.pointer (some ⟨m, 0, none⟩), .pointer (some ⟨bf, 0, none⟩), .pointer (some ⟨bt, 0, none⟩)]).mono ?_
  rintro e w2 ⟨b1, b2, rfl, hb1, ⟨t2, hb2⟩, m2, q1, q2⟩
  have FIN := Lib.hid (show TkGot w w2 sg mg vo R (wkL R xs ts) #[.pointer (some ⟨b1, 0, none⟩), .pointer (some ⟨b2, 0, none⟩)] from by
    obtain ⟨m1, s1, s2, s3, f1, f2⟩ := SZ.out
    have hs1 := m1.size
    refine ⟨m1.then0 m2, tk_of (B := w1.heap.size) (fun W hm => (IT.out W (m2.trans hm (fun _ _ x => x.elim) (fun _ _ x => x))).toP) (enters_of Try.func60 (by kernel_rfl) rfl) hb1 hb2 (fun k hk => ?_) m2.size (by omega) q1 q2 hs1⟩
    refine ⟨WL.out.lt k hk, ?_⟩
    rcases hk with (hk | hk | rfl | rfl | hk) | rfl | hk
    · exact ⟨fun x => HM.out.s1.1 (x ▸ hk), .inl hk⟩
    · exact ⟨fun x => HM.out.data k (.inl hk) (.inl x), .inr (.inl hk)⟩
    · exact ⟨by omega, .inr (.inr s1)⟩
    · exact ⟨by omega, .inr (.inr s2)⟩
    · have := f1 k hk; exact ⟨by omega, .inr (.inr this)⟩
    · exact ⟨by omega, .inr (.inr s3)⟩
    · have := f2 k hk; exact ⟨by omega, .inr (.inr this)⟩)
  clear hb1 hb2 m2 q1 q2 IT SZ WL
  go_wp2
  go_ret
  exact ⟨_, _, rfl, FIN.out⟩
set_option maxHeartbeats 1000000 in
theorem kPrefix_any {w : World} {sg mg : Nat} {vo jv q : Value} {R : List PV} {J : List JV} {n : Int} {xs : List UInt8} (h : KM w sg mg vo R jv J n) (hq : Rd w q xs) (lx : xs.length ≤ 1000000) (ok : PgOk (pgs R)) (hn : R.length ≤ 1000000) :
    Calls Try.prog 25 #[.pointer (some ⟨sg, 0, none⟩), q] w fun e w' => ∃ b1 b2, e = .returned (.func (.func 73) #[] #[.pointer (some ⟨b1, 0, none⟩), .pointer (some ⟨b2, 0, none⟩)]) ∧ TkGot w w' sg mg vo R (pxL R xs) #[.pointer (some ⟨b1, 0, none⟩), .pointer (some ⟨b2, 0, none⟩)] := by
  obtain ⟨aq, cq, rfl, _⟩ := hq.form
  have m1 : Mods noB w ((w.alloc (.cells #[.pointer (some ⟨sg, 0, none⟩)] 25)).alloc (.cells #[.slice aq xs.length cq] 32)) := ((Mods.refl noB w).alloc _).alloc _
  have b1 : ((w.alloc (.cells #[.pointer (some ⟨sg, 0, none⟩)] 25)).alloc (.cells #[.slice aq xs.length cq] 32)).heap[w.heap.size]? = some (.cells #[.pointer (some ⟨sg, 0, none⟩)] 25 (0, 0)) := heap_old (heap_new w _) _
  have b2 : ((w.alloc (.cells #[.pointer (some ⟨sg, 0, none⟩)] 25)).alloc (.cells #[.slice aq xs.length cq] 32)).heap[w.heap.size + 1]? = some (.cells #[.slice aq xs.length cq] 32 (0, 0)) := by have := heap_new (w.alloc (.cells #[.pointer (some ⟨sg, 0, none⟩)] 25)) (.cells #[.slice aq xs.length cq] 32); rwa [World.size_alloc] at this
  have hS1 : ((w.alloc (.cells #[.pointer (some ⟨sg, 0, none⟩)] 25)).alloc (.cells #[.slice aq xs.length cq] 32)).heap.size = w.heap.size + 2 := by simp
  have d2 := cells_of b2 0
  have CL := Lib.hid (Clone_any (hq.keep m1 (fun _ _ x => x)) lx)
  have HM := Lib.hid h
  have sgl := h.lt sg (.inl rfl)
  have OKH := Lib.hid (And.intro ok (And.intro hn lx))
  have M1 := Lib.hid m1
  have B1 := Lib.hid b1
  have B2 := Lib.hid b2
  have HS1 := Lib.hid hS1
  clear h hq ok hn lx m1 b1 b2 hS1
  go_enter Try.func25, Try.ntmps25
  go_wp2_with fail
  refine CL.out.mono ?_
  rintro e w2 ⟨v2, rfl, o2, m2, f2⟩
  have B2a := m2.heap B2.out (fun x => x)
  have e2 := cells_of B2a 0
  have e3 := free_of B2a 0
  have hs2 := m2.size
  rw [HS1.out] at hs2
  have n2 : ∀ k, v2.ownBlock = some k → w.heap.size + 2 ≤ k := fun k hk => by have := f2 k hk; have := HS1.out; omega
  obtain ⟨W3, hW3⟩ : ∃ W3, W3 = w2.setCell ⟨w.heap.size + 1, 0, none⟩ v2 := ⟨_, rfl⟩
  have m3 : Mods (fun k => k = w.heap.size + 1) w2 W3 := by rw [hW3]; exact (Mods.refl (fun k => k = w.heap.size + 1) w2).setCell (p := ⟨w.heap.size + 1, 0, none⟩) (.inl rfl) _
  have M3 := Lib.hid (show Mods noB w W3 from (M1.out.then0 m2).trans m3 (fun _ _ x => x) (fun i hi x => by omega))
  have B13 := Lib.hid (m3.heap (m2.heap B1.out (fun x => x)) (show ¬ w.heap.size = w.heap.size + 1 by omega))
  have B23 := Lib.hid (show W3.heap[w.heap.size + 1]? = some (.cells #[v2] 32 (0, 0)) by rw [hW3]; exact heap_set B2a 0 v2)
  have O3 := Lib.hid (o2.keep m3 (fun k hk x => by have := n2 k hk; omega))
  have N2 := Lib.hid n2
  have S3 := Lib.hid (show w.heap.size + 2 ≤ W3.heap.size by have := m3.size; omega)
  obtain ⟨a2, cc2, rfl, _⟩ := o2.rd.form
  have d1 := cells_of B13.out 0
  have HW3 := Lib.hid hW3
  clear o2 m2 f2 hs2 n2 m3 M1 B1 B2 CL B2a
  have PP := Lib.hid (show PxPre W3 sg mg vo R w.heap.size (w.heap.size + 1) (.slice a2 xs.length cc2) xs from ⟨(HM.out.keep0 M3.out).pm, B13.out, B23.out, O3.out⟩)
  have IT := Lib.hid (fun W (hm : Mods (fun k => ¬ UPx mg vo R w.heap.size (w.heap.size + 1) (.slice a2 xs.length cc2) k) W3 W) => prefix_iter (PP.out.keep hm) OKH.out.1 OKH.out.2.1 OKH.out.2.2)
  rw [hW3] at d1 IT
  clear hW3
  go_wp2_with fail
  refine (counted_any _ sg 52 #[.pointer (some ⟨w.heap.size, 0, none⟩), .pointer (some ⟨w.heap.size + 1, 0, none⟩)]).mono ?_
  rintro e w4 ⟨b1, b2, rfl, hb1, ⟨t2, hb2⟩, m4, q1, q2⟩
  rw [← HW3.out] at m4 q1 q2 IT
  have FIN := Lib.hid (show TkGot w w4 sg mg vo R (pxL R xs) #[.pointer (some ⟨b1, 0, none⟩), .pointer (some ⟨b2, 0, none⟩)] from by
    have hs3 := S3.out
    refine ⟨M3.out.then0 m4, tk_of (B := W3.heap.size) (fun W hm => IT.out W (m4.trans hm (fun _ _ x => x.elim) (fun _ _ x => x))) (enters_of Try.func52 (by kernel_rfl) rfl) hb1 hb2 (fun k hk => ?_) m4.size (by omega) q1 q2 (by omega)⟩
    refine ⟨PP.out.lt k hk, ?_⟩
    rcases hk with hk | hk | rfl | rfl | hk
    · exact ⟨fun x => HM.out.s1.1 (x ▸ hk), .inl hk⟩
    · exact ⟨fun x => HM.out.data k (.inl hk) (.inl x), .inr (.inl hk)⟩
    · exact ⟨by omega, .inr (.inr (Nat.le_refl _))⟩
    · exact ⟨by omega, .inr (.inr (by omega))⟩
    · have := N2.out k hk; exact ⟨by omega, .inr (.inr (by omega))⟩)
  clear hb1 hb2 m4 q1 q2 IT PP d1 d2 e2 e3
  go_wp2
  go_ret
  exact ⟨_, _, rfl, FIN.out⟩
end Go.Proofs.Ytngemlpalkfjeaa

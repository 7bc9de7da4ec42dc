/- kv.Store: what takes a change back; Rollback. -/
import Derived.Test.YtngemlpalkfjeaaKvE
namespace Go.Proofs.Ytngemlpalkfjeaa
open Go.Gl Go.RowKit
set_option linter.unusedVariables false
set_option maxRecDepth 100000
theorem KM.sg3 {w : World} {sg mg : Nat} {vo jv : Value} {R : List PV} {J : List JV} {n : Int} (h : KM w sg mg vo R jv J n) : w.cell? ⟨sg, 0, none⟩ = some (.pointer (some ⟨mg, 0, none⟩)) := h.cells.1
theorem kUndo1 {w : World} {sg mg : Nat} {vo jv : Value} {R : List PV} {A : List JV} {n : Int} {x : UV} (h : KM w sg mg vo R jv A n) (hx : UndAt w sg x) (hb : ∀ k, UB x k → ¬ KS sg mg vo R jv A k) (ok : PgOk (pgs R)) (hn : R.length ≤ 1000000) (hc : cnt (pgs R) ≤ 1000000000) :
    Calls Try.prog 65 #[.pointer (some ⟨x.sb, 0, none⟩), .pointer (some ⟨x.kb, 0, none⟩)] w fun e w' => e = .returned (.tuple #[]) ∧ ∃ vo' R', KT w w' sg mg vo R jv A vo' R' jv A n ∧ pgs R' = delP (pgs R) x.u.k := by
  have C := Lib.hid (fun b' (hm : Mods noB w b') => show Calls Try.prog 48 #[.pointer (some ⟨mg, 0, none⟩), x.kv] b' fun e w' => ∃ v, e = .returned v ∧ (∃ vo' R', KT w w' sg mg vo R jv A vo' R' jv A n ∧ pgs R' = delP (pgs R) x.u.k) from
    (Delete_any (h.keep0 hm).pm (hx.k.keep hm (fun _ _ x => x)) ok hn hc).mono (fun e w' ⟨vo', R', he, t, ep⟩ => ⟨_, he, vo', R', ((h.keep0 hm).map t).first hm, ep⟩))
  have b1 := hx.sB
  have b2 := hx.kB
  have b3 := h.sg3
  have b4 := h.lt sg (.inl rfl)
  obtain ⟨⟨c, u, sb, kb, ob, kv, ov⟩, rfl⟩ : ∃ y, x = y := ⟨x, rfl⟩
  simp only at b1 b2 C ⊢
  clear h hx hb ok hn hc
  go_enter Try.func65, Try.ntmps65
  go_upto_region 0 with fail
  refine wp_tl (d := .region 0 (opsC 0 Try.f65) true) (by kernel_rfl) ?_
  refine RW.wp (kvb1 b1 b2 b3 b4 C.out ?_)
  intros
  rename_i v7 w7 h7
  have H7 := Lib.hid h7
  clear C b1 b2 b3 h7
  go_wp2
  go_end0
  exact ⟨rfl, H7.out⟩
theorem kUndo2 {w : World} {sg mg : Nat} {vo jv : Value} {R : List PV} {A : List JV} {n : Int} {x : UV} {v : List UInt8} (h : KM w sg mg vo R jv A n) (hx : UndAt w sg x) (ho : x.u.old = some v) (hb : ∀ k, UB x k → ¬ KS sg mg vo R jv A k) (ok : PgOk (pgs R)) (hn : R.length ≤ 1000000) (hc : cnt (pgs R) ≤ 1000000000) :
    Calls Try.prog 66 #[.pointer (some ⟨x.sb, 0, none⟩), .pointer (some ⟨x.kb, 0, none⟩), .pointer (some ⟨x.ob, 0, none⟩)] w fun e w' => e = .returned (.tuple #[]) ∧ ∃ vo' R', KT w w' sg mg vo R jv A vo' R' jv A n ∧ pgs R' = setP (pgs R) x.u.k v := by
  have hcu := hx.c
  unfold UndC at hcu
  rw [ho] at hcu
  obtain ⟨_, b5, rv, lv⟩ := hcu
  have C := Lib.hid (fun b' (hm : Mods noB w b') => show Calls Try.prog 47 #[.pointer (some ⟨mg, 0, none⟩), x.kv, x.ov] b' fun e w' => ∃ v', e = .returned v' ∧ (∃ vo' R', KT w w' sg mg vo R jv A vo' R' jv A n ∧ pgs R' = setP (pgs R) x.u.k v) from
    (Set_any (h.keep0 hm).pm (hx.k.keep hm (fun _ _ x => x)) (rv.keep hm (fun _ _ x => x)) hx.lk lv ok hn hc).mono (fun e w' ⟨vo', R', he, t, ep⟩ => ⟨_, he, vo', R', ((h.keep0 hm).map t).first hm, ep⟩))
  have b1 := hx.sB
  have b2 := hx.kB
  have b3 := h.sg3
  have b4 := h.lt sg (.inl rfl)
  obtain ⟨⟨c, u, sb, kb, ob, kv, ov⟩, rfl⟩ : ∃ y, x = y := ⟨x, rfl⟩
  simp only at b1 b2 b5 C ⊢
  clear h hx hb ok hn hc rv lv ho
  go_enter Try.func66, Try.ntmps66
  go_upto_region 0 with fail
  refine wp_tl (d := .region 0 (opsC 0 Try.f66) true) (by kernel_rfl) ?_
  refine RW.wp (kvb2 b1 b2 b3 b4 b5 C.out ?_)
  intros
  rename_i v7 w7 h7
  have H7 := Lib.hid h7
  clear C b1 b2 b3 b5 h7
  go_wp2
  go_end0
  exact ⟨rfl, H7.out⟩
theorem flat_bound {ps : Pgs} (ok : PgOk ps) : ps.length ≤ ps.flatten.length := by
  have key : ∀ qs : Pgs, (∀ p ∈ qs, p ≠ []) → qs.length ≤ qs.flatten.length := fun qs => by
    induction qs with
    | nil => intro _; simp
    | cons q qs ih =>
      intro h
      have h1 := ih (fun p hp => h p (List.mem_cons_of_mem _ hp))
      have h2 := h q (List.mem_cons_self ..)
      have h3 : q.length ≠ 0 := fun e => h2 (List.eq_nil_of_length_eq_zero e)
      rw [List.flatten_cons, List.length_append, List.length_cons]
      omega
  exact key ps ok.ne
theorem insL_len {l : List Ent} (h : Ris l) (k v : List UInt8) : (insL l k v).length ≤ l.length + 1 := by
  have h3 := congrArg List.length (ris_three h k)
  rw [List.length_append, List.length_append] at h3
  have h4 : (insL l k v).length = (l.filter (fun e => lessB e.1 k)).length + ((l.filter (fun e => lessB k e.1)).length + 1) := by unfold insL; rw [List.length_append, List.length_cons]
  rw [h4]
  omega
theorem delL_len {l : List Ent} (h : Ris l) (k : List UInt8) : (delL l k).length ≤ l.length := by
  have h3 := congrArg List.length (ris_three h k)
  rw [List.length_append, List.length_append] at h3
  have h4 : (delL l k).length = (l.filter (fun e => lessB e.1 k)).length + (l.filter (fun e => lessB k e.1)).length := by unfold delL; rw [List.length_append]
  rw [h4]
  omega
theorem undo1_len {u : Und} {F : List Ent} (h : Ris F) : (undo1 u F).length ≤ F.length + 1 := by
  unfold undo1
  cases u.old with
  | none => have := delL_len h u.k; show (delL F u.k).length ≤ _; omega
  | some v => exact insL_len h _ _
theorem undoAll_len {F : List Ent} (h : Ris F) : ∀ l : List Und, (undoAll l F).length ≤ F.length + l.length
  | [] => Nat.le_refl _
  | u :: l => by
    have h1 := undo1_len (u := u) (undoAll_ris h l)
    have h2 := undoAll_len h l
    show (undo1 u (undoAll l F)).length ≤ _
    rw [List.length_cons]
    omega
structure RB (w1 wr : World) (sg mg : Nat) (vo jv : Value) (R : List PV) (A : List JV) (n : Int) (us : List UV) (k : Nat) : Prop where
  t : ∃ vo' R', KT w1 wr sg mg vo R jv A vo' R' jv A n ∧ PgOk (pgs R') ∧ (pgs R').flatten = undoAll ((us.drop k).map (·.u)) (pgs R).flatten ∧ (∀ x ∈ us, UndAt wr sg x ∧ ∀ i, UB x i → ¬ KS sg mg vo' R' jv A i ∧ i < wr.heap.size)
theorem RB.next {w1 wr w' : World} {sg mg : Nat} {vo jv vo' vo2 : Value} {R R' R2 : List PV} {A : List JV} {n : Int} {us : List UV} {k : Nat} {x : UV} (t : KT w1 wr sg mg vo R jv A vo' R' jv A n) (ok : PgOk (pgs R')) (fl : (pgs R').flatten = undoAll ((us.drop (k + 1)).map (·.u)) (pgs R).flatten) (hu : ∀ x ∈ us, UndAt wr sg x ∧ ∀ i, UB x i → ¬ KS sg mg vo' R' jv A i ∧ i < wr.heap.size)
    (hx : us[k]? = some x) (t2 : KT wr w' sg mg vo' R' jv A vo2 R2 jv A n) (e : pgs R2 = match x.u.old with | none => delP (pgs R') x.u.k | some v => setP (pgs R') x.u.k v) : RB w1 w' sg mg vo jv R A n us k := by
  have hk : k < us.length := (List.getElem?_eq_some_iff.1 hx).1
  have hd : us.drop k = x :: us.drop (k + 1) := by
    rw [List.drop_eq_getElem_cons hk]
    rw [List.getElem?_eq_getElem hk] at hx
    rw [Option.some.inj hx]
  refine ⟨vo2, R2, t.trans t2, ?_, ?_, fun y hy => ?_⟩
  · rw [e]
    cases x.u.old with
    | none => exact delP_ok ok _
    | some v => exact setP_ok ok _ _
  · rw [hd, List.map_cons]
    show _ = undo1 x.u (undoAll ((us.drop (k + 1)).map (·.u)) (pgs R).flatten)
    rw [← fl, e]
    unfold undo1
    cases x.u.old with
    | none => exact delP_flat ok _
    | some v => exact setP_flat ok _ _
  · obtain ⟨h1, h2⟩ := hu y hy
    refine ⟨h1.keep t2.mods (fun i hi => (h2 i hi).1), fun i hi => ⟨fun z => ?_, Nat.lt_of_lt_of_le (h2 i hi).2 t2.mods.size⟩⟩
    rcases t2.ks i z with z | z
    · exact (h2 i hi).1 z
    · have := (h2 i hi).2; omega
theorem RB.start {w w1 : World} {sg mg : Nat} {vo jv jv' : Value} {R : List PV} {A : List JV} {q0 : JV} {n : Int} (h : KM w sg mg vo R jv (A ++ [q0]) n) (m1 : Mods (fun k => k = sg) w w1) (t : KT w w1 sg mg vo R jv (A ++ [q0]) vo R jv' A n) (ok : PgOk (pgs R)) : RB w1 w1 sg mg vo jv' R A n q0.us q0.us.length := by
  have hq : q0 ∈ A ++ [q0] := List.mem_append_right _ (List.mem_singleton.2 rfl)
  refine ⟨vo, R, KT.refl t.km, ok, by rw [List.drop_length]; rfl, fun x hx => ⟨(h.un q0 hq x hx).keep m1 (fun k hk e => h.data k (.inr ⟨q0, hq, x, hx, hk⟩) (.inl e)), fun i hi => ?_⟩⟩
  have hd : KD R (A ++ [q0]) i := .inr ⟨q0, hq, x, hx, hi⟩
  have hl := h.dlt i hd
  refine ⟨fun z => ?_, Nat.lt_of_lt_of_le hl m1.size⟩
  rcases t.ks i z with y | y
  · exact h.data i hd y
  · omega
set_option maxHeartbeats 4000000 in
theorem kRollback_any {w : World} {sg mg : Nat} {vo jv : Value} {R : List PV} {J : List JV} {n : Int} (h : KM w sg mg vo R jv J n) (hJ : J.length ≤ 1000000) (hU : ∀ q ∈ J, q.us.length ≤ 400000) (ok : PgOk (pgs R)) (hc : (pgs R).flatten.length ≤ 400000) :
    Calls Try.prog 22 #[.pointer (some ⟨sg, 0, none⟩)] w fun e w' => (J = [] ∧ e = .returned (.int .i64 62) ∧ w' = w) ∨ (e = .returned (.int .i64 0) ∧ ∃ A q0 vo' R' jv', J = A ++ [q0] ∧ KT w w' sg mg vo R jv J vo' R' jv' A n ∧ PgOk (pgs R') ∧ (pgs R').flatten = undoAll (q0.us.map (·.u)) (pgs R).flatten) := by
  rcases J.eq_nil_or_concat with rfl | ⟨A, q0, hJe⟩
  · refine Calls.mono (R := fun e w' => e = .returned (.int .i64 62) ∧ w' = w) ?_ (fun e w' ⟨a, b⟩ => .inl ⟨rfl, a, b⟩)
    have E := Lib.hid (kEnds_none h)
    clear h hJ hU ok hc
    go_enter Try.func22, Try.ntmps22
    go_wp2_with fail
    refine E.out.mono ?_
    rintro e w1 ⟨rfl, rfl⟩
    go_wp2
    go_ret
    exact ⟨rfl, rfl⟩
  · rw [List.concat_eq_append] at hJe
    subst hJe
    refine Calls.mono (R := fun e w' => e = .returned (.int .i64 0) ∧ ∃ vo' R' jv', KT w w' sg mg vo R jv (A ++ [q0]) vo' R' jv' A n ∧ PgOk (pgs R') ∧ (pgs R').flatten = undoAll (q0.us.map (·.u)) (pgs R).flatten) ?_ (fun e w' ⟨a, vo', R', jv', b⟩ => .inr ⟨a, A, q0, vo', R', jv', rfl, b⟩)
    obtain ⟨b, off, cap, hjv⟩ := h.slot
    have hq : q0 ∈ A ++ [q0] := List.mem_append_right _ (List.mem_singleton.2 rfl)
    have hBl : A.length ≤ 1000000 := by simp at hJ; omega
    have E := Lib.hid (kEnds_some h hjv hBl)
    have HE := Lib.hid (fun w1 (e : w1 = w.setCell ⟨sg, 1, none⟩ (.slice (some ⟨b, off, none⟩) A.length cap)) => h.ended hjv e)
    obtain ⟨aq, cq, hqv, _⟩ := (h.pg q0 hq).rd.form
    have hrd := (h.pg q0 hq).rd
    have lq := hU q0 hq
    have HM := Lib.hid h
    obtain ⟨us, hus⟩ : ∃ us, q0.us = us := ⟨_, rfl⟩
    have hqks : ∀ k, q0.jv.ownBlock = some k → ¬ KS sg mg vo R (.slice (some ⟨b, off, none⟩) A.length cap) A k := by
      rintro k hk (x | x | x | ⟨p, hp, x⟩)
      · exact h.s1.2.2 q0 hq (x ▸ hk)
      · exact h.s3 q0 hq k hk x
      · exact (h.s2 k (by rw [hjv]; exact x)).2 q0 hq hk
      · exact (List.pairwise_append.1 h.s4).2.2 p hp q0 (List.mem_singleton.2 rfl) k x hk
    have HKS := Lib.hid hqks
    have START := Lib.hid (fun w1 m1 t => RB.start h (w1 := w1) (jv' := .slice (some ⟨b, off, none⟩) A.length cap) m1 t ok)
    rw [hus] at START lq hqv hrd ⊢
    rw [hqv] at E hrd HKS
    have RD := Lib.hid hrd
    have HC := Lib.hid (And.intro hc lq)
    have HRS := Lib.hid ok
    clear hU hJ h hqks hrd ok hc
    obtain ⟨l, hl⟩ : ∃ l, us.length = l := ⟨_, rfl⟩
    rw [hl] at E RD HKS START lq
    have HQB := Lib.hid (fun k (hk : (Value.slice aq l cq).ownBlock = some k) => show q0.jv.ownBlock = some k from by rw [hqv, hl]; exact hk)
    have HL := Lib.hid hl
    clear hqv hl hus
    go_enter Try.func22, Try.ntmps22
    go_wp2_with fail
    refine E.out.mono ?_
    rintro e w1 ⟨rfl, e1⟩
    have m1 : Mods (fun k => k = sg) w w1 := by rw [e1]; exact (Mods.refl (fun k => k = sg) w).setCell (p := ⟨sg, 1, none⟩) (.inl rfl) _
    have T1 := Lib.hid (HE.out w1 e1)
    have RB0 := Lib.hid (START.out w1 m1 T1.out)
    have RD1 := Lib.hid (RdG.keep RD.out m1 (fun k hk x => HM.out.s1.2.2 q0 hq (x ▸ HQB.out k hk)))
    clear e1 E HE START m1 RD
    go_wp2
    go_loopw [5] (fun i wr => ∃ k : Nat, k ≤ l ∧ i = .int .i64 ((k : Int) - 1) ∧ Hid (RB w1 wr sg mg vo (.slice (some ⟨b, off, none⟩) A.length cap) R A n us k)) (fun i _ => (intOf i + 1).toNat)
    case atStart => exact ⟨l, Nat.le_refl _, rfl, RB0⟩
    case round =>
      clear RB0
      obtain ⟨k, hk, rfl, hI⟩ := hrel
      rcases k with _ | m
      · go_wp2
        go_ret
        obtain ⟨vo', R', t, ok', fl, _⟩ := hI.out.t
        exact ⟨rfl, vo', R', _, T1.out.trans t, ok', by rw [fl]; rfl⟩
      · rw [show ((m + 1 : Nat) : Int) - 1 = (m : Int) by omega]
        obtain ⟨vo', R', t, ok', fl, hu⟩ := hI.out.t
        have hm : m < us.length := by have := HL.out; omega
        obtain ⟨x, hx⟩ : ∃ x, us[m] = x := ⟨_, rfl⟩
        have hgx : us[m]? = some x := by rw [List.getElem?_eq_getElem hm, hx]
        obtain ⟨hx1, hx2⟩ := hu x (List.mem_of_getElem? hgx)
        rcases RD1.out.2 with ⟨_, h0⟩ | ⟨g, o, cap2, hv2, h1, h2, hg, hcell⟩
        · omega
        obtain ⟨rfl, rfl⟩ : aq = some ⟨g, o, none⟩ ∧ cq = cap2 := by simpa using hv2
        have hgl : g < w1.heap.size := by rcases hg with h | h <;> omega
        have cx := (t.mods.cellAt hgl (HKS.out g rfl) (o + m)).trans (hcell m x.c (by rw [List.getElem?_map, hgx]; rfl))
        have fb : (pgs R').flatten.length ≤ 800000 := by
          rw [fl]
          have := undoAll_len HRS.out.ris ((us.drop (m + 1)).map (·.u))
          rw [List.length_map, List.length_drop] at this
          have := HC.out.1
          have := HC.out.2
          omega
        have hfl := fb
        clear hI RD1 hv2 hcell hg
        rcases ho : x.u.old with _ | v
        · have hcx : x.c = .func (.func 65) #[] #[.pointer (some ⟨x.sb, 0, none⟩), .pointer (some ⟨x.kb, 0, none⟩)] := by
            have := hx1.c
            unfold UndC at this
            rw [ho] at this
            exact this
          rw [hcx] at cx
          have UC := Lib.hid (kUndo1 t.km hx1 (fun i hi => (hx2 i hi).1) ok' (by have := flat_bound ok'; rw [pgs_length] at this; omega) (by have : cnt (pgs R') = (pgs R').flatten.length := rfl; omega))
          have FIN := Lib.hid (fun w' vo2 R2 (t2 : KT wr w' sg mg vo' R' (.slice (some ⟨b, off, none⟩) A.length cap) A vo2 R2 (.slice (some ⟨b, off, none⟩) A.length cap) A n) (e : pgs R2 = delP (pgs R') x.u.k) => RB.next t ok' fl hu hgx t2 (by rw [ho]; exact e))
          clear t ok' fl hu hx1 hx2 hgx hcx fb ho hfl
          go_wp2_with fail
          refine UC.out.mono ?_
          rintro e w2 ⟨rfl, vo2, R2, t2, e2⟩
          have RN := Lib.hid (FIN.out w2 vo2 R2 t2 e2)
          clear UC FIN t2 e2 cx
          go_wp2
          go_roundw
          case rel => exact ⟨m, by omega, rfl, RN⟩
          case measure => simp [intOf]
        · have hcx : x.c = .func (.func 66) #[] #[.pointer (some ⟨x.sb, 0, none⟩), .pointer (some ⟨x.kb, 0, none⟩), .pointer (some ⟨x.ob, 0, none⟩)] := by
            have := hx1.c
            unfold UndC at this
            rw [ho] at this
            exact this.1
          rw [hcx] at cx
          have UC := Lib.hid (kUndo2 t.km hx1 ho (fun i hi => (hx2 i hi).1) ok' (by have := flat_bound ok'; rw [pgs_length] at this; omega) (by have : cnt (pgs R') = (pgs R').flatten.length := rfl; omega))
          have FIN := Lib.hid (fun w' vo2 R2 (t2 : KT wr w' sg mg vo' R' (.slice (some ⟨b, off, none⟩) A.length cap) A vo2 R2 (.slice (some ⟨b, off, none⟩) A.length cap) A n) (e : pgs R2 = setP (pgs R') x.u.k v) => RB.next t ok' fl hu hgx t2 (by rw [ho]; exact e))
          clear t ok' fl hu hx1 hx2 hgx hcx fb ho hfl
          go_wp2_with fail
          refine UC.out.mono ?_
          rintro e w2 ⟨rfl, vo2, R2, t2, e2⟩
          have RN := Lib.hid (FIN.out w2 vo2 R2 t2 e2)
          clear UC FIN t2 e2 cx
          go_wp2
          go_roundw
          case rel => exact ⟨m, by omega, rfl, RN⟩
          case measure => simp [intOf]
end Go.Proofs.Ytngemlpalkfjeaa

/- gleanref6.Store: Delete, Begin, Commit, Rollback. -/
import Derived.Test.YtngemlpalkfjeaaZC
namespace Go.Proofs.Ytngemlpalkfjeaa
open Go.Gl Go.RowKit
set_option linter.unusedVariables false
set_option maxRecDepth 100000
theorem ecell_ones {w : World} {v : Value} {L : List EV} (h : PRow w v L) : ∀ y ∈ ecell L, y.oneCell' = true := fun y hy => by
  obtain ⟨e, he, hy⟩ := List.mem_flatMap.1 hy
  have := prow_one h e he
  simp at hy
  rcases hy with rfl | rfl
  · exact this.1
  · exact this.2
section
variable {w : World} {g n : Nat} {F : List Ent} {Ws : List (List Ent)} {S D : Nat → Prop}
set_option maxHeartbeats 4000000 in
theorem rDelete6 {q : Value} {ks : List UInt8} (h : RF w g F Ws n S D) (hq : Rd w q ks) (hqs : Off S q ks) (hn : n ≤ 1000000000000) (hF : F.length ≤ 100000) :
    Calls Try.prog 34 #[.pointer (some ⟨g, 0, none⟩), q] w fun e w' => e = .returned (.bool (getL F ks).isSome) ∧ RChg w w' g S D (delL F ks) Ws (n + 1) := by
  obtain ⟨lv, wv, L, H, rs, hr, hf, hw, ho, rfl, rfl⟩ := h
  have HLF := Lib.hid (rd6_len hf)
  have hF' : L.length ≤ 100000 := by have := HLF.out; omega
  clear hF
  obtain ⟨la, lc, rfl, _⟩ := rs.pr.row.form
  have SLT := Lib.hid rs.lt
  have DLT := Lib.hid rs.dlt
  obtain ⟨t1, m1⟩ := rs.tick ((n : Int) + 1)
  have M1 := Lib.hid (m1.mono (T := RS6 g wv) (fun k _ e => .inl e))
  have T1 := Lib.hid t1
  have HQ := Lib.hid (hqs.keep hq M1.out)
  have c2 := rs.cells.2.2.1
  have f2 := rs.cells.2.2.2 2
  have SAME := Lib.hid (fun W (r : RS W g (.slice la L.length lc) wv L H ((n : Int) + 1)) (m : Mods (RS6 g wv) w W) => show RChg w W g (RS6 g wv) (RD6 (.slice la L.length lc) L H) F Ws (n + 1) from ⟨_, _, ⟨_, wv, L, H, by rw [Int.natCast_succ]; exact r, hr, hf, hw, ho, rfl, rfl⟩, m, fun _ => .inl, fun _ => .inl⟩)
  have PL := Lib.hid (rplace_any T1.out (by rw [hf]; exact hr) HQ.out (by omega))
  rw [hf] at PL
  have DEL := Lib.hid (del_at hr ks)
  have ILE := Lib.hid (isN_le hr ks)
  have DR := Lib.hid (delL_ris hr ks)
  have HRR := Lib.hid (And.intro hr (And.intro hf (And.intro hw ho)))
  obtain ⟨aq, cq, rfl, _⟩ := hq.form
  obtain ⟨i, hi⟩ : ∃ i, cntLt F ks = i := ⟨_, rfl⟩
  obtain ⟨B, hB⟩ : ∃ B, (getL F ks).isSome = B := ⟨_, rfl⟩
  have hN : isN F ks = if B = true then 1 else 0 := by unfold isN; rw [hB]
  rw [hi, hB] at PL
  rw [hi, hN] at DEL ILE
  rw [hB]
  generalize ks.length = lk at *
  clear rs t1 m1 hqs hq hi hB hN
  go_enter Try.func34, Try.ntmps34
  go_wp2_with fail
  refine PL.out.mono ?_
  rintro e w2 ⟨rfl, q2⟩
  have T2 := Lib.hid (T1.out.keep0 (q2.mods noB))
  have M2 := Lib.hid (M1.out.then0 (q2.mods noB))
  clear q2 PL T1 M1 c2 f2 HQ
  cases B with
  | true =>
    have hj : i + 1 ≤ L.length := by have := ILE.out; rw [if_pos rfl] at this; have := HLF.out; omega
    have hD := DEL.out
    rw [if_pos rfl] at hD
    have HD := Lib.hid hD
    have HG := Lib.hid T2.out.hg
    have HR := Lib.hid T2.out.pr.row
    have HX := Lib.hid (ecell_ones T2.out.pr)
    clear hD DEL SAME ILE
    go_upto_region 4 with fail
    refine wp_tl (d := .region 4 (opsC 4 Try.f34) true) (by kernel_rfl) ?_
    refine RW.wp (r6del4 HG.out HR.out HX.out hj (by omega) ?_)
    intros
    rename_i v8 w3 w4 o8 m8 f8 hw4
    have FF := Lib.hid (show RChg w (w3.setCell ⟨g, 0, none⟩ v8) g (RS6 g wv) (RD6 (.slice la L.length lc) L H) (delL F ks) Ws (n + 1) from by
      obtain ⟨hr, hf, hw, ho⟩ := HRR.out
      have t7 := T2.out.keep0 m8
      rw [← Int.natCast_succ] at t7
      have hlen : (L.take i ++ L.drop (i + 1)).length = i + (L.length - (i + 1)) := by
        rw [List.length_append, List.length_take, List.length_drop]; omega
      have hsub : ∀ e ∈ L.take i ++ L.drop (i + 1), e ∈ L := fun e he => by
        rcases List.mem_append.1 he with he | he
        · exact List.mem_of_mem_take he
        · exact List.mem_of_mem_drop he
      refine rs_laid (L' := L.take i ++ L.drop (i + 1)) t7 (M2.out.then0 m8) SLT.out ⟨?_, fun x hx => t7.pr.own x (hsub x hx)⟩ (f8.of M2.out.size) o8.lt (fun k hk => .inl (.inl (.inr (mdl_sub hk hsub)))) DR.out ?_ hw ho
      · rw [hlen, ecell_append, ecell_take, ecell_drop]
        exact o8.rd
      · rw [HD.out, ← hf, List.map_append, List.map_take, List.map_drop])
    rw [← hw4] at FF
    clear o8 m8 f8 hw4 HG HR HX T2 M2 HD
    go_wp2
    go_ret
    exact ⟨rfl, FF.out⟩
  | false =>
    have hD := DEL.out
    rw [if_neg (by simp), Nat.add_zero, List.take_append_drop] at hD
    have HD := Lib.hid hD
    clear hD DEL ILE
    go_wp2
    go_ret
    exact ⟨rfl, by rw [HD.out]; exact SAME.out _ T2.out M2.out⟩
theorem own_less {e : TypeId} {wa : Option Addr} {m c : Nat} {q : Value} {xs : List Value} (h : OwnG w e 1 (.slice wa (m + 1) c) (m + 1) (xs ++ [q])) : OwnG w e 1 (.slice wa m c) m ((xs ++ [q]).dropLast) := by
  have hl := h.1
  rw [List.length_append, List.length_singleton] at hl
  refine ⟨by rw [List.dropLast_concat]; omega, ?_⟩
  rcases h.2 with ⟨h0, h1⟩ | ⟨b, off, cap, cur, hv, h1, h2, h3, h4, h5⟩
  · omega
  · injection hv with e1 _ e3
    subst e1 e3
    refine .inr ⟨b, off, c, cur, rfl, h1, by omega, h3, h4, fun j u hj => h5 j u ?_⟩
    rw [List.dropLast_concat] at hj
    rw [List.getElem?_append_left (List.getElem?_eq_some_iff.1 hj).1]
    exact hj
theorem ws_len {H : List SV} {Ws : List (List Ent)} (hw : (H.map (fun h => h.es.map EV.ent)).reverse = Ws) : H.length = Ws.length := by rw [← hw, List.length_reverse, List.length_map]
set_option maxHeartbeats 4000000 in
theorem rBegin6 (h : RF w g F Ws n S D) :
    Calls Try.prog 40 #[.pointer (some ⟨g, 0, none⟩)] w fun e w' => (16 ≤ Ws.length ∧ e = .returned (.int .i64 62) ∧ w' = w) ∨ (Ws.length < 16 ∧ e = .returned (.int .i64 0) ∧ RChg w w' g S D F (F :: Ws) n) := by
  obtain ⟨lv, wv, L, H, rs, hr, hf, hw, ho, rfl, rfl⟩ := h
  rw [← ws_len hw]
  obtain ⟨wa, wc, hwv, _⟩ := rs.row.rd.form
  obtain ⟨la, lc, hlv, _⟩ := rs.pr.row.form
  have c1 := rs.cells.2.1
  rw [hwv] at c1
  obtain ⟨m, hm⟩ : ∃ m, H.length = m := ⟨_, rfl⟩
  rw [hm] at c1
  rw [hm]
  have HMm := Lib.hid hm
  have RSS := Lib.hid rs
  have HRR := Lib.hid (And.intro hr (And.intro hf (And.intro hw ho)))
  have HLV := Lib.hid hlv
  clear rs hm hwv
  by_cases hlt : 16 ≤ m
  · have z1 : (16 : Int) ≤ (m : Int) := by omega
    go_enter Try.func40, Try.ntmps40
    go_wp2
    go_ret
    exact .inl ⟨hlt, rfl, rfl⟩
  · have z1 : ¬ (16 : Int) ≤ (m : Int) := by omega
    have HG := Lib.hid RSS.out.hg
    have HR := Lib.hid RSS.out.row
    have hvo : ¬ ofV wv g := fun x => RSS.out.s1 x
    rw [hlv] at HG
    rw [HMm.out] at HR
    clear hlv
    go_enter Try.func40, Try.ntmps40
    go_upto_region 3 with fail
    refine wp_tl (d := .region 3 (opsC 3 Try.f40) true) (by kernel_rfl) ?_
    refine RW.wp (r6beg3 HG.out HR.out (by omega) hvo ?_)
    intros
    rename_i v8 w3 w4 o8 m8 f8 hw4
    have FF := Lib.hid (show RChg w (w3.setCell ⟨g, 1, none⟩ v8) g (RS6 g wv) (RD6 lv L H) F (F :: Ws) n from by
      have rs := RSS.out
      obtain ⟨hr, hf, hw, ho⟩ := HRR.out
      have hds : ∀ k, RD6 lv L H k → ¬ ofV wv k := fun k hk x => rs.data k hk (.inr x)
      have m9 : Mods (RS6 g wv) w (w3.setCell ⟨g, 1, none⟩ v8) := (m8.mono (T := RS6 g wv) (fun k _ x => .inr x)).setCell (p := ⟨g, 1, none⟩) (.inl (.inl rfl)) v8
      have mg : Mods (fun k => k = g) w3 (w3.setCell ⟨g, 1, none⟩ v8) := (Mods.refl (fun k => k = g) w3).setCell (p := ⟨g, 1, none⟩) (.inl rfl) v8
      have hgw : g < w.heap.size := lt_of_heap rs.hg
      have hv8 : ∀ k, v8.ownBlock = some k → wv.ownBlock = some k ∨ w.heap.size ≤ k := fun k hk => f8.elim (fun f => .inl (f ▸ hk)) (fun f => .inr (f k hk))
      have h8g : v8.ownBlock ≠ some g := fun x => (hv8 g x).elim rs.s1 (fun y => by omega)
      have keepP : ∀ v es, (∀ k, RB6 v es k → RD6 lv L H k) → PRow w v es → PRow (w3.setCell ⟨g, 1, none⟩ v8) v es := fun v es hs p => p.keep m9 (fun k hk => rs.data k (hs k (.inl hk))) (fun k hk => rs.data k (hs k (.inr hk)))
      have hsnoc : H ++ [⟨lv, L⟩] = H ++ [(⟨lv, L⟩ : SV)] := rfl
      have hrd : ∀ k, RD6 lv L (H ++ [⟨lv, L⟩]) k → RD6 lv L H k := fun k hk => by
        rcases hk with hk | ⟨q, hq, hk⟩
        · exact .inl hk
        · rcases List.mem_append.1 hq with hq | hq
          · exact .inr ⟨q, hq, hk⟩
          · rw [List.mem_singleton.1 hq] at hk; exact .inl hk
      refine ⟨_, _, ⟨lv, v8, L, H ++ [⟨lv, L⟩], ⟨heap_set (m8.heap rs.hg rs.s1) 1 v8, keepP lv L (fun k hk => .inl hk) rs.pr, ?_, fun q hq => ?_, h8g, fun k hk x => ?_, fun k hk => ?_⟩, hr, hf, ?_, ?_, rfl, rfl⟩, m9, fun k hk => ?_, fun k hk => .inl (hrd k hk)⟩
      · rw [List.length_append, List.length_singleton, List.map_append, List.map_singleton, HMm.out]
        rw [← HLV.out] at o8
        exact o8.keep mg (fun k hk x => h8g (x ▸ hk))
      · rcases List.mem_append.1 hq with hq | hq
        · exact keepP q.v q.es (fun k hk => .inr ⟨q, hq, hk⟩) (rs.old q hq)
        · rw [List.mem_singleton.1 hq]; exact keepP lv L (fun k hk => .inl hk) rs.pr
      · rcases x with rfl | x
        · exact rs.data _ (hrd _ hk) (.inl rfl)
        · rcases hv8 k x with y | y
          · exact rs.data k (hrd k hk) (.inr y)
          · have := rs.dlt k (hrd k hk); omega
      · exact Nat.lt_of_lt_of_le (rs.dlt k (hrd k hk)) m9.size
      · rw [List.map_append, List.reverse_append, hw, List.map_singleton, hf]; rfl
      · intro G hG
        rcases List.mem_cons.1 hG with rfl | hG
        · exact hr
        · exact ho G hG
      · rcases hk with rfl | hk
        · exact .inl (.inl rfl)
        · rcases hv8 k hk with y | y
          · exact .inl (.inr y)
          · exact .inr y)
    rw [← hw4] at FF
    clear o8 m8 f8 hw4 HG HR
    go_wp2
    go_ret
    exact ⟨by omega, rfl, FF.out⟩
set_option maxHeartbeats 4000000 in
theorem rCommit6 (h : RF w g F Ws n S D) (h16 : Ws.length ≤ 1000) :
    Calls Try.prog 41 #[.pointer (some ⟨g, 0, none⟩)] w fun e w' => (Ws = [] ∧ e = .returned (.int .i64 62) ∧ w' = w) ∨ (Ws ≠ [] ∧ e = .returned (.int .i64 0) ∧ RChg w w' g S D F Ws.tail n) := by
  obtain ⟨lv, wv, L, H, rs, hr, hf, hw, ho, rfl, rfl⟩ := h
  obtain ⟨wa, wc, hwv, _⟩ := rs.row.rd.form
  have c1 := rs.cells.2.1
  rw [hwv] at c1
  have HWV := Lib.hid hwv
  rcases List.eq_nil_or_concat H with rfl | ⟨A, q, rfl⟩
  · have hnil : Ws = [] := by rw [← hw]; rfl
    simp only [List.length_nil] at c1
    clear rs hwv
    go_enter Try.func41, Try.ntmps41
    go_wp2
    go_ret
    exact .inl ⟨hnil, rfl, rfl⟩
  · rw [List.concat_eq_append] at *
    obtain ⟨m, hm⟩ : ∃ m, A.length = m := ⟨_, rfl⟩
    have hlen : (A ++ [q]).length = m + 1 := by rw [List.length_append, List.length_singleton, hm]
    rw [hlen] at c1
    have hwl := ws_len hw
    rw [hlen] at hwl
    have z1 : ¬ ((m : Int) + 1 = 0) := by omega
    have z2 : ¬ (((m + 1 : Nat) : Int) = 0) := by omega
    have hm6 : m ≤ 1000000 := by omega
    have HG := Lib.hid rs.hg
    rw [hwv, hlen] at HG
    have HR := Lib.hid rs.row.rd
    rw [hwv, hlen] at HR
    have RSS := Lib.hid rs
    have HRR := Lib.hid (And.intro hr (And.intro hf (And.intro hw (And.intro ho (And.intro hm hlen)))))
    have hne : Ws ≠ [] := fun e => by rw [e] at hwl; simp at hwl
    clear rs hwv hlen hm hw ho hr hf hwl
    go_enter Try.func41, Try.ntmps41
    go_upto_region 3 with fail
    refine wp_tl (d := .region 3 (opsC 3 Try.f41) true) (by kernel_rfl) ?_
    refine RW.wp (r6com3 HG.out HR.out hm6 ?_)
    intros
    rename_i w3 w4 m8 hw4
    have FF := Lib.hid (show RChg w (w3.setCell ⟨g, 1, none⟩ (.slice wa m wc)) g (RS6 g wv) (RD6 lv L (A ++ [q])) F Ws.tail n from by
      have rs := RSS.out
      obtain ⟨hr, hf, hw, ho, hm, hlen⟩ := HRR.out
      have mg : Mods (fun k => k = g) w (w3.setCell ⟨g, 1, none⟩ (.slice wa m wc)) := (m8.mono (T := fun k => k = g) (fun _ _ x => x.elim)).setCell (p := ⟨g, 1, none⟩) (.inl rfl) _
      have hob : (Value.slice wa m wc).ownBlock = wv.ownBlock := by rw [HWV.out]; cases wa <;> rfl
      have hrd : ∀ k, RD6 lv L A k → RD6 lv L (A ++ [q]) k := fun k hk => hk.imp id (fun ⟨h, hh, hk⟩ => ⟨h, List.mem_append_left _ hh, hk⟩)
      have keepP : ∀ v es, (∀ k, RB6 v es k → RD6 lv L (A ++ [q]) k) → PRow w v es → PRow (w3.setCell ⟨g, 1, none⟩ (.slice wa m wc)) v es := fun v es hs p => p.keep mg (fun k hk x => rs.data k (hs k (.inl hk)) (.inl x)) (fun k hk x => rs.data k (hs k (.inr hk)) (.inl x))
      have hrow : OwnG w 28 1 (.slice wa m wc) A.length (A.map (·.v)) := by
        have h1 := rs.row
        rw [HWV.out, hlen, List.map_append, List.map_singleton] at h1
        rw [hm]
        have := own_less h1
        rwa [List.dropLast_concat] at this
      refine ⟨_, _, ⟨lv, .slice wa m wc, L, A, ⟨heap_set (m8.heap rs.hg (fun x => x)) 1 _, keepP lv L (fun k hk => .inl hk) rs.pr, hrow.keep mg (fun k hk x => rs.s1 (by rw [← hob]; exact x ▸ hk)), fun p hp => keepP p.v p.es (fun k hk => .inr ⟨p, List.mem_append_left _ hp, hk⟩) (rs.old p (List.mem_append_left _ hp)), by rw [hob]; exact rs.s1, fun k hk x => rs.data k (hrd k hk) (x.imp id (fun y => by rw [← hob]; exact y)), fun k hk => Nat.lt_of_lt_of_le (rs.dlt k (hrd k hk)) mg.size⟩, hr, hf, ?_, fun G hG => ho G (List.mem_of_mem_tail hG), rfl, rfl⟩, mg.mono (fun k _ x => .inl x), fun k hk => .inl (hk.imp id (fun y => by rw [← hob]; exact y)), fun k hk => .inl (hrd k hk)⟩
      rw [← hw, List.map_append, List.reverse_append, List.map_singleton]; rfl)
    rw [← hw4] at FF
    clear m8 hw4 HG HR
    go_wp2
    go_ret
    exact .inr ⟨hne, rfl, FF.out⟩
set_option maxHeartbeats 4000000 in
theorem rRollback6 (h : RF w g F Ws n S D) (h16 : Ws.length ≤ 1000) :
    Calls Try.prog 42 #[.pointer (some ⟨g, 0, none⟩)] w fun e w' => (Ws = [] ∧ e = .returned (.int .i64 62) ∧ w' = w) ∨ (∃ G Vs, Ws = G :: Vs ∧ e = .returned (.int .i64 0) ∧ RChg w w' g S D G Vs n) := by
  obtain ⟨lv, wv, L, H, rs, hr, hf, hw, ho, rfl, rfl⟩ := h
  obtain ⟨wa, wc, hwv, _⟩ := rs.row.rd.form
  have c1 := rs.cells.2.1
  rw [hwv] at c1
  have HWV := Lib.hid hwv
  rcases List.eq_nil_or_concat H with rfl | ⟨A, q, rfl⟩
  · have hnil : Ws = [] := by rw [← hw]; rfl
    simp only [List.length_nil] at c1
    clear rs hwv
    go_enter Try.func42, Try.ntmps42
    go_wp2
    go_ret
    exact .inl ⟨hnil, rfl, rfl⟩
  · rw [List.concat_eq_append] at *
    obtain ⟨m, hm⟩ : ∃ m, A.length = m := ⟨_, rfl⟩
    have hlen : (A ++ [q]).length = m + 1 := by rw [List.length_append, List.length_singleton, hm]
    rw [hlen] at c1
    have hwl := ws_len hw
    rw [hlen] at hwl
    have hob0 := rs.row.ob
    rcases hob0 with ⟨_, h0, _⟩ | ⟨b, off, cap, hv, hOB⟩
    · rw [hlen] at h0; omega
    obtain ⟨rfl, rfl⟩ : wa = some ⟨b, off, none⟩ ∧ wc = cap := by simpa using hwv.symm.trans hv
    have z1 : ¬ ((m : Int) + 1 - 1 < 0) := by omega
    have z2 : ¬ (((m + 1 : Nat) : Int) - 1 < 0) := by omega
    have z3 : ¬ (m : Int) < 0 := by omega
    have hm6 : m ≤ 1000000 := by omega
    have HG := Lib.hid rs.hg
    rw [hwv, hlen] at HG
    rw [hlen] at hOB
    have HR := Lib.hid hOB
    have hp : ((A ++ [q]).map (·.v))[m]? = some q.v := by rw [List.map_append, List.map_singleton, List.getElem?_append_right (by simp [hm]), List.length_map, hm]; simp
    have HP := Lib.hid hp
    obtain ⟨qa, qc, eq, _⟩ := (rs.old q (List.mem_append_right _ (List.mem_singleton.2 rfl))).row.form
    have hq1 : q.v.oneCell' = true := by rw [eq]; rfl
    have hbg : b ≠ g := fun e => rs.s1 (by rw [hwv, e]; rfl)
    have RSS := Lib.hid rs
    have HRR := Lib.hid (And.intro hr (And.intro hf (And.intro hw (And.intro ho (And.intro hm hlen)))))
    have hWs : Ws = (q.es.map EV.ent) :: ((A.map (fun h => h.es.map EV.ent)).reverse) := by rw [← hw, List.map_append, List.reverse_append, List.map_singleton]; rfl
    have HWS := Lib.hid hWs
    clear rs hwv hlen hm hw ho hr hf hOB hv eq hp hWs hwl
    go_enter Try.func42, Try.ntmps42
    go_upto_region 4 with fail
    refine wp_tl (d := .region 4 (opsC 4 Try.f42) true) (by kernel_rfl) ?_
    refine RW.wp (r6rol4 HG.out HR.out HP.out hq1 hm6 hbg ?_)
    intros
    rename_i w3 w4 hw3 hw4
    have FF := Lib.hid (show RChg w w4 g (RS6 g wv) (RD6 lv L (A ++ [q])) (q.es.map EV.ent) ((A.map (fun h => h.es.map EV.ent)).reverse) n from by
      have rs := RSS.out
      obtain ⟨hr, hf, hw, ho, hm, hlen⟩ := HRR.out
      have m0 := (Mods.refl (fun k => k = g) w).drew
      have m1 : Mods (fun k => k = g) w w3 := by rw [hw3]; exact m0.setCell (p := ⟨g, 0, none⟩) (.inl rfl) _
      have mg : Mods (fun k => k = g) w w4 := by rw [hw4]; exact m1.setCell (p := ⟨g, 1, none⟩) (.inl rfl) _
      have hh : w4.heap[g]? = some (.cells #[q.v, .slice (some ⟨b, off, none⟩) m wc, .int .i64 (n : Int)] 31 (0, 0)) := by
        have h0 := heap_set (((Mods.refl noB w).drew).heap rs.hg (fun x => x)) 0 q.v
        rw [← hw3] at h0
        have h1 := heap_set h0 1 (.slice (some ⟨b, off, none⟩) m wc)
        rw [← hw4] at h1
        exact h1
      have hob : (Value.slice (some ⟨b, off, none⟩) m wc).ownBlock = wv.ownBlock := by rw [HWV.out]; rfl
      have hrd : ∀ k, RD6 q.v q.es A k → RD6 lv L (A ++ [q]) k := fun k hk => by
        rcases hk with hk | ⟨h, hh, hk⟩
        · exact .inr ⟨q, List.mem_append_right _ (List.mem_singleton.2 rfl), hk⟩
        · exact .inr ⟨h, List.mem_append_left _ hh, hk⟩
      have keepP : ∀ v es, (∀ k, RB6 v es k → RD6 lv L (A ++ [q]) k) → PRow w v es → PRow w4 v es := fun v es hs p => p.keep mg (fun k hk x => rs.data k (hs k (.inl hk)) (.inl x)) (fun k hk x => rs.data k (hs k (.inr hk)) (.inl x))
      have hrow : OwnG w 28 1 (.slice (some ⟨b, off, none⟩) m wc) A.length (A.map (·.v)) := by
        have h1 := rs.row
        rw [HWV.out, hlen, List.map_append, List.map_singleton] at h1
        rw [hm]
        have := own_less h1
        rwa [List.dropLast_concat] at this
      refine ⟨_, _, ⟨q.v, .slice (some ⟨b, off, none⟩) m wc, q.es, A, ⟨hh, keepP q.v q.es (fun k hk => hrd k (.inl hk)) (rs.old q (List.mem_append_right _ (List.mem_singleton.2 rfl))), hrow.keep mg (fun k hk x => rs.s1 (by rw [← hob]; exact x ▸ hk)), fun p hp => keepP p.v p.es (fun k hk => .inr ⟨p, List.mem_append_left _ hp, hk⟩) (rs.old p (List.mem_append_left _ hp)), by rw [hob]; exact rs.s1, fun k hk x => rs.data k (hrd k hk) (x.imp id (fun y => by rw [← hob]; exact y)), fun k hk => Nat.lt_of_lt_of_le (rs.dlt k (hrd k hk)) mg.size⟩, ho _ (by rw [HWS.out]; exact List.mem_cons_self), rfl, rfl, fun G hG => ho G (by rw [HWS.out]; exact List.mem_cons_of_mem _ hG), rfl, rfl⟩, mg.mono (fun k _ x => .inl x), fun k hk => .inl (hk.imp id (fun y => by rw [← hob]; exact y)), fun k hk => .inl (hrd k hk)⟩)
    clear hw3 hw4 HG HR
    go_wp2
    go_ret
    exact .inr ⟨_, _, HWS.out, rfl, FF.out⟩
end
end Go.Proofs.Ytngemlpalkfjeaa

/- gleanref6.Store: Walk, Prefix. -/
import Derived.Test.YtngemlpalkfjeaaR6D
import Derived.Test.YtngemlpalkfjeaaPgY
namespace Go.Proofs.Ytngemlpalkfjeaa
open Go.Gl Go.RowKit
set_option linter.unusedVariables false
set_option maxRecDepth 100000
structure WK6 (w wr : World) (g : Nat) (lv wv : Value) (L : List EV) (H : List SV) (n : Nat) (vo : Value) (M : List EV) : Prop where
  rs : RS wr g lv wv L H ((n + 1 + M.length : Nat) : Int)
  row : OwnG wr 45 2 vo M.length (ecell M)
  fr : freshIn w vo
  mods : Mods (RS6 g wv) w wr
theorem WK6.then0 {w wr w2 : World} {g : Nat} {lv wv vo : Value} {L M : List EV} {H : List SV} {n : Nat} (h : WK6 w wr g lv wv L H n vo M) (m : Mods noB wr w2) : WK6 w w2 g lv wv L H n vo M := ⟨h.rs.keep0 m, h.row.keep m (fun _ _ x => x), h.fr, h.mods.then0 m⟩
theorem WK6.push {w wr w2 : World} {g : Nat} {lv wv vo v8 : Value} {L M : List EV} {H : List SV} {n : Nat} {e : EV} (h : WK6 w wr g lv wv L H n vo M) (h0 : ∀ k, RS6 g wv k → k < w.heap.size) (h1 : ∀ k, RD6 lv L H k → k < w.heap.size) (o : OwnG w2 45 2 v8 (M.length + 1) (ecell M ++ [e.kv, e.vv])) (m : Mods (ofV vo) wr w2) (f : v8.ownBlock = vo.ownBlock ∨ freshIn wr v8) :
    WK6 w (w2.setCell ⟨g, 2, none⟩ (.int .i64 ((n + 1 + (M.length + 1) : Nat) : Int))) g lv wv L H n v8 (M ++ [e]) ∧ RS w2 g lv wv L H ((n + 1 + M.length : Nat) : Int) := by
  have r2 := h.rs.keep m (fun k hk x => by have := h.fr k x; have := h0 k hk; omega) (fun k hk x => by have := h.fr k x; have := h1 k hk; omega)
  have f8 : freshIn w v8 := fun k hk => f.elim (fun f => h.fr k (f ▸ hk)) (fun f => Nat.le_trans h.mods.size (f k hk))
  obtain ⟨t, mt⟩ := r2.tick ((n + 1 + (M.length + 1) : Nat) : Int)
  refine ⟨⟨?_, ?_, f8, (h.mods.trans m (fun _ _ x => x) (fun k hk x => by have := h.fr k x; omega)).trans mt (fun _ _ x => x) (fun k _ x => .inl x)⟩, r2⟩
  · rw [List.length_append, List.length_singleton]; exact t
  · rw [List.length_append, List.length_singleton, ecell_append]
    exact o.keep mt (fun k hk x => by have := f8 k hk; have := h0 k (.inl x); omega)
theorem take_stop {P : EV → Bool} {L M : List EV} {i N : Nat} (hM : M = (L.take i).filter P) (h : i = L.length ∧ M.length ≤ N ∨ M.length = N) : M = (L.filter P).take N := by
  rcases h with ⟨rfl, h⟩ | h
  · rw [List.take_length] at hM
    rw [← hM, List.take_of_length_le h]
  · conv => rhs; rw [← List.take_append_drop i L, List.filter_append, ← hM]
    rw [← h, List.take_left]
theorem filt_succ {P : EV → Bool} {L : List EV} {i : Nat} (h : i < L.length) : (L.take (i + 1)).filter P = (L.take i).filter P ++ (if P L[i] then [L[i]] else []) := by
  rw [List.take_add_one, List.getElem?_eq_getElem h, List.filter_append]
  congr 1
  simp only [Option.toList, List.filter_cons, List.filter_nil]
theorem filt_ent (P : Ent → Bool) (L : List EV) : (L.filter (fun e => P (e.k, e.v))).map EV.ent = (L.map EV.ent).filter P := by
  rw [List.filter_map]; rfl
def Wk6 (w w' : World) (g : Nat) (F : List Ent) (Ws : List (List Ent)) (n : Nat) (S D : Nat → Prop) (P : Ent → Bool) (N : Nat) (v' : Value) : Prop :=
  ∃ M, PRow w' v' M ∧ M.map EV.ent = (F.filter P).take N ∧ freshIn w v' ∧ (∀ k, v'.ownBlock = some k → k < w'.heap.size) ∧ (∀ k, MDL M k → D k) ∧ RF w' g F Ws (n + 1 + min N (F.filter P).length) S D ∧ Mods S w w'
theorem wk6_end {w wr : World} {g : Nat} {lv wv vo : Value} {L M : List EV} {H : List SV} {n N : Nat} {F : List Ent} {Ws : List (List Ent)} {P : Ent → Bool} (h : WK6 w wr g lv wv L H n vo M) (hM : M = (L.filter (fun e => P (e.k, e.v))).take N) (hr : Ris F) (hf : L.map EV.ent = F) (hw : (H.map (fun h => h.es.map EV.ent)).reverse = Ws) (ho : ∀ G ∈ Ws, Ris G) : Wk6 w wr g F Ws n (RS6 g wv) (RD6 lv L H) P N vo := by
  have hsub : ∀ e ∈ M, e ∈ L := fun e he => by rw [hM] at he; exact (List.mem_filter.1 (List.mem_of_mem_take he)).1
  have hme : M.map EV.ent = (F.filter P).take N := by rw [hM, List.map_take, filt_ent, hf]
  have hl : M.length = min N (F.filter P).length := by have := congrArg List.length hme; rwa [List.length_map, List.length_take] at this
  refine ⟨M, ⟨h.row.rd, fun e he => h.rs.pr.own e (hsub e he)⟩, hme, h.fr, h.row.lt, fun k hk => .inl (.inr (mdl_sub hk hsub)), ⟨lv, wv, L, H, ?_, hr, hf, hw, ho, rfl, rfl⟩, h.mods⟩
  rw [← hl]
  exact h.rs
theorem Begins_any {w : World} {x y : Value} {xs ys : List UInt8} (hx : Rd w x xs) (hy : Rd w y ys) : Calls Try.prog 58 #[x, y] w fun e w' => e = .returned (.bool (beginsB ys xs)) ∧ Quiet w w' := by
  obtain ⟨a1, c1, rfl, l1⟩ := hx.form
  obtain ⟨a2, c2, rfl, l2⟩ := hy.form
  by_cases hl : ys.length ≤ xs.length
  · have hr := RdG.hi (s := 1) (m := ys.length) (show RdG w 1 (.slice a1 xs.length c1) xs.length (bv xs) from hx) hl
    have ht : Rd w (.slice a1 ys.length c1) (xs.take ys.length) := by
      have h1 : (bv xs).take (ys.length * 1) = bv (xs.take ys.length) := by simp [bv, List.map_take]
      have h2 := hr
      rw [h1] at h2
      have h3 : (xs.take ys.length).length = ys.length := by rw [List.length_take]; omega
      unfold Rd
      rw [h3]
      exact h2
    have hcap := RdG.cap (show RdG w 1 (.slice a1 xs.length c1) xs.length (bv xs) from hx)
    have PB := Lib.hid (Bytes_any ht hy)
    have hbg : beginsB ys xs = decide (xs.take ys.length = ys) := rfl
    rw [hbg]
    have z : (ys.length : Int) ≤ (xs.length : Int) := by omega
    generalize decide (xs.take ys.length = ys) = bb at *
    clear hx hy hr ht hbg
    generalize xs.length = lx at *
    generalize ys.length = ly at *
    go_enter Try.func58, Try.ntmps58
    go_wp2_with fail
    refine PB.out.mono ?_
    rintro e w2 ⟨rfl, q2⟩
    go_wp2
    go_ret
    exact ⟨rfl, q2⟩
  · have hb : beginsB ys xs = false := by
      unfold beginsB
      refine decide_eq_false (fun h => ?_)
      have := congrArg List.length h
      rw [List.length_take] at this
      omega
    rw [hb]
    have z : ¬ (ys.length : Int) ≤ (xs.length : Int) := by omega
    clear hx hy hb
    generalize xs.length = lx at *
    generalize ys.length = ly at *
    go_enter Try.func58, Try.ntmps58
    go_wp2
    go_ret
    exact ⟨rfl, ⟨0, rfl⟩⟩
section
variable {w : World} {g n : Nat} {F : List Ent} {Ws : List (List Ent)} {S D : Nat → Prop}
set_option maxHeartbeats 4000000 in
theorem rWalk6 {fv tv : Value} {xs ts : List UInt8} {N : Nat} (h : RF w g F Ws n S D) (hq : Rd w fv xs) (ht : Rd w tv ts) (hqs : Off S fv xs) (hts : Off S tv ts) (hn : n ≤ 1000000000000) (hF : F.length ≤ 100000) (hN : N ≤ 4611686018427387904) :
    Calls Try.prog 38 #[.pointer (some ⟨g, 0, none⟩), fv, tv, .int .i64 (N : Nat)] w fun e w' => ∃ v', e = .returned v' ∧ Wk6 w w' g F Ws n S D (btw xs ts) N v' := by
  obtain ⟨lv, wv, L, H, rs, hr, hf, hw, ho, rfl, rfl⟩ := h
  have HLF := Lib.hid (rd6_len hf)
  have hF' : L.length ≤ 100000 := by have := HLF.out; omega
  clear hF
  have SLT := Lib.hid rs.lt
  have DLT := Lib.hid rs.dlt
  obtain ⟨t1, m1⟩ := rs.tick ((n : Int) + 1)
  have M1 := Lib.hid (m1.mono (T := RS6 g wv) (fun k _ e => .inl e))
  have T1 := Lib.hid (show WK6 w _ g lv wv L H n (.slice none 0 0) [] from ⟨by rw [List.length_nil, Nat.add_zero, Int.natCast_succ]; exact t1, ⟨rfl, .inl ⟨rfl, rfl⟩⟩, fun k hk => by simp [Value.ownBlock] at hk, M1.out⟩)
  have HQ := Lib.hid (fun W (m : Mods (RS6 g wv) w W) => And.intro (hqs.keep hq m) (hts.keep ht m))
  have HAT := Lib.hid rs.pr.at
  have ONE := Lib.hid (prow_one rs.pr)
  have c2 := rs.cells.2.2.1
  have f2 := rs.cells.2.2.2 2
  have HRR := Lib.hid (And.intro hr (And.intro hf (And.intro hw ho)))
  obtain ⟨aq, cq, rfl, _⟩ := hq.form
  obtain ⟨au, cu, rfl, _⟩ := ht.form
  obtain ⟨la, lc, rfl, _⟩ := rs.pr.row.form
  obtain ⟨lt, hlt⟩ : ∃ lt, ts.length = lt := ⟨_, rfl⟩
  have HLT := Lib.hid hlt
  obtain ⟨lx, hlx⟩ : ∃ lx, xs.length = lx := ⟨_, rfl⟩
  rw [hlt, hlx] at HQ
  rw [hlt, hlx]
  obtain ⟨nl, hnl⟩ : ∃ nl, L.length = nl := ⟨_, rfl⟩
  have HNL := Lib.hid hnl
  rw [hnl] at hF'
  clear rs t1 m1 hqs hts hq ht hr hf hw ho hlt hlx hnl M1
  have hnn : n + 1 ≤ 2000000000000 := by omega
  go_enter Try.func38, Try.ntmps38
  go_wp2
  go_loopw [9, 10] (fun y x wr => ∃ i m : Nat, i ≤ nl ∧ m ≤ i ∧ m ≤ N ∧ x = .int .i64 i ∧ (∃ a c, y = .slice a m c) ∧ Hid (∃ M, WK6 w wr g (.slice la L.length lc) wv L H n y M ∧ M = (L.take i).filter (fun e => btw xs ts (e.k, e.v)) ∧ M.length = m)) (fun _ x _ => nl - (intOf x).toNat)
  case atStart => exact ⟨0, 0, Nat.zero_le _, Nat.le_refl _, Nat.zero_le _, rfl, ⟨_, _, rfl⟩, Lib.hid ⟨[], T1.out, rfl, rfl⟩⟩
  case round =>
    clear T1 c2 f2
    obtain ⟨i, m, hi, hmi, hmN, rfl, ⟨ao, co, rfl⟩, hI⟩ := hrel
    have STOP := Lib.hid (fun (hs : i = nl ∨ m = N) => show Wk6 w wr g F Ws n (RS6 g wv) (RD6 (.slice la L.length lc) L H) (btw xs ts) N _ from by
      obtain ⟨M, hw6, hM, hm⟩ := hI.out
      obtain ⟨hr, hf, hw, ho⟩ := HRR.out
      refine wk6_end hw6 (take_stop hM ?_) hr hf hw ho
      rcases hs with rfl | hs
      · exact .inl ⟨HNL.out.symm, by omega⟩
      · exact .inr (by omega))
    have C0 : wr.cell? ⟨g, 0, none⟩ = some (.slice la nl lc) := by obtain ⟨M, hw6, _⟩ := hI.out; have := hw6.rs.cells.1; rwa [HNL.out] at this
    by_cases hin : i < nl
    · have hii : (i : Int) < (nl : Int) := by omega
      by_cases hmn : m < N
      · have hmm : (m : Int) < (N : Int) := by omega
        obtain ⟨M, hw6, hM, hm⟩ := hI.out
        have hil : i < L.length := by rw [HNL.out]; exact hin
        obtain ⟨a1, c1, e1, hat⟩ := HAT.out
        obtain ⟨b, off, rfl, hb, d1, d2⟩ := hat i hil
        injection e1 with e1 _ e3
        subst e1 e3
        have hdb : RD6 (.slice (some ⟨b, off, none⟩) L.length lc) L H b := .inl (.inl rfl)
        have D1 := Lib.hid ((hw6.mods.cellAt hb (fun x => hw6.rs.data b hdb x) _).trans d1)
        have D2 := Lib.hid ((hw6.mods.cellAt hb (fun x => hw6.rs.data b hdb x) _).trans d2)
        have RK := (hw6.rs.pr.own _ (List.getElem_mem hil)).1
        obtain ⟨u1, u2⟩ := ONE.out _ (List.getElem_mem hil)
        have FS := Lib.hid (filt_succ (P := fun e => btw xs ts (e.k, e.v)) hil)
        rw [← hM] at FS
        have HW6 := Lib.hid hw6
        have HMl := Lib.hid hm
        have HX := HQ.out wr hw6.mods
        have L1 := Lib.hid (Less_any RK HX.1)
        have L2 := Lib.hid (fun W (q : Quiet wr W) => Less_any (RK.keep (q.mods noB) (fun _ _ x => x)) (HX.2.keep (q.mods noB) (fun _ _ x => x)))
        obtain ⟨ka, kc, ek, _⟩ := RK.form
        have C2 := Lib.hid hw6.rs.cells.2.2.1
        clear hat RK hw6 hM hm hI hdb HX d1 d2
        generalize L[i] = e at *
        obtain ⟨kv, vv, sk, sv⟩ := e
        simp only at D1 D2 u1 u2 FS L1 L2 ek
        subst ek
        have d1 := D1.out
        generalize sk.length = lk at *
        have NO : btw xs ts (sk, sv) = false → ∀ W, Quiet wr W → Hid (∃ M, WK6 w W g (.slice (some ⟨b, off, none⟩) L.length lc) wv L H n (.slice ao m co) M ∧ M = (L.take (i + 1)).filter (fun e => btw xs ts (e.k, e.v)) ∧ M.length = m) := fun hb W q => Lib.hid ⟨M, HW6.out.then0 (q.mods noB), by rw [FS.out]; simp [hb], HMl.out⟩
        have NN := Lib.hid NO
        have YES : btw xs ts (sk, sv) = true → ∀ W v8 w2, Quiet wr W → OwnG w2 45 2 v8 (m + 1) (ecell M ++ [.slice ka lk kc, vv]) → Mods (ofV (.slice ao m co)) W w2 → (v8.ownBlock = (Value.slice ao m co).ownBlock ∨ freshIn W v8) → Hid ((∀ z : Int, z = ((n + 1 + (m + 1) : Nat) : Int) → ∃ M, WK6 w (w2.setCell ⟨g, 2, none⟩ (.int .i64 z)) g (.slice (some ⟨b, off, none⟩) L.length lc) wv L H n v8 M ∧ M = (L.take (i + 1)).filter (fun e => btw xs ts (e.k, e.v)) ∧ M.length = m + 1) ∧ (∃ a c, v8 = .slice a (m + 1) c) ∧ w2.cell? ⟨g, 2, none⟩ = some (.int .i64 ((n + 1 + m : Nat) : Int)) ∧ w2.frozen? ⟨g, 2, none⟩ = false) := fun hb W v8 w2 q o mm f => by
          have hml := HMl.out
          subst hml
          obtain ⟨p1, p2⟩ := (HW6.out.then0 (q.mods noB)).push (e := ⟨.slice ka lk kc, vv, sk, sv⟩) SLT.out DLT.out o mm f
          obtain ⟨a, c, e8, _⟩ := o.rd.form
          exact Lib.hid ⟨fun z hz => ⟨M ++ [⟨.slice ka lk kc, vv, sk, sv⟩], by rw [hz]; exact p1, by rw [FS.out]; simp [hb], by rw [List.length_append]; rfl⟩, ⟨a, c, e8⟩, p2.cells.2.2.1, p2.cells.2.2.2 2⟩
        have YY := Lib.hid YES
        clear NO YES FS STOP
        have HG := Lib.hid HW6.out.rs.hg
        have hbr : b < wr.heap.size := Nat.lt_of_lt_of_le hb HW6.out.mods.size
        have ROW := Lib.hid (show OwnG wr 45 2 (.slice ao m co) m (ecell M) from by have := HW6.out.row; rwa [HMl.out] at this)
        clear HW6 HMl
        obtain ⟨b1, hb1⟩ : ∃ b1, lessB sk xs = b1 := ⟨_, rfl⟩
        obtain ⟨b2, hb2⟩ : ∃ b2, lessB sk ts = b2 := ⟨_, rfl⟩
        have hbt : btw xs ts (sk, sv) = (!b1 && (decide (lt = 0) || b2)) := by
          unfold btw
          rw [show (sk, sv).1 = sk from rfl, hb1, hb2, ← HLT.out]
          cases ts <;> rfl
        rw [hb1] at L1
        rw [hb2] at L2
        clear hb1 hb2
        go_wp2_with fail
        refine L1.out.mono ?_
        rintro e w2 ⟨rfl, q2⟩
        have qq := Lib.hid q2
        clear q2
        cases b1 with
        | true =>
          have hb : btw xs ts (sk, sv) = false := by rw [hbt]; rfl
          clear hbt
          have N1 := NN.out hb _ qq.out
          clear YY NN L1 L2 d1 D1 D2 ROW C0 C2 qq
          go_wp2
          go_roundw
          case rel => exact ⟨i + 1, m, by omega, by omega, by omega, by go_num, ⟨_, _, rfl⟩, N1⟩
          case measure => simp [intOf]; omega
        | false =>
          by_cases hz : lt = 0
          · have hb : btw xs ts (sk, sv) = true := by rw [hbt, decide_eq_true hz]; rfl
            have hz1 : (lt : Int) = 0 := by omega
            clear hbt hz
            have ROW2 := Lib.hid (ROW.out.keep (qq.out.mods noB) (fun _ _ x => x))
            have E0 := Lib.hid (((qq.out.mods noB).cellAt (lt_of_heap HG.out) (fun x => x) _).trans C0)
            have E1 := Lib.hid (((qq.out.mods noB).cellAt hbr (fun x => x) _).trans D1.out)
            have E2 := Lib.hid (((qq.out.mods noB).cellAt hbr (fun x => x) _).trans D2.out)
            clear d1 D1 D2 ROW C0 NN L1 L2
            go_upto_region 7 with fail
            refine wp_tl (d := .region 7 (opsC 7 Try.f38) false) (by kernel_rfl) ?_
            refine RW.wp (r6wk7 E0.out E1.out E2.out ROW2.out u1 u2 hin (by omega) (by omega) ?_)
            intros
            rename_i v9 w9 o9 m9 f9
            obtain ⟨y1, ⟨a9, c9, rfl⟩, y3, y4⟩ := (YY.out hb _ _ _ qq.out o9 m9 f9).out
            have Y1 := Lib.hid y1
            clear y1 o9 m9 f9 YY qq ROW2 E0 E1 E2 C2
            go_wp2
            go_roundw
            case rel => exact ⟨i + 1, m + 1, by omega, by omega, by omega, by go_num, ⟨_, _, rfl⟩, Lib.hid (Y1.out _ (by omega))⟩
            case measure => simp [intOf]; omega
          · have hz1 : ¬ (lt : Int) = 0 := by omega
            have hbt2 : btw xs ts (sk, sv) = b2 := by rw [hbt, decide_eq_false hz]; rfl
            clear hbt
            have L3 := Lib.hid (L2.out _ qq.out)
            have d1' := ((qq.out.mods noB).cellAt hbr (fun x => x) _).trans D1.out
            have C0' := ((qq.out.mods noB).cellAt (lt_of_heap HG.out) (fun x => x) _).trans C0
            go_wp2_with fail
            refine L3.out.mono ?_
            rintro e w3 ⟨rfl, q3⟩
            replace qq := Lib.hid (show Quiet wr w3 from by obtain ⟨a, ha⟩ := qq.out; obtain ⟨b, hb⟩ := q3; exact ⟨_, by rw [hb, ha, World.drewN_drewN]⟩)
            clear q3 d1' C0' L3
            cases b2 with
            | true =>
              have hb := hbt2
              clear hbt2
              have ROW2 := Lib.hid (ROW.out.keep (qq.out.mods noB) (fun _ _ x => x))
              have E0 := Lib.hid (((qq.out.mods noB).cellAt (lt_of_heap HG.out) (fun x => x) _).trans C0)
              have E1 := Lib.hid (((qq.out.mods noB).cellAt hbr (fun x => x) _).trans D1.out)
              have E2 := Lib.hid (((qq.out.mods noB).cellAt hbr (fun x => x) _).trans D2.out)
              clear d1 D1 D2 ROW C0 NN L1 L2
              go_upto_region 7 with fail
              refine wp_tl (d := .region 7 (opsC 7 Try.f38) false) (by kernel_rfl) ?_
              refine RW.wp (r6wk7 E0.out E1.out E2.out ROW2.out u1 u2 hin (by omega) (by omega) ?_)
              intros
              rename_i v9 w9 o9 m9 f9
              obtain ⟨y1, ⟨a9, c9, rfl⟩, y3, y4⟩ := (YY.out hb _ _ _ qq.out o9 m9 f9).out
              have Y1 := Lib.hid y1
              clear y1 o9 m9 f9 YY qq ROW2 E0 E1 E2 C2
              go_wp2
              go_roundw
              case rel => exact ⟨i + 1, m + 1, by omega, by omega, by omega, by go_num, ⟨_, _, rfl⟩, Lib.hid (Y1.out _ (by omega))⟩
              case measure => simp [intOf]; omega
            | false =>
              have hb := hbt2
              clear hbt2
              have N1 := NN.out hb _ qq.out
              clear YY NN L1 L2 d1 D1 D2 ROW C0 C2 qq
              go_wp2
              go_roundw
              case rel => exact ⟨i + 1, m, by omega, by omega, by omega, by go_num, ⟨_, _, rfl⟩, N1⟩
              case measure => simp [intOf]; omega
      · have hmm : ¬ (m : Int) < (N : Int) := by omega
        clear hI
        have SS := STOP.out (.inr (by omega))
        go_wp2
        go_ret
        exact ⟨_, rfl, SS⟩
    · have hii : ¬ (i : Int) < (nl : Int) := by omega
      clear hI
      have SS := STOP.out (.inl (by omega))
      go_wp2
      go_ret
      exact ⟨_, rfl, SS⟩
set_option maxHeartbeats 4000000 in
theorem rPrefix6 {fv : Value} {xs : List UInt8} {N : Nat} (h : RF w g F Ws n S D) (hq : Rd w fv xs) (hqs : Off S fv xs) (hn : n ≤ 1000000000000) (hF : F.length ≤ 100000) (hN : N ≤ 4611686018427387904) :
    Calls Try.prog 39 #[.pointer (some ⟨g, 0, none⟩), fv, .int .i64 (N : Nat)] w fun e w' => ∃ v', e = .returned v' ∧ Wk6 w w' g F Ws n S D (fun e => beginsB xs e.1) N v' := by
  obtain ⟨lv, wv, L, H, rs, hr, hf, hw, ho, rfl, rfl⟩ := h
  have HLF := Lib.hid (rd6_len hf)
  have hF' : L.length ≤ 100000 := by have := HLF.out; omega
  clear hF
  have SLT := Lib.hid rs.lt
  have DLT := Lib.hid rs.dlt
  obtain ⟨t1, m1⟩ := rs.tick ((n : Int) + 1)
  have M1 := Lib.hid (m1.mono (T := RS6 g wv) (fun k _ e => .inl e))
  have T1 := Lib.hid (show WK6 w _ g lv wv L H n (.slice none 0 0) [] from ⟨by rw [List.length_nil, Nat.add_zero, Int.natCast_succ]; exact t1, ⟨rfl, .inl ⟨rfl, rfl⟩⟩, fun k hk => by simp [Value.ownBlock] at hk, M1.out⟩)
  have HQ := Lib.hid (fun W (m : Mods (RS6 g wv) w W) => hqs.keep hq m)
  have HAT := Lib.hid rs.pr.at
  have ONE := Lib.hid (prow_one rs.pr)
  have c2 := rs.cells.2.2.1
  have f2 := rs.cells.2.2.2 2
  have HRR := Lib.hid (And.intro hr (And.intro hf (And.intro hw ho)))
  obtain ⟨aq, cq, rfl, _⟩ := hq.form
  obtain ⟨la, lc, rfl, _⟩ := rs.pr.row.form
  obtain ⟨lx, hlx⟩ : ∃ lx, xs.length = lx := ⟨_, rfl⟩
  rw [hlx] at HQ
  rw [hlx]
  obtain ⟨nl, hnl⟩ : ∃ nl, L.length = nl := ⟨_, rfl⟩
  have HNL := Lib.hid hnl
  rw [hnl] at hF'
  clear rs t1 m1 hqs hq hr hf hw ho hlx hnl M1
  have hnn : n + 1 ≤ 2000000000000 := by omega
  go_enter Try.func39, Try.ntmps39
  go_wp2
  go_loopw [7, 8] (fun y x wr => ∃ i m : Nat, i ≤ nl ∧ m ≤ i ∧ m ≤ N ∧ x = .int .i64 i ∧ (∃ a c, y = .slice a m c) ∧ Hid (∃ M, WK6 w wr g (.slice la L.length lc) wv L H n y M ∧ M = (L.take i).filter (fun e => beginsB xs e.k) ∧ M.length = m)) (fun _ x _ => nl - (intOf x).toNat)
  case atStart => exact ⟨0, 0, Nat.zero_le _, Nat.le_refl _, Nat.zero_le _, rfl, ⟨_, _, rfl⟩, Lib.hid ⟨[], T1.out, rfl, rfl⟩⟩
  case round =>
    clear T1 c2 f2
    obtain ⟨i, m, hi, hmi, hmN, rfl, ⟨ao, co, rfl⟩, hI⟩ := hrel
    have STOP := Lib.hid (fun (hs : i = nl ∨ m = N) => show Wk6 w wr g F Ws n (RS6 g wv) (RD6 (.slice la L.length lc) L H) (fun e => beginsB xs e.1) N _ from by
      obtain ⟨M, hw6, hM, hm⟩ := hI.out
      obtain ⟨hr, hf, hw, ho⟩ := HRR.out
      refine wk6_end hw6 (take_stop hM ?_) hr hf hw ho
      rcases hs with rfl | hs
      · exact .inl ⟨HNL.out.symm, by omega⟩
      · exact .inr (by omega))
    have C0 : wr.cell? ⟨g, 0, none⟩ = some (.slice la nl lc) := by obtain ⟨M, hw6, _⟩ := hI.out; have := hw6.rs.cells.1; rwa [HNL.out] at this
    by_cases hin : i < nl
    · have hii : (i : Int) < (nl : Int) := by omega
      by_cases hmn : m < N
      · have hmm : (m : Int) < (N : Int) := by omega
        obtain ⟨M, hw6, hM, hm⟩ := hI.out
        have hil : i < L.length := by rw [HNL.out]; exact hin
        obtain ⟨a1, c1, e1, hat⟩ := HAT.out
        obtain ⟨b, off, rfl, hb, d1, d2⟩ := hat i hil
        injection e1 with e1 _ e3
        subst e1 e3
        have hdb : RD6 (.slice (some ⟨b, off, none⟩) L.length lc) L H b := .inl (.inl rfl)
        have D1 := Lib.hid ((hw6.mods.cellAt hb (fun x => hw6.rs.data b hdb x) _).trans d1)
        have D2 := Lib.hid ((hw6.mods.cellAt hb (fun x => hw6.rs.data b hdb x) _).trans d2)
        have RK := (hw6.rs.pr.own _ (List.getElem_mem hil)).1
        obtain ⟨u1, u2⟩ := ONE.out _ (List.getElem_mem hil)
        have FS := Lib.hid (filt_succ (P := fun e => beginsB xs e.k) hil)
        rw [← hM] at FS
        have HW6 := Lib.hid hw6
        have HMl := Lib.hid hm
        have HX := HQ.out wr hw6.mods
        have L1 := Lib.hid (Begins_any RK HX)
        obtain ⟨ka, kc, ek, _⟩ := RK.form
        have C2 := Lib.hid hw6.rs.cells.2.2.1
        clear hat RK hw6 hM hm hI hdb HX d1 d2
        generalize L[i] = e at *
        obtain ⟨kv, vv, sk, sv⟩ := e
        simp only at D1 D2 u1 u2 FS L1 ek
        subst ek
        have d1 := D1.out
        generalize sk.length = lk at *
        have NO : beginsB xs sk = false → ∀ W, Quiet wr W → Hid (∃ M, WK6 w W g (.slice (some ⟨b, off, none⟩) L.length lc) wv L H n (.slice ao m co) M ∧ M = (L.take (i + 1)).filter (fun e => beginsB xs e.k) ∧ M.length = m) := fun hb W q => Lib.hid ⟨M, HW6.out.then0 (q.mods noB), by rw [FS.out]; simp [hb], HMl.out⟩
        have NN := Lib.hid NO
        have YES : beginsB xs sk = true → ∀ W v8 w2, Quiet wr W → OwnG w2 45 2 v8 (m + 1) (ecell M ++ [.slice ka lk kc, vv]) → Mods (ofV (.slice ao m co)) W w2 → (v8.ownBlock = (Value.slice ao m co).ownBlock ∨ freshIn W v8) → Hid ((∀ z : Int, z = ((n + 1 + (m + 1) : Nat) : Int) → ∃ M, WK6 w (w2.setCell ⟨g, 2, none⟩ (.int .i64 z)) g (.slice (some ⟨b, off, none⟩) L.length lc) wv L H n v8 M ∧ M = (L.take (i + 1)).filter (fun e => beginsB xs e.k) ∧ M.length = m + 1) ∧ (∃ a c, v8 = .slice a (m + 1) c) ∧ w2.cell? ⟨g, 2, none⟩ = some (.int .i64 ((n + 1 + m : Nat) : Int)) ∧ w2.frozen? ⟨g, 2, none⟩ = false) := fun hb W v8 w2 q o mm f => by
          have hml := HMl.out
          subst hml
          obtain ⟨p1, p2⟩ := (HW6.out.then0 (q.mods noB)).push (e := ⟨.slice ka lk kc, vv, sk, sv⟩) SLT.out DLT.out o mm f
          obtain ⟨a, c, e8, _⟩ := o.rd.form
          exact Lib.hid ⟨fun z hz => ⟨M ++ [⟨.slice ka lk kc, vv, sk, sv⟩], by rw [hz]; exact p1, by rw [FS.out]; simp [hb], by rw [List.length_append]; rfl⟩, ⟨a, c, e8⟩, p2.cells.2.2.1, p2.cells.2.2.2 2⟩
        have YY := Lib.hid YES
        clear NO YES FS STOP
        have HG := Lib.hid HW6.out.rs.hg
        have hbr : b < wr.heap.size := Nat.lt_of_lt_of_le hb HW6.out.mods.size
        have ROW := Lib.hid (show OwnG wr 45 2 (.slice ao m co) m (ecell M) from by have := HW6.out.row; rwa [HMl.out] at this)
        clear HW6 HMl
        obtain ⟨b1, hb1⟩ : ∃ b1, beginsB xs sk = b1 := ⟨_, rfl⟩
        rw [hb1] at L1
        go_wp2_with fail
        refine L1.out.mono ?_
        rintro e w2 ⟨rfl, q2⟩
        have qq := Lib.hid q2
        clear q2
        cases b1 with
        | false =>
          have hb := hb1
          clear hb1
          have N1 := NN.out hb _ qq.out
          clear YY NN L1 d1 D1 D2 ROW C0 C2 qq
          go_wp2
          go_roundw
          case rel => exact ⟨i + 1, m, by omega, by omega, by omega, by go_num, ⟨_, _, rfl⟩, N1⟩
          case measure => simp [intOf]; omega
        | true =>
          have hb := hb1
          clear hb1
          have ROW2 := Lib.hid (ROW.out.keep (qq.out.mods noB) (fun _ _ x => x))
          have E0 := Lib.hid (((qq.out.mods noB).cellAt (lt_of_heap HG.out) (fun x => x) _).trans C0)
          have E1 := Lib.hid (((qq.out.mods noB).cellAt hbr (fun x => x) _).trans D1.out)
          have E2 := Lib.hid (((qq.out.mods noB).cellAt hbr (fun x => x) _).trans D2.out)
          clear d1 D1 D2 ROW C0 NN L1
          go_upto_region 7 with fail
          refine wp_tl (d := .region 7 (opsC 7 Try.f39) false) (by kernel_rfl) ?_
          refine RW.wp (r6px7 E0.out E1.out E2.out ROW2.out u1 u2 hin (by omega) (by omega) ?_)
          intros
          rename_i v9 w9 o9 m9 f9
          obtain ⟨y1, ⟨a9, c9, rfl⟩, y3, y4⟩ := (YY.out hb _ _ _ qq.out o9 m9 f9).out
          have Y1 := Lib.hid y1
          clear y1 o9 m9 f9 YY qq ROW2 E0 E1 E2 C2
          go_wp2
          go_roundw
          case rel => exact ⟨i + 1, m + 1, by omega, by omega, by omega, by go_num, ⟨_, _, rfl⟩, Lib.hid (Y1.out _ (by omega))⟩
          case measure => simp [intOf]; omega
      · have hmm : ¬ (m : Int) < (N : Int) := by omega
        clear hI
        have SS := STOP.out (.inr (by omega))
        go_wp2
        go_ret
        exact ⟨_, rfl, SS⟩
    · have hii : ¬ (i : Int) < (nl : Int) := by omega
      clear hI
      have SS := STOP.out (.inl (by omega))
      go_wp2
      go_ret
      exact ⟨_, rfl, SS⟩
end
end Go.Proofs.Ytngemlpalkfjeaa

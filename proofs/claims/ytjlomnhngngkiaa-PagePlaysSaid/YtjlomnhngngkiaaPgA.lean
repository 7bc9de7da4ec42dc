/- gleanhelp.Pairs; gleanlaw5.first. -/
import Derived.Test.YtjlomnhngngkiaaPgA0
import Derived.Deep.DeepCutAuto
namespace Go.Proofs.Ytjlomnhngngkiaa
open Go.Gl Go.RowKit
set_option linter.unusedVariables false
set_option maxRecDepth 100000

/-- a list of pairs that is read -/
structure PRow (w : World) (v : Value) (L : List EV) : Prop where
  row : RdG w 2 v L.length (ecell L)
  own : ∀ e ∈ L, Rd w e.kv e.k ∧ Rd w e.vv e.v
theorem PRow.keep {w w' : World} {v : Value} {L : List EV} {T : Nat → Prop} (h : PRow w v L) (hm : Mods T w w') (h1 : ∀ k, v.ownBlock = some k → ¬ T k) (h2 : ∀ k, MDL L k → ¬ T k) : PRow w' v L :=
  ⟨RdG.keep h.row hm h1, fun e he => ⟨(h.own e he).1.keep hm (fun k hk => h2 k ⟨e, he, .inl hk⟩), (h.own e he).2.keep hm (fun k hk => h2 k ⟨e, he, .inr hk⟩)⟩⟩
theorem PRow.keep0 {w w' : World} {v : Value} {L : List EV} (h : PRow w v L) (hm : Mods noB w w') : PRow w' v L := h.keep hm (fun _ _ x => x) (fun _ _ x => x)
theorem WkGot.prow {w w' : World} {v : Value} {L : List EV} (h : WkGot w w' v L) : PRow w' v L := ⟨h.row.rd, fun e he => ⟨(h.own e he).1.rd, (h.own e he).2.rd⟩⟩
theorem PRow.at {w : World} {v : Value} {L : List EV} (h : PRow w v L) : ∃ a cap, v = .slice a L.length cap ∧ ∀ i (hi : i < L.length), ∃ b off, a = some ⟨b, off, none⟩ ∧ b < w.heap.size ∧ w.cell? ⟨b, off + i * 2, none⟩ = some (L[i]).kv ∧ w.cell? ⟨b, off + i * 2 + 1, none⟩ = some (L[i]).vv := by
  rcases h.row.2 with ⟨h0, hn⟩ | ⟨g, off, cap, hv, h1, h2, hg, hc⟩
  · obtain ⟨a0, rfl⟩ := h0.form
    refine ⟨a0, 0, by rw [hn], fun i hi => by omega⟩
  · refine ⟨_, cap, hv, fun i hi => ⟨g, off, rfl, by rcases hg with h | h <;> omega, hc _ _ (ecell_get L i hi).1, ?_⟩⟩
    have := hc _ _ (ecell_get L i hi).2
    rw [Nat.add_assoc]
    exact this

set_option maxHeartbeats 2000000 in
theorem Pairs_true {w : World} {x y : Value} {L M : List EV} (hx : PRow w x L) (hy : PRow w y M) (h : L.map EV.ent = M.map EV.ent) (hn : L.length ≤ 1000000) :
    Calls Try.prog 20 #[x, y] w fun e w' => e = .returned (.bool true) ∧ Mods noB w w' := by
  obtain ⟨a, ca, rfl, ha⟩ := hx.at
  obtain ⟨b, cb, rfl, hb⟩ := hy.at
  have hl : M.length = L.length := by have := congrArg List.length h; simpa using this.symm
  obtain ⟨n, hL⟩ : ∃ n, L.length = n := ⟨_, rfl⟩
  have he : ∀ i (h1 : i < L.length) (h2 : i < M.length), (L[i]).k = (M[i]).k ∧ (L[i]).v = (M[i]).v := fun i h1 h2 => by
    have h3 : (L.map EV.ent)[i]'(by simpa using h1) = (M.map EV.ent)[i]'(by simpa using h2) := by simp only [h]
    rw [List.getElem_map, List.getElem_map] at h3
    exact ⟨congrArg Prod.fst h3, congrArg Prod.snd h3⟩
  have HX := Lib.hid hx
  have HY := Lib.hid hy
  have HE := Lib.hid he
  have HA := Lib.hid ha
  have HB := Lib.hid hb
  rw [hL] at hl hn
  rw [hL, hl]
  have HL := Lib.hid hL
  have HM := Lib.hid hl
  clear hx hy h hL hl he ha hb
  go_enter Try.func20, Try.ntmps20
  go_wp2
  go_loopw [5] (fun i wr => ∃ k : Nat, k ≤ n ∧ i = .int .i64 k ∧ Hid (Mods noB w wr)) (fun i _ => n - (intOf i).toNat)
  case atStart => exact ⟨0, Nat.zero_le _, rfl, Lib.hid (Mods.refl _ _)⟩
  case round =>
    obtain ⟨k, hk, rfl, hM⟩ := hrel
    by_cases hlt : k < n
    · have lx : k < L.length := by rw [HL.out]; exact hlt
      have ly : k < M.length := by rw [HM.out]; exact hlt
      obtain ⟨ga, oa, rfl, h1, h2, h3⟩ := HA.out k lx
      obtain ⟨gb, ob, rfl, h4, h5, h6⟩ := HB.out k ly
      obtain ⟨e1, e2⟩ := HE.out k lx ly
      obtain ⟨p1, p2⟩ := (HX.out.keep0 hM.out).own _ (List.getElem_mem lx)
      obtain ⟨p3, p4⟩ := (HY.out.keep0 hM.out).own _ (List.getElem_mem ly)
      rw [← e1] at p3
      rw [← e2] at p4
      have c1 := (hM.out.cellAt h1 (fun x => x) _).trans h2
      have c3 := (hM.out.cellAt h1 (fun x => x) _).trans h3
      have c2 := (hM.out.cellAt h4 (fun x => x) _).trans h5
      have c4 := (hM.out.cellAt h4 (fun x => x) _).trans h6
      have s1 := hM.out.size
      have hki : (k : Int) < (n : Int) := by omega
      clear h2 h3 h5 h6
      go_upto_region 6 with fail
      refine wp_tl (d := .region 6 (opsC 6 Try.f20) true) (by kernel_rfl) ?_
      refine RW.wp (prs6 c1 c2 c3 c4 (by omega) (by omega) hlt (by omega) p1 p3 p2 p4 ?_)
      intros
      rename_i w2 m2
      have M2 := Lib.hid (hM.out.then0 m2)
      clear c1 c2 c3 c4 p1 p2 p3 p4 e1 e2 m2 hM
      go_wp2
      go_roundw
      case rel => exact ⟨k + 1, by omega, by go_num, M2⟩
      case measure => simp [intOf]; omega
    · go_wp2
      go_ret
      exact ⟨rfl, hM.out⟩

theorem prow_one {w : World} {v : Value} {L : List EV} (h : PRow w v L) : ∀ e ∈ L, e.kv.oneCell' = true ∧ e.vv.oneCell' = true := fun e he => by
  obtain ⟨a1, c1, h1, _⟩ := (h.own e he).1.form
  obtain ⟨a2, c2, h2, _⟩ := (h.own e he).2.form
  exact ⟨by rw [h1]; rfl, by rw [h2]; rfl⟩

/-- a list that has grown out of pairs of another -/
structure GrP (w w' : World) (v : Value) (L : List EV) : Prop where
  row : OwnG w' 52 2 v L.length (ecell L)
  mods : Mods noB w w'
  fr : freshIn w v
theorem GrP.nil (w : World) : GrP w w (.slice none 0 0) [] := ⟨⟨rfl, .inl ⟨rfl, rfl⟩⟩, Mods.refl _ _, fun k hk => by simp [Value.ownBlock] at hk⟩
theorem GrP.then0 {w w' w'' : World} {v : Value} {L : List EV} (h : GrP w w' v L) (hm : Mods noB w' w'') : GrP w w'' v L := ⟨h.row.keep hm (fun _ _ x => x), h.mods.then0 hm, h.fr⟩
theorem GrP.push {w w' w'' : World} {v v8 : Value} {L : List EV} {e : EV} (h : GrP w w' v L) (o : OwnG w'' 52 2 v8 (L.length + 1) (ecell L ++ [e.kv, e.vv])) (m : Mods (ofV v) w' w'') (f : v8.ownBlock = v.ownBlock ∨ freshIn w' v8) : GrP w w'' v8 (L ++ [e]) := by
  refine ⟨?_, h.mods.trans m (fun _ _ x => x) (fun i hi x => by have := h.fr i x; omega), ?_⟩
  · rw [List.length_append, List.length_singleton, ecell_append]; exact o
  · rcases f with f | f
    · exact fun k hk => h.fr k (f ▸ hk)
    · exact f.of h.mods.size
theorem GrP.prow {w w' : World} {v u : Value} {L M : List EV} (h : GrP w w' v L) (hp : PRow w u M) (hs : ∀ e ∈ L, e ∈ M) : PRow w' v L := ⟨h.row.rd, fun e he => (hp.keep0 h.mods).own e (hs e he)⟩

/-- the first ones of a list, also backwards -/
def fstL (L : List EV) (back : Bool) (n : Nat) : List EV := (if back then L.reverse else L).take n

set_option maxHeartbeats 2000000 in
theorem first_any {w : World} {v : Value} {L : List EV} {back : Bool} {n : Nat} (hx : PRow w v L) (hl : L.length ≤ 1000000) (hn : n ≤ 4611686018427387904) :
    Calls Try.prog 22 #[v, .bool back, .int .i64 (n : Nat)] w fun e w' => ∃ v', e = .returned v' ∧ GrP w w' v' (fstL L back n) := by
  obtain ⟨a, ca, rfl, ha⟩ := hx.at
  obtain ⟨q, hL⟩ : ∃ q, L.length = q := ⟨_, rfl⟩
  have HX := Lib.hid hx
  have HA := Lib.hid ha
  have ho := prow_one hx
  have HO := Lib.hid ho
  rw [hL] at hl ⊢
  have HL := Lib.hid hL
  have HD : ∀ k (h1 : k < q) (lx : k < L.length) (ly : q - (k + 1) < L.length), k < n → fstL L back (k + 1) = fstL L back k ++ [if back then L[q - (k + 1)] else L[k]] := fun k h1 lx ly h2 => by
    unfold fstL
    cases back with
    | true =>
      simp only [if_true]
      rw [List.take_succ_eq_append_getElem (by rw [List.length_reverse, hL]; exact h1), List.getElem_reverse]
      congr 2
      simp only [hL]
      congr 1
      omega
    | false =>
      simp only [Bool.false_eq_true, if_false]
      rw [List.take_succ_eq_append_getElem (by rw [hL]; exact h1)]
  have HE : ∀ k, ¬ (k < q ∧ k < n) → k ≤ q → k ≤ n → fstL L back k = fstL L back n := fun k h1 h2 h3 => by
    unfold fstL
    have hlen : (if back = true then L.reverse else L).length = q := by cases back <;> simp [hL]
    by_cases hk : k = n
    · rw [hk]
    · rw [List.take_of_length_le (by rw [hlen]; omega), List.take_of_length_le (by rw [hlen]; omega)]
  have hfl : ∀ k, k ≤ q → (fstL L back k).length = k := fun k hk => by
    unfold fstL
    have hlen : (if back = true then L.reverse else L).length = q := by cases back <;> simp [hL]
    rw [List.length_take, hlen]
    omega
  have HD' := Lib.hid HD
  have HE' := Lib.hid HE
  have HF := Lib.hid hfl
  clear hx ha ho hL HD HE hfl
  go_enter Try.func22, Try.ntmps22
  go_wp2
  go_loopw [7, 8] (fun o i wr => ∃ k : Nat, k ≤ q ∧ k ≤ n ∧ i = .int .i64 k ∧ Hid (GrP w wr o (fstL L back k))) (fun _ i _ => n - (intOf i).toNat)
  case atStart => exact ⟨0, Nat.zero_le _, Nat.zero_le _, rfl, Lib.hid (GrP.nil w)⟩
  case round =>
    obtain ⟨k, hk, hkn, rfl, hG⟩ := hrel
    by_cases hlt : k < q
    · by_cases hln : k < n
      · have hd := HD'.out k hlt (by rw [HL.out]; exact hlt) (by rw [HL.out]; omega) hln
        have hf := HF.out k hk
        have hki : (k : Int) < (q : Int) := by omega
        have hkn2 : (k : Int) < (n : Int) := by omega
        cases back with
        | false =>
          have lx : k < L.length := by rw [HL.out]; exact hlt
          obtain ⟨g, off, rfl, h1, h2, h3⟩ := HA.out k lx
          have c1 := (hG.out.mods.cellAt h1 (fun x => x) _).trans h2
          have c2 := (hG.out.mods.cellAt h1 (fun x => x) _).trans h3
          obtain ⟨u1, u2⟩ := HO.out _ (List.getElem_mem lx)
          have row := hG.out.row
          rw [hf] at row
          clear h2 h3
          go_upto_region 7 with fail
          refine wp_tl (d := .region 7 (opsC 7 Try.f22) false) (by kernel_rfl) ?_
          refine RW.wp (fst7 c1 c2 row u1 u2 hlt (by omega) (by omega) ?_)
          intros
          rename_i v8 w8 o8 m8 f8
          have G8 := Lib.hid (show GrP w w8 v8 (fstL L false (k + 1)) from by rw [hd]; exact hG.out.push (by rw [hf]; exact o8) m8 f8)
          clear c1 c2 u1 u2 row o8 m8 f8 hd hf hG
          go_wp2
          go_roundw
          case rel => exact ⟨k + 1, by omega, by omega, by go_num, G8⟩
          case measure => simp [intOf]; omega
        | true =>
          have lx : q - (k + 1) < L.length := by rw [HL.out]; omega
          obtain ⟨g, off, rfl, h1, h2, h3⟩ := HA.out _ lx
          have c1 := (hG.out.mods.cellAt h1 (fun x => x) _).trans h2
          have c2 := (hG.out.mods.cellAt h1 (fun x => x) _).trans h3
          obtain ⟨u1, u2⟩ := HO.out _ (List.getElem_mem lx)
          have row := hG.out.row
          rw [hf] at row
          clear h2 h3
          go_upto_region 6 with fail
          refine wp_tl (d := .region 6 (opsC 6 Try.f22) false) (by kernel_rfl) ?_
          refine RW.wp (fst6 c1 c2 row u1 u2 hlt (by omega) (by omega) ?_)
          intros
          rename_i v8 w8 o8 m8 f8
          have G8 := Lib.hid (show GrP w w8 v8 (fstL L true (k + 1)) from by rw [hd]; exact hG.out.push (by rw [hf]; exact o8) m8 f8)
          clear c1 c2 u1 u2 row o8 m8 f8 hd hf hG
          go_wp2
          go_roundw
          case rel => exact ⟨k + 1, by omega, by omega, by go_num, G8⟩
          case measure => simp [intOf]; omega
      · have hd := HE'.out k (fun h => hln h.2) hk hkn
        have G' := hG.out
        rw [hd] at G'
        have G := Lib.hid G'
        clear hd hG G'
        go_wp2
        go_ret
        exact ⟨_, rfl, G.out⟩
    · have hd := HE'.out k (fun h => hlt h.1) hk hkn
      have G' := hG.out
      rw [hd] at G'
      have G := Lib.hid G'
      clear hd hG G'
      go_wp2
      go_ret
      exact ⟨_, rfl, G.out⟩

end Go.Proofs.Ytjlomnhngngkiaa

/- Parts of the proof, one behind the other: KvD, KvB, KvE, KvX, KvY, KvH, KvL, KvSr, KForm, SpecK, KEight, KFirst, KEq, KMake, RPut, EWr, EWr2, EWr3, Grow, Make, NLib, NPlain, NTrim, Len64, NBits, NBytes, EWrN, NumT, RRdr, ERd, ERd2, NFrom, ERdN, ERdP, ERdS, RStp, RecP, RecG, BkP, SepI, EKnown, Thr. -/
import Derived.Test.YtglkmaalpammcaaGreatZD
import Derived.Test.YtglkmaalpammcaaGreatZC
import Derived.Test.YtglkmaalpammcaaGreatZA
import Derived.Deep.WholeRow
import Derived.KernelRfl
import Derived.Deep.RegionLaw
import Derived.Deep.DrawnRows
import Derived.Deep.OwnRows
import Derived.Shelf.Strconv.Itoa0
import Derived.Test.YtglkmaalpammcaaGreatProg
import Derived.Lib.ItoaNum
import Derived.LoopN
import Derived.StillTailTactics
set_option linter.unusedVariables false
set_option maxRecDepth 100000
namespace Go.Proofs.YtglkmaalpammcaaGreat
open Go.Gl Go.RowKit
theorem wk_all {R : List PV} (ok : PgOk (pgs R)) : (wkL R [] []).map EV.ent = (pgs R).flatten := ents_wk_all ok
set_option maxHeartbeats 4000000 in
theorem kDump_any {w : World} {sg mg : Nat} {vo jv : Value} {R : List PV} {J : List JV} {n : Int} (h : KM w sg mg vo R jv J n) (ok : PgOk (pgs R)) (hn : R.length ≤ 1000000) (hc : (pgs R).flatten.length ≤ 100000000) :
  Calls Tryz.prog 20 #[.pointer (some ⟨sg, 0, none⟩)] w fun e w' => ∃ v L, e = .returned v ∧ WkGot w w' v L ∧ Mods noB w w' ∧ L.map EV.ent = (pgs R).flatten := by
 have hLL : (wkL R [] []).length ≤ 100000000 := by have := congrArg List.length (wk_all ok); rw [List.length_map] at this; omega
 rw [← wk_all ok]
 (refine calls_marks _ Tryz.func20 rfl ?_; simp only [Tryz.ntmps20, List.size_toArray, List.length_cons, List.length_nil, Nat.reduceAdd, Nat.reduceSub, Array.replicate_succ, Array.replicate_zero, List.push_toArray, List.append_toArray, List.nil_append, List.cons_append])
 refine wpIn_seq ?_
 refine wpIn_tl (d := .region 0 (opsC 0 Tryz.f20) false) (by kernel_rfl) ?_
 refine RW.wpIn (dm0 ?_) (by kernel_rfl)
 intro w1 e1
 subst e1
 refine then_n ?_
 refine wpIn_seq ?_
 refine wpIn_tl (d := .region 1 (opsC 1 Tryz.f20) false) (by kernel_rfl) ?_
 refine RW.wpIn (dm1 ?_) (by kernel_rfl)
 intros
 rename_i ob w2 e2 h2 m2
 refine then_n ?_
 have k2 := h.keep0 m2
 refine wpIn_seq ?_
 refine wpIn_seq ?_
 refine wpIn_tl (d := .region 2 (opsC 2 Tryz.f20) false) (by kernel_rfl) ?_
 refine RW.wpIn (dm2 k2.cells.1 (Walk_any k2.pm (Rd.nil w2) (Rd.nil w2) (by simp) (by simp)) ?_) (by kernel_rfl)
 intros
 rename_i m bf bt fv tv w3 hr
 refine then_n ?_
 obtain ⟨wp, m3, g3, g4, g5, f3, f4⟩ := hr
 have hlo := lt_of_heap h2
 have s2 := m2.size
 have s3 := m3.size
 have hob3 := m3.heap h2 (fun x => x)
 have nU : ¬ UWk mg vo R m bf bt fv tv ob := fun x => by
  rcases x with (x | x | x | x | x) | x | x
  ·have := h.pm.lt ob x; omega
  ·have := h.pm.dlt ob x; omega
  ·omega
  ·omega
  ·have := f3 ob x; omega
  ·omega
  ·have := f4 ob x; omega
 have hI0 : WdI noB (fun _ => False) (fun _ => .deferred none) w1 (wkL R [] []) ob 0 (UWk mg vo R m bf bt fv tv) w3 (.slice none 0 0) [] :=
  ⟨hob3, fun k x => x.elim, ⟨rfl, .inl ⟨rfl, rfl⟩⟩, fun e he => (List.not_mem_nil he).elim, rfl, nU, fun k x => x.elim, fun k hk => by simp [Value.ownBlock] at hk, fun k ⟨e, he, _⟩ => (List.not_mem_nil he).elim, by omega, fun k x => x.elim, fun x => x, m2.then0 m3, fun k x => x.elim⟩
 refine wpIn_block ?_
 refine wpIn_range0 (by rfl) (enters_of Tryz.func159 (by kernel_rfl) rfl) (walk_iter wp ok hn (by simp)) (Mods.refl _ _) wp.lt (argsOk_wk _ _) (fun i U args W1 hA => by obtain ⟨e, kv, vv, _, rfl, _⟩ := hA; rfl)
  (fun i U Wr => i ≤ (wkL R [] []).length ∧ ∃ v L, WdI noB (fun _ => False) (fun _ => .deferred none) w1 (wkL R [] []) ob i U Wr v L)
  (fun c i U Wr => False)
  ?_ ?_ ⟨Nat.zero_le _, _, _, hI0⟩ ?_ ?_ ?_
 ·rintro i U U' A B' ⟨h1, v, L, h3⟩ hm hus hsub
  exact ⟨h1, v, L, h3.frm (by omega) hm hsub⟩
 ·rintro c i U U' A B' h1 hm hus hsub
  exact h1
 ·-- one round
  intro lp i U args Wr hlp hUlp hi _ ⟨e, kv, vv, hei, hargs, hok, hov, hkU, hvU, hkv, hkB, hvB⟩ hUs hwr _ ⟨hin, v, L, hI⟩ hab
  subst hargs
  obtain ⟨ak, ck, rfl, _⟩ := hok.rd.form
  obtain ⟨av, cv, rfl, _⟩ := hov.rd.form
  simp only [putArgs, List.setIfInBounds_toArray, List.set_cons_succ, List.set_cons_zero]
  refine wpIn_seq ?_
  refine wpIn_tl (d := .region 3 (opsC 3 Tryz.f20) false) (by kernel_rfl) ?_
  refine RW.wpIn (dm3 ?_) (by kernel_rfl)
  intro w4 e4
  subst e4
  refine then_n ?_
  refine wpIn_tl (d := .region 4 (opsC 4 Tryz.f20) false) (by kernel_rfl) ?_
  refine RW.wpIn (dm4 ?_) (by kernel_rfl)
  intro w4 e4
  subst e4
  refine then_n ?_
  refine ⟨Mods.refl _ _, ?_⟩
  intro W2 m2' _
  have hI2 := hI.frm (by omega) (B := W2) (base := w3.heap.size) (U' := fun k => U k ∨ argB #[.slice ak e.k.length ck, .slice av e.v.length cv] k) (m2'.mono (fun k _ hk => by subst hk; exact ⟨.inl hUlp, .inr hlp⟩)) (fun k hk => .inl hk)
  have hok2 := hok.keep m2' (fun k hk x => hkU k hk (x ▸ hUlp))
  have hov2 := hov.keep m2' (fun k hk x => hvU k hk (x ▸ hUlp))
  have hUs2 : ∀ k, U k → k < W2.heap.size := fun k hk => Nat.lt_of_lt_of_le (hUs k hk) m2'.size
  have hlen : L.length = i := by
   have := congrArg List.length hI2.eq
   rw [List.length_map, List.length_map, List.length_take] at this
   omega
  have hsz2 : w4.heap.size ≤ W2.heap.size := m2'.size
  refine wpIn_block ?_
  refine wpIn_tl (d := .region 5 (opsC 5 Tryz.f20) false) (by kernel_rfl) ?_
  refine RW.wpIn (dm5 hI2.hob hI2.row (by omega) (fun x => (hI2.vb ob x).2.1 rfl) ?_) (by kernel_rfl)
  intros
  rename_i v8 w8 w9 o8 m8 f8 h9
  refine block_n ?_
  obtain ⟨hS, hM, _⟩ := hI2.step0 hlen hei hUs2 hI2.mods.size hkU hvU (fun k hk => by have := hkB k hk; omega) (fun k hk => by have := hvB k hk; omega) hok2 hov2 o8 m8 f8 h9
  exact ⟨hM, hi, _, _, hS⟩
 ·-- all have come
  rintro D U W5 hD hUD hus ⟨h1, v, L, h3⟩ hdef
  refine block_n ?_
  refine then_n ?_
  refine wpIn_seq ?_
  refine wpIn_tl (d := .region 6 (opsC 6 Tryz.f20) false) (by kernel_rfl) ?_
  refine RW.wpIn (dm6 (cells_of h3.hob 0) ?_) (by kernel_rfl)
  intros
  rename_i w6 e6
  subst e6
  refine then_n ?_
  refine wpIn_ret ?_
  refine marks_leave hdef (results_tmp rfl _ _ _) ?_
  obtain ⟨g, gm⟩ := h3.got (putObj_mods _ D _) (fun k hk => by subst hk; exact ⟨hUD, by omega⟩)
  refine ⟨v, L, rfl, g, gm, ?_⟩
  rw [h3.eq, List.take_length]
 ·rintro D c i U W5 hD hUD hus hi h1 hdef
  exact h1.elim
open Go.Gl Go.RowKit
open Go.Gl Go.RowKit
open Go.Gl Go.RowKit
theorem flat_bound {ps : Pgs} (ok : PgOk ps) : ps.length ≤ ps.flatten.length := by
  have key : ∀ qs : Pgs, (∀ p ∈ qs, p ≠ []) → qs.length ≤ qs.flatten.length := fun qs => by
    induction qs with
    | nil => intro _; simp
    | cons q qs ih =>
      intro h
      have h1 := ih (fun p hp => h p (List.mem_cons_of_mem _ hp))
      have h2 := h q (List.mem_cons_self ..)
      have h3 : q.length ≠ 0 := fun e => h2 (List.eq_nil_of_length_eq_zero e)
      rw [List.flatten_cons, List.length_append, List.length_cons]
      omega
  exact key ps ok.ne
theorem insL_len {l : List Ent} (h : Ris l) (k v : List UInt8) : (insL l k v).length ≤ l.length + 1 := by
 have h3 := congrArg List.length (ris_three h k)
 rw [List.length_append, List.length_append] at h3
 have h4 : (insL l k v).length = (l.filter (fun e => lessB e.1 k)).length + ((l.filter (fun e => lessB k e.1)).length + 1) := by unfold insL; rw [List.length_append, List.length_cons]
 rw [h4]
 omega
theorem delL_len {l : List Ent} (h : Ris l) (k : List UInt8) : (delL l k).length ≤ l.length := by
 have h3 := congrArg List.length (ris_three h k)
 rw [List.length_append, List.length_append] at h3
 have h4 : (delL l k).length = (l.filter (fun e => lessB e.1 k)).length + (l.filter (fun e => lessB k e.1)).length := by unfold delL; rw [List.length_append]
 rw [h4]
 omega
open Go.Gl Go.RowKit
theorem KS.made {sg mg : Nat} {vo : Value} {R : List PV} {k : Nat} (h : KS sg mg vo R (.slice none 0 0) [] k) : k = sg ∨ MS mg vo R k := by
 rcases h with h | h | h | ⟨q, hq, _⟩
 ·exact .inl h
 ·exact .inr h
 ·simp [Value.ownBlock] at h
 ·exact (List.not_mem_nil hq).elim
theorem KD.made {R : List PV} {k : Nat} (h : KD R [] k) : MD R k := by
 rcases h with h | ⟨q, hq, _⟩
 ·exact h
 ·exact (List.not_mem_nil hq).elim
open Go.Gl Go.RowKit
def JU (J : List JV) : List (List Und) := (J.map (fun q => q.us.map (·.u))).reverse
def totJ (J : List JV) : Nat := (J.map (fun q => q.us.length)).sum
theorem snaps_len (ls : List (List Und)) : ∀ F, (snaps ls F).length = ls.length := by
 induction ls with
 | nil => intro F; rfl
 | cons l ls ih => intro F; simp [snaps, ih]
theorem JU_len (J : List JV) : (JU J).length = J.length := by simp [JU]
theorem JU_snoc (A : List JV) (q : JV) : JU (A ++ [q]) = q.us.map (·.u) :: JU A := by simp [JU]
theorem tot_snoc (A : List JV) (q : JV) : totJ (A ++ [q]) = totJ A + q.us.length := by simp [totJ]
theorem tot_mem {J : List JV} {q : JV} (h : q ∈ J) : q.us.length ≤ totJ J := by
  induction J with
  | nil => cases h
  | cons a J ih =>
    have e : totJ (a :: J) = a.us.length + totJ J := by simp [totJ]
    rcases List.mem_cons.1 h with rfl | h
    · omega
    · have := ih h; omega
def KV (w : World) (sg : Nat) (F : List Ent) (Ws : List (List Ent)) (n p : Nat) (S D : Nat → Prop) : Prop :=
 ∃ mg vo R jv J, KM w sg mg vo R jv J (n : Int) ∧ PgOk (pgs R) ∧ (pgs R).flatten = F ∧ snaps (JU J) F = Ws ∧ J.length ≤ 16 ∧ F.length + totJ J ≤ p ∧ S = KS sg mg vo R jv J ∧ D = KD R J
theorem KV.ris {w : World} {sg : Nat} {F : List Ent} {Ws : List (List Ent)} {n p : Nat} {S D : Nat → Prop} (h : KV w sg F Ws n p S D) : Ris F := by
 obtain ⟨mg, vo, R, jv, J, km, ok, rfl, _⟩ := h
 exact ok.ris
theorem KV.lt {w : World} {sg : Nat} {F : List Ent} {Ws : List (List Ent)} {n p : Nat} {S D : Nat → Prop} (h : KV w sg F Ws n p S D) : (∀ k, S k → k < w.heap.size) ∧ (∀ k, D k → k < w.heap.size) ∧ S sg := by
 obtain ⟨mg, vo, R, jv, J, km, ok, hf, hw, hj, hp, rfl, rfl⟩ := h
 exact ⟨km.lt, km.dlt, .inl rfl⟩
theorem KV.keep {w w' : World} {sg : Nat} {F : List Ent} {Ws : List (List Ent)} {n p : Nat} {S D T : Nat → Prop} (h : KV w sg F Ws n p S D) (hm : Mods T w w') (h1 : ∀ k, S k → ¬ T k) (h2 : ∀ k, D k → ¬ T k) : KV w' sg F Ws n p S D := by
 obtain ⟨mg, vo, R, jv, J, km, ok, hf, hw, hj, hp, rfl, rfl⟩ := h
 exact ⟨mg, vo, R, jv, J, km.keep hm h1 h2, ok, hf, hw, hj, hp, rfl, rfl⟩
theorem KV.keep0 {w w' : World} {sg : Nat} {F : List Ent} {Ws : List (List Ent)} {n p : Nat} {S D : Nat → Prop} (h : KV w sg F Ws n p S D) (hm : Mods noB w w') : KV w' sg F Ws n p S D := h.keep hm (fun _ _ x => x) (fun _ _ x => x)
theorem KV.more {w : World} {sg : Nat} {F : List Ent} {Ws : List (List Ent)} {n p p' : Nat} {S D : Nat → Prop} (h : KV w sg F Ws n p S D) (hp' : p ≤ p') : KV w sg F Ws n p' S D := by
 obtain ⟨mg, vo, R, jv, J, km, ok, hf, hw, hj, hp, hs, hd⟩ := h
 exact ⟨mg, vo, R, jv, J, km, ok, hf, hw, hj, by omega, hs, hd⟩
theorem KV.len {w : World} {sg : Nat} {F : List Ent} {Ws : List (List Ent)} {n p : Nat} {S D : Nat → Prop} (h : KV w sg F Ws n p S D) : F.length ≤ p ∧ Ws.length ≤ 16 := by
 obtain ⟨mg, vo, R, jv, J, km, ok, hf, hw, hj, hp, hs, hd⟩ := h
 exact ⟨by omega, by rw [← hw, snaps_len, JU_len]; exact hj⟩
def Chg (w w' : World) (sg : Nat) (S D : Nat → Prop) (F' : List Ent) (Ws' : List (List Ent)) (n' p' : Nat) : Prop :=
 ∃ S' D', KV w' sg F' Ws' n' p' S' D' ∧ Mods S w w' ∧ (∀ k, S' k → S k ∨ w.heap.size ≤ k) ∧ (∀ k, D' k → D k ∨ w.heap.size ≤ k)
theorem chg_of {w w' : World} {sg mg : Nat} {vo jv vo' jv' : Value} {R R' : List PV} {J J' : List JV} {n' p' : Nat} (t : KT w w' sg mg vo R jv J vo' R' jv' J' (n' : Int)) (ok : PgOk (pgs R')) (hj : J'.length ≤ 16) (hp : (pgs R').flatten.length + totJ J' ≤ p') {F' : List Ent} {Ws' : List (List Ent)} (hf : (pgs R').flatten = F') (hw : snaps (JU J') F' = Ws') :
  Chg w w' sg (KS sg mg vo R jv J) (KD R J) F' Ws' n' p' :=
 ⟨_, _, ⟨mg, vo', R', jv', J', t.km, ok, hf, hw, hj, by rw [← hf]; exact hp, rfl, rfl⟩, t.mods, t.ks, t.kd⟩
theorem val_len {w : World} {sg mg : Nat} {vo jv : Value} {R : List PV} {J : List JV} {n : Int} (h : KM w sg mg vo R jv J n) (ok : PgOk (pgs R)) {k v : List UInt8} (hg : getP (pgs R) k = some v) : v.length ≤ 1000000 := by
 rw [getP_eq ok] at hg
 have hm := (getL_filter (pgs R).flatten k ok.ris).2 v hg
 obtain ⟨l, hl, he⟩ := List.mem_flatten.1 hm
 obtain ⟨p, hp, rfl⟩ := List.mem_map.1 hl
 obtain ⟨e, hee, hev⟩ := List.mem_map.1 he
 have := (h.pm.ents p hp e hee).lv
 have h2 : e.v = v := congrArg Prod.snd hev
 rw [← h2]
 exact this
theorem found_get {ps : Pgs} (ok : PgOk ps) (k : List UInt8) : (findP ps k).2.2 = (getL ps.flatten k).isSome := by
 rw [← getP_eq ok]
 unfold getP
 cases (findP ps k).2.2 <;> rfl
theorem snaps_noted {J J' : List JV} {k : List UInt8} {F F' : List Ent} (old : Option (List UInt8)) (h : Noted J J' k old) (hu : undo1 ⟨k, old⟩ F' = F) : snaps (JU J') F' = snaps (JU J) F ∧ J'.length = J.length ∧ totJ J' ≤ totJ J + 1 := by
 rcases h with ⟨rfl, rfl⟩ | ⟨A, q0, v, x, rfl, rfl, hx⟩
 ·exact ⟨rfl, rfl, by omega⟩
 ·refine ⟨?_, by simp, ?_⟩
  ·rw [JU_snoc, JU_snoc, List.map_append, List.map_singleton, hx]
   exact snaps_note hu _ _
  ·rw [tot_snoc, tot_snoc, List.length_append, List.length_singleton]
   omega
/-! ### the calls -/
theorem hNew (w : World) : Calls Tryz.prog 12 #[] w fun e w' => ∃ sg S D, e = .returned (.pointer (some ⟨sg, 0, none⟩)) ∧ KV w' sg [] [] 0 0 S D ∧ Mods noB w w' ∧ (∀ k, S k → w.heap.size ≤ k) ∧ (∀ k, ¬ D k) := by
 refine (kNew_any w).mono ?_
 rintro e w' ⟨sg, mg, rfl, km, m, g1, g2⟩
 refine ⟨sg, _, _, rfl, ⟨mg, _, [], _, [], km, ⟨List.Pairwise.nil, fun p hp => (List.not_mem_nil hp).elim, fun p hp => (List.not_mem_nil hp).elim⟩, rfl, rfl, by simp, by simp [totJ], rfl, rfl⟩, m, fun k hk => ?_, fun k hk => ?_⟩
 ·rcases hk.made with rfl | hk
  ·exact g1
  ·rcases hk with rfl | hk | ⟨p, hp, _⟩
   ·exact g2
   ·simp [Value.ownBlock] at hk
   ·exact (List.not_mem_nil hp).elim
 ·obtain ⟨p, hp, _⟩ := hk.made
  exact (List.not_mem_nil hp).elim
section
variable {w : World} {sg n p : Nat} {F : List Ent} {Ws : List (List Ent)} {S D : Nat → Prop}
theorem hSet {q u : Value} {ks vs : List UInt8} (h : KV w sg F Ws n p S D) (hq : Rd w q ks) (hu : Rd w u vs) (hqs : Off S q ks) (hus : Off S u vs) (hn : n ≤ 1000000000000) (hp : p ≤ 100000) :
  Calls Tryz.prog 74 #[.pointer (some ⟨sg, 0, none⟩), q, u] w fun e w' => e = .returned (.int .i64 (setErr ks vs : Nat)) ∧ Chg w w' sg S D (if setErr ks vs = 0 then insL F ks vs else F) Ws (n + 1) (p + 2) := by
 obtain ⟨mg, vo, R, jv, J, km, ok, rfl, rfl, hj, hpp, rfl, rfl⟩ := h
 have hb := flat_bound ok
 rw [pgs_length] at hb
 refine (kSet_any km hq hu hqs hus (by omega) (by omega) ok (by omega) (by have : cnt (pgs R) = (pgs R).flatten.length := rfl; omega) (by omega) (fun q hq => by have := tot_mem hq; omega) (fun v hv => val_len km ok hv)).mono ?_
 rintro e w' ⟨rfl, ⟨h0, t⟩ | ⟨h0, vo', R', J', t, e1, nt⟩⟩
 ·refine ⟨rfl, ?_⟩
  rw [if_neg h0]
  exact chg_of t ok hj (by omega) rfl rfl
 ·refine ⟨rfl, ?_⟩
  rw [if_pos h0]
  rw [getP_eq ok] at nt
  obtain ⟨s1, s2, s3⟩ := snaps_noted _ nt (undo_set ok.ris ks vs)
  have ef : (pgs R').flatten = insL (pgs R).flatten ks vs := by rw [e1]; exact setP_flat ok _ _
  refine chg_of t (by rw [e1]; exact setP_ok ok _ _) (by omega) ?_ ef s1
  rw [ef]
  have := insL_len ok.ris ks vs
  omega
theorem hDelete {q : Value} {ks : List UInt8} (h : KV w sg F Ws n p S D) (hq : Rd w q ks) (hqs : Off S q ks) (lk : ks.length ≤ 1000000) (hn : n ≤ 1000000000000) (hp : p ≤ 100000) :
  Calls Tryz.prog 145 #[.pointer (some ⟨sg, 0, none⟩), q] w fun e w' => e = .returned (.bool (getL F ks).isSome) ∧ Chg w w' sg S D (delL F ks) Ws (n + 1) (p + 2) := by
 obtain ⟨mg, vo, R, jv, J, km, ok, rfl, rfl, hj, hpp, rfl, rfl⟩ := h
 have hb := flat_bound ok
 rw [pgs_length] at hb
 refine (kDelete_any km hq hqs lk (by omega) (by omega) ok (by omega) (by have : cnt (pgs R) = (pgs R).flatten.length := rfl; omega) (by omega) (fun q hq => by have := tot_mem hq; omega) (fun v hv => val_len km ok hv)).mono ?_
 rintro e w' ⟨rfl, vo', R', J', t, e1, nt⟩
 rw [found_get ok]
 refine ⟨rfl, ?_⟩
 rw [getP_eq ok] at nt
 obtain ⟨s1, s2, s3⟩ := snaps_noted _ nt (undo_del ok.ris ks)
 have ef : (pgs R').flatten = delL (pgs R).flatten ks := by rw [e1]; exact delP_flat ok _
 refine chg_of t (by rw [e1]; exact delP_ok ok _) (by omega) ?_ ef s1
 rw [ef]
 have := delL_len ok.ris ks
 omega
theorem hGet {q : Value} {ks : List UInt8} (h : KV w sg F Ws n p S D) (hq : Rd w q ks) (hqs : Off S q ks) (hn : n ≤ 1000000000000) (hp : p ≤ 100000) :
  Calls Tryz.prog 93 #[.pointer (some ⟨sg, 0, none⟩), q] w fun e w' => ∃ v', e = .returned (.tuple #[v', .bool (getL F ks).isSome]) ∧ Gl.Own w' v' ((getL F ks).getD []) ∧ KV w' sg F Ws (n + 1) p S D ∧ Mods S w w' ∧ freshIn w v' := by
 obtain ⟨mg, vo, R, jv, J, km, ok, rfl, rfl, hj, hpp, rfl, rfl⟩ := h
 have hb := flat_bound ok
 rw [pgs_length] at hb
 have := kGet_any km hq ok (by omega) (by omega) (by omega) (hqs.mono (fun k e => .inl e))
 rw [getP_eq ok] at this
 refine this.mono ?_
 rintro e w' ⟨v', rfl, o, t, f⟩
 exact ⟨v', rfl, o, ⟨mg, vo, R, jv, J, t.km, ok, rfl, rfl, hj, hpp, rfl, rfl⟩, t.mods, f⟩
theorem hDump (h : KV w sg F Ws n p S D) (hp : p ≤ 100000) : Calls Tryz.prog 20 #[.pointer (some ⟨sg, 0, none⟩)] w fun e w' => ∃ v L, e = .returned v ∧ WkGot w w' v L ∧ Mods noB w w' ∧ L.map EV.ent = F := by
 obtain ⟨mg, vo, R, jv, J, km, ok, rfl, rfl, hj, hpp, rfl, rfl⟩ := h
 have hb := flat_bound ok
 rw [pgs_length] at hb
 exact kDump_any km ok (by omega) (by omega)
end
theorem wk_lens2 {w : World} {g : Nat} {vo : Value} {R : List PV} (hm : PM w g vo R) {LL : List EV} (h : ∀ e ∈ LL, ∃ p ∈ R, e ∈ p.es) : ∀ e ∈ LL, e.k.length ≤ 1000000 ∧ e.v.length ≤ 1000000 := fun e he => by
 obtain ⟨p, hp, he⟩ := h e he
 have := hm.ents p hp e he
 exact ⟨this.lk, this.lv⟩
theorem wkL_in {R : List PV} {xs ts : List UInt8} {e : EV} (he : e ∈ wkL R xs ts) : ∃ p ∈ R, e ∈ p.es := by
 have h2 : e ∈ risL R xs := (List.takeWhile_sublist _).subset he
 obtain ⟨i, hi⟩ := List.mem_iff_getElem?.1 h2
 exact risL_mem hi
theorem px_ents {R : List PV} (ok : PgOk (pgs R)) (xs : List UInt8) : (pxL R xs).map EV.ent = (pgs R).flatten.filter (fun e => beginsB xs e.1) := by
  have h1 : (wkL R xs []).map EV.ent = (pgs R).flatten.filter (fun e => !lessB e.1 xs) := by
    have := ents_wk ok xs []
    rw [show (wkL R xs []).map EV.ent = ents (wkL R xs []) from rfl, this]
    refine List.filter_congr (fun e _ => ?_)
    simp [btw]
  have h2 : ∀ l : List EV, (l.takeWhile (fun e => beginsB xs e.k)).map EV.ent = (l.map EV.ent).takeWhile (fun e => beginsB xs e.1) := fun l => by
    induction l with
    | nil => rfl
    | cons a l ih =>
      have ha : (EV.ent a).1 = a.k := rfl
      rw [List.map_cons, List.takeWhile_cons, List.takeWhile_cons, ha]
      cases beginsB xs a.k with
      | true => simp only [if_true, List.map_cons, ih]
      | false => rfl
  unfold pxL
  rw [h2, h1]
  exact walk_prefix ok.ris xs
section
variable {w : World} {sg n p : Nat} {F : List Ent} {Ws : List (List Ent)} {S D : Nat → Prop}
end
open Go.Gl Go.RowKit
def KL (w0 w : World) (sg : Nat) (F : List Ent) (Ws : List (List Ent)) (n p : Nat) (Q : Nat → Prop) : Prop :=
 ∃ S D, KV w sg F Ws n p S D ∧ (∀ k, Q k → ¬ S k ∧ ¬ D k ∧ k < w.heap.size) ∧ (∀ k, k < w0.heap.size → Q k) ∧ Mods noB w0 w
def K2 (w0 w : World) (sg : Nat) (F : List Ent) (Ws : List (List Ent)) (n p : Nat) (sg2 : Nat) (F2 : List Ent) (Ws2 : List (List Ent)) (n2 p2 : Nat) (Q : Nat → Prop) : Prop :=
 ∃ S D S2 D2, KV w sg F Ws n p S D ∧ KV w sg2 F2 Ws2 n2 p2 S2 D2 ∧ (∀ k, Q k → ¬ S k ∧ ¬ D k ∧ ¬ S2 k ∧ ¬ D2 k ∧ k < w.heap.size) ∧ (∀ k, k < w0.heap.size → Q k) ∧ (∀ k, S k → ¬ S2 k) ∧ (∀ k, D k → ¬ S2 k) ∧ (∀ k, D2 k → ¬ S k) ∧ Mods noB w0 w
theorem Chg.refl {w : World} {sg n p : Nat} {F : List Ent} {Ws : List (List Ent)} {S D : Nat → Prop} (h : KV w sg F Ws n p S D) : Chg w w sg S D F Ws n p := ⟨S, D, h, Mods.refl _ _, fun _ => .inl, fun _ => .inl⟩
def CC (f : FuncId) (args : Array Value) (w : World) (sg : Nat) (F : List Ent) (Ws : List (List Ent)) (n p : Nat) (Q : Nat → Prop) (r : Value) (F' : List Ent) (Ws' : List (List Ent)) (n' p' : Nat) : Prop :=
 ∀ S D, KV w sg F Ws n p S D → (∀ k, Q k → ¬ S k) → Calls Tryz.prog f args w fun e w' => e = .returned r ∧ Chg w w' sg S D F' Ws' n' p'
section
variable {w0 w : World} {sg n p n' p' : Nat} {F F' : List Ent} {Ws Ws' : List (List Ent)} {Q : Nat → Prop}
theorem KL.call {f : FuncId} {args : Array Value} {r : Value} (h : KL w0 w sg F Ws n p Q) (c : CC f args w sg F Ws n p Q r F' Ws' n' p') : Calls Tryz.prog f args w fun e w' => e = .returned r ∧ KL w0 w' sg F' Ws' n' p' Q ∧ Mods (fun k => ¬ Q k) w w' := by
 obtain ⟨S, D, kv, hq, h0, m0⟩ := h
 refine (c S D kv (fun k hk => (hq k hk).1)).mono ?_
 rintro e w' ⟨rfl, S', D', kv', m, hs, hd⟩
 refine ⟨rfl, ⟨S', D', kv', fun k hk => ⟨fun x => ?_, fun x => ?_, Nat.lt_of_lt_of_le (hq k hk).2.2 m.size⟩, h0, m0.trans m (fun _ _ x => x) (fun k hk x => (hq k (h0 k hk)).1 x)⟩, m.mono (fun k _ hk x => (hq k x).1 hk)⟩
 ·rcases hs k x with y | y
  ·exact (hq k hk).1 y
  ·have := (hq k hk).2.2; omega
 ·rcases hd k x with y | y
  ·exact (hq k hk).2.1 y
  ·have := (hq k hk).2.2; omega
theorem KL.keep0 {w' : World} (h : KL w0 w sg F Ws n p Q) (m : Mods noB w w') : KL w0 w' sg F Ws n p Q := by
 obtain ⟨S, D, kv, hq, h0, m0⟩ := h
 exact ⟨S, D, kv.keep0 m, fun k hk => ⟨(hq k hk).1, (hq k hk).2.1, Nat.lt_of_lt_of_le (hq k hk).2.2 m.size⟩, h0, m0.then0 m⟩
theorem KL.grow {w' : World} {Q' : Nat → Prop} (h : KL w0 w sg F Ws n p Q) (m : Mods noB w w') (hq' : ∀ k, Q' k → Q k ∨ (w.heap.size ≤ k ∧ k < w'.heap.size)) (h1 : ∀ k, k < w0.heap.size → Q' k) : KL w0 w' sg F Ws n p Q' := by
 obtain ⟨S, D, kv, hq, h0, m0⟩ := h
 refine ⟨S, D, kv.keep0 m, fun k hk => ?_, h1, m0.then0 m⟩
 rcases hq' k hk with x | ⟨x, y⟩
 ·exact ⟨(hq k x).1, (hq k x).2.1, Nat.lt_of_lt_of_le (hq k x).2.2 m.size⟩
 ·exact ⟨fun z => by have := kv.lt.1 k z; omega, fun z => by have := kv.lt.2.1 k z; omega, y⟩
theorem KL.turn {w' : World} {T : Nat → Prop} (h : KL w0 w sg F Ws n p Q) (m : Mods T w w') (ht : ∀ k, T k → Q k ∧ w0.heap.size ≤ k) : KL w0 w' sg F Ws n p Q := by
 obtain ⟨S, D, kv, hq, h0, m0⟩ := h
 exact ⟨S, D, kv.keep m (fun k hk x => (hq k (ht k x).1).1 hk) (fun k hk x => (hq k (ht k x).1).2.1 hk), fun k hk => ⟨(hq k hk).1, (hq k hk).2.1, Nat.lt_of_lt_of_le (hq k hk).2.2 m.size⟩, h0, m0.trans m (fun _ _ x => x) (fun k hk x => by have := (ht k x).2; omega)⟩
theorem KL.more {p2 : Nat} (h : KL w0 w sg F Ws n p Q) (hp : p ≤ p2) : KL w0 w sg F Ws n p2 Q := by
 obtain ⟨S, D, kv, r⟩ := h
 exact ⟨S, D, kv.more hp, r⟩
theorem KL.less {Q' : Nat → Prop} (h : KL w0 w sg F Ws n p Q) (hq : ∀ k, Q' k → Q k) (h1 : ∀ k, k < w0.heap.size → Q' k) : KL w0 w sg F Ws n p Q' := by
 obtain ⟨S, D, kv, q, h0, m0⟩ := h
 exact ⟨S, D, kv, fun k hk => q k (hq k hk), h1, m0⟩
theorem KL.mods (h : KL w0 w sg F Ws n p Q) : Mods noB w0 w := by obtain ⟨_, _, _, _, _, m⟩ := h; exact m
theorem KL.ris (h : KL w0 w sg F Ws n p Q) : Ris F := by obtain ⟨_, _, kv, _⟩ := h; exact kv.ris
theorem KL.len (h : KL w0 w sg F Ws n p Q) : F.length ≤ p ∧ Ws.length ≤ 16 := by obtain ⟨_, _, kv, _⟩ := h; exact kv.len
theorem KL.q0 (h : KL w0 w sg F Ws n p Q) : ∀ k, k < w0.heap.size → Q k := by obtain ⟨_, _, _, _, a, _⟩ := h; exact a
variable {sg2 n2 p2 : Nat} {F2 : List Ent} {Ws2 : List (List Ent)}
theorem K2.swap (h : K2 w0 w sg F Ws n p sg2 F2 Ws2 n2 p2 Q) : K2 w0 w sg2 F2 Ws2 n2 p2 sg F Ws n p Q := by
 obtain ⟨S, D, S2, D2, kv, kv2, hq, h0, a1, a2, a3, m0⟩ := h
 exact ⟨S2, D2, S, D, kv2, kv, fun k hk => ⟨(hq k hk).2.2.1, (hq k hk).2.2.2.1, (hq k hk).1, (hq k hk).2.1, (hq k hk).2.2.2.2⟩, h0, fun k x y => a1 k y x, a3, a2, m0⟩
theorem K2.one (h : K2 w0 w sg F Ws n p sg2 F2 Ws2 n2 p2 Q) : KL w0 w sg F Ws n p Q := by
 obtain ⟨S, D, S2, D2, kv, kv2, hq, h0, a1, a2, a3, m0⟩ := h
 exact ⟨S, D, kv, fun k hk => ⟨(hq k hk).1, (hq k hk).2.1, (hq k hk).2.2.2.2⟩, h0, m0⟩
theorem K2.call {f : FuncId} {args : Array Value} {r : Value} (h : K2 w0 w sg F Ws n p sg2 F2 Ws2 n2 p2 Q) (c : CC f args w sg F Ws n p Q r F' Ws' n' p') : Calls Tryz.prog f args w fun e w' => e = .returned r ∧ K2 w0 w' sg F' Ws' n' p' sg2 F2 Ws2 n2 p2 Q ∧ Mods (fun k => ¬ Q k) w w' := by
 obtain ⟨S, D, S2, D2, kv, kv2, hq, h0, a1, a2, a3, m0⟩ := h
 refine (c S D kv (fun k hk => (hq k hk).1)).mono ?_
 rintro e w' ⟨rfl, S', D', kv', m, hs, hd⟩
 have l2 := kv2.lt
 refine ⟨rfl, ⟨S', D', S2, D2, kv', kv2.keep m (fun k hk x => a1 k x hk) (fun k hk x => a3 k hk x), fun k hk => ⟨fun x => ?_, fun x => ?_, (hq k hk).2.2.1, (hq k hk).2.2.2.1, Nat.lt_of_lt_of_le (hq k hk).2.2.2.2 m.size⟩, h0, fun k x y => ?_, fun k x y => ?_, fun k x y => ?_, m0.trans m (fun _ _ x => x) (fun k hk x => (hq k (h0 k hk)).1 x)⟩, m.mono (fun k _ hk x => (hq k x).1 hk)⟩
 ·rcases hs k x with y | y
  ·exact (hq k hk).1 y
  ·have := (hq k hk).2.2.2.2; omega
 ·rcases hd k x with y | y
  ·exact (hq k hk).2.1 y
  ·have := (hq k hk).2.2.2.2; omega
 ·rcases hs k x with z | z
  ·exact a1 k z y
  ·have := l2.1 k y; omega
 ·rcases hd k x with z | z
  ·exact a2 k z y
  ·have := l2.1 k y; omega
 ·rcases hs k y with z | z
  ·exact a3 k x z
  ·have := l2.2.1 k x; omega
theorem K2.keep0 {w' : World} (h : K2 w0 w sg F Ws n p sg2 F2 Ws2 n2 p2 Q) (m : Mods noB w w') : K2 w0 w' sg F Ws n p sg2 F2 Ws2 n2 p2 Q := by
 obtain ⟨S, D, S2, D2, kv, kv2, hq, h0, a1, a2, a3, m0⟩ := h
 exact ⟨S, D, S2, D2, kv.keep0 m, kv2.keep0 m, fun k hk => ⟨(hq k hk).1, (hq k hk).2.1, (hq k hk).2.2.1, (hq k hk).2.2.2.1, Nat.lt_of_lt_of_le (hq k hk).2.2.2.2 m.size⟩, h0, a1, a2, a3, m0.then0 m⟩
theorem K2.grow {w' : World} {Q' : Nat → Prop} (h : K2 w0 w sg F Ws n p sg2 F2 Ws2 n2 p2 Q) (m : Mods noB w w') (hq' : ∀ k, Q' k → Q k ∨ (w.heap.size ≤ k ∧ k < w'.heap.size)) (h1 : ∀ k, k < w0.heap.size → Q' k) : K2 w0 w' sg F Ws n p sg2 F2 Ws2 n2 p2 Q' := by
 obtain ⟨S, D, S2, D2, kv, kv2, hq, h0, a1, a2, a3, m0⟩ := h
 refine ⟨S, D, S2, D2, kv.keep0 m, kv2.keep0 m, fun k hk => ?_, h1, a1, a2, a3, m0.then0 m⟩
 rcases hq' k hk with x | ⟨x, y⟩
 ·exact ⟨(hq k x).1, (hq k x).2.1, (hq k x).2.2.1, (hq k x).2.2.2.1, Nat.lt_of_lt_of_le (hq k x).2.2.2.2 m.size⟩
 ·exact ⟨fun z => by have := kv.lt.1 k z; omega, fun z => by have := kv.lt.2.1 k z; omega, fun z => by have := kv2.lt.1 k z; omega, fun z => by have := kv2.lt.2.1 k z; omega, y⟩
theorem K2.more {q q2 : Nat} (h : K2 w0 w sg F Ws n p sg2 F2 Ws2 n2 p2 Q) (hp : p ≤ q) (hp2 : p2 ≤ q2) : K2 w0 w sg F Ws n q sg2 F2 Ws2 n2 q2 Q := by
 obtain ⟨S, D, S2, D2, kv, kv2, r⟩ := h
 exact ⟨S, D, S2, D2, kv.more hp, kv2.more hp2, r⟩
/-! ### the calls -/
theorem cc_set {q u : Value} {ks vs : List UInt8} (hq : Rd w q ks) (hu : Rd w u vs) (oq : Off (fun k => ¬ Q k) q ks) (ou : Off (fun k => ¬ Q k) u vs) (hn : n ≤ 1000000000000) (hp : p ≤ 100000) : CC 74 #[.pointer (some ⟨sg, 0, none⟩), q, u] w sg F Ws n p Q (.int .i64 (setErr ks vs : Nat)) (if setErr ks vs = 0 then insL F ks vs else F) Ws (n + 1) (p + 2) :=
 fun S D kv hQ => hSet kv hq hu (oq.mono (fun k hk x => hQ k x hk)) (ou.mono (fun k hk x => hQ k x hk)) hn hp
theorem cc_del {q : Value} {ks : List UInt8} (hq : Rd w q ks) (oq : Off (fun k => ¬ Q k) q ks) (lk : ks.length ≤ 1000000) (hn : n ≤ 1000000000000) (hp : p ≤ 100000) : CC 145 #[.pointer (some ⟨sg, 0, none⟩), q] w sg F Ws n p Q (.bool (getL F ks).isSome) (delL F ks) Ws (n + 1) (p + 2) :=
 fun S D kv hQ => hDelete kv hq (oq.mono (fun k hk x => hQ k x hk)) lk hn hp
/-! ### iterators -/
end
open Go.Gl Go.RowKit
def KVp (sg : Nat) (F : List Ent) (Ws : List (List Ent)) (n p : Nat) : FP := fun w S D => KV w sg F Ws n p S D
def RFp (g : Nat) (F : List Ent) (Ws : List (List Ent)) (n : Nat) : FP := fun w S D => R6F w g F Ws n S D
theorem kvp_f {sg : Nat} {F : List Ent} {Ws : List (List Ent)} {n p : Nat} : Framed (KVp sg F Ws n p) := ⟨fun h => ⟨KV.lt h |>.1, KV.lt h |>.2.1⟩, fun h m a b => KV.keep h m a b⟩
theorem rfp_f {g : Nat} {F : List Ent} {Ws : List (List Ent)} {n : Nat} : Framed (RFp g F Ws n) := ⟨fun h => ⟨R6F.lt h |>.1, R6F.lt h |>.2.1⟩, fun h m a b => R6F.keep h m a b⟩
def setFF (F : List Ent) (k v : List UInt8) : List Ent := if setErr k v = 0 then insL F k v else F
theorem KV.vlen {w : World} {sg : Nat} {F : List Ent} {Ws : List (List Ent)} {n p : Nat} {S D : Nat → Prop} (h : KV w sg F Ws n p S D) {k v : List UInt8} (hg : getL F k = some v) : v.length ≤ 1000000 := by
 obtain ⟨mg, vo, R, jv, J, km, ok, rfl, _⟩ := h
 exact val_len km ok (by rw [getP_eq ok]; exact hg)
section
variable {w : World} {sg g n p : Nat} {F : List Ent} {Ws : List (List Ent)} {Q : Nat → Prop}
/-! ### kv.Store -/
theorem CC.gs {f : FuncId} {args : Array Value} {r : Value} {F' : List Ent} {Ws' : List (List Ent)} {n' p' : Nat} (c : CC f args w sg F Ws n p Q r F' Ws' n' p') : GS Tryz.prog f args w (KVp sg F Ws n p) Q r (KVp sg F' Ws' n' p') := GS.of c
theorem gk_set {q u : Value} {ks vs : List UInt8} (hq : Rd w q ks) (hu : Rd w u vs) (oq : Off (fun k => ¬ Q k) q ks) (ou : Off (fun k => ¬ Q k) u vs) (hn : n ≤ 1000000000000) (hp : p ≤ 100000) : GS Tryz.prog 74 #[.pointer (some ⟨sg, 0, none⟩), q, u] w (KVp sg F Ws n p) Q (.int .i64 (setErr ks vs : Nat)) (KVp sg (setFF F ks vs) Ws (n + 1) (p + 2)) := CC.gs (cc_set hq hu oq ou hn hp)
theorem gk_del {q : Value} {ks : List UInt8} (hq : Rd w q ks) (oq : Off (fun k => ¬ Q k) q ks) (lk : ks.length ≤ 1000000) (hn : n ≤ 1000000000000) (hp : p ≤ 100000) : GS Tryz.prog 145 #[.pointer (some ⟨sg, 0, none⟩), q] w (KVp sg F Ws n p) Q (.bool (getL F ks).isSome) (KVp sg (delL F ks) Ws (n + 1) (p + 2)) := CC.gs (cc_del hq oq lk hn hp)
theorem gk_get {q : Value} {ks : List UInt8} (hq : Rd w q ks) (oq : Off (fun k => ¬ Q k) q ks) (hn : n ≤ 1000000000000) (hp : p ≤ 100000) : GO Tryz.prog 93 #[.pointer (some ⟨sg, 0, none⟩), q] w (KVp sg F Ws n p) Q (fun v => .tuple #[v, .bool (getL F ks).isSome]) ((getL F ks).getD []) (KVp sg F Ws (n + 1) p) :=
 GO.of kvp_f (fun S D kv hQ => (hGet kv hq (oq.mono (fun k hk x => hQ k x hk)) hn hp).mono (fun e w' ⟨v', a, b, c, d, f⟩ => ⟨v', a, b, ⟨S, D, c, d, fun _ h => h, fun _ h => h⟩, f⟩)) kvp_f
/-! ### gleanref6.Store -/
theorem gr_set {q u : Value} {ks vs : List UInt8} (hq : Rd w q ks) (hu : Rd w u vs) (oq : Off (fun k => ¬ Q k) q ks) (ou : Off (fun k => ¬ Q k) u vs) (hn : n ≤ 1000000000000) (hF : F.length ≤ 100000) : GS Tryz.prog 43 #[.pointer (some ⟨g, 0, none⟩), q, u] w (RFp g F Ws n) Q (.int .i64 (setErr ks vs : Nat)) (RFp g (setFF F ks vs) Ws (n + 1)) :=
 GS.of fun S D rf hQ => rSet6 rf hq hu (oq.mono (fun k hk x => hQ k x hk)) (ou.mono (fun k hk x => hQ k x hk)) hn hF
theorem gr_del {q : Value} {ks : List UInt8} (hq : Rd w q ks) (oq : Off (fun k => ¬ Q k) q ks) (hn : n ≤ 1000000000000) (hF : F.length ≤ 100000) : GS Tryz.prog 134 #[.pointer (some ⟨g, 0, none⟩), q] w (RFp g F Ws n) Q (.bool (getL F ks).isSome) (RFp g (delL F ks) Ws (n + 1)) :=
 GS.of fun S D rf hQ => rDelete6 rf hq (oq.mono (fun k hk x => hQ k x hk)) hn hF
theorem gr_get {q : Value} {ks : List UInt8} (hq : Rd w q ks) (oq : Off (fun k => ¬ Q k) q ks) (hn : n ≤ 1000000000000) (hF : F.length ≤ 100000) (hv : ∀ v, getL F ks = some v → v.length ≤ 140737488355328) : GO Tryz.prog 96 #[.pointer (some ⟨g, 0, none⟩), q] w (RFp g F Ws n) Q (fun v => .tuple #[v, .bool (getL F ks).isSome]) ((getL F ks).getD []) (RFp g F Ws (n + 1)) :=
 GO.of rfp_f (fun S D rf hQ => (rGet6 rf hq (oq.mono (fun k hk x => hQ k x hk)) hn hF hv).mono (fun e w' ⟨v', a, b, c, d, f⟩ => ⟨v', a, b, ⟨S, D, c, d, fun _ h => h, fun _ h => h⟩, f⟩)) rfp_f
end
open Go.Gl Go.RowKit
structure KForm where
 head : UInt8
 mid : UInt8
 a : Bool
 b : Bool
 turned : Bool
def kform : Nat → Option KForm
 | 1 => some ⟨112, 0, false, false, false⟩
 | 2 => some ⟨99, 0, false, false, false⟩
 | 3 => some ⟨109, 0, false, false, false⟩
 | 4 => some ⟨97, 0, true, false, false⟩
 | 5 => some ⟨118, 48, true, false, false⟩
 | 6 => some ⟨118, 100, true, true, false⟩
 | 7 => some ⟨118, 104, true, true, false⟩
 | 8 => some ⟨118, 115, true, true, false⟩
 | 9 => some ⟨116, 0, true, false, false⟩
 | 10 => some ⟨105, 0, true, true, true⟩
 | 11 => some ⟨98, 0, true, false, false⟩
 | 12 => some ⟨117, 0, true, false, false⟩
 | 13 => some ⟨114, 0, true, false, false⟩
 | 14 => some ⟨113, 0, true, true, false⟩
 | 15 => some ⟨101, 0, true, true, false⟩
 | 16 => some ⟨110, 0, true, true, false⟩
 | 17 => some ⟨107, 0, true, true, false⟩
 | _ => none
def fcells (f : KForm) : List Value := [.int .u8 f.head.toNat, .int .u8 f.mid.toNat, .bool f.a, .bool f.b, .bool f.turned]
def fv (f : KForm) : Value := .agg (fcells f).toArray
def formsV : Array Value := ((List.range 17).flatMap fun k => ((kform (k + 1)).map fcells).getD []).toArray
def formsZ : Array Value := ((List.range 17).flatMap fun _ => fcells ⟨0, 0, false, false, false⟩).toArray
set_option maxRecDepth 100000 in
set_option maxHeartbeats 1000000 in
theorem forms_any (w : World) :
  Calls Tryz.prog 234 #[] w fun e w' => e = .returned (.agg formsV) ∧ w' = w.alloc (.cells formsV 329) := by
 have hz : ∀ w : World, (zeroValue 329).run Tryz.prog w = .ok (.agg formsZ) w := fun _ => by kernel_rfl
 go_enter Tryz.func234, Tryz.ntmps234
 go_wp2_with (refine wpList_build rfl 329 _ rfl (by as_aux_lemma => kernel_rfl) (stop ?_))
 unfold Stop
 refine wpList_store_row rfl 329 _ _ rfl w.heap.size formsV rfl (by as_aux_lemma => kernel_rfl) 329 formsZ (heap_new _ _) (by as_aux_lemma => kernel_rfl) (by as_aux_lemma => kernel_rfl) (by as_aux_lemma => kernel_rfl) ?_
 rw [World.setRow_alloc_new]
 go_wp2
 refine bodyPost_ret (results_cell_row rfl _ _ w.heap.size 329 formsV (0, 0) _ rfl (heap_new _ _) Tryz.underlying329 rfl (by as_aux_lemma => kernel_rfl)) rfl ⟨rfl, rfl⟩
theorem formsV_at (k : Nat) (h1 : 1 ≤ k) (h2 : k ≤ 17) : ∃ f, kform k = some f ∧ ∀ w : World, (Instr.index 329 (.agg formsV) (.int .i64 ((k : Int) - 1))).run Tryz.prog w = .ok (.agg #[.int .u8 f.head.toNat, .int .u8 f.mid.toNat, .bool f.a, .bool f.b, .bool f.turned]) w := by
 have h17 : k = 1 ∨ k = 2 ∨ k = 3 ∨ k = 4 ∨ k = 5 ∨ k = 6 ∨ k = 7 ∨ k = 8 ∨ k = 9 ∨ k = 10 ∨ k = 11 ∨ k = 12 ∨ k = 13 ∨ k = 14 ∨ k = 15 ∨ k = 16 ∨ k = 17 := by omega
 rcases h17 with rfl | rfl | rfl | rfl | rfl | rfl | rfl | rfl | rfl | rfl | rfl | rfl | rfl | rfl | rfl | rfl | rfl <;> exact ⟨_, rfl, fun _ => by kernel_rfl⟩
set_option maxHeartbeats 400000 in
theorem formOf_no (n : Int) (w : World) (h : n < 1 ∨ 17 < n) :
  Calls Tryz.prog 175 #[.int .i64 n] w fun e w' => e = .returned (.tuple #[fv ⟨0, 0, false, false, false⟩, .bool false]) ∧ Mods noB w w' := by
 rcases h with h | h
 ·go_enter Tryz.func175, Tryz.ntmps175
  go_wp2
  go_returns
  exact ⟨rfl, (by repeat' (first | (with_reducible exact Mods.refl _ _) | (with_reducible assumption) | (with_reducible refine Mods.alloc ?_ _) | (with_reducible refine Mods.drew ?_) | (with_reducible refine Mods.drewN ?_ _) | (with_reducible refine Mods.regrown ?_ _ _) | (with_reducible refine Mods.setCell ?_ ?_ _) | (refine .inr ?_; first | (simp; done) | (simp; omega) | omega)))⟩
 ·have h1 : ¬ n < 1 := by omega
  go_enter Tryz.func175, Tryz.ntmps175
  go_wp2
  go_returns
  exact ⟨rfl, (by repeat' (first | (with_reducible exact Mods.refl _ _) | (with_reducible assumption) | (with_reducible refine Mods.alloc ?_ _) | (with_reducible refine Mods.drew ?_) | (with_reducible refine Mods.drewN ?_ _) | (with_reducible refine Mods.regrown ?_ _ _) | (with_reducible refine Mods.setCell ?_ ?_ _) | (refine .inr ?_; first | (simp; done) | (simp; omega) | omega)))⟩
set_option maxHeartbeats 400000 in
theorem formOf_yes (k : Nat) (f : KForm) (w : World) (hf : kform k = some f) :
  Calls Tryz.prog 175 #[.int .i64 k] w fun e w' => e = .returned (.tuple #[fv f, .bool true]) ∧ Mods noB w w' := by
 have hk : 1 ≤ k ∧ k ≤ 17 := by
  rcases Nat.lt_or_ge k 18 with h | h
  ·rcases Nat.eq_zero_or_pos k with rfl | h0
   ·simp [kform] at hf
   ·omega
  ·obtain ⟨j, rfl⟩ : ∃ j, k = j + 18 := ⟨k - 18, by omega⟩
   simp [kform] at hf
 obtain ⟨h1, h2⟩ := hk
 obtain ⟨f', hf', hi⟩ := formsV_at k h1 h2
 obtain rfl : f = f' := by rw [hf] at hf'; simpa using hf'
 clear hf' hf
 go_enter Tryz.func175, Tryz.ntmps175
 go_wp2_with (go_at_call 234; refine (forms_any _).mono ?_; rintro e w' ⟨rfl, rfl⟩)
 go_returns
 exact ⟨rfl, (by repeat' (first | (with_reducible exact Mods.refl _ _) | (with_reducible assumption) | (with_reducible refine Mods.alloc ?_ _) | (with_reducible refine Mods.drew ?_) | (with_reducible refine Mods.drewN ?_ _) | (with_reducible refine Mods.regrown ?_ _ _) | (with_reducible refine Mods.setCell ?_ ?_ _) | (refine .inr ?_; first | (simp; done) | (simp; omega) | omega)))⟩
end Go.Proofs.YtglkmaalpammcaaGreat
namespace Go.Gl
def be : Nat → Nat → List UInt8
 | 0, _ => []
 | n + 1, x => UInt8.ofNat (x / 256 ^ n) :: be n x
def num (xs : List UInt8) : Nat := xs.foldl (fun a c => a * 256 + c.toNat) 0
theorem be_length (n x : Nat) : (be n x).length = n := by
 induction n with
 | zero => rfl
 | succ n ih => simp [be, ih]
theorem num_snoc (xs : List UInt8) (c : UInt8) : num (xs ++ [c]) = num xs * 256 + c.toNat := by simp [num]
theorem num_lt (xs : List UInt8) : num xs < 256 ^ xs.length := by
  suffices h : ∀ ys : List UInt8, num ys.reverse < 256 ^ ys.length by
    have := h xs.reverse
    simpa using this
  intro ys
  induction ys with
  | nil => simp [num]
  | cons c ys ih =>
    rw [List.reverse_cons, num_snoc, List.length_cons, Nat.pow_succ]
    have := c.toNat_lt
    omega
theorem foldl_num (xs : List UInt8) (a : Nat) : xs.foldl (fun a c => a * 256 + c.toNat) a = a * 256 ^ xs.length + num xs := by
  induction xs generalizing a with
  | nil => simp [num]
  | cons c xs ih =>
    rw [num, List.foldl_cons, List.foldl_cons, List.length_cons, ih, ih (0 * 256 + c.toNat), Nat.pow_succ, Nat.zero_mul, Nat.zero_add, Nat.add_mul, Nat.mul_comm (256 ^ xs.length) 256, ← Nat.mul_assoc, Nat.add_assoc]
theorem num_cons (c : UInt8) (xs : List UInt8) : num (c :: xs) = c.toNat * 256 ^ xs.length + num xs := by
 rw [num, List.foldl_cons, foldl_num]
 simp
theorem num_be (n x : Nat) : num (be n x) = x % 256 ^ n := by
  induction n with
  | zero => simp [be, num, Nat.mod_one]
  | succ n ih =>
    rw [be, num_cons, be_length, ih, UInt8.toNat_ofNat']
    have h := Nat.mod_mul (x := x) (a := 256 ^ n) (b := 256)
    rw [Nat.pow_succ 256 n, h, show (2 ^ 8 : Nat) = 256 from rfl, Nat.mul_comm (256 ^ n)]
    omega
theorem be_num (xs : List UInt8) : be xs.length (num xs) = xs := by
  suffices h : ∀ (xs : List UInt8) (q : Nat), be xs.length (q * 256 ^ xs.length + num xs) = xs by simpa using h xs 0
  intro xs
  induction xs with
  | nil => intro q; rfl
  | cons c xs ih =>
    intro q
    have hl := num_lt xs
    have hp : 0 < 256 ^ xs.length := Nat.pow_pos (by decide)
    rw [List.length_cons, be, num_cons]
    have e : q * 256 ^ (xs.length + 1) + (c.toNat * 256 ^ xs.length + num xs) = (q * 256 + c.toNat) * 256 ^ xs.length + num xs := by
      rw [Nat.pow_succ, Nat.add_mul, Nat.mul_assoc, Nat.mul_comm (256 ^ xs.length) 256]; omega
    rw [e, ih]
    congr 1
    rw [Nat.mul_comm, Nat.mul_add_div hp, Nat.div_eq_of_lt hl, Nat.add_zero]
    apply UInt8.toNat_inj.1
    rw [UInt8.toNat_ofNat']
    have := c.toNat_lt
    omega
theorem num_be8 (x : Nat) (h : x < 18446744073709551616) : num (be 8 x) = x := by
 rw [num_be]
 exact Nat.mod_eq_of_lt (by simpa using h)
def b8 (x i : Nat) : Int := ((x / 256 ^ i % 256 : Nat) : Int)
end Go.Gl
namespace Go.Proofs.YtglkmaalpammcaaGreat
open Go.Gl Go.RowKit
theorem bv_be8 (x : Nat) : bv (be 8 x) = [.int .u8 (b8 x 7), .int .u8 (b8 x 6), .int .u8 (b8 x 5), .int .u8 (b8 x 4), .int .u8 (b8 x 3), .int .u8 (b8 x 2), .int .u8 (b8 x 1), .int .u8 (b8 x 0)] := by
 simp only [be, bv, List.map_cons, List.map_nil, UInt8.toNat_ofNat', b8]
theorem agg8 (x : Nat) (hx : x < 18446744073709551616) (a0 a1 a2 a3 a4 a5 a6 a7 : Int) (h : a0 = x / 72057594037927936 ∧ a1 = x / 281474976710656 % 256 ∧ a2 = x / 1099511627776 % 256 ∧ a3 = x / 4294967296 % 256 ∧ a4 = x / 16777216 % 256 ∧ a5 = x / 65536 % 256 ∧ a6 = x / 256 % 256 ∧ a7 = x % 256) :
  a0 = b8 x 7 ∧ a1 = b8 x 6 ∧ a2 = b8 x 5 ∧ a3 = b8 x 4 ∧ a4 = b8 x 3 ∧ a5 = b8 x 2 ∧ a6 = b8 x 1 ∧ a7 = b8 x 0 := by
 obtain ⟨rfl, rfl, rfl, rfl, rfl, rfl, rfl, rfl⟩ := h
 simp only [b8]
 omega
def eightV (x : Nat) : Value := .agg #[.int .u8 (b8 x 7), .int .u8 (b8 x 6), .int .u8 (b8 x 5), .int .u8 (b8 x 4), .int .u8 (b8 x 3), .int .u8 (b8 x 2), .int .u8 (b8 x 1), .int .u8 (b8 x 0)]
theorem eightV_of (x : Nat) (hx : x < 18446744073709551616) : Value.agg #[.int .u8 (x / 72057594037927936), .int .u8 (x / 281474976710656 % 256), .int .u8 (x / 1099511627776 % 256), .int .u8 (x / 4294967296 % 256), .int .u8 (x / 16777216 % 256), .int .u8 (x / 65536 % 256), .int .u8 (x / 256 % 256), .int .u8 (x % 256)] = eightV x := by
 obtain ⟨h0, h1, h2, h3, h4, h5, h6, h7⟩ := agg8 x hx _ _ _ _ _ _ _ _ ⟨rfl, rfl, rfl, rfl, rfl, rfl, rfl, rfl⟩
 unfold eightV
 rw [h0, h1, h2, h3, h4, h5, h6, h7]
set_option maxHeartbeats 1000000 in
theorem eight_any (x : Nat) (w : World) (hx : x < 18446744073709551616) :
  Calls Tryz.prog 178 #[.int .u64 x] w fun e w' => e = .returned (eightV x) ∧ Mods noB w w' := by
 have H := Lib.hid (eightV_of x hx)
 go_enter Tryz.func178, Tryz.ntmps178
 go_wp2
 go_rounds 9
 refine bodyPost_ret (by simp [results, Tryz.results178, go_sem]; exact H.out) rfl ?_
 exact ⟨rfl, (by repeat' (first | (with_reducible exact Mods.refl _ _) | (with_reducible assumption) | (with_reducible refine Mods.alloc ?_ _) | (with_reducible refine Mods.drew ?_) | (with_reducible refine Mods.drewN ?_ _) | (with_reducible refine Mods.regrown ?_ _ _) | (with_reducible refine Mods.setCell ?_ ?_ _) | (refine .inr ?_; first | (simp; done) | (simp; omega) | omega)))⟩
theorem eight_int (n : Int) (w : World) (h0 : 0 ≤ n) (h1 : n ≤ 18446744073709551615) :
  Calls Tryz.prog 178 #[.int .u64 n] w fun e w' => e = .returned (.agg #[.int .u8 (b8 n.toNat 7), .int .u8 (b8 n.toNat 6), .int .u8 (b8 n.toNat 5), .int .u8 (b8 n.toNat 4), .int .u8 (b8 n.toNat 3), .int .u8 (b8 n.toNat 2), .int .u8 (b8 n.toNat 1), .int .u8 (b8 n.toNat 0)]) ∧ Mods noB w w' := by
 obtain ⟨x, rfl⟩ := Int.eq_ofNat_of_zero_le h0
 exact eight_any x w (by omega)
theorem rd8 {w : World} {g : Nat} {x : Nat} {e : TypeId} {fr : Nat × Nat} (h : w.heap[g]? = some (.cells #[.int .u8 (b8 x 7), .int .u8 (b8 x 6), .int .u8 (b8 x 5), .int .u8 (b8 x 4), .int .u8 (b8 x 3), .int .u8 (b8 x 2), .int .u8 (b8 x 1), .int .u8 (b8 x 0)] e fr)) : Rd w (.slice (some ⟨g, 0, none⟩) 8 8) (be 8 x) := by
 refine ⟨by rw [be_length, bv_length, be_length], .inr ⟨g, 0, 8, by rw [be_length], by rw [be_length]; omega, by simp [maxLen], .inr (lt_of_heap h), fun j u hj => ?_⟩⟩
 rw [bv_be8] at hj
 rw [cells_of h, Nat.zero_add]
 simpa using hj
open Go.Gl Go.RowKit
def kturn (f : KForm) (a : Nat) : Nat := if f.turned then 18446744073709551615 - a else a
def kfirst (f : KForm) (a : Nat) : List UInt8 := [f.head] ++ (if f.a then be 8 (kturn f a) else []) ++ (if f.mid.toNat = 0 then [] else [f.mid])
set_option maxHeartbeats 1000000 in
theorem first_any (f : KForm) (a : Nat) (w : World) (ha : a ≤ 18446744073709551615) :
  Calls Tryz.prog 177 #[.agg #[.int .u8 f.head.toNat, .int .u8 f.mid.toNat, .bool f.a, .bool f.b, .bool f.turned], .int .u64 a] w fun e w' => ∃ v, e = .returned v ∧ Gl.Own w' v (kfirst f a) ∧ Mods noB w w' ∧ freshIn w v := by
 obtain ⟨hd, md, fa, fb, ft⟩ := f
 have hfin : Hid (∀ t : Nat, t = kturn ⟨hd, md, fa, fb, ft⟩ a → kfirst ⟨hd, md, fa, fb, ft⟩ a = [hd] ++ (if fa then be 8 t else []) ++ (if md.toNat = 0 then [] else [md])) := by
  intro t ht; rw [ht]; rfl
 have hmd : md.toNat < 256 := md.toNat_lt
 have fin : ∀ (W : World) (v : Value) (b : Nat), w.heap.size ≤ b → (v.ownBlock = some b ∨ freshIn W v) → w.heap.size ≤ W.heap.size → freshIn w v := by
  intro W v b hb hv hW k hk
  rcases hv with hv | hv
  ·rw [hv] at hk; simp at hk; omega
  ·have := hv k hk; omega
 have F := Lib.hid fin
 clear fin
 have M : (((md.toNat : Nat) : Int) != 0) = false ∧ md.toNat = 0 ∨ (((md.toNat : Nat) : Int) != 0) = true ∧ md.toNat ≠ 0 := by
  by_cases h : md.toNat = 0
  ·exact .inl ⟨by simp [h], h⟩
  ·exact .inr ⟨by simp [h], h⟩
 cases ft
 all_goals
  go_enter Tryz.func177, Tryz.ntmps177
  go_wp2_with fail
  try rw [not_u64 _ (by omega) (by omega)]
  refine (eight_int _ _ (by omega) (by omega)).mono ?_
  rintro e w1 ⟨rfl, hm1⟩
  have B0 := cells_of (hm1.heap (g := w.heap.size) (heap_old (heap_new _ _) _) (fun x => x))
  have o1 : Gl.Own w1 (.slice (some ⟨w.heap.size + 1, 0, none⟩) 1 1) [hd] := by
   have h := fun o => own_at hd (w := w.alloc o) (w.heap.size + 1) (by simp)
   exact (h _).keep hm1 (fun _ _ x => x)
  have hz1 : w.heap.size + 1 < w1.heap.size := by have := hm1.size; simp at this; omega
  have hz0 : w.heap.size < w1.heap.size := by omega
  have m1 : Mods noB w w1 := ((((Mods.refl _ _).alloc _).alloc _).trans hm1 (fun _ _ x => x) (fun _ _ x => x))
  rcases M with ⟨hb, hM⟩ | ⟨hb, hM⟩
  all_goals
   have HM := Lib.hid hM
   clear hM hm1
   cases fa
 case inl.false | inr.inl.false =>
  go_wp2_with (at_builtin; refine stop ?_)
  go_ret
  refine ⟨_, rfl, ?_, m1.alloc _, F.out w1 _ _ (Nat.le_succ _) (.inl rfl) m1.size⟩
  rw [hfin.out _ rfl, if_pos HM.out]
  exact o1.alloc _
 case inr.false | inr.inr.false =>
  go_wp2_with (at_builtin; refine stop ?_)
  unfold Stop
  refine wpList_apb rfl rfl [hd] [md] ((o1.alloc _).alloc _) (own_at md _ (by simp)).rd rfl rfl (by simp) ?_
  intro v2 w2 h1 h2 h3
  go_wp2
  go_ret
  refine ⟨_, rfl, ?_, ((m1.alloc _).alloc _).trans h2 (fun _ _ x => x) (fun i hi x => by have := (ofV_some x); omega), F.out _ _ _ (Nat.le_succ _) h3 (by simp; omega)⟩
  rw [hfin.out _ rfl, if_neg HM.out]
  exact h1
 case inl.true | inr.inl.true =>
  go_wp2_with (at_builtin; refine stop ?_)
  unfold Stop
  refine wpList_apb rfl rfl [hd] _ (o1.alloc _) (rd8 (heap_new _ _)) rfl rfl (by simp [be_length]) ?_
  intro v2 w2 h1 h2 h3
  have B2 : ∀ o, w2.cell? ⟨w.heap.size, o, none⟩ = _ := fun o => (h2.cellAt (g := w.heap.size) (by simp; omega) (fun x => by have := ofV_some x; omega) o).trans ((World.cell?_alloc_past _ _ _ hz0).trans (B0 o))
  have F2 := Lib.hid (show _ ∧ _ ∧ _ from ⟨h1, h2, h3⟩)
  clear h1 h2 h3
  go_wp2_with (at_builtin; refine stop ?_)
  go_ret
  obtain ⟨h1, h2, h3⟩ := F2.out
  refine ⟨_, rfl, ?_, (m1.alloc _).trans h2 (fun _ _ x => x) (fun i hi x => by have := (ofV_some x); omega), F.out _ _ _ (Nat.le_succ _) h3 (by simp; omega)⟩
  rw [hfin.out _ rfl, if_pos HM.out]
  simpa [kturn] using h1
 case inr.true | inr.inr.true =>
  go_wp2_with (at_builtin; refine stop ?_)
  unfold Stop
  refine wpList_apb rfl rfl [hd] _ (o1.alloc _) (rd8 (heap_new _ _)) rfl rfl (by simp [be_length]) ?_
  intro v2 w2 h1 h2 h3
  have B2 : ∀ o, w2.cell? ⟨w.heap.size, o, none⟩ = _ := fun o => (h2.cellAt (g := w.heap.size) (by simp; omega) (fun x => by have := ofV_some x; omega) o).trans ((World.cell?_alloc_past _ _ _ hz0).trans (B0 o))
  have F2 := Lib.hid (show _ ∧ _ ∧ _ from ⟨h1, h2, h3⟩)
  clear h1 h2 h3
  go_wp2_with (at_builtin; refine stop ?_)
  unfold Stop
  obtain ⟨h1, h2, h3⟩ := F2.out
  have hs2 := h2.size
  simp only [World.size_alloc] at hs2
  refine wpList_apb rfl rfl _ [md] (h1.alloc _) (own_at md _ (by simp)).rd rfl rfl (by simp [be_length]) ?_
  intro v3 w3 k1 k2 k3
  go_wp2
  go_ret
  have hv2 : freshIn w v2 := F.out _ _ _ (Nat.le_succ _) h3 (by simp; omega)
  refine ⟨_, rfl, ?_, (((m1.alloc _).trans h2 (U := noB) (fun _ _ x => x) (fun i hi x => by have := (ofV_some x); omega)).alloc _).trans k2 (fun _ _ x => x) (fun i hi x => by have := hv2 i x; omega), fun k hk => ?_⟩
  ·rw [hfin.out _ rfl, if_neg HM.out]
   simpa [kturn] using k1
  ·rcases k3 with k3 | k3
   ·exact hv2 k (k3.symm.trans hk)
   ·have := k3 k hk
    simp at this
    omega
open Go.Gl Go.RowKit
theorem key_eqIn (d : Nat) (k a b k' a' b' : Int) (w : World) : (Op.equalIn (d + 2) 173 (.agg #[.int .i64 k, .int .u64 a, .int .u64 b]) (.agg #[.int .i64 k', .int .u64 a', .int .u64 b'])).run Tryz.prog w = .ok (k == k' && (a == a' && b == b')) w := by
 simp [go_sem]
 by_cases h1 : k = k' <;> by_cases h2 : a = a' <;> by_cases h3 : b = b' <;> simp [h1, h2, h3]
theorem key_neq (k a b k' a' b' : Int) (w : World) : (binOp .neq 173 (.agg #[.int .i64 k, .int .u64 a, .int .u64 b]) (.agg #[.int .i64 k', .int .u64 a', .int .u64 b'])).run Tryz.prog w = .ok (.bool (!(k == k' && (a == a' && b == b')))) w := by
 rw [run_neq_struct, key_eqIn 9998]
 rfl
open Go.Gl Go.RowKit
def kuse (c : Bool) (a : Nat) : Int := ((if c then a else 0 : Nat) : Int)
set_option maxHeartbeats 400000 in
theorem used_any (f : KForm) (k : Int) (a b : Nat) (w : World) :
  Calls Tryz.prog 176 #[.agg #[.int .u8 f.head.toNat, .int .u8 f.mid.toNat, .bool f.a, .bool f.b, .bool f.turned], .agg #[.int .i64 k, .int .u64 a, .int .u64 b]] w fun e w' => e = .returned (.agg #[.int .i64 k, .int .u64 (kuse f.a a), .int .u64 (kuse f.b b)]) ∧ Mods noB w w' := by
 obtain ⟨hd, md, fa, fb, ft⟩ := f
 cases fa <;> cases fb
 all_goals
  go_enter Tryz.func176, Tryz.ntmps176
  go_wp2
  go_returns
  exact ⟨rfl, (by repeat' (first | (with_reducible exact Mods.refl _ _) | (with_reducible assumption) | (with_reducible refine Mods.alloc ?_ _) | (with_reducible refine Mods.drew ?_) | (with_reducible refine Mods.drewN ?_ _) | (with_reducible refine Mods.regrown ?_ _ _) | (with_reducible refine Mods.setCell ?_ ?_ _) | (refine .inr ?_; first | (simp; done) | (simp; omega) | omega)))⟩
set_option maxHeartbeats 400000 in
theorem Of_no (n : Int) (w : World) (h : n < 1 ∨ 17 < n) :
  Calls Tryz.prog 112 #[.int .i64 n] w fun e w' => e = .returned (.tuple #[.slice none 0 0, .int .i64 70]) ∧ Mods noB w w' := by
 have H := Lib.hid h
 clear h
 go_enter Tryz.func112, Tryz.ntmps112
 go_wp2_with (go_at_call 175; refine (formOf_no _ _ H.out).mono ?_; rintro e w1 ⟨rfl, hm⟩; unfold fv fcells)
 go_returns
 exact ⟨rfl, (by repeat' (first | (with_reducible exact Mods.refl _ _) | (with_reducible assumption) | (with_reducible refine Mods.alloc ?_ _) | (with_reducible refine Mods.drew ?_) | (with_reducible refine Mods.drewN ?_ _) | (with_reducible refine Mods.regrown ?_ _ _) | (with_reducible refine Mods.setCell ?_ ?_ _) | (refine .inr ?_; first | (simp; done) | (simp; omega) | omega)))⟩
set_option maxHeartbeats 400000 in
theorem Of_yes (k : Nat) (f : KForm) (w : World) (hf : kform k = some f) :
  Calls Tryz.prog 112 #[.int .i64 k] w fun e w' => ∃ v, e = .returned (.tuple #[v, .int .i64 0]) ∧ Gl.Own w' v [f.head] ∧ Mods noB w w' ∧ freshIn w v := by
 have H := Lib.hid hf
 clear hf
 go_enter Tryz.func112, Tryz.ntmps112
 go_wp2_with (go_at_call 175; refine (formOf_yes _ _ _ H.out).mono ?_; rintro e w1 ⟨rfl, hm⟩; unfold fv fcells)
 go_returns
 refine ⟨_, rfl, own_at _ _ (by simp), (by repeat' (first | (with_reducible exact Mods.refl _ _) | (with_reducible assumption) | (with_reducible refine Mods.alloc ?_ _) | (with_reducible refine Mods.drew ?_) | (with_reducible refine Mods.drewN ?_ _) | (with_reducible refine Mods.regrown ?_ _ _) | (with_reducible refine Mods.setCell ?_ ?_ _) | (refine .inr ?_; first | (simp; done) | (simp; omega) | omega))), fun k hk => ?_⟩
 have := hm.size
 simp [Value.ownBlock] at hk
 omega
def KRes (w : World) (xs : List UInt8) (n : Int) (e : Ending) (w' : World) : Prop := ∃ v, e = .returned (.tuple #[v, .int .i64 n]) ∧ Gl.Own w' v xs ∧ Mods noB w w' ∧ freshIn w v
theorem KRes.nil {w w' : World} {n : Int} (hm : Mods noB w w') : KRes w [] n (.returned (.tuple #[.slice none 0 0, .int .i64 n])) w' := ⟨_, rfl, Gl.Own.nil _, hm, fun k hk => by simp [Value.ownBlock] at hk⟩
def kbytes (f : KForm) (a b : Nat) : List UInt8 := kfirst f a ++ if f.b then be 8 b else []
def kfit (f : KForm) (a b : Nat) : Bool := (f.a || decide (a = 0)) && (f.b || decide (b = 0))
set_option maxHeartbeats 400000 in
theorem Make_no1 (n : Int) (a b : Nat) (w : World) (h : n < 1 ∨ 17 < n) :
  Calls Tryz.prog 106 #[.agg #[.int .i64 n, .int .u64 a, .int .u64 b]] w (KRes w [] 70) := by
 have H := Lib.hid h
 clear h
 go_enter Tryz.func106, Tryz.ntmps106
 go_wp2_with (go_at_call 175; refine (formOf_no _ _ H.out).mono ?_; rintro e w1 ⟨rfl, hm⟩; unfold fv fcells)
 refine wp_region_quiet_below (by kernel_rfl) (by kernel_rfl) ?_
 repeat (quiet_step (fail))
 refine wpQuiet_nil ?_
 intro _ hw'
 obtain ⟨⟨dq, osq⟩, hw''⟩ := hw'
 subst hw''
 go_wp2
 go_returns
 have m1 := hm.after
 exact KRes.nil (by repeat' (first | (with_reducible exact Mods.refl _ _) | (with_reducible assumption) | (with_reducible refine Mods.alloc ?_ _) | (with_reducible refine Mods.drew ?_) | (with_reducible refine Mods.drewN ?_ _) | (with_reducible refine Mods.regrown ?_ _ _) | (with_reducible refine Mods.setCell ?_ ?_ _) | (refine .inr ?_; first | (simp; done) | (simp; omega) | omega)))
theorem fit_eq (f : KForm) (k a b : Nat) : (!(((k : Int) == (k : Int)) && (((kuse f.a a) == (a : Int)) && ((kuse f.b b) == (b : Int))))) = !kfit f a b := by
 obtain ⟨hd, md, fa, fb, ft⟩ := f
 cases fa <;> cases fb <;> simp [kfit, kuse] <;> by_cases h1 : a = 0 <;> by_cases h2 : b = 0 <;> simp_all <;> omega
set_option maxHeartbeats 400000 in
theorem Make_no2 (k a b : Nat) (f : KForm) (w : World) (hf : kform k = some f) (hn : kfit f a b = false) :
  Calls Tryz.prog 106 #[.agg #[.int .i64 k, .int .u64 a, .int .u64 b]] w (KRes w [] 70) := by
 have hne := fun w => (key_neq (k : Int) (kuse f.a a) (kuse f.b b) (k : Int) (a : Int) (b : Int) w).trans (by rw [fit_eq, hn])
 have H := Lib.hid hf
 clear hf hn
 obtain ⟨hd, md, fa, fb, ft⟩ := f
 go_enter Tryz.func106, Tryz.ntmps106
 go_wp2_with (go_at_call 175; refine (formOf_yes _ _ _ H.out).mono ?_; rintro e w1 ⟨rfl, hm⟩; unfold fv fcells)
 have m1 := hm.after
 have c1 := hm.cellAt (g := w.heap.size) (by simp) (fun x => x)
 have hz : w.heap.size < w1.heap.size := hm.size_of (by simp)
 have c0 : ∀ o, (w1.alloc (.cells #[.int .u8 hd.toNat, .int .u8 md.toNat, .bool fa, .bool fb, .bool ft] 261)).cell? ⟨w.heap.size, o, none⟩ = #[.int .i64 (k : Int), .int .u64 (a : Int), .int .u64 (b : Int)][o]? := fun o => (World.cell?_alloc_past _ _ _ hz).trans ((c1 o).trans (by simp))
 have c2 := cells_regrown c0 (by simp; omega)
 have c3 := cells_regrown (cells_of (heap_new w1 (.cells #[.int .u8 hd.toNat, .int .u8 md.toNat, .bool fa, .bool fb, .bool ft] 261))) (by simp)
 clear c0 c1
 refine wp_region_quiet_below (by kernel_rfl) (by kernel_rfl) ?_
 repeat (quiet_step ((go_at_call 176; exact Calls.quiet_mods (used_any ⟨hd, md, fa, fb, ft⟩ _ _ _ _))))
 refine wpQuiet_nil ?_
 intro _ hw'
 obtain ⟨⟨dq, osq⟩, hw''⟩ := hw'
 subst hw''
 clear c2 c3
 go_wp2
 go_returns
 exact KRes.nil (by repeat' (first | (with_reducible exact Mods.refl _ _) | (with_reducible assumption) | (with_reducible refine Mods.alloc ?_ _) | (with_reducible refine Mods.drew ?_) | (with_reducible refine Mods.drewN ?_ _) | (with_reducible refine Mods.regrown ?_ _ _) | (with_reducible refine Mods.setCell ?_ ?_ _) | (refine .inr ?_; first | (simp; done) | (simp; omega) | omega)))
set_option maxHeartbeats 400000 in
theorem Make_yes (k a b : Nat) (f : KForm) (w : World) (hf : kform k = some f) (hn : kfit f a b = true) (ha : a ≤ 18446744073709551615) (hb : b ≤ 18446744073709551615) :
  Calls Tryz.prog 106 #[.agg #[.int .i64 k, .int .u64 a, .int .u64 b]] w (KRes w (kbytes f a b) 0) := by
 have hne := fun w => (key_neq (k : Int) (kuse f.a a) (kuse f.b b) (k : Int) (a : Int) (b : Int) w).trans (by rw [fit_eq, hn])
 have H := Lib.hid hf
 clear hf hn
 obtain ⟨hd, md, fa, fb, ft⟩ := f
 go_enter Tryz.func106, Tryz.ntmps106
 go_wp2_with (go_at_call 175; refine (formOf_yes _ _ _ H.out).mono ?_; rintro e w1 ⟨rfl, hm⟩; unfold fv fcells)
 have m1 := hm.after
 have c1 := hm.cellAt (g := w.heap.size) (by simp) (fun x => x)
 have hz : w.heap.size < w1.heap.size := hm.size_of (by simp)
 have c0 : ∀ o, (w1.alloc (.cells #[.int .u8 hd.toNat, .int .u8 md.toNat, .bool fa, .bool fb, .bool ft] 261)).cell? ⟨w.heap.size, o, none⟩ = #[.int .i64 (k : Int), .int .u64 (a : Int), .int .u64 (b : Int)][o]? := fun o => (World.cell?_alloc_past _ _ _ hz).trans ((c1 o).trans (by simp))
 have c2 := cells_regrown c0 (by simp; omega)
 have c3 := cells_regrown (cells_of (heap_new w1 (.cells #[.int .u8 hd.toNat, .int .u8 md.toNat, .bool fa, .bool fb, .bool ft] 261))) (by simp)
 clear c0 c1
 refine wp_region_quiet_below (by kernel_rfl) (by kernel_rfl) ?_
 repeat (quiet_step ((go_at_call 176; exact Calls.quiet_mods (used_any ⟨hd, md, fa, fb, ft⟩ _ _ _ _))))
 refine wpQuiet_nil ?_
 intro _ hw'
 obtain ⟨⟨dq, osq⟩, hw''⟩ := hw'
 subst hw''
 have d2 := c2 dq osq
 have d3 := c3 dq osq
 have hs2 := (mods_regrown (w1.alloc (.cells #[.int .u8 hd.toNat, .int .u8 md.toNat, .bool fa, .bool fb, .bool ft] 261)) dq osq).size
 have m2 := (m1.alloc (.cells #[.int .u8 hd.toNat, .int .u8 md.toNat, .bool fa, .bool fb, .bool ft] 261)).regrown dq osq
 simp only [World.size_alloc] at hs2
 clear c2 c3 hne hm
 generalize Sort.grow _ osq = w2 at *
 go_wp2_with fail
 refine (first_any ⟨hd, md, fa, fb, ft⟩ a _ ha).mono ?_
 rintro e w3 ⟨v, rfl, h1, h2, h3⟩
 have hs3 := h2.size
 have b0 : w.heap.size < w2.heap.size := by omega
 have b1 : w1.heap.size < w2.heap.size := by omega
 have e2 := fun o => (h2.cellAt b0 (fun x => x) o).trans (d2 o)
 have e3 := fun o => (h2.cellAt b1 (fun x => x) o).trans (d3 o)
 clear d2 d3
 go_wp2_with fail
 refine (eight_int _ _ (by omega) (by omega)).mono ?_
 rintro e w4 ⟨rfl, h4⟩
 have hs4 := h4.size
 have f3 := fun o => (h4.cellAt (g := w1.heap.size) (by omega) (fun x => x) o).trans (e3 o)
 have b4 : w1.heap.size < w4.heap.size := by omega
 have m4 := (m2.then0 h2).then0 h4
 have o4 := h1.keep h4 (fun _ _ x => x)
 have fr : freshIn w v := h3.of (by omega)
 clear e2 e3
 cases fb
 ·go_wp2_with (at_builtin; refine stop ?_)
  go_returns
  refine ⟨v, rfl, ?_, m4.alloc _, fr⟩
  simpa [kbytes] using o4.alloc _
 ·go_wp2_with (at_builtin; refine stop ?_)
  unfold Stop
  refine wpList_apb rfl rfl _ _ (o4.alloc _) (rd8 (heap_new _ _)) rfl rfl (by simp [be_length, kfirst]; repeat' split <;> simp [be_length]) ?_
  intro v5 w5 k1 k2 k3
  go_wp2
  go_returns
  refine ⟨v5, rfl, by simpa [kbytes] using k1, (m4.alloc _).trans k2 (fun _ _ x => x) (fun i hi x => by have := fr i x; omega), fun k hk => ?_⟩
  rcases k3 with k3 | k3
  ·exact fr k (k3.symm.trans hk)
  ·have := k3 k hk
   simp at this
   omega
theorem kform_none {n : Int} (h : n < 1 ∨ 17 < n) : kform n.toNat = none := by
 rcases h with h | h
 ·rw [show n.toNat = 0 from by omega]; rfl
 ·obtain ⟨j, hj⟩ : ∃ j, n.toNat = j + 18 := ⟨n.toNat - 18, by omega⟩
  rw [hj]; rfl
def kmake (n : Int) (a b : Nat) : Option (List UInt8) := match kform n.toNat with
 | none => none
 | some f => if kfit f a b then some (kbytes f a b) else none
theorem Make_any (n : Int) (a b : Nat) (w : World) (ha : a ≤ 18446744073709551615) (hb : b ≤ 18446744073709551615) :
  Calls Tryz.prog 106 #[.agg #[.int .i64 n, .int .u64 a, .int .u64 b]] w (KRes w ((kmake n a b).getD []) (if (kmake n a b).isSome then 0 else 70)) := by
 by_cases h : n < 1 ∨ 17 < n
 ·have := Make_no1 n a b w h
  simpa [kmake, kform_none h] using this
 ·obtain ⟨k, rfl⟩ := Int.eq_ofNat_of_zero_le (a := n) (by omega)
  obtain ⟨f, hf, _⟩ := formsV_at k (by omega) (by omega)
  cases hn : kfit f a b
  ·have := Make_no2 k a b f w hf hn
   simpa [kmake, hf, hn] using this
  ·have := Make_yes k a b f w hf hn ha hb
   simpa [kmake, hf, hn] using this
def kof (n : Int) : Option (List UInt8) := (kform n.toNat).map fun f => [f.head]
theorem Of_any (n : Int) (w : World) : Calls Tryz.prog 112 #[.int .i64 n] w (KRes w ((kof n).getD []) (if (kof n).isSome then 0 else 70)) := by
 by_cases h : n < 1 ∨ 17 < n
 ·simpa [kof, kform_none h] using (Of_no n w h).mono fun e w' ⟨he, hm⟩ => by rw [he]; exact KRes.nil hm
 ·obtain ⟨k, rfl⟩ := Int.eq_ofNat_of_zero_le (a := n) (by omega)
  obtain ⟨f, hf, _⟩ := formsV_at k (by omega) (by omega)
  have h1 : Calls Tryz.prog 112 #[.int .i64 k] w (KRes w [f.head] 0) := Of_yes k f w hf
  simpa [kof, hf] using h1
open Go.Gl Go.RowKit
structure Appended (w : World) (v : Value) (xs : List UInt8) (w' : World) (v' : Value) : Prop where
 own : Gl.Own w' v' xs
 mods : Mods (ofV v) w w'
 blk : v'.ownBlock = v.ownBlock ∨ freshIn w v'
theorem Appended.trans {w w1 w2 : World} {v v1 v2 : Value} {xs ys : List UInt8} (h : Appended w v xs w1 v1) (k : Appended w1 v1 ys w2 v2) : Appended w v ys w2 v2 :=
 ⟨k.own, h.mods.trans k.mods (fun _ _ x => x) (fun i hi hx => by
   rcases h.blk with hb | hb
   ·exact hb.symm.trans hx
   ·exact absurd hi (Nat.not_lt.2 (hb i hx))),
  by
   rcases k.blk with kb | kb
   ·rcases h.blk with hb | hb
    ·exact .inl (kb.trans hb)
    ·exact .inr (fun i hi => hb i (kb ▸ hi))
   ·exact .inr (kb.of h.mods.size)⟩
theorem Appended.fresh {w w1 : World} {v v1 : Value} {xs : List UInt8} (h : Appended w v xs w1 v1) {w0 : World} (hs : w0.heap.size ≤ w.heap.size) (hv : freshIn w0 v) : freshIn w0 v1 := by
 rcases h.blk with hb | hb
 ·exact fun i hi => hv i (hb ▸ hi)
 ·exact hb.of hs
theorem Appended.mods0 {w w1 : World} {v v1 : Value} {xs : List UInt8} (h : Appended w v xs w1 v1) {w0 : World} (hm : Mods noB w0 w) (hv : freshIn w0 v) : Mods noB w0 w1 :=
 hm.trans h.mods (fun _ _ x => x) (fun i hi hx => absurd hi (Nat.not_lt.2 (hv i hx)))
theorem shr_byte (x j : Nat) : (x : Int) / 2 ^ (8 * j) % 256 = (((UInt8.ofNat (x / 256 ^ j)).toNat : Nat) : Int) := by
 rw [UInt8.toNat_ofNat', show (256 : Nat) = 2 ^ 8 from rfl, ← Nat.pow_mul]
 simp
set_option maxHeartbeats 1000000 in
theorem Put_any {v : Value} {xs : List UInt8} {w : World} (n x : Nat) (hv : Gl.Own w v xs) (hn : n ≤ 8) (hx : x ≤ 18446744073709551615) (hl : xs.length ≤ 100000000000000) :
  Calls Tryz.prog 199 #[v, .int .i64 n, .int .u64 x] w fun e w' => ∃ v', e = .returned v' ∧ Appended w v (xs ++ be n x) w' v' := by
 obtain ⟨out, hgo⟩ : ∃ out, xs ++ be n x = out := ⟨_, rfl⟩
 have R0 : Hid (Appended w v xs w v ∧ xs ++ be n x = out ∧ xs.length + n ≤ 100000000000008) := ⟨⟨hv, Mods.refl _ _, .inl rfl⟩, hgo, by omega⟩
 rw [hgo]
 clear hv hgo hl
 go_enter Tryz.func199, Tryz.ntmps199
 go_wp2
 go_loopw [0, 7] (fun b k wr => ∃ (j : Nat) (ys : List UInt8), j ≤ 8 ∧ k = .int .i64 ((j : Int) - 1) ∧ Hid (Appended w v ys wr b ∧ ys ++ be j x = out ∧ ys.length + j ≤ 100000000000008)) (fun _ k _ => (intOf k + 1).toNat)
 case atStart => exact ⟨n, xs, hn, rfl, R0⟩
 case round =>
  obtain ⟨j, ys, hj, rfl, hR⟩ := hrel
  clear R0
  rcases j with _ | j
  ·go_wp2
   go_ret
   obtain ⟨h1, h2, h3⟩ := hR.out
   simp only [be, List.append_nil] at h2
   subst h2
   exact ⟨_, rfl, h1⟩
  ·rw [show (((j + 1 : Nat) : Int) - 1) = ((j : Nat) : Int) from by omega]
   have h8 : j ≤ 7 := by omega
   go_wp2_with (at_builtin; refine stop ?_)
   unfold Stop
   rw [shr_byte]
   obtain ⟨h1, h2, h3⟩ := hR.out
   refine wpList_apb rfl rfl ys _ (h1.own.alloc _) (own_at (UInt8.ofNat (x / 256 ^ j)) _ rfl).rd rfl rfl (by simp; omega) ?_
   intro v' w' k1 k2 k3
   have R1 : Hid (Appended w v (ys ++ [UInt8.ofNat (x / 256 ^ j)]) w' v' ∧ (ys ++ [UInt8.ofNat (x / 256 ^ j)]) ++ be j x = out ∧ (ys ++ [UInt8.ofNat (x / 256 ^ j)]).length + j ≤ 100000000000008) :=
    ⟨h1.trans ⟨k1, ((Mods.refl _ _).alloc _).trans k2 (fun _ _ x => x) (fun _ _ x => x), k3.imp_right (fun h => h.of (by simp))⟩, by rw [← h2]; simp [be], by simp; omega⟩
   clear hR h1 h2 h3 k1 k2 k3
   go_wp2
   go_roundw
   case rel => exact ⟨j, _, by omega, rfl, R1⟩
   case measure => simp [intOf]
open Go.Gl Go.RowKit
structure Wr (w : World) (g : Nat) (v : Value) (xs : List UInt8) (e : Int) : Prop where
 heap : w.heap[g]? = some (.cells #[v, .int .i64 e] 311 (0, 0))
 own : Gl.Own w v xs
 apart : v.ownBlock ≠ some g
def WS (g : Nat) (v : Value) : Nat → Prop := fun k => k = g ∨ v.ownBlock = some k
structure WStep (w : World) (g : Nat) (v : Value) (xs : List UInt8) (e : Int) (w' : World) (v' : Value) : Prop where
 wr : Wr w' g v' xs e
 mods : Mods (WS g v) w w'
 blk : v'.ownBlock = v.ownBlock ∨ freshIn w v'
theorem WStep.trans {w w1 w2 : World} {g : Nat} {v v1 v2 : Value} {xs ys : List UInt8} {e e' : Int} (h : WStep w g v xs e w1 v1) (k : WStep w1 g v1 ys e' w2 v2) : WStep w g v ys e' w2 v2 :=
 ⟨k.wr, h.mods.trans k.mods (fun _ _ x => x) (fun i hi hx => by
   rcases hx with hx | hx
   ·exact .inl hx
   ·rcases h.blk with hb | hb
    ·exact .inr (hb.symm.trans hx)
    ·exact absurd hi (Nat.not_lt.2 (hb i hx))),
  by
   rcases k.blk with kb | kb
   ·rcases h.blk with hb | hb
    ·exact .inl (kb.trans hb)
    ·exact .inr (fun i hi => hb i (kb ▸ hi))
   ·exact .inr (kb.of h.mods.size)⟩
theorem WStep.refl {w : World} {g : Nat} {v : Value} {xs : List UInt8} {e : Int} (h : Wr w g v xs e) : WStep w g v xs e w v := ⟨h, Mods.refl _ _, .inl rfl⟩
theorem Wr.lt {w : World} {g : Nat} {v : Value} {xs : List UInt8} {e : Int} (h : Wr w g v xs e) : g < w.heap.size := lt_of_heap h.heap
theorem Wr.set {w w' : World} {g : Nat} {v v' : Value} {xs ys : List UInt8} {e : Int} (h : Wr w g v xs e) (ho : Gl.Own w' v' ys) (hm : Mods (ofV v) w w') (hb : v'.ownBlock = v.ownBlock ∨ freshIn w v') :
  WStep w g v ys e (w'.setCell ⟨g, 0, none⟩ v') v' := by
 have hv' : v'.ownBlock ≠ some g := by
  rcases hb with hb | hb
  ·rw [hb]; exact h.apart
  ·exact hb.not h.lt
 have h1 := hm.heap h.heap (fun x => h.apart x)
 refine ⟨⟨?_, ho.keep ((Mods.refl (fun k => k = g) w').setCell (.inl rfl) v') (fun k hk e => hv' (by rw [hk, e])), hv'⟩, (hm.mono (T := WS g v) (fun i _ x => .inr x)).setCell (.inl (.inl rfl)) v', hb⟩
 have := heap_set h1 0 v'
 simpa using this
open Go.Gl Go.RowKit
attribute [local go_sem ↓] Go.wp_at_zero Go.wp_at_succ
theorem step_apb {ops : Array Oper} {Q : Exit → Act → World → Prop} {K : Act → World → Prop} {E : Prop} {o : Oper} {a : Act} {w : World} {s x : Operand} (hw : Region.wanted o (yielded ops a.tmps) = true)
  (ho : o.op = .call { callee := .builtin .append, args := #[s, x], argTypes := #[91, 91] })
  {v u : Value} (xs ys : List UInt8) (hown : Gl.Own w v xs) (hrd : Rd w u ys) (hs : a.eval s = v) (hx : a.eval x = u) (hlen : xs.length + ys.length ≤ 140737488355328)
  (h : ∀ v' w', Gl.Own w' v' (xs ++ ys) → Mods (ofV v) w w' → (v'.ownBlock = v.ownBlock ∨ freshIn w v') → K (a.put o.dst v') w') :
  if Region.wanted o (yielded ops a.tmps) = true then Oper.wp Tryz.prog o a w K Q else E := by
 rw [if_pos hw]
 obtain ⟨i, hi, hz, hs1, hb1⟩ := info_parts Tryz.infoU8
 obtain ⟨v', w', hr, h2, h3, h4⟩ := run_ap (P := Tryz.prog) 91 91 o.type 5 5 i _ Tryz.underlying91 Tryz.underlying91 hi hz (by rw [hs1]; rfl) (by rw [hs1]; exact hown) (by rw [hs1]; exact hrd) (bv_one _) (by simp only [maxLen]; omega) (by rw [hb1]; omega)
 unfold Oper.wp execOp
 simp only [ho, resolve, invoke, builtin, Sem.run_bind, Sem.run_pure, Result.andThen_ok, List.map_toArray, List.map_cons, List.map_nil, hs, hx, hr]
 refine h v' w' ?_ h3 h4
 rw [hs1] at h2
 unfold Gl.Own
 rw [bv_append, List.length_append]
 exact h2
theorem own_atI (c : UInt8) {z : Int} (hz : z = c.toNat) {w : World} (n : Nat) (hn : n = w.heap.size) : Gl.Own (w.alloc (.cells #[.int .u8 z] 5)) (.slice (some ⟨n, 0, none⟩) 1 1) [c] := by
 subst hz
 exact own_at c n hn
theorem wnum_err {w : World} {g : Nat} {v : Value} {xs : List UInt8} {e : Int} (n x : Nat) (h : Wr w g v xs e) (he : e ≠ 0) :
  Calls Tryz.prog 288 #[.pointer (some ⟨g, 0, none⟩), .int .u64 x, .int .i64 n] w fun r w' => r = .returned (.tuple #[]) ∧ w' = w := by
 have c := cells_of h.heap
 have hb : (e != 0) = true := by simp [he]
 clear h he
 go_enter Tryz.func288, Tryz.ntmps288
 go_wp2
 first | go_end0 | (refine bodyPost_ret (by simp [results, Tryz.results288, go_sem]; try rfl) rfl ?_)
 exact ⟨rfl, rfl⟩
theorem Wr.drewN {w : World} {g : Nat} {v : Value} {xs : List UInt8} {e : Int} (h : Wr w g v xs e) (n : Nat) : Wr (w.drewN n) g v xs e := ⟨h.heap, h.own.quiet ⟨n, rfl⟩, h.apart⟩
theorem Wr.alloc {w : World} {g : Nat} {v : Value} {xs : List UInt8} {e : Int} (h : Wr w g v xs e) (o : Obj) : Wr (w.alloc o) g v xs e := ⟨heap_old h.heap o, h.own.alloc o, h.apart⟩
theorem Wr.drew {w : World} {g : Nat} {v : Value} {xs : List UInt8} {e : Int} (h : Wr w g v xs e) : Wr w.drew g v xs e := ⟨h.heap, h.own.quiet ⟨1, rfl⟩, h.apart⟩
theorem WStep.from {w w1 w2 : World} {g : Nat} {v v2 : Value} {xs : List UInt8} {e : Int} (h : WStep w1 g v xs e w2 v2) (hm : Mods noB w w1) : WStep w g v xs e w2 v2 :=
 ⟨h.wr, hm.trans h.mods (fun _ _ x => x.elim) (fun _ _ x => x), h.blk.imp_right (fun k => k.of hm.size)⟩
set_option maxHeartbeats 2000000 in
theorem wnum_ok {w : World} {g : Nat} {v : Value} {xs : List UInt8} (n x : Nat) (h : Wr w g v xs 0) (hn : n ≤ 8) (hx : x ≤ 18446744073709551615) (hl : xs.length ≤ 100000000000000) :
  Calls Tryz.prog 288 #[.pointer (some ⟨g, 0, none⟩), .int .u64 x, .int .i64 n] w fun r w' => r = .returned (.tuple #[]) ∧ ∃ v', WStep w g v (xs ++ be n x) 0 w' v' := by
 obtain ⟨out, hgo⟩ : ∃ out, xs ++ be n x = out := ⟨_, rfl⟩
 have R0 : Hid (WStep w g v xs 0 w v ∧ xs ++ be n x = out ∧ xs.length + n ≤ 100000000000008) := ⟨WStep.refl h, hgo, by omega⟩
 rw [hgo]
 have c := cells_of h.heap
 clear h hgo hl
 go_enter Tryz.func288, Tryz.ntmps288
 go_wp2
 clear c
 go_loopw [6] (fun k wr => ∃ (j : Nat) (b : Value) (ys : List UInt8), j ≤ 8 ∧ k = .int .i64 ((j : Int) - 1) ∧ Hid (WStep w g v ys 0 wr b ∧ ys ++ be j x = out ∧ ys.length + j ≤ 100000000000008)) (fun k _ => (intOf k + 1).toNat)
 case atStart => exact ⟨n, v, xs, hn, rfl, R0⟩
 case round =>
  obtain ⟨j, b, ys, hj, rfl, hR⟩ := hrel
  clear R0
  rcases j with _ | j
  ·go_wp2
   go_end0
   obtain ⟨h1, h2, h3⟩ := hR.out
   simp only [be, List.append_nil] at h2
   subst h2
   exact ⟨rfl, _, h1⟩
  ·rw [show (((j + 1 : Nat) : Int) - 1) = ((j : Nat) : Int) from by omega]
   have h8 : j ≤ 7 := by omega
   have c := cells_of hR.out.1.wr.heap
   have f := free_of hR.out.1.wr.heap
   go_wp2
   have s1 : IntKind.i64.wrap (8 * (j : Int)) = 8 * (j : Int) := IntWalk.i64_in _ (by omega)
   have s2 : (0 : Int) ≤ 8 * (j : Int) := by omega
   have s3 : (8 * (j : Int)).toNat = 8 * j := by omega
   have hgl := hR.out.1.wr.lt
   have hgn : wr.heap.size ≠ g := by omega
   have hgm : g ≠ wr.heap.size := by omega
   go_region_law ((refine step_apb (by rfl) (by rfl) ys [UInt8.ofNat (x / 256 ^ j)] ?_ ?_ (by rfl) (by rfl) ?_ ?_; (next => exact (hR.out.1.wr.own.quiet ⟨1, rfl⟩).alloc _); (next => exact (own_atI (UInt8.ofNat (x / 256 ^ j)) (shr_byte x j) _ rfl).rd); (next => have := hR.out.2.2; simp; omega); intro v' w' k1 k2 k3; obtain ⟨a', cap', rfl, hm'⟩ := k1.rd.form; have H1 := cells_of (k2.heap (heap_old (w := wr.drew) hR.out.1.wr.heap _) hR.out.1.wr.apart); have F1 := free_of (k2.heap (heap_old (w := wr.drew) hR.out.1.wr.heap _) hR.out.1.wr.apart)))
   all_goals
    have R1 : Hid (WStep w g v (ys ++ [UInt8.ofNat (x / 256 ^ j)]) 0 (w'.setCell ⟨g, 0, none⟩ (.slice a' (ys.length + 1) cap')) (.slice a' (ys.length + 1) cap') ∧ (ys ++ [UInt8.ofNat (x / 256 ^ j)]) ++ be j x = out ∧ (ys ++ [UInt8.ofNat (x / 256 ^ j)]).length + j ≤ 100000000000008) := by
     have hh := hR.out
     refine ⟨hh.1.trans ((((hh.1.wr.drew.alloc _).set (by simpa using k1) k2 (by first | exact k3 | (rw [List.length_append] at k3; exact k3))).from (((Mods.refl noB wr).drew).alloc _))), by rw [← hh.2.1]; simp [be], by have := hh.2.2; simp; omega⟩
    clear hR k1 k2 k3 H1 F1 c f s1 s2 s3
    go_wp2
    go_roundw
    case rel => exact ⟨j, _, _, by omega, rfl, R1⟩
    case measure => simp [intOf]
def wput (e : Int) (xs ys : List UInt8) : List UInt8 := if e = 0 then xs ++ ys else xs
def WRes (w : World) (g : Nat) (v : Value) (xs : List UInt8) (e : Int) (r : Ending) (w' : World) : Prop := r = .returned (.tuple #[]) ∧ ∃ v', WStep w g v xs e w' v'
theorem wnum_any {w : World} {g : Nat} {v : Value} {xs : List UInt8} {e : Int} (n x : Nat) (h : Wr w g v xs e) (hn : n ≤ 8) (hx : x ≤ 18446744073709551615) (hl : xs.length ≤ 100000000000000) :
  Calls Tryz.prog 288 #[.pointer (some ⟨g, 0, none⟩), .int .u64 x, .int .i64 n] w (WRes w g v (wput e xs (be n x)) e) := by
 by_cases he : e = 0
 ·subst he
  exact wnum_ok n x h hn hx hl
 ·refine (wnum_err n x h he).mono ?_
  rintro r w' ⟨rfl, rfl⟩
  rw [wput, if_neg he]
  exact ⟨rfl, _, WStep.refl h⟩
theorem WU8_any {w : World} {g : Nat} {v : Value} {xs : List UInt8} {e : Int} (x : Nat) (h : Wr w g v xs e) (hx : x ≤ 255) (hl : xs.length ≤ 100000000000000) :
  Calls Tryz.prog 309 #[.pointer (some ⟨g, 0, none⟩), .int .u8 x] w (WRes w g v (wput e xs (be 1 x)) e) := by
 have H := Lib.hid h
 clear h
 go_enter Tryz.func309, Tryz.ntmps309
 go_wp2_with (go_at_call 288; refine (wnum_any 1 x H.out (by omega) (by omega) hl).mono ?_; rintro r w' ⟨rfl, hr⟩)
 go_end0
 exact ⟨rfl, hr⟩
theorem WU64_any {w : World} {g : Nat} {v : Value} {xs : List UInt8} {e : Int} (x : Nat) (h : Wr w g v xs e) (hx : x ≤ 18446744073709551615) (hl : xs.length ≤ 100000000000000) :
  Calls Tryz.prog 258 #[.pointer (some ⟨g, 0, none⟩), .int .u64 x] w (WRes w g v (wput e xs (be 8 x)) e) := by
 have H := Lib.hid h
 clear h
 go_enter Tryz.func258, Tryz.ntmps258
 go_wp2_with (go_at_call 288; refine (wnum_any 8 x H.out (by omega) (by omega) hl).mono ?_; rintro r w' ⟨rfl, hr⟩)
 go_end0
 exact ⟨rfl, hr⟩
open Go.Gl Go.RowKit
theorem fails_first {w : World} {g : Nat} {cur : Array Value} {t : TypeId} (c : Nat) (h : w.heap[g]? = some (.cells cur t (0, 0))) (h1 : cur[1]? = some (.int .i64 0)) :
  Calls Tryz.prog 264 #[.pointer (some ⟨g, 0, none⟩), .int .i64 c] w fun r w' => r = .returned (.tuple #[]) ∧ w' = w.setCell ⟨g, 1, none⟩ (.int .i64 c) := by
 have c1 := cells_of h 1
 have f1 := free_of h 1
 rw [h1] at c1
 clear h h1
 go_enter Tryz.func264, Tryz.ntmps264
 go_wp2
 go_end0
 exact ⟨rfl, rfl⟩
theorem fails_then {w : World} {g : Nat} {cur : Array Value} {t : TypeId} {e : Int} (c : Nat) (h : w.heap[g]? = some (.cells cur t (0, 0))) (h1 : cur[1]? = some (.int .i64 e)) (he : e ≠ 0) :
  Calls Tryz.prog 264 #[.pointer (some ⟨g, 0, none⟩), .int .i64 c] w fun r w' => r = .returned (.tuple #[]) ∧ w' = w := by
 have c1 := cells_of h 1
 rw [h1] at c1
 have hb : (e == 0) = false := by simp [he]
 clear h h1 he
 go_enter Tryz.func264, Tryz.ntmps264
 go_wp2
 go_end0
 exact ⟨rfl, rfl⟩
def wfail (e c : Int) : Int := if e = 0 then c else e
theorem Wr.fail {w : World} {g : Nat} {v : Value} {xs : List UInt8} (c : Nat) (h : Wr w g v xs 0) : WStep w g v xs c (w.setCell ⟨g, 1, none⟩ (.int .i64 c)) v :=
 ⟨⟨by have := heap_set h.heap 1 (.int .i64 c); simpa using this, h.own.keep ((Mods.refl (fun k => k = g) w).setCell (.inl rfl) _) (fun k hk e => h.apart (by rw [hk, e])), h.apart⟩, (Mods.refl (WS g v) w).setCell (.inl (.inl rfl)) _, .inl rfl⟩
theorem wout_ok {w : World} {g : Nat} {v : Value} {xs : List UInt8} (h : Wr w g v xs 0) (hl : xs.length ≤ 140737488355328) :
  Calls Tryz.prog 219 #[.pointer (some ⟨g, 0, none⟩)] w fun r w' => ∃ u, r = .returned (.tuple #[u, .int .i64 0]) ∧ Gl.Own w' u xs ∧ Mods noB w w' ∧ freshIn w u := by
 have H := Lib.hid h
 have c := cells_of h.heap
 clear h
 go_enter Tryz.func219, Tryz.ntmps219
 go_wp2_with (at_builtin; refine stop ?_)
 unfold Stop
 refine wpList_apb rfl rfl [] xs (Gl.Own.nil _) H.out.own.rd rfl rfl (by simpa using hl) ?_
 intro v' w' k1 k2 k3
 have R := Lib.hid (And.intro k1 (And.intro k2 k3))
 clear k1 k2 k3
 go_wp2
 go_ret2
 obtain ⟨k1, k2, k3⟩ := R.out
 exact ⟨v', rfl, k1, k2.mono (fun i _ x => (ofV_nil x).elim), by rcases k3 with k3 | k3; exact (fun k hk => by rw [k3] at hk; simp [Value.ownBlock] at hk); exact k3⟩
theorem wout_err {w : World} {g : Nat} {v : Value} {xs : List UInt8} {e : Int} (h : Wr w g v xs e) (he : e ≠ 0) :
  Calls Tryz.prog 219 #[.pointer (some ⟨g, 0, none⟩)] w fun r w' => r = .returned (.tuple #[.slice none 0 0, .int .i64 e]) ∧ Quiet w w' := by
 have c := cells_of h.heap
 have hb : (e != 0) = true := by simp [he]
 clear h he
 go_enter Tryz.func219, Tryz.ntmps219
 go_wp2
 go_quiet (fail)
 go_wp2
 go_ret2
 exact ⟨rfl, _, rfl⟩
def woutB (e : Int) (xs : List UInt8) : List UInt8 := if e = 0 then xs else []
def OutRes (w : World) (xs : List UInt8) (e : Int) (r : Ending) (w' : World) : Prop := ∃ u, r = .returned (.tuple #[u, .int .i64 e]) ∧ Gl.Own w' u (woutB e xs) ∧ Mods noB w w' ∧ freshIn w u
theorem WOut_any {w : World} {g : Nat} {v : Value} {xs : List UInt8} {e : Int} (h : Wr w g v xs e) (hl : xs.length ≤ 140737488355328) :
  Calls Tryz.prog 219 #[.pointer (some ⟨g, 0, none⟩)] w (OutRes w xs e) := by
 by_cases he : e = 0
 ·subst he
  exact wout_ok h hl
 ·refine (wout_err h he).mono ?_
  rintro r w' ⟨rfl, hq⟩
  exact ⟨_, rfl, by rw [woutB, if_neg he]; exact Gl.Own.nil _, hq.mods _, fun k hk => by simp [Value.ownBlock] at hk⟩
open Go.Gl Go.RowKit
structure Grow (W0 : World) (xs : List UInt8) (w : World) (v : Value) : Prop where
 own : Gl.Own w v xs
 mods : Mods noB W0 w
 fresh : freshIn W0 v
theorem freshIn.nil (w : World) : freshIn w (.slice none 0 0) := fun k hk => by simp [Value.ownBlock] at hk
theorem Grow.nil (w : World) : Grow w [] w (.slice none 0 0) := ⟨Gl.Own.nil _, Mods.refl _ _, freshIn.nil _⟩
theorem Grow.then0 {W0 w w1 : World} {xs : List UInt8} {v : Value} (h : Grow W0 xs w v) (hm : Mods noB w w1) : Grow W0 xs w1 v := ⟨h.own.keep hm (fun _ _ x => x), h.mods.then0 hm, h.fresh⟩
theorem Grow.more {W0 w w1 : World} {xs ys : List UInt8} {v v' : Value} (h : Grow W0 xs w v) (ho : Gl.Own w1 v' ys) (hm : Mods (ofV v) w w1) (hb : v'.ownBlock = v.ownBlock ∨ freshIn w v') : Grow W0 ys w1 v' :=
 ⟨ho, h.mods.trans hm (fun _ _ x => x) (fun i hi x => absurd hi (Nat.not_lt.2 (h.fresh i x))), by
  rcases hb with hb | hb
  ·exact fun k hk => h.fresh k (hb ▸ hk)
  ·exact hb.of h.mods.size⟩
theorem Grow.put {W0 w : World} {xs : List UInt8} {v : Value} (h : Grow W0 xs w v) (n x : Nat) (hn : n ≤ 8) (hx : x ≤ 18446744073709551615) (hl : xs.length ≤ 100000000000000) :
  Calls Tryz.prog 199 #[v, .int .i64 n, .int .u64 x] w fun e w' => ∃ v', e = .returned v' ∧ Grow W0 (xs ++ be n x) w' v' :=
 (Put_any n x h.own hn hx hl).mono fun e w' ⟨v', he, ha⟩ => ⟨v', he, h.more ha.own ha.mods ha.blk⟩
theorem own_lit (xs : List UInt8) {w : World} (n len : Nat) (cs : Array Value) (hn : n = w.heap.size) (hl : xs.length = len) (hm : Nat.ble len 1000 = true) (hc : cs.toList = bv xs) : Gl.Own (w.alloc (.cells cs 5)) (.slice (some ⟨n, 0, none⟩) len len) xs := by
 subst hn hl
 have hs : cs.size = xs.length := by rw [← Array.length_toList, hc, bv_length]
 refine ⟨by rw [bv_length, Nat.mul_one], .inr ⟨_, 0, _, _, rfl, heap_new _ _, Nat.le_refl _, by have := Nat.le_of_ble_eq_true hm; simp only [maxLen]; omega, by omega, fun j u hj => ?_⟩⟩
 rw [Nat.zero_add, ← Array.getElem?_toList, hc]
 exact hj
open Go.Gl Go.RowKit
theorem made_get (z : Value) (n j : Nat) (h : j < n) : (madeCells #[z] n)[j]? = some z := by
 unfold madeCells
 simp [h, Nat.mod_one]
end Go.Proofs.YtglkmaalpammcaaGreat
namespace Go.Gl
open Go.RowKit
def RdM {α : Type} (f : α → Value) (w : World) (v : Value) (xs : List α) : Prop := RdG w 1 v xs.length (xs.map f)
def OwnM {α : Type} (e : TypeId) (f : α → Value) (w : World) (v : Value) (xs : List α) : Prop := OwnG w e 1 v xs.length (xs.map f)
theorem OwnM.rd {α : Type} {e : TypeId} {f : α → Value} {w : World} {v : Value} {xs : List α} (h : OwnM e f w v xs) : RdM f w v xs := OwnG.rd h
theorem RdM.nil {α : Type} (f : α → Value) (w : World) : RdM f w (.slice none 0 0) [] := ⟨rfl, .inl ⟨.nil, rfl⟩⟩
theorem OwnM.nil {α : Type} (e : TypeId) (f : α → Value) (w : World) : OwnM e f w (.slice none 0 0) [] := ⟨rfl, .inl ⟨rfl, rfl⟩⟩
theorem RdM.form {α : Type} {f : α → Value} {w : World} {v : Value} {xs : List α} (h : RdM f w v xs) : ∃ a cap, v = .slice a xs.length cap ∧ xs.length ≤ maxLen := RdG.form h
theorem RdM.keep {α : Type} {f : α → Value} {S : Nat → Prop} {w w' : World} {v : Value} {xs : List α} (h : RdM f w v xs) (hm : Mods S w w') (hs : ∀ k, v.ownBlock = some k → ¬ S k) : RdM f w' v xs := RdG.keep h hm hs
theorem OwnM.keep {α : Type} {e : TypeId} {f : α → Value} {S : Nat → Prop} {w w' : World} {v : Value} {xs : List α} (h : OwnM e f w v xs) (hm : Mods S w w') (hs : ∀ k, v.ownBlock = some k → ¬ S k) : OwnM e f w' v xs := OwnG.keep h hm hs
theorem RdM.ltn {α : Type} {f : α → Value} {w : World} {v : Value} {xs : List α} (h : RdM f w v xs) (hn : xs.length ≠ 0) : ∀ k, v.ownBlock = some k → k < w.heap.size := RdG.ltn h hn
theorem RdM.keepL {α : Type} {f : α → Value} {S : Nat → Prop} {w w' : World} {v : Value} {xs : List α} (h : RdM f w v xs) (hm : Mods S w w') (hs : ∀ k, k < w.heap.size → v.ownBlock = some k → ¬ S k) : RdM f w' v xs := RdG.keepL h hm hs
theorem OwnM.lt {α : Type} {e : TypeId} {f : α → Value} {w : World} {v : Value} {xs : List α} (h : OwnM e f w v xs) : ∀ k, v.ownBlock = some k → k < w.heap.size := OwnG.lt h
theorem RdM.open {α : Type} {f : α → Value} {w : World} {v : Value} {xs : List α} (h : RdM f w v xs) :
  (Nil0 v ∧ xs = []) ∨ ∃ g off cap, v = .slice (some ⟨g, off, none⟩) xs.length cap ∧ xs.length ≤ cap ∧ cap ≤ maxLen ∧ (xs.length = 0 ∨ g < w.heap.size) ∧ ∀ i (hi : i < xs.length), w.cell? ⟨g, off + i, none⟩ = some (f xs[i]) := by
 rcases h.2 with ⟨h0, hn⟩ | ⟨g, off, cap, hv, h1, h2, hg, h3⟩
 ·exact .inl ⟨h0, List.eq_nil_of_length_eq_zero hn⟩
 ·exact .inr ⟨g, off, cap, hv, h1, h2, hg, fun i hi => h3 i _ (by simp [hi])⟩
theorem rdM_of {α : Type} {f : α → Value} {w : World} {g off cap n : Nat} {xs : List α} (hn : xs.length = n) (h1 : n ≤ cap) (h2 : cap ≤ maxLen) (h3 : n = 0 ∨ g < w.heap.size) (h4 : ∀ i (hi : i < xs.length), w.cell? ⟨g, off + i, none⟩ = some (f xs[i])) : RdM f w (.slice (some ⟨g, off, none⟩) n cap) xs := by
 subst hn
 refine ⟨by simp, .inr ⟨g, off, cap, rfl, h1, h2, h3, fun j u hj => ?_⟩⟩
 have hj' : j < xs.length := by have := (List.getElem?_eq_some_iff.1 hj).1; simpa using this
 rw [List.getElem?_map, List.getElem?_eq_getElem hj'] at hj
 rw [h4 j hj']
 exact hj
theorem OwnM.open {α : Type} {e : TypeId} {f : α → Value} {w : World} {v : Value} {xs : List α} (h : OwnM e f w v xs) :
  (v = .slice none 0 0 ∧ xs = []) ∨ ∃ g off cap cur, v = .slice (some ⟨g, off, none⟩) xs.length cap ∧ w.heap[g]? = some (.cells cur e (0, 0)) ∧ xs.length ≤ cap ∧ cap ≤ maxLen ∧ off + cap ≤ cur.size ∧ ∀ i (hi : i < xs.length), cur[off + i]? = some (f xs[i]) := by
 rcases h.2 with ⟨rfl, hn⟩ | ⟨g, off, cap, cur, hv, h1, h2, h3, h4, h5⟩
 ·exact .inl ⟨rfl, List.eq_nil_of_length_eq_zero hn⟩
 ·exact .inr ⟨g, off, cap, cur, hv, h1, h2, h3, by omega, fun i hi => h5 i _ (by simp [hi])⟩
theorem ownM_of {α : Type} {e : TypeId} {f : α → Value} {w : World} {g off cap n : Nat} {cur : Array Value} {xs : List α} (hn : xs.length = n) (h1 : w.heap[g]? = some (.cells cur e (0, 0))) (h2 : n ≤ cap) (h3 : cap ≤ maxLen) (h4 : off + cap ≤ cur.size)
  (h5 : ∀ i (hi : i < xs.length), cur[off + i]? = some (f xs[i])) : OwnM e f w (.slice (some ⟨g, off, none⟩) n cap) xs := by
 subst hn
 refine ⟨by simp, .inr ⟨g, off, cap, cur, rfl, h1, h2, h3, by omega, fun j u hj => ?_⟩⟩
 have hj' : j < xs.length := by have := (List.getElem?_eq_some_iff.1 hj).1; simpa using this
 rw [List.getElem?_map, List.getElem?_eq_getElem hj'] at hj
 rw [h5 j hj']
 exact hj
theorem ownM_set {α : Type} {e : TypeId} {f : α → Value} {w : World} {g off cap n : Nat} {xs : List α} (h : OwnM e f w (.slice (some ⟨g, off, none⟩) n cap) xs) (hn : xs.length = n) (k : Nat) (hk : k < n) (x : α) :
  OwnM e f (w.setCell ⟨g, off + k, none⟩ (f x)) (.slice (some ⟨g, off, none⟩) n cap) (xs.set k x) := by
 rcases h.open with ⟨h1, _⟩ | ⟨g', off', cap', cur, h1, h2, h3, h4, h5, h6⟩
 ·cases h1
 ·cases h1
  refine ownM_of (by simp) (heap_set h2 (off + k) (f x)) (by omega) h4 (by simpa using h5) (fun i hi => ?_)
  rw [List.length_set] at hi
  by_cases hik : k = i
  ·subst hik
   simp only [List.getElem_set_self]
   rw [Array.getElem?_setIfInBounds_self_of_lt (by omega)]
  ·rw [List.getElem_set_ne hik, Array.getElem?_setIfInBounds_ne (by omega)]
   exact h6 i hi
abbrev u64 (n : Nat) : Value := .int .u64 n
abbrev RN (w : World) (v : Value) (ls : List Nat) : Prop := RdM u64 w v ls
abbrev ON (e : TypeId) (w : World) (v : Value) (ls : List Nat) : Prop := OwnM e u64 w v ls
def Lim (ls : List Nat) : Prop := ∀ x ∈ ls, x ≤ 18446744073709551615
end Go.Gl
namespace Go.Proofs.YtglkmaalpammcaaGreat
open Go.Gl Go.RowKit
theorem Tryz.infoU64 : (Tryz.prog.info? 22).map (fun i => (i.zero, i.size, i.bytes)) = some (some (.int .u64 0), 1, 8) := by kernel_rfl
theorem u64_one (xs : List Nat) : ∀ u ∈ xs.map u64, u.oneCell' = true := by
 intro u hu
 obtain ⟨b, _, rfl⟩ := List.mem_map.1 hu
 rfl
theorem ownN_made {w : World} (n : Nat) (hn : n ≤ 17592186044416) : ON 22 (w.alloc (.cells (madeCells #[.int .u64 0] n) 22)) (.slice (some ⟨w.heap.size, 0, none⟩) n n) (List.replicate n 0) := by
 refine ownM_of (by simp) (heap_new _ _) (Nat.le_refl _) (by simp only [maxLen]; omega) (by rw [size_madeCells]; omega) (fun i hi => ?_)
 rw [List.length_replicate] at hi
 rw [Nat.zero_add, made_get _ _ _ hi]
 simp
theorem wpList_mkn (t : TypeId) (ht : Tryz.prog.underlying t = some (.slice 22)) {w : World} {ops : Array Oper} {rest : List Oper} {o : Oper} {a : Act} {Q : Exit → Act → World → Prop}
  (hg : o.guard = none) (l c : Operand) (hop : o.op = Op.makeSlice t l c) (kl kc : IntKind) (n : Nat) (hl : a.eval l = .int kl (n : Int)) (hc : a.eval c = .int kc (n : Int)) (hn : n ≤ 17592186044416)
  (hK : ∀ w', ON 22 w' (.slice (some ⟨w.heap.size, 0, none⟩) n n) (List.replicate n 0) → Mods noB w w' → w.heap.size < w'.heap.size → wpList Tryz.prog ops Q rest (a.put o.dst (.slice (some ⟨w.heap.size, 0, none⟩) n n)) w') :
  wpList Tryz.prog ops Q (o :: rest) a w := by
 obtain ⟨i, hi, hz, hs1, hb1⟩ := info_parts Tryz.infoU64
 exact wpList_make_row w hg l c t hop 22 i _ ht hi hz hs1 rfl kl kc n hl hc (by rw [hb1]; omega) (by omega) (hK _ (ownN_made n hn) ((Mods.refl _ _).alloc _) (by simp))
end Go.Proofs.YtglkmaalpammcaaGreat
namespace Go.Gl
def dval (B : Nat) : List Nat → Nat
 | [] => 0
 | d :: ds => d + B * dval B ds
def strip : List Nat → List Nat
 | [] => []
 | d :: ds => if d = 0 ∧ strip ds = [] then [] else d :: strip ds
theorem strip_strip (ds : List Nat) : strip (strip ds) = strip ds := by
  induction ds with
  | nil => rfl
  | cons d ds ih =>
    by_cases h : d = 0 ∧ strip ds = []
    · rw [strip, if_pos h]; rfl
    · rw [strip, if_neg h, strip, ih, if_neg h]
theorem strip_length_le (ds : List Nat) : (strip ds).length ≤ ds.length := by
  induction ds with
  | nil => exact Nat.le_refl _
  | cons d ds ih =>
    unfold strip
    split
    · simp
    · simp only [List.length_cons]
      omega
theorem dval_strip (B : Nat) (ds : List Nat) : dval B (strip ds) = dval B ds := by
  induction ds with
  | nil => rfl
  | cons d ds ih =>
    unfold strip
    split
    · rename_i h
      have := ih
      rw [h.2] at this
      simp only [dval] at this ⊢
      rw [h.1, ← this]
      rfl
    · simp only [dval, ih]
theorem strip_mem {ds : List Nat} {x : Nat} (h : x ∈ strip ds) : x ∈ ds := by
  induction ds with
  | nil => exact h
  | cons d ds ih =>
    unfold strip at h
    split at h
    · cases h
    · rcases List.mem_cons.1 h with h | h
      · exact h ▸ List.mem_cons_self
      · exact List.mem_cons_of_mem _ (ih h)
theorem strip_take (ds : List Nat) : strip ds = ds.take (strip ds).length := by
  induction ds with
  | nil => rfl
  | cons d ds ih =>
    unfold strip
    split
    · rfl
    · rw [List.length_cons, List.take_succ_cons, ← ih]
theorem strip_zero {ds : List Nat} (h : ∀ x ∈ ds, x = 0) : strip ds = [] := by
  induction ds with
  | nil => rfl
  | cons d ds ih =>
    unfold strip
    rw [if_pos ⟨h d List.mem_cons_self, ih (fun x hx => h x (List.mem_cons_of_mem _ hx))⟩]
theorem dval_pos {B : Nat} (hB : 0 < B) {ds : List Nat} (h : strip ds ≠ []) : 0 < dval B ds := by
  induction ds with
  | nil => exact absurd rfl h
  | cons d ds ih =>
    unfold strip at h
    simp only [dval]
    by_cases hd : d = 0
    · have : strip ds ≠ [] := fun e => h (by rw [if_pos ⟨hd, e⟩])
      have := Nat.mul_pos hB (ih this)
      omega
    · omega
theorem digits_inj {B : Nat} (hB : 1 < B) : ∀ (ds es : List Nat), (∀ x ∈ ds, x < B) → (∀ x ∈ es, x < B) → strip ds = ds → strip es = es → dval B ds = dval B es → ds = es := by
  intro ds
  induction ds with
  | nil =>
    intro es _ _ _ h4 h5
    rcases es with _ | ⟨e, es⟩
    · rfl
    · exfalso
      have := dval_pos (B := B) (by omega) (ds := e :: es) (by rw [h4]; simp)
      simp only [dval] at h5 this
      omega
  | cons d ds ih =>
    intro es h1 h2 h3 h4 h5
    rcases es with _ | ⟨e, es⟩
    · exfalso
      have := dval_pos (B := B) (by omega) (ds := d :: ds) (by rw [h3]; simp)
      simp only [dval] at h5 this
      omega
    · have hd := h1 d List.mem_cons_self
      have he := h2 e List.mem_cons_self
      simp only [dval] at h5
      have e1 : d = e := by
        have := congrArg (· % B) h5
        simpa [Nat.add_mul_mod_self_left, Nat.mod_eq_of_lt hd, Nat.mod_eq_of_lt he] using this
      subst e1
      have e2 : dval B ds = dval B es := Nat.eq_of_mul_eq_mul_left (by omega) (Nat.add_left_cancel h5)
      have n1 : strip ds = ds := by
        unfold strip at h3
        split at h3
        · cases h3
        · exact (List.cons.inj h3).2
      have n2 : strip es = es := by
        unfold strip at h4
        split at h4
        · cases h4
        · exact (List.cons.inj h4).2
      rw [ih es (fun x hx => h1 x (List.mem_cons_of_mem _ hx)) (fun x hx => h2 x (List.mem_cons_of_mem _ hx)) n1 n2 e2]
theorem strip_inj {B : Nat} (hB : 1 < B) {ds es : List Nat} (h1 : ∀ x ∈ ds, x < B) (h2 : ∀ x ∈ es, x < B) (h : dval B ds = dval B es) : strip ds = strip es :=
 digits_inj hB _ _ (fun x hx => h1 x (strip_mem hx)) (fun x hx => h2 x (strip_mem hx)) (strip_strip _) (strip_strip _) (by rw [dval_strip, dval_strip, h])
theorem dval_append (B : Nat) (ds es : List Nat) : dval B (ds ++ es) = dval B ds + B ^ ds.length * dval B es := by
  induction ds with
  | nil => simp [dval]
  | cons d ds ih =>
    simp only [List.cons_append, dval, ih, List.length_cons, Nat.pow_succ, Nat.mul_add]
    rw [← Nat.mul_assoc, Nat.mul_comm B (B ^ ds.length), Nat.add_assoc]
theorem dval_lt {B : Nat} {ds : List Nat} (h : ∀ x ∈ ds, x < B) : dval B ds < B ^ ds.length := by
  induction ds with
  | nil => simp [dval]
  | cons d ds ih =>
    have h1 := h d List.mem_cons_self
    have h2 := ih (fun x hx => h x (List.mem_cons_of_mem _ hx))
    simp only [dval, List.length_cons, Nat.pow_succ]
    have h3 : B * (dval B ds + 1) ≤ B * B ^ ds.length := Nat.mul_le_mul_left _ h2
    rw [Nat.mul_add, Nat.mul_one] at h3
    rw [Nat.mul_comm (B ^ ds.length)]
    omega
def ldig (B : Nat) : Nat → Nat → List Nat
 | 0, _ => []
 | n + 1, x => x % B :: ldig B n (x / B)
theorem ldig_length (B n x : Nat) : (ldig B n x).length = n := by
 induction n generalizing x with
 | zero => rfl
 | succ n ih => simp [ldig, ih]
theorem ldig_lt {B : Nat} (hB : 0 < B) (n x : Nat) : ∀ d ∈ ldig B n x, d < B := by
  induction n generalizing x with
  | zero => intro d hd; cases hd
  | succ n ih =>
    intro d hd
    rcases List.mem_cons.1 hd with hd | hd
    · exact hd ▸ Nat.mod_lt _ hB
    · exact ih _ d hd
theorem dval_ldig {B : Nat} (n x : Nat) : dval B (ldig B n x) = x % B ^ n := by
  induction n generalizing x with
  | zero => simp [ldig, dval, Nat.mod_one]
  | succ n ih =>
    rw [ldig, dval, ih, Nat.pow_succ, Nat.mul_comm (B ^ n) B, Nat.mod_mul]
theorem ldig_get (B n x i : Nat) (h : i < n) : (ldig B n x)[i]? = some (x / B ^ i % B) := by
  induction n generalizing x i with
  | zero => omega
  | succ n ih =>
    rcases i with _ | i
    · simp [ldig]
    · rw [ldig, List.getElem?_cons_succ, ih _ _ (by omega), Nat.pow_succ, Nat.mul_comm (B ^ i) B, Nat.div_div_eq_div_mul]
def dig (B x : Nat) : List Nat := strip (ldig B x x)
theorem lt_pow_self {B : Nat} (hB : 1 < B) (x : Nat) : x < B ^ x := Nat.lt_pow_self hB
theorem dval_dig {B : Nat} (hB : 1 < B) (x : Nat) : dval B (dig B x) = x := by
 unfold dig
 rw [dval_strip, dval_ldig, Nat.mod_eq_of_lt (lt_pow_self hB x)]
theorem dig_lt {B : Nat} (hB : 1 < B) (x : Nat) : ∀ d ∈ dig B x, d < B := fun d hd => ldig_lt (by omega) _ _ d (strip_mem hd)
theorem strip_dig {B : Nat} (hB : 1 < B) {ds : List Nat} (h : ∀ x ∈ ds, x < B) : strip ds = dig B (dval B ds) := by
 rw [show dig B (dval B ds) = strip (dig B (dval B ds)) from (strip_strip _).symm]
 exact strip_inj hB h (dig_lt hB _) (dval_dig hB _).symm
theorem dig_ldig {B : Nat} (hB : 1 < B) {n x : Nat} (h : x < B ^ n) : dig B x = strip (ldig B n x) := by
 rw [strip_dig hB (ldig_lt (by omega) n x), dval_ldig, Nat.mod_eq_of_lt h]
theorem strip_last {ds : List Nat} {d : Nat} (h : d ≠ 0) : strip (ds ++ [d]) = ds ++ [d] := by
  induction ds with
  | nil => simp [strip, h]
  | cons e ds ih =>
    rw [List.cons_append, strip, ih, if_neg (by simp)]
theorem strip_append_zero (ds es : List Nat) (h : ∀ x ∈ es, x = 0) : strip (ds ++ es) = strip ds := by
 induction ds with
 | nil => exact strip_zero h
 | cons d ds ih => rw [List.cons_append, strip, ih, strip]
theorem strip_at_end {ls : List Nat} {k : Nat} (hk : k ≤ ls.length) (h0 : ∀ i (hi : i < ls.length), k ≤ i → ls[i] = 0) (h1 : k = 0 ∨ ∃ hk : k - 1 < ls.length, ls[k - 1] ≠ 0) : strip ls = ls.take k := by
 have e : ls = ls.take k ++ ls.drop k := (List.take_append_drop k ls).symm
 have hz : ∀ x ∈ ls.drop k, x = 0 := by
  intro x hx
  obtain ⟨i, hi, rfl⟩ := List.getElem_of_mem hx
  rw [List.getElem_drop]
  exact h0 _ _ (by omega)
 have e1 : strip ls = strip (ls.take k) := by
  conv => lhs; rw [e]
  exact strip_append_zero _ _ hz
 rw [e1]
 rcases h1 with rfl | ⟨hk2, h2⟩
 ·rfl
 ·rcases k with _ | k
  ·rfl
  ·simp only [Nat.add_sub_cancel] at hk2 h2
   rw [List.take_succ_eq_append_getElem hk2]
   exact strip_last h2
end Go.Gl
namespace Go.Proofs.YtglkmaalpammcaaGreat
open Go.Gl Go.RowKit
theorem trim_walk (ax : Option Addr) (nx cx : Nat) (ls : List Nat) (w : World) (hx : ls.length = nx) (hnc : nx ≤ cx) (hcm : cx ≤ 9223372036854775807) (kx : nx = 0 ∨ ∃ g off, ax = some ⟨g, off, none⟩ ∧ ∀ i (hi : i < ls.length), w.cell? ⟨g, off + i, none⟩ = some (u64 ls[i])) :
  Calls Tryz.prog 168 #[.slice ax nx cx] w fun e w' => (∃ k, k ≤ nx ∧ strip ls = ls.take k ∧ e = .returned (.slice ax k k)) ∧ w' = w := by
 have HX := Lib.hid hx
 have KX := Lib.hid kx
 clear hx kx
 go_enter Tryz.func168, Tryz.ntmps168
 go_wp2
 go_loop [3] (fun n => ∃ k : Nat, k ≤ nx ∧ n = .int .i64 k ∧ Hid (∀ i (hi : i < ls.length), k ≤ i → ls[i] = 0)) (fun n => (intOf n).toNat)
 case atStart => exact ⟨nx, Nat.le_refl _, rfl, fun i hi h => by have := HX.out; omega⟩
 case round =>
  obtain ⟨k, hk, rfl, hR⟩ := hrel
  rcases k with _ | j
  ·go_wp2
   go_ret
   exact ⟨⟨0, Nat.zero_le _, strip_at_end (Nat.zero_le _) hR.out (.inl rfl), rfl⟩, rfl⟩
  ·have lj : j < ls.length := by rw [HX.out]; omega
   obtain ⟨g', off, hax, c1⟩ := KX.out.resolve_left (by omega)
   have c2 := c1 j lj
   clear c1 KX
   subst hax
   by_cases hz : ls[j] = 0
   ·rw [hz] at c2
    have HZ := Lib.hid hz
    clear hz
    go_wp2
    go_round
    case rel =>
     refine ⟨j, by omega, by go_num, fun i hi h => ?_⟩
     by_cases he : i = j
     ·subst he; exact HZ.out
     ·exact hR.out i hi (by omega)
    case measure => simp [intOf]
   ·have hb : (((ls[j] : Nat) : Int) == 0) = false := by simp; omega
    have HZ := Lib.hid hz
    generalize hx : ls[j] = x at *
    have HX2 := Lib.hid hx
    clear hz hx
    go_wp2
    go_ret
    exact ⟨⟨j + 1, hk, strip_at_end (by rw [HX.out]; omega) hR.out (.inr ⟨by simpa using lj, by simpa [HX2.out] using HZ.out⟩), rfl⟩, rfl⟩
theorem rtrim_walk (ax : Option Addr) (nx cx : Nat) (ls : List Nat) (w : World) (hx : ls.length = nx) (hnc : nx ≤ cx) (hcm : cx ≤ 9223372036854775807) (kx : nx = 0 ∨ ∃ g off, ax = some ⟨g, off, none⟩ ∧ ∀ i (hi : i < ls.length), w.cell? ⟨g, off + i, none⟩ = some (u64 ls[i])) :
  Calls Tryz.prog 233 #[.slice ax nx cx] w fun e w' => (∃ k, k ≤ nx ∧ strip ls = ls.take k ∧ e = .returned (.slice ax k cx)) ∧ w' = w := by
 have HX := Lib.hid hx
 have KX := Lib.hid kx
 clear hx kx
 go_enter Tryz.func233, Tryz.ntmps233
 go_wp2
 go_loop [3] (fun n => ∃ k : Nat, k ≤ nx ∧ n = .int .i64 k ∧ Hid (∀ i (hi : i < ls.length), k ≤ i → ls[i] = 0)) (fun n => (intOf n).toNat)
 case atStart => exact ⟨nx, Nat.le_refl _, rfl, fun i hi h => by have := HX.out; omega⟩
 case round =>
  obtain ⟨k, hk, rfl, hR⟩ := hrel
  rcases k with _ | j
  ·go_wp2
   go_ret
   exact ⟨⟨0, Nat.zero_le _, strip_at_end (Nat.zero_le _) hR.out (.inl rfl), rfl⟩, rfl⟩
  ·have lj : j < ls.length := by rw [HX.out]; omega
   obtain ⟨g', off, hax, c1⟩ := KX.out.resolve_left (by omega)
   have c2 := c1 j lj
   clear c1 KX
   subst hax
   by_cases hz : ls[j] = 0
   ·rw [hz] at c2
    have HZ := Lib.hid hz
    clear hz
    go_wp2
    go_round
    case rel =>
     refine ⟨j, by omega, by go_num, fun i hi h => ?_⟩
     by_cases he : i = j
     ·subst he; exact HZ.out
     ·exact hR.out i hi (by omega)
    case measure => simp [intOf]
   ·have hb : (((ls[j] : Nat) : Int) == 0) = false := by simp; omega
    have HZ := Lib.hid hz
    generalize hx : ls[j] = x at *
    have HX2 := Lib.hid hx
    clear hz hx
    go_wp2
    go_ret
    exact ⟨⟨j + 1, hk, strip_at_end (by rw [HX.out]; omega) hR.out (.inr ⟨by simpa using lj, by simpa [HX2.out] using HZ.out⟩), rfl⟩, rfl⟩
theorem RN.cells {w : World} {a : Option Addr} {n c : Nat} {ls : List Nat} (h : RN w (.slice a n c) ls) : ls.length = n ∧ n ≤ c ∧ c ≤ 9223372036854775807 ∧ (n = 0 ∨ ∃ g off, a = some ⟨g, off, none⟩ ∧ ∀ i (hi : i < ls.length), w.cell? ⟨g, off + i, none⟩ = some (u64 ls[i])) := by
 rcases RdM.open h with ⟨h1, rfl⟩ | ⟨g, off, cap, h1, h2, h3, h4, h5⟩
 ·obtain ⟨rfl, rfl⟩ := h1.none
  exact ⟨rfl, Nat.le_refl _, by omega, .inl rfl⟩
 ·cases h1
  exact ⟨rfl, h2, by simp only [maxLen] at h3; omega, .inr ⟨g, off, rfl, h5⟩⟩
theorem RN.take {w : World} {a : Option Addr} {n c : Nat} {ls : List Nat} (h : RN w (.slice a n c) ls) (k c' : Nat) (hk : k ≤ n) (hc : k ≤ c') (hc' : c' ≤ maxLen) (hnil : n = 0 → c = 0 → c' = 0) : RN w (.slice a k c') (ls.take k) := by
 rcases RdM.open h with ⟨h1, rfl⟩ | ⟨g, off, cap, h1, h2, h3, h4, h5⟩
 ·obtain ⟨rfl, rfl⟩ := h1.none
  obtain rfl : k = 0 := by omega
  rw [hnil rfl rfl]
  exact ⟨rfl, .inl ⟨h1, rfl⟩⟩
 ·cases h1
  refine rdM_of (by rw [List.length_take]; omega) hc hc' (h4.imp (fun x => by omega) id) (fun i hi => ?_)
  rw [List.getElem_take]
  exact h5 i (by rw [List.length_take] at hi; omega)
def TrimRes (ls : List Nat) (w : World) (v : Value) (e : Ending) (w' : World) : Prop := (∃ v', e = .returned v' ∧ RN w v' (strip ls) ∧ ∀ k, v'.ownBlock = some k → v.ownBlock = some k) ∧ w' = w
theorem ownBlock_slice {a : Option Addr} {n c n' c' k : Nat} (h : (Value.slice a n c).ownBlock = some k) : (Value.slice a n' c').ownBlock = some k := by cases a <;> exact h
theorem trim_any {w : World} {v : Value} {ls : List Nat} (h : RN w v ls) : Calls Tryz.prog 168 #[v] w (TrimRes ls w v) := by
 obtain ⟨a, c, rfl, _⟩ := RdM.form h
 obtain ⟨h1, h2, h3, h4⟩ := RN.cells h
 refine (trim_walk a _ c ls w h1 h2 h3 h4).mono ?_
 rintro e w' ⟨⟨k, hk, hs, rfl⟩, rfl⟩
 rw [TrimRes, hs]
 refine ⟨⟨_, rfl, RN.take h k k hk (Nat.le_refl _) (by simp only [maxLen]; omega) (fun _ _ => by omega), fun i hi => ownBlock_slice hi⟩, rfl⟩
theorem rtrim_any {w : World} {v : Value} {ls : List Nat} (h : RN w v ls) : Calls Tryz.prog 233 #[v] w (TrimRes ls w v) := by
 obtain ⟨a, c, rfl, _⟩ := RdM.form h
 obtain ⟨h1, h2, h3, h4⟩ := RN.cells h
 refine (rtrim_walk a _ c ls w h1 h2 h3 h4).mono ?_
 rintro e w' ⟨⟨k, hk, hs, rfl⟩, rfl⟩
 rw [TrimRes, hs]
 refine ⟨⟨_, rfl, RN.take h k c hk (by omega) (by simp only [maxLen]; omega) (fun _ h => h), fun i hi => ownBlock_slice hi⟩, rfl⟩
def NRes (w : World) (ls : List Nat) (e : Ending) (w' : World) : Prop := ∃ v, e = .returned v ∧ ON 22 w' v ls ∧ Mods noB w w' ∧ freshIn w v
open Go.Shelf
end Go.Proofs.YtglkmaalpammcaaGreat
namespace Go.Gl
theorem dval_snoc (B : Nat) (ds : List Nat) (d : Nat) : dval B (ds ++ [d]) = dval B ds + B ^ ds.length * d := by
 rw [dval_append]; simp [dval]
def blen (N : Nat) : Nat := (dig 256 N).length
def natB (N : Nat) : List UInt8 := be (blen N) N
theorem dig_len {B n N : Nat} (hB : 1 < B) (h1 : N < B ^ (n + 1)) (h2 : B ^ n ≤ N) : (dig B N).length = n + 1 := by
 have hp : 0 < B ^ n := Nat.pow_pos (by omega)
 have hq : N / B ^ n % B ≠ 0 := by
  have h3 : 1 ≤ N / B ^ n := (Nat.one_le_div_iff hp).2 h2
  have h4 : N / B ^ n < B := Nat.div_lt_of_lt_mul (by rw [Nat.pow_succ] at h1; exact h1)
  rw [Nat.mod_eq_of_lt h4]
  omega
 have h5 : ldig B (n + 1) N = (ldig B (n + 1) N).take n ++ [N / B ^ n % B] := by
  have hl := ldig_length B (n + 1) N
  have hg := ldig_get B (n + 1) N n (by omega)
  have hlt : n < (ldig B (n + 1) N).length := by omega
  rw [List.getElem?_eq_getElem hlt] at hg
  have := List.take_succ_eq_append_getElem hlt
  rw [List.take_of_length_le (by omega), Option.some.inj hg] at this
  exact this
 rw [dig_ldig hB h1, h5, strip_last hq]
 simp [ldig_length]
end Go.Gl
namespace Go.Proofs.YtglkmaalpammcaaGreat
open Go.Gl Go.RowKit
end Go.Proofs.YtglkmaalpammcaaGreat
namespace Go.Gl
theorem dval_get {B : Nat} : ∀ (ds : List Nat), (∀ x ∈ ds, x < B) → ∀ (i : Nat) (hi : i < ds.length), dval B ds / B ^ i % B = ds[i] := by
  intro ds
  induction ds with
  | nil => intro _ i hi; simp at hi
  | cons d ds ih =>
    intro h i hi
    have hd := h d List.mem_cons_self
    have hB : 0 < B := by omega
    rcases i with _ | i
    · simp only [dval, Nat.pow_zero, Nat.div_one, List.getElem_cons_zero]
      rw [Nat.add_mul_mod_self_left, Nat.mod_eq_of_lt hd]
    · simp only [dval, List.getElem_cons_succ]
      rw [Nat.pow_succ, Nat.mul_comm (B ^ i) B, ← Nat.div_div_eq_div_mul, Nat.add_mul_div_left _ _ hB, Nat.div_eq_of_lt hd, Nat.zero_add]
      exact ih (fun x hx => h x (List.mem_cons_of_mem _ hx)) i (by simpa using hi)
end Go.Gl
namespace Go.Proofs.YtglkmaalpammcaaGreat
open Go.Gl Go.RowKit
def GRes (w : World) (xs : List UInt8) (e : Ending) (w' : World) : Prop := ∃ v, e = .returned v ∧ Gl.Own w' v xs ∧ Mods noB w w' ∧ freshIn w v
open Go.Gl Go.RowKit
def natL (N : Nat) : List UInt8 := be 1 (blen N) ++ natB N
theorem natB_length (N : Nat) : (natB N).length = blen N := be_length _ _
theorem Wr.then0 {w wy : World} {g : Nat} {v : Value} {xs : List UInt8} {e : Int} (h : Wr w g v xs e) (hm : Mods noB w wy) : Wr wy g v xs e :=
 ⟨hm.heap h.heap (fun x => x), h.own.keep hm (fun _ _ x => x), h.apart⟩
open Go.Gl Go.RowKit
theorem num_take (xs : List UInt8) (k : Nat) (h : k < xs.length) : num (xs.take (k + 1)) = num (xs.take k) * 256 + (xs[k]).toNat := by
 rw [List.take_succ_eq_append_getElem h, num_snoc]
theorem num_take_lt (xs : List UInt8) (k : Nat) (hx : xs.length ≤ 8) (h : k < xs.length) : num (xs.take k) < 72057594037927936 := by
 have := num_lt (xs.take k)
 have h1 : (xs.take k).length ≤ 7 := by rw [List.length_take]; omega
 have h2 : 256 ^ (xs.take k).length ≤ 256 ^ 7 := Nat.pow_le_pow_right (by decide) h1
 have h3 : (256 : Nat) ^ 7 = 72057594037927936 := by decide
 omega
theorem ret_u64 {a b : Int} (h : a = b) : Ending.returned (.int .u64 a) = .returned (.int .u64 b) := by rw [h]
open Go.Gl Go.RowKit
structure RR (w : World) (g : Nat) (vB : Value) (xs : List UInt8) (err : Int) : Prop where
 heap : w.heap[g]? = some (.cells #[vB, .int .i64 err] 249 (0, 0))
 rd : Rd w vB xs
 apart : vB.ownBlock ≠ some g
def rtakeY (n : Nat) (xs : List UInt8) (err : Int) : List UInt8 := if err = 0 then (if n ≤ xs.length then xs.take n else []) else []
def rtakeX (n : Nat) (xs : List UInt8) (err : Int) : List UInt8 := if err = 0 then (if n ≤ xs.length then xs.drop n else xs) else xs
def rtakeE (n : Nat) (xs : List UInt8) (err : Int) : Int := if err = 0 then (if n ≤ xs.length then 0 else 40) else err
structure RStep (w : World) (g : Nat) (vB : Value) (xs : List UInt8) (err : Int) (w' : World) : Prop where
 st : ∃ vB', RR w' g vB' xs err ∧ (∀ k, vB'.ownBlock = some k → vB.ownBlock = some k)
 mods : Mods (fun k => k = g) w w'
theorem Mods.one (w : World) (g o : Nat) (u : Value) : Mods (fun k => k = g) w (w.setCell ⟨g, o, none⟩ u) := (Mods.refl (fun k => k = g) w).setCell (.inl (by rfl)) u
theorem RR.lt {w : World} {g : Nat} {vB : Value} {xs : List UInt8} {err : Int} (h : RR w g vB xs err) : g < w.heap.size := lt_of_heap h.heap
theorem RR.keep {S : Nat → Prop} {w w' : World} {g : Nat} {vB : Value} {xs : List UInt8} {err : Int} (h : RR w g vB xs err) (hm : Mods S w w') (hg : ¬ S g) (hv : ∀ k, vB.ownBlock = some k → ¬ S k) : RR w' g vB xs err :=
 ⟨hm.heap h.heap hg, h.rd.keep hm hv, h.apart⟩
theorem Rd.drop {w : World} {g off n cap : Nat} {xs : List UInt8} (h : Rd w (.slice (some ⟨g, off, none⟩) xs.length cap) xs) (hn : n ≤ xs.length) : Rd w (.slice (if cap = n then some ⟨g, off, none⟩ else some ⟨g, off + n, none⟩) (xs.length - n) (cap - n)) (xs.drop n) := by
 rcases h.open with ⟨h1, _⟩ | ⟨g', off', cap', h1, h2, h3, h4, h5⟩
 ·exact h1.no.elim
 ·cases h1
  by_cases hc : cap = n
  ·rw [if_pos hc]
   obtain rfl : n = xs.length := by omega
   rw [List.drop_length, Nat.sub_self]
   exact ⟨rfl, .inr ⟨g, off, _, rfl, Nat.zero_le _, by omega, .inl rfl, fun j u hj => by simp [bv] at hj⟩⟩
  ·rw [if_neg hc]
   refine ⟨by rw [bv_length, Nat.mul_one], .inr ⟨_, _, _, by rw [List.length_drop], by rw [List.length_drop]; omega, by omega, h4.imp (fun x => by rw [List.length_drop]; omega) id, fun j u hj => ?_⟩⟩
   have hj' : j < (xs.drop n).length := by have := (List.getElem?_eq_some_iff.1 hj).1; simpa [bv_length] using this
   rw [bv_get _ j hj'] at hj
   rw [← hj, Nat.add_assoc, h5 (n + j) (by rw [List.length_drop] at hj'; omega)]
   simp
set_option maxHeartbeats 800000 in
theorem rtake_err {w : World} {g : Nat} {vB : Value} {xs : List UInt8} {err : Int} (n : Nat) (h : RR w g vB xs err) (he : err ≠ 0) :
  Calls Tryz.prog 230 #[.pointer (some ⟨g, 0, none⟩), .int .i64 n] w fun e w' => e = .returned (.slice none 0 0) ∧ w' = w := by
 have c := cells_of h.heap
 have hb : (err == 0) = false := by simp [he]
 have hb2 : (err != 0) = true := by simp [he]
 clear h he
 go_enter Tryz.func230, Tryz.ntmps230
 go_wp2
 go_ret
 exact ⟨rfl, rfl⟩
set_option maxHeartbeats 800000 in
theorem rtake_short {w : World} {g : Nat} {vB : Value} {xs : List UInt8} (n : Nat) (h : RR w g vB xs 0) (hn : xs.length < n) (hm : n ≤ 9223372036854775807) :
  Calls Tryz.prog 230 #[.pointer (some ⟨g, 0, none⟩), .int .i64 n] w fun e w' => e = .returned (.slice none 0 0) ∧ RStep w g vB xs 40 w' := by
 obtain ⟨a, ca, rfl, h1⟩ := h.rd.form
 have c := cells_of h.heap
 have f := free_of h.heap
 have R := Lib.hid h
 clear h
 generalize hx : xs.length = len at *
 have HX := Lib.hid hx
 clear hx h1
 go_enter Tryz.func230, Tryz.ntmps230
 go_wp2
 go_ret
 have hh := heap_set R.out.heap 1 (.int .i64 40)
 refine ⟨rfl, ⟨_, ⟨by simpa using hh, R.out.rd.keep (Mods.one _ _ _ _) (fun k hk e => R.out.apart (by rw [hk, e])), R.out.apart⟩, fun _ x => x⟩, Mods.one _ _ _ _⟩
theorem RR.setB {w : World} {g : Nat} {vB : Value} {xs : List UInt8} {err : Int} (h : RR w g vB xs err) (v : Value) : (w.setCell ⟨g, 0, none⟩ v).heap[g]? = some (.cells #[v, .int .i64 err] 249 (0, 0)) := by
 have hh := heap_set h.heap 0 v
 simpa using hh
theorem RR.setE {w : World} {g : Nat} {vB : Value} {xs : List UInt8} {err : Int} (h : RR w g vB xs err) (n : Int) : (w.setCell ⟨g, 1, none⟩ (.int .i64 n)).heap[g]? = some (.cells #[vB, .int .i64 n] 249 (0, 0)) := by
 have hh := heap_set h.heap 1 (.int .i64 n)
 simpa using hh
theorem rtake_end {w : World} {g gb off off' ca ca' m : Nat} {xs : List UInt8} {n : Nat} (R : RR w g (.slice (some ⟨gb, off, none⟩) xs.length ca) xs 0) (hn : n ≤ xs.length) (r3 : Rd w (.slice (some ⟨gb, off', none⟩) m ca') (xs.drop n)) :
  ∃ v, Ending.returned (.slice (some ⟨gb, off, none⟩) n ca) = .returned v ∧ Rd (w.setCell ⟨g, 0, none⟩ (.slice (some ⟨gb, off', none⟩) m ca')) v (xs.take n) ∧ (∀ k, v.ownBlock = some k → (Value.slice (some ⟨gb, off, none⟩) xs.length ca).ownBlock = some k) ∧ RStep w g (.slice (some ⟨gb, off, none⟩) xs.length ca) (xs.drop n) 0 (w.setCell ⟨g, 0, none⟩ (.slice (some ⟨gb, off', none⟩) m ca')) := by
 have hne : gb ≠ g := fun e => R.apart (by rw [e]; rfl)
 refine ⟨_, rfl, (R.rd.take hn).keep (Mods.one _ _ _ _) (fun k hk e => ?_), fun k hk => by simpa [Value.ownBlock] using hk, ⟨_, ⟨R.setB _, r3.keep (Mods.one _ _ _ _) (fun k hk e => ?_), fun e => ?_⟩, fun k hk => by simpa [Value.ownBlock] using hk⟩, Mods.one _ _ _ _⟩
 ·simp [Value.ownBlock] at hk; omega
 ·simp [Value.ownBlock] at hk; omega
 ·simp [Value.ownBlock] at e; omega
set_option maxHeartbeats 800000 in
theorem rtake_ok {w : World} {g : Nat} {vB : Value} {xs : List UInt8} (n : Nat) (h : RR w g vB xs 0) (hn : n ≤ xs.length) :
  Calls Tryz.prog 230 #[.pointer (some ⟨g, 0, none⟩), .int .i64 n] w fun e w' => ∃ v, e = .returned v ∧ Rd w' v (xs.take n) ∧ (∀ k, v.ownBlock = some k → vB.ownBlock = some k) ∧ RStep w g vB (xs.drop n) 0 w' := by
 rcases h.rd.open with ⟨h0, rfl⟩ | ⟨gb, off, ca, rfl, h1, h2, h3, _⟩
 ·obtain ⟨a0, rfl⟩ := h0.form
  obtain rfl : n = 0 := by simpa using hn
  have c := cells_of h.heap
  have f := free_of h.heap
  have R := Lib.hid h
  clear h hn
  go_enter Tryz.func230, Tryz.ntmps230
  go_wp2
  go_ret
  have hh := heap_set R.out.heap 0 (.slice a0 0 0)
  refine ⟨_, rfl, R.out.rd.any, fun _ x => x, ⟨_, ⟨by simpa using hh, R.out.rd.any, R.out.apart⟩, fun _ x => x⟩, Mods.one _ _ _ _⟩
 ·have hm : ca ≤ 9223372036854775807 := by simp only [maxLen] at h2; omega
  have r2 := Rd.drop h.rd hn
  by_cases hcn : ca = n
  ·subst hcn
   rw [if_pos rfl, Nat.sub_self, show xs.length - ca = 0 from by omega] at r2
   have c := cells_of h.heap
   have f := free_of h.heap
   have R := Lib.hid (And.intro h r2)
   clear h h2 h3 r2
   go_enter Tryz.func230, Tryz.ntmps230
   go_wp2
   go_ret
   exact rtake_end R.out.1 hn R.out.2
  ·rw [if_neg hcn] at r2
   have c := cells_of h.heap
   have f := free_of h.heap
   have R := Lib.hid (And.intro h r2)
   clear h h2 h3 r2
   go_enter Tryz.func230, Tryz.ntmps230
   go_wp2
   go_ret
   exact rtake_end R.out.1 hn R.out.2
theorem rtake_any {w : World} {g : Nat} {vB : Value} {xs : List UInt8} {err : Int} (n : Nat) (h : RR w g vB xs err) (hm : n ≤ 9223372036854775807) :
  Calls Tryz.prog 230 #[.pointer (some ⟨g, 0, none⟩), .int .i64 n] w fun e w' => ∃ v, e = .returned v ∧ Rd w' v (rtakeY n xs err) ∧ RStep w g vB (rtakeX n xs err) (rtakeE n xs err) w' := by
 unfold rtakeX rtakeY rtakeE
 by_cases he : err = 0
 ·subst he
  by_cases hn : n ≤ xs.length
  ·simp only [if_true, hn]
   exact (rtake_ok n h hn).mono fun e w' ⟨v, he, hr, _, hs⟩ => ⟨v, he, hr, hs⟩
  ·simp only [if_true, hn, if_false]
   exact (rtake_short n h (by omega) hm).mono fun e w' ⟨he, hs⟩ => ⟨_, he, Rd.nil _, hs⟩
 ·simp only [he, if_false]
  exact (rtake_err n h he).mono fun e w' ⟨hr, hw⟩ => by subst hw; exact ⟨_, hr, Rd.nil _, ⟨vB, h, fun _ x => x⟩, Mods.refl _ _⟩
set_option maxHeartbeats 800000 in
theorem rU_any {w : World} {g : Nat} {vB : Value} {xs : List UInt8} {err : Int} (n : Nat) (h : RR w g vB xs err) (hm : n ≤ 8) :
  Calls Tryz.prog 165 #[.pointer (some ⟨g, 0, none⟩), .int .i64 n] w fun e w' => e = .returned (.int .u64 (num (rtakeY n xs err))) ∧ RStep w g vB (rtakeX n xs err) (rtakeE n xs err) w' := by
 have hy : (rtakeY n xs err).length ≤ 8 := by
  unfold rtakeY
  repeat' split
  ·rw [List.length_take]; omega
  ·simp
  ·simp
 go_enter Tryz.func165, Tryz.ntmps165
 go_wp2_with fail
 refine (rtake_any n h (by omega)).mono ?_
 rintro e w1 ⟨v, rfl, hr, hs⟩
 obtain ⟨ax, cx, rfl, h1, h2⟩ := Rd.at hr
 have HS := Lib.hid hs
 have KX := Lib.hid h2
 generalize hys : rtakeY n xs err = ys at *
 have HY := Lib.hid hys
 clear hr hs h2 h h1 hys
 obtain ⟨nx, hnx⟩ : ∃ nx, ys.length = nx := ⟨_, rfl⟩
 have KX : Hid (nx = 0 ∨ ∃ g off, ax = some ⟨g, off, none⟩ ∧ ∀ i (hi : i < ys.length), w1.cell? ⟨g, off + i, none⟩ = some (.int .u8 (ys[i]).toNat)) := by
  rcases KX.out with h | h
  ·exact .inl (by omega)
  ·exact .inr h
 rw [hnx] at hy ⊢
 have HX := Lib.hid hnx
 clear hnx
 go_wp2
 go_loop [6, 7] (fun x i => ∃ k : Nat, k ≤ nx ∧ i = .int .i64 k ∧ x = .int .u64 (num (ys.take k))) (fun _ i => nx - (intOf i).toNat)
 case atStart => exact ⟨0, Nat.zero_le _, rfl, rfl⟩
 case round =>
  obtain ⟨k, hk, rfl, rfl⟩ := hrel
  by_cases hlt : k < nx
  ·have lx : k < ys.length := by rw [HX.out]; exact hlt
   obtain ⟨g', off, hax, c1⟩ := KX.out.resolve_left (by omega)
   have c2 := c1 k lx
   have hb := (ys[k]).toNat_lt
   have hb0 : (0 : Int) ≤ ((ys[k]).toNat : Int) := by omega
   have hn := num_take_lt ys k (by rw [HX.out]; exact hy) lx
   have ht := Lib.hid (num_take ys k lx)
   clear c1 KX
   subst hax
   generalize hz : num (ys.take k) = z at *
   have HZ := Lib.hid hz
   clear hz
   have hz1 : ((z : Nat) : Int) < 72057594037927936 := by omega
   go_wp2
   go_round
   case rel =>
    refine ⟨k + 1, by omega, by go_num, ?_⟩
    rw [shl_or_u64 _ _ (by omega) hz1 hb0 (by omega), ht.out]
    simp
   case measure => simp [intOf]; omega
  ·obtain rfl : k = nx := by omega
   go_wp2
   go_ret
   refine ⟨ret_u64 ?_, HS.out⟩
   rw [List.take_of_length_le (by rw [HX.out]; omega), HY.out]
open Go.Gl Go.RowKit
structure Rr (w : World) (g : Nat) (v : Value) (xs : List UInt8) (e : Int) : Prop where
 heap : w.heap[g]? = some (.cells #[v, .int .i64 e] 357 (0, 0))
 rd : Rd w v xs
 apart : v.ownBlock ≠ some g
 blt : ∀ k, v.ownBlock = some k → k < w.heap.size
structure RStp (w : World) (g : Nat) (v : Value) (xs : List UInt8) (e : Int) (w' : World) (v' : Value) : Prop where
 rr : Rr w' g v' xs e
 mods : Mods (fun k => k = g) w w'
 blk : ∀ k, v'.ownBlock = some k → v.ownBlock = some k
theorem Rr.lt {w : World} {g : Nat} {v : Value} {xs : List UInt8} {e : Int} (h : Rr w g v xs e) : g < w.heap.size := lt_of_heap h.heap
theorem Rr.keep {S : Nat → Prop} {w w' : World} {g : Nat} {v : Value} {xs : List UInt8} {e : Int} (h : Rr w g v xs e) (hm : Mods S w w') (hg : ¬ S g) (hv : ∀ k, v.ownBlock = some k → ¬ S k) : Rr w' g v xs e :=
 ⟨hm.heap h.heap hg, h.rd.keep hm hv, h.apart, fun k hk => Nat.lt_of_lt_of_le (h.blt k hk) hm.size⟩
theorem RStp.refl {w : World} {g : Nat} {v : Value} {xs : List UInt8} {e : Int} (h : Rr w g v xs e) : RStp w g v xs e w v := ⟨h, Mods.refl _ _, fun _ x => x⟩
theorem RStp.trans {w w1 w2 : World} {g : Nat} {v v1 v2 : Value} {xs ys : List UInt8} {e e' : Int} (h : RStp w g v xs e w1 v1) (k : RStp w1 g v1 ys e' w2 v2) : RStp w g v ys e' w2 v2 :=
 ⟨k.rr, h.mods.trans k.mods (fun _ _ x => x) (fun _ _ x => x), fun i hi => h.blk i (k.blk i hi)⟩
theorem Rr.fail {w : World} {g : Nat} {v : Value} {xs : List UInt8} (c : Nat) (h : Rr w g v xs 0) : RStp w g v xs c (w.setCell ⟨g, 1, none⟩ (.int .i64 c)) v :=
 ⟨⟨by have := heap_set h.heap 1 (.int .i64 c); simpa using this, h.rd.keep (Mods.one _ _ _ _) (fun k hk e => h.apart (by rw [hk, e])), h.apart, fun k hk => by have := h.blt k hk; simpa [World.setCell] using this⟩, Mods.one _ _ _ _, fun _ x => x⟩
theorem Rr.set {w : World} {g gb off off' ca ca' n m : Nat} {xs ys : List UInt8} {e : Int} (h : Rr w g (.slice (some ⟨gb, off, none⟩) n ca) xs e) (hr : Rd w (.slice (some ⟨gb, off', none⟩) m ca') ys) :
  RStp w g (.slice (some ⟨gb, off, none⟩) n ca) ys e (w.setCell ⟨g, 0, none⟩ (.slice (some ⟨gb, off', none⟩) m ca')) (.slice (some ⟨gb, off', none⟩) m ca') := by
 have hne : gb ≠ g := fun e => h.apart (by rw [e]; rfl)
 refine ⟨⟨?_, hr.keep (Mods.one _ _ _ _) (fun k hk e => ?_), fun e => ?_, fun k hk => by have := h.blt k hk; simpa [World.setCell] using this⟩, Mods.one _ _ _ _, fun k hk => by simpa [Value.ownBlock] using hk⟩
 ·have := heap_set h.heap 0 (.slice (some ⟨gb, off', none⟩) m ca')
  simpa using this
 ·simp [Value.ownBlock] at hk; omega
 ·simp [Value.ownBlock] at e; omega
def RRes (u : Value) (w : World) (g : Nat) (v : Value) (xs : List UInt8) (e : Int) (r : Ending) (w' : World) : Prop := r = .returned u ∧ ∃ v', RStp w g v xs e w' v'
theorem rfails_any {w : World} {g : Nat} {v : Value} {xs : List UInt8} {e : Int} (c : Nat) (h : Rr w g v xs e) :
  Calls Tryz.prog 264 #[.pointer (some ⟨g, 0, none⟩), .int .i64 c] w (RRes (.tuple #[]) w g v xs (wfail e c)) := by
 by_cases he : e = 0
 ·subst he
  refine (fails_first c h.heap rfl).mono ?_
  rintro r w' ⟨rfl, rfl⟩
  exact ⟨rfl, _, h.fail c⟩
 ·refine (fails_then c h.heap rfl he).mono ?_
  rintro r w' ⟨rfl, rfl⟩
  rw [wfail, if_neg he]
  exact ⟨rfl, _, RStp.refl h⟩
theorem NewReader_any {w : World} {u : Value} {xs : List UInt8} (hu : Rd w u xs) (hl : xs.length ≤ 140737488355328) :
  Calls Tryz.prog 228 #[u] w fun r w' => ∃ g v, r = .returned (.pointer (some ⟨g, 0, none⟩)) ∧ Rr w' g v xs 0 ∧ Mods noB w w' ∧ w.heap.size ≤ g ∧ freshIn w v := by
 have H := Lib.hid hu
 clear hu
 go_enter Tryz.func228, Tryz.ntmps228
 go_wp2_with (at_builtin; refine stop ?_)
 unfold Stop
 refine wpList_apb rfl rfl [] xs (Gl.Own.nil _) H.out rfl rfl (by simpa using hl) ?_
 intro v' w' k1 k2 k3
 have hm : Mods noB w w' := k2.mono (fun i _ x => (ofV_nil x).elim)
 have hf : freshIn w v' := by rcases k3 with k3 | k3; exact (fun k hk => by rw [k3] at hk; simp [Value.ownBlock] at hk); exact k3
 obtain ⟨a', c', rfl, hc'⟩ := k1.rd.form
 have R := Lib.hid (And.intro k1 (And.intro hm hf))
 clear k1 k2 k3 hm hf
 go_wp2
 go_ret
 obtain ⟨k1, k2, k3⟩ := R.out
 refine ⟨_, _, rfl, ⟨heap_new _ _, k1.rd.alloc _, fun e => ?_, fun k hk => by have := k1.lt k hk; simp; omega⟩, k2.alloc _, k2.size, k3⟩
 have := k1.lt _ e
 omega
def rtake (n : Nat) (xs : List UInt8) (e : Int) : Nat := if e = 0 then (if n ≤ xs.length then num (xs.take n) else 0) else 0
def rok (n : Nat) (xs : List UInt8) (e : Int) : Bool := decide (e = 0) && decide (n ≤ xs.length)
def rerr (n : Nat) (xs : List UInt8) (e : Int) : Int := if e = 0 then (if n ≤ xs.length then 0 else 40) else e
def rleft (n : Nat) (xs : List UInt8) (e : Int) : List UInt8 := if e = 0 then (if n ≤ xs.length then xs.drop n else xs) else xs
theorem peek_err {w : World} {g : Nat} {v : Value} {xs : List UInt8} {e : Int} (n : Nat) (h : Rr w g v xs e) (he : e ≠ 0) :
  Calls Tryz.prog 304 #[.pointer (some ⟨g, 0, none⟩), .int .i64 n] w fun r w' => r = .returned (.tuple #[.int .u64 0, .bool false]) ∧ w' = w := by
 have c := cells_of h.heap
 have hb : (e == 0) = false := by simp [he]
 have hb2 : (e != 0) = true := by simp [he]
 clear h he
 go_enter Tryz.func304, Tryz.ntmps304
 go_wp2
 go_ret2
 exact ⟨rfl, rfl⟩
theorem peek_short {w : World} {g : Nat} {v : Value} {xs : List UInt8} (n : Nat) (h : Rr w g v xs 0) (hn : xs.length < n) (hm : n ≤ 9223372036854775807) :
  Calls Tryz.prog 304 #[.pointer (some ⟨g, 0, none⟩), .int .i64 n] w (RRes (.tuple #[.int .u64 0, .bool false]) w g v xs 40) := by
 obtain ⟨a, ca, rfl, h1⟩ := h.rd.form
 have c := cells_of h.heap
 have f := free_of h.heap
 have R := Lib.hid h
 clear h
 generalize hx : xs.length = len at *
 have HX := Lib.hid hx
 clear hx h1
 go_enter Tryz.func304, Tryz.ntmps304
 go_wp2_with fail
 refine (rfails_any 40 R.out).mono ?_
 rintro r w1 ⟨rfl, v1, hs⟩
 have c' := cells_of hs.rr.heap
 have HS := Lib.hid hs
 clear hs
 go_wp2
 go_ret2
 exact ⟨rfl, _, HS.out⟩
open Go.Gl Go.RowKit
set_option maxHeartbeats 800000 in
theorem peek_walk {w : World} {g gb off ca len : Nat} {xs : List UInt8} (n : Nat) (h : Rr w g (.slice (some ⟨gb, off, none⟩) len ca) xs 0) (hlen : xs.length = len) (hn1 : 1 ≤ n) (hn : n ≤ len) (hm : n ≤ 8) (hca : len ≤ ca) (hcm : ca ≤ 9223372036854775807) :
  Calls Tryz.prog 304 #[.pointer (some ⟨g, 0, none⟩), .int .i64 n] w fun r w' => r = .returned (.tuple #[.int .u64 (num (xs.take n)), .bool true]) ∧ w' = w := by
 have c := cells_of h.heap
 have cc : ∀ k, (hk : k < (xs.take n).length) → w.cell? ⟨gb, off + k, none⟩ = some (.int .u8 ((xs.take n)[k]).toNat) := by
  intro k hk
  rw [List.length_take] at hk
  rcases h.rd.open with ⟨h1, _⟩ | ⟨g', off', cap', h1, _, _, _, h5⟩
  ·exact h1.no.elim
  ·cases h1
   rw [List.getElem_take]
   exact h5 k (by omega)
 have hy8 : (xs.take n).length = n := by rw [List.length_take]; omega
 generalize xs.take n = ys at *
 have HX := Lib.hid hy8
 have KX := Lib.hid cc
 clear h cc hlen hy8
 go_enter Tryz.func304, Tryz.ntmps304
 go_wp2
 go_loop [6, 43] (fun x i => ∃ k : Nat, k ≤ n ∧ i = .int .i64 k ∧ x = .int .u64 (num (ys.take k))) (fun _ i => n - (intOf i).toNat)
 case atStart => exact ⟨0, Nat.zero_le _, rfl, rfl⟩
 case round =>
  obtain ⟨k, hk, rfl, rfl⟩ := hrel
  by_cases hlt : k < n
  ·have lx : k < ys.length := by rw [HX.out]; exact hlt
   have c2 := KX.out k lx
   have hb := (ys[k]).toNat_lt
   have hb0 : (0 : Int) ≤ ((ys[k]).toNat : Int) := by omega
   have hnl := num_take_lt ys k (by rw [HX.out]; exact hm) lx
   have ht := Lib.hid (num_take ys k lx)
   clear KX
   generalize hz : num (ys.take k) = z at *
   have HZ := Lib.hid hz
   clear hz
   have hz1 : ((z : Nat) : Int) < 72057594037927936 := by omega
   go_wp2
   go_round
   case rel =>
    refine ⟨k + 1, by omega, by go_num, ?_⟩
    rw [shl_or_u64 _ _ (by omega) hz1 hb0 (by omega), ht.out]
    simp
   case measure => simp [intOf]; omega
  ·obtain rfl : k = n := by omega
   go_wp2
   go_ret2
   have e : num (ys.take k) = num ys := by rw [List.take_of_length_le (by rw [HX.out]; omega)]
   exact ⟨congrArg (fun z : Nat => Ending.returned (.tuple #[.int .u64 z, .bool true])) e, rfl⟩
theorem peek_ok {w : World} {g : Nat} {v : Value} {xs : List UInt8} (n : Nat) (h : Rr w g v xs 0) (hn1 : 1 ≤ n) (hn : n ≤ xs.length) (hm : n ≤ 8) :
  Calls Tryz.prog 304 #[.pointer (some ⟨g, 0, none⟩), .int .i64 n] w fun r w' => r = .returned (.tuple #[.int .u64 (num (xs.take n)), .bool true]) ∧ w' = w := by
 rcases h.rd.open with ⟨_, rfl⟩ | ⟨gb, off, ca, rfl, h1, h2, h3, _⟩
 ·simp at hn; omega
 ·exact peek_walk n h rfl hn1 hn hm h1 (by simp only [maxLen] at h2; omega)
theorem peek_any {w : World} {g : Nat} {v : Value} {xs : List UInt8} {e : Int} (n : Nat) (h : Rr w g v xs e) (hn1 : 1 ≤ n) (hm : n ≤ 8) :
  Calls Tryz.prog 304 #[.pointer (some ⟨g, 0, none⟩), .int .i64 n] w (RRes (.tuple #[.int .u64 (rtake n xs e), .bool (rok n xs e)]) w g v xs (rerr n xs e)) := by
 by_cases he : e = 0
 ·subst he
  by_cases hn : n ≤ xs.length
  ·refine (peek_ok n h hn1 hn hm).mono ?_
   rintro r w' ⟨rfl, rfl⟩
   simp only [rtake, rok, rerr, hn, if_true]
   exact ⟨rfl, _, RStp.refl h⟩
  ·refine (peek_short n h (by omega) (by omega)).mono ?_
   rintro r w' hr
   simp only [rtake, rok, rerr, hn, if_true, if_false]
   exact hr
 ·refine (peek_err n h he).mono ?_
  rintro r w' ⟨rfl, rfl⟩
  simp only [rtake, rok, rerr, he, if_false]
  exact ⟨rfl, _, RStp.refl h⟩
theorem rnum_no {w : World} {g : Nat} {v : Value} {xs : List UInt8} {e : Int} (n : Nat) (h : Rr w g v xs e) (hn1 : 1 ≤ n) (hm : n ≤ 8) (hk : rok n xs e = false) :
  Calls Tryz.prog 289 #[.pointer (some ⟨g, 0, none⟩), .int .i64 n] w (RRes (.int .u64 (rtake n xs e)) w g v xs (rerr n xs e)) := by
 have H := Lib.hid h
 have HK := Lib.hid hk
 clear h hk
 go_enter Tryz.func289, Tryz.ntmps289
 go_wp2_with fail
 refine (peek_any n H.out hn1 hm).mono ?_
 rw [HK.out]
 rintro r w1 ⟨rfl, v1, h1⟩
 have H1 := Lib.hid h1
 clear h1
 go_wp2
 go_ret
 exact ⟨rfl, v1, H1.out⟩
set_option maxHeartbeats 800000 in
theorem rnum_ok {w : World} {g : Nat} {v : Value} {xs : List UInt8} (n : Nat) (h : Rr w g v xs 0) (hn1 : 1 ≤ n) (hm : n ≤ 8) (hn : n ≤ xs.length) :
  Calls Tryz.prog 289 #[.pointer (some ⟨g, 0, none⟩), .int .i64 n] w (RRes (.int .u64 (num (xs.take n))) w g v (xs.drop n) 0) := by
 rcases h.rd.open with ⟨_, rfl⟩ | ⟨gb, off, ca, rfl, h1, h2, h3, _⟩
 ·simp at hn; omega
 have hm : ca ≤ 9223372036854775807 := by simp only [maxLen] at h2; omega
 have r2 := Rd.drop h.rd hn
 obtain ⟨len, hlen⟩ : ∃ len, xs.length = len := ⟨_, rfl⟩
 have HP := Lib.hid (peek_ok n h hn1 hn (by assumption))
 have c := cells_of h.heap
 have f := free_of h.heap
 have H := Lib.hid h
 rw [hlen] at h1 hn r2 H c ⊢
 have HL := Lib.hid hlen
 clear h hlen h2 h3
 by_cases hcn : ca = n
 ·subst hcn
  rw [if_pos rfl, Nat.sub_self, show len - ca = 0 from by omega] at r2
  have R := Lib.hid (H.out.set r2)
  clear r2 H
  go_enter Tryz.func289, Tryz.ntmps289
  go_wp2_with fail
  refine HP.out.mono ?_
  rintro r w1 ⟨rfl, rfl⟩
  clear HP
  go_wp2
  go_ret
  exact ⟨rfl, _, R.out⟩
 ·rw [if_neg hcn] at r2
  have R := Lib.hid (H.out.set r2)
  clear r2 H
  go_enter Tryz.func289, Tryz.ntmps289
  go_wp2_with fail
  refine HP.out.mono ?_
  rintro r w1 ⟨rfl, rfl⟩
  clear HP
  go_wp2
  go_ret
  exact ⟨rfl, _, R.out⟩
theorem rnum_any {w : World} {g : Nat} {v : Value} {xs : List UInt8} {e : Int} (n : Nat) (h : Rr w g v xs e) (hn1 : 1 ≤ n) (hm : n ≤ 8) :
  Calls Tryz.prog 289 #[.pointer (some ⟨g, 0, none⟩), .int .i64 n] w (RRes (.int .u64 (rtake n xs e)) w g v (rleft n xs e) (rerr n xs e)) := by
 by_cases hk : rok n xs e = true
 ·simp only [rok, Bool.and_eq_true, decide_eq_true_eq] at hk
  obtain ⟨rfl, hn⟩ := hk
  simp only [rtake, rleft, rerr, hn, if_true]
  exact rnum_ok n h hn1 hm hn
 ·have hk2 : rok n xs e = false := by simpa using hk
  have : rleft n xs e = xs := by
   simp only [rok, Bool.and_eq_false_iff, decide_eq_false_iff_not] at hk2
   unfold rleft
   split
   ·split
    ·exfalso; rcases hk2 with h | h <;> exact h (by assumption)
    ·rfl
   ·rfl
  rw [this]
  exact rnum_no n h hn1 hm hk2
theorem rtake_lt (n : Nat) (xs : List UInt8) (e : Int) : rtake n xs e < 256 ^ n := by
 have hp : 0 < 256 ^ n := Nat.pow_pos (by decide)
 unfold rtake
 split
 ·split
  ·have h1 := num_lt (xs.take n)
   have h2 : 256 ^ (xs.take n).length ≤ 256 ^ n := Nat.pow_le_pow_right (by decide) (List.length_take_le _ _)
   omega
  ·exact hp
 ·exact hp
theorem RU64_any {w : World} {g : Nat} {v : Value} {xs : List UInt8} {e : Int} (h : Rr w g v xs e) :
  Calls Tryz.prog 259 #[.pointer (some ⟨g, 0, none⟩)] w (RRes (.int .u64 (rtake 8 xs e)) w g v (rleft 8 xs e) (rerr 8 xs e)) := by
 have H := Lib.hid h
 clear h
 go_enter Tryz.func259, Tryz.ntmps259
 go_wp2_with fail
 refine (rnum_any 8 H.out (by omega) (by omega)).mono ?_
 rintro r w1 ⟨rfl, hr⟩
 go_wp2
 go_ret
 exact ⟨rfl, hr⟩
end Go.Proofs.YtglkmaalpammcaaGreat
namespace Go.Gl
theorem dval_set {B : Nat} (c : Nat) : ∀ (ds : List Nat) (i : Nat) (hi : i < ds.length), dval B (ds.set i (ds[i] + c)) = dval B ds + c * B ^ i := by
  intro ds
  induction ds with
  | nil => intro i hi; simp at hi
  | cons d ds ih =>
    intro i hi
    rcases i with _ | i
    · simp [dval]; omega
    · have := ih i (by simpa using hi)
      simp only [List.set_cons_succ, List.getElem_cons_succ, dval, this, Nat.mul_add, Nat.pow_succ]
      rw [Nat.add_assoc, Nat.mul_comm B (c * B ^ i), Nat.mul_assoc]
theorem lim_set {ls : List Nat} (h : Lim ls) (i x : Nat) (hx : x ≤ 18446744073709551615) : Lim (ls.set i x) := by
 intro y hy
 rcases List.mem_or_eq_of_mem_set hy with hy | hy
 ·exact h y hy
 ·omega
theorem limb_small {ls : List Nat} (h : Lim ls) (k : Nat) (hk : k / 8 < ls.length) (hd : dval 18446744073709551616 ls < 256 ^ k) : ls[k / 8] < 256 ^ (k % 8) := by
 have h1 := dval_get (B := 18446744073709551616) ls (fun x hx => by have := h x hx; omega) (k / 8) hk
 rw [← h1]
 refine Nat.lt_of_le_of_lt (Nat.mod_le _ _) ?_
 refine Nat.div_lt_of_lt_mul ?_
 rw [show (18446744073709551616 : Nat) = 256 ^ 8 from by decide, ← Nat.pow_mul, ← Nat.pow_add, show 8 * (k / 8) + k % 8 = k from Nat.div_add_mod k 8]
 exact hd
theorem or_add_pow (x c s : Nat) (h : x < 2 ^ s) : x ||| (c * 2 ^ s) = x + c * 2 ^ s := by
 have := Nat.shiftLeft_add_eq_or_of_lt (b := x) (i := s) h c
 rw [Nat.shiftLeft_eq] at this
 rw [Nat.or_comm, ← this, Nat.add_comm]
end Go.Gl
namespace Go.Proofs.YtglkmaalpammcaaGreat
open Go.Gl Go.RowKit
theorem or_u64 (x y : Nat) (hx : x ≤ 18446744073709551615) (hy : y ≤ 18446744073709551615) : bits .or .u64 (x : Int) (y : Int) = ((x ||| y : Nat) : Int) := by
 unfold bits
 have e1 : (BitVec.ofInt 64 ((x : Nat) : Int)) = BitVec.ofNat 64 x := BitVec.ofInt_natCast ..
 have e2 : (BitVec.ofInt 64 ((y : Nat) : Int)) = BitVec.ofNat 64 y := BitVec.ofInt_natCast ..
 show IntKind.u64.wrap (((BitVec.ofInt 64 ((x : Nat) : Int)) ||| (BitVec.ofInt 64 ((y : Nat) : Int))).toNat : Int) = _
 have h2 : x ||| y < 2 ^ 64 := Nat.or_lt_two_pow (by omega) (by omega)
 rw [e1, e2, BitVec.toNat_or, BitVec.toNat_ofNat, BitVec.toNat_ofNat, Nat.mod_eq_of_lt (by omega), Nat.mod_eq_of_lt (by omega), IntKind.wrap_u64]
 omega
open Go.Gl Go.RowKit
abbrev ESt := List UInt8 × Int
def est (n : Nat) (s : ESt) : ESt := (rleft n s.1 s.2, rerr n s.1 s.2)
def evl (n : Nat) (s : ESt) : Nat := rtake n s.1 s.2
def boolS (s : ESt) : ESt := if s.2 = 0 ∧ 1 < evl 1 s then (s.1, 41) else est 1 s
def endS (xs : List UInt8) (e : Int) : Int := if e = 0 ∧ xs.length ≠ 0 then 43 else e
theorem End_any {w : World} {g : Nat} {v : Value} {xs : List UInt8} {e : Int} (h : Rr w g v xs e) :
  Calls Tryz.prog 229 #[.pointer (some ⟨g, 0, none⟩)] w (RRes (.int .i64 (endS xs e)) w g v xs (endS xs e)) := by
 obtain ⟨a, c, rfl, _⟩ := h.rd.form
 have c := cells_of h.heap
 have H := Lib.hid h
 by_cases hz : xs.length = 0
 ·have he : endS xs e = e := if_neg (fun x => x.2 hz)
  rw [he]
  rw [hz] at c H ⊢
  clear h he hz
  go_enter Tryz.func229, Tryz.ntmps229
  go_wp2
  go_ret
  exact ⟨rfl, _, RStp.refl H.out⟩
 ·have he : endS xs e = wfail e 43 := by
   unfold endS wfail
   by_cases h0 : e = 0
   ·rw [if_pos ⟨h0, hz⟩, if_pos h0]
   ·rw [if_neg (fun x => h0 x.1), if_neg h0]
  rw [he]
  have hpos : (0 : Int) < (xs.length : Int) := by omega
  generalize xs.length = n at *
  clear h he hz
  go_enter Tryz.func229, Tryz.ntmps229
  go_wp2_with fail
  refine (rfails_any 43 H.out).mono ?_
  rintro r w1 ⟨rfl, v1, h1⟩
  have c1 := cells_of h1.rr.heap
  have H1 := Lib.hid h1
  clear h1
  go_wp2
  go_ret
  exact ⟨rfl, v1, H1.out⟩
open Go.Gl Go.RowKit
theorem RStp.from {w w1 w2 : World} {g : Nat} {v v2 : Value} {xs : List UInt8} {e : Int} (h : RStp w1 g v xs e w2 v2) (hm : Mods noB w w1) : RStp w g v xs e w2 v2 :=
 ⟨h.rr, hm.trans h.mods (fun _ _ x => x.elim) (fun _ _ x => x), h.blk⟩
open Go.Gl Go.RowKit
def nbody (s : ESt) : List UInt8 := (s.1.drop 1).take (evl 1 s)
def natV (s : ESt) : List Nat := if s.2 = 0 ∧ 1 ≤ s.1.length ∧ 1 + evl 1 s ≤ s.1.length ∧ (nbody s)[0]? ≠ some 0 then dig 18446744073709551616 (num (nbody s)) else []
def natT (s : ESt) : ESt := if s.2 = 0 then (if 1 ≤ s.1.length ∧ 1 + evl 1 s ≤ s.1.length then (if (nbody s)[0]? = some 0 then (s.1, 41) else (s.1.drop (1 + evl 1 s), 0)) else (s.1, 40)) else s
open Go.Gl Go.RowKit
def StopsOk (p q : ESt) (z : Bool) : Prop := (p.2 ≠ 0 → z = true ∧ q = p) ∧ (p.2 = 0 → q.2 ≠ 0 → z = true ∧ q.1 = p.1) ∧ q.1.length ≤ p.1.length
theorem StopsOk.id (p : ESt) : StopsOk p p true := ⟨fun _ => ⟨rfl, rfl⟩, fun h k => absurd h k, Nat.le_refl _⟩
theorem est_err (n : Nat) (p : ESt) (h : p.2 ≠ 0) : est n p = p ∧ evl n p = 0 := by
 obtain ⟨xs, e⟩ := p
 simp only at h
 simp [est, evl, rleft, rerr, rtake, h]
theorem est_ok (n : Nat) (xs : List UInt8) (h : n ≤ xs.length) : est n (xs, 0) = (xs.drop n, 0) ∧ evl n (xs, 0) = num (xs.take n) := by
 simp [est, evl, rleft, rerr, rtake, h]
theorem est_short (n : Nat) (xs : List UInt8) (h : ¬ n ≤ xs.length) : est n (xs, 0) = (xs, 40) ∧ evl n (xs, 0) = 0 := by
 simp [est, evl, rleft, rerr, rtake, h]
theorem est_stops (n : Nat) (p : ESt) : StopsOk p (est n p) (decide (evl n p = 0)) := by
 obtain ⟨xs, e⟩ := p
 by_cases he : e = 0
 ·subst he
  by_cases hl : n ≤ xs.length
  ·obtain ⟨h1, h2⟩ := est_ok n xs hl
   rw [h1]
   exact ⟨fun x => absurd rfl x, fun _ x => absurd rfl x, by simp⟩
  ·obtain ⟨h1, h2⟩ := est_short n xs hl
   rw [h1, h2]
   exact ⟨fun x => absurd rfl x, fun _ _ => ⟨rfl, rfl⟩, Nat.le_refl _⟩
 ·obtain ⟨h1, h2⟩ := est_err n (xs, e) he
  rw [h1, h2]
  exact ⟨fun _ => ⟨rfl, rfl⟩, fun x => absurd x he, Nat.le_refl _⟩
theorem bool_stops (p : ESt) : StopsOk p (boolS p) (!decide (evl 1 p = 1)) := by
 obtain ⟨xs, e⟩ := p
 by_cases he : e = 0
 ·subst he
  by_cases hl : 1 ≤ xs.length
  ·obtain ⟨h1, h2⟩ := est_ok 1 xs hl
   unfold boolS
   by_cases hb : 1 < evl 1 (xs, 0)
   ·rw [if_pos ⟨rfl, hb⟩]
    exact ⟨fun x => absurd rfl x, fun _ _ => ⟨by simp; omega, rfl⟩, Nat.le_refl _⟩
   ·rw [if_neg (fun x => hb x.2), h1]
    exact ⟨fun x => absurd rfl x, fun _ x => absurd rfl x, by simp⟩
  ·obtain ⟨h1, h2⟩ := est_short 1 xs hl
   unfold boolS
   rw [h2, if_neg (fun x => by omega), h1]
   exact ⟨fun x => absurd rfl x, fun _ _ => ⟨rfl, rfl⟩, Nat.le_refl _⟩
 ·obtain ⟨h1, h2⟩ := est_err 1 (xs, e) he
  unfold boolS
  rw [h2, if_neg (fun x => he x.1), h1]
  exact ⟨fun _ => ⟨rfl, rfl⟩, fun x => absurd x he, Nat.le_refl _⟩
theorem nat_stops (p : ESt) : StopsOk p (natT p) (decide ((natV p).length = 0)) := by
 obtain ⟨xs, e⟩ := p
 unfold natT natV
 by_cases he : e = 0
 ·subst he
  rw [if_pos rfl]
  by_cases hl : 1 ≤ xs.length ∧ 1 + evl 1 (xs, 0) ≤ xs.length
  ·rw [if_pos hl]
   by_cases hb : (nbody (xs, 0))[0]? = some 0
   ·rw [if_pos hb, if_neg (fun x => x.2.2.2 hb)]
    exact ⟨fun x => absurd rfl x, fun _ _ => ⟨rfl, rfl⟩, Nat.le_refl _⟩
   ·rw [if_neg hb]
    exact ⟨fun x => absurd rfl x, fun _ x => absurd rfl x, by simp⟩
  ·rw [if_neg hl, if_neg (fun x => hl ⟨x.2.1, x.2.2.1⟩)]
   exact ⟨fun x => absurd rfl x, fun _ _ => ⟨rfl, rfl⟩, Nat.le_refl _⟩
 ·rw [if_neg he, if_neg (fun x => he x.1)]
  exact ⟨fun _ => ⟨rfl, rfl⟩, fun x => absurd x he, Nat.le_refl _⟩
theorem est_one (n : Nat) (xs : List UInt8) (h : (est n (xs, 0)).2 = 0) : xs = be n (evl n (xs, 0)) ++ (est n (xs, 0)).1 := by
 by_cases hl : n ≤ xs.length
 ·obtain ⟨h1, h2⟩ := est_ok n xs hl
  rw [h1, h2]
  have := be_num (xs.take n)
  rw [List.length_take, Nat.min_eq_left hl] at this
  rw [this, List.take_append_drop]
 ·obtain ⟨h1, h2⟩ := est_short n xs hl
  rw [h1] at h
  cases h
theorem bool_one (xs : List UInt8) (h : (boolS (xs, 0)).2 = 0) : xs = be 1 (if decide (evl 1 (xs, 0) = 1) then 1 else 0) ++ (boolS (xs, 0)).1 := by
 by_cases hb : 1 < evl 1 (xs, 0)
 ·unfold boolS at h
  rw [if_pos ⟨rfl, hb⟩] at h
  cases h
 ·have hS : boolS (xs, 0) = est 1 (xs, 0) := by
   unfold boolS
   rw [if_neg (fun x => hb x.2)]
  rw [hS] at h ⊢
  have := est_one 1 xs h
  have e : (if decide (evl 1 (xs, 0) = 1) = true then 1 else 0) = evl 1 (xs, 0) := by
   by_cases h1 : evl 1 (xs, 0) = 1
   ·simp [h1]
   ·simp [h1]; omega
  rw [e]
  exact this
theorem blen_num (bs : List UInt8) (h : bs[0]? ≠ some 0) : blen (num bs) = bs.length := by
  cases bs with
  | nil => rfl
  | cons c cs =>
    have hc : c.toNat ≠ 0 := fun e => h (by
      have : c = 0 := UInt8.toNat_inj.1 (by simpa using e)
      simp [this])
    have h1 : num (c :: cs) < 256 ^ (cs.length + 1) := num_lt (c :: cs)
    have h2 : 256 ^ cs.length ≤ num (c :: cs) := by
      rw [num_cons]
      have : 1 * 256 ^ cs.length ≤ c.toNat * 256 ^ cs.length := Nat.mul_le_mul_right _ (by omega)
      omega
    exact dig_len (by omega) h1 h2
theorem natB_num (bs : List UInt8) (h : bs[0]? ≠ some 0) : natB (num bs) = bs := by
 unfold natB
 rw [blen_num bs h, be_num]
theorem nbody_len (xs : List UInt8) (h : 1 + evl 1 (xs, 0) ≤ xs.length) : (nbody (xs, 0)).length = evl 1 (xs, 0) := by
 unfold nbody
 rw [List.length_take, List.length_drop]
 simp only
 omega
theorem nat_one (xs : List UInt8) (h : (natT (xs, 0)).2 = 0) : xs = natL (dval 18446744073709551616 (natV (xs, 0))) ++ (natT (xs, 0)).1 ∧ blen (dval 18446744073709551616 (natV (xs, 0))) ≤ 255 := by
 unfold natT natV at *
 rw [if_pos rfl] at h ⊢
 by_cases hl : 1 ≤ xs.length ∧ 1 + evl 1 (xs, 0) ≤ xs.length
 ·rw [if_pos hl] at h ⊢
  by_cases hb : (nbody (xs, 0))[0]? = some 0
  ·rw [if_pos hb] at h; cases h
  ·rw [if_neg hb, if_pos ⟨rfl, hl.1, hl.2, hb⟩, dval_dig (by omega)]
   have hn := nbody_len xs hl.2
   have hlt : evl 1 (xs, 0) < 256 := by have := rtake_lt 1 xs 0; simpa [evl] using this
   have hbl := blen_num _ hb
   refine ⟨?_, by rw [hbl, hn]; omega⟩
   unfold natL
   rw [hbl, hn, natB_num _ hb]
   have h1 := est_one 1 xs (by rw [(est_ok 1 xs hl.1).1])
   rw [(est_ok 1 xs hl.1).1] at h1
   have h2 : xs.drop 1 = nbody (xs, 0) ++ xs.drop (1 + evl 1 (xs, 0)) := by
    unfold nbody
    rw [← List.drop_drop, List.take_append_drop]
   rw [List.append_assoc, ← h2]
   exact h1
 ·rw [if_neg hl] at h; cases h
theorem est_back (n x : Nat) (ys : List UInt8) (hx : x < 256 ^ n) : est n (be n x ++ ys, 0) = (ys, 0) ∧ evl n (be n x ++ ys, 0) = x := by
 obtain ⟨h1, h2⟩ := est_ok n (be n x ++ ys) (by rw [List.length_append, be_length]; omega)
 rw [h1, h2, List.drop_left' (be_length n x), List.take_left' (be_length n x), num_be, Nat.mod_eq_of_lt hx]
 exact ⟨rfl, rfl⟩
theorem bool_back (b : Bool) (ys : List UInt8) : boolS (be 1 (if b = true then 1 else 0) ++ ys, 0) = (ys, 0) ∧ decide (evl 1 (be 1 (if b = true then 1 else 0) ++ ys, 0) = 1) = b := by
 obtain ⟨h1, h2⟩ := est_back 1 (if b = true then 1 else 0) ys (by split <;> simp)
 unfold boolS
 rw [h2, if_neg (fun x => by have := x.2; split at this <;> omega), h1]
 exact ⟨rfl, by cases b <;> simp⟩
theorem blen_first (N : Nat) : (natB N)[0]? ≠ some 0 := by
 intro h
 unfold natB blen at h
 have hlt := dig_lt (B := 256) (by omega) N
 have hv := dval_dig (B := 256) (by omega) N
 generalize hds : dig 256 N = ds at *
 have hs : strip ds = ds := by rw [← hds]; exact strip_strip _
 rcases List.eq_nil_or_concat ds with rfl | ⟨es, d, rfl⟩
 ·simp [be] at h
 ·have hd : d ≠ 0 := by
   rintro rfl
   have : strip (es ++ [0]) = strip es := strip_append_zero es [0] (fun x hx => by simpa using hx)
   have hl := strip_length_le es
   simp only [List.concat_eq_append] at hs
   rw [this] at hs
   rw [hs] at hl
   simp at hl
   omega
  simp only [List.concat_eq_append, List.length_append, List.length_singleton, be, List.getElem?_cons_zero, Option.some.injEq] at h
  have h2 := congrArg UInt8.toNat h
  rw [UInt8.toNat_ofNat'] at h2
  simp only [List.concat_eq_append, dval_snoc] at hv
  have h3 := dval_lt (B := 256) (ds := es) (fun x hx => hlt x (by simp [hx]))
  have h4 := hlt d (by simp)
  have h5 : N / 256 ^ es.length = d := by
   rw [← hv, Nat.add_mul_div_left _ _ (Nat.pow_pos (by omega)), Nat.div_eq_of_lt h3, Nat.zero_add]
  rw [h5, Nat.mod_eq_of_lt h4] at h2
  exact hd (by simpa using h2)
theorem num_natB (N : Nat) : num (natB N) = N := by
 unfold natB blen
 rw [num_be]
 have h := dval_lt (B := 256) (ds := dig 256 N) (dig_lt (by omega) N)
 rw [dval_dig (by omega)] at h
 exact Nat.mod_eq_of_lt h
theorem nat_back (N : Nat) (ys : List UInt8) (h : blen N ≤ 255) : natT (natL N ++ ys, 0) = (ys, 0) ∧ natV (natL N ++ ys, 0) = dig 18446744073709551616 N := by
 obtain ⟨h1, h2⟩ := est_back 1 (blen N) (natB N ++ ys) (by omega)
 have e : natL N ++ ys = be 1 (blen N) ++ (natB N ++ ys) := by simp [natL]
 rw [e]
 have hb : nbody (be 1 (blen N) ++ (natB N ++ ys), 0) = natB N := by
  unfold nbody
  rw [h2]
  simp only
  rw [List.drop_left' (be_length _ _), List.take_left' (natB_length N)]
 have hl : (be 1 (blen N) ++ (natB N ++ ys)).length = 1 + (blen N + ys.length) := by
  rw [List.length_append, List.length_append, be_length, natB_length]
 unfold natT natV
 rw [h2, hb, num_natB]
 simp only [hl]
 rw [if_pos trivial, if_pos (by omega), if_neg (blen_first N), if_pos ⟨trivial, by omega, by omega, blen_first N⟩]
 refine ⟨?_, rfl⟩
 rw [← List.drop_drop, List.drop_left' (be_length _ _), List.drop_left' (natB_length N)]
open Go.Gl Go.RowKit
structure Fld where
 k : Nat
 n : Nat
 ls : List Nat
def shortN (N : Nat) : Nat := if blen N ≤ 255 then N else 0
theorem shortN_blen (N : Nat) : blen (shortN N) ≤ 255 := by
 unfold shortN
 split
 ·assumption
 ·decide
theorem shortN_short (N : Nat) (h : blen N ≤ 255) : shortN N = N := if_pos h
def Fld.N (f : Fld) : Nat := dval 18446744073709551616 f.ls
def Fld.lay (f : Fld) : List UInt8 := if f.k = 0 then be 8 f.n else if f.k = 1 then be 1 (if decide (f.n = 1) = true then 1 else 0) else natL (shortN f.N)
def recLay (fs : List Fld) : List UInt8 := fs.flatMap Fld.lay
def rdF (k : Nat) (s : ESt) : Fld × ESt :=
 if k = 0 then (⟨0, evl 8 s, []⟩, est 8 s) else if k = 1 then (⟨1, if decide (evl 1 s = 1) = true then 1 else 0, []⟩, boolS s) else (⟨2, 0, natV s⟩, natT s)
def rdAll : List Nat → ESt → List Fld × ESt
 | [], s => ([], s)
 | k :: ks, s => ((rdF k s).1 :: (rdAll ks (rdF k s).2).1, (rdAll ks (rdF k s).2).2)
structure Fld.Ok (f : Fld) : Prop where
 k : f.k ≤ 2
 n : f.n ≤ 18446744073709551615
 b : f.k = 1 → f.n ≤ 1
 ls : Lim f.ls
def Fld.norm (f : Fld) : Fld := if f.k = 0 then ⟨0, f.n, []⟩ else if f.k = 1 then ⟨1, f.n, []⟩ else ⟨2, 0, dig 18446744073709551616 (shortN f.N)⟩
theorem dig_lim (N : Nat) : Lim (dig 18446744073709551616 N) := fun x hx => by
 have := dig_lt (B := 18446744073709551616) (by omega) N x hx
 omega
theorem rdF_back (f : Fld) (h : f.Ok) (ys : List UInt8) : rdF f.k (f.lay ++ ys, 0) = (f.norm, (ys, 0)) := by
 have hn := h.n
 have hb := h.b
 unfold rdF Fld.lay Fld.norm
 by_cases h0 : f.k = 0
 ·simp only [if_pos h0]
  obtain ⟨h1, h2⟩ := est_back 8 f.n ys (by omega)
  rw [h1, h2]
 by_cases h1 : f.k = 1
 ·simp only [if_neg h0, if_pos h1]
  obtain ⟨h2, h3⟩ := bool_back (decide (f.n = 1)) ys
  rw [h2, h3]
  have := hb h1
  rcases (by omega : f.n = 0 ∨ f.n = 1) with h4 | h4
  ·simp [h4]
  ·simp [h4]
 ·simp only [if_neg h0, if_neg h1]
  obtain ⟨h2, h3⟩ := nat_back (shortN f.N) ys (shortN_blen _)
  rw [h2, h3]
theorem rdAll_back (fs : List Fld) (h : ∀ f ∈ fs, f.Ok) (ys : List UInt8) : rdAll (fs.map (·.k)) (recLay fs ++ ys, 0) = (fs.map Fld.norm, (ys, 0)) := by
  induction fs with
  | nil => rfl
  | cons f fs ih =>
    have h1 := rdF_back f (h f (List.mem_cons_self ..)) (recLay fs ++ ys)
    have e : recLay (f :: fs) ++ ys = f.lay ++ (recLay fs ++ ys) := by simp [recLay]
    rw [e, List.map_cons]
    simp only [rdAll, h1, ih (fun g hg => h g (List.mem_cons_of_mem _ hg)), List.map_cons]
theorem rdF_err (k : Nat) (s : ESt) (h : s.2 ≠ 0) : (rdF k s).2 = s := by
 unfold rdF
 split
 ·exact ((est_stops 8 s).1 h).2
 split
 ·exact ((bool_stops s).1 h).2
 ·exact ((nat_stops s).1 h).2
theorem rdAll_err (ks : List Nat) (s : ESt) (h : s.2 ≠ 0) : (rdAll ks s).2 = s := by
  induction ks generalizing s with
  | nil => rfl
  | cons k ks ih =>
    simp only [rdAll]
    have h1 := rdF_err k s h
    rw [h1]
    exact ih s h
theorem rdF_one (k : Nat) (xs : List UInt8) (h : (rdF k (xs, 0)).2.2 = 0) : xs = (rdF k (xs, 0)).1.lay ++ (rdF k (xs, 0)).2.1 := by
 unfold rdF at *
 by_cases h0 : k = 0
 ·simp only [if_pos h0] at h ⊢
  exact est_one 8 xs h
 by_cases h1 : k = 1
 ·simp only [if_neg h0, if_pos h1] at h ⊢
  have := bool_one xs h
  unfold Fld.lay
  simp only [show ¬ (1 : Nat) = 0 from by omega, if_false, if_true]
  by_cases hb : evl 1 (xs, 0) = 1
  ·simp only [hb, decide_true, if_true] at this ⊢
   exact this
  ·simp only [hb, decide_false] at this ⊢
   simpa using this
 ·simp only [if_neg h0, if_neg h1] at h ⊢
  obtain ⟨h2, h3⟩ := nat_one xs h
  unfold Fld.lay Fld.N
  simp only [show ¬ (2 : Nat) = 0 from by omega, show ¬ (2 : Nat) = 1 from by omega, if_false]
  rw [shortN_short _ h3]
  exact h2
theorem rdAll_one (ks : List Nat) (xs : List UInt8) (h : (rdAll ks (xs, 0)).2.2 = 0) : xs = recLay (rdAll ks (xs, 0)).1 ++ (rdAll ks (xs, 0)).2.1 := by
  induction ks generalizing xs with
  | nil => rfl
  | cons k ks ih =>
    simp only [rdAll] at h ⊢
    have h1 : (rdF k (xs, 0)).2.2 = 0 := by
      by_cases he : (rdF k (xs, 0)).2.2 = 0
      · exact he
      · rw [rdAll_err ks _ he] at h
        exact h
    have h2 := rdF_one k xs h1
    have e : (rdF k (xs, 0)).2 = ((rdF k (xs, 0)).2.1, 0) := Prod.ext rfl h1
    rw [e] at h
    have h3 := ih _ h
    rw [e]
    show xs = ((rdF k (xs, 0)).1.lay ++ recLay _) ++ _
    rw [List.append_assoc, ← h3]
    exact h2
theorem rdF_ok (k : Nat) (s : ESt) (hk : k ≤ 2) : (rdF k s).1.Ok ∧ (rdF k s).1.k = k := by
 unfold rdF
 split
 ·have := rtake_lt 8 s.1 s.2
  refine ⟨⟨by simp, ?_, fun x => by simp at x, fun x hx => by cases hx⟩, by simp; omega⟩
  simp only [evl]
  simp at this
  omega
 split
 ·exact ⟨⟨by simp, by simp only; split <;> omega, fun _ => by simp only; split <;> omega, fun x hx => by cases hx⟩, by simp; omega⟩
 ·refine ⟨⟨by simp, by simp, fun x => by simp at x, ?_⟩, by simp only; omega⟩
  unfold natV
  split
  ·exact dig_lim _
  ·intro x hx
   cases hx
theorem rdAll_ok (ks : List Nat) (s : ESt) (hk : ∀ k ∈ ks, k ≤ 2) : (∀ f ∈ (rdAll ks s).1, f.Ok) ∧ (rdAll ks s).1.map (·.k) = ks := by
  induction ks generalizing s with
  | nil => exact ⟨fun f hf => (by cases hf), rfl⟩
  | cons k ks ih =>
    obtain ⟨h1, h2⟩ := rdF_ok k s (hk k (List.mem_cons_self ..))
    obtain ⟨h3, h4⟩ := ih (rdF k s).2 (fun j hj => hk j (List.mem_cons_of_mem _ hj))
    refine ⟨fun f hf => ?_, by simp only [rdAll, List.map_cons, h2, h4]⟩
    rcases List.mem_cons.1 hf with rfl | hf
    · exact h1
    · exact h3 f hf
open Go.Gl Go.RowKit
def zeroF (k : Nat) : Fld := ⟨k, 0, []⟩
def recGet (ks : List Nat) (xs : List UInt8) : List Fld × Nat :=
 if (rdAll ks (xs, 0)).2 = ([], 0) then ((rdAll ks (xs, 0)).1, 0) else (ks.map zeroF, 80)
theorem endS_zero (s : ESt) : endS s.1 s.2 = 0 ↔ s = ([], 0) := by
 obtain ⟨xs, e⟩ := s
 unfold endS
 constructor
 ·intro h
  by_cases h0 : e = 0 ∧ xs.length ≠ 0
  ·rw [if_pos h0] at h
   omega
  ·rw [if_neg h0] at h
   simp only at h
   subst h
   have : xs = [] := List.eq_nil_of_length_eq_zero (by omega)
   rw [this]
 ·intro h
  cases h
  simp
theorem recGet_yes {ks : List Nat} {xs : List UInt8} {fs : List Fld} (h : rdAll ks (xs, 0) = (fs, ([], 0))) : recGet ks xs = (fs, 0) := by
 unfold recGet
 rw [h, if_pos rfl]
theorem recGet_no {ks : List Nat} {xs : List UInt8} {fs : List Fld} {s : ESt} (h : rdAll ks (xs, 0) = (fs, s)) (hs : s ≠ ([], 0)) : recGet ks xs = (ks.map zeroF, 80) := by
 unfold recGet
 rw [h, if_neg hs]
theorem rdAll_whole {ks : List Nat} {xs : List UInt8} {fs : List Fld} (h : rdAll ks (xs, 0) = (fs, ([], 0))) : recLay fs = xs := by
 have := rdAll_one ks xs (by rw [h])
 rw [h] at this
 simpa using this.symm
theorem recGet_back (fs : List Fld) (h : ∀ f ∈ fs, f.Ok) {ks : List Nat} (hk : fs.map (·.k) = ks) : recGet ks (recLay fs) = (fs.map Fld.norm, 0) := by
 subst hk
 have := rdAll_back fs h []
 rw [List.append_nil] at this
 exact recGet_yes this
theorem recGet_ok {ks : List Nat} {xs : List UInt8} {fs : List Fld} {e : Nat} (hk : ∀ k ∈ ks, k ≤ 2) (h : recGet ks xs = (fs, e)) : (∀ f ∈ fs, f.Ok) ∧ fs.map (·.k) = ks := by
 unfold recGet at h
 split at h <;> cases h
 ·exact rdAll_ok ks _ hk
 ·constructor
  ·intro f hf
   obtain ⟨k, hk', rfl⟩ := List.mem_map.1 hf
   exact ⟨hk k hk', by simp [zeroF], by simp [zeroF], fun x hx => by cases hx⟩
  ·rw [List.map_map]
   exact List.map_id _
open Go.Gl Go.RowKit
def two (xs : List UInt8) : Nat × Nat := match (recGet [0, 0] xs).1 with
 | [a, b] => (a.n, b.n)
 | _ => (0, 0)
theorem two_of {xs : List UInt8} {a b e : Nat} (h : recGet [0, 0] xs = ([⟨0, a, []⟩, ⟨0, b, []⟩], e)) : two xs = (a, b) := by unfold two; rw [h]
def lay2 (a b : Nat) : List UInt8 := recLay [⟨0, a, []⟩, ⟨0, b, []⟩]
def akey (id : Nat) : List UInt8 := (kmake 4 id 0).getD []
def acF (F : List Ent) (id : Nat) : Nat × Nat := two ((getL F (akey id)).getD [])
def layF (F : List Ent) (id : Nat) (a : Nat × Nat) : List Ent := if a.1 = 0 ∧ a.2 = 0 then delL F (akey id) else setFF F (akey id) (lay2 a.1 a.2)
def isB (id : Nat) : Bool := (decide (1 ≤ id) && decide (id ≤ 4)) || decide (16 ≤ id)
def muchB (c n : Nat) : Bool := decide (1000000000000000000 < c + n)
def mintE (F : List Ent) (id n : Nat) : Nat := if isB id = false then 92 else if muchB (acF F id).1 n then 91 else 0
def mintF (F : List Ent) (id n : Nat) : List Ent := if mintE F id n = 0 then layF F id ((acF F id).1 + n, (acF F id).2) else F
def moveE (F : List Ent) (a b n : Nat) : Nat := if isB a = false ∨ isB b = false then 92 else if (acF F a).1 < n then 90 else if a = b then 0 else if muchB (acF F b).1 n then 91 else 0
def moveF (F : List Ent) (a b n : Nat) : List Ent := if moveE F a b n = 0 ∧ a ≠ b then layF (layF F a ((acF F a).1 - n, (acF F a).2)) b ((acF F b).1 + n, (acF F b).2) else F
def bumpE (id : Nat) : Nat := if isB id = false then 92 else 0
def bumpF (F : List Ent) (id : Nat) : List Ent := if isB id = false then F else layF F id ((acF F id).1, ((acF F id).2 + 1) % 18446744073709551616)
theorem setFF_ris {F : List Ent} (h : Ris F) (k v : List UInt8) : Ris (setFF F k v) := by
 unfold setFF
 split
 ·exact insL_ris h k v
 ·exact h
theorem layF_ris {F : List Ent} (h : Ris F) (id : Nat) (a : Nat × Nat) : Ris (layF F id a) := by
 unfold layF
 split
 ·exact delL_ris h _
 ·exact setFF_ris h _ _
theorem kmake_len (n : Int) (a b : Nat) : ((kmake n a b).getD []).length ≤ 64 := by
  unfold kmake
  cases hf : kform n.toNat with
  | none => simp
  | some f =>
    simp only
    split
    · simp only [Option.getD_some]
      unfold kbytes kfirst
      simp only [List.length_append, List.length_singleton]
      have h1 : (if f.a = true then be 8 (kturn f a) else []).length ≤ 8 := by split <;> simp [be_length]
      have h2 : (if f.mid.toNat = 0 then ([] : List UInt8) else [f.mid]).length ≤ 1 := by split <;> simp
      have h3 : (if f.b = true then be 8 b else []).length ≤ 8 := by split <;> simp [be_length]
      omega
    · simp
theorem akey_len (id : Nat) : (akey id).length ≤ 1000000 := Nat.le_trans (kmake_len 4 id 0) (by omega)
theorem two_lt (xs : List UInt8) : (two xs).1 ≤ 18446744073709551615 ∧ (two xs).2 ≤ 18446744073709551615 := by
 obtain ⟨⟨fs, e⟩, hr⟩ : ∃ q, recGet [0, 0] xs = q := ⟨_, rfl⟩
 have h := (recGet_ok (by simp) hr).1
 unfold two
 rw [hr]
 simp only
 split
 ·rename_i a b
  exact ⟨(h a (by simp)).n, (h b (by simp)).n⟩
 ·exact ⟨by omega, by omega⟩
/-! ### stores, their counts hidden: n, p bounds -/
def KVe (sg : Nat) (F : List Ent) (n p : Nat) : FP := fun w S D => ∃ m q, m ≤ n ∧ q ≤ p ∧ KV w sg F [] m q S D
def RFe (g : Nat) (F : List Ent) (n : Nat) : FP := fun w S D => ∃ m, m ≤ n ∧ R6F w g F [] m S D
theorem kve_f {sg : Nat} {F : List Ent} {n p : Nat} : Framed (KVe sg F n p) := ⟨fun ⟨_, _, _, _, h⟩ => ⟨KV.lt h |>.1, KV.lt h |>.2.1⟩, fun ⟨m, q, a, b, h⟩ mm x y => ⟨m, q, a, b, KV.keep h mm x y⟩⟩
theorem rfe_f {g : Nat} {F : List Ent} {n : Nat} : Framed (RFe g F n) := ⟨fun ⟨_, _, h⟩ => ⟨R6F.lt h |>.1, R6F.lt h |>.2.1⟩, fun ⟨m, a, h⟩ mm x y => ⟨m, a, R6F.keep h mm x y⟩⟩
theorem KVe.more {sg : Nat} {F : List Ent} {n p n' p' : Nat} {w : World} {S D : Nat → Prop} (h : KVe sg F n p w S D) (hn : n ≤ n') (hp : p ≤ p') : KVe sg F n' p' w S D := by
 obtain ⟨m, q, a, b, h⟩ := h
 exact ⟨m, q, by omega, by omega, h⟩
theorem RFe.more {g : Nat} {F : List Ent} {n n' : Nat} {w : World} {S D : Nat → Prop} (h : RFe g F n w S D) (hn : n ≤ n') : RFe g F n' w S D := by
 obtain ⟨m, a, h⟩ := h
 exact ⟨m, by omega, h⟩
theorem GS.any {prog : Program} {f : FuncId} {args : Array Value} {w : World} {Q : Nat → Prop} {r : Value} {ι : Type} {P P' : ι → FP} {R R' : FP} (h : ∀ i, GS prog f args w (P i) Q r (P' i)) (h1 : ∀ S D, R w S D → ∃ i, P i w S D) (h2 : ∀ w' S D i, P' i w' S D → (∀ S D, R w S D → True) → R' w' S D) : GS prog f args w R Q r R' := GS.of fun S D p hQ => by
 obtain ⟨i, hi⟩ := h1 S D p
 refine (h i S D hi hQ).mono ?_
 rintro e w' ⟨v, P1, N, rfl, ⟨rfl, rfl, _⟩, S', D', p', m, s, d, _⟩
 exact ⟨rfl, S', D', h2 _ _ _ i p' (fun _ _ _ => trivial), m, s, d⟩
section
variable {w : World} {sg g n p : Nat} {F : List Ent} {Q : Nat → Prop}
theorem ge_set {q u : Value} {ks vs : List UInt8} (hq : Rd w q ks) (hu : Rd w u vs) (oq : Off (fun k => ¬ Q k) q ks) (ou : Off (fun k => ¬ Q k) u vs) (hn : n ≤ 1000000000000) (hp : p ≤ 100000) : GS Tryz.prog 74 #[.pointer (some ⟨sg, 0, none⟩), q, u] w (KVe sg F n p) Q (.int .i64 (setErr ks vs : Nat)) (KVe sg (setFF F ks vs) (n + 1) (p + 2)) := GS.of fun S D ⟨m, q', hm, hq', kv⟩ hQ => by
 refine (gk_set hq hu oq ou (n := m) (p := q') (by omega) (by omega) S D kv hQ).mono ?_
 rintro e w' ⟨v, P1, N, rfl, ⟨rfl, rfl, _⟩, S', D', p', m', s, d, _⟩
 exact ⟨rfl, S', D', ⟨_, _, by omega, by omega, p'⟩, m', s, d⟩
theorem ge_del {q : Value} {ks : List UInt8} (hq : Rd w q ks) (oq : Off (fun k => ¬ Q k) q ks) (lk : ks.length ≤ 1000000) (hn : n ≤ 1000000000000) (hp : p ≤ 100000) : GS Tryz.prog 145 #[.pointer (some ⟨sg, 0, none⟩), q] w (KVe sg F n p) Q (.bool (getL F ks).isSome) (KVe sg (delL F ks) (n + 1) (p + 2)) := GS.of fun S D ⟨m, q', hm, hq', kv⟩ hQ => by
 refine (gk_del hq oq lk (n := m) (p := q') (by omega) (by omega) S D kv hQ).mono ?_
 rintro e w' ⟨v, P1, N, rfl, ⟨rfl, rfl, _⟩, S', D', p', m', s, d, _⟩
 exact ⟨rfl, S', D', ⟨_, _, by omega, by omega, p'⟩, m', s, d⟩
theorem ge_get {q : Value} {ks : List UInt8} (hq : Rd w q ks) (oq : Off (fun k => ¬ Q k) q ks) (hn : n ≤ 1000000000000) (hp : p ≤ 100000) : GO Tryz.prog 93 #[.pointer (some ⟨sg, 0, none⟩), q] w (KVe sg F n p) Q (fun v => .tuple #[v, .bool (getL F ks).isSome]) ((getL F ks).getD []) (KVe sg F (n + 1) p) := fun S D ⟨m, q', hm, hq', kv⟩ hQ => by
 refine (gk_get hq oq (n := m) (p := q') (by omega) (by omega) S D kv hQ).mono ?_
 rintro e w' ⟨v, P1, N, rfl, ⟨v', rfl, o, rfl, rfl⟩, S', D', p', rest⟩
 exact ⟨_, _, _, rfl, ⟨v', rfl, o, rfl, rfl⟩, S', D', ⟨_, _, by omega, hq', p'⟩, rest⟩
theorem re_set {q u : Value} {ks vs : List UInt8} (hq : Rd w q ks) (hu : Rd w u vs) (oq : Off (fun k => ¬ Q k) q ks) (ou : Off (fun k => ¬ Q k) u vs) (hn : n ≤ 1000000000000) (hF : F.length ≤ 100000) : GS Tryz.prog 43 #[.pointer (some ⟨g, 0, none⟩), q, u] w (RFe g F n) Q (.int .i64 (setErr ks vs : Nat)) (RFe g (setFF F ks vs) (n + 1)) := GS.of fun S D ⟨m, hm, rf⟩ hQ => by
 refine (gr_set hq hu oq ou (n := m) (by omega) hF S D rf hQ).mono ?_
 rintro e w' ⟨v, P1, N, rfl, ⟨rfl, rfl, _⟩, S', D', p', m', s, d, _⟩
 exact ⟨rfl, S', D', ⟨_, by omega, p'⟩, m', s, d⟩
theorem re_del {q : Value} {ks : List UInt8} (hq : Rd w q ks) (oq : Off (fun k => ¬ Q k) q ks) (hn : n ≤ 1000000000000) (hF : F.length ≤ 100000) : GS Tryz.prog 134 #[.pointer (some ⟨g, 0, none⟩), q] w (RFe g F n) Q (.bool (getL F ks).isSome) (RFe g (delL F ks) (n + 1)) := GS.of fun S D ⟨m, hm, rf⟩ hQ => by
 refine (gr_del hq oq (n := m) (by omega) hF S D rf hQ).mono ?_
 rintro e w' ⟨v, P1, N, rfl, ⟨rfl, rfl, _⟩, S', D', p', m', s, d, _⟩
 exact ⟨rfl, S', D', ⟨_, by omega, p'⟩, m', s, d⟩
theorem re_get {q : Value} {ks : List UInt8} (hq : Rd w q ks) (oq : Off (fun k => ¬ Q k) q ks) (hn : n ≤ 1000000000000) (hF : F.length ≤ 100000) (hv : ∀ v, getL F ks = some v → v.length ≤ 140737488355328) : GO Tryz.prog 96 #[.pointer (some ⟨g, 0, none⟩), q] w (RFe g F n) Q (fun v => .tuple #[v, .bool (getL F ks).isSome]) ((getL F ks).getD []) (RFe g F (n + 1)) := fun S D ⟨m, hm, rf⟩ hQ => by
 refine (gr_get hq oq (n := m) (by omega) hF hv S D rf hQ).mono ?_
 rintro e w' ⟨v, P1, N, rfl, ⟨v', rfl, o, rfl, rfl⟩, S', D', p', rest⟩
 exact ⟨_, _, _, rfl, ⟨v', rfl, o, rfl, rfl⟩, S', D', ⟨_, by omega, p'⟩, rest⟩
end
end Go.Proofs.YtglkmaalpammcaaGreat
namespace Go.Gl
def GI (w : World) (S0 D0 : Nat → Prop) (w' : World) (P : FP) (N : Nat → Prop) : Prop := ∃ S D, P w' S D ∧ Mods S0 w w' ∧ (∀ k, S k → S0 k ∨ w.heap.size ≤ k) ∧ (∀ k, D k → D0 k ∨ w.heap.size ≤ k) ∧ (∀ k, N k → w.heap.size ≤ k ∧ k < w'.heap.size ∧ ¬ S k ∧ ¬ D k)
def Out (w : World) (S0 N : Nat → Prop) (k : Nat) : Prop := N k ∨ (k < w.heap.size ∧ ¬ S0 k)
section
variable {prog : Program} {f : FuncId} {args : Array Value} {w w1 w2 : World} {S0 D0 N N' : Nat → Prop} {P P' : FP} {r : Value}
theorem GI.start (p : P w S0 D0) : GI w S0 D0 w P (fun _ => False) := ⟨S0, D0, p, Mods.refl _ _, fun _ => .inl, fun _ => .inl, fun _ x => x.elim⟩
theorem GI.mods (h : GI w S0 D0 w1 P N) : Mods S0 w w1 := by obtain ⟨_, _, _, m, _⟩ := h; exact m
theorem GI.keep0 (h : GI w S0 D0 w1 P N) (f : Framed P) (m : Mods noB w1 w2) : GI w S0 D0 w2 P N := by
 obtain ⟨S, D, p, m0, s, d, n⟩ := h
 exact ⟨S, D, f.keep p m (fun _ _ x => x) (fun _ _ x => x), m0.then0 m, s, d, fun k hk => ⟨(n k hk).1, Nat.lt_of_lt_of_le (n k hk).2.1 m.size, (n k hk).2.2⟩⟩
theorem GI.grow (h : GI w S0 D0 w1 P N) (f : Framed P) (m : Mods noB w1 w2) (hn : ∀ k, N' k → N k ∨ (w1.heap.size ≤ k ∧ k < w2.heap.size)) : GI w S0 D0 w2 P N' := by
 obtain ⟨S, D, p, m0, s, d, n⟩ := h
 have l := f.lt p
 refine ⟨S, D, f.keep p m (fun _ _ x => x) (fun _ _ x => x), m0.then0 m, s, d, fun k hk => ?_⟩
 rcases hn k hk with x | ⟨x, y⟩
 ·exact ⟨(n k x).1, Nat.lt_of_lt_of_le (n k x).2.1 m.size, (n k x).2.2⟩
 ·exact ⟨by have := m0.size; omega, y, fun z => by have := l.1 k z; omega, fun z => by have := l.2 k z; omega⟩
theorem GI.turn {T : Nat → Prop} (h : GI w S0 D0 w1 P N) (f : Framed P) (m : Mods T w1 w2) (ht : ∀ k, T k → N k) : GI w S0 D0 w2 P N := by
 obtain ⟨S, D, p, m0, s, d, n⟩ := h
 exact ⟨S, D, f.keep p m (fun k hk x => (n k (ht k x)).2.2.1 hk) (fun k hk x => (n k (ht k x)).2.2.2 hk), m0.trans m (fun _ _ x => x) (fun k hk x => by have := (n k (ht k x)).1; omega), s, d, fun k hk => ⟨(n k hk).1, Nat.lt_of_lt_of_le (n k hk).2.1 m.size, (n k hk).2.2⟩⟩
theorem GI.own (h : GI w S0 D0 w1 P N) (f : Framed P) (m : Mods noB w1 w2) {v : Value} {xs : List UInt8} (o : Own w2 v xs) (fr : freshIn w1 v) : GI w S0 D0 w2 P (fun k => N k ∨ ofV v k) := h.grow f m (fun k hk => hk.imp id (fun x => ⟨fr k x, o.lt k x⟩))
theorem GI.less (h : GI w S0 D0 w1 P N) (hn : ∀ k, N' k → N k) : GI w S0 D0 w1 P N' := by
 obtain ⟨S, D, p, m0, s, d, n⟩ := h
 exact ⟨S, D, p, m0, s, d, fun k hk => n k (hn k hk)⟩
theorem GI.call {R : World → Value → FP → (Nat → Prop) → Prop} (h : GI w S0 D0 w1 P N) (c : GC prog f args w1 P (Out w S0 N) R) : Calls prog f args w1 fun e w' => ∃ v P' N', e = .returned v ∧ R w' v P' N' ∧ GI w S0 D0 w' P' (fun k => N k ∨ N' k) ∧ (∀ k, N' k → w1.heap.size ≤ k) ∧ Mods (fun k => ¬ Out w S0 N k) w1 w' := by
 obtain ⟨S, D, p, m0, s, d, n⟩ := h
 have hq : ∀ k, Out w S0 N k → ¬ S k := fun k hk x => by
  rcases hk with hk | ⟨h1, h2⟩
  ·exact (n k hk).2.2.1 x
  ·rcases s k x with y | y
   ·exact h2 y
   ·omega
 refine (c S D p hq).mono ?_
 rintro e w' ⟨v, P', N', rfl, hR, S', D', p', m, s1, d1, n1⟩
 have hs := m0.size
 refine ⟨v, P', N', rfl, hR, ⟨S', D', p', m0.trans m (fun _ _ x => x) (fun k hk x => (s k x).elim id (fun y => by omega)), fun k hk => (s1 k hk).elim (s k) (fun y => .inr (by omega)), fun k hk => (d1 k hk).elim (d k) (fun y => .inr (by omega)), fun k hk => ?_⟩, fun k hk => (n1 k hk).1, m.mono (fun k _ hk x => hq k x hk)⟩
 rcases hk with hk | hk
 ·have q := n k hk
  refine ⟨q.1, Nat.lt_of_lt_of_le q.2.1 m.size, fun x => ?_, fun x => ?_⟩
  ·rcases s1 k x with y | y
   ·exact q.2.2.1 y
   ·omega
  ·rcases d1 k x with y | y
   ·exact q.2.2.2 y
   ·omega
 ·exact ⟨by have := (n1 k hk).1; omega, (n1 k hk).2⟩
theorem GI.calls (h : GI w S0 D0 w1 P N) (c : GS prog f args w1 P (Out w S0 N) r P') : Calls prog f args w1 fun e w' => e = .returned r ∧ GI w S0 D0 w' P' N ∧ Mods (fun k => ¬ Out w S0 N k) w1 w' := by
 refine (GI.call h c).mono ?_
 rintro e w' ⟨v, P1, N1, rfl, ⟨rfl, rfl, _⟩, g, _, m⟩
 exact ⟨rfl, g.less (fun k hk => .inl hk), m⟩
theorem GI.callo {mk : Value → Value} {xs : List UInt8} (h : GI w S0 D0 w1 P N) (c : GO prog f args w1 P (Out w S0 N) mk xs P') : Calls prog f args w1 fun e w' => ∃ v', e = .returned (mk v') ∧ Own w' v' xs ∧ freshIn w1 v' ∧ GI w S0 D0 w' P' (fun k => N k ∨ ofV v' k) ∧ Mods (fun k => ¬ Out w S0 N k) w1 w' := by
 refine (GI.call h c).mono ?_
 rintro e w' ⟨v, P1, N1, rfl, ⟨v', rfl, o, rfl, rfl⟩, g, hN, m⟩
 exact ⟨v', rfl, o, hN, g, m⟩
def LeftB (w : World) (S D : Nat → Prop) (w' : World) (P' : FP) : Prop := ∃ S' D', P' w' S' D' ∧ Mods S w w' ∧ (∀ k, S' k → S k ∨ w.heap.size ≤ k) ∧ (∀ k, D' k → D k ∨ w.heap.size ≤ k)
theorem GI.done (h : GI w S0 D0 w1 P N) : LeftB w S0 D0 w1 P := by
 obtain ⟨S, D, p, m0, s, d, n⟩ := h
 exact ⟨S, D, p, m0, s, d⟩
theorem GS.walk {Q : Nat → Prop} (h : ∀ S D, P w S D → (∀ k, Q k → ¬ S k) → Calls prog f args w fun e w' => e = .returned r ∧ LeftB w S D w' P') : GS prog f args w P Q r P' := GS.of h
end
end Go.Gl
namespace Go.Proofs.YtglkmaalpammcaaGreat
open Go.Gl Go.RowKit
def KW (w : World) (g : Nat) (xs : List UInt8) (wx : World) : Prop := ∃ v, Wr wx g v xs 0 ∧ (∀ k, v.ownBlock = some k → w.heap.size ≤ k) ∧ Mods noB w wx ∧ w.heap.size ≤ g
theorem KW.start (w wx : World) (hm : Mods noB w wx) : KW w wx.heap.size [] (wx.alloc (.cells #[.slice none 0 0, .int .i64 0] 311)) :=
 ⟨.slice none 0 0, ⟨heap_new _ _, Gl.Own.nil _, by simp [Value.ownBlock]⟩, fun k hk => by simp [Value.ownBlock] at hk, hm.alloc _, hm.size⟩
theorem KW.step {w wx wy : World} {g : Nat} {xs ys : List UInt8} {v v' : Value} (hf : ∀ k, v.ownBlock = some k → w.heap.size ≤ k) (hm : Mods noB w wx) (hg : w.heap.size ≤ g) (h : WStep wx g v ys 0 wy v') : KW w g ys wy := by
 refine ⟨v', h.wr, ?_, hm.trans h.mods (fun _ _ x => x) (fun i hi x => ?_), hg⟩
 ·intro k hk
  rcases h.blk with hb | hb
  ·exact hf k (hb ▸ hk)
  ·exact Nat.le_trans hm.size (hb k hk)
 ·rcases x with x | x
  ·omega
  ·exact absurd hi (Nat.not_lt.2 (hf i x))
theorem KW.then0 {w wx wy : World} {g : Nat} {xs : List UInt8} (h : KW w g xs wx) (hm : Mods noB wx wy) : KW w g xs wy := by
 obtain ⟨v, h1, h2, h3, h4⟩ := h
 exact ⟨v, h1.then0 hm, h2, h3.then0 hm, h4⟩
theorem KW.mods {w wx : World} {g : Nat} {xs : List UInt8} (h : KW w g xs wx) : Mods noB w wx := by
 obtain ⟨v, h1, h2, h3, h4⟩ := h
 exact h3
theorem KW.u8 {w wx : World} {g : Nat} {xs : List UInt8} (h : KW w g xs wx) (x : Nat) (hx : x ≤ 255) (hl : xs.length ≤ 1000) :
  Calls Tryz.prog 309 #[.pointer (some ⟨g, 0, none⟩), .int .u8 x] wx fun r w' => r = .returned (.tuple #[]) ∧ KW w g (xs ++ be 1 x) w' := by
 obtain ⟨v, h1, h2, h3, h4⟩ := h
 exact (WU8_any x h1 hx (by omega)).mono fun r w' ⟨hr, v', hs⟩ => ⟨hr, KW.step (xs := xs) h2 h3 h4 hs⟩
theorem KW.u64 {w wx : World} {g : Nat} {xs : List UInt8} (h : KW w g xs wx) (x : Nat) (hx : x ≤ 18446744073709551615) (hl : xs.length ≤ 1000) :
  Calls Tryz.prog 258 #[.pointer (some ⟨g, 0, none⟩), .int .u64 x] wx fun r w' => r = .returned (.tuple #[]) ∧ KW w g (xs ++ be 8 x) w' := by
 obtain ⟨v, h1, h2, h3, h4⟩ := h
 exact (WU64_any x h1 hx (by omega)).mono fun r w' ⟨hr, v', hs⟩ => ⟨hr, KW.step (xs := xs) h2 h3 h4 hs⟩
theorem KW.out {w wx : World} {g : Nat} {xs : List UInt8} (h : KW w g xs wx) (hl : xs.length ≤ 1000) :
  Calls Tryz.prog 219 #[.pointer (some ⟨g, 0, none⟩)] wx fun r w' => ∃ u, r = .returned (.tuple #[u, .int .i64 0]) ∧ Gl.Own w' u xs ∧ Mods noB w w' ∧ freshIn w u := by
 obtain ⟨v, h1, h2, h3, h4⟩ := h
 refine (WOut_any h1 (by omega)).mono ?_
 rintro r w' ⟨u, rfl, ho, hm, hf⟩
 exact ⟨u, rfl, ho, h3.then0 hm, hf.of h3.size⟩
open Go.Gl Go.RowKit
def ptr (B : Nat) (o : Nat) : Value := .pointer (some ⟨B, o, none⟩)
structure TW (w : World) (g B : Nat) (v : Value) (cur : Array Value) (T : TypeId) (sl : Value) (os : List Nat) : Prop where
 wr : ∃ xs, Wr w g v xs 0
 box : w.heap[B]? = some (.cells cur T (0, 0))
 ne : ¬ WS g v B
 rd : RdM (ptr B) w sl os
 sb : ∀ k, sl.ownBlock = some k → k < w.heap.size ∧ ¬ WS g v k
theorem wput0' (xs ys : List UInt8) : wput 0 xs ys = xs ++ ys := if_pos rfl
theorem WS_lt {w : World} {g : Nat} {v : Value} {xs : List UInt8} {e : Int} (h : Wr w g v xs e) {k : Nat} (hk : WS g v k) : k < w.heap.size := by
 rcases hk with rfl | hk
 ·exact h.lt
 ·exact h.own.lt k hk
set_option maxHeartbeats 2000000 in
theorem nums_w {w : World} {g B : Nat} {v : Value} {xs : List UInt8} {cur : Array Value} {T : TypeId} {sl : Value} {os ns : List Nat} (h : Wr w g v xs 0) (ht : TW w g B v cur T sl os) (hn : ns.length = os.length) (hc : ∀ (i o x : Nat), os[i]? = some o → ns[i]? = some x → cur[o]? = some (.int .u64 x)) (hu : Lim ns) (hl : xs.length + 8 * ns.length ≤ 100000000) :
  Calls Tryz.prog 220 #[.agg #[.pointer (some ⟨g, 0, none⟩), .pointer none], sl] w fun r w' => r = .returned (.tuple #[]) ∧ ∃ v', WStep w g v (xs ++ ns.flatMap (be 8)) 0 w' v' := by
 obtain ⟨a, c, rfl, hlm⟩ := RdM.form ht.rd
 have HT := Lib.hid ht
 have HC := Lib.hid hc
 have HU := Lib.hid hu
 have b0 := heap_new w (.cells #[.pointer (some ⟨g, 0, none⟩), .pointer none] 314)
 have m0 := Lib.hid ((Mods.refl noB w).alloc (.cells #[.pointer (some ⟨g, 0, none⟩), .pointer none] 314))
 have W0 := Lib.hid (show ∃ v', WStep (w.alloc (.cells #[.pointer (some ⟨g, 0, none⟩), .pointer none] 314)) g v (xs ++ (ns.take 0).flatMap (be 8)) 0 (w.alloc (.cells #[.pointer (some ⟨g, 0, none⟩), .pointer none] 314)) v' from
  ⟨v, by simpa using WStep.refl (h.then0 m0.out)⟩)
 have hsz0 := Lib.hid (show w.heap.size < (w.alloc (.cells #[.pointer (some ⟨g, 0, none⟩), .pointer none] 314)).heap.size from by simp)
 have hws := fun k (hk : WS g v k) => WS_lt h hk
 have HB0 := Lib.hid (show (w.alloc (.cells #[.pointer (some ⟨g, 0, none⟩), .pointer none] 314)).heap[w.heap.size]? = _ from b0)
 have HW := Lib.hid hws
 have HLN := Lib.hid hn
 obtain ⟨n, hos⟩ : ∃ n, os.length = n := ⟨_, rfl⟩
 have HO := Lib.hid hos
 unfold maxLen at hlm
 rw [hos] at hlm ⊢
 clear ht hc hu b0 hws h hn hos
 go_enter Tryz.func220, Tryz.ntmps220
 go_wp2
 generalize World.alloc w _ = w0 at *
 go_loopw [8] (fun i wr => ∃ k : Nat, k ≤ n ∧ i = .int .i64 k ∧ Hid (∃ v', WStep w0 g v (xs ++ (ns.take k).flatMap (be 8)) 0 wr v' ∧ wr.heap[w.heap.size]? = some (.cells #[.pointer (some ⟨g, 0, none⟩), .pointer none] 314 (0, 0)))) (fun i _ => n - (intOf i).toNat)
 case atStart =>
  obtain ⟨v', h⟩ := W0.out
  exact ⟨0, Nat.zero_le _, rfl, Lib.hid ⟨v', h, HB0.out⟩⟩
 case round =>
  clear W0 HB0
  obtain ⟨k, hk, rfl, hR⟩ := hrel
  obtain ⟨v1, r1, r2⟩ := hR.out
  have R := Lib.hid r1
  have c0 := cells_of r2 0
  have c1 := cells_of r2 1
  have HB := Lib.hid r2
  clear hR r1 r2
  by_cases hlt : k < n
  ·have lk : k < os.length := by rw [HO.out]; exact hlt
   have lx : k < ns.length := by rw [HLN.out]; exact lk
   have hx := HU.out _ (List.getElem_mem lx)
   have hcc := HC.out k os[k] ns[k] (List.getElem?_eq_getElem lk) (List.getElem?_eq_getElem lx)
   obtain ⟨g1, off, hsl, hsc⟩ : ∃ g1 off, a = some ⟨g1, off, none⟩ ∧ w.cell? ⟨g1, off + k, none⟩ = some (ptr B os[k]) := by
    rcases RdM.open HT.out.rd with ⟨_, h0⟩ | ⟨g1, off, cap, hv, _, _, _, h5⟩
    ·rw [h0] at lk; simp at lk
    ·cases hv
     exact ⟨g1, off, rfl, h5 k lk⟩
   subst hsl
   obtain ⟨hg1, hg2⟩ := HT.out.sb g1 rfl
   have M1 := Lib.hid (m0.out.trans R.out.mods (U := WS g v) (fun _ _ x => x.elim) (fun _ _ x => x))
   have d0 := (M1.out.cellAt hg1 hg2 (off + k)).trans hsc
   have d1 := (cells_of (M1.out.heap HT.out.box HT.out.ne) os[k]).trans hcc
   have HN1 := Lib.hid (show (ns.take (k + 1)).flatMap (be 8) = (ns.take k).flatMap (be 8) ++ be 8 ns[k] from by rw [List.take_succ_eq_append_getElem lx, List.flatMap_append]; simp)
   have hlk : (xs ++ (ns.take k).flatMap (be 8)).length ≤ 100000000 := by
    have : ∀ l : List Nat, (l.flatMap (be 8)).length = 8 * l.length := by
     intro l
     induction l with
     | nil => rfl
     | cons x l ih => rw [List.flatMap_cons, List.length_append, ih, be_length, List.length_cons]; omega
    rw [List.length_append, this, List.length_take]
    omega
   generalize os[k] = o at *
   generalize ns[k] = x at *
   clear hsc hcc hg1 hg2
   unfold ptr at d0
   go_wp2
   go_still_tail 5, (by kernel_rfl)
   change wpList _ _ _ _ _ wr.drew
   go_wp2_with fail
   refine (WU64_any x R.out.wr.drew hx (by omega)).mono ?_
   rintro r w5 ⟨rfl, v2, s2⟩
   have hb2 := s2.mods.heap (show wr.drew.heap[w.heap.size]? = _ from HB.out) (fun y => by
    rcases y with y | y
    ·have := HW.out g (.inl rfl); omega
    ·rcases R.out.blk with hb | hb
     ·have := HW.out _ (.inr (hb ▸ y)); omega
     ·have := hb _ y; have := hsz0.out; omega)
   have S2 := R.out.trans (s2.from ((Mods.refl noB wr).drew))
   rw [wput0', List.append_assoc, ← HN1.out] at S2
   have R2 := Lib.hid (And.intro S2 hb2)
   clear s2 hb2 S2 R HB d0 d1 c0 c1
   go_wp2
   go_roundw
   case rel => exact ⟨k + 1, by omega, by go_num, Lib.hid ⟨v2, R2.out⟩⟩
   case measure => simp [intOf]; omega
  ·have e : ns.take k = ns := List.take_of_length_le (by rw [HLN.out, HO.out]; omega)
   have hr := R.out.from m0.out
   rw [e] at hr
   have R2 := Lib.hid hr
   clear R hr HB c0 c1
   go_wp2
   go_end0
   exact ⟨rfl, v1, R2.out⟩
theorem RN.keepW {S : Nat → Prop} {w w' : World} {u : Value} {ls : List Nat} (h : RN w u ls) (hm : Mods S w w') (ha : ls = [] ∨ ∀ k, u.ownBlock = some k → ¬ S k) : RN w' u ls := by
 rcases ha with rfl | ha
 ·refine ⟨rfl, ?_⟩
  rcases h.2 with h2 | ⟨g, off, cap, hv, h1, h2, hg, h3⟩
  ·exact .inl h2
  ·exact .inr ⟨g, off, cap, hv, h1, h2, .inl rfl, fun j u hj => by simp at hj⟩
 ·exact RdM.keep h hm ha
def dlay (ls : List Nat) : List UInt8 := natL (shortN (dval 18446744073709551616 ls))
theorem dlay_len (ls : List Nat) : (dlay ls).length ≤ 256 := by
 have := shortN_blen (dval 18446744073709551616 ls)
 unfold dlay
 rw [natL, List.length_append, be_length, natB_length]
 omega
end Go.Proofs.YtglkmaalpammcaaGreat

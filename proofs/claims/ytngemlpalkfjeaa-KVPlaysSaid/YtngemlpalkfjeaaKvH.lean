/- kv.Store as its callers see it: entries, what they were at each Begin, operations. -/
import Derived.Test.YtngemlpalkfjeaaKvT
import Derived.Test.YtngemlpalkfjeaaKvD
import Derived.Test.YtngemlpalkfjeaaKvY
namespace Go.Proofs.Ytngemlpalkfjeaa
open Go.Gl Go.RowKit
set_option linter.unusedVariables false
set_option maxRecDepth 100000
def JU (J : List JV) : List (List Und) := (J.map (fun q => q.us.map (·.u))).reverse
def totJ (J : List JV) : Nat := (J.map (fun q => q.us.length)).sum
theorem snaps_len (ls : List (List Und)) : ∀ F, (snaps ls F).length = ls.length := by
  induction ls with
  | nil => intro F; rfl
  | cons l ls ih => intro F; simp [snaps, ih]
theorem JU_len (J : List JV) : (JU J).length = J.length := by simp [JU]
theorem JU_snoc (A : List JV) (q : JV) : JU (A ++ [q]) = q.us.map (·.u) :: JU A := by simp [JU]
theorem tot_snoc (A : List JV) (q : JV) : totJ (A ++ [q]) = totJ A + q.us.length := by simp [totJ]
theorem tot_mem {J : List JV} {q : JV} (h : q ∈ J) : q.us.length ≤ totJ J := by
  induction J with
  | nil => cases h
  | cons a J ih =>
    have e : totJ (a :: J) = a.us.length + totJ J := by simp [totJ]
    rcases List.mem_cons.1 h with rfl | h
    · omega
    · have := ih h; omega
def KV (w : World) (sg : Nat) (F : List Ent) (Ws : List (List Ent)) (n p : Nat) (S D : Nat → Prop) : Prop :=
  ∃ mg vo R jv J, KM w sg mg vo R jv J (n : Int) ∧ PgOk (pgs R) ∧ (pgs R).flatten = F ∧ snaps (JU J) F = Ws ∧ J.length ≤ 16 ∧ F.length + totJ J ≤ p ∧ S = KS sg mg vo R jv J ∧ D = KD R J
theorem KV.ris {w : World} {sg : Nat} {F : List Ent} {Ws : List (List Ent)} {n p : Nat} {S D : Nat → Prop} (h : KV w sg F Ws n p S D) : Ris F := by
  obtain ⟨mg, vo, R, jv, J, km, ok, rfl, _⟩ := h
  exact ok.ris
theorem KV.lt {w : World} {sg : Nat} {F : List Ent} {Ws : List (List Ent)} {n p : Nat} {S D : Nat → Prop} (h : KV w sg F Ws n p S D) : (∀ k, S k → k < w.heap.size) ∧ (∀ k, D k → k < w.heap.size) ∧ S sg := by
  obtain ⟨mg, vo, R, jv, J, km, ok, hf, hw, hj, hp, rfl, rfl⟩ := h
  exact ⟨km.lt, km.dlt, .inl rfl⟩
theorem KV.keep {w w' : World} {sg : Nat} {F : List Ent} {Ws : List (List Ent)} {n p : Nat} {S D T : Nat → Prop} (h : KV w sg F Ws n p S D) (hm : Mods T w w') (h1 : ∀ k, S k → ¬ T k) (h2 : ∀ k, D k → ¬ T k) : KV w' sg F Ws n p S D := by
  obtain ⟨mg, vo, R, jv, J, km, ok, hf, hw, hj, hp, rfl, rfl⟩ := h
  exact ⟨mg, vo, R, jv, J, km.keep hm h1 h2, ok, hf, hw, hj, hp, rfl, rfl⟩
theorem KV.keep0 {w w' : World} {sg : Nat} {F : List Ent} {Ws : List (List Ent)} {n p : Nat} {S D : Nat → Prop} (h : KV w sg F Ws n p S D) (hm : Mods noB w w') : KV w' sg F Ws n p S D := h.keep hm (fun _ _ x => x) (fun _ _ x => x)
theorem KV.more {w : World} {sg : Nat} {F : List Ent} {Ws : List (List Ent)} {n p p' : Nat} {S D : Nat → Prop} (h : KV w sg F Ws n p S D) (hp' : p ≤ p') : KV w sg F Ws n p' S D := by
  obtain ⟨mg, vo, R, jv, J, km, ok, hf, hw, hj, hp, hs, hd⟩ := h
  exact ⟨mg, vo, R, jv, J, km, ok, hf, hw, hj, by omega, hs, hd⟩
theorem KV.len {w : World} {sg : Nat} {F : List Ent} {Ws : List (List Ent)} {n p : Nat} {S D : Nat → Prop} (h : KV w sg F Ws n p S D) : F.length ≤ p ∧ Ws.length ≤ 16 := by
  obtain ⟨mg, vo, R, jv, J, km, ok, hf, hw, hj, hp, hs, hd⟩ := h
  exact ⟨by omega, by rw [← hw, snaps_len, JU_len]; exact hj⟩
def Chg (w w' : World) (sg : Nat) (S D : Nat → Prop) (F' : List Ent) (Ws' : List (List Ent)) (n' p' : Nat) : Prop :=
  ∃ S' D', KV w' sg F' Ws' n' p' S' D' ∧ Mods S w w' ∧ (∀ k, S' k → S k ∨ w.heap.size ≤ k) ∧ (∀ k, D' k → D k ∨ w.heap.size ≤ k)
theorem chg_of {w w' : World} {sg mg : Nat} {vo jv vo' jv' : Value} {R R' : List PV} {J J' : List JV} {n' p' : Nat} (t : KT w w' sg mg vo R jv J vo' R' jv' J' (n' : Int)) (ok : PgOk (pgs R')) (hj : J'.length ≤ 16) (hp : (pgs R').flatten.length + totJ J' ≤ p') {F' : List Ent} {Ws' : List (List Ent)} (hf : (pgs R').flatten = F') (hw : snaps (JU J') F' = Ws') :
    Chg w w' sg (KS sg mg vo R jv J) (KD R J) F' Ws' n' p' :=
  ⟨_, _, ⟨mg, vo', R', jv', J', t.km, ok, hf, hw, hj, by rw [← hf]; exact hp, rfl, rfl⟩, t.mods, t.ks, t.kd⟩
theorem val_len {w : World} {sg mg : Nat} {vo jv : Value} {R : List PV} {J : List JV} {n : Int} (h : KM w sg mg vo R jv J n) (ok : PgOk (pgs R)) {k v : List UInt8} (hg : getP (pgs R) k = some v) : v.length ≤ 1000000 := by
  rw [getP_eq ok] at hg
  have hm := (getL_filter (pgs R).flatten k ok.ris).2 v hg
  obtain ⟨l, hl, he⟩ := List.mem_flatten.1 hm
  obtain ⟨p, hp, rfl⟩ := List.mem_map.1 hl
  obtain ⟨e, hee, hev⟩ := List.mem_map.1 he
  have := (h.pm.ents p hp e hee).lv
  have h2 : e.v = v := congrArg Prod.snd hev
  rw [← h2]
  exact this
theorem found_get {ps : Pgs} (ok : PgOk ps) (k : List UInt8) : (findP ps k).2.2 = (getL ps.flatten k).isSome := by
  rw [← getP_eq ok]
  unfold getP
  cases (findP ps k).2.2 <;> rfl
theorem snaps_noted {J J' : List JV} {k : List UInt8} {F F' : List Ent} (old : Option (List UInt8)) (h : Noted J J' k old) (hu : undo1 ⟨k, old⟩ F' = F) : snaps (JU J') F' = snaps (JU J) F ∧ J'.length = J.length ∧ totJ J' ≤ totJ J + 1 := by
  rcases h with ⟨rfl, rfl⟩ | ⟨A, q0, v, x, rfl, rfl, hx⟩
  · exact ⟨rfl, rfl, by omega⟩
  · refine ⟨?_, by simp, ?_⟩
    · rw [JU_snoc, JU_snoc, List.map_append, List.map_singleton, hx]
      exact snaps_note hu _ _
    · rw [tot_snoc, tot_snoc, List.length_append, List.length_singleton]
      omega
/-! ### the calls -/
theorem hNew (w : World) : Calls Try.prog 11 #[] w fun e w' => ∃ sg S D, e = .returned (.pointer (some ⟨sg, 0, none⟩)) ∧ KV w' sg [] [] 0 0 S D ∧ Mods noB w w' ∧ (∀ k, S k → w.heap.size ≤ k) ∧ (∀ k, ¬ D k) := by
  refine (kNew_any w).mono ?_
  rintro e w' ⟨sg, mg, rfl, km, m, g1, g2⟩
  refine ⟨sg, _, _, rfl, ⟨mg, _, [], _, [], km, ⟨List.Pairwise.nil, fun p hp => (List.not_mem_nil hp).elim, fun p hp => (List.not_mem_nil hp).elim⟩, rfl, rfl, by simp, by simp [totJ], rfl, rfl⟩, m, fun k hk => ?_, fun k hk => ?_⟩
  · rcases hk.made with rfl | hk
    · exact g1
    · rcases hk with rfl | hk | ⟨p, hp, _⟩
      · exact g2
      · simp [Value.ownBlock] at hk
      · exact (List.not_mem_nil hp).elim
  · obtain ⟨p, hp, _⟩ := hk.made
    exact (List.not_mem_nil hp).elim
section
variable {w : World} {sg n p : Nat} {F : List Ent} {Ws : List (List Ent)} {S D : Nat → Prop}
theorem hSet {q u : Value} {ks vs : List UInt8} (h : KV w sg F Ws n p S D) (hq : Rd w q ks) (hu : Rd w u vs) (hqs : Off S q ks) (hus : Off S u vs) (hn : n ≤ 1000000000000) (hp : p ≤ 100000) :
    Calls Try.prog 18 #[.pointer (some ⟨sg, 0, none⟩), q, u] w fun e w' => e = .returned (.int .i64 (setErr ks vs : Nat)) ∧ Chg w w' sg S D (if setErr ks vs = 0 then insL F ks vs else F) Ws (n + 1) (p + 2) := by
  obtain ⟨mg, vo, R, jv, J, km, ok, rfl, rfl, hj, hpp, rfl, rfl⟩ := h
  have hb := flat_bound ok
  rw [pgs_length] at hb
  refine (kSet_any km hq hu hqs hus (by omega) (by omega) ok (by omega) (by have : cnt (pgs R) = (pgs R).flatten.length := rfl; omega) (by omega) (fun q hq => by have := tot_mem hq; omega) (fun v hv => val_len km ok hv)).mono ?_
  rintro e w' ⟨rfl, ⟨h0, t⟩ | ⟨h0, vo', R', J', t, e1, nt⟩⟩
  · refine ⟨rfl, ?_⟩
    rw [if_neg h0]
    exact chg_of t ok hj (by omega) rfl rfl
  · refine ⟨rfl, ?_⟩
    rw [if_pos h0]
    rw [getP_eq ok] at nt
    obtain ⟨s1, s2, s3⟩ := snaps_noted _ nt (undo_set ok.ris ks vs)
    have ef : (pgs R').flatten = insL (pgs R).flatten ks vs := by rw [e1]; exact setP_flat ok _ _
    refine chg_of t (by rw [e1]; exact setP_ok ok _ _) (by omega) ?_ ef s1
    rw [ef]
    have := insL_len ok.ris ks vs
    omega
theorem hDelete {q : Value} {ks : List UInt8} (h : KV w sg F Ws n p S D) (hq : Rd w q ks) (hqs : Off S q ks) (lk : ks.length ≤ 1000000) (hn : n ≤ 1000000000000) (hp : p ≤ 100000) :
    Calls Try.prog 20 #[.pointer (some ⟨sg, 0, none⟩), q] w fun e w' => e = .returned (.bool (getL F ks).isSome) ∧ Chg w w' sg S D (delL F ks) Ws (n + 1) (p + 2) := by
  obtain ⟨mg, vo, R, jv, J, km, ok, rfl, rfl, hj, hpp, rfl, rfl⟩ := h
  have hb := flat_bound ok
  rw [pgs_length] at hb
  refine (kDelete_any km hq hqs lk (by omega) (by omega) ok (by omega) (by have : cnt (pgs R) = (pgs R).flatten.length := rfl; omega) (by omega) (fun q hq => by have := tot_mem hq; omega) (fun v hv => val_len km ok hv)).mono ?_
  rintro e w' ⟨rfl, vo', R', J', t, e1, nt⟩
  rw [found_get ok]
  refine ⟨rfl, ?_⟩
  rw [getP_eq ok] at nt
  obtain ⟨s1, s2, s3⟩ := snaps_noted _ nt (undo_del ok.ris ks)
  have ef : (pgs R').flatten = delL (pgs R).flatten ks := by rw [e1]; exact delP_flat ok _
  refine chg_of t (by rw [e1]; exact delP_ok ok _) (by omega) ?_ ef s1
  rw [ef]
  have := delL_len ok.ris ks
  omega
theorem hGet {q : Value} {ks : List UInt8} (h : KV w sg F Ws n p S D) (hq : Rd w q ks) (hqs : Off S q ks) (hn : n ≤ 1000000000000) (hp : p ≤ 100000) :
    Calls Try.prog 28 #[.pointer (some ⟨sg, 0, none⟩), q] w fun e w' => ∃ v', e = .returned (.tuple #[v', .bool (getL F ks).isSome]) ∧ Gl.Own w' v' ((getL F ks).getD []) ∧ KV w' sg F Ws (n + 1) p S D ∧ Mods S w w' ∧ freshIn w v' := by
  obtain ⟨mg, vo, R, jv, J, km, ok, rfl, rfl, hj, hpp, rfl, rfl⟩ := h
  have hb := flat_bound ok
  rw [pgs_length] at hb
  have := kGet_any km hq ok (by omega) (by omega) (by omega) (hqs.mono (fun k e => .inl e))
  rw [getP_eq ok] at this
  refine this.mono ?_
  rintro e w' ⟨v', rfl, o, t, f⟩
  exact ⟨v', rfl, o, ⟨mg, vo, R, jv, J, t.km, ok, rfl, rfl, hj, hpp, rfl, rfl⟩, t.mods, f⟩
theorem hHas {q : Value} {ks : List UInt8} (h : KV w sg F Ws n p S D) (hq : Rd w q ks) (hqs : Off S q ks) (hn : n ≤ 1000000000000) (hp : p ≤ 100000) :
    Calls Try.prog 29 #[.pointer (some ⟨sg, 0, none⟩), q] w fun e w' => e = .returned (.bool (getL F ks).isSome) ∧ Chg w w' sg S D F Ws (n + 1) p := by
  obtain ⟨mg, vo, R, jv, J, km, ok, rfl, rfl, hj, hpp, rfl, rfl⟩ := h
  have hb := flat_bound ok
  rw [pgs_length] at hb
  have := kHas_any km hq ok (by omega) (by omega) (by omega) (hqs.mono (fun k e => .inl e))
  rw [getP_eq ok] at this
  refine this.mono ?_
  rintro e w' ⟨rfl, t⟩
  exact ⟨rfl, chg_of t ok hj (by omega) rfl rfl⟩
theorem hBegin (h : KV w sg F Ws n p S D) :
    Calls Try.prog 19 #[.pointer (some ⟨sg, 0, none⟩)] w fun e w' => (16 ≤ Ws.length ∧ e = .returned (.int .i64 62) ∧ w' = w) ∨ (Ws.length < 16 ∧ e = .returned (.int .i64 0) ∧ Chg w w' sg S D F (F :: Ws) n p) := by
  obtain ⟨mg, vo, R, jv, J, km, ok, rfl, rfl, hj, hpp, rfl, rfl⟩ := h
  rw [snaps_len, JU_len]
  refine (kBegin_any km (by omega)).mono ?_
  rintro e w' (⟨h1, h2, h3⟩ | ⟨h1, h2, jv', t⟩)
  · exact .inl ⟨h1, h2, h3⟩
  · refine .inr ⟨h1, h2, chg_of t ok (by simp; omega) (by rw [tot_snoc]; show (pgs R).flatten.length + (totJ J + 0) ≤ p; omega) rfl ?_⟩
    rw [JU_snoc]
    rfl
theorem hCommit (h : KV w sg F Ws n p S D) (hp : p ≤ 100000) :
    Calls Try.prog 21 #[.pointer (some ⟨sg, 0, none⟩)] w fun e w' => (Ws = [] ∧ e = .returned (.int .i64 62) ∧ w' = w) ∨ (Ws ≠ [] ∧ e = .returned (.int .i64 0) ∧ Chg w w' sg S D F Ws.tail n p) := by
  obtain ⟨mg, vo, R, jv, J, km, ok, rfl, rfl, hj, hpp, rfl, rfl⟩ := h
  refine (kCommit_any km (by omega) (fun q hq => by have := tot_mem hq; omega)).mono ?_
  have hnil : snaps (JU J) (pgs R).flatten = [] ↔ J = [] := by
    rw [← List.length_eq_zero_iff, snaps_len, JU_len, List.length_eq_zero_iff]
  rintro e w' (⟨h1, h2, h3⟩ | ⟨h1, h2, jv', J', t, hc⟩)
  · exact .inl ⟨hnil.2 h1, h2, h3⟩
  · refine .inr ⟨fun x => h1 (hnil.1 x), h2, ?_⟩
    rcases hc with ⟨q0, rfl, rfl⟩ | ⟨A, p0, q0, v, rfl, rfl⟩
    · exact chg_of t ok (by simp) (by have : totJ [] = 0 := rfl; omega) rfl rfl
    · refine chg_of t ok (by simp at hj ⊢; omega) ?_ rfl ?_
      · rw [tot_snoc, tot_snoc] at hpp
        rw [tot_snoc, List.length_append]
        omega
      · rw [JU_snoc, JU_snoc, JU_snoc, List.map_append]
        exact snaps_commit _ _ _ _
theorem hRollback (h : KV w sg F Ws n p S D) (hp : p ≤ 100000) :
    Calls Try.prog 22 #[.pointer (some ⟨sg, 0, none⟩)] w fun e w' => (Ws = [] ∧ e = .returned (.int .i64 62) ∧ w' = w) ∨ (∃ G Vs, Ws = G :: Vs ∧ e = .returned (.int .i64 0) ∧ Chg w w' sg S D G Vs n p) := by
  obtain ⟨mg, vo, R, jv, J, km, ok, rfl, rfl, hj, hpp, rfl, rfl⟩ := h
  refine (kRollback_any km (by omega) (fun q hq => by have := tot_mem hq; omega) ok (by omega)).mono ?_
  rintro e w' (⟨h1, h2, h3⟩ | ⟨h2, A, q0, vo', R', jv', rfl, t, ok', fl⟩)
  · exact .inl ⟨by rw [h1]; rfl, h2, h3⟩
  · refine .inr ⟨undoAll (q0.us.map (·.u)) (pgs R).flatten, _, by rw [JU_snoc]; rfl, h2, chg_of t ok' (by simp at hj; omega) ?_ fl rfl⟩
    rw [fl]
    have := undoAll_len ok.ris (q0.us.map (·.u))
    rw [List.length_map] at this
    rw [tot_snoc] at hpp
    omega
theorem hDepth (h : KV w sg F Ws n p S D) : Calls Try.prog 16 #[.pointer (some ⟨sg, 0, none⟩)] w fun e w' => e = .returned (.int .i64 (Ws.length : Nat)) ∧ w' = w := by
  obtain ⟨mg, vo, R, jv, J, km, ok, rfl, rfl, hj, hpp, rfl, rfl⟩ := h
  rw [snaps_len, JU_len]
  exact kDepth_any km
theorem hOps (h : KV w sg F Ws n p S D) (hn : n ≤ 1000000000000) : Calls Try.prog 17 #[.pointer (some ⟨sg, 0, none⟩)] w fun e w' => e = .returned (.int .i64 (n : Nat)) ∧ w' = w := by
  obtain ⟨mg, vo, R, jv, J, km, ok, rfl, rfl, hj, hpp, rfl, rfl⟩ := h
  exact kOps_any km (by omega) (by omega)
theorem hDump (h : KV w sg F Ws n p S D) (hp : p ≤ 100000) : Calls Try.prog 15 #[.pointer (some ⟨sg, 0, none⟩)] w fun e w' => ∃ v L, e = .returned v ∧ WkGot w w' v L ∧ Mods noB w w' ∧ L.map EV.ent = F := by
  obtain ⟨mg, vo, R, jv, J, km, ok, rfl, rfl, hj, hpp, rfl, rfl⟩ := h
  have hb := flat_bound ok
  rw [pgs_length] at hb
  exact kDump_any km ok (by omega) (by omega)
theorem hCopy (h : KV w sg F Ws n p S D) (hp : p ≤ 100000) : Calls Try.prog 12 #[.pointer (some ⟨sg, 0, none⟩)] w fun e w' => ∃ sg2 S2 D2, e = .returned (.pointer (some ⟨sg2, 0, none⟩)) ∧ KV w' sg2 F [] 0 p S2 D2 ∧ Mods noB w w' ∧ (∀ k, S2 k → w.heap.size ≤ k) ∧ (∀ k, D2 k → D k) := by
  obtain ⟨mg, vo, R, jv, J, km, ok, rfl, rfl, hj, hpp, rfl, rfl⟩ := h
  have hb := flat_bound ok
  rw [pgs_length] at hb
  refine (kCopy_any km ok (by omega)).mono ?_
  rintro e w' ⟨sg2, mg2, vo2, R2, rfl, k2, e2, m, hs, hd⟩
  exact ⟨sg2, _, _, rfl, ⟨mg2, vo2, R2, _, [], k2, by rw [e2]; exact ok, by rw [e2], rfl, by simp, by have : totJ [] = 0 := rfl; omega, rfl, rfl⟩, m, hs, hd⟩
end
def KVI (w : World) (sg : Nat) (F : List Ent) (Ws : List (List Ent)) (n p : Nat) (S D : Nat → Prop) (L : List Ent) (lb : Array Value) : Prop :=
  ∃ mg vo R jv J LL w0, KM w sg mg vo R jv J (n : Int) ∧ PgOk (pgs R) ∧ (pgs R).flatten = F ∧ snaps (JU J) F = Ws ∧ J.length ≤ 16 ∧ F.length + totJ J ≤ p ∧ S = KS sg mg vo R jv J ∧ D = KD R J ∧
    TkIt w0 w sg mg vo R LL lb ∧ LL.map EV.ent = L ∧ (∀ e ∈ LL, e.k.length ≤ 1000000 ∧ e.v.length ≤ 1000000) ∧ LL.length ≤ p ∧ sg < w0.heap.size ∧ ¬ MS mg vo R sg ∧ ¬ MD R sg
theorem KVI.kv {w : World} {sg : Nat} {F : List Ent} {Ws : List (List Ent)} {n p : Nat} {S D : Nat → Prop} {L : List Ent} {lb : Array Value} (h : KVI w sg F Ws n p S D L lb) : KV w sg F Ws n p S D := by
  obtain ⟨mg, vo, R, jv, J, LL, w0, km, ok, hf, hw, hj, hp, hs, hd, _⟩ := h
  exact ⟨mg, vo, R, jv, J, km, ok, hf, hw, hj, hp, hs, hd⟩
theorem KVI.keep0 {w w' : World} {sg : Nat} {F : List Ent} {Ws : List (List Ent)} {n p : Nat} {S D : Nat → Prop} {L : List Ent} {lb : Array Value} (h : KVI w sg F Ws n p S D L lb) (hm : Mods noB w w') : KVI w' sg F Ws n p S D L lb := by
  obtain ⟨mg, vo, R, jv, J, LL, w0, km, ok, hf, hw, hj, hp, hs, hd, tk, hl⟩ := h
  exact ⟨mg, vo, R, jv, J, LL, w0, km.keep0 hm, ok, hf, hw, hj, hp, hs, hd, tk.keep hm (fun k x => x.elim) (fun k x => x.elim), hl⟩
theorem wk_lens2 {w : World} {g : Nat} {vo : Value} {R : List PV} (hm : PM w g vo R) {LL : List EV} (h : ∀ e ∈ LL, ∃ p ∈ R, e ∈ p.es) : ∀ e ∈ LL, e.k.length ≤ 1000000 ∧ e.v.length ≤ 1000000 := fun e he => by
  obtain ⟨p, hp, he⟩ := h e he
  have := hm.ents p hp e he
  exact ⟨this.lk, this.lv⟩
theorem wkL_in {R : List PV} {xs ts : List UInt8} {e : EV} (he : e ∈ wkL R xs ts) : ∃ p ∈ R, e ∈ p.es := by
  have h2 : e ∈ risL R xs := (List.takeWhile_sublist _).subset he
  obtain ⟨i, hi⟩ := List.mem_iff_getElem?.1 h2
  exact risL_mem hi
theorem px_ents {R : List PV} (ok : PgOk (pgs R)) (xs : List UInt8) : (pxL R xs).map EV.ent = (pgs R).flatten.filter (fun e => beginsB xs e.1) := by
  have h1 : (wkL R xs []).map EV.ent = (pgs R).flatten.filter (fun e => !lessB e.1 xs) := by
    have := ents_wk ok xs []
    rw [show (wkL R xs []).map EV.ent = ents (wkL R xs []) from rfl, this]
    refine List.filter_congr (fun e _ => ?_)
    simp [btw]
  have h2 : ∀ l : List EV, (l.takeWhile (fun e => beginsB xs e.k)).map EV.ent = (l.map EV.ent).takeWhile (fun e => beginsB xs e.1) := fun l => by
    induction l with
    | nil => rfl
    | cons a l ih =>
      have ha : (EV.ent a).1 = a.k := rfl
      rw [List.map_cons, List.takeWhile_cons, List.takeWhile_cons, ha]
      cases beginsB xs a.k with
      | true => simp only [if_true, List.map_cons, ih]
      | false => rfl
  unfold pxL
  rw [h2, h1]
  exact walk_prefix ok.ris xs
section
variable {w : World} {sg n p : Nat} {F : List Ent} {Ws : List (List Ent)} {S D : Nat → Prop}
theorem hWalk {fv tv : Value} {xs ts : List UInt8} (h : KV w sg F Ws n p S D) (hf : Rd w fv xs) (ht : Rd w tv ts) (lx : xs.length ≤ 1000000) (lt : ts.length ≤ 1000000) (hp : p ≤ 100000) :
    Calls Try.prog 26 #[.pointer (some ⟨sg, 0, none⟩), fv, tv] w fun e w' => ∃ lb, e = .returned (.func (.func 73) #[] lb) ∧ KVI w' sg F Ws n p S D (F.filter (btw xs ts)) lb ∧ Mods noB w w' := by
  obtain ⟨mg, vo, R, jv, J, km, ok, rfl, rfl, hj, hpp, rfl, rfl⟩ := h
  have hb := flat_bound ok
  rw [pgs_length] at hb
  refine (kWalk_any km hf ht lx lt ok (by omega)).mono ?_
  rintro e w' ⟨b1, b2, rfl, m, tk⟩
  refine ⟨_, rfl, ⟨mg, vo, R, jv, J, _, w, km.keep0 m, ok, rfl, rfl, hj, hpp, rfl, rfl, tk, ents_wk ok xs ts, wk_lens2 km.pm (fun e he => wkL_in he), ?_, km.lt sg (.inl rfl), km.s1.1, fun x => km.data sg (.inl x) (.inl rfl)⟩, m⟩
  have := wk_len ok xs ts
  have : cnt (pgs R) = (pgs R).flatten.length := rfl
  omega
theorem hPrefix {q : Value} {xs : List UInt8} (h : KV w sg F Ws n p S D) (hq : Rd w q xs) (lx : xs.length ≤ 1000000) (hp : p ≤ 100000) :
    Calls Try.prog 25 #[.pointer (some ⟨sg, 0, none⟩), q] w fun e w' => ∃ lb, e = .returned (.func (.func 73) #[] lb) ∧ KVI w' sg F Ws n p S D (F.filter (fun e => beginsB xs e.1)) lb ∧ Mods noB w w' := by
  obtain ⟨mg, vo, R, jv, J, km, ok, rfl, rfl, hj, hpp, rfl, rfl⟩ := h
  have hb := flat_bound ok
  rw [pgs_length] at hb
  refine (kPrefix_any km hq lx ok (by omega)).mono ?_
  rintro e w' ⟨b1, b2, rfl, m, tk⟩
  refine ⟨_, rfl, ⟨mg, vo, R, jv, J, _, w, km.keep0 m, ok, rfl, rfl, hj, hpp, rfl, rfl, tk, px_ents ok xs, wk_lens2 km.pm (fun e he => wkL_in ((List.takeWhile_sublist _).subset he)), ?_, km.lt sg (.inl rfl), km.s1.1, fun x => km.data sg (.inl x) (.inl rfl)⟩, m⟩
  have h1 : (pxL R xs).length ≤ (wkL R xs []).length := List.Sublist.length_le (List.takeWhile_sublist _)
  have := wk_len ok xs []
  have : cnt (pgs R) = (pgs R).flatten.length := rfl
  omega
theorem hTaken {L : List Ent} {lb : Array Value} {N : Nat} (h : KVI w sg F Ws n p S D L lb) (hN : 1 ≤ N) (hn : n ≤ 1000000000000) (hp : p ≤ 100000) :
    Calls Try.prog 24 #[.func (.func 73) #[] lb, .int .i64 (N : Nat)] w fun e w' => ∃ v M, e = .returned v ∧ WkGot w w' v M ∧ M.map EV.ent = L.take N ∧ Mods S w w' ∧ KVI w' sg F Ws (n + 1 + min N L.length) p S D L lb := by
  obtain ⟨mg, vo, R, jv, J, LL, w0, km, ok, rfl, rfl, hj, hpp, rfl, rfl, tk, rfl, hle, hll, sl, s1, s2⟩ := h
  obtain ⟨U0, it, hU⟩ := id tk
  rw [List.length_map]
  refine (taken_any km (it w (Mods.refl _ _)) (fun k hk => (hU k hk).1) hN (by omega) (by omega) hle (by omega)).mono ?_
  rintro e w' ⟨v, M, rfl, g, em, mm, km'⟩
  refine ⟨v, M, rfl, g, em, mm.mono (fun k _ hk => by subst hk; exact .inl rfl), mg, vo, R, jv, J, LL, w0, ?_, ok, rfl, rfl, hj, hpp, rfl, rfl, tk.keep mm (fun k hk => by omega) (fun k hk => .inl hk), rfl, hle, hll, sl, s1, s2⟩
  have : ((n + 1 + min N LL.length : Nat) : Int) = (n : Int) + 1 + (min N LL.length : Nat) := by omega
  rw [this]
  exact km'
end
end Go.Proofs.Ytngemlpalkfjeaa

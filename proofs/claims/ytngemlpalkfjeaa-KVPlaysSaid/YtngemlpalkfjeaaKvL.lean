/- Laws over kv.Store: one store, two stores, and what they must leave alone. -/
import Derived.Test.YtngemlpalkfjeaaKvH
namespace Go.Proofs.Ytngemlpalkfjeaa
open Go.Gl Go.RowKit
set_option linter.unusedVariables false
set_option maxRecDepth 100000
def KL (w0 w : World) (sg : Nat) (F : List Ent) (Ws : List (List Ent)) (n p : Nat) (Q : Nat → Prop) : Prop :=
  ∃ S D, KV w sg F Ws n p S D ∧ (∀ k, Q k → ¬ S k ∧ ¬ D k ∧ k < w.heap.size) ∧ (∀ k, k < w0.heap.size → Q k) ∧ Mods noB w0 w
def K2 (w0 w : World) (sg : Nat) (F : List Ent) (Ws : List (List Ent)) (n p : Nat) (sg2 : Nat) (F2 : List Ent) (Ws2 : List (List Ent)) (n2 p2 : Nat) (Q : Nat → Prop) : Prop :=
  ∃ S D S2 D2, KV w sg F Ws n p S D ∧ KV w sg2 F2 Ws2 n2 p2 S2 D2 ∧ (∀ k, Q k → ¬ S k ∧ ¬ D k ∧ ¬ S2 k ∧ ¬ D2 k ∧ k < w.heap.size) ∧ (∀ k, k < w0.heap.size → Q k) ∧ (∀ k, S k → ¬ S2 k) ∧ (∀ k, D k → ¬ S2 k) ∧ (∀ k, D2 k → ¬ S k) ∧ Mods noB w0 w
theorem Chg.refl {w : World} {sg n p : Nat} {F : List Ent} {Ws : List (List Ent)} {S D : Nat → Prop} (h : KV w sg F Ws n p S D) : Chg w w sg S D F Ws n p := ⟨S, D, h, Mods.refl _ _, fun _ => .inl, fun _ => .inl⟩
def CC (f : FuncId) (args : Array Value) (w : World) (sg : Nat) (F : List Ent) (Ws : List (List Ent)) (n p : Nat) (Q : Nat → Prop) (r : Value) (F' : List Ent) (Ws' : List (List Ent)) (n' p' : Nat) : Prop :=
  ∀ S D, KV w sg F Ws n p S D → (∀ k, Q k → ¬ S k) → Calls Try.prog f args w fun e w' => e = .returned r ∧ Chg w w' sg S D F' Ws' n' p'
section
variable {w0 w : World} {sg n p n' p' : Nat} {F F' : List Ent} {Ws Ws' : List (List Ent)} {Q : Nat → Prop}
theorem KL.call {f : FuncId} {args : Array Value} {r : Value} (h : KL w0 w sg F Ws n p Q) (c : CC f args w sg F Ws n p Q r F' Ws' n' p') : Calls Try.prog f args w fun e w' => e = .returned r ∧ KL w0 w' sg F' Ws' n' p' Q ∧ Mods (fun k => ¬ Q k) w w' := by
  obtain ⟨S, D, kv, hq, h0, m0⟩ := h
  refine (c S D kv (fun k hk => (hq k hk).1)).mono ?_
  rintro e w' ⟨rfl, S', D', kv', m, hs, hd⟩
  refine ⟨rfl, ⟨S', D', kv', fun k hk => ⟨fun x => ?_, fun x => ?_, Nat.lt_of_lt_of_le (hq k hk).2.2 m.size⟩, h0, m0.trans m (fun _ _ x => x) (fun k hk x => (hq k (h0 k hk)).1 x)⟩, m.mono (fun k _ hk x => (hq k x).1 hk)⟩
  · rcases hs k x with y | y
    · exact (hq k hk).1 y
    · have := (hq k hk).2.2; omega
  · rcases hd k x with y | y
    · exact (hq k hk).2.1 y
    · have := (hq k hk).2.2; omega
theorem KL.keep0 {w' : World} (h : KL w0 w sg F Ws n p Q) (m : Mods noB w w') : KL w0 w' sg F Ws n p Q := by
  obtain ⟨S, D, kv, hq, h0, m0⟩ := h
  exact ⟨S, D, kv.keep0 m, fun k hk => ⟨(hq k hk).1, (hq k hk).2.1, Nat.lt_of_lt_of_le (hq k hk).2.2 m.size⟩, h0, m0.then0 m⟩
theorem KL.grow {w' : World} {Q' : Nat → Prop} (h : KL w0 w sg F Ws n p Q) (m : Mods noB w w') (hq' : ∀ k, Q' k → Q k ∨ (w.heap.size ≤ k ∧ k < w'.heap.size)) (h1 : ∀ k, k < w0.heap.size → Q' k) : KL w0 w' sg F Ws n p Q' := by
  obtain ⟨S, D, kv, hq, h0, m0⟩ := h
  refine ⟨S, D, kv.keep0 m, fun k hk => ?_, h1, m0.then0 m⟩
  rcases hq' k hk with x | ⟨x, y⟩
  · exact ⟨(hq k x).1, (hq k x).2.1, Nat.lt_of_lt_of_le (hq k x).2.2 m.size⟩
  · exact ⟨fun z => by have := kv.lt.1 k z; omega, fun z => by have := kv.lt.2.1 k z; omega, y⟩
theorem KL.turn {w' : World} {T : Nat → Prop} (h : KL w0 w sg F Ws n p Q) (m : Mods T w w') (ht : ∀ k, T k → Q k ∧ w0.heap.size ≤ k) : KL w0 w' sg F Ws n p Q := by
  obtain ⟨S, D, kv, hq, h0, m0⟩ := h
  exact ⟨S, D, kv.keep m (fun k hk x => (hq k (ht k x).1).1 hk) (fun k hk x => (hq k (ht k x).1).2.1 hk), fun k hk => ⟨(hq k hk).1, (hq k hk).2.1, Nat.lt_of_lt_of_le (hq k hk).2.2 m.size⟩, h0, m0.trans m (fun _ _ x => x) (fun k hk x => by have := (ht k x).2; omega)⟩
theorem KL.more {p2 : Nat} (h : KL w0 w sg F Ws n p Q) (hp : p ≤ p2) : KL w0 w sg F Ws n p2 Q := by
  obtain ⟨S, D, kv, r⟩ := h
  exact ⟨S, D, kv.more hp, r⟩
theorem KL.less {Q' : Nat → Prop} (h : KL w0 w sg F Ws n p Q) (hq : ∀ k, Q' k → Q k) (h1 : ∀ k, k < w0.heap.size → Q' k) : KL w0 w sg F Ws n p Q' := by
  obtain ⟨S, D, kv, q, h0, m0⟩ := h
  exact ⟨S, D, kv, fun k hk => q k (hq k hk), h1, m0⟩
theorem KL.mods (h : KL w0 w sg F Ws n p Q) : Mods noB w0 w := by obtain ⟨_, _, _, _, _, m⟩ := h; exact m
theorem KL.ris (h : KL w0 w sg F Ws n p Q) : Ris F := by obtain ⟨_, _, kv, _⟩ := h; exact kv.ris
theorem KL.len (h : KL w0 w sg F Ws n p Q) : F.length ≤ p ∧ Ws.length ≤ 16 := by obtain ⟨_, _, kv, _⟩ := h; exact kv.len
theorem KL.q0 (h : KL w0 w sg F Ws n p Q) : ∀ k, k < w0.heap.size → Q k := by obtain ⟨_, _, _, _, a, _⟩ := h; exact a
theorem KL.qlt (h : KL w0 w sg F Ws n p Q) : ∀ k, Q k → k < w.heap.size := by obtain ⟨_, _, _, a, _, _⟩ := h; exact fun k hk => (a k hk).2.2
variable {sg2 n2 p2 : Nat} {F2 : List Ent} {Ws2 : List (List Ent)}
theorem K2.swap (h : K2 w0 w sg F Ws n p sg2 F2 Ws2 n2 p2 Q) : K2 w0 w sg2 F2 Ws2 n2 p2 sg F Ws n p Q := by
  obtain ⟨S, D, S2, D2, kv, kv2, hq, h0, a1, a2, a3, m0⟩ := h
  exact ⟨S2, D2, S, D, kv2, kv, fun k hk => ⟨(hq k hk).2.2.1, (hq k hk).2.2.2.1, (hq k hk).1, (hq k hk).2.1, (hq k hk).2.2.2.2⟩, h0, fun k x y => a1 k y x, a3, a2, m0⟩
theorem K2.one (h : K2 w0 w sg F Ws n p sg2 F2 Ws2 n2 p2 Q) : KL w0 w sg F Ws n p Q := by
  obtain ⟨S, D, S2, D2, kv, kv2, hq, h0, a1, a2, a3, m0⟩ := h
  exact ⟨S, D, kv, fun k hk => ⟨(hq k hk).1, (hq k hk).2.1, (hq k hk).2.2.2.2⟩, h0, m0⟩
theorem K2.call {f : FuncId} {args : Array Value} {r : Value} (h : K2 w0 w sg F Ws n p sg2 F2 Ws2 n2 p2 Q) (c : CC f args w sg F Ws n p Q r F' Ws' n' p') : Calls Try.prog f args w fun e w' => e = .returned r ∧ K2 w0 w' sg F' Ws' n' p' sg2 F2 Ws2 n2 p2 Q ∧ Mods (fun k => ¬ Q k) w w' := by
  obtain ⟨S, D, S2, D2, kv, kv2, hq, h0, a1, a2, a3, m0⟩ := h
  refine (c S D kv (fun k hk => (hq k hk).1)).mono ?_
  rintro e w' ⟨rfl, S', D', kv', m, hs, hd⟩
  have l2 := kv2.lt
  refine ⟨rfl, ⟨S', D', S2, D2, kv', kv2.keep m (fun k hk x => a1 k x hk) (fun k hk x => a3 k hk x), fun k hk => ⟨fun x => ?_, fun x => ?_, (hq k hk).2.2.1, (hq k hk).2.2.2.1, Nat.lt_of_lt_of_le (hq k hk).2.2.2.2 m.size⟩, h0, fun k x y => ?_, fun k x y => ?_, fun k x y => ?_, m0.trans m (fun _ _ x => x) (fun k hk x => (hq k (h0 k hk)).1 x)⟩, m.mono (fun k _ hk x => (hq k x).1 hk)⟩
  · rcases hs k x with y | y
    · exact (hq k hk).1 y
    · have := (hq k hk).2.2.2.2; omega
  · rcases hd k x with y | y
    · exact (hq k hk).2.1 y
    · have := (hq k hk).2.2.2.2; omega
  · rcases hs k x with z | z
    · exact a1 k z y
    · have := l2.1 k y; omega
  · rcases hd k x with z | z
    · exact a2 k z y
    · have := l2.1 k y; omega
  · rcases hs k y with z | z
    · exact a3 k x z
    · have := l2.2.1 k x; omega
theorem K2.keep0 {w' : World} (h : K2 w0 w sg F Ws n p sg2 F2 Ws2 n2 p2 Q) (m : Mods noB w w') : K2 w0 w' sg F Ws n p sg2 F2 Ws2 n2 p2 Q := by
  obtain ⟨S, D, S2, D2, kv, kv2, hq, h0, a1, a2, a3, m0⟩ := h
  exact ⟨S, D, S2, D2, kv.keep0 m, kv2.keep0 m, fun k hk => ⟨(hq k hk).1, (hq k hk).2.1, (hq k hk).2.2.1, (hq k hk).2.2.2.1, Nat.lt_of_lt_of_le (hq k hk).2.2.2.2 m.size⟩, h0, a1, a2, a3, m0.then0 m⟩
theorem K2.grow {w' : World} {Q' : Nat → Prop} (h : K2 w0 w sg F Ws n p sg2 F2 Ws2 n2 p2 Q) (m : Mods noB w w') (hq' : ∀ k, Q' k → Q k ∨ (w.heap.size ≤ k ∧ k < w'.heap.size)) (h1 : ∀ k, k < w0.heap.size → Q' k) : K2 w0 w' sg F Ws n p sg2 F2 Ws2 n2 p2 Q' := by
  obtain ⟨S, D, S2, D2, kv, kv2, hq, h0, a1, a2, a3, m0⟩ := h
  refine ⟨S, D, S2, D2, kv.keep0 m, kv2.keep0 m, fun k hk => ?_, h1, a1, a2, a3, m0.then0 m⟩
  rcases hq' k hk with x | ⟨x, y⟩
  · exact ⟨(hq k x).1, (hq k x).2.1, (hq k x).2.2.1, (hq k x).2.2.2.1, Nat.lt_of_lt_of_le (hq k x).2.2.2.2 m.size⟩
  · exact ⟨fun z => by have := kv.lt.1 k z; omega, fun z => by have := kv.lt.2.1 k z; omega, fun z => by have := kv2.lt.1 k z; omega, fun z => by have := kv2.lt.2.1 k z; omega, y⟩
theorem K2.more {q q2 : Nat} (h : K2 w0 w sg F Ws n p sg2 F2 Ws2 n2 p2 Q) (hp : p ≤ q) (hp2 : p2 ≤ q2) : K2 w0 w sg F Ws n q sg2 F2 Ws2 n2 q2 Q := by
  obtain ⟨S, D, S2, D2, kv, kv2, r⟩ := h
  exact ⟨S, D, S2, D2, kv.more hp, kv2.more hp2, r⟩
/-! ### the calls -/
theorem cc_set {q u : Value} {ks vs : List UInt8} (hq : Rd w q ks) (hu : Rd w u vs) (oq : Off (fun k => ¬ Q k) q ks) (ou : Off (fun k => ¬ Q k) u vs) (hn : n ≤ 1000000000000) (hp : p ≤ 100000) : CC 18 #[.pointer (some ⟨sg, 0, none⟩), q, u] w sg F Ws n p Q (.int .i64 (setErr ks vs : Nat)) (if setErr ks vs = 0 then insL F ks vs else F) Ws (n + 1) (p + 2) :=
  fun S D kv hQ => hSet kv hq hu (oq.mono (fun k hk x => hQ k x hk)) (ou.mono (fun k hk x => hQ k x hk)) hn hp
theorem cc_del {q : Value} {ks : List UInt8} (hq : Rd w q ks) (oq : Off (fun k => ¬ Q k) q ks) (lk : ks.length ≤ 1000000) (hn : n ≤ 1000000000000) (hp : p ≤ 100000) : CC 20 #[.pointer (some ⟨sg, 0, none⟩), q] w sg F Ws n p Q (.bool (getL F ks).isSome) (delL F ks) Ws (n + 1) (p + 2) :=
  fun S D kv hQ => hDelete kv hq (oq.mono (fun k hk x => hQ k x hk)) lk hn hp
theorem cc_has {q : Value} {ks : List UInt8} (hq : Rd w q ks) (oq : Off (fun k => ¬ Q k) q ks) (hn : n ≤ 1000000000000) (hp : p ≤ 100000) : CC 29 #[.pointer (some ⟨sg, 0, none⟩), q] w sg F Ws n p Q (.bool (getL F ks).isSome) F Ws (n + 1) p :=
  fun S D kv hQ => hHas kv hq (oq.mono (fun k hk x => hQ k x hk)) hn hp
def bgE (Ws : List (List Ent)) : Nat := if 16 ≤ Ws.length then 62 else 0
def bgW (F : List Ent) (Ws : List (List Ent)) : List (List Ent) := if 16 ≤ Ws.length then Ws else F :: Ws
def enE (Ws : List (List Ent)) : Nat := if Ws.length = 0 then 62 else 0
theorem cc_begin : CC 19 #[.pointer (some ⟨sg, 0, none⟩)] w sg F Ws n p Q (.int .i64 (bgE Ws : Nat)) F (bgW F Ws) n p := fun S D kv hQ => by
  refine (hBegin kv).mono ?_
  unfold bgE bgW
  rintro e w' (⟨h, rfl, rfl⟩ | ⟨h, rfl, c⟩)
  · rw [if_pos h, if_pos h]; exact ⟨rfl, Chg.refl kv⟩
  · rw [if_neg (by omega), if_neg (by omega)]; exact ⟨rfl, c⟩
theorem cc_commit (hp : p ≤ 100000) : CC 21 #[.pointer (some ⟨sg, 0, none⟩)] w sg F Ws n p Q (.int .i64 (enE Ws : Nat)) F Ws.tail n p := fun S D kv hQ => by
  refine (hCommit kv hp).mono ?_
  unfold enE
  rintro e w' (⟨rfl, rfl, rfl⟩ | ⟨h, rfl, c⟩)
  · exact ⟨rfl, Chg.refl kv⟩
  · rw [if_neg (fun x => h (List.eq_nil_of_length_eq_zero x))]; exact ⟨rfl, c⟩
theorem cc_rollback (hp : p ≤ 100000) : CC 22 #[.pointer (some ⟨sg, 0, none⟩)] w sg F Ws n p Q (.int .i64 (enE Ws : Nat)) (Ws.headD F) Ws.tail n p := fun S D kv hQ => by
  refine (hRollback kv hp).mono ?_
  unfold enE
  rintro e w' (⟨rfl, rfl, rfl⟩ | ⟨G, Vs, rfl, rfl, c⟩)
  · exact ⟨rfl, Chg.refl kv⟩
  · rw [if_neg (by simp)]; exact ⟨rfl, c⟩
theorem kl_new (hQ : ∀ k, Q k → k < w.heap.size) (h0 : ∀ k, k < w0.heap.size → Q k) (m0 : Mods noB w0 w) : Calls Try.prog 11 #[] w fun e w' => ∃ sg, e = .returned (.pointer (some ⟨sg, 0, none⟩)) ∧ KL w0 w' sg [] [] 0 0 Q ∧ Mods noB w w' := by
  refine (hNew w).mono ?_
  rintro e w' ⟨sg, S, D, rfl, kv, m, hs, hd⟩
  exact ⟨sg, rfl, ⟨S, D, kv, fun k hk => ⟨fun x => by have := hs k x; have := hQ k hk; omega, hd k, Nat.lt_of_lt_of_le (hQ k hk) m.size⟩, h0, m0.then0 m⟩, m⟩
theorem k2_new (h : KL w0 w sg F Ws n p Q) : Calls Try.prog 11 #[] w fun e w' => ∃ sg2, e = .returned (.pointer (some ⟨sg2, 0, none⟩)) ∧ K2 w0 w' sg F Ws n p sg2 [] [] 0 0 Q ∧ Mods noB w w' := by
  refine (hNew w).mono ?_
  obtain ⟨S, D, kv, hq, h0, m0⟩ := h
  have l := kv.lt
  rintro e w' ⟨sg2, S2, D2, rfl, kv2, m, hs, hd⟩
  exact ⟨sg2, rfl, ⟨S, D, S2, D2, kv.keep0 m, kv2, fun k hk => ⟨(hq k hk).1, (hq k hk).2.1, fun x => by have := hs k x; have := (hq k hk).2.2; omega, hd k, Nat.lt_of_lt_of_le (hq k hk).2.2 m.size⟩, h0, fun k x y => by have := hs k y; have := l.1 k x; omega, fun k x y => by have := hs k y; have := l.2.1 k x; omega, fun k x => (hd k x).elim, m0.then0 m⟩, m⟩
theorem k2_copy (h : KL w0 w sg F Ws n p Q) (hp : p ≤ 100000) : Calls Try.prog 12 #[.pointer (some ⟨sg, 0, none⟩)] w fun e w' => ∃ sg2, e = .returned (.pointer (some ⟨sg2, 0, none⟩)) ∧ K2 w0 w' sg F Ws n p sg2 F [] 0 p Q ∧ Mods noB w w' := by
  obtain ⟨S, D, kv, hq, h0, m0⟩ := h
  have l := kv.lt
  refine (hCopy kv hp).mono ?_
  rintro e w' ⟨sg2, S2, D2, rfl, kv2, m, hs, hd⟩
  obtain ⟨mg, vo, R, jv, J, km, _, _, _, _, _, eS, eD⟩ := id kv
  exact ⟨sg2, rfl, ⟨S, D, S2, D2, kv.keep0 m, kv2, fun k hk => ⟨(hq k hk).1, (hq k hk).2.1, fun x => by have := hs k x; have := (hq k hk).2.2; omega, fun x => (hq k hk).2.1 (hd k x), Nat.lt_of_lt_of_le (hq k hk).2.2 m.size⟩, h0, fun k x y => by have := hs k y; have := l.1 k x; omega, fun k x y => by have := hs k y; have := l.2.1 k x; omega, fun k x y => km.data k (by rw [← eD]; exact hd k x) (by rw [← eS]; exact y), m0.then0 m⟩, m⟩
theorem kl_depth (h : KL w0 w sg F Ws n p Q) : Calls Try.prog 16 #[.pointer (some ⟨sg, 0, none⟩)] w fun e w' => e = .returned (.int .i64 (Ws.length : Nat)) ∧ w' = w := by obtain ⟨S, D, kv, _⟩ := h; exact hDepth kv
theorem kl_ops (h : KL w0 w sg F Ws n p Q) (hn : n ≤ 1000000000000) : Calls Try.prog 17 #[.pointer (some ⟨sg, 0, none⟩)] w fun e w' => e = .returned (.int .i64 (n : Nat)) ∧ w' = w := by obtain ⟨S, D, kv, _⟩ := h; exact hOps kv hn
def QL (Q : Nat → Prop) (v : Value) (L : List EV) (k : Nat) : Prop := Q k ∨ v.ownBlock = some k ∨ MDL L k
theorem QL.new {w' : World} {v : Value} {L : List EV} (g : WkGot w w' v L) : ∀ k, QL Q v L k → Q k ∨ (w.heap.size ≤ k ∧ k < w'.heap.size) := fun k hk => by
  rcases hk with hk | hk | hk
  · exact .inl hk
  · exact .inr ⟨g.vf k hk, g.lt.1 k hk⟩
  · exact .inr ⟨(g.df k hk).1, g.lt.2 k hk⟩
theorem kl_dump (h : KL w0 w sg F Ws n p Q) (hp : p ≤ 100000) : Calls Try.prog 15 #[.pointer (some ⟨sg, 0, none⟩)] w fun e w' => ∃ v L, e = .returned v ∧ PRow w' v L ∧ L.map EV.ent = F ∧ KL w0 w' sg F Ws n p (QL Q v L) ∧ Mods noB w w' := by
  have h' := h
  obtain ⟨S, D, kv, hq, h0, m0⟩ := h
  refine (hDump kv hp).mono ?_
  rintro e w' ⟨v, L, rfl, g, m, el⟩
  exact ⟨v, L, rfl, g.prow, el, h'.grow m (QL.new g) (fun k hk => .inl (h0 k hk)), m⟩
theorem k2_dump (h : K2 w0 w sg F Ws n p sg2 F2 Ws2 n2 p2 Q) (hp : p ≤ 100000) : Calls Try.prog 15 #[.pointer (some ⟨sg, 0, none⟩)] w fun e w' => ∃ v L, e = .returned v ∧ PRow w' v L ∧ L.map EV.ent = F ∧ K2 w0 w' sg F Ws n p sg2 F2 Ws2 n2 p2 (QL Q v L) ∧ Mods noB w w' := by
  have h' := h
  obtain ⟨S, D, S2, D2, kv, kv2, hq, h0, r⟩ := h
  refine (hDump kv hp).mono ?_
  rintro e w' ⟨v, L, rfl, g, m, el⟩
  exact ⟨v, L, rfl, g.prow, el, h'.grow m (QL.new g) (fun k hk => .inl (h0 k hk)), m⟩
theorem PRow.keepQ {w' : World} {v : Value} {L : List EV} (h : PRow w v L) (hm : Mods (fun k => ¬ Q k) w w') (hv : ∀ k, v.ownBlock = some k → Q k) (hl : ∀ k, MDL L k → Q k) : PRow w' v L := h.keep hm (fun k hk x => x (hv k hk)) (fun k hk x => x (hl k hk))
theorem kl_get {q : Value} {ks : List UInt8} (h : KL w0 w sg F Ws n p Q) (hq : Rd w q ks) (oq : Off (fun k => ¬ Q k) q ks) (hn : n ≤ 1000000000000) (hp : p ≤ 100000) :
    Calls Try.prog 28 #[.pointer (some ⟨sg, 0, none⟩), q] w fun e w' => ∃ v', e = .returned (.tuple #[v', .bool (getL F ks).isSome]) ∧ Gl.Own w' v' ((getL F ks).getD []) ∧ KL w0 w' sg F Ws (n + 1) p (fun k => Q k ∨ v'.ownBlock = some k) ∧ Mods (fun k => ¬ Q k) w w' ∧ freshIn w v' := by
  obtain ⟨S, D, kv, hQ, h0, m0⟩ := h
  have l := kv.lt
  refine (hGet kv hq (oq.mono (fun k hk x => (hQ k x).1 hk)) hn hp).mono ?_
  rintro e w' ⟨v', rfl, o, kv', m, f⟩
  refine ⟨v', rfl, o, ⟨S, D, kv', fun k hk => ?_, fun k hk => .inl (h0 k hk), m0.trans m (fun _ _ x => x) (fun k hk x => (hQ k (h0 k hk)).1 x)⟩, m.mono (fun k _ hk x => (hQ k x).1 hk), f⟩
  rcases hk with hk | hk
  · exact ⟨(hQ k hk).1, (hQ k hk).2.1, Nat.lt_of_lt_of_le (hQ k hk).2.2 m.size⟩
  · have := f k hk
    exact ⟨fun x => by have := l.1 k x; omega, fun x => by have := l.2.1 k x; omega, o.lt k hk⟩
/-! ### iterators -/
def KLI (w0 w : World) (sg : Nat) (F : List Ent) (Ws : List (List Ent)) (n p : Nat) (Q : Nat → Prop) (L : List Ent) (lb : Array Value) : Prop :=
  ∃ S D, KVI w sg F Ws n p S D L lb ∧ (∀ k, Q k → ¬ S k ∧ ¬ D k ∧ k < w.heap.size) ∧ (∀ k, k < w0.heap.size → Q k) ∧ Mods noB w0 w
theorem KLI.kl {L : List Ent} {lb : Array Value} (h : KLI w0 w sg F Ws n p Q L lb) : KL w0 w sg F Ws n p Q := by
  obtain ⟨S, D, kv, r⟩ := h
  exact ⟨S, D, kv.kv, r⟩
theorem KLI.keep0 {w' : World} {L : List Ent} {lb : Array Value} (h : KLI w0 w sg F Ws n p Q L lb) (m : Mods noB w w') : KLI w0 w' sg F Ws n p Q L lb := by
  obtain ⟨S, D, kv, hq, h0, m0⟩ := h
  exact ⟨S, D, kv.keep0 m, fun k hk => ⟨(hq k hk).1, (hq k hk).2.1, Nat.lt_of_lt_of_le (hq k hk).2.2 m.size⟩, h0, m0.then0 m⟩
theorem kl_walk {fv tv : Value} {xs ts : List UInt8} (h : KL w0 w sg F Ws n p Q) (hf : Rd w fv xs) (ht : Rd w tv ts) (lx : xs.length ≤ 1000000) (lt : ts.length ≤ 1000000) (hp : p ≤ 100000) :
    Calls Try.prog 26 #[.pointer (some ⟨sg, 0, none⟩), fv, tv] w fun e w' => ∃ lb, e = .returned (.func (.func 73) #[] lb) ∧ KLI w0 w' sg F Ws n p Q (F.filter (btw xs ts)) lb ∧ Mods noB w w' := by
  obtain ⟨S, D, kv, hq, h0, m0⟩ := h
  refine (hWalk kv hf ht lx lt hp).mono ?_
  rintro e w' ⟨lb, rfl, kvi, m⟩
  exact ⟨lb, rfl, ⟨S, D, kvi, fun k hk => ⟨(hq k hk).1, (hq k hk).2.1, Nat.lt_of_lt_of_le (hq k hk).2.2 m.size⟩, h0, m0.then0 m⟩, m⟩
theorem kl_prefix {q : Value} {xs : List UInt8} (h : KL w0 w sg F Ws n p Q) (hq' : Rd w q xs) (lx : xs.length ≤ 1000000) (hp : p ≤ 100000) :
    Calls Try.prog 25 #[.pointer (some ⟨sg, 0, none⟩), q] w fun e w' => ∃ lb, e = .returned (.func (.func 73) #[] lb) ∧ KLI w0 w' sg F Ws n p Q (F.filter (fun e => beginsB xs e.1)) lb ∧ Mods noB w w' := by
  obtain ⟨S, D, kv, hq, h0, m0⟩ := h
  refine (hPrefix kv hq' lx hp).mono ?_
  rintro e w' ⟨lb, rfl, kvi, m⟩
  exact ⟨lb, rfl, ⟨S, D, kvi, fun k hk => ⟨(hq k hk).1, (hq k hk).2.1, Nat.lt_of_lt_of_le (hq k hk).2.2 m.size⟩, h0, m0.then0 m⟩, m⟩
theorem kl_taken {L : List Ent} {lb : Array Value} {N : Nat} (h : KLI w0 w sg F Ws n p Q L lb) (hN : 1 ≤ N) (hn : n ≤ 1000000000000) (hp : p ≤ 100000) :
    Calls Try.prog 24 #[.func (.func 73) #[] lb, .int .i64 (N : Nat)] w fun e w' => ∃ v M, e = .returned v ∧ PRow w' v M ∧ M.map EV.ent = L.take N ∧ KLI w0 w' sg F Ws (n + 1 + min N L.length) p (QL Q v M) L lb ∧ Mods (fun k => ¬ Q k) w w' := by
  obtain ⟨S, D, kv, hq, h0, m0⟩ := h
  have l := kv.kv.lt
  refine (hTaken kv hN hn hp).mono ?_
  rintro e w' ⟨v, M, rfl, g, em, m, kvi⟩
  refine ⟨v, M, rfl, g.prow, em, ⟨S, D, kvi, fun k hk => ?_, fun k hk => .inl (h0 k hk), m0.trans m (fun _ _ x => x) (fun k hk x => (hq k (h0 k hk)).1 x)⟩, m.mono (fun k _ hk x => (hq k x).1 hk)⟩
  rcases hk with hk | hk | hk
  · exact ⟨(hq k hk).1, (hq k hk).2.1, Nat.lt_of_lt_of_le (hq k hk).2.2 m.size⟩
  · have := g.vf k hk
    exact ⟨fun x => by have := l.1 k x; omega, fun x => by have := l.2.1 k x; omega, g.lt.1 k hk⟩
  · have := (g.df k hk).1
    exact ⟨fun x => by have := l.1 k x; omega, fun x => by have := l.2.1 k x; omega, g.lt.2 k hk⟩
end
end Go.Proofs.Ytngemlpalkfjeaa

/- Accounts, plain: what lies for them in a store's entries, and what the calls of bank do. -/
import Derived.Test.YtglkmaalpammcaaZD
import Derived.Test.YtglkmaalpammcaaRecG
namespace Go.Proofs.Ytglkmaalpammcaa
open Go.Gl Go.RowKit
set_option linter.unusedVariables false
def two (xs : List UInt8) : Nat × Nat := match (recGet [0, 0] xs).1 with
  | [a, b] => (a.n, b.n)
  | _ => (0, 0)
theorem two_of {xs : List UInt8} {a b e : Nat} (h : recGet [0, 0] xs = ([⟨0, a, []⟩, ⟨0, b, []⟩], e)) : two xs = (a, b) := by unfold two; rw [h]
def lay2 (a b : Nat) : List UInt8 := recLay [⟨0, a, []⟩, ⟨0, b, []⟩]
def akey (id : Nat) : List UInt8 := (kmake 4 id 0).getD []
def acF (F : List Ent) (id : Nat) : Nat × Nat := two ((getL F (akey id)).getD [])
def layF (F : List Ent) (id : Nat) (a : Nat × Nat) : List Ent := if a.1 = 0 ∧ a.2 = 0 then delL F (akey id) else setFF F (akey id) (lay2 a.1 a.2)
def isB (id : Nat) : Bool := (decide (1 ≤ id) && decide (id ≤ 4)) || decide (16 ≤ id)
def muchB (c n : Nat) : Bool := decide (1000000000000000000 < c + n)
def mintE (F : List Ent) (id n : Nat) : Nat := if isB id = false then 92 else if muchB (acF F id).1 n then 91 else 0
def mintF (F : List Ent) (id n : Nat) : List Ent := if mintE F id n = 0 then layF F id ((acF F id).1 + n, (acF F id).2) else F
def moveE (F : List Ent) (a b n : Nat) : Nat := if isB a = false ∨ isB b = false then 92 else if (acF F a).1 < n then 90 else if a = b then 0 else if muchB (acF F b).1 n then 91 else 0
def moveF (F : List Ent) (a b n : Nat) : List Ent := if moveE F a b n = 0 ∧ a ≠ b then layF (layF F a ((acF F a).1 - n, (acF F a).2)) b ((acF F b).1 + n, (acF F b).2) else F
def bumpE (id : Nat) : Nat := if isB id = false then 92 else 0
def bumpF (F : List Ent) (id : Nat) : List Ent := if isB id = false then F else layF F id ((acF F id).1, ((acF F id).2 + 1) % 18446744073709551616)
theorem kmake_len (n : Int) (a b : Nat) : ((kmake n a b).getD []).length ≤ 64 := by
  unfold kmake
  cases hf : kform n.toNat with
  | none => simp
  | some f =>
    simp only
    split
    · simp only [Option.getD_some]
      unfold kbytes kfirst
      simp only [List.length_append, List.length_singleton]
      have h1 : (if f.a = true then be 8 (kturn f a) else []).length ≤ 8 := by split <;> simp [be_length]
      have h2 : (if f.mid.toNat = 0 then ([] : List UInt8) else [f.mid]).length ≤ 1 := by split <;> simp
      have h3 : (if f.b = true then be 8 b else []).length ≤ 8 := by split <;> simp [be_length]
      omega
    · simp
theorem akey_len (id : Nat) : (akey id).length ≤ 1000000 := Nat.le_trans (kmake_len 4 id 0) (by omega)
theorem two_lt (xs : List UInt8) : (two xs).1 ≤ 18446744073709551615 ∧ (two xs).2 ≤ 18446744073709551615 := by
  obtain ⟨⟨fs, e⟩, hr⟩ : ∃ q, recGet [0, 0] xs = q := ⟨_, rfl⟩
  have h := (recGet_ok (by simp) hr).1
  unfold two
  rw [hr]
  simp only
  split
  · rename_i a b
    exact ⟨(h a (by simp)).n, (h b (by simp)).n⟩
  · exact ⟨by omega, by omega⟩
/-! ### stores, their counts hidden: n, p bounds -/
def KVe (sg : Nat) (F : List Ent) (n p : Nat) : FP := fun w S D => ∃ m q, m ≤ n ∧ q ≤ p ∧ KV w sg F [] m q S D
theorem kve_f {sg : Nat} {F : List Ent} {n p : Nat} : Framed (KVe sg F n p) := ⟨fun ⟨_, _, _, _, h⟩ => ⟨KV.lt h |>.1, KV.lt h |>.2.1⟩, fun ⟨m, q, a, b, h⟩ mm x y => ⟨m, q, a, b, KV.keep h mm x y⟩⟩
theorem KVe.more {sg : Nat} {F : List Ent} {n p n' p' : Nat} {w : World} {S D : Nat → Prop} (h : KVe sg F n p w S D) (hn : n ≤ n') (hp : p ≤ p') : KVe sg F n' p' w S D := by
  obtain ⟨m, q, a, b, h⟩ := h
  exact ⟨m, q, by omega, by omega, h⟩
theorem GS.any {prog : Program} {f : FuncId} {args : Array Value} {w : World} {Q : Nat → Prop} {r : Value} {ι : Type} {P P' : ι → FP} {R R' : FP} (h : ∀ i, GS prog f args w (P i) Q r (P' i)) (h1 : ∀ S D, R w S D → ∃ i, P i w S D) (h2 : ∀ w' S D i, P' i w' S D → (∀ S D, R w S D → True) → R' w' S D) : GS prog f args w R Q r R' := GS.of fun S D p hQ => by
  obtain ⟨i, hi⟩ := h1 S D p
  refine (h i S D hi hQ).mono ?_
  rintro e w' ⟨v, P1, N, rfl, ⟨rfl, rfl, _⟩, S', D', p', m, s, d, _⟩
  exact ⟨rfl, S', D', h2 _ _ _ i p' (fun _ _ _ => trivial), m, s, d⟩
section
variable {w : World} {sg g n p : Nat} {F : List Ent} {Q : Nat → Prop}
theorem ge_set {q u : Value} {ks vs : List UInt8} (hq : Rd w q ks) (hu : Rd w u vs) (oq : Off (fun k => ¬ Q k) q ks) (ou : Off (fun k => ¬ Q k) u vs) (hn : n ≤ 1000000000000) (hp : p ≤ 100000) : GS Try.prog 30 #[.pointer (some ⟨sg, 0, none⟩), q, u] w (KVe sg F n p) Q (.int .i64 (setErr ks vs : Nat)) (KVe sg (setFF F ks vs) (n + 1) (p + 2)) := GS.of fun S D ⟨m, q', hm, hq', kv⟩ hQ => by
  refine (gk_set hq hu oq ou (n := m) (p := q') (by omega) (by omega) S D kv hQ).mono ?_
  rintro e w' ⟨v, P1, N, rfl, ⟨rfl, rfl, _⟩, S', D', p', m', s, d, _⟩
  exact ⟨rfl, S', D', ⟨_, _, by omega, by omega, p'⟩, m', s, d⟩
theorem ge_del {q : Value} {ks : List UInt8} (hq : Rd w q ks) (oq : Off (fun k => ¬ Q k) q ks) (lk : ks.length ≤ 1000000) (hn : n ≤ 1000000000000) (hp : p ≤ 100000) : GS Try.prog 64 #[.pointer (some ⟨sg, 0, none⟩), q] w (KVe sg F n p) Q (.bool (getL F ks).isSome) (KVe sg (delL F ks) (n + 1) (p + 2)) := GS.of fun S D ⟨m, q', hm, hq', kv⟩ hQ => by
  refine (gk_del hq oq lk (n := m) (p := q') (by omega) (by omega) S D kv hQ).mono ?_
  rintro e w' ⟨v, P1, N, rfl, ⟨rfl, rfl, _⟩, S', D', p', m', s, d, _⟩
  exact ⟨rfl, S', D', ⟨_, _, by omega, by omega, p'⟩, m', s, d⟩
theorem ge_get {q : Value} {ks : List UInt8} (hq : Rd w q ks) (oq : Off (fun k => ¬ Q k) q ks) (hn : n ≤ 1000000000000) (hp : p ≤ 100000) : GO Try.prog 37 #[.pointer (some ⟨sg, 0, none⟩), q] w (KVe sg F n p) Q (fun v => .tuple #[v, .bool (getL F ks).isSome]) ((getL F ks).getD []) (KVe sg F (n + 1) p) := fun S D ⟨m, q', hm, hq', kv⟩ hQ => by
  refine (gk_get hq oq (n := m) (p := q') (by omega) (by omega) S D kv hQ).mono ?_
  rintro e w' ⟨v, P1, N, rfl, ⟨v', rfl, o, rfl, rfl⟩, S', D', p', rest⟩
  exact ⟨_, _, _, rfl, ⟨v', rfl, o, rfl, rfl⟩, S', D', ⟨_, _, by omega, hq', p'⟩, rest⟩
end
end Go.Proofs.Ytglkmaalpammcaa

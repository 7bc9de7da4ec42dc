/- Both stores as things with a footprint; their calls. -/
import Derived.Test.YtngemlpalkfjeaaZA
import Derived.Test.YtngemlpalkfjeaaR6W
import Derived.Test.YtngemlpalkfjeaaKvL
namespace Go.Proofs.Ytngemlpalkfjeaa
open Go.Gl Go.RowKit
set_option linter.unusedVariables false
set_option maxRecDepth 100000
def KVp (sg : Nat) (F : List Ent) (Ws : List (List Ent)) (n p : Nat) : FP := fun w S D => KV w sg F Ws n p S D
def KVIp (sg : Nat) (F : List Ent) (Ws : List (List Ent)) (n p : Nat) (L : List Ent) (lb : Array Value) : FP := fun w S D => KVI w sg F Ws n p S D L lb
def RFp (g : Nat) (F : List Ent) (Ws : List (List Ent)) (n : Nat) : FP := fun w S D => RF w g F Ws n S D
theorem kvp_f {sg : Nat} {F : List Ent} {Ws : List (List Ent)} {n p : Nat} : Framed (KVp sg F Ws n p) := ⟨fun h => ⟨KV.lt h |>.1, KV.lt h |>.2.1⟩, fun h m a b => KV.keep h m a b⟩
theorem rfp_f {g : Nat} {F : List Ent} {Ws : List (List Ent)} {n : Nat} : Framed (RFp g F Ws n) := ⟨fun h => ⟨RF.lt h |>.1, RF.lt h |>.2.1⟩, fun h m a b => RF.keep h m a b⟩
def setFF (F : List Ent) (k v : List UInt8) : List Ent := if setErr k v = 0 then insL F k v else F
theorem KV.vlen {w : World} {sg : Nat} {F : List Ent} {Ws : List (List Ent)} {n p : Nat} {S D : Nat → Prop} (h : KV w sg F Ws n p S D) {k v : List UInt8} (hg : getL F k = some v) : v.length ≤ 1000000 := by
  obtain ⟨mg, vo, R, jv, J, km, ok, rfl, _⟩ := h
  exact val_len km ok (by rw [getP_eq ok]; exact hg)
section
variable {w : World} {sg g n p : Nat} {F : List Ent} {Ws : List (List Ent)} {Q : Nat → Prop}
/-! ### kv.Store -/
theorem CC.gs {f : FuncId} {args : Array Value} {r : Value} {F' : List Ent} {Ws' : List (List Ent)} {n' p' : Nat} (c : CC f args w sg F Ws n p Q r F' Ws' n' p') : GS Try.prog f args w (KVp sg F Ws n p) Q r (KVp sg F' Ws' n' p') := GS.of c
theorem gk_set {q u : Value} {ks vs : List UInt8} (hq : Rd w q ks) (hu : Rd w u vs) (oq : Off (fun k => ¬ Q k) q ks) (ou : Off (fun k => ¬ Q k) u vs) (hn : n ≤ 1000000000000) (hp : p ≤ 100000) : GS Try.prog 18 #[.pointer (some ⟨sg, 0, none⟩), q, u] w (KVp sg F Ws n p) Q (.int .i64 (setErr ks vs : Nat)) (KVp sg (setFF F ks vs) Ws (n + 1) (p + 2)) := CC.gs (cc_set hq hu oq ou hn hp)
theorem gk_del {q : Value} {ks : List UInt8} (hq : Rd w q ks) (oq : Off (fun k => ¬ Q k) q ks) (lk : ks.length ≤ 1000000) (hn : n ≤ 1000000000000) (hp : p ≤ 100000) : GS Try.prog 20 #[.pointer (some ⟨sg, 0, none⟩), q] w (KVp sg F Ws n p) Q (.bool (getL F ks).isSome) (KVp sg (delL F ks) Ws (n + 1) (p + 2)) := CC.gs (cc_del hq oq lk hn hp)
theorem gk_has {q : Value} {ks : List UInt8} (hq : Rd w q ks) (oq : Off (fun k => ¬ Q k) q ks) (hn : n ≤ 1000000000000) (hp : p ≤ 100000) : GS Try.prog 29 #[.pointer (some ⟨sg, 0, none⟩), q] w (KVp sg F Ws n p) Q (.bool (getL F ks).isSome) (KVp sg F Ws (n + 1) p) := CC.gs (cc_has hq oq hn hp)
theorem gk_get {q : Value} {ks : List UInt8} (hq : Rd w q ks) (oq : Off (fun k => ¬ Q k) q ks) (hn : n ≤ 1000000000000) (hp : p ≤ 100000) : GO Try.prog 28 #[.pointer (some ⟨sg, 0, none⟩), q] w (KVp sg F Ws n p) Q (fun v => .tuple #[v, .bool (getL F ks).isSome]) ((getL F ks).getD []) (KVp sg F Ws (n + 1) p) :=
  GO.of kvp_f (fun S D kv hQ => (hGet kv hq (oq.mono (fun k hk x => hQ k x hk)) hn hp).mono (fun e w' ⟨v', a, b, c, d, f⟩ => ⟨v', a, b, ⟨S, D, c, d, fun _ h => h, fun _ h => h⟩, f⟩)) kvp_f
theorem gk_walk {fv tv : Value} {xs ts : List UInt8} (hf : Rd w fv xs) (ht : Rd w tv ts) (lx : xs.length ≤ 1000000) (lt : ts.length ≤ 1000000) (hp : p ≤ 100000) :
    GC Try.prog 26 #[.pointer (some ⟨sg, 0, none⟩), fv, tv] w (KVp sg F Ws n p) Q (fun w' v P' N => ∃ lb, v = .func (.func 73) #[] lb ∧ P' = KVIp sg F Ws n p (F.filter (btw xs ts)) lb ∧ ∀ k, ¬ N k) := fun S D kv hQ => by
  refine (hWalk kv hf ht lx lt hp).mono ?_
  rintro e w' ⟨lb, rfl, kvi, m⟩
  exact ⟨_, _, fun _ => False, rfl, ⟨lb, rfl, rfl, fun _ x => x⟩, S, D, kvi, m.mono (fun _ _ x => x.elim), fun _ => .inl, fun _ => .inl, fun _ x => x.elim⟩
theorem gk_prefix {q : Value} {xs : List UInt8} (hq : Rd w q xs) (lx : xs.length ≤ 1000000) (hp : p ≤ 100000) :
    GC Try.prog 25 #[.pointer (some ⟨sg, 0, none⟩), q] w (KVp sg F Ws n p) Q (fun w' v P' N => ∃ lb, v = .func (.func 73) #[] lb ∧ P' = KVIp sg F Ws n p (F.filter (fun e => beginsB xs e.1)) lb ∧ ∀ k, ¬ N k) := fun S D kv hQ => by
  refine (hPrefix kv hq lx hp).mono ?_
  rintro e w' ⟨lb, rfl, kvi, m⟩
  exact ⟨_, _, fun _ => False, rfl, ⟨lb, rfl, rfl, fun _ x => x⟩, S, D, kvi, m.mono (fun _ _ x => x.elim), fun _ => .inl, fun _ => .inl, fun _ x => x.elim⟩
theorem gk_taken {L : List Ent} {lb : Array Value} {N : Nat} (hN : 1 ≤ N) (hn : n ≤ 1000000000000) (hp : p ≤ 100000) :
    GC Try.prog 24 #[.func (.func 73) #[] lb, .int .i64 (N : Nat)] w (KVIp sg F Ws n p L lb) Q (fun w' v P' Nn => ∃ M, PRow w' v M ∧ M.map EV.ent = L.take N ∧ P' = KVp sg F Ws (n + 1 + min N L.length) p ∧ Nn = RB6 v M) := fun S D kvi hQ => by
  have l := kvi.kv.lt
  refine (hTaken kvi hN hn hp).mono ?_
  rintro e w' ⟨v, M, rfl, g, em, m, kvi'⟩
  refine ⟨v, _, _, rfl, ⟨M, g.prow, em, rfl, rfl⟩, S, D, kvi'.kv, m, fun _ => .inl, fun _ => .inl, fun k hk => ?_⟩
  have hk' : w.heap.size ≤ k ∧ k < w'.heap.size := hk.elim (fun x => ⟨g.vf k x, g.lt.1 k x⟩) (fun x => ⟨(g.df k x).1, g.lt.2 k x⟩)
  exact ⟨hk'.1, hk'.2, fun x => by have := l.1 k x; omega, fun x => by have := l.2.1 k x; omega⟩
/-! ### gleanref6.Store -/
theorem gr_set {q u : Value} {ks vs : List UInt8} (hq : Rd w q ks) (hu : Rd w u vs) (oq : Off (fun k => ¬ Q k) q ks) (ou : Off (fun k => ¬ Q k) u vs) (hn : n ≤ 1000000000000) (hF : F.length ≤ 100000) : GS Try.prog 33 #[.pointer (some ⟨g, 0, none⟩), q, u] w (RFp g F Ws n) Q (.int .i64 (setErr ks vs : Nat)) (RFp g (setFF F ks vs) Ws (n + 1)) :=
  GS.of fun S D rf hQ => rSet6 rf hq hu (oq.mono (fun k hk x => hQ k x hk)) (ou.mono (fun k hk x => hQ k x hk)) hn hF
theorem gr_del {q : Value} {ks : List UInt8} (hq : Rd w q ks) (oq : Off (fun k => ¬ Q k) q ks) (hn : n ≤ 1000000000000) (hF : F.length ≤ 100000) : GS Try.prog 34 #[.pointer (some ⟨g, 0, none⟩), q] w (RFp g F Ws n) Q (.bool (getL F ks).isSome) (RFp g (delL F ks) Ws (n + 1)) :=
  GS.of fun S D rf hQ => rDelete6 rf hq (oq.mono (fun k hk x => hQ k x hk)) hn hF
theorem gr_get {q : Value} {ks : List UInt8} (hq : Rd w q ks) (oq : Off (fun k => ¬ Q k) q ks) (hn : n ≤ 1000000000000) (hF : F.length ≤ 100000) (hv : ∀ v, getL F ks = some v → v.length ≤ 140737488355328) : GO Try.prog 35 #[.pointer (some ⟨g, 0, none⟩), q] w (RFp g F Ws n) Q (fun v => .tuple #[v, .bool (getL F ks).isSome]) ((getL F ks).getD []) (RFp g F Ws (n + 1)) :=
  GO.of rfp_f (fun S D rf hQ => (rGet6 rf hq (oq.mono (fun k hk x => hQ k x hk)) hn hF hv).mono (fun e w' ⟨v', a, b, c, d, f⟩ => ⟨v', a, b, ⟨S, D, c, d, fun _ h => h, fun _ h => h⟩, f⟩)) rfp_f
theorem rchg_refl {S D : Nat → Prop} (h : RF w g F Ws n S D) : RChg w w g S D F Ws n := ⟨S, D, h, Mods.refl _ _, fun _ => .inl, fun _ => .inl⟩
theorem gr_begin : GS Try.prog 40 #[.pointer (some ⟨g, 0, none⟩)] w (RFp g F Ws n) Q (.int .i64 (bgE Ws : Nat)) (RFp g F (bgW F Ws) n) := GS.of fun S D rf hQ => by
  refine (rBegin6 rf).mono ?_
  unfold bgE bgW
  rintro e w' (⟨h, rfl, rfl⟩ | ⟨h, rfl, c⟩)
  · rw [if_pos h, if_pos h]; exact ⟨rfl, rchg_refl rf⟩
  · rw [if_neg (by omega), if_neg (by omega)]; exact ⟨rfl, c⟩
theorem gr_commit (h16 : Ws.length ≤ 1000) : GS Try.prog 41 #[.pointer (some ⟨g, 0, none⟩)] w (RFp g F Ws n) Q (.int .i64 (enE Ws : Nat)) (RFp g F Ws.tail n) := GS.of fun S D rf hQ => by
  refine (rCommit6 rf h16).mono ?_
  unfold enE
  rintro e w' (⟨rfl, rfl, rfl⟩ | ⟨h, rfl, c⟩)
  · exact ⟨rfl, rchg_refl rf⟩
  · rw [if_neg (fun x => h (List.eq_nil_of_length_eq_zero x))]; exact ⟨rfl, c⟩
theorem gr_rollback (h16 : Ws.length ≤ 1000) : GS Try.prog 42 #[.pointer (some ⟨g, 0, none⟩)] w (RFp g F Ws n) Q (.int .i64 (enE Ws : Nat)) (RFp g (Ws.headD F) Ws.tail n) := GS.of fun S D rf hQ => by
  refine (rRollback6 rf h16).mono ?_
  unfold enE
  rintro e w' (⟨rfl, rfl, rfl⟩ | ⟨G, Vs, rfl, rfl, c⟩)
  · exact ⟨rfl, rchg_refl rf⟩
  · rw [if_neg (by simp)]; exact ⟨rfl, c⟩
theorem wk6_gc {f : FuncId} {args : Array Value} {P : Ent → Bool} {N : Nat} (h : ∀ S D, RF w g F Ws n S D → (∀ k, Q k → ¬ S k) → Calls Try.prog f args w fun e w' => ∃ v', e = .returned v' ∧ Wk6 w w' g F Ws n S D P N v') :
    GC Try.prog f args w (RFp g F Ws n) Q (fun w' v P' Nn => ∃ M, PRow w' v M ∧ M.map EV.ent = (F.filter P).take N ∧ P' = RFp g F Ws (n + 1 + min N (F.filter P).length) ∧ Nn = ofV v) := fun S D rf hQ => by
  have l := rf.lt
  refine (h S D rf hQ).mono ?_
  rintro e w' ⟨v, rfl, M, pr, em, fr, l9, hd, rf', m⟩
  exact ⟨v, _, _, rfl, ⟨M, pr, em, rfl, rfl⟩, S, D, rf', m, fun _ => .inl, fun _ => .inl, fun k hk => ⟨fr k hk, l9 k hk, fun x => by have := l.1 k x; have := fr k hk; omega, fun x => by have := l.2.1 k x; have := fr k hk; omega⟩⟩
theorem gr_walk {fv tv : Value} {xs ts : List UInt8} {N : Nat} (hq : Rd w fv xs) (ht : Rd w tv ts) (oq : Off (fun k => ¬ Q k) fv xs) (ot : Off (fun k => ¬ Q k) tv ts) (hn : n ≤ 1000000000000) (hF : F.length ≤ 100000) (hN : N ≤ 4611686018427387904) :
    GC Try.prog 38 #[.pointer (some ⟨g, 0, none⟩), fv, tv, .int .i64 (N : Nat)] w (RFp g F Ws n) Q (fun w' v P' Nn => ∃ M, PRow w' v M ∧ M.map EV.ent = (F.filter (btw xs ts)).take N ∧ P' = RFp g F Ws (n + 1 + min N (F.filter (btw xs ts)).length) ∧ Nn = ofV v) :=
  wk6_gc fun S D rf hQ => rWalk6 rf hq ht (oq.mono (fun k hk x => hQ k x hk)) (ot.mono (fun k hk x => hQ k x hk)) hn hF hN
theorem gr_prefix {fv : Value} {xs : List UInt8} {N : Nat} (hq : Rd w fv xs) (oq : Off (fun k => ¬ Q k) fv xs) (hn : n ≤ 1000000000000) (hF : F.length ≤ 100000) (hN : N ≤ 4611686018427387904) :
    GC Try.prog 39 #[.pointer (some ⟨g, 0, none⟩), fv, .int .i64 (N : Nat)] w (RFp g F Ws n) Q (fun w' v P' Nn => ∃ M, PRow w' v M ∧ M.map EV.ent = (F.filter (fun e => beginsB xs e.1)).take N ∧ P' = RFp g F Ws (n + 1 + min N (F.filter (fun e => beginsB xs e.1)).length) ∧ Nn = ofV v) :=
  wk6_gc fun S D rf hQ => rPrefix6 rf hq (oq.mono (fun k hk x => hQ k x hk)) hn hF hN
end
end Go.Proofs.Ytngemlpalkfjeaa

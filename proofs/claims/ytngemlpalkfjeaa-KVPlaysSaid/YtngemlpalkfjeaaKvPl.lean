/- KVPlays: P6.1 to P6.4: every script: answers, entries, depth, operations. -/
import Derived.Test.YtngemlpalkfjeaaKvDs
namespace Go.Proofs.Ytngemlpalkfjeaa
open Go.Gl Go.RowKit
set_option linter.unusedVariables false
set_option maxRecDepth 100000
theorem bs_new {w0 w1 w2 : World} {sg k : Nat} {S D : Nat → Prop} (m0 : Mods noB w0 w1) (kv : KV w1 sg [] [] 0 0 S D) (hs : ∀ k, S k → w0.heap.size ≤ k) (hd : ∀ k, ¬ D k) (m : Mods noB w1 w2) (hk : w2.heap[k]? = some (.cells #[.slice none 0 0, .slice none 0 0, .int .i64 0] 31 (0, 0))) (hk1 : w1.heap.size ≤ k) : G1 w0 w2 (BS sg k [] [] 0 0) (fun k => k < w0.heap.size) := by
  have l := kv.lt
  have s0 := m0.size
  have s1 := m.size
  have hrs : ∀ j, RS6 k (.slice none 0 0) j → j = k := fun j hj => hj.elim id (fun x => by simp [Value.ownBlock] at x)
  have hmd : ∀ j, ¬ RD6 (.slice none 0 0) [] [] j := fun j hj => by
    rcases hj with (hj | ⟨e, he, _⟩) | ⟨q, hq, _⟩
    · simp [Value.ownBlock] at hj
    · exact List.not_mem_nil he
    · exact List.not_mem_nil hq
  exact ⟨_, _, ⟨S, D, _, _, kv.keep0 m, rf_new hk, fun j x y => by have := l.1 j x; have := hrs j y; omega, fun j x => (hd j x).elim, fun j x => (hmd j x).elim, fun _ => Iff.rfl, fun _ => Iff.rfl⟩, fun j hj => ⟨fun x => x.elim (fun y => by have := hs j y; omega) (fun y => by have := hrs j y; omega), fun x => x.elim (hd j) (hmd j), by omega⟩, fun j hj => hj, m0.then0 m⟩
def CpX (w0 : World) (F : List Ent) (p : Nat) (D : Nat → Prop) (w' : World) (f : Value) (N : Nat → Prop) : Prop := ∃ sg2 D2, f = .pointer (some ⟨sg2, 0, none⟩) ∧ KV w' sg2 F [] 0 p N D2 ∧ (∀ k, N k → w0.heap.size ≤ k) ∧ (∀ k, D2 k → D k)
theorem bs_copy {w0 w w9 : World} {k1 p : Nat} {F : List Ent} {Q N D1 D2 : Nat → Prop} {L : List EV} {al : Option Addr} {nl cl : Nat}
    (hq : ∀ k, Q k → ¬ D1 k ∧ ¬ D2 k ∧ k < w.heap.size) (h0 : ∀ k, k < w0.heap.size → Q k) (mw : Mods noB w0 w) (hd1 : ∀ k, D1 k → k < w.heap.size) (hd2 : ∀ k, RB6 (.slice al nl cl) L k → D2 k) (hd3 : ∀ k, D2 k → k < w.heap.size) (pr : PRow w (.slice al nl cl) L) (hf : L.map EV.ent = F) (hr : Ris F)
    {f : Value} (hX : CpX w F p D1 w9 f N) (hk : w9.heap[k1]? = some (.cells #[.slice al nl cl, .slice none 0 0, .int .i64 0] 31 (0, 0))) (hk1 : w.heap.size ≤ k1) (m : Mods noB w w9) (hN : ¬ N k1) : ∃ sg2, f = .pointer (some ⟨sg2, 0, none⟩) ∧ G1 w0 w9 (BS sg2 k1 F [] 0 p) Q := by
  obtain ⟨sg2, D3, rfl, kv, hn, hd⟩ := hX
  have hs := m.size
  have rf := rf_share hk (pr.keep0 m) hr hf (fun j hj => ⟨fun e => by have := hd3 j (hd2 j hj); omega, by have := hd3 j (hd2 j hj); omega⟩)
  have hrs : ∀ j, RS6 k1 (.slice none 0 0) j → j = k1 := fun j hj => hj.elim id (fun x => by simp [Value.ownBlock] at x)
  have hmd : ∀ j, RD6 (.slice al nl cl) L [] j → D2 j := fun j hj => by
    rcases hj with hj | ⟨q, hq, _⟩
    · exact hd2 j hj
    · exact (List.not_mem_nil hq).elim
  refine ⟨sg2, rfl, _, _, ⟨N, D3, _, _, kv, rf, fun j x y => hN (hrs j y ▸ x), fun j x y => by have := hd1 j (hd j x); have := hrs j y; omega, fun j x y => by have := hd3 j (hmd j x); have := hn j y; omega, fun _ => Iff.rfl, fun _ => Iff.rfl⟩, fun j hj => ⟨fun x => ?_, fun x => ?_, by have := (hq j hj).2.2; omega⟩, h0, mw.then0 m⟩
  · rcases x with x | x
    · have := hn j x; have := (hq j hj).2.2; omega
    · have := hrs j x; have := (hq j hj).2.2; omega
  · rcases x with x | x
    · exact (hq j hj).1 (hd j x)
    · exact (hq j hj).2.1 (hmd j x)
theorem bs_look {w wx : World} {sg rg n p : Nat} {F : List Ent} {Ws : List (List Ent)} {Q : Nat → Prop} (h : G1 w wx (BS sg rg F Ws n p) Q) (hn : n ≤ 1000000) (hp : p ≤ 100000) : Hid (∃ lv a c, (∀ b', Mods noB wx b' → b'.cell? ⟨rg, 0, none⟩ = some lv) ∧ (∀ b', Mods noB wx b' → b'.cell? ⟨rg, 1, none⟩ = some (.slice a Ws.length c)) ∧ (∀ b', Mods noB wx b' → b'.cell? ⟨rg, 2, none⟩ = some (.int .i64 ((n : Nat) : Int))) ∧
          ∃ X : World → Value → Prop, (∀ b', Mods noB wx b' → Calls Try.prog 15 #[.pointer (some ⟨sg, 0, none⟩)] b' fun e w' => ∃ f, e = .returned f ∧ X w' f) ∧ (∀ b' f, X b' f → Calls Try.prog 14 #[f, lv] b' fun e w' => e = .returned (.bool true) ∧ Mods noB wx w') ∧ (∀ w' f, X w' f → Mods noB wx w') ∧
          (∀ b', Mods noB wx b' → Calls Try.prog 16 #[.pointer (some ⟨sg, 0, none⟩)] b' fun e w' => e = .returned (.int .i64 (Ws.length : Nat)) ∧ Mods noB wx w') ∧ (∀ b', Mods noB wx b' → Calls Try.prog 17 #[.pointer (some ⟨sg, 0, none⟩)] b' fun e w' => e = .returned (.int .i64 (n : Nat)) ∧ Mods noB wx w')) := by
  obtain ⟨S, D, ⟨S1, D1, S2, D2, kv, rf, _⟩, _⟩ := h
  have kv' : ∀ b', Mods noB wx b' → KV b' sg F Ws n p S1 D1 := fun b' m => KV.keep0 kv m
  have rf' : RF wx rg F Ws n S2 D2 := rf
  obtain ⟨lv, L, a, c, d0, pr, hf, _, d1, d2⟩ := rf'.look
  have hrg : rg < wx.heap.size := rf'.lt.1 rg rf'.lt.2.2.1
  have hFl := (kv' wx (Mods.refl _ _)).len.1
  refine Lib.hid ⟨lv, a, c, fun b' m => (m.cellAt hrg (fun x => x) _).trans d0, fun b' m => (m.cellAt hrg (fun x => x) _).trans d1, fun b' m => (m.cellAt hrg (fun x => x) _).trans d2, fun w' f => ∃ M, PRow w' f M ∧ M.map EV.ent = F ∧ Mods noB wx w', fun b' m => (hDump (kv' b' m) hp).mono (fun e w' ⟨v, M, a, g, mm, em⟩ => ⟨v, a, M, g.prow, em, m.then0 mm⟩), fun b' f ⟨M, pm, em, m⟩ => (Pairs_true pm (pr.keep0 m) (by rw [em, hf]) (by have := congrArg List.length em; rw [List.length_map] at this; omega)).mono (fun e w' ⟨a, b⟩ => ⟨a, m.then0 b⟩), fun w' f ⟨M, _, _, m⟩ => m, fun b' m => (hDepth (kv' b' m)).mono (fun e w' ⟨a, b⟩ => ⟨a, b ▸ m⟩), fun b' m => (hOps (kv' b' m) (by omega)).mono (fun e w' ⟨a, b⟩ => ⟨a, b ▸ m⟩)⟩
set_option maxHeartbeats 16000000 in
theorem kvplays_walk (v0 : Value) (xs0 : List KStp) (w : World) (h0 : RdKs w v0 xs0) : Calls Try.prog 3 #[v0] w fun e w' => e = .returned (.bool true) ∧ Mods noB w w' := by
  have KN := Lib.hid (kknown_any w)
  have LI := Lib.hid (fun W (m : Mods noB w W) => klight_any (h0.keep m))
  obtain ⟨a0, n0, c0, rfl, hn0, hc0, hb0, g0⟩ := h0.form2
  have G0 := Lib.hid g0
  have N0 := Lib.hid hn0
  clear h0 g0 hn0
  go_enter Try.func3, Try.ntmps3
  go_wp2_with fail
  refine KN.out.mono ?_
  rintro e w1 ⟨rfl, m1⟩
  have M1 := Lib.hid m1
  have L0 := Lib.hid (LI.out w1 m1)
  clear KN m1 LI
  go_wp2_with fail
  refine L0.out.mono ?_
  rintro e w2 ⟨rfl, q2⟩
  have M2 := Lib.hid (M1.out.then0 (q2.mods noB))
  clear q2 L0 M1
  obtain ⟨B0, hB0⟩ : ∃ B, klightB xs0 = B := ⟨_, rfl⟩
  rw [hB0]
  cases B0 with
  | false =>
    clear hB0
    go_wp2
    go_ret
    exact ⟨rfl, M2.out⟩
  | true =>
  obtain ⟨l0, e0⟩ := klight_len hB0
  have E0 := Lib.hid e0
  have ln0 : n0 ≤ 400 := by have := N0.out; omega
  clear hB0 e0 l0
  go_wp2_with fail
  refine (hNew _).mono ?_
  rintro e w5 ⟨sg, S, D, rfl, kv, m5, hs, hd⟩
  have m6 := (Mods.refl noB w5).alloc (.cells #[.slice none 0 0, .slice none 0 0, .int .i64 0] 31)
  have K5 := Lib.hid (bs_new (M2.out.then0 m5) kv (fun k hk => Nat.le_trans M2.out.size (hs k hk)) hd m6 (heap_new w5 _) (Nat.le_refl _))
  clear kv m5 hs hd m6 M2
  go_wp2
  go_loopw [3, 4, 5] (fun x3 x4 x wr => ∃ i sg rg : Nat, i ≤ n0 ∧ x = .int .i64 i ∧ x3 = .pointer (some ⟨sg, 0, none⟩) ∧ x4 = .pointer (some ⟨rg, 0, none⟩) ∧ Hid (∃ F Ws n p, G1 w wr (BS sg rg F Ws n p) (fun k => k < w.heap.size) ∧ n ≤ 40 * i ∧ p ≤ 2 * i)) (fun _ _ x _ => n0 - (intOf x).toNat)
  case atStart => exact ⟨0, _, _, Nat.zero_le _, rfl, rfl, rfl, Lib.hid ⟨_, _, _, _, K5.out, Nat.le_refl _, Nat.le_refl _⟩⟩
  case round =>
    clear K5
    obtain ⟨i, sg, rg, hi, rfl, rfl, rfl, hI⟩ := hrel
    by_cases hlt : i < n0
    · obtain ⟨F, Ws, n, p, g1, hn, hp⟩ := hI.out
      have hil : i < xs0.length := by rw [N0.out]; exact hlt
      obtain ⟨g, off, ak, ck, av', cv', rfl, hg, w0c, w1c, w2c, w3c, ek, ev, ha0⟩ := step_at G0.out g1.mods hil
      have lk := (E0.out i hil).1
      have lv := (E0.out i hil).2
      have DO := Lib.hid (does_any g1 ha0 lk lv (by omega) (by omega))
      rw [ek, ev] at DO
      have KK := Lib.hid g1
      have BB := Lib.hid (And.intro hn hp)
      generalize xs0[i] = s at *
      obtain ⟨what, sn, kv, vv, ks, vs⟩ := s
      simp only at w0c w1c w2c w3c DO lk lv ek ev
      clear hI g1 hn hp ha0 ek ev
      by_cases h11 : what = 11
      · subst h11
        clear DO w1c w2c w3c
        have CP : ∃ al nl cl D1, (∀ b', Mods noB wr b' → b'.cell? ⟨rg, 0, none⟩ = some (.slice al nl cl)) ∧ (∀ b', Mods noB wr b' → Calls Try.prog 12 #[.pointer (some ⟨sg, 0, none⟩)] b' fun e w' => ∃ f N, e = .returned f ∧ CpX wr F p D1 w' f N ∧ Mods noB b' w' ∧ ∀ k, N k → b'.heap.size ≤ k ∧ k < w'.heap.size) ∧ (∀ (w9 : World) (f : Value) (N : Nat → Prop) (k1 : Nat), CpX wr F p D1 w9 f N → w9.heap[k1]? = some (.cells #[.slice al nl cl, .slice none 0 0, .int .i64 0] 31 (0, 0)) → wr.heap.size ≤ k1 → Mods noB wr w9 → ¬ N k1 → ∃ sg2, f = .pointer (some ⟨sg2, 0, none⟩) ∧ G1 w w9 (BS sg2 k1 F [] 0 p) (fun k => k < w.heap.size)) := by
          obtain ⟨S, D, ⟨S1, D1, S2, D2, kv, rf, _, _, _, hs, hd⟩, hq, h0, m0⟩ := KK.out
          have kv' : ∀ b', Mods noB wr b' → KV b' sg F Ws n p S1 D1 := fun b' m => KV.keep0 kv m
          have rf' : RF wr rg F Ws n S2 D2 := rf
          obtain ⟨lv, L, a, c, d0, pr, hf, hrb, _, _⟩ := rf'.look
          obtain ⟨al, cl, rfl, _⟩ := pr.row.form
          have hrg : rg < wr.heap.size := rf'.lt.1 rg rf'.lt.2.2.1
          refine ⟨al, _, cl, D1, fun b' m => (m.cellAt hrg (fun x => x) _).trans d0, fun b' m => (hCopy (kv' b' m) (by have := BB.out.2; omega)).mono (fun e w' ⟨sg2, N, D3, a, k2, m2, hN, hD⟩ => ⟨_, N, a, ⟨sg2, D3, rfl, k2, fun k hk => Nat.le_trans m.size (hN k hk), hD⟩, m2, fun k hk => ⟨hN k hk, k2.lt.1 k hk⟩⟩), fun w9 f N k1 hX hk hk1 m hN => ?_⟩
          exact bs_copy (D1 := D1) (D2 := D2) (fun k hk => ⟨fun x => (hq k hk).2.1 ((hd k).2 (.inl x)), fun x => (hq k hk).2.1 ((hd k).2 (.inr x)), (hq k hk).2.2⟩) h0 m0 (KV.lt kv).2.1 hrb rf'.lt.2.1 pr hf rf'.ris hX hk hk1 m hN
        obtain ⟨al, nl, cl, D1, d0, C1, CE⟩ := CP
        have CEE := Lib.hid CE
        clear KK CE
        go_upto_region 10 with fail
        refine wp_tl (d := .region 10 (opsC 10 Try.f3) true) (by kernel_rfl) ?_
        refine RW.wp (kpl10 d0 C1 (fun w' w2 f N ⟨sg2, D3, a, b, c⟩ m => ⟨sg2, D3, a, KV.keep0 b m, c⟩) ?_)
        intros
        rename_i v7 k1 N7 w6 hX hk hk1 m6 hN
        obtain ⟨sg2, rfl, g6⟩ := CEE.out w6 v7 N7 k1 hX hk hk1 m6 hN
        have G6 := Lib.hid g6
        clear hX hk hk1 m6 hN CEE d0 C1 w0c
        obtain ⟨lv2, a2, c2, d0, d1, d2, X, C1, C2, C3, C4, C5⟩ := (bs_look g6 (by omega) (by have := BB.out.2; omega)).out
        clear g6
        go_upto_region 13 with fail
        refine wp_tl (d := .region 13 (opsC 13 Try.f3) true) (by kernel_rfl) ?_
        refine RW.wp (kpl13 d0 d1 d2 C1 C2 C4 C5 C3 (fun _ h => h) ?_)
        intros
        rename_i w7 m7
        have G7 := Lib.hid (G6.out.keep0 bs_f m7)
        clear d0 d1 d2 C1 C2 C3 C4 C5 m7 G6
        go_wp2
        go_roundw
        case rel => exact ⟨i + 1, _, _, by omega, by go_num, rfl, rfl, Lib.hid ⟨_, _, _, _, G7.out, by omega, by have := BB.out.2; omega⟩⟩
        case measure => simp [intOf]; omega
      · go_wp2_with fail
        refine DO.out.mono ?_
        rintro e w6 ⟨rfl, hD⟩
        have HD := Lib.hid hD
        clear hD DO w0c w1c w2c w3c KK
        obtain ⟨F', Ws', n', p', g6, hn', hp', m6⟩ := HD.out
        have G6 := Lib.hid g6
        obtain ⟨lv2, a2, c2, d0, d1, d2, X, C1, C2, C3, C4, C5⟩ := (bs_look g6 (by have := BB.out.1; omega) (by have := BB.out.2; omega)).out
        have BN := Lib.hid (And.intro hn' hp')
        clear g6 m6 HD hn' hp'
        go_upto_region 13 with fail
        refine wp_tl (d := .region 13 (opsC 13 Try.f3) true) (by kernel_rfl) ?_
        refine RW.wp (kpl13 d0 d1 d2 C1 C2 C4 C5 C3 (fun _ h => h) ?_)
        intros
        rename_i w7 m7
        have G7 := Lib.hid (G6.out.keep0 bs_f m7)
        clear d0 d1 d2 C1 C2 C3 C4 C5 m7 G6
        go_wp2
        go_roundw
        case rel => exact ⟨i + 1, _, _, by omega, by go_num, rfl, rfl, Lib.hid ⟨_, _, _, _, G7.out, by have := BN.out.1; have := BB.out.1; omega, by have := BN.out.2; have := BB.out.2; omega⟩⟩
        case measure => simp [intOf]; omega
    · obtain ⟨F, Ws, n, p, g1, hn, hp⟩ := hI.out
      have MF := Lib.hid g1.mods
      clear hI g1 hn hp
      go_wp2
      go_ret
      exact ⟨rfl, MF.out⟩
namespace kVPlays
theorem walk (v0 : Value) (x0 : List KStp) (w : World) (k0 : RdKs w v0 x0) : Calls Try.prog 3 #[v0] w fun e w' => e = .returned (.bool true) ∧ Below w.heap.size w w' :=
  (kvplays_walk v0 x0 w k0).mono fun e w' ⟨a, m⟩ => ⟨a, m.below⟩
end kVPlays
end Go.Proofs.Ytngemlpalkfjeaa

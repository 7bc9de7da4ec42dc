/- gleanref9: All, Sum. -/
import Derived.Test.YtglkmaalpammcaaGreatBkRm
import Derived.Test.YtglkmaalpammcaaGreatRAdd
import Derived.Test.YtglkmaalpammcaaGreatBsS
import Derived.Test.YtglkmaalpammcaaGreatBkL
namespace Go.Proofs.YtglkmaalpammcaaGreat
open Go.Gl Go.RowKit
set_option linter.unusedVariables false
set_option maxRecDepth 100000
section
variable {w : World} {g n : Nat} {F : List Ent} {Q : Nat → Prop}
theorem rAll {q : Value} {xs : List UInt8} (hq : Rd w q xs) (oq : Off (fun k => ¬ Q k) q xs) (hn : n ≤ 100000000000) (hF : F.length ≤ 90000) : GC Tryz.prog 101 #[.pointer (some ⟨g, 0, none⟩), q] w (RFe g F n) Q (fun w' v P' N => ∃ M, PRow w' v M ∧ M.map EV.ent = F.filter (fun e => beginsB xs e.1) ∧ (∀ k, MDL M k → k < w'.heap.size) ∧ P' = RFe g F (n + 1 + F.length) ∧ N = ofV v) := fun S D ⟨m, hm, rf⟩ hQ => by
 obtain ⟨lv, L, a, c, c0, pr, em, _⟩ := rf.look
 obtain ⟨la, lc, rfl, _⟩ := pr.at
 have hl : L.length = F.length := by rw [← em, List.length_map]
 rw [hl] at c0
 have l := Lib.hid rf.lt
 have C := Lib.hid (rPrefix6 (N := F.length) rf hq (oq.mono (fun k hk x => hQ k x hk)) (by omega) (by omega) (by omega))
 obtain ⟨fl, hfl⟩ : ∃ q, F.length = q := ⟨_, rfl⟩
 rw [hfl] at c0 C hF ⊢
 have HF := Lib.hid hfl
 clear pr em rf hl hq oq hQ hfl
 go_enter Tryz.func101, Tryz.ntmps101
 go_wp2_with fail
 refine C.out.mono ?_
 rintro e w' ⟨v, rfl, M, pr2, em2, fr, l9, hd, rf2, mm⟩
 have D1 := Lib.hid (show ∃ v' P' N, Ending.returned v = .returned v' ∧ (∃ M, PRow w' v' M ∧ M.map EV.ent = F.filter (fun e => beginsB xs e.1) ∧ (∀ k, MDL M k → k < w'.heap.size) ∧ P' = RFe g F (n + 1 + fl) ∧ N = ofV v') ∧ ∃ S' D', P' w' S' D' ∧ Mods S w w' ∧ (∀ k, S' k → S k ∨ w.heap.size ≤ k) ∧ (∀ k, D' k → D k ∨ w.heap.size ≤ k) ∧ (∀ k, N k → w.heap.size ≤ k ∧ k < w'.heap.size ∧ ¬ S' k ∧ ¬ D' k) from
  ⟨v, _, _, rfl, ⟨M, pr2, by rw [em2, List.take_of_length_le (by have := List.length_filter_le (fun e => beginsB xs e.1) F; have := HF.out; omega)], fun k hk => Nat.lt_of_lt_of_le (l.out.2.1 k (hd k hk)) mm.size, rfl, rfl⟩, S, D, ⟨_, by omega, rf2⟩, mm, fun _ => .inl, fun _ => .inl, fun k hk => ⟨fr k hk, l9 k hk, fun x => by have := l.out.1 k x; have := fr k hk; omega, fun x => by have := l.out.2.1 k x; have := fr k hk; omega⟩⟩)
 clear C pr2 em2 fr l9 hd rf2 mm
 go_wp2
 go_ret
 exact D1.out
theorem dig_small2 {N : Nat} (h : N ≤ 90000 * 18446744073709551615) : (dig 18446744073709551616 N).length ≤ 1000000000 := by
 have h2 : N < BB ^ 2 := by
  have : BB ^ 2 = 340282366920938463463374607431768211456 := by decide
  omega
 have := dig_len2 h2
 have e : BB = 18446744073709551616 := rfl
 rw [e] at this
 omega
set_option maxHeartbeats 4000000 in
theorem rSum (hn : n ≤ 10000000000) (hF : F.length ≤ 90000) (hE : ∀ e ∈ F, e.2.length ≤ 1000000) : GC Tryz.prog 30 #[.pointer (some ⟨g, 0, none⟩)] w (RFe g F n) Q (fun w' v P' N => RN w' v (dig BB (sumF F)) ∧ P' = RFe g F (n + 1 + F.length) ∧ N = fun k => v.ownBlock = some k) := fun S D kv hQ => by
 have m0 := (Mods.refl noB w).alloc (.cells #[.int .u8 97] 5)
 have g0 := (GI.start kv).grow rfe_f m0 (N' := fun k => k = w.heap.size) (fun k hk => .inr ⟨by omega, by simp; omega⟩)
 have C := Lib.hid (g0.call (rAll (q := .slice (some ⟨w.heap.size, 0, none⟩) 1 1) (xs := [97]) (own_lit [97] (w := w) w.heap.size 1 #[.int .u8 97] rfl rfl rfl rfl).rd (fun _ i hi x => x (.inl (by simp [Value.ownBlock] at hi; exact hi.symm))) (by omega) hF))
 have HE := Lib.hid hE
 have HF := Lib.hid hF
 clear kv hQ m0 g0 hE
 go_enter Tryz.func30, Tryz.ntmps30
 go_wp2_with fail
 refine C.out.mono ?_
 rintro e w2 ⟨v, P', N, rfl, ⟨M, pr, em, hd, rfl, rfl⟩, g2, hN, m2⟩
 obtain ⟨va, vc, rfl, hat⟩ := pr.at
 obtain ⟨mn, hmn⟩ : ∃ q, M.length = q := ⟨_, rfl⟩
 have PR := Lib.hid (And.intro pr hd)
 have EM := Lib.hid em
 have G2 := Lib.hid (g2.less (N' := fun _ => False) (fun _ x => x.elim))
 have HM := Lib.hid (And.intro hmn (show mn ≤ 90000 by have := len_ents em; have := List.length_filter_le (fun e => beginsB [97] e.1) F; omega))
 rw [hmn]
 rw [hmn] at PR
 have hmn2 : mn ≤ 90000 := HM.out.2
 clear pr em hd g2 hN m2 hmn C hat
 go_wp2
 go_loopw [4, 5] (fun z x wr => ∃ (i : Nat) (av : Value), i ≤ mn ∧ av = z ∧ x = .int .i64 i ∧ Hid (RN wr av (dig BB (sumL (M.take i))) ∧ GI w S D wr (RFe g F (n + 1 + F.length)) (fun k => av.ownBlock = some k) ∧ Mods noB w2 wr)) (fun _ x _ => mn - (intOf x).toNat)
 case atStart => exact ⟨0, _, Nat.zero_le _, rfl, rfl, Lib.hid ⟨RdM.nil _ _, G2.out.less (fun k hk => by simp [Value.ownBlock] at hk), Mods.refl _ _⟩⟩
 case round =>
  obtain ⟨i, av, hi, rfl, rfl, hI⟩ := hrel
  clear G2
  by_cases hlt : i < mn
  ·have hil : i < M.length := by have := HM.out.1; omega
   obtain ⟨rdv, gi, mr⟩ := hI.out
   have pr := PR.out.1.keep0 mr
   obtain ⟨a', c', ev, hat⟩ := pr.at
   cases ev
   obtain ⟨gb, off, rfl, hgb, _, cv⟩ := hat i hil
   obtain ⟨a2, c2, e2, _⟩ := (pr.own _ (List.getElem_mem hil)).2.form
   rw [e2] at cv
   have hlE : (M[i]).v.length ≤ 1000000 := by
    have h1 : EV.ent (M[i]) ∈ M.map EV.ent := List.mem_map_of_mem (List.getElem_mem hil)
    rw [EM.out] at h1
    exact HE.out _ (List.mem_filter.1 h1).1
   have A := Lib.hid (account_ref (w := wr) (b := .slice a2 (M[i]).v.length c2) (xs := (M[i]).v) ⟨by rw [← e2]; exact (pr.own _ (List.getElem_mem hil)).2, fun k hk => by
    rw [← e2] at hk
    exact Nat.lt_of_lt_of_le (PR.out.2 k ⟨_, List.getElem_mem hil, .inr hk⟩) mr.size⟩ hlE)
   have SL := Lib.hid (sumL_take (L := M) (i := i) (e := M[i]) (by simp [hil]))
   have RV := Lib.hid rdv
   have GG := Lib.hid gi
   have MR := Lib.hid mr
   generalize M[i] = e at *
   clear hI pr hat e2 hlE rdv gi mr
   go_wp2_with fail
   refine A.out.mono ?_
   rintro e' w3 ⟨n0, n1, er, rfl, hg, m3⟩
   have tw : two e.v = (n0, n1) := two_of hg
   have hn0 : n0 ≤ 18446744073709551615 := by have := (two_lt e.v).1; rw [tw] at this; exact this
   have LI := Lib.hid (show sumL (M.take (i + 1)) = sumL (M.take i) + n0 ∧ sumL (M.take i) ≤ 90000 * 18446744073709551615 from ⟨by rw [SL.out, tw], by
    have h1 := sumL_le (M.take i)
    have h2 := List.length_take_le i M
    exact Nat.le_trans h1 (Nat.mul_le_mul_right _ (by have := HM.out; omega))⟩)
   have M3 := Lib.hid (m3.alloc (.cells #[.int .u64 (n0 : Nat), .int .u64 (n1 : Nat)] 59))
   have NO := Lib.hid (rof_any (x := n0) (w3.alloc (.cells #[.int .u64 (n0 : Nat), .int .u64 (n1 : Nat)] 59)) hn0)
   clear A hg m3 SL tw
   go_wp2_with fail
   refine NO.out.mono ?_
   rintro e' w4 ⟨v1, rfl, r1, m4, f1⟩
   have M4 := Lib.hid (M3.out.then0 m4)
   have NA := Lib.hid (radd_any (RdM.keep RV.out M4.out (fun _ _ x => x)) r1 (dig_lim _) (dig_lim _) (dig_small2 LI.out.2) (dig_small2 (Nat.le_trans hn0 (by omega))))
   clear NO r1 f1 m4 M3
   go_wp2_with fail
   refine NA.out.mono ?_
   rintro e' w5 ⟨v2, rfl, r2, m5, f2⟩
   rw [dval_dig (by omega), dval_dig (by omega), ← LI.out.1] at r2
   have FIN := Lib.hid (show RN w5 v2 (dig BB (sumL (M.take (i + 1)))) ∧ GI w S D w5 (RFe g F (n + 1 + F.length)) (fun k => v2.ownBlock = some k) ∧ Mods noB w2 w5 from ⟨r2, ((GG.out.keep0 rfe_f M4.out).grow rfe_f m5 (fun k hk => .inr (f2 k hk))), (MR.out.then0 M4.out).then0 m5⟩)
   clear NA r2 m5 f2 M4
   go_wp2
   go_roundw
   case rel => exact ⟨i + 1, _, by omega, rfl, by go_num, FIN⟩
   case measure => simp [intOf]; omega
  ·obtain rfl : i = mn := by omega
   obtain ⟨rdv, gi, mr⟩ := hI.out
   have h2 : sumL (M.take i) = sumF F := by
    rw [List.take_of_length_le (by have := HM.out.1; omega), sumL_ent, EM.out]
    rfl
   rw [h2] at rdv
   obtain ⟨S', D', p', mm, s', d', nn⟩ := gi
   have D1 := Lib.hid (show ∃ v' P' N, Ending.returned av = .returned v' ∧ (RN wr v' (dig BB (sumF F)) ∧ P' = RFe g F (n + 1 + F.length) ∧ N = fun k => v'.ownBlock = some k) ∧ ∃ S' D', P' wr S' D' ∧ Mods S w wr ∧ (∀ k, S' k → S k ∨ w.heap.size ≤ k) ∧ (∀ k, D' k → D k ∨ w.heap.size ≤ k) ∧ (∀ k, N k → w.heap.size ≤ k ∧ k < wr.heap.size ∧ ¬ S' k ∧ ¬ D' k) from ⟨_, _, _, rfl, ⟨rdv, rfl, rfl⟩, S', D', p', mm, s', d', nn⟩)
   clear hI rdv p' mm s' d' nn mr
   go_wp2
   go_ret
   exact D1.out
end
end Go.Proofs.YtglkmaalpammcaaGreat

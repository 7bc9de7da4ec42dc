/- Accounts, plain: the sum of all coins after a call. -/
import Derived.Test.YtglkmaalpammcaaBkLw
import Derived.Test.YtglkmaalpammcaaBsS
namespace Go.Proofs.Ytglkmaalpammcaa
open Go.Gl Go.RowKit
set_option linter.unusedVariables false
set_option maxRecDepth 100000
theorem sumF_app (A B : List Ent) : sumF (A ++ B) = sumF A + sumF B := by
  unfold sumF
  rw [List.filter_append, List.map_append, List.sum_append]
theorem sumF_nil : sumF [] = 0 := rfl
theorem sumF_one {id c s : Nat} (hc : U64 c) (hs : U64 s) : sumF [(akey id, lay2 c s)] = c := by
  unfold sumF
  rw [List.filter_cons_of_pos (by exact akey_begins id)]
  simp only [List.filter_nil, List.map_cons, List.map_nil, List.sum_cons, List.sum_nil, two_lay hc hs, Nat.add_zero]
theorem eq_one {l : List Ent} (h : Ris l) {k v : List UInt8} (hg : getL l k = some v) : l.filter (fun e => decide (e.1 = k)) = [(k, v)] := by
  have hm := (getL_filter l k h).2 v hg
  have hr : Ris (l.filter (fun e => decide (e.1 = k))) := List.Pairwise.sublist List.filter_sublist h
  have hmem : (k, v) ∈ l.filter (fun e => decide (e.1 = k)) := List.mem_filter.2 ⟨hm, by simp⟩
  have hall : ∀ e ∈ l.filter (fun e => decide (e.1 = k)), e.1 = k := fun e he => of_decide_eq_true (List.mem_filter.1 he).2
  generalize l.filter (fun e => decide (e.1 = k)) = q at *
  rcases q with _ | ⟨a, _ | ⟨b, q⟩⟩
  · cases hmem
  · rw [List.mem_singleton.1 hmem]
  · have := (List.pairwise_cons.1 hr).1 b (List.mem_cons_self ..)
    rw [hall a (List.mem_cons_self ..), hall b (List.mem_cons_of_mem _ (List.mem_cons_self ..)), lessB_irr] at this
    cases this
theorem sum_at {F : List Ent} (h : AccOk F) {id : Nat} (hi : U64 id) : sumF (F.filter (fun e => decide (e.1 = akey id))) = (acF F id).1 := by
  rcases ac_cases h hi with ⟨hg, e⟩ | ⟨c, s, hg, e, hc, hs, _⟩
  · rw [(getL_filter F _ h.ris).1 hg, e, sumF_nil]
  · rw [eq_one h.ris hg, e, sumF_one (by unfold U64; omega) hs]
theorem sum_lay {F : List Ent} (h : AccOk F) {id : Nat} {a : Nat × Nat} (hi : U64 id) (h1 : U64 a.1) (h2 : U64 a.2) : sumF (layF F id a) + (acF F id).1 = sumF F + a.1 := by
  have h3 : sumF F = sumF (F.filter (fun e => lessB e.1 (akey id))) + (acF F id).1 + sumF (F.filter (fun e => lessB (akey id) e.1)) := by
    rw [← sum_at h hi]
    conv => lhs; rw [ris_three h.ris (akey id)]
    rw [sumF_app, sumF_app]
  rw [h3]
  unfold layF
  split
  · rename_i h0
    unfold delL
    rw [sumF_app, h0.1]
    omega
  · rw [setFF_lay]
    unfold insL
    rw [show F.filter (fun e => lessB e.1 (akey id)) ++ (akey id, lay2 a.1 a.2) :: F.filter (fun e => lessB (akey id) e.1) = F.filter (fun e => lessB e.1 (akey id)) ++ [(akey id, lay2 a.1 a.2)] ++ F.filter (fun e => lessB (akey id) e.1) by simp, sumF_app, sumF_app, sumF_one h1 h2]
    omega
theorem sum_mint {F : List Ent} (h : AccOk F) {id n : Nat} (hi : U64 id) (he : mintE F id n = 0) : sumF (mintF F id n) = sumF F + n := by
  obtain ⟨h1, h2⟩ := mintE_zero he
  have := sum_lay h (a := ((acF F id).1 + n, (acF F id).2)) hi (by unfold U64; simp only; omega) (ac_u64 h hi).2
  unfold mintF
  rw [if_pos he]
  simp only at this
  omega
theorem sum_bump {F : List Ent} (h : AccOk F) {id : Nat} (hi : U64 id) : sumF (bumpF F id) = sumF F := by
  unfold bumpF
  split
  · rfl
  · have := sum_lay h (a := ((acF F id).1, ((acF F id).2 + 1) % 18446744073709551616)) hi (ac_u64 h hi).1 (by unfold U64; simp only; omega)
    simp only at this
    omega
theorem sum_move {F : List Ent} (h : AccOk F) {a b n : Nat} (ha : U64 a) (hb : U64 b) : sumF (moveF F a b n) = sumF F := by
  unfold moveF
  split
  · rename_i h0
    obtain ⟨h1, h2, h3, h4⟩ := moveE_zero h0.1
    have h4 := h4 h0.2
    have la := ac_le h ha
    have s1 := sum_lay h (a := ((acF F a).1 - n, (acF F a).2)) ha (by unfold U64; simp only; omega) (ac_u64 h ha).2
    have o1 := ok_lay h (a := ((acF F a).1 - n, (acF F a).2)) ha h1 (by simp only; omega) (ac_u64 h ha).2
    have s2 := sum_lay o1 (a := ((acF F b).1 + n, (acF F b).2)) hb (by unfold U64; simp only; omega) (ac_u64 h hb).2
    rw [ac_lay F (a := ((acF F a).1 - n, (acF F a).2)) ha hb (show (acF F a).1 - n ≤ 18446744073709551615 by omega) (ac_u64 h ha).2, if_neg h0.2] at s2
    simp only at s1 s2
    omega
  · rfl
end Go.Proofs.Ytglkmaalpammcaa

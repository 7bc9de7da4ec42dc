/- Accounts, plain: what lies for them after a call; two stores with the same accounts are the same. -/
import Derived.Test.YtglkmaalpammcaaGreatBkG
import Derived.Test.YtglkmaalpammcaaGreatKPlain
import Derived.Test.YtglkmaalpammcaaGreatZC
namespace Go.Proofs.YtglkmaalpammcaaGreat
open Go.Gl Go.RowKit
set_option linter.unusedVariables false
set_option maxRecDepth 100000
theorem ris_ext : ∀ {F G : List Ent}, Ris F → Ris G → (∀ e, e ∈ F ↔ e ∈ G) → F = G
  | [], [], _, _, _ => rfl
  | [], g :: G, _, _, h => absurd ((h g).2 (List.mem_cons_self ..)) (by simp)
  | f :: F, [], _, _, h => absurd ((h f).1 (List.mem_cons_self ..)) (by simp)
  | f :: F, g :: G, hF, hG, h => by
    have h1 := List.pairwise_cons.1 hF
    have h2 := List.pairwise_cons.1 hG
    have hfg : f = g := by
      rcases List.mem_cons.1 ((h f).1 (List.mem_cons_self ..)) with x | x
      · exact x
      · rcases List.mem_cons.1 ((h g).2 (List.mem_cons_self ..)) with y | y
        · exact y.symm
        · have := lessB_asym (h2.1 f x); rw [h1.1 g y] at this; cases this
    subst hfg
    rw [ris_ext h1.2 h2.2 (fun e => ⟨fun he => ?_, fun he => ?_⟩)]
    · rcases List.mem_cons.1 ((h e).1 (List.mem_cons_of_mem _ he)) with x | x
      · subst x
        have := h1.1 e he
        rw [lessB_irr] at this
        cases this
      · exact x
    · rcases List.mem_cons.1 ((h e).2 (List.mem_cons_of_mem _ he)) with x | x
      · subst x
        have := h2.1 e he
        rw [lessB_irr] at this
        cases this
      · exact x
theorem ris_key : ∀ {F : List Ent}, Ris F → ∀ {e e' : Ent}, e ∈ F → e' ∈ F → e.1 = e'.1 → e = e'
  | [], _, _, _, he, _, _ => by cases he
  | f :: F, h, e, e', he, he', hk => by
    have h1 := List.pairwise_cons.1 h
    rcases List.mem_cons.1 he with x | x
    · rcases List.mem_cons.1 he' with y | y
      · rw [x, y]
      · have := h1.1 e' y
        rw [← x, hk, lessB_irr] at this
        cases this
    · rcases List.mem_cons.1 he' with y | y
      · have := h1.1 e x
        rw [← y, hk, lessB_irr] at this
        cases this
      · exact ris_key h1.2 x y hk
theorem akey_some {id : Nat} : kmake 4 id 0 = some (akey id) := by
 have : ∃ x, kmake 4 id 0 = some x := ⟨_, rfl⟩
 obtain ⟨x, hx⟩ := this
 unfold akey
 rw [hx]
 rfl
theorem akey_form (id : Nat) : akey id = 97 :: be 8 id := by
 have h : kmake 4 id 0 = some (97 :: be 8 id) := by
  show (if kfit ⟨97, 0, true, false, false⟩ id 0 then some (kbytes ⟨97, 0, true, false, false⟩ id 0) else none) = _
  simp [kfit, kbytes, kfirst, kturn]
 rw [akey_some] at h
 exact Option.some.inj h
theorem akey_len9 (id : Nat) : (akey id).length = 9 := by rw [akey_form]; simp [be_length]
theorem akey_inj {a b : Nat} (ha : U64 a) (hb : U64 b) (h : akey a = akey b) : a = b := by
 have h1 := @akey_some a
 have h2 := @akey_some b
 rw [h] at h1
 exact (kmake_inj h1 h2 ha (by unfold maxU; omega) hb (by unfold maxU; omega)).2.1
theorem two_lay {a b : Nat} (ha : U64 a) (hb : U64 b) : two (lay2 a b) = (a, b) := by
 have h := recGet_back [⟨0, a, []⟩, ⟨0, b, []⟩] (fun f hf => by
  rcases List.mem_cons.1 hf with rfl | hf
  ·exact ⟨by simp, ha, fun x => by simp at x, fun x hx => by cases hx⟩
  ·rcases List.mem_cons.1 hf with rfl | hf
   ·exact ⟨by simp, hb, fun x => by simp at x, fun x hx => by cases hx⟩
   ·cases hf) (ks := [0, 0]) rfl
 exact two_of h
theorem lay2_len (a b : Nat) : (lay2 a b).length = 16 := by simp [lay2, recLay, Fld.lay, be_length]
theorem setFF_lay (F : List Ent) (id a b : Nat) : setFF F (akey id) (lay2 a b) = insL F (akey id) (lay2 a b) := by
 unfold setFF setErr
 rw [akey_len9, lay2_len]
 simp
structure AccOk (F : List Ent) : Prop where
 ris : Ris F
 all : ∀ e ∈ F, ∃ id c s, isB id = true ∧ U64 id ∧ c ≤ 1000000000000000000 ∧ U64 s ∧ (c ≠ 0 ∨ s ≠ 0) ∧ e = (akey id, lay2 c s)
theorem AccOk.nil : AccOk [] := ⟨List.Pairwise.nil, fun e he => by cases he⟩
theorem two_nil' : two [] = (0, 0) := by decide
theorem ac_cases {F : List Ent} (h : AccOk F) {id : Nat} (hi : U64 id) : (getL F (akey id) = none ∧ acF F id = (0, 0)) ∨ (∃ c s, getL F (akey id) = some (lay2 c s) ∧ acF F id = (c, s) ∧ c ≤ 1000000000000000000 ∧ U64 s ∧ (c ≠ 0 ∨ s ≠ 0) ∧ isB id = true) := by
  cases hg : getL F (akey id) with
  | none => exact .inl ⟨rfl, by unfold acF; rw [hg]; exact two_nil'⟩
  | some v =>
    obtain ⟨i2, c, s, hb, hi2, hc, hs, hn, he⟩ := h.all _ ((getL_filter F _ h.ris).2 v hg)
    obtain ⟨h1, h2⟩ := Prod.mk.inj he
    have := akey_inj hi hi2 h1
    subst this
    refine .inr ⟨c, s, by rw [h2], by unfold acF; rw [hg, h2]; exact two_lay (by unfold U64; omega) hs, hc, hs, hn, hb⟩
theorem ac_le {F : List Ent} (h : AccOk F) {id : Nat} (hi : U64 id) : (acF F id).1 ≤ 1000000000000000000 := by
 rcases ac_cases h hi with ⟨_, e⟩ | ⟨c, s, _, e, hc, _⟩ <;> rw [e]
 ·exact Nat.zero_le _
 ·exact hc
theorem ac_u64 {F : List Ent} (h : AccOk F) {id : Nat} (hi : U64 id) : U64 (acF F id).1 ∧ U64 (acF F id).2 := two_lt _
theorem mem_insB {F : List Ent} {k v : List UInt8} {e : Ent} (h : e ∈ insL F k v) : e ∈ F ∨ e = (k, v) := by
 unfold insL at h
 rcases List.mem_append.1 h with h | h
 ·exact .inl (List.mem_filter.1 h).1
 ·rcases List.mem_cons.1 h with h | h
  ·exact .inr h
  ·exact .inl (List.mem_filter.1 h).1
theorem mem_delB {F : List Ent} {k : List UInt8} {e : Ent} (h : e ∈ delL F k) : e ∈ F := by
 unfold delL at h
 rcases List.mem_append.1 h with h | h <;> exact (List.mem_filter.1 h).1
theorem ok_lay {F : List Ent} (h : AccOk F) {id : Nat} {a : Nat × Nat} (hi : U64 id) (hb : isB id = true) (h1 : a.1 ≤ 1000000000000000000) (h2 : U64 a.2) : AccOk (layF F id a) := by
 refine ⟨layF_ris h.ris _ _, fun e he => ?_⟩
 unfold layF at he
 split at he
 ·exact h.all e (mem_delB he)
 ·rename_i hn
  rw [setFF_lay] at he
  rcases mem_insB he with he | he
  ·exact h.all e he
  ·exact ⟨id, a.1, a.2, hb, hi, h1, h2, by omega, he⟩
theorem ac_lay (F : List Ent) {id id' : Nat} {a : Nat × Nat} (hi : U64 id) (hi' : U64 id') (h1 : U64 a.1) (h2 : U64 a.2) : acF (layF F id a) id' = if id = id' then a else acF F id' := by
 have hk : (akey id = akey id') ↔ id = id' := ⟨akey_inj hi hi', fun x => by rw [x]⟩
 unfold layF
 split
 ·rename_i h0
  unfold acF
  rw [get_del]
  by_cases hid : id = id'
  ·rw [if_pos (hk.2 hid), if_pos hid]
   rw [show a = (0, 0) from Prod.ext h0.1 h0.2]
   exact two_nil'
  ·rw [if_neg (fun x => hid (hk.1 x)), if_neg hid]
 ·rw [setFF_lay]
  unfold acF
  rw [get_ins]
  by_cases hid : id = id'
  ·rw [if_pos (hk.2 hid), if_pos hid]
   exact two_lay h1 h2
  ·rw [if_neg (fun x => hid (hk.1 x)), if_neg hid]
theorem acc_ext {F G : List Ent} (hF : AccOk F) (hG : AccOk G) (h : ∀ id, U64 id → acF F id = acF G id) : F = G := by
  have half : ∀ {F G : List Ent}, AccOk F → AccOk G → (∀ id, U64 id → acF F id = acF G id) → ∀ e, e ∈ F → e ∈ G := by
    intro F G hF hG h e he
    obtain ⟨id, c, s, hb, hi, hc, hs, hn, rfl⟩ := hF.all e he
    have hgF : getL F (akey id) = some (lay2 c s) := by
      cases hg : getL F (akey id) with
      | none =>
        have := (getL_filter F _ hF.ris).1 hg
        have h3 : (akey id, lay2 c s) ∈ F.filter (fun e => decide (e.1 = akey id)) := List.mem_filter.2 ⟨he, by simp⟩
        rw [this] at h3
        cases h3
      | some v =>
        have hv := (getL_filter F _ hF.ris).2 v hg
        by_cases hvl : v = lay2 c s
        · rw [hvl]
        · exfalso
          have := ris_key hF.ris he hv rfl
          exact hvl (Prod.mk.inj this).2.symm
    have e1 : acF F id = (c, s) := by unfold acF; rw [hgF]; exact two_lay (by unfold U64; omega) hs
    rcases ac_cases hG hi with ⟨_, e⟩ | ⟨c', s', g, e, _⟩
    · rw [← h id hi, e1] at e
      obtain ⟨x, y⟩ := Prod.mk.inj e
      omega
    · rw [← h id hi, e1] at e
      obtain ⟨x, y⟩ := Prod.mk.inj e
      subst x; subst y
      exact (getL_filter G _ hG.ris).2 _ g
  exact ris_ext hF.ris hG.ris (fun e => ⟨half hF hG h e, half hG hF (fun id hi => (h id hi).symm) e⟩)
theorem much_no {c n : Nat} (h : muchB c n = false) : c + n ≤ 1000000000000000000 := by
 unfold muchB at h
 have := of_decide_eq_false h
 omega
theorem mintE_zero {F : List Ent} {id n : Nat} (h : mintE F id n = 0) : isB id = true ∧ (acF F id).1 + n ≤ 1000000000000000000 := by
 unfold mintE at h
 split at h
 ·omega
 split at h
 ·omega
 rename_i h1 h2
 exact ⟨by simpa using h1, much_no (by simpa using h2)⟩
theorem moveE_zero {F : List Ent} {a b n : Nat} (h : moveE F a b n = 0) : isB a = true ∧ isB b = true ∧ n ≤ (acF F a).1 ∧ (a ≠ b → (acF F b).1 + n ≤ 1000000000000000000) := by
 unfold moveE at h
 split at h
 ·omega
 rename_i h0
 have h0' : isB a = true ∧ isB b = true := by
  constructor
  ·cases hh : isB a with
   | true => rfl
   | false => exact absurd (.inl hh) h0
  ·cases hh : isB b with
   | true => rfl
   | false => exact absurd (.inr hh) h0
 split at h
 ·omega
 rename_i h1
 refine ⟨h0'.1, h0'.2, by omega, fun hab => ?_⟩
 rw [if_neg hab] at h
 split at h
 ·omega
 rename_i h2
 exact much_no (by simpa using h2)
theorem mint_ok {F : List Ent} (h : AccOk F) {id n : Nat} (hi : U64 id) : AccOk (mintF F id n) := by
 unfold mintF
 split
 ·rename_i h0
  obtain ⟨h1, h2⟩ := mintE_zero h0
  exact ok_lay h hi h1 h2 (ac_u64 h hi).2
 ·exact h
theorem bump_ok {F : List Ent} (h : AccOk F) {id : Nat} (hi : U64 id) : AccOk (bumpF F id) := by
 unfold bumpF
 split
 ·exact h
 ·rename_i h0
  exact ok_lay h hi (by simpa using h0) (ac_le h hi) (show (((acF F id).2 + 1) % 18446744073709551616) ≤ 18446744073709551615 by omega)
theorem move_ok {F : List Ent} (h : AccOk F) {a b n : Nat} (ha : U64 a) (hb : U64 b) : AccOk (moveF F a b n) := by
 unfold moveF
 split
 ·rename_i h0
  obtain ⟨h1, h2, h3, h4⟩ := moveE_zero h0.1
  have := ac_le h ha
  exact ok_lay (ok_lay h (a := ((acF F a).1 - n, (acF F a).2)) ha h1 (show (acF F a).1 - n ≤ _ by omega) (ac_u64 h ha).2) (a := ((acF F b).1 + n, (acF F b).2)) hb h2 (h4 h0.2) (ac_u64 h hb).2
 ·exact h
theorem move_self (F : List Ent) (a n : Nat) : moveF F a a n = F := by unfold moveF; rw [if_neg (fun x => x.2 rfl)]
end Go.Proofs.YtglkmaalpammcaaGreat

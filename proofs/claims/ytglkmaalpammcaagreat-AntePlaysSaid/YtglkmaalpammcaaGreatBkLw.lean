/- Accounts, plain: what lies for them after a call; two stores with the same accounts are the same. -/
import Derived.Test.YtglkmaalpammcaaGreatBkG
import Derived.Test.YtglkmaalpammcaaGreatKPlain
import Derived.Test.YtglkmaalpammcaaGreatZC
namespace Go.Proofs.YtglkmaalpammcaaGreat
open Go.Gl Go.RowKit
set_option linter.unusedVariables false
set_option maxRecDepth 100000
theorem akey_some {id : Nat} : kmake 4 id 0 = some (akey id) := by
 have : ∃ x, kmake 4 id 0 = some x := ⟨_, rfl⟩
 obtain ⟨x, hx⟩ := this
 unfold akey
 rw [hx]
 rfl
theorem akey_form (id : Nat) : akey id = 97 :: be 8 id := by
 have h : kmake 4 id 0 = some (97 :: be 8 id) := by
  show (if kfit ⟨97, 0, true, false, false⟩ id 0 then some (kbytes ⟨97, 0, true, false, false⟩ id 0) else none) = _
  simp [kfit, kbytes, kfirst, kturn]
 rw [akey_some] at h
 exact Option.some.inj h
theorem akey_len9 (id : Nat) : (akey id).length = 9 := by rw [akey_form]; simp [be_length]
theorem akey_inj {a b : Nat} (ha : U64 a) (hb : U64 b) (h : akey a = akey b) : a = b := by
 have h1 := @akey_some a
 have h2 := @akey_some b
 rw [h] at h1
 exact (kmake_inj h1 h2 ha (by unfold maxU; omega) hb (by unfold maxU; omega)).2.1
theorem two_lay {a b : Nat} (ha : U64 a) (hb : U64 b) : two (lay2 a b) = (a, b) := by
 have h := recGet_back [⟨0, a, []⟩, ⟨0, b, []⟩] (fun f hf => by
  rcases List.mem_cons.1 hf with rfl | hf
  ·exact ⟨by simp, ha, fun x => by simp at x, fun x hx => by cases hx⟩
  ·rcases List.mem_cons.1 hf with rfl | hf
   ·exact ⟨by simp, hb, fun x => by simp at x, fun x hx => by cases hx⟩
   ·cases hf) (ks := [0, 0]) rfl
 exact two_of h
theorem lay2_len (a b : Nat) : (lay2 a b).length = 16 := by simp [lay2, recLay, Fld.lay, be_length]
theorem setFF_lay (F : List Ent) (id a b : Nat) : setFF F (akey id) (lay2 a b) = insL F (akey id) (lay2 a b) := by
 unfold setFF setErr
 rw [akey_len9, lay2_len]
 simp
theorem two_nil' : two [] = (0, 0) := by decide
theorem ac_lay (F : List Ent) {id id' : Nat} {a : Nat × Nat} (hi : U64 id) (hi' : U64 id') (h1 : U64 a.1) (h2 : U64 a.2) : acF (layF F id a) id' = if id = id' then a else acF F id' := by
 have hk : (akey id = akey id') ↔ id = id' := ⟨akey_inj hi hi', fun x => by rw [x]⟩
 unfold layF
 split
 ·rename_i h0
  unfold acF
  rw [get_del]
  by_cases hid : id = id'
  ·rw [if_pos (hk.2 hid), if_pos hid]
   rw [show a = (0, 0) from Prod.ext h0.1 h0.2]
   exact two_nil'
  ·rw [if_neg (fun x => hid (hk.1 x)), if_neg hid]
 ·rw [setFF_lay]
  unfold acF
  rw [get_ins]
  by_cases hid : id = id'
  ·rw [if_pos (hk.2 hid), if_pos hid]
   exact two_lay h1 h2
  ·rw [if_neg (fun x => hid (hk.1 x)), if_neg hid]
theorem much_no {c n : Nat} (h : muchB c n = false) : c + n ≤ 1000000000000000000 := by
 unfold muchB at h
 have := of_decide_eq_false h
 omega
theorem moveE_zero {F : List Ent} {a b n : Nat} (h : moveE F a b n = 0) : isB a = true ∧ isB b = true ∧ n ≤ (acF F a).1 ∧ (a ≠ b → (acF F b).1 + n ≤ 1000000000000000000) := by
 unfold moveE at h
 split at h
 ·omega
 rename_i h0
 have h0' : isB a = true ∧ isB b = true := by
  constructor
  ·cases hh : isB a with
   | true => rfl
   | false => exact absurd (.inl hh) h0
  ·cases hh : isB b with
   | true => rfl
   | false => exact absurd (.inr hh) h0
 split at h
 ·omega
 rename_i h1
 refine ⟨h0'.1, h0'.2, by omega, fun hab => ?_⟩
 rw [if_neg hab] at h
 split at h
 ·omega
 rename_i h2
 exact much_no (by simpa using h2)
end Go.Proofs.YtglkmaalpammcaaGreat

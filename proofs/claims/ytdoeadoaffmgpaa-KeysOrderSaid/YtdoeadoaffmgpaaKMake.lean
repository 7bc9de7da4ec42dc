/- keys.Make, Of, Under, Val: the bytes of keys and of their beginnings. -/
import Derived.Test.YtdoeadoaffmgpaaKFirst
import Derived.Test.YtdoeadoaffmgpaaLib2
import Derived.Test.YtdoeadoaffmgpaaKEq
namespace Go.Proofs.Ytdoeadoaffmgpaa
open Go.Gl Go.RowKit
set_option linter.unusedVariables false

/-- a number that a kind uses, or 0 -/
def kuse (c : Bool) (a : Nat) : Int := ((if c then a else 0 : Nat) : Int)

set_option maxHeartbeats 400000 in
theorem used_any (f : KForm) (k : Int) (a b : Nat) (w : World) :
    Calls Try.prog 35 #[.agg #[.int .u8 f.head.toNat, .int .u8 f.mid.toNat, .bool f.a, .bool f.b, .bool f.turned], .agg #[.int .i64 k, .int .u64 a, .int .u64 b]] w fun e w' => e = .returned (.agg #[.int .i64 k, .int .u64 (kuse f.a a), .int .u64 (kuse f.b b)]) ∧ Mods noB w w' := by
  obtain ⟨hd, md, fa, fb, ft⟩ := f
  cases fa <;> cases fb
  all_goals
    go_enter Try.func35, Try.ntmps35
    go_wp2
    go_returns
    exact ⟨rfl, (by repeat' (first | (with_reducible exact Mods.refl _ _) | (with_reducible assumption) | (with_reducible refine Mods.alloc ?_ _) | (with_reducible refine Mods.drew ?_) | (with_reducible refine Mods.drewN ?_ _) | (with_reducible refine Mods.regrown ?_ _ _) | (with_reducible refine Mods.setCell ?_ ?_ _) | (exact .inr (by simp)) | (exact .inr (by simp; omega))))⟩

set_option maxHeartbeats 400000 in
theorem Of_no (n : Int) (w : World) (h : n < 1 ∨ 17 < n) :
    Calls Try.prog 22 #[.int .i64 n] w fun e w' => e = .returned (.tuple #[.slice none 0 0, .int .i64 70]) ∧ Mods noB w w' := by
  have H := Lib.hid h
  clear h
  go_enter Try.func22, Try.ntmps22
  go_wp2_with (go_at_call 29; refine (formOf_no _ _ H.out).mono ?_; rintro e w1 ⟨rfl, hm⟩; unfold fv fcells)
  go_returns
  exact ⟨rfl, (by repeat' (first | (with_reducible exact Mods.refl _ _) | (with_reducible assumption) | (with_reducible refine Mods.alloc ?_ _) | (with_reducible refine Mods.drew ?_) | (with_reducible refine Mods.drewN ?_ _) | (with_reducible refine Mods.regrown ?_ _ _) | (with_reducible refine Mods.setCell ?_ ?_ _) | (exact .inr (by simp)) | (exact .inr (by simp; omega))))⟩

set_option maxHeartbeats 400000 in
theorem Of_yes (k : Nat) (f : KForm) (w : World) (hf : kform k = some f) :
    Calls Try.prog 22 #[.int .i64 k] w fun e w' => ∃ v, e = .returned (.tuple #[v, .int .i64 0]) ∧ Own w' v [f.head] ∧ Mods noB w w' ∧ freshIn w v := by
  have H := Lib.hid hf
  clear hf
  go_enter Try.func22, Try.ntmps22
  go_wp2_with (go_at_call 29; refine (formOf_yes _ _ _ H.out).mono ?_; rintro e w1 ⟨rfl, hm⟩; unfold fv fcells)
  go_returns
  refine ⟨_, rfl, own_at _ _ (by simp), (by repeat' (first | (with_reducible exact Mods.refl _ _) | (with_reducible assumption) | (with_reducible refine Mods.alloc ?_ _) | (with_reducible refine Mods.drew ?_) | (with_reducible refine Mods.drewN ?_ _) | (with_reducible refine Mods.regrown ?_ _ _) | (with_reducible refine Mods.setCell ?_ ?_ _) | (exact .inr (by simp)) | (exact .inr (by simp; omega)))), fun k hk => ?_⟩
  have := hm.size
  simp [Value.ownBlock] at hk
  omega

def KRes (w : World) (xs : List UInt8) (n : Int) (e : Ending) (w' : World) : Prop := ∃ v, e = .returned (.tuple #[v, .int .i64 n]) ∧ Own w' v xs ∧ Mods noB w w' ∧ freshIn w v

theorem KRes.nil {w w' : World} {n : Int} (hm : Mods noB w w') : KRes w [] n (.returned (.tuple #[.slice none 0 0, .int .i64 n])) w' := ⟨_, rfl, Own.nil _, hm, fun k hk => by simp [Value.ownBlock] at hk⟩

set_option maxHeartbeats 400000 in
theorem Under_no1 (n : Int) (a : Nat) (w : World) (h : n < 1 ∨ 17 < n) :
    Calls Try.prog 21 #[.int .i64 n, .int .u64 a] w (KRes w [] 70) := by
  have H := Lib.hid h
  clear h
  go_enter Try.func21, Try.ntmps21
  go_wp2_with (go_at_call 29; refine (formOf_no _ _ H.out).mono ?_; rintro e w1 ⟨rfl, hm⟩; unfold fv fcells)
  go_returns
  exact KRes.nil (by repeat' (first | (with_reducible exact Mods.refl _ _) | (with_reducible assumption) | (with_reducible refine Mods.alloc ?_ _) | (with_reducible refine Mods.drew ?_) | (with_reducible refine Mods.drewN ?_ _) | (with_reducible refine Mods.regrown ?_ _ _) | (with_reducible refine Mods.setCell ?_ ?_ _) | (exact .inr (by simp)) | (exact .inr (by simp; omega))))

set_option maxHeartbeats 400000 in
theorem Under_no2 (k a : Nat) (f : KForm) (w : World) (hf : kform k = some f) (hb : f.b = false) :
    Calls Try.prog 21 #[.int .i64 k, .int .u64 a] w (KRes w [] 70) := by
  have H := Lib.hid hf
  clear hf
  obtain ⟨hd, md, fa, fb, ft⟩ := f
  obtain rfl : fb = false := hb
  go_enter Try.func21, Try.ntmps21
  go_wp2_with (go_at_call 29; refine (formOf_yes _ _ _ H.out).mono ?_; rintro e w1 ⟨rfl, hm⟩; unfold fv fcells)
  go_returns
  exact KRes.nil (by repeat' (first | (with_reducible exact Mods.refl _ _) | (with_reducible assumption) | (with_reducible refine Mods.alloc ?_ _) | (with_reducible refine Mods.drew ?_) | (with_reducible refine Mods.drewN ?_ _) | (with_reducible refine Mods.regrown ?_ _ _) | (with_reducible refine Mods.setCell ?_ ?_ _) | (exact .inr (by simp)) | (exact .inr (by simp; omega))))

set_option maxHeartbeats 400000 in
theorem Under_yes (k a : Nat) (f : KForm) (w : World) (hf : kform k = some f) (hb : f.b = true) (ha : a ≤ 18446744073709551615) :
    Calls Try.prog 21 #[.int .i64 k, .int .u64 a] w (KRes w (kfirst f a) 0) := by
  have H := Lib.hid hf
  clear hf
  obtain ⟨hd, md, fa, fb, ft⟩ := f
  obtain rfl : fb = true := hb
  go_enter Try.func21, Try.ntmps21
  go_wp2_with (go_at_call 29; refine (formOf_yes _ _ _ H.out).mono ?_; rintro e w1 ⟨rfl, hm⟩; unfold fv fcells)
  refine (first_any ⟨hd, md, fa, true, ft⟩ a _ ha).mono ?_
  rintro e w2 ⟨v, rfl, h1, h2, h3⟩
  go_wp2
  go_returns
  refine ⟨v, rfl, h1, (hm.alloc _).trans h2 (fun _ _ x => x) (fun _ _ x => x), fun k hk => ?_⟩
  have := h3 k hk
  have := hm.size
  simp at *
  omega

set_option maxHeartbeats 400000 in
theorem Val_any (a : Nat) (w : World) (ha : a ≤ 18446744073709551615) :
    Calls Try.prog 10 #[.int .u64 a] w fun e w' => ∃ v, e = .returned v ∧ Own w' v (118 :: be 8 a) ∧ Mods noB w w' ∧ freshIn w v := by
  go_enter Try.func10, Try.ntmps10
  go_wp2_with fail
  refine (first_any ⟨118, 0, true, false, false⟩ a _ ha).mono ?_
  rintro e w2 ⟨v, rfl, h1, h2, h3⟩
  go_wp2
  go_returns
  exact ⟨v, rfl, h1, h2, h3⟩

/-- a key's bytes -/
def kbytes (f : KForm) (a b : Nat) : List UInt8 := kfirst f a ++ if f.b then be 8 b else []

/-- Does the kind use all numbers that are not 0? -/
def kfit (f : KForm) (a b : Nat) : Bool := (f.a || decide (a = 0)) && (f.b || decide (b = 0))

set_option maxHeartbeats 400000 in
theorem Make_no1 (n : Int) (a b : Nat) (w : World) (h : n < 1 ∨ 17 < n) :
    Calls Try.prog 18 #[.agg #[.int .i64 n, .int .u64 a, .int .u64 b]] w (KRes w [] 70) := by
  have H := Lib.hid h
  clear h
  go_enter Try.func18, Try.ntmps18
  go_wp2_with (go_at_call 29; refine (formOf_no _ _ H.out).mono ?_; rintro e w1 ⟨rfl, hm⟩; unfold fv fcells)
  refine wp_region_quiet_below (by kernel_rfl) (by kernel_rfl) ?_
  repeat (quiet_step (fail))
  refine wpQuiet_nil ?_
  intro _ hw'
  obtain ⟨⟨dq, osq⟩, hw''⟩ := hw'
  subst hw''
  go_wp2
  go_returns
  have m1 := hm.after
  exact KRes.nil (by repeat' (first | (with_reducible exact Mods.refl _ _) | (with_reducible assumption) | (with_reducible refine Mods.alloc ?_ _) | (with_reducible refine Mods.drew ?_) | (with_reducible refine Mods.drewN ?_ _) | (with_reducible refine Mods.regrown ?_ _ _) | (with_reducible refine Mods.setCell ?_ ?_ _) | (exact .inr (by simp)) | (exact .inr (by simp; omega))))

theorem fit_eq (f : KForm) (k a b : Nat) : (!(((k : Int) == (k : Int)) && (((kuse f.a a) == (a : Int)) && ((kuse f.b b) == (b : Int))))) = !kfit f a b := by
  obtain ⟨hd, md, fa, fb, ft⟩ := f
  cases fa <;> cases fb <;> simp [kfit, kuse] <;> by_cases h1 : a = 0 <;> by_cases h2 : b = 0 <;> simp_all <;> omega

set_option maxHeartbeats 400000 in
theorem Make_no2 (k a b : Nat) (f : KForm) (w : World) (hf : kform k = some f) (hn : kfit f a b = false) :
    Calls Try.prog 18 #[.agg #[.int .i64 k, .int .u64 a, .int .u64 b]] w (KRes w [] 70) := by
  have hne := fun w => (key_neq (k : Int) (kuse f.a a) (kuse f.b b) (k : Int) (a : Int) (b : Int) w).trans (by rw [fit_eq, hn])
  have H := Lib.hid hf
  clear hf hn
  obtain ⟨hd, md, fa, fb, ft⟩ := f
  go_enter Try.func18, Try.ntmps18
  go_wp2_with (go_at_call 29; refine (formOf_yes _ _ _ H.out).mono ?_; rintro e w1 ⟨rfl, hm⟩; unfold fv fcells)
  have m1 := hm.after
  have c1 := hm.cellAt (g := w.heap.size) (by simp) (fun x => x)
  have hz : w.heap.size < w1.heap.size := hm.size_of (by simp)
  have c0 : ∀ o, (w1.alloc (.cells #[.int .u8 hd.toNat, .int .u8 md.toNat, .bool fa, .bool fb, .bool ft] 50)).cell? ⟨w.heap.size, o, none⟩ = #[.int .i64 (k : Int), .int .u64 (a : Int), .int .u64 (b : Int)][o]? := fun o => (World.cell?_alloc_past _ _ _ hz).trans ((c1 o).trans (by simp))
  have c2 := cells_regrown c0 (by simp; omega)
  have c3 := cells_regrown (cells_of (heap_new w1 (.cells #[.int .u8 hd.toNat, .int .u8 md.toNat, .bool fa, .bool fb, .bool ft] 50))) (by simp)
  clear c0 c1
  refine wp_region_quiet_below (by kernel_rfl) (by kernel_rfl) ?_
  repeat (quiet_step ((go_at_call 35; exact Calls.quiet_mods (used_any ⟨hd, md, fa, fb, ft⟩ _ _ _ _))))
  refine wpQuiet_nil ?_
  intro _ hw'
  obtain ⟨⟨dq, osq⟩, hw''⟩ := hw'
  subst hw''
  clear c2 c3
  go_wp2
  go_returns
  exact KRes.nil (by repeat' (first | (with_reducible exact Mods.refl _ _) | (with_reducible assumption) | (with_reducible refine Mods.alloc ?_ _) | (with_reducible refine Mods.drew ?_) | (with_reducible refine Mods.drewN ?_ _) | (with_reducible refine Mods.regrown ?_ _ _) | (with_reducible refine Mods.setCell ?_ ?_ _) | (exact .inr (by simp)) | (exact .inr (by simp; omega))))

set_option maxHeartbeats 400000 in
theorem Make_yes (k a b : Nat) (f : KForm) (w : World) (hf : kform k = some f) (hn : kfit f a b = true) (ha : a ≤ 18446744073709551615) (hb : b ≤ 18446744073709551615) :
    Calls Try.prog 18 #[.agg #[.int .i64 k, .int .u64 a, .int .u64 b]] w (KRes w (kbytes f a b) 0) := by
  have hne := fun w => (key_neq (k : Int) (kuse f.a a) (kuse f.b b) (k : Int) (a : Int) (b : Int) w).trans (by rw [fit_eq, hn])
  have H := Lib.hid hf
  clear hf hn
  obtain ⟨hd, md, fa, fb, ft⟩ := f
  go_enter Try.func18, Try.ntmps18
  go_wp2_with (go_at_call 29; refine (formOf_yes _ _ _ H.out).mono ?_; rintro e w1 ⟨rfl, hm⟩; unfold fv fcells)
  have m1 := hm.after
  have c1 := hm.cellAt (g := w.heap.size) (by simp) (fun x => x)
  have hz : w.heap.size < w1.heap.size := hm.size_of (by simp)
  have c0 : ∀ o, (w1.alloc (.cells #[.int .u8 hd.toNat, .int .u8 md.toNat, .bool fa, .bool fb, .bool ft] 50)).cell? ⟨w.heap.size, o, none⟩ = #[.int .i64 (k : Int), .int .u64 (a : Int), .int .u64 (b : Int)][o]? := fun o => (World.cell?_alloc_past _ _ _ hz).trans ((c1 o).trans (by simp))
  have c2 := cells_regrown c0 (by simp; omega)
  have c3 := cells_regrown (cells_of (heap_new w1 (.cells #[.int .u8 hd.toNat, .int .u8 md.toNat, .bool fa, .bool fb, .bool ft] 50))) (by simp)
  clear c0 c1
  refine wp_region_quiet_below (by kernel_rfl) (by kernel_rfl) ?_
  repeat (quiet_step ((go_at_call 35; exact Calls.quiet_mods (used_any ⟨hd, md, fa, fb, ft⟩ _ _ _ _))))
  refine wpQuiet_nil ?_
  intro _ hw'
  obtain ⟨⟨dq, osq⟩, hw''⟩ := hw'
  subst hw''
  have d2 := c2 dq osq
  have d3 := c3 dq osq
  have hs2 := (mods_regrown (w1.alloc (.cells #[.int .u8 hd.toNat, .int .u8 md.toNat, .bool fa, .bool fb, .bool ft] 50)) dq osq).size
  have m2 := (m1.alloc (.cells #[.int .u8 hd.toNat, .int .u8 md.toNat, .bool fa, .bool fb, .bool ft] 50)).regrown dq osq
  simp only [World.size_alloc] at hs2
  clear c2 c3 hne hm
  generalize Sort.grow _ osq = w2 at *
  go_wp2_with fail
  refine (first_any ⟨hd, md, fa, fb, ft⟩ a _ ha).mono ?_
  rintro e w3 ⟨v, rfl, h1, h2, h3⟩
  have hs3 := h2.size
  have b0 : w.heap.size < w2.heap.size := by omega
  have b1 : w1.heap.size < w2.heap.size := by omega
  have e2 := fun o => (h2.cellAt b0 (fun x => x) o).trans (d2 o)
  have e3 := fun o => (h2.cellAt b1 (fun x => x) o).trans (d3 o)
  clear d2 d3
  go_wp2_with fail
  refine (eight_int _ _ (by omega) (by omega)).mono ?_
  rintro e w4 ⟨rfl, h4⟩
  have hs4 := h4.size
  have f3 := fun o => (h4.cellAt (g := w1.heap.size) (by omega) (fun x => x) o).trans (e3 o)
  have b4 : w1.heap.size < w4.heap.size := by omega
  have m4 := (m2.then0 h2).then0 h4
  have o4 := h1.keep h4 (fun _ _ x => x)
  have fr : freshIn w v := h3.of (by omega)
  clear e2 e3
  cases fb
  · go_wp2_with (at_builtin; refine stop ?_)
    go_returns
    refine ⟨v, rfl, ?_, m4.alloc _, fr⟩
    simpa [kbytes] using o4.alloc _
  · go_wp2_with (at_builtin; refine stop ?_)
    unfold Stop
    refine wpList_apb rfl rfl _ _ (o4.alloc _) (rd8 (heap_new _ _)) rfl rfl (by simp [be_length, kfirst]; repeat' split <;> simp [be_length]) ?_
    intro v5 w5 k1 k2 k3
    go_wp2
    go_returns
    refine ⟨v5, rfl, by simpa [kbytes] using k1, (m4.alloc _).trans k2 (fun _ _ x => x) (fun i hi x => by have := fr i x; omega), fun k hk => ?_⟩
    rcases k3 with k3 | k3
    · exact fr k (k3.symm.trans hk)
    · have := k3 k hk
      simp at this
      omega

theorem kform_none {n : Int} (h : n < 1 ∨ 17 < n) : kform n.toNat = none := by
  rcases h with h | h
  · rw [show n.toNat = 0 from by omega]; rfl
  · obtain ⟨j, hj⟩ : ∃ j, n.toNat = j + 18 := ⟨n.toNat - 18, by omega⟩
    rw [hj]; rfl

/-- What keys.Make tells: the bytes, or none. -/
def kmake (n : Int) (a b : Nat) : Option (List UInt8) := match kform n.toNat with
  | none => none
  | some f => if kfit f a b then some (kbytes f a b) else none

theorem Make_any (n : Int) (a b : Nat) (w : World) (ha : a ≤ 18446744073709551615) (hb : b ≤ 18446744073709551615) :
    Calls Try.prog 18 #[.agg #[.int .i64 n, .int .u64 a, .int .u64 b]] w (KRes w ((kmake n a b).getD []) (if (kmake n a b).isSome then 0 else 70)) := by
  by_cases h : n < 1 ∨ 17 < n
  · have := Make_no1 n a b w h
    simpa [kmake, kform_none h] using this
  · obtain ⟨k, rfl⟩ := Int.eq_ofNat_of_zero_le (a := n) (by omega)
    obtain ⟨f, hf, _⟩ := formsV_at k (by omega) (by omega)
    cases hn : kfit f a b
    · have := Make_no2 k a b f w hf hn
      simpa [kmake, hf, hn] using this
    · have := Make_yes k a b f w hf hn ha hb
      simpa [kmake, hf, hn] using this

/-- What keys.Of tells. -/
def kof (n : Int) : Option (List UInt8) := (kform n.toNat).map fun f => [f.head]

theorem Of_any (n : Int) (w : World) : Calls Try.prog 22 #[.int .i64 n] w (KRes w ((kof n).getD []) (if (kof n).isSome then 0 else 70)) := by
  by_cases h : n < 1 ∨ 17 < n
  · simpa [kof, kform_none h] using (Of_no n w h).mono fun e w' ⟨he, hm⟩ => by rw [he]; exact KRes.nil hm
  · obtain ⟨k, rfl⟩ := Int.eq_ofNat_of_zero_le (a := n) (by omega)
    obtain ⟨f, hf, _⟩ := formsV_at k (by omega) (by omega)
    have h1 : Calls Try.prog 22 #[.int .i64 k] w (KRes w [f.head] 0) := Of_yes k f w hf
    simpa [kof, hf] using h1

/-- What keys.Under tells. -/
def kunder (n : Int) (a : Nat) : Option (List UInt8) := match kform n.toNat with
  | none => none
  | some f => if f.b then some (kfirst f a) else none

theorem Under_any (n : Int) (a : Nat) (w : World) (ha : a ≤ 18446744073709551615) : Calls Try.prog 21 #[.int .i64 n, .int .u64 a] w (KRes w ((kunder n a).getD []) (if (kunder n a).isSome then 0 else 70)) := by
  by_cases h : n < 1 ∨ 17 < n
  · simpa [kunder, kform_none h] using Under_no1 n a w h
  · obtain ⟨k, rfl⟩ := Int.eq_ofNat_of_zero_le (a := n) (by omega)
    obtain ⟨f, hf, _⟩ := formsV_at k (by omega) (by omega)
    cases hn : f.b
    · simpa [kunder, hf, hn] using Under_no2 k a f w hf hn
    · simpa [kunder, hf, hn] using Under_yes k a f w hf hn ha

end Go.Proofs.Ytdoeadoaffmgpaa

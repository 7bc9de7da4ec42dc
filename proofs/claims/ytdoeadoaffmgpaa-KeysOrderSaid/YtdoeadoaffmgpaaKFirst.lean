/- keys.form.first: what stands ahead of B in a key. -/
import Derived.Test.YtdoeadoaffmgpaaKForm
import Derived.Test.YtdoeadoaffmgpaaKEight
namespace Go.Proofs.Ytdoeadoaffmgpaa
open Go.Gl Go.RowKit
set_option linter.unusedVariables false

def kturn (f : KForm) (a : Nat) : Nat := if f.turned then 18446744073709551615 - a else a
def kfirst (f : KForm) (a : Nat) : List UInt8 := [f.head] ++ (if f.a then be 8 (kturn f a) else []) ++ (if f.mid.toNat = 0 then [] else [f.mid])

set_option maxHeartbeats 1000000 in
theorem first_any (f : KForm) (a : Nat) (w : World) (ha : a ≤ 18446744073709551615) :
    Calls Try.prog 27 #[.agg #[.int .u8 f.head.toNat, .int .u8 f.mid.toNat, .bool f.a, .bool f.b, .bool f.turned], .int .u64 a] w fun e w' => ∃ v, e = .returned v ∧ Own w' v (kfirst f a) ∧ Mods noB w w' ∧ freshIn w v := by
  obtain ⟨hd, md, fa, fb, ft⟩ := f
  have hfin : Hid (∀ t : Nat, t = kturn ⟨hd, md, fa, fb, ft⟩ a → kfirst ⟨hd, md, fa, fb, ft⟩ a = [hd] ++ (if fa then be 8 t else []) ++ (if md.toNat = 0 then [] else [md])) := by
    intro t ht; rw [ht]; rfl
  have hmd : md.toNat < 256 := md.toNat_lt
  have fin : ∀ (W : World) (v : Value) (b : Nat), w.heap.size ≤ b → (v.ownBlock = some b ∨ freshIn W v) → w.heap.size ≤ W.heap.size → freshIn w v := by
    intro W v b hb hv hW k hk
    rcases hv with hv | hv
    · rw [hv] at hk; simp at hk; omega
    · have := hv k hk; omega
  have F := Lib.hid fin
  clear fin
  have M : (((md.toNat : Nat) : Int) != 0) = false ∧ md.toNat = 0 ∨ (((md.toNat : Nat) : Int) != 0) = true ∧ md.toNat ≠ 0 := by
    by_cases h : md.toNat = 0
    · exact .inl ⟨by simp [h], h⟩
    · exact .inr ⟨by simp [h], h⟩
  cases ft
  all_goals
    go_enter Try.func27, Try.ntmps27
    go_wp2_with fail
    try rw [not_u64 _ (by omega) (by omega)]
    refine (eight_int _ _ (by omega) (by omega)).mono ?_
    rintro e w1 ⟨rfl, hm1⟩
    have B0 := cells_of (hm1.heap (g := w.heap.size) (heap_old (heap_new _ _) _) (fun x => x))
    have o1 : Own w1 (.slice (some ⟨w.heap.size + 1, 0, none⟩) 1 1) [hd] := by
      have h := fun o => own_at hd (w := w.alloc o) (w.heap.size + 1) (by simp)
      exact (h _).keep hm1 (fun _ _ x => x)
    have hz1 : w.heap.size + 1 < w1.heap.size := by have := hm1.size; simp at this; omega
    have hz0 : w.heap.size < w1.heap.size := by omega
    have m1 : Mods noB w w1 := ((((Mods.refl _ _).alloc _).alloc _).trans hm1 (fun _ _ x => x) (fun _ _ x => x))
    rcases M with ⟨hb, hM⟩ | ⟨hb, hM⟩
    all_goals
      have HM := Lib.hid hM
      clear hM hm1
      cases fa
  case inl.false | inr.inl.false =>
    go_wp2_with (at_builtin; refine stop ?_)
    go_ret
    refine ⟨_, rfl, ?_, m1.alloc _, F.out w1 _ _ (Nat.le_succ _) (.inl rfl) m1.size⟩
    rw [hfin.out _ rfl, if_pos HM.out]
    exact o1.alloc _
  case inr.false | inr.inr.false =>
    go_wp2_with (at_builtin; refine stop ?_)
    unfold Stop
    refine wpList_apb rfl rfl [hd] [md] ((o1.alloc _).alloc _) (own_at md _ (by simp)).rd rfl rfl (by simp) ?_
    intro v2 w2 h1 h2 h3
    go_wp2
    go_ret
    refine ⟨_, rfl, ?_, ((m1.alloc _).alloc _).trans h2 (fun _ _ x => x) (fun i hi x => by have := (ofV_some x); omega), F.out _ _ _ (Nat.le_succ _) h3 (by simp; omega)⟩
    rw [hfin.out _ rfl, if_neg HM.out]
    exact h1
  case inl.true | inr.inl.true =>
    go_wp2_with (at_builtin; refine stop ?_)
    unfold Stop
    refine wpList_apb rfl rfl [hd] _ (o1.alloc _) (rd8 (heap_new _ _)) rfl rfl (by simp [be_length]) ?_
    intro v2 w2 h1 h2 h3
    have B2 : ∀ o, w2.cell? ⟨w.heap.size, o, none⟩ = _ := fun o => (h2.cellAt (g := w.heap.size) (by simp; omega) (fun x => by have := ofV_some x; omega) o).trans ((World.cell?_alloc_past _ _ _ hz0).trans (B0 o))
    have F2 := Lib.hid (show _ ∧ _ ∧ _ from ⟨h1, h2, h3⟩)
    clear h1 h2 h3
    go_wp2_with (at_builtin; refine stop ?_)
    go_ret
    obtain ⟨h1, h2, h3⟩ := F2.out
    refine ⟨_, rfl, ?_, (m1.alloc _).trans h2 (fun _ _ x => x) (fun i hi x => by have := (ofV_some x); omega), F.out _ _ _ (Nat.le_succ _) h3 (by simp; omega)⟩
    rw [hfin.out _ rfl, if_pos HM.out]
    simpa [kturn] using h1
  case inr.true | inr.inr.true =>
    go_wp2_with (at_builtin; refine stop ?_)
    unfold Stop
    refine wpList_apb rfl rfl [hd] _ (o1.alloc _) (rd8 (heap_new _ _)) rfl rfl (by simp [be_length]) ?_
    intro v2 w2 h1 h2 h3
    have B2 : ∀ o, w2.cell? ⟨w.heap.size, o, none⟩ = _ := fun o => (h2.cellAt (g := w.heap.size) (by simp; omega) (fun x => by have := ofV_some x; omega) o).trans ((World.cell?_alloc_past _ _ _ hz0).trans (B0 o))
    have F2 := Lib.hid (show _ ∧ _ ∧ _ from ⟨h1, h2, h3⟩)
    clear h1 h2 h3
    go_wp2_with (at_builtin; refine stop ?_)
    unfold Stop
    obtain ⟨h1, h2, h3⟩ := F2.out
    have hs2 := h2.size
    simp only [World.size_alloc] at hs2
    refine wpList_apb rfl rfl _ [md] (h1.alloc _) (own_at md _ (by simp)).rd rfl rfl (by simp [be_length]) ?_
    intro v3 w3 k1 k2 k3
    go_wp2
    go_ret
    have hv2 : freshIn w v2 := F.out _ _ _ (Nat.le_succ _) h3 (by simp; omega)
    refine ⟨_, rfl, ?_, (((m1.alloc _).trans h2 (U := noB) (fun _ _ x => x) (fun i hi x => by have := (ofV_some x); omega)).alloc _).trans k2 (fun _ _ x => x) (fun i hi x => by have := hv2 i x; omega), fun k hk => ?_⟩
    · rw [hfin.out _ rfl, if_neg HM.out]
      simpa [kturn] using k1
    · rcases k3 with k3 | k3
      · exact hv2 k (k3.symm.trans hk)
      · have := k3 k hk
        simp at this
        omega

end Go.Proofs.Ytdoeadoaffmgpaa

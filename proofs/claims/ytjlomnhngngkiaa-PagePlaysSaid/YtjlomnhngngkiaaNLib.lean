/- Slices of values that are one cell each, told by a function; slices of 64-bit numbers: read, owned, appended to, made. -/
import Derived.Test.YtjlomnhngngkiaaMake
namespace Go.Gl
open Go.RowKit

def RdM {α : Type} (f : α → Value) (w : World) (v : Value) (xs : List α) : Prop := RdG w 1 v xs.length (xs.map f)
def OwnM {α : Type} (e : TypeId) (f : α → Value) (w : World) (v : Value) (xs : List α) : Prop := OwnG w e 1 v xs.length (xs.map f)

theorem OwnM.rd {α : Type} {e : TypeId} {f : α → Value} {w : World} {v : Value} {xs : List α} (h : OwnM e f w v xs) : RdM f w v xs := OwnG.rd h
theorem RdM.nil {α : Type} (f : α → Value) (w : World) : RdM f w (.slice none 0 0) [] := ⟨rfl, .inl ⟨.nil, rfl⟩⟩
theorem OwnM.nil {α : Type} (e : TypeId) (f : α → Value) (w : World) : OwnM e f w (.slice none 0 0) [] := ⟨rfl, .inl ⟨rfl, rfl⟩⟩
theorem RdM.form {α : Type} {f : α → Value} {w : World} {v : Value} {xs : List α} (h : RdM f w v xs) : ∃ a cap, v = .slice a xs.length cap ∧ xs.length ≤ maxLen := RdG.form h
theorem RdM.keep {α : Type} {f : α → Value} {S : Nat → Prop} {w w' : World} {v : Value} {xs : List α} (h : RdM f w v xs) (hm : Mods S w w') (hs : ∀ k, v.ownBlock = some k → ¬ S k) : RdM f w' v xs := RdG.keep h hm hs
theorem OwnM.keep {α : Type} {e : TypeId} {f : α → Value} {S : Nat → Prop} {w w' : World} {v : Value} {xs : List α} (h : OwnM e f w v xs) (hm : Mods S w w') (hs : ∀ k, v.ownBlock = some k → ¬ S k) : OwnM e f w' v xs := OwnG.keep h hm hs
theorem RdM.ltn {α : Type} {f : α → Value} {w : World} {v : Value} {xs : List α} (h : RdM f w v xs) (hn : xs.length ≠ 0) : ∀ k, v.ownBlock = some k → k < w.heap.size := RdG.ltn h hn
theorem RdM.keepL {α : Type} {f : α → Value} {S : Nat → Prop} {w w' : World} {v : Value} {xs : List α} (h : RdM f w v xs) (hm : Mods S w w') (hs : ∀ k, k < w.heap.size → v.ownBlock = some k → ¬ S k) : RdM f w' v xs := RdG.keepL h hm hs
theorem OwnM.lt {α : Type} {e : TypeId} {f : α → Value} {w : World} {v : Value} {xs : List α} (h : OwnM e f w v xs) : ∀ k, v.ownBlock = some k → k < w.heap.size := OwnG.lt h

theorem RdM.open {α : Type} {f : α → Value} {w : World} {v : Value} {xs : List α} (h : RdM f w v xs) :
    (Nil0 v ∧ xs = []) ∨ ∃ g off cap, v = .slice (some ⟨g, off, none⟩) xs.length cap ∧ xs.length ≤ cap ∧ cap ≤ maxLen ∧ (xs.length = 0 ∨ g < w.heap.size) ∧ ∀ i (hi : i < xs.length), w.cell? ⟨g, off + i, none⟩ = some (f xs[i]) := by
  rcases h.2 with ⟨h0, hn⟩ | ⟨g, off, cap, hv, h1, h2, hg, h3⟩
  · exact .inl ⟨h0, List.eq_nil_of_length_eq_zero hn⟩
  · exact .inr ⟨g, off, cap, hv, h1, h2, hg, fun i hi => h3 i _ (by simp [hi])⟩

theorem rdM_of {α : Type} {f : α → Value} {w : World} {g off cap n : Nat} {xs : List α} (hn : xs.length = n) (h1 : n ≤ cap) (h2 : cap ≤ maxLen) (h3 : n = 0 ∨ g < w.heap.size) (h4 : ∀ i (hi : i < xs.length), w.cell? ⟨g, off + i, none⟩ = some (f xs[i])) : RdM f w (.slice (some ⟨g, off, none⟩) n cap) xs := by
  subst hn
  refine ⟨by simp, .inr ⟨g, off, cap, rfl, h1, h2, h3, fun j u hj => ?_⟩⟩
  have hj' : j < xs.length := by have := (List.getElem?_eq_some_iff.1 hj).1; simpa using this
  rw [List.getElem?_map, List.getElem?_eq_getElem hj'] at hj
  rw [h4 j hj']
  exact hj

theorem OwnM.open {α : Type} {e : TypeId} {f : α → Value} {w : World} {v : Value} {xs : List α} (h : OwnM e f w v xs) :
    (v = .slice none 0 0 ∧ xs = []) ∨ ∃ g off cap cur, v = .slice (some ⟨g, off, none⟩) xs.length cap ∧ w.heap[g]? = some (.cells cur e (0, 0)) ∧ xs.length ≤ cap ∧ cap ≤ maxLen ∧ off + cap ≤ cur.size ∧ ∀ i (hi : i < xs.length), cur[off + i]? = some (f xs[i]) := by
  rcases h.2 with ⟨rfl, hn⟩ | ⟨g, off, cap, cur, hv, h1, h2, h3, h4, h5⟩
  · exact .inl ⟨rfl, List.eq_nil_of_length_eq_zero hn⟩
  · exact .inr ⟨g, off, cap, cur, hv, h1, h2, h3, by omega, fun i hi => h5 i _ (by simp [hi])⟩

theorem ownM_of {α : Type} {e : TypeId} {f : α → Value} {w : World} {g off cap n : Nat} {cur : Array Value} {xs : List α} (hn : xs.length = n) (h1 : w.heap[g]? = some (.cells cur e (0, 0))) (h2 : n ≤ cap) (h3 : cap ≤ maxLen) (h4 : off + cap ≤ cur.size)
    (h5 : ∀ i (hi : i < xs.length), cur[off + i]? = some (f xs[i])) : OwnM e f w (.slice (some ⟨g, off, none⟩) n cap) xs := by
  subst hn
  refine ⟨by simp, .inr ⟨g, off, cap, cur, rfl, h1, h2, h3, by omega, fun j u hj => ?_⟩⟩
  have hj' : j < xs.length := by have := (List.getElem?_eq_some_iff.1 hj).1; simpa using this
  rw [List.getElem?_map, List.getElem?_eq_getElem hj'] at hj
  rw [h5 j hj']
  exact hj

/-- One element of an owned slice is written. -/
theorem ownM_set {α : Type} {e : TypeId} {f : α → Value} {w : World} {g off cap n : Nat} {xs : List α} (h : OwnM e f w (.slice (some ⟨g, off, none⟩) n cap) xs) (hn : xs.length = n) (k : Nat) (hk : k < n) (x : α) :
    OwnM e f (w.setCell ⟨g, off + k, none⟩ (f x)) (.slice (some ⟨g, off, none⟩) n cap) (xs.set k x) := by
  rcases h.open with ⟨h1, _⟩ | ⟨g', off', cap', cur, h1, h2, h3, h4, h5, h6⟩
  · cases h1
  · cases h1
    refine ownM_of (by simp) (heap_set h2 (off + k) (f x)) (by omega) h4 (by simpa using h5) (fun i hi => ?_)
    rw [List.length_set] at hi
    by_cases hik : k = i
    · subst hik
      simp only [List.getElem_set_self]
      rw [Array.getElem?_setIfInBounds_self_of_lt (by omega)]
    · rw [List.getElem_set_ne hik, Array.getElem?_setIfInBounds_ne (by omega)]
      exact h6 i hi

/-- 64-bit numbers as values. -/
abbrev u64 (n : Nat) : Value := .int .u64 n
abbrev RN (w : World) (v : Value) (ls : List Nat) : Prop := RdM u64 w v ls
abbrev ON (e : TypeId) (w : World) (v : Value) (ls : List Nat) : Prop := OwnM e u64 w v ls
/-- each of them fits into 64 bits -/
def Lim (ls : List Nat) : Prop := ∀ x ∈ ls, x ≤ 18446744073709551615

end Go.Gl
namespace Go.Proofs.Ytjlomnhngngkiaa
open Go.Gl Go.RowKit
set_option linter.unusedVariables false


theorem u64_one (xs : List Nat) : ∀ u ∈ xs.map u64, u.oneCell' = true := by
  intro u hu
  obtain ⟨b, _, rfl⟩ := List.mem_map.1 hu
  rfl




end Go.Proofs.Ytjlomnhngngkiaa

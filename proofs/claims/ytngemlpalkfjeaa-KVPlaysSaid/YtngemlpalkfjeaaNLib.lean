/- Slices of values that are one cell each, told by a function; slices of 64-bit numbers: read, owned, appended to, made. -/
import Derived.Test.YtngemlpalkfjeaaMake
namespace Go.Gl
open Go.RowKit
def RdM {α : Type} (f : α → Value) (w : World) (v : Value) (xs : List α) : Prop := RdG w 1 v xs.length (xs.map f)
theorem RdM.nil {α : Type} (f : α → Value) (w : World) : RdM f w (.slice none 0 0) [] := ⟨rfl, .inl ⟨.nil, rfl⟩⟩
theorem RdM.form {α : Type} {f : α → Value} {w : World} {v : Value} {xs : List α} (h : RdM f w v xs) : ∃ a cap, v = .slice a xs.length cap ∧ xs.length ≤ maxLen := RdG.form h
theorem RdM.keep {α : Type} {f : α → Value} {S : Nat → Prop} {w w' : World} {v : Value} {xs : List α} (h : RdM f w v xs) (hm : Mods S w w') (hs : ∀ k, v.ownBlock = some k → ¬ S k) : RdM f w' v xs := RdG.keep h hm hs
theorem RdM.ltn {α : Type} {f : α → Value} {w : World} {v : Value} {xs : List α} (h : RdM f w v xs) (hn : xs.length ≠ 0) : ∀ k, v.ownBlock = some k → k < w.heap.size := RdG.ltn h hn
theorem RdM.keepL {α : Type} {f : α → Value} {S : Nat → Prop} {w w' : World} {v : Value} {xs : List α} (h : RdM f w v xs) (hm : Mods S w w') (hs : ∀ k, k < w.heap.size → v.ownBlock = some k → ¬ S k) : RdM f w' v xs := RdG.keepL h hm hs
theorem RdM.open {α : Type} {f : α → Value} {w : World} {v : Value} {xs : List α} (h : RdM f w v xs) :
    (Nil0 v ∧ xs = []) ∨ ∃ g off cap, v = .slice (some ⟨g, off, none⟩) xs.length cap ∧ xs.length ≤ cap ∧ cap ≤ maxLen ∧ (xs.length = 0 ∨ g < w.heap.size) ∧ ∀ i (hi : i < xs.length), w.cell? ⟨g, off + i, none⟩ = some (f xs[i]) := by
  rcases h.2 with ⟨h0, hn⟩ | ⟨g, off, cap, hv, h1, h2, hg, h3⟩
  · exact .inl ⟨h0, List.eq_nil_of_length_eq_zero hn⟩
  · exact .inr ⟨g, off, cap, hv, h1, h2, hg, fun i hi => h3 i _ (by simp [hi])⟩
theorem rdM_of {α : Type} {f : α → Value} {w : World} {g off cap n : Nat} {xs : List α} (hn : xs.length = n) (h1 : n ≤ cap) (h2 : cap ≤ maxLen) (h3 : n = 0 ∨ g < w.heap.size) (h4 : ∀ i (hi : i < xs.length), w.cell? ⟨g, off + i, none⟩ = some (f xs[i])) : RdM f w (.slice (some ⟨g, off, none⟩) n cap) xs := by
  subst hn
  refine ⟨by simp, .inr ⟨g, off, cap, rfl, h1, h2, h3, fun j u hj => ?_⟩⟩
  have hj' : j < xs.length := by have := (List.getElem?_eq_some_iff.1 hj).1; simpa using this
  rw [List.getElem?_map, List.getElem?_eq_getElem hj'] at hj
  rw [h4 j hj']
  exact hj
abbrev u64 (n : Nat) : Value := .int .u64 n
abbrev RN (w : World) (v : Value) (ls : List Nat) : Prop := RdM u64 w v ls
end Go.Gl
namespace Go.Proofs.Ytngemlpalkfjeaa
open Go.Gl Go.RowKit
set_option linter.unusedVariables false
end Go.Proofs.Ytngemlpalkfjeaa

/- Arguments of a law, opened: a byte slice that came in. -/
import Derived.Test.YtngemlpalkfjeaaZA
import Derived.ProofKit
import Derived.ChangeOld
namespace Go.Proofs.Ytngemlpalkfjeaa
open Go.Gl Go.RowKit Go.ChangeShapes Go.WideShapes Go.ChangeAt
set_option linter.unusedVariables false
set_option maxRecDepth 100000
theorem lt_of_shape {w : World} {r : Nat} {x : TypeId × Nat} (h : w.shape? r = some x) : r < w.heap.size := by
  rcases Nat.lt_or_ge r w.heap.size with hlt | hge
  · exact hlt
  · simp [World.shape?, Array.getElem?_eq_none hge] at h
theorem rd_of_arg {H : Type} {enc : TypeId × Value → H} {W : World} {base : Nat} {a : Option Addr} {len cap : Nat} {d : DataW H} {p : List MemPlace} (hv : Value.okWide Try.prog W .any base 32 (.slice a len cap)) (h : DataW.Trod enc Try.prog W 0 (fun _ => true) true 32 (.slice a len cap) d p) : ∃ xs, Rd W (.slice a len cap) xs := by
  obtain ⟨fuel, hf⟩ := h
  rcases open_ints Try.underlying32 Try.underlying5 (by kernel_rfl) hf with ⟨hcs, _⟩ | ⟨x, l, c, zs, hcs, _, hl, hm, hz, hx, hcell, hwz⟩
  · simp [Value.cells] at hcs
    obtain ⟨rfl, rfl, rfl⟩ := hcs
    exact ⟨[], Rd.nil _⟩
  · simp [Value.cells] at hcs
    obtain ⟨rfl, rfl, rfl⟩ := hcs
    simp only [Value.okWide, Try.underlying32, Cell.okWide, Cell.ok] at hv
    obtain ⟨_, _, _, hsp, row, cells, hsh, _⟩ := hv
    have hz' : zs.length = cap := by simpa using hz
    obtain ⟨g, off, sp⟩ := x
    simp only at hsp
    subst hsp
    have hlen : ((zs.take len).map fun n => UInt8.ofNat n.toNat).length = len := by simp; omega
    refine ⟨(zs.take len).map fun n => UInt8.ofNat n.toNat, by rw [bv_length, Nat.mul_one], .inr ⟨g, off, cap, by rw [hlen], by rw [hlen]; exact hl, hm, .inr (lt_of_shape hsh), fun j u hj => ?_⟩⟩
    have hj' : j < len := by have := (List.getElem?_eq_some_iff.1 hj).1; rw [bv_length, hlen] at this; exact this
    rw [bv_get _ j (by rw [hlen]; exact hj')] at hj
    have hc := hcell j (by omega)
    rw [show (⟨g, off, none⟩ : Addr).add j = ⟨g, off + j, none⟩ from Addr.add_lit ..] at hc
    rw [hc, ← hj]
    have hjz : j < zs.length := by omega
    have hw := bounds_u8 (hwz zs[j] (List.getElem_mem hjz))
    simp only [List.getD, List.getElem?_eq_getElem hjz, Option.getD_some, List.getElem_map, List.getElem_take, UInt8.toNat_ofNat']
    exact congrArg (fun n => some (Value.int .u8 n)) (by omega)
theorem laidOut : laidOutB Try.prog = true := by kernel_rfl
theorem own : ownKnob Try.prog.godebug = none := by kernel_rfl
end Go.Proofs.Ytngemlpalkfjeaa

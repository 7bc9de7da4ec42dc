/- enc.Writer's Nat and Dec. -/
import Derived.Test.YtnkbbclcileleaaZA
import Derived.Test.YtnkbbclcileleaaNBytes
namespace Go.Proofs.Ytnkbbclcileleaa
open Go.Gl Go.RowKit
set_option linter.unusedVariables false
set_option maxRecDepth 100000

/-- Nat's bytes -/
def natL (N : Nat) : List UInt8 := be 1 (blen N) ++ natB N
/-- what a writer's Nat lays, and its error behind it -/
def wnatX (e : Int) (xs : List UInt8) (N : Nat) : List UInt8 := if blen N ≤ 255 then wput e xs (natL N) else xs
def wnatE (e : Int) (N : Nat) : Int := if blen N ≤ 255 then e else wfail e 42

theorem natB_length (N : Nat) : (natB N).length = blen N := be_length _ _

theorem Wr.then0 {w wy : World} {g : Nat} {v : Value} {xs : List UInt8} {e : Int} (h : Wr w g v xs e) (hm : Mods noB w wy) : Wr wy g v xs e :=
  ⟨hm.heap h.heap (fun x => x), h.own.keep hm (fun _ _ x => x), h.apart⟩

theorem WNat_any {w : World} {g : Nat} {v u : Value} {xs : List UInt8} {e : Int} {ls : List Nat} (h : Wr w g v xs e) (hu : RN w u ls) (hL : Lim ls) (hl : ls.length ≤ 1000000) (hx : xs.length ≤ 10000000000000) :
    Calls Try.prog 86 #[.pointer (some ⟨g, 0, none⟩), u] w (WRes w g v (wnatX e xs (dval 18446744073709551616 ls)) (wnatE e (dval 18446744073709551616 ls))) := by
  have HB := Lib.hid (NBytes_any hu hL (by omega))
  have H := Lib.hid h
  have hg := h.lt
  have hv := h.own.lt
  generalize dval 18446744073709551616 ls = N at *
  clear h hu hL
  go_enter Try.func86, Try.ntmps86
  go_wp2_with fail
  refine HB.out.mono ?_
  rintro r w1 ⟨b, rfl, ho, hm, hf⟩
  obtain ⟨a, c, rfl, hlm⟩ := ho.rd.form
  rw [natB_length] at *
  have HO := Lib.hid ho
  have HM := Lib.hid hm
  have HW := Lib.hid (H.out.then0 hm)
  have HF := Lib.hid hf
  have HV := Lib.hid hv
  unfold maxLen at hlm
  clear ho hm hf hv HB
  by_cases hb : blen N ≤ 255
  · have e1 : wnatX e xs N = wput e xs (natL N) := if_pos hb
    have e2 : wnatE e N = e := if_pos hb
    have E1 := Lib.hid e1
    have E2 := Lib.hid e2
    have HNL := Lib.hid (show natL N = be 1 (blen N) ++ natB N from rfl)
    have HLN := Lib.hid (natB_length N)
    generalize natL N = nl at *
    generalize natB N = nb at *
    generalize blen N = k at *
    clear e1 e2
    go_wp2_with fail
    refine (WU8_any k HW.out hb (by omega)).mono ?_
    rintro r w2 ⟨rfl, v2, h2⟩
    have HO2 := Lib.hid (HO.out.rd.keep h2.mods (fun i hi x => by
      have h5 := HF.out i hi
      rcases x with x | x
      · omega
      · have := HV.out i x; omega))
    have H2 := Lib.hid h2
    clear h2
    go_wp2_with fail
    refine (wall_any H2.out.wr HO2.out (by have := wput_le e xs (be 1 k); rw [be_length] at this; have := HLN.out; omega)).mono ?_
    rintro r w3 ⟨rfl, v3, h3⟩
    have H3 := Lib.hid (H2.out.trans h3)
    clear h3
    go_wp2_with fail
    go_end0
    refine ⟨rfl, v3, ?_⟩
    rw [E1.out, E2.out]
    have h4 := H3.out.from HM.out
    rw [wput_append, ← HNL.out] at h4
    exact h4
  · have e1 : wnatX e xs N = xs := if_neg hb
    have e2 : wnatE e N = wfail e 42 := if_neg hb
    have E1 := Lib.hid e1
    have E2 := Lib.hid e2
    generalize blen N = k at *
    clear e1 e2
    go_wp2_with fail
    refine (wfails_any 42 HW.out).mono ?_
    rintro r w2 ⟨rfl, v2, h2⟩
    have H2 := Lib.hid (h2.from HM.out)
    clear h2
    go_wp2_with fail
    go_end0
    rw [E1.out, E2.out]
    exact ⟨rfl, v2, H2.out⟩

theorem WDec_any {w : World} {g : Nat} {v u : Value} {xs : List UInt8} {e : Int} {ls : List Nat} (h : Wr w g v xs e) (hu : RN w u ls) (hL : Lim ls) (hl : ls.length ≤ 1000000) (hx : xs.length ≤ 10000000000000) :
    Calls Try.prog 77 #[.pointer (some ⟨g, 0, none⟩), .agg #[u]] w (WRes w g v (wnatX e xs (dval 18446744073709551616 ls)) (wnatE e (dval 18446744073709551616 ls))) := by
  obtain ⟨a, c, rfl, _⟩ := RdM.form hu
  have H := Lib.hid h
  have HU := Lib.hid hu
  have HL := Lib.hid hL
  clear h hu hL
  go_enter Try.func77, Try.ntmps77
  go_wp2_with fail
  refine (WNat_any (H.out.alloc _) (HU.out.keep ((Mods.refl noB w).alloc _) (fun _ _ x => x)) HL.out hl hx).mono ?_
  rintro r w1 ⟨rfl, v1, h1⟩
  have H1 := Lib.hid (h1.from ((Mods.refl noB w).alloc _))
  clear h1
  go_wp2_with fail
  go_end0
  exact ⟨rfl, v1, H1.out⟩

end Go.Proofs.Ytnkbbclcileleaa

/- page.Map.Walk: the iterator made. -/
import Derived.Test.YtngemlpalkfjeaaPgT
import Derived.Deep.DeepCutAuto
namespace Go.Proofs.Ytngemlpalkfjeaa
open Go.Gl Go.RowKit
set_option linter.unusedVariables false
set_option maxRecDepth 100000
def WkRes (w : World) (g : Nat) (vo : Value) (R : List PV) (xs ts : List UInt8) (m bf bt : Nat) (fv tv : Value) (w' : World) : Prop :=
  WkPre w' g vo R m bf bt fv tv xs ts ∧ Mods noB w w' ∧ w.heap.size ≤ m ∧ w.heap.size ≤ bf ∧ w.heap.size ≤ bt ∧ freshIn w fv ∧ freshIn w tv
set_option maxHeartbeats 1000000 in
theorem Walk_any {w : World} {g : Nat} {vo fv tv : Value} {R : List PV} {xs ts : List UInt8} (hm : PM w g vo R) (hf : Rd w fv xs) (ht : Rd w tv ts) (lx : xs.length ≤ 1000000) (lt : ts.length ≤ 1000000) :
    Calls Try.prog 43 #[.pointer (some ⟨g, 0, none⟩), fv, tv] w fun e w' => ∃ m bf bt fv' tv', e = .returned (.func (.func 60) #[] #[.pointer (some ⟨m, 0, none⟩), .pointer (some ⟨bf, 0, none⟩), .pointer (some ⟨bt, 0, none⟩)]) ∧ WkRes w g vo R xs ts m bf bt fv' tv' w' := by
  obtain ⟨a1, c1, rfl, _⟩ := hf.form
  obtain ⟨a2, c2, rfl, _⟩ := ht.form
  have HM := Lib.hid hm
  have HF := Lib.hid hf
  have HT := Lib.hid ht
  have hgl := lt_of_heap hm.hg
  clear hm hf ht
  go_enter Try.func43, Try.ntmps43
  go_upto_region 1 with fail
  have h1 := heap_new w (.cells #[.pointer (some ⟨g, 0, none⟩)] 58)
  have h2 := heap_new (w.alloc (.cells #[.pointer (some ⟨g, 0, none⟩)] 58)) (.cells #[.slice a1 xs.length c1] 32)
  have h3 := heap_new ((w.alloc (.cells #[.pointer (some ⟨g, 0, none⟩)] 58)).alloc (.cells #[.slice a1 xs.length c1] 32)) (.cells #[.slice a2 ts.length c2] 32)
  have h1' := heap_old (heap_old h1 (.cells #[.slice a1 xs.length c1] 32)) (.cells #[.slice a2 ts.length c2] 32)
  have h2' := heap_old h2 (.cells #[.slice a2 ts.length c2] 32)
  have m1 := (((Mods.refl noB w).alloc (.cells #[.pointer (some ⟨g, 0, none⟩)] 58)).alloc (.cells #[.slice a1 xs.length c1] 32)).alloc (.cells #[.slice a2 ts.length c2] 32)
  simp only [World.size_alloc] at h2 h3 h1' h2'
  generalize World.alloc (World.alloc (World.alloc w _) _) _ = w1 at *
  refine wp_tl (d := .region 1 (opsC 1 Try.f43) true) (by kernel_rfl) ?_
  refine RW.wp (wkOwn h2' h3 (by omega) (HF.out.keep m1 (fun _ _ x => x)) (HT.out.keep m1 (fun _ _ x => x)) (by omega) (by omega) ?_)
  intros
  rename_i d1 d2 w2 e1 e2 o1 o2 f1 f2 m2
  have hs1 : w.heap.size ≤ w1.heap.size := m1.size
  have hw1 : w.heap.size + 2 < w1.heap.size := lt_of_heap h3
  have pm : PM w2 g vo R := (HM.out.keep0 m1).keep m2 (fun k hk e => by have := HM.out.lt k hk; omega) (fun k hk e => by have := HM.out.dlt k hk; omega)
  have hm3 := m2.heap h1' (fun e => by omega)
  have m12 : Mods noB w w2 := m1.trans m2 (fun _ _ x => x) (fun i hi e => by omega)
  have RES := Lib.hid (show WkRes w g vo R xs ts w.heap.size (w.heap.size + 1) (w.heap.size + 1 + 1) d1 d2 w2 from ⟨⟨⟨pm, ⟨_, hm3⟩, ⟨_, e1⟩, o1⟩, ⟨_, e2⟩, o2⟩, m12, Nat.le_refl _, by omega, by omega, f1.of hs1, f2.of hs1⟩)
  clear h1 h2 h3 h1' h2' m1 m2 e1 e2 o1 o2 f1 f2 pm hm3 m12
  go_wp2
  go_ret
  exact ⟨_, _, _, _, _, rfl, RES.out⟩
end Go.Proofs.Ytngemlpalkfjeaa

/- gleanlaw8.known: the chapter's examples hold. -/
import Derived.Test.YtnkbbclcileleaaRqCut
import Derived.Test.YtnkbbclcileleaaRqAccount
import Derived.Test.YtnkbbclcileleaaRqVal
import Derived.Test.YtnkbbclcileleaaRqHistory
import Derived.Test.YtnkbbclcileleaaRqNumber
import Derived.Test.YtnkbbclcileleaaRqPool
import Derived.Test.YtnkbbclcileleaaRHlp
import Derived.Test.YtnkbbclcileleaaEKnown2
namespace Go.Proofs.Ytnkbbclcileleaa
open Go.Gl Go.RowKit
set_option linter.unusedVariables false
set_option maxRecDepth 100000

/-- blocks that stand while only new memory is made -/
structure GB (w : World) (bs : List (Nat × Obj)) (wx : World) : Prop where
  blk : ∀ p ∈ bs, wx.heap[p.1]? = some p.2
  mods : Mods noB w wx
theorem GB.step {w wx wy : World} {bs : List (Nat × Obj)} (h : GB w bs wx) (hm : Mods noB wx wy) : GB w bs wy := ⟨fun p hp => blk_step hm (h.blk p hp), h.mods.then0 hm⟩
theorem GB.push {w wx : World} {bs : List (Nat × Obj)} (h : GB w bs wx) (o : Obj) : GB w ((wx.heap.size, o) :: bs) (wx.alloc o) :=
  ⟨fun p hp => by
    rcases List.mem_cons.1 hp with rfl | hp
    · exact heap_new _ _
    · exact heap_old (h.blk p hp) o, h.mods.alloc o⟩
theorem GB.app {w w3 w4 w5 : World} {bs : List (Nat × Obj)} {v : Value} (h : GB w bs w3) (hf : freshIn w3 v) (m : Mods noB w3 w4) (k : Mods (ofV v) w4 w5) : GB w bs w5 :=
  ⟨fun p hp => k.heap (blk_step m (h.blk p hp)) (fun x => by have := hf _ x; have := lt_of_heap (h.blk p hp); omega), (h.mods.then0 m).trans k (fun _ _ x => x) (fun i hi x => by have := hf _ x; have := h.mods.size; omega)⟩
theorem GB.get {w wx : World} {bs : List (Nat × Obj)} (h : GB w bs wx) (i : Nat) {p : Nat × Obj} (hi : bs[i]? = some p) : wx.heap[p.1]? = some p.2 := h.blk p (List.mem_of_getElem? hi)
theorem GB.start (w : World) : GB w [] w := ⟨fun p hp => (by cases hp), Mods.refl _ _⟩

theorem okN {n : Nat} (h : n ≤ 18446744073709551615) : Fld.Ok ⟨0, n, []⟩ := ⟨by simp, h, fun x => by simp at x, fun x hx => by cases hx⟩
theorem okB (b : Bool) : Fld.Ok ⟨1, if b then 1 else 0, []⟩ := ⟨by simp, by simp only; split <;> omega, fun _ => by simp only; split <;> omega, fun x hx => by cases hx⟩
theorem okD {l : List Nat} (h : Lim l) : Fld.Ok ⟨2, 0, l⟩ := ⟨by simp, by simp, fun x => by simp at x, h⟩
theorem ok0 : ∀ f ∈ ([] : List Fld), f.Ok := fun f hf => by cases hf
theorem okC {f : Fld} {fs : List Fld} (h : f.Ok) (k : ∀ g ∈ fs, g.Ok) : ∀ g ∈ f :: fs, g.Ok := fun g hg => by
  rcases List.mem_cons.1 hg with rfl | hg
  · exact h
  · exact k g hg

theorem lim7 : Lim [7] := fun x hx => by simp at hx; omega
theorem norm7 : Fld.norm ⟨2, 0, [7]⟩ = ⟨2, 0, [7]⟩ := by
  have : dig 18446744073709551616 (shortN (dval 18446744073709551616 [7])) = [7] := by decide +kernel
  simp only [Fld.norm, Fld.N, this]
  rfl
theorem norm0 : Fld.norm ⟨2, 0, []⟩ = ⟨2, 0, []⟩ := by
  have : dig 18446744073709551616 (shortN (dval 18446744073709551616 [])) = [] := by decide +kernel
  simp only [Fld.norm, Fld.N, this]
  rfl
theorem normN (n : Nat) : Fld.norm ⟨0, n, []⟩ = ⟨0, n, []⟩ := rfl
theorem normB (n : Nat) : Fld.norm ⟨1, n, []⟩ = ⟨1, n, []⟩ := rfl

theorem k_cut {n0 n1 e : Nat} (h : recGet [0, 0] (recLay [⟨0, 3, []⟩, ⟨0, 2, []⟩]) = ([⟨0, n0, []⟩, ⟨0, n1, []⟩], e)) : n0 = 3 ∧ n1 = 2 ∧ e = 0 := by
  have hb := recGet_back (ks := [0, 0]) [⟨0, 3, []⟩, ⟨0, 2, []⟩] (okC (okN (by omega)) (okC (okN (by omega)) ok0)) rfl
  rw [hb] at h
  clear hb
  simp [normN] at h
  omega
theorem k_acc {n0 n1 e : Nat} (h : recGet [0, 0] (recLay [⟨0, 1, []⟩, ⟨0, 0, []⟩] ++ [0]) = ([⟨0, n0, []⟩, ⟨0, n1, []⟩], e)) : e = 80 := by
  have hb := rdAll_back [⟨0, 1, []⟩, ⟨0, 0, []⟩] (okC (okN (by omega)) (okC (okN (by omega)) ok0)) [0]
  have hc := recGet_no (ks := [0, 0]) (s := ([0], 0)) hb (by simp)
  rw [hc] at h
  exact (Prod.mk.inj h).2.symm
theorem k_val {n0 n1 n4 n6 e : Nat} {b3 b5 : Bool} {l2 l7 l8 l9 : List Nat} (h : recGet [0, 0, 2, 1, 0, 1, 0, 2, 2, 2] (recLay [⟨0, 5, []⟩, ⟨0, 6, []⟩, ⟨2, 0, [7]⟩, ⟨1, if true then 1 else 0, []⟩, ⟨0, 8, []⟩, ⟨1, if true then 1 else 0, []⟩, ⟨0, 9, []⟩, ⟨2, 0, []⟩, ⟨2, 0, [7]⟩, ⟨2, 0, []⟩]) = ([⟨0, n0, []⟩, ⟨0, n1, []⟩, ⟨2, 0, l2⟩, ⟨1, if b3 then 1 else 0, []⟩, ⟨0, n4, []⟩, ⟨1, if b5 then 1 else 0, []⟩, ⟨0, n6, []⟩, ⟨2, 0, l7⟩, ⟨2, 0, l8⟩, ⟨2, 0, l9⟩], e)) :
    n0 = 5 ∧ n1 = 6 ∧ l2 = [7] ∧ b3 = true ∧ n4 = 8 ∧ b5 = true ∧ n6 = 9 ∧ l7 = [] ∧ l8 = [7] ∧ l9 = [] ∧ e = 0 := by
  have hb := recGet_back (ks := [0, 0, 2, 1, 0, 1, 0, 2, 2, 2]) [⟨0, 5, []⟩, ⟨0, 6, []⟩, ⟨2, 0, [7]⟩, ⟨1, if true then 1 else 0, []⟩, ⟨0, 8, []⟩, ⟨1, if true then 1 else 0, []⟩, ⟨0, 9, []⟩, ⟨2, 0, []⟩, ⟨2, 0, [7]⟩, ⟨2, 0, []⟩] (okC (okN (by omega)) (okC (okN (by omega)) (okC (okD lim7) (okC (okB true) (okC (okN (by omega)) (okC (okB true) (okC (okN (by omega)) (okC (okD limN) (okC (okD lim7) (okC (okD limN) ok0)))))))))) rfl
  rw [hb] at h
  clear hb
  simp only [List.map_cons, List.map_nil, normN, normB, norm7, norm0] at h
  cases b3 <;> cases b5 <;> simp at h ⊢
  obtain ⟨⟨h1, h2, h3, h4, h5, h6, h7, h8⟩, h9⟩ := h
  exact ⟨h1.symm, h2.symm, h3.symm, h4.symm, h5.symm, h6, h7.symm, h8, h9.symm⟩
theorem k_his {n1 e : Nat} {l0 : List Nat} (h : recGet [2, 0] (recLay [⟨2, 0, [7]⟩, ⟨0, 4, []⟩]) = ([⟨2, 0, l0⟩, ⟨0, n1, []⟩], e)) : l0 = [7] ∧ n1 = 4 ∧ e = 0 := by
  have hb := recGet_back (ks := [2, 0]) [⟨2, 0, [7]⟩, ⟨0, 4, []⟩] (okC (okD lim7) (okC (okN (by omega)) ok0)) rfl
  rw [hb] at h
  clear hb
  simp only [List.map_cons, List.map_nil, normN, norm7] at h
  simp at h
  obtain ⟨⟨h1, h2⟩, h3⟩ := h
  exact ⟨h1.symm, h2.symm, h3.symm⟩
theorem k_num {n0 e : Nat} (h : recGet [0] (recLay [⟨0, 77, []⟩]) = ([⟨0, n0, []⟩], e)) : n0 = 77 ∧ e = 0 := by
  have hb := recGet_back (ks := [0]) [⟨0, 77, []⟩] (okC (okN (by omega)) ok0) rfl
  rw [hb] at h
  clear hb
  simp [normN] at h
  omega
theorem k_lay : recLay [⟨0, 3, []⟩, ⟨0, 2, []⟩] = [0, 0, 0, 0, 0, 0, 0, 3, 0, 0, 0, 0, 0, 0, 0, 2] := by decide +kernel
theorem k_lay0 : recLay [⟨2, 0, []⟩] = [0] := by decide +kernel

set_option maxHeartbeats 4000000 in
theorem rknown_any (w : World) : Calls Try.prog 4 #[] w (TrueM w) := by
  go_enter Try.func4, Try.ntmps4
  go_wp2_with fail
  refine (cut_put (n0 := 3) (n1 := 2) (limC (by omega) (limC (by omega) limN))).mono ?_
  rintro r w1 ⟨v1, rfl, o1, m1, f1⟩
  go_wp2_with fail
  refine (cut_get o1.rd (Nat.le_trans (recLay_len _) (by simp))).mono ?_
  rintro r w2 ⟨n0, n1, e1, rfl, hg, m2⟩
  obtain ⟨rfl, rfl, rfl⟩ := k_cut hg
  have G := Lib.hid (((GB.start w).step (m1.then0 m2)).push (.cells #[.int .u64 3, .int .u64 2] 40))
  clear hg o1 m1 f1 m2
  go_wp2_with fail
  generalize World.alloc w2 _ = w3 at *
  refine (account_put (n0 := 1) (n1 := 0) (limC (by omega) (limC (by omega) limN))).mono ?_
  rintro r w4 ⟨v1, rfl, o1, m1, f1⟩
  obtain ⟨ua, uc, rfl, _⟩ := o1.rd.form
  have O := Lib.hid o1
  have M := Lib.hid (And.intro m1 f1)
  clear o1 m1 f1
  go_wp2_with (at_builtin; refine stop ?_)
  unfold Stop
  refine wpList_apb rfl rfl (recLay [⟨0, 1, []⟩, ⟨0, 0, []⟩]) [0] (O.out.alloc _) (own_at 0 _ rfl).rd rfl rfl (by simp [recLay, lay_n, be_length]) ?_
  intro v2 w5 k1 k2 k3
  replace G := Lib.hid (G.out.app M.out.2 (M.out.1.alloc _) k2)
  have O2 := Lib.hid k1
  clear O k1 k2 k3 M
  go_wp2_with fail
  refine (account_get O2.out.rd (by simp [recLay, lay_n, be_length])).mono ?_
  rintro r w6 ⟨n0, n1, e1, rfl, hg, m2⟩
  obtain rfl := k_acc hg
  replace G := Lib.hid ((G.out.step m2).push (.cells #[.int .u64 n0, .int .u64 n1] 32))
  clear hg m2 O2
  go_wp2_with fail
  have L7 := Lib.hid (show RN (((w6.alloc (.cells #[.int .u64 n0, .int .u64 n1] 32)).alloc (.cells #[.int .u64 7] 22)).alloc (.cells #[.slice (some ⟨w6.heap.size + 1, 0, none⟩) 1 1] 30)) (.slice (some ⟨w6.heap.size + 1, 0, none⟩) 1 1) [7] from (onlit 7 _ (by simp)).keep ((Mods.refl noB _).alloc _) (fun _ _ x => x))
  have hbs : ((w6.alloc (.cells #[.int .u64 n0, .int .u64 n1] 32)).alloc (.cells #[.int .u64 7] 22)).heap.size = w6.heap.size + 1 + 1 := by simp
  replace G := Lib.hid ((G.out.push (.cells #[.int .u64 7] 22)).push (.cells #[.slice (some ⟨w6.heap.size + 1, 0, none⟩) 1 1] 30))
  rw [hbs] at G
  clear hbs
  generalize World.alloc (World.alloc (World.alloc w6 _) _) _ = w7 at *
  refine (val_put (n0 := 5) (n1 := 6) (b3 := true) (n4 := 8) (b5 := true) (n6 := 9) (l2 := [7]) (l7 := []) (l8 := [7]) (l9 := []) (limC (by omega) (limC (by omega) (limC (by omega) (limC (by omega) limN)))) ⟨L7.out, lim7, by simp⟩ ⟨RdM.nil _ _, limN, by simp⟩ ⟨L7.out, lim7, by simp⟩ ⟨RdM.nil _ _, limN, by simp⟩).mono ?_
  rintro r w8 ⟨v1, rfl, o1, m1, f1⟩
  have d5 := cells_of ((G.out.step m1).get 0 rfl)
  go_wp2_with fail
  refine (val_get o1.rd (Nat.le_trans (recLay_len _) (by simp))).mono ?_
  rintro r w9 ⟨n0', n1', n4, n6, b3, b5, u2, u7, u8, u9, l2, l7, l8, l9, e2, rfl, hg, m2, ⟨h2, _⟩, ⟨h7, _⟩, ⟨h8, _⟩, ⟨h9, _⟩⟩
  obtain ⟨rfl, rfl, rfl, rfl, rfl, rfl, rfl, rfl, rfl, rfl, rfl⟩ := k_val hg
  obtain ⟨a2, c2, rfl, _⟩ := h2.form
  obtain ⟨a7, c7, rfl, _⟩ := h7.form
  obtain ⟨a8, c8, rfl, _⟩ := h8.form
  obtain ⟨a9, c9, rfl, _⟩ := h9.form
  replace L7 := Lib.hid (L7.out.keep (m1.then0 m2) (fun _ _ x => x))
  replace G := Lib.hid (G.out.step (m1.then0 m2))
  have HV := Lib.hid (And.intro h2 (And.intro h7 (And.intro h8 h9)))
  clear hg o1 f1 m1 m2 d5 h2 h7 h8 h9
  replace G := Lib.hid (G.out.push (.cells #[.int .u64 5, .int .u64 6, .slice a2 1 c2, .bool true, .int .u64 8, .bool true, .int .u64 9, .slice a7 0 c7, .slice a8 1 c8, .slice a9 0 c9] 34))
  have d5 := cells_of (G.out.get 1 rfl)
  replace L7 := Lib.hid (L7.out.keep ((Mods.refl noB _).alloc (.cells #[.int .u64 5, .int .u64 6, .slice a2 1 c2, .bool true, .int .u64 8, .bool true, .int .u64 9, .slice a7 0 c7, .slice a8 1 c8, .slice a9 0 c9] 34)) (fun _ _ x => x))
  replace HV := Lib.hid (show RN (w9.alloc (.cells #[.int .u64 5, .int .u64 6, .slice a2 1 c2, .bool true, .int .u64 8, .bool true, .int .u64 9, .slice a7 0 c7, .slice a8 1 c8, .slice a9 0 c9] 34)) (.slice a2 1 c2) [7] ∧ RN (w9.alloc (.cells #[.int .u64 5, .int .u64 6, .slice a2 1 c2, .bool true, .int .u64 8, .bool true, .int .u64 9, .slice a7 0 c7, .slice a8 1 c8, .slice a9 0 c9] 34)) (.slice a7 0 c7) [] ∧ RN (w9.alloc (.cells #[.int .u64 5, .int .u64 6, .slice a2 1 c2, .bool true, .int .u64 8, .bool true, .int .u64 9, .slice a7 0 c7, .slice a8 1 c8, .slice a9 0 c9] 34)) (.slice a8 1 c8) [7] ∧ RN (w9.alloc (.cells #[.int .u64 5, .int .u64 6, .slice a2 1 c2, .bool true, .int .u64 8, .bool true, .int .u64 9, .slice a7 0 c7, .slice a8 1 c8, .slice a9 0 c9] 34)) (.slice a9 0 c9) [] from ⟨HV.out.1.keep ((Mods.refl noB _).alloc _) (fun _ _ x => x), HV.out.2.1.keep ((Mods.refl noB _).alloc _) (fun _ _ x => x), HV.out.2.2.1.keep ((Mods.refl noB _).alloc _) (fun _ _ x => x), HV.out.2.2.2.keep ((Mods.refl noB _).alloc _) (fun _ _ x => x)⟩)
  go_wp2_with fail
  generalize World.alloc w9 _ = w10 at *
  refine (history_put (n1 := 4) (l0 := [7]) (limC (by omega) limN) ⟨L7.out, lim7, by simp⟩).mono ?_
  rintro r w11 ⟨v1, rfl, o1, m1, f1⟩
  clear d5
  go_wp2_with fail
  refine (history_get o1.rd (Nat.le_trans (recLay_len _) (by simp))).mono ?_
  rintro r w12 ⟨n1'', u0, l0, e3, rfl, hg, m2, ⟨h0, _⟩⟩
  obtain ⟨rfl, rfl, rfl⟩ := k_his hg
  obtain ⟨a0, c0, rfl, _⟩ := h0.form
  have M := (m1.then0 m2).alloc (.cells #[.slice a0 1 c0, .int .u64 4] 38)
  replace L7 := Lib.hid (L7.out.keep M (fun _ _ x => x))
  replace HV := Lib.hid (And.intro (HV.out.1.keep M (fun _ _ x => x)) (And.intro (HV.out.2.1.keep M (fun _ _ x => x)) (And.intro (HV.out.2.2.1.keep M (fun _ _ x => x)) (HV.out.2.2.2.keep M (fun _ _ x => x)))))
  have HH := Lib.hid (h0.keep ((Mods.refl noB _).alloc (.cells #[.slice a0 1 c0, .int .u64 4] 38)) (fun _ _ x => x))
  replace G := Lib.hid ((G.out.step (m1.then0 m2)).push (.cells #[.slice a0 1 c0, .int .u64 4] 38))
  clear hg o1 f1 m1 m2 h0 M
  go_wp2_with fail
  generalize World.alloc w12 _ = w13 at *
  refine (one_put (n0 := 77) (limC (by omega) limN)).mono ?_
  rintro r w14 ⟨v1, rfl, o1, m1, f1⟩
  go_wp2_with fail
  refine (one_get o1.rd (Nat.le_trans (recLay_len _) (by simp))).mono ?_
  rintro r w15 ⟨n0'', e4, rfl, hg, m2⟩
  obtain ⟨rfl, rfl⟩ := k_num hg
  have M := m1.then0 m2
  replace L7 := Lib.hid (L7.out.keep M (fun _ _ x => x))
  replace HV := Lib.hid (And.intro (HV.out.1.keep M (fun _ _ x => x)) (And.intro (HV.out.2.1.keep M (fun _ _ x => x)) (And.intro (HV.out.2.2.1.keep M (fun _ _ x => x)) (HV.out.2.2.2.keep M (fun _ _ x => x)))))
  replace HH := Lib.hid (HH.out.keep M (fun _ _ x => x))
  replace G := Lib.hid (G.out.step M)
  have d0 := cells_of (G.out.get 0 rfl)
  have d5 := cells_of (G.out.get 2 rfl)
  have d1 := cells_of (G.out.get 5 rfl)
  clear hg o1 f1 m1 m2 M
  go_wp2_with fail
  refine (history_true HH.out L7.out).mono ?_
  rintro r w16 ⟨rfl, M⟩
  clear d0 d5 d1
  replace L7 := Lib.hid (L7.out.keep M (fun _ _ x => x))
  replace HV := Lib.hid (And.intro (HV.out.1.keep M (fun _ _ x => x)) (And.intro (HV.out.2.1.keep M (fun _ _ x => x)) (And.intro (HV.out.2.2.1.keep M (fun _ _ x => x)) (HV.out.2.2.2.keep M (fun _ _ x => x)))))
  replace G := Lib.hid (G.out.step M)
  have d1 := cells_of (G.out.get 5 rfl)
  clear M HH
  go_wp2_with fail
  refine (cut_put (n0 := 3) (n1 := 2) (limC (by omega) (limC (by omega) limN))).mono ?_
  rintro r w17 ⟨v1, rfl, o1, m1, f1⟩
  rw [k_lay] at o1
  have M := m1.alloc (.cells #[.int .u8 0, .int .u8 0, .int .u8 0, .int .u8 0, .int .u8 0, .int .u8 0, .int .u8 0, .int .u8 3, .int .u8 0, .int .u8 0, .int .u8 0, .int .u8 0, .int .u8 0, .int .u8 0, .int .u8 0, .int .u8 2] 5)
  replace L7 := Lib.hid (L7.out.keep M (fun _ _ x => x))
  replace HV := Lib.hid (And.intro (HV.out.1.keep M (fun _ _ x => x)) (And.intro (HV.out.2.1.keep M (fun _ _ x => x)) (And.intro (HV.out.2.2.1.keep M (fun _ _ x => x)) (HV.out.2.2.2.keep M (fun _ _ x => x)))))
  replace G := Lib.hid (G.out.step M)
  have O1 := Lib.hid (o1.rd.alloc (.cells #[.int .u8 0, .int .u8 0, .int .u8 0, .int .u8 0, .int .u8 0, .int .u8 0, .int .u8 0, .int .u8 3, .int .u8 0, .int .u8 0, .int .u8 0, .int .u8 0, .int .u8 0, .int .u8 0, .int .u8 0, .int .u8 2] 5))
  clear d1 o1 m1 f1 M
  go_wp2_with fail
  refine (Bytes_true O1.out (rd_at_lit [0, 0, 0, 0, 0, 0, 0, 3, 0, 0, 0, 0, 0, 0, 0, 2] _ 16 #[.int .u8 0, .int .u8 0, .int .u8 0, .int .u8 0, .int .u8 0, .int .u8 0, .int .u8 0, .int .u8 3, .int .u8 0, .int .u8 0, .int .u8 0, .int .u8 0, .int .u8 0, .int .u8 0, .int .u8 0, .int .u8 2] (heap_new w17 _) rfl rfl rfl)).mono ?_
  rintro r w18 ⟨rfl, M⟩
  replace L7 := Lib.hid (L7.out.keep M (fun _ _ x => x))
  replace HV := Lib.hid (And.intro (HV.out.1.keep M (fun _ _ x => x)) (And.intro (HV.out.2.1.keep M (fun _ _ x => x)) (And.intro (HV.out.2.2.1.keep M (fun _ _ x => x)) (HV.out.2.2.2.keep M (fun _ _ x => x)))))
  replace G := Lib.hid (G.out.step M)
  clear O1 M
  go_wp2_with fail
  refine (pool_put (l0 := []) ⟨RdM.nil _ _, limN, by simp⟩).mono ?_
  rintro r w19 ⟨v1, rfl, o1, m1, f1⟩
  rw [k_lay0] at o1
  have M := m1.alloc (.cells #[.int .u8 0] 5)
  replace L7 := Lib.hid (L7.out.keep M (fun _ _ x => x))
  replace HV := Lib.hid (And.intro (HV.out.1.keep M (fun _ _ x => x)) (And.intro (HV.out.2.1.keep M (fun _ _ x => x)) (And.intro (HV.out.2.2.1.keep M (fun _ _ x => x)) (HV.out.2.2.2.keep M (fun _ _ x => x)))))
  replace G := Lib.hid (G.out.step M)
  have O1 := Lib.hid (o1.rd.alloc (.cells #[.int .u8 0] 5))
  clear o1 m1 f1 M
  go_wp2_with fail
  refine (Bytes_true O1.out (rd_at_lit [0] _ 1 #[.int .u8 0] (heap_new w19 _) rfl rfl rfl)).mono ?_
  rintro r w20 ⟨rfl, M⟩
  replace L7 := Lib.hid (L7.out.keep M (fun _ _ x => x))
  replace HV := Lib.hid (And.intro (HV.out.1.keep M (fun _ _ x => x)) (And.intro (HV.out.2.1.keep M (fun _ _ x => x)) (And.intro (HV.out.2.2.1.keep M (fun _ _ x => x)) (HV.out.2.2.2.keep M (fun _ _ x => x)))))
  replace G := Lib.hid (G.out.step M)
  have d6 := cells_of (G.out.get 1 rfl)
  have d5 := cells_of (G.out.get 2 rfl)
  clear O1 M
  go_wp2_with fail
  refine (val_true HV.out.1 L7.out HV.out.2.1 (RdM.nil _ _) HV.out.2.2.1 L7.out HV.out.2.2.2 (RdM.nil _ _)).mono ?_
  rintro r w21 ⟨rfl, M⟩
  replace G := Lib.hid (G.out.step M)
  clear d5 d6 M L7 HV
  go_wp2_with fail
  go_ret
  exact ⟨rfl, G.out.mods⟩

end Go.Proofs.Ytnkbbclcileleaa

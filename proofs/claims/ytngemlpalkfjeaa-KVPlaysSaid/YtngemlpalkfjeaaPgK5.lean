/- page.Map.Copy: its drawn region (printed by gen_copy.py). -/
import Derived.Test.YtngemlpalkfjeaaZB
namespace Go.Proofs.Ytngemlpalkfjeaa
open Go.Gl Go.RowKit
set_option linter.unusedVariables false
set_option linter.unusedSimpArgs false
set_option maxRecDepth 100000
set_option maxHeartbeats 1000000 in
theorem copy5 {w : World} {h n pb po m pc : Nat} {vo vn : Value} {pvs xs : List Value} (hg : w.heap[h]? = some (.cells #[vo, vn] 84 (0, 0))) (hr : OwnG w 85 1 vo n pvs) (hp : OB w 88 2 pb po m pc xs) (h0 : ∀ y ∈ xs, y.oneCell' = true) (hm : m ≤ 1000000) (hn : n + 1 ≤ 1000000) (hvo : ¬ ofV vo h) {x0 x1 x2 x4 x6 x7 x8 x9 x10 x11 x12 x13 x14 x15 x16 x17 x18 x19 x20 x21 x22 x23 x24 x25 x26 x27 x28 x29 x30 x31 x32 x33 : Value} {df : List Deferred} {Q : Exit → Act → World → Prop}
    (hK : ∀ (y21 y22 y23 y24 y25 y26 y27 y28 y29 y30 y31 : Value) (v7 v8 : Value) (w7 w8 : World) (w' : World), OwnG w7 88 2 v7 m xs → Mods noB w w7 → freshIn w v7 → OwnG w8 85 1 v8 (n + 1) (pvs ++ [v7]) → Mods (ofV vo) w7 w8 → (v8.ownBlock = vo.ownBlock ∨ freshIn w7 v8) → w' = w8.setCell ⟨h, 0, none⟩ v8 → Q .normal ⟨#[x0, x1, x2, .pointer (some ⟨h, 0, none⟩), x4, .slice (some ⟨pb, po, none⟩) m pc, x6, x7, x8, x9, x10, x11, x12, x13, x14, x15, x16, x17, x18, x19, x20, y21, y22, y23, y24, y25, y26, y27, y28, y29, y30, y31, x32, x33], df⟩ w') : RW Try.prog (opsC 5 Try.f31) true Q ⟨#[x0, x1, x2, .pointer (some ⟨h, 0, none⟩), x4, .slice (some ⟨pb, po, none⟩) m pc, x6, x7, x8, x9, x10, x11, x12, x13, x14, x15, x16, x17, x18, x19, x20, x21, x22, x23, x24, x25, x26, x27, x28, x29, x30, x31, x32, x33], df⟩ w := by
  have HQ := Lib.hid hK
  clear hK
  have Q2 := Lib.hid (fun b' (hm : Mods (ofV vo) w b') => show b'.cell? ⟨h, 0, none⟩ = some vo from cells_of (hm.heap hg hvo) 0)
  have HA := Lib.hid hp
  have HR := Lib.hid hr
  have H0 := Lib.hid h0
  have HG := Lib.hid hg
  clear hg hr hp h0
  have MR := Lib.hid ((Mods.refl noB w).drew)
  refine rw_ordT (S := fun b' => Mods (ofV vo) w b') [(0, true), (1, true), (2, true), (3, true), (4, true), (5, true), (6, false), (7, false), (8, false), (9, false), (10, false), (11, false)] [9, 10, 11] (by kernel_rfl) (by kernel_rfl) (by kernel_rfl) (by kernel_rfl) (MR.out.mono (fun _ _ x => x.elim)) ?_
  refine wpOrdT_frees [0, 1, 2, 3] [.pointer (some ⟨h, 0, none⟩), .pointer (some ⟨h, 0, none⟩), .pointer (some ⟨h, 0, none⟩), .pointer (some ⟨h, 0, none⟩)] (rest := [(4, true), (5, true), (6, false), (7, false), (8, false), (9, false), (10, false), (11, false)]) (by kernel_rfl) (by kernel_rfl) (fun _ => by kernel_rfl) ?_
  refine wpOrdT_free (vo) (some 25) ⟨by kernel_rfl, by kernel_rfl, by kernel_rfl⟩ (fun bb hb => of_load (x := (.tmp 24)) (by kernel_rfl) (by kernel_rfl) (load_c (Q2.out _ hb) Try.underlying82 rfl)) ?_
  refine wpOrdT_frees [5] [.slice (some ⟨pb, po, none⟩) m pc] (rest := [(6, false), (7, false), (8, false), (9, false), (10, false), (11, false)]) (by kernel_rfl) (by kernel_rfl) (fun _ => by kernel_rfl) ?_
  refine wpOrdT_call (some 27) ⟨by kernel_rfl, by kernel_rfl, by kernel_rfl⟩ (Cln_any (HA.out.keep MR.out (fun x => x)) H0.out hm) (fun _ => by kernel_rfl) ?_
  rintro r w7 ⟨v7, rfl, o7, m7, f7⟩
  have f8 := f7.of MR.out.size
  replace MR := Lib.hid (MR.out.then0 m7)
  have O7 := Lib.hid (And.intro o7 (And.intro f8 MR.out))
  obtain ⟨a7, c7, rfl, _⟩ := o7.rd.form
  clear o7 m7 f7 f8
  refine ⟨_, rfl, fun _ => MR.out.mono (fun _ _ x => x.elim), ?_⟩
  refine wpOrdT_bs (.cells #[(.slice a7 m c7)] 85) 1 (some 28) ⟨by kernel_rfl, by kernel_rfl, by kernel_rfl⟩ (by kernel_rfl) ?_
  intro k1 w_k1 hk_k1 hO_k1 hm_k1 hl_k1
  have MZ := MR.out.size
  replace MR := Lib.hid (MR.out.then0 hm_k1)
  refine ⟨fun _ => (MR.out.mono (fun _ _ x => x.elim)), ?_⟩
  obtain ⟨inf, hi, hz, hs, hby⟩ := info_parts info1
  obtain ⟨v8, w8, hr8, o8, m8, f8⟩ := run_ap (P := Try.prog) 82 82 82 85 85 inf (.slice none 0 0) Try.underlying82 Try.underlying82 hi hz (by rw [hs]; rfl) (by rw [hs]; exact HR.out.keep MR.out (fun _ _ x => x)) (m := 1) (ys := [.slice a7 m c7]) (by rw [hs]; exact OwnG.rd (ob_new1 hO_k1).own) (by simp [Value.oneCell']) (by unfold maxLen; omega) (by rw [hby]; omega)
  rw [hs] at o8
  refine wpOrdT_run v8 w8 (some 29) ⟨by kernel_rfl, by kernel_rfl, by kernel_rfl⟩ (of_append (x := (.tmp 25)) (y := (.tmp 28)) (by kernel_rfl) (by kernel_rfl) (by kernel_rfl) hr8) (fun _ => MR.out.trans m8 (fun _ _ x => x.elim) (fun _ _ x => x)) ?_
  have m78 := hm_k1.trans m8 (U := ofV vo) (fun _ _ x => x.elim) (fun _ _ x => x)
  have f9 := f8.imp id (fun h => h.of hm_k1.size)
  have M8 := Lib.hid (MR.out.trans m8 (U := ofV vo) (fun _ _ x => x.elim) (fun _ _ x => x))
  have hg8 := M8.out.heap HG.out hvo
  obtain ⟨a8, c8, e8, _⟩ := o8.rd.form
  have h18 : v8.oneCell' = true := by rw [e8]; rfl
  clear e8
  refine wpOrdT_freesB [9, 10] [.pointer (some ⟨h, 0, none⟩), .pointer (some ⟨h, 0, none⟩)] (rest := [(11, false)]) (by kernel_rfl) (by kernel_rfl) (by kernel_rfl) (.inl (by kernel_rfl)) ?_
  refine wpOrdT_st1 (ty := 82) (x := (.tmp 31)) (y := (.tmp 29)) (g := h) (off := 0) (v := v8) none ⟨by kernel_rfl, by kernel_rfl, by kernel_rfl⟩ (by kernel_rfl) (by kernel_rfl) (by kernel_rfl) (by kernel_rfl) (by rw [cells_of hg8]; rfl) (free_of hg8 _) (h18) ?_
  intro w9 hw9
  refine ⟨(fun h => by first | (cases h; done) | exact trivial), ?_⟩
  exact wpOrdT_doneC (act_is (K := Q .normal) (by kernel_rfl) (HQ.out (.pointer (some ⟨h, 0, none⟩)) (.pointer (some ⟨h, 0, none⟩)) (.pointer (some ⟨h, 0, none⟩)) (.pointer (some ⟨h, 0, none⟩)) (vo) (.slice (some ⟨pb, po, none⟩) m pc) ((.slice a7 m c7)) (.slice (some ⟨k1, 0, none⟩) 1 1) (v8) (.pointer (some ⟨h, 0, none⟩)) (.pointer (some ⟨h, 0, none⟩)) (.slice a7 m c7) v8 _ w8 w9 O7.out.1 O7.out.2.2 O7.out.2.1 o8 m78 f9 hw9))
end Go.Proofs.Ytngemlpalkfjeaa

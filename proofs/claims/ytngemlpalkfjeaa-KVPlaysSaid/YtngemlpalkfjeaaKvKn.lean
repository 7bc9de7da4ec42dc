/- gleanlaw6.known: the chapter's examples hold. -/
import Derived.Test.YtngemlpalkfjeaaKvL
import Derived.Test.YtngemlpalkfjeaaKvArg
import Derived.Deep.DeepCutAuto
import Derived.Lib.SmallJoins
namespace Go.Proofs.Ytngemlpalkfjeaa
open Go.Gl Go.RowKit
set_option linter.unusedVariables false
set_option maxRecDepth 100000
theorem kf1 : insL [] [97] [1] = [([97], [1])] := by decide
theorem kf2 : insL [([97], [1])] [97] [2] = [([97], [2])] := by decide
theorem kf3 : delL [([97], [2])] [97] = [] := by decide
theorem kf4 : insL [] [98] [3] = [([98], [3])] := by decide
theorem rd_one {w : World} {h : Nat} {x : Int} {b : UInt8} (hh : w.heap[h]? = some (.cells #[.int .u8 x] 5 (0, 0))) (hx : x = (b.toNat : Int)) : Rd w (.slice (some ⟨h, 0, none⟩) 1 1) [b] := by
  subst hx
  exact (ob_new1 hh).own.rd
theorem rd_one' {w : World} {h : Nat} {x : Int} {b : UInt8} {fr : Nat × Nat} (hh : w.heap[h]? = some (.cells #[.int .u8 x] 5 fr)) (hx : x = (b.toNat : Int)) : Rd w (.slice (some ⟨h, 0, none⟩) 1 1) [b] := by
  subst hx
  refine ⟨rfl, .inr ⟨h, 0, 1, rfl, Nat.le_refl _, by simp [maxLen], .inr (lt_of_heap hh), fun j u hj => ?_⟩⟩
  rw [cells_of hh]
  rcases j with _ | j
  · simpa [bv] using hj
  · simp [bv] at hj
section
variable {w0 w : World} {sg n p : Nat} {F F' : List Ent} {Ws : List (List Ent)} {Q : Nat → Prop}
theorem kl_set1 {q : Value} {ks : List UInt8} {x : Int} {b : UInt8} (h : KL w0 w sg F Ws n p Q) (hx : x = (b.toNat : Int)) (hq : Rd w q ks) (oq : Off (fun k => ¬ Q k) q ks) (l1 : 1 ≤ ks.length) (l2 : ks.length ≤ 64) (hn : n ≤ 1000000000000) (hp : p ≤ 100000) (hF : insL F ks [b] = F') :
    Calls Try.prog 18 #[.pointer (some ⟨sg, 0, none⟩), q, .slice (some ⟨w.heap.size, 0, none⟩) 1 1] (w.alloc (.cells #[.int .u8 x] 5)) fun e w' => e = .returned (.int .i64 0) ∧ KL w0 w' sg F' Ws (n + 1) (p + 2) Q ∧ Mods (fun k => ¬ Q k) w w' := by
  have m1 := (Mods.refl noB w).alloc (.cells #[.int .u8 x] 5)
  have hu := rd_one (b := b) (heap_new w (.cells #[.int .u8 x] 5)) hx
  have h1 := h.grow (Q' := fun k => Q k ∨ k = w.heap.size) m1 (fun k hk => hk.imp id (fun e => ⟨by omega, by rw [e]; simp⟩)) (fun k hk => .inl (h.q0 k hk))
  have he : setErr ks [b] = 0 := by unfold setErr; rw [if_neg (by omega), if_neg (by simp)]
  have c := cc_set (sg := sg) (F := F) (Ws := Ws) (n := n) (p := p) (Q := fun k => Q k ∨ k = w.heap.size) (hq.keep m1 (fun _ _ x => x)) hu (oq.mono (fun k hk x => hk (.inl x))) (fun _ i hi x => by simp [Value.ownBlock] at hi; exact x (.inr hi.symm)) hn hp
  rw [he, if_pos rfl, hF] at c
  refine (h1.call c).mono ?_
  rintro e w' ⟨rfl, k', m'⟩
  exact ⟨rfl, k'.less (fun k hk => .inl hk) h.q0, m1.trans m' (fun _ _ x => x.elim) (fun k _ hk x => hk (.inl x))⟩
end
set_option maxHeartbeats 16000000 in
theorem kknown_any (w : World) : Calls Try.prog 9 #[] w fun e w' => e = .returned (.bool true) ∧ Mods noB w w' := by
  go_enter Try.func9, Try.ntmps9
  go_wp2_with fail
  refine (kl_new (w0 := w) (Q := fun k => k < w.heap.size) (fun _ h => h) (fun _ h => h) (Mods.refl _ _)).mono ?_
  rintro e w1 ⟨sg, rfl, h1, m1⟩
  obtain ⟨oA, hoA⟩ : ∃ o, o = Obj.cells #[.int .u8 97] 5 (1, 2) := ⟨_, rfl⟩
  obtain ⟨oB, hoB⟩ : ∃ o, o = Obj.cells #[.int .u8 98] 5 (1, 2) := ⟨_, rfl⟩
  have cvA := Joins.run_convert_bytes_const_at (P := Try.prog) w1 32 5 #[.int .u8 97] 1 1 w1.heap.size rfl Try.underlying32 Try.underlying5
  have cvB := Joins.run_convert_bytes_const_at (P := Try.prog) (w1.alloc oA) 32 5 #[.int .u8 98] 1 1 (w1.heap.size + 1) (by simp) Try.underlying32 Try.underlying5
  have ma := (Mods.refl noB w1).alloc oA
  have mb := ma.alloc oB
  have ba := heap_old (heap_new w1 oA) oB
  have bb := heap_new (w1.alloc oA) oB
  rw [World.size_alloc] at bb
  have ba' : ((w1.alloc oA).alloc oB).heap[w1.heap.size]? = some (.cells #[.int .u8 97] 5 (1, 2)) := by rw [ba, hoA]
  have bb' : ((w1.alloc oA).alloc oB).heap[w1.heap.size + 1]? = some (.cells #[.int .u8 98] 5 (1, 2)) := by rw [bb, hoB]
  have ra := rd_one' (b := 97) ba' rfl
  have rb := rd_one' (b := 98) bb' rfl
  have s1 := m1.size
  have H1 := Lib.hid (h1.grow (Q' := fun k => k < w.heap.size ∨ k = w1.heap.size ∨ k = w1.heap.size + 1) mb (fun k hk => hk.imp id (fun e => by simp; omega)) (fun k hk => .inl hk))
  have oa : Off (fun k => ¬ (k < w.heap.size ∨ k = w1.heap.size ∨ k = w1.heap.size + 1)) (.slice (some ⟨w1.heap.size, 0, none⟩) 1 1) [97] := fun _ i hi x => by simp [Value.ownBlock] at hi; omega
  have ob : Off (fun k => ¬ (k < w.heap.size ∨ k = w1.heap.size ∨ k = w1.heap.size + 1)) (.slice (some ⟨w1.heap.size + 1, 0, none⟩) 1 1) [98] := fun _ i hi x => by simp [Value.ownBlock] at hi; omega
  have RA := Lib.hid ra
  have RB := Lib.hid rb
  have OA := Lib.hid oa
  have OB := Lib.hid ob
  clear h1 m1 ma mb ra rb oa ob ba bb ba' bb'
  obtain ⟨Q, hQ⟩ : ∃ Q : Nat → Prop, Q = (fun k => k < w.heap.size ∨ k = w1.heap.size ∨ k = w1.heap.size + 1) := ⟨_, rfl⟩
  rw [← hQ] at H1
  have OA' : Off (fun k => ¬ Q k) (.slice (some ⟨w1.heap.size, 0, none⟩) 1 1) [97] := by rw [hQ]; exact OA.out
  have OB' : Off (fun k => ¬ Q k) (.slice (some ⟨w1.heap.size + 1, 0, none⟩) 1 1) [98] := by rw [hQ]; exact OB.out
  have AB := Lib.hid (And.intro OA' OB')
  obtain ⟨W2, hW2⟩ : ∃ W2, W2 = (w1.alloc oA).alloc oB := ⟨_, rfl⟩
  have hs2 : W2.heap.size = w1.heap.size + 2 := by rw [hW2]; simp
  rw [← hW2] at H1 RA RB
  clear OA OB OA' OB' hQ
  generalize hga : w1.heap.size = ga at *
  have HW2 := Lib.hid hW2
  clear hW2
  subst hoA hoB
  go_wp2_with fail
  rw [← HW2.out, show ga + 1 + 1 = W2.heap.size from hs2.symm]
  refine (kl_set1 (b := 1) H1.out rfl RA.out AB.out.1 (by simp) (by simp) (by omega) (by omega) kf1).mono ?_
  rintro e v1 ⟨rfl, h, m⟩
  replace h : KL w v1 sg [([97], [1])] [] 1 2 Q := h
  have HH1 := Lib.hid h
  have RA1 := Lib.hid (AB.out.1.keep RA.out m)
  have RB1 := Lib.hid (AB.out.2.keep RB.out m)
  clear h m H1 RA RB
  go_wp2_with fail
  refine (HH1.out.call (cc_begin)).mono ?_
  rintro e v2 ⟨rfl, h, m⟩
  rw [show bgE [] = 0 from rfl]
  replace h : KL w v2 sg [([97], [1])] [[([97], [1])]] 1 2 Q := h
  have HH2 := Lib.hid h
  have RA2 := Lib.hid (AB.out.1.keep RA1.out m)
  have RB2 := Lib.hid (AB.out.2.keep RB1.out m)
  clear h m HH1 RA1 RB1
  go_wp2_with fail
  refine (kl_set1 (b := 2) HH2.out rfl RA2.out AB.out.1 (by simp) (by simp) (by omega) (by omega) kf2).mono ?_
  rintro e v3 ⟨rfl, h, m⟩
  replace h : KL w v3 sg [([97], [2])] [[([97], [1])]] 2 4 Q := h
  have HH3 := Lib.hid h
  have RA3 := Lib.hid (AB.out.1.keep RA2.out m)
  have RB3 := Lib.hid (AB.out.2.keep RB2.out m)
  clear h m HH2 RA2 RB2
  go_wp2_with fail
  refine (HH3.out.call (cc_begin)).mono ?_
  rintro e v4 ⟨rfl, h, m⟩
  rw [show bgE _ = 0 from rfl]
  replace h : KL w v4 sg [([97], [2])] [[([97], [2])], [([97], [1])]] 2 4 Q := h
  have HH4 := Lib.hid h
  have RA4 := Lib.hid (AB.out.1.keep RA3.out m)
  have RB4 := Lib.hid (AB.out.2.keep RB3.out m)
  clear h m HH3 RA3 RB3
  go_wp2_with fail
  refine (HH4.out.call (cc_del RA4.out AB.out.1 (by simp) (by omega) (by omega))).mono ?_
  rintro e v5 ⟨rfl, h, m⟩
  rw [show (getL _ _).isSome = true from by decide]
  rw [kf3] at h
  replace h : KL w v5 sg [] [[([97], [2])], [([97], [1])]] 3 6 Q := h
  have HH5 := Lib.hid h
  have RA5 := Lib.hid (AB.out.1.keep RA4.out m)
  have RB5 := Lib.hid (AB.out.2.keep RB4.out m)
  clear h m HH4 RA4 RB4
  go_wp2_with fail
  refine (kl_set1 (b := 3) HH5.out rfl RB5.out AB.out.2 (by simp) (by simp) (by omega) (by omega) kf4).mono ?_
  rintro e v6 ⟨rfl, h, m⟩
  replace h : KL w v6 sg [([98], [3])] [[([97], [2])], [([97], [1])]] 4 8 Q := h
  have HH6 := Lib.hid h
  have RA6 := Lib.hid (AB.out.1.keep RA5.out m)
  have RB6 := Lib.hid (AB.out.2.keep RB5.out m)
  clear h m HH5 RA5 RB5
  go_wp2_with fail
  refine (kl_depth HH6.out).mono ?_
  rintro e vv ⟨rfl, rfl⟩
  go_wp2_with fail
  refine (HH6.out.call (cc_rollback (by omega))).mono ?_
  rintro e v7 ⟨rfl, h, m⟩
  rw [show enE _ = 0 from rfl]
  replace h : KL w v7 sg [([97], [2])] [[([97], [1])]] 4 8 Q := h
  have HH7 := Lib.hid h
  have RA7 := Lib.hid (AB.out.1.keep RA6.out m)
  have RB7 := Lib.hid (AB.out.2.keep RB6.out m)
  clear h m HH6 RA6 RB6
  go_wp2_with fail
  refine (kl_ops HH7.out (by omega)).mono ?_
  rintro e vv ⟨rfl, rfl⟩
  go_wp2_with fail
  refine (kl_get HH7.out RA7.out AB.out.1 (by omega) (by omega)).mono ?_
  rintro e v8 ⟨x8, rfl, o8, h, m, f8⟩
  rw [show (getL _ _).isSome = true from by decide]
  replace o8 : Gl.Own v8 x8 [2] := by rw [show (getL _ [97]).getD [] = [2] from by decide] at o8; exact o8
  obtain ⟨ax8, cx8, ex8, _⟩ := o8.rd.form
  have OX8 := Lib.hid (And.intro o8 f8)
  replace h : KL w v8 sg [([97], [2])] [[([97], [1])]] 5 8 Q := h.less (fun k hk => .inl hk) HH7.out.q0
  have HH8 := Lib.hid h
  have RA8 := Lib.hid (AB.out.1.keep RA7.out m)
  have RB8 := Lib.hid (AB.out.2.keep RB7.out m)
  clear h m HH7 RA7 RB7
  subst ex8
  simp only [List.length_cons, List.length_nil, Nat.zero_add] at OX8 ⊢
  clear o8 f8
  go_wp2_with fail
  refine (PBytes_true (xs := [2]) (OX8.out.1.rd.keep ((Mods.refl noB _).alloc _) (fun _ _ x => x)) (rd_one (b := 2) (heap_new _ _) rfl)).mono ?_
  rintro e v9 ⟨rfl, m⟩
  replace m := ((Mods.refl noB _).alloc _).then0 m
  have h := HH8.out.keep0 m
  have HH9 := Lib.hid h
  have RA9 := Lib.hid (RA8.out.keep m (fun _ _ x => x))
  have RB9 := Lib.hid (RB8.out.keep m (fun _ _ x => x))
  clear h m HH8 RA8 RB8
  go_wp2_with fail
  refine (HH9.out.call (cc_has RB9.out AB.out.2 (by omega) (by omega))).mono ?_
  rintro e v10 ⟨rfl, h, m⟩
  rw [show (getL _ _).isSome = false from by decide]
  replace h : KL w v10 sg [([97], [2])] [[([97], [1])]] 6 8 Q := h
  have HH10 := Lib.hid h
  have RA10 := Lib.hid (AB.out.1.keep RA9.out m)
  have RB10 := Lib.hid (AB.out.2.keep RB9.out m)
  clear h m HH9 RA9 RB9
  go_wp2_with fail
  refine (kl_ops HH10.out (by omega)).mono ?_
  rintro e vv ⟨rfl, rfl⟩
  go_wp2_with fail
  refine (HH10.out.call (cc_rollback (by omega))).mono ?_
  rintro e v11 ⟨rfl, h, m⟩
  rw [show enE _ = 0 from rfl]
  replace h : KL w v11 sg [([97], [1])] [] 6 8 Q := h
  have HH11 := Lib.hid h
  have RA11 := Lib.hid (AB.out.1.keep RA10.out m)
  have RB11 := Lib.hid (AB.out.2.keep RB10.out m)
  clear h m HH10 RA10 RB10
  go_wp2_with fail
  refine (HH11.out.call (cc_rollback (by omega))).mono ?_
  rintro e v12 ⟨rfl, h, m⟩
  rw [show enE _ = 62 from rfl]
  replace h : KL w v12 sg [([97], [1])] [] 6 8 Q := h
  have HH12 := Lib.hid h
  have RA12 := Lib.hid (AB.out.1.keep RA11.out m)
  have RB12 := Lib.hid (AB.out.2.keep RB11.out m)
  clear h m HH11 RA11 RB11
  go_wp2_with fail
  refine (HH12.out.call (cc_commit (by omega))).mono ?_
  rintro e v13 ⟨rfl, h, m⟩
  rw [show enE _ = 62 from rfl]
  replace h : KL w v13 sg [([97], [1])] [] 6 8 Q := h
  have HH13 := Lib.hid h
  have RA13 := Lib.hid (AB.out.1.keep RA12.out m)
  have RB13 := Lib.hid (AB.out.2.keep RB12.out m)
  clear h m HH12 RA12 RB12
  go_wp2_with fail
  refine (HH13.out.call (cc_set (Rd.nil _) RA13.out (fun hne => absurd rfl hne) AB.out.1 (by omega) (by omega))).mono ?_
  rintro e v14 ⟨rfl, h, m⟩
  rw [show setErr [] [97] = 60 from by decide] at h ⊢
  rw [if_neg (by decide)] at h
  replace h : KL w v14 sg [([97], [1])] [] 7 10 Q := h
  have HH14 := Lib.hid h
  have RA14 := Lib.hid (AB.out.1.keep RA13.out m)
  have RB14 := Lib.hid (AB.out.2.keep RB13.out m)
  clear h m HH13 RA13 RB13
  go_wp2_with fail
  refine (kl_get HH14.out RA14.out AB.out.1 (by omega) (by omega)).mono ?_
  rintro e v15 ⟨x15, rfl, o15, h, m, f15⟩
  rw [show (getL _ _).isSome = true from by decide]
  replace o15 : Gl.Own v15 x15 [1] := by rw [show (getL _ [97]).getD [] = [1] from by decide] at o15; exact o15
  obtain ⟨ax15, cx15, ex15, _⟩ := o15.rd.form
  have OX15 := Lib.hid (And.intro o15 f15)
  obtain ⟨Q2, hQ2⟩ : ∃ Q2 : Nat → Prop, Q2 = fun k => Q k ∨ x15.ownBlock = some k := ⟨_, rfl⟩
  replace h : KL w v15 sg [([97], [1])] [] 8 10 Q2 := by rw [hQ2]; exact h
  have AV := Lib.hid (And.intro (show Off (fun k => ¬ Q2 k) (.slice (some ⟨ga, 0, none⟩) 1 1) [97] from AB.out.1.mono (fun k hk x => hk (by rw [hQ2]; exact .inl x))) (show Off (fun k => ¬ Q2 k) x15 [1] from fun _ i hi x => x (by rw [hQ2]; exact .inr hi)))
  have HH15 := Lib.hid h
  have RA15 := Lib.hid (AB.out.1.keep RA14.out m)
  have RV15 := Lib.hid OX15.out.1.rd
  clear h m hQ2 HH14 RA14 RB14 o15 f15 OX15
  subst ex15
  simp only [List.length_cons, List.length_nil, Nat.zero_add] at AV RV15 ⊢
  go_wp2_with fail
  refine (kl_prefix HH15.out RA15.out (by simp) (by omega)).mono ?_
  rintro e v16 ⟨lb16, rfl, h, m⟩
  have HH16 := Lib.hid h
  have RA16 := Lib.hid (RA15.out.keep m (fun _ _ x => x))
  have RV16 := Lib.hid (RV15.out.keep m (fun _ _ x => x))
  clear h m HH15 RA15 RV15
  go_wp2_with fail
  refine (kl_taken (N := 9) HH16.out (by omega) (by omega) (by omega)).mono ?_
  rintro e v17 ⟨y17, M17, rfl, pr, em, h, m⟩
  have lM : M17.length = 1 := by have := congrArg List.length em; rw [List.length_map] at this; exact this.trans (by decide)
  replace h := (show KLI w v17 sg [([97], [1])] [] 10 10 _ _ _ from h).kl.less (Q' := Q2) (fun k hk => .inl hk) HH16.out.kl.q0
  obtain ⟨ay17, cy17, ey, _⟩ := pr.row.form
  rw [lM] at ey
  subst ey
  clear pr em lM
  have HH17 := Lib.hid h
  have RA17 := Lib.hid (AV.out.1.keep RA16.out m)
  have RV17 := Lib.hid (AV.out.2.keep RV16.out m)
  clear h m HH16 RA16 RV16
  go_wp2_with fail
  refine (kl_walk HH17.out (Rd.nil _) (Rd.nil _) (by simp) (by simp) (by omega)).mono ?_
  rintro e v18 ⟨lb18, rfl, h, m⟩
  have HH18 := Lib.hid h
  have RA18 := Lib.hid (RA17.out.keep m (fun _ _ x => x))
  have RV18 := Lib.hid (RV17.out.keep m (fun _ _ x => x))
  clear h m HH17 RA17 RV17
  go_wp2_with fail
  refine (kl_taken (N := 9) HH18.out (by omega) (by omega) (by omega)).mono ?_
  rintro e v19 ⟨y19, M19, rfl, pr, em, h, m⟩
  have lM : M19.length = 1 := by have := congrArg List.length em; rw [List.length_map] at this; exact this.trans (by decide)
  replace h := (show KLI w v19 sg [([97], [1])] [] 12 10 _ _ _ from h).kl.less (Q' := Q2) (fun k hk => .inl hk) HH18.out.kl.q0
  obtain ⟨ay19, cy19, ey, _⟩ := pr.row.form
  rw [lM] at ey
  subst ey
  clear pr em lM
  have HH19 := Lib.hid h
  have RA19 := Lib.hid (AV.out.1.keep RA18.out m)
  have RV19 := Lib.hid (AV.out.2.keep RV18.out m)
  clear h m HH18 RA18 RV18
  go_wp2_with fail
  refine (kl_dump HH19.out (by omega)).mono ?_
  rintro e v20 ⟨y20, M20, rfl, pr, em, h, m⟩
  have lM : M20.length = 1 := by have := congrArg List.length em; rw [List.length_map] at this; exact this
  replace h := h.less (Q' := Q2) (fun k hk => .inl hk) HH19.out.q0
  obtain ⟨ay20, cy20, ey, _⟩ := pr.row.form
  rw [lM] at ey
  subst ey
  clear pr em lM
  have HH20 := Lib.hid h
  have RA20 := Lib.hid (RA19.out.keep m (fun _ _ x => x))
  have RV20 := Lib.hid (RV19.out.keep m (fun _ _ x => x))
  clear h m HH19 RA19 RV19
  go_wp2_with fail
  refine (k2_copy HH20.out (by omega)).mono ?_
  rintro e v21 ⟨sc, rfl, h, m⟩
  have HH21 := Lib.hid h
  have RA21 := Lib.hid (RA20.out.keep m (fun _ _ x => x))
  have RV21 := Lib.hid (RV20.out.keep m (fun _ _ x => x))
  clear h m HH20 RA20 RV20
  go_wp2_with fail
  refine (PBytes_true (xs := [1]) (RV21.out.keep ((Mods.refl noB _).alloc _) (fun _ _ x => x)) (rd_one (b := 1) (heap_new _ _) rfl)).mono ?_
  rintro e v22 ⟨rfl, m⟩
  replace m := ((Mods.refl noB _).alloc _).then0 m
  have h := HH21.out.keep0 m
  have HH22 := Lib.hid h
  have RA22 := Lib.hid (RA21.out.keep m (fun _ _ x => x))
  have RV22 := Lib.hid (RV21.out.keep m (fun _ _ x => x))
  clear h m HH21 RA21 RV21
  go_wp2_with fail
  refine (kl_ops HH22.out.one (by omega)).mono ?_
  rintro e vv ⟨rfl, rfl⟩
  go_wp2_with fail
  refine (kl_ops HH22.out.swap.one (by omega)).mono ?_
  rintro e vv ⟨rfl, rfl⟩
  go_wp2_with fail
  refine (HH22.out.swap.call (cc_has RA22.out AV.out.1 (by omega) (by omega))).mono ?_
  rintro e v23 ⟨rfl, h, m⟩
  rw [show (getL _ _).isSome = true from by decide]
  have MF := Lib.hid h.one.mods
  clear h m
  go_wp2
  go_ret
  exact ⟨rfl, MF.out⟩
end Go.Proofs.Ytngemlpalkfjeaa

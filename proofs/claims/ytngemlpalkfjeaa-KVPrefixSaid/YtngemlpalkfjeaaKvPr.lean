/- Lists of pairs; gleanhelp.Pairs (printed by gen_kvpr.py). -/
import Derived.Test.YtngemlpalkfjeaaZB
namespace Go.Proofs.Ytngemlpalkfjeaa
open Go.Gl Go.RowKit
set_option linter.unusedVariables false
set_option linter.unusedSimpArgs false
set_option maxRecDepth 100000
theorem PBytes_true {x y : Value} {xs : List UInt8} {w : World} (hx : Rd w x xs) (hy : Rd w y xs) : Calls Try.prog 23 #[x, y] w fun e w' => e = .returned (.bool true) ∧ Mods noB w w' :=
  (Bytes_any hx hy).mono fun e w' ⟨he, hq⟩ => ⟨by rw [he]; simp, hq.mods _⟩
def MDL (L : List EV) (k : Nat) : Prop := ∃ e ∈ L, e.kv.ownBlock = some k ∨ e.vv.ownBlock = some k
structure PRow (w : World) (v : Value) (L : List EV) : Prop where
  row : RdG w 2 v L.length (ecell L)
  own : ∀ e ∈ L, Rd w e.kv e.k ∧ Rd w e.vv e.v
theorem PRow.keep {w w' : World} {v : Value} {L : List EV} {T : Nat → Prop} (h : PRow w v L) (hm : Mods T w w') (h1 : ∀ k, v.ownBlock = some k → ¬ T k) (h2 : ∀ k, MDL L k → ¬ T k) : PRow w' v L :=
  ⟨RdG.keep h.row hm h1, fun e he => ⟨(h.own e he).1.keep hm (fun k hk => h2 k ⟨e, he, .inl hk⟩), (h.own e he).2.keep hm (fun k hk => h2 k ⟨e, he, .inr hk⟩)⟩⟩
theorem PRow.keep0 {w w' : World} {v : Value} {L : List EV} (h : PRow w v L) (hm : Mods noB w w') : PRow w' v L := h.keep hm (fun _ _ x => x) (fun _ _ x => x)
theorem PRow.at {w : World} {v : Value} {L : List EV} (h : PRow w v L) : ∃ a cap, v = .slice a L.length cap ∧ ∀ i (hi : i < L.length), ∃ b off, a = some ⟨b, off, none⟩ ∧ b < w.heap.size ∧ w.cell? ⟨b, off + i * 2, none⟩ = some (L[i]).kv ∧ w.cell? ⟨b, off + i * 2 + 1, none⟩ = some (L[i]).vv := by
  rcases h.row.2 with ⟨h0, hn⟩ | ⟨g, off, cap, hv, h1, h2, hg, hc⟩
  · obtain ⟨a0, rfl⟩ := h0.form
    refine ⟨a0, 0, by rw [hn], fun i hi => by omega⟩
  · refine ⟨_, cap, hv, fun i hi => ⟨g, off, rfl, by rcases hg with h | h <;> omega, hc _ _ (ecell_get L i hi).1, ?_⟩⟩
    have := hc _ _ (ecell_get L i hi).2
    rw [Nat.add_assoc]
    exact this
set_option maxHeartbeats 1000000 in
theorem prs6 {w : World} {a oa ca b ob cb n i : Nat} {u v x y : Value} {xs ys : List UInt8} (c1 : w.cell? ⟨a, oa + i * 2, none⟩ = some u) (c2 : w.cell? ⟨b, ob + i * 2, none⟩ = some v) (c3 : w.cell? ⟨a, oa + i * 2 + 1, none⟩ = some x) (c4 : w.cell? ⟨b, ob + i * 2 + 1, none⟩ = some y) (ha : a < w.heap.size) (hb : b < w.heap.size) (hi : i < n) (hn : n ≤ 1000000000) (hu : Rd w u xs) (hv : Rd w v xs) (hx : Rd w x ys) (hy : Rd w y ys) {x2 x3 x4 x6 x7 x8 x9 x10 x11 x12 x13 x14 x15 x16 x17 x18 x19 x20 x21 x22 x23 x24 x25 x26 x27 x28 x29 x30 x31 x32 x33 x34 x35 x36 x37 x38 x39 x40 x41 x42 : Value} {df : List Deferred} {Q : Exit → Act → World → Prop}
    (hK : ∀ (y17 y18 y19 y20 y21 y22 y23 y24 y25 y26 y27 y28 y29 y30 y31 y32 y33 y34 y35 y36 y37 y38 y39 y40 y41 : Value)  (w' : World), Mods noB w w' → Q .normal ⟨#[.slice (some ⟨a, oa, none⟩) n ca, .slice (some ⟨b, ob, none⟩) n cb, x2, x3, x4, .int .i64 ((i : Nat) : Int), x6, x7, x8, x9, x10, x11, x12, x13, x14, x15, x16, y17, y18, y19, y20, y21, y22, y23, y24, y25, y26, y27, y28, y29, y30, y31, y32, y33, y34, y35, y36, y37, y38, y39, y40, y41, .bool false], df⟩ w') : RW Try.prog (opsC 6 Try.f14) true Q ⟨#[.slice (some ⟨a, oa, none⟩) n ca, .slice (some ⟨b, ob, none⟩) n cb, x2, x3, x4, .int .i64 ((i : Nat) : Int), x6, x7, x8, x9, x10, x11, x12, x13, x14, x15, x16, x17, x18, x19, x20, x21, x22, x23, x24, x25, x26, x27, x28, x29, x30, x31, x32, x33, x34, x35, x36, x37, x38, x39, x40, x41, x42], df⟩ w := by
  have HQ := Lib.hid hK
  clear hK
  have HU := Lib.hid hu
  have HV := Lib.hid hv
  have HX := Lib.hid hx
  have HY := Lib.hid hy
  have Q1 := Lib.hid (fun b' (hm : Mods noB w b') => (hm.cellAt ha (fun x => x) _).trans c1)
  have Q2 := Lib.hid (fun b' (hm : Mods noB w b') => (hm.cellAt hb (fun x => x) _).trans c2)
  have Q3 := Lib.hid (fun b' (hm : Mods noB w b') => (hm.cellAt ha (fun x => x) _).trans c3)
  have Q4 := Lib.hid (fun b' (hm : Mods noB w b') => (hm.cellAt hb (fun x => x) _).trans c4)
  clear hu hv hx hy c1 c2 c3 c4
  have MR := Lib.hid ((Mods.refl noB w).drew)
  refine rw_ordF (S := fun b' => Mods noB w b') [(0, true), (1, true), (2, true), (3, true), (4, true), (5, true), (6, true), (7, true), (8, true), (9, true), (10, false), (11, true), (12, true), (13, true), (14, true), (15, true), (16, true), (17, true), (18, true), (19, true), (20, true), (21, true), (22, true), (23, false), (24, true), (25, true)] [] [(0, 1, 131072), (0, 32, 262144), (3, 393216, 524288), (4, 524288, 1048576), (8, 1048576, 2097152), (0, 2, 4194304), (0, 32, 8388608), (96, 12582912, 16777216), (128, 16777216, 33554432), (256, 33554432, 67108864), (528, 69206016, 134217728), (1024, 134217728, 268435456), (3072, 268435456, 536870912), (4096, 536870913, 1073741824), (4096, 536870944, 2147483648), (28672, 3758096384, 4294967296), (36864, 4831838208, 8589934592), (69632, 9126805504, 17179869184), (4096, 536870914, 34359738368), (4096, 536870944, 68719476736), (790528, 103616086016, 137438953472), (1052672, 137975824384, 274877906944), (2101248, 275414777856, 549755813888), (4329472, 567472553984, 1099511627776), (8392704, 1100048498688, 2199023255552), (16781312, 2199560126464, 4398046511104)] (by kernel_rfl) (by kernel_rfl) (by kernel_rfl) (by kernel_rfl) (by kernel_rfl) MR.out ?_
  refine wpOrdT_frees [0, 1] [.slice (some ⟨a, oa, none⟩) n ca, .int .i64 ((i : Nat) : Int)] (rest := [(2, true), (3, true), (4, true), (5, true), (6, true), (7, true), (8, true), (9, true), (10, false), (11, true), (12, true), (13, true), (14, true), (15, true), (16, true), (17, true), (18, true), (19, true), (20, true), (21, true), (22, true), (23, false), (24, true), (25, true)]) (by kernel_rfl) (by kernel_rfl) (fun _ => by kernel_rfl) ?_
  refine wpOrdT_free (.pointer (some ⟨a, oa + i * 2, none⟩)) (some 19) ⟨by kernel_rfl, by kernel_rfl, by kernel_rfl⟩ (fun bb hb => run_idx (s := 2) (e := 45) (g := a) (off := oa) (n := n) (c := ca) (i := ((i : Nat) : Int)) (x := (.tmp 17)) (y := (.tmp 18)) (oa + i * 2) (by kernel_rfl) (by kernel_rfl) (by kernel_rfl) Try.underlying28 (by kernel_rfl) (by omega) (by omega) (by omega)) ?_
  refine wpOrdT_frees [3] [.pointer (some ⟨a, oa + i * 2, none⟩)] (rest := [(4, true), (5, true), (6, true), (7, true), (8, true), (9, true), (10, false), (11, true), (12, true), (13, true), (14, true), (15, true), (16, true), (17, true), (18, true), (19, true), (20, true), (21, true), (22, true), (23, false), (24, true), (25, true)]) (by kernel_rfl) (by kernel_rfl) (fun _ => by kernel_rfl) ?_
  refine wpOrdT_free (u) (some 21) ⟨by kernel_rfl, by kernel_rfl, by kernel_rfl⟩ (fun bb hb => of_load (x := (.tmp 20)) (by kernel_rfl) (by kernel_rfl) (load_c (Q1.out _ hb) Try.underlying32 rfl)) ?_
  refine wpOrdT_frees [5, 6] [.slice (some ⟨b, ob, none⟩) n cb, .int .i64 ((i : Nat) : Int)] (rest := [(7, true), (8, true), (9, true), (10, false), (11, true), (12, true), (13, true), (14, true), (15, true), (16, true), (17, true), (18, true), (19, true), (20, true), (21, true), (22, true), (23, false), (24, true), (25, true)]) (by kernel_rfl) (by kernel_rfl) (fun _ => by kernel_rfl) ?_
  refine wpOrdT_free (.pointer (some ⟨b, ob + i * 2, none⟩)) (some 24) ⟨by kernel_rfl, by kernel_rfl, by kernel_rfl⟩ (fun bb hb => run_idx (s := 2) (e := 45) (g := b) (off := ob) (n := n) (c := cb) (i := ((i : Nat) : Int)) (x := (.tmp 22)) (y := (.tmp 23)) (ob + i * 2) (by kernel_rfl) (by kernel_rfl) (by kernel_rfl) Try.underlying28 (by kernel_rfl) (by omega) (by omega) (by omega)) ?_
  refine wpOrdT_frees [8] [.pointer (some ⟨b, ob + i * 2, none⟩)] (rest := [(9, true), (10, false), (11, true), (12, true), (13, true), (14, true), (15, true), (16, true), (17, true), (18, true), (19, true), (20, true), (21, true), (22, true), (23, false), (24, true), (25, true)]) (by kernel_rfl) (by kernel_rfl) (fun _ => by kernel_rfl) ?_
  refine wpOrdT_free (v) (some 26) ⟨by kernel_rfl, by kernel_rfl, by kernel_rfl⟩ (fun bb hb => of_load (x := (.tmp 25)) (by kernel_rfl) (by kernel_rfl) (load_c (Q2.out _ hb) Try.underlying32 rfl)) ?_
  refine wpOrdT_call (some 27) ⟨by kernel_rfl, by kernel_rfl, by kernel_rfl⟩ (PBytes_true (HU.out.keep MR.out (fun _ _ x => x)) (HV.out.keep MR.out (fun _ _ x => x))) (fun _ => by kernel_rfl) ?_
  rintro r w7 ⟨rfl, q7⟩
  replace MR := Lib.hid (MR.out.then0 q7)
  refine ⟨_, rfl, fun _ => MR.out, ?_⟩
  refine wpOrdT_frees [11, 12, 13, 14] [.bool false, .bool false, .slice (some ⟨a, oa, none⟩) n ca, .int .i64 ((i : Nat) : Int)] (rest := [(15, true), (16, true), (17, true), (18, true), (19, true), (20, true), (21, true), (22, true), (23, false), (24, true), (25, true)]) (by kernel_rfl) (by kernel_rfl) (fun _ => by kernel_rfl) ?_
  refine wpOrdT_free (.pointer (some ⟨a, oa + i * 2, none⟩)) (some 32) ⟨by kernel_rfl, by kernel_rfl, by kernel_rfl⟩ (fun bb hb => run_idx (s := 2) (e := 45) (g := a) (off := oa) (n := n) (c := ca) (i := ((i : Nat) : Int)) (x := (.tmp 30)) (y := (.tmp 31)) (oa + i * 2) (by kernel_rfl) (by kernel_rfl) (by kernel_rfl) Try.underlying28 (by kernel_rfl) (by omega) (by omega) (by omega)) ?_
  refine wpOrdT_frees [16] [.pointer (some ⟨a, oa + i * 2 + 1, none⟩)] (rest := [(17, true), (18, true), (19, true), (20, true), (21, true), (22, true), (23, false), (24, true), (25, true)]) (by kernel_rfl) (by kernel_rfl) (fun _ => by kernel_rfl) ?_
  refine wpOrdT_free (x) (some 34) ⟨by kernel_rfl, by kernel_rfl, by kernel_rfl⟩ (fun bb hb => of_load (x := (.tmp 33)) (by kernel_rfl) (by kernel_rfl) (load_c (Q3.out _ hb) Try.underlying32 rfl)) ?_
  refine wpOrdT_frees [18, 19] [.slice (some ⟨b, ob, none⟩) n cb, .int .i64 ((i : Nat) : Int)] (rest := [(20, true), (21, true), (22, true), (23, false), (24, true), (25, true)]) (by kernel_rfl) (by kernel_rfl) (fun _ => by kernel_rfl) ?_
  refine wpOrdT_free (.pointer (some ⟨b, ob + i * 2, none⟩)) (some 37) ⟨by kernel_rfl, by kernel_rfl, by kernel_rfl⟩ (fun bb hb => run_idx (s := 2) (e := 45) (g := b) (off := ob) (n := n) (c := cb) (i := ((i : Nat) : Int)) (x := (.tmp 35)) (y := (.tmp 36)) (ob + i * 2) (by kernel_rfl) (by kernel_rfl) (by kernel_rfl) Try.underlying28 (by kernel_rfl) (by omega) (by omega) (by omega)) ?_
  refine wpOrdT_frees [21] [.pointer (some ⟨b, ob + i * 2 + 1, none⟩)] (rest := [(22, true), (23, false), (24, true), (25, true)]) (by kernel_rfl) (by kernel_rfl) (fun _ => by kernel_rfl) ?_
  refine wpOrdT_free (y) (some 39) ⟨by kernel_rfl, by kernel_rfl, by kernel_rfl⟩ (fun bb hb => of_load (x := (.tmp 38)) (by kernel_rfl) (by kernel_rfl) (load_c (Q4.out _ hb) Try.underlying32 rfl)) ?_
  refine wpOrdT_call (some 40) ⟨by kernel_rfl, by kernel_rfl, by kernel_rfl⟩ (PBytes_true (HX.out.keep MR.out (fun _ _ x => x)) (HY.out.keep MR.out (fun _ _ x => x))) (fun _ => by kernel_rfl) ?_
  rintro r w7 ⟨rfl, q7⟩
  replace MR := Lib.hid (MR.out.then0 q7)
  refine ⟨_, rfl, fun _ => MR.out, ?_⟩
  refine wpOrdT_frees [24, 25] [.bool false, .bool false] (rest := []) (by kernel_rfl) (by kernel_rfl) (fun _ => by kernel_rfl) ?_
  exact wpOrdT_doneC (act_is (K := Q .normal) (by kernel_rfl) (HQ.out (.slice (some ⟨a, oa, none⟩) n ca) (.int .i64 ((i : Nat) : Int)) (.pointer (some ⟨a, oa + i * 2, none⟩)) (.pointer (some ⟨a, oa + i * 2, none⟩)) (u) (.slice (some ⟨b, ob, none⟩) n cb) (.int .i64 ((i : Nat) : Int)) (.pointer (some ⟨b, ob + i * 2, none⟩)) (.pointer (some ⟨b, ob + i * 2, none⟩)) (v) (.bool true) (.bool false) (.bool false) (.slice (some ⟨a, oa, none⟩) n ca) (.int .i64 ((i : Nat) : Int)) (.pointer (some ⟨a, oa + i * 2, none⟩)) (.pointer (some ⟨a, oa + i * 2 + 1, none⟩)) (x) (.slice (some ⟨b, ob, none⟩) n cb) (.int .i64 ((i : Nat) : Int)) (.pointer (some ⟨b, ob + i * 2, none⟩)) (.pointer (some ⟨b, ob + i * 2 + 1, none⟩)) (y) (.bool true) (.bool false) _ MR.out))
set_option maxHeartbeats 2000000 in
theorem Pairs_true {w : World} {x y : Value} {L M : List EV} (hx : PRow w x L) (hy : PRow w y M) (h : L.map EV.ent = M.map EV.ent) (hn : L.length ≤ 1000000) :
    Calls Try.prog 14 #[x, y] w fun e w' => e = .returned (.bool true) ∧ Mods noB w w' := by
  obtain ⟨a, ca, rfl, ha⟩ := hx.at
  obtain ⟨b, cb, rfl, hb⟩ := hy.at
  have hl : M.length = L.length := by have := congrArg List.length h; simpa using this.symm
  obtain ⟨n, hL⟩ : ∃ n, L.length = n := ⟨_, rfl⟩
  have he : ∀ i (h1 : i < L.length) (h2 : i < M.length), (L[i]).k = (M[i]).k ∧ (L[i]).v = (M[i]).v := fun i h1 h2 => by
    have h3 : (L.map EV.ent)[i]'(by simpa using h1) = (M.map EV.ent)[i]'(by simpa using h2) := by simp only [h]
    rw [List.getElem_map, List.getElem_map] at h3
    exact ⟨congrArg Prod.fst h3, congrArg Prod.snd h3⟩
  have HX := Lib.hid hx
  have HY := Lib.hid hy
  have HE := Lib.hid he
  have HA := Lib.hid ha
  have HB := Lib.hid hb
  rw [hL] at hl hn
  rw [hL, hl]
  have HL := Lib.hid hL
  have HM := Lib.hid hl
  clear hx hy h hL hl he ha hb
  go_enter Try.func14, Try.ntmps14
  go_wp2
  go_loopw [5] (fun i wr => ∃ k : Nat, k ≤ n ∧ i = .int .i64 k ∧ Hid (Mods noB w wr)) (fun i _ => n - (intOf i).toNat)
  case atStart => exact ⟨0, Nat.zero_le _, rfl, Lib.hid (Mods.refl _ _)⟩
  case round =>
    obtain ⟨k, hk, rfl, hM⟩ := hrel
    by_cases hlt : k < n
    · have lx : k < L.length := by rw [HL.out]; exact hlt
      have ly : k < M.length := by rw [HM.out]; exact hlt
      obtain ⟨ga, oa, rfl, h1, h2, h3⟩ := HA.out k lx
      obtain ⟨gb, ob, rfl, h4, h5, h6⟩ := HB.out k ly
      obtain ⟨e1, e2⟩ := HE.out k lx ly
      obtain ⟨p1, p2⟩ := (HX.out.keep0 hM.out).own _ (List.getElem_mem lx)
      obtain ⟨p3, p4⟩ := (HY.out.keep0 hM.out).own _ (List.getElem_mem ly)
      rw [← e1] at p3
      rw [← e2] at p4
      have c1 := (hM.out.cellAt h1 (fun x => x) _).trans h2
      have c3 := (hM.out.cellAt h1 (fun x => x) _).trans h3
      have c2 := (hM.out.cellAt h4 (fun x => x) _).trans h5
      have c4 := (hM.out.cellAt h4 (fun x => x) _).trans h6
      have s1 := hM.out.size
      have hki : (k : Int) < (n : Int) := by omega
      clear h2 h3 h5 h6
      go_upto_region 6 with fail
      refine wp_tl (d := .region 6 (opsC 6 Try.f14) true) (by kernel_rfl) ?_
      refine RW.wp (prs6 c1 c2 c3 c4 (by omega) (by omega) hlt (by omega) p1 p3 p2 p4 ?_)
      intros
      rename_i w2 m2
      have M2 := Lib.hid (hM.out.then0 m2)
      clear c1 c2 c3 c4 p1 p2 p3 p4 e1 e2 m2 hM
      go_wp2
      go_roundw
      case rel => exact ⟨k + 1, by omega, by go_num, M2⟩
      case measure => simp [intOf]; omega
    · go_wp2
      go_ret
      exact ⟨rfl, hM.out⟩
theorem prow_one {w : World} {v : Value} {L : List EV} (h : PRow w v L) : ∀ e ∈ L, e.kv.oneCell' = true ∧ e.vv.oneCell' = true := fun e he => by
  obtain ⟨a1, c1, h1, _⟩ := (h.own e he).1.form
  obtain ⟨a2, c2, h2, _⟩ := (h.own e he).2.form
  exact ⟨by rw [h1]; rfl, by rw [h2]; rfl⟩
structure GrP (w w' : World) (v : Value) (L : List EV) : Prop where
  row : OwnG w' 45 2 v L.length (ecell L)
  mods : Mods noB w w'
  fr : freshIn w v
theorem GrP.nil (w : World) : GrP w w (.slice none 0 0) [] := ⟨⟨rfl, .inl ⟨rfl, rfl⟩⟩, Mods.refl _ _, fun k hk => by simp [Value.ownBlock] at hk⟩
theorem GrP.then0 {w w' w'' : World} {v : Value} {L : List EV} (h : GrP w w' v L) (hm : Mods noB w' w'') : GrP w w'' v L := ⟨h.row.keep hm (fun _ _ x => x), h.mods.then0 hm, h.fr⟩
theorem GrP.push {w w' w'' : World} {v v8 : Value} {L : List EV} {e : EV} (h : GrP w w' v L) (o : OwnG w'' 45 2 v8 (L.length + 1) (ecell L ++ [e.kv, e.vv])) (m : Mods (ofV v) w' w'') (f : v8.ownBlock = v.ownBlock ∨ freshIn w' v8) : GrP w w'' v8 (L ++ [e]) := by
  refine ⟨?_, h.mods.trans m (fun _ _ x => x) (fun i hi x => by have := h.fr i x; omega), ?_⟩
  · rw [List.length_append, List.length_singleton, ecell_append]; exact o
  · rcases f with f | f
    · exact fun k hk => h.fr k (f ▸ hk)
    · exact f.of h.mods.size
theorem GrP.prow {w w' : World} {v u : Value} {L M : List EV} (h : GrP w w' v L) (hp : PRow w u M) (hs : ∀ e ∈ L, e ∈ M) : PRow w' v L := ⟨h.row.rd, fun e he => (hp.keep0 h.mods).own e (hs e he)⟩
end Go.Proofs.Ytngemlpalkfjeaa

/- PagePlays: P5.1 to P5.3. -/
import Derived.Test.YtjlomnhngngkiaaPgPv
import Derived.Test.YtjlomnhngngkiaaPgPl
import Derived.Test.YtjlomnhngngkiaaHSpoil
import Derived.Deep.CutBlock
import Derived.Deep.DeepCutAuto
import Derived.Outline
namespace Go.Proofs.Ytjlomnhngngkiaa
open Go.Gl Go.RowKit
set_option linter.unusedVariables false

def G6 (g0 g1 g2 h0 h1 h2 : Nat) : Nat → BX
  | 0 => ⟨g0, .slice none 0 0, []⟩
  | 1 => ⟨g1, .slice none 0 0, []⟩
  | 2 => ⟨g2, .slice none 0 0, []⟩
  | 3 => ⟨h0, .slice none 0 0, []⟩
  | 4 => ⟨h1, .slice none 0 0, []⟩
  | _ => ⟨h2, .slice none 0 0, []⟩
theorem ms0 {g k : Nat} (h : MS g (.slice none 0 0) [] k) : k = g := by
  rcases h with h | h | ⟨p, hp, _⟩
  · exact h
  · simp [Value.ownBlock] at h
  · exact (List.not_mem_nil hp).elim
theorem md0 {k : Nat} (h : MD [] k) : False := by
  obtain ⟨p, hp, _⟩ := h
  exact List.not_mem_nil hp
theorem qm0 {w : World} {h : Nat} (hh : w.heap[h]? = some (.cells #[.slice none 0 0] 31 (0, 0))) : QM w h (.slice none 0 0) [] :=
  ⟨hh, ⟨rfl, .inl ⟨rfl, rfl⟩⟩, fun p hp => (List.not_mem_nil hp).elim, fun p hp => (List.not_mem_nil hp).elim, by simp [Value.ownBlock], fun p hp => (List.not_mem_nil hp).elim, List.Pairwise.nil, fun k hk => (md0 hk).elim, fun k hk => (md0 hk).elim⟩
theorem start6 {w0 w : World} {g0 g1 g2 h0 h1 h2 : Nat} (m : Mods noB w0 w) (a0 : PM w g0 (.slice none 0 0) []) (a1 : PM w g1 (.slice none 0 0) []) (a2 : PM w g2 (.slice none 0 0) []) (b0 : QM w h0 (.slice none 0 0) []) (b1 : QM w h1 (.slice none 0 0) []) (b2 : QM w h2 (.slice none 0 0) [])
    (l0 : w0.heap.size ≤ g0) (l1 : g0 < g1) (l2 : g1 < g2) (l3 : g2 < h0) (l4 : h0 < h1) (l5 : h1 < h2) : P6 w0 w (G6 g0 g1 g2 h0 h1 h2) (fun _ => []) 0 := by
  have gs : ∀ j, j < 6 → w0.heap.size ≤ (G6 g0 g1 g2 h0 h1 h2 j).g := fun j hj => by
    rcases j with _ | _ | _ | _ | _ | _ | j <;> simp [G6] <;> omega
  have ne : ∀ i j, i < 6 → j < 6 → i ≠ j → (G6 g0 g1 g2 h0 h1 h2 i).g ≠ (G6 g0 g1 g2 h0 h1 h2 j).g := fun i j hi hj hij => by
    rcases i with _ | _ | _ | _ | _ | _ | i <;> rcases j with _ | _ | _ | _ | _ | _ | j <;> simp [G6] <;> omega
  have vo : ∀ j, (G6 g0 g1 g2 h0 h1 h2 j).vo = .slice none 0 0 ∧ (G6 g0 g1 g2 h0 h1 h2 j).R = [] := fun j => by
    rcases j with _ | _ | _ | _ | _ | j <;> exact ⟨rfl, rfl⟩
  refine ⟨fun j hj => ?_, fun j hj => by rw [(vo j).2]; rfl, fun j hj k hk => ?_, fun i j hi hj hij => ⟨fun k x y => ?_, fun k x y => ?_, fun k x y => ?_⟩, m, fun _ _ => ⟨List.Pairwise.nil, fun p hp => (List.not_mem_nil hp).elim, fun p hp => (List.not_mem_nil hp).elim⟩, fun _ _ => Nat.le_refl _⟩
  · rcases j with _ | _ | _ | _ | _ | _ | j
    · exact a0
    · exact a1
    · exact a2
    · exact b0
    · exact b1
    · exact b2
    · omega
  · rw [(vo j).1, (vo j).2] at hk
    rw [ms0 hk]; exact gs j hj
  · rw [(vo i).1, (vo i).2] at x
    rw [(vo j).1, (vo j).2] at y
    exact ne i j hi hj hij ((ms0 x).symm.trans (ms0 y))
  · rw [(vo i).2] at x; exact md0 x
  · rw [(vo j).2] at x; exact md0 x
theorem tabs6 {w0 w : World} {mb rb g0 g1 g2 h0 h1 h2 : Nat} (a : w.heap[mb]? = some (.cells #[.pointer (some ⟨g0, 0, none⟩), .pointer (some ⟨g1, 0, none⟩), .pointer (some ⟨g2, 0, none⟩)] 25 (0, 0)))
    (b : w.heap[rb]? = some (.cells #[.pointer (some ⟨h0, 0, none⟩), .pointer (some ⟨h1, 0, none⟩), .pointer (some ⟨h2, 0, none⟩)] 28 (0, 0))) (l0 : w0.heap.size ≤ g0) (l1 : g0 < g1) (l2 : g1 < g2) (l3 : g2 < mb) (l4 : mb < h0) (l5 : h0 < h1) (l6 : h1 < h2) (l7 : h2 < rb) : T6 w0 w mb rb (G6 g0 g1 g2 h0 h1 h2) := by
  have vo : ∀ j, (G6 g0 g1 g2 h0 h1 h2 j).vo = .slice none 0 0 ∧ (G6 g0 g1 g2 h0 h1 h2 j).R = [] := fun j => by
    rcases j with _ | _ | _ | _ | _ | j <;> exact ⟨rfl, rfl⟩
  refine ⟨⟨_, a, rfl, fun j hj => ?_⟩, ⟨_, b, rfl, fun j hj => ?_⟩, by omega, by omega, by omega, fun j hj k hk => ⟨fun x => ?_, fun x => ?_⟩⟩
  · rcases j with _ | _ | _ | j <;> first | rfl | omega
  · rcases j with _ | _ | _ | j <;> first | rfl | omega
  · rw [(vo j).1, (vo j).2] at x
    have := ms0 x
    rcases j with _ | _ | _ | _ | _ | _ | j <;> simp [G6] at this <;> omega
  · rw [(vo j).2] at x; exact md0 x

theorem init6 {w2 w3 w4 w5 : World} {g0 g1 g2 : Nat} (a : PM w3 g0 (.slice none 0 0) [] ∧ Mods noB w2 w3 ∧ w2.heap.size ≤ g0) (b : PM w4 g1 (.slice none 0 0) [] ∧ Mods noB w3 w4 ∧ w3.heap.size ≤ g1) (c : PM w5 g2 (.slice none 0 0) [] ∧ Mods noB w4 w5 ∧ w4.heap.size ≤ g2) :
    let W := ((((w5.alloc (.cells #[.pointer (some ⟨g0, 0, none⟩), .pointer (some ⟨g1, 0, none⟩), .pointer (some ⟨g2, 0, none⟩)] 25)).alloc (.cells #[.slice none 0 0] 31)).alloc (.cells #[.slice none 0 0] 31)).alloc (.cells #[.slice none 0 0] 31)).alloc
      (.cells #[.pointer (some ⟨w5.heap.size + 1, 0, none⟩), .pointer (some ⟨w5.heap.size + 1 + 1, 0, none⟩), .pointer (some ⟨w5.heap.size + 1 + 1 + 1, 0, none⟩)] 28)
    P6 w2 W (G6 g0 g1 g2 (w5.heap.size + 1) (w5.heap.size + 1 + 1) (w5.heap.size + 1 + 1 + 1)) (fun _ => []) 0 ∧ T6 w2 W w5.heap.size (w5.heap.size + 1 + 1 + 1 + 1) (G6 g0 g1 g2 (w5.heap.size + 1) (w5.heap.size + 1 + 1) (w5.heap.size + 1 + 1 + 1)) := by
  intro W
  have l0 := a.1.lt g0 (.inl rfl)
  have l1 := b.1.lt g1 (.inl rfl)
  have l2 := c.1.lt g2 (.inl rfl)
  have m : Mods noB w5 W := (((((Mods.refl noB w5).alloc _).alloc _).alloc _).alloc _).alloc _
  have hm := heap_new w5 (.cells #[.pointer (some ⟨g0, 0, none⟩), .pointer (some ⟨g1, 0, none⟩), .pointer (some ⟨g2, 0, none⟩)] 25)
  have q0 := heap_new (w5.alloc (.cells #[.pointer (some ⟨g0, 0, none⟩), .pointer (some ⟨g1, 0, none⟩), .pointer (some ⟨g2, 0, none⟩)] 25)) (.cells #[.slice none 0 0] 31)
  have q1 := heap_new ((w5.alloc (.cells #[.pointer (some ⟨g0, 0, none⟩), .pointer (some ⟨g1, 0, none⟩), .pointer (some ⟨g2, 0, none⟩)] 25)).alloc (.cells #[.slice none 0 0] 31)) (.cells #[.slice none 0 0] 31)
  have q2 := heap_new (((w5.alloc (.cells #[.pointer (some ⟨g0, 0, none⟩), .pointer (some ⟨g1, 0, none⟩), .pointer (some ⟨g2, 0, none⟩)] 25)).alloc (.cells #[.slice none 0 0] 31)).alloc (.cells #[.slice none 0 0] 31)) (.cells #[.slice none 0 0] 31)
  have hr := heap_new ((((w5.alloc (.cells #[.pointer (some ⟨g0, 0, none⟩), .pointer (some ⟨g1, 0, none⟩), .pointer (some ⟨g2, 0, none⟩)] 25)).alloc (.cells #[.slice none 0 0] 31)).alloc (.cells #[.slice none 0 0] 31)).alloc (.cells #[.slice none 0 0] 31)) (.cells #[.pointer (some ⟨w5.heap.size + 1, 0, none⟩), .pointer (some ⟨w5.heap.size + 1 + 1, 0, none⟩), .pointer (some ⟨w5.heap.size + 1 + 1 + 1, 0, none⟩)] 28)
  simp only [World.size_alloc] at q0 q1 q2 hr
  have s1 := b.2.1.size
  have s2 := c.2.1.size
  refine ⟨start6 ((((a.2.1.then0 b.2.1).then0 c.2.1)).then0 m) (((a.1.keep0 b.2.1).keep0 c.2.1).keep0 m) ((b.1.keep0 c.2.1).keep0 m) (c.1.keep0 m) (qm0 (heap_old (heap_old (heap_old q0 _) _) _)) (qm0 (heap_old (heap_old q1 _) _)) (qm0 (heap_old q2 _)) a.2.2 (by omega) (by omega) (by omega) (by omega) (by omega), tabs6 (heap_old (heap_old (heap_old (heap_old hm _) _) _) _) hr a.2.2 (by omega) (by omega) (by omega) (by omega) (by omega) (by omega) (by omega)⟩

namespace pagePlays
open Go.Gl Go.RowKit Go.ChangeShapes Go.WideShapes Go.ChangeAt
set_option maxRecDepth 100000
set_option maxHeartbeats 8000000 in
theorem walk (y : Value) (l : List PStp) (w : World) (hy : RdPs w y l) :
    Calls Try.prog 3 #[y] w fun e w' => e = .returned (.bool true) ∧ Below w.heap.size w w' := by
  obtain ⟨b0, k, d, rfl, hk, hd1, hd2, hd3⟩ := hy.form
  have HY := Lib.hid hy
  have HK := Lib.hid hk
  clear hy hk
  go_enter Try.func3, Try.ntmps3
  go_wp2_with fail
  refine (pknown_any _).mono ?_
  rintro e w1 ⟨rfl, m1⟩
  have M1 := Lib.hid m1
  clear m1
  go_wp2_with fail
  refine (plight_any (HY.out.keep M1.out)).mono ?_
  rintro e w2 ⟨rfl, q2⟩
  have M2 := Lib.hid (M1.out.then0 (q2.mods noB))
  clear q2 M1
  cases hL : plightB l with
  | false =>
    go_wp2_with fail
    go_ret
    exact ⟨rfl, M2.out.below⟩
  | true =>
    have HL := Lib.hid (plight_len hL)
    have hk6 : k ≤ 6000 := by have := HL.out.1; have := HK.out; omega
    have HK6 := Lib.hid hk6
    clear hL hk6
    go_wp2_with fail
    refine (New_any w2).mono ?_
    rintro e w3 ⟨g0, rfl, pm0, m3, hg0⟩
    have G0 := Lib.hid (And.intro pm0 (And.intro m3 hg0))
    clear pm0 m3 hg0
    go_wp2_with fail
    refine (New_any w3).mono ?_
    rintro e w4 ⟨g1, rfl, pm1, m4, hg1⟩
    have G1 := Lib.hid (And.intro pm1 (And.intro m4 hg1))
    clear pm1 m4 hg1
    go_wp2_with fail
    refine (New_any w4).mono ?_
    rintro e w5 ⟨g2, rfl, pm2, m5, hg2⟩
    have G2 := Lib.hid (And.intro pm2 (And.intro m5 hg2))
    clear pm2 m5 hg2
    go_upto_region 7 with fail
    have INIT := Lib.hid (init6 G0.out G1.out G2.out)
    clear G0 G1 G2
    generalize World.alloc (World.alloc (World.alloc (World.alloc (World.alloc w5 _) _) _) _) _ = W at *
    generalize w5.heap.size + 1 + 1 + 1 + 1 = rb at *
    generalize w5.heap.size = mb at *
    go_wp2
    go_loopw [5] (fun i wr => ∃ j : Nat, i = .int .i64 j ∧ j ≤ k ∧ Hid (∃ X A, P6 w2 wr X A j ∧ T6 w2 wr mb rb X ∧ Co A)) (fun i _ => k - (intOf i).toNat)
    case atStart => exact ⟨0, rfl, by omega, Lib.hid ⟨_, _, INIT.out.1, INIT.out.2, fun _ _ => rfl⟩⟩
    case round =>
      clear INIT
      obtain ⟨j, rfl, hj, hR⟩ := hrel
      obtain ⟨X, A, hp, ht6, hco⟩ := hR.out
      have H := Lib.hid (And.intro hp (And.intro ht6 hco))
      clear hR hp ht6 hco
      have hjB : (j : Int) ≤ 6000 := by have := HK6.out; omega
      by_cases h1 : j < k
      · have h1b : (j : Int) < (k : Int) := by omega
        obtain ⟨gs, so, rfl, hgs, hc, at1⟩ := HY.out.get (M2.out.then0 H.out.1.mods) h1 HK.out
        obtain ⟨sl1, sl2⟩ := HL.out.2 j (by rw [HK.out]; exact h1)
        have c0 := hc 0 (by omega)
        have c1 := hc 1 (by omega)
        have c2 := hc 2 (by omega)
        have c3 := hc 3 (by omega)
        have c4 := hc 4 (by omega)
        have at2 := (HY.out.get M2.out h1 HK.out)
        replace at2 : (l[j]'(by rw [HK.out]; exact h1)).At w2 := by
          obtain ⟨_, _, _, _, _, x⟩ := at2
          exact x
        rw [show PStp.cell _ 0 = .int .i64 (l[j]'(by rw [HK.out]; exact h1)).at_ from rfl, Nat.add_zero] at c0
        rw [show PStp.cell _ 1 = .int .i64 (l[j]'(by rw [HK.out]; exact h1)).what from rfl] at c1
        rw [show PStp.cell _ 2 = .int .i64 (l[j]'(by rw [HK.out]; exact h1)).n from rfl] at c2
        rw [show PStp.cell _ 3 = (l[j]'(by rw [HK.out]; exact h1)).kv from rfl] at c3
        rw [show PStp.cell _ 4 = (l[j]'(by rw [HK.out]; exact h1)).vv from rfl] at c4
        generalize (l[j]'(by rw [HK.out]; exact h1)) = s at *
        have AT := Lib.hid at1
        have A2 := Lib.hid at2
        have SL := Lib.hid (And.intro sl1 sl2)
        obtain ⟨ka, kc, ke, _⟩ := at1.k.form
        obtain ⟨va, vc, ve, _⟩ := at1.v.form
        have o3 : s.kv.oneCell' = true := by rw [ke]; rfl
        have o4 : s.vv.oneCell' = true := by rw [ve]; rfl
        clear hc at1 at2 sl1 sl2 ke ve
        go_upto_region 10 with fail
        refine wp_tl (d := .region 10 (opsC 10 Try.f3) false) (by kernel_rfl) ?_
        refine RW.wp (ppl10 c0 c1 c2 c3 c4 h1 rfl rfl rfl o3 o4 ?_)
        intros
        rename_i sb w3 hsb hS m3
        have S3 := Lib.hid (And.intro hsb (And.intro hS m3))
        have d0 := cells_of hS 0
        clear c0 c1 c2 c3 c4 o3 o4 hsb hS m3
        go_wp2_with fail
        refine (PPlace_any s.at_ 3 _ AT.out.a1 AT.out.a2 (by decide) (by decide)).mono ?_
        rintro e w4 ⟨t, rfl, ht0, ht1, rfl⟩
        obtain ⟨t, rfl⟩ : ∃ q : Nat, t = (q : Int) := ⟨t.toNat, by omega⟩
        have ht : t < 3 := by omega
        clear d0 ht0
        go_upto_region 12 with fail
        refine wp_tl (d := .region 12 (opsC 12 Try.f3) true) (by kernel_rfl) ?_
        refine RW.wp (ppl12 (cells_of S3.out.2.1 3) (cells_of S3.out.2.1 4) (lt_of_heap S3.out.2.1) (AT.out.keep S3.out.2.2).k (AT.out.keep S3.out.2.2).v AT.out.kl AT.out.vl ?_)
        intros
        rename_i kv vv wk w5 oK mK oV fK fV fV1 m5
        have hPL := PL.start H.out.1 H.out.2.1 S3.out.1 S3.out.2.1 S3.out.2.2 oK mK oV fK fV fV1 m5
        have Z := Lib.hid (And.intro hPL H.out.2.2)
        obtain ⟨wh, hwh⟩ : ∃ x, s.what = x := ⟨_, rfl⟩
        have d1 := cells_of hPL.sB 1
        rw [hwh] at d1
        have HWH := Lib.hid hwh
        clear hPL oK mK oV fK fV fV1 m5 hwh S3 H
        have hj2 : j ≤ 10000 := by omega
        go_upto_block 2 with fail
        go_cut [] (fun wx => Hid (∃ X' A', PL w2 wx mb rb sb s kv vv X' A' (j + 1) ∧ Co A'))
        case first =>
          as_aux_lemma =>
            by_cases hw : wh = 0 ∨ wh = 1 ∨ wh = 2
            · skip
              have SC := Lib.hid (fun b' (m : Mods noB w5 b') => (Z.out.1.then0 m).setC Z.out.2 A2.out ht hj2 SL.out.1 SL.out.2)
              have CE := Lib.hid (fun b' (m : Mods noB w5 b') => (Z.out.1.then0 m).cells ht)
              cases hB : newP (A t) s.k with
              | true =>
                rw [hB] at SC
                clear hB
                rcases hw with rfl | rfl | rfl
                all_goals
                  go_upto_region 17 with fail
                  refine wp_tl (d := .region 17 (opsC 17 Try.f3) true) (by kernel_rfl) ?_
                  refine RW.wp (ppl17t (mo := 0) (ro := 0) ht CE.out SC.out ?_)
                  intros
                  rename_i w7 hx
                  have HX := Lib.hid hx
                  clear hx
                  go_wp2
                  go_meet
                  exact HX
              | false =>
                rw [hB] at SC
                clear hB
                rcases hw with rfl | rfl | rfl
                all_goals
                  go_upto_region 17 with fail
                  refine wp_tl (d := .region 17 (opsC 17 Try.f3) true) (by kernel_rfl) ?_
                  refine RW.wp (ppl17f (mo := 0) (ro := 0) ht CE.out SC.out ?_)
                  intros
                  rename_i w7 hx
                  have HX := Lib.hid hx
                  clear hx
                  go_wp2
                  go_meet
                  exact HX
            have hn0 : ¬ wh = 0 := fun h => hw (.inl h)
            have hn1 : ¬ wh = 1 := fun h => hw (.inr (.inl h))
            have hn2 : ¬ wh = 2 := fun h => hw (.inr (.inr h))
            clear hw
            by_cases hw : wh = 3 ∨ wh = 4
            · clear hn0 hn1 hn2
              have SC := Lib.hid (fun b' (m : Mods noB w5 b') => (Z.out.1.then0 m).delC Z.out.2 A2.out ht hj2)
              have CE := Lib.hid (fun b' (m : Mods noB w5 b') => (Z.out.1.then0 m).cells ht)
              cases hB : (findP (A t) s.k).2.2 with
              | true =>
                rw [hB] at SC
                clear hB
                rcases hw with rfl | rfl
                all_goals
                  go_upto_region 21 with fail
                  refine wp_tl (d := .region 21 (opsC 21 Try.f3) true) (by kernel_rfl) ?_
                  refine RW.wp (ppl21t (mo := 0) (ro := 0) ht CE.out SC.out ?_)
                  intros
                  rename_i w7 hx
                  have HX := Lib.hid hx
                  clear hx
                  go_wp2
                  go_meet
                  exact HX
              | false =>
                rw [hB] at SC
                clear hB
                rcases hw with rfl | rfl
                all_goals
                  go_upto_region 21 with fail
                  refine wp_tl (d := .region 21 (opsC 21 Try.f3) true) (by kernel_rfl) ?_
                  refine RW.wp (ppl21f (mo := 0) (ro := 0) ht CE.out SC.out ?_)
                  intros
                  rename_i w7 hx
                  have HX := Lib.hid hx
                  clear hx
                  go_wp2
                  go_meet
                  exact HX
            have hn3 : ¬ wh = 3 := fun h => hw (.inl h)
            have hn4 : ¬ wh = 4 := fun h => hw (.inr h)
            clear hw
            by_cases hw : wh = 5
            · subst hw
              clear hn0 hn1 hn2 hn3 hn4
              have hln := Z.out.1.p.len (j := t) (by omega)
              have OKT := Lib.hid (And.intro (Z.out.1.p.ok t (by omega)) hln)
              have c1 := (Z.out.1.cells ht).1
              rw [Nat.zero_add] at c1
              clear hln
              obtain ⟨B, hB⟩ : ∃ B, (getP (A t) s.k).isSome = B := ⟨_, rfl⟩
              have HB := Lib.hid hB
              clear hB
              go_wp2_with fail
              refine (kn_get (Z.out.1.p.kn ht) Z.out.1.kO.rd OKT.out.1 (by have := OKT.out.2; omega)).mono ?_
              rintro e w7 ⟨xv, rfl, xo, xm, xf⟩
              rw [HB.out]
              have XX := Lib.hid (And.intro xo (And.intro xm xf))
              obtain ⟨xa, xc, rfl, _⟩ := xo.rd.form
              have Z7 := Lib.hid (Z.out.1.then0 xm)
              clear xo xm xf c1
              go_upto_region 25 with fail
              refine wp_tl (d := .region 25 (opsC 25 Try.f3) true) (by kernel_rfl) ?_
              refine RW.wp (ppl25 (ro := 0) (B := B) (X := fun v w' => Gl.Own w' v ((getP (A t) s.k).getD [])) (Z7.out.cells ht).2.1 Z7.out.t.lt.2 ht (Z7.out.cells ht).2.2.1 (Z7.out.cells ht).2.2.2 (lt_of_heap Z7.out.sB) (fun b' m => ?_) ?_)
              · have q := (Z7.out.p.then0 m).qn ht
                rw [Z.out.2 t ht] at q
                refine (qn_get q (A2.out.at (Z7.out.p.mods.then0 m)).1 OKT.out.1 (by have := OKT.out.2; omega)).mono ?_
                rintro e w8 ⟨v', rfl, o8, m8, _⟩
                rw [HB.out]
                exact ⟨v', rfl, o8, m8⟩
              · intros
                rename_i y7 w8 o8 m8
                have PB := Lib.hid (PBytes_true (XX.out.1.rd.keep m8 (fun _ _ x => x)) o8.rd)
                have M8 := Lib.hid m8
                clear o8 m8
                cases B
                all_goals
                  go_wp2_with fail
                  refine PB.out.mono ?_
                  rintro e w9 ⟨rfl, m9⟩
                  have M9 := Lib.hid (M8.out.then0 m9)
                  clear m9
                  go_wp2_with fail
                  refine (Spoil_any (XX.out.1.keep M9.out (fun _ _ x => x))).mono ?_
                  rintro e w10 ⟨rfl, m10⟩
                  have HZ := Lib.hid (show ∃ X' A', PL w2 w10 mb rb sb s kv vv X' A' (j + 1) ∧ Co A' from ⟨X, A, ((Z.out.1.keep ((XX.out.2.1.then0 M9.out).trans m10 (U := ofV _) (fun _ _ x => x.elim) (fun _ _ x => x)) (fun k hk => XX.out.2.2 k hk))).more (Nat.le_succ j), Z.out.2⟩)
                  clear m10
                  go_wp2
                  go_meet
                  exact HZ
            have hn5 : ¬ wh = 5 := hw
            clear hw
            by_cases hw : wh = 6 ∨ wh = 7
            · clear hn0 hn1 hn2 hn3 hn4 hn5
              have d2 := cells_of Z.out.1.sB 2
              have C5 := Lib.hid (cells_of Z.out.1.sB 1)
              have CC := Lib.hid (And.intro (Z.out.1.cells ht) (And.intro Z.out.1.t.lt (lt_of_heap Z.out.1.sB)))
              rcases hw with rfl | rfl
              · go_wp2_with fail
                refine (PPlace_any s.n 40 _ AT.out.n1 AT.out.n2 (by decide) (by decide)).mono ?_
                rintro e w7 ⟨r, rfl, hr0, hr1, rfl⟩
                obtain ⟨r, rfl⟩ : ∃ q : Nat, r = (q : Int) := ⟨r.toNat, by omega⟩
                have hr : r ≤ 1000 := by omega
                have WC := Lib.hid (fun b' (m : Mods noB w5 b') => (Z.out.1.then0 m).walkC Z.out.2 A2.out ht hj2 SL.out.1 SL.out.2 false r hr)
                clear hr0 hr1 d2
                go_upto_region 32 with fail
                refine wp_tl (d := .region 32 (opsC 32 Try.f3) true) (by kernel_rfl) ?_
                refine RW.wp (ppl32w (mo := 0) (ro := 0) CC.out.1.1 CC.out.1.2.1 CC.out.2.1.1 CC.out.2.1.2 ht CC.out.1.2.2.1 CC.out.1.2.2.2 CC.out.2.2 (by have h := C5.out; rw [HWH.out] at h; exact h) (by decide) WC.out ?_)
                intros
                rename_i w8 m8
                have HZ := Lib.hid (show ∃ X' A', PL w2 w8 mb rb sb s kv vv X' A' (j + 1) ∧ Co A' from ⟨X, A, (Z.out.1.then0 m8).more (Nat.le_succ j), Z.out.2⟩)
                clear m8
                go_wp2
                go_meet
                exact HZ
              · go_wp2_with fail
                refine (PPlace_any s.n 40 _ AT.out.n1 AT.out.n2 (by decide) (by decide)).mono ?_
                rintro e w7 ⟨r, rfl, hr0, hr1, rfl⟩
                obtain ⟨r, rfl⟩ : ∃ q : Nat, r = (q : Int) := ⟨r.toNat, by omega⟩
                have hr : r ≤ 1000 := by omega
                have WC := Lib.hid (fun b' (m : Mods noB w5 b') => (Z.out.1.then0 m).walkC Z.out.2 A2.out ht hj2 SL.out.1 SL.out.2 true r hr)
                clear hr0 hr1 d2
                go_upto_region 32 with fail
                refine wp_tl (d := .region 32 (opsC 32 Try.f3) true) (by kernel_rfl) ?_
                refine RW.wp (ppl32b (mo := 0) (ro := 0) CC.out.1.1 CC.out.1.2.1 CC.out.2.1.1 CC.out.2.1.2 ht CC.out.1.2.2.1 CC.out.1.2.2.2 CC.out.2.2 (by have h := C5.out; rw [HWH.out] at h; exact h) rfl WC.out ?_)
                intros
                rename_i w8 m8
                have HZ := Lib.hid (show ∃ X' A', PL w2 w8 mb rb sb s kv vv X' A' (j + 1) ∧ Co A' from ⟨X, A, (Z.out.1.then0 m8).more (Nat.le_succ j), Z.out.2⟩)
                clear m8
                go_wp2
                go_meet
                exact HZ
            have hn6 : ¬ wh = 6 := fun h => hw (.inl h)
            have hn7 : ¬ wh = 7 := fun h => hw (.inr h)
            clear hw
            by_cases hw : wh = 8
            · subst hw
              clear hn0 hn1 hn2 hn3 hn4 hn5 hn6 hn7
              have d2 := cells_of Z.out.1.sB 2
              have CC := Lib.hid (And.intro (Z.out.1.cells ht) (And.intro Z.out.1.t.lt (lt_of_heap Z.out.1.sB)))
              go_wp2_with fail
              refine (PPlace_any s.n 3 _ AT.out.n1 AT.out.n2 (by decide) (by decide)).mono ?_
              rintro e w7 ⟨r, rfl, hr0, hr1, rfl⟩
              obtain ⟨r, rfl⟩ : ∃ q : Nat, r = (q : Int) := ⟨r.toNat, by omega⟩
              have hr : r < 3 := by omega
              have WC := Lib.hid (fun b' (m : Mods noB w5 b') => (Z.out.1.then0 m).copyC Z.out.2 ht hr hj2)
              obtain ⟨cm, hcm, _, bm⟩ := Z.out.1.t.m
              obtain ⟨cr, hcr, _, br⟩ := Z.out.1.t.r
              have CM := Lib.hid (And.intro hcm (And.intro hcr (And.intro (bm r hr) (br r hr))))
              clear hr0 hr1 d2 hcm hcr bm br
              go_upto_region 36 with fail
              refine wp_tl (d := .region 36 (opsC 36 Try.f3) true) (by kernel_rfl) ?_
              refine RW.wp (ppl36 (mo := 0) (ro := 0) CC.out.1.1 CC.out.1.2.1 CC.out.2.1.1 CC.out.2.1.2 ht hr CM.out.1 (by rw [Nat.zero_add, CM.out.2.2.1]; rfl) CM.out.2.1 (by rw [Nat.zero_add, CM.out.2.2.2]; rfl) Z.out.1.t.ne WC.out ?_)
              intros
              rename_i p1 p2 w9 w8 hx e8
              obtain ⟨X', A', z, zc⟩ := hx _ e8
              have HZ := Lib.hid (show ∃ X' A', PL w2 w8 mb rb sb s kv vv X' A' (j + 1) ∧ Co A' from ⟨X', A', z.more (Nat.le_succ j), zc⟩)
              clear hx e8 z zc
              go_wp2
              go_meet
              exact HZ
            have hn8 : ¬ wh = 8 := hw
            clear hw
            have HZ := Lib.hid (show ∃ X' A', PL w2 w5 mb rb sb s kv vv X' A' (j + 1) ∧ Co A' from ⟨X, A, Z.out.1.more (Nat.le_succ j), Z.out.2⟩)
            go_wp2
            go_meet
            exact HZ
        case rest =>
          as_aux_lemma =>
            obtain ⟨X', A', hz, hco⟩ := hcut.out
            have Y := Lib.hid (And.intro hz hco)
            clear hcut hz hco Z d1
            have e3 := cells_of Y.out.1.sB 3
            go_wp2_with fail
            refine (PBytes_true Y.out.1.kO.rd (A2.out.at Y.out.1.p.mods).1).mono ?_
            rintro e w10 ⟨rfl, m10⟩
            have Y1 := Lib.hid (Y.out.1.then0 m10)
            have e4 := cells_of Y1.out.sB 4
            clear m10 e3
            go_wp2_with fail
            refine (PBytes_true Y1.out.vO.rd (A2.out.at Y1.out.p.mods).2).mono ?_
            rintro e w11 ⟨rfl, m11⟩
            have Y2 := Lib.hid (Y1.out.then0 m11)
            clear m11 e4
            go_wp2_with fail
            refine (Spoil_any Y2.out.kO).mono ?_
            rintro e w12 ⟨rfl, m12⟩
            have M12 := Lib.hid m12
            clear m12
            go_wp2_with fail
            refine (Spoil_any (Y2.out.vO.keep M12.out (fun k hk x => (Y2.out.kA k x).2.2.1 hk))).mono ?_
            rintro e w13 ⟨rfl, m13⟩
            have P13 := Lib.hid (Y2.out.spoil M12.out m13)
            have SM := Lib.hid (fun b' (m : Mods noB w13 b') => (P13.out.1.then0 m).sameC Y.out.2 ht (by omega))
            clear m13
            go_upto_region 41 with fail
            refine wp_tl (d := .region 41 (opsC 41 Try.f3) true) (by kernel_rfl) ?_
            refine RW.wp (ppl41 (mo := 0) (ro := 0) (P13.out.2.cells ht).1 (P13.out.2.cells ht).2 P13.out.2.lt.1 P13.out.2.lt.2 ht SM.out ?_)
            intros
            rename_i w14 m14
            have HZ := Lib.hid (show ∃ X A, P6 w2 w14 X A (j + 1) ∧ T6 w2 w14 mb rb X ∧ Co A from ⟨X', A', P13.out.1.then0 m14, P13.out.2.then0 m14, Y.out.2⟩)
            clear m14
            go_wp2
            go_roundw
            case rel => exact ⟨j + 1, by go_num, by omega, HZ⟩
            case measure => simp [intOf]; omega
      · obtain rfl : j = k := by omega
        have hj2 : j ≤ 10000 := by omega
        have S0 := Lib.hid (fun b' (m : Mods noB wr b') => (H.out.1.then0 m).sameC H.out.2.2 (t := 0) (by omega) hj2)
        have S1 := Lib.hid (fun b' (m : Mods noB wr b') => (H.out.1.then0 m).sameC H.out.2.2 (t := 1) (by omega) hj2)
        have S2 := Lib.hid (fun b' (m : Mods noB wr b') => (H.out.1.then0 m).sameC H.out.2.2 (t := 2) (by omega) hj2)
        go_upto_region 43 with fail
        refine wp_tl (d := .region 43 (opsC 43 Try.f3) true) (by kernel_rfl) ?_
        refine RW.wp (ppl43 (mo := 0) (ro := 0) H.out.2.1.lt.1 H.out.2.1.lt.2 (H.out.2.1.cells (j := 0) (by omega)).1 (H.out.2.1.cells (j := 0) (by omega)).2 S0.out (H.out.2.1.cells (j := 1) (by omega)).1 (H.out.2.1.cells (j := 1) (by omega)).2 S1.out (H.out.2.1.cells (j := 2) (by omega)).1 (H.out.2.1.cells (j := 2) (by omega)).2 S2.out ?_)
        intros
        rename_i w14 m14
        have MM := Lib.hid (M2.out.then0 (H.out.1.mods.then0 m14))
        clear m14
        go_wp2
        go_ret
        exact ⟨rfl, MM.out.below⟩
end pagePlays
end Go.Proofs.Ytjlomnhngngkiaa

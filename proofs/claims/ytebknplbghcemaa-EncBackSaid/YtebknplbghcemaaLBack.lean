/- EncBack: what a writer laid a reader reads, to its end: P4.4. No conditions. -/
import Derived.Test.YtebknplbghcemaaRW
import Derived.Test.YtebknplbghcemaaEKnown2
import Derived.Deep.CutBlock
import Derived.Deep.DeepCutAuto
import Derived.Deep.RegionWith
import Derived.Outline
namespace Go.Proofs.Ytebknplbghcemaa.encBack
open Go.Gl Go.RowKit Go.ChangeShapes Go.WideShapes Go.ChangeAt
set_option linter.unusedVariables false
set_option maxRecDepth 100000

theorem wrap_u8n (n : Nat) : IntKind.u8.wrap (n : Int) = (n : Int) % 256 := by rw [IntKind.wrap_u8]
theorem bmod (n : Nat) : (decide (n % 2 = 1) == ((n : Int).tmod 2 == 1)) = true := by
  rw [Int.tmod_eq_emod_of_nonneg (by omega)]
  by_cases h : n % 2 = 1
  · have : (n : Int) % 2 = 1 := by omega
    simp [h, this]
  · have : ¬ (n : Int) % 2 = 1 := by omega
    simp [h, this]
theorem wrap_u32n (n : Nat) : IntKind.u32.wrap (n : Int) = (n : Int) % 4294967296 := by rw [IntKind.wrap_u32]

theorem run_start {l : List EStp} (h : (wrun ([], 0) l).2 = 0) : wrun ([], 0) l = (l.flatMap EStp.lay, 0) ∧ ∀ j (hj : j < l.length), l[j].long = false := by
  rcases wrun_is l [] with ⟨h1, h2⟩ | ⟨h1, h2⟩
  · refine ⟨by simpa using h2, fun j hj => ?_⟩
    have := List.any_eq_false.1 h1 l[j] (List.getElem_mem hj)
    simpa using this
  · rw [h] at h2
    cases h2

theorem next_is (l : List EStp) (j : Nat) (hj : j < l.length) : (l.drop j).flatMap EStp.lay = l[j].lay ++ (l.drop (j + 1)).flatMap EStp.lay := by
  rw [List.drop_eq_getElem_cons hj]
  rfl

theorem drop_len (l : List EStp) (j : Nat) : ((l.drop j).flatMap EStp.lay).length ≤ (l.flatMap EStp.lay).length := by
  have h : l.flatMap EStp.lay = (l.take j).flatMap EStp.lay ++ (l.drop j).flatMap EStp.lay := by rw [← List.flatMap_append, List.take_append_drop]
  rw [h, List.length_append]
  omega

theorem long_blen {s : EStp} (h : s.long = false) (hw : s.what = 4 ∨ s.what = 5) : blen s.N ≤ 255 := by
  have h' : ¬ ((s.what = 4 ∨ s.what = 5) ∧ ¬ blen s.N ≤ 255) := by simpa [EStp.long] using h
  exact Nat.le_of_not_lt (fun x => h' ⟨hw, by omega⟩)

/-- a reader, and a step's box beside it -/
structure BX (w : World) (g B : Nat) (s : EStp) (p : ESt) (wx : World) : Prop where
  kr : KR w g p wx
  box : wx.heap[B]? = some s.box
  ne : B ≠ g
  at' : s.At w

theorem BX.moved {w wx wy : World} {g B : Nat} {s : EStp} {p q : ESt} (h : BX w g B s p wx) (hk : KR w g q wy) (hm : Mods (fun k => k = g) wx wy) : BX w g B s q wy :=
  ⟨hk, hm.heap h.box h.ne, h.ne, h.at'⟩
theorem BX.then0 {w wx wy : World} {g B : Nat} {s : EStp} {p : ESt} (h : BX w g B s p wx) (hm : Mods noB wx wy) : BX w g B s p wy :=
  ⟨h.kr.then0 hm, hm.heap h.box (fun x => x), h.ne, h.at'⟩
theorem BX.quiet {w wx wy : World} {g B : Nat} {s : EStp} {p : ESt} (h : BX w g B s p wx) (hq : Quiet wx wy) : BX w g B s p wy := h.then0 (hq.mods noB)
theorem BX.cell {w wx : World} {g B : Nat} {s : EStp} {p : ESt} (h : BX w g B s p wx) (i : Nat) : wx.cell? ⟨B, i, none⟩ = #[.int .i64 s.what, .int .u64 s.n, s.nv, s.bw, .int .i64 s.most][i]? := cells_of h.box i

theorem krm {w wx wy : World} {g : Nat} {p q : ESt} {v v' : Value} (h2 : Mods noB w wx) (h3 : w.heap.size ≤ g) (k : RStp wx g v q.1 q.2 wy v') : KR w g q wy ∧ Mods (fun k => k = g) wx wy := ⟨KR.step (s := p) h2 h3 k, k.mods⟩

section
variable {w wx : World} {g B : Nat} {s : EStp} {p : ESt}
theorem BX.u8 (h : BX w g B s p wx) : Calls Try.prog 32 #[.pointer (some ⟨g, 0, none⟩)] wx fun r w' => r = .returned (.int .u8 (evl 1 p)) ∧ BX w g B s (est 1 p) w' := by
  obtain ⟨v, h1, h2, h3⟩ := h.kr
  exact (RU8_any h1).mono fun r w' ⟨hr, v', hs⟩ => ⟨hr, h.moved (krm (p := p) (q := est 1 p) h2 h3 hs).1 hs.mods⟩
theorem BX.u32 (h : BX w g B s p wx) : Calls Try.prog 34 #[.pointer (some ⟨g, 0, none⟩)] wx fun r w' => r = .returned (.int .u32 (evl 4 p)) ∧ BX w g B s (est 4 p) w' := by
  obtain ⟨v, h1, h2, h3⟩ := h.kr
  exact (RU32_any h1).mono fun r w' ⟨hr, v', hs⟩ => ⟨hr, h.moved (krm (p := p) (q := est 4 p) h2 h3 hs).1 hs.mods⟩
theorem BX.u64 (h : BX w g B s p wx) : Calls Try.prog 36 #[.pointer (some ⟨g, 0, none⟩)] wx fun r w' => r = .returned (.int .u64 (evl 8 p)) ∧ BX w g B s (est 8 p) w' := by
  obtain ⟨v, h1, h2, h3⟩ := h.kr
  exact (RU64_any h1).mono fun r w' ⟨hr, v', hs⟩ => ⟨hr, h.moved (krm (p := p) (q := est 8 p) h2 h3 hs).1 hs.mods⟩
theorem BX.bool (h : BX w g B s p wx) : Calls Try.prog 38 #[.pointer (some ⟨g, 0, none⟩)] wx fun r w' => r = .returned (.bool (decide (evl 1 p = 1))) ∧ BX w g B s (boolS p) w' := by
  obtain ⟨v, h1, h2, h3⟩ := h.kr
  exact (Bool_any h1).mono fun r w' ⟨hr, v', hs⟩ => ⟨hr, h.moved (krm (p := p) (q := boolS p) h2 h3 hs).1 hs.mods⟩
theorem BX.nat (h : BX w g B s p wx) (hl : p.1.length ≤ 10000000000) : Calls Try.prog 40 #[.pointer (some ⟨g, 0, none⟩)] wx fun r w' => ∃ u, r = .returned u ∧ RN w' u (natV p) ∧ BX w g B s (natT p) w' ∧ Mods (fun k => k = g) wx w' := by
  obtain ⟨v, h1, h2, h3⟩ := h.kr
  exact (RNat_any h1 hl).mono fun r w' ⟨u, v', hr, hn, _, hs⟩ => ⟨u, hr, hn, h.moved (krm (p := p) (q := natT p) h2 h3 hs).1 hs.mods, hs.mods⟩
theorem BX.dec (h : BX w g B s p wx) (hl : p.1.length ≤ 10000000000) : Calls Try.prog 42 #[.pointer (some ⟨g, 0, none⟩)] wx fun r w' => ∃ u, r = .returned (.agg #[u]) ∧ RN w' u (natV p) ∧ BX w g B s (natT p) w' ∧ Mods (fun k => k = g) wx w' := by
  obtain ⟨v, h1, h2, h3⟩ := h.kr
  exact (RDec_any h1 hl).mono fun r w' ⟨u, v', hr, hn, _, hs⟩ => ⟨u, hr, hn, h.moved (krm (p := p) (q := natT p) h2 h3 hs).1 hs.mods, hs.mods⟩
theorem BX.raw (h : BX w g B s p wx) (most : Int) (hmo : most ≤ 9223372036854775807) (hl : p.1.length ≤ 10000000000) : Calls Try.prog 44 #[.pointer (some ⟨g, 0, none⟩), .int .i64 most] wx fun r w' => ∃ u, r = .returned u ∧ Own w' u (rawV most p) ∧ BX w g B s (rawT most p) w' := by
  obtain ⟨v, h1, h2, h3⟩ := h.kr
  exact (RRaw_any most h1 hmo hl).mono fun r w' ⟨u, v', hr, hn, _, hs⟩ => ⟨u, hr, hn, h.moved (krm (p := p) (q := rawT most p) h2 h3 hs).1 hs.mods⟩
theorem BX.norm (h : BX w g B s p wx) (hl : s.nat.length ≤ 3000) : Calls Try.prog 47 #[s.nv] wx fun r w' => ∃ u, r = .returned u ∧ RN w' u (strip s.nat) ∧ BX w g B s p w' ∧ Mods noB wx w' ∧ ∀ k, u.ownBlock = some k → ¬ k = g :=
  (Norm_any (RdM.keep h.at'.nat h.kr.mods (fun _ _ x => x)) (by omega)).mono fun r w' ⟨u, hr, hn, hm, hf⟩ => ⟨u, hr, hn.rd, h.then0 hm, hm, fun k hk e => by have := hf k hk; have := h.kr.lt; omega⟩
theorem BX.rb (h : BX w g B s p wx) : Rd wx s.bw s.b := h.at'.b.keep h.kr.mods (fun _ _ x => x)
end

set_option maxHeartbeats 8000000 in
theorem walk (y : Value) (l : List EStp) (w : World) (hy : RdSteps w y l) :
    Calls Try.prog 11 #[y] w fun e w' => e = .returned (.bool true) ∧ Below w.heap.size w w' := by
  obtain ⟨b, k, d, rfl, hk, hd1, hd2, _⟩ := hy.form
  have HY := Lib.hid hy
  have HK := Lib.hid hk
  clear hy hk
  go_enter Try.func11, Try.ntmps11
  go_wp2_with fail
  refine (eknown_any _).mono ?_
  rintro e w1 ⟨rfl, m1⟩
  have M1 := Lib.hid m1
  clear m1
  go_wp2_with fail
  refine (light_any (HY.out.keep M1.out)).mono ?_
  rintro e w2 ⟨rfl, q2⟩
  have M2 := Lib.hid (M1.out.then0 (q2.mods noB))
  clear q2 M1
  cases hL : lightB l with
  | false =>
    go_wp2_with fail
    go_ret
    exact ⟨rfl, M2.out.below⟩
  | true =>
    have LL := Lib.hid (light_len hL)
    have PL := Lib.hid (light_parts hL)
    clear hL
    have W0 := Lib.hid (show ∃ v, WB w w2.heap.size v ([], 0) _ from ⟨_, WB.start M2.out⟩)
    have M3 := Lib.hid (M2.out.alloc (.cells #[.slice none 0 0, .int .i64 0] 54))
    clear M2
    go_wp2
    generalize World.alloc w2 _ = w4 at *
    generalize w2.heap.size = gw at *
    go_loopw [4] (fun i wr => ∃ j : Nat, i = .int .i64 j ∧ j ≤ k ∧ Hid (∃ v, WB w gw v (wrun ([], 0) (l.take j)) wr ∧ Mods noB w wr)) (fun i _ => k - (intOf i).toNat)
    case atStart =>
      obtain ⟨v, h⟩ := W0.out
      exact ⟨0, rfl, by omega, Lib.hid ⟨v, h, M3.out⟩⟩
    case round =>
      clear W0 M3
      obtain ⟨j, rfl, hj, hR⟩ := hrel
      obtain ⟨v, h1, h2⟩ := hR.out
      have R := Lib.hid h1
      have M := Lib.hid h2
      clear hR h1 h2
      by_cases h1 : j < k
      · obtain ⟨g, off, jl, rfl, at1, c0, c1, c2, c3, c4⟩ := HY.out.get M.out h1
        have AT := Lib.hid at1
        have JL := Lib.hid jl
        clear at1
        go_wp2_with fail
        refine (R.out.write M.out AT.out (by have := LL.out j ([], 0); simp only [List.length_nil] at this; omega) (PL.out.2 j JL.out)).mono ?_
        rintro e w5 ⟨rfl, v', r5⟩
        have q5 := R.out.step r5 M.out.size
        have n5 := R.out.mods r5 M.out
        simp only [← wrun_take _ _ _ JL.out] at q5
        have Q := Lib.hid (And.intro q5 n5)
        clear r5 q5 n5 c0 c1 c2 c3 c4 R M AT
        go_wp2
        go_roundw
        case rel => exact ⟨j + 1, by go_num, by omega, Lib.hid ⟨v', Q.out⟩⟩
        case measure => simp [intOf]; omega
      · have hT : l.take j = l := List.take_of_length_le (by rw [HK.out]; omega)
        have HR := R.out
        rw [hT] at HR
        have hlen := LL.out l.length ([], 0)
        rw [List.take_of_length_le (Nat.le_refl _)] at hlen
        simp only [List.length_nil] at hlen
        have RS := Lib.hid (run_start (l := l))
        generalize wrun ([], 0) l = W at *
        obtain ⟨xs, ew⟩ := W
        simp only at hlen
        have R := Lib.hid HR
        clear HR hT LL
        go_wp2_with fail
        refine (WOut_any R.out.wr (by simp only; omega)).mono ?_
        rintro e w5 ⟨u, rfl, ou, mu, fu⟩
        have M5 := Lib.hid (M.out.then0 mu)
        have OU := Lib.hid ou
        obtain ⟨au, cu, rfl, _⟩ := ou.rd.form
        clear R M ou mu fu
        by_cases he : ew = 0
        · subst he
          obtain ⟨h5, h6⟩ := RS.out rfl
          cases h5
          have LG := Lib.hid h6
          have DL := Lib.hid (drop_len l)
          clear h6 RS
          have OX := Lib.hid (show Own w5 (.slice au (l.flatMap EStp.lay).length cu) (l.flatMap EStp.lay) from OU.out)
          have HS := Lib.hid (show (woutB 0 (l.flatMap EStp.lay)).length = (l.flatMap EStp.lay).length from rfl)
          simp only [HS.out]
          clear OU
          generalize hLL : (l.flatMap EStp.lay).length = L at *
          have HLL := Lib.hid hLL
          clear hLL
          go_wp2_with fail
          refine (KR.newa M5.out OX.out.rd (by rw [HLL.out]; omega)).mono ?_
          rintro e w6 ⟨g, rfl, hk6⟩
          have K6 := Lib.hid hk6
          clear hk6 OX M5
          go_wp2
          go_loopw [8] (fun i wr => ∃ j : Nat, i = .int .i64 j ∧ j ≤ k ∧ Hid (KR w g ((l.drop j).flatMap EStp.lay, 0) wr)) (fun i _ => k - (intOf i).toNat)
          case atStart => exact ⟨0, rfl, by omega, K6⟩
          case round =>
            clear K6
            obtain ⟨j, rfl, hj, hR⟩ := hrel
            by_cases h1 : j < k
            · obtain ⟨gs, off, jl, rfl, at1, c0, c1, c2, c3, c4⟩ := HY.out.get hR.out.mods h1
              have hla := long_blen (LG.out j jl)
              have HN := next_is l j jl
              have HP3 := PL.out.2 j jl
              have HQ := Lib.hid (show (l[j].lay ++ (l.drop (j + 1)).flatMap EStp.lay).length ≤ 10000000000 from by
                rw [← HN]
                have := DL.out j
                omega)
              have hRR := hR.out
              rw [HN] at hRR
              have HR := Lib.hid hRR
              clear hR hRR HN
              generalize hys : (l.drop (j + 1)).flatMap EStp.lay = ys at *
              have HYS := Lib.hid hys
              clear hys
              generalize l[j] = s at *
              obtain ⟨what, nn, nv, bw, nat, b0, most⟩ := s
              simp only at c0 c1 c2 c3 c4 HP3
              obtain ⟨nl, hnl⟩ : ∃ q, nat.length = q := ⟨_, rfl⟩
              obtain ⟨bl, hbl⟩ : ∃ q, b0.length = q := ⟨_, rfl⟩
              obtain ⟨a2, k2, f2, l2⟩ := RdM.form at1.nat
              obtain ⟨a3, k3, f3, l3⟩ := at1.b.form
              simp only at f2 f3 l2 l3
              subst f2 f3
              have hnn := at1.n
              simp only at hnn
              replace HQ := Lib.hid (show (EStp.lay ⟨what, nn, .slice a2 nl k2, .slice a3 bl k3, nat, b0, most⟩ ++ ys).length ≤ 10000000000 from HQ.out)
              have R := Lib.hid (show KR w g (EStp.lay ⟨what, nn, .slice a2 nl k2, .slice a3 bl k3, nat, b0, most⟩ ++ ys, 0) wr from HR.out)
              have B0 := Lib.hid (show BX w g wr.heap.size ⟨what, nn, .slice a2 nl k2, .slice a3 bl k3, nat, b0, most⟩ (EStp.lay ⟨what, nn, .slice a2 nl k2, .slice a3 bl k3, nat, b0, most⟩ ++ ys, 0) (wr.alloc (.cells #[.int .i64 what, .int .u64 nn, .slice a2 nl k2, .slice a3 bl k3, .int .i64 most] 60)) from
                ⟨R.out.then0 ((Mods.refl noB wr).alloc _), heap_new _ _, by have := R.out.lt; omega, by rw [hnl, hbl] at at1; exact at1⟩)
              go_upto_block 4 with fail
              go_cut [10] (fun z wx => z = .bool true ∧ Hid (KR w g (ys, 0) wx))
              case first =>
                by_cases e0 : what = 0
                · subst e0
                  have HL : EStp.lay ⟨0, nn, .slice a2 nl k2, .slice a3 bl k3, nat, b0, most⟩ = be 1 (nn % 256) := rfl
                  have BA := B0.out
                  rw [HL] at BA
                  obtain ⟨q1, q2⟩ := est_back 1 (nn % 256) ys (by omega)
                  have HP := Lib.hid (fun (wy : World) (hq : Quiet (wr.alloc (.cells #[.int .i64 0, .int .u64 nn, .slice a2 nl k2, .slice a3 bl k3, .int .i64 most] 60)) wy) => (BA.quiet hq).u8)
                  simp only [q1, q2] at HP
                  clear q1 q2 HL BA
                  go_wp2
                  have hwr : IntKind.u8.wrap (nn : Int) = (nn : Int) % 256 := wrap_u8n nn
                  go_region_with (go_at_call 32; refine (HP.out _ ?_).mono ?_; (next => (repeat' (first | exact Quiet.refl _ | refine Quiet.more1 ?_ | refine Quiet.more ?_))); rintro r w7 ⟨rfl, B1⟩; have d1 := B1.cell 1)
                  all_goals
                    go_wp2
                    go_meet
                    exact ⟨rfl, Lib.hid B1.kr⟩
                have f0 : (what == 0) = false := by simpa using e0
                by_cases e1 : what = 1
                · subst e1
                  have HL : EStp.lay ⟨1, nn, .slice a2 nl k2, .slice a3 bl k3, nat, b0, most⟩ = be 4 (nn % 4294967296) := rfl
                  have BA := B0.out
                  rw [HL] at BA
                  obtain ⟨q1, q2⟩ := est_back 4 (nn % 4294967296) ys (by omega)
                  have HP := Lib.hid (fun (wy : World) (hq : Quiet (wr.alloc (.cells #[.int .i64 1, .int .u64 nn, .slice a2 nl k2, .slice a3 bl k3, .int .i64 most] 60)) wy) => (BA.quiet hq).u32)
                  simp only [q1, q2] at HP
                  clear q1 q2 HL BA
                  go_wp2
                  have hwr : IntKind.u32.wrap (nn : Int) = (nn : Int) % 4294967296 := wrap_u32n nn
                  go_region_with (go_at_call 34; refine (HP.out _ ?_).mono ?_; (next => (repeat' (first | exact Quiet.refl _ | refine Quiet.more1 ?_ | refine Quiet.more ?_))); rintro r w7 ⟨rfl, B1⟩; have d1 := B1.cell 1)
                  all_goals
                    go_wp2
                    go_meet
                    exact ⟨rfl, Lib.hid B1.kr⟩
                have f1 : (what == 1) = false := by simpa using e1
                by_cases e2 : what = 2
                · subst e2
                  have HL : EStp.lay ⟨2, nn, .slice a2 nl k2, .slice a3 bl k3, nat, b0, most⟩ = be 8 (nn) := rfl
                  have BA := B0.out
                  rw [HL] at BA
                  obtain ⟨q1, q2⟩ := est_back 8 (nn) ys (by omega)
                  have HP := Lib.hid (fun (wy : World) (hq : Quiet (wr.alloc (.cells #[.int .i64 2, .int .u64 nn, .slice a2 nl k2, .slice a3 bl k3, .int .i64 most] 60)) wy) => (BA.quiet hq).u64)
                  simp only [q1, q2] at HP
                  clear q1 q2 HL BA
                  go_wp2
                  go_region_with (go_at_call 36; refine (HP.out _ ?_).mono ?_; (next => (repeat' (first | exact Quiet.refl _ | refine Quiet.more1 ?_ | refine Quiet.more ?_))); rintro r w7 ⟨rfl, B1⟩; have d1 := B1.cell 1)
                  all_goals
                    go_wp2
                    go_meet
                    exact ⟨by simp, Lib.hid B1.kr⟩
                have f2 : (what == 2) = false := by simpa using e2
                by_cases e3 : what = 3
                · subst e3
                  have HL : EStp.lay ⟨3, nn, .slice a2 nl k2, .slice a3 bl k3, nat, b0, most⟩ = be 1 (if decide (nn % 2 = 1) = true then 1 else 0) := rfl
                  have BA := B0.out
                  rw [HL] at BA
                  obtain ⟨q1, q2⟩ := bool_back (decide (nn % 2 = 1)) ys
                  have HP := Lib.hid (fun (wy : World) (hq : Quiet (wr.alloc (.cells #[.int .i64 3, .int .u64 nn, .slice a2 nl k2, .slice a3 bl k3, .int .i64 most] 60)) wy) => (BA.quiet hq).bool)
                  simp only [q1, q2] at HP
                  clear q1 q2 HL BA
                  go_wp2
                  go_region_with (go_at_call 38; refine (HP.out _ ?_).mono ?_; (next => (repeat' (first | exact Quiet.refl _ | refine Quiet.more1 ?_ | refine Quiet.more ?_))); rintro r w7 ⟨rfl, B1⟩; have d1 := B1.cell 1)
                  all_goals
                    go_wp2
                    go_meet
                    exact ⟨by rw [bmod], Lib.hid B1.kr⟩
                have f3 : (what == 3) = false := by simpa using e3
                by_cases e4 : what = 4
                · subst e4
                  have HL : EStp.lay (⟨4, nn, .slice a2 nl k2, .slice a3 bl k3, nat, b0, most⟩ : EStp) = natL (EStp.N (⟨4, nn, .slice a2 nl k2, .slice a3 bl k3, nat, b0, most⟩ : EStp)) := rfl
                  have B1 := B0.out
                  have q3 := HQ.out
                  rw [HL] at B1 q3
                  have hbl255 : blen (EStp.N (⟨4, nn, .slice a2 nl k2, .slice a3 bl k3, nat, b0, most⟩ : EStp)) ≤ 255 := hla (.inl rfl)
                  obtain ⟨q1, q2⟩ := nat_back (EStp.N (⟨4, nn, .slice a2 nl k2, .slice a3 bl k3, nat, b0, most⟩ : EStp)) ys hbl255
                  have q4 : dig 18446744073709551616 (EStp.N (⟨4, nn, .slice a2 nl k2, .slice a3 bl k3, nat, b0, most⟩ : EStp)) = strip nat := (strip_dig (by omega) (fun x hx => by have := B1.at'.lim x hx; omega)).symm
                  have HP := Lib.hid (fun (wy : World) (h : BX w g wr.heap.size (⟨4, nn, .slice a2 nl k2, .slice a3 bl k3, nat, b0, most⟩ : EStp) (natL (EStp.N (⟨4, nn, .slice a2 nl k2, .slice a3 bl k3, nat, b0, most⟩ : EStp)) ++ ys, 0) wy) => h.nat q3)
                  have HPN := Lib.hid (fun (wy : World) (p : ESt) (h : BX w g wr.heap.size (⟨4, nn, .slice a2 nl k2, .slice a3 bl k3, nat, b0, most⟩ : EStp) p wy) => h.norm (by simp only; have := HP3.2; omega))
                  rw [q1, q2, q4] at HP
                  clear q1 q2 q3 q4 HL
                  clear hla HR hbl255
                  have d1 := B1.cell 2
                  go_wp2
                  go_region_with (first
                    | (go_at_call 40; refine (HP.out _ (B1.quiet ?_)).mono ?_; (next => (repeat' (first | exact Quiet.refl _ | refine Quiet.more1 ?_ | refine Quiet.more ?_))); rintro r w7 ⟨u, rfl, hu, B2, m1⟩; replace B1 := B2; clear B2; obtain ⟨ua, uc, rfl, _⟩ := RdM.form hu; have d1 := B1.cell 2; try (have hv := RdM.keep (RdM.keep hv (S := noB) (by repeat' (first | exact Mods.refl _ _ | refine Mods.drew ?_ | refine Mods.drewN ?_ _)) (fun _ _ x => x)) m1 hvf))
                    | (go_at_call 47; refine (HPN.out _ _ (B1.quiet ?_)).mono ?_; (next => (repeat' (first | exact Quiet.refl _ | refine Quiet.more1 ?_ | refine Quiet.more ?_))); rintro r w8 ⟨v, rfl, hv, B2, m2, hvf⟩; replace B1 := B2; clear B2; obtain ⟨va, vc, rfl, _⟩ := RdM.form hv; have d1 := B1.cell 2; try (have hu := RdM.keep (RdM.keep hu (S := noB) (by repeat' (first | exact Mods.refl _ _ | refine Mods.drew ?_ | refine Mods.drewN ?_ _)) (fun _ _ x => x)) m2 (fun _ _ x => x)))
                    | (go_at_call 46; refine (HNat_true (xs := strip nat) (RdM.keep hu (S := noB) ?_ (fun _ _ x => x)) (RdM.keep hv (S := noB) ?_ (fun _ _ x => x))).mono ?_; (next => (repeat' (first | exact Mods.refl _ _ | refine Mods.drew ?_ | refine Mods.drewN ?_ _))); (next => (repeat' (first | exact Mods.refl _ _ | refine Mods.drew ?_ | refine Mods.drewN ?_ _))); rintro r w9 ⟨rfl, m9⟩; have B2 := BX.then0 (B1.quiet (by repeat' (first | exact Quiet.refl _ | refine Quiet.more1 ?_ | refine Quiet.more ?_))) m9))
                  all_goals
                    go_wp2
                    go_meet
                    exact ⟨rfl, Lib.hid B2.kr⟩
                have f4 : (what == 4) = false := by simpa using e4
                by_cases e5 : what = 5
                · subst e5
                  have HL : EStp.lay (⟨5, nn, .slice a2 nl k2, .slice a3 bl k3, nat, b0, most⟩ : EStp) = natL (EStp.N (⟨5, nn, .slice a2 nl k2, .slice a3 bl k3, nat, b0, most⟩ : EStp)) := rfl
                  have B1 := B0.out
                  have q3 := HQ.out
                  rw [HL] at B1 q3
                  have hbl255 : blen (EStp.N (⟨5, nn, .slice a2 nl k2, .slice a3 bl k3, nat, b0, most⟩ : EStp)) ≤ 255 := hla (.inr rfl)
                  obtain ⟨q1, q2⟩ := nat_back (EStp.N (⟨5, nn, .slice a2 nl k2, .slice a3 bl k3, nat, b0, most⟩ : EStp)) ys hbl255
                  have q4 : dig 18446744073709551616 (EStp.N (⟨5, nn, .slice a2 nl k2, .slice a3 bl k3, nat, b0, most⟩ : EStp)) = strip nat := (strip_dig (by omega) (fun x hx => by have := B1.at'.lim x hx; omega)).symm
                  have HP := Lib.hid (fun (wy : World) (h : BX w g wr.heap.size (⟨5, nn, .slice a2 nl k2, .slice a3 bl k3, nat, b0, most⟩ : EStp) (natL (EStp.N (⟨5, nn, .slice a2 nl k2, .slice a3 bl k3, nat, b0, most⟩ : EStp)) ++ ys, 0) wy) => h.dec q3)
                  have HPN := Lib.hid (fun (wy : World) (p : ESt) (h : BX w g wr.heap.size (⟨5, nn, .slice a2 nl k2, .slice a3 bl k3, nat, b0, most⟩ : EStp) p wy) => h.norm (by simp only; have := HP3.2; omega))
                  rw [q1, q2, q4] at HP
                  clear q1 q2 q3 q4 HL
                  clear hla HR hbl255
                  have d1 := B1.cell 2
                  have hfd : ∀ (w : World) (v : Value), (Instr.field 87 (.agg #[v]) 0).run Try.prog w = .ok v w := fun _ _ => by kernel_rfl
                  go_wp2
                  go_region_with (first
                    | (go_at_call 42; refine (HP.out _ (B1.quiet ?_)).mono ?_; (next => (repeat' (first | exact Quiet.refl _ | refine Quiet.more1 ?_ | refine Quiet.more ?_))); rintro r w7 ⟨u, rfl, hu, B2, m1⟩; replace B1 := B2; clear B2; obtain ⟨ua, uc, rfl, _⟩ := RdM.form hu; have d1 := B1.cell 2; try (have hv := RdM.keep (RdM.keep hv (S := noB) (by repeat' (first | exact Mods.refl _ _ | refine Mods.drew ?_ | refine Mods.drewN ?_ _)) (fun _ _ x => x)) m1 hvf))
                    | (go_at_call 47; refine (HPN.out _ _ (B1.quiet ?_)).mono ?_; (next => (repeat' (first | exact Quiet.refl _ | refine Quiet.more1 ?_ | refine Quiet.more ?_))); rintro r w8 ⟨v, rfl, hv, B2, m2, hvf⟩; replace B1 := B2; clear B2; obtain ⟨va, vc, rfl, _⟩ := RdM.form hv; have d1 := B1.cell 2; try (have hu := RdM.keep (RdM.keep hu (S := noB) (by repeat' (first | exact Mods.refl _ _ | refine Mods.drew ?_ | refine Mods.drewN ?_ _)) (fun _ _ x => x)) m2 (fun _ _ x => x)))
                    | (go_at_call 46; refine (HNat_true (xs := strip nat) (RdM.keep hu (S := noB) ?_ (fun _ _ x => x)) (RdM.keep hv (S := noB) ?_ (fun _ _ x => x))).mono ?_; (next => (repeat' (first | exact Mods.refl _ _ | refine Mods.drew ?_ | refine Mods.drewN ?_ _))); (next => (repeat' (first | exact Mods.refl _ _ | refine Mods.drew ?_ | refine Mods.drewN ?_ _))); rintro r w9 ⟨rfl, m9⟩; have B2 := BX.then0 (B1.quiet (by repeat' (first | exact Quiet.refl _ | refine Quiet.more1 ?_ | refine Quiet.more ?_))) m9))
                  all_goals
                    go_wp2
                    go_meet
                    exact ⟨rfl, Lib.hid B2.kr⟩
                have f5 : (what == 5) = false := by simpa using e5
                by_cases e6 : what = 6
                · subst e6
                  have HL : EStp.lay (⟨6, nn, .slice a2 nl k2, .slice a3 bl k3, nat, b0, most⟩ : EStp) = rawB b0 := rfl
                  have B1 := B0.out
                  have q3 := HQ.out
                  rw [HL] at B1 q3
                  obtain ⟨q1, q2⟩ := raw_back b0 ys (by have := HP3.1; omega)
                  have HP := Lib.hid (fun (wy : World) (h : BX w g wr.heap.size (⟨6, nn, .slice a2 nl k2, .slice a3 bl k3, nat, b0, most⟩ : EStp) (rawB b0 ++ ys, 0) wy) => h.raw b0.length (by have := HP3.1; omega) q3)
                  simp only [q1, q2] at HP
                  rw [hbl] at HP
                  clear q1 q2 q3 HL
                  clear hla HR
                  have d1 := B1.cell 3
                  go_wp2
                  go_region_with (first
                    | (go_at_call 44; refine (HP.out _ (B1.quiet ?_)).mono ?_; (next => (repeat' (first | exact Quiet.refl _ | refine Quiet.more1 ?_ | refine Quiet.more ?_))); rintro r w7 ⟨u, rfl, hu, B2⟩; replace B1 := B2; clear B2; obtain ⟨ua, uc, rfl, _⟩ := hu.rd.form; rw [hbl] at hu; have d1 := B1.cell 3)
                    | (go_at_call 17; refine (Bytes_true (xs := b0) (hu.rd.keep (S := noB) ?_ (fun _ _ x => x)) (B1.rb.keep (S := noB) ?_ (fun _ _ x => x))).mono ?_; (next => (repeat' (first | exact Mods.refl _ _ | refine Mods.drew ?_ | refine Mods.drewN ?_ _))); (next => (repeat' (first | exact Mods.refl _ _ | refine Mods.drew ?_ | refine Mods.drewN ?_ _))); rintro r w9 ⟨rfl, m9⟩; have B2 := BX.then0 (B1.quiet (by repeat' (first | exact Quiet.refl _ | refine Quiet.more1 ?_ | refine Quiet.more ?_))) m9))
                  all_goals
                    go_wp2
                    go_meet
                    exact ⟨rfl, Lib.hid B2.kr⟩
                have f6 : (what == 6) = false := by simpa using e6
                have B1 := B0.out
                have HL : EStp.lay ⟨what, nn, .slice a2 nl k2, .slice a3 bl k3, nat, b0, most⟩ = [] := by
                  unfold EStp.lay
                  rw [if_neg e0, if_neg e1, if_neg e2, if_neg e3, if_neg e4, if_neg e5, if_neg e6]
                rw [HL] at B1
                clear e0 e1 e2 e3 e4 e5 e6 HL hla HR
                go_wp2
                go_meet
                exact ⟨rfl, Lib.hid B1.kr⟩
              case rest =>
                obtain ⟨rfl, hr⟩ := hcut
                have R1 := Lib.hid hr.out
                clear hr R B0 HR c0 c1 c2 c3 c4 hla
                go_wp2_with (go_at_call 30; refine (R1.out.err rfl).mono ?_; rintro r w7 ⟨rfl, rfl⟩)
                go_roundw
                case rel => exact ⟨j + 1, by go_num, by omega, Lib.hid (by rw [HYS.out]; exact R1.out)⟩
                case measure => simp [intOf]; omega
            · have hr := hR.out
              rw [List.drop_of_length_le (by rw [HK.out]; omega)] at hr
              have R1 := Lib.hid (show KR w g ([], 0) wr from hr)
              clear hr hR
              go_wp2_with (first | (go_at_call 29; refine (R1.out.left (n := 0) rfl).mono ?_; rintro r w7 ⟨rfl, rfl⟩) | (go_at_call 45; refine (R1.out.end (n := 0) rfl).mono ?_; rintro r w7 ⟨rfl, m7⟩))
              go_ret
              exact ⟨rfl, m7.below⟩
        · have f2 : (ew != 0) = true := by simpa using he
          clear he RS OU
          go_wp2_with fail
          go_ret
          exact ⟨rfl, M5.out.below⟩

theorem lifted (os : Os) (started : os.Started) (H : Type) (enc : TypeId × Value → H) :
    ReturnsInHanded {} Try.checked os 11 .any (Rows.encBackSpec.pre6 enc Try.prog Try.f11 Rows.encBackRow.domain false) (Rows.encBackSpec.post enc Try.prog Try.f11 false true false false) := by
  refine returnsInHanded_of_change_sized (C := Try.checked) own started (by kernel_rfl) Try.func11
    (ChangeSpec.witness6 (enc := enc) (C := Try.checked) false ⟨#[], #[.slice none 0 0], []⟩ 8 (by kernel_rfl) (by kernel_rfl) (by kernel_rfl) (by kernel_rfl)) ?_
  intro W base args ds gs before hval0 hW hcnd hsz _
  have hval : ∀ (j : Nat) t v, Try.f11.params[j]? = some t → args[j]? = some v → Value.okWide Try.prog W .any base t v := hval0
  have hW' := hW
  obtain ⟨p, q, hA0, hV, rfl, hfz, hnd⟩ := hW
  have hA : DataW.TrodAll enc Try.prog W 0 (fun _ => true) true Try.f11.params.toList args.toList ds p := hA0
  replace hsz : (DataW.weightsEach Try.prog (Try.f11.params.toList ++ Rows.encBackSpec.plain.varTypes Try.prog) (ds ++ gs)).all (· ≤ reachBytes) = true := hsz
  rw [Try.params11] at hA hval hsz
  obtain ⟨v0, vs0, d0, ds0, p0, q0, hargs, rfl, rfl, h0, r0⟩ := trodAll_cons hA
  obtain ⟨rfl, rfl, rfl⟩ := trodAll_nil r0
  obtain rfl : args = #[v0] := by cases args; simp_all
  obtain ⟨rfl, rfl⟩ := trodVars_none hV
  have sz : ∀ (j : Nat) t (d : DataW H), ([49] ++ Rows.encBackSpec.plain.varTypes Try.prog)[j]? = some t → ([d0] ++ ([] : List (DataW H)))[j]? = some d → ∀ q ∈ d.weights Try.prog t, q ≤ reachBytes := by
    intro j t d ht hd q hq
    have := List.all_eq_true.1 hsz q (DataW.weights_mem_each ht hd q hq)
    simpa using this
  obtain ⟨x0, k0⟩ := steps_of_arg (hval 0 49 v0 rfl rfl) h0 (sz 0 _ d0 rfl rfl)
  have j0 := h0
  have lt0 : ∀ x ∈ p0, x.block < W.heap.size := by obtain ⟨m, hm⟩ := j0; exact DataW.trod_lt m _ _ _ hm
  clear hA0 hval0
  refine (walk v0 x0 W k0).mono fun e W' ⟨he, bel⟩ => ?_
  subst he
  exact ⟨_, rfl, _, _, _, [], _, [], hW', trodAll_mk1 (shut_bool Try.underlying4 _), (trodAll_cons_mk (Below.trod laidOut (by kernel_rfl) (of_decide_eq_true (by kernel_rfl)) j0 bel lt0) trodAll_mk0), rfl, bel.frame _, fun h => by cases h⟩

theorem over : Rows.encBackRow.holds Try.pinned (OpenSpec.ofChange Rows.encBackSpec) :=
  OpenClaim.holds_of_wide 11 Try.f11 rfl rfl rfl rfl rfl rfl rfl ⟨rfl, rfl, rfl, rfl, rfl⟩ rfl rfl rfl rfl rfl (by kernel_rfl) Try.func11 (by kernel_rfl)
    (of_decide_eq_true (by kernel_rfl)) (by unfold Func.isWrapper; first | (rw [if_pos (by decide +kernel)]; kernel_rfl) | (rw [if_neg (by decide +kernel)]; exact ⟨rfl, rfl⟩))
    (fun os started H enc _ => lifted os started H enc)

theorem proved : Rows.EncBackSaid := over
#print axioms proved
end Go.Proofs.Ytebknplbghcemaa.encBack

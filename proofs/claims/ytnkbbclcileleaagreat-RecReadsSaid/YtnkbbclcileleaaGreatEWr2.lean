/- enc.Writer's number. -/
import Derived.Test.YtnkbbclcileleaaGreatEWr
import Derived.Deep.RegionLaw
import Derived.Deep.DrawnRows
namespace Go.Proofs.YtnkbbclcileleaaGreat
open Go.Gl Go.RowKit
set_option linter.unusedVariables false
set_option maxRecDepth 100000
attribute [local go_sem ↓] Go.wp_at_zero Go.wp_at_succ

/-- append on owned bytes, as a step of a region that draws. -/
theorem step_apb {ops : Array Oper} {Q : Exit → Act → World → Prop} {K : Act → World → Prop} {E : Prop} {o : Oper} {a : Act} {w : World} {s x : Operand} (hw : Region.wanted o (yielded ops a.tmps) = true)
    (ho : o.op = .call { callee := .builtin .append, args := #[s, x], argTypes := #[49, 49] })
    {v u : Value} (xs ys : List UInt8) (hown : Own w v xs) (hrd : Rd w u ys) (hs : a.eval s = v) (hx : a.eval x = u) (hlen : xs.length + ys.length ≤ 140737488355328)
    (h : ∀ v' w', Own w' v' (xs ++ ys) → Mods (ofV v) w w' → (v'.ownBlock = v.ownBlock ∨ freshIn w v') → K (a.put o.dst v') w') :
    if Region.wanted o (yielded ops a.tmps) = true then Oper.wp Tryz.prog o a w K Q else E := by
  rw [if_pos hw]
  obtain ⟨i, hi, hz, hs1, hb1⟩ := info_parts Tryz.infoU8
  obtain ⟨v', w', hr, h2, h3, h4⟩ := run_ap (P := Tryz.prog) 49 49 o.type 5 5 i _ Tryz.underlying49 Tryz.underlying49 hi hz (by rw [hs1]; rfl) (by rw [hs1]; exact hown) (by rw [hs1]; exact hrd) (bv_one _) (by simp only [maxLen]; omega) (by rw [hb1]; omega)
  unfold Oper.wp execOp
  simp only [ho, resolve, invoke, builtin, Sem.run_bind, Sem.run_pure, Result.andThen_ok, List.map_toArray, List.map_cons, List.map_nil, hs, hx, hr]
  refine h v' w' ?_ h3 h4
  rw [hs1] at h2
  unfold Own
  rw [bv_append, List.length_append]
  exact h2

theorem own_atI (c : UInt8) {z : Int} (hz : z = c.toNat) {w : World} (n : Nat) (hn : n = w.heap.size) : Own (w.alloc (.cells #[.int .u8 z] 5)) (.slice (some ⟨n, 0, none⟩) 1 1) [c] := by
  subst hz
  exact own_at c n hn

theorem wnum_err {w : World} {g : Nat} {v : Value} {xs : List UInt8} {e : Int} (n x : Nat) (h : Wr w g v xs e) (he : e ≠ 0) :
    Calls Tryz.prog 157 #[.pointer (some ⟨g, 0, none⟩), .int .u64 x, .int .i64 n] w fun r w' => r = .returned (.tuple #[]) ∧ w' = w := by
  have c := cells_of h.heap
  have hb : (e != 0) = true := by simp [he]
  clear h he
  go_enter Tryz.func157, Tryz.ntmps157
  go_wp2
  first | go_end0 | (refine bodyPost_ret (by simp [results, Tryz.results157, go_sem]; try rfl) rfl ?_)
  exact ⟨rfl, rfl⟩

theorem Wr.drewN {w : World} {g : Nat} {v : Value} {xs : List UInt8} {e : Int} (h : Wr w g v xs e) (n : Nat) : Wr (w.drewN n) g v xs e := ⟨h.heap, h.own.quiet ⟨n, rfl⟩, h.apart⟩
theorem Wr.alloc {w : World} {g : Nat} {v : Value} {xs : List UInt8} {e : Int} (h : Wr w g v xs e) (o : Obj) : Wr (w.alloc o) g v xs e := ⟨heap_old h.heap o, h.own.alloc o, h.apart⟩
theorem Wr.drew {w : World} {g : Nat} {v : Value} {xs : List UInt8} {e : Int} (h : Wr w g v xs e) : Wr w.drew g v xs e := ⟨h.heap, h.own.quiet ⟨1, rfl⟩, h.apart⟩
theorem WStep.from {w w1 w2 : World} {g : Nat} {v v2 : Value} {xs : List UInt8} {e : Int} (h : WStep w1 g v xs e w2 v2) (hm : Mods noB w w1) : WStep w g v xs e w2 v2 :=
  ⟨h.wr, hm.trans h.mods (fun _ _ x => x.elim) (fun _ _ x => x), h.blk.imp_right (fun k => k.of hm.size)⟩

set_option maxHeartbeats 2000000 in
theorem wnum_ok {w : World} {g : Nat} {v : Value} {xs : List UInt8} (n x : Nat) (h : Wr w g v xs 0) (hn : n ≤ 8) (hx : x ≤ 18446744073709551615) (hl : xs.length ≤ 100000000000000) :
    Calls Tryz.prog 157 #[.pointer (some ⟨g, 0, none⟩), .int .u64 x, .int .i64 n] w fun r w' => r = .returned (.tuple #[]) ∧ ∃ v', WStep w g v (xs ++ be n x) 0 w' v' := by
  obtain ⟨out, hgo⟩ : ∃ out, xs ++ be n x = out := ⟨_, rfl⟩
  have R0 : Hid (WStep w g v xs 0 w v ∧ xs ++ be n x = out ∧ xs.length + n ≤ 100000000000008) := ⟨WStep.refl h, hgo, by omega⟩
  rw [hgo]
  have c := cells_of h.heap
  clear h hgo hl
  go_enter Tryz.func157, Tryz.ntmps157
  go_wp2
  clear c
  go_loopw [6] (fun k wr => ∃ (j : Nat) (b : Value) (ys : List UInt8), j ≤ 8 ∧ k = .int .i64 ((j : Int) - 1) ∧ Hid (WStep w g v ys 0 wr b ∧ ys ++ be j x = out ∧ ys.length + j ≤ 100000000000008)) (fun k _ => (intOf k + 1).toNat)
  case atStart => exact ⟨n, v, xs, hn, rfl, R0⟩
  case round =>
    obtain ⟨j, b, ys, hj, rfl, hR⟩ := hrel
    clear R0
    rcases j with _ | j
    · go_wp2
      go_end0
      obtain ⟨h1, h2, h3⟩ := hR.out
      simp only [be, List.append_nil] at h2
      subst h2
      exact ⟨rfl, _, h1⟩
    · rw [show (((j + 1 : Nat) : Int) - 1) = ((j : Nat) : Int) from by omega]
      have h8 : j ≤ 7 := by omega
      have c := cells_of hR.out.1.wr.heap
      have f := free_of hR.out.1.wr.heap
      go_wp2
      have s1 : IntKind.i64.wrap (8 * (j : Int)) = 8 * (j : Int) := IntWalk.i64_in _ (by omega)
      have s2 : (0 : Int) ≤ 8 * (j : Int) := by omega
      have s3 : (8 * (j : Int)).toNat = 8 * j := by omega
      have hgl := hR.out.1.wr.lt
      have hgn : wr.heap.size ≠ g := by omega
      have hgm : g ≠ wr.heap.size := by omega
      go_region_law ((refine step_apb (by rfl) (by rfl) ys [UInt8.ofNat (x / 256 ^ j)] ?_ ?_ (by rfl) (by rfl) ?_ ?_; (next => exact (hR.out.1.wr.own.quiet ⟨1, rfl⟩).alloc _); (next => exact (own_atI (UInt8.ofNat (x / 256 ^ j)) (shr_byte x j) _ rfl).rd); (next => have := hR.out.2.2; simp; omega); intro v' w' k1 k2 k3; obtain ⟨a', cap', rfl, hm'⟩ := k1.rd.form; have H1 := cells_of (k2.heap (heap_old (w := wr.drew) hR.out.1.wr.heap _) hR.out.1.wr.apart); have F1 := free_of (k2.heap (heap_old (w := wr.drew) hR.out.1.wr.heap _) hR.out.1.wr.apart)))
      all_goals
        have R1 : Hid (WStep w g v (ys ++ [UInt8.ofNat (x / 256 ^ j)]) 0 (w'.setCell ⟨g, 0, none⟩ (.slice a' (ys.length + 1) cap')) (.slice a' (ys.length + 1) cap') ∧ (ys ++ [UInt8.ofNat (x / 256 ^ j)]) ++ be j x = out ∧ (ys ++ [UInt8.ofNat (x / 256 ^ j)]).length + j ≤ 100000000000008) := by
          have hh := hR.out
          refine ⟨hh.1.trans ((((hh.1.wr.drew.alloc _).set (by simpa using k1) k2 (by first | exact k3 | (rw [List.length_append] at k3; exact k3))).from (((Mods.refl noB wr).drew).alloc _))), by rw [← hh.2.1]; simp [be], by have := hh.2.2; simp; omega⟩
        clear hR k1 k2 k3 H1 F1 c f s1 s2 s3
        go_wp2
        go_roundw
        case rel => exact ⟨j, _, _, by omega, rfl, R1⟩
        case measure => simp [intOf]

/-- what bytes a writer holds behind a step that lays ys -/
def wput (e : Int) (xs ys : List UInt8) : List UInt8 := if e = 0 then xs ++ ys else xs

/-- A method of a writer without a result: what its block holds behind it. -/
def WRes (w : World) (g : Nat) (v : Value) (xs : List UInt8) (e : Int) (r : Ending) (w' : World) : Prop := r = .returned (.tuple #[]) ∧ ∃ v', WStep w g v xs e w' v'

theorem wnum_any {w : World} {g : Nat} {v : Value} {xs : List UInt8} {e : Int} (n x : Nat) (h : Wr w g v xs e) (hn : n ≤ 8) (hx : x ≤ 18446744073709551615) (hl : xs.length ≤ 100000000000000) :
    Calls Tryz.prog 157 #[.pointer (some ⟨g, 0, none⟩), .int .u64 x, .int .i64 n] w (WRes w g v (wput e xs (be n x)) e) := by
  by_cases he : e = 0
  · subst he
    exact wnum_ok n x h hn hx hl
  · refine (wnum_err n x h he).mono ?_
    rintro r w' ⟨rfl, rfl⟩
    rw [wput, if_neg he]
    exact ⟨rfl, _, WStep.refl h⟩

theorem WU8_any {w : World} {g : Nat} {v : Value} {xs : List UInt8} {e : Int} (x : Nat) (h : Wr w g v xs e) (hx : x ≤ 255) (hl : xs.length ≤ 100000000000000) :
    Calls Tryz.prog 161 #[.pointer (some ⟨g, 0, none⟩), .int .u8 x] w (WRes w g v (wput e xs (be 1 x)) e) := by
  have H := Lib.hid h
  clear h
  go_enter Tryz.func161, Tryz.ntmps161
  go_wp2_with (go_at_call 157; refine (wnum_any 1 x H.out (by omega) (by omega) hl).mono ?_; rintro r w' ⟨rfl, hr⟩)
  go_end0
  exact ⟨rfl, hr⟩


theorem WU64_any {w : World} {g : Nat} {v : Value} {xs : List UInt8} {e : Int} (x : Nat) (h : Wr w g v xs e) (hx : x ≤ 18446744073709551615) (hl : xs.length ≤ 100000000000000) :
    Calls Tryz.prog 143 #[.pointer (some ⟨g, 0, none⟩), .int .u64 x] w (WRes w g v (wput e xs (be 8 x)) e) := by
  have H := Lib.hid h
  clear h
  go_enter Tryz.func143, Tryz.ntmps143
  go_wp2_with (go_at_call 157; refine (wnum_any 8 x H.out (by omega) (by omega) hl).mono ?_; rintro r w' ⟨rfl, hr⟩)
  go_end0
  exact ⟨rfl, hr⟩

theorem WBool_any {w : World} {g : Nat} {v : Value} {xs : List UInt8} {e : Int} (x : Bool) (h : Wr w g v xs e) (hl : xs.length ≤ 100000000000000) :
    Calls Tryz.prog 148 #[.pointer (some ⟨g, 0, none⟩), .bool x] w (WRes w g v (wput e xs (be 1 (if x then 1 else 0))) e) := by
  have H := Lib.hid h
  clear h
  cases x
  · go_enter Tryz.func148, Tryz.ntmps148
    go_wp2_with (go_at_call 161; refine (WU8_any 0 H.out (by omega) hl).mono ?_; rintro r w' ⟨rfl, hr⟩)
    go_end0
    exact ⟨rfl, hr⟩
  · go_enter Tryz.func148, Tryz.ntmps148
    go_wp2_with (go_at_call 161; refine (WU8_any 1 H.out (by omega) hl).mono ?_; rintro r w' ⟨rfl, hr⟩)
    go_end0
    exact ⟨rfl, hr⟩

end Go.Proofs.YtnkbbclcileleaaGreat

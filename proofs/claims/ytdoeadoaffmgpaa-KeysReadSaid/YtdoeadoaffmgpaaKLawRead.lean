/- KeysRead: for all bytes keys.Read and keys.Next tell what the document's do, and leave the bytes as they were: P7.2, P7.3. No conditions. -/
import Derived.Test.YtdoeadoaffmgpaaKKnown
import Derived.Test.YtdoeadoaffmgpaaRRead
import Derived.Test.YtdoeadoaffmgpaaRNext
import Derived.Test.YtdoeadoaffmgpaaArgs
namespace Go.Proofs.Ytdoeadoaffmgpaa.keysRead
open Go.Gl Go.RowKit Go.ChangeShapes Go.WideShapes Go.ChangeAt
set_option linter.unusedVariables false

set_option maxHeartbeats 1000000 in
theorem walk (a0 : Option Addr) (len0 cap0 : Nat) (w : World) (b : List UInt8) (hr : Rd w (.slice a0 len0 cap0) b) :
    Calls Try.prog 4 #[.slice a0 len0 cap0] w fun e w' => e = .returned (.bool true) ∧ Below w.heap.size w w' := by
  obtain ⟨hl, hm⟩ : b.length = len0 ∧ len0 ≤ 9223372036854775807 := by
    obtain ⟨a, c, h, h2⟩ := hr.form
    cases h
    exact ⟨rfl, by simp only [maxLen] at h2; omega⟩
  have HR := Lib.hid hr
  have HL := Lib.hid hl
  clear hr hl
  go_enter Try.func4, Try.ntmps4
  go_wp2_with fail
  refine (known_any _).mono ?_
  rintro e w1 ⟨rfl, m1⟩
  by_cases hbig : 2000 < len0
  · have M1 := Lib.hid m1
    clear m1
    go_wp2_with fail
    go_ret
    exact ⟨rfl, M1.out.below⟩
  · have r1 := HR.out.keep m1 (fun _ _ x => x)
    go_wp2_with fail
    refine (CopyBytes_any r1 (by rw [HL.out]; omega)).mono ?_
    rintro e w2 ⟨v2, rfl, o2, m2, f2⟩
    have r2 := r1.keep m2 (fun _ _ x => x)
    have mw := m1.then0 m2
    clear m1 m2 r1 f2
    go_wp2_with fail
    refine (KRead_any o2.rd).mono ?_
    rintro e w3 ⟨k, A, B, n, rfl, hk, m3⟩
    have r3 := (r2.keep m3 (fun _ _ x => x)).alloc (.cells #[.int .i64 k, .int .u64 (A : Int), .int .u64 (B : Int)] 30)
    have o3 := (o2.keep m3 (fun _ _ x => x)).alloc (.cells #[.int .i64 k, .int .u64 (A : Int), .int .u64 (B : Int)] 30)
    have mw := (mw.then0 m3).alloc (.cells #[.int .i64 k, .int .u64 (A : Int), .int .u64 (B : Int)] 30)
    have c3 := cells_of (heap_new w3 (.cells #[.int .i64 k, .int .u64 (A : Int), .int .u64 (B : Int)] 30))
    have z3 : w3.heap.size < (w3.alloc (.cells #[.int .i64 k, .int .u64 (A : Int), .int .u64 (B : Int)] 30)).heap.size := by simp
    have HK := Lib.hid hk
    clear hk m3 r2 o2
    go_wp2_with fail
    generalize World.alloc w3 _ = w4 at *
    refine (RRead_any r3).mono ?_
    rintro e w5 ⟨k', A', B', n', rfl, hk', m5⟩
    obtain ⟨rfl, rfl, rfl, rfl⟩ := HK.out.same hk'
    have r5 := (r3.keep m5 (fun _ _ x => x)).alloc (.cells #[.int .i64 k, .int .u64 (A : Int), .int .u64 (B : Int)] 30)
    have o5 := (o3.keep m5 (fun _ _ x => x)).alloc (.cells #[.int .i64 k, .int .u64 (A : Int), .int .u64 (B : Int)] 30)
    have mw := (mw.then0 m5).alloc (.cells #[.int .i64 k, .int .u64 (A : Int), .int .u64 (B : Int)] 30)
    have c5 := fun o => (m5.cellAt z3 (fun x => x) o).trans (c3 o)
    have z5 : w3.heap.size < w5.heap.size := m5.size_of z3
    clear hk' m5 c3 r3 o3
    have hke := key_eql k A B k A B
    go_wp2_with fail
    refine (KNext_any o5.rd (by rw [HL.out]; omega)).mono ?_
    rintro e w6 ⟨v6, rfl, o6, m6, f6⟩
    have r6 := r5.keep m6 (fun _ _ x => x)
    have p6 := o5.keep m6 (fun _ _ x => x)
    have mw := mw.then0 m6
    clear r5 o5 m6 f6 c5 hke z5
    go_wp2_with fail
    refine (RNext_any r6 (by rw [HL.out]; omega)).mono ?_
    rintro e w7 ⟨v7, rfl, o7, m7, f7⟩
    have r7 := r6.keep m7 (fun _ _ x => x)
    have p7 := p6.keep m7 (fun _ _ x => x)
    have q7 := o6.keep m7 (fun _ _ x => x)
    have mw := mw.then0 m7
    clear r6 p6 m7 f7 o6
    go_wp2_with fail
    refine (Bytes_same q7.rd o7.rd).mono ?_
    rintro e w8 ⟨rfl, hq⟩
    have r8 := r7.quiet hq
    have p8 := p7.quiet hq
    have mw := mw.then0 (hq.mods _)
    clear r7 p7 q7 o7 hq
    go_wp2_with fail
    refine (Bytes_same p8.rd r8).mono ?_
    rintro e w9 ⟨rfl, hq⟩
    have mw := Lib.hid (mw.then0 (hq.mods _))
    clear r8 p8 hq
    go_wp2_with fail
    go_ret
    exact ⟨rfl, mw.out.below⟩

set_option maxRecDepth 100000 in
theorem lifted (os : Os) (started : os.Started) (H : Type) (enc : TypeId × Value → H) :
    ReturnsInHanded {} Try.checked os 4 .any (Rows.keysReadSpec.pre6 enc Try.prog Try.f4 Rows.keysReadRow.domain false) (Rows.keysReadSpec.post enc Try.prog Try.f4 false true false false) := by
  refine returnsInHanded_of_change (C := Try.checked) own started (by kernel_rfl) Try.func4
    (ChangeSpec.witness6 (enc := enc) (C := Try.checked) false ⟨#[], #[.slice none 0 0], []⟩ 8 (by kernel_rfl) (by kernel_rfl) (by kernel_rfl) (by kernel_rfl)) ?_
  intro W base args ds gs before hval0 hW hcnd _
  have hval : ∀ (j : Nat) t v, Try.f4.params[j]? = some t → args[j]? = some v → Value.okWide Try.prog W .any base t v := hval0
  have hW' := hW
  obtain ⟨p, q, hA0, hV, rfl, hfz, hnd⟩ := hW
  have hA : DataW.TrodAll enc Try.prog W 0 (fun _ => true) true Try.f4.params.toList args.toList ds p := hA0
  rw [Try.params4] at hA hval
  obtain ⟨v0, vs0, d0, ds0, p0, q0, hargs, rfl, rfl, h0, r0⟩ := trodAll_cons hA
  obtain ⟨rfl, rfl, rfl⟩ := trodAll_nil r0
  obtain rfl : args = #[v0] := by cases args; simp_all
  obtain ⟨rfl, rfl⟩ := trodVars_none hV
  obtain ⟨a0, len0, cap0, rfl⟩ := okWide_slice Try.underlying26 (hval 0 26 v0 rfl rfl)
  have k0 := h0
  have lt0 : ∀ x ∈ p0, x.block < W.heap.size := by obtain ⟨m, hm⟩ := k0; exact DataW.trod_lt m _ _ _ hm
  obtain ⟨b0, w0⟩ := rd_of_arg (hval 0 26 _ rfl rfl) h0
  clear hA0 hval0
  refine (walk a0 len0 cap0 W b0 w0).mono fun e W' ⟨he, bel⟩ => ?_
  subst he
  exact ⟨_, rfl, _, _, _, [], _, [], hW', trodAll_mk1 (shut_bool Try.underlying4 _), (trodAll_cons_mk (Below.trod laidOut (by kernel_rfl) (of_decide_eq_true (by kernel_rfl)) k0 bel lt0) trodAll_mk0), rfl, bel.frame _, fun h => by cases h⟩

theorem over : Rows.keysReadRow.holds Try.pinned (OpenSpec.ofChange Rows.keysReadSpec) :=
  OpenClaim.holds_of_wide 4 Try.f4 rfl rfl rfl rfl rfl rfl rfl ⟨rfl, rfl, rfl, rfl, rfl⟩ rfl rfl rfl rfl rfl (by kernel_rfl) Try.func4 (by kernel_rfl)
    (of_decide_eq_true (by kernel_rfl)) (by unfold Func.isWrapper; first | (rw [if_pos (by decide +kernel)]; kernel_rfl) | (rw [if_neg (by decide +kernel)]; exact ⟨rfl, rfl⟩))
    (fun os started H enc _ => lifted os started H enc)

theorem proved : Rows.KeysReadSaid := over
#print axioms proved
end Go.Proofs.Ytdoeadoaffmgpaa.keysRead

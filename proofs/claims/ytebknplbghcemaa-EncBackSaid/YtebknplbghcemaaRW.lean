/- A reader in new memory, and one beside a writer: what each call leaves. -/
import Derived.Test.YtebknplbghcemaaRStp
import Derived.Test.YtebknplbghcemaaEKnown
namespace Go.Proofs.Ytebknplbghcemaa
open Go.Gl Go.RowKit
set_option linter.unusedVariables false
set_option maxRecDepth 100000

theorem KR.u8a {w wx : World} {g : Nat} {s : ESt} (h : KR w g s wx) :
    Calls Try.prog 32 #[.pointer (some ⟨g, 0, none⟩)] wx fun r w' => r = .returned (.int .u8 (evl 1 s)) ∧ KR w g (est 1 s) w' := by
  obtain ⟨v, h1, h2, h3⟩ := h
  exact (RU8_any h1).mono fun r w' ⟨hr, v', hs⟩ => ⟨hr, KR.step (s := s) h2 h3 hs⟩
theorem KR.u32a {w wx : World} {g : Nat} {s : ESt} (h : KR w g s wx) :
    Calls Try.prog 34 #[.pointer (some ⟨g, 0, none⟩)] wx fun r w' => r = .returned (.int .u32 (evl 4 s)) ∧ KR w g (est 4 s) w' := by
  obtain ⟨v, h1, h2, h3⟩ := h
  exact (RU32_any h1).mono fun r w' ⟨hr, v', hs⟩ => ⟨hr, KR.step (s := s) h2 h3 hs⟩
theorem KR.u64a {w wx : World} {g : Nat} {s : ESt} (h : KR w g s wx) :
    Calls Try.prog 36 #[.pointer (some ⟨g, 0, none⟩)] wx fun r w' => r = .returned (.int .u64 (evl 8 s)) ∧ KR w g (est 8 s) w' := by
  obtain ⟨v, h1, h2, h3⟩ := h
  exact (RU64_any h1).mono fun r w' ⟨hr, v', hs⟩ => ⟨hr, KR.step (s := s) h2 h3 hs⟩
theorem KR.boola {w wx : World} {g : Nat} {s : ESt} (h : KR w g s wx) :
    Calls Try.prog 38 #[.pointer (some ⟨g, 0, none⟩)] wx fun r w' => r = .returned (.bool (decide (evl 1 s = 1))) ∧ KR w g (boolS s) w' := by
  obtain ⟨v, h1, h2, h3⟩ := h
  exact (Bool_any h1).mono fun r w' ⟨hr, v', hs⟩ => ⟨hr, KR.step (s := s) h2 h3 hs⟩
theorem KR.nata {w wx : World} {g : Nat} {s : ESt} (h : KR w g s wx) (hl : s.1.length ≤ 10000000000) :
    Calls Try.prog 40 #[.pointer (some ⟨g, 0, none⟩)] wx fun r w' => ∃ u, r = .returned u ∧ RN w' u (natV s) ∧ KR w g (natT s) w' := by
  obtain ⟨v, h1, h2, h3⟩ := h
  exact (RNat_any h1 hl).mono fun r w' ⟨u, v', hr, hn, _, hs⟩ => ⟨u, hr, hn, KR.step (s := s) h2 h3 hs⟩
theorem KR.deca {w wx : World} {g : Nat} {s : ESt} (h : KR w g s wx) (hl : s.1.length ≤ 10000000000) :
    Calls Try.prog 42 #[.pointer (some ⟨g, 0, none⟩)] wx fun r w' => ∃ u, r = .returned (.agg #[u]) ∧ RN w' u (natV s) ∧ KR w g (natT s) w' := by
  obtain ⟨v, h1, h2, h3⟩ := h
  exact (RDec_any h1 hl).mono fun r w' ⟨u, v', hr, hn, _, hs⟩ => ⟨u, hr, hn, KR.step (s := s) h2 h3 hs⟩
theorem KR.rawa {w wx : World} {g : Nat} {s : ESt} (h : KR w g s wx) (most : Int) (hmo : most ≤ 9223372036854775807) (hl : s.1.length ≤ 10000000000) :
    Calls Try.prog 44 #[.pointer (some ⟨g, 0, none⟩), .int .i64 most] wx fun r w' => ∃ u, r = .returned u ∧ Own w' u (rawV most s) ∧ KR w g (rawT most s) w' := by
  obtain ⟨v, h1, h2, h3⟩ := h
  exact (RRaw_any most h1 hmo hl).mono fun r w' ⟨u, v', hr, hn, _, hs⟩ => ⟨u, hr, hn, KR.step (s := s) h2 h3 hs⟩
theorem KR.enda {w wx : World} {g : Nat} {s : ESt} (h : KR w g s wx) :
    Calls Try.prog 45 #[.pointer (some ⟨g, 0, none⟩)] wx fun r w' => r = .returned (.int .i64 (endS s.1 s.2)) ∧ KR w g (s.1, endS s.1 s.2) w' := by
  obtain ⟨v, h1, h2, h3⟩ := h
  exact (End_any h1).mono fun r w' ⟨hr, v', hs⟩ => ⟨hr, KR.step (s := s) (s' := (s.1, endS s.1 s.2)) h2 h3 hs⟩
theorem KR.newa {w wx : World} {u : Value} {xs : List UInt8} (hm : Mods noB w wx) (hu : Rd wx u xs) (hl : xs.length ≤ 140737488355328) :
    Calls Try.prog 27 #[u] wx fun r w' => ∃ g, r = .returned (.pointer (some ⟨g, 0, none⟩)) ∧ KR w g (xs, 0) w' :=
  (NewReader_any hu hl).mono fun r w' ⟨g, v, hr, h1, h2, h3, h4⟩ => ⟨g, hr, ⟨v, h1, hm.then0 h2, Nat.le_trans hm.size h3⟩⟩

/-- A reader beside a writer, both in memory that was not there in w. -/
structure RW (w : World) (gr : Nat) (p : ESt) (gw : Nat) (q : WSt) (vr vw : Value) (wx : World) : Prop where
  rr : Rr wx gr vr p.1 p.2
  wr : Wr wx gw vw q.1 q.2
  mods : Mods noB w wx
  nr : w.heap.size ≤ gr
  nw : ∀ k, WS gw vw k → w.heap.size ≤ k
  a1 : ¬ WS gw vw gr
  a2 : ∀ k, vr.ownBlock = some k → ¬ WS gw vw k

theorem RW.stepR {w wx wy : World} {gr gw : Nat} {p p' : ESt} {q : WSt} {vr vw v' : Value} (h : RW w gr p gw q vr vw wx) (k : RStp wx gr vr p'.1 p'.2 wy v') : RW w gr p' gw q v' vw wy :=
  ⟨k.rr, ⟨k.mods.heap h.wr.heap (fun e => h.a1 (.inl e.symm)), h.wr.own.keep k.mods (fun i hi e => h.a1 (.inr (by rw [hi, e]))), h.wr.apart⟩, h.mods.trans k.mods (fun _ _ x => x) (fun i hi x => by have := h.nr; omega), h.nr, h.nw, h.a1, fun i hi => h.a2 i (k.blk i hi)⟩
theorem RW.stepW {w wx wy : World} {gr gw : Nat} {p : ESt} {q q' : WSt} {vr vw v' : Value} (h : RW w gr p gw q vr vw wx) (k : WStep wx gw vw q'.1 q'.2 wy v') : RW w gr p gw q' vr v' wy := by
  refine ⟨h.rr.keep k.mods h.a1 h.a2, k.wr, h.mods.trans k.mods (fun _ _ x => x) (fun i hi x => by have := h.nw i x; omega), h.nr, fun i hi => ?_, fun hi => ?_, fun j hj hi => ?_⟩
  · rcases hi with hi | hi
    · exact h.nw i (.inl hi)
    · rcases k.blk with hb | hb
      · exact h.nw i (.inr (hb ▸ hi))
      · exact Nat.le_trans h.mods.size (hb i hi)
  · rcases hi with hi | hi
    · exact h.a1 (.inl hi)
    · rcases k.blk with hb | hb
      · exact h.a1 (.inr (hb ▸ hi))
      · have := hb _ hi
        have := h.rr.lt
        omega
  · rcases hi with hi | hi
    · exact h.a2 j hj (.inl hi)
    · rcases k.blk with hb | hb
      · exact h.a2 j hj (.inr (hb ▸ hi))
      · have := hb _ hi
        have := h.rr.blt j hj
        omega
theorem RW.then0 {w wx wy : World} {gr gw : Nat} {p : ESt} {q : WSt} {vr vw : Value} (h : RW w gr p gw q vr vw wx) (hm : Mods noB wx wy) : RW w gr p gw q vr vw wy :=
  ⟨h.rr.keep hm (fun x => x) (fun _ _ x => x), h.wr.then0 hm, h.mods.then0 hm, h.nr, h.nw, h.a1, h.a2⟩
theorem RW.wlt {w wx : World} {gr gw : Nat} {p : ESt} {q : WSt} {vr vw : Value} (h : RW w gr p gw q vr vw wx) {k : Nat} (hk : WS gw vw k) : k < wx.heap.size := h.wr.below hk

/-- The same, wherever their bytes lie; u: a value that does not lie with the writer. -/
def RWE (w : World) (gr : Nat) (p : ESt) (gw : Nat) (q : WSt) (u : Value) (wx : World) : Prop := ∃ vr vw, RW w gr p gw q vr vw wx ∧ ∀ k, u.ownBlock = some k → ¬ WS gw vw k

section
variable {w wx wy : World} {gr gw : Nat} {p : ESt} {q : WSt} {u0 : Value}
theorem RWE.mods (h : RWE w gr p gw q u0 wx) : Mods noB w wx := by
  obtain ⟨vr, vw, h, _⟩ := h
  exact h.mods
theorem RWE.then0 (h : RWE w gr p gw q u0 wx) (hm : Mods noB wx wy) : RWE w gr p gw q u0 wy := by
  obtain ⟨vr, vw, h, ha⟩ := h
  exact ⟨vr, vw, h.then0 hm, ha⟩
theorem RWE.nil {g : Nat} {v : Value} {xs : List UInt8} (h : Rr wx g v xs 0) (hm : Mods noB w wx) (hg : w.heap.size ≤ g) : RWE w g (xs, 0) wx.heap.size ([], 0) (.slice none 0 0) (wx.alloc (.cells #[.slice none 0 0, .int .i64 0] 54)) := by
  have hb := WB.start hm
  have hs : ∀ k, WS wx.heap.size (.slice none 0 0) k → k = wx.heap.size := fun k hk => by
    rcases hk with hk | hk
    · exact hk
    · simp [Value.ownBlock] at hk
  refine ⟨v, .slice none 0 0, ⟨h.keep ((Mods.refl noB wx).alloc _) (fun x => x) (fun _ _ x => x), hb.wr, hm.alloc _, hg, hb.new, fun x => ?_, fun k hk x => ?_⟩, fun k hk => by simp [Value.ownBlock] at hk⟩
  · have := hs _ x
    have := h.lt
    omega
  · have := hs _ x
    have := h.blt k hk
    omega

theorem RWE.u8 (h : RWE w gr p gw q u0 wx) :
    Calls Try.prog 32 #[.pointer (some ⟨gr, 0, none⟩)] wx fun r w' => r = .returned (.int .u8 (evl 1 p)) ∧ RWE w gr (est 1 p) gw q (.slice none 0 0) w' := by
  obtain ⟨vr, vw, h, ha⟩ := h
  exact (RU8_any h.rr).mono fun r w' ⟨hr, v', hs⟩ => ⟨hr, v', vw, h.stepR (p' := est 1 p) hs, fun k hk => by simp [Value.ownBlock] at hk⟩
theorem RWE.u32 (h : RWE w gr p gw q u0 wx) :
    Calls Try.prog 34 #[.pointer (some ⟨gr, 0, none⟩)] wx fun r w' => r = .returned (.int .u32 (evl 4 p)) ∧ RWE w gr (est 4 p) gw q (.slice none 0 0) w' := by
  obtain ⟨vr, vw, h, ha⟩ := h
  exact (RU32_any h.rr).mono fun r w' ⟨hr, v', hs⟩ => ⟨hr, v', vw, h.stepR (p' := est 4 p) hs, fun k hk => by simp [Value.ownBlock] at hk⟩
theorem RWE.u64 (h : RWE w gr p gw q u0 wx) :
    Calls Try.prog 36 #[.pointer (some ⟨gr, 0, none⟩)] wx fun r w' => r = .returned (.int .u64 (evl 8 p)) ∧ RWE w gr (est 8 p) gw q (.slice none 0 0) w' := by
  obtain ⟨vr, vw, h, ha⟩ := h
  exact (RU64_any h.rr).mono fun r w' ⟨hr, v', hs⟩ => ⟨hr, v', vw, h.stepR (p' := est 8 p) hs, fun k hk => by simp [Value.ownBlock] at hk⟩
theorem RWE.bool (h : RWE w gr p gw q u0 wx) :
    Calls Try.prog 38 #[.pointer (some ⟨gr, 0, none⟩)] wx fun r w' => r = .returned (.bool (decide (evl 1 p = 1))) ∧ RWE w gr (boolS p) gw q (.slice none 0 0) w' := by
  obtain ⟨vr, vw, h, ha⟩ := h
  exact (Bool_any h.rr).mono fun r w' ⟨hr, v', hs⟩ => ⟨hr, v', vw, h.stepR (p' := boolS p) hs, fun k hk => by simp [Value.ownBlock] at hk⟩
theorem RWE.nat (h : RWE w gr p gw q u0 wx) (hl : p.1.length ≤ 10000000000) :
    Calls Try.prog 40 #[.pointer (some ⟨gr, 0, none⟩)] wx fun r w' => ∃ u, r = .returned u ∧ RN w' u (natV p) ∧ RWE w gr (natT p) gw q (.slice none 0 0) w' := by
  obtain ⟨vr, vw, h, ha⟩ := h
  exact (RNat_any h.rr hl).mono fun r w' ⟨u, v', hr, hn, hf, hs⟩ => ⟨u, hr, hn, v', vw, h.stepR (p' := natT p) hs, fun k hk => by simp [Value.ownBlock] at hk⟩
theorem RWE.dec (h : RWE w gr p gw q u0 wx) (hl : p.1.length ≤ 10000000000) :
    Calls Try.prog 42 #[.pointer (some ⟨gr, 0, none⟩)] wx fun r w' => ∃ u, r = .returned (.agg #[u]) ∧ RN w' u (natV p) ∧ RWE w gr (natT p) gw q (.slice none 0 0) w' := by
  obtain ⟨vr, vw, h, ha⟩ := h
  exact (RDec_any h.rr hl).mono fun r w' ⟨u, v', hr, hn, hf, hs⟩ => ⟨u, hr, hn, v', vw, h.stepR (p' := natT p) hs, fun k hk => by simp [Value.ownBlock] at hk⟩
theorem RWE.raw (h : RWE w gr p gw q u0 wx) (most : Int) (hmo : most ≤ 9223372036854775807) (hl : p.1.length ≤ 10000000000) :
    Calls Try.prog 44 #[.pointer (some ⟨gr, 0, none⟩), .int .i64 most] wx fun r w' => ∃ u, r = .returned u ∧ Own w' u (rawV most p) ∧ RWE w gr (rawT most p) gw q u w' := by
  obtain ⟨vr, vw, h, ha⟩ := h
  exact (RRaw_any most h.rr hmo hl).mono fun r w' ⟨u, v', hr, hn, hf, hs⟩ => ⟨u, hr, hn, v', vw, h.stepR (p' := rawT most p) hs, fun k hk hw => by
    have := hf k hk
    have := h.wlt hw
    omega⟩
theorem RWE.left (h : RWE w gr p gw q u0 wx) :
    Calls Try.prog 29 #[.pointer (some ⟨gr, 0, none⟩)] wx fun r w' => r = .returned (.int .i64 p.1.length) ∧ w' = wx := by
  obtain ⟨vr, vw, h, ha⟩ := h
  exact Left_any h.rr
theorem RWE.err (h : RWE w gr p gw q u0 wx) :
    Calls Try.prog 30 #[.pointer (some ⟨gr, 0, none⟩)] wx fun r w' => r = .returned (.int .i64 p.2) ∧ w' = wx := by
  obtain ⟨vr, vw, h, ha⟩ := h
  exact Err_any h.rr
theorem RWE.plain {vr vw : Value} (h : RW w gr p gw q vr vw wx) : RWE w gr p gw q (.slice none 0 0) wx := ⟨vr, vw, h, fun k hk => by simp [Value.ownBlock] at hk⟩

theorem RWE.wu8 (h : RWE w gr p gw q u0 wx) (x : Nat) (hx : x ≤ 255) (hl : q.1.length ≤ 1000000000) :
    Calls Try.prog 31 #[.pointer (some ⟨gw, 0, none⟩), .int .u8 x] wx fun r w' => r = .returned (.tuple #[]) ∧ RWE w gr p gw (wput q.2 q.1 (be 1 x), q.2) (.slice none 0 0) w' := by
  obtain ⟨vr, vw, h, ha⟩ := h
  exact (WU8_any x h.wr hx (by omega)).mono fun r w' ⟨hr, v', hs⟩ => ⟨hr, RWE.plain (h.stepW (q' := (wput q.2 q.1 (be 1 x), q.2)) hs)⟩
theorem RWE.wu32 (h : RWE w gr p gw q u0 wx) (x : Nat) (hx : x ≤ 4294967295) (hl : q.1.length ≤ 1000000000) :
    Calls Try.prog 33 #[.pointer (some ⟨gw, 0, none⟩), .int .u32 x] wx fun r w' => r = .returned (.tuple #[]) ∧ RWE w gr p gw (wput q.2 q.1 (be 4 x), q.2) (.slice none 0 0) w' := by
  obtain ⟨vr, vw, h, ha⟩ := h
  exact (WU32_any x h.wr hx (by omega)).mono fun r w' ⟨hr, v', hs⟩ => ⟨hr, RWE.plain (h.stepW (q' := (wput q.2 q.1 (be 4 x), q.2)) hs)⟩
theorem RWE.wu64 (h : RWE w gr p gw q u0 wx) (x : Nat) (hx : x ≤ 18446744073709551615) (hl : q.1.length ≤ 1000000000) :
    Calls Try.prog 35 #[.pointer (some ⟨gw, 0, none⟩), .int .u64 x] wx fun r w' => r = .returned (.tuple #[]) ∧ RWE w gr p gw (wput q.2 q.1 (be 8 x), q.2) (.slice none 0 0) w' := by
  obtain ⟨vr, vw, h, ha⟩ := h
  exact (WU64_any x h.wr hx (by omega)).mono fun r w' ⟨hr, v', hs⟩ => ⟨hr, RWE.plain (h.stepW (q' := (wput q.2 q.1 (be 8 x), q.2)) hs)⟩
theorem RWE.wbool (h : RWE w gr p gw q u0 wx) (x : Bool) (hl : q.1.length ≤ 1000000000) :
    Calls Try.prog 37 #[.pointer (some ⟨gw, 0, none⟩), .bool x] wx fun r w' => r = .returned (.tuple #[]) ∧ RWE w gr p gw (wput q.2 q.1 (be 1 (if x then 1 else 0)), q.2) (.slice none 0 0) w' := by
  obtain ⟨vr, vw, h, ha⟩ := h
  exact (WBool_any x h.wr (by omega)).mono fun r w' ⟨hr, v', hs⟩ => ⟨hr, RWE.plain (h.stepW (q' := (wput q.2 q.1 (be 1 (if x then 1 else 0)), q.2)) hs)⟩
theorem RWE.wnat (h : RWE w gr p gw q u0 wx) {u : Value} {ls : List Nat} (hu : RN wx u ls) (hL : Lim ls) (hll : ls.length ≤ 1000000) (hl : q.1.length ≤ 1000000000) :
    Calls Try.prog 39 #[.pointer (some ⟨gw, 0, none⟩), u] wx fun r w' => r = .returned (.tuple #[]) ∧ RWE w gr p gw (wnatX q.2 q.1 (dval 18446744073709551616 ls), wnatE q.2 (dval 18446744073709551616 ls)) (.slice none 0 0) w' := by
  obtain ⟨vr, vw, h, ha⟩ := h
  exact (WNat_any h.wr hu hL hll (by omega)).mono fun r w' ⟨hr, v', hs⟩ => ⟨hr, RWE.plain (h.stepW (q' := (wnatX q.2 q.1 (dval 18446744073709551616 ls), wnatE q.2 (dval 18446744073709551616 ls))) hs)⟩
theorem RWE.wdec (h : RWE w gr p gw q u0 wx) {u : Value} {ls : List Nat} (hu : RN wx u ls) (hL : Lim ls) (hll : ls.length ≤ 1000000) (hl : q.1.length ≤ 1000000000) :
    Calls Try.prog 41 #[.pointer (some ⟨gw, 0, none⟩), .agg #[u]] wx fun r w' => r = .returned (.tuple #[]) ∧ RWE w gr p gw (wnatX q.2 q.1 (dval 18446744073709551616 ls), wnatE q.2 (dval 18446744073709551616 ls)) (.slice none 0 0) w' := by
  obtain ⟨vr, vw, h, ha⟩ := h
  exact (WDec_any h.wr hu hL hll (by omega)).mono fun r w' ⟨hr, v', hs⟩ => ⟨hr, RWE.plain (h.stepW (q' := (wnatX q.2 q.1 (dval 18446744073709551616 ls), wnatE q.2 (dval 18446744073709551616 ls))) hs)⟩
theorem RWE.wraw (h : RWE w gr p gw q u0 wx) {ys : List UInt8} (hu : Rd wx u0 ys) (hll : ys.length ≤ 4294967295) (hl : q.1.length ≤ 1000000000) :
    Calls Try.prog 43 #[.pointer (some ⟨gw, 0, none⟩), u0] wx fun r w' => r = .returned (.tuple #[]) ∧ RWE w gr p gw (wput q.2 q.1 (rawB ys), q.2) (.slice none 0 0) w' := by
  obtain ⟨vr, vw, h, ha⟩ := h
  exact (WRaw_any h.wr hu (.inr (fun k _ hk => ⟨fun e => ha k hk (.inr e), fun e => ha k hk (.inl e)⟩)) (by omega) hll).mono fun r w' ⟨hr, v', hs⟩ => ⟨hr, RWE.plain (h.stepW (q' := (wput q.2 q.1 (rawB ys), q.2)) hs)⟩
theorem RWE.out (h : RWE w gr p gw q u0 wx) (hl : q.1.length ≤ 1000000000) : Calls Try.prog 25 #[.pointer (some ⟨gw, 0, none⟩)] wx (OutRes wx q.1 q.2) := by
  obtain ⟨vr, vw, h, ha⟩ := h
  exact WOut_any h.wr (by omega)
end

theorem natV_lim (p : ESt) : Lim (natV p) := by
  unfold natV
  split
  · intro x hx
    have := dig_lt (B := 18446744073709551616) (by omega) _ x hx
    omega
  · intro x hx
    cases hx

end Go.Proofs.Ytebknplbghcemaa

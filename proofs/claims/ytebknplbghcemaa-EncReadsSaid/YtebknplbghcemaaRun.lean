/- What a script lays: the plain law; writers beside one another. -/
import Derived.Test.YtebknplbghcemaaWrite
namespace Go.Proofs.Ytebknplbghcemaa
open Go.Gl Go.RowKit
set_option linter.unusedVariables false
set_option maxRecDepth 100000

/-- what a step lays -/
def EStp.lay (s : EStp) : List UInt8 :=
  if s.what = 0 then be 1 (s.n % 256)
  else if s.what = 1 then be 4 (s.n % 4294967296)
  else if s.what = 2 then be 8 s.n
  else if s.what = 3 then be 1 (if decide (s.n % 2 = 1) then 1 else 0)
  else if s.what = 4 then natL s.N
  else if s.what = 5 then natL s.N
  else if s.what = 6 then rawB s.b
  else []
/-- a number that is too long for its length's byte -/
def EStp.long (s : EStp) : Bool := decide ((s.what = 4 ∨ s.what = 5) ∧ ¬ blen s.N ≤ 255)

theorem wput0 (xs ys : List UInt8) : wput 0 xs ys = xs ++ ys := if_pos rfl

theorem wstep_ok (s : EStp) (xs : List UInt8) (h : s.long = false) : wstep s (xs, 0) = (xs ++ s.lay, 0) := by
  have h' : ¬ ((s.what = 4 ∨ s.what = 5) ∧ ¬ blen s.N ≤ 255) := by simpa [EStp.long] using h
  unfold wstep EStp.lay
  by_cases h0 : s.what = 0
  · simp only [if_pos h0, wput0]
  simp only [if_neg h0]
  by_cases h1 : s.what = 1
  · simp only [if_pos h1, wput0]
  simp only [if_neg h1]
  by_cases h2 : s.what = 2
  · simp only [if_pos h2, wput0]
  simp only [if_neg h2]
  by_cases h3 : s.what = 3
  · simp only [if_pos h3, wput0]
  simp only [if_neg h3]
  by_cases h4 : s.what = 4
  · have hb : blen s.N ≤ 255 := Nat.le_of_not_lt (fun x => h' ⟨.inl h4, by omega⟩)
    simp only [if_pos h4, wnatX, wnatE, if_pos hb, wput0]
  simp only [if_neg h4]
  by_cases h5 : s.what = 5
  · have hb : blen s.N ≤ 255 := Nat.le_of_not_lt (fun x => h' ⟨.inr h5, by omega⟩)
    simp only [if_pos h5, wnatX, wnatE, if_pos hb, wput0]
  simp only [if_neg h5]
  by_cases h6 : s.what = 6
  · simp only [if_pos h6, wput0]
  simp only [if_neg h6, List.append_nil]

theorem wstep_long (s : EStp) (xs : List UInt8) (h : s.long = true) : (wstep s (xs, 0)).2 = 42 := by
  have h' : (s.what = 4 ∨ s.what = 5) ∧ ¬ blen s.N ≤ 255 := by simpa [EStp.long] using h
  obtain ⟨h1, h2⟩ := h'
  unfold wstep
  rcases h1 with h1 | h1 <;> simp [h1, wnatE, if_neg h2, wfail]

theorem wstep_err (s : EStp) (p : WSt) (h : p.2 ≠ 0) : (wstep s p).2 = p.2 := by
  have hN : wnatE p.2 s.N = p.2 := by
    unfold wnatE wfail
    rw [if_neg h]
    split <;> rfl
  unfold wstep
  repeat (split; first | rfl | exact hN)
  rfl

theorem wnatX_len (e : Int) (xs : List UInt8) (N : Nat) : (wnatX e xs N).length ≤ xs.length + 256 := by
  unfold wnatX
  split
  · rename_i h
    have := wput_le e xs (natL N)
    have h2 : (natL N).length = 1 + blen N := by rw [natL, List.length_append, be_length, natB_length]
    omega
  · omega

theorem wstep_len (s : EStp) (p : WSt) (h : s.b.length ≤ 3000) : (wstep s p).1.length ≤ p.1.length + 4000 := by
  have hw : ∀ ys : List UInt8, ys.length ≤ 4000 → (wput p.2 p.1 ys).length ≤ p.1.length + 4000 := fun ys hy => by
    have := wput_le p.2 p.1 ys
    omega
  have hN := wnatX_len p.2 p.1 s.N
  unfold wstep
  split
  · exact hw _ (by rw [be_length]; omega)
  split
  · exact hw _ (by rw [be_length]; omega)
  split
  · exact hw _ (by rw [be_length]; omega)
  split
  · exact hw _ (by rw [be_length]; omega)
  split
  · simp only; omega
  split
  · simp only; omega
  split
  · exact hw _ (by rw [rawB, List.length_append, be_length]; omega)
  · omega

/-- a script of a writer -/
def wrun (p : WSt) (ss : List EStp) : WSt := ss.foldl (fun p s => wstep s p) p

theorem wrun_err (ss : List EStp) (p : WSt) (h : p.2 ≠ 0) : (wrun p ss).2 = p.2 := by
  induction ss generalizing p with
  | nil => rfl
  | cons s ss ih =>
    have := wstep_err s p h
    show (wrun (wstep s p) ss).2 = _
    rw [ih _ (by rw [this]; exact h), this]

theorem wrun_is (ss : List EStp) (xs : List UInt8) : (ss.any EStp.long = false ∧ wrun (xs, 0) ss = (xs ++ ss.flatMap EStp.lay, 0)) ∨ (ss.any EStp.long = true ∧ (wrun (xs, 0) ss).2 = 42) := by
  induction ss generalizing xs with
  | nil => exact .inl ⟨rfl, by simp [wrun]⟩
  | cons s ss ih =>
    show ((s :: ss).any EStp.long = false ∧ wrun (wstep s (xs, 0)) ss = _) ∨ ((s :: ss).any EStp.long = true ∧ (wrun (wstep s (xs, 0)) ss).2 = 42)
    cases hl : s.long with
    | true =>
      have h2 := wstep_long s xs hl
      exact .inr ⟨by simp [hl], by rw [wrun_err _ _ (by rw [h2]; omega), h2]⟩
    | false =>
      rw [wstep_ok s xs hl]
      rcases ih (xs ++ s.lay) with ⟨h1, h2⟩ | ⟨h1, h2⟩
      · exact .inl ⟨by simp [hl, h1], by rw [h2]; simp⟩
      · exact .inr ⟨by simp only [List.any_cons, hl, h1, Bool.or_true], h2⟩

theorem wrun_take (p : WSt) (ss : List EStp) (i : Nat) (hi : i < ss.length) : wrun p (ss.take (i + 1)) = wstep ss[i] (wrun p (ss.take i)) := by
  unfold wrun
  rw [List.take_succ_eq_append_getElem hi, List.foldl_append]
  rfl
theorem wrun_append (p : WSt) (ss tt : List EStp) : wrun p (ss ++ tt) = wrun (wrun p ss) tt := List.foldl_append ..

theorem wrun_len (ss : List EStp) (p : WSt) (h : ∀ s ∈ ss, s.b.length ≤ 3000) : (wrun p ss).1.length ≤ p.1.length + 4000 * ss.length := by
  induction ss generalizing p with
  | nil => simp [wrun]
  | cons s ss ih =>
    have h1 := wstep_len s p (h s (List.mem_cons_self ..))
    have h2 := ih (wstep s p) (fun x hx => h x (List.mem_cons_of_mem _ hx))
    show (wrun (wstep s p) ss).1.length ≤ _
    rw [List.length_cons]
    omega

/-- Two scripts, one writer. -/
theorem wrun_join (ss tt : List EStp) :
    ((wrun ([], 0) ss).2 = 0 ∧ (wrun ([], 0) tt).2 = 0 ∧ wrun ([], 0) (ss ++ tt) = ((wrun ([], 0) ss).1 ++ (wrun ([], 0) tt).1, 0)) ∨
    (((wrun ([], 0) ss).2 = 42 ∨ (wrun ([], 0) ss).2 = 0 ∧ (wrun ([], 0) tt).2 = 42) ∧ (wrun ([], 0) (ss ++ tt)).2 = 42) := by
  rw [wrun_append]
  rcases wrun_is ss [] with ⟨h1, h2⟩ | ⟨h1, h2⟩
  · rw [h2]
    rcases wrun_is tt ([] ++ ss.flatMap EStp.lay) with ⟨h3, h4⟩ | ⟨h3, h4⟩
    · rcases wrun_is tt [] with ⟨h5, h6⟩ | ⟨h5, h6⟩
      · exact .inl ⟨rfl, by rw [h6], by rw [h4, h6]; simp⟩
      · rw [h3] at h5; cases h5
    · rcases wrun_is tt [] with ⟨h5, h6⟩ | ⟨h5, h6⟩
      · rw [h3] at h5; cases h5
      · exact .inr ⟨.inr ⟨rfl, h6⟩, h4⟩
  · refine .inr ⟨.inl h2, ?_⟩
    rw [wrun_err _ _ (by rw [h2]; omega), h2]

/-- a light script: its parts -/
theorem light_parts {ss : List EStp} (h : lightB ss = true) : ss.length ≤ 3000 ∧ ∀ i (hi : i < ss.length), ss[i].b.length ≤ 3000 ∧ ss[i].nat.length ≤ 3000 := by
  have h' : ss.length + wts ss ≤ 3000 := by simpa [lightB] using h
  refine ⟨by omega, fun i hi => ?_⟩
  have := wts_get hi
  unfold EStp.wt at this
  omega
theorem light_len {ss : List EStp} (h : lightB ss = true) (i : Nat) (p : WSt) : (wrun p (ss.take i)).1.length ≤ p.1.length + 12000000 := by
  obtain ⟨h1, h2⟩ := light_parts h
  have := wrun_len (ss.take i) p (fun s hs => by
    obtain ⟨j, hj, rfl⟩ := List.mem_iff_getElem.1 (List.mem_of_mem_take hs)
    exact (h2 j hj).1)
  have h3 : (ss.take i).length ≤ 3000 := by rw [List.length_take]; omega
  omega

/-- the blocks of two writers are not the same -/
def Apart (g : Nat) (v : Value) (g2 : Nat) (v2 : Value) : Prop := ∀ k, WS g v k → ¬ WS g2 v2 k
theorem Apart.symm {g g2 : Nat} {v v2 : Value} (h : Apart g v g2 v2) : Apart g2 v2 g v := fun k a b => h k b a

theorem Wr.below {w : World} {g : Nat} {v : Value} {xs : List UInt8} {e : Int} (h : Wr w g v xs e) {k : Nat} (hk : WS g v k) : k < w.heap.size := by
  rcases hk with rfl | hk
  · exact h.lt
  · exact h.own.lt k hk

theorem WStep.other {w wy : World} {g g2 : Nat} {v v' v2 : Value} {xs ys : List UInt8} {e e2 : Int} (h : WStep w g v xs e wy v') (k : Wr w g2 v2 ys e2) (ha : Apart g v g2 v2) : Wr wy g2 v2 ys e2 ∧ Apart g v' g2 v2 := by
  refine ⟨⟨h.mods.heap k.heap (fun x => ha _ x (.inl rfl)), k.own.keep h.mods (fun i hi x => ha _ x (.inr hi)), k.apart⟩, fun i hi x => ?_⟩
  rcases hi with hi | hi
  · exact ha i (.inl hi) x
  · rcases h.blk with hb | hb
    · exact ha i (.inr (hb ▸ hi)) x
    · have := hb i hi
      have := k.below x
      omega

/-- A writer in memory that was not there in w. -/
structure WB (w : World) (g : Nat) (v : Value) (p : WSt) (wx : World) : Prop where
  wr : Wr wx g v p.1 p.2
  new : ∀ k, WS g v k → w.heap.size ≤ k

theorem WB.step {w wx wy : World} {g : Nat} {v v' : Value} {p q : WSt} (h : WB w g v p wx) (s : WStep wx g v q.1 q.2 wy v') (hw : w.heap.size ≤ wx.heap.size) : WB w g v' q wy := by
  refine ⟨s.wr, fun k hk => ?_⟩
  rcases hk with hk | hk
  · exact h.new k (.inl hk)
  · rcases s.blk with hb | hb
    · exact h.new k (.inr (hb ▸ hk))
    · exact Nat.le_trans hw (hb k hk)
theorem WB.mods {w wx wy : World} {g : Nat} {v v' : Value} {p q : WSt} (h : WB w g v p wx) (s : WStep wx g v q.1 q.2 wy v') (hm : Mods noB w wx) : Mods noB w wy :=
  hm.trans s.mods (fun _ _ x => x) (fun i hi x => by have := h.new i x; omega)
theorem WB.then0 {w wx wy : World} {g : Nat} {v : Value} {p : WSt} (h : WB w g v p wx) (hm : Mods noB wx wy) : WB w g v p wy := ⟨h.wr.then0 hm, h.new⟩
theorem WB.away {w wx : World} {g : Nat} {v : Value} {p : WSt} (h : WB w g v p wx) {s : EStp} (hs : s.At w) : Away wx g v s := by
  by_cases hb : s.b = []
  · exact .inl hb
  · refine .inr (fun k _ hkb => ?_)
    have hk := hs.b.ltn (fun h0 => hb (List.eq_nil_of_length_eq_zero h0)) k hkb
    refine ⟨fun hv => ?_, fun hg => ?_⟩
    · have := h.new k (.inr hv)
      omega
    · have := h.new k (.inl hg)
      omega
theorem WB.start {w wx : World} (hm : Mods noB w wx) : WB w wx.heap.size (.slice none 0 0) ([], 0) (wx.alloc (.cells #[.slice none 0 0, .int .i64 0] 54)) :=
  ⟨⟨heap_new _ _, Own.nil _, by simp [Value.ownBlock]⟩, fun k hk => by
    rcases hk with rfl | hk
    · exact hm.size
    · simp [Value.ownBlock] at hk⟩

/-- A step of such a writer. -/
theorem WB.write {w wx : World} {g : Nat} {v : Value} {p : WSt} (h : WB w g v p wx) (hm : Mods noB w wx) {s : EStp} (hs : s.At w) (hl : p.1.length ≤ 100000000) (hb : s.b.length ≤ 3000 ∧ s.nat.length ≤ 3000) :
    Calls Try.prog 23 #[.pointer (some ⟨g, 0, none⟩), s.val] wx fun r w' => r = .returned (.tuple #[]) ∧ ∃ v', WStep wx g v (wstep s p).1 (wstep s p).2 w' v' :=
  write_any h.wr (hs.keep hm) (h.away hs) (by omega) hb.2 hb.1

/-- Three writers beside one another. -/
structure W3 (w : World) (ga gb gc : Nat) (pa pb pc : WSt) (va vb vc : Value) (wx : World) : Prop where
  a : WB w ga va pa wx
  b : WB w gb vb pb wx
  c : WB w gc vc pc wx
  ab : Apart ga va gb vb
  ac : Apart ga va gc vc
  bc : Apart gb vb gc vc
  mods : Mods noB w wx

theorem W3.stepA {w wx wy : World} {ga gb gc : Nat} {pa pb pc q : WSt} {va vb vc v' : Value} (h : W3 w ga gb gc pa pb pc va vb vc wx) (s : WStep wx ga va q.1 q.2 wy v') : W3 w ga gb gc q pb pc v' vb vc wy := by
  obtain ⟨k1, k2⟩ := s.other h.b.wr h.ab
  obtain ⟨k3, k4⟩ := s.other h.c.wr h.ac
  exact ⟨h.a.step s h.mods.size, ⟨k1, h.b.new⟩, ⟨k3, h.c.new⟩, k2, k4, h.bc, h.a.mods s h.mods⟩
theorem W3.stepB {w wx wy : World} {ga gb gc : Nat} {pa pb pc q : WSt} {va vb vc v' : Value} (h : W3 w ga gb gc pa pb pc va vb vc wx) (s : WStep wx gb vb q.1 q.2 wy v') : W3 w ga gb gc pa q pc va v' vc wy := by
  obtain ⟨k1, k2⟩ := s.other h.a.wr h.ab.symm
  obtain ⟨k3, k4⟩ := s.other h.c.wr h.bc
  exact ⟨⟨k1, h.a.new⟩, h.b.step s h.mods.size, ⟨k3, h.c.new⟩, k2.symm, h.ac, k4, h.b.mods s h.mods⟩
theorem W3.stepC {w wx wy : World} {ga gb gc : Nat} {pa pb pc q : WSt} {va vb vc v' : Value} (h : W3 w ga gb gc pa pb pc va vb vc wx) (s : WStep wx gc vc q.1 q.2 wy v') : W3 w ga gb gc pa pb q va vb v' wy := by
  obtain ⟨k1, k2⟩ := s.other h.a.wr h.ac.symm
  obtain ⟨k3, k4⟩ := s.other h.b.wr h.bc.symm
  exact ⟨⟨k1, h.a.new⟩, ⟨k3, h.b.new⟩, h.c.step s h.mods.size, h.ab, k2.symm, k4.symm, h.c.mods s h.mods⟩
theorem W3.start {w wx : World} {gb gc : Nat} (hm : Mods noB w wx) (o : Obj) (ho : o = .cells #[.slice none 0 0, .int .i64 0] 54) (hb : gb = (wx.alloc o).heap.size) (hc : gc = ((wx.alloc o).alloc o).heap.size) : W3 w wx.heap.size gb gc ([], 0) ([], 0) ([], 0) (.slice none 0 0) (.slice none 0 0) (.slice none 0 0) (((wx.alloc o).alloc o).alloc o) := by
  subst hb hc
  subst ho
  have m1 := (Mods.refl noB wx).alloc (.cells #[.slice none 0 0, .int .i64 0] 54)
  have m2 := (Mods.refl noB (wx.alloc (.cells #[.slice none 0 0, .int .i64 0] 54))).alloc (.cells #[.slice none 0 0, .int .i64 0] 54)
  have m3 := (Mods.refl noB ((wx.alloc (.cells #[.slice none 0 0, .int .i64 0] 54)).alloc (.cells #[.slice none 0 0, .int .i64 0] 54))).alloc (.cells #[.slice none 0 0, .int .i64 0] 54)
  have a := WB.start hm
  have b := WB.start (hm.then0 m1)
  have c := WB.start ((hm.then0 m1).then0 m2)
  have hap : ∀ g g2 : Nat, g ≠ g2 → Apart g (.slice none 0 0) g2 (.slice none 0 0) := by
    intro g g2 hne k h1 h2
    rcases h1 with h1 | h1
    · rcases h2 with h2 | h2
      · exact hne (h1.symm.trans h2)
      · simp [Value.ownBlock] at h2
    · simp [Value.ownBlock] at h1
  refine ⟨(a.then0 m2).then0 m3, b.then0 m3, c, hap _ _ (by simp <;> omega), hap _ _ (by simp <;> omega), hap _ _ (by simp <;> omega), ((hm.then0 m1).then0 m2).then0 m3⟩

/-- Three writers, wherever their bytes lie. -/
def E3 (w : World) (ga gb gc : Nat) (pa pb pc : WSt) (wx : World) : Prop := ∃ va vb vc, W3 w ga gb gc pa pb pc va vb vc wx
theorem E3.mods {w wx : World} {ga gb gc : Nat} {pa pb pc : WSt} (h : E3 w ga gb gc pa pb pc wx) : Mods noB w wx := by
  obtain ⟨va, vb, vc, h⟩ := h
  exact h.mods
theorem E3.then0 {w wx wy : World} {ga gb gc : Nat} {pa pb pc : WSt} (h : E3 w ga gb gc pa pb pc wx) (hm : Mods noB wx wy) : E3 w ga gb gc pa pb pc wy := by
  obtain ⟨va, vb, vc, h⟩ := h
  exact ⟨va, vb, vc, h.a.then0 hm, h.b.then0 hm, h.c.then0 hm, h.ab, h.ac, h.bc, h.mods.then0 hm⟩
theorem E3.writeA {w wx : World} {ga gb gc : Nat} {pa pb pc : WSt} (h : E3 w ga gb gc pa pb pc wx) {s : EStp} (hs : s.At w) (hl : pa.1.length ≤ 100000000) (hb : s.b.length ≤ 3000 ∧ s.nat.length ≤ 3000) :
    Calls Try.prog 23 #[.pointer (some ⟨ga, 0, none⟩), s.val] wx fun r w' => r = .returned (.tuple #[]) ∧ E3 w ga gb gc (wstep s pa) pb pc w' := by
  obtain ⟨va, vb, vc, h⟩ := h
  exact (h.a.write h.mods hs hl hb).mono fun r w' ⟨hr, v', hk⟩ => ⟨hr, v', vb, vc, h.stepA hk⟩
theorem E3.writeB {w wx : World} {ga gb gc : Nat} {pa pb pc : WSt} (h : E3 w ga gb gc pa pb pc wx) {s : EStp} (hs : s.At w) (hl : pb.1.length ≤ 100000000) (hb : s.b.length ≤ 3000 ∧ s.nat.length ≤ 3000) :
    Calls Try.prog 23 #[.pointer (some ⟨gb, 0, none⟩), s.val] wx fun r w' => r = .returned (.tuple #[]) ∧ E3 w ga gb gc pa (wstep s pb) pc w' := by
  obtain ⟨va, vb, vc, h⟩ := h
  exact (h.b.write h.mods hs hl hb).mono fun r w' ⟨hr, v', hk⟩ => ⟨hr, va, v', vc, h.stepB hk⟩
theorem E3.writeC {w wx : World} {ga gb gc : Nat} {pa pb pc : WSt} (h : E3 w ga gb gc pa pb pc wx) {s : EStp} (hs : s.At w) (hl : pc.1.length ≤ 100000000) (hb : s.b.length ≤ 3000 ∧ s.nat.length ≤ 3000) :
    Calls Try.prog 23 #[.pointer (some ⟨gc, 0, none⟩), s.val] wx fun r w' => r = .returned (.tuple #[]) ∧ E3 w ga gb gc pa pb (wstep s pc) w' := by
  obtain ⟨va, vb, vc, h⟩ := h
  exact (h.c.write h.mods hs hl hb).mono fun r w' ⟨hr, v', hk⟩ => ⟨hr, va, vb, v', h.stepC hk⟩
theorem E3.outA {w wx : World} {ga gb gc : Nat} {pa pb pc : WSt} (h : E3 w ga gb gc pa pb pc wx) (hl : pa.1.length ≤ 100000000) : Calls Try.prog 25 #[.pointer (some ⟨ga, 0, none⟩)] wx (OutRes wx pa.1 pa.2) := by
  obtain ⟨va, vb, vc, h⟩ := h
  exact WOut_any h.a.wr (by omega)
theorem E3.outB {w wx : World} {ga gb gc : Nat} {pa pb pc : WSt} (h : E3 w ga gb gc pa pb pc wx) (hl : pb.1.length ≤ 100000000) : Calls Try.prog 25 #[.pointer (some ⟨gb, 0, none⟩)] wx (OutRes wx pb.1 pb.2) := by
  obtain ⟨va, vb, vc, h⟩ := h
  exact WOut_any h.b.wr (by omega)
theorem E3.outC {w wx : World} {ga gb gc : Nat} {pa pb pc : WSt} (h : E3 w ga gb gc pa pb pc wx) (hl : pc.1.length ≤ 100000000) : Calls Try.prog 25 #[.pointer (some ⟨gc, 0, none⟩)] wx (OutRes wx pc.1 pc.2) := by
  obtain ⟨va, vb, vc, h⟩ := h
  exact WOut_any h.c.wr (by omega)

/-- The i-th step of a script, as the walk loads it. -/
theorem RdSteps.get {w wx : World} {a : Option Addr} {n c i : Nat} {ss : List EStp} (h : RdSteps w (.slice a n c) ss) (hm : Mods noB w wx) (hi : i < n) : ∃ (g off : Nat) (hl : i < ss.length), a = some ⟨g, off, none⟩ ∧ ss[i].At w ∧
    wx.cell? ⟨g, off + i * 5, none⟩ = some (.int .i64 ss[i].what) ∧ wx.cell? ⟨g, off + i * 5 + 1, none⟩ = some (.int .u64 ss[i].n) ∧ wx.cell? ⟨g, off + i * 5 + 2, none⟩ = some ss[i].nv ∧ wx.cell? ⟨g, off + i * 5 + 3, none⟩ = some ss[i].bw ∧ wx.cell? ⟨g, off + i * 5 + 4, none⟩ = some (.int .i64 ss[i].most) := by
  obtain ⟨a1, n1, c1, hv1, hn1, _, _, k3⟩ := h.form
  obtain ⟨a', n', c', hv, hn, h1, h2, h3⟩ := (h.keep hm).form
  cases hv
  cases hv1
  obtain ⟨g, off, rfl, hc⟩ := h3.resolve_left (by omega)
  obtain ⟨_, _, _, kc⟩ := k3.resolve_left (by omega)
  obtain ⟨h4, h5⟩ := hc i (by omega)
  exact ⟨g, off, by omega, rfl, (kc i (by omega)).2, h4 0 (by omega), h4 1 (by omega), h4 2 (by omega), h4 3 (by omega), h4 4 (by omega)⟩

end Go.Proofs.Ytebknplbghcemaa

/- enc.Reader: Nat, Dec, Raw. -/
import Derived.Test.YtnkbbclcileleaaERdN
namespace Go.Proofs.Ytnkbbclcileleaa
open Go.Gl Go.RowKit
set_option linter.unusedVariables false
set_option maxRecDepth 100000

theorem Rd.subA {w : World} {g off cap m : Nat} {xs : List UInt8} (h : Rd w (.slice (some ⟨g, off, none⟩) m cap) xs) (hm : xs.length = m) (i n : Nat) (hi : i + n ≤ m) (hc : m ≤ cap) (hcm : cap ≤ maxLen) {A : Option Addr} (hA : (if cap = i then (some ⟨g, off, none⟩ : Option Addr) else some ⟨g, off + i, none⟩) = A) :
    Rd w (.slice A n (cap - i)) ((xs.drop i).take n) ∧ ∀ k, (Value.slice A n (cap - i)).ownBlock = some k → k = g := by
  subst hm hA
  by_cases hci : cap = i
  · rw [if_pos hci]
    obtain rfl : n = 0 := by omega
    refine ⟨?_, fun k hk => by simpa [Value.ownBlock] using hk.symm⟩
    rw [List.take_zero]
    rcases h.open with ⟨h1, _⟩ | ⟨g', off', cap', h1, _, _, h4, _⟩
    · exact h1.no.elim
    · cases h1
      exact ⟨rfl, .inr ⟨g, off, _, rfl, Nat.zero_le _, by omega, .inl rfl, fun j u hj => by simp [bv] at hj⟩⟩
  · rw [if_neg hci]
    exact ⟨h.sub i n (cap - i) hi (by omega) (by omega), fun k hk => by simpa [Value.ownBlock] using hk.symm⟩

theorem Rr.setA {w : World} {g gb off ca n m c' : Nat} {xs ys : List UInt8} {e : Int} {A : Option Addr} (h : Rr w g (.slice (some ⟨gb, off, none⟩) n ca) xs e) (hr : Rd w (.slice A m c') ys) (hA : ∀ k, (Value.slice A m c').ownBlock = some k → k = gb) :
    RStp w g (.slice (some ⟨gb, off, none⟩) n ca) ys e (w.setCell ⟨g, 0, none⟩ (.slice A m c')) (.slice A m c') := by
  have hne : gb ≠ g := fun e => h.apart (by rw [e]; rfl)
  refine ⟨⟨?_, hr.keep (Mods.one _ _ _ _) (fun k hk e => hne (by rw [← hA k hk, e])), fun e => hne (hA g e).symm, fun k hk => by have := h.blt gb rfl; rw [hA k hk]; simpa [World.setCell] using this⟩, Mods.one _ _ _ _, fun k hk => by rw [hA k hk]; rfl⟩
  have := heap_set h.heap 0 (.slice A m c')
  simpa using this

theorem RStp.from {w w1 w2 : World} {g : Nat} {v v2 : Value} {xs : List UInt8} {e : Int} (h : RStp w1 g v xs e w2 v2) (hm : Mods noB w w1) : RStp w g v xs e w2 v2 :=
  ⟨h.rr, hm.trans h.mods (fun _ _ x => x.elim) (fun _ _ x => x), h.blk⟩

/-- what piece with FromBytes tells, at a byte count z -/
theorem pieceN_short {w : World} {g : Nat} {v : Value} {xs : List UInt8} (z : Nat) (hz : z < 256) (h : Rr w g v xs 0) (hl : xs.length < 1 + z) :
    Calls Try.prog 92 #[.pointer (some ⟨g, 0, none⟩), .int .i64 1, .int .i64 z, .func (Fn.func 93) #[] #[]] w (RRes (.slice none 0 0) w g v xs 40) := by
  obtain ⟨a, ca, rfl, h1⟩ := h.rd.form
  have c := cells_of h.heap
  have R := Lib.hid h
  clear h
  generalize hx : xs.length = len at *
  have HX := Lib.hid hx
  clear hx h1
  go_enter Try.func92, Try.ntmps92
  go_wp2_with fail
  refine (rfails_any 40 R.out).mono ?_
  rintro r w1 ⟨rfl, v1, hs⟩
  have HS := Lib.hid hs
  clear hs
  go_wp2
  go_ret
  exact ⟨rfl, _, HS.out⟩

/-- a Nat's bytes, the count struck, as a call tells what they are -/
def PieceN (w : World) (g : Nat) (v : Value) (xs : List UInt8) (z : Nat) (r : Ending) (w' : World) : Prop :=
  (((xs.drop 1).take z)[0]? = some 0 ∧ r = .returned (.slice none 0 0) ∧ ∃ v', RStp w g v xs 41 w' v') ∨
  (((xs.drop 1).take z)[0]? ≠ some 0 ∧ ∃ u v', r = .returned u ∧ RN w' u (dig 18446744073709551616 (num ((xs.drop 1).take z))) ∧ freshIn w u ∧ RStp w g v (xs.drop (1 + z)) 0 w' v')

set_option maxHeartbeats 1000000 in
theorem pieceN_ok {w : World} {g gb off len ca : Nat} {xs : List UInt8} (z : Nat) (hz : z < 256) (h : Rr w g (.slice (some ⟨gb, off, none⟩) len ca) xs 0) (hlen : xs.length = len) (hl : 1 + z ≤ len) (hll : len ≤ 10000000000) :
    Calls Try.prog 92 #[.pointer (some ⟨g, 0, none⟩), .int .i64 1, .int .i64 z, .func (Fn.func 93) #[] #[]] w (PieceN w g (.slice (some ⟨gb, off, none⟩) len ca) xs z) := by
  obtain ⟨_, c9, hc9, _⟩ := h.rd.form
  have hcc : len ≤ ca ∧ ca ≤ maxLen := by
    rcases h.rd.open with ⟨h1, _⟩ | ⟨g', off', cap', h1, h2, h3, _⟩
    · exact h1.no.elim
    · cases h1; omega
  obtain ⟨hc1, hc2⟩ := hcc
  have hcm : ca ≤ 9223372036854775807 := by simp only [maxLen] at hc2; omega
  obtain ⟨A1, hA1⟩ : ∃ A, (if ca = 1 then (some ⟨gb, off, none⟩ : Option Addr) else some ⟨gb, off + 1, none⟩) = A := ⟨_, rfl⟩
  obtain ⟨A2, hA2⟩ : ∃ A, (if ca = 1 + z then (some ⟨gb, off, none⟩ : Option Addr) else some ⟨gb, off + (1 + z), none⟩) = A := ⟨_, rfl⟩
  have s1 := Rd.subA h.rd hlen 1 z hl hc1 hc2 hA1
  have s2 := Rd.subA h.rd hlen (1 + z) (len - (1 + z)) (by omega) hc1 hc2 hA2
  rw [List.take_of_length_le (by rw [List.length_drop]; omega)] at s2
  have c := cells_of h.heap
  have f := free_of h.heap
  have H := Lib.hid h
  have S1 := Lib.hid s1
  have S2 := Lib.hid s2
  have HL := Lib.hid hlen
  clear h s1 s2 hlen hc9 hc2
  go_enter Try.func92, Try.ntmps92
  go_wp2_with (at_builtin; refine stop ?_)
  unfold Stop
  rw [show 1 + z - 1 = z from by omega]
  refine wpList_apb rfl rfl [] ((xs.drop 1).take z) (Own.nil _) S1.out.1 rfl rfl (by simp [HL.out]; omega) ?_
  intro u w1 o1 m1 f1
  have M1 := Lib.hid (m1.mono (T := noB) (fun i _ x => (ofV_nil x).elim))
  have o1' : Own w1 u ((xs.drop 1).take z) := o1
  have HF := Lib.hid (From_any o1'.rd (by simp [HL.out]; omega))
  have S2' := Lib.hid (S2.out.1.keep M1.out (fun _ _ x => x))
  have HR := Lib.hid (H.out.keep M1.out (fun x => x) (fun _ _ x => x))
  have c1 := cells_of HR.out.heap
  have f1' := free_of HR.out.heap
  clear o1 o1' m1 f1 c f
  go_wp2_with fail
  refine HF.out.mono ?_
  rintro r w2 (⟨hz0, rfl, rfl⟩ | ⟨hz0, u2, rfl, hr2, m2, f2⟩)
  · have HZ := Lib.hid hz0
    clear hz0 HF
    go_wp2_with fail
    refine (rfails_any 41 HR.out).mono ?_
    rintro r w3 ⟨rfl, v3, h3⟩
    have H3 := Lib.hid (h3.from M1.out)
    clear h3
    go_wp2
    go_ret
    exact .inl ⟨HZ.out, rfl, v3, H3.out⟩
  · have HZ := Lib.hid hz0
    have M2 := Lib.hid (M1.out.then0 m2)
    have HR2 := Lib.hid (HR.out.keep m2 (fun x => x) (fun _ _ x => x))
    have S2'' := Lib.hid (S2'.out.keep m2 (fun _ _ x => x))
    have R2 := Lib.hid (And.intro hr2 (f2.of M1.out.size))
    have c2 := cells_of HR2.out.heap
    have f2' := free_of HR2.out.heap
    clear hz0 HF hr2 m2 f2 c1 f1'
    have S2p := Lib.hid S2.out.2
    by_cases hca : ca = 1 + z
    · subst hca
      rw [if_pos rfl] at hA2
      subst hA2
      rw [show len - (1 + z) = 0 from by omega, Nat.sub_self] at S2'' S2p
      go_wp2
      go_ret
      refine .inr ⟨HZ.out, u2, _, rfl, RdM.keep R2.out.1 (Mods.one w2 g 0 _) (fun k hk e => by have := R2.out.2 k hk; have := H.out.lt; omega), R2.out.2, RStp.from (Rr.setA HR2.out (by first | exact S2''.out | simpa using S2''.out) (by first | exact S2p.out | simpa using S2p.out)) M2.out⟩
    · rw [if_neg hca] at hA2
      subst hA2
      go_wp2
      go_ret
      refine .inr ⟨HZ.out, u2, _, rfl, RdM.keep R2.out.1 (Mods.one w2 g 0 _) (fun k hk e => by have := R2.out.2 k hk; have := H.out.lt; omega), R2.out.2, RStp.from (Rr.setA HR2.out (by first | exact S2''.out | simpa using S2''.out) (by first | exact S2p.out | simpa using S2p.out)) M2.out⟩

def PNat (w : World) (g : Nat) (v : Value) (xs : List UInt8) (z : Nat) (r : Ending) (w' : World) : Prop := (xs.length < 1 + z ∧ RRes (.slice none 0 0) w g v xs 40 r w') ∨ (1 + z ≤ xs.length ∧ PieceN w g v xs z r w')

theorem RNat_no {w : World} {g : Nat} {v : Value} {xs : List UInt8} {e : Int} (h : Rr w g v xs e) (hk : rok 1 xs e = false) :
    Calls Try.prog 87 #[.pointer (some ⟨g, 0, none⟩)] w (RRes (.slice none 0 0) w g v xs (rerr 1 xs e)) := by
  have H := Lib.hid h
  have HK := Lib.hid hk
  clear h hk
  go_enter Try.func87, Try.ntmps87
  go_wp2_with fail
  refine (peek_any 1 H.out (by omega) (by omega)).mono ?_
  rw [HK.out]
  rintro r w1 ⟨rfl, v1, h1⟩
  have H1 := Lib.hid h1
  clear h1
  go_wp2
  go_ret
  exact ⟨rfl, v1, H1.out⟩

theorem RNat_yes {w : World} {g : Nat} {v : Value} {xs : List UInt8} (h : Rr w g v xs 0) (hl : 1 ≤ xs.length) (hll : xs.length ≤ 10000000000) :
    Calls Try.prog 87 #[.pointer (some ⟨g, 0, none⟩)] w (fun r w' => PNat w g v xs (rtake 1 xs 0) r w') := by
  have hk : rok 1 xs 0 = true := by simp [rok, hl]
  have hre : rerr 1 xs 0 = 0 := by simp [rerr, hl]
  have H := Lib.hid h
  have HK := Lib.hid hk
  have HRE := Lib.hid hre
  have hlt := rtake_lt 1 xs 0
  simp at hlt
  have HP : Hid (∀ w1 v1, RStp w g v xs 0 w1 v1 → Calls Try.prog 92 #[.pointer (some ⟨g, 0, none⟩), .int .i64 1, .int .i64 (rtake 1 xs 0), .func (Fn.func 93) #[] #[]] w1 (PNat w g v xs (rtake 1 xs 0))) := by
    intro w1 v1 h1
    by_cases hz : xs.length < 1 + rtake 1 xs 0
    · refine (pieceN_short _ hlt h1.rr hz).mono ?_
      rintro r w2 ⟨rfl, v2, h2⟩
      exact .inl ⟨hz, rfl, v2, h1.trans h2⟩
    · rcases h1.rr.rd.open with ⟨_, rfl⟩ | ⟨gb, off, ca, rfl, _⟩
      · simp at hl
      · refine (pieceN_ok _ hlt h1.rr rfl (by omega) hll).mono ?_
        rintro r w2 (⟨q1, q2, v2, q3⟩ | ⟨q1, u, v2, q2, q3, q4, q5⟩)
        · exact .inr ⟨by omega, .inl ⟨q1, q2, v2, h1.trans q3⟩⟩
        · exact .inr ⟨by omega, .inr ⟨q1, u, v2, q2, q3, q4.of h1.mods.size, h1.trans q5⟩⟩
  clear h hk hre
  obtain ⟨z, hz⟩ : ∃ z, rtake 1 xs 0 = z := ⟨_, rfl⟩
  rw [hz] at HP hlt
  have HZ := Lib.hid hz
  clear hz
  go_enter Try.func87, Try.ntmps87
  go_wp2_with fail
  refine (peek_any 1 H.out (by omega) (by omega)).mono ?_
  rw [HK.out, HRE.out, HZ.out]
  rintro r w1 ⟨rfl, v1, h1⟩
  have H1 := Lib.hid h1
  clear h1
  go_wp2_with fail
  refine (HP.out _ _ H1.out).mono ?_
  rintro r w2 hp
  have e : ∃ u, r = .returned u := by
    rcases hp with ⟨_, h, _⟩ | ⟨_, ⟨_, h, _⟩ | ⟨_, u, _, h, _⟩⟩
    · exact ⟨_, h⟩
    · exact ⟨_, h⟩
    · exact ⟨_, h⟩
  obtain ⟨u, rfl⟩ := e
  have HQ := Lib.hid hp
  clear hp
  go_wp2
  go_ret
  rw [HZ.out]
  exact HQ.out


/-- Raw's bytes, the length struck, as a call tells them -/
def PieceB (w : World) (g : Nat) (v : Value) (xs : List UInt8) (z : Nat) (r : Ending) (w' : World) : Prop :=
  ∃ u v', r = .returned u ∧ Own w' u ((xs.drop 4).take z) ∧ freshIn w u ∧ RStp w g v (xs.drop (4 + z)) 0 w' v'



end Go.Proofs.Ytnkbbclcileleaa

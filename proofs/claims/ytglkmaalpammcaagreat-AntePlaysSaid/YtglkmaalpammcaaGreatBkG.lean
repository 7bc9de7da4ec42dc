/- bank: key, is, much, Get, lay, as calls on a store. -/
import Derived.Test.YtglkmaalpammcaaGreatZE
import Derived.Test.YtglkmaalpammcaaGreatRqAccount
import Derived.Test.YtglkmaalpammcaaGreatBk0
namespace Go.Proofs.YtglkmaalpammcaaGreat
open Go.Gl Go.RowKit
set_option linter.unusedVariables false
set_option maxRecDepth 100000
def U64 (n : Nat) : Prop := n ≤ 18446744073709551615
theorem bkey_any {id : Nat} (w : World) (h : U64 id) : Calls Tryz.prog 94 #[.int .u64 (id : Nat)] w fun e w' => ∃ v, e = .returned v ∧ Gl.Own w' v (akey id) ∧ Mods noB w w' ∧ freshIn w v := by
 have M := Lib.hid (Make_any 4 id 0 w h (by omega))
 clear h
 go_enter Tryz.func94, Tryz.ntmps94
 go_wp2_with fail
 refine M.out.mono ?_
 rintro e w1 ⟨v, rfl, o, m, f⟩
 have O := Lib.hid (And.intro o (And.intro m f))
 clear o m f M
 go_wp2
 go_ret
 exact ⟨_, rfl, O.out⟩
theorem bis_any {id : Nat} (w : World) (h : U64 id) : Calls Tryz.prog 78 #[.int .u64 (id : Nat)] w fun e w' => e = .returned (.bool (isB id)) ∧ w = w' := by
 unfold U64 at h
 unfold isB
 by_cases h1 : 1 ≤ id
 ·have i1 : (1 : Int) ≤ (id : Int) := by omega
  rw [decide_eq_true h1]
  by_cases h2 : id ≤ 4
  ·have i2 : (id : Int) ≤ 4 := by omega
   rw [decide_eq_true h2]
   clear h
   go_enter Tryz.func78, Tryz.ntmps78
   go_wp2
   go_ret
   exact ⟨rfl, rfl⟩
  ·have i2 : ¬ (id : Int) ≤ 4 := by omega
   rw [decide_eq_false h2]
   by_cases h3 : 16 ≤ id
   ·have i3 : (16 : Int) ≤ (id : Int) := by omega
    rw [decide_eq_true h3]
    clear h
    go_enter Tryz.func78, Tryz.ntmps78
    go_wp2
    go_ret
    exact ⟨rfl, rfl⟩
   ·have i3 : ¬ (16 : Int) ≤ (id : Int) := by omega
    rw [decide_eq_false h3]
    clear h
    go_enter Tryz.func78, Tryz.ntmps78
    go_wp2
    go_ret
    exact ⟨rfl, rfl⟩
 ·have i1 : ¬ (1 : Int) ≤ (id : Int) := by omega
  have i3 : ¬ (16 : Int) ≤ (id : Int) := by omega
  rw [decide_eq_false h1, decide_eq_false (show ¬ 16 ≤ id by omega)]
  clear h
  go_enter Tryz.func78, Tryz.ntmps78
  go_wp2
  go_ret
  exact ⟨rfl, rfl⟩
theorem bmuch_any {c n : Nat} (w : World) (hc : U64 c) (hn : U64 n) : Calls Tryz.prog 79 #[.int .u64 (c : Nat), .int .u64 (n : Nat)] w fun e w' => e = .returned (.bool (muchB c n)) ∧ w = w' := by
 unfold U64 at hc hn
 unfold muchB
 by_cases h1 : 1000000000000000000 < c
 ·have i1 : (1000000000000000000 : Int) < (c : Int) := by omega
  rw [decide_eq_true (show 1000000000000000000 < c + n by omega)]
  clear hc hn
  go_enter Tryz.func79, Tryz.ntmps79
  go_wp2
  go_ret
  exact ⟨rfl, rfl⟩
 ·have i1 : ¬ (1000000000000000000 : Int) < (c : Int) := by omega
  obtain ⟨d, hd⟩ : ∃ d, 1000000000000000000 - c = d := ⟨_, rfl⟩
  have hdI : (1000000000000000000 : Int) - (c : Int) = (d : Int) := by omega
  by_cases h2 : d < n
  ·have i2 : (d : Int) < (n : Int) := by omega
   rw [decide_eq_true (show 1000000000000000000 < c + n by omega)]
   clear hd h1 h2
   go_enter Tryz.func79, Tryz.ntmps79
   go_wp2
   go_ret
   exact ⟨rfl, rfl⟩
  ·have i2 : ¬ (d : Int) < (n : Int) := by omega
   rw [decide_eq_false (show ¬ 1000000000000000000 < c + n by omega)]
   clear hd h1 h2
   go_enter Tryz.func79, Tryz.ntmps79
   go_wp2
   go_ret
   exact ⟨rfl, rfl⟩
def acV (a : Nat × Nat) : Value := .agg #[.int .u64 (a.1 : Nat), .int .u64 (a.2 : Nat)]
theorem own_off {w : World} {S0 N : Nat → Prop} {v : Value} {xs : List UInt8} (h : ∀ k, ofV v k → N k) : Off (fun k => ¬ Out w S0 N k) v xs := fun _ i hi x => x (.inl (h i hi))
section
variable {w : World} {sg n p : Nat} {F : List Ent} {Q : Nat → Prop}
set_option maxHeartbeats 2000000 in
theorem bGet {id : Nat} (h : U64 id) (hn : n ≤ 1000000000000) (hp : p ≤ 100000) : GS Tryz.prog 26 #[.pointer (some ⟨sg, 0, none⟩), .int .u64 (id : Nat)] w (KVe sg F n p) Q (acV (acF F id)) (KVe sg F (n + 1) p) := GS.walk fun S D kv hQ => by
 have VL := Lib.hid (show ((getL F (akey id)).getD []).length ≤ 1000000 from by
  obtain ⟨m, q, _, _, kv⟩ := kv
  cases hg : getL F (akey id) with
  | none => simp
  | some v => exact KV.vlen kv hg)
 have P := Lib.hid (put_box w #[.int .u64 0, .int .u64 0] 59 _ rfl)
 have G0 := Lib.hid ((GI.start kv).grow kve_f P.out.2.1 (N' := fun k => k = w.heap.size) (fun k hk => .inr ⟨by omega, by have := P.out.2.2; omega⟩))
 have HU := Lib.hid h
 clear kv h
 go_enter Tryz.func26, Tryz.ntmps26
 go_wp2_with fail
 generalize World.alloc w _ = w1 at *
 refine (bkey_any w1 HU.out).mono ?_
 rintro e w2 ⟨k, rfl, o2, m2, f2⟩
 have G2 := Lib.hid (G0.out.own kve_f m2 o2 f2)
 have H2 := Lib.hid (blk_step m2 P.out.1)
 have C := Lib.hid (G2.out.callo (ge_get o2.rd (own_off (fun i hi => .inr hi)) hn hp))
 clear o2 m2 f2 G0
 go_wp2_with fail
 refine C.out.mono ?_
 rintro e w3 ⟨b, rfl, o3, f3, g3, m3⟩
 have H3 := Lib.hid (m3.heap H2.out (fun x => x (.inl (.inl rfl))))
 have G3 := Lib.hid g3
 have A := Lib.hid (account_get o3.rd VL.out)
 clear C o3 f3 g3 m3 H2 G2
 go_wp2_with fail
 refine A.out.mono ?_
 rintro e w4 ⟨n0, n1, er, rfl, hg, m4⟩
 have G4 := Lib.hid (G3.out.keep0 kve_f m4)
 have H4 := blk_step m4 H3.out
 have TW := Lib.hid (show acF F id = (n0, n1) from two_of hg)
 obtain ⟨w5, hw5⟩ : ∃ w5, w5 = w4.alloc (.cells #[.int .u64 (n0 : Nat), .int .u64 (n1 : Nat)] 59) := ⟨_, rfl⟩
 have m5 : Mods noB w4 w5 := by rw [hw5]; exact (Mods.refl _ _).alloc _
 have H5 := blk_step m5 H4
 have G5 := Lib.hid (G4.out.keep0 kve_f m5)
 clear A hg m4 G3 H3 H4 G4 m5
 go_wp2_with (rw [← hw5]; refine wpList_store_blk rfl rfl H5 rfl rfl account_size rfl rfl ?_; intro w11 q1 q2 q3; have c11 := cells_of q1)
 refine bodyPost_ret (by simp [results, Tryz.results26, go_sem, c11]; try rfl) rfl ?_
 exact ⟨by rw [TW.out]; rfl, (G5.out.turn kve_f q2 (fun k hk => .inl (.inl hk))).done⟩
set_option maxHeartbeats 2000000 in
theorem bLay {id : Nat} {a : Nat × Nat} (h : U64 id) (h1 : U64 a.1) (h2 : U64 a.2) (hn : n ≤ 1000000000000) (hp : p ≤ 100000) : GS Tryz.prog 80 #[.pointer (some ⟨sg, 0, none⟩), .int .u64 (id : Nat), acV a] w (KVe sg F n p) Q (.tuple #[]) (KVe sg (layF F id a) (n + 1) (p + 2)) := GS.walk fun S D kv hQ => by
 obtain ⟨c, q⟩ := a
 simp only at h1 h2
 have P := Lib.hid (put_box w #[.int .u64 (c : Nat), .int .u64 (q : Nat)] 59 _ rfl)
 have G0 := Lib.hid ((GI.start kv).keep0 kve_f P.out.2.1)
 have HU := Lib.hid h
 have KL := Lib.hid (show (akey id).length ≤ 1000000 from akey_len id)
 clear kv h
 unfold layF acV
 simp only
 by_cases hz : c = 0 ∧ q = 0
 ·obtain ⟨rfl, rfl⟩ := hz
  simp only [and_self, if_true]
  go_enter Tryz.func80, Tryz.ntmps80
  go_wp2_with fail
  generalize World.alloc w _ = w1 at *
  refine (bkey_any w1 HU.out).mono ?_
  rintro e w2 ⟨k, rfl, o2, m2, f2⟩
  have G2 := Lib.hid (G0.out.own kve_f m2 o2 f2)
  have C := Lib.hid (G2.out.calls (ge_del o2.rd (own_off (fun i hi => .inr hi)) KL.out hn hp))
  clear o2 m2 f2 G0
  go_wp2_with fail
  refine C.out.mono ?_
  rintro e w3 ⟨rfl, g3, m3⟩
  have DD := Lib.hid g3.done
  clear g3 m3 C G2
  go_wp2
  go_end0
  exact ⟨rfl, DD.out⟩
 ·rw [if_neg hz]
  have C1 := Lib.hid (fun b' (m : Mods noB (w.alloc (.cells #[.int .u64 (c : Nat), .int .u64 (q : Nat)] 59)) b') => (bkey_any b' HU.out).mono (fun (e : Ending) w' ⟨v, a, o, m', f⟩ => show ∃ v, e = Ending.returned v ∧ (Gl.Own w' v (akey id) ∧ Mods noB (w.alloc (.cells #[.int .u64 (c : Nat), .int .u64 (q : Nat)] 59)) w' ∧ GI w S D w' (KVe sg F n p) (fun k => False ∨ ofV v k)) from ⟨v, a, o, m.then0 m', (G0.out.keep0 kve_f m).own kve_f m' o f⟩))
  have C2 := Lib.hid (fun b' f (hX : Gl.Own b' f (akey id) ∧ Mods noB (w.alloc (.cells #[.int .u64 (c : Nat), .int .u64 (q : Nat)] 59)) b' ∧ GI w S D b' (KVe sg F n p) (fun k => False ∨ ofV f k)) => (account_put (w := b') (n0 := c) (n1 := q) (by intro x hx; simp at hx; rcases hx with rfl | rfl <;> assumption)).mono (fun (e : Ending) w' ⟨v, a, o, m', fr⟩ => show ∃ v, e = Ending.returned v ∧ (Gl.Own w' f (akey id) ∧ Gl.Own w' v (lay2 c q) ∧ Mods noB (w.alloc (.cells #[.int .u64 (c : Nat), .int .u64 (q : Nat)] 59)) w' ∧ GI w S D w' (KVe sg F n p) (fun k => (False ∨ ofV f k) ∨ ofV v k)) from ⟨v, a, hX.1.keep m' (fun _ _ x => x), o, hX.2.1.then0 m', hX.2.2.own kve_f m' o fr⟩))
  have C3 := Lib.hid (fun b' f v (hY : Gl.Own b' f (akey id) ∧ Gl.Own b' v (lay2 c q) ∧ Mods noB (w.alloc (.cells #[.int .u64 (c : Nat), .int .u64 (q : Nat)] 59)) b' ∧ GI w S D b' (KVe sg F n p) (fun k => (False ∨ ofV f k) ∨ ofV v k)) => (hY.2.2.2.calls (ge_set hY.1.rd hY.2.1.rd (own_off (fun i hi => .inl (.inr hi))) (own_off (fun i hi => .inr hi)) hn hp)).mono (fun (e : Ending) w' ⟨a, g, m'⟩ => show ∃ v, e = Ending.returned v ∧ LeftB w S D w' (KVe sg (setFF F (akey id) (lay2 c q)) (n + 1) (p + 2)) from ⟨_, a, g.done⟩))
  have HP := Lib.hid P.out.1
  clear G0
  by_cases hc : c = 0
  ·have hqI : ¬ (q : Int) = 0 := fun e => hz ⟨hc, by omega⟩
   subst hc
   clear hz
   go_enter Tryz.func80, Tryz.ntmps80
   go_upto_region 3 with fail
   refine wp_tl (d := .region 3 (opsC 3 Tryz.f80) true) (by kernel_rfl) ?_
   refine RW.wp (bklay3 (a := 0) (b := q) HP.out C1.out C2.out C3.out (fun _ _ h => h.2.1) (fun _ _ _ h => h.2.2.1) ?_)
   intros
   rename_i w9 h9
   have DD := Lib.hid h9
   clear h9 C1 C2 C3
   go_wp2
   go_end0
   exact ⟨rfl, DD.out⟩
  ·have hcI : ¬ (c : Int) = 0 := by omega
   clear hz
   go_enter Tryz.func80, Tryz.ntmps80
   go_upto_region 3 with fail
   refine wp_tl (d := .region 3 (opsC 3 Tryz.f80) true) (by kernel_rfl) ?_
   refine RW.wp (bklay3 HP.out C1.out C2.out C3.out (fun _ _ h => h.2.1) (fun _ _ _ h => h.2.2.1) ?_)
   intros
   rename_i w9 h9
   have DD := Lib.hid h9
   clear h9 C1 C2 C3
   go_wp2
   go_end0
   exact ⟨rfl, DD.out⟩
end
end Go.Proofs.YtglkmaalpammcaaGreat

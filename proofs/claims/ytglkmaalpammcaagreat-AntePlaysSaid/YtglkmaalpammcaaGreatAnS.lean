/- stake: key, SetParams, Params, as calls on a store. -/
import Derived.Test.YtglkmaalpammcaaGreatZE
import Derived.Test.YtglkmaalpammcaaGreatBkM
import Derived.Test.YtglkmaalpammcaaGreatRqParams
namespace Go.Proofs.YtglkmaalpammcaaGreat
open Go.Gl Go.RowKit
set_option linter.unusedVariables false
set_option maxRecDepth 100000
def pkey : List UInt8 := (kmake 1 0 0).getD []
theorem prm_size : (Tryz.prog.info? 35).map (·.size) = some 10 := by kernel_rfl
def prmL (xs : List UInt8) : List Nat := (recGet [0, 0, 0, 0, 0, 0, 0, 0, 0, 0] xs).1.map (·.n)
def prmF (F : List Ent) : List Nat := prmL ((getL F pkey).getD [])
def feeF (F : List Ent) : Nat := (prmF F).getD 8 0
def prmV (ps : List Nat) : Value := .agg (ps.map (fun n => .int .u64 ((n : Nat) : Int))).toArray
theorem prm_ten (xs : List UInt8) : ∃ n0 n1 n2 n3 n4 n5 n6 n7 n8 n9 : Nat, prmL xs = [n0, n1, n2, n3, n4, n5, n6, n7, n8, n9] := by
 obtain ⟨⟨fs, e⟩, hr⟩ : ∃ q, recGet [0, 0, 0, 0, 0, 0, 0, 0, 0, 0] xs = q := ⟨_, rfl⟩
 have h := congrArg List.length (recGet_ok (by simp) hr).2
 unfold prmL
 rw [hr]
 simp only [List.length_map, List.length_cons, List.length_nil] at h
 match fs, h with
 | [a, b, c, d, e, f, g, i, j, k], _ => exact ⟨_, _, _, _, _, _, _, _, _, _, rfl⟩
def prmLay (n0 n1 n2 n3 n4 n5 n6 n7 n8 n9 : Nat) : List UInt8 := recLay [⟨0, n0, []⟩, ⟨0, n1, []⟩, ⟨0, n2, []⟩, ⟨0, n3, []⟩, ⟨0, n4, []⟩, ⟨0, n5, []⟩, ⟨0, n6, []⟩, ⟨0, n7, []⟩, ⟨0, n8, []⟩, ⟨0, n9, []⟩]
theorem skey_any {kind a b : Nat} (w : World) (ha : U64 a) (hb : U64 b) : Calls Tryz.prog 75 #[.int .i64 (kind : Nat), .int .u64 (a : Nat), .int .u64 (b : Nat)] w fun e w' => ∃ v, e = .returned v ∧ Gl.Own w' v ((kmake kind a b).getD []) ∧ Mods noB w w' ∧ freshIn w v := by
 have M := Lib.hid (Make_any kind a b w ha hb)
 generalize (if (kmake (kind : Nat) a b).isSome = true then (0 : Int) else 70) = en at M
 clear ha hb
 go_enter Tryz.func75, Tryz.ntmps75
 go_wp2_with fail
 refine M.out.mono ?_
 rintro e w1 ⟨v, rfl, o, m, f⟩
 have O := Lib.hid (And.intro o (And.intro m f))
 clear o m f M
 go_wp2
 go_ret
 exact ⟨_, rfl, O.out⟩
theorem pkey_any (w : World) : Calls Tryz.prog 75 #[.int .i64 1, .int .u64 0, .int .u64 0] w fun e w' => ∃ v, e = .returned v ∧ Gl.Own w' v pkey ∧ Mods noB w w' ∧ freshIn w v := skey_any (kind := 1) (a := 0) (b := 0) w (by unfold U64; omega) (by unfold U64; omega)
section
variable {w : World} {sg n p : Nat} {F : List Ent} {Q : Nat → Prop}
set_option maxHeartbeats 2000000 in
theorem sSet {n0 n1 n2 n3 n4 n5 n6 n7 n8 n9 : Nat} (h : Lim [n0, n1, n2, n3, n4, n5, n6, n7, n8, n9]) (hn : n ≤ 1000000000000) (hp : p ≤ 100000) : GS Tryz.prog 13 #[.pointer (some ⟨sg, 0, none⟩), .agg #[.int .u64 ((n0 : Nat) : Int), .int .u64 ((n1 : Nat) : Int), .int .u64 ((n2 : Nat) : Int), .int .u64 ((n3 : Nat) : Int), .int .u64 ((n4 : Nat) : Int), .int .u64 ((n5 : Nat) : Int), .int .u64 ((n6 : Nat) : Int), .int .u64 ((n7 : Nat) : Int), .int .u64 ((n8 : Nat) : Int), .int .u64 ((n9 : Nat) : Int)]] w (KVe sg F n p) Q (.tuple #[]) (KVe sg (setFF F pkey (prmLay n0 n1 n2 n3 n4 n5 n6 n7 n8 n9)) (n + 1) (p + 2)) := GS.walk fun S D kv hQ => by
 have P := Lib.hid (put_box w #[.int .u64 ((n0 : Nat) : Int), .int .u64 ((n1 : Nat) : Int), .int .u64 ((n2 : Nat) : Int), .int .u64 ((n3 : Nat) : Int), .int .u64 ((n4 : Nat) : Int), .int .u64 ((n5 : Nat) : Int), .int .u64 ((n6 : Nat) : Int), .int .u64 ((n7 : Nat) : Int), .int .u64 ((n8 : Nat) : Int), .int .u64 ((n9 : Nat) : Int)] 35 _ rfl)
 have G0 := Lib.hid ((GI.start kv).keep0 kve_f P.out.2.1)
 clear kv
 obtain ⟨w1, hw1⟩ : ∃ w1, w1 = w.alloc (.cells #[.int .u64 ((n0 : Nat) : Int), .int .u64 ((n1 : Nat) : Int), .int .u64 ((n2 : Nat) : Int), .int .u64 ((n3 : Nat) : Int), .int .u64 ((n4 : Nat) : Int), .int .u64 ((n5 : Nat) : Int), .int .u64 ((n6 : Nat) : Int), .int .u64 ((n7 : Nat) : Int), .int .u64 ((n8 : Nat) : Int), .int .u64 ((n9 : Nat) : Int)] 35) := ⟨_, rfl⟩
 have G1 := Lib.hid (show GI w S D w1 (KVe sg F n p) (fun _ => False) from by rw [hw1]; exact G0.out)
 have hp1 := P.out.1
 rw [← hw1] at hp1
 have HP := Lib.hid hp1
 have HW := Lib.hid hw1
 have C1 := Lib.hid (fun b' (m : Mods noB w1 b') => (pkey_any b').mono (fun (e : Ending) w' ⟨v, a, o, m', f⟩ => show ∃ v, e = Ending.returned v ∧ (Gl.Own w' v pkey ∧ Mods noB w1 w' ∧ GI w S D w' (KVe sg F n p) (fun k => False ∨ ofV v k)) from ⟨v, a, o, m.then0 m', (G1.out.keep0 kve_f m).own kve_f m' o f⟩))
 have C2 := Lib.hid (fun b' f (hX : Gl.Own b' f pkey ∧ Mods noB w1 b' ∧ GI w S D b' (KVe sg F n p) (fun k => False ∨ ofV f k)) => (params_put (w := b') h).mono (fun (e : Ending) w' ⟨v, a, o, m', fr⟩ => show ∃ v, e = Ending.returned v ∧ (Gl.Own w' f pkey ∧ Gl.Own w' v (prmLay n0 n1 n2 n3 n4 n5 n6 n7 n8 n9) ∧ Mods noB w1 w' ∧ GI w S D w' (KVe sg F n p) (fun k => (False ∨ ofV f k) ∨ ofV v k)) from ⟨v, a, hX.1.keep m' (fun _ _ x => x), o, hX.2.1.then0 m', hX.2.2.own kve_f m' o fr⟩))
 have C3 := Lib.hid (fun b' f v (hY : Gl.Own b' f pkey ∧ Gl.Own b' v (prmLay n0 n1 n2 n3 n4 n5 n6 n7 n8 n9) ∧ Mods noB w1 b' ∧ GI w S D b' (KVe sg F n p) (fun k => (False ∨ ofV f k) ∨ ofV v k)) => (hY.2.2.2.calls (ge_set hY.1.rd hY.2.1.rd (own_off (fun i hi => .inl (.inr hi))) (own_off (fun i hi => .inr hi)) hn hp)).mono (fun (e : Ending) w' ⟨a, g, _⟩ => show ∃ r, e = Ending.returned r ∧ LeftB w S D w' (KVe sg (setFF F pkey (prmLay n0 n1 n2 n3 n4 n5 n6 n7 n8 n9)) (n + 1) (p + 2)) from ⟨_, a, g.done⟩))
 clear G0 P hw1 hp1
 go_enter Tryz.func13, Tryz.ntmps13
 go_upto_region 1 with fail
 rw [← HW.out]
 refine wp_tl (d := .region 1 (opsC 1 Tryz.f13) true) (by kernel_rfl) ?_
 refine RW.wp (ansp1 HP.out C1.out C2.out C3.out (fun _ _ h => h.2.1) (fun _ _ _ h => h.2.2.1) ?_)
 intros
 rename_i w9 h9
 have DD := Lib.hid h9
 clear h9 C1 C2 C3
 go_wp2
 go_end0
 exact ⟨rfl, DD.out⟩
set_option maxHeartbeats 2000000 in
theorem sParams (hn : n ≤ 1000000000000) (hp : p ≤ 100000) : GS Tryz.prog 86 #[.pointer (some ⟨sg, 0, none⟩)] w (KVe sg F n p) Q (prmV (prmF F)) (KVe sg F (n + 1) p) := GS.walk fun S D kv hQ => by
 have VL := Lib.hid (show ((getL F pkey).getD []).length ≤ 1000000 from by
  obtain ⟨m, q, _, _, kv⟩ := kv
  cases hg : getL F pkey with
  | none => simp
  | some v => exact KV.vlen kv hg)
 have P := Lib.hid (put_box w #[.int .u64 0, .int .u64 0, .int .u64 0, .int .u64 0, .int .u64 0, .int .u64 0, .int .u64 0, .int .u64 0, .int .u64 0, .int .u64 0] 35 _ rfl)
 have G0 := Lib.hid ((GI.start kv).grow kve_f P.out.2.1 (N' := fun k => k = w.heap.size) (fun k hk => .inr ⟨by omega, by have := P.out.2.2; omega⟩))
 clear kv
 go_enter Tryz.func86, Tryz.ntmps86
 go_wp2_with fail
 generalize World.alloc w _ = w1 at *
 refine (pkey_any w1).mono ?_
 rintro e w2 ⟨k, rfl, o2, m2, f2⟩
 have G2 := Lib.hid (G0.out.own kve_f m2 o2 f2)
 have H2 := Lib.hid (blk_step m2 P.out.1)
 have C := Lib.hid (G2.out.callo (ge_get o2.rd (own_off (fun i hi => .inr hi)) hn hp))
 clear o2 m2 f2 G0
 go_wp2_with fail
 refine C.out.mono ?_
 rintro e w3 ⟨b, rfl, o3, f3, g3, m3⟩
 have H3 := Lib.hid (m3.heap H2.out (fun x => x (.inl (.inl rfl))))
 have G3 := Lib.hid g3
 have A := Lib.hid (params_get o3.rd VL.out)
 clear C o3 f3 g3 m3 H2 G2
 go_wp2_with fail
 refine A.out.mono ?_
 rintro e w4 ⟨n0, n1, n2, n3, n4, n5, n6, n7, n8, n9, er, rfl, hg, m4⟩
 have G4 := Lib.hid (G3.out.keep0 kve_f m4)
 have H4 := blk_step m4 H3.out
 have TW := Lib.hid (show prmF F = [n0, n1, n2, n3, n4, n5, n6, n7, n8, n9] from by unfold prmF prmL; rw [hg]; rfl)
 obtain ⟨w5, hw5⟩ : ∃ w5, w5 = w4.alloc (.cells #[.int .u64 (n0 : Nat), .int .u64 (n1 : Nat), .int .u64 (n2 : Nat), .int .u64 (n3 : Nat), .int .u64 (n4 : Nat), .int .u64 (n5 : Nat), .int .u64 (n6 : Nat), .int .u64 (n7 : Nat), .int .u64 (n8 : Nat), .int .u64 (n9 : Nat)] 35) := ⟨_, rfl⟩
 have m5 : Mods noB w4 w5 := by rw [hw5]; exact (Mods.refl _ _).alloc _
 have H5 := blk_step m5 H4
 have G5 := Lib.hid (G4.out.keep0 kve_f m5)
 clear A hg m4 G3 H3 H4 G4 m5
 go_wp2_with (rw [← hw5]; refine wpList_store_blk rfl rfl H5 rfl rfl prm_size rfl rfl ?_; intro w11 q1 q2 q3; have c11 := cells_of q1)
 refine bodyPost_ret (by simp [results, Tryz.results86, go_sem, c11]; try rfl) rfl ?_
 exact ⟨by rw [TW.out]; rfl, (G5.out.turn kve_f q2 (fun k hk => .inl (.inl hk))).done⟩
end
end Go.Proofs.YtglkmaalpammcaaGreat

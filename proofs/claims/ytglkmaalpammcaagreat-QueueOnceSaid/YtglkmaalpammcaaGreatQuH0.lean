/- gleanhelp.Entries: its drawn region (printed by gen_quh.py). -/
import Derived.Test.YtglkmaalpammcaaGreatZE
import Derived.Test.YtglkmaalpammcaaGreatZB
namespace Go.Proofs.YtglkmaalpammcaaGreat
open Go.Gl Go.RowKit
set_option linter.unusedVariables false
set_option linter.unusedSimpArgs false
set_option maxRecDepth 100000
theorem FQ (d:Nat) (a b a' b':Int) (w:World):(Op.equalIn (d+2) 86 (.agg #[.int .u64 a,.int .i64 b]) (.agg #[.int .u64 a',.int .i64 b'])).run Tryz.prog w = .ok (a == a' && b == b') w:=by
 simp [go_sem]
 by_cases h2:a=a' <;> by_cases h3:b=b' <;> simp [h2,h3]
theorem Uc (a b a' b':Int) (w:World):(binOp .neq 86 (.agg #[.int .u64 a,.int .i64 b]) (.agg #[.int .u64 a',.int .i64 b'])).run Tryz.prog w = .ok (.bool (!(a == a' && b == b'))) w:=by
 rw [run_neq_struct,FQ 9998]
 rfl
theorem PN {a b:Int} (w:World):(binOp .neq 86 (.agg #[.int .u64 a,.int .i64 b]) (.agg #[.int .u64 a,.int .i64 b])).run Tryz.prog w = .ok (.bool false) w:=by
 rw [Uc]
 simp
set_option maxHeartbeats 1000000 in
theorem hen6 {w:World}{g h off offh k n ca cb b kd:Nat} (hx:∀ b',ae ai w b'→∀ j u,[Value.int .u64 ((b:Nat):Int),.int .i64 ((kd:Nat):Int)][j]?=some u→b'.cell? ⟨g,off+k*2+j,none⟩=some u) (hy:∀ b',ae ai w b'→∀ j u,[Value.int .u64 ((b:Nat):Int),.int .i64 ((kd:Nat):Int)][j]?=some u→b'.cell? ⟨h,offh+k*2+j,none⟩=some u) (hk:k<n) (hn:n≤1000000000) {x2 x3 x4 x6 x7 x8 x9 bg bn bi aY aU aS aT aW aZ aX bu bz bF bG bH bM:Value}{df:List Deferred}{Q:Exit→Act→World→Prop}
  (hK:∀ (jC kG kH mi jP jD jl jQ:Value)  (w':World),ae ai w w'→Q .normal ⟨#[.slice (some ⟨g,off,none⟩) n ca,.slice (some ⟨h,offh,none⟩) n cb,x2,x3,x4,.int .i64 ((k:Nat):Int),x6,x7,x8,x9,bg,bn,bi,aY,aU,aS,aT,jC,kG,kH,mi,jP,jD,jl,jQ,.bool false],df⟩ w'):RW Tryz.prog (aH 6 Tryz.f105) true Q ⟨#[.slice (some ⟨g,off,none⟩) n ca,.slice (some ⟨h,offh,none⟩) n cb,x2,x3,x4,.int .i64 ((k:Nat):Int),x6,x7,x8,x9,bg,bn,bi,aY,aU,aS,aT,aW,aZ,aX,bu,bz,bF,bG,bH,bM],df⟩ w:=by
 have HQ:=lh hK
 clear hK
 have QX:=lh hx
 have QY:=lh hy
 clear hx hy
 have MR:=lh ((ae.refl ai w).drew)
 refine iU (S:=fun b'=>ae ai w b') [(0,true),(1,true),(2,true),(3,true),(4,true),(5,true),(6,true),(7,true),(8,true)] [] [(0,1,131072),(0,32,262144),(3,393216,524288),(4,524288,1048576),(0,2,2097152),(0,32,4194304),(48,6291456,8388608),(64,8388608,16777216),(136,17825792,33554432)] (by kernel_rfl) (by kernel_rfl) (by kernel_rfl) (by kernel_rfl) (by kernel_rfl) MR.out ?_
 refine ag [0,1] [.slice (some ⟨g,off,none⟩) n ca,.int .i64 ((k:Nat):Int)] rfl (by kernel_rfl) (fun _=>by kernel_rfl) ?_
 refine ah (aj g (off+k*2)) (some 19) (ki (by kernel_rfl)) (fun bb hb=>gI (s:=2) (e:=86) (g:=g) (off:=off) (n:=n) (c:=ca) (i:=((k:Nat):Int)) (x:=(.tmp 17)) (y:=(.tmp 18)) (off+k*2) (by kernel_rfl) (by kernel_rfl) (by kernel_rfl) Tryz.underlying82 (by kernel_rfl) (by omega) (by omega) (by omega)) ?_
 refine ah (.agg #[.int .u64 ((b:Nat):Int),.int .i64 ((kd:Nat):Int)]) (some 20) (ki (by kernel_rfl)) (fun bb hb=>aB (x:=(.tmp 19)) (by kernel_rfl) (by kernel_rfl) (dD [.int .u64 ((b:Nat):Int),.int .i64 ((kd:Nat):Int)] (QX.out _ hb) Tryz.underlying86 rfl (by kernel_rfl))) ?_
 refine ag [4,5] [.slice (some ⟨h,offh,none⟩) n cb,.int .i64 ((k:Nat):Int)] rfl (by kernel_rfl) (fun _=>by kernel_rfl) ?_
 refine ah (aj h (offh+k*2)) (some 23) (ki (by kernel_rfl)) (fun bb hb=>gI (s:=2) (e:=86) (g:=h) (off:=offh) (n:=n) (c:=cb) (i:=((k:Nat):Int)) (x:=(.tmp 21)) (y:=(.tmp 22)) (offh+k*2) (by kernel_rfl) (by kernel_rfl) (by kernel_rfl) Tryz.underlying82 (by kernel_rfl) (by omega) (by omega) (by omega)) ?_
 refine ah (.agg #[.int .u64 ((b:Nat):Int),.int .i64 ((kd:Nat):Int)]) (some 24) (ki (by kernel_rfl)) (fun bb hb=>aB (x:=(.tmp 23)) (by kernel_rfl) (by kernel_rfl) (dD [.int .u64 ((b:Nat):Int),.int .i64 ((kd:Nat):Int)] (QY.out _ hb) Tryz.underlying86 rfl (by kernel_rfl))) ?_
 refine ah (.bool false) (some 25) (ki (by kernel_rfl)) (fun bb hb=>bV (t:=86) (t':=86) (xv := .agg #[.int .u64 ((b:Nat):Int),.int .i64 ((kd:Nat):Int)]) (yv := .agg #[.int .u64 ((b:Nat):Int),.int .i64 ((kd:Nat):Int)]) (x:=(.tmp 20)) (y:=(.tmp 24)) (by kernel_rfl) (by kernel_rfl) (by kernel_rfl) (fun _=>by kernel_rfl) (PN _)) ?_
 exact aA (aQ (K:=Q .normal) (by kernel_rfl) (HQ.out (.slice (some ⟨g,off,none⟩) n ca) (.int .i64 ((k:Nat):Int)) (aj g (off+k*2)) (.agg #[.int .u64 ((b:Nat):Int),.int .i64 ((kd:Nat):Int)]) (.slice (some ⟨h,offh,none⟩) n cb) (.int .i64 ((k:Nat):Int)) (aj h (offh+k*2)) (.agg #[.int .u64 ((b:Nat):Int),.int .i64 ((kd:Nat):Int)]) _ MR.out))
end Go.Proofs.YtglkmaalpammcaaGreat

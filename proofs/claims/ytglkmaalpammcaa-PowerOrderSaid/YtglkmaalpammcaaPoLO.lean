/- PowerOrder, lifted. -/
import Derived.Test.YtglkmaalpammcaaPoW
import Derived.Test.YtglkmaalpammcaaPwA2
namespace Go.Proofs.Ytglkmaalpammcaa.powerOrder
open Go.Gl Go.RowKit Go.ChangeShapes Go.WideShapes Go.ChangeAt
set_option linter.unusedVariables false
set_option maxRecDepth 100000
theorem walk (v0:Value) (x0:List Nat) (x1 x2:Int) (w:World) (k0:fM u64 w v0 x0∧∀ x∈x0,x≤18446744073709551615) (k1 : -9223372036854775808≤x1∧x1≤9223372036854775807) (k2 : -9223372036854775808≤x2∧x2≤9223372036854775807):Calls Try.prog 6 #[v0,.int .i64 x1,.int .i64 x2] w fun e w'=>e = .returned (.bool true)∧Below w.heap.size w w' :=
 (wW v0 x0 x1 x2 w k0 k1 k2).mono fun e w' ⟨a,m⟩=>⟨a,m.below⟩
theorem lifted (os:Os) (started:os.Started) (H:Type) (enc:TypeId × Value→H) :
  ReturnsInHanded {} Try.checked os 6 .any (Rows.powerOrderSpec.pre6 enc Try.prog Try.f6 Rows.powerOrderRow.domain false) (Rows.powerOrderSpec.post enc Try.prog Try.f6 false true false false):=by
 refine returnsInHanded_of_change_sized (C:=Try.checked) own started (by kernel_rfl) Try.func6
  (ChangeSpec.witness6 (enc:=enc) (C:=Try.checked) false ⟨#[],#[.slice none 0 0,.int .i64 0,.int .i64 0],[]⟩ 8 (by kernel_rfl) (by kernel_rfl) (by kernel_rfl) (by kernel_rfl)) ?_
 intro W base args ds gs before hval0 hW hcnd hsz _
 have hval:∀ (j:Nat) t v,Try.f6.params[j]?=some t→args[j]?=some v→Value.okWide Try.prog W .any base t v:=hval0
 have hW':=hW
 obtain⟨p,q,hA0,hV,rfl,hfz,hnd⟩:=hW
 have hA:DataW.TrodAll enc Try.prog W 0 (fun _=>true) true Try.f6.params.toList args.toList ds p:=hA0
 replace hsz:(DataW.weightsEach Try.prog (Try.f6.params.toList ++ Rows.powerOrderSpec.plain.varTypes Try.prog) (ds ++ gs)).all (·≤reachBytes)=true:=hsz
 rw [Try.params6] at hA hval hsz
 obtain⟨v0,vs0,d0,ds0,p0,q0,hargs,rfl,rfl,h0,r0⟩:=trodAll_cons hA
 obtain⟨v1,vs1,d1,ds1,p1,q1,rfl,rfl,rfl,h1,r1⟩:=trodAll_cons r0
 obtain⟨v2,vs2,d2,ds2,p2,q2,rfl,rfl,rfl,h2,r2⟩:=trodAll_cons r1
 obtain⟨rfl,rfl,rfl⟩:=trodAll_nil r2
 obtain rfl:args=#[v0,v1,v2]:=by cases args;simp_all
 obtain⟨rfl,rfl⟩:=trodVars_none hV
 have sz:∀ (j:Nat) t (d:DataW H),([48,3,3] ++ Rows.powerOrderSpec.plain.varTypes Try.prog)[j]?=some t→([d0,d1,d2] ++ ([]:List (DataW H)))[j]?=some d→∀ q∈d.weights Try.prog t,q≤reachBytes:=by
  intro j t d ht hd q hq
  have:=List.all_eq_true.1 hsz q (DataW.weights_mem_each ht hd q hq)
  simpa using this
 obtain⟨x0,k0⟩:=vZ (hval 0 48 v0 rfl rfl) h0 (sz 0 _ d0 rfl rfl)
 obtain⟨x1,rfl,k1⟩:=qF (hval 1 3 v1 rfl rfl) h1
 obtain⟨x2,rfl,k2⟩:=qF (hval 2 3 v2 rfl rfl) h2
 have j0:=h0
 have j1:=h1
 have j2:=h2
 have lt0:∀ x∈p0,x.block<W.heap.size:=by obtain⟨m,hm⟩:=j0;exact DataW.trod_lt m _ _ _ hm
 have lt1:∀ x∈p1,x.block<W.heap.size:=by obtain⟨m,hm⟩:=j1;exact DataW.trod_lt m _ _ _ hm
 have lt2:∀ x∈p2,x.block<W.heap.size:=by obtain⟨m,hm⟩:=j2;exact DataW.trod_lt m _ _ _ hm
 clear hA0 hval0
 refine (walk v0 x0 x1 x2 W k0 k1 k2).mono fun e W' ⟨he,bel⟩=>?_
 subst he
 exact⟨_,rfl,_,_,_,[],_,[],hW',trodAll_mk1 (shut_bool Try.underlying4 _),(trodAll_cons_mk (Below.trod laidOut (by kernel_rfl) (of_decide_eq_true (by kernel_rfl)) j0 bel lt0) (trodAll_cons_mk (Below.trod laidOut (by kernel_rfl) (of_decide_eq_true (by kernel_rfl)) j1 bel lt1) (trodAll_cons_mk (Below.trod laidOut (by kernel_rfl) (of_decide_eq_true (by kernel_rfl)) j2 bel lt2) trodAll_mk0))),rfl,bel.frame _,fun h=>by cases h⟩
theorem over:Rows.powerOrderRow.holds Try.pinned (OpenSpec.ofChange Rows.powerOrderSpec) :=
 OpenClaim.holds_of_wide 6 Try.f6 rfl rfl rfl rfl rfl rfl rfl ⟨rfl,rfl,rfl,rfl,rfl⟩ rfl rfl rfl rfl rfl (by kernel_rfl) Try.func6 (by kernel_rfl)
  (of_decide_eq_true (by kernel_rfl)) (by unfold Func.isWrapper;first | (rw [if_pos (by decide +kernel)];kernel_rfl) | (rw [if_neg (by decide +kernel)];exact⟨rfl,rfl⟩))
  (fun os started H enc _=>lifted os started H enc)
theorem proved:Rows.PowerOrderSaid:=over
end Go.Proofs.Ytglkmaalpammcaa.powerOrder

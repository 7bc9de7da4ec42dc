/- QueueOnce, lifted. -/
import Derived.Test.YtglkmaalpammcaaGreatQuCx
import Derived.Test.YtglkmaalpammcaaGreatBkArg
namespace Go.Proofs.YtglkmaalpammcaaGreat.queueOnce
open Go.Gl Go.RowKit Go.ChangeShapes Go.WideShapes Go.ChangeAt
set_option linter.unusedVariables false
set_option maxRecDepth 100000
theorem walk (v1:Value) (x0:Nat) (x1:List dn) (w:World) (k0:bD x0) (k1:Qs w v1 x1):Calls Tryz.prog 8 #[.int .u64 ((x0:Nat):Int),v1] w fun e w'=>e = .returned (.bool true)∧Below w.heap.size w w' :=
 (KQ v1 x0 x1 w k0 k1).mono fun e w' ⟨a,m⟩=>⟨a,m.below⟩
theorem lifted (os:Os) (started:os.Started) (H:Type) (enc:TypeId × Value→H) :
  ReturnsInHanded {} Tryz.checked os 8 .any (Rows.queueOnceSpec.pre6 enc Tryz.prog Tryz.f8 Rows.queueOnceRow.domain false) (Rows.queueOnceSpec.post enc Tryz.prog Tryz.f8 false true false false):=by
 refine returnsInHanded_of_change_sized (C:=Tryz.checked) own started (by kernel_rfl) Tryz.func8
  (ChangeSpec.witness6 (enc:=enc) (C:=Tryz.checked) false ⟨#[],#[.int .u64 0,.slice none 0 0],[]⟩ 8 (by kernel_rfl) (by kernel_rfl) (by kernel_rfl) (by kernel_rfl)) ?_
 intro W base args ds gs before hval0 hW hcnd hsz _
 have hval:∀ (j:Nat) t v,Tryz.f8.params[j]?=some t→args[j]?=some v→Value.okWide Tryz.prog W .any base t v:=hval0
 have hW':=hW
 obtain⟨p,q,hA0,hV,rfl,hfz,hnd⟩:=hW
 have hA:DataW.TrodAll enc Tryz.prog W 0 (fun _=>true) true Tryz.f8.params.toList args.toList ds p:=hA0
 replace hsz:(DataW.weightsEach Tryz.prog (Tryz.f8.params.toList ++ Rows.queueOnceSpec.plain.varTypes Tryz.prog) (ds ++ gs)).all (·≤reachBytes)=true:=hsz
 rw [Tryz.params8] at hA hval hsz
 obtain⟨v0,vs0,d0,ds0,p0,q0,hargs,rfl,rfl,h0,r0⟩:=trodAll_cons hA
 obtain⟨v1,vs1,d1,ds1,p1,q1,rfl,rfl,rfl,h1,r1⟩:=trodAll_cons r0
 obtain⟨rfl,rfl,rfl⟩:=trodAll_nil r1
 obtain rfl:args=#[v0,v1]:=by cases args;simp_all
 obtain⟨rfl,rfl⟩:=trodVars_none hV
 have sz:∀ (j:Nat) t (d:DataW H),([22,69] ++ Rows.queueOnceSpec.plain.varTypes Tryz.prog)[j]?=some t→([d0,d1] ++ ([]:List (DataW H)))[j]?=some d→∀ q∈d.weights Tryz.prog t,q≤reachBytes:=by
  intro j t d ht hd q hq
  have:=List.all_eq_true.1 hsz q (DataW.weights_mem_each ht hd q hq)
  simpa using this
 obtain⟨x0,rfl,k0⟩:=Iz (hval 0 22 v0 rfl rfl) h0
 obtain⟨x1,k1⟩:=EK (hval 1 69 v1 rfl rfl) h1 (sz 1 _ d1 rfl rfl)
 have j0:=h0
 have j1:=h1
 have lt0:∀ x∈p0,x.block<W.heap.size:=by obtain⟨m,hm⟩:=j0;exact DataW.trod_lt m _ _ _ hm
 have lt1:∀ x∈p1,x.block<W.heap.size:=by obtain⟨m,hm⟩:=j1;exact DataW.trod_lt m _ _ _ hm
 clear hA0 hval0
 refine (walk v1 x0 x1 W k0 k1).mono fun e W' ⟨he,bel⟩=>?_
 subst he
 exact⟨_,rfl,_,_,_,[],_,[],hW',trodAll_mk1 (shut_bool Tryz.underlying4 _),(trodAll_cons_mk (Below.trod laidOut (by kernel_rfl) (of_decide_eq_true (by kernel_rfl)) j0 bel lt0) (trodAll_cons_mk (Below.trod laidOut (by kernel_rfl) (of_decide_eq_true (by kernel_rfl)) j1 bel lt1) trodAll_mk0)),rfl,bel.frame _,fun h=>by cases h⟩
theorem over:Rows.queueOnceRow.holds Tryz.pinned (OpenSpec.ofChange Rows.queueOnceSpec) :=
 OpenClaim.holds_of_wide 8 Tryz.f8 rfl rfl rfl rfl rfl rfl rfl ⟨rfl,rfl,rfl,rfl,rfl⟩ rfl rfl rfl rfl rfl (by kernel_rfl) Tryz.func8 (by kernel_rfl)
  (of_decide_eq_true (by kernel_rfl)) (by unfold Func.isWrapper;first | (rw [if_pos (by decide +kernel)];kernel_rfl) | (rw [if_neg (by decide +kernel)];exact⟨rfl,rfl⟩))
  (fun os started H enc _=>lifted os started H enc)
theorem proved:Rows.QueueOnceSaid:=over
end Go.Proofs.YtglkmaalpammcaaGreat.queueOnce

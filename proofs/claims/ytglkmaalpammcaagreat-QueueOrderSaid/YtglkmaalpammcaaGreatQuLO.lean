/- QueueOrder, lifted. -/
import Derived.Test.YtglkmaalpammcaaGreatQuOr
namespace Go.Proofs.YtglkmaalpammcaaGreat.queueOrder
open Go.Gl Go.RowKit Go.ChangeShapes Go.WideShapes Go.ChangeAt
set_option linter.unusedVariables false
set_option maxRecDepth 100000
theorem walk (v0:Value) (x0:List bi) (w:World) (k0:KP w v0 x0):Calls Tryz.prog 6 #[v0] w fun e w'=>e = .returned (.bool true)∧Below w.heap.size w w' :=
 (BC v0 x0 w k0).mono fun e w' ⟨a,m⟩=>⟨a,m.below⟩
theorem lifted (os:Os) (started:os.Started) (H:Type) (enc:TypeId × Value→H) :
  ReturnsInHanded {} Tryz.checked os 6 .any (Rows.queueOrderSpec.pre6 enc Tryz.prog Tryz.f6 Rows.queueOrderRow.domain false) (Rows.queueOrderSpec.post enc Tryz.prog Tryz.f6 false true false false):=by
 refine returnsInHanded_of_change_sized (C:=Tryz.checked) own started (by kernel_rfl) Tryz.func6
  (ChangeSpec.witness6 (enc:=enc) (C:=Tryz.checked) false ⟨#[],#[.slice none 0 0],[]⟩ 8 (by kernel_rfl) (by kernel_rfl) (by kernel_rfl) (by kernel_rfl)) ?_
 intro W base args ds gs before hval0 hW hcnd hsz _
 have hval:∀ (j:Nat) t v,Tryz.f6.params[j]?=some t→args[j]?=some v→Value.okWide Tryz.prog W .any base t v:=hval0
 have hW':=hW
 obtain⟨p,q,hA0,hV,rfl,hfz,hnd⟩:=hW
 have hA:DataW.TrodAll enc Tryz.prog W 0 (fun _=>true) true Tryz.f6.params.toList args.toList ds p:=hA0
 replace hsz:(DataW.weightsEach Tryz.prog (Tryz.f6.params.toList ++ Rows.queueOrderSpec.plain.varTypes Tryz.prog) (ds ++ gs)).all (·≤reachBytes)=true:=hsz
 rw [Tryz.params6] at hA hval hsz
 obtain⟨v0,vs0,d0,ds0,p0,q0,hargs,rfl,rfl,h0,r0⟩:=trodAll_cons hA
 obtain⟨rfl,rfl,rfl⟩:=trodAll_nil r0
 obtain rfl:args=#[v0]:=by cases args;simp_all
 obtain⟨rfl,rfl⟩:=trodVars_none hV
 have sz:∀ (j:Nat) t (d:DataW H),([69] ++ Rows.queueOrderSpec.plain.varTypes Tryz.prog)[j]?=some t→([d0] ++ ([]:List (DataW H)))[j]?=some d→∀ q∈d.weights Tryz.prog t,q≤reachBytes:=by
  intro j t d ht hd q hq
  have:=List.all_eq_true.1 hsz q (DataW.weights_mem_each ht hd q hq)
  simpa using this
 obtain⟨x0,k0⟩:=yI (hval 0 69 v0 rfl rfl) h0 (sz 0 _ d0 rfl rfl)
 have j0:=h0
 have lt0:∀ x∈p0,x.block<W.heap.size:=by obtain⟨m,hm⟩:=j0;exact DataW.trod_lt m _ _ _ hm
 clear hA0 hval0
 refine (walk v0 x0 W k0).mono fun e W' ⟨he,bel⟩=>?_
 subst he
 exact⟨_,rfl,_,_,_,[],_,[],hW',trodAll_mk1 (shut_bool Tryz.underlying4 _),(trodAll_cons_mk (Below.trod laidOut (by kernel_rfl) (of_decide_eq_true (by kernel_rfl)) j0 bel lt0) trodAll_mk0),rfl,bel.frame _,fun h=>by cases h⟩
theorem over:Rows.queueOrderRow.holds Tryz.pinned (OpenSpec.ofChange Rows.queueOrderSpec) :=
 OpenClaim.holds_of_wide 6 Tryz.f6 rfl rfl rfl rfl rfl rfl rfl ⟨rfl,rfl,rfl,rfl,rfl⟩ rfl rfl rfl rfl rfl (by kernel_rfl) Tryz.func6 (by kernel_rfl)
  (of_decide_eq_true (by kernel_rfl)) (by unfold Func.isWrapper;first | (rw [if_pos (by decide +kernel)];kernel_rfl) | (rw [if_neg (by decide +kernel)];exact⟨rfl,rfl⟩))
  (fun os started H enc _=>lifted os started H enc)
theorem proved:Rows.QueueOrderSaid:=over
end Go.Proofs.YtglkmaalpammcaaGreat.queueOrder

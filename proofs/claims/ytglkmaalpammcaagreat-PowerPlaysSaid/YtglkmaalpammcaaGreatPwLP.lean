/- PowerPlays, lifted. -/
import Derived.Test.YtglkmaalpammcaaGreatPwPl
namespace Go.Proofs.YtglkmaalpammcaaGreat.powerPlays
open Go.Gl Go.RowKit Go.ChangeShapes Go.WideShapes Go.ChangeAt
set_option linter.unusedVariables false
set_option maxRecDepth 100000
theorem walk (v0:Value) (x0:List nS) (w:World) (k0:sK w v0 x0):Calls Tryz.prog 10 #[v0] w fun e w'=>e = .returned (.bool true)∧Below w.heap.size w w' :=
 (zN v0 x0 w k0).mono fun e w' ⟨a,m⟩=>⟨a,m.below⟩
theorem lifted (os:Os) (started:os.Started) (H:Type) (enc:TypeId × Value→H) :
  ReturnsInHanded {} Tryz.checked os 10 .any (Rows.powerPlaysSpec.pre6 enc Tryz.prog Tryz.f10 Rows.powerPlaysRow.domain false) (Rows.powerPlaysSpec.post enc Tryz.prog Tryz.f10 false true false false):=by
 refine returnsInHanded_of_change_sized (C:=Tryz.checked) own started (by kernel_rfl) Tryz.func10
  (ChangeSpec.witness6 (enc:=enc) (C:=Tryz.checked) false ⟨#[],#[.slice none 0 0],[]⟩ 8 (by kernel_rfl) (by kernel_rfl) (by kernel_rfl) (by kernel_rfl)) ?_
 intro W base args ds gs before hval0 hW hcnd hsz _
 have hval:∀ (j:Nat) t v,Tryz.f10.params[j]?=some t→args[j]?=some v→Value.okWide Tryz.prog W .any base t v:=hval0
 have hW':=hW
 obtain⟨p,q,hA0,hV,rfl,hfz,hnd⟩:=hW
 have hA:DataW.TrodAll enc Tryz.prog W 0 (fun _=>true) true Tryz.f10.params.toList args.toList ds p:=hA0
 replace hsz:(DataW.weightsEach Tryz.prog (Tryz.f10.params.toList ++ Rows.powerPlaysSpec.plain.varTypes Tryz.prog) (ds ++ gs)).all (·≤reachBytes)=true:=hsz
 rw [Tryz.params10] at hA hval hsz
 obtain⟨v0,vs0,d0,ds0,p0,q0,hargs,rfl,rfl,h0,r0⟩:=trodAll_cons hA
 obtain⟨rfl,rfl,rfl⟩:=trodAll_nil r0
 obtain rfl:args=#[v0]:=by cases args;simp_all
 obtain⟨rfl,rfl⟩:=trodVars_none hV
 have sz:∀ (j:Nat) t (d:DataW H),([115] ++ Rows.powerPlaysSpec.plain.varTypes Tryz.prog)[j]?=some t→([d0] ++ ([]:List (DataW H)))[j]?=some d→∀ q∈d.weights Tryz.prog t,q≤reachBytes:=by
  intro j t d ht hd q hq
  have:=List.all_eq_true.1 hsz q (DataW.weights_mem_each ht hd q hq)
  simpa using this
 obtain⟨x0,k0⟩:=xU (hval 0 115 v0 rfl rfl) h0 (sz 0 _ d0 rfl rfl)
 have j0:=h0
 have lt0:∀ x∈p0,x.block<W.heap.size:=by obtain⟨m,hm⟩:=j0;exact DataW.trod_lt m _ _ _ hm
 clear hA0 hval0
 refine (walk v0 x0 W k0).mono fun e W' ⟨he,bel⟩=>?_
 subst he
 exact⟨_,rfl,_,_,_,[],_,[],hW',trodAll_mk1 (shut_bool Tryz.underlying4 _),(trodAll_cons_mk (Below.trod laidOut (by kernel_rfl) (of_decide_eq_true (by kernel_rfl)) j0 bel lt0) trodAll_mk0),rfl,bel.frame _,fun h=>by cases h⟩
theorem over:Rows.powerPlaysRow.holds Tryz.pinned (OpenSpec.ofChange Rows.powerPlaysSpec) :=
 OpenClaim.holds_of_wide 10 Tryz.f10 rfl rfl rfl rfl rfl rfl rfl ⟨rfl,rfl,rfl,rfl,rfl⟩ rfl rfl rfl rfl rfl (by kernel_rfl) Tryz.func10 (by kernel_rfl)
  (of_decide_eq_true (by kernel_rfl)) (by unfold Func.isWrapper;first | (rw [if_pos (by decide +kernel)];kernel_rfl) | (rw [if_neg (by decide +kernel)];exact⟨rfl,rfl⟩))
  (fun os started H enc _=>lifted os started H enc)
theorem proved:Rows.PowerPlaysSaid:=over
end Go.Proofs.YtglkmaalpammcaaGreat.powerPlays

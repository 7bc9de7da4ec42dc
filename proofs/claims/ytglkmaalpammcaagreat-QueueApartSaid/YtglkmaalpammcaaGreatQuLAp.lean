/- QueueApart, lifted. -/
import Derived.Test.YtglkmaalpammcaaGreatQuAx
import Derived.Test.YtglkmaalpammcaaGreatQuA2
import Derived.Test.YtglkmaalpammcaaGreatBkArg
namespace Go.Proofs.YtglkmaalpammcaaGreat.queueApart
open Go.Gl Go.RowKit Go.ChangeShapes Go.WideShapes Go.ChangeAt
set_option linter.unusedVariables false
set_option maxRecDepth 100000
theorem walk (v0:Value) (x0:List bH) (x1:Int) (x2:Nat) (x3:Value × List Nat) (w:World) (k0:LM w v0 x0) (k1 : -9223372036854775808≤x1∧x1≤9223372036854775807) (k2:aU x2) (k3:RN w x3.1 x3.2∧dm x3.2∧x3.2.length≤140737488355328):Calls Tryz.prog 9 #[v0,.int .i64 x1,.int .u64 ((x2:Nat):Int),.agg #[x3.1]] w fun e w'=>e = .returned (.bool true)∧Below w.heap.size w w' :=
 (CW v0 x0 x1 x2 x3 w k0 k1 k2 k3).mono fun e w' ⟨a,m⟩=>⟨a,m.below⟩
theorem lifted (os:Os) (started:os.Started) (H:Type) (enc:TypeId × Value→H) :
  ReturnsInHanded {} Tryz.checked os 9 .any (Rows.queueApartSpec.pre6 enc Tryz.prog Tryz.f9 Rows.queueApartRow.domain false) (Rows.queueApartSpec.post enc Tryz.prog Tryz.f9 false true false false):=by
 refine returnsInHanded_of_change_sized (C:=Tryz.checked) own started (by kernel_rfl) Tryz.func9
  (ChangeSpec.witness6 (enc:=enc) (C:=Tryz.checked) false ⟨#[],#[.slice none 0 0,.int .i64 0,.int .u64 0,.agg #[.slice none 0 0]],[]⟩ 8 (by kernel_rfl) (by kernel_rfl) (by kernel_rfl) (by kernel_rfl)) ?_
 intro W base args ds gs before hval0 hW hcnd hsz _
 have hval:∀ (j:Nat) t v,Tryz.f9.params[j]?=some t→args[j]?=some v→Value.okWide Tryz.prog W .any base t v:=hval0
 have hW':=hW
 obtain⟨p,q,hA0,hV,rfl,hfz,hnd⟩:=hW
 have hA:DataW.TrodAll enc Tryz.prog W 0 (fun _=>true) true Tryz.f9.params.toList args.toList ds p:=hA0
 replace hsz:(DataW.weightsEach Tryz.prog (Tryz.f9.params.toList ++ Rows.queueApartSpec.plain.varTypes Tryz.prog) (ds ++ gs)).all (·≤reachBytes)=true:=hsz
 rw [Tryz.params9] at hA hval hsz
 obtain⟨v0,vs0,d0,ds0,p0,q0,hargs,rfl,rfl,h0,r0⟩:=trodAll_cons hA
 obtain⟨v1,vs1,d1,ds1,p1,q1,rfl,rfl,rfl,h1,r1⟩:=trodAll_cons r0
 obtain⟨v2,vs2,d2,ds2,p2,q2,rfl,rfl,rfl,h2,r2⟩:=trodAll_cons r1
 obtain⟨v3,vs3,d3,ds3,p3,q3,rfl,rfl,rfl,h3,r3⟩:=trodAll_cons r2
 obtain⟨rfl,rfl,rfl⟩:=trodAll_nil r3
 obtain rfl:args=#[v0,v1,v2,v3]:=by cases args;simp_all
 obtain⟨rfl,rfl⟩:=trodVars_none hV
 have sz:∀ (j:Nat) t (d:DataW H),([69,3,22,75] ++ Rows.queueApartSpec.plain.varTypes Tryz.prog)[j]?=some t→([d0,d1,d2,d3] ++ ([]:List (DataW H)))[j]?=some d→∀ q∈d.weights Tryz.prog t,q≤reachBytes:=by
  intro j t d ht hd q hq
  have:=List.all_eq_true.1 hsz q (DataW.weights_mem_each ht hd q hq)
  simpa using this
 obtain⟨x0,k0⟩:=zh (hval 0 69 v0 rfl rfl) h0 (sz 0 _ d0 rfl rfl)
 obtain⟨x1,rfl,k1⟩:=Df (hval 1 3 v1 rfl rfl) h1
 obtain⟨x2,rfl,k2⟩:=CZ (hval 2 22 v2 rfl rfl) h2
 obtain⟨x3,rfl,k3⟩:=Cj (hval 3 75 v3 rfl rfl) h3 (sz 3 _ d3 rfl rfl)
 have j0:=h0
 have j1:=h1
 have j2:=h2
 have j3:=h3
 have lt0:∀ x∈p0,x.block<W.heap.size:=by obtain⟨m,hm⟩:=j0;exact DataW.trod_lt m _ _ _ hm
 have lt1:∀ x∈p1,x.block<W.heap.size:=by obtain⟨m,hm⟩:=j1;exact DataW.trod_lt m _ _ _ hm
 have lt2:∀ x∈p2,x.block<W.heap.size:=by obtain⟨m,hm⟩:=j2;exact DataW.trod_lt m _ _ _ hm
 have lt3:∀ x∈p3,x.block<W.heap.size:=by obtain⟨m,hm⟩:=j3;exact DataW.trod_lt m _ _ _ hm
 clear hA0 hval0
 refine (walk v0 x0 x1 x2 x3 W k0 k1 k2 k3).mono fun e W' ⟨he,bel⟩=>?_
 subst he
 exact⟨_,rfl,_,_,_,[],_,[],hW',trodAll_mk1 (shut_bool Tryz.underlying4 _),(trodAll_cons_mk (Below.trod laidOut (by kernel_rfl) (of_decide_eq_true (by kernel_rfl)) j0 bel lt0) (trodAll_cons_mk (Below.trod laidOut (by kernel_rfl) (of_decide_eq_true (by kernel_rfl)) j1 bel lt1) (trodAll_cons_mk (Below.trod laidOut (by kernel_rfl) (of_decide_eq_true (by kernel_rfl)) j2 bel lt2) (trodAll_cons_mk (Below.trod laidOut (by kernel_rfl) (of_decide_eq_true (by kernel_rfl)) j3 bel lt3) trodAll_mk0)))),rfl,bel.frame _,fun h=>by cases h⟩
theorem over:Rows.queueApartRow.holds Tryz.pinned (OpenSpec.ofChange Rows.queueApartSpec) :=
 OpenClaim.holds_of_wide 9 Tryz.f9 rfl rfl rfl rfl rfl rfl rfl ⟨rfl,rfl,rfl,rfl,rfl⟩ rfl rfl rfl rfl rfl (by kernel_rfl) Tryz.func9 (by kernel_rfl)
  (of_decide_eq_true (by kernel_rfl)) (by unfold Func.isWrapper;first | (rw [if_pos (by decide +kernel)];kernel_rfl) | (rw [if_neg (by decide +kernel)];exact⟨rfl,rfl⟩))
  (fun os started H enc _=>lifted os started H enc)
theorem proved:Rows.QueueApartSaid:=over
end Go.Proofs.YtglkmaalpammcaaGreat.queueApart

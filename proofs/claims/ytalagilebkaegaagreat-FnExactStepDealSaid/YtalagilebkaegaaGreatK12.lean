/- Parts of a proof, joined: FFnExactStepDeal. -/
import Derived.Test.YtalagilebkaegaaGreatK11
import Derived.Test.YtalagilebkaegaaGreatRows
import Derived.WalkKit
import Derived.ProofKit
import Derived.OpenShut
import Derived.ShutString
import Derived.ChangeOld
import Derived.Below
set_option linter.unusedVariables false
set_option linter.unusedSimpArgs false
section
namespace Go.Proofs.YtalagilebkaegaaGreat.fnExactStepDealDone
open Go.ChangeShapes Go.WideShapes Go.ChangeAt Go.RowKit
open Go.Proofs.YtalagilebkaegaaGreat
set_option linter.unusedVariables false
theorem own:ownKnob Tryz.prog.godebug=none:=by kernel_rfl
theorem zzz:laidOutB Tryz.prog=true:=by kernel_rfl
theorem sig:B3 5=some {bz:=[],res:=[false],dp:=true}:=by kernel_rfl
set_option maxRecDepth 100000 in
theorem zFg(os:Os)(started:os.Started)(H:Type)(enc:TypeId × Value->H):
  ReturnsInHanded {} Tryz.checked os 5 .any (Rows.fnExactStepDealSpec.pre6 enc Tryz.prog Tryz.f5 Rows.fnExactStepDealRow.domain false) (Rows.fnExactStepDealSpec.post enc Tryz.prog Tryz.f5 false true false false):=by
 refine returnsInHanded_of_change (C:=Tryz.checked) own started (by kernel_rfl) Tryz.func5
  (ChangeSpec.witness6 (enc:=enc) (C:=Tryz.checked) false ⟨#[], #[.agg #[.slice none 0 0, .slice none 0 0, .slice none 0 0], .agg #[.int .i64 0, .int .i64 0, .int .i64 0, .int .i64 0]],[]⟩ 8 (by kernel_rfl) (by kernel_rfl) (by kernel_rfl) (by kernel_rfl)) ?_
 intro W base args ds gs before MM hW hcnd _;have JV:∀(j:Nat) t v,Tryz.f5.params[j]?=some t->args[j]?=some v->Value.okWide Tryz.prog W .any base t v:=MM;have hW':=hW;obtain⟨p,q,pJ,hV,rfl,HN,B7⟩:=hW;have hA:DataW.TrodAll enc Tryz.prog W 0 (λ_=>true) true Tryz.f5.params.toList args.toList ds p:=pJ;rw[Tryz.params5]at hA JV;obtain⟨v0,vs0,d0,ds0,p0,q0,Ah,rfl,rfl,h0,r0⟩:=trodAll_cons hA;obtain⟨v1,vs1,d1,ds1,p1,q1,rfl,rfl,rfl,h1,r1⟩:=trodAll_cons r0;obtain⟨rfl,rfl,rfl⟩:=trodAll_nil r1;obtain rfl:args= #[v0,v1]:=by cases args;simp_all
 obtain⟨rfl,rfl⟩:=trodVars_none hV;obtain⟨_,f0,a0,x0,k0,e0⟩:=wZ op0 Tryz.underlying60 (JV 0 60 v0 rfl rfl) h0;rw[e0]at a0;obtain⟨_,f1,a1,x1,k1,e1⟩:=wZ zGP Tryz.underlying61 (JV 1 61 v1 rfl rfl) h1;rw[e1]at a1;have m0:=h0;have lt0:∀x∈p0,x.block<W.heap.size:=by obtain⟨m,hm⟩:=m0;exact DataW.trod_lt m _ _ _ hm
 have m1:=h1;have lt1:∀x∈p1,x.block<W.heap.size:=by obtain⟨m,hm⟩:=m1;exact DataW.trod_lt m _ _ _ hm
 have D1:Lx.n<=W.heap.size/\Lx.K W:=⟨Nat.zero_le _,trivial⟩
 clear pJ MM;refine(zB8 (zli x0 x1 true (zpP x0 x1 k0 k1)) (by decide) sig rfl (by simp) (by kernel_rfl) Tryz.func5 (t:=4) rfl (vs:=[v0,v1]) (w:=W) (by rw[Tryz.params5];exact yK a0 (yK a1 zB3)) D1).mono λe W' ⟨he,bel⟩=> ?_
 subst he;exact⟨_,rfl,_,_,_,[],_,[],hW',trodAll_mk1 (shut_bool Tryz.underlying4 _),(trodAll_cons_mk (Below.trod zzz (by kernel_rfl) (of_decide_eq_true (by kernel_rfl)) m0 bel lt0) (trodAll_cons_mk (Below.trod zzz (by kernel_rfl) (of_decide_eq_true (by kernel_rfl)) m1 bel lt1) trodAll_mk0)),rfl,bel.frame _,λh=>by cases h⟩
set_option maxHeartbeats 20000000 in
theorem zGj:joinedFacts Tryz.prog 5 Tryz.f5 Rows.fnExactStepDealSpec Rows.fnExactStepDealRow=true:=by
 unfold joinedFacts
 repeat' with_reducible refine zFv ?_ ?_
 all_goals decide+kernel
theorem zF5:Tryz.prog.funcNamed "loop.example/g00850/laws.FnExactStepDeal" =some 5:=by kernel_rfl
theorem over:Rows.fnExactStepDealRow.holds Tryz.pinned (OpenSpec.ofChange Rows.fnExactStepDealSpec):=
 OpenClaim.holds_of_wide 5 Tryz.f5 rfl rfl rfl rfl rfl rfl rfl ⟨rfl,rfl,rfl,rfl,rfl⟩ rfl rfl rfl rfl rfl zF5 Tryz.func5 zGj
  (of_decide_eq_true (by kernel_rfl)) (by unfold Func.isWrapper;first|(rw[if_pos (by decide+kernel)];kernel_rfl)|(rw[if_neg (by decide+kernel)];exact⟨rfl,rfl⟩))
  (λos started H enc _=>zFg os started H enc)
end Go.Proofs.YtalagilebkaegaaGreat.fnExactStepDealDone
namespace Go.Proofs.YtalagilebkaegaaGreat
theorem fnExactStepDealProved:Rows.FnExactStepDealSaid:=fnExactStepDealDone.over
#print axioms fnExactStepDealProved
end Go.Proofs.YtalagilebkaegaaGreat
end

/- Parts of a proof, joined: FFnJoinDiffs. -/
import Derived.Test.YteeafhlnofapaaaJ8
import Derived.Test.YteeafhlnofapaaaRows
import Derived.WalkKit
import Derived.ProofKit
import Derived.OpenShut
import Derived.ShutString
import Derived.ChangeOld
import Derived.Below
set_option linter.unusedVariables false
set_option linter.unusedSimpArgs false
section
namespace Go.Proofs.Yteeafhlnofapaaa.fnJoinDiffsDone
open Go.ChangeShapes Go.WideShapes Go.ChangeAt Go.RowKit
open Go.Proofs.Yteeafhlnofapaaa
set_option linter.unusedVariables false
theorem own:ownKnob Try.prog.godebug=none:=by kernel_rfl
theorem pF:laidOutB Try.prog=true:=by kernel_rfl
theorem sig:CH 3=some {bg:=[.ro],res:=[false]}:=by kernel_rfl
set_option maxRecDepth 100000 in
theorem qM(os:Os)(started:os.Started)(H:Type)(enc:TypeId × Value->H):
  ReturnsInHanded {} Try.checked os 3 .any (Rows.fnJoinDiffsSpec.pre6 enc Try.prog Try.f3 Rows.fnJoinDiffsRow.domain false) (Rows.fnJoinDiffsSpec.post enc Try.prog Try.f3 false true false false):=by
 refine returnsInHanded_of_change (C:=Try.checked) own started (by kernel_rfl) Try.func3
  (ChangeSpec.witness6 (enc:=enc) (C:=Try.checked) false ⟨#[], #[.slice none 0 0],[]⟩ 8 (by kernel_rfl) (by kernel_rfl) (by kernel_rfl) (by kernel_rfl)) ?_
 intro W base args ds gs before JP hW bT _;have IU:∀(j:Nat) t v,Try.f3.params[j]?=some t->args[j]?=some v->Value.okWide Try.prog W .any base t v:=JP;have bK:=hW;obtain⟨p,q,WC,hV,rfl,FX,BP⟩:=hW;have hA:DataW.TrodAll enc Try.prog W 0 (λ_=>true) true Try.f3.params.toList args.toList ds p:=WC;rw[Try.params3]at hA IU;obtain⟨v0,vs0,d0,ds0,p0,q0,Ai,rfl,rfl,h0,r0⟩:=trodAll_cons hA;obtain⟨rfl,rfl,rfl⟩:=trodAll_nil r0;obtain rfl:args= #[v0]:=by cases args;simp_all
 obtain⟨rfl,rfl⟩:=trodVars_none hV;obtain⟨_,f0,a0,x0,k0,e0⟩:=jN eC Try.underlying22 (IU 0 22 v0 rfl rfl) h0;obtain rfl:=(List.cons.inj e0).1;have m0:=h0;have lt0:∀x∈p0,x.block<W.heap.size:=by obtain⟨m,hm⟩:=m0;exact DataW.trod_lt m _ _ _ hm
 have DP:IV.n<=W.heap.size/\IV.K W:=⟨Nat.zero_le _,trivial⟩
 clear WC JP;refine(mC (eZ x0 true (gT x0 k0)) (by decide) sig rfl (by simp) (by kernel_rfl) Try.func3 (t:=4) rfl (vs:=[v0]) (w:=W) (by rw[Try.params3];exact lG a0 nF) DP).mono λe W' ⟨he,bel⟩=> ?_
 subst he;exact⟨_,rfl,_,_,_,[],_,[],bK,trodAll_mk1 (shut_bool Try.underlying4 _),(trodAll_cons_mk (Below.trod pF (by kernel_rfl) (of_decide_eq_true (by kernel_rfl)) m0 bel lt0) trodAll_mk0),rfl,bel.frame _,λh=>by cases h⟩
set_option maxHeartbeats 20000000 in
theorem rD:joinedFacts Try.prog 3 Try.f3 Rows.fnJoinDiffsSpec Rows.fnJoinDiffsRow=true:=by
 unfold joinedFacts
 repeat' with_reducible refine pY ?_ ?_
 all_goals decide+kernel
theorem pT:Try.prog.funcNamed "loop.example/g00850/laws.FnJoinDiffs" =some 3:=by kernel_rfl
theorem over:Rows.fnJoinDiffsRow.holds Try.pinned (OpenSpec.ofChange Rows.fnJoinDiffsSpec):=
 OpenClaim.holds_of_wide 3 Try.f3 rfl rfl rfl rfl rfl rfl rfl ⟨rfl,rfl,rfl,rfl,rfl⟩ rfl rfl rfl rfl rfl pT Try.func3 rD
  (of_decide_eq_true (by kernel_rfl)) (by unfold Func.isWrapper;first|(rw[if_pos (by decide+kernel)];kernel_rfl)|(rw[if_neg (by decide+kernel)];exact⟨rfl,rfl⟩))
  (λos started H enc _=>qM os started H enc)
end Go.Proofs.Yteeafhlnofapaaa.fnJoinDiffsDone
namespace Go.Proofs.Yteeafhlnofapaaa
theorem fnJoinDiffsProved:Rows.FnJoinDiffsSaid:=fnJoinDiffsDone.over
#print axioms fnJoinDiffsProved
end Go.Proofs.Yteeafhlnofapaaa
end

/- Parts of a proof, joined: FFnCopies. -/
import Derived.Test.YteeafhlnofapaaaGreatC9
import Derived.Test.YteeafhlnofapaaaGreatRows
import Derived.WalkKit
import Derived.ProofKit
import Derived.OpenShut
import Derived.ShutString
import Derived.ChangeOld
import Derived.Below
set_option linter.unusedVariables false
set_option linter.unusedSimpArgs false
section
namespace Go.Proofs.YteeafhlnofapaaaGreat.fnCopiesDone
open Go.ChangeShapes Go.WideShapes Go.ChangeAt Go.RowKit
open Go.Proofs.YteeafhlnofapaaaGreat
set_option linter.unusedVariables false
theorem own:ownKnob Tryz.prog.godebug=none:=by kernel_rfl
theorem yM:laidOutB Tryz.prog=true:=by kernel_rfl
theorem sig:Cp 3=some {bh:=[.ro],res:=[false]}:=by kernel_rfl
set_option maxRecDepth 100000 in
theorem zI(os:Os)(started:os.Started)(H:Type)(enc:TypeId × Value->H):
  ReturnsInHanded {} Tryz.checked os 3 .any (Rows.fnCopiesSpec.pre6 enc Tryz.prog Tryz.f3 Rows.fnCopiesRow.domain false) (Rows.fnCopiesSpec.post enc Tryz.prog Tryz.f3 false true false false):=by
 refine returnsInHanded_of_change (C:=Tryz.checked) own started (by kernel_rfl) Tryz.func3
  (ChangeSpec.witness6 (enc:=enc) (C:=Tryz.checked) false ⟨#[], #[.slice none 0 0],[]⟩ 8 (by kernel_rfl) (by kernel_rfl) (by kernel_rfl) (by kernel_rfl)) ?_
 intro W base args ds gs before KB hW jW _;have JA:∀(j:Nat) t v,Tryz.f3.params[j]?=some t->args[j]?=some v->Value.okWide Tryz.prog W .any base t v:=KB;have jM:=hW;obtain⟨p,q,Y2,hV,rfl,Gh,BT⟩:=hW;have hA:DataW.TrodAll enc Tryz.prog W 0 (λ_=>true) true Tryz.f3.params.toList args.toList ds p:=Y2;rw[Tryz.params3]at hA JA;obtain⟨v0,vs0,d0,ds0,p0,q0,Ai,rfl,rfl,h0,r0⟩:=trodAll_cons hA;obtain⟨rfl,rfl,rfl⟩:=trodAll_nil r0;obtain rfl:args= #[v0]:=by cases args;simp_all
 obtain⟨rfl,rfl⟩:=trodVars_none hV;obtain⟨_,f0,a0,x0,k0,e0⟩:=rZ mQ Tryz.underlying22 (JA 0 22 v0 rfl rfl) h0;obtain rfl:=(List.cons.inj e0).1;have m0:=h0;have lt0:∀x∈p0,x.block<W.heap.size:=by obtain⟨m,hm⟩:=m0;exact DataW.trod_lt m _ _ _ hm
 have DO:JB.n<=W.heap.size/\JB.K W:=⟨Nat.zero_le _,trivial⟩
 clear Y2 KB;refine(wW (oL x0 true (r7 x0 k0)) (by decide) sig rfl (by simp) (by kernel_rfl) Tryz.func3 (t:=4) rfl (vs:=[v0]) (w:=W) (by rw[Tryz.params3];exact tN a0 uX) DO).mono λe W' ⟨he,bel⟩=> ?_
 subst he;exact⟨_,rfl,_,_,_,[],_,[],jM,trodAll_mk1 (shut_bool Tryz.underlying4 _),(trodAll_cons_mk (Below.trod yM (by kernel_rfl) (of_decide_eq_true (by kernel_rfl)) m0 bel lt0) trodAll_mk0),rfl,bel.frame _,λh=>by cases h⟩
set_option maxHeartbeats 20000000 in
theorem zvK:joinedFacts Tryz.prog 3 Tryz.f3 Rows.fnCopiesSpec Rows.fnCopiesRow=true:=by
 unfold joinedFacts
 repeat' with_reducible refine yY ?_ ?_
 all_goals decide+kernel
theorem zY:Tryz.prog.funcNamed "loop.example/g00850/laws.FnCopies" =some 3:=by kernel_rfl
theorem over:Rows.fnCopiesRow.holds Tryz.pinned (OpenSpec.ofChange Rows.fnCopiesSpec):=
 OpenClaim.holds_of_wide 3 Tryz.f3 rfl rfl rfl rfl rfl rfl rfl ⟨rfl,rfl,rfl,rfl,rfl⟩ rfl rfl rfl rfl rfl zY Tryz.func3 zvK
  (of_decide_eq_true (by kernel_rfl)) (by unfold Func.isWrapper;first|(rw[if_pos (by decide+kernel)];kernel_rfl)|(rw[if_neg (by decide+kernel)];exact⟨rfl,rfl⟩))
  (λos started H enc _=>zI os started H enc)
end Go.Proofs.YteeafhlnofapaaaGreat.fnCopiesDone
namespace Go.Proofs.YteeafhlnofapaaaGreat
theorem fnCopiesProved:Rows.FnCopiesSaid:=fnCopiesDone.over
#print axioms fnCopiesProved
end Go.Proofs.YteeafhlnofapaaaGreat
end

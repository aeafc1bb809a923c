/- Parts of a proof, joined: FFnFedCopy. -/
import Derived.Test.YtndikjghnmhdmaaGreatD10
import Derived.Test.YtndikjghnmhdmaaGreatRows
import Derived.WalkKit
import Derived.ProofKit
import Derived.OpenShut
import Derived.ShutString
import Derived.ChangeOld
import Derived.Below
set_option linter.unusedVariables false
set_option linter.unusedSimpArgs false
section
namespace Go.Proofs.YtndikjghnmhdmaaGreat.fnFedCopyDone
open Go.ChangeShapes Go.WideShapes Go.ChangeAt Go.RowKit
open Go.Proofs.YtndikjghnmhdmaaGreat
set_option linter.unusedVariables false
theorem own:ownKnob Tryz.prog.godebug=none:=by kernel_rfl
theorem zyp:laidOutB Tryz.prog=true:=by kernel_rfl
theorem sig:Cd 3=some {bj:=[.ro],res:=[false]}:=by kernel_rfl
set_option maxRecDepth 100000 in
theorem zzI(os:Os)(started:os.Started)(H:Type)(enc:TypeId × Value->H):
  ReturnsInHanded {} Tryz.checked os 3 .any (Rows.fnFedCopySpec.pre6 enc Tryz.prog Tryz.f3 Rows.fnFedCopyRow.domain false) (Rows.fnFedCopySpec.post enc Tryz.prog Tryz.f3 false true false false):=by
 refine returnsInHanded_of_change (C:=Tryz.checked) own started (by kernel_rfl) Tryz.func3
  (ChangeSpec.witness6 (enc:=enc) (C:=Tryz.checked) false ⟨#[], #[.slice none 0 0],[]⟩ 8 (by kernel_rfl) (by kernel_rfl) (by kernel_rfl) (by kernel_rfl)) ?_
 intro W base args ds gs before LS hW uH _;have KD:∀(j:Nat) t v,Tryz.f3.params[j]?=some t->args[j]?=some v->Value.okWide Tryz.prog W .any base t v:=LS;have tY:=hW;obtain⟨p,q,gA,hV,rfl,GY,BZ⟩:=hW;have hA:DataW.TrodAll enc Tryz.prog W 0 (λ_=>true) true Tryz.f3.params.toList args.toList ds p:=gA;rw[Tryz.params3]at hA KD;obtain⟨v0,vs0,d0,ds0,p0,q0,Ah,rfl,rfl,h0,r0⟩:=trodAll_cons hA;obtain⟨rfl,rfl,rfl⟩:=trodAll_nil r0;obtain rfl:args= #[v0]:=by cases args;simp_all
 obtain⟨rfl,rfl⟩:=trodVars_none hV;obtain⟨_,f0,a0,x0,k0,e0⟩:=zuu wY Tryz.underlying22 (KD 0 22 v0 rfl rfl) h0;obtain rfl:=(List.cons.inj e0).1;have m0:=h0;have lt0:∀x∈p0,x.block<W.heap.size:=by obtain⟨m,hm⟩:=m0;exact DataW.trod_lt m _ _ _ hm
 have DR:KE.n<=W.heap.size/\KE.K W:=⟨Nat.zero_le _,trivial⟩
 clear gA LS;refine(zwU (zlZ x0 true (ztn x0 k0)) (by decide) sig rfl (by simp) (by kernel_rfl) Tryz.func3 (t:=4) rfl (vs:=[v0]) (w:=W) (by rw[Tryz.params3];exact zu8 a0 zwQ) DR).mono λe W' ⟨he,bel⟩=> ?_
 subst he;exact⟨_,rfl,_,_,_,[],_,[],tY,trodAll_mk1 (shut_bool Tryz.underlying4 _),(trodAll_cons_mk (Below.trod zyp (by kernel_rfl) (of_decide_eq_true (by kernel_rfl)) m0 bel lt0) trodAll_mk0),rfl,bel.frame _,λh=>by cases h⟩
set_option maxHeartbeats 20000000 in
theorem xG:joinedFacts Tryz.prog 3 Tryz.f3 Rows.fnFedCopySpec Rows.fnFedCopyRow=true:=by
 unfold joinedFacts
 repeat' with_reducible refine zz5 ?_ ?_
 all_goals decide+kernel
theorem w8:Tryz.prog.funcNamed "loop.example/g00850/laws.FnFedCopy" =some 3:=by kernel_rfl
theorem over:Rows.fnFedCopyRow.holds Tryz.pinned (OpenSpec.ofChange Rows.fnFedCopySpec):=
 OpenClaim.holds_of_wide 3 Tryz.f3 rfl rfl rfl rfl rfl rfl rfl ⟨rfl,rfl,rfl,rfl,rfl⟩ rfl rfl rfl rfl rfl w8 Tryz.func3 xG
  (of_decide_eq_true (by kernel_rfl)) (by unfold Func.isWrapper;first|(rw[if_pos (by decide+kernel)];kernel_rfl)|(rw[if_neg (by decide+kernel)];exact⟨rfl,rfl⟩))
  (λos started H enc _=>zzI os started H enc)
end Go.Proofs.YtndikjghnmhdmaaGreat.fnFedCopyDone
namespace Go.Proofs.YtndikjghnmhdmaaGreat
theorem fnFedCopyProved:Rows.FnFedCopySaid:=fnFedCopyDone.over
#print axioms fnFedCopyProved
end Go.Proofs.YtndikjghnmhdmaaGreat
end

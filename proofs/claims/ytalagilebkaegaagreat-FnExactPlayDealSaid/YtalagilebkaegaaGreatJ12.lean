/- Parts of a proof, joined: FFnExactPlayDeal. -/
import Derived.Test.YtalagilebkaegaaGreatJ11
import Derived.Test.YtalagilebkaegaaGreatRows
import Derived.WalkKit
import Derived.ProofKit
import Derived.OpenShut
import Derived.ShutString
import Derived.ChangeOld
import Derived.Below
set_option linter.unusedVariables false
set_option linter.unusedSimpArgs false
section
namespace Go.Proofs.YtalagilebkaegaaGreat.fnExactPlayDealDone
open Go.ChangeShapes Go.WideShapes Go.ChangeAt Go.RowKit
open Go.Proofs.YtalagilebkaegaaGreat
set_option linter.unusedVariables false
theorem own:ownKnob Tryz.prog.godebug=none:=by kernel_rfl
theorem sW:laidOutB Tryz.prog=true:=by kernel_rfl
theorem sig:B5 6=some {b8:=[],res:=[false],dp:=true}:=by kernel_rfl
set_option maxRecDepth 100000 in
theorem zF1(os:Os)(started:os.Started)(H:Type)(enc:TypeId × Value->H):
  ReturnsInHanded {} Tryz.checked os 6 .any (Rows.fnExactPlayDealSpec.pre6 enc Tryz.prog Tryz.f6 Rows.fnExactPlayDealRow.domain false) (Rows.fnExactPlayDealSpec.post enc Tryz.prog Tryz.f6 false true false false):=by
 refine returnsInHanded_of_change (C:=Tryz.checked) own started (by kernel_rfl) Tryz.func6
  (ChangeSpec.witness6 (enc:=enc) (C:=Tryz.checked) false ⟨#[], #[.agg #[.slice none 0 0, .slice none 0 0, .slice none 0 0], .slice none 0 0],[]⟩ 8 (by kernel_rfl) (by kernel_rfl) (by kernel_rfl) (by kernel_rfl)) ?_
 intro W base args ds gs before MV hW hcnd _;have JZ:∀(j:Nat) t v,Tryz.f6.params[j]?=some t->args[j]?=some v->Value.okWide Tryz.prog W .any base t v:=MV;have hW':=hW;obtain⟨p,q,qK,hV,rfl,HO,B8⟩:=hW;have hA:DataW.TrodAll enc Tryz.prog W 0 (λ_=>true) true Tryz.f6.params.toList args.toList ds p:=qK;rw[Tryz.params6]at hA JZ;obtain⟨v0,vs0,d0,ds0,p0,q0,Ah,rfl,rfl,h0,r0⟩:=trodAll_cons hA;obtain⟨v1,vs1,d1,ds1,p1,q1,rfl,rfl,rfl,h1,r1⟩:=trodAll_cons r0;obtain⟨rfl,rfl,rfl⟩:=trodAll_nil r1;obtain rfl:args= #[v0,v1]:=by cases args;simp_all
 obtain⟨rfl,rfl⟩:=trodVars_none hV;obtain⟨_,f0,a0,x0,k0,e0⟩:=zzh op0 Tryz.underlying60 (JZ 0 60 v0 rfl rfl) h0;rw[e0]at a0;obtain⟨_,f1,a1,x1,k1,e1⟩:=zz0 zHD Tryz.underlying67 (JZ 1 67 v1 rfl rfl) h1;obtain rfl:=(List.cons.inj e1).1;have m0:=h0;have lt0:∀x∈p0,x.block<W.heap.size:=by obtain⟨m,hm⟩:=m0;exact DataW.trod_lt m _ _ _ hm
 have m1:=h1;have lt1:∀x∈p1,x.block<W.heap.size:=by obtain⟨m,hm⟩:=m1;exact DataW.trod_lt m _ _ _ hm
 have D3:LF.n<=W.heap.size/\LF.K W:=⟨Nat.zero_le _,trivial⟩
 clear qK MV;refine(zCY (zlA x0 x1 true (zqm x0 x1 k0 k1)) (by decide) sig rfl (by simp) (by kernel_rfl) Tryz.func6 (t:=4) rfl (vs:=[v0,v1]) (w:=W) (by rw[Tryz.params6];exact zI a0 (zI a1 zCT)) D3).mono λe W' ⟨he,bel⟩=> ?_
 subst he;exact⟨_,rfl,_,_,_,[],_,[],hW',trodAll_mk1 (shut_bool Tryz.underlying4 _),(trodAll_cons_mk (Below.trod sW (by kernel_rfl) (of_decide_eq_true (by kernel_rfl)) m0 bel lt0) (trodAll_cons_mk (Below.trod sW (by kernel_rfl) (of_decide_eq_true (by kernel_rfl)) m1 bel lt1) trodAll_mk0)),rfl,bel.frame _,λh=>by cases h⟩
set_option maxHeartbeats 20000000 in
theorem zG3:joinedFacts Tryz.prog 6 Tryz.f6 Rows.fnExactPlayDealSpec Rows.fnExactPlayDealRow=true:=by
 unfold joinedFacts
 repeat' with_reducible refine zGg ?_ ?_
 all_goals decide+kernel
theorem zGP:Tryz.prog.funcNamed "loop.example/g00850/laws.FnExactPlayDeal" =some 6:=by kernel_rfl
theorem over:Rows.fnExactPlayDealRow.holds Tryz.pinned (OpenSpec.ofChange Rows.fnExactPlayDealSpec):=
 OpenClaim.holds_of_wide 6 Tryz.f6 rfl rfl rfl rfl rfl rfl rfl ⟨rfl,rfl,rfl,rfl,rfl⟩ rfl rfl rfl rfl rfl zGP Tryz.func6 zG3
  (of_decide_eq_true (by kernel_rfl)) (by unfold Func.isWrapper;first|(rw[if_pos (by decide+kernel)];kernel_rfl)|(rw[if_neg (by decide+kernel)];exact⟨rfl,rfl⟩))
  (λos started H enc _=>zF1 os started H enc)
end Go.Proofs.YtalagilebkaegaaGreat.fnExactPlayDealDone
namespace Go.Proofs.YtalagilebkaegaaGreat
theorem fnExactPlayDealProved:Rows.FnExactPlayDealSaid:=fnExactPlayDealDone.over
#print axioms fnExactPlayDealProved
end Go.Proofs.YtalagilebkaegaaGreat
end

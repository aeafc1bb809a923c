/- Parts of a proof, joined: FFnDeal. -/
import Derived.Test.YtalagilebkaegaaGreatR11
import Derived.Test.YtalagilebkaegaaGreatRows
import Derived.WalkKit
import Derived.ProofKit
import Derived.OpenShut
import Derived.ShutString
import Derived.ChangeOld
import Derived.Below
set_option linter.unusedVariables false
set_option linter.unusedSimpArgs false
section
namespace Go.Proofs.YtalagilebkaegaaGreat.fnDealDone
open Go.ChangeShapes Go.WideShapes Go.ChangeAt Go.RowKit
open Go.Proofs.YtalagilebkaegaaGreat
set_option linter.unusedVariables false
theorem own:ownKnob Tryz.prog.godebug=none:=by kernel_rfl
theorem zzm:laidOutB Tryz.prog=true:=by kernel_rfl
theorem sig:B3 3=some {b8:=[.ro, .ro],res:=[false]}:=by kernel_rfl
set_option maxRecDepth 100000 in
theorem zEE(os:Os)(started:os.Started)(H:Type)(enc:TypeId × Value->H):
  ReturnsInHanded {} Tryz.checked os 3 .any (Rows.fnDealSpec.pre6 enc Tryz.prog Tryz.f3 Rows.fnDealRow.domain false) (Rows.fnDealSpec.post enc Tryz.prog Tryz.f3 false true false false):=by
 refine returnsInHanded_of_change (C:=Tryz.checked) own started (by kernel_rfl) Tryz.func3
  (ChangeSpec.witness6 (enc:=enc) (C:=Tryz.checked) false ⟨#[], #[.slice none 0 0, .slice none 0 0],[]⟩ 8 (by kernel_rfl) (by kernel_rfl) (by kernel_rfl) (by kernel_rfl)) ?_
 intro W base args ds gs before M9 hW hcnd _;have J5:∀(j:Nat) t v,Tryz.f3.params[j]?=some t->args[j]?=some v->Value.okWide Tryz.prog W .any base t v:=M9;have hW':=hW;obtain⟨p,q,oX,hV,rfl,HV,B6⟩:=hW;have hA:DataW.TrodAll enc Tryz.prog W 0 (λ_=>true) true Tryz.f3.params.toList args.toList ds p:=oX;rw[Tryz.params3]at hA J5;obtain⟨v0,vs0,d0,ds0,p0,q0,Ah,rfl,rfl,h0,r0⟩:=trodAll_cons hA;obtain⟨v1,vs1,d1,ds1,p1,q1,rfl,rfl,rfl,h1,r1⟩:=trodAll_cons r0;obtain⟨rfl,rfl,rfl⟩:=trodAll_nil r1;obtain rfl:args= #[v0,v1]:=by cases args;simp_all
 obtain⟨rfl,rfl⟩:=trodVars_none hV;obtain⟨_,f0,a0,x0,k0,e0⟩:=yL qS Tryz.underlying22 (J5 0 22 v0 rfl rfl) h0;obtain rfl:=(List.cons.inj e0).1;obtain⟨_,f1,a1,x1,k1,e1⟩:=yL qS Tryz.underlying22 (J5 1 22 v1 rfl rfl) h1;obtain rfl:=(List.cons.inj e1).1;have m0:=h0;have lt0:∀x∈p0,x.block<W.heap.size:=by obtain⟨m,hm⟩:=m0;exact DataW.trod_lt m _ _ _ hm
 have m1:=h1;have lt1:∀x∈p1,x.block<W.heap.size:=by obtain⟨m,hm⟩:=m1;exact DataW.trod_lt m _ _ _ hm
 have D1:LX.n<=W.heap.size/\LX.K W:=⟨Nat.zero_le _,trivial⟩
 clear oX M9;refine(zBQ (zt9 x0 x1 true (zDJ x0 x1 k0 k1)) (by decide) sig rfl (by simp) (by kernel_rfl) Tryz.func3 (t:=4) rfl (vs:=[v0,v1]) (w:=W) (by rw[Tryz.params3];exact yG a0 (yG a1 zBL)) D1).mono λe W' ⟨he,bel⟩=> ?_
 subst he;exact⟨_,rfl,_,_,_,[],_,[],hW',trodAll_mk1 (shut_bool Tryz.underlying4 _),(trodAll_cons_mk (Below.trod zzm (by kernel_rfl) (of_decide_eq_true (by kernel_rfl)) m0 bel lt0) (trodAll_cons_mk (Below.trod zzm (by kernel_rfl) (of_decide_eq_true (by kernel_rfl)) m1 bel lt1) trodAll_mk0)),rfl,bel.frame _,λh=>by cases h⟩
set_option maxHeartbeats 20000000 in
theorem zFD:joinedFacts Tryz.prog 3 Tryz.f3 Rows.fnDealSpec Rows.fnDealRow=true:=by
 unfold joinedFacts
 repeat' with_reducible refine zER ?_ ?_
 all_goals decide+kernel
theorem zFr:Tryz.prog.funcNamed "loop.example/g00850/laws.FnDeal" =some 3:=by kernel_rfl
theorem over:Rows.fnDealRow.holds Tryz.pinned (OpenSpec.ofChange Rows.fnDealSpec):=
 OpenClaim.holds_of_wide 3 Tryz.f3 rfl rfl rfl rfl rfl rfl rfl ⟨rfl,rfl,rfl,rfl,rfl⟩ rfl rfl rfl rfl rfl zFr Tryz.func3 zFD
  (of_decide_eq_true (by kernel_rfl)) (by unfold Func.isWrapper;first|(rw[if_pos (by decide+kernel)];kernel_rfl)|(rw[if_neg (by decide+kernel)];exact⟨rfl,rfl⟩))
  (λos started H enc _=>zEE os started H enc)
end Go.Proofs.YtalagilebkaegaaGreat.fnDealDone
namespace Go.Proofs.YtalagilebkaegaaGreat
theorem fnDealProved:Rows.FnDealSaid:=fnDealDone.over
#print axioms fnDealProved
end Go.Proofs.YtalagilebkaegaaGreat
end

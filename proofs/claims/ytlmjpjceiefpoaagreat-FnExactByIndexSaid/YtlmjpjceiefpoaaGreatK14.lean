/- Parts of a proof, joined: FFnExactByIndex. -/
import Derived.Test.YtlmjpjceiefpoaaGreatK13
import Derived.Test.YtlmjpjceiefpoaaGreatRows
import Derived.WalkKit
import Derived.ProofKit
import Derived.OpenShut
import Derived.ShutString
import Derived.ChangeOld
import Derived.Below
set_option linter.unusedVariables false
set_option linter.unusedSimpArgs false
section
namespace Go.Proofs.YtlmjpjceiefpoaaGreat.fnExactByIndexDone
open Go.ChangeShapes Go.WideShapes Go.ChangeAt Go.RowKit
open Go.Proofs.YtlmjpjceiefpoaaGreat
set_option linter.unusedVariables false
theorem own:ownKnob Tryz.prog.godebug=none:=by kernel_rfl
theorem sC:laidOutB Tryz.prog=true:=by kernel_rfl
theorem sig:BQ 3=some {c8:=[],res:=[false],dp:=true}:=by kernel_rfl
set_option maxRecDepth 100000 in
theorem zPX(os:Os)(started:os.Started)(H:Type)(enc:TypeId × Value->H):
  ReturnsInHanded {} Tryz.checked os 3 .any (Rows.fnExactByIndexSpec.pre6 enc Tryz.prog Tryz.f3 Rows.fnExactByIndexRow.domain false) (Rows.fnExactByIndexSpec.post enc Tryz.prog Tryz.f3 false true false false):=by
 refine returnsInHanded_of_change (C:=Tryz.checked) own started (by kernel_rfl) Tryz.func3
  (ChangeSpec.witness6 (enc:=enc) (C:=Tryz.checked) false ⟨#[], #[.agg #[.string ByteArray.empty, .slice none 0 0, .int .i64 0, .slice none 0 0, .slice none 0 0, .int .i64 0, .int .i64 0, .slice none 0 0, .slice none 0 0, .slice none 0 0, .slice none 0 0, .slice none 0 0, .slice none 0 0, .slice none 0 0], .string ByteArray.empty, .int .i64 0],[]⟩ 8 (by kernel_rfl) (by kernel_rfl) (by kernel_rfl) (by kernel_rfl)) ?_
 intro W base args ds gs before Of hW hcnd _;have JO:∀(j:Nat) t v,Tryz.f3.params[j]?=some t->args[j]?=some v->Value.okWide Tryz.prog W .any base t v:=Of;have hW':=hW;obtain⟨p,q,hA0,hV,rfl,IU,BX⟩:=hW;have hA:DataW.TrodAll enc Tryz.prog W 0 (λ_=>true) true Tryz.f3.params.toList args.toList ds p:=hA0;rw[Tryz.params3]at hA JO;obtain⟨v0,vs0,d0,ds0,p0,q0,Am,rfl,rfl,h0,r0⟩:=trodAll_cons hA;obtain⟨v1,vs1,d1,ds1,p1,q1,rfl,rfl,rfl,h1,r1⟩:=trodAll_cons r0;obtain⟨v2,vs2,d2,ds2,p2,q2,rfl,rfl,rfl,h2,r2⟩:=trodAll_cons r1;obtain⟨rfl,rfl,rfl⟩:=trodAll_nil r2;obtain rfl:args= #[v0,v1,v2]:=by cases args;simp_all
 obtain⟨rfl,rfl⟩:=trodVars_none hV;obtain⟨_,f0,a0,x0,k0,e0⟩:=zGW op0 Tryz.underlying34 (JO 0 34 v0 rfl rfl) h0;rw[e0]at a0;obtain⟨_,f1,a1,x1,k1,e1⟩:=zGI Kl Tryz.underlying9 (JO 1 9 v1 rfl rfl) h1;obtain rfl:=(List.cons.inj e1).1;obtain⟨_,f2,a2,x2,k2,e2⟩:=zOK Ek Tryz.underlying3 (JO 2 3 v2 rfl rfl) h2;obtain rfl:=(List.cons.inj e2).1;have m0:=h0;have lt0:∀x∈p0,x.block<W.heap.size:=by obtain⟨m,hm⟩:=m0;exact DataW.trod_lt m _ _ _ hm
 have m1:=h1;have lt1:∀x∈p1,x.block<W.heap.size:=by obtain⟨m,hm⟩:=m1;exact DataW.trod_lt m _ _ _ hm
 have m2:=h2;have lt2:∀x∈p2,x.block<W.heap.size:=by obtain⟨m,hm⟩:=m2;exact DataW.trod_lt m _ _ _ hm
 have Ea:MS.n<=W.heap.size/\MS.K W:=⟨Nat.zero_le _,trivial⟩
 clear hA0 Of;refine(zMt (zqv x0 x1 x2 true (zx3 x0 x1 x2 k0 k1 k2)) (by decide) sig rfl (by simp) (by kernel_rfl) Tryz.func3 (t:=4) rfl (vs:=[v0,v1,v2]) (w:=W) (by rw[Tryz.params3];exact zxH a0 (zxH a1 (zxH a2 zLf))) Ea).mono λe W' ⟨he,bel⟩=> ?_
 subst he;exact⟨_,rfl,_,_,_,[],_,[],hW',trodAll_mk1 (shut_bool Tryz.underlying4 _),(trodAll_cons_mk (Below.trod sC (by kernel_rfl) (of_decide_eq_true (by kernel_rfl)) m0 bel lt0) (trodAll_cons_mk (Below.trod sC (by kernel_rfl) (of_decide_eq_true (by kernel_rfl)) m1 bel lt1) (trodAll_cons_mk (Below.trod sC (by kernel_rfl) (of_decide_eq_true (by kernel_rfl)) m2 bel lt2) trodAll_mk0))),rfl,bel.frame _,λh=>by cases h⟩
set_option maxHeartbeats 20000000 in
theorem zQR:joinedFacts Tryz.prog 3 Tryz.f3 Rows.fnExactByIndexSpec Rows.fnExactByIndexRow=true:=by
 unfold joinedFacts
 repeat' with_reducible refine zPy ?_ ?_
 all_goals decide+kernel
theorem zQ6:Tryz.prog.funcNamed "loop.example/g00850/laws.FnExactByIndex" =some 3:=by kernel_rfl
theorem over:Rows.fnExactByIndexRow.holds Tryz.pinned (OpenSpec.ofChange Rows.fnExactByIndexSpec):=
 OpenClaim.holds_of_wide 3 Tryz.f3 rfl rfl rfl rfl rfl rfl rfl ⟨rfl,rfl,rfl,rfl,rfl⟩ rfl rfl rfl rfl rfl zQ6 Tryz.func3 zQR
  (of_decide_eq_true (by kernel_rfl)) (by unfold Func.isWrapper;first|(rw[if_pos (by decide+kernel)];kernel_rfl)|(rw[if_neg (by decide+kernel)];exact⟨rfl,rfl⟩))
  (λos started H enc _=>zPX os started H enc)
end Go.Proofs.YtlmjpjceiefpoaaGreat.fnExactByIndexDone
namespace Go.Proofs.YtlmjpjceiefpoaaGreat
theorem fnExactByIndexProved:Rows.FnExactByIndexSaid:=fnExactByIndexDone.over
#print axioms fnExactByIndexProved
end Go.Proofs.YtlmjpjceiefpoaaGreat
end

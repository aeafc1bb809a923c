/- Parts of a proof, joined: FFnDealEnds. -/
import Derived.Test.YtalagilebkaegaaGreatE11
import Derived.Test.YtalagilebkaegaaGreatRows
import Derived.WalkKit
import Derived.ProofKit
import Derived.OpenShut
import Derived.ShutString
import Derived.ChangeOld
import Derived.Below
set_option linter.unusedVariables false
set_option linter.unusedSimpArgs false
section
namespace Go.Proofs.YtalagilebkaegaaGreat.fnDealEndsDone
open Go.ChangeShapes Go.WideShapes Go.ChangeAt Go.RowKit
open Go.Proofs.YtalagilebkaegaaGreat
set_option linter.unusedVariables false
theorem own:ownKnob Tryz.prog.godebug=none:=by kernel_rfl
theorem tS:laidOutB Tryz.prog=true:=by kernel_rfl
theorem sig:B9 4=some {cf:=[.ro, .ro],res:=[false]}:=by kernel_rfl
set_option maxRecDepth 100000 in
theorem zF8(os:Os)(started:os.Started)(H:Type)(enc:TypeId × Value->H):
  ReturnsInHanded {} Tryz.checked os 4 .any (Rows.fnDealEndsSpec.pre6 enc Tryz.prog Tryz.f4 Rows.fnDealEndsRow.domain false) (Rows.fnDealEndsSpec.post enc Tryz.prog Tryz.f4 false true false false):=by
 refine returnsInHanded_of_change (C:=Tryz.checked) own started (by kernel_rfl) Tryz.func4
  (ChangeSpec.witness6 (enc:=enc) (C:=Tryz.checked) false ⟨#[], #[.slice none 0 0, .slice none 0 0],[]⟩ 8 (by kernel_rfl) (by kernel_rfl) (by kernel_rfl) (by kernel_rfl)) ?_
 intro W base args ds gs before Nz hW hcnd _;have Kw:∀(j:Nat) t v,Tryz.f4.params[j]?=some t->args[j]?=some v->Value.okWide Tryz.prog W .any base t v:=Nz;have hW':=hW;obtain⟨p,q,rQ,hV,rfl,Ij,Cb⟩:=hW;have hA:DataW.TrodAll enc Tryz.prog W 0 (λ_=>true) true Tryz.f4.params.toList args.toList ds p:=rQ;rw[Tryz.params4]at hA Kw;obtain⟨v0,vs0,d0,ds0,p0,q0,Aj,rfl,rfl,h0,r0⟩:=trodAll_cons hA;obtain⟨v1,vs1,d1,ds1,p1,q1,rfl,rfl,rfl,h1,r1⟩:=trodAll_cons r0;obtain⟨rfl,rfl,rfl⟩:=trodAll_nil r1;obtain rfl:args= #[v0,v1]:=by cases args;simp_all
 obtain⟨rfl,rfl⟩:=trodVars_none hV;obtain⟨_,f0,a0,x0,k0,e0⟩:=zvv tJ Tryz.underlying22 (Kw 0 22 v0 rfl rfl) h0;obtain rfl:=(List.cons.inj e0).1;obtain⟨_,f1,a1,x1,k1,e1⟩:=zvv tJ Tryz.underlying22 (Kw 1 22 v1 rfl rfl) h1;obtain rfl:=(List.cons.inj e1).1;have m0:=h0;have lt0:∀x∈p0,x.block<W.heap.size:=by obtain⟨m,hm⟩:=m0;exact DataW.trod_lt m _ _ _ hm
 have m1:=h1;have lt1:∀x∈p1,x.block<W.heap.size:=by obtain⟨m,hm⟩:=m1;exact DataW.trod_lt m _ _ _ hm
 have Ed:Mm.n<=W.heap.size/\Mm.K W:=⟨Nat.zero_le _,trivial⟩
 clear rQ Nz;refine(zDg (zp6 x0 x1 true (zw2 x0 x1 k0 k1)) (by decide) sig rfl (by simp) (by kernel_rfl) Tryz.func4 (t:=4) rfl (vs:=[v0,v1]) (w:=W) (by rw[Tryz.params4];exact zv3 a0 (zv3 a1 zDc)) Ed).mono λe W' ⟨he,bel⟩=> ?_
 subst he;exact⟨_,rfl,_,_,_,[],_,[],hW',trodAll_mk1 (shut_bool Tryz.underlying4 _),(trodAll_cons_mk (Below.trod tS (by kernel_rfl) (of_decide_eq_true (by kernel_rfl)) m0 bel lt0) (trodAll_cons_mk (Below.trod tS (by kernel_rfl) (of_decide_eq_true (by kernel_rfl)) m1 bel lt1) trodAll_mk0)),rfl,bel.frame _,λh=>by cases h⟩
set_option maxHeartbeats 20000000 in
theorem zG6:joinedFacts Tryz.prog 4 Tryz.f4 Rows.fnDealEndsSpec Rows.fnDealEndsRow=true:=by
 unfold joinedFacts
 repeat' with_reducible refine zGl ?_ ?_
 all_goals decide+kernel
theorem zGV:Tryz.prog.funcNamed "loop.example/g00850/laws.FnDealEnds" =some 4:=by kernel_rfl
theorem over:Rows.fnDealEndsRow.holds Tryz.pinned (OpenSpec.ofChange Rows.fnDealEndsSpec):=
 OpenClaim.holds_of_wide 4 Tryz.f4 rfl rfl rfl rfl rfl rfl rfl ⟨rfl,rfl,rfl,rfl,rfl⟩ rfl rfl rfl rfl rfl zGV Tryz.func4 zG6
  (of_decide_eq_true (by kernel_rfl)) (by unfold Func.isWrapper;first|(rw[if_pos (by decide+kernel)];kernel_rfl)|(rw[if_neg (by decide+kernel)];exact⟨rfl,rfl⟩))
  (λos started H enc _=>zF8 os started H enc)
end Go.Proofs.YtalagilebkaegaaGreat.fnDealEndsDone
namespace Go.Proofs.YtalagilebkaegaaGreat
theorem fnDealEndsProved:Rows.FnDealEndsSaid:=fnDealEndsDone.over
#print axioms fnDealEndsProved
end Go.Proofs.YtalagilebkaegaaGreat
end

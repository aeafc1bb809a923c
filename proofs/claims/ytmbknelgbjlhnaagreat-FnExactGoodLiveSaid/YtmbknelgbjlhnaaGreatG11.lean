/- Parts of a proof, joined: FFnExactGoodLive. -/
import Derived.Test.YtmbknelgbjlhnaaGreatG10
import Derived.Test.YtmbknelgbjlhnaaGreatRows
import Derived.WalkKit
import Derived.ProofKit
import Derived.OpenShut
import Derived.ShutString
import Derived.ChangeOld
import Derived.Below
set_option linter.unusedVariables false
set_option linter.unusedSimpArgs false
section
namespace Go.Proofs.YtmbknelgbjlhnaaGreat.fnExactGoodLiveDone
open Go.ChangeShapes Go.WideShapes Go.ChangeAt Go.RowKit
open Go.Proofs.YtmbknelgbjlhnaaGreat
set_option linter.unusedVariables false
theorem own:ownKnob Tryz.prog.godebug=none:=by kernel_rfl
theorem yK:laidOutB Tryz.prog=true:=by kernel_rfl
theorem sig:Dy 3=some {dc:= [],res:= [false],dp:=true}:=by kernel_rfl
set_option maxRecDepth 100000 in
theorem zG (os:Os) (started:os.Started) (H:Type) (enc:TypeId × Value→H):
  ReturnsInHanded {} Tryz.checked os 3 .any (Rows.fnExactGoodLiveSpec.pre6 enc Tryz.prog Tryz.f3 Rows.fnExactGoodLiveRow.domain false) (Rows.fnExactGoodLiveSpec.post enc Tryz.prog Tryz.f3 false true false false):=by
 refine returnsInHanded_of_change (C:=Tryz.checked) own started (by kernel_rfl) Tryz.func3
  (ChangeSpec.witness6 (enc:=enc) (C:=Tryz.checked) false ⟨#[], #[.agg #[.string ByteArray.empty, .slice none 0 0, .int .i64 0, .slice none 0 0, .slice none 0 0, .int .i64 0, .int .i64 0, .slice none 0 0, .slice none 0 0, .slice none 0 0, .slice none 0 0, .slice none 0 0, .slice none 0 0, .slice none 0 0]], []⟩ 8 (by kernel_rfl) (by kernel_rfl) (by kernel_rfl) (by kernel_rfl)) ?_
 intro W base args ds gs before KL hW rT _;have JF: ∀(j:Nat) t v,Tryz.f3.params[j]?=some t→args[j]?=some v→Value.okWide Tryz.prog W .any base t v:=KL;have rM:=hW;obtain⟨p,q,gU,hV,rfl,F9,BW⟩:=hW;have hA:DataW.TrodAll enc Tryz.prog W 0 (fun _=>true) true Tryz.f3.params.toList args.toList ds p:=gU;rw [Tryz.params3]at hA JF;obtain⟨v0,vs0,d0,ds0,p0,q0,Az,rfl,rfl,h0,r0⟩:=trodAll_cons hA;obtain⟨rfl,rfl,rfl⟩:=trodAll_nil r0;obtain rfl:args= #[v0]:=by cases args;simp_all
 obtain⟨rfl,rfl⟩:=trodVars_none hV;obtain⟨_,f0,a0,x0,k0,e0⟩:=zxT tW Tryz.underlying34 (JF 0 34 v0 rfl rfl) h0;rw [e0]at a0;have m0:=h0;have lt0: ∀x∈p0,x.block<W.heap.size:=by obtain⟨m,hm⟩:=m0;exact DataW.trod_lt m _ _ _ hm
 have Eb:JH.n≤W.heap.size∧JH.K W:=⟨Nat.zero_le _,trivial⟩
 clear gU KL;refine(xF (zln x0 true (zo9 x0 k0)) (by decide) sig rfl (by simp) (by kernel_rfl) Tryz.func3 (t:=4) rfl (vs:= [v0]) (w:=W) (by rw [Tryz.params3];exact zzh a0 w7) Eb).mono fun e W' ⟨he,bel⟩=> ?_
 subst he;exact⟨_,rfl,_,_,_, [],_, [],rM,trodAll_mk1 (shut_bool Tryz.underlying4 _),(trodAll_cons_mk (Below.trod yK (by kernel_rfl) (of_decide_eq_true (by kernel_rfl)) m0 bel lt0) trodAll_mk0),rfl,bel.frame _,fun h=>by cases h⟩
set_option maxHeartbeats 20000000 in
theorem z6:joinedFacts Tryz.prog 3 Tryz.f3 Rows.fnExactGoodLiveSpec Rows.fnExactGoodLiveRow=true:=by
 unfold joinedFacts
 repeat' with_reducible refine zEo ?_ ?_
 all_goals decide+kernel
theorem zER:Tryz.prog.funcNamed "loop.example/g00850/laws.FnExactGoodLive" =some 3:=by kernel_rfl
theorem over:Rows.fnExactGoodLiveRow.holds Tryz.pinned (OpenSpec.ofChange Rows.fnExactGoodLiveSpec):=
 OpenClaim.holds_of_wide 3 Tryz.f3 rfl rfl rfl rfl rfl rfl rfl ⟨rfl,rfl,rfl,rfl,rfl⟩ rfl rfl rfl rfl rfl zER Tryz.func3 z6
  (of_decide_eq_true (by kernel_rfl)) (by unfold Func.isWrapper;first|(rw [if_pos (by decide+kernel)];kernel_rfl)|(rw [if_neg (by decide+kernel)];exact⟨rfl,rfl⟩))
  (fun os started H enc _=>zG os started H enc)
end Go.Proofs.YtmbknelgbjlhnaaGreat.fnExactGoodLiveDone
namespace Go.Proofs.YtmbknelgbjlhnaaGreat
theorem fnExactGoodLiveProved:Rows.FnExactGoodLiveSaid:=fnExactGoodLiveDone.over
#print axioms fnExactGoodLiveProved
end Go.Proofs.YtmbknelgbjlhnaaGreat
end

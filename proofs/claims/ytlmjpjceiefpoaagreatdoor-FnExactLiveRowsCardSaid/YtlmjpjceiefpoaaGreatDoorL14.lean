/- Parts of a proof, joined: FFnExactLiveRows. -/
import Derived.Test.YtlmjpjceiefpoaaGreatDoorL13
import Derived.Test.YtlmjpjceiefpoaaGreatDoorRows
import Derived.WalkKit
import Derived.ProofKit
import Derived.OpenShut
import Derived.ShutString
import Derived.ChangeOld
import Derived.Below
import Derived.Lay
import Derived.MakeChecks
import Derived.LaidLaws
import Derived.Stop.Joined
import Derived.SevenTiedAt
import Derived.Test.YtlmjpjceiefpoaaGreatDoorCards
import Derived.Test.YtlmjpjceiefpoaaGreatDoorTie
set_option linter.unusedVariables false
set_option linter.unusedSimpArgs false
section
namespace Go.Proofs.YtlmjpjceiefpoaaGreatDoor.fnExactLiveRowsDone
open Go.ChangeShapes Go.WideShapes Go.ChangeAt Go.RowKit
open Go.Proofs.YtlmjpjceiefpoaaGreatDoor
set_option linter.unusedVariables false
theorem own:ownKnob Tryz.prog.godebug=none:=by kernel_rfl
theorem zJk:laidOutB Tryz.prog=true:=by kernel_rfl
theorem sig:BM 3=some {c8:=[],res:=[false],dp:=true}:=by kernel_rfl
set_option maxRecDepth 100000 in
theorem zPK(os:Os)(started:os.Started)(H:Type)(enc:TypeId × Value->H):
  ReturnsInHanded {} Tryz.checked os 3 .any (λw args=>(Rows.fnExactLiveRowsSpec.pre enc Tryz.prog Tryz.f3 [] false w args/\laidMetH Tryz.prog Rows.fnExactLiveRowsRow.laid w)/\sizedMet enc Tryz.prog Tryz.f3 (OpenSpec.ofChange Rows.fnExactLiveRowsSpec) false w args)
   (Rows.fnExactLiveRowsSpec.post enc Tryz.prog Tryz.f3 false true false false):=by
 refine returnsInHanded_of_change_and (C:=Tryz.checked) (X:=λw _=>laidMetH Tryz.prog Rows.fnExactLiveRowsRow.laid w) (λ_ _ _ hh h=>h.of_heap hh) own started (by kernel_rfl) Tryz.func3
  (ChangeSpec.witness_shaped (enc:=enc) (C:=Tryz.checked) (os:=os) (X:=λw _=>laidMetH Tryz.prog Rows.fnExactLiveRowsRow.laid w) false (World.laidAll Tryz.prog os Rows.fnExactLiveRowsRow.laid) #[.agg #[.string ByteArray.empty, .slice none 0 0, .int .i64 0, .slice none 0 0, .slice none 0 0, .int .i64 0, .int .i64 0, .slice none 0 0, .slice none 0 0, .slice none 0 0, .slice none 0 0, .slice none 0 0, .slice none 0 0, .slice none 0 0], .int .i64 0] 8 (World.laidAll_os _ _ _)
   (World.shaped_of_ZipB (by kernel_rfl) (by kernel_rfl)) (by kernel_rfl) (by kernel_rfl) (by kernel_rfl)
   (by rw[MakeChecks.laidMetH_plain _ _ _ (by kernel_rfl)];exact laidMet_laidAll _ (by kernel_rfl) (by kernel_rfl))) ?_
 intro W base args ds gs before Oe hW _ _ hL _;have K2:∀(j:Nat) t v,Tryz.f3.params[j]?=some t->args[j]?=some v->Value.okWide Tryz.prog W .any base t v:=Oe;have hW':=hW;obtain⟨p,q,hA0,hV,rfl,IT,Cb⟩:=hW;have hA:DataW.TrodAll enc Tryz.prog W 0 (λ_=>true) true Tryz.f3.params.toList args.toList ds p:=hA0;rw[Tryz.params3]at hA K2;obtain⟨v0,vs0,d0,ds0,p0,q0,Aj,rfl,rfl,h0,r0⟩:=trodAll_cons hA;obtain⟨v1,vs1,d1,ds1,p1,q1,rfl,rfl,rfl,h1,r1⟩:=trodAll_cons r0;obtain⟨rfl,rfl,rfl⟩:=trodAll_nil r1;obtain rfl:args= #[v0,v1]:=by cases args;simp_all
 obtain⟨rfl,rfl⟩:=trodVars_none hV;obtain⟨_,f0,a0,x0,k0,e0⟩:=zGF op0 Tryz.underlying34 (K2 0 34 v0 rfl rfl) h0;rw[e0]at a0;obtain⟨_,f1,a1,x1,k1,e1⟩:=zOs Ee Tryz.underlying3 (K2 1 3 v1 rfl rfl) h1;obtain rfl:=(List.cons.inj e1).1;have m0:=h0;have lt0:∀x∈p0,x.block<W.heap.size:=by obtain⟨m,hm⟩:=m0;exact DataW.trod_lt m _ _ _ hm
 have m1:=h1;have lt1:∀x∈p1,x.block<W.heap.size:=by obtain⟨m,hm⟩:=m1;exact DataW.trod_lt m _ _ _ hm
 have D5:MQ.n<=W.heap.size/\MQ.K W:=⟨Nat.zero_le _,trivial⟩
 clear hA0 Oe;refine(zMa (zpT x0 x1 true (zu0 x0 x1 k0 k1)) (by decide) sig rfl (by simp) (by kernel_rfl) Tryz.func3 (t:=4) rfl (vs:=[v0,v1]) (w:=W) (by rw[Tryz.params3];exact zDj a0 (zDj a1 zKX)) D5).mono λe W' ⟨he,bel⟩=> ?_
 subst he;exact⟨_,rfl,_,_,_,[],_,[],hW',trodAll_mk1 (shut_bool Tryz.underlying4 _),(trodAll_cons_mk (Below.trod zJk (by kernel_rfl) (of_decide_eq_true (by kernel_rfl)) m0 bel lt0) (trodAll_cons_mk (Below.trod zJk (by kernel_rfl) (of_decide_eq_true (by kernel_rfl)) m1 bel lt1) trodAll_mk0)),rfl,bel.frame _,λh=>by cases h⟩
set_option maxHeartbeats 20000000 in
theorem zQB:joinedFacts Tryz.prog 3 Tryz.f3 Rows.fnExactLiveRowsSpec Rows.fnExactLiveRowsRow=true:=by
 unfold joinedFacts
 repeat' with_reducible refine zPk ?_ ?_
 all_goals decide+kernel
theorem zPD:Tryz.prog.funcNamed "loop.example/g00850/laws.FnExactLiveRows" =some 3:=by kernel_rfl
theorem zRx:Rows.fnExactLiveRowsRow.holds Tryz.pinned (OpenSpec.ofChange Rows.fnExactLiveRowsSpec):=
 OpenClaim.holds_of_wide 3 Tryz.f3 rfl rfl rfl rfl rfl rfl rfl ⟨rfl,rfl,rfl,rfl,rfl⟩ rfl rfl rfl rfl rfl zPD Tryz.func3 zQB
  (of_decide_eq_true (by kernel_rfl)) (by unfold Func.isWrapper;first|(rw[if_pos (by decide+kernel)];kernel_rfl)|(rw[if_neg (by decide+kernel)];exact⟨rfl,rfl⟩))
  (λos started H enc _=>zPK os started H enc)
theorem cwf:Rows.fnExactLiveRowsRow.wfByText (OpenSpec.ofChange Rows.fnExactLiveRowsSpec)=true:=by decide+kernel
theorem zQR:Tryz.prog.mainIs=some (true, "d8e315125671b6472eccfbf6effe9539389487558cc6484b8422ff8bfb790a2f".toList):=by kernel_rfl
theorem zPl:false=Tryz.prog.looks []:=by kernel_rfl
theorem zJb{P:Program}(h:P.funcs.any Func.goes=false)(c:OpenClaim):false=c.goesBy P:=by
 have h1:∀f,P.goes f=false:=λf=>by
  unfold Program.goes;rw[h,Bool.and_false,Bool.or_false,List.any_eq_false];intro g _;cases e:P.funcs[g]? with
  |none=>simp
  |some fn=>have:=Array.any_eq_false.1 h;obtain⟨hg,GG⟩:=Array.getElem?_eq_some_iff.1 e;have h2:=this g hg;rw[GG]at h2;simpa using h2
 unfold OpenClaim.goesBy Program.goesAt Program.goesFrom;have h2:(P.funcNamed c.func).any P.goes=false:=by
  cases P.funcNamed c.func with
  |none=>rfl
  |some f=>exact h1 f
 rw[h2,Bool.false_or];cases c.start with
 |entering=>rfl
 |_=>symm;rw[List.any_eq_false];intro f _;simp[h1 f]
theorem zQt:false=Rows.fnExactLiveRowsRow.goesBy Tryz.prog:=zJb (by kernel_rfl) _
theorem zPo:([34,3].all λu=> !Tryz.prog.wantsStandIn u)=true:=by kernel_rfl
theorem card:Rows.FnExactLiveRowsCardSaid:=
 Claim7.holds_tied_plain_at .later [] [.data, .pinned] true (true, "d8e315125671b6472eccfbf6effe9539389487558cc6484b8422ff8bfb790a2f") false zRx (λ_ h=>by cases h) cwf (λ_ h=>by cases h) fnExactLiveRows_row_tie rfl ⟨rfl,rfl⟩ zQR rfl
  (λf fn hf GG=>by
   obtain rfl:f=3:=Option.some.inj (zPD.symm.trans hf)|>.symm;obtain rfl:fn=Tryz.f3:=(Option.some.inj (Tryz.func3.symm.trans GG)).symm;exact⟨zPl,λj t ht=>by
    rw[Tryz.params3]at ht;have hm:t∈ [34,3]:=by simpa[or_assoc]using Array.mem_of_getElem? ht
    exact(show Tryz.prog.wantsStandIn t=false by simpa using Ba.1 zPo t hm)⟩)
  zQt
end Go.Proofs.YtlmjpjceiefpoaaGreatDoor.fnExactLiveRowsDone
namespace Go.Proofs.YtlmjpjceiefpoaaGreatDoor
theorem fnExactLiveRowsProved:Rows.FnExactLiveRowsCardSaid:=fnExactLiveRowsDone.card
#print axioms fnExactLiveRowsProved
end Go.Proofs.YtlmjpjceiefpoaaGreatDoor
end

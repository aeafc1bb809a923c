/- Parts of a proof, joined: FFnRanges. -/
import Derived.Test.YtkpifpljpoochaaGreatDoorK9
import Derived.Test.YtkpifpljpoochaaGreatDoorRows
import Derived.WalkKit
import Derived.ProofKit
import Derived.OpenShut
import Derived.ShutString
import Derived.ChangeOld
import Derived.Below
import Derived.Lay
import Derived.MakeChecks
import Derived.LaidLaws
import Derived.Stop.Joined
import Derived.SevenTiedAt
import Derived.Test.YtkpifpljpoochaaGreatDoorCards
import Derived.Test.YtkpifpljpoochaaGreatDoorTie
set_option linter.unusedVariables false
set_option linter.unusedSimpArgs false
section
namespace Go.Proofs.YtkpifpljpoochaaGreatDoor.fnRangesDone
open Go.ChangeShapes Go.WideShapes Go.ChangeAt Go.RowKit
open Go.Proofs.YtkpifpljpoochaaGreatDoor
set_option linter.unusedVariables false
theorem own:ownKnob Tryz.prog.godebug=none:=by kernel_rfl
theorem lN:laidOutB Tryz.prog=true:=by kernel_rfl
theorem sig:CF 3=some {cf:=[.ro, .ro],res:=[false]}:=by kernel_rfl
set_option maxRecDepth 100000 in
theorem zyD(os:Os)(started:os.Started)(H:Type)(enc:TypeId × Value->H):
  ReturnsInHanded {} Tryz.checked os 3 .any (λw args=>(Rows.fnRangesSpec.pre enc Tryz.prog Tryz.f3 [] false w args/\laidMetH Tryz.prog Rows.fnRangesRow.laid w)/\sizedMet enc Tryz.prog Tryz.f3 (OpenSpec.ofChange Rows.fnRangesSpec) false w args)
   (Rows.fnRangesSpec.post enc Tryz.prog Tryz.f3 false true false false):=by
 refine returnsInHanded_of_change_and (C:=Tryz.checked) (X:=λw _=>laidMetH Tryz.prog Rows.fnRangesRow.laid w) (λ_ _ _ hh h=>h.of_heap hh) own started (by kernel_rfl) Tryz.func3
  (ChangeSpec.witness_shaped (enc:=enc) (C:=Tryz.checked) (os:=os) (X:=λw _=>laidMetH Tryz.prog Rows.fnRangesRow.laid w) false (World.laidAll Tryz.prog os Rows.fnRangesRow.laid) #[.slice none 0 0, .slice none 0 0] 8 (World.laidAll_os _ _ _)
   (World.shaped_of_ZipB (by kernel_rfl) (by kernel_rfl)) (by kernel_rfl) (by kernel_rfl) (by kernel_rfl)
   (by rw[MakeChecks.laidMetH_plain _ _ _ (by kernel_rfl)];exact laidMet_laidAll _ (by kernel_rfl) (by kernel_rfl))) ?_
 intro W base args ds gs before Lm hW _ _ hL _;have IN:∀(j:Nat) t v,Tryz.f3.params[j]?=some t->args[j]?=some v->Value.okWide Tryz.prog W .any base t v:=Lm;have pG:=hW;obtain⟨p,q,cF,hV,rfl,GP,B8⟩:=hW;have hA:DataW.TrodAll enc Tryz.prog W 0 (λ_=>true) true Tryz.f3.params.toList args.toList ds p:=cF;rw[Tryz.params3]at hA IN;obtain⟨v0,vs0,d0,ds0,p0,q0,Au,rfl,rfl,h0,r0⟩:=trodAll_cons hA;obtain⟨v1,vs1,d1,ds1,p1,q1,rfl,rfl,rfl,h1,r1⟩:=trodAll_cons r0;obtain⟨rfl,rfl,rfl⟩:=trodAll_nil r1;obtain rfl:args= #[v0,v1]:=by cases args;simp_all
 obtain⟨rfl,rfl⟩:=trodVars_none hV;obtain⟨_,f0,a0,x0,k0,e0⟩:=jI dS Tryz.underlying22 (IN 0 22 v0 rfl rfl) h0;obtain rfl:=(List.cons.inj e0).1;obtain⟨_,f1,a1,x1,k1,e1⟩:=jI dS Tryz.underlying22 (IN 1 22 v1 rfl rfl) h1;obtain rfl:=(List.cons.inj e1).1;have m0:=h0;have lt0:∀x∈p0,x.block<W.heap.size:=by obtain⟨m,hm⟩:=m0;exact DataW.trod_lt m _ _ _ hm
 have m1:=h1;have lt1:∀x∈p1,x.block<W.heap.size:=by obtain⟨m,hm⟩:=m1;exact DataW.trod_lt m _ _ _ hm
 have Ez:Kl.n<=W.heap.size/\Kl.K W:=⟨Nat.zero_le _,trivial⟩
 clear cF Lm;refine(zwb (wO x0 x1 true (zuR x0 x1 k0 k1)) (by decide) sig rfl (by simp) (by kernel_rfl) Tryz.func3 (t:=4) rfl (vs:=[v0,v1]) (w:=W) (by rw[Tryz.params3];exact jV a0 (jV a1 zv7)) Ez).mono λe W' ⟨he,bel⟩=> ?_
 subst he;exact⟨_,rfl,_,_,_,[],_,[],pG,trodAll_mk1 (shut_bool Tryz.underlying4 _),(trodAll_cons_mk (Below.trod lN (by kernel_rfl) (of_decide_eq_true (by kernel_rfl)) m0 bel lt0) (trodAll_cons_mk (Below.trod lN (by kernel_rfl) (of_decide_eq_true (by kernel_rfl)) m1 bel lt1) trodAll_mk0)),rfl,bel.frame _,λh=>by cases h⟩
set_option maxHeartbeats 20000000 in
theorem zzL:joinedFacts Tryz.prog 3 Tryz.f3 Rows.fnRangesSpec Rows.fnRangesRow=true:=by
 unfold joinedFacts
 repeat' with_reducible refine zy2 ?_ ?_
 all_goals decide+kernel
theorem oC:Tryz.prog.funcNamed "loop.example/g00850/laws.FnRanges" =some 3:=by kernel_rfl
theorem sI:Rows.fnRangesRow.holds Tryz.pinned (OpenSpec.ofChange Rows.fnRangesSpec):=
 OpenClaim.holds_of_wide 3 Tryz.f3 rfl rfl rfl rfl rfl rfl rfl ⟨rfl,rfl,rfl,rfl,rfl⟩ rfl rfl rfl rfl rfl oC Tryz.func3 zzL
  (of_decide_eq_true (by kernel_rfl)) (by unfold Func.isWrapper;first|(rw[if_pos (by decide+kernel)];kernel_rfl)|(rw[if_neg (by decide+kernel)];exact⟨rfl,rfl⟩))
  (λos started H enc _=>zyD os started H enc)
theorem oT:Rows.fnRangesRow.wfByText (OpenSpec.ofChange Rows.fnRangesSpec)=true:=by decide+kernel
theorem zzF:Tryz.prog.mainIs=some (true, "25b33100f7088b40c8cca08c647c1a069ac02450bfb16d9fde90925fa20bce3f".toList):=by kernel_rfl
theorem zy4:false=Tryz.prog.looks []:=by kernel_rfl
theorem ztU{P:Program}(h:P.funcs.any Func.goes=false)(c:OpenClaim):false=c.goesBy P:=by
 have h1:∀f,P.goes f=false:=λf=>by
  unfold Program.goes;rw[h,Bool.and_false,Bool.or_false,List.any_eq_false];intro g _;cases e:P.funcs[g]? with
  |none=>simp
  |some fn=>have:=Array.any_eq_false.1 h;obtain⟨hg,FJ⟩:=Array.getElem?_eq_some_iff.1 e;have h2:=this g hg;rw[FJ]at h2;simpa using h2
 unfold OpenClaim.goesBy Program.goesAt Program.goesFrom;have h2:(P.funcNamed c.func).any P.goes=false:=by
  cases P.funcNamed c.func with
  |none=>rfl
  |some f=>exact h1 f
 rw[h2,Bool.false_or];cases c.start with
 |entering=>rfl
 |_=>symm;rw[List.any_eq_false];intro f _;simp[h1 f]
theorem zzz:false=Rows.fnRangesRow.goesBy Tryz.prog:=by first|exact ztU (by kernel_rfl) _|kernel_rfl
theorem zy9:([22,22].all λu=> !Tryz.prog.wantsStandIn u)=true:=by kernel_rfl
theorem card:Rows.FnRangesCardSaid:=
 Claim7.holds_tied_plain_at .later [] [.data, .pinned] true (true, "25b33100f7088b40c8cca08c647c1a069ac02450bfb16d9fde90925fa20bce3f") false sI (λ_ h=>by cases h) oT (λ_ h=>by cases h) fnRanges_row_tie rfl ⟨rfl,rfl⟩ zzF rfl
  (λf fn hf FJ=>by
   obtain rfl:f=3:=Option.some.inj (oC.symm.trans hf)|>.symm;obtain rfl:fn=Tryz.f3:=(Option.some.inj (Tryz.func3.symm.trans FJ)).symm;exact⟨zy4,λj t ht=>by
    rw[Tryz.params3]at ht;have hm:t∈ [22,22]:=by simpa[or_assoc]using Array.mem_of_getElem? ht
    exact(show Tryz.prog.wantsStandIn t=false by simpa using A0.1 zy9 t hm)⟩)
  zzz
end Go.Proofs.YtkpifpljpoochaaGreatDoor.fnRangesDone
namespace Go.Proofs.YtkpifpljpoochaaGreatDoor
theorem fnRangesProved:Rows.FnRangesCardSaid:=fnRangesDone.card
#print axioms fnRangesProved
end Go.Proofs.YtkpifpljpoochaaGreatDoor
end

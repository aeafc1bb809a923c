/- Parts of a proof, joined: FFnFinish. -/
import Derived.Test.YtbmbkgalkfmjdaaGreatDoorJ11
import Derived.Test.YtbmbkgalkfmjdaaGreatDoorRows
import Derived.WalkKit
import Derived.ProofKit
import Derived.OpenShut
import Derived.ShutString
import Derived.ChangeOld
import Derived.Below
import Derived.Lay
import Derived.MakeChecks
import Derived.LaidLaws
import Derived.Stop.Joined
import Derived.SevenTiedAt
import Derived.Test.YtbmbkgalkfmjdaaGreatDoorCards
import Derived.Test.YtbmbkgalkfmjdaaGreatDoorTie
set_option linter.unusedVariables false
set_option linter.unusedSimpArgs false
section
namespace Go.Proofs.YtbmbkgalkfmjdaaGreatDoor.fnFinishDone
open Go.ChangeShapes Go.WideShapes Go.ChangeAt Go.RowKit
open Go.Proofs.YtbmbkgalkfmjdaaGreatDoor
set_option linter.unusedVariables false
theorem own:ownKnob Tryz.prog.godebug=none:=by kernel_rfl
theorem uF:laidOutB Tryz.prog=true:=by kernel_rfl
theorem sig:Cv 4=some {cx:= [.ro, .ro],res:= [false]}:=by kernel_rfl
set_option maxRecDepth 100000 in
theorem zGK (os:Os) (started:os.Started) (H:Type) (enc:TypeId × Value→H):
  ReturnsInHanded {} Tryz.checked os 4 .any (fun w args=>(Rows.fnFinishSpec.pre enc Tryz.prog Tryz.f4 [] false w args∧laidMetH Tryz.prog Rows.fnFinishRow.laid w)∧sizedMet enc Tryz.prog Tryz.f4 (OpenSpec.ofChange Rows.fnFinishSpec) false w args)
   (Rows.fnFinishSpec.post enc Tryz.prog Tryz.f4 false true false false):=by
 refine returnsInHanded_of_change_and (C:=Tryz.checked) (X:=fun w _=>laidMetH Tryz.prog Rows.fnFinishRow.laid w) (fun _ _ _ hh h=>h.of_heap hh) own started (by kernel_rfl) Tryz.func4
  (ChangeSpec.witness_shaped (enc:=enc) (C:=Tryz.checked) (os:=os) (X:=fun w _=>laidMetH Tryz.prog Rows.fnFinishRow.laid w) false (World.laidAll Tryz.prog os Rows.fnFinishRow.laid) #[.slice none 0 0, .slice none 0 0] 8 (World.laidAll_os _ _ _)
   (World.shaped_of_ZipB (by kernel_rfl) (by kernel_rfl)) (by kernel_rfl) (by kernel_rfl) (by kernel_rfl)
   (by rw [MakeChecks.laidMetH_plain _ _ _ (by kernel_rfl)];exact laidMet_laidAll _ (by kernel_rfl) (by kernel_rfl))) ?_
 intro W base args ds gs before Nc hW _ Xy hL _;have Kb: ∀(j:Nat) t v,Tryz.f4.params[j]?=some t→args[j]?=some v→Value.okWide Tryz.prog W .any base t v:=Nc;have hW':=hW;obtain⟨p,q,sU,hV,rfl,H2,Co⟩:=hW;have hA:DataW.TrodAll enc Tryz.prog W 0 (fun _=>true) true Tryz.f4.params.toList args.toList ds p:=sU;rw [Tryz.params4]at hA Kb;obtain⟨v0,vs0,d0,ds0,p0,q0,Ay,rfl,rfl,h0,r0⟩:=trodAll_cons hA;obtain⟨v1,vs1,d1,ds1,p1,q1,rfl,rfl,rfl,h1,r1⟩:=trodAll_cons r0;obtain⟨rfl,rfl,rfl⟩:=trodAll_nil r1;obtain rfl:args= #[v0,v1]:=by cases args;simp_all
 obtain⟨rfl,rfl⟩:=trodVars_none hV;obtain⟨_,f0,a0,x0,k0,e0⟩:=zvK uD Tryz.underlying22 (Kb 0 22 v0 rfl rfl) h0;obtain rfl:=(List.cons.inj e0).1;obtain⟨_,f1,a1,x1,k1,e1⟩:=zvK uD Tryz.underlying22 (Kb 1 22 v1 rfl rfl) h1;obtain rfl:=(List.cons.inj e1).1;rw [Tryz.params4]at Xy;have z0:x0.length≤140737488351232:=by have:=zrE Tryz.underlying22 (by kernel_rfl) h0 a0 (nB Xy).1;rw [List.length_map]at this;exact this
 have z1:x1.length≤140737488351232:=by have:=zrE Tryz.underlying22 (by kernel_rfl) h1 a1 (nB (nB Xy).2).1;rw [List.length_map]at this;exact this
 clear Xy;have m0:=h0;have lt0: ∀x∈p0,x.block<W.heap.size:=by obtain⟨m,hm⟩:=m0;exact DataW.trod_lt m _ _ _ hm
 have m1:=h1;have lt1: ∀x∈p1,x.block<W.heap.size:=by obtain⟨m,hm⟩:=m1;exact DataW.trod_lt m _ _ _ hm
 have Ev:F6.n≤W.heap.size∧F6.K W:=zFm (laid:=Rows.fnFinishRow.laid) (D1:=Rows.laid_strconv_ErrSyntax) (D2:=Rows.laid_strconv_ErrRange) (D3:=Rows.laid_internal_strconv_uint64pow10) (W:=W) (by rw [MakeChecks.laidMetH_plain _ _ _ (by kernel_rfl)]at hL;exact hL) (by kernel_rfl) ⟨_,_,rfl⟩ (by kernel_rfl) ⟨_,_,rfl⟩ (by kernel_rfl) (by kernel_rfl);clear sU Nc;refine(zDC (zsV x0 x1 true (zCd x0 x1 k0 k1 z0 z1)) (by decide) sig rfl (by simp) (by kernel_rfl) Tryz.func4 (t:=4) rfl (vs:= [v0,v1]) (w:=W) (by rw [Tryz.params4];exact zwh a0 (zwh a1 zDx)) Ev).mono fun e W' ⟨he,bel⟩=> ?_
 subst he;exact⟨_,rfl,_,_,_, [],_, [],hW',trodAll_mk1 (shut_bool Tryz.underlying4 _),(trodAll_cons_mk (Below.trod uF (by kernel_rfl) (of_decide_eq_true (by kernel_rfl)) m0 bel lt0) (trodAll_cons_mk (Below.trod uF (by kernel_rfl) (of_decide_eq_true (by kernel_rfl)) m1 bel lt1) trodAll_mk0)),rfl,bel.frame _,fun h=>by cases h⟩
set_option maxHeartbeats 20000000 in
theorem zHW:joinedFacts Tryz.prog 4 Tryz.f4 Rows.fnFinishSpec Rows.fnFinishRow=true:=by
 unfold joinedFacts
 repeat' with_reducible refine zG7 ?_ ?_
 all_goals decide+kernel
theorem xT:Tryz.prog.funcNamed "loop.example/g00850/laws.FnFinish" =some 4:=by kernel_rfl
theorem zIt:Rows.fnFinishRow.holds Tryz.pinned (OpenSpec.ofChange Rows.fnFinishSpec):=
 OpenClaim.holds_of_wide 4 Tryz.f4 rfl rfl rfl rfl rfl rfl rfl ⟨rfl,rfl,rfl,rfl,rfl⟩ rfl rfl rfl rfl rfl xT Tryz.func4 zHW
  (of_decide_eq_true (by kernel_rfl)) (by unfold Func.isWrapper;first|(rw [if_pos (by decide+kernel)];kernel_rfl)|(rw [if_neg (by decide+kernel)];exact⟨rfl,rfl⟩))
  (fun os started H enc _=>zGK os started H enc)
theorem cwf:Rows.fnFinishRow.wfByText (OpenSpec.ofChange Rows.fnFinishSpec)=true:=by decide+kernel
theorem zHP:Tryz.prog.mainIs=some (true, "c74b41e68ee92d2a07648a4fe9facdef041324b44548137c0d0408661cd2a86d".toList):=by kernel_rfl
theorem zHa:true=Tryz.prog.looks []:=by kernel_rfl
theorem zHL:false=Rows.fnFinishRow.goesBy Tryz.prog:=by kernel_rfl
theorem zHg:([22,22].all fun u=> !Tryz.prog.wantsStandIn u)=true:=by kernel_rfl
theorem card:Rows.FnFinishCardSaid:=
 Claim7.holds_tied_plain_at .later [] [.data, .data, .data, .data, .sentinel, .sentinel, .pinned] true (true, "c74b41e68ee92d2a07648a4fe9facdef041324b44548137c0d0408661cd2a86d") true zIt (fun _ h=>by cases h) cwf (fun _ h=>by cases h) fnFinish_row_tie rfl ⟨rfl,rfl⟩ zHP rfl
  (fun f fn hf Hp=>by
   obtain rfl:f=4:=Option.some.inj (xT.symm.trans hf)|>.symm;obtain rfl:fn=Tryz.f4:=(Option.some.inj (Tryz.func4.symm.trans Hp)).symm;exact⟨zHa,fun j t ht=>by
    rw [Tryz.params4]at ht;have hm:t∈ [22,22]:=by simpa [or_assoc]using Array.mem_of_getElem? ht
    exact(show Tryz.prog.wantsStandIn t=false by simpa using AG.1 zHg t hm)⟩)
  zHL
end Go.Proofs.YtbmbkgalkfmjdaaGreatDoor.fnFinishDone
namespace Go.Proofs.YtbmbkgalkfmjdaaGreatDoor
theorem fnFinishProved:Rows.FnFinishCardSaid:=fnFinishDone.card
#print axioms fnFinishProved
end Go.Proofs.YtbmbkgalkfmjdaaGreatDoor
end

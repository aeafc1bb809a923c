/- Parts of a proof, joined: FFnExactStepWork. -/
import Derived.Test.YtgobcjbjogkpjaaGreatDoorW11
import Derived.Test.YtgobcjbjogkpjaaGreatDoorRows
import Derived.WalkKit
import Derived.ProofKit
import Derived.OpenShut
import Derived.ShutString
import Derived.ChangeOld
import Derived.Below
import Derived.Lay
import Derived.MakeChecks
import Derived.LaidLaws
import Derived.Stop.Joined
import Derived.SevenTiedAt
import Derived.Test.YtgobcjbjogkpjaaGreatDoorCards
import Derived.Test.YtgobcjbjogkpjaaGreatDoorTie
set_option linter.unusedVariables false
set_option linter.unusedSimpArgs false
section
namespace Go.Proofs.YtgobcjbjogkpjaaGreatDoor.fnExactStepWorkDone
open Go.ChangeShapes Go.WideShapes Go.ChangeAt Go.RowKit
open Go.Proofs.YtgobcjbjogkpjaaGreatDoor
set_option linter.unusedVariables false
theorem own:ownKnob Tryz.prog.godebug=none:=by kernel_rfl
theorem zBQ:laidOutB Tryz.prog=true:=by kernel_rfl
theorem sig:sgs 11=some {cq:= [],res:= [false],dp:=true}:=by kernel_rfl
set_option maxRecDepth 100000 in
theorem zHP (os:Os) (started:os.Started) (H:Type) (enc:TypeId × Value→H):
  ReturnsInHanded {} Tryz.checked os 11 .any (fun w args=>(Rows.fnExactStepWorkSpec.pre enc Tryz.prog Tryz.f11 [] false w args∧laidMetH Tryz.prog Rows.fnExactStepWorkRow.laid w)∧sizedMet enc Tryz.prog Tryz.f11 (OpenSpec.ofChange Rows.fnExactStepWorkSpec) false w args)
   (Rows.fnExactStepWorkSpec.post enc Tryz.prog Tryz.f11 false true false false):=by
 refine returnsInHanded_of_change_and (C:=Tryz.checked) (X:=fun w _=>laidMetH Tryz.prog Rows.fnExactStepWorkRow.laid w) (fun _ _ _ hh h=>h.of_heap hh) own started (by kernel_rfl) Tryz.func11
  (ChangeSpec.witness_shaped (enc:=enc) (C:=Tryz.checked) (os:=os) (X:=fun w _=>laidMetH Tryz.prog Rows.fnExactStepWorkRow.laid w) false (World.laidAll Tryz.prog os Rows.fnExactStepWorkRow.laid) #[.agg #[.string ByteArray.empty, .slice none 0 0, .slice none 0 0, .slice none 0 0, .string ByteArray.empty, .bool false, .string ByteArray.empty, .bool false], .agg #[.int .i64 0, .int .i64 0, .int .i64 0, .int .i64 0, .int .i64 0, .slice none 0 0, .slice none 0 0]] 8 (World.laidAll_os _ _ _)
   (World.shaped_of_ZipB (by kernel_rfl) (by kernel_rfl)) (by kernel_rfl) (by kernel_rfl) (by kernel_rfl)
   (by rw [MakeChecks.laidMetH_plain _ _ _ (by kernel_rfl)];exact laidMet_laidAll _ (by kernel_rfl) (by kernel_rfl))) ?_
 intro W base args ds gs before hval0 hW _ _ hL _
 have hval: ∀(j:Nat) t v,Tryz.f11.params[j]?=some t→args[j]?=some v→Value.okWide Tryz.prog W .any base t v:=hval0
 have hW':=hW
 obtain⟨p,q,hA0,hV,rfl,hfz,hnd⟩:=hW
 have hA:DataW.TrodAll enc Tryz.prog W 0 (fun _=>true) true Tryz.f11.params.toList args.toList ds p:=hA0
 rw [Tryz.params11]at hA hval
 obtain⟨v0,vs0,d0,ds0,p0,q0,hargs,rfl,rfl,h0,r0⟩:=trodAll_cons hA
 obtain⟨v1,vs1,d1,ds1,p1,q1,rfl,rfl,rfl,h1,r1⟩:=trodAll_cons r0
 obtain⟨rfl,rfl,rfl⟩:=trodAll_nil r1
 obtain rfl:args= #[v0,v1]:=by cases args;simp_all
 obtain⟨rfl,rfl⟩:=trodVars_none hV
 obtain⟨_,f0,a0,x0,k0,e0⟩:=zuT op0 Tryz.underlying103 (hval 0 103 v0 rfl rfl) h0
 rw [e0]at a0
 obtain⟨_,f1,a1,x1,k1,e1⟩:=zuT zJx Tryz.underlying110 (hval 1 110 v1 rfl rfl) h1
 rw [e1]at a1
 have m0:=h0
 have lt0: ∀x∈p0,x.block<W.heap.size:=by obtain⟨m,hm⟩:=m0;exact DataW.trod_lt m _ _ _ hm
 have m1:=h1
 have lt1: ∀x∈p1,x.block<W.heap.size:=by obtain⟨m,hm⟩:=m1;exact DataW.trod_lt m _ _ _ hm
 have hpk:pkW.n≤W.heap.size∧pkW.K W:=zGq (laid:=Rows.fnExactStepWorkRow.laid) (D1:=Rows.laid_strconv_ErrSyntax) (D2:=Rows.laid_strconv_ErrRange) (D3:=Rows.laid_internal_strconv_uint64pow10) (W:=W) (by rw [MakeChecks.laidMetH_plain _ _ _ (by kernel_rfl)]at hL;exact hL) (by kernel_rfl) ⟨_,_,rfl⟩ (by kernel_rfl) ⟨_,_,rfl⟩ (by kernel_rfl) (by kernel_rfl)
 clear hA0 hval0
 refine(zEI (zmC x0 x1 true (zrr x0 x1 k0 k1)) (by decide) sig rfl (by simp) (by kernel_rfl) Tryz.func11 (t:=4) rfl (vs:= [v0,v1]) (w:=W) (by
  rw [Tryz.params11]
  exact zxr a0 (zxr a1 zED)) hpk).mono fun e W' ⟨he,bel⟩=> ?_
 subst he
 exact⟨_,rfl,_,_,_, [],_, [],hW',trodAll_mk1 (shut_bool Tryz.underlying4 _),(trodAll_cons_mk (Below.trod zBQ (by kernel_rfl) (of_decide_eq_true (by kernel_rfl)) m0 bel lt0) (trodAll_cons_mk (Below.trod zBQ (by kernel_rfl) (of_decide_eq_true (by kernel_rfl)) m1 bel lt1) trodAll_mk0)),rfl,bel.frame _,fun h=>by cases h⟩
set_option maxHeartbeats 20000000 in
theorem zI1:joinedFacts Tryz.prog 11 Tryz.f11 Rows.fnExactStepWorkSpec Rows.fnExactStepWorkRow=true:=by
 unfold joinedFacts
 repeat' with_reducible refine zIe ?_ ?_
 all_goals decide+kernel
theorem zHJ:Tryz.prog.funcNamed "loop.example/g00850/laws.FnExactStepWork" =some 11:=by kernel_rfl
theorem zJC:Rows.fnExactStepWorkRow.holds Tryz.pinned (OpenSpec.ofChange Rows.fnExactStepWorkSpec):=
 OpenClaim.holds_of_wide 11 Tryz.f11 rfl rfl rfl rfl rfl rfl rfl ⟨rfl,rfl,rfl,rfl,rfl⟩ rfl rfl rfl rfl rfl zHJ Tryz.func11 zI1
  (of_decide_eq_true (by kernel_rfl)) (by unfold Func.isWrapper;first|(rw [if_pos (by decide+kernel)];kernel_rfl)|(rw [if_neg (by decide+kernel)];exact⟨rfl,rfl⟩))
  (fun os started H enc _=>zHP os started H enc)
theorem cwf:Rows.fnExactStepWorkRow.wfByText (OpenSpec.ofChange Rows.fnExactStepWorkSpec)=true:=by decide+kernel
theorem zIU:Tryz.prog.mainIs=some (true, "78d2bd65a73978c76ad6af9447aa12ccb3649c9a2e86cc8f8d2524c6404778da".toList):=by kernel_rfl
theorem zIj:true=Tryz.prog.looks []:=by kernel_rfl
theorem zIR:false=Rows.fnExactStepWorkRow.goesBy Tryz.prog:=by kernel_rfl
theorem zIr:([103,110].all fun u=> !Tryz.prog.wantsStandIn u)=true:=by kernel_rfl
theorem card:Rows.FnExactStepWorkCardSaid:=
 Claim7.holds_tied_plain_at .later [] [.data, .data, .data, .data, .sentinel, .sentinel, .pinned] true (true, "78d2bd65a73978c76ad6af9447aa12ccb3649c9a2e86cc8f8d2524c6404778da") true zJC (fun _ h=>by cases h) cwf (fun _ h=>by cases h) fnExactStepWork_row_tie rfl ⟨rfl,rfl⟩ zIU rfl
  (fun f fn hf hfn=>by
   obtain rfl:f=11:=Option.some.inj (zHJ.symm.trans hf)|>.symm
   obtain rfl:fn=Tryz.f11:=(Option.some.inj (Tryz.func11.symm.trans hfn)).symm
   exact⟨zIj,fun j t ht=>by
    rw [Tryz.params11]at ht
    have hm:t∈ [103,110]:=by simpa [or_assoc]using Array.mem_of_getElem? ht
    exact(show Tryz.prog.wantsStandIn t=false by simpa using yqal.1 zIr t hm)⟩)
  zIR
end Go.Proofs.YtgobcjbjogkpjaaGreatDoor.fnExactStepWorkDone
namespace Go.Proofs.YtgobcjbjogkpjaaGreatDoor
theorem fnExactStepWorkProved:Rows.FnExactStepWorkCardSaid:=fnExactStepWorkDone.card
#print axioms fnExactStepWorkProved
end Go.Proofs.YtgobcjbjogkpjaaGreatDoor
end

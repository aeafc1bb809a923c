/- Parts of a proof, joined: FFnExactPlayShift. -/
import Derived.Test.YtgobcjbjogkpjaaGreatDoorU10
import Derived.Test.YtgobcjbjogkpjaaGreatDoorRows
import Derived.WalkKit
import Derived.ProofKit
import Derived.OpenShut
import Derived.ShutString
import Derived.ChangeOld
import Derived.Below
import Derived.Lay
import Derived.MakeChecks
import Derived.LaidLaws
import Derived.Stop.Joined
import Derived.SevenTiedAt
import Derived.Test.YtgobcjbjogkpjaaGreatDoorCards
import Derived.Test.YtgobcjbjogkpjaaGreatDoorTie
section
namespace Go.Proofs.YtgobcjbjogkpjaaGreatDoor.fnExactPlayShiftDone
open Go.ChangeShapes Go.WideShapes Go.ChangeAt Go.RowKit
open Go.Proofs.YtgobcjbjogkpjaaGreatDoor
set_option linter.unusedVariables false
theorem own:ownKnob Tryz.prog.godebug=none:=by kernel_rfl
theorem zvM:laidOutB Tryz.prog=true:=by kernel_rfl
theorem sig:sgs 10=some {modes:= [],res:= [false],dp:=true}:=by kernel_rfl
set_option maxRecDepth 100000 in
theorem zEc (os:Os) (started:os.Started) (H:Type) (enc:TypeId × Value→H):
  ReturnsInHanded {} Tryz.checked os 10 .any (fun w args=>(Rows.fnExactPlayShiftSpec.pre enc Tryz.prog Tryz.f10 [] false w args∧laidMetH Tryz.prog Rows.fnExactPlayShiftRow.laid w)∧sizedMet enc Tryz.prog Tryz.f10 (OpenSpec.ofChange Rows.fnExactPlayShiftSpec) false w args)
   (Rows.fnExactPlayShiftSpec.post enc Tryz.prog Tryz.f10 false true false false):=by
 refine returnsInHanded_of_change_and (C:=Tryz.checked) (X:=fun w _=>laidMetH Tryz.prog Rows.fnExactPlayShiftRow.laid w) (fun _ _ _ hh h=>h.of_heap hh) own started (by kernel_rfl) Tryz.func10
  (ChangeSpec.witness_shaped (enc:=enc) (C:=Tryz.checked) (os:=os) (X:=fun w _=>laidMetH Tryz.prog Rows.fnExactPlayShiftRow.laid w) false (World.laidAll Tryz.prog os Rows.fnExactPlayShiftRow.laid) #[.agg #[.string ByteArray.empty, .slice none 0 0, .slice none 0 0, .slice none 0 0], .slice none 0 0, .bool false] 8 (World.laidAll_os _ _ _)
   (World.shaped_of_ZipB (by kernel_rfl) (by kernel_rfl)) (by kernel_rfl) (by kernel_rfl) (by kernel_rfl)
   (by rw [MakeChecks.laidMetH_plain _ _ _ (by kernel_rfl)];exact laidMet_laidAll _ (by kernel_rfl) (by kernel_rfl))) ?_
 intro W base args ds gs before hval0 hW _ _ hL _
 have hval: ∀(j:Nat) t v,Tryz.f10.params[j]?=some t→args[j]?=some v→Value.okWide Tryz.prog W .any base t v:=hval0
 have hW':=hW
 obtain⟨p,q,hA0,hV,rfl,hfz,hnd⟩:=hW
 have hA:DataW.TrodAll enc Tryz.prog W 0 (fun _=>true) true Tryz.f10.params.toList args.toList ds p:=hA0
 rw [Tryz.params10]at hA hval
 obtain⟨v0,vs0,d0,ds0,p0,q0,hargs,rfl,rfl,h0,r0⟩:=trodAll_cons hA
 obtain⟨v1,vs1,d1,ds1,p1,q1,rfl,rfl,rfl,h1,r1⟩:=trodAll_cons r0
 obtain⟨v2,vs2,d2,ds2,p2,q2,rfl,rfl,rfl,h2,r2⟩:=trodAll_cons r1
 obtain⟨rfl,rfl,rfl⟩:=trodAll_nil r2
 obtain rfl:args= #[v0,v1,v2]:=by cases args;simp_all
 obtain⟨rfl,rfl⟩:=trodVars_none hV
 obtain⟨_,f0,a0,x0,k0,e0⟩:=zxS op2 Tryz.underlying89 (hval 0 89 v0 rfl rfl) h0
 rw [e0]at a0
 obtain⟨_,f1,a1,x1,k1,e1⟩:=zys zFO Tryz.underlying90 (hval 1 90 v1 rfl rfl) h1
 obtain rfl:=(List.cons.inj e1).1
 obtain⟨_,f2,a2,x2,k2,e2⟩:=zBz zFE Tryz.underlying4 (hval 2 4 v2 rfl rfl) h2
 obtain rfl:=(List.cons.inj e2).1
 have m0:=h0
 have lt0: ∀x∈p0,x.block<W.heap.size:=by obtain⟨m,hm⟩:=m0;exact DataW.trod_lt m _ _ _ hm
 have m1:=h1
 have lt1: ∀x∈p1,x.block<W.heap.size:=by obtain⟨m,hm⟩:=m1;exact DataW.trod_lt m _ _ _ hm
 have m2:=h2
 have lt2: ∀x∈p2,x.block<W.heap.size:=by obtain⟨m,hm⟩:=m2;exact DataW.trod_lt m _ _ _ hm
 have hpk:pkW.n≤W.heap.size∧pkW.K W:=zCW (laid:=Rows.fnExactPlayShiftRow.laid) (D1:=Rows.laid_strconv_ErrSyntax) (D2:=Rows.laid_strconv_ErrRange) (D3:=Rows.laid_internal_strconv_uint64pow10) (W:=W) (by rw [MakeChecks.laidMetH_plain _ _ _ (by kernel_rfl)]at hL;exact hL) (by kernel_rfl) ⟨_,_,rfl⟩ (by kernel_rfl) ⟨_,_,rfl⟩ (by kernel_rfl) (by kernel_rfl)
 clear hA0 hval0
 refine(zBg (zkv x0 x1 x2 true (zob x0 x1 x2 k0 k1 k2)) (by decide) sig rfl (by simp) (by kernel_rfl) Tryz.func10 (t:=4) rfl (vs:= [v0,v1,v2]) (w:=W) (by
  rw [Tryz.params10]
  exact zqb a0 (zqb a1 (zqb a2 zBb))) hpk).mono fun e W' ⟨he,bel⟩=> ?_
 subst he
 exact⟨_,rfl,_,_,_, [],_, [],hW',trodAll_mk1 (shut_bool Tryz.underlying4 _),(trodAll_cons_mk (Below.trod zvM (by kernel_rfl) (of_decide_eq_true (by kernel_rfl)) m0 bel lt0) (trodAll_cons_mk (Below.trod zvM (by kernel_rfl) (of_decide_eq_true (by kernel_rfl)) m1 bel lt1) (trodAll_cons_mk (Below.trod zvM (by kernel_rfl) (of_decide_eq_true (by kernel_rfl)) m2 bel lt2) trodAll_mk0))),rfl,bel.frame _,fun h=>by cases h⟩
set_option maxHeartbeats 20000000 in
theorem zFo:joinedFacts Tryz.prog 10 Tryz.f10 Rows.fnExactPlayShiftSpec Rows.fnExactPlayShiftRow=true:=by
 unfold joinedFacts
 repeat' with_reducible refine zEE ?_ ?_
 all_goals decide+kernel
theorem zD6:Tryz.prog.funcNamed "loop.example/g00850/laws.FnExactPlayShift" =some 10:=by kernel_rfl
theorem zFV:Rows.fnExactPlayShiftRow.holds Tryz.pinned (OpenSpec.ofChange Rows.fnExactPlayShiftSpec):=
 OpenClaim.holds_of_wide 10 Tryz.f10 rfl rfl rfl rfl rfl rfl rfl ⟨rfl,rfl,rfl,rfl,rfl⟩ rfl rfl rfl rfl rfl zD6 Tryz.func10 zFo
  (of_decide_eq_true (by kernel_rfl)) (by unfold Func.isWrapper;first|(rw [if_pos (by decide+kernel)];kernel_rfl)|(rw [if_neg (by decide+kernel)];exact⟨rfl,rfl⟩))
  (fun os started H enc _=>zEc os started H enc)
theorem cwf:Rows.fnExactPlayShiftRow.wfByText (OpenSpec.ofChange Rows.fnExactPlayShiftSpec)=true:=by decide+kernel
theorem zFh:Tryz.prog.mainIs=some (true, "78d2bd65a73978c76ad6af9447aa12ccb3649c9a2e86cc8f8d2524c6404778da".toList):=by kernel_rfl
theorem zEI:true=Tryz.prog.looks []:=by kernel_rfl
theorem zFe:false=Rows.fnExactPlayShiftRow.goesBy Tryz.prog:=by kernel_rfl
theorem zEQ:([89,90,4].all fun u=> !Tryz.prog.wantsStandIn u)=true:=by kernel_rfl
theorem card:Rows.FnExactPlayShiftCardSaid:=
 Claim7.holds_tied_plain_at .later [] [.data, .data, .data, .data, .sentinel, .sentinel, .pinned] true (true, "78d2bd65a73978c76ad6af9447aa12ccb3649c9a2e86cc8f8d2524c6404778da") true zFV (fun _ h=>by cases h) cwf (fun _ h=>by cases h) fnExactPlayShift_row_tie rfl ⟨rfl,rfl⟩ zFh rfl
  (fun f fn hf hfn=>by
   obtain rfl:f=10:=Option.some.inj (zD6.symm.trans hf)|>.symm
   obtain rfl:fn=Tryz.f10:=(Option.some.inj (Tryz.func10.symm.trans hfn)).symm
   exact⟨zEI,fun j t ht=>by
    rw [Tryz.params10]at ht
    have hm:t∈ [89,90,4]:=by simpa [or_assoc]using Array.mem_of_getElem? ht
    exact(show Tryz.prog.wantsStandIn t=false by simpa using List.all_eq_true.1 zEQ t hm)⟩)
  zFe
end Go.Proofs.YtgobcjbjogkpjaaGreatDoor.fnExactPlayShiftDone
namespace Go.Proofs.YtgobcjbjogkpjaaGreatDoor
theorem fnExactPlayShiftProved:Rows.FnExactPlayShiftCardSaid:=fnExactPlayShiftDone.card
#print axioms fnExactPlayShiftProved
end Go.Proofs.YtgobcjbjogkpjaaGreatDoor
end

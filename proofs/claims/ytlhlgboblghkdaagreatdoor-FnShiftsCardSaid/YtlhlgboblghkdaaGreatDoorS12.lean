/- Parts of a proof, joined: FFnShifts. -/
import Derived.Test.YtlhlgboblghkdaaGreatDoorS11
import Derived.Test.YtlhlgboblghkdaaGreatDoorRows
import Derived.WalkKit
import Derived.ProofKit
import Derived.OpenShut
import Derived.ShutString
import Derived.ChangeOld
import Derived.Below
import Derived.Lay
import Derived.MakeChecks
import Derived.LaidLaws
import Derived.Stop.Joined
import Derived.SevenTiedAt
import Derived.Test.YtlhlgboblghkdaaGreatDoorCards
import Derived.Test.YtlhlgboblghkdaaGreatDoorTie
set_option linter.unusedVariables false
set_option linter.unusedSimpArgs false
section
namespace Go.Proofs.YtlhlgboblghkdaaGreatDoor.fnShiftsDone
open Go.ChangeShapes Go.WideShapes Go.ChangeAt Go.RowKit
open Go.Proofs.YtlhlgboblghkdaaGreatDoor
set_option linter.unusedVariables false
theorem own:ownKnob Tryz.prog.godebug=none:=by kernel_rfl
theorem yZ:laidOutB Tryz.prog=true:=by kernel_rfl
theorem sig:Ci 3=some {cj:= [.ro, .ro],res:= [false]}:=by kernel_rfl
set_option maxRecDepth 100000 in
theorem zEG (os:Os) (started:os.Started) (H:Type) (enc:TypeId × Value→H):
  ReturnsInHanded {} Tryz.checked os 3 .any (fun w args=>(Rows.fnShiftsSpec.pre enc Tryz.prog Tryz.f3 [] false w args∧laidMetH Tryz.prog Rows.fnShiftsRow.laid w)∧sizedMet enc Tryz.prog Tryz.f3 (OpenSpec.ofChange Rows.fnShiftsSpec) false w args)
   (Rows.fnShiftsSpec.post enc Tryz.prog Tryz.f3 false true false false):=by
 refine returnsInHanded_of_change_and (C:=Tryz.checked) (X:=fun w _=>laidMetH Tryz.prog Rows.fnShiftsRow.laid w) (fun _ _ _ hh h=>h.of_heap hh) own started (by kernel_rfl) Tryz.func3
  (ChangeSpec.witness_shaped (enc:=enc) (C:=Tryz.checked) (os:=os) (X:=fun w _=>laidMetH Tryz.prog Rows.fnShiftsRow.laid w) false (World.laidAll Tryz.prog os Rows.fnShiftsRow.laid) #[.slice none 0 0, .slice none 0 0] 8 (World.laidAll_os _ _ _)
   (World.shaped_of_ZipB (by kernel_rfl) (by kernel_rfl)) (by kernel_rfl) (by kernel_rfl) (by kernel_rfl)
   (by rw [MakeChecks.laidMetH_plain _ _ _ (by kernel_rfl)];exact laidMet_laidAll _ (by kernel_rfl) (by kernel_rfl))) ?_
 intro W base args ds gs before L1 hW _ VU hL _;have Jn: ∀(j:Nat) t v,Tryz.f3.params[j]?=some t→args[j]?=some v→Value.okWide Tryz.prog W .any base t v:=L1;have hW':=hW;obtain⟨p,q,nD,hV,rfl,Hr,B2⟩:=hW;have hA:DataW.TrodAll enc Tryz.prog W 0 (fun _=>true) true Tryz.f3.params.toList args.toList ds p:=nD;rw [Tryz.params3]at hA Jn;obtain⟨v0,vs0,d0,ds0,p0,q0,Aw,rfl,rfl,h0,r0⟩:=trodAll_cons hA;obtain⟨v1,vs1,d1,ds1,p1,q1,rfl,rfl,rfl,h1,r1⟩:=trodAll_cons r0;obtain⟨rfl,rfl,rfl⟩:=trodAll_nil r1;obtain rfl:args= #[v0,v1]:=by cases args;simp_all
 obtain⟨rfl,rfl⟩:=trodVars_none hV;obtain⟨_,f0,a0,x0,k0,e0⟩:=wM oS Tryz.underlying22 (Jn 0 22 v0 rfl rfl) h0;obtain rfl:=(List.cons.inj e0).1;obtain⟨_,f1,a1,x1,k1,e1⟩:=wM oS Tryz.underlying22 (Jn 1 22 v1 rfl rfl) h1;obtain rfl:=(List.cons.inj e1).1;rw [Tryz.params3]at VU;have z0:x0.length≤140737488351232:=by have:=uQ Tryz.underlying22 (by kernel_rfl) h0 a0 (gV VU).1;rw [List.length_map]at this;exact this
 have z1:x1.length≤140737488351232:=by have:=uQ Tryz.underlying22 (by kernel_rfl) h1 a1 (gV (gV VU).2).1;rw [List.length_map]at this;exact this
 clear VU;have m0:=h0;have lt0: ∀x∈p0,x.block<W.heap.size:=by obtain⟨m,hm⟩:=m0;exact DataW.trod_lt m _ _ _ hm
 have m1:=h1;have lt1: ∀x∈p1,x.block<W.heap.size:=by obtain⟨m,hm⟩:=m1;exact DataW.trod_lt m _ _ _ hm
 have DY:Fs.n≤W.heap.size∧Fs.K W:=zDi (laid:=Rows.fnShiftsRow.laid) (D1:=Rows.laid_strconv_ErrSyntax) (D2:=Rows.laid_strconv_ErrRange) (D3:=Rows.laid_internal_strconv_uint64pow10) (W:=W) (by rw [MakeChecks.laidMetH_plain _ _ _ (by kernel_rfl)]at hL;exact hL) (by kernel_rfl) ⟨_,_,rfl⟩ (by kernel_rfl) ⟨_,_,rfl⟩ (by kernel_rfl) (by kernel_rfl);clear nD L1;refine(zBD (zqM x0 x1 true (zzZ x0 x1 k0 k1 z0 z1)) (by decide) sig rfl (by simp) (by kernel_rfl) Tryz.func3 (t:=4) rfl (vs:= [v0,v1]) (w:=W) (by rw [Tryz.params3];exact wI a0 (wI a1 zBy)) DY).mono fun e W' ⟨he,bel⟩=> ?_
 subst he;exact⟨_,rfl,_,_,_, [],_, [],hW',trodAll_mk1 (shut_bool Tryz.underlying4 _),(trodAll_cons_mk (Below.trod yZ (by kernel_rfl) (of_decide_eq_true (by kernel_rfl)) m0 bel lt0) (trodAll_cons_mk (Below.trod yZ (by kernel_rfl) (of_decide_eq_true (by kernel_rfl)) m1 bel lt1) trodAll_mk0)),rfl,bel.frame _,fun h=>by cases h⟩
set_option maxHeartbeats 20000000 in
theorem zFS:joinedFacts Tryz.prog 3 Tryz.f3 Rows.fnShiftsSpec Rows.fnShiftsRow=true:=by
 unfold joinedFacts
 repeat' with_reducible refine zE4 ?_ ?_
 all_goals decide+kernel
theorem qW:Tryz.prog.funcNamed "loop.example/g00850/laws.FnShifts" =some 3:=by kernel_rfl
theorem zGl:Rows.fnShiftsRow.holds Tryz.pinned (OpenSpec.ofChange Rows.fnShiftsSpec):=
 OpenClaim.holds_of_wide 3 Tryz.f3 rfl rfl rfl rfl rfl rfl rfl ⟨rfl,rfl,rfl,rfl,rfl⟩ rfl rfl rfl rfl rfl qW Tryz.func3 zFS
  (of_decide_eq_true (by kernel_rfl)) (by unfold Func.isWrapper;first|(rw [if_pos (by decide+kernel)];kernel_rfl)|(rw [if_neg (by decide+kernel)];exact⟨rfl,rfl⟩))
  (fun os started H enc _=>zEG os started H enc)
theorem z7:Rows.fnShiftsRow.wfByText (OpenSpec.ofChange Rows.fnShiftsSpec)=true:=by decide+kernel
theorem zFL:Tryz.prog.mainIs=some (true, "ef8e2a9acb20d23931efad7aca9e863799f8d54315547dd70bc82ae1792939d3".toList):=by kernel_rfl
theorem zE8:true=Tryz.prog.looks []:=by kernel_rfl
theorem zFI:false=Rows.fnShiftsRow.goesBy Tryz.prog:=by kernel_rfl
theorem zFe:([22,22].all fun u=> !Tryz.prog.wantsStandIn u)=true:=by kernel_rfl
theorem card:Rows.FnShiftsCardSaid:=
 Claim7.holds_tied_plain_at .later [] [.data, .data, .data, .data, .sentinel, .sentinel, .pinned] true (true, "ef8e2a9acb20d23931efad7aca9e863799f8d54315547dd70bc82ae1792939d3") true zGl (fun _ h=>by cases h) z7 (fun _ h=>by cases h) fnShifts_row_tie rfl ⟨rfl,rfl⟩ zFL rfl
  (fun f fn hf GO=>by
   obtain rfl:f=3:=Option.some.inj (qW.symm.trans hf)|>.symm;obtain rfl:fn=Tryz.f3:=(Option.some.inj (Tryz.func3.symm.trans GO)).symm;exact⟨zE8,fun j t ht=>by
    rw [Tryz.params3]at ht;have hm:t∈ [22,22]:=by simpa [or_assoc]using Array.mem_of_getElem? ht
    exact(show Tryz.prog.wantsStandIn t=false by simpa using AG.1 zFe t hm)⟩)
  zFI
end Go.Proofs.YtlhlgboblghkdaaGreatDoor.fnShiftsDone
namespace Go.Proofs.YtlhlgboblghkdaaGreatDoor
theorem fnShiftsProved:Rows.FnShiftsCardSaid:=fnShiftsDone.card
#print axioms fnShiftsProved
end Go.Proofs.YtlhlgboblghkdaaGreatDoor
end

/- Parts of a proof, joined: FFnWorks. -/
import Derived.Test.YtbmbkgalkfmjdaaGreatDoorY12
import Derived.Test.YtbmbkgalkfmjdaaGreatDoorRows
import Derived.WalkKit
import Derived.ProofKit
import Derived.OpenShut
import Derived.ShutString
import Derived.ChangeOld
import Derived.Below
import Derived.Lay
import Derived.MakeChecks
import Derived.LaidLaws
import Derived.Stop.Joined
import Derived.SevenTiedAt
import Derived.Test.YtbmbkgalkfmjdaaGreatDoorCards
import Derived.Test.YtbmbkgalkfmjdaaGreatDoorTie
set_option linter.unusedVariables false
set_option linter.unusedSimpArgs false
section
namespace Go.Proofs.YtbmbkgalkfmjdaaGreatDoor.fnWorksDone
open Go.ChangeShapes Go.WideShapes Go.ChangeAt Go.RowKit
open Go.Proofs.YtbmbkgalkfmjdaaGreatDoor
set_option linter.unusedVariables false
theorem own:ownKnob Tryz.prog.godebug=none:=by kernel_rfl
theorem zB:laidOutB Tryz.prog=true:=by kernel_rfl
theorem sig:Cu 5=some {cy:= [.ro, .ro],res:= [false]}:=by kernel_rfl
set_option maxRecDepth 100000 in
theorem zIZ (os:Os) (started:os.Started) (H:Type) (enc:TypeId × Value→H):
  ReturnsInHanded {} Tryz.checked os 5 .any (fun w args=>(Rows.fnWorksSpec.pre enc Tryz.prog Tryz.f5 [] false w args∧laidMetH Tryz.prog Rows.fnWorksRow.laid w)∧sizedMet enc Tryz.prog Tryz.f5 (OpenSpec.ofChange Rows.fnWorksSpec) false w args)
   (Rows.fnWorksSpec.post enc Tryz.prog Tryz.f5 false true false false):=by
 refine returnsInHanded_of_change_and (C:=Tryz.checked) (X:=fun w _=>laidMetH Tryz.prog Rows.fnWorksRow.laid w) (fun _ _ _ hh h=>h.of_heap hh) own started (by kernel_rfl) Tryz.func5
  (ChangeSpec.witness_shaped (enc:=enc) (C:=Tryz.checked) (os:=os) (X:=fun w _=>laidMetH Tryz.prog Rows.fnWorksRow.laid w) false (World.laidAll Tryz.prog os Rows.fnWorksRow.laid) #[.slice none 0 0, .slice none 0 0] 8 (World.laidAll_os _ _ _)
   (World.shaped_of_ZipB (by kernel_rfl) (by kernel_rfl)) (by kernel_rfl) (by kernel_rfl) (by kernel_rfl)
   (by rw [MakeChecks.laidMetH_plain _ _ _ (by kernel_rfl)];exact laidMet_laidAll _ (by kernel_rfl) (by kernel_rfl))) ?_
 intro W base args ds gs before Nn hW _ X4 hL _;have Kf: ∀(j:Nat) t v,Tryz.f5.params[j]?=some t→args[j]?=some v→Value.okWide Tryz.prog W .any base t v:=Nn;have hW':=hW;obtain⟨p,q,uN,hV,rfl,H4,Co⟩:=hW;have hA:DataW.TrodAll enc Tryz.prog W 0 (fun _=>true) true Tryz.f5.params.toList args.toList ds p:=uN;rw [Tryz.params5]at hA Kf;obtain⟨v0,vs0,d0,ds0,p0,q0,AB,rfl,rfl,h0,r0⟩:=trodAll_cons hA;obtain⟨v1,vs1,d1,ds1,p1,q1,rfl,rfl,rfl,h1,r1⟩:=trodAll_cons r0;obtain⟨rfl,rfl,rfl⟩:=trodAll_nil r1;obtain rfl:args= #[v0,v1]:=by cases args;simp_all
 obtain⟨rfl,rfl⟩:=trodVars_none hV;obtain⟨_,f0,a0,x0,k0,e0⟩:=zx7 wB Tryz.underlying22 (Kf 0 22 v0 rfl rfl) h0;obtain rfl:=(List.cons.inj e0).1;obtain⟨_,f1,a1,x1,k1,e1⟩:=zx7 wB Tryz.underlying22 (Kf 1 22 v1 rfl rfl) h1;obtain rfl:=(List.cons.inj e1).1;rw [Tryz.params5]at X4;have z0:x0.length≤140737488351232:=by have:=zts Tryz.underlying22 (by kernel_rfl) h0 a0 (pC X4).1;rw [List.length_map]at this;exact this
 have z1:x1.length≤140737488351232:=by have:=zts Tryz.underlying22 (by kernel_rfl) h1 a1 (pC (pC X4).2).1;rw [List.length_map]at this;exact this
 clear X4;have m0:=h0;have lt0: ∀x∈p0,x.block<W.heap.size:=by obtain⟨m,hm⟩:=m0;exact DataW.trod_lt m _ _ _ hm
 have m1:=h1;have lt1: ∀x∈p1,x.block<W.heap.size:=by obtain⟨m,hm⟩:=m1;exact DataW.trod_lt m _ _ _ hm
 have Ew:F7.n≤W.heap.size∧F7.K W:=zGX (laid:=Rows.fnWorksRow.laid) (D1:=Rows.laid_strconv_ErrSyntax) (D2:=Rows.laid_strconv_ErrRange) (D3:=Rows.laid_internal_strconv_uint64pow10) (W:=W) (by rw [MakeChecks.laidMetH_plain _ _ _ (by kernel_rfl)]at hL;exact hL) (by kernel_rfl) ⟨_,_,rfl⟩ (by kernel_rfl) ⟨_,_,rfl⟩ (by kernel_rfl) (by kernel_rfl);clear uN Nn;refine(zFK (zuc x0 x1 true (zFY x0 x1 k0 k1 z0 z1)) (by decide) sig rfl (by simp) (by kernel_rfl) Tryz.func5 (t:=4) rfl (vs:= [v0,v1]) (w:=W) (by rw [Tryz.params5];exact zyn a0 (zyn a1 zES)) Ew).mono fun e W' ⟨he,bel⟩=> ?_
 subst he;exact⟨_,rfl,_,_,_, [],_, [],hW',trodAll_mk1 (shut_bool Tryz.underlying4 _),(trodAll_cons_mk (Below.trod zB (by kernel_rfl) (of_decide_eq_true (by kernel_rfl)) m0 bel lt0) (trodAll_cons_mk (Below.trod zB (by kernel_rfl) (of_decide_eq_true (by kernel_rfl)) m1 bel lt1) trodAll_mk0)),rfl,bel.frame _,fun h=>by cases h⟩
set_option maxHeartbeats 20000000 in
theorem zJD:joinedFacts Tryz.prog 5 Tryz.f5 Rows.fnWorksSpec Rows.fnWorksRow=true:=by
 unfold joinedFacts
 repeat' with_reducible refine zIq ?_ ?_
 all_goals decide+kernel
theorem zIQ:Tryz.prog.funcNamed "loop.example/g00850/laws.FnWorks" =some 5:=by kernel_rfl
theorem zKl:Rows.fnWorksRow.holds Tryz.pinned (OpenSpec.ofChange Rows.fnWorksSpec):=
 OpenClaim.holds_of_wide 5 Tryz.f5 rfl rfl rfl rfl rfl rfl rfl ⟨rfl,rfl,rfl,rfl,rfl⟩ rfl rfl rfl rfl rfl zIQ Tryz.func5 zJD
  (of_decide_eq_true (by kernel_rfl)) (by unfold Func.isWrapper;first|(rw [if_pos (by decide+kernel)];kernel_rfl)|(rw [if_neg (by decide+kernel)];exact⟨rfl,rfl⟩))
  (fun os started H enc _=>zIZ os started H enc)
theorem cwf:Rows.fnWorksRow.wfByText (OpenSpec.ofChange Rows.fnWorksSpec)=true:=by decide+kernel
theorem zJQ:Tryz.prog.mainIs=some (true, "c74b41e68ee92d2a07648a4fe9facdef041324b44548137c0d0408661cd2a86d".toList):=by kernel_rfl
theorem zIu:true=Tryz.prog.looks []:=by kernel_rfl
theorem zJA:false=Rows.fnWorksRow.goesBy Tryz.prog:=by kernel_rfl
theorem zIy:([22,22].all fun u=> !Tryz.prog.wantsStandIn u)=true:=by kernel_rfl
theorem card:Rows.FnWorksCardSaid:=
 Claim7.holds_tied_plain_at .later [] [.data, .data, .data, .data, .sentinel, .sentinel, .pinned] true (true, "c74b41e68ee92d2a07648a4fe9facdef041324b44548137c0d0408661cd2a86d") true zKl (fun _ h=>by cases h) cwf (fun _ h=>by cases h) fnWorks_row_tie rfl ⟨rfl,rfl⟩ zJQ rfl
  (fun f fn hf Hu=>by
   obtain rfl:f=5:=Option.some.inj (zIQ.symm.trans hf)|>.symm;obtain rfl:fn=Tryz.f5:=(Option.some.inj (Tryz.func5.symm.trans Hu)).symm;exact⟨zIu,fun j t ht=>by
    rw [Tryz.params5]at ht;have hm:t∈ [22,22]:=by simpa [or_assoc]using Array.mem_of_getElem? ht
    exact(show Tryz.prog.wantsStandIn t=false by simpa using AK.1 zIy t hm)⟩)
  zJA
end Go.Proofs.YtbmbkgalkfmjdaaGreatDoor.fnWorksDone
namespace Go.Proofs.YtbmbkgalkfmjdaaGreatDoor
theorem fnWorksProved:Rows.FnWorksCardSaid:=fnWorksDone.card
#print axioms fnWorksProved
end Go.Proofs.YtbmbkgalkfmjdaaGreatDoor
end

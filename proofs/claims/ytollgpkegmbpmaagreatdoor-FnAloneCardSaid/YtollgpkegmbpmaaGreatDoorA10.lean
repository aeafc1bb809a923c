/- Parts of a proof, joined: FFnAlone. -/
import Derived.Test.YtollgpkegmbpmaaGreatDoorA9
import Derived.Test.YtollgpkegmbpmaaGreatDoorRows
import Derived.WalkKit
import Derived.ProofKit
import Derived.OpenShut
import Derived.ShutString
import Derived.ChangeOld
import Derived.Below
import Derived.Lay
import Derived.MakeChecks
import Derived.LaidLaws
import Derived.Stop.Joined
import Derived.SevenTiedAt
import Derived.Test.YtollgpkegmbpmaaGreatDoorCards
import Derived.Test.YtollgpkegmbpmaaGreatDoorTie
set_option linter.unusedVariables false
set_option linter.unusedSimpArgs false
section
namespace Go.Proofs.YtollgpkegmbpmaaGreatDoor.fnAloneDone
open Go.ChangeShapes Go.WideShapes Go.ChangeAt Go.RowKit
open Go.Proofs.YtollgpkegmbpmaaGreatDoor
set_option linter.unusedVariables false
theorem own:ownKnob Tryz.prog.godebug=none:=by kernel_rfl
theorem iG:laidOutB Tryz.prog=true:=by kernel_rfl
theorem sig:B8 5=some {bg:= [.ro, .ro],res:= [false]}:=by kernel_rfl
set_option maxRecDepth 100000 in
theorem zwI (os:Os) (started:os.Started) (H:Type) (enc:TypeId × Value→H):
  ReturnsInHanded {} Tryz.checked os 5 .any (fun w args=>(Rows.fnAloneSpec.pre enc Tryz.prog Tryz.f5 [] false w args∧laidMetH Tryz.prog Rows.fnAloneRow.laid w)∧sizedMet enc Tryz.prog Tryz.f5 (OpenSpec.ofChange Rows.fnAloneSpec) false w args)
   (Rows.fnAloneSpec.post enc Tryz.prog Tryz.f5 false true false false):=by
 refine returnsInHanded_of_change_and (C:=Tryz.checked) (X:=fun w _=>laidMetH Tryz.prog Rows.fnAloneRow.laid w) (fun _ _ _ hh h=>h.of_heap hh) own started (by kernel_rfl) Tryz.func5
  (ChangeSpec.witness_shaped (enc:=enc) (C:=Tryz.checked) (os:=os) (X:=fun w _=>laidMetH Tryz.prog Rows.fnAloneRow.laid w) false (World.laidAll Tryz.prog os Rows.fnAloneRow.laid) #[.slice none 0 0, .slice none 0 0] 8 (World.laidAll_os _ _ _)
   (World.shaped_of_ZipB (by kernel_rfl) (by kernel_rfl)) (by kernel_rfl) (by kernel_rfl) (by kernel_rfl)
   (by rw [MakeChecks.laidMetH_plain _ _ _ (by kernel_rfl)];exact laidMet_laidAll _ (by kernel_rfl) (by kernel_rfl))) ?_
 intro W base args ds gs before Kl hW _ _ hL _;have HV: ∀(j:Nat) t v,Tryz.f5.params[j]?=some t→args[j]?=some v→Value.okWide Tryz.prog W .any base t v:=Kl;have lN:=hW;obtain⟨p,q,Y6,hV,rfl,Gi,By⟩:=hW;have hA:DataW.TrodAll enc Tryz.prog W 0 (fun _=>true) true Tryz.f5.params.toList args.toList ds p:=Y6;rw [Tryz.params5]at hA HV;obtain⟨v0,vs0,d0,ds0,p0,q0,Ao,rfl,rfl,h0,r0⟩:=trodAll_cons hA;obtain⟨v1,vs1,d1,ds1,p1,q1,rfl,rfl,rfl,h1,r1⟩:=trodAll_cons r0;obtain⟨rfl,rfl,rfl⟩:=trodAll_nil r1;obtain rfl:args= #[v0,v1]:=by cases args;simp_all
 obtain⟨rfl,rfl⟩:=trodVars_none hV;obtain⟨_,f0,a0,x0,k0,e0⟩:=eD ZL Tryz.underlying22 (HV 0 22 v0 rfl rfl) h0;obtain rfl:=(List.cons.inj e0).1;obtain⟨_,f1,a1,x1,k1,e1⟩:=eD ZL Tryz.underlying22 (HV 1 22 v1 rfl rfl) h1;obtain rfl:=(List.cons.inj e1).1;have m0:=h0;have lt0: ∀x∈p0,x.block<W.heap.size:=by obtain⟨m,hm⟩:=m0;exact DataW.trod_lt m _ _ _ hm
 have m1:=h1;have lt1: ∀x∈p1,x.block<W.heap.size:=by obtain⟨m,hm⟩:=m1;exact DataW.trod_lt m _ _ _ hm
 have C6:EN.n≤W.heap.size∧EN.K W:=zS (laid:=Rows.fnAloneRow.laid) (D1:=Rows.laid_strconv_ErrSyntax) (D2:=Rows.laid_strconv_ErrRange) (D3:=Rows.laid_internal_strconv_uint64pow10) (W:=W) (by rw [MakeChecks.laidMetH_plain _ _ _ (by kernel_rfl)]at hL;exact hL) (by kernel_rfl) ⟨_,_,rfl⟩ (by kernel_rfl) ⟨_,_,rfl⟩ (by kernel_rfl) (by kernel_rfl);clear Y6 Kl;refine(zD (rK x0 x1 true (yA x0 x1 k0 k1)) (by decide) sig rfl (by simp) (by kernel_rfl) Tryz.func5 (t:=4) rfl (vs:= [v0,v1]) (w:=W) (by rw [Tryz.params5];exact dO a0 (dO a1 yZ)) C6).mono fun e W' ⟨he,bel⟩=> ?_
 subst he;exact⟨_,rfl,_,_,_, [],_, [],lN,trodAll_mk1 (shut_bool Tryz.underlying4 _),(trodAll_cons_mk (Below.trod iG (by kernel_rfl) (of_decide_eq_true (by kernel_rfl)) m0 bel lt0) (trodAll_cons_mk (Below.trod iG (by kernel_rfl) (of_decide_eq_true (by kernel_rfl)) m1 bel lt1) trodAll_mk0)),rfl,bel.frame _,fun h=>by cases h⟩
set_option maxHeartbeats 20000000 in
theorem zxN:joinedFacts Tryz.prog 5 Tryz.f5 Rows.fnAloneSpec Rows.fnAloneRow=true:=by
 unfold joinedFacts
 repeat' with_reducible refine zw3 ?_ ?_
 all_goals decide+kernel
theorem jX:Tryz.prog.funcNamed "loop.example/g00850/laws.FnAlone" =some 5:=by kernel_rfl
theorem zyh:Rows.fnAloneRow.holds Tryz.pinned (OpenSpec.ofChange Rows.fnAloneSpec):=
 OpenClaim.holds_of_wide 5 Tryz.f5 rfl rfl rfl rfl rfl rfl rfl ⟨rfl,rfl,rfl,rfl,rfl⟩ rfl rfl rfl rfl rfl jX Tryz.func5 zxN
  (of_decide_eq_true (by kernel_rfl)) (by unfold Func.isWrapper;first|(rw [if_pos (by decide+kernel)];kernel_rfl)|(rw [if_neg (by decide+kernel)];exact⟨rfl,rfl⟩))
  (fun os started H enc _=>zwI os started H enc)
theorem kX:Rows.fnAloneRow.wfByText (OpenSpec.ofChange Rows.fnAloneSpec)=true:=by decide+kernel
theorem zxF:Tryz.prog.mainIs=some (true, "4a364ca8298e928d3be8446627d981bfed22b0d7d71383db69de1d0daa3c58e4".toList):=by kernel_rfl
theorem zw5:true=Tryz.prog.looks []:=by kernel_rfl
theorem zxC:false=Rows.fnAloneRow.goesBy Tryz.prog:=by kernel_rfl
theorem zxb:([22,22].all fun u=> !Tryz.prog.wantsStandIn u)=true:=by kernel_rfl
theorem card:Rows.FnAloneCardSaid:=
 Claim7.holds_tied_plain_at .later [] [.data, .data, .data, .sentinel, .sentinel] true (true, "4a364ca8298e928d3be8446627d981bfed22b0d7d71383db69de1d0daa3c58e4") true zyh (fun _ h=>by cases h) kX (fun _ h=>by cases h) fnAlone_row_tie rfl ⟨rfl,rfl⟩ zxF rfl
  (fun f fn hf FM=>by
   obtain rfl:f=5:=Option.some.inj (jX.symm.trans hf)|>.symm;obtain rfl:fn=Tryz.f5:=(Option.some.inj (Tryz.func5.symm.trans FM)).symm;exact⟨zw5,fun j t ht=>by
    rw [Tryz.params5]at ht;have hm:t∈ [22,22]:=by simpa [or_assoc]using Array.mem_of_getElem? ht
    exact(show Tryz.prog.wantsStandIn t=false by simpa using AN.1 zxb t hm)⟩)
  zxC
end Go.Proofs.YtollgpkegmbpmaaGreatDoor.fnAloneDone
namespace Go.Proofs.YtollgpkegmbpmaaGreatDoor
theorem fnAloneProved:Rows.FnAloneCardSaid:=fnAloneDone.card
#print axioms fnAloneProved
end Go.Proofs.YtollgpkegmbpmaaGreatDoor
end

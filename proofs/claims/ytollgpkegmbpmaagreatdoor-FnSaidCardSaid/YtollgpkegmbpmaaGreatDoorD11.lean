/- Parts of a proof, joined: FFnSaid. -/
import Derived.Test.YtollgpkegmbpmaaGreatDoorD10
import Derived.Test.YtollgpkegmbpmaaGreatDoorRows
import Derived.WalkKit
import Derived.ProofKit
import Derived.OpenShut
import Derived.ShutString
import Derived.ChangeOld
import Derived.Below
import Derived.Lay
import Derived.MakeChecks
import Derived.LaidLaws
import Derived.Stop.Joined
import Derived.SevenTiedAt
import Derived.Test.YtollgpkegmbpmaaGreatDoorCards
import Derived.Test.YtollgpkegmbpmaaGreatDoorTie
set_option linter.unusedVariables false
set_option linter.unusedSimpArgs false
section
namespace Go.Proofs.YtollgpkegmbpmaaGreatDoor.fnSaidDone
open Go.ChangeShapes Go.WideShapes Go.ChangeAt Go.RowKit
open Go.Proofs.YtollgpkegmbpmaaGreatDoor
set_option linter.unusedVariables false
theorem own:ownKnob Tryz.prog.godebug=none:=by kernel_rfl
theorem rU:laidOutB Tryz.prog=true:=by kernel_rfl
theorem sig:B2 7=some {b8:= [.ro, .ro],res:= [false]}:=by kernel_rfl
set_option maxRecDepth 100000 in
theorem xM (os:Os) (started:os.Started) (H:Type) (enc:TypeId × Value→H):
  ReturnsInHanded {} Tryz.checked os 7 .any (fun w args=>(Rows.fnSaidSpec.pre enc Tryz.prog Tryz.f7 [] false w args∧laidMetH Tryz.prog Rows.fnSaidRow.laid w)∧sizedMet enc Tryz.prog Tryz.f7 (OpenSpec.ofChange Rows.fnSaidSpec) false w args)
   (Rows.fnSaidSpec.post enc Tryz.prog Tryz.f7 false true false false):=by
 refine returnsInHanded_of_change_and (C:=Tryz.checked) (X:=fun w _=>laidMetH Tryz.prog Rows.fnSaidRow.laid w) (fun _ _ _ hh h=>h.of_heap hh) own started (by kernel_rfl) Tryz.func7
  (ChangeSpec.witness_shaped (enc:=enc) (C:=Tryz.checked) (os:=os) (X:=fun w _=>laidMetH Tryz.prog Rows.fnSaidRow.laid w) false (World.laidAll Tryz.prog os Rows.fnSaidRow.laid) #[.slice none 0 0, .slice none 0 0] 8 (World.laidAll_os _ _ _)
   (World.shaped_of_ZipB (by kernel_rfl) (by kernel_rfl)) (by kernel_rfl) (by kernel_rfl) (by kernel_rfl)
   (by rw [MakeChecks.laidMetH_plain _ _ _ (by kernel_rfl)];exact laidMet_laidAll _ (by kernel_rfl) (by kernel_rfl))) ?_
 intro W base args ds gs before Lm hW _ _ hL _;have IG: ∀(j:Nat) t v,Tryz.f7.params[j]?=some t→args[j]?=some v→Value.okWide Tryz.prog W .any base t v:=Lm;have tZ:=hW;obtain⟨p,q,fX,hV,rfl,GN,BW⟩:=hW;have hA:DataW.TrodAll enc Tryz.prog W 0 (fun _=>true) true Tryz.f7.params.toList args.toList ds p:=fX;rw [Tryz.params7]at hA IG;obtain⟨v0,vs0,d0,ds0,p0,q0,As,rfl,rfl,h0,r0⟩:=trodAll_cons hA;obtain⟨v1,vs1,d1,ds1,p1,q1,rfl,rfl,rfl,h1,r1⟩:=trodAll_cons r0;obtain⟨rfl,rfl,rfl⟩:=trodAll_nil r1;obtain rfl:args= #[v0,v1]:=by cases args;simp_all
 obtain⟨rfl,rfl⟩:=trodVars_none hV;obtain⟨_,f0,a0,x0,k0,e0⟩:=oB iJ Tryz.underlying22 (IG 0 22 v0 rfl rfl) h0;obtain rfl:=(List.cons.inj e0).1;obtain⟨_,f1,a1,x1,k1,e1⟩:=oB iJ Tryz.underlying22 (IG 1 22 v1 rfl rfl) h1;obtain rfl:=(List.cons.inj e1).1;have m0:=h0;have lt0: ∀x∈p0,x.block<W.heap.size:=by obtain⟨m,hm⟩:=m0;exact DataW.trod_lt m _ _ _ hm
 have m1:=h1;have lt1: ∀x∈p1,x.block<W.heap.size:=by obtain⟨m,hm⟩:=m1;exact DataW.trod_lt m _ _ _ hm
 have Dv:E9.n≤W.heap.size∧E9.K W:=zzK (laid:=Rows.fnSaidRow.laid) (D1:=Rows.laid_strconv_ErrSyntax) (D2:=Rows.laid_strconv_ErrRange) (D3:=Rows.laid_internal_strconv_uint64pow10) (W:=W) (by rw [MakeChecks.laidMetH_plain _ _ _ (by kernel_rfl)]at hL;exact hL) (by kernel_rfl) ⟨_,_,rfl⟩ (by kernel_rfl) ⟨_,_,rfl⟩ (by kernel_rfl) (by kernel_rfl);clear fX Lm;refine(zys (zrh x0 x1 true (zzM x0 x1 k0 k1)) (by decide) sig rfl (by simp) (by kernel_rfl) Tryz.func7 (t:=4) rfl (vs:= [v0,v1]) (w:=W) (by rw [Tryz.params7];exact oZ a0 (oZ a1 zyo)) Dv).mono fun e W' ⟨he,bel⟩=> ?_
 subst he;exact⟨_,rfl,_,_,_, [],_, [],tZ,trodAll_mk1 (shut_bool Tryz.underlying4 _),(trodAll_cons_mk (Below.trod rU (by kernel_rfl) (of_decide_eq_true (by kernel_rfl)) m0 bel lt0) (trodAll_cons_mk (Below.trod rU (by kernel_rfl) (of_decide_eq_true (by kernel_rfl)) m1 bel lt1) trodAll_mk0)),rfl,bel.frame _,fun h=>by cases h⟩
set_option maxHeartbeats 20000000 in
theorem yA:joinedFacts Tryz.prog 7 Tryz.f7 Rows.fnSaidSpec Rows.fnSaidRow=true:=by
 unfold joinedFacts
 repeat' with_reducible refine yY ?_ ?_
 all_goals decide+kernel
theorem iR:Tryz.prog.funcNamed "loop.example/g00850/laws.FnSaid" =some 7:=by kernel_rfl
theorem zG:Rows.fnSaidRow.holds Tryz.pinned (OpenSpec.ofChange Rows.fnSaidSpec):=
 OpenClaim.holds_of_wide 7 Tryz.f7 rfl rfl rfl rfl rfl rfl rfl ⟨rfl,rfl,rfl,rfl,rfl⟩ rfl rfl rfl rfl rfl iR Tryz.func7 yA
  (of_decide_eq_true (by kernel_rfl)) (by unfold Func.isWrapper;first|(rw [if_pos (by decide+kernel)];kernel_rfl)|(rw [if_neg (by decide+kernel)];exact⟨rfl,rfl⟩))
  (fun os started H enc _=>xM os started H enc)
theorem tG:Rows.fnSaidRow.wfByText (OpenSpec.ofChange Rows.fnSaidSpec)=true:=by decide+kernel
theorem x4:Tryz.prog.mainIs=some (true, "4a364ca8298e928d3be8446627d981bfed22b0d7d71383db69de1d0daa3c58e4".toList):=by kernel_rfl
theorem zA:true=Tryz.prog.looks []:=by kernel_rfl
theorem yJ:false=Rows.fnSaidRow.goesBy Tryz.prog:=by kernel_rfl
theorem zC:([22,22].all fun u=> !Tryz.prog.wantsStandIn u)=true:=by kernel_rfl
theorem card:Rows.FnSaidCardSaid:=
 Claim7.holds_tied_plain_at .later [] [.data, .data, .data, .data, .sentinel, .sentinel, .pinned] true (true, "4a364ca8298e928d3be8446627d981bfed22b0d7d71383db69de1d0daa3c58e4") true zG (fun _ h=>by cases h) tG (fun _ h=>by cases h) fnSaid_row_tie rfl ⟨rfl,rfl⟩ x4 rfl
  (fun f fn hf Gi=>by
   obtain rfl:f=7:=Option.some.inj (iR.symm.trans hf)|>.symm;obtain rfl:fn=Tryz.f7:=(Option.some.inj (Tryz.func7.symm.trans Gi)).symm;exact⟨zA,fun j t ht=>by
    rw [Tryz.params7]at ht;have hm:t∈ [22,22]:=by simpa [or_assoc]using Array.mem_of_getElem? ht
    exact(show Tryz.prog.wantsStandIn t=false by simpa using AS.1 zC t hm)⟩)
  yJ
end Go.Proofs.YtollgpkegmbpmaaGreatDoor.fnSaidDone
namespace Go.Proofs.YtollgpkegmbpmaaGreatDoor
theorem fnSaidProved:Rows.FnSaidCardSaid:=fnSaidDone.card
#print axioms fnSaidProved
end Go.Proofs.YtollgpkegmbpmaaGreatDoor
end

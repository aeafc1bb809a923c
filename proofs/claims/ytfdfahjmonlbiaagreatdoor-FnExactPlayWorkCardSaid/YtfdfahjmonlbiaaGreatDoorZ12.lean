/- Parts of a proof, joined: FFnExactPlayWork. -/
import Derived.Test.YtfdfahjmonlbiaaGreatDoorZ11
import Derived.Test.YtfdfahjmonlbiaaGreatDoorRows
import Derived.WalkKit
import Derived.ProofKit
import Derived.OpenShut
import Derived.ShutString
import Derived.ChangeOld
import Derived.Below
import Derived.Lay
import Derived.MakeChecks
import Derived.LaidLaws
import Derived.Stop.Joined
import Derived.SevenTiedAt
import Derived.Test.YtfdfahjmonlbiaaGreatDoorCards
import Derived.Test.YtfdfahjmonlbiaaGreatDoorTie
set_option linter.unusedVariables false
set_option linter.unusedSimpArgs false
section
namespace Go.Proofs.YtfdfahjmonlbiaaGreatDoor.fnExactPlayWorkDone
open Go.ChangeShapes Go.WideShapes Go.ChangeAt Go.RowKit
open Go.Proofs.YtfdfahjmonlbiaaGreatDoor
set_option linter.unusedVariables false
theorem own:ownKnob Tryz.prog.godebug=none:=by kernel_rfl
theorem w8:laidOutB Tryz.prog=true:=by kernel_rfl
theorem sig:Cj 3=some {cr:= [],res:= [false],dp:=true}:=by kernel_rfl
set_option maxRecDepth 100000 in
theorem zJC (os:Os) (started:os.Started) (H:Type) (enc:TypeId × Value→H):
  ReturnsInHanded {} Tryz.checked os 3 .any (fun w args=>(Rows.fnExactPlayWorkSpec.pre enc Tryz.prog Tryz.f3 [] false w args∧laidMetH Tryz.prog Rows.fnExactPlayWorkRow.laid w)∧sizedMet enc Tryz.prog Tryz.f3 (OpenSpec.ofChange Rows.fnExactPlayWorkSpec) false w args)
   (Rows.fnExactPlayWorkSpec.post enc Tryz.prog Tryz.f3 false true false false):=by
 refine returnsInHanded_of_change_and (C:=Tryz.checked) (X:=fun w _=>laidMetH Tryz.prog Rows.fnExactPlayWorkRow.laid w) (fun _ _ _ hh h=>h.of_heap hh) own started (by kernel_rfl) Tryz.func3
  (ChangeSpec.witness_shaped (enc:=enc) (C:=Tryz.checked) (os:=os) (X:=fun w _=>laidMetH Tryz.prog Rows.fnExactPlayWorkRow.laid w) false (World.laidAll Tryz.prog os Rows.fnExactPlayWorkRow.laid) #[.agg #[.string ByteArray.empty, .slice none 0 0, .slice none 0 0, .slice none 0 0, .string ByteArray.empty, .bool false, .string ByteArray.empty, .bool false], .slice none 0 0] 8 (World.laidAll_os _ _ _)
   (World.shaped_of_ZipB (by kernel_rfl) (by kernel_rfl)) (by kernel_rfl) (by kernel_rfl) (by kernel_rfl)
   (by rw [MakeChecks.laidMetH_plain _ _ _ (by kernel_rfl)];exact laidMet_laidAll _ (by kernel_rfl) (by kernel_rfl))) ?_
 intro W base args ds gs before MI hW _ _ hL _;have JR: ∀(j:Nat) t v,Tryz.f3.params[j]?=some t→args[j]?=some v→Value.okWide Tryz.prog W .any base t v:=MI;have hW':=hW;obtain⟨p,q,s8,hV,rfl,HF,Ce⟩:=hW;have hA:DataW.TrodAll enc Tryz.prog W 0 (fun _=>true) true Tryz.f3.params.toList args.toList ds p:=s8;rw [Tryz.params3]at hA JR;obtain⟨v0,vs0,d0,ds0,p0,q0,Ay,rfl,rfl,h0,r0⟩:=trodAll_cons hA;obtain⟨v1,vs1,d1,ds1,p1,q1,rfl,rfl,rfl,h1,r1⟩:=trodAll_cons r0;obtain⟨rfl,rfl,rfl⟩:=trodAll_nil r1;obtain rfl:args= #[v0,v1]:=by cases args;simp_all
 obtain⟨rfl,rfl⟩:=trodVars_none hV;obtain⟨_,f0,a0,x0,k0,e0⟩:=zBF op0 Tryz.underlying30 (JR 0 30 v0 rfl rfl) h0;rw [e0]at a0;obtain⟨_,f1,a1,x1,k1,e1⟩:=zDN zKN Tryz.underlying31 (JR 1 31 v1 rfl rfl) h1;obtain rfl:=(List.cons.inj e1).1;have m0:=h0;have lt0: ∀x∈p0,x.block<W.heap.size:=by obtain⟨m,hm⟩:=m0;exact DataW.trod_lt m _ _ _ hm
 have m1:=h1;have lt1: ∀x∈p1,x.block<W.heap.size:=by obtain⟨m,hm⟩:=m1;exact DataW.trod_lt m _ _ _ hm
 have Ed:FL.n≤W.heap.size∧FL.K W:=zHC (laid:=Rows.fnExactPlayWorkRow.laid) (D1:=Rows.laid_strconv_ErrSyntax) (D2:=Rows.laid_strconv_ErrRange) (D3:=Rows.laid_internal_strconv_uint64pow10) (W:=W) (by rw [MakeChecks.laidMetH_plain _ _ _ (by kernel_rfl)]at hL;exact hL) (by kernel_rfl) ⟨_,_,rfl⟩ (by kernel_rfl) ⟨_,_,rfl⟩ (by kernel_rfl) (by kernel_rfl);clear s8 MI;refine(zGp (zm2 x0 x1 true (zsa x0 x1 k0 k1)) (by decide) sig rfl (by simp) (by kernel_rfl) Tryz.func3 (t:=4) rfl (vs:= [v0,v1]) (w:=W) (by rw [Tryz.params3];exact zyU a0 (zyU a1 zFv)) Ed).mono fun e W' ⟨he,bel⟩=> ?_
 subst he;exact⟨_,rfl,_,_,_, [],_, [],hW',trodAll_mk1 (shut_bool Tryz.underlying4 _),(trodAll_cons_mk (Below.trod w8 (by kernel_rfl) (of_decide_eq_true (by kernel_rfl)) m0 bel lt0) (trodAll_cons_mk (Below.trod w8 (by kernel_rfl) (of_decide_eq_true (by kernel_rfl)) m1 bel lt1) trodAll_mk0)),rfl,bel.frame _,fun h=>by cases h⟩
set_option maxHeartbeats 20000000 in
theorem zKc:joinedFacts Tryz.prog 3 Tryz.f3 Rows.fnExactPlayWorkSpec Rows.fnExactPlayWorkRow=true:=by
 unfold joinedFacts
 repeat' with_reducible refine zI7 ?_ ?_
 all_goals decide+kernel
theorem zU:Tryz.prog.funcNamed "loop.example/g00850/laws.FnExactPlayWork" =some 3:=by kernel_rfl
theorem zKX:Rows.fnExactPlayWorkRow.holds Tryz.pinned (OpenSpec.ofChange Rows.fnExactPlayWorkSpec):=
 OpenClaim.holds_of_wide 3 Tryz.f3 rfl rfl rfl rfl rfl rfl rfl ⟨rfl,rfl,rfl,rfl,rfl⟩ rfl rfl rfl rfl rfl zU Tryz.func3 zKc
  (of_decide_eq_true (by kernel_rfl)) (by unfold Func.isWrapper;first|(rw [if_pos (by decide+kernel)];kernel_rfl)|(rw [if_neg (by decide+kernel)];exact⟨rfl,rfl⟩))
  (fun os started H enc _=>zJC os started H enc)
theorem cwf:Rows.fnExactPlayWorkRow.wfByText (OpenSpec.ofChange Rows.fnExactPlayWorkSpec)=true:=by decide+kernel
theorem zKo:Tryz.prog.mainIs=some (true, "f5e712804e8deca029a1955b0b5289fbdb8a72a852627f6edf188492854d26d3".toList):=by kernel_rfl
theorem zJb:true=Tryz.prog.looks []:=by kernel_rfl
theorem zJ9:false=Rows.fnExactPlayWorkRow.goesBy Tryz.prog:=by kernel_rfl
theorem zJg:([30,31].all fun u=> !Tryz.prog.wantsStandIn u)=true:=by kernel_rfl
theorem card:Rows.FnExactPlayWorkCardSaid:=
 Claim7.holds_tied_plain_at .later [] [.data, .data, .data, .data, .sentinel, .sentinel, .pinned] true (true, "f5e712804e8deca029a1955b0b5289fbdb8a72a852627f6edf188492854d26d3") true zKX (fun _ h=>by cases h) cwf (fun _ h=>by cases h) fnExactPlayWork_row_tie rfl ⟨rfl,rfl⟩ zKo rfl
  (fun f fn hf Hb=>by
   obtain rfl:f=3:=Option.some.inj (zU.symm.trans hf)|>.symm;obtain rfl:fn=Tryz.f3:=(Option.some.inj (Tryz.func3.symm.trans Hb)).symm;exact⟨zJb,fun j t ht=>by
    rw [Tryz.params3]at ht;have hm:t∈ [30,31]:=by simpa [or_assoc]using Array.mem_of_getElem? ht
    exact(show Tryz.prog.wantsStandIn t=false by simpa using AR.1 zJg t hm)⟩)
  zJ9
end Go.Proofs.YtfdfahjmonlbiaaGreatDoor.fnExactPlayWorkDone
namespace Go.Proofs.YtfdfahjmonlbiaaGreatDoor
theorem fnExactPlayWorkProved:Rows.FnExactPlayWorkCardSaid:=fnExactPlayWorkDone.card
#print axioms fnExactPlayWorkProved
end Go.Proofs.YtfdfahjmonlbiaaGreatDoor
end

/- Parts of a proof, joined: FFnStmts. -/
import Derived.Test.YtagokdejdanfcaaGreatDoorE8
import Derived.Test.YtagokdejdanfcaaGreatDoorRows
import Derived.WalkKit
import Derived.ProofKit
import Derived.OpenShut
import Derived.ShutString
import Derived.ChangeOld
import Derived.Below
import Derived.Lay
import Derived.MakeChecks
import Derived.LaidLaws
import Derived.Stop.Joined
import Derived.SevenTiedAt
import Derived.Test.YtagokdejdanfcaaGreatDoorCards
import Derived.Test.YtagokdejdanfcaaGreatDoorTie
set_option linter.unusedVariables false
set_option linter.unusedSimpArgs false
section
namespace Go.Proofs.YtagokdejdanfcaaGreatDoor.fnStmtsDone
open Go.ChangeShapes Go.WideShapes Go.ChangeAt Go.RowKit
open Go.Proofs.YtagokdejdanfcaaGreatDoor
set_option linter.unusedVariables false
theorem own:ownKnob Tryz.prog.godebug=none:=by kernel_rfl
theorem bC:laidOutB Tryz.prog=true:=by kernel_rfl
theorem sig:CM 3=some {ch:= [.ro, .ro],res:= [false]}:=by kernel_rfl
set_option maxRecDepth 100000 in
theorem tM (os:Os) (started:os.Started) (H:Type) (enc:TypeId × Value→H):
  ReturnsInHanded {} Tryz.checked os 3 .any (fun w args=>(Rows.fnStmtsSpec.pre enc Tryz.prog Tryz.f3 [] false w args∧laidMetH Tryz.prog Rows.fnStmtsRow.laid w)∧sizedMet enc Tryz.prog Tryz.f3 (OpenSpec.ofChange Rows.fnStmtsSpec) false w args)
   (Rows.fnStmtsSpec.post enc Tryz.prog Tryz.f3 false true false false):=by
 refine returnsInHanded_of_change_and (C:=Tryz.checked) (X:=fun w _=>laidMetH Tryz.prog Rows.fnStmtsRow.laid w) (fun _ _ _ hh h=>h.of_heap hh) own started (by kernel_rfl) Tryz.func3
  (ChangeSpec.witness_shaped (enc:=enc) (C:=Tryz.checked) (os:=os) (X:=fun w _=>laidMetH Tryz.prog Rows.fnStmtsRow.laid w) false (World.laidAll Tryz.prog os Rows.fnStmtsRow.laid) #[.slice none 0 0, .slice none 0 0] 8 (World.laidAll_os _ _ _)
   (World.shaped_of_ZipB (by kernel_rfl) (by kernel_rfl)) (by kernel_rfl) (by kernel_rfl) (by kernel_rfl)
   (by rw [MakeChecks.laidMetH_plain _ _ _ (by kernel_rfl)];exact laidMet_laidAll _ (by kernel_rfl) (by kernel_rfl))) ?_
 intro W base args ds gs before JZ hW _ _ hL _;have Hs: ∀(j:Nat) t v,Tryz.f3.params[j]?=some t→args[j]?=some v→Value.okWide Tryz.prog W .any base t v:=JZ;have eJ:=hW;obtain⟨p,q,Xw,hV,rfl,FF,BO⟩:=hW;have hA:DataW.TrodAll enc Tryz.prog W 0 (fun _=>true) true Tryz.f3.params.toList args.toList ds p:=Xw;rw [Tryz.params3]at hA Hs;obtain⟨v0,vs0,d0,ds0,p0,q0,Az,rfl,rfl,h0,r0⟩:=trodAll_cons hA;obtain⟨v1,vs1,d1,ds1,p1,q1,rfl,rfl,rfl,h1,r1⟩:=trodAll_cons r0;obtain⟨rfl,rfl,rfl⟩:=trodAll_nil r1;obtain rfl:args= #[v0,v1]:=by cases args;simp_all
 obtain⟨rfl,rfl⟩:=trodVars_none hV;obtain⟨_,f0,a0,x0,k0,e0⟩:=Zy X8 Tryz.underlying22 (Hs 0 22 v0 rfl rfl) h0;obtain rfl:=(List.cons.inj e0).1;obtain⟨_,f1,a1,x1,k1,e1⟩:=Zy X8 Tryz.underlying22 (Hs 1 22 v1 rfl rfl) h1;obtain rfl:=(List.cons.inj e1).1;have m0:=h0;have lt0: ∀x∈p0,x.block<W.heap.size:=by obtain⟨m,hm⟩:=m0;exact DataW.trod_lt m _ _ _ hm
 have m1:=h1;have lt1: ∀x∈p1,x.block<W.heap.size:=by obtain⟨m,hm⟩:=m1;exact DataW.trod_lt m _ _ _ hm
 have D1:IN.n≤W.heap.size∧IN.K W:=⟨Nat.zero_le _,trivial⟩
 clear Xw JZ;refine(sM (kD x0 x1 true (rK x0 x1 k0 k1)) (by decide) sig rfl (by simp) (by kernel_rfl) Tryz.func3 (t:=4) rfl (vs:= [v0,v1]) (w:=W) (by rw [Tryz.params3];exact ZL a0 (ZL a1 sI)) D1).mono fun e W' ⟨he,bel⟩=> ?_
 subst he;exact⟨_,rfl,_,_,_, [],_, [],eJ,trodAll_mk1 (shut_bool Tryz.underlying4 _),(trodAll_cons_mk (Below.trod bC (by kernel_rfl) (of_decide_eq_true (by kernel_rfl)) m0 bel lt0) (trodAll_cons_mk (Below.trod bC (by kernel_rfl) (of_decide_eq_true (by kernel_rfl)) m1 bel lt1) trodAll_mk0)),rfl,bel.frame _,fun h=>by cases h⟩
set_option maxHeartbeats 20000000 in
theorem uN:joinedFacts Tryz.prog 3 Tryz.f3 Rows.fnStmtsSpec Rows.fnStmtsRow=true:=by
 unfold joinedFacts
 repeat' with_reducible refine tF ?_ ?_
 all_goals decide+kernel
theorem cT:Tryz.prog.funcNamed "loop.example/g00850/laws.FnStmts" =some 3:=by kernel_rfl
theorem uH:Rows.fnStmtsRow.holds Tryz.pinned (OpenSpec.ofChange Rows.fnStmtsSpec):=
 OpenClaim.holds_of_wide 3 Tryz.f3 rfl rfl rfl rfl rfl rfl rfl ⟨rfl,rfl,rfl,rfl,rfl⟩ rfl rfl rfl rfl rfl cT Tryz.func3 uN
  (of_decide_eq_true (by kernel_rfl)) (by unfold Func.isWrapper;first|(rw [if_pos (by decide+kernel)];kernel_rfl)|(rw [if_neg (by decide+kernel)];exact⟨rfl,rfl⟩))
  (fun os started H enc _=>tM os started H enc)
theorem dT:Rows.fnStmtsRow.wfByText (OpenSpec.ofChange Rows.fnStmtsSpec)=true:=by decide+kernel
theorem uL:Tryz.prog.mainIs=some (true, "dc8f2497074adec8186d8f7f2a75d92a06a25c3eae453a09b602368bb0362054".toList):=by kernel_rfl
theorem tG:false=Tryz.prog.looks []:=by kernel_rfl
theorem u0:false=Rows.fnStmtsRow.goesBy Tryz.prog:=by kernel_rfl
theorem tH:([22,22].all fun u=> !Tryz.prog.wantsStandIn u)=true:=by kernel_rfl
theorem card:Rows.FnStmtsCardSaid:=
 Claim7.holds_tied_plain_at .later [] [.data, .pinned] true (true, "dc8f2497074adec8186d8f7f2a75d92a06a25c3eae453a09b602368bb0362054") false uH (fun _ h=>by cases h) dT (fun _ h=>by cases h) fnStmts_row_tie rfl ⟨rfl,rfl⟩ uL rfl
  (fun f fn hf Fj=>by
   obtain rfl:f=3:=Option.some.inj (cT.symm.trans hf)|>.symm;obtain rfl:fn=Tryz.f3:=(Option.some.inj (Tryz.func3.symm.trans Fj)).symm;exact⟨tG,fun j t ht=>by
    rw [Tryz.params3]at ht;have hm:t∈ [22,22]:=by simpa [or_assoc]using Array.mem_of_getElem? ht
    exact(show Tryz.prog.wantsStandIn t=false by simpa using A1.1 tH t hm)⟩)
  u0
end Go.Proofs.YtagokdejdanfcaaGreatDoor.fnStmtsDone
namespace Go.Proofs.YtagokdejdanfcaaGreatDoor
theorem fnStmtsProved:Rows.FnStmtsCardSaid:=fnStmtsDone.card
#print axioms fnStmtsProved
end Go.Proofs.YtagokdejdanfcaaGreatDoor
end

/- Parts of a proof, joined: PL, FFnExactMayStep. -/
import Derived.Test.YtfkblfjloegahaaGreatDoorT10
import Derived.Lib.LaidTab
import Derived.LaidSub
import Derived.Test.YtfkblfjloegahaaGreatDoorRows
import Derived.WalkKit
import Derived.ProofKit
import Derived.OpenShut
import Derived.ShutString
import Derived.ChangeOld
import Derived.Below
import Derived.Lay
import Derived.MakeChecks
import Derived.LaidLaws
import Derived.Stop.Joined
import Derived.SevenTiedAt
import Derived.Test.YtfkblfjloegahaaGreatDoorCards
import Derived.Test.YtfkblfjloegahaaGreatDoorTie
section
namespace Go.Proofs.YtfkblfjloegahaaGreatDoor
open Go.RowKit
set_option maxRecDepth 100000
theorem zwO {H:Type} {enc:TypeId × Value→H} {P:Program} {w:World} {base:Nat} {sp:Nat→Bool} {held:Bool} {fuel:Nat} {t:TypeId} {cs:List Value} {n:String} {d:DataW H} {p:List MemPlace} {u:TypeDesc}
  (ht:P.underlying t=some u) (hu:(match u with| .interface _=>true|_=>false)=true) (h:DataW.trod enc P w base sp held fuel t cs=some (.iface n d,p)): ∃a v,cs= [.iface a v]:=by
 cases fuel with
 |zero=>simp [DataW.trod]at h
 |succ fuel=>
  cases u<;>first|(cases hu;done)|skip
  simp only [DataW.trod,ht]at h
  split at h<;>first|(exact⟨_,_,rfl⟩)|(simp at h;done)|(simp_all;done)
noncomputable def zFU (s:String):Bool:=match(Tryz.prog.globalNamed s).bind (fun g=>(Tryz.prog.globals[g]?).map (·.type))with
 |some t=>(match Tryz.prog.underlying t with|some (.interface _)=>true|_=>false)
 |none=>false
noncomputable def zC6 (s:String):Bool:=match(Tryz.prog.globalNamed s).bind (fun g=>(Tryz.prog.globals[g]?).map (·.type))with
 |some t=>(match Tryz.prog.underlying t with
  |some (.array n e)=>(match Tryz.prog.underlying e with|some (.int .u64)=>true|_=>false)&&Tryz.prog.cellsOf e==1&&Tryz.prog.cellsOf t==n
  |_=>false)
 |none=>false
theorem zxZ {s:String} {D:DataW Unit} {W:World} (h:laidMet Tryz.prog [(s,D)] W) (hc:zFU s=true) (hd: ∃n d,D= .iface n d): ∃t p,W.var? Tryz.prog s=some #[.iface t p]:=by
 obtain⟨ps,⟨g,t,cs,fuel,p,q,hg,ht,hvar,htr,_,_⟩,_⟩:=h
 obtain⟨n,d,rfl⟩:=hd
 unfold zFU at hc
 rw [hg,Option.bind_some,ht]at hc
 simp only at hc
 cases hu:Tryz.prog.underlying t with
 |none=>rw [hu]at hc;cases hc
 |some u=>
  obtain⟨a,v,e⟩:=zwO hu (by rw [hu]at hc;cases u<;>first|rfl|cases hc) htr
  refine⟨a,v, ?_⟩
  rw [hvar]
  congr 1
  apply Array.ext'
  rw [e]
theorem zFa {s:String} {W:World} (h:laidMet Tryz.prog [(s,Lib.tabData .u64 Lib.pow10Tab)] W) (hc:zC6 s=true):Lib.TabIs Tryz.prog W s .u64 Lib.pow10Tab:=by
 have h0:=h
 obtain⟨ps,⟨g,t,cs,fuel,p,q,hg,ht,hvar,htr,_,_⟩,_⟩:=h
 unfold zC6 at hc
 rw [hg,Option.bind_some,ht]at hc
 simp only at hc
 split at hc
 ·rename_i n e hu
  simp only [Bool.and_eq_true,beq_iff_eq]at hc
  obtain⟨⟨h1,h2⟩,h3⟩:=hc
  split at h1
  ·rename_i he
   exact Lib.tabIs_of_head hg ht hu he h2 h3 h0
  ·cases h1
 ·cases hc
theorem zDw {laid:List (String × DataW Unit)} {D1 D2 D3:DataW Unit} {W:World} (h:laidMet Tryz.prog laid W)
  (e1:(laid.filter fun x=>x.1== "strconv.ErrSyntax")= [("strconv.ErrSyntax",D1)]) (i1: ∃n d,D1= .iface n d)
  (e2:(laid.filter fun x=>x.1== "strconv.ErrRange")= [("strconv.ErrRange",D2)]) (i2: ∃n d,D2= .iface n d)
  (e3:(laid.filter fun x=>x.1== "internal/strconv.uint64pow10")= [("internal/strconv.uint64pow10",D3)]) (i3:D3=Lib.tabData .u64 Lib.pow10Tab):pkW.n≤W.heap.size∧pkW.K W:=by
 have h1:=h.filter fun x=>x.1== "strconv.ErrSyntax"
 have h2:=h.filter fun x=>x.1== "strconv.ErrRange"
 have h3:=h.filter fun x=>x.1== "internal/strconv.uint64pow10"
 rw [e1]at h1
 rw [e2]at h2
 rw [e3,i3]at h3
 have k:pkK W:=⟨zxZ h1 (by kernel_rfl) i1,zxZ h2 (by kernel_rfl) i2,(zFa h3 (by kernel_rfl)).trans (by kernel_rfl)⟩
 exact⟨zEP k,k⟩
end Go.Proofs.YtfkblfjloegahaaGreatDoor
end
section
namespace Go.Proofs.YtfkblfjloegahaaGreatDoor.fnExactMayStepDone
open Go.ChangeShapes Go.WideShapes Go.ChangeAt Go.RowKit
open Go.Proofs.YtfkblfjloegahaaGreatDoor
set_option linter.unusedVariables false
theorem own:ownKnob Tryz.prog.godebug=none:=by kernel_rfl
theorem zzs:laidOutB Tryz.prog=true:=by kernel_rfl
theorem sig:sgs 4=some {modes:= [],res:= [false],dp:=true}:=by kernel_rfl
set_option maxRecDepth 100000 in
theorem zE7 (os:Os) (started:os.Started) (H:Type) (enc:TypeId × Value→H):
  ReturnsInHanded {} Tryz.checked os 4 .any (fun w args=>(Rows.fnExactMayStepSpec.pre enc Tryz.prog Tryz.f4 [] false w args∧laidMetH Tryz.prog Rows.fnExactMayStepRow.laid w)∧sizedMet enc Tryz.prog Tryz.f4 (OpenSpec.ofChange Rows.fnExactMayStepSpec) false w args)
   (Rows.fnExactMayStepSpec.post enc Tryz.prog Tryz.f4 false true false false):=by
 refine returnsInHanded_of_change_and (C:=Tryz.checked) (X:=fun w _=>laidMetH Tryz.prog Rows.fnExactMayStepRow.laid w) (fun _ _ _ hh h=>h.of_heap hh) own started (by kernel_rfl) Tryz.func4
  (ChangeSpec.witness_shaped (enc:=enc) (C:=Tryz.checked) (os:=os) (X:=fun w _=>laidMetH Tryz.prog Rows.fnExactMayStepRow.laid w) false (World.laidAll Tryz.prog os Rows.fnExactMayStepRow.laid) #[.agg #[.string ByteArray.empty, .slice none 0 0, .slice none 0 0, .slice none 0 0], .agg #[.int .i64 0, .int .i64 0, .int .i64 0, .slice none 0 0, .slice none 0 0]] 8 (World.laidAll_os _ _ _)
   (World.shaped_of_ZipB (by kernel_rfl) (by kernel_rfl)) (by kernel_rfl) (by kernel_rfl) (by kernel_rfl)
   (by rw [MakeChecks.laidMetH_plain _ _ _ (by kernel_rfl)];exact laidMet_laidAll _ (by kernel_rfl) (by kernel_rfl))) ?_
 intro W base args ds gs before hval0 hW _ _ hL _
 have hval: ∀(j:Nat) t v,Tryz.f4.params[j]?=some t→args[j]?=some v→Value.okWide Tryz.prog W .any base t v:=hval0
 have hW':=hW
 obtain⟨p,q,hA0,hV,rfl,hfz,hnd⟩:=hW
 have hA:DataW.TrodAll enc Tryz.prog W 0 (fun _=>true) true Tryz.f4.params.toList args.toList ds p:=hA0
 rw [Tryz.params4]at hA hval
 obtain⟨v0,vs0,d0,ds0,p0,q0,hargs,rfl,rfl,h0,r0⟩:=trodAll_cons hA
 obtain⟨v1,vs1,d1,ds1,p1,q1,rfl,rfl,rfl,h1,r1⟩:=trodAll_cons r0
 obtain⟨rfl,rfl,rfl⟩:=trodAll_nil r1
 obtain rfl:args= #[v0,v1]:=by cases args;simp_all
 obtain⟨rfl,rfl⟩:=trodVars_none hV
 obtain⟨_,f0,a0,x0,k0,e0⟩:=zta op0 Tryz.underlying26 (hval 0 26 v0 rfl rfl) h0
 rw [e0]at a0
 obtain⟨_,f1,a1,x1,k1,e1⟩:=zta zHr Tryz.underlying33 (hval 1 33 v1 rfl rfl) h1
 rw [e1]at a1
 have m0:=h0
 have lt0: ∀x∈p0,x.block<W.heap.size:=by obtain⟨m,hm⟩:=m0;exact DataW.trod_lt m _ _ _ hm
 have m1:=h1
 have lt1: ∀x∈p1,x.block<W.heap.size:=by obtain⟨m,hm⟩:=m1;exact DataW.trod_lt m _ _ _ hm
 have hpk:pkW.n≤W.heap.size∧pkW.K W:=zDw (laid:=Rows.fnExactMayStepRow.laid) (D1:=Rows.laid_strconv_ErrSyntax) (D2:=Rows.laid_strconv_ErrRange) (D3:=Rows.laid_internal_strconv_uint64pow10) (W:=W) (by rw [MakeChecks.laidMetH_plain _ _ _ (by kernel_rfl)]at hL;exact hL) (by kernel_rfl) ⟨_,_,rfl⟩ (by kernel_rfl) ⟨_,_,rfl⟩ (by kernel_rfl) (by kernel_rfl)
 clear hA0 hval0
 refine(zBO (zlK x0 x1 true (zq6 x0 x1 k0 k1)) (by decide) sig rfl (by simp) (by kernel_rfl) Tryz.func4 (t:=4) rfl (vs:= [v0,v1]) (w:=W) (by
  rw [Tryz.params4]
  exact zvw a0 (zvw a1 zBJ)) hpk).mono fun e W' ⟨he,bel⟩=> ?_
 subst he
 exact⟨_,rfl,_,_,_, [],_, [],hW',trodAll_mk1 (shut_bool Tryz.underlying4 _),(trodAll_cons_mk (Below.trod zzs (by kernel_rfl) (of_decide_eq_true (by kernel_rfl)) m0 bel lt0) (trodAll_cons_mk (Below.trod zzs (by kernel_rfl) (of_decide_eq_true (by kernel_rfl)) m1 bel lt1) trodAll_mk0)),rfl,bel.frame _,fun h=>by cases h⟩
set_option maxHeartbeats 20000000 in
theorem zGX:joinedFacts Tryz.prog 4 Tryz.f4 Rows.fnExactMayStepSpec Rows.fnExactMayStepRow=true:=by
 unfold joinedFacts
 repeat' with_reducible refine zFB ?_ ?_
 all_goals decide+kernel
theorem zE1:Tryz.prog.funcNamed "loop.example/g00850/laws.FnExactMayStep" =some 4:=by kernel_rfl
theorem zH2:Rows.fnExactMayStepRow.holds Tryz.pinned (OpenSpec.ofChange Rows.fnExactMayStepSpec):=
 OpenClaim.holds_of_wide 4 Tryz.f4 rfl rfl rfl rfl rfl rfl rfl ⟨rfl,rfl,rfl,rfl,rfl⟩ rfl rfl rfl rfl rfl zE1 Tryz.func4 zGX
  (of_decide_eq_true (by kernel_rfl)) (by unfold Func.isWrapper;first|(rw [if_pos (by decide+kernel)];kernel_rfl)|(rw [if_neg (by decide+kernel)];exact⟨rfl,rfl⟩))
  (fun os started H enc _=>zE7 os started H enc)
theorem cwf:Rows.fnExactMayStepRow.wfByText (OpenSpec.ofChange Rows.fnExactMayStepSpec)=true:=by decide+kernel
theorem zGI:Tryz.prog.mainIs=some (true, "e7adbfe4239e50b433ceff0411c615cc0111931567e4fa82d5141c28b841db8f".toList):=by kernel_rfl
theorem zFH:true=Tryz.prog.looks []:=by kernel_rfl
theorem zGz:false=Rows.fnExactMayStepRow.goesBy Tryz.prog:=by kernel_rfl
theorem zFS:([26,33].all fun u=> !Tryz.prog.wantsStandIn u)=true:=by kernel_rfl
theorem card:Rows.FnExactMayStepCardSaid:=
 Claim7.holds_tied_plain_at .later [] [.data, .data, .data, .data, .sentinel, .sentinel, .pinned] true (true, "e7adbfe4239e50b433ceff0411c615cc0111931567e4fa82d5141c28b841db8f") true zH2 (fun _ h=>by cases h) cwf (fun _ h=>by cases h) fnExactMayStep_row_tie rfl ⟨rfl,rfl⟩ zGI rfl
  (fun f fn hf hfn=>by
   obtain rfl:f=4:=Option.some.inj (zE1.symm.trans hf)|>.symm
   obtain rfl:fn=Tryz.f4:=(Option.some.inj (Tryz.func4.symm.trans hfn)).symm
   exact⟨zFH,fun j t ht=>by
    rw [Tryz.params4]at ht
    have hm:t∈ [26,33]:=by simpa [or_assoc]using Array.mem_of_getElem? ht
    exact(show Tryz.prog.wantsStandIn t=false by simpa using List.all_eq_true.1 zFS t hm)⟩)
  zGz
end Go.Proofs.YtfkblfjloegahaaGreatDoor.fnExactMayStepDone
namespace Go.Proofs.YtfkblfjloegahaaGreatDoor
theorem fnExactMayStepProved:Rows.FnExactMayStepCardSaid:=fnExactMayStepDone.card
#print axioms fnExactMayStepProved
end Go.Proofs.YtfkblfjloegahaaGreatDoor
end

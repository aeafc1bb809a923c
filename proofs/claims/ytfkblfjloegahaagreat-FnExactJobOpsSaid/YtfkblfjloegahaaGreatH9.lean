/- Parts of a proof, joined: LJ, FFnExactJobOps. -/
import Derived.Test.YtfkblfjloegahaaGreatH8
import Derived.Test.YtfkblfjloegahaaGreatRows
import Derived.WalkKit
import Derived.ProofKit
import Derived.OpenShut
import Derived.ShutString
import Derived.ChangeOld
import Derived.Below
section
namespace Go.Proofs.YtfkblfjloegahaaGreat
open Go.RowKit
set_option maxRecDepth 100000
theorem zoh {s:Str} (h:field s=true):s.length≤3:=by
 unfold field at h
 simp only [Bool.and_eq_true]at h
 have:=zdA.1 h.1
 omega
theorem zo3 {t:zaa} {r:zd5} (h:zbp t r=true) (c:Int):(zg8 r c).length≤3:=by
 unfold zbp at h
 simp only [Bool.and_eq_true]at h
 unfold zg8
 cases e:r.fVals[c.toNat]? with
 |none=>simp
 |some s=>exact zoh (List.all_eq_true.1 h.2 s (List.mem_of_getElem? e))
theorem zns {k:Nat}: ∀{xs:List Str},(∀s∈xs,s.length≤k)→zcl xs≤k*xs.length
 | [],_=>by simp [zcl]
 |s::xs,h=>by
  have h1:=h s (by simp)
  have h2:=zns (k:=k) (xs:=xs) fun y hy=>h y (by simp [hy])
  simp only [zcl,List.length_cons,Nat.mul_add,Nat.mul_one]
  omega
theorem zjv {t:zaa} {r:zd5} (hg:zaq t=true) (h:zbp t r=true):(zhS t r).fKey.length≤5∧(zhS t r).fVal.length≤20:=by
 have hn:=ze8 (zkg hg)
 have hc:=zhX hg
 have hv:=zo3 h 0
 have h':=h
 unfold zbp at h'
 simp only [Bool.and_eq_true,beq_iff_eq]at h'
 have hall: ∀s∈r.fVals,s.length≤3:=fun s hs=>zoh (List.all_eq_true.1 h'.2 s hs)
 constructor
 ·unfold zhS
  have e:(r.fVals.head?).getD []=zg8 r 0:=by unfold zg8;rw [List.head?_eq_getElem?];rfl
  simp only [e,List.length_append,List.length_singleton]
  omega
 ·have h1:=zm6 r.fVals.tail [44]
  have h2:=zns (k:=3) (xs:=r.fVals.tail) fun s hs=>hall s (List.mem_of_mem_tail hs)
  have h3:r.fVals.tail.length≤3:=by rw [List.length_tail];omega
  rw [List.length_singleton]at h1
  show(Lib.join r.fVals.tail [44]).length≤20
  omega
theorem zkX {t:zaa} {n:Str} {c:Int} {r:zd5} (hg:zaq t=true) (hn:n.length=1) (h:zbp t r=true):(zlt t n c r).length≤11:=by
 have h1:=ze8 (zkg hg)
 have h2:=zo3 h c
 have h3:=zo3 h 0
 unfold zlt head
 simp only [List.length_append,List.length_singleton]
 omega
theorem zpG {α β:Type} {P:β→Prop} {f:α→List β}: ∀(xs:List α) (a:List β),(∀x∈xs,∀o∈f x,P o)→(∀o∈a,P o)→ ∀o∈xs.foldl (fun a x=>a++f x) a,P o
 | [],a,_,h=>h
 |x::xs,a,hf,h=>zpG xs (a++f x) (fun y hy=>hf y (by simp [hy])) fun o ho=>by
  rcases List.mem_append.1 ho with ho|ho
  ·exact h o ho
  ·exact hf x (by simp) o ho
theorem zn4 {α β:Type} {f:α→List β} (hf: ∀x,(f x).length≤2): ∀(xs:List α) (a:List β),(xs.foldl (fun a x=>a++f x) a).length≤a.length+2*xs.length
 | [],a=>by simp
 |x::xs,a=>by
  have h1:=zn4 hf xs (a++f x)
  have h2:=hf x
  rw [List.length_append]at h1
  rw [List.foldl_cons,List.length_cons]
  omega
def zuS (o:DOp):Prop:=o.fKey.length≤20∧o.fVal.length≤20
theorem zrF {α:Type} {f:α→Nat} {n:Nat}: ∀{l:List α},(∀x∈l,f x≤n)→(l.map f).sum≤n*l.length
 | [],_=>by simp
 |x::l,h=>by
  have h1:=h x (by simp)
  have h2:=zrF (f:=f) (n:=n) (l:=l) fun y hy=>h y (by simp [hy])
  rw [List.map_cons,List.sum_cons,List.length_cons,Nat.mul_add];omega
theorem zsd {l:List DOp} (hl:l.length≤100) (h: ∀o∈l,zuS o):zeF l≤10000:=by
 have:=zrF (f:=zlH) (n:=40) (l:=l) fun o ho=>by
  have:=h o ho
  unfold zuS at this
  unfold zlH
  omega
 unfold zeF
 omega
theorem zqs {t:zaa} {a:zal} (hg:zaq t=true) (h:ze6 t a=true):(zoz t a).length≤8∧ ∀o∈zoz t a,zuS o:=by
 have ho:a.fKind≠1→zbp t a.fOld=true:=fun h1=>by
  unfold ze6 at h
  rw [if_neg h1]at h
  by_cases h2:a.fKind=2
  ·rw [if_pos h2,Bool.and_eq_true]at h;exact h.1
  rw [if_neg h2]at h
  by_cases h3:a.fKind=3
  ·rw [if_pos h3,Bool.and_eq_true]at h;exact h.1
  rw [if_neg h3]at h;cases h
 have hn:a.fKind≠2→zbp t a.fNew=true:=fun h2=>by
  unfold ze6 at h
  by_cases h1:a.fKind=1
  ·rw [if_pos h1,Bool.and_eq_true]at h;exact h.2
  rw [if_neg h1,if_neg h2]at h
  by_cases h3:a.fKind=3
  ·rw [if_pos h3,Bool.and_eq_true,Bool.and_eq_true]at h;exact h.2.1
  rw [if_neg h3]at h;cases h
 have hc:=zhX hg
 constructor
 ·have h1:=zn4 (ziM t a) t.fIdxs (zgc t a)
  rw [zhz]at h1
  unfold zoz
  omega
 ·refine zpG _ _ (fun x hx o hm=> ?_) (fun o hm=> ?_)
  ·have hx1:=ze8 (zmt hg hx).1
   have k1:(zst t a x).length≤11:=by
    unfold zst
    split
    ·simp
    ·rename_i q;exact zkX hg hx1 (ho q)
   have k2:(zqQ t a x).length≤11:=by
    unfold zqQ
    split
    ·simp
    ·rename_i q;exact zkX hg hx1 (hn q)
   unfold ziR ziX zlf at hm
   rcases List.mem_append.1 hm with hm|hm
   ·split at hm
    ·rw [List.mem_singleton]at hm;subst hm;exact⟨by show(zst t a x).length≤20;omega,by simp⟩
    ·simp at hm
   ·split at hm
    ·rw [List.mem_singleton]at hm;subst hm;exact⟨by show(zqQ t a x).length≤20;omega,by simp⟩
    ·simp at hm
  ·unfold zgc at hm
   split at hm
   ·rename_i q
    have:=zjv hg (hn (by omega))
    simp only [List.mem_cons,List.not_mem_nil,or_false]at hm
    rcases hm with rfl|rfl<;>exact⟨by simp only [];omega,by simp;try omega⟩
   ·rename_i q1
    have w1:=zjv hg (ho q1)
    split at hm
    ·simp only [List.mem_cons,List.not_mem_nil,or_false]at hm
     rcases hm with rfl|rfl<;>exact⟨by simp only [];omega,by simp;try omega⟩
    ·rename_i q2
     have w2:=zjv hg (hn q2)
     simp only [List.mem_cons,List.not_mem_nil,or_false]at hm
     rcases hm with rfl|rfl<;>exact⟨by simp only [];omega,by simp;try omega⟩
theorem zuH {ws:List zaa} {n:Str} {j:zaJ} {r:List DOp × Bool} (h:zvo ws n j r):zeF r.1≤10000:=by
 rcases h with rfl|⟨t,_,x,hI,hx,hr,rfl⟩|⟨t,_,hI,ha,rfl⟩
 ·simp [zeF]
 ·obtain⟨_,_,_,hn,_⟩:=zru hI
  have hg:zaq t=true:=by
   unfold ziV at hI
   simp only [Bool.and_eq_true]at hI
   exact hI.1
  have w:=zjv hg hr
  have k:=zkX (c:=x.fCol) hg hn hr
  refine zsd (by simp [zrt]) fun o ho=> ?_
  simp only [zrt,List.mem_cons,List.not_mem_nil,or_false]at ho
  rcases ho with rfl|rfl
  ·exact⟨by simp only [];omega,by simp only [];omega⟩
  ·exact⟨by simp only [];omega,by simp⟩
 ·have hg:zaq t=true:=by
   unfold ziV at hI
   simp only [Bool.and_eq_true]at hI
   exact hI.1
  have:=zqs hg ha
  exact zsd (Nat.le_trans this.1 (by decide)) this.2
theorem zh3 {xs:List Str} (h:zaD xs≤2000000):Small xs:=by
 have e: ∀l:List Str,zcl l=(l.map (fun x:List UInt8=>x.length)).sum:=by
  intro l
  induction l with
  |nil=>rfl
  |cons s l ih=>simp only [zcl,List.map_cons,List.sum_cons,ih]
 unfold zaD at h
 exact⟨by omega,by rw [e];omega⟩
theorem zrx {t:zaa} (h:zaQ t≤2000000):zbW t:=by
 unfold zaQ zcr at h
 have hs:=zh3 (xs:=t.fCols) (by omega)
 refine⟨by omega,by have:=hs.1;omega,hs.each,by omega,fun x hx=> ?_⟩
 have h1:=zeH (tot:=zeG) hx
 have e:zeG x=x.fName.length:=rfl
 omega
theorem zld (a0:List zaa) (a1:List UInt8) (a2:zaJ) (h0:(okL zkd) a0) (h1:zm5 a1) (h2:zkU a2):zcb a0 a1 a2=some true:=by
 unfold zcb
 by_cases qn:((a1.length:Int)>1048576)
 ·rw [if_pos (by simpa using qn)]
 rw [if_neg (by simpa using qn)]
 obtain⟨b0,e0,g0,r0⟩:=zrZ (xs:=a0) (a:=1048576) (by omega) (by omega) h0
 rw [e0,Option.bind_some]
 by_cases q0:b0<0
 ·rw [if_pos (by simpa using q0)]
 rw [if_neg (by simpa using q0)]
 have s0:=r0 (by omega)
 obtain⟨b1,e1,g1,r1⟩:=zqg (x:=a2) (a:=b0) (by omega) (by omega) h2
 rw [e1,Option.bind_some]
 by_cases q1:b1<0
 ·rw [if_pos (by simpa using q1)]
 rw [if_neg (by simpa using q1)]
 have s1:=r1 (by omega)
 have t0:zbm a0≤2000000:=by omega
 have t2:zaV a2≤2000000:=by omega
 have hw: ∀t∈a0,zbW t:=fun t ht=>zrx (by
  have h3:=zeH (tot:=zaQ) ht
  unfold zbm at t0
  omega)
 have u1:zaD a2.fAct.fOld.fVals≤2000000:=by unfold zaV zbc zc7 at t2;omega
 have u2:zaD a2.fAct.fNew.fVals≤2000000:=by unfold zaV zbc zc7 at t2;omega
 have u3:zaD a2.fRow.fVals≤2000000:=by unfold zaV zbc zc7 at t2;omega
 obtain⟨w,vs,vi,hj⟩:=zoq (ws:=a0) (n:=a1) (j:=a2) hw (by omega) ⟨zh3 u1,zh3 u2⟩ (zh3 u3)
 have tw:=zuH hj
 have c0:=znR a0
 have c1:=zme a2
 have c2:=zrK w.1
 obtain⟨x0, -,m0⟩:=zox (xs:=a0) (k:=1) (by omega) (by omega) t0
 obtain⟨x1,y1,z1,m1⟩:=znm (x:=a2) (k:=1+(zeY a0:Nat)) (by omega) (by omega) t2
 obtain⟨x2, -,m2,n2⟩:=zsA (xs:=w.1) (k:=1) (by omega) (by omega) (by omega)
 have p1:decide ((1:Int)+(zeY a0:Nat)+(zcs a2:Nat)<0)=false:=by simp;omega
 have p2:decide ((1:Int)+(ziO w.1:Nat)<0)=false:=by simp;omega
 simp only [zrV t0,zpS t2,vs,vi,zr6 t0,zqj t2,zv1 (show zeF w.1≤2000000 by omega),m0,m1,m2,n2,p1,p2,bne_self_eq_false,Option.bind_some,Bool.not_true,Bool.or_false,Bool.false_eq_true,if_false]
end Go.Proofs.YtfkblfjloegahaaGreat
end
section
namespace Go.Proofs.YtfkblfjloegahaaGreat.fnExactJobOpsDone
open Go.ChangeShapes Go.WideShapes Go.ChangeAt Go.RowKit
open Go.Proofs.YtfkblfjloegahaaGreat
set_option linter.unusedVariables false
theorem own:ownKnob Tryz.prog.godebug=none:=by kernel_rfl
theorem zov:laidOutB Tryz.prog=true:=by kernel_rfl
theorem sig:sgs 3=some {modes:= [],res:= [false],dp:=true}:=by kernel_rfl
set_option maxRecDepth 100000 in
theorem zvC (os:Os) (started:os.Started) (H:Type) (enc:TypeId × Value→H):
  ReturnsInHanded {} Tryz.checked os 3 .any (Rows.fnExactJobOpsSpec.pre6 enc Tryz.prog Tryz.f3 Rows.fnExactJobOpsRow.domain false) (Rows.fnExactJobOpsSpec.post enc Tryz.prog Tryz.f3 false true false false):=by
 refine returnsInHanded_of_change (C:=Tryz.checked) own started (by kernel_rfl) Tryz.func3
  (ChangeSpec.witness6 (enc:=enc) (C:=Tryz.checked) false ⟨#[], #[.slice none 0 0, .string ByteArray.empty, .agg #[.int .i64 0, .bool false, .int .i64 0, .slice none 0 0, .slice none 0 0, .slice none 0 0]], []⟩ 8 (by kernel_rfl) (by kernel_rfl) (by kernel_rfl) (by kernel_rfl)) ?_
 intro W base args ds gs before hval0 hW hcnd _
 have hval: ∀(j:Nat) t v,Tryz.f3.params[j]?=some t→args[j]?=some v→Value.okWide Tryz.prog W .any base t v:=hval0
 have hW':=hW
 obtain⟨p,q,hA0,hV,rfl,hfz,hnd⟩:=hW
 have hA:DataW.TrodAll enc Tryz.prog W 0 (fun _=>true) true Tryz.f3.params.toList args.toList ds p:=hA0
 rw [Tryz.params3]at hA hval
 obtain⟨v0,vs0,d0,ds0,p0,q0,hargs,rfl,rfl,h0,r0⟩:=trodAll_cons hA
 obtain⟨v1,vs1,d1,ds1,p1,q1,rfl,rfl,rfl,h1,r1⟩:=trodAll_cons r0
 obtain⟨v2,vs2,d2,ds2,p2,q2,rfl,rfl,rfl,h2,r2⟩:=trodAll_cons r1
 obtain⟨rfl,rfl,rfl⟩:=trodAll_nil r2
 obtain rfl:args= #[v0,v1,v2]:=by cases args;simp_all
 obtain⟨rfl,rfl⟩:=trodVars_none hV
 obtain⟨_,f0,a0,x0,k0,e0⟩:=zqS op0 Tryz.underlying22 (hval 0 22 v0 rfl rfl) h0
 obtain rfl:=(List.cons.inj e0).1
 obtain⟨_,f1,a1,x1,k1,e1⟩:=zp0 op2 Tryz.underlying9 (hval 1 9 v1 rfl rfl) h1
 obtain rfl:=(List.cons.inj e1).1
 obtain⟨_,f2,a2,x2,k2,e2⟩:=zqi op7 Tryz.underlying29 (hval 2 29 v2 rfl rfl) h2
 rw [e2]at a2
 have m0:=h0
 have lt0: ∀x∈p0,x.block<W.heap.size:=by obtain⟨m,hm⟩:=m0;exact DataW.trod_lt m _ _ _ hm
 have m1:=h1
 have lt1: ∀x∈p1,x.block<W.heap.size:=by obtain⟨m,hm⟩:=m1;exact DataW.trod_lt m _ _ _ hm
 have m2:=h2
 have lt2: ∀x∈p2,x.block<W.heap.size:=by obtain⟨m,hm⟩:=m2;exact DataW.trod_lt m _ _ _ hm
 clear hA0 hval0
 refine(zsZ (zg7 x0 x1 x2 true (zld x0 x1 x2 k0 k1 k2)) (by decide) sig rfl (by simp) (by kernel_rfl) Tryz.func3 (t:=4) rfl (vs:= [v0,v1,v2]) (w:=W) (by
  rw [Tryz.params3]
  exact zj8 a0 (zj8 a1 (zj8 a2 zsT)))).mono fun e W' ⟨he,bel⟩=> ?_
 subst he
 exact⟨_,rfl,_,_,_, [],_, [],hW',trodAll_mk1 (shut_bool Tryz.underlying4 _),(trodAll_cons_mk (Below.trod zov (by kernel_rfl) (of_decide_eq_true (by kernel_rfl)) m0 bel lt0) (trodAll_cons_mk (Below.trod zov (by kernel_rfl) (of_decide_eq_true (by kernel_rfl)) m1 bel lt1) (trodAll_cons_mk (Below.trod zov (by kernel_rfl) (of_decide_eq_true (by kernel_rfl)) m2 bel lt2) trodAll_mk0))),rfl,bel.frame _,fun h=>by cases h⟩
set_option maxHeartbeats 20000000 in
theorem zxl:joinedFacts Tryz.prog 3 Tryz.f3 Rows.fnExactJobOpsSpec Rows.fnExactJobOpsRow=true:=by
 unfold joinedFacts
 repeat' with_reducible refine zv6 ?_ ?_
 all_goals decide+kernel
theorem zw0:Tryz.prog.funcNamed "loop.example/g00850/laws.FnExactJobOps" =some 3:=by kernel_rfl
theorem over:Rows.fnExactJobOpsRow.holds Tryz.pinned (OpenSpec.ofChange Rows.fnExactJobOpsSpec):=
 OpenClaim.holds_of_wide 3 Tryz.f3 rfl rfl rfl rfl rfl rfl rfl ⟨rfl,rfl,rfl,rfl,rfl⟩ rfl rfl rfl rfl rfl zw0 Tryz.func3 zxl
  (of_decide_eq_true (by kernel_rfl)) (by unfold Func.isWrapper;first|(rw [if_pos (by decide+kernel)];kernel_rfl)|(rw [if_neg (by decide+kernel)];exact⟨rfl,rfl⟩))
  (fun os started H enc _=>zvC os started H enc)
end Go.Proofs.YtfkblfjloegahaaGreat.fnExactJobOpsDone
namespace Go.Proofs.YtfkblfjloegahaaGreat
theorem fnExactJobOpsProved:Rows.FnExactJobOpsSaid:=fnExactJobOpsDone.over
#print axioms fnExactJobOpsProved
end Go.Proofs.YtfkblfjloegahaaGreat
end

/- Parts of a proof, joined: DA, DB, MA, MB, OB, OG, QA, QO, NA, NE, HB, MC, SP, HL, IA, IC, IB, QM, N5, PK. -/
import Derived.Test.YthgeekoigbihbaaK6
import Derived.Test.YthgeekoigbihbaaChecked
import Derived.Shelf.Small.Bits
import Derived.Shelf.Small.Strs
import Derived.Shelf.Small.Wraps
import Derived.Shelf.Strconv.Itoa0
import Derived.Shelf.Strings.Search1
import Derived.Ground.Names2Prog
import Derived.Shelf.Slices.SearchI
import Derived.Test.YthgeekoigbihbaaProg
import Derived.Laws.CopyRow
import Derived.Lib.AppendZerosOnto
import Derived.Lib.Overlaps
import Derived.Deep.RegionLaw
section
namespace Go.Proofs.Ythgeekoigbihbaa
open Go.RowKit
noncomputable def flT (t:TypeId):List Bool:=(zal Try.prog t).map fun u=>match zca Try.prog u with|some e=>zcU Try.prog e|none=>false
noncomputable def zsF (u:TypeId):List Bool:=if u=82 then []else flT u
noncomputable def ztP (fn:Func):Sig:={modes:=fn.params.toList.map fun t=>match zpy Try.prog t with|some u=> .bx (zsF u) (zsF u)|none=> .ro,res:=fn.resultTypes.toList.flatMap flT}
noncomputable def zsK (f:Nat):Option Sig:=
 match f with
 |5=>some {modes:= [],res:= [false],dp:=true}
 |14=>some {modes:= [.mu [false,true], .ro],res:= []}
 |15=>some {modes:= [.mu [false,false,true], .ro],res:= []}
 |18=>some {modes:= [],res:= []}
 |21=>some {modes:= [.ro, .ro, .ro],res:= []}
 |25=>some {modes:= [],res:= [true],dp:=true}
 |27=>some {modes:= [.mu [true], .ro],res:= [],dp:=true}
 |39=>some {modes:= [.va [true], .ro],res:= [true]}
 |40=>some {modes:= [.va [true], .ro],res:= [true],wn:=true}
 |44=>some {modes:= [.mu [true], .ro],res:= []}
 |45=>some {modes:= [.mu [true], .ro],res:= []}
 |52=>some {modes:= [.va [false,false,true]],res:= [false,false,true,false]}
 |55=>some {modes:= [.ro],res:= []}
 |56=>some {modes:= [.ro, .ro, .ro, .ro],res:= []}
 |63=>some {modes:= [.mu [true], .ro],res:= []}
 |78=>some {modes:= [.va [true], .ro, .va [true]],res:= [true]}
 |87=>some {modes:= [.mu [true], .ro],res:= []}
 |90=>some {modes:= [.ro, .ro],res:= []}
 |118=>some {modes:= [.mu [true], .ro, .ro, .ro, .ro],res:= []}
 |137=>some {modes:= [.mu [true], .ro, .ro, .ro],res:= []}
 |138=>some {modes:= [.mu [true], .ro, .ro, .ro],res:= []}
 |139=>some {modes:= [.mu [true], .ro, .ro, .ro],res:= []}
 |140=>some {modes:= [.mu [true], .ro, .ro, .ro],res:= []}
 |141=>some {modes:= [.mu [true], .ro, .ro, .ro],res:= []}
 |142=>some {modes:= [.mu [true], .ro, .ro, .ro],res:= []}
 |143=>some {modes:= [.mu [true], .ro, .ro, .ro, .ro],res:= []}
 |144=>some {modes:= [.mu [true], .ro, .ro, .ro, .ro],res:= []}
 |149=>some {modes:= [.mu [true]],res:= []}
 |153=>some {modes:= [.mu [true], .ro, .ro, .ro, .ro],res:= []}
 |156=>some {modes:= [.mu [true], .ro, .bx [false] [false], .ro],res:= []}
 |157=>some {modes:= [.mu [true], .ro, .ro, .ro, .bx [false] [false], .ro],res:= []}
 |159=>some {modes:= [.mu [true], .ro, .ro, .bx [false] [false], .ro],res:= []}
 |_=>none
noncomputable def zun (f:Nat):Option Sig:=match Try.prog.funcs[f]? with
 |some fn=>some ((zsK f).getD (ztP fn))
 |none=>none
noncomputable def sgs:SgT:={f:=zun}
theorem zsv:Try.prog.follows .mixedOrders=true:=by kernel_rfl
theorem zuP:Try.prog.funcs.size<1000000:=by
 have:(decide (Try.prog.funcs.size<1000000))=true:=by kernel_rfl
 exact of_decide_eq_true this
theorem zlE (f:Nat) (s:Sig) (h:sgs f=some s):f<1000000:=by
 simp only [sgs]at h
 unfold zun at h
 split at h
 ·rename_i fn hf
  have:=(Array.getElem?_eq_some_iff.1 hf).1
  exact Nat.lt_trans this zuP
 ·cases h
def zte (P:Program) (sg:SgT) (f:Nat) (xs:List AV) (r:AV):Bool:=
 match P.funcs[f]?,sg f with
 |some fn,some s=> !(fn.name== "runtime.NumGoroutine")&&zgl P fn s r&&xs.length==fn.params.size+fn.nfree
 |_,_=>false
abbrev Den (t:Tr) (r:AV) (xs:List AV):Prop:=t.den (Rts Try.prog sgs) (fun r'=>r'=r) (fun _ _ _ _=>False) [] xs
theorem ziC {f:Nat} {t:Tr} {xs:List AV} {r:AV} (hc:zs4 Try.prog sgs f=some t) (hk:zte Try.prog sgs f xs r=true) (hd:Den t r xs):Rts Try.prog sgs f xs r:=by
 unfold zte at hk
 split at hk
 ·rename_i fn s hf hs
  simp only [Bool.and_eq_true,Bool.not_eq_true',beq_iff_eq]at hk
  unfold Rts
  rw [if_pos (zlE f s hs)]
  exact⟨s,hs,zpU zsv zlE hf hs hk.1.1 hc hk.1.2 hk.2 hd⟩
 ·cases hk
section
variable {Rt:Nat→List AV→AV→Prop} {R:AV→Prop} {L:LK} {js:List JK} {ρ:List AV}
theorem zkF {i:EL} {b k:Tr} (hL:zhL L) (I:Nat→List AV→Prop) {m:Nat} (h0:I m (i.den ρ)) (hstep: ∀m vs,I m vs→b.den Rt R L ((fun us=> ∃m',m'<m∧I m' us)::(fun us=>k.den Rt R L js (ρ++us))::js) (ρ++vs)):(Tr.loop i b k).den Rt R L js ρ:=by
 have hb: ∀W W':JK,(∀vs,W vs→W' vs)→ ∀vs,b.den Rt R L (W::(fun us=>k.den Rt R L js (ρ++us))::js) (ρ++vs)→b.den Rt R L (W'::(fun us=>k.den Rt R L js (ρ++us))::js) (ρ++vs):=
  fun W W' hW vs hv=>b.den_js hL hv (.cons hW (JLe.refl _))
 have mono: ∀n vs,zhU (fun W vs=>b.den Rt R L (W::(fun us=>k.den Rt R L js (ρ++us))::js) (ρ++vs)) n vs→ ∀n',n≤n'→zhU (fun W vs=>b.den Rt R L (W::(fun us=>k.den Rt R L js (ρ++us))::js) (ρ++vs)) n' vs:=by
  intro n
  induction n with
  |zero=>intro vs h;exact h.elim
  |succ n ih=>
   intro vs h n' hn
   cases n' with
   |zero=>omega
   |succ n'=>exact hb _ _ (fun us hu=>ih us hu n' (by omega)) vs h
 have key: ∀m vs,I m vs→zhU (fun W vs=>b.den Rt R L (W::(fun us=>k.den Rt R L js (ρ++us))::js) (ρ++vs)) (m+1) vs:=by
  intro m
  induction m using Nat.strongRecOn with
  |_ m ih=>
   intro vs hI
   exact hb _ _ (fun us ⟨m',hm,hu⟩=>mono _ _ (ih m' hm us hu) m (by omega)) vs (hstep m vs hI)
 exact⟨m+1,key m _ h0⟩
theorem zeC:zhL (fun _ _ _ _=>False):=fun _ _ _ _ _ _ h=>h
end
@[simp] theorem zuz (ρ:List AV):zbT ρ []↔True:=⟨fun _=>trivial,fun _=>zbb ρ⟩
@[simp] theorem ztS (ρ:List AV) (x:E) (b:Bool) (gs:Gd):zbT ρ ((x,b)::gs)↔x.den ρ= .bool b∧zbT ρ gs:=
 ⟨fun h=>⟨h (x,b) (by simp),fun g hg=>h g (by simp [hg])⟩,fun h g hg=>by rcases List.mem_cons.1 hg with rfl|hg;exact h.1;exact h.2 g hg⟩
attribute [simp] E.den EL.den Cn.den AV.fld AV.proj AV.deref AV.len AV.slen AV.idx AV.nth AV.notB AV.negI AV.conv AV.bin AV.bbin AV.sbin AV.app AV.setNth AV.rep
@[simp] theorem zsQ (cs:List AV):(AV.agg cs).cells=cs:=rfl
@[simp] theorem zsm (k:IntKind) (n:Int):(AV.int k n).cells= [.int k n]:=rfl
@[simp] theorem zr8 (b:Bool):(AV.bool b).cells= [.bool b]:=rfl
@[simp] theorem zsl (s:List UInt8):(AV.str s).cells= [.str s]:=rfl
@[simp] theorem ztp (xs:List AV):(AV.sl xs).cells= [.sl xs]:=rfl
@[simp] theorem zr3 (k:IntKind) (n:Int):(AV.int k n).scalar=true:=rfl
@[simp] theorem zrU (b:Bool):(AV.bool b).scalar=true:=rfl
@[simp] theorem zr4 (s:List UInt8):(AV.str s).scalar=true:=rfl
@[simp] theorem zt0 (b c d:Bool):AV.cond (.bool b) (.bool c) (.bool d)= .bool (bif b then c else d):=by cases b<;>rfl
theorem zla {y:AV} (h:y.scalar=true):y.cells= [y]:=by cases y<;>first|rfl|simp [AV.scalar]at h
theorem zbt {n:Int} (h1: -9223372036854775808≤n) (h2:n≤9223372036854775807):IntKind.i64.wrap n=n:=by
 rw [IntKind.wrap_i64];omega
end Go.Proofs.Ythgeekoigbihbaa
end
section
namespace Go.Proofs.Ythgeekoigbihbaa
open Go.RowKit
section
variable {Rt:Nat→List AV→AV→Prop} {R:AV→Prop} {L:LK} {js:List JK} {ρ:List AV}
theorem zas {gs:Gd} {c:Cn} {k:Tr} (h:zbT ρ gs→c.den ρ) (hk:k.den Rt R L js ρ):(Tr.chk gs c k).den Rt R L js ρ:=⟨h,hk⟩
theorem zh2 {gs:Gd} {f:Nat} {args:EL} {k:Tr} {r:AV} (h:zbT ρ gs→Rt f (args.den ρ) r) (hk:k.den Rt R L js (ρ++ [r])):(Tr.call gs (.inl f) args k).den Rt R L js ρ:=⟨r,h,hk⟩
theorem ziV {gs:Gd} {x:E} {args:EL} {k:Tr} {r:AV} (h:zbT ρ gs→ ∃g caps,x.den ρ= .fn g caps∧Rt (1000000+g) (args.den ρ++caps) r∧ ∀y∈r.cells,y.scalar=true) (hk:k.den Rt R L js (ρ++ [r])):(Tr.call gs (.inr x) args k).den Rt R L js ρ:=⟨r,h,hk⟩
theorem zbi {c:E} {a b:Tr} {t:Bool} (h:c.den ρ= .bool t) (ha:t=true→a.den Rt R L js ρ) (hb:t=false→b.den Rt R L js ρ):(Tr.ite c a b).den Rt R L js ρ:=⟨t,h,ha,hb⟩
theorem zdG {r:E} (h:R (r.den ρ)):(Tr.ret r).den Rt R L js ρ:=h
theorem zfC {es:EL} {j:JK} (h:j (es.den ρ)):(Tr.jmp 0 es).den Rt R L (j::js) ρ:=h
theorem zh4 {es:EL} {i j:JK} (h:j (es.den ρ)):(Tr.jmp 1 es).den Rt R L (i::j::js) ρ:=h
theorem zrw {i:EL} {b k:Tr} (hL:zhL L) (n:Nat) (st:Nat→List AV) (h0:i.den ρ=st 0) (hb: ∀q,q≤n→ ∀W:JK,(q<n→W (st (q+1)))→b.den Rt R L (W::(fun us=>k.den Rt R L js (ρ++us))::js) (ρ++st q)):(Tr.loop i b k).den Rt R L js ρ:=by
 refine zkF hL (fun m vs=> ∃q,q+m=n∧vs=st q) (m:=n) ⟨0,by omega,h0⟩ ?_
 rintro m vs ⟨q,hq,rfl⟩
 exact hb q (by omega) _ fun hlt=>⟨m-1,by omega,q+1,by omega,rfl⟩
end
theorem E.den_app_nil:True:=trivial
def tSz:Tr:=
 .chk [] (.dfd (.len (.var 0)))<|
 .chk [] (.dfd (.bin .sub (.var 1) (.len (.var 0))))<|
 .chk [] (.dfd (.bin .lss (.bin .sub (.var 1) (.len (.var 0))) (.int .i64 (0))))<|
 .ite (.bin .lss (.bin .sub (.var 1) (.len (.var 0))) (.int .i64 (0))) (
  .ret (.int .i64 (-1))) (
  .ret (.bin .sub (.var 1) (.len (.var 0))))
def zuu (n:Nat) (k:Int):Int:=if k-n<0 then-1 else k-n
theorem zup {xs:List AV} {k:Int} (hk:0≤k) (hk2:k≤9223372036854775807) (hn:xs.length≤9223372036854775807):Den tSz (.int .i64 (zuu xs.length k)) [.sl xs, .int .i64 k]:=by
 have hw:IntKind.i64.wrap (k-xs.length)=k-xs.length:=zbt (by omega) (by omega)
 unfold Den tSz
 by_cases h:k-xs.length<0<;>simp [Tr.den,zav,hw,h,zuu]
def zut (f cn:Nat):Tr:=
 .chk [] (.dfd (.len (.var 0)))<|
 .chk [] (.dfd (.len (.var 1)))<|
 .ite (.bin .neq (.len (.var 0)) (.len (.var 1))) (
  .ret (.bool false)) (
  .loop (.cons (.int .i64 (0)) .nil) (
  .chk [] (.dfd (.len (.var 0)))<|
  .chk [] (.dfd (.bin .lss (.var 2) (.len (.var 0))))<|
  .ite (.bin .lss (.var 2) (.len (.var 0))) (
   .chk [] (.inb (.var 2) (.var 0) cn)<|
   .chk [] (.inb (.var 2) (.var 1) cn)<|
   .call [] (.inl f) (.cons (.fld (.idx (.var 0) (.var 2)) 0 cn true) (.cons (.fld (.idx (.var 1) (.var 2)) 0 cn true) .nil))<|
   .chk [] (.dfd (.not (.var 3)))<|
   .ite (.not (.var 3)) (
   .ret (.bool false)) (
   .chk [] (.dfd (.bin .add (.var 2) (.int .i64 (1))))<|
   .jmp 0 (.cons (.bin .add (.var 2) (.int .i64 (1))) .nil))) (
   .jmp 1 .nil)) (
  .ret (.bool true)))
def zmk (cn:Nat) (xs:List AV):Prop:= ∀x∈xs,∃cs,x= .agg cs∧cs.length=cn
theorem zmk.at {cn:Nat} {xs:List AV} (h:zmk cn xs) {q:Nat} (hq:q<xs.length): ∃cs,xs[q]= .agg cs∧cs.length=cn:=h _ (List.getElem_mem hq)
theorem zta {f cn:Nat} {xs:List AV} (hs:zmk cn xs) (hn:xs.length≤9223372036854775806) (hf: ∀x∈xs,Rts Try.prog sgs f [x,x] (.bool true)):Den (zut f cn) (.bool true) [.sl xs, .sl xs]:=by
 unfold Den zut
 refine zas (by simp) (zas (by simp) (zbi (t:=false) (by simp [zav]) (by simp) fun _=> ?_))
 refine zrw zeC xs.length (fun q=> [.int .i64 q]) (by simp) fun q hq W hW=> ?_
 by_cases hlt:q<xs.length
 ·obtain⟨cs,hc,hl⟩:=hs.at hlt
  have hx:(xs[(q:Int).toNat]?).getD .undef= .agg cs:=by simp [hlt,hc]
  have hin:Cn.den [AV.sl xs, .sl xs, .int .i64 q] (.inb (.var 2) (.var 0) cn):=⟨.i64,q,xs.length,by simp,by omega,by simp,by omega,by simp [hlt,hc,hl]⟩
  have hin1:Cn.den [AV.sl xs, .sl xs, .int .i64 q] (.inb (.var 2) (.var 1) cn):=⟨.i64,q,xs.length,by simp,by omega,by simp,by omega,by simp [hlt,hc,hl]⟩
  refine zas (by simp) (zas (by simp [zav]) (zbi (t:=true) (by simp [zav,hlt]) (fun _=> ?_) (by simp)))
  refine zas (fun _=>hin) (zas (fun _=>hin1) (zh2 (r:= .bool true) (fun _=> ?_) ?_))
  ·have:=hf xs[q] (List.getElem_mem hlt)
   rw [hc]at this
   simpa [hlt,hc,←hl]using this
  ·refine zas (by simp) (zbi (t:=false) (by simp) (by simp) fun _=>zas (by simp [zav]) (zfC ?_))
   have:=hW hlt
   simpa [zav,zbt (n:=(q:Int)+1) (by omega) (by omega)]using this
 ·have hqe:q=xs.length:=by omega
  refine zas (by simp) (zas (by simp [zav]) (zbi (t:=false) (by simp [zav];omega) (by simp) fun _=>zh4 ?_))
  exact zdG (by simp)
end Go.Proofs.Ythgeekoigbihbaa
end
section
namespace Go.Proofs.Ythgeekoigbihbaa
open Go.RowKit
section
variable {Rt:Nat→List AV→AV→Prop} {R:AV→Prop} {L:LK} {js:List JK} {ρ:List AV} {α β σ τ:Type}
theorem zu2 {gs:Gd} {c:Cn} {k:Tr} (h:zbT ρ gs→c.den ρ) (hk:k.den Rt R L js ρ):(Tr.chk gs c k).den Rt R L js ρ:=⟨h,hk⟩
theorem zuW {c:E} {a b:Tr} {t:Bool} {A B:Option α} {r:α} (h:(if t=true then A else B)=some r) (hc:c.den ρ= .bool t) (ha:t=true→A=some r→a.den Rt R L js ρ) (hb:t=false→B=some r→b.den Rt R L js ρ):(Tr.ite c a b).den Rt R L js ρ:=
 ⟨t,hc,fun e=>ha e (by rwa [if_pos e]at h),fun e=>hb e (by rwa [if_neg (by simp [e])]at h)⟩
theorem zuG {c:E} {a b:Tr} (hc:c.den ρ= .bool true) (ha:a.den Rt R L js ρ):(Tr.ite c a b).den Rt R L js ρ:=⟨true,hc,fun _=>ha,fun h=>Bool.noConfusion h⟩
theorem zuw {c:E} {a b:Tr} (hc:c.den ρ= .bool false) (hb:b.den Rt R L js ρ):(Tr.ite c a b).den Rt R L js ρ:=⟨false,hc,fun h=>Bool.noConfusion h,fun _=>hb⟩
theorem ztF {P:Prop} {t:Bool} {A B:Option α} {r:α} (h:(if t=true then A else B)=some r) (ha:t=true→A=some r→P) (hb:t=false→B=some r→P):P:=by
 cases t with
 |true=>exact ha rfl (by simpa using h)
 |false=>exact hb rfl (by simpa using h)
theorem zuA {gs:Gd} {f:Nat} {args:EL} {k:Tr} {o:Option α} {K:α→Option β} {r:β} (av:α→AV) (h:o.bind K=some r) (hR: ∀x,o=some x→Rt f (args.den ρ) (av x)) (hk: ∀x,o=some x→K x=some r→k.den Rt R L js (ρ++ [av x])):(Tr.call gs (.inl f) args k).den Rt R L js ρ:=by
 obtain⟨x,hx,hK⟩:=zhN h
 exact⟨av x,fun _=>hR x hx,hk x hx hK⟩
theorem ztX {gs:Gd} {x:E} {args:EL} {k:Tr} {o:Option α} {K:α→Option β} {r:β} {g:Nat} {caps:List AV} (av:α→AV) (h:o.bind K=some r) (hx:x.den ρ= .fn g caps) (hR: ∀x,o=some x→Rt (1000000+g) (args.den ρ++caps) (av x)) (hs: ∀x,∀y∈(av x).cells,y.scalar=true) (hk: ∀x,o=some x→K x=some r→k.den Rt R L js (ρ++ [av x])):(Tr.call gs (.inr x) args k).den Rt R L js ρ:=by
 obtain⟨y,hy,hK⟩:=zhN h
 exact⟨av y,fun _=>⟨g,caps,hx,hR y hy,hs y⟩,hk y hy hK⟩
theorem zuD {gs:Gd} {f:Nat ⊕ E} {args:EL} {k:Tr} (h: ¬zbT ρ gs) (hk:k.den Rt R L js (ρ++ [.undef])):(Tr.call gs f args k).den Rt R L js ρ:=⟨.undef,fun h'=>absurd h' h,hk⟩
theorem zuV {e:E} {x y:α} {av:α→AV} (h:some x=some y) (he:e.den ρ=av x):(Tr.ret e).den Rt (fun r'=>r'=av y) L js ρ:=by
 cases h;exact he
theorem zu8 {d:Nat} {es:EL} {j:JK} {emb:τ→List AV} {K:τ→Option α} {s:τ} {r:α} (hj: ∀s,K s=some r→j (emb s)) (h:K s=some r) (hd:js[d]?=some j) (he:es.den ρ=emb s):(Tr.jmp d es).den Rt R L js ρ:=by
 show match js[d]? with|some j=>j (es.den ρ)|none=>False
 rw [hd];show j (es.den ρ);rw [he];exact hj s h
theorem zus {t k:Tr} {emb:τ→List AV} {K:τ→Option α} {r:α} (hK: ∀s,K s=some r→k.den Rt R L js (ρ++emb s)) (ht: ∀j:JK,(∀s,K s=some r→j (emb s))→t.den Rt R L (j::js) ρ):(Tr.join t k).den Rt R L js ρ:=
 ht _ hK
theorem ztN {t k:Tr} (ht: ∀j:JK,(∀vs,k.den Rt R L js (ρ++vs)→j vs)→t.den Rt R L (j::js) ρ):(Tr.join t k).den Rt R L js ρ:=ht _ fun _ h=>h
theorem zuy {d:Nat} {es:EL} {j:JK} {P:List AV→Prop} (hj: ∀vs,P vs→j vs) (hd:js[d]?=some j) {vs:List AV} (he:es.den ρ=vs) (h:P vs):(Tr.jmp d es).den Rt R L js ρ:=by
 show match js[d]? with|some j=>j (es.den ρ)|none=>False
 rw [hd];show j (es.den ρ);rw [he];exact hj _ h
theorem zsw {i:EL} {b k:Tr} {body:σ→Option (σ ⊕ Option α)} {s0:σ} {r:α} (emb:σ→List AV) (h:zaF body s0=some r) (h0:i.den ρ=emb s0)
  (hb: ∀(W A:JK) (s:σ) (o:σ ⊕ Option α),body s=some o→(∀s',some (Sum.inl s')=some o→W (emb s'))→(∀q,some (Sum.inr q)=some o→q=some r)→(∀vs,k.den Rt R L js (ρ++vs)→A vs)→b.den Rt R L (W::A::js) (ρ++emb s)):(Tr.loop i b k).den Rt R L js ρ:=by
 obtain⟨n,hn⟩:=zeu.1 h
 refine⟨n, ?_⟩
 rw [h0]
 clear h h0
 induction n generalizing s0 with
 |zero=>cases hn
 |succ n ih=>
  rcases ho:body s0 with _|s'|o
  ·simp [zdM,ho]at hn
  ·have hn':zdM body n s'=some r:=by simpa [zdM,ho]using hn
   exact hb _ _ s0 _ ho (fun s2 h2=>by cases h2;exact ih hn') (fun q hq=>by cases hq) (fun _ h=>h)
  ·have hn':o=some r:=by simpa [zdM,ho]using hn
   exact hb _ _ s0 _ ho (fun s2 h2=>by cases h2) (fun q hq=>by cases hq;exact hn') (fun _ h=>h)
theorem zuk {i:EL} {b k:Tr} {body:σ→Option (σ ⊕ Option α)} {s0:σ} {r:α} (emb:σ→List AV) (embK:τ→List AV) (h:zaF body s0=some r) (h0:i.den ρ=emb s0) {K:τ→Option α} (hK: ∀s,K s=some r→k.den Rt R L js (ρ++embK s))
  (hb: ∀(W A:JK) (s:σ) (o:σ ⊕ Option α),body s=some o→(∀s',some (Sum.inl s')=some o→W (emb s'))→(∀q,some (Sum.inr q)=some o→q=some r)→(∀s,K s=some r→A (embK s))→b.den Rt R L (W::A::js) (ρ++emb s)):(Tr.loop i b k).den Rt R L js ρ:=
 zsw emb h h0 fun W A s o ho hn hf hk=>hb W A s o ho hn hf fun s hs=>hk _ (hK s hs)
theorem zuU {i x:E} {sz:Nat} {kk:IntKind} {n:Int} {xs:List α} {y:α} {f:α→AV} (hi:i.den ρ= .int kk n) (hx:x.den ρ= .sl (xs.map f)) (h:zdn xs n=some y) (hf:(f y).cells.length=sz):Cn.den ρ (.inb i x sz):=by
 obtain⟨h1,h2,h3⟩:=zmN h
 exact⟨kk,n,xs.length,hi,h1,by rw [hx];simp,h2,by rw [hx];simp [h3,hf]⟩
theorem zuL {i x:E} {kk:IntKind} {n:Int} {xs:List UInt8} {y:UInt8} (hi:i.den ρ= .int kk n) (hx:x.den ρ= .str xs) (h:zdn xs n=some y):Cn.den ρ (.inbS i x):=by
 obtain⟨h1,h2,h3⟩:=zmN h
 exact⟨kk,n,xs,hi,hx,h1,h2⟩
theorem zuO {x lo hi:E} {ka kb:IntKind} {a b:Int} {xs:List AV} (ha:lo.den ρ= .int ka a) (hb:hi.den ρ= .int kb b) (hx:x.den ρ= .sl xs) (h:0≤a∧a≤b∧b≤xs.length):Cn.den ρ (.win x lo hi):=
 ⟨ka,a,kb,b,xs.length,ha,hb,by rw [hx];simp,h.1,h.2.1,h.2.2⟩
theorem zuK {x lo hi:E} {ka kb:IntKind} {a b:Int} {xs:List UInt8} (ha:lo.den ρ= .int ka a) (hb:hi.den ρ= .int kb b) (hx:x.den ρ= .str xs) (h:0≤a∧a≤b∧b≤xs.length):Cn.den ρ (.winS x lo hi):=
 ⟨ka,a,kb,b,xs,ha,hb,hx,h.1,h.2.1,h.2.2⟩
theorem zuJ {x y:E} {bytes:Nat} {xs ys:List AV} (hx:x.den ρ= .sl xs) (hy:y.den ρ= .sl ys) (h:((xs.length:Int)+ys.length)*bytes≤140737488355328∧(xs.length:Int)+ys.length≤140737488355328):Cn.den ρ (.room x y bytes):=
 ⟨xs.length,ys.length,by rw [hx];simp,by rw [hy];simp,h.1,h.2⟩
theorem ztH {x y:E} {xs ys:List UInt8} (hx:x.den ρ= .str xs) (hy:y.den ρ= .str ys) (h:xs.length+ys.length≤9223372036854775807):Cn.den ρ (.roomS x y):=⟨xs,ys,hx,hy,h⟩
theorem zty {n:E} {bytes:Nat} {kk:IntKind} {k:Int} (hn:n.den ρ= .int kk k) (h:0≤k∧k*bytes≤140737488355328∧k≤140737488355328):Cn.den ρ (.mkroom n bytes):=⟨kk,k,hn,h.1,h.2.1,h.2.2⟩
theorem zva {x:E} {kk:IntKind} {n:Int} (hx:x.den ρ= .int kk n) (h:n≠0):Cn.den ρ (.nz x):=⟨kk,n,hx,h⟩
theorem zve {x:E} {kk:IntKind} {n:Int} (hx:x.den ρ= .int kk n) (h:0≤n):Cn.den ρ (.nn x):=⟨kk,n,hx,h⟩
theorem zsG {x:E} {sz:Nat} {xs:List α} (f:α→AV) (hx:x.den ρ= .sl (xs.map f)) (hf: ∀y,(f y).cells.length=sz):Cn.den ρ (.issl x sz):=⟨_,hx,by simp [hf]⟩
theorem zrf {x:E} {sz:Nat} {xs:List α} (f:α→AV) (hx:x.den ρ= .sl (xs.map f)) (hf: ∀y,(f y).cells.length=sz∧ ∀z∈(f y).cells,z.scalar=true):Cn.den ρ (.flatS x sz):=⟨_,hx,by simp only [List.mem_map];rintro _ ⟨y,_,rfl⟩;exact hf y⟩
theorem ztY {x:E} {n:Nat} {y:AV} (hx:x.den ρ= .ref y) (hn:n≤y.cells.length):Cn.den ρ (.isref x n):=⟨y,hx,hn⟩
theorem zuT {x:E} {n:Nat} {cs:List AV} (hx:x.den ρ= .agg cs) (hn:cs.length=n):Cn.den ρ (.agg x n):=⟨cs,hx,hn⟩
end
@[simp] def zsD (n:Int):AV:= .int .i64 n
@[simp] def zu5 (n:Int):AV:= .int .u64 n
@[simp] def zu1 (n:Int):AV:= .int .i32 n
@[simp] def zuQ (n:Int):AV:= .int .u32 n
@[simp] def zuR (n:Int):AV:= .int .u8 n
@[simp] def avB (b:Bool):AV:= .bool b
@[simp] def zsn (x:List UInt8):AV:= .str x
@[simp] theorem zuo (xs:List AV) (ka kb:IntKind) (a b:Int):AV.win (.sl xs) (.int ka a) (.int kb b)= .sl (zqU xs a b):=rfl
@[simp] theorem ztd {α β:Type} (xs:List α) (f:α→β) (a b:Int):(zqU xs a b).map f=zqU (xs.map f) a b:=by simp [zqU,List.map_take,List.map_drop]
@[simp] theorem ztu (s:List UInt8) (ka kb:IntKind) (a b:Int):AV.swin (.str s) (.int ka a) (.int kb b)= .str (zqU s a b):=rfl
attribute [simp] zav zka AV.sidx AV.aeq AV.leq AV.seq AV.sk AV.putF AV.bytes AV.text
@[simp] theorem zrQ {α:Type} (l:List α) (i:Nat) (a:α):(l.set i a)[i]?=l[i]?.map fun _=>a:=by
 rcases Nat.lt_or_ge i l.length with h|h
 ·simp [h]
 ·simp [h]
theorem ztw {α:Type} {xs:List α} {i:Int} {y:α} (h:zdn xs i=some y) (v:α):zdn (xs.set i.toNat v) i=some v:=by
 obtain⟨h1,h2,h3⟩:=zmN h
 unfold zdn
 rw [if_pos h1]
 have:i.toNat<xs.length:=by omega
 simp [this]
@[simp] theorem zuh (b:Bool) (k:IntKind) (x y:Int):AV.cond (.bool b) (.int k x) (.int k y)= .int k (bif b then x else y):=by cases b<;>rfl
@[simp] theorem zub (b:Bool) (x y:List UInt8):AV.cond (.bool b) (.str x) (.str y)= .str (bif b then x else y):=by cases b<;>rfl
@[simp] theorem zuH (x y:AV):AV.cond (.bool true) x y=x:=rfl
@[simp] theorem zuM (x y:AV):AV.cond (.bool false) x y=y:=rfl
end Go.Proofs.Ythgeekoigbihbaa
end
section
namespace Go.Proofs.Ythgeekoigbihbaa
open Go.RowKit
section
variable {P:Program} {w:World}
theorem zdX.anyRo {ts:List TypeId} {vs:List Value} {xs:List AV} {rf hs:List Nat} (h:zdX P w ts [] vs xs rf hs): ∀(ms:List PM),(∀m∈ms,m= .ro)→zdX P w ts ms vs xs rf hs:=by
 generalize hm:([]:List PM)=m0 at h
 induction h with
 |nil=>intro ms _;exact .nil
 | @cons t ts ms' v vs x xs f h rf hs harg _ ih=>
  subst hm
  intro ms hms
  refine .cons ?_ (ih rfl ms.tail fun m hm=>hms m (List.mem_of_mem_tail hm))
  have:ms.headD .ro= .ro:=by cases ms with|nil=>rfl|cons m ms=>exact hms m (by simp)
  rw [this];exact harg
 |free h1 _ ih=>
  subst hm
  intro ms hms
  exact .free h1 (ih rfl ms.tail fun m hm=>hms m (List.mem_of_mem_tail hm))
theorem zbF.anyRo {ts:List TypeId} {ms:List PM} {vs:List Value} {Bs:List AV} {f o:List Nat} (h:zbF P w ts ms vs Bs f o) (hms: ∀m∈ms,m= .ro):zbF P w ts [] vs Bs f o:=by
 have hd: ∀{ms:List PM},(∀m∈ms,m= .ro)→ms.headD .ro= .ro:=by
  intro ms h;cases ms with|nil=>rfl|cons m ms=>exact h m (by simp)
 induction h with
 |nil=>exact .nil
 |ro _ _ ih=>exact .ro rfl (ih fun m hm=>hms m (List.mem_of_mem_tail hm))
 |va h9 _ _=>rw [hd hms]at h9;cases h9
 |mu h9 _ _ _ _=>rw [hd hms]at h9;cases h9
 |bx h9 _ _ _ _ _ _ _ _=>rw [hd hms]at h9;cases h9
end
noncomputable def zoQ (f:Nat) (r:AV):Bool:=
 match Try.prog.funcs[f]?,sgs f with
 |some fn,some s=>s.modes.all (fun m=>match m with| .ro=>true|_=>false)&&(match fn.resultTypes.toList with| [t]=> !zgJ Try.prog t s.res|_=>false)&&zgl Try.prog fn {modes:= [],res:= []} r
 |_,_=>false
theorem zot {f:Nat} {xs:List AV} {r:AV} (h:Rts Try.prog sgs f xs r) (hp:zoQ f r=true):Rts Try.prog sgs (1000000+f) xs r:=by
 unfold zoQ at hp
 split at hp
 ·rename_i fn s hf hs
  simp only [Bool.and_eq_true,List.all_eq_true]at hp
  obtain⟨⟨h1,h2⟩,h3⟩:=hp
  have hro: ∀m∈s.modes,m= .ro:=fun m hm=>by
   have:=h1 m hm
   split at this
   ·rfl
   ·cases this
  unfold Rts at h ⊢
  rw [if_pos (zlE f s hs)]at h
  rw [if_neg (by omega),Nat.add_sub_cancel_left]
  obtain⟨s',hs',fn',hf',hb,hn,_,hl,hc⟩:=h
  rw [hs]at hs';cases hs'
  rw [hf]at hf';cases hf'
  refine⟨fn,hf,hb,hn,h3,hl,fun w vs rf hs' hargs hd hnd=>(hc w vs rf hs' (hargs.anyRo _ hro) hd hnd).mono ?_⟩
  rintro e w' ⟨v,rfl,⟨R,Bs,f1,o1,f2,o2,e1,e2,e3,e4,e5,e6⟩,hm⟩
  refine⟨v,rfl,⟨R,Bs,f1,o1,f2,o2,e1, ?_,e3.anyRo hro,e4,e5,e6⟩,hm⟩
  unfold zpx at e2 ⊢
  split at h2
  ·rename_i t ht
   rw [ht]at e2 ⊢
   simp only at e2 ⊢
   unfold zk0 at e2 ⊢
   have h2:zgJ Try.prog t s.res=false:=by simpa using h2
   rw [if_neg (by rw [h2];simp)]at e2
   rw [if_neg (by simp [zgJ])]
   exact e2
  ·cases h2
 ·cases hp
section
variable {Rt:Nat→List AV→AV→Prop} {R:AV→Prop} {L:LK} {js:List JK} {ρ:List AV}
theorem zne {i:EL} {b k:Tr} (hL:zhL L) (n:Nat) (st:Nat→List AV) (J:Nat→Prop) (hJ:J 0) (h0:i.den ρ=st 0) (hb: ∀q,q≤n→J q→ ∀W:JK,(q<n→J (q+1)→W (st (q+1)))→b.den Rt R L (W::(fun us=>k.den Rt R L js (ρ++us))::js) (ρ++st q)):(Tr.loop i b k).den Rt R L js ρ:=by
 refine zkF hL (fun m vs=> ∃q,q+m=n∧vs=st q∧J q) (m:=n) ⟨0,by omega,h0,hJ⟩ ?_
 rintro m vs ⟨q,hq,rfl,hj⟩
 exact hb q (by omega) hj _ fun hlt hj'=>⟨m-1,by omega,q+1,by omega,rfl,hj'⟩
end
def zql (cn:Nat):Tr:=
 .chk [] (.dfd (.len (.var 0)))<|
 .loop (.cons (.int .i64 (0)) .nil) (
  .chk [] (.dfd (.bin .lss (.var 2) (.len (.var 0))))<|
  .ite (.bin .lss (.var 2) (.len (.var 0))) (
  .chk [] (.inb (.var 2) (.var 0) cn)<|
  .call [] (.inr (.var 1)) (.cons (.fld (.idx (.var 0) (.var 2)) 0 cn true) .nil)<|
  .ite (.var 3) (
   .ret (.var 2)) (
   .chk [] (.dfd (.bin .add (.var 2) (.int .i64 (1))))<|
   .jmp 0 (.cons (.bin .add (.var 2) (.int .i64 (1))) .nil))) (
  .jmp 1 .nil)) (
  .ret (.int .i64 (-1)))
def zqy:Tr:=
 .chk [] (.dfd (.len (.var 0)))<|
 .loop (.cons (.int .i64 (0)) .nil) (
  .chk [] (.dfd (.bin .lss (.var 2) (.len (.var 0))))<|
  .ite (.bin .lss (.var 2) (.len (.var 0))) (
  .chk [] (.inb (.var 2) (.var 0) 1)<|
  .call [] (.inr (.var 1)) (.cons (.fld (.idx (.var 0) (.var 2)) 0 1 false) .nil)<|
  .ite (.var 3) (
   .ret (.var 2)) (
   .chk [] (.dfd (.bin .add (.var 2) (.int .i64 (1))))<|
   .jmp 0 (.cons (.bin .add (.var 2) (.int .i64 (1))) .nil))) (
  .jmp 1 .nil)) (
  .ret (.int .i64 (-1)))
def zjn {α:Type} (p:α→Option Bool):List α→Int→Option Int
 | [],_=>some (-1)
 |x::xs,i=>(p x).bind fun b=>if b=true then some i else zjn p xs (i+1)
noncomputable def za9 {α:Type} (xs:List α) (p:α→Option Bool):Option Int:=req (xs.length≤9223372036854775806) (zjn p xs 0)
noncomputable def zaE {α:Type} (xs:List α) (p:α→Option Bool):Option Bool:=(za9 xs p).bind fun i=>some (decide (i≥0))
noncomputable def zku {α:Type} (bytes:Nat) (xs:List α):Option (List α):=req ((xs.length:Int)*bytes≤140737488355328∧(xs.length:Int)≤140737488355328) (some xs)
theorem zlO {α:Type} {p:α→Option Bool} {l:List α} {r:Int} {q:Nat} (hq:q<l.length) (h:zjn p (l.drop q) q=some r): ∃b,p l[q]=some b∧(b=true→r=q)∧(b=false→zjn p (l.drop (q+1)) ((q+1:Nat):Int)=some r):=by
 rw [List.drop_eq_getElem_cons hq]at h
 obtain⟨b,hb,h⟩:=zhN h
 refine⟨b,hb, ?_, ?_⟩
 ·rintro rfl;simpa using h.symm
 ·rintro rfl;simpa using h
theorem zoo {α:Type} {av:α→AV} {l:List α} {p:α→Option Bool} {cn g:Nat} {caps:List AV} {r:Int} (hs: ∀x,∃cs,av x= .agg cs∧cs.length=cn) (h:za9 l p=some r) (hf: ∀x b,p x=some b→Rts Try.prog sgs (1000000+g) (av x::caps) (.bool b)):Den (zql cn) (.int .i64 r) [.sl (l.map av), .fn g caps]:=by
 obtain⟨hn,h⟩:=zmU h
 unfold Den zql
 refine zas (by simp) ?_
 refine zne zeC l.length (fun q=> [.int .i64 q]) (fun q=>zjn p (l.drop q) q=some r) (by simpa using h) (by simp) fun q hq hJ W hW=> ?_
 by_cases hlt:q<l.length
 ·obtain⟨cs,hc,hl⟩:=hs l[q]
  obtain⟨b,hb,hb1,hb2⟩:=zlO hlt hJ
  refine zas (by simp [zav]) (zbi (t:=true) (by simp [zav,hlt]) (fun _=> ?_) (by simp))
  refine zas (fun _=>⟨.i64,q,l.length,by simp,by omega,by simp,by omega,by simp [hlt,hc,hl]⟩) (ziV (r:= .bool b) (fun _=>⟨g,caps,by simp, ?_,by simp⟩) ?_)
  ·have:=hf l[q] b hb
   rw [hc]at this
   simpa [hlt,hc,←hl]using this
  ·cases b with
   |true=>exact zbi (t:=true) (by simp) (fun _=>zdG (by simp [hb1 rfl])) (by simp)
   |false=>
    refine zbi (t:=false) (by simp) (by simp) fun _=>zas (by simp [zav]) (zfC ?_)
    have:=hW hlt (hb2 rfl)
    simpa [zav,zbt (n:=(q:Int)+1) (by omega) (by omega)]using this
 ·have hqe:q=l.length:=by omega
  subst hqe
  have hr:r= -1:=by simpa [zjn]using hJ.symm
  refine zas (by simp [zav]) (zbi (t:=false) (by simp [zav]) (by simp) fun _=>zh4 ?_)
  exact zdG (by simp [hr])
theorem zti {α:Type} {av:α→AV} {l:List α} {p:α→Option Bool} {g:Nat} {caps:List AV} {r:Int} (hs: ∀x,(av x).cells= [av x]) (h:za9 l p=some r) (hf: ∀x b,p x=some b→Rts Try.prog sgs (1000000+g) (av x::caps) (.bool b)):Den zqy (.int .i64 r) [.sl (l.map av), .fn g caps]:=by
 obtain⟨hn,h⟩:=zmU h
 unfold Den zqy
 refine zas (by simp) ?_
 refine zne zeC l.length (fun q=> [.int .i64 q]) (fun q=>zjn p (l.drop q) q=some r) (by simpa using h) (by simp) fun q hq hJ W hW=> ?_
 by_cases hlt:q<l.length
 ·obtain⟨b,hb,hb1,hb2⟩:=zlO hlt hJ
  refine zas (by simp [zav]) (zbi (t:=true) (by simp [zav,hlt]) (fun _=> ?_) (by simp))
  refine zas (fun _=>⟨.i64,q,l.length,by simp,by omega,by simp,by omega,by simp [hlt,hs]⟩) (ziV (r:= .bool b) (fun _=>⟨g,caps,by simp, ?_,by simp⟩) ?_)
  ·have:=hf l[q] b hb
   simpa [hlt,hs]using this
  ·cases b with
   |true=>exact zbi (t:=true) (by simp) (fun _=>zdG (by simp [hb1 rfl])) (by simp)
   |false=>
    refine zbi (t:=false) (by simp) (by simp) fun _=>zas (by simp [zav]) (zfC ?_)
    have:=hW hlt (hb2 rfl)
    simpa [zav,zbt (n:=(q:Int)+1) (by omega) (by omega)]using this
 ·have hqe:q=l.length:=by omega
  subst hqe
  have hr:r= -1:=by simpa [zjn]using hJ.symm
  refine zas (by simp [zav]) (zbi (t:=false) (by simp [zav]) (by simp) fun _=>zh4 ?_)
  exact zdG (by simp [hr])
def zqg (f:Nat):Tr:=
 .call [] (.inl f) (.cons (.var 0) (.cons (.var 1) .nil))<|
 .chk [] (.dfd (.bin .geq (.var 2) (.int .i64 (0))))<|
 .ret (.bin .geq (.var 2) (.int .i64 (0)))
theorem zpt {α:Type} {l:List α} {p:α→Option Bool} {f:Nat} {x y:AV} {r:Bool} (h:zaE l p=some r) (hf: ∀i,za9 l p=some i→Rts Try.prog sgs f [x,y] (.int .i64 i)):Den (zqg f) (.bool r) [x,y]:=by
 obtain⟨i,hi,h⟩:=zhN h
 unfold Den zqg
 refine zh2 (fun _=>by simpa using hf i hi) (zas (by simp [zav]) (zdG ?_))
 simp only [Option.some.injEq]at h
 simp [zav,←h]
def zoE (bytes sz:Nat):Tr:=
 .chk [] (.dfd (.len (.var 0)))<|
 .nilq [] (.var 0)<|
 .ite (.var 1) (
  .ret (.lst .nil)) (
  .chk [] (.room (.lst .nil) (.var 0) bytes)<|
  .chk [] (.flatS (.var 0) sz)<|
  .ret (.app (.lst .nil) (.var 0)))
def zn8 (bytes sz:Nat):Tr:=
 .chk [] (.dfd (.len (.var 0)))<|
 .nilq [] (.var 0)<|
 .ite (.var 1) (
  .ret (.lst .nil)) (
  .chk [] (.room (.lst .nil) (.var 0) bytes)<|
  .chk [] (.issl (.var 0) sz)<|
  .ret (.app (.lst .nil) (.var 0)))
theorem zod {α:Type} {av:α→AV} {xs r:List α} {bytes sz:Nat} (hs: ∀x,(av x).cells.length=sz∧ ∀z∈(av x).cells,z.scalar=true) (h:zku bytes xs=some r):Den (zoE bytes sz) (.sl (r.map av)) [.sl (xs.map av)]:=by
 obtain⟨hq,h⟩:=zmU h
 cases h
 unfold Den zoE
 refine zas (by simp) fun b hb=> ?_
 cases b with
 |true=>
  have:=hb (by simp) rfl
  exact zbi (t:=true) (by simp) (fun _=>zdG (by simpa using this.symm)) (by simp)
 |false=>exact zbi (t:=false) (by simp) (by simp) fun _=>zas (fun _=>⟨0,xs.length,by simp,by simp,by simpa using hq.1,by simpa using hq.2⟩) (zas (fun _=>zrf (xs:=xs) av (by simp) hs) (zdG (by simp)))
theorem zr7 {α:Type} {av:α→AV} {xs r:List α} {bytes sz:Nat} (hs: ∀x,(av x).cells.length=sz) (h:zku bytes xs=some r):Den (zn8 bytes sz) (.sl (r.map av)) [.sl (xs.map av)]:=by
 obtain⟨hq,h⟩:=zmU h
 cases h
 unfold Den zn8
 refine zas (by simp) fun b hb=> ?_
 cases b with
 |true=>
  have:=hb (by simp) rfl
  exact zbi (t:=true) (by simp) (fun _=>zdG (by simpa using this.symm)) (by simp)
 |false=>exact zbi (t:=false) (by simp) (by simp) fun _=>zas (fun _=>⟨0,xs.length,by simp,by simp,by simpa using hq.1,by simpa using hq.2⟩) (zas (fun _=>zsG (xs:=xs) av (by simp) hs) (zdG (by simp)))
end Go.Proofs.Ythgeekoigbihbaa
end
section
namespace Go.Proofs.Ythgeekoigbihbaa
open Go.ChangeShapes Go.WideShapes Go.ChangeAt Go.RowKit
theorem zqf {P:Program} {w:World}:zdX P w [] [] [] [] [] []:= .nil
theorem zlu {P:Program} {w:World} {t:TypeId} {ts:List TypeId} {v:Value} {vs:List Value} {x:AV} {xs:List AV} {f rf:List Nat} (h:Rd w [v] [x] f) (k:zdX P w ts [] vs xs rf []):zdX P w (t::ts) [] (v::vs) (x::xs) (f++rf) []:=
 zdX.cons (h:= []) (hs:= []) (ms:= []) ⟨h,rfl⟩ k
theorem zqk {P:Program} {sg:SgT} {f:Nat} {fn:Func} {t:TypeId} {xs:List AV} (h:Rts P sg f xs (.bool true)) (hf:f<1000000) {s:Sig} (hs:sg f=some s) (hro: ∀m∈s.modes,m= .ro) (hfl:zgJ P t s.res=false) (hfn:P.funcs[f]?=some fn) (hr:fn.resultTypes.toList= [t])
  {w:World} {vs:List Value} {rf:List Nat} (ha:zdX P w fn.params.toList [] vs xs rf []):
  Calls P f vs.toArray w fun e w'=>e= .returned (.bool true)∧Below w.heap.size w w':=by
 unfold Rts at h
 rw [if_pos hf]at h
 obtain⟨s',hs',fn',hfn',_,_,_,_,hc⟩:=h
 rw [hs]at hs'
 obtain rfl:=Option.some.inj hs'
 rw [hfn]at hfn'
 obtain rfl:=Option.some.inj hfn'
 refine(hc w vs rf [] (ha.anyRo _ hro) (by simp) (by simp)).mono fun e w' ⟨v,he,hp⟩=> ?_
 obtain⟨⟨R,bs,f1,o1,f2,o2,hR,hres,_⟩,hm⟩:=hp
 have hRt:R= .bool true:=by
  cases bs with
  |nil=>exact hR.symm
  |cons=>cases hR
 subst hRt
 rw [hr]at hres
 have h2:zk0 P w' t s.res v (.bool true) f1 o1:=hres
 unfold zk0 at h2
 rw [hfl]at h2
 obtain⟨h3,_⟩:=h2
 have:v= .bool true:=by cases h3;rfl
 subst this
 exact⟨he,hm.below⟩
section
variable {P:Program} {t:TypeId} {Q:List AV→Prop} {H:Type} {enc:TypeId × Value→H} {w:World} {spare:Nat→Bool} {held:Bool} {v:Value} {d:DataW H} {p:List MemPlace} {r:Reach} {base:Nat}
theorem zkC (hO:OpA P t Q) (hc:v.cells= #[v]) (h:DataW.Trod enc P w 0 spare held t v d p): ∃x f,Rd w [v] [x] f∧Q [x]:=by
 obtain⟨n,h⟩:=h
 rw [hc]at h
 obtain⟨_,_,xs,f,hr,hq⟩:=hO.2 _ _ _ _ _ _ _ _ h
 have hl:=hr.len
 match xs,hl with
 | [x],_=>exact⟨x,f,hr,hq⟩
theorem zj3 {fs:Array Field} (hO:OpA P t Q) (ht:P.underlying t=some (.struct fs)) (hv:Value.okWide P w r base t v) (h:DataW.Trod enc P w 0 spare held t v d p): ∃xs f,Rd w [v] [.agg xs] f∧Q xs:=by
 obtain⟨n,h⟩:=h
 obtain⟨cs,rfl,_⟩:=okWide_struct ht hv
 obtain⟨_,h1,xs,f,hr,hq⟩:=hO.2 _ _ _ _ _ _ _ _ h
 refine⟨xs,f++ [], ?_,hq⟩
 have:=Rd.agg (w:=w) h1 hr .nil
 simpa [Value.cells]using this
theorem zsE {e:TypeId} (hO:OpA P t Q) (ht:P.underlying t=some (.slice e)) (hv:Value.okWide P w r base t v) (h:DataW.Trod enc P w 0 spare held t v d p): ∃x f,Rd w [v] [x] f∧Q [x]:=by
 obtain⟨a,l,c,rfl⟩:=okWide_slice ht hv
 exact zkC hO rfl h
theorem zui {k:IntKind} (hO:OpA P t Q) (ht:P.underlying t=some (.int k)) (hv:Value.okWide P w r base t v) (h:DataW.Trod enc P w 0 spare held t v d p): ∃x f,Rd w [v] [x] f∧Q [x]:=by
 obtain⟨n,rfl⟩:=okWide_int ht hv
 exact zkC hO rfl h
theorem zto (hO:OpA P t Q) (ht:P.underlying t=some .bool) (hv:Value.okWide P w r base t v) (h:DataW.Trod enc P w 0 spare held t v d p): ∃x f,Rd w [v] [x] f∧Q [x]:=by
 obtain⟨n,rfl⟩:=okWide_bool ht hv
 exact zkC hO rfl h
theorem zsb (hO:OpA P t Q) (ht:P.underlying t=some .string) (hv:Value.okWide P w r base t v) (h:DataW.Trod enc P w 0 spare held t v d p): ∃x f,Rd w [v] [x] f∧Q [x]:=by
 obtain⟨n,rfl⟩:=okWide_string ht hv
 exact zkC hO rfl h
end
end Go.Proofs.Ythgeekoigbihbaa
end
section
namespace Go.Proofs.Ythgeekoigbihbaa
open Go.ChangeShapes Go.WideShapes Go.ChangeAt Go.RowKit
theorem zsR {a b:Bool} (ha:a=true) (hb:b=true):(a&&b)=true:=by rw [ha,hb];rfl
def zkn (n:Int):Prop:= -9223372036854775808≤n∧n≤9223372036854775807
def zug (n:Int):Prop:=0≤n∧n≤255
def okB (_:Bool):Prop:=True
def znC (s:List UInt8):Prop:=s.length≤9223372036854775807
def okL {α:Type} (ok:α→Prop) (l:List α):Prop:=l.length≤9223372036854775807∧ ∀x∈l,ok x
theorem zul {n:Int} (h:InK .i64 n):zkn n:=by
 unfold InK at h
 rw [IntKind.wrap_i64]at h
 unfold zkn
 omega
theorem zuY {n:Int} (h:InK .u8 n):zug n:=by
 unfold InK at h
 simp only [IntKind.wrap,IntKind.bits,IntKind.signed]at h
 unfold zug
 simp at h
 omega
section
variable {P:Program} {t e:TypeId} {α:Type} {ok:α→Prop} {av:α→AV}
theorem ztU (ht:P.underlying t=some (.int .i64)) (hc:P.cellsOf t=1):OpA P t fun xs=> ∃n,zkn n∧xs= [zsD n]:=
 (zow ht hc).mono fun _ ⟨n,h,e⟩=>⟨n,zul h,e⟩
theorem zu9 (ht:P.underlying t=some (.int .u8)) (hc:P.cellsOf t=1):OpA P t fun xs=> ∃n,zug n∧xs= [zuR n]:=
 (zow ht hc).mono fun _ ⟨n,h,e⟩=>⟨n,zuY h,e⟩
theorem opB (ht:P.underlying t=some .bool) (hc:P.cellsOf t=1):OpA P t fun xs=> ∃b,okB b∧xs= [avB b]:=
 (zpM ht hc).mono fun _ ⟨b,e⟩=>⟨b,trivial,e⟩
theorem zum (ht:P.underlying t=some .string) (hc:P.cellsOf t=1):OpA P t fun xs=> ∃s,znC s∧xs= [zsn s]:=
 (znE ht hc).mono fun _ ⟨s,h,e⟩=>⟨s,h,e⟩
theorem znp: ∀{ys:List AV},(∀y∈ys,ElA true (fun xs=> ∃c,ok c∧ .agg xs=av c) y)→ ∃l:List α,(∀c∈l,ok c)∧ys=l.map av
 | [],_=>⟨[],by simp,rfl⟩
 |y::ys,h=>by
  obtain⟨l,hl,rfl⟩:=znp fun z hz=>h z (List.mem_cons_of_mem _ hz)
  have h0:=h y (List.mem_cons_self ..)
  simp only [ElA,if_true]at h0
  obtain⟨zs,rfl,c,hk,hc⟩:=h0
  exact⟨c::l,by simpa using⟨hk,hl⟩,by simp [hc]⟩
theorem zm6: ∀{ys:List AV},(∀y∈ys,ElA false (fun xs=> ∃c,ok c∧xs= [av c]) y)→ ∃l:List α,(∀c∈l,ok c)∧ys=l.map av
 | [],_=>⟨[],by simp,rfl⟩
 |y::ys,h=>by
  obtain⟨l,hl,rfl⟩:=zm6 fun z hz=>h z (List.mem_cons_of_mem _ hz)
  have h0:=h y (List.mem_cons_self ..)
  simp only [ElA,Bool.false_eq_true,if_false]at h0
  obtain⟨_,c,hk,hc⟩:=h0
  exact⟨c::l,by simpa using⟨hk,hl⟩,by simp at hc;simp [hc]⟩
theorem zst (ht:P.underlying t=some (.slice e)) (hc:P.cellsOf t=1) (he:OpA P e fun xs=> ∃c,ok c∧ .agg xs=av c):OpA P t fun xs=> ∃l:List α,okL ok l∧xs= [.sl (l.map av)]:=
 (zl1 true ht hc he (.inl rfl)).mono fun _ ⟨ys,hl,hy,e⟩=>by
  obtain⟨l,hk,rfl⟩:=znp hy
  exact⟨l,⟨by simpa using hl,hk⟩,e⟩
theorem zu0 (ht:P.underlying t=some (.slice e)) (hc:P.cellsOf t=1) (he1:P.cellsOf e=1) (he:OpA P e fun xs=> ∃c,ok c∧xs= [av c]):OpA P t fun xs=> ∃l:List α,okL ok l∧xs= [.sl (l.map av)]:=
 (zl1 false ht hc he (.inr he1)).mono fun _ ⟨ys,hl,hy,e⟩=>by
  obtain⟨l,hk,rfl⟩:=zm6 hy
  exact⟨l,⟨by simpa using hl,hk⟩,e⟩
end
end Go.Proofs.Ythgeekoigbihbaa
end
section
namespace Go.Proofs.Ythgeekoigbihbaa
open Go.RowKit
set_option maxRecDepth 100000
structure zab where
 fKey:List UInt8
 fVal:List UInt8
 fGone:Bool
@[simp] def zkR (x:zab):AV:= .agg [.str x.fKey, .str x.fVal, .bool x.fGone]
structure zaP where
 fTime:Int
 fRows:List zab
@[simp] def zo0 (x:zaP):AV:= .agg [.int .i64 x.fTime, .sl (x.fRows.map zkR)]
structure zaa where
 fTime:Int
 fGroup:Int
 fKey:List UInt8
 fVal:List UInt8
 fGone:Bool
@[simp] def zfF (x:zaa):AV:= .agg [.int .i64 x.fTime, .int .i64 x.fGroup, .str x.fKey, .str x.fVal, .bool x.fGone]
structure zbq where
 fFrom:Int
 fTo:Int
 fList:List zaa
@[simp] def zpb (x:zbq):AV:= .agg [.int .i64 x.fFrom, .int .i64 x.fTo, .sl (x.fList.map zfF)]
end Go.Proofs.Ythgeekoigbihbaa
end
section
namespace Go.Proofs.Ythgeekoigbihbaa
open Go.ChangeShapes Go.WideShapes Go.ChangeAt Go.RowKit
set_option maxRecDepth 100000
theorem op1:OpA Try.prog 3 fun xs=> ∃n,zkn n∧xs= [zsD n]:=ztU Try.underlying3 (by kernel_rfl)
theorem op4:OpA Try.prog 9 fun xs=> ∃s,znC s∧xs= [zsn s]:=zum Try.underlying9 (by kernel_rfl)
theorem op5:OpA Try.prog 4 fun xs=> ∃b,okB b∧xs= [avB b]:=opB Try.underlying4 (by kernel_rfl)
def ziR (x:zab):Prop:=znC x.fKey∧znC x.fVal∧okB x.fGone
theorem op3:OpA Try.prog 108 fun xs=> ∃x:zab,ziR x∧ .agg xs=zkR x:=
 (zfK Try.underlying108 (by decide+kernel) (by kernel_rfl) (.cons op4 (.cons op4 (.cons op5 .nil)))).mono fun _ ⟨_,_,e0,⟨x0,k0,h0⟩,_,_,e1,⟨x1,k1,h1⟩,_,_,e2,⟨x2,k2,h2⟩,hz⟩=>by
  subst h2 hz e2 h1 e1 h0 e0
  exact⟨⟨x0,x1,x2⟩,⟨k0,k1,k2⟩,by simp⟩
theorem op2:OpA Try.prog 22 fun xs=> ∃l:List zab,okL ziR l∧xs= [.sl (l.map zkR)]:=zst Try.underlying22 (by kernel_rfl) op3
def zpq (x:zaP):Prop:=zkn x.fTime∧(okL ziR) x.fRows
theorem op0:OpA Try.prog 24 fun xs=> ∃x:zaP,zpq x∧ .agg xs=zo0 x:=
 (zfK Try.underlying24 (by decide+kernel) (by kernel_rfl) (.cons op1 (.cons op2 .nil))).mono fun _ ⟨_,_,e0,⟨x0,k0,h0⟩,_,_,e1,⟨x1,k1,h1⟩,hz⟩=>by
  subst h1 hz e1 h0 e0
  exact⟨⟨x0,x1⟩,⟨k0,k1⟩,by simp⟩
def zer (x:zaa):Prop:=zkn x.fTime∧zkn x.fGroup∧znC x.fKey∧znC x.fVal∧okB x.fGone
theorem op8:OpA Try.prog 110 fun xs=> ∃x:zaa,zer x∧ .agg xs=zfF x:=
 (zfK Try.underlying110 (by decide+kernel) (by kernel_rfl) (.cons op1 (.cons op1 (.cons op4 (.cons op4 (.cons op5 .nil)))))).mono fun _ ⟨_,_,e0,⟨x0,k0,h0⟩,_,_,e1,⟨x1,k1,h1⟩,_,_,e2,⟨x2,k2,h2⟩,_,_,e3,⟨x3,k3,h3⟩,_,_,e4,⟨x4,k4,h4⟩,hz⟩=>by
  subst h4 hz e4 h3 e3 h2 e2 h1 e1 h0 e0
  exact⟨⟨x0,x1,x2,x3,x4⟩,⟨k0,k1,k2,k3,k4⟩,by simp⟩
theorem op7:OpA Try.prog 25 fun xs=> ∃l:List zaa,okL zer l∧xs= [.sl (l.map zfF)]:=zst Try.underlying25 (by kernel_rfl) op8
def zo5 (x:zbq):Prop:=zkn x.fFrom∧zkn x.fTo∧(okL zer) x.fList
theorem op6:OpA Try.prog 27 fun xs=> ∃x:zbq,zo5 x∧ .agg xs=zpb x:=
 (zfK Try.underlying27 (by decide+kernel) (by kernel_rfl) (.cons op1 (.cons op1 (.cons op7 .nil)))).mono fun _ ⟨_,_,e0,⟨x0,k0,h0⟩,_,_,e1,⟨x1,k1,h1⟩,_,_,e2,⟨x2,k2,h2⟩,hz⟩=>by
  subst h2 hz e2 h1 e1 h0 e0
  exact⟨⟨x0,x1,x2⟩,⟨k0,k1,k2⟩,by simp⟩
end Go.Proofs.Ythgeekoigbihbaa
end
section
namespace Go.Proofs.Ythgeekoigbihbaa
open Go.RowKit
theorem zau {α:Type} {xs:List α} {i:Nat} (h:i<xs.length):zdn xs (i:Int)=some xs[i]:=by simp [zdn,h]
theorem ztR {α:Type} {xs:List α} {i:Int} (h0:0≤i) (h:i<xs.length): ∃x,zdn xs i=some x∧x∈xs∧xs[i.toNat]?=some x:=by
 have hi:i.toNat<xs.length:=by omega
 exact⟨xs[i.toNat],by simp [zdn,h0,hi],List.getElem_mem hi,by simp [hi]⟩
theorem ztl {α:Type} {xs:List α} {i:Int} {x:α} (h:zdn xs i=some x):x∈xs:=by
 obtain⟨h1,h2,h3⟩:=zmN h
 exact List.mem_of_getElem? h3
theorem zdV {q n:Nat} (h:q<n) (hn:n≤9223372036854775807):IntKind.i64.wrap ((q:Int)+1)=((q+1:Nat):Int):=by rw [zbt (by omega) (by omega)];simp
theorem zcB {α:Type} {p:Prop} {k:Option α} (h:p):req p k=k:=by simp [req,h]
def goL {α σ β:Type} (step:α→σ→Option (σ ⊕ Option β)) (fin:σ→Option β):List α→σ→Option β
 | [],s=>fin s
 |x::xs,s=>match step x s with
  |none=>none
  |some (.inl s')=>goL step fin xs s'
  |some (.inr o)=>o
def zmr {σ τ β:Type} (f:σ→τ):Option (σ ⊕ Option β)→Option (τ ⊕ Option β)
 |none=>none
 |some (.inl s)=>some (.inl (f s))
 |some (.inr o)=>some (.inr o)
theorem zpi {α σ τ β:Type} {xs:List α} {body:τ→Option (τ ⊕ Option β)} (emb:Int→σ→τ) (step:α→σ→Option (σ ⊕ Option β)) (fin:σ→Option β) (q0:Nat)
  (hs: ∀(i:Nat) (hi:i<xs.length) (s:σ),q0≤i→body (emb i s)=zmr (emb ((i+1:Nat):Int)) (step xs[i] s)) (he: ∀s,body (emb xs.length s)=some (.inr (fin s))) (s:σ) (h0:q0≤xs.length):zaF body (emb q0 s)=goL step fin (xs.drop q0) s:=by
 have key: ∀(n q:Nat) (s:σ),q0≤q→q+n=xs.length→zaF body (emb q s)=goL step fin (xs.drop q) s:=by
  intro n
  induction n with
  |zero=>
   intro q s _ hq
   have:q=xs.length:=by omega
   subst this
   rw [zay,he s]
   simp [goL]
  |succ n ih=>
   intro q s h0 hq
   have hlt:q<xs.length:=by omega
   rw [zay,hs q hlt s h0,List.drop_eq_getElem_cons hlt]
   rcases hst:step xs[q] s with _|s'|o
   ·simp [goL,hst,zmr]
   ·simp only [goL,hst,zmr];exact ih (q+1) s' (by omega) (by omega)
   ·simp [goL,hst,zmr]
 exact key (xs.length-q0) q0 s (Nat.le_refl _) (by omega)
theorem zk9 {α σ τ β:Type} {xs:List α} {body:τ→Option (τ ⊕ Option β)} (emb:Int→σ→τ) (step:α→σ→Option (σ ⊕ Option β)) (fin:σ→Option β)
  (hs: ∀(i:Nat) (hi:i<xs.length) (s:σ),body (emb i s)=zmr (emb ((i+1:Nat):Int)) (step xs[i] s)) (he: ∀s,body (emb xs.length s)=some (.inr (fin s))) (s:σ):zaF body (emb 0 s)=goL step fin xs s:=by
 have:=zpi emb step fin 0 (fun i hi s _=>hs i hi s) he s (by omega)
 simpa using this
theorem zrp {α σ β:Type} {step:α→σ→Option (σ ⊕ Option β)} {fin:σ→Option β} {xs:List α} (p:α→Bool) (b:β) (h: ∀x∈xs,∀s,step x s=some (if p x=true then .inl s else .inr (some b))) (s:σ):goL step fin xs s=if xs.all p=true then fin s else some b:=by
 induction xs with
 |nil=>simp [goL]
 |cons x xs ih=>
  simp only [goL,h x (by simp) s]
  cases hp:p x with
  |true=>simp [hp,ih fun y hy=>h y (by simp [hy])]
  |false=>simp [hp]
theorem zqd {α σ β:Type} {step:α→σ→Option (σ ⊕ Option β)} {fin:σ→Option β} {xs:List α} (f:σ→α→σ) (I:σ→Prop) (hI: ∀x∈xs,∀s,I s→I (f s x)) (h: ∀x∈xs,∀s,I s→step x s=some (.inl (f s x))) {s:σ} (hs:I s):goL step fin xs s=fin (xs.foldl f s):=by
 induction xs generalizing s with
 |nil=>simp [goL]
 |cons x xs ih=>
  simp only [goL,h x (by simp) s hs,List.foldl_cons]
  exact ih (fun y hy=>hI y (by simp [hy])) (fun y hy=>h y (by simp [hy])) (hI x (by simp) s hs)
theorem zsd {α σ β:Type} {step:α→σ→Option (σ ⊕ Option β)} {fin:σ→Option β} (f:σ→α→σ) (n:Nat) (I:Nat→σ→Prop) {xs:List α} (h: ∀q,q<n→ ∀x∈xs,∀s,I q s→step x s=some (.inl (f s x))∧I (q+1) (f s x)) {q:Nat} {s:σ} (hq:q+xs.length≤n) (hs:I q s):goL step fin xs s=fin (xs.foldl f s)∧I (q+xs.length) (xs.foldl f s):=by
 induction xs generalizing s q with
 |nil=>exact⟨rfl,hs⟩
 |cons x xs ih=>
  simp only [List.length_cons]at hq
  obtain⟨h1,h2⟩:=h q (by omega) x (by simp) s hs
  simp only [goL,h1,List.foldl_cons,List.length_cons]
  have:=ih (fun q hq y hy=>h q hq y (by simp [hy])) (q:=q+1) (by omega) h2
  rw [show q+(xs.length+1)=q+1+xs.length by omega]
  exact this
theorem zfr {α σ τ β:Type} {xs:List α} {body:τ→Option (τ ⊕ Option β)} (emb:Int→σ→τ) (f:σ→α→σ) (fin:σ→Option β) (I:Nat→σ→Prop)
  (hs: ∀(i:Nat) (hi:i<xs.length) (s:σ),I i s→body (emb i s)=some (.inl (emb ((i+1:Nat):Int) (f s xs[i])))∧I (i+1) (f s xs[i])) (he: ∀s,I xs.length s→body (emb xs.length s)=some (.inr (fin s))) {s:σ} (h0:I 0 s):zaF body (emb 0 s)=fin (xs.foldl f s)∧I xs.length (xs.foldl f s):=by
 have key: ∀(n q:Nat) (s:σ),q+n=xs.length→I q s→zaF body (emb q s)=fin ((xs.drop q).foldl f s)∧I xs.length ((xs.drop q).foldl f s):=by
  intro n
  induction n with
  |zero=>
   intro q s hq hI
   have:q=xs.length:=by omega
   subst this
   rw [zay,he s hI]
   simp [hI]
  |succ n ih=>
   intro q s hq hI
   have hlt:q<xs.length:=by omega
   obtain⟨h1,h2⟩:=hs q hlt s hI
   rw [zay,h1,List.drop_eq_getElem_cons hlt,List.foldl_cons]
   exact ih (q+1) _ (by omega) h2
 have:=key xs.length 0 s (by omega) h0
 simpa using this
theorem zkg {α:Type} {xs:List α} {p:α→Option Bool} (q:α→Bool) (hp: ∀x∈xs,p x=some (q x)) (hn:xs.length≤9223372036854775806):zaE xs p=some (xs.any q):=by
 have key: ∀(l:List α) (i:Int),0≤i→(∀x∈l,p x=some (q x))→ ∃r,zjn p l i=some r∧decide (r≥0)=l.any q:=by
  intro l
  induction l with
  |nil=>intro i _ _;exact⟨-1,rfl,by simp⟩
  |cons x l ih=>
   intro i hi h
   simp only [zjn,h x (by simp),Option.bind_some]
   cases hq:q x with
   |true=>exact⟨i,by simp,by simp [hq,hi]⟩
   |false=>
    obtain⟨r,h1,h2⟩:=ih (i+1) (by omega) fun y hy=>h y (by simp [hy])
    exact⟨r,by simp [h1],by simp [hq,h2]⟩
 obtain⟨r,h1,h2⟩:=key xs 0 (by omega) hp
 simp [zaE,za9,zcB hn,h1,h2]
theorem zpY {α:Type} {b:Nat} {xs:List α} (h:(xs.length:Int)*b≤140737488355328) (h2:(xs.length:Int)≤140737488355328):zku b xs=some xs:=zcB ⟨h,h2⟩
theorem zgy {β:Type} {n:Nat} {body:Int→Option (Int ⊕ Option β)} (p:Nat→Bool) (b:β) (fin:Option β)
  (hs: ∀i:Nat,i<n→body i=some (if p i=true then .inl ((i+1:Nat):Int)else .inr (some b))) (he:body n=some (.inr fin)):zaF body 0=if(List.range n).all p=true then fin else some b:=by
 have h1:=zk9 (xs:=List.range n) (body:=body) (fun i (_:Unit)=>i) (fun i _=>some (if p i=true then .inl ()else .inr (some b))) (fun _=>fin)
  (fun i hi s=>by
   rw [List.length_range]at hi
   rw [hs i hi,List.getElem_range]
   cases p i<;>simp [zmr]) (fun s=>by simpa using he) ()
 rw [zrp p b fun x _ s=>rfl]at h1
 exact h1
def zg2 {α:Type} (p:α→Bool) (l:List α):Int:=match l.findIdx? p with|some i=>(i:Int)|none=> -1
theorem zgU {α:Type} (p:α→Bool):zg2 p []= -1:=rfl
theorem ze4 {α:Type} (p:α→Bool) (x:α) (l:List α):zg2 p (x::l)=if p x=true then 0 else if zg2 p l= -1 then-1 else zg2 p l+1:=by
 unfold zg2
 rw [List.findIdx?_cons]
 cases p x with
 |true=>simp
 |false=>
  cases h:l.findIdx? p with
  |none=>simp
  |some i=>simp<;>omega
theorem zjl {α:Type} (p:α→Bool) (l:List α): -1≤zg2 p l:=by
 unfold zg2
 split<;>omega
theorem zt2 {α:Type} (p:α→Bool) (l:List α):zg2 p l<l.length:=by
 induction l with
 |nil=>simp [zgU]
 |cons x l ih=>rw [ze4];split<;>(try split)<;>simp<;>omega
theorem ztf {α:Type} (p:α→Bool) (l:List α):decide (zg2 p l≥0)=l.any p:=by
 induction l with
 |nil=>simp [zgU]
 |cons x l ih=>
  have h1:=zjl p l
  rw [ze4,List.any_cons,←ih]
  cases p x with
  |true=>simp
  |false=>
   by_cases h:zg2 p l= -1
   ·simp [h]
   ·have:zg2 p l≥0:=by omega
    simp [h,this];try omega
theorem ztc {α:Type} {p:α→Bool} {l:List α} (h:zg2 p l≥0): ∃x,zdn l (zg2 p l)=some x∧p x=true∧x∈l:=by
 induction l with
 |nil=>simp [zgU]at h
 |cons y l ih=>
  rw [ze4]at h ⊢
  cases hy:p y with
  |true=>exact⟨y,by simp [zdn],hy,by simp⟩
  |false=>
   have h1:=zjl p l
   by_cases hm:zg2 p l= -1
   ·rw [hy,hm]at h;simp at h
   ·have h0:zg2 p l≥0:=by omega
    obtain⟨x,e1,e2,e3⟩:=ih h0
    obtain⟨_,e4,e5⟩:=zmN e1
    refine⟨x, ?_,e2,by simp [e3]⟩
    simp only [Bool.false_eq_true,if_false,hm]
    unfold zdn
    rw [if_pos (by omega),show(zg2 p l+1).toNat=(zg2 p l).toNat+1 by omega]
    simpa using e5
theorem ztb {α:Type} {xs:List α} {body:Int→Option (Int ⊕ Option Int)} (p:α→Bool) (hs: ∀(i:Nat) (hi:i<xs.length),body i=some (if p xs[i]=true then .inr (some (i:Int))else .inl ((i+1:Nat):Int))) (he:body xs.length=some (.inr (some (-1)))):zaF body 0=some (zg2 p xs):=by
 have key: ∀(n q:Nat),q+n=xs.length→zaF body q=some (if zg2 p (xs.drop q)= -1 then-1 else q+zg2 p (xs.drop q)):=by
  intro n
  induction n with
  |zero=>
   intro q hq
   have:q=xs.length:=by omega
   subst this
   rw [zay,he]
   simp [zgU]
  |succ n ih=>
   intro q hq
   have hlt:q<xs.length:=by omega
   rw [zay,hs q hlt,List.drop_eq_getElem_cons hlt,ze4]
   cases p xs[q]with
   |true=>simp
   |false=>
    simp only [Bool.false_eq_true,if_false]
    rw [ih (q+1) (by omega)]
    have h1:=zjl p (xs.drop (q+1))
    congr 1
    by_cases hm:zg2 p (xs.drop (q+1))= -1
    ·simp [hm]
    ·have h2: ¬(zg2 p (xs.drop (q+1))+1= -1):=by omega
     simp only [hm,if_false,h2]
     omega
 have h:=key xs.length 0 (by omega)
 rw [List.drop_zero]at h
 rw [show((0:Nat):Int)=0 from rfl]at h
 rw [h]
 have h1:=zjl p xs
 by_cases hm:zg2 p xs= -1
 ·simp [hm]
 ·simp [hm]
theorem zqL {α:Type} {xs:List α} {p:α→Option Bool} (q:α→Bool) (hp: ∀x∈xs,p x=some (q x)) (hn:xs.length≤9223372036854775806):za9 xs p=some (zg2 q xs):=by
 have key: ∀(l:List α) (i:Int),(∀x∈l,p x=some (q x))→zjn p l i=some (if zg2 q l= -1 then-1 else i+zg2 q l):=by
  intro l
  induction l with
  |nil=>intro i _;simp [zjn,zgU]
  |cons x l ih=>
   intro i h
   simp only [zjn,h x (by simp),Option.bind_some,ze4]
   cases q x with
   |true=>simp
   |false=>
    simp only [Bool.false_eq_true,if_false]
    rw [ih (i+1) fun y hy=>h y (by simp [hy])]
    have h1:=zjl q l
    congr 1
    by_cases hm:zg2 q l= -1
    ·simp [hm]
    ·have h2: ¬(zg2 q l+1= -1):=by omega
     simp only [hm,if_false,h2]
     omega
 unfold za9
 rw [zcB hn,key xs 0 hp]
 by_cases hm:zg2 q xs= -1
 ·simp [hm]
 ·simp [hm]
theorem zvb {α:Type} {b:Bool} {A B:Option α} {y:Option α} (ha:b=true→A=y) (hb:b=false→B=y):(if b=true then A else B)=y:=by
 cases b with
 |true=>simpa using ha rfl
 |false=>simpa using hb rfl
theorem zvf {α:Type} {b:Bool} {A B y:Option α} (h:b=false) (hb:B=y):(if b=true then A else B)=y:=by rw [if_neg (by simp [h])];exact hb
theorem zvd {α:Type} {b:Bool} {A B y:Option α} (h:b=true) (ha:A=y):(if b=true then A else B)=y:=by rw [if_pos h];exact ha
theorem zt3 {α β:Type} {o:Option α} {x:α} {f:α→Option β} (h:o=some x):o.bind f=f x:=by rw [h];rfl
end Go.Proofs.Ythgeekoigbihbaa
end
section
namespace Go.Proofs.Ythgeekoigbihbaa
open Go.RowKit
set_option maxRecDepth 100000
theorem zoz {α β:Type} (f:α→β) (l:List α) (o:List β):l.foldl (fun o x=>o++ [f x]) o=o++l.map f:=by
 induction l generalizing o with
 |nil=>simp
 |cons x l ih=>rw [List.foldl_cons,ih];simp
theorem zqV {α:Type} {xs:List α} {d:α} {body:Int × List α→Option ((Int × List α) ⊕ Option (List α))}
  (hs: ∀(i:Nat) (hi:i<xs.length) (v:List α),v.length=xs.length→body ((i:Int),v)=some (.inl (((i+1:Nat):Int),v.set i xs[i])))
  (he: ∀v,body ((xs.length:Int),v)=some (.inr (some v))):zaF body (0,List.replicate xs.length d)=some xs:=by
 have h1:=zfr (xs:=xs) (body:=body) (fun i (o:List α)=>(i,o++List.replicate (xs.length-i.toNat) d)) (fun(o:List α) x=>o++ [x]) (fun o=>some o) (fun i o=>o.length=i)
  (fun i hi o ho=>by
   refine⟨?_,by simp [ho]⟩
   rw [show((i:Int)).toNat=i from rfl,hs i hi _ (by simp [ho];omega)]
   congr 3
   obtain⟨k,hk⟩: ∃k,xs.length-i=k+1:=⟨xs.length-i-1,by omega⟩
   have h2:xs.length-(((i+1:Nat):Int)).toNat=k:=by rw [show(((i+1:Nat):Int)).toNat=i+1 from rfl];omega
   rw [h2,hk,List.replicate_succ]
   subst ho
   simp [List.set_append])
  (fun o ho=>by
   show body ((xs.length:Int),o++List.replicate (xs.length-((xs.length:Int)).toNat) d)=_
   rw [show((xs.length:Int)).toNat=xs.length from rfl,Nat.sub_self,List.replicate_zero,List.append_nil]
   exact he o) (s:=([]:List α)) rfl
 have h3:=h1.1
 rw [show(fun(o:List α) x=>o++ [x])=(fun o x=>o++ [id x])from rfl,zoz,List.map_id,List.nil_append]at h3
 exact h3
theorem zqT {n:Nat} {body:Int→Option (Int ⊕ Option Bool)} (hs: ∀i:Nat,i<n→body i=some (.inl ((i+1:Nat):Int))) (he:body n=some (.inr (some true))):zaF body 0=some true:=by
 have h:=zgy (n:=n) (body:=body) (fun _=>true) false (some true) (fun i hi=>by rw [hs i hi,if_pos rfl]) he
 rw [h,if_pos (by simp)]
theorem zvg {α:Type} {xs:List α} {body:Int × Int→Option ((Int × Int) ⊕ Option Int)} (P:α→Prop) {a:Int} (h0:0≤a) (h1:a≤1048576)
  (hs: ∀(i:Nat) (hi:i<xs.length) (b:Int),0≤b→b≤1048576→ ∃r,r≤b∧(0≤r→P xs[i])∧body (b,(i:Int))=some (if r<0 then .inr (some (-1))else .inl (r,((i+1:Nat):Int))))
  (he: ∀b,body (b,(xs.length:Int))=some (.inr (some b))): ∃v,zaF body (a,0)=some v∧v≤a∧(0≤v→ ∀x∈xs,P x):=by
 have key: ∀(n q:Nat) (b:Int),q+n=xs.length→0≤b→b≤1048576→ ∃v,zaF body (b,(q:Int))=some v∧v≤b∧(0≤v→ ∀x∈xs.drop q,P x):=by
  intro n
  induction n with
  |zero=>
   intro q b hq _ _
   have:q=xs.length:=by omega
   subst this
   exact⟨b,by rw [zay,he b],by omega,by simp⟩
  |succ n ih=>
   intro q b hq hb0 hb1
   have hlt:q<xs.length:=by omega
   obtain⟨r,e1,e2,e3⟩:=hs q hlt b hb0 hb1
   by_cases hr:r<0
   ·exact⟨-1,by rw [zay,e3,if_pos hr],by omega,by omega⟩
   ·obtain⟨v,f1,f2,f3⟩:=ih (q+1) r (by omega) (by omega) (by omega)
    refine⟨v,by rw [zay,e3,if_neg hr];exact f1,by omega,fun hv x hx=> ?_⟩
    rw [List.drop_eq_getElem_cons hlt]at hx
    rcases List.mem_cons.1 hx with hx|hx
    ·subst hx;exact e2 (by omega)
    ·exact f3 hv x hx
 have:=key xs.length 0 a (by omega) h0 h1
 simpa using this
theorem zfL {a:Int} {n:Nat} (h0:0≤a) (h1:a≤1048576) (hn:n≤9223372036854775807):IntKind.i64.wrap (a-(n:Int))=a-n:=zbt (by omega) (by omega)
end Go.Proofs.Ythgeekoigbihbaa
end
section
namespace Go.Proofs.Ythgeekoigbihbaa
open Go.RowKit
theorem zdX.rd {P:Program} {w:World} {ts:List TypeId} {ms:List PM} {vs:List Value} {xs:List AV} {rf hs:List Nat} (h:zdX P w ts ms vs xs rf hs):(∀m∈ms,m= .ro)→Rd w vs xs rf∧hs= []:=by
 induction h with
 |nil=>intro _;exact⟨.nil,rfl⟩
 | @cons t ts ms v vs x xs f h rf hs harg _ ih=>
  intro hms
  obtain⟨h1,rfl⟩:=ih fun m hm=>hms m (List.mem_of_mem_tail hm)
  have hro:ms.headD .ro= .ro:=by
   cases ms with
   |nil=>rfl
   |cons m ms=>exact hms m (by simp)
  rw [hro]at harg
  obtain⟨h2,h3⟩:Rd w [v] [x] f∧h= []:=harg
  subst h3
  exact⟨by simpa using h2.app h1,rfl⟩
 |free h1 _ ih=>
  intro hms
  obtain⟨h2,rfl⟩:=ih fun m hm=>hms m (List.mem_of_mem_tail hm)
  exact⟨by simpa using h1.app h2,rfl⟩
theorem zbF.allRo {P:Program} {w:World}: ∀{ts:List TypeId} {ms:List PM} {vs:List Value},vs.length=ts.length→(∀m∈ms,m= .ro)→zbF P w ts ms vs [] [] []
 | [],_,vs,_,_=> .nil
 |t::ts,ms, [],h,_=>by simp at h
 |t::ts,ms,v::vs,h,hms=>by
  refine .ro ?_ (zbF.allRo (by simpa using h) fun m hm=>hms m (List.mem_of_mem_tail hm))
  cases ms with
  |nil=>rfl
  |cons m ms=>exact hms m (by simp)
def zuI (P:Program) (sg:SgT) (f:Nat) (np:Nat) (r:AV):Bool:=
 match P.funcs[f]?,sg f with
 |some fn,some s=>fn.body.isSome&& !(fn.name== "runtime.NumGoroutine")&&zgl P fn s r&&s.modes.all (fun m=>match m with| .ro=>true|_=>false)&&fn.params.size==np&&fn.nfree==0&&(match fn.resultTypes.toList with| [t]=> !zgJ P t s.res|_=>false)
 |_,_=>false
theorem zq6 {f:Nat} {xs:List AV} {r:AV} (hk:zuI Try.prog sgs f xs.length r=true) (hc: ∀(w:World) (vs:List Value) (rf:List Nat),Rd w vs xs rf→Calls Try.prog f vs.toArray w fun e w'=>Mod [] w w'∧ ∃v f1,e= .returned v∧Rd w' [v] [r] f1∧ ∀b∈f1,b∈rf∨w.heap.size≤b):Rts Try.prog sgs f xs r:=by
 unfold zuI at hk
 split at hk
 ·rename_i fn s hf hs
  simp only [Bool.and_eq_true,Bool.not_eq_true',beq_iff_eq,List.all_eq_true]at hk
  obtain⟨⟨⟨⟨⟨⟨h1,h2⟩,h3⟩,h4⟩,h5⟩,h6⟩,h7⟩:=hk
  have hro: ∀m∈s.modes,m= .ro:=fun m hm=>by
   have:=h4 m hm
   split at this
   ·rfl
   ·cases this
  unfold Rts
  rw [if_pos (zlE f s hs)]
  refine⟨s,hs,fn,hf,h1,h2,h3,by omega,fun w vs rf hs' hargs hd hnd=> ?_⟩
  obtain⟨hr,rfl⟩:=hargs.rd hro
  refine(hc w vs rf hr).mono ?_
  rintro e w' ⟨hm,v,f1,rfl,hv,hb⟩
  refine⟨v,rfl,⟨⟨r, [],f1, [], [], [],rfl, ?_,zbF.allRo ?_ hro,by simp,by simp,fun b hb'=>⟨by simp, ?_⟩⟩,hm⟩⟩
  ·unfold zpx
   split at h7
   ·rename_i t ht
    rw [ht]
    show zk0 Try.prog w' t s.res v r f1 []
    unfold zk0
    rw [if_neg (by rw [Bool.not_eq_true];simpa using h7)]
    exact⟨hv,rfl⟩
   ·cases h7
  ·rw [hr.len];simp;omega
  ·rcases hb b (by simpa using hb')with h|h
   ·exact .inl h
   ·exact .inr (.inr h)
 ·cases hk
theorem zsV {w:World} {s:List UInt8} {vs:List Value} {xs:List AV} {f:List Nat} (h:Rd w vs (.str s::xs) f): ∃(b:ByteArray) (us:List Value),vs= .string b::us∧b.data.toList=s∧b.size≤9223372036854775807∧Rd w us xs f:=by
 cases h with
 |str a h=>exact⟨_,_,rfl,rfl,a,h⟩
theorem zqR {w:World} {k:IntKind} {n:Int} {vs:List Value} {xs:List AV} {f:List Nat} (h:Rd w vs (.int k n::xs) f): ∃us:List Value,vs= .int k n::us∧InK k n∧Rd w us xs f:=by
 cases h with
 |int a h=>exact⟨_,rfl,a,h⟩
theorem zoA {w:World} {vs:List Value} {f:List Nat} (h:Rd w vs [] f):vs= []∧f= []:=by
 cases h;exact⟨rfl,rfl⟩
end Go.Proofs.Ythgeekoigbihbaa
end
section
namespace Go.Proofs.Ythgeekoigbihbaa
open Go.RowKit
def zem {α:Type} (p:α→Option Bool):List α→Option (List α)
 | []=>some []
 |x::xs=>(p x).bind fun b=>(zem p xs).bind fun r=>some (if b=true then r else x::r)
noncomputable def zef {α:Type} (xs:List α) (p:α→Option Bool):Option (List α):=req (xs.length≤9223372036854775806) (zem p xs)
theorem zjX {α:Type} {p:α→Option Bool} (q:α→Bool): ∀{l:List α},(∀x∈l,p x=some (q x))→zem p l=some (l.filter fun x=> !q x)
 | [],_=>rfl
 |x::l,h=>by
  have e:=zjX (p:=p) q (l:=l) fun y hy=>h y (List.mem_cons_of_mem _ hy)
  simp only [zem,h x (by simp),e,Option.bind_some,List.filter_cons]
  cases q x<;>rfl
theorem zlV {α:Type} {p:α→Option Bool} {l r:List α} {q:Nat} (hq:q<l.length) (h:zem p (l.drop q)=some r): ∃b r',p l[q]=some b∧zem p (l.drop (q+1))=some r'∧r=if b=true then r' else l[q]::r':=by
 rw [List.drop_eq_getElem_cons hq]at h
 obtain⟨b,hb,h⟩:=zhN h
 obtain⟨r',hr,h⟩:=zhN h
 exact⟨b,r',hb,hr,by simpa using h.symm⟩
theorem zjh {α:Type} {p:α→Option Bool}: ∀{l r:List α} (i:Int),zem p l=some r→(zjn p l i=some (-1)∧r=l)∨ ∃k r',k<l.length∧zjn p l i=some (i+(k:Nat))∧zem p (l.drop (k+1))=some r'∧r=l.take k++r'
 | [],r,i,h=>by cases h;exact .inl ⟨rfl,rfl⟩
 |x::l,r,i,h=>by
  obtain⟨b,hb,h⟩:=zhN h
  obtain⟨r1,hr,h⟩:=zhN h
  cases b with
  |true=>
   have:r1=r:=by simpa using h
   subst this
   exact .inr ⟨0,r1,by simp,by simp [zjn,hb],by simpa using hr,by simp⟩
  |false=>
   have:r=x::r1:=by simpa using h.symm
   subst this
   rcases zjh (i+1) hr with⟨h1,rfl⟩|⟨k,r',h1,h2,h3,rfl⟩
   ·exact .inl ⟨by simp [zjn,hb,h1],rfl⟩
   ·exact .inr ⟨k+1,r',by simp;omega,by simp [zjn,hb,h2];omega,by simpa using h3,by simp⟩
def zs3 (ck:List Cn) (k:Tr):Tr:=ck.foldr (fun c k=> .chk [] c k) k
section
variable {Rt:Nat→List AV→AV→Prop} {R:AV→Prop} {L:LK} {js:List JK} {ρ:List AV}
theorem znf: ∀{ck:List Cn} {k:Tr},(∀c∈ck,c.den ρ)→k.den Rt R L js ρ→(zs3 ck k).den Rt R L js ρ
 | [],_,_,hk=>hk
 |c::ck,k,h,hk=>⟨fun _=>h c (by simp),znf (fun q hq=>h q (by simp [hq])) hk⟩
theorem zpR {t k:Tr} {K:List AV→Prop} (hK: ∀vs,K vs→k.den Rt R L js (ρ++vs)) (ht: ∀j:JK,(∀vs,K vs→j vs)→t.den Rt R L (j::js) ρ):(Tr.join t k).den Rt R L js ρ:=ht _ hK
end
def zre (fi cn:Nat) (g:Bool) (X:E) (ck:List Cn) (z:E):Tr:=
 .call [] (.inl fi) (.cons (.var 0) (.cons (.var 1) .nil))<|
 .chk [] (.dfd (.bin .eql (.var 2) (.int .i64 (-1))))<|
 .ite (.bin .eql (.var 2) (.int .i64 (-1))) (
  .ret (.var 0)) (
  .chk [] (.dfd (.bin .add (.var 2) (.int .i64 (1))))<|
  .loop (.cons (.var 2) (.cons (.bin .add (.var 2) (.int .i64 (1))) (.cons (.var 0) .nil))) (
  .chk [] (.dfd (.len (.var 5)))<|
  .chk [] (.dfd (.bin .lss (.var 4) (.len (.var 5))))<|
  .ite (.bin .lss (.var 4) (.len (.var 5))) (
   .join (
   .chk [] (.inb (.var 4) (.var 5) cn)<|
   zs3 ck<|
   .call [] (.inr (.var 1)) (.cons X .nil)<|
   .chk [] (.dfd (.not (.var 6)))<|
   .ite (.not (.var 6)) (
    .chk [] (.inb (.var 3) (.var 5) cn)<|
    .chk [] (.flat X cn g)<|
    .chk [] (.flat (.fld (.idx (.var 5) (.var 3)) 0 cn g) cn g)<|
    .chk [] (.dfd (.bin .add (.var 3) (.int .i64 (1))))<|
    .jmp 0 (.cons (.bin .add (.var 3) (.int .i64 (1))) (.cons (.set (.var 5) (.var 3) (.put (.idx (.var 5) (.var 3)) 0 X g)) .nil))) (
    .jmp 0 (.cons (.var 3) (.cons (.var 5) .nil)))) (
   .chk [] (.dfd (.bin .add (.var 4) (.int .i64 (1))))<|
   .jmp 0 (.cons (.var 6) (.cons (.bin .add (.var 4) (.int .i64 (1))) (.cons (.var 7) .nil))))) (
   .jmp 1 (.cons (.var 3) (.cons (.var 5) .nil)))) (
  .chk [] (.win (.var 4) (.var 3) (.len (.var 4)))<|
  .chk [] (.win (.var 4) (.var 3) (.len (.var 4)))<|
  .chk [] (.dfd (.bin .sub (.len (.var 4)) (.var 3)))<|
  .chk [] (.win (.app (.win (.var 4) (.int .i64 (0)) (.var 3)) (.rep (.bin .sub (.len (.var 4)) (.var 3)) z)) (.int .i64 (0)) (.var 3))<|
  .ret (.win (.app (.win (.var 4) (.int .i64 (0)) (.var 3)) (.rep (.bin .sub (.len (.var 4)) (.var 3)) z)) (.int .i64 (0)) (.var 3))))
theorem zrq {α:Type} {av:α→AV} {l r:List α} {p:α→Option Bool} {fi cn g9:Nat} {g:Bool} {X z:E} {ck:List Cn} {caps:List AV}
  (hs: ∀x,(av x).cells.length=cn∧(∀z∈(av x).cells,z.scalar=true)∧(g=true→ ∃cs,av x= .agg cs)∧(g=false→(av x).scalar=true)) (hcn:0<cn)
  (hX: ∀(a b c d:AV) (j:Nat) (ys:List AV) (x:α) (tl:List AV),ys[j]?=some (av x)→X.den ([a,b,c,d, .int .i64 j, .sl ys]++tl)=av x)
  (hck: ∀(a b c d:AV) (j:Nat) (ys:List AV) (x:α),ys[j]?=some (av x)→ ∀q∈ck,q.den [a,b,c,d, .int .i64 j, .sl ys])
  (h:zef l p=some r) (hi: ∀i,za9 l p=some i→Rts Try.prog sgs fi [.sl (l.map av), .fn g9 caps] (.int .i64 i))
  (hf: ∀x b,p x=some b→Rts Try.prog sgs (1000000+g9) (av x::caps) (.bool b)):Den (zre fi cn g X ck z) (.sl (r.map av)) [.sl (l.map av), .fn g9 caps]:=by
 obtain⟨hn,h⟩:=zmU h
 unfold Den zre
 have hput: ∀x y:α,(av y).putF 0 (av x) g=av x:=by
  intro x y
  cases g with
  |false=>rfl
  |true=>
   obtain⟨cs,hcs⟩:=(hs x).2.2.1 rfl
   have e1:=(hs x).1
   have e2:=(hs y).1
   have e3:(av x).cells=cs:=by rw [hcs];rfl
   have e4:(av y).cells.drop (0+cs.length)= []:=List.drop_eq_nil_of_le (by rw [e2,←e1,e3];omega)
   show AV.agg ((av y).cells.take 0++(av x).cells++(av y).cells.drop (0+(av x).cells.length))=av x
   rw [e3,e4,List.append_nil,List.take_zero,List.nil_append,hcs]
 have hfld: ∀x:α,(av x).fld 0 cn g=av x:=by
  intro x
  cases g with
  |false=>
   have:=zla ((hs x).2.2.2 rfl)
   simp [AV.fld,this]
  |true=>
   obtain⟨cs,hcs⟩:=(hs x).2.2.1 rfl
   have e1:=(hs x).1
   rw [hcs]at e1 ⊢
   simp only [AV.fld,if_true,AV.cells]at e1 ⊢
   rw [List.drop_zero,List.take_of_length_le (by omega)]
 have hflat: ∀(e:E) (ρ:List AV) (x:α),e.den ρ=av x→Cn.den ρ (.flat e cn g):=fun e ρ x he=>by
  show(e.den ρ).cells.length=cn∧(∀y∈(e.den ρ).cells,y.scalar=true)∧(g=true→ ∃cs,e.den ρ= .agg cs)∧(g=false→(e.den ρ).scalar=true)
  rw [he];exact hs x
 rcases zjh 0 h with⟨h1,rfl⟩|⟨k0,r0,hk0,h1,h2,rfl⟩
 ·refine zh2 (r:= .int .i64 (-1)) (fun _=>hi _ (by unfold za9;rw [show req (r.length≤9223372036854775806) (zjn p r 0)=zjn p r 0 from if_pos hn];exact h1)) ?_
  exact zas (by simp [zav]) (zbi (t:=true) (by simp [zav]) (fun _=>zdG (by simp)) (by simp))
 ·refine zh2 (r:= .int .i64 k0) (fun _=>hi _ (by unfold za9;rw [show req (l.length≤9223372036854775806) (zjn p l 0)=zjn p l 0 from if_pos hn,h1];simp)) ?_
  have hw:IntKind.i64.wrap ((k0:Int)+1)=k0+1:=zbt (by omega) (by omega)
  refine zas (by simp [zav]) (zbi (t:=false) (by simp [zav];try omega) (by simp) fun _=>zas (by simp [zav]) ?_)
  refine zkF zeC (fun m vs=> ∃(j:Nat) (K zs r':List α),j+m=l.length∧vs= [.int .i64 K.length, .int .i64 j, .sl (zs.map av)]∧K.length<j∧zs.length=l.length∧zs.take K.length=K∧zs.drop j=l.drop j∧zem p (l.drop j)=some r'∧l.take k0++r0=K++r') (m:=l.length-(k0+1))
   ⟨k0+1,l.take k0,l,r0,by omega, ?_,by simp;omega,rfl,by simp [Nat.min_eq_left (Nat.le_of_lt hk0)],rfl,h2,rfl⟩ ?_
  ·simp [zav,hw,Nat.min_eq_left (Nat.le_of_lt hk0)]
  rintro m vs ⟨j,K,zs,r',hj,rfl,hKj,hyl,hyt,hyd,hr',hres⟩
  refine zas (by simp) (zas (by simp [zav]) ?_)
  by_cases hlt:j<l.length
  ·refine zbi (t:=true) (by simp [zav,hyl,hlt]) (fun _=> ?_) (by simp)
   obtain⟨b,r2,hb,hr2,hrr⟩:=zlV hlt hr'
   have hzj:zs[j]?=some l[j]:=by
    have:=congrArg (fun L=>L[0]?) hyd
    simpa [hlt]using this
   have hyj:(zs.map av)[j]?=some (av l[j]):=by simp [hzj]
   have hKlt:K.length<zs.length:=by omega
   have hwj:IntKind.i64.wrap ((j:Int)+1)=j+1:=zbt (by omega) (by omega)
   have hwK:IntKind.i64.wrap ((K.length:Int)+1)=K.length+1:=zbt (by omega) (by omega)
   refine zpR (K:=fun us=> ∃(K' zs':List α),us= [.int .i64 K'.length, .sl (zs'.map av)]∧K'.length<j+1∧zs'.length=l.length∧zs'.take K'.length=K'∧zs'.drop (j+1)=l.drop (j+1)∧l.take k0++r0=K'++r2) ?_ ?_
   ·rintro us ⟨K',zs',rfl,a1,a2,a3,a4,a5⟩
    refine zas (by simp [zav]) (zfC ⟨m-1,by omega,j+1,K',zs',r2,by omega, ?_,a1,a2,a3,a4,hr2,a5⟩)
    simp [zav,hwj]
   ·intro J hJ
    refine zas (fun _=>⟨.i64,j,zs.length,by simp,by omega,by simp,by omega, ?_⟩) (znf (hck _ _ _ _ j (zs.map av) _ hyj) (ziV (r:= .bool b) (fun _=>⟨g9,caps,by simp, ?_,by simp⟩) ?_))
    ·simp [AV.nth,hzj,(hs l[j]).1]
    ·have e1:=hX (.sl (l.map av)) (.fn g9 caps) (.int .i64 k0) (.int .i64 K.length) j (zs.map av) l[j] [] hyj
     rw [List.append_nil]at e1
     show Rts Try.prog sgs (1000000+g9) ([X.den [.sl (l.map av), .fn g9 caps, .int .i64 k0, .int .i64 K.length, .int .i64 j, .sl (zs.map av)]]++caps) (.bool b)
     rw [e1]
     exact hf _ _ hb
    ·refine zas (by simp) ?_
     have e2:=hX (.sl (l.map av)) (.fn g9 caps) (.int .i64 k0) (.int .i64 K.length) j (zs.map av) l[j] [.bool b] hyj
     cases b with
     |true=>
      refine zbi (t:=false) (by simp) (by simp) fun _=>zfC (hJ _ ⟨K,zs,by simp,by omega,hyl,hyt, ?_,by rw [hres,hrr];simp⟩)
      have:=congrArg (List.drop 1) hyd
      simpa [List.drop_drop]using this
     |false=>
      refine zbi (t:=true) (by simp) (fun _=> ?_) (by simp)
      obtain⟨zk,hzk⟩: ∃zk,zs[K.length]?=some zk:=⟨zs[K.length],by simp [hKlt]⟩
      have e3:(E.idx (.var 5) (.var 3)).den ([AV.sl (l.map av), .fn g9 caps, .int .i64 k0, .int .i64 K.length, .int .i64 j, .sl (zs.map av)]++ [.bool false])=av zk:=by
       simp [AV.nth,hzk]
      refine zas (fun _=>⟨.i64,K.length,zs.length,by simp,by omega,by simp,by omega, ?_⟩) (zas (fun _=>hflat _ _ _ e2) (zas (fun _=>hflat _ _ zk ?_) (zas (by simp [zav]) (zfC (hJ _ ⟨K++ [l[j]],zs.set K.length l[j], ?_,by simp;omega,by simpa using hyl, ?_, ?_,by rw [hres,hrr];simp⟩)))))
      ·simp [AV.nth,hzk,(hs zk).1]
      ·exact(congrArg (fun y=>AV.fld y 0 cn g) e3).trans (hfld zk)
      ·have e4:(E.set (.var 5) (.var 3) (.put (.idx (.var 5) (.var 3)) 0 X g)).den ([AV.sl (l.map av), .fn g9 caps, .int .i64 k0, .int .i64 K.length, .int .i64 j, .sl (zs.map av)]++ [.bool false])= .sl ((zs.set K.length l[j]).map av):=by
        show AV.setNth _ _ (AV.putF ((E.idx (.var 5) (.var 3)).den _) 0 (X.den _) g)=_
        rw [e3,e2,hput]
        simp [AV.setNth,List.map_set]
       show EL.den _ (.cons (.bin .add (.var 3) (.int .i64 1)) (.cons (.set (.var 5) (.var 3) (.put (.idx (.var 5) (.var 3)) 0 X g)) .nil))=_
       simp only [EL.den]
       have e5:(E.bin .add (.var 3) (.int .i64 1)).den ([AV.sl (l.map av), .fn g9 caps, .int .i64 k0, .int .i64 K.length, .int .i64 j, .sl (zs.map av)]++ [.bool false])= .int .i64 ((K++ [l[j]]).length:Int):=by
        simp [zav,hwK]
       congr 1
       congr 1
      ·rw [List.length_append,List.length_singleton,List.take_add_one,List.take_set_of_le (Nat.le_refl _),hyt]
       simp [hKlt]
      ·rw [List.drop_set_of_lt (by omega)]
       have:=congrArg (List.drop 1) hyd
       simpa [List.drop_drop]using this
  ·have hje:j=l.length:=by omega
   subst hje
   refine zbi (t:=false) (by simp [zav,hyl]) (by simp) fun _=>zh4 ?_
   have hr0:r'= []:=by
    rw [List.drop_eq_nil_of_le (Nat.le_refl _)]at hr'
    exact(by simpa [zem]using hr'.symm)
   subst hr0
   rw [hres,List.append_nil]
   have hwn:IntKind.i64.wrap ((zs.length:Int)-K.length)=zs.length-K.length:=zbt (by omega) (by omega)
   have d3:(E.var 3).den ([AV.sl (l.map av),AV.fn g9 caps]++ [AV.int .i64 (k0:Int)]++ [AV.int .i64 (K.length:Int),AV.sl (zs.map av)])= .int .i64 K.length:=by simp
   have d4:(E.var 4).den ([AV.sl (l.map av),AV.fn g9 caps]++ [AV.int .i64 (k0:Int)]++ [AV.int .i64 (K.length:Int),AV.sl (zs.map av)])= .sl (zs.map av):=by simp
   have dm:(E.bin .sub (.len (.var 4)) (.var 3)).den ([AV.sl (l.map av),AV.fn g9 caps]++ [AV.int .i64 (k0:Int)]++ [AV.int .i64 (K.length:Int),AV.sl (zs.map av)])= .int .i64 ((zs.length:Int)-K.length):=by simp [zav,hwn]
   have hwin:Cn.den ([AV.sl (l.map av),AV.fn g9 caps]++ [AV.int .i64 (k0:Int)]++ [AV.int .i64 (K.length:Int),AV.sl (zs.map av)]) (.win (.var 4) (.var 3) (.len (.var 4))):=⟨.i64,K.length, .i64,zs.length,zs.length,d3,by simp,by rw [d4];simp,by omega,by omega,by omega⟩
   have dapp:(E.app (.win (.var 4) (.int .i64 (0)) (.var 3)) (.rep (.bin .sub (.len (.var 4)) (.var 3)) z)).den ([AV.sl (l.map av),AV.fn g9 caps]++ [AV.int .i64 (k0:Int)]++ [AV.int .i64 (K.length:Int),AV.sl (zs.map av)])= .sl ((zs.map av).take K.length++List.replicate (zs.length-K.length) (z.den ([AV.sl (l.map av),AV.fn g9 caps]++ [AV.int .i64 (k0:Int)]++ [AV.int .i64 (K.length:Int),AV.sl (zs.map av)]))):=by
    show AV.app (AV.win ((E.var 4).den _) (.int .i64 0) ((E.var 3).den _)) (AV.rep ((E.bin .sub (.len (.var 4)) (.var 3)).den _) _)=_
    rw [d3,d4,dm]
    simp only [AV.win,AV.rep,AV.app,Int.toNat_natCast,Int.toNat_zero,List.drop_zero]
    congr 3;omega
   refine zas (fun _=>hwin) (zas (fun _=>hwin) (zas (fun _=>fun hu=>by have:=dm.symm.trans hu;simp at this) (zas (fun _=>⟨.i64,0, .i64,K.length,zs.length,rfl,d3, ?_,by omega,by omega,by omega⟩) (zdG ?_))))
   ·refine(congrArg AV.len dapp).trans ?_
    simp only [AV.len,List.length_append,List.length_take,List.length_map,List.length_replicate]
    congr 1;omega
   ·refine(congrArg (fun y=>AV.win y (.int .i64 0) (.int .i64 K.length)) dapp).trans ?_
    simp only [AV.win,Int.toNat_natCast,Int.toNat_zero,List.drop_zero]
    rw [List.take_append_of_le_length (by simp;omega),List.take_take,Nat.min_self,←List.map_take,hyt]
end Go.Proofs.Ythgeekoigbihbaa
end
section
namespace Go.Proofs
open Go.Shelf
def Try.lays128_ren:Go.Shelf.Ren:=⟨fun|128=>145|n=>n,fun|51=>175|3=>3|4=>4|46=>157|5=>5|9=>9|n=>n,fun|n=>n⟩
theorem Try.lays128:Go.Proofs.Lays.n128 Try.prog Try.lays128_ren:={
 mixed:=by kernel_rfl
 f128:=Try.func145.trans (congrArg some (by kernel_rfl))
 t3:=Try.underlying3
 a3:=Try.isAgg3
 z3:=Try.sizeOf3
 v3:=Try.zeroValue3
 t4:=Try.underlying4
 a4:=Try.isAgg4
 z4:=Try.sizeOf4
 v4:=Try.zeroValue4
 t5:=Try.underlying5
 a5:=Try.isAgg5
 z5:=Try.sizeOf5
 v5:=Try.zeroValue5
 t9:=Try.underlying9
 a9:=Try.isAgg9
 z9:=Try.sizeOf9
 v9:=Try.zeroValue9
 t46:=Try.underlying157
 a46:=Try.isAgg157
 z46:=Try.sizeOf157
 v46:=Try.zeroValue157
 t51:=Try.underlying175
 a51:=Try.isAgg175
 z51:=Try.sizeOf175
 v51:=Try.zeroValue175}
theorem Try.bits_Len32 (x:Int) (w:World) (h0:0≤x) (h1:x≤4294967295):
  Calls Try.prog 145 #[.int .u32 x] w fun e w'=>e= .returned (.int .i64 (Lib.bitLen x.toNat))∧w'=w:=Any.bits_Len32 Try.lays128 x w h0 h1
def Try.lays125_ren:Go.Shelf.Ren:=⟨fun|125=>119|128=>145|129=>146|n=>n,fun|46=>157|3=>3|51=>175|53=>80|4=>4|5=>5|9=>9|n=>n,fun|n=>n⟩
theorem Try.lays125:Go.Proofs.Lays.n125 Try.prog Try.lays125_ren:={
 mixed:=by kernel_rfl
 f125:=Try.func119.trans (congrArg some (by kernel_rfl))
 f128:=Try.func145.trans (congrArg some (by kernel_rfl))
 f129:=Try.func146.trans (congrArg some (by kernel_rfl))
 t3:=Try.underlying3
 a3:=Try.isAgg3
 z3:=Try.sizeOf3
 v3:=Try.zeroValue3
 t4:=Try.underlying4
 a4:=Try.isAgg4
 z4:=Try.sizeOf4
 v4:=Try.zeroValue4
 t5:=Try.underlying5
 a5:=Try.isAgg5
 z5:=Try.sizeOf5
 v5:=Try.zeroValue5
 t9:=Try.underlying9
 a9:=Try.isAgg9
 z9:=Try.sizeOf9
 v9:=Try.zeroValue9
 t46:=Try.underlying157
 a46:=Try.isAgg157
 z46:=Try.sizeOf157
 v46:=Try.zeroValue157
 t51:=Try.underlying175
 a51:=Try.isAgg175
 z51:=Try.sizeOf175
 v51:=Try.zeroValue175
 t53:=Try.underlying80
 a53:=Try.isAgg80
 z53:=Try.sizeOf80
 v53:=Try.zeroValue80}
theorem Try.bits_Len (x:Int) (w:World) (h0:0≤x) (h1:x≤18446744073709551615):
  Calls Try.prog 119 #[.int .u64 x] w fun e w'=>e= .returned (.int .i64 (Lib.bitLen x.toNat))∧w'=w:=Any.bits_Len Try.lays125 x w h0 h1
def Try.lays137_ren:Go.Shelf.Ren:=⟨fun|137=>152|217=>158|266=>160|n=>n,fun|9=>9|5=>5|3=>3|n=>n,fun|n=>n⟩
theorem Try.lays137:Go.Proofs.Lays.n137 Try.prog Try.lays137_ren:={
 mixed:=by kernel_rfl
 f137:=Try.func152.trans (congrArg some (by kernel_rfl))
 f217:=Try.func158.trans (congrArg some (by kernel_rfl))
 f266:=Try.func160.trans (congrArg some (by kernel_rfl))
 t3:=Try.underlying3
 a3:=Try.isAgg3
 z3:=Try.sizeOf3
 v3:=Try.zeroValue3
 t5:=Try.underlying5
 a5:=Try.isAgg5
 z5:=Try.sizeOf5
 v5:=Try.zeroValue5
 t9:=Try.underlying9
 a9:=Try.isAgg9
 z9:=Try.sizeOf9
 v9:=Try.zeroValue9}
open Go.RowKit in
theorem Try.strings_IndexByte (s:ByteArray) (c:Int) (w:World):
  Calls Try.prog 152 #[.string s, .int .u8 c] w fun e w'=>e= .returned (.int .i64 (Lib.indexByte s.data.toList c.toNat.toUInt8))∧w'=w:=Any.strings_IndexByte Try.lays137 s c w
def Try.lays215_ren:Go.Shelf.Ren:=⟨fun|215=>147|n=>n,fun|3=>3|4=>4|n=>n,fun|n=>n⟩
theorem Try.lays215:Go.Proofs.Lays.n215 Try.prog Try.lays215_ren:={
 mixed:=by kernel_rfl
 f215:=Try.func147.trans (congrArg some (by kernel_rfl))
 t3:=Try.underlying3
 a3:=Try.isAgg3
 z3:=Try.sizeOf3
 v3:=Try.zeroValue3
 t4:=Try.underlying4
 a4:=Try.isAgg4
 z4:=Try.sizeOf4
 v4:=Try.zeroValue4}
open Go.RowKit in
theorem Try.cmp_isNaN_int (x:Int) (w:World):
  Calls Try.prog 147 #[.int .i64 x] w fun e w'=>e= .returned (.bool false)∧w'=w:=Any.cmp_isNaN_int Try.lays215 x w
def Try.lays122_ren:Go.Shelf.Ren:=⟨fun|122=>121|215=>147|n=>n,fun|3=>3|4=>4|n=>n,fun|n=>n⟩
theorem Try.lays122:Go.Proofs.Lays.n122 Try.prog Try.lays122_ren:={
 mixed:=by kernel_rfl
 f122:=Try.func121.trans (congrArg some (by kernel_rfl))
 f215:=Try.func147.trans (congrArg some (by kernel_rfl))
 t3:=Try.underlying3
 a3:=Try.isAgg3
 z3:=Try.sizeOf3
 v3:=Try.zeroValue3
 t4:=Try.underlying4
 a4:=Try.isAgg4
 z4:=Try.sizeOf4
 v4:=Try.zeroValue4}
open Go.RowKit in
theorem Try.cmp_Compare_int (x y:Int) (w:World):
  Calls Try.prog 121 #[.int .i64 x, .int .i64 y] w fun e w'=>e= .returned (.int .i64 (Lib.compareInt x y))∧w'=w:=Any.cmp_Compare_int Try.lays122 x y w
def Try.lays129_ren:Go.Shelf.Ren:=⟨fun|129=>146|n=>n,fun|53=>80|3=>3|4=>4|46=>157|5=>5|9=>9|n=>n,fun|n=>n⟩
theorem Try.lays129:Go.Proofs.Lays.n129 Try.prog Try.lays129_ren:={
 mixed:=by kernel_rfl
 f129:=Try.func146.trans (congrArg some (by kernel_rfl))
 t3:=Try.underlying3
 a3:=Try.isAgg3
 z3:=Try.sizeOf3
 v3:=Try.zeroValue3
 t4:=Try.underlying4
 a4:=Try.isAgg4
 z4:=Try.sizeOf4
 v4:=Try.zeroValue4
 t5:=Try.underlying5
 a5:=Try.isAgg5
 z5:=Try.sizeOf5
 v5:=Try.zeroValue5
 t9:=Try.underlying9
 a9:=Try.isAgg9
 z9:=Try.sizeOf9
 v9:=Try.zeroValue9
 t46:=Try.underlying157
 a46:=Try.isAgg157
 z46:=Try.sizeOf157
 v46:=Try.zeroValue157
 t53:=Try.underlying80
 a53:=Try.isAgg80
 z53:=Try.sizeOf80
 v53:=Try.zeroValue80}
theorem Try.bits_Len64 (x:Int) (w:World) (h0:0≤x) (h1:x≤18446744073709551615):
  Calls Try.prog 146 #[.int .u64 x] w fun e w'=>e= .returned (.int .i64 (Lib.bitLen x.toNat))∧w'=w:=Any.bits_Len64 Try.lays129 x w h0 h1
def Try.lays217_ren:Go.Shelf.Ren:=⟨fun|217=>158|266=>160|n=>n,fun|9=>9|5=>5|3=>3|n=>n,fun|n=>n⟩
theorem Try.lays217:Go.Proofs.Lays.n217 Try.prog Try.lays217_ren:={
 mixed:=by kernel_rfl
 f217:=Try.func158.trans (congrArg some (by kernel_rfl))
 f266:=Try.func160.trans (congrArg some (by kernel_rfl))
 t3:=Try.underlying3
 a3:=Try.isAgg3
 z3:=Try.sizeOf3
 v3:=Try.zeroValue3
 t5:=Try.underlying5
 a5:=Try.isAgg5
 z5:=Try.sizeOf5
 v5:=Try.zeroValue5
 t9:=Try.underlying9
 a9:=Try.isAgg9
 z9:=Try.sizeOf9
 v9:=Try.zeroValue9}
open Go.RowKit Go.Lib in
theorem Try.stringslite_IndexByte (s:ByteArray) (c:Int) (w:World):
  Calls Try.prog 158 #[.string s, .int .u8 c] w fun e w'=>e= .returned (.int .i64 (Lib.indexByte s.data.toList c.toNat.toUInt8))∧w'=w:=Any.stringslite_IndexByte Try.lays217 s c w
def Try.laysNm237_ren:Go.Shelf.Ren:=⟨fun|37=>147|n=>n,fun|3=>3|4=>4|n=>n,fun|n=>n⟩
theorem Try.laysNm237:Go.Proofs.Lays2.n37 Try.prog Try.laysNm237_ren:={
 mixed:=by kernel_rfl
 f37:=Try.func147.trans (congrArg some (by kernel_rfl))
 t3:=Try.underlying3
 a3:=Try.isAgg3
 z3:=Try.sizeOf3
 v3:=Try.zeroValue3
 t4:=Try.underlying4
 a4:=Try.isAgg4
 z4:=Try.sizeOf4
 v4:=Try.zeroValue4}
open Go.RowKit Go.Lib in
theorem Try.cmp_isNaN_int2 (x:Int) (w:World):
  Calls Try.prog 147 #[.int .i64 x] w fun e w'=>e= .returned (.bool false)∧w'=w:=Any.cmp_isNaN_int2 Try.laysNm237 x w
end Go.Proofs
end
section
namespace Go.Proofs.Ythgeekoigbihbaa
open Go.RowKit
set_option maxRecDepth 100000
theorem zhD: ∀(l:List UInt8) (c:UInt8), -1≤Lib.indexByte l c∧Lib.indexByte l c<l.length∨Lib.indexByte l c= -1
 | [],_=> .inr rfl
 |b::l,c=>by
  unfold Lib.indexByte
  rcases zhD l c with h|h
  ·split
   ·left;simp
   ·split
    ·exact .inr rfl
    ·left;rw [List.length_cons];omega
  ·rw [h]
   split
   ·left;simp
   ·right;rfl
theorem zqm {n:Int} (h1: -9223372036854775808≤n) (h2:n≤9223372036854775807):InK .i64 n:=zbt h1 h2
theorem zu4 {b:ByteArray} {c:UInt8} (h:b.data.toList= [c]):b=⟨#[c]⟩:=by
 cases b with
 |mk d=>cases d with
  |mk l=>simp at h;rw [h]
def zaA (s:List UInt8) (c:Int):Option Int:=some (Lib.indexByte s c.toNat.toUInt8)
theorem zc4 (a0:List UInt8) (a1:Int) (r:Int) (h:zaA a0 a1=some r):Rts Try.prog sgs 158 [.str a0, .int .u8 a1] (.int .i64 r):=zq6 (by kernel_rfl) fun w vs rf hr=>by
 obtain⟨b,us,rfl,rfl,hb,hr⟩:=zsV hr
 obtain⟨us1,rfl,_,hr⟩:=zqR hr
 obtain⟨rfl,rfl⟩:=zoA hr
 refine(Try.stringslite_IndexByte b a1 w).mono ?_
 rintro e w' ⟨rfl,rfl⟩
 cases h
 have hl:b.data.toList.length≤9223372036854775807:=by rw [Array.length_toList];exact hb
 exact⟨Mod.refl [] _,_, [],rfl, .int (by rcases zhD b.data.toList a1.toNat.toUInt8 with h|h<;>exact zqm (by omega) (by omega)) .nil,by simp⟩
end Go.Proofs.Ythgeekoigbihbaa
end
section
namespace Go.Proofs.Ythgeekoigbihbaa
open Go.RowKit
theorem zdR {P:Program} (w:World) (dT sT ty elem:TypeId) (k:Nat) (g o dLen dCap:Nat) (a:Addr) (sLen sCap:Nat) (cur:Array Value) (t:TypeId) (cs:List Value)
  (hu:P.underlying dT=some (.slice elem)) (hs:(P.info? elem).map (·.size)=some k)
  (hg:w.heap[g]?=some (.cells cur t (0,0))) (hn:cs.length=Nat.min sLen dLen*k)
  (hsrc: ∀j v,cs[j]?=some v→w.cell? (a.add j)=some v) (hfit:o+cs.length≤cur.size) (h1: ∀v∈cs,v.oneCell'=true):
  (Builtin.copy_ #[dT,sT] ty #[.slice (some ⟨g,o,none⟩) dLen dCap, .slice (some a) sLen sCap]).run P w=
   .ok (goInt (Nat.min sLen dLen)) (w.setRow g (cur.toList.take o++cs++cur.toList.drop (o+cs.length)).toArray):=by
 have hl:=run_loadCells_list (P:=P) w a cs hsrc
 have hst:=run_storeCells_at P g o t cs 0 cur w hg (by simpa using hfit) h1
 cases hq:P.info? elem with
 |none=>simp [hq]at hs
 |some i=>
  have hi:i.size=k:=by simpa [hq]using hs
  rw [hn]at hl
  simp [Builtin.copy_,run_underlying hu,Builtin.lenOf,Builtin.firstCells,sizeOf,typeInfo,hq,hi,hl,hst]
theorem zeE {P:Program} (w:World) {ops:Array Oper} {rest:List Oper} {o:Oper} {a:Act} {Q:Exit→Act→World→Prop} (hgd:o.guard=none) (d s:Operand) (t t':TypeId)
  (ho:o.op= .call {callee:= .builtin .copy,args:= #[d,s],argTypes:= #[t,t']}) (v u:Value) (hd:a.eval d=v) (hs:a.eval s=u) {v':Value} {w':World}
  (hr:(Builtin.copy_ #[t,t'] o.type #[v,u]).run P w= .ok v' w') (h:wpList P ops Q rest (a.put o.dst v') w'):wpList P ops Q (o::rest) a w:=
 wpList_plain hgd fun _ hK=>by
  unfold Oper.wp execOp
  simp only [ho,resolve,invoke,builtin,Sem.run_bind,Sem.run_pure,Result.andThen_ok,List.map_toArray,List.map_cons,List.map_nil,hd,hs,hr]
  exact hK _ _ h
theorem ziF {P:Program} {ops:Array Oper} {o:Oper} {a:Act} {w:World} {K:Act→World→Prop} {Q:Exit→Act→World→Prop} {E:Prop}
  (hg:o.guard=none) (d x:Operand) (dT sT:TypeId) (hop:o.op=Op.call {callee:=Callee.builtin Builtin.copy,args:= #[d,x],argTypes:= #[dT,sT]})
  (v u:Value) (hd:a.eval d=v) (hx:a.eval x=u) {v':Value} {w':World} (hr:(Builtin.copy_ #[dT,sT] o.type #[v,u]).run P w= .ok v' w') (hK:K (a.put o.dst v') w'):
  if Region.wanted o (yielded ops a.tmps)=true then Oper.wp P o a w K Q else E:=by
 have hw:Region.wanted o (yielded ops a.tmps)=true:=by simp [Region.wanted,hg]
 rw [if_pos hw]
 unfold Oper.wp
 simp [execOp,hop,resolve,invoke,builtin,hd,hx,hr,Result.andThen]
 exact hK
def zma (w:World) (el:TypeId) (k:Nat) (g cap:Nat) (C:Array Value) (n:Nat) (cs:List Value):Prop:=
 n≤cap∧cap≤maxLen∧w.heap[g]?=some (.cells C el (0,0))∧C.size=cap*k∧cs=C.toList.take (n*k)
def zrz (w w':World) (el:TypeId) (k:Nat) (own:List Nat) (v:Value) (n:Nat) (cs:List Value):Prop:=
 ∃g cap C,v= .slice (some ⟨g,0,none⟩) n cap∧zma w' el k g cap C n cs∧Mod own w w'∧(g∈own∨w.heap.size≤g)
def zrt (P:Program) (f:Nat) (el:TypeId) (k:Nat):Prop:=
 ∀(w:World) (v:Value) (n i:Nat) (cs:List Value) (own:List Nat) (vb vc m:Nat) (VC:Array Value) (vs:List Value),cs.length=n*k→
  ((n=0∧ ∃q,v= .slice q 0 0)∨ ∃g cap C,v= .slice (some ⟨g,0,none⟩) n cap∧zma w el k g cap C n cs∧g∈own)→i≤n→zma w el k vb vc VC m vs→(∀g∈own,vb≠g)→0<m→(n+m)*1000≤140737488355328→
  (∀u∈vs,u.oneCell'=true)→(∀u∈cs,u.oneCell'=true)→
  Calls P f #[v, .int .i64 i, .slice (some ⟨vb,0,none⟩) m vc] w fun e w'=> ∃u,e= .returned u∧zrz w w' el k own u (n+m) (cs.take (i*k)++vs++cs.drop (i*k))
theorem zma.cell {w:World} {el:TypeId} {k g cap:Nat} {C:Array Value} {n:Nat} {cs:List Value} (h:zma w el k g cap C n cs) (off:Nat) (j:Nat) (v:Value) (hj:(cs.drop off)[j]?=some v):w.cell? ((⟨g,off,none⟩:Addr).add j)=some v:=by
 obtain⟨_,_,h3,_,h5⟩:=h
 rw [Addr.add_lit,zaj h3]
 rw [List.getElem?_drop,h5,List.getElem?_take]at hj
 split at hj
 ·simpa using hj
 ·cases hj
theorem zma.len {w:World} {el:TypeId} {k g cap:Nat} {C:Array Value} {n:Nat} {cs:List Value} (h:zma w el k g cap C n cs):cs.length=n*k:=by
 obtain⟨h1,_,_,h4,h5⟩:=h
 have:=Nat.mul_le_mul_right k h1
 rw [h5,List.length_take,Array.length_toList];omega
theorem zuj {α:Type} (cur cs vs:List α) (i m n:Nat) (hc:cs=cur.take n) (hi:i≤n) (hv:vs.length=m) (hn:n+m≤cur.length):
  let c1:=cur.take (i+m)++cs.drop i++cur.drop (i+m+(cs.drop i).length)
  (c1.take i++vs++c1.drop (i+vs.length)).take (n+m)=cs.take i++vs++cs.drop i:=by
 have hcl:cs.length=n:=by rw [hc,List.length_take];omega
 have hd:(cs.drop i).length=n-i:=by rw [List.length_drop,hcl]
 intro c1
 have e1:c1.take i=cs.take i:=by
  show(cur.take (i+m)++cs.drop i++_).take i=_
  rw [List.append_assoc,List.take_append_of_le_length (by rw [List.length_take];omega),List.take_take,hc,List.take_take]
  congr 1;omega
 have e2:c1.drop (i+vs.length)=cs.drop i++cur.drop (i+m+(cs.drop i).length):=by
  show(cur.take (i+m)++cs.drop i++_).drop _=_
  rw [List.append_assoc,List.drop_append_of_le_length (by rw [List.length_take,hv];omega),List.drop_eq_nil_of_le (by rw [List.length_take,hv];omega),List.nil_append]
 rw [e1,e2]
 have l1:(cs.take i++vs++cs.drop i).length=n+m:=by
  simp only [List.length_append,List.length_take,hv,hd,hcl];omega
 rw [←List.append_assoc,←l1,List.take_left]
theorem two {α:Type} (zs cs vs:List α) (i m n:Nat) (cur:List α) (hcur:cur=cs.take i++zs) (hcl:cs.length=n) (hi:i≤n) (hv:vs.length=m) (hz:n+m-i≤zs.length):
  let c1:=cur.take i++vs++cur.drop (i+vs.length)
  (c1.take (i+m)++cs.drop i++c1.drop (i+m+(cs.drop i).length)).take (n+m)=cs.take i++vs++cs.drop i:=by
 have ht:(cs.take i).length=i:=by rw [List.length_take];omega
 intro c1
 have e1:c1=cs.take i++vs++cur.drop (i+vs.length):=by
  show cur.take i++vs++cur.drop (i+vs.length)=_
  rw [hcur]
  congr 2
  rw [List.take_append_of_le_length (by omega),List.take_take,Nat.min_self]
 have e2:c1.take (i+m)=cs.take i++vs:=by
  have l2:(cs.take i++vs).length=i+m:=by rw [List.length_append,ht,hv]
  rw [e1,←l2,List.take_left]
 rw [e2]
 have l1:(cs.take i++vs++cs.drop i).length=n+m:=by
  simp only [List.length_append,ht,hv,List.length_drop,hcl];omega
 rw [←l1,List.take_left]
end Go.Proofs.Ythgeekoigbihbaa
end
section
namespace Go.Proofs.Ythgeekoigbihbaa
open Go.RowKit
theorem ziP (xs ys:List AV):zan (xs++ys)=zan xs++zan ys:=by simp [zan]
theorem znA {K:Nat} {xs:List AV} (h: ∀y∈xs,y.cells.length=K) {i:Nat} (hi:i≤xs.length):zan (xs.take i)=(zan xs).take (i*K)∧zan (xs.drop i)=(zan xs).drop (i*K):=by
 have l1:(zan (xs.take i)).length=i*K:=by rw [zdE _ fun y hy=>h y (List.mem_of_mem_take hy),List.length_take,Nat.min_eq_left hi]
 have e:zan xs=zan (xs.take i)++zan (xs.drop i):=by rw [←ziP,List.take_append_drop]
 rw [e,←l1,List.take_left,List.drop_left]
 exact⟨rfl,rfl⟩
theorem zbc.rowC {w:World} {el K:Nat} {v:Value} {x:AV} {top:List Nat} (h:zbc w el K v x top []): ∃xs cs,x= .sl xs∧0<K∧(∀y∈xs,y.cells.length=K)∧cs.length=xs.length*K∧Rd w cs (zan xs) []∧(∀u∈cs,u.oneCell'=true)∧
  ((xs= []∧top= []∧ ∃q,v= .slice q 0 0)∨ ∃g cap C,v= .slice (some ⟨g,0,none⟩) xs.length cap∧zma w el K g cap C xs.length cs∧top= [g]):=by
 obtain⟨xs,rfl,h2,h3,⟨rfl,⟨a,hv⟩,rfl,_⟩|⟨g,cap,C,rfl,h6,h7,h8,h9,rfl,h10,h11⟩⟩:=h
 ·exact⟨[], [],rfl,h3,h2,by simp,by simpa [zan]using Rd.nil,by simp, .inl ⟨rfl,rfl,a,hv⟩⟩
 ·exact⟨xs,_,rfl,h3,h2,(zma.len ⟨h6,h7,h8,h9,rfl⟩),h11,h10, .inr ⟨g,cap,C,rfl,⟨h6,h7,h8,h9,rfl⟩,rfl⟩⟩
theorem zlH {P:Program} {w:World} {t el:TypeId} {v:Value} {x:AV} {rf hs:List Nat} (ha:zaq P t=false) (hl:zal P t= [t]) (he:zca P t=some el) (hf:zcU P el=true) (h:zmi P w t [true] v x rf hs):rf= []∧zbc w el (P.cellsOf el) v x hs []:=by
 obtain⟨us,ys,h1,h2⟩:=h
 rw [ha]at h1
 simp only [Bool.false_eq_true,if_false]at h1
 obtain⟨rfl,rfl⟩:=h1
 rw [hl]at h2
 cases h2 with
 |own q1 q2 q3 q4 q5=>
  cases q5
  rw [he]at q2;cases q2
  exact⟨rfl,by simpa using q4⟩
 |deep q1 q2 q3=>
  rw [he]at q2;cases q2
  rw [hf]at q3;cases q3
 |rd q1=>
  have:=q1 rfl
  rw [he]at this;cases this
def ztI (P:Program) (sg:SgT) (f:Nat) (t it el K:Nat):Bool:=
 match P.funcs[f]?,sg f with
 |some fn,some s=>(match s.modes,s.res with
  | [.va [true], .ro, .va [true]], [true]=>true
  |_,_=>false)&&fn.body.isSome&& !(fn.name== "runtime.NumGoroutine")&&fn.params.toList== [t,it,t]&&fn.resultTypes.toList== [t]&&fn.nfree==0&& !zaq P t&&zal P t== [t]&&zca P t==some el&&zcU P el&&P.cellsOf el==K&&zgJ P t [true]&&fn.params.size==3
 |_,_=>false
def zri (P:Program) (sg:SgT) (f:Nat) (r:List AV):Bool:=match P.funcs[f]?,sg f with
 |some fn,some s=>zgl P fn s (.sl r)
 |_,_=>false
theorem zrT {f t it el K:Nat} (hk:ztI Try.prog sgs f t it el K=true) (hfl: ∀r,zri Try.prog sgs f r=true) (hins:zrt Try.prog f el K) (xs ys:List AV) (i:Int) (h0:0≤i) (h1:i≤xs.length) (hy:ys≠ []) (hb:(xs.length+ys.length)*1000≤140737488355328):
  Rts Try.prog sgs f [.sl xs, .int .i64 i, .sl ys] (.sl (xs.take i.toNat++ys++xs.drop i.toNat)):=by
 unfold ztI at hk
 split at hk
 ·rename_i fn s hf hs
  simp only [Bool.and_eq_true,Bool.not_eq_true',beq_iff_eq]at hk
  obtain⟨⟨⟨⟨⟨⟨⟨⟨⟨⟨⟨⟨g1,g2⟩,g3⟩,g4⟩,g5⟩,g6⟩,g7⟩,g8⟩,g9⟩,g10⟩,g11⟩,g12⟩,g13⟩:=hk
  obtain⟨hm,hr⟩:s.modes= [.va [true], .ro, .va [true]]∧s.res= [true]:=by
   split at g1
   ·rename_i a b;exact⟨a,b⟩
   ·cases g1
  unfold Rts
  rw [if_pos (zlE f s hs)]
  refine⟨s,hs,fn,hf,g2,g3,by have:=hfl (xs.take i.toNat++ys++xs.drop i.toNat);unfold zri at this;rw [hf,hs]at this;exact this,by simp [g6,g13],fun w vs rf hs' hargs hd hnd=> ?_⟩
  rw [g4,hm]at hargs
  cases hargs with
  | @cons _ _ _ v1 vs1 _ _ f1 k1 rf1 hs1 a1 hargs=>
   cases hargs with
   | @cons _ _ _ v2 vs2 _ _ f2 k2 rf2 hs2 a2 hargs=>
    cases hargs with
    | @cons _ _ _ v3 vs3 _ _ f3 k3 rf3 hs3 a3 hargs=>
     cases hargs
     obtain⟨rfl,r1⟩:=zlH g7 g8 g9 g10 a1
     obtain⟨rfl,r3⟩:=zlH g7 g8 g9 g10 a3
     obtain⟨a2,rfl⟩:Rd w [v2] [AV.int .i64 i] f2∧k2= []:=a2
     obtain⟨us,rfl2,hI,a2⟩:=zqR a2
     obtain⟨rfl,rfl⟩:=zoA a2
     cases rfl2
     obtain⟨xs',cs,e1,p0,p1,p2,p3,p4,p5⟩:=r1.rowC
     cases e1
     obtain⟨ys',cv,e2,_,q1,q2,q3,q4,q5⟩:=r3.rowC
     cases e2
     rw [g11]at p0 p1 p2 p5 q1 q2 q5
     obtain⟨vb,vc,VC,rfl,hv,rfl⟩: ∃g cap C,v3= .slice (some ⟨g,0,none⟩) ys.length cap∧zma w el K g cap C ys.length cv∧k3= [g]:=by
      rcases q5 with⟨h,_⟩|h
      ·exact absurd h hy
      ·exact h
     have hnd':k1++ [vb]=k1++([]++([vb]++ [])):=by simp
     have hap: ∀g∈k1,vb≠g:=by
      intro g hg e
      subst e
      have:=(List.nodup_append.1 hnd).2.2 vb hg vb (by simp)
      exact this rfl
     have hym:0<ys.length:=by cases ys with|nil=>exact absurd rfl hy|cons=>simp
     have hc:=hins w v1 xs.length i.toNat cs k1 vb vc ys.length VC cv p2 (by
      rcases p5 with⟨rfl,_,q,rfl⟩|⟨g,cap,C,rfl,h,rfl⟩
      ·exact .inl ⟨rfl,q,rfl⟩
      ·exact .inr ⟨g,cap,C,rfl,h,by simp⟩) (by omega) hv hap hym hb q4 p4
     rw [show((i.toNat:Nat):Int)=i by omega]at hc
     refine hc.mono ?_
     rintro e w' ⟨u,rfl,g,cap,C,rfl,⟨z1,z2,z3,z4,z5⟩,hmod,hgo⟩
     have hfr: ∀{us:List Value} {zs:List AV},Rd w us zs []→Rd w' us zs []:=fun h=>h.frame (by simp)
     have cut: ∀o n,Rd w ((cs.drop o).take n) (((zan xs).drop o).take n) []:=fun o n=>by
      obtain⟨gg,k1,k2⟩:=p3.piece o n
      have:gg= []:=List.eq_nil_iff_forall_not_mem.2 fun b hb=>by simpa using k1 b hb
      rw [this]at k2;exact k2
     obtain⟨t1,t2⟩:=znA p1 (i:=i.toNat) (by omega)
     have hmul:=Nat.mul_le_mul_right K (show i.toNat≤xs.length by omega)
     have hrd:Rd w' (cs.take (i.toNat*K)++cv++cs.drop (i.toNat*K)) (zan (xs.take i.toNat++ys++xs.drop i.toNat)) []:=by
      rw [ziP,ziP,t1,t2]
      have c1:=cut 0 (i.toNat*K)
      have c2:=cut (i.toNat*K) (cs.length-i.toNat*K)
      rw [List.drop_zero,List.drop_zero]at c1
      rw [List.take_of_length_le (by simp),List.take_of_length_le (by rw [List.length_drop,zdE _ p1,p2];exact Nat.le_refl _)]at c2
      exact(((hfr c1).app (hfr q3)).app (hfr c2))
     have hlen:(xs.take i.toNat++ys++xs.drop i.toNat).length=xs.length+ys.length:=by
      simp only [List.length_append,List.length_take,List.length_drop];omega
     have hown:zbc w' el K (.slice (some ⟨g,0,none⟩) (xs.length+ys.length) cap) (.sl (xs.take i.toNat++ys++xs.drop i.toNat)) [g] []:=by
      refine⟨_,rfl,fun y hy=> ?_,p0, .inr ⟨g,cap,C,by rw [hlen],by rw [hlen];exact z1,z2,z3,z4,rfl, ?_, ?_⟩⟩
      ·rcases List.mem_append.1 hy with hy|hy
       ·rcases List.mem_append.1 hy with hy|hy
        ·exact p1 y (List.mem_of_mem_take hy)
        ·exact q1 y hy
       ·exact p1 y (List.mem_of_mem_drop hy)
      ·rw [hlen,←z5]
       intro u hu
       rcases List.mem_append.1 hu with hu|hu
       ·rcases List.mem_append.1 hu with hu|hu
        ·exact p4 u (List.mem_of_mem_take hu)
        ·exact q4 u hu
       ·exact p4 u (List.mem_of_mem_drop hu)
      ·rw [hlen,←z5];exact hrd
     refine⟨_,rfl,⟨⟨_, [], [], [g], [], [],rfl, ?_, ?_,by simp, ?_,by simp⟩,hmod.weaken fun b hb=> .inl (by simp [hb])⟩⟩
     ·rw [g5]
      show zk0 Try.prog w' t s.res _ _ [] [g]
      unfold zk0
      rw [hr,if_pos g12]
      refine⟨[.slice (some ⟨g,0,none⟩) (xs.length+ys.length) cap], [.sl (xs.take i.toNat++ys++xs.drop i.toNat)],by rw [g7];simp, ?_⟩
      rw [g8]
      have:=zaM.own (P:=Try.prog) (t:=t) (ts:= []) (fl:= [true]) (us:= []) (ys:= []) (rf:= []) (hs:= []) rfl g9 (.inl g10) (by rw [g11];exact hown) .nil
      simpa using this
     ·rw [g4,hm]
      exact .va rfl (.ro rfl (.va rfl .nil))
     ·intro b hb
      simp only [List.append_nil,List.mem_singleton]at hb
      subst hb
      exact⟨by rcases hgo with h|h;exact .inl (by simp [h]);exact .inr h,zaK z3⟩
 ·cases hk
noncomputable def zh9 {α:Type} (xs:List α) (i:Int) (ys:List α):Option (List α):=req (0≤i∧i≤xs.length∧0<ys.length∧(xs.length+ys.length)*1000≤140737488355328) (some (xs.take i.toNat++ys++xs.drop i.toNat))
theorem zq9 {f t it el K:Nat} (hk:ztI Try.prog sgs f t it el K=true) (hfl: ∀r,zri Try.prog sgs f r=true) (hins:zrt Try.prog f el K) {α:Type} {av:α→AV} {xs ys r:List α} {i:Int} (h:zh9 xs i ys=some r):
  Rts Try.prog sgs f [.sl (xs.map av), .int .i64 i, .sl (ys.map av)] (.sl (r.map av)):=by
 obtain⟨⟨h0,h1,h2,h3⟩,h⟩:=zmU h
 cases h
 have:=zrT hk hfl hins (xs.map av) (ys.map av) i h0 (by simpa using h1) (by cases ys with|nil=>simp at h2|cons=>simp) (by simpa using h3)
 simpa [List.map_append,List.map_take,List.map_drop]using this
end Go.Proofs.Ythgeekoigbihbaa
end
section
namespace Go.Proofs.Ythgeekoigbihbaa
open Go.RowKit
set_option maxRecDepth 100000
theorem zi3: ∃i z,Try.prog.info? 71=some i∧i.size=3∧i.zero=some z∧z.cells.size=3∧i.bytes≤1000:=by
 have h:(match Try.prog.info? 71 with|some i=>(match i.zero with|some z=>i.size==3&&z.cells.size==3&&decide (i.bytes≤1000)|none=>false)|none=>false)=true:=by kernel_rfl
 split at h
 ·rename_i i hi
  split at h
  ·rename_i z hz
   simp only [Bool.and_eq_true,beq_iff_eq,decide_eq_true_eq]at h
   exact⟨i,z,hi,h.1.1,hz,h.1.2,h.2⟩
  ·cases h
 ·cases h
set_option maxHeartbeats 4000000 in
theorem zkO (w:World) (v:Value) (n:Nat) (cs:List Value) (own:List Nat) (hcl:cs.length=n*3) (hrow:(n=0∧ ∃q,v= .slice q 0 0)∨ ∃g cap C,v= .slice (some ⟨g,0,none⟩) n cap∧zma w 71 3 g cap C n cs∧g∈own)
  (vb vc m:Nat) (VC:Array Value) (vs:List Value) (hv:zma w 71 3 vb vc VC m vs) (hm:0<m) (hb:(n+m)*1000≤140737488355328) (h1v: ∀u∈vs,u.oneCell'=true):
  Calls Try.prog 78 #[v, .int .i64 n, .slice (some ⟨vb,0,none⟩) m vc] w fun e w'=> ∃u,e= .returned u∧zrz w w' 71 3 own u (n+m) (cs++vs):=by
 obtain⟨i0,z0,hi,hs,hz,hzs,hby⟩:=zi3
 have hz1: ¬((m:Int)=0):=by omega
 have hsrc:Src w i0.size (some ⟨vb,0,none⟩) m vs:= .inr ⟨_,rfl,by rw [hs];exact hv.len,fun j u hj=>hv.cell 0 j u (by simpa using hj),h1v⟩
 obtain⟨v',w1,hr,hres⟩:=zmt (P:=Try.prog) w 30 30 71 i0 z0 Try.underlying30 hi hz (by rw [hzs,hs]) (by omega) (fun b=>b∈own) v n cs (by rw [hs];exact hcl)
  (by
   rcases hrow with h|⟨g,cap,C,rfl,⟨h1,h2,h3,h4,h5⟩,h6⟩
   ·exact .inl h
   ·exact .inr ⟨g,cap,C,rfl,h1,h2,h3,by rw [hs];exact h4,by rw [hs];exact h5,h6⟩)
  (some ⟨vb,0,none⟩) m vc vs hsrc (by simp only [maxLen];omega) (by
   have:=Nat.mul_le_mul_left (n+m) hby
   omega)
 have fin:zrz w w1 71 3 own v' (n+m) (cs++vs):=by
  rcases hres with⟨_,_,h⟩|⟨g,cap,C,rfl,h1,h2,h3,h4,h5,h6,h7⟩
  ·omega
  ·refine⟨g,cap,C,rfl,⟨h1,h2,h3,by rw [hs]at h4;exact h4,by rw [hs]at h5;exact h5.symm⟩, ?_,h7.symm.imp id fun h=>by omega⟩
   refine⟨h6.os,h6.tape,h6.output,h6.size,fun b hb hn=>h6.block b hb fun e=> ?_⟩
   cases e
   rcases h7 with h7|h7
   ·omega
   ·exact hn h7
 clear hres
 rcases hrow with⟨rfl,q,rfl⟩|⟨g,cap,C,rfl,_,_⟩
 ·cases q with
  |none=>
   go_enter Try.func78,Try.ntmps78
   go_wp2_with (at_builtin;refine Lib.wpList_append_run _ rfl _ _ _ _ rfl _ _ rfl rfl _ _ hr ?_)
   all_goals (go_ret;exact⟨_,rfl,fin⟩)
  |some q=>
   obtain⟨qb,qo,qs⟩:=q
   go_enter Try.func78,Try.ntmps78
   go_wp2_with (at_builtin;refine Lib.wpList_append_run _ rfl _ _ _ _ rfl _ _ rfl rfl _ _ hr ?_)
   all_goals (go_ret;exact⟨_,rfl,fin⟩)
 ·go_enter Try.func78,Try.ntmps78
  go_wp2_with (at_builtin;refine Lib.wpList_append_run _ rfl _ _ _ _ rfl _ _ rfl rfl _ _ hr ?_)
  all_goals (go_ret;exact⟨_,rfl,fin⟩)
set_option maxHeartbeats 4000000 in
theorem zjr (w:World) (n i g cap:Nat) (C:Array Value) (cs:List Value) (own:List Nat) (vb vc m:Nat) (hrow:zma w 71 3 g cap C n cs) (hin:i<n) (hroom:cap<n+m)
  (VC:Array Value) (vs:List Value) (hv:zma w 71 3 vb vc VC m vs) (hm:0<m) (hb:(n+m)*1000≤140737488355328) (h1v: ∀u∈vs,u.oneCell'=true) (h1c: ∀u∈cs,u.oneCell'=true):
  Calls Try.prog 78 #[.slice (some ⟨g,0,none⟩) n cap, .int .i64 i, .slice (some ⟨vb,0,none⟩) m vc] w fun e w'=> ∃u,e= .returned u∧zrz w w' 71 3 own u (n+m) (cs.take (i*3)++vs++cs.drop (i*3)):=by
 obtain⟨i0,z0,hi,hs,hz,hzs,hby⟩:=zi3
 have hcl:=hrow.len
 have hvl:=hv.len
 have hcc:=hrow
 obtain⟨hnc,hcm,hg,hCs,hcs⟩:=hcc
 have hgw:g<w.heap.size:=zaK hg
 have hvw:vb<w.heap.size:=zaK hv.2.2.1
 have hsz:(Try.prog.info? 71).map (·.size)=some 3:=by rw [hi];simp [hs]
 have hik:i+(n+m-i)=n+m:=by omega
 have hbb:(n+m)*i0.bytes≤140737488355328:=Nat.le_trans (Nat.mul_le_mul_left _ hby) hb
 have hbk:(n+m-i)*i0.bytes≤140737488355328:=Nat.le_trans (Nat.mul_le_mul_right _ (by omega)) hbb
 have hold:(Builtin.firstCells i0.size i (.slice (some ⟨g,0,none⟩) i cap)).run Try.prog w.drew= .ok (cs.take (i*3)).toArray w.drew:=by
  rw [hs]
  exact run_firstCells_some w.drew 3 i ⟨g,0,none⟩ i cap (cs.take (i*3)) (by rw [List.length_take];omega) (fun j v hj=>by
   rw [List.getElem?_take]at hj
   split at hj
   ·exact hrow.cell 0 j v (by simpa using hj)
   ·cases hj)
 have hrz: ∀ty,(Builtin.append_ #[30,3] ty #[.slice (some ⟨g,0,none⟩) i cap, .int .i64 ((n:Int)+(m:Int)-(i:Int))]).run Try.prog w=
   .ok (.slice (some ⟨w.heap.size,0,none⟩) (n+m) (grownCap w (n+m) cap 71)) (w.drew.alloc (.cells ((cs.take (i*3)).toArray++Builtin.zeroCells z0.cells (n+m-i)++Builtin.zeroCells z0.cells (grownCap w (n+m) cap 71-(n+m))) 71)):=fun ty=>by
  have h:=Lib.run_append_grow_zeros w 30 3 ty 71 i0 z0 .i64 .i64 Try.underlying30 Try.underlying3 hi hz (some ⟨g,0,none⟩) i cap (cs.take (i*3)) hold (n+m-i) (by omega) (by omega) (by omega) (by omega) (by omega) (by rw [hik];exact growslice_fits hroom hbb)
  rw [hik]at h
  rw [show(n:Int)+(m:Int)-(i:Int)=((n+m-i:Nat):Int) by omega]
  exact h
 obtain⟨G,hG⟩: ∃G,G=grownCap w (n+m) cap 71:=⟨_,rfl⟩
 obtain⟨ROW,hROW⟩: ∃ROW:Array Value,ROW=(cs.take (i*3)).toArray++Builtin.zeroCells z0.cells (n+m-i)++Builtin.zeroCells z0.cells (G-(n+m)):=⟨_,rfl⟩
 have hGn:n+m≤G:=by rw [hG];exact grownCap_ge w _ _ _
 have hG63:G≤maxLen:=by rw [hG];exact grownCap_le_maxLen w (n+m) cap 71 (by unfold maxLen;omega)
 have hG64:G≤9223372036854775807:=hG63
 rw [←hG]at hrz
 rw [←hROW]at hrz
 have hRs:ROW.size=G*3:=by
  rw [hROW]
  simp only [Array.size_append,List.size_toArray,List.length_take,size_zeroCells,hzs]
  omega
 obtain⟨ROW2,hR2⟩: ∃R:Array Value,R=(ROW.toList.take (i*3)++vs++ROW.toList.drop (i*3+vs.length)).toArray:=⟨_,rfl⟩
 obtain⟨ROW3,hR3⟩: ∃R:Array Value,R=(ROW2.toList.take ((i+m)*3)++cs.drop (i*3)++ROW2.toList.drop ((i+m)*3+(cs.drop (i*3)).length)).toArray:=⟨_,rfl⟩
 have hR2s:ROW2.size=G*3:=by
  rw [hR2]
  simp only [List.size_toArray,List.length_append,List.length_take,List.length_drop,Array.length_toList]
  omega
 have hR3s:ROW3.size=G*3:=by
  rw [hR3]
  simp only [List.size_toArray,List.length_append,List.length_take,List.length_drop,Array.length_toList]
  omega
 obtain⟨N,hN⟩: ∃N,N=w.heap.size:=⟨_,rfl⟩
 have hA:(w.alloc (.cells ROW 71)).heap[N]?=some (.cells ROW 71 (0,0)):=by rw [hN];exact heap_alloc_new w _
 have hO: ∀k,k<N→(w.alloc (.cells ROW 71)).heap[k]?=w.heap[k]?:=fun k hk=>Below.heap_alloc w _ k (by omega)
 have hcpA: ∀(W:World),W.heap=(w.alloc (.cells ROW 71)).heap→ ∀ty dc,(Builtin.copy_ #[30,30] ty #[.slice (some ⟨N,i*3,none⟩) (n+m-i) dc, .slice (some ⟨vb,0,none⟩) m vc]).run Try.prog W= .ok (goInt m) (W.setRow N ROW2):=fun W hW ty dc=>by
  have h:=zdR (P:=Try.prog) W 30 30 ty 71 3 N (i*3) (n+m-i) dc ⟨vb,0,none⟩ m vc ROW 71 vs Try.underlying30 hsz (by rw [hW];exact hA) (by rw [hvl,show Nat.min m (n+m-i)=m from Nat.min_eq_left (by omega)])
   (fun j v hj=>by
    rw [World.cell?_of_block (w:=w) (by rw [Addr.add_lit,hW];exact hO vb (by omega))]
    exact hv.cell 0 j v (by simpa using hj)) (by rw [hRs,hvl];omega) h1v
  rw [show Nat.min m (n+m-i)=m from Nat.min_eq_left (by omega),←hR2]at h
  exact h
 have hB:((w.alloc (.cells ROW 71)).setRow N ROW2).heap[N]?=some (.cells ROW2 71 (0,0)):=setRow_heap _ _ _ _ _ _ hA
 have hO2: ∀k,k<N→((w.alloc (.cells ROW 71)).setRow N ROW2).heap[k]?=w.heap[k]?:=fun k hk=>by rw [setRow_other _ _ _ _ (by omega)];exact hO k hk
 have hcpB: ∀(W:World),W.heap=((w.alloc (.cells ROW 71)).setRow N ROW2).heap→ ∀ty dc sc,(Builtin.copy_ #[30,30] ty #[.slice (some ⟨N,(i+m)*3,none⟩) (n+m-(i+m)) dc, .slice (some ⟨g,i*3,none⟩) (n-i) sc]).run Try.prog W= .ok (goInt ((n-i:Nat):Int)) (W.setRow N ROW3):=fun W hW ty dc sc=>by
  have h:=zdR (P:=Try.prog) W 30 30 ty 71 3 N ((i+m)*3) (n+m-(i+m)) dc ⟨g,i*3,none⟩ (n-i) sc ROW2 71 (cs.drop (i*3)) Try.underlying30 hsz (by rw [hW];exact hB) (by rw [List.length_drop,hcl,show Nat.min (n-i) (n+m-(i+m))=n-i from Nat.min_eq_left (by omega)];omega)
   (fun j v hj=>by
    rw [World.cell?_of_block (w:=w) (by rw [Addr.add_lit,hW];exact hO2 g (by omega))]
    exact hrow.cell (i*3) j v hj) (by rw [hR2s,List.length_drop,hcl];omega) (fun v hv=>h1c v (List.mem_of_mem_drop hv))
  rw [show Nat.min (n-i) (n+m-(i+m))=n-i from Nat.min_eq_left (by omega),←hR3]at h
  exact h
 have fin: ∀W:World,W.os=w.os→W.tape=w.tape→W.output=w.output→W.heap=(((w.alloc (.cells ROW 71)).setRow N ROW2).setRow N ROW3).heap→zrz w W 71 3 own (.slice (some ⟨N,0,none⟩) (n+m) G) (n+m) (cs.take (i*3)++vs++cs.drop (i*3)):=fun W w1 w2 w3 hW=>by
  refine⟨N,G,ROW3,rfl,⟨hGn,hG63,by rw [hW];exact setRow_heap _ _ _ _ _ _ hB,hR3s, ?_⟩,⟨w1,w2,w3,by rw [hW];simp,fun k hk _=>by rw [hW,setRow_other _ _ _ _ (by omega)];exact hO2 k (by omega)⟩, .inr (by omega)⟩
  have h:=two ((Builtin.zeroCells z0.cells (n+m-i)).toList++(Builtin.zeroCells z0.cells (G-(n+m))).toList) cs vs (i*3) (m*3) (n*3) ROW.toList (by rw [hROW];simp) hcl (Nat.mul_le_mul_right _ (by omega)) hvl (by simp only [List.length_append,Array.length_toList,size_zeroCells,hzs];omega)
  rw [hR3,hR2,Nat.add_mul n m,Nat.add_mul i m]
  exact h.symm
 have hz1: ¬((m:Int)=0):=by omega
 have hz2: ¬((i:Int)=(n:Int)):=by omega
 have hz3:(cap:Int)<(n:Int)+(m:Int):=by omega
 have hGi: ¬(G=i):=by omega
 have hGim: ¬(G=i+m):=by omega
 have hci: ¬(cap=i):=by omega
 have hw1:IntKind.i64.wrap ((i:Int)+(m:Int))=(i:Int)+(m:Int):=by rw [IntKind.wrap_i64];omega
 have hb1:(0:Int)≤(i:Int)+(m:Int):=by omega
 have hin':i≤n:=by omega
 have htn:((i:Int)+(m:Int)).toNat=i+m:=by omega
 have hb3:(i:Int)≤(n:Int):=by omega
 have hE1:((w.alloc (.cells ROW 71)).drew).heap=(w.alloc (.cells ROW 71)).heap:=rfl
 have hF1:(((w.alloc (.cells ROW 71)).drew.setRow N ROW2).drew).heap=((w.alloc (.cells ROW 71)).setRow N ROW2).heap:=rfl
 subst hN
 clear hold hik hROW hG hR2 hR3 hA hO hB hO2 hcs
 go_enter Try.func78,Try.ntmps78
 go_wp2_with (first
  |(at_builtin;refine Lib.wpList_append_run _ rfl _ _ _ _ rfl _ _ rfl rfl _ _ (hrz _) ?_)
  |(at_builtin;refine zeE _ rfl _ _ 30 30 rfl _ _ rfl rfl (hcpA _ hE1 _ _) ?_)
  |(at_builtin;refine zeE _ rfl _ _ 30 30 rfl _ _ rfl rfl (hcpB _ rfl _ _ _) ?_))
 go_region_law (refine ziF rfl _ _ 30 30 rfl (.slice (some ⟨w.heap.size,(i+m)*3,none⟩) (n+m-(i+m)) (G-(i+m))) (.slice (some ⟨g,i*3,none⟩) (n-i) (cap-i)) (by simp [Act.eval,Act.put]) (by simp [Act.eval,Act.put]) (hcpB _ hF1 3 (G-(i+m)) (cap-i)) ?_)
 go_wp2
 go_ret
 exact⟨_,rfl,fin _ rfl rfl rfl rfl⟩
set_option maxHeartbeats 4000000 in
theorem zit (w:World) (n i g cap:Nat) (C:Array Value) (cs:List Value) (own:List Nat) (vb vc m:Nat) (hrow:zma w 71 3 g cap C n cs) (hgo:g∈own) (hin:i<n) (hroom:n+m≤cap) (hvb:vb≠g)
  (VC:Array Value) (vs:List Value) (hv:zma w 71 3 vb vc VC m vs) (hm:0<m) (hb:(n+m)*1000≤140737488355328) (h1v: ∀u∈vs,u.oneCell'=true) (h1c: ∀u∈cs,u.oneCell'=true):
  Calls Try.prog 78 #[.slice (some ⟨g,0,none⟩) n cap, .int .i64 i, .slice (some ⟨vb,0,none⟩) m vc] w fun e w'=> ∃u,e= .returned u∧zrz w w' 71 3 own u (n+m) (cs.take (i*3)++vs++cs.drop (i*3)):=by
 obtain⟨i0,z0,hi,hs,hz,hzs,hby⟩:=zi3
 have hcl:=hrow.len
 have hvl:=hv.len
 have hcc:=hrow
 obtain⟨hnc,hcm,hg,hCs,hcs⟩:=hcc
 have hgw:g<w.heap.size:=zaK hg
 have hsz:(Try.prog.info? 71).map (·.size)=some 3:=by rw [hi];simp [hs]
 have hc64:cap≤9223372036854775807:=hcm
 have hwn:=hv.2.2.1
 have hov: ∀lb cb,(callFunc 109 #[.slice (some ⟨vb,0,none⟩) m vc, .slice (some ⟨g,(i+m)*3,none⟩) lb cb]).run Try.prog w= .ok (.value (.bool false)) w:=fun lb cb=>by
  rw [run_callFunc_extern Try.func109 (by kernel_rfl) (by kernel_rfl) (by kernel_rfl) (e:=Extern.SlicesOverlaps.overlaps #[30,30] #[4]) (by kernel_rfl),
   Lib.run_overlaps_apart w 30 4 71 Try.underlying30 3 (fun w=>by simp [Go.sizeOf,typeInfo,hi,hs]) ⟨vb,0,none⟩ ⟨g,(i+m)*3,none⟩ m vc lb cb hvb 71 71 VC.size C.size (by simp [World.shape?,hwn]) (by simp [World.shape?,hg]) (by omega) (by simp [World.frozen?,hwn]) (by simp [World.frozen?,hwn])]
  rfl
 obtain⟨C1,hC1⟩: ∃R:Array Value,R=(C.toList.take ((i+m)*3)++cs.drop (i*3)++C.toList.drop ((i+m)*3+(cs.drop (i*3)).length)).toArray:=⟨_,rfl⟩
 obtain⟨C2,hC2⟩: ∃R:Array Value,R=(C1.toList.take (i*3)++vs++C1.toList.drop (i*3+vs.length)).toArray:=⟨_,rfl⟩
 have hC1s:C1.size=cap*3:=by
  rw [hC1]
  simp only [List.size_toArray,List.length_append,List.length_take,List.length_drop,Array.length_toList]
  omega
 have hC2s:C2.size=cap*3:=by
  rw [hC2]
  simp only [List.size_toArray,List.length_append,List.length_take,List.length_drop,Array.length_toList]
  omega
 have hcp1: ∀(W:World),W.heap=w.heap→ ∀ty dc sc,(Builtin.copy_ #[30,30] ty #[.slice (some ⟨g,(i+m)*3,none⟩) (n+m-(i+m)) dc, .slice (some ⟨g,i*3,none⟩) (n+m-i) sc]).run Try.prog W= .ok (goInt ((n-i:Nat):Int)) (W.setRow g C1):=fun W hW ty dc sc=>by
  have h:=zdR (P:=Try.prog) W 30 30 ty 71 3 g ((i+m)*3) (n+m-(i+m)) dc ⟨g,i*3,none⟩ (n+m-i) sc C 71 (cs.drop (i*3)) Try.underlying30 hsz (by rw [hW];exact hg) (by rw [List.length_drop,hcl,show Nat.min (n+m-i) (n+m-(i+m))=n-i from by rw [show Nat.min (n+m-i) (n+m-(i+m))=n+m-(i+m)from Nat.min_eq_right (by omega)];omega];omega)
   (fun j v hj=>by
    rw [World.cell?_of_block (w:=w) (by rw [hW])]
    exact hrow.cell (i*3) j v hj) (by rw [hCs,List.length_drop,hcl];omega) (fun v hv=>h1c v (List.mem_of_mem_drop hv))
  rw [show Nat.min (n+m-i) (n+m-(i+m))=n-i from by rw [show Nat.min (n+m-i) (n+m-(i+m))=n+m-(i+m)from Nat.min_eq_right (by omega)];omega,←hC1]at h
  exact h
 have hB:(w.setRow g C1).heap[g]?=some (.cells C1 71 (0,0)):=setRow_heap _ _ _ _ _ _ hg
 have hcp2: ∀(W:World),W.heap=(w.setRow g C1).heap→ ∀ty dc,(Builtin.copy_ #[30,30] ty #[.slice (some ⟨g,i*3,none⟩) (n+m-i) dc, .slice (some ⟨vb,0,none⟩) m vc]).run Try.prog W= .ok (goInt m) (W.setRow g C2):=fun W hW ty dc=>by
  have h:=zdR (P:=Try.prog) W 30 30 ty 71 3 g (i*3) (n+m-i) dc ⟨vb,0,none⟩ m vc C1 71 vs Try.underlying30 hsz (by rw [hW];exact hB) (by rw [hvl,show Nat.min m (n+m-i)=m from Nat.min_eq_left (by omega)])
   (fun j v hj=>by
    rw [World.cell?_of_block (w:=w) (by rw [Addr.add_lit,hW];exact setRow_other _ _ _ _ (by simpa using hvb))]
    exact hv.cell 0 j v (by simpa using hj)) (by rw [hC1s,hvl];omega) h1v
  rw [show Nat.min m (n+m-i)=m from Nat.min_eq_left (by omega),←hC2]at h
  exact h
 have fin: ∀W:World,W.os=w.os→W.tape=w.tape→W.output=w.output→W.heap=((w.setRow g C1).setRow g C2).heap→zrz w W 71 3 own (.slice (some ⟨g,0,none⟩) (n+m) cap) (n+m) (cs.take (i*3)++vs++cs.drop (i*3)):=fun W w1 w2 w3 hW=>by
  refine⟨g,cap,C2,rfl,⟨hroom,hcm,by rw [hW];exact setRow_heap _ _ _ _ _ _ hB,hC2s, ?_⟩,⟨w1,w2,w3,by rw [hW];simp,fun k hk hn=>by rw [hW,setRow_other _ _ _ _ (fun e=>hn (by first|(rw [e];exact hgo)|(rw [←e];exact hgo))),setRow_other _ _ _ _ (fun e=>hn (by first|(rw [e];exact hgo)|(rw [←e];exact hgo)))]⟩, .inl hgo⟩
  have h:=zuj C.toList cs vs (i*3) (m*3) (n*3) hcs (Nat.mul_le_mul_right _ (by omega)) hvl (by rw [Array.length_toList,hCs];omega)
  rw [hC2,hC1,Nat.add_mul n m,Nat.add_mul i m]
  exact h.symm
 have hz1: ¬((m:Int)=0):=by omega
 have hz2: ¬((i:Int)=(n:Int)):=by omega
 have hz3: ¬((cap:Int)<(n:Int)+(m:Int)):=by omega
 have hci: ¬(cap=i):=by omega
 have hcim: ¬(cap=i+m):=by omega
 have hw1:IntKind.i64.wrap ((i:Int)+(m:Int))=(i:Int)+(m:Int):=by rw [IntKind.wrap_i64];omega
 have hb1:(0:Int)≤(i:Int)+(m:Int):=by omega
 have hin':i≤n:=by omega
 have htn:((i:Int)+(m:Int)).toNat=i+m:=by omega
 have hb3:(i:Int)≤(n:Int):=by omega
 have hb4:(i:Int)≤(n:Int)+(m:Int):=by omega
 have hF1:(w.drew).heap=w.heap:=rfl
 have hF2:(w.drew.setRow g C1).heap=(w.setRow g C1).heap:=rfl
 clear hC1 hC2 hB hcs hwn hg
 go_enter Try.func78,Try.ntmps78
 go_wp2_with (simp only [hov])
 go_region_law (refine ziF rfl _ _ 30 30 rfl (.slice (some ⟨g,(i+m)*3,none⟩) (n+m-(i+m)) (cap-(i+m))) (.slice (some ⟨g,i*3,none⟩) (n+m-i) (cap-i)) (by simp [Act.eval,Act.put]) (by simp [Act.eval,Act.put]) (hcp1 _ hF1 3 (cap-(i+m)) (cap-i)) ?_)
 go_wp2_with (at_builtin;refine zeE _ rfl _ _ 30 30 rfl _ _ rfl rfl (hcp2 _ hF2 _ _) ?_)
 go_ret
 exact⟨_,rfl,fin _ rfl rfl rfl rfl⟩
theorem zpv:zrt Try.prog 78 71 3:=by
 intro w v n i cs own vb vc m VC vs hcl hrow hin hv hvb hm hb h1v h1c
 by_cases he:i=n
 ·subst he
  refine(zkO w v i cs own hcl hrow vb vc m VC vs hv hm hb h1v).mono ?_
  rintro e w' ⟨u,rfl,h⟩
  refine⟨u,rfl, ?_⟩
  rw [List.take_of_length_le (by omega),List.drop_eq_nil_of_le (by omega),List.append_nil]
  exact h
 ·rcases hrow with⟨rfl,_⟩|⟨g,cap,C,rfl,hr,hg⟩
  ·omega
  ·by_cases hc:n+m≤cap
   ·exact zit w n i g cap C cs own vb vc m hr hg (by omega) hc (hvb g hg) VC vs hv hm hb h1v h1c
   ·exact zjr w n i g cap C cs own vb vc m hr (by omega) (by omega) VC vs hv hm hb h1v h1c
end Go.Proofs.Ythgeekoigbihbaa
end
section
namespace Go.Proofs.Ythgeekoigbihbaa
open Go.RowKit
set_option maxRecDepth 100000
noncomputable def zdr (a0:zab) (a1:Int):Option (Int):=
 if(decide ((IntKind.i64.wrap (a1-(a0.fKey.length:Int)))<0))then
  some (-1)
 else
  if(decide ((IntKind.i64.wrap ((IntKind.i64.wrap (a1-(a0.fKey.length:Int)))-(a0.fVal.length:Int)))<0))then
   some (-1)
  else
   some (IntKind.i64.wrap ((IntKind.i64.wrap (a1-(a0.fKey.length:Int)))-(a0.fVal.length:Int)))
noncomputable def za7 (a0:List zab) (v1:Int) (v2:Int):Option ((Int × Int) ⊕ Option (Int)):=
 if(decide (v2<(a0.length:Int)))then
  (zdn a0 v2).bind fun y3=>
  (zdr y3 v1).bind fun v4=>
  if(decide (v4<0))then
   some (.inr (some (-1)))
  else
   some (.inl (v4,(IntKind.i64.wrap (v2+1))))
 else
  some (.inr (some v1))
noncomputable def zcP (a0:List zab) (a1:Int):Option (Int):=
 if(decide ((IntKind.i64.wrap (a1-(a0.length:Int)))<0))then
  some (-1)
 else
  zaF (fun s:Int × Int=>za7 a0 s.1 s.2) ((IntKind.i64.wrap (a1-(a0.length:Int))),0)
noncomputable def zdP (a0:zaP) (a1:Int):Option (Int):=
 (zcP a0.fRows a1).bind fun v1=>
 if(decide (v1<0))then
  some (-1)
 else
  some v1
noncomputable def zcl (a0:zaa) (a1:Int):Option (Int):=
 if(decide ((IntKind.i64.wrap (a1-(a0.fKey.length:Int)))<0))then
  some (-1)
 else
  if(decide ((IntKind.i64.wrap ((IntKind.i64.wrap (a1-(a0.fKey.length:Int)))-(a0.fVal.length:Int)))<0))then
   some (-1)
  else
   some (IntKind.i64.wrap ((IntKind.i64.wrap (a1-(a0.fKey.length:Int)))-(a0.fVal.length:Int)))
noncomputable def zaO (a0:List zaa) (v1:Int) (v2:Int):Option ((Int × Int) ⊕ Option (Int)):=
 if(decide (v2<(a0.length:Int)))then
  (zdn a0 v2).bind fun y3=>
  (zcl y3 v1).bind fun v4=>
  if(decide (v4<0))then
   some (.inr (some (-1)))
  else
   some (.inl (v4,(IntKind.i64.wrap (v2+1))))
 else
  some (.inr (some v1))
noncomputable def zbY (a0:List zaa) (a1:Int):Option (Int):=
 if(decide ((IntKind.i64.wrap (a1-(a0.length:Int)))<0))then
  some (-1)
 else
  zaF (fun s:Int × Int=>zaO a0 s.1 s.2) ((IntKind.i64.wrap (a1-(a0.length:Int))),0)
noncomputable def zdQ (a0:zbq) (a1:Int):Option (Int):=
 (zbY a0.fList a1).bind fun v1=>
 if(decide (v1<0))then
  some (-1)
 else
  some v1
noncomputable def zek (a0:zab):Option (zab):=
 some a0
noncomputable def zbp (a0:List zab) (v1:Int) (v2:List zab):Option ((Int × List zab) ⊕ Option (List zab)):=
 if(decide (v1<(a0.length:Int)))then
  (zdn a0 v1).bind fun y3=>
  (zek y3).bind fun v4=>
  (zdn v2 v1).bind fun y5=>
  some (.inl ((IntKind.i64.wrap (v1+1)),(v2.set (v1).toNat v4)))
 else
  some (.inr (some v2))
noncomputable def zcJ (a0:List zab):Option (List zab):=
 req (0≤(a0.length:Int)∧(a0.length:Int)*40≤140737488355328∧(a0.length:Int)≤140737488355328)<|
 zaF (fun s:Int × List zab=>zbp a0 s.1 s.2) (0,(List.replicate ((a0.length:Int)).toNat (⟨([]:List UInt8),([]:List UInt8),false⟩:zab)))
noncomputable def zbN (a0:zaP):Option (zaP):=
 (zcJ a0.fRows).bind fun v1=>
 some (⟨a0.fTime,v1⟩:zaP)
noncomputable def zda (a0:zaa):Option (zaa):=
 some a0
noncomputable def zaY (a0:List zaa) (v1:Int) (v2:List zaa):Option ((Int × List zaa) ⊕ Option (List zaa)):=
 if(decide (v1<(a0.length:Int)))then
  (zdn a0 v1).bind fun y3=>
  (zda y3).bind fun v4=>
  (zdn v2 v1).bind fun y5=>
  some (.inl ((IntKind.i64.wrap (v1+1)),(v2.set (v1).toNat v4)))
 else
  some (.inr (some v2))
noncomputable def zbU (a0:List zaa):Option (List zaa):=
 req (0≤(a0.length:Int)∧(a0.length:Int)*56≤140737488355328∧(a0.length:Int)≤140737488355328)<|
 zaF (fun s:Int × List zaa=>zaY a0 s.1 s.2) (0,(List.replicate ((a0.length:Int)).toNat (⟨0,0,([]:List UInt8),([]:List UInt8),false⟩:zaa)))
noncomputable def zbJ (a0:zbq):Option (zbq):=
 (zbU a0.fList).bind fun v1=>
 some (⟨a0.fFrom,a0.fTo,v1⟩:zbq)
noncomputable def zb3 (a0:Int) (a1:Int) (a2:Int):Option (Bool):=
 some ((decide (a0≥a1))&&(decide (a0≤a2)))
noncomputable def zdc (v1:Int) (v3:Bool):Option ((Int) ⊕ Option (Bool)):=
 if(!v3)then
  some (.inr (some false))
 else
  some (.inl (IntKind.i64.wrap (v1+1)))
noncomputable def zbC (a1:List UInt8) (v1:Int) (y2:UInt8) (v4:Bool) (v5:Int):Option ((Bool × Int) ⊕ Option ((Int) ⊕ Option (Bool))):=
 if(decide (v5<(a1.length:Int)))then
  if v4 then
   some (.inl (true,(IntKind.i64.wrap (v5+1))))
  else
   (zdn a1 v5).bind fun y6=>
   some (.inl (((y2.toNat:Int)==(y6.toNat:Int)),(IntKind.i64.wrap (v5+1))))
 else
  some (.inr (zdc v1 v4))
noncomputable def zdg (a0:List UInt8) (a1:List UInt8) (v1:Int):Option ((Int) ⊕ Option (Bool)):=
 if(decide (v1<(a0.length:Int)))then
  (zdn a0 v1).bind fun y2=>
  zaF (fun s:Bool × Int=>zbC a1 v1 y2 s.1 s.2) ((((decide ((y2.toNat:Int)≥97))&&(decide ((y2.toNat:Int)≤122)))||((decide ((y2.toNat:Int)≥48))&&(decide ((y2.toNat:Int)≤57)))),0)
 else
  some (.inr (some true))
noncomputable def zcr (a0:List UInt8) (a1:List UInt8):Option (Bool):=
 zaF (fun s:Int=>zdg a0 a1 s) 0
noncomputable def zej (a0:List UInt8):Option (Bool):=
 (zb3 (a0.length:Int) 1 12).bind fun v1=>
 if v1 then
  (zcr a0 ([46,47]:List UInt8)).bind fun v2=>
  some v2
 else
  some false
noncomputable def zeg (a0:List UInt8):Option (Bool):=
 if(decide ((a0.length:Int)≤24))then
  (zcr a0 ([46,45,44,95]:List UInt8)).bind fun v1=>
  some v1
 else
  some false
noncomputable def zcs (a0:List UInt8) (a1:List UInt8) (a2:Bool):Option (Bool):=
 (zej a0).bind fun v1=>
 if v1 then
  (zeg a1).bind fun v2=>
  some (v2&&((!a2)||(a1==([]:List UInt8))))
 else
  some false
noncomputable def zcK (a0:List zab):Option (Bool):=
 some (decide ((a0.length:Int)≤24))
noncomputable def zcQ (a0:List zab) (v1:Int):Option ((Int) ⊕ Option (Bool)):=
 if(decide (v1<(a0.length:Int)))then
  (zdn a0 v1).bind fun y2=>
  (zcs y2.fKey y2.fVal y2.fGone).bind fun v3=>
  if(decide (v1>0))then
   if v3 then
    (zdn a0 (IntKind.i64.wrap (v1-1))).bind fun y4=>
    if(!Op.bytesLess y4.fKey y2.fKey)then
     some (.inr (some false))
    else
     some (.inl (IntKind.i64.wrap (v1+1)))
   else
    some (.inr (some false))
  else
   if((!v3)||false)then
    some (.inr (some false))
   else
    some (.inl (IntKind.i64.wrap (v1+1)))
 else
  some (.inr (zcK a0))
noncomputable def zcX (a0:List zab):Option (Bool):=
 zaF (fun s:Int=>zcQ a0 s) 0
noncomputable def zc8 (a0:zaP):Option (Bool):=
 (zb3 a0.fTime 0 100000).bind fun v1=>
 if v1 then
  (zcX a0.fRows).bind fun v2=>
  some (v2&&((decide (a0.fTime>0))||((a0.fRows.length:Int)==0)))
 else
  some false
noncomputable def zce (a0:zaP) (v3:Int):Option ((Int) ⊕ Option (Bool)):=
 if(decide (v3<(a0.fRows.length:Int)))then
  (zdn a0.fRows v3).bind fun y4=>
  if y4.fGone then
   some (.inr (some false))
  else
   some (.inl (IntKind.i64.wrap (v3+1)))
 else
  some (.inr (zc8 a0))
noncomputable def zct (a0:zaP):Option (Bool):=
 zaF (fun s:Int=>zce a0 s) 0
noncomputable def zdt (a0:zaa):Option (Bool):=
 (zb3 a0.fTime 1 100000).bind fun v1=>
 if v1 then
  (zb3 a0.fGroup 0 3).bind fun v2=>
  if v2 then
   (zcs a0.fKey a0.fVal a0.fGone).bind fun v3=>
   some v3
  else
   some false
 else
  some false
noncomputable def zcW (a0:zaa) (a1:zaa):Option (Bool):=
 if(a0.fTime !=a1.fTime)then
  some (decide (a0.fTime<a1.fTime))
 else
  if(a0.fGroup !=a1.fGroup)then
   some (decide (a0.fGroup<a1.fGroup))
  else
   some (Op.bytesLess a0.fKey a1.fKey)
noncomputable def zbx (a0:List zaa):Option (Bool):=
 some (decide ((a0.length:Int)≤400))
noncomputable def zao (a0:List zaa) (v1:Int):Option ((Int) ⊕ Option (Bool)):=
 if((decide (v1<(a0.length:Int)))&&(decide (v1≤400)))then
  (zdn a0 v1).bind fun y2=>
  (zdt y2).bind fun v3=>
  if(decide (v1>0))then
   if v3 then
    (zdn a0 (IntKind.i64.wrap (v1-1))).bind fun y4=>
    (zcW y4 y2).bind fun v5=>
    if(!v5)then
     some (.inr (some false))
    else
     some (.inl (IntKind.i64.wrap (v1+1)))
   else
    some (.inr (some false))
  else
   if((!v3)||false)then
    some (.inr (some false))
   else
    some (.inl (IntKind.i64.wrap (v1+1)))
 else
  some (.inr (zbx a0))
noncomputable def zdp (a0:List zaa):Option (Bool):=
 zaF (fun s:Int=>zao a0 s) 0
noncomputable def zci (a0:zbq):Option (Bool):=
 (zb3 a0.fFrom 0 a0.fTo).bind fun v1=>
 if v1 then
  if(decide (a0.fTo≤100000))then
   if(decide ((a0.fList.length:Int)≤60))then
    (zdp a0.fList).bind fun v2=>
    some v2
   else
    some false
  else
   some false
 else
  some false
noncomputable def zcj (a0:zbq) (v3:Int):Option ((Int) ⊕ Option (Bool)):=
 if(decide (v3<(a0.fList.length:Int)))then
  (zdn a0.fList v3).bind fun y4=>
  if(y4.fGroup !=0)then
   some (.inr (some false))
  else
   (zb3 y4.fTime (IntKind.i64.wrap (a0.fFrom+1)) a0.fTo).bind fun v5=>
   if(!v5)then
    some (.inr (some false))
   else
    some (.inl (IntKind.i64.wrap (v3+1)))
 else
  some (.inr (zci a0))
noncomputable def zdl (a0:zbq):Option (Bool):=
 zaF (fun s:Int=>zcj a0 s) 0
noncomputable def ze3 (a1:zaa) (v1:Bool) (v2:List zab):Option (List zab):=
 if(!v1)then
  req ((((v2).length:Int)+(([(⟨a1.fKey,a1.fVal,false⟩:zab)]:List zab).length:Int))*40≤140737488355328∧((v2).length:Int)+(([(⟨a1.fKey,a1.fVal,false⟩:zab)]:List zab).length:Int)≤140737488355328)<|
  some (v2++ [(⟨a1.fKey,a1.fVal,false⟩:zab)])
 else
  some v2
noncomputable def zb2 (a0:List zab) (a1:zaa) (v4:Int) (v6:Bool) (v7:List zab):Option ((Bool × Int × List zab) ⊕ Option (List zab)):=
 (zdn a0 v4).bind fun y8=>
 if(y8.fKey !=a1.fKey)then
  req ((((v7).length:Int)+(([y8]:List zab).length:Int))*40≤140737488355328∧((v7).length:Int)+(([y8]:List zab).length:Int)≤140737488355328)<|
  some (.inl (v6,(IntKind.i64.wrap (v4+1)),(v7++ [y8])))
 else
  some (.inl (v6,(IntKind.i64.wrap (v4+1)),v7))
noncomputable def zbD (a0:List zab) (a1:zaa) (v3:Bool) (v4:Int) (v5:List zab):Option ((Bool × Int × List zab) ⊕ Option (List zab)):=
 if(decide (v4<(a0.length:Int)))then
  if v3 then
   zb2 a0 a1 v4 v3 v5
  else
   (zdn a0 v4).bind fun y9=>
   if(Op.bytesLess a1.fKey y9.fKey||a1.fKey==y9.fKey)then
    req ((((v5).length:Int)+(([(⟨a1.fKey,a1.fVal,false⟩:zab)]:List zab).length:Int))*40≤140737488355328∧((v5).length:Int)+(([(⟨a1.fKey,a1.fVal,false⟩:zab)]:List zab).length:Int)≤140737488355328)<|
    zb2 a0 a1 v4 true (v5++ [(⟨a1.fKey,a1.fVal,false⟩:zab)])
   else
    zb2 a0 a1 v4 v3 v5
 else
  some (.inr (ze3 a1 v3 v5))
noncomputable def zdD (a0:List zab) (a1:zaa):Option (List zab):=
 zaF (fun s:Bool × Int × List zab=>zbD a0 a1 s.1 s.2.1 s.2.2) (a1.fGone,0, [])
noncomputable def zdj (a1:zbq) (v3:List zab):Option (zaP × Bool):=
 (zct (⟨a1.fTo,v3⟩:zaP)).bind fun v4=>
 if(!v4)then
  some ((⟨0, []⟩:zaP),false)
 else
  some ((⟨a1.fTo,v3⟩:zaP),true)
noncomputable def zaX (a1:zbq) (v5:Int) (v6:List zab):Option ((Int × List zab) ⊕ Option (zaP × Bool)):=
 if(decide (v5<(a1.fList.length:Int)))then
  (zdn a1.fList v5).bind fun y7=>
  (zdD v6 y7).bind fun v8=>
  some (.inl ((IntKind.i64.wrap (v5+1)),v8))
 else
  some (.inr (zdj a1 v6))
noncomputable def zdk (a0:zaP) (a1:zbq):Option (zaP × Bool):=
 (zct a0).bind fun v1=>
 if v1 then
  (zdl a1).bind fun v2=>
  if((!v2)||(a1.fFrom !=a0.fTime))then
   some ((⟨0, []⟩:zaP),false)
  else
   req (((([]:List zab).length:Int)+((a0.fRows).length:Int))*40≤140737488355328∧(([]:List zab).length:Int)+((a0.fRows).length:Int)≤140737488355328)<|
   zaF (fun s:Int × List zab=>zaX a1 s.1 s.2) (0,a0.fRows)
 else
  some ((⟨0, []⟩:zaP),false)
noncomputable def zcf (a0:Int) (a1:Int) (a2:Int):Option (Bool):=
 some ((decide (a0≥a1))&&(decide (a0≤a2)))
noncomputable def zck (a0:Int):Option (Bool):=
 (zcf a0 0 100000).bind fun v1=>
 some v1
noncomputable def zaW (a0:List zab) (v1:Int) (v2:List (List UInt8)):Option ((Int × List (List UInt8)) ⊕ Option (List (List UInt8))):=
 if(decide (v1<(a0.length:Int)))then
  (zdn a0 v1).bind fun y3=>
  req ((((v2).length:Int)+(([y3.fKey]:List (List UInt8)).length:Int))*16≤140737488355328∧((v2).length:Int)+(([y3.fKey]:List (List UInt8)).length:Int)≤140737488355328)<|
  some (.inl ((IntKind.i64.wrap (v1+1)),(v2++ [y3.fKey])))
 else
  some (.inr (some v2))
noncomputable def zcv (a0:List zab):Option (List (List UInt8)):=
 zaF (fun s:Int × List (List UInt8)=>zaW a0 s.1 s.2) (0, [])
noncomputable def zb7 (a0:Int):Option (Bool):=
 some (((decide (a0≥97))&&(decide (a0≤122)))||((decide (a0≥48))&&(decide (a0≤57))))
noncomputable def zcA (a0:List UInt8) (a1:Int):Option (Int):=
 (zaA a0 a1).bind fun v1=>
 some v1
noncomputable def zcO (a0:List UInt8) (a1:List UInt8) (v1:Int):Option ((Int) ⊕ Option (Bool)):=
 if(decide (v1<(a0.length:Int)))then
  (zdn a0 v1).bind fun y2=>
  (zb7 (y2.toNat:Int)).bind fun v3=>
  if v3 then
   some (.inl (IntKind.i64.wrap (v1+1)))
  else
   (zcA a1 (y2.toNat:Int)).bind fun v4=>
   if(decide (v4<0))then
    some (.inr (some false))
   else
    some (.inl (IntKind.i64.wrap (v1+1)))
 else
  some (.inr (some true))
noncomputable def zb9 (a0:List UInt8) (a1:List UInt8):Option (Bool):=
 zaF (fun s:Int=>zcO a0 a1 s) 0
noncomputable def zcq (a0:List UInt8):Option (Bool):=
 (zcf (a0.length:Int) 1 12).bind fun v1=>
 if v1 then
  (zb9 a0 ([46,47]:List UInt8)).bind fun v2=>
  some v2
 else
  some false
noncomputable def zcC (a0:List (List UInt8)) (v1:Int):Option ((Int) ⊕ Option (Bool)):=
 if(decide (v1<(a0.length:Int)))then
  (zdn a0 v1).bind fun y2=>
  (zcq y2).bind fun v3=>
  if(decide (v1>0))then
   if v3 then
    (zdn a0 (IntKind.i64.wrap (v1-1))).bind fun y4=>
    if(Op.bytesLess y2 y4||y2==y4)then
     some (.inr (some false))
    else
     some (.inl (IntKind.i64.wrap (v1+1)))
   else
    some (.inr (some false))
  else
   if((!v3)||false)then
    some (.inr (some false))
   else
    some (.inl (IntKind.i64.wrap (v1+1)))
 else
  some (.inr (some true))
noncomputable def zcx (a0:List (List UInt8)):Option (Bool):=
 zaF (fun s:Int=>zcC a0 s) 0
noncomputable def zdm (a0:List UInt8):Option (Bool):=
 if(decide ((a0.length:Int)≤24))then
  (zb9 a0 ([46,45,44,95]:List UInt8)).bind fun v1=>
  some v1
 else
  some false
noncomputable def zb6 (a0:List UInt8) (a1:Bool):Option (Bool):=
 (zdm a0).bind fun v1=>
 some (v1&&(!(a1&&(a0 !=([]:List UInt8)))))
noncomputable def zbL (a0:zab):Option (Bool):=
 (zb6 a0.fVal a0.fGone).bind fun v1=>
 some (!v1)
noncomputable def zcg (a0:List zab):Option (Bool):=
 if(decide ((a0.length:Int)≤24))then
  (zcv a0).bind fun v1=>
  (zcx v1).bind fun v2=>
  if v2 then
   (zaE a0 (fun y0_=>zbL y0_)).bind fun v3=>
   some (!v3)
  else
   some false
 else
  some false
noncomputable def zcN (a0:zab):Option (Bool):=
 some a0.fGone
noncomputable def zdS (a0:List zab):Option (Bool):=
 (zcg a0).bind fun v1=>
 if v1 then
  (zaE a0 (fun y0_=>zcN y0_)).bind fun v2=>
  some (!v2)
 else
  some false
noncomputable def zb4 (a0:zaP):Option (Bool):=
 (zck a0.fTime).bind fun v1=>
 if v1 then
  (zdS a0.fRows).bind fun v2=>
  some (v2&&((decide (a0.fTime>0))||((a0.fRows.length:Int)==0)))
 else
  some false
noncomputable def zbP (a0:Int):Option (Bool):=
 some (a0 !=a0)
noncomputable def zbm (a0:Int) (a1:Int):Option (Int):=
 (zbP a0).bind fun v1=>
 (zbP a1).bind fun v2=>
 if v1 then
  if v2 then
   some 0
  else
   some (-1)
 else
  if v2 then
   some 1
  else
   if(decide (a0<a1))then
    some (-1)
   else
    if(decide (a0>a1))then
     some 1
    else
     some 0
noncomputable def zbf (a0:List UInt8):Option (Bool):=
 some (a0 !=a0)
noncomputable def za0 (a0:List UInt8) (a1:List UInt8):Option (Int):=
 (zbf a0).bind fun v1=>
 (zbf a1).bind fun v2=>
 if v1 then
  if v2 then
   some 0
  else
   some (-1)
 else
  if v2 then
   some 1
  else
   if(Op.bytesLess a0 a1)then
    some (-1)
   else
    if(!(Op.bytesLess a0 a1||a0==a1))then
     some 1
    else
     some 0
noncomputable def zbO (a0:List Int) (v1:Int):Option ((Int) ⊕ Option (Int)):=
 if(decide (v1<(a0.length:Int)))then
  (zdn a0 v1).bind fun y2=>
  if(y2 !=0)then
   some (.inr (some y2))
  else
   some (.inl (IntKind.i64.wrap (v1+1)))
 else
  some (.inr (some 0))
noncomputable def zdN (a0:List Int):Option (Int):=
 zaF (fun s:Int=>zbO a0 s) 0
noncomputable def zbI (a0:zaa) (a1:zaa):Option (Int):=
 (zbm a0.fTime a1.fTime).bind fun v1=>
 (zbm a0.fGroup a1.fGroup).bind fun v2=>
 (za0 a0.fKey a1.fKey).bind fun v3=>
 (zdN ([v1,v2,v3]:List Int)).bind fun v4=>
 some v4
noncomputable def zdF (a0:List zaa):Option (Bool):=
 some (decide ((a0.length:Int)≤400))
noncomputable def za8 (a0:List zaa) (v1:Int):Option ((Int) ⊕ Option (Bool)):=
 if(decide (v1<(a0.length:Int)))then
  if(decide (v1>0))then
   (zdn a0 (IntKind.i64.wrap (v1-1))).bind fun y2=>
   (zdn a0 v1).bind fun y3=>
   (zbI y2 y3).bind fun v4=>
   if(decide (v4≥0))then
    some (.inr (some false))
   else
    some (.inl (IntKind.i64.wrap (v1+1)))
  else
   some (.inl (IntKind.i64.wrap (v1+1)))
 else
  some (.inr (zdF a0))
noncomputable def zdT (a0:List zaa):Option (Bool):=
 zaF (fun s:Int=>za8 a0 s) 0
noncomputable def zeL (a0:Int):Option (Bool):=
 (zcf a0 1 100000).bind fun v1=>
 some v1
noncomputable def zel (a0:Int):Option (Bool):=
 (zcf a0 0 3).bind fun v1=>
 some v1
noncomputable def zcR (a0:zaa):Option (Bool):=
 (zeL a0.fTime).bind fun v1=>
 if v1 then
  (zel a0.fGroup).bind fun v2=>
  if v2 then
   (zcq a0.fKey).bind fun v3=>
   if v3 then
    (zb6 a0.fVal a0.fGone).bind fun v4=>
    some v4
   else
    some false
  else
   some false
 else
  some false
noncomputable def zdh (a0:zaa):Option (Bool):=
 (zcR a0).bind fun v1=>
 some (!v1)
noncomputable def zcM (a0:List zaa):Option (Bool):=
 (zdT a0).bind fun v1=>
 if v1 then
  (zaE a0 (fun y0_=>zdh y0_)).bind fun v2=>
  some (!v2)
 else
  some false
noncomputable def zc7 (a0:zaa) (a1:zbq):Option (Bool):=
 some (((a0.fGroup !=0)||(decide (a0.fTime≤a1.fFrom)))||(decide (a0.fTime>a1.fTo)))
noncomputable def zcY (a0:zbq):Option (Bool):=
 (zck a0.fFrom).bind fun v1=>
 if v1 then
  (zck a0.fTo).bind fun v2=>
  if v2 then
   if(decide (a0.fFrom≤a0.fTo))then
    if(decide ((a0.fList.length:Int)≤60))then
     (zcM a0.fList).bind fun v3=>
     if v3 then
      (zaE a0.fList (fun y0_=>zc7 y0_ a0)).bind fun v4=>
      some (!v4)
     else
      some false
    else
     some false
   else
    some false
  else
   some false
 else
  some false
noncomputable def zaB (xs:List zab):Option (List zab):=zku 40 xs
noncomputable def zak (a0:List zab) (a1:List UInt8) (a2:zab→(List UInt8)→Option Int) (v1:Int):Option (Int × Bool):=
 if(decide (v1<(a0.length:Int)))then
  (zdn a0 v1).bind fun y2=>
  (a2 y2 a1).bind fun v3=>
  some (v1,(v3==0))
 else
  some (v1,false)
noncomputable def zad (a0:List zab) (a1:List UInt8) (a2:zab→(List UInt8)→Option Int) (v4:Int) (v5:Int):Option ((Int × Int) ⊕ Option (Int × Bool)):=
 if(decide (v4<v5))then
  (zdn a0 (IntKind.i64.wrap (Int.fdiv (IntKind.u64.wrap (IntKind.i64.wrap (v4+v5))) (2^(min ((1:Int)).toNat (IntKind.bits .u64)))))).bind fun y6=>
  (a2 y6 a1).bind fun v7=>
  if(decide (v7<0))then
   some (.inl ((IntKind.i64.wrap ((IntKind.i64.wrap (Int.fdiv (IntKind.u64.wrap (IntKind.i64.wrap (v4+v5))) (2^(min ((1:Int)).toNat (IntKind.bits .u64)))))+1)),v5))
  else
   some (.inl (v4,(IntKind.i64.wrap (Int.fdiv (IntKind.u64.wrap (IntKind.i64.wrap (v4+v5))) (2^(min ((1:Int)).toNat (IntKind.bits .u64)))))))
 else
  some (.inr (zak a0 a1 a2 v4))
noncomputable def zam (a0:List zab) (a1:List UInt8) (a2:zab→(List UInt8)→Option Int):Option (Int × Bool):=
 zaF (fun s:Int × Int=>zad a0 a1 a2 s.1 s.2) (0,(a0.length:Int))
noncomputable def za5 (a0:zab) (a1:List UInt8):Option (Int):=
 (za0 a0.fKey a1).bind fun v1=>
 some v1
noncomputable def zcu (a0:List zab) (a1:List UInt8):Option (Int × Bool):=
 (zam a0 a1 (fun y0_ y1_=>za5 y0_ y1_)).bind fun v1=>
 some (v1.1,v1.2)
noncomputable def zc1 (a0:List zab) (a1:zab):Option (List zab):=
 (zcu a0 a1.fKey).bind fun v1=>
 if v1.2 then
  (zdn a0 v1.1).bind fun y2=>
  some (a0.set (v1.1).toNat a1)
 else
  (zh9 a0 v1.1 ([a1]:List zab)).bind fun v3=>
  some v3
noncomputable def zdJ (a0:zab):Option (Bool):=
 some a0.fGone
noncomputable def zdi (a1:zbq) (v4:List zab):Option (zaP × Bool):=
 (zef v4 (fun y0_=>zdJ y0_)).bind fun v5=>
 (zb4 (⟨a1.fTo,v5⟩:zaP)).bind fun v6=>
 if(!v6)then
  some ((⟨0, []⟩:zaP),false)
 else
  some ((⟨a1.fTo,v5⟩:zaP),true)
noncomputable def zbe (a1:zbq) (v7:Int) (v8:List zab):Option ((Int × List zab) ⊕ Option (zaP × Bool)):=
 if(decide (v7<(a1.fList.length:Int)))then
  (zdn a1.fList v7).bind fun y9=>
  (zc1 v8 (⟨y9.fKey,y9.fVal,y9.fGone⟩:zab)).bind fun v10=>
  some (.inl ((IntKind.i64.wrap (v7+1)),v10))
 else
  some (.inr (zdi a1 v8))
noncomputable def zcp (a0:zaP) (a1:zbq):Option (zaP × Bool):=
 (zb4 a0).bind fun v1=>
 if v1 then
  (zcY a1).bind fun v2=>
  if((!v2)||(a1.fFrom !=a0.fTime))then
   some ((⟨0, []⟩:zaP),false)
  else
   (zaB a0.fRows).bind fun v3=>
   zaF (fun s:Int × List zab=>zbe a1 s.1 s.2) (0,v3)
 else
  some ((⟨0, []⟩:zaP),false)
noncomputable def zdo (a0:zab) (a1:zab):Option (Bool):=
 if(a0.fKey !=a1.fKey)then
  some false
 else
  if(a0.fVal !=a1.fVal)then
   some false
  else
   if(a0.fGone !=a1.fGone)then
    some false
   else
    some true
noncomputable def zbn (a0:List zab) (a1:List zab) (v1:Int):Option ((Int) ⊕ Option (Bool)):=
 if(decide (v1<(a0.length:Int)))then
  (zdn a0 v1).bind fun y2=>
  (zdn a1 v1).bind fun y3=>
  (zdo y2 y3).bind fun v4=>
  if(!v4)then
   some (.inr (some false))
  else
   some (.inl (IntKind.i64.wrap (v1+1)))
 else
  some (.inr (some true))
noncomputable def zc3 (a0:List zab) (a1:List zab):Option (Bool):=
 if((a0.length:Int) !=(a1.length:Int))then
  some false
 else
  zaF (fun s:Int=>zbn a0 a1 s) 0
noncomputable def zbK (a0:zaP) (a1:zaP):Option (Bool):=
 if(a0.fTime !=a1.fTime)then
  some false
 else
  (zc3 a0.fRows a1.fRows).bind fun v1=>
  if(!v1)then
   some false
  else
   some true
noncomputable def zch (a0:zaa) (a1:zaa):Option (Bool):=
 if(a0.fTime !=a1.fTime)then
  some false
 else
  if(a0.fGroup !=a1.fGroup)then
   some false
  else
   if(a0.fKey !=a1.fKey)then
    some false
   else
    if(a0.fVal !=a1.fVal)then
     some false
    else
     if(a0.fGone !=a1.fGone)then
      some false
     else
      some true
noncomputable def zaZ (a0:List zaa) (a1:List zaa) (v1:Int):Option ((Int) ⊕ Option (Bool)):=
 if(decide (v1<(a0.length:Int)))then
  (zdn a0 v1).bind fun y2=>
  (zdn a1 v1).bind fun y3=>
  (zch y2 y3).bind fun v4=>
  if(!v4)then
   some (.inr (some false))
  else
   some (.inl (IntKind.i64.wrap (v1+1)))
 else
  some (.inr (some true))
noncomputable def zbV (a0:List zaa) (a1:List zaa):Option (Bool):=
 if((a0.length:Int) !=(a1.length:Int))then
  some false
 else
  zaF (fun s:Int=>zaZ a0 a1 s) 0
noncomputable def zdL (a0:zbq) (a1:zbq):Option (Bool):=
 if(a0.fFrom !=a1.fFrom)then
  some false
 else
  if(a0.fTo !=a1.fTo)then
   some false
  else
   (zbV a0.fList a1.fList).bind fun v1=>
   if(!v1)then
    some false
   else
    some true
noncomputable def zea (v1:List UInt8):Option (List UInt8):=
 req ((([109]:List UInt8)).length+(v1).length≤9223372036854775807)<|
 some ((([109]:List UInt8):List UInt8)++v1)
noncomputable def zaJ (v2:Int) (v3:List UInt8):Option ((Int × List UInt8) ⊕ Option (List UInt8)):=
 if(decide (v2>0))then
  req (([(IntKind.u8.wrap (IntKind.i64.wrap ((48:Int)+(Int.tmod v2 10))))]:List Int).length≤9223372036854775807)<|
  req ((([(IntKind.u8.wrap (IntKind.i64.wrap ((48:Int)+(Int.tmod v2 10))))].map fun n=>UInt8.ofNat n.toNat)).length+(v3).length≤9223372036854775807)<|
  some (.inl ((IntKind.i64.wrap (Int.tdiv v2 10)),(([(IntKind.u8.wrap (IntKind.i64.wrap ((48:Int)+(Int.tmod v2 10))))].map fun n=>UInt8.ofNat n.toNat)++v3)))
 else
  some (.inr (zea v3))
noncomputable def zaD (a0:Int):Option (List UInt8):=
 if(decide (a0≤0))then
  some ([109,48]:List UInt8)
 else
  zaF (fun s:Int × List UInt8=>zaJ s.1 s.2) (a0,([]:List UInt8))
noncomputable def zaU (v1:Int) (v2:Int) (v3:List zab):Option ((Int × Int × List zab) ⊕ Option (Int × List zab)):=
 if(decide (v2<(v3.length:Int)))then
  (zaD v1).bind fun v4=>
  (zdn v3 v2).bind fun y5=>
  (zaD (IntKind.i64.wrap (v1+1))).bind fun v6=>
  some (.inl ((IntKind.i64.wrap ((IntKind.i64.wrap ((IntKind.i64.wrap (v1+1))+1))+1)),(IntKind.i64.wrap (v2+1)),(((v3.set (v2).toNat {y5 with fKey:=v4}).set (v2).toNat {{y5 with fKey:=v4}with fVal:=v6}).set (v2).toNat {{{y5 with fKey:=v4}with fVal:=v6}with fGone:=((Int.tmod (IntKind.i64.wrap ((IntKind.i64.wrap (v1+1))+1)) 3)==0)})))
 else
  some (.inr (some (v1,v3)))
noncomputable def zde (a0:List zab) (a1:Int):Option (Int × List zab):=
 zaF (fun s:Int × Int × List zab=>zaU s.1 s.2.1 s.2.2) (a1,0,a0)
noncomputable def zcb (a0:zaP) (a1:Int):Option (Int × zaP):=
 (zde a0.fRows a1).bind fun v1=>
 some (v1.1,(⟨a0.fTime,v1.2⟩:zaP))
noncomputable def zaH (v1:Int) (v2:Int) (v3:List zaa):Option ((Int × Int × List zaa) ⊕ Option (Int × List zaa)):=
 if(decide (v2<(v3.length:Int)))then
  (zdn v3 v2).bind fun y4=>
  (zaD (IntKind.i64.wrap ((IntKind.i64.wrap (v1+1))+1))).bind fun v5=>
  (zaD (IntKind.i64.wrap ((IntKind.i64.wrap ((IntKind.i64.wrap (v1+1))+1))+1))).bind fun v6=>
  some (.inl ((IntKind.i64.wrap ((IntKind.i64.wrap ((IntKind.i64.wrap ((IntKind.i64.wrap ((IntKind.i64.wrap (v1+1))+1))+1))+1))+1)),(IntKind.i64.wrap (v2+1)),(((((v3.set (v2).toNat {y4 with fTime:=v1}).set (v2).toNat {{y4 with fTime:=v1}with fGroup:=(IntKind.i64.wrap (v1+1))}).set (v2).toNat {{{y4 with fTime:=v1}with fGroup:=(IntKind.i64.wrap (v1+1))}with fKey:=v5}).set (v2).toNat {{{{y4 with fTime:=v1}with fGroup:=(IntKind.i64.wrap (v1+1))}with fKey:=v5}with fVal:=v6}).set (v2).toNat {{{{{y4 with fTime:=v1}with fGroup:=(IntKind.i64.wrap (v1+1))}with fKey:=v5}with fVal:=v6}with fGone:=((Int.tmod (IntKind.i64.wrap ((IntKind.i64.wrap ((IntKind.i64.wrap ((IntKind.i64.wrap (v1+1))+1))+1))+1)) 3)==0)})))
 else
  some (.inr (some (v1,v3)))
noncomputable def zcn (a0:List zaa) (a1:Int):Option (Int × List zaa):=
 zaF (fun s:Int × Int × List zaa=>zaH s.1 s.2.1 s.2.2) (a1,0,a0)
noncomputable def zcH (a0:zbq) (a1:Int):Option (Int × zbq):=
 (zcn a0.fList a1).bind fun v1=>
 some (v1.1,(⟨a0.fFrom,a0.fTo,v1.2⟩:zbq))
noncomputable def zaT (a0:List zab) (v1:Int) (v2:Int):Option ((Int × Int) ⊕ Option (Int)):=
 if(decide (v2<(a0.length:Int)))then
  (zdn a0 v2).bind fun y3=>
  (zaD v1).bind fun v4=>
  if(y3.fKey !=v4)then
   some (.inr (some (-1)))
  else
   (zaD (IntKind.i64.wrap (v1+1))).bind fun v5=>
   if(y3.fVal !=v5)then
    some (.inr (some (-1)))
   else
    if(y3.fGone !=((Int.tmod (IntKind.i64.wrap ((IntKind.i64.wrap (v1+1))+1)) 3)==0))then
     some (.inr (some (-1)))
    else
     some (.inl ((IntKind.i64.wrap ((IntKind.i64.wrap ((IntKind.i64.wrap (v1+1))+1))+1)),(IntKind.i64.wrap (v2+1))))
 else
  some (.inr (some v1))
noncomputable def zdf (a0:List zab) (a1:Int):Option (Int):=
 zaF (fun s:Int × Int=>zaT a0 s.1 s.2) (a1,0)
noncomputable def zb5 (a0:zaP) (a1:Int):Option (Int):=
 (zdf a0.fRows a1).bind fun v1=>
 if(decide (v1<0))then
  some (-1)
 else
  some v1
noncomputable def zbl (a0:zaP) (a1:zbq):Option (Bool):=
 (zdP a0 1048576).bind fun v1=>
 if(decide (v1<0))then
  some true
 else
  (zdQ a1 v1).bind fun v2=>
  if(decide (v2<0))then
   some true
  else
   (zbN a0).bind fun v3=>
   (zbJ a1).bind fun v4=>
   (zdk v3 v4).bind fun v5=>
   (zbN a0).bind fun v6=>
   (zbJ a1).bind fun v7=>
   (zcp v6 v7).bind fun v8=>
   (zbK v8.1 v5.1).bind fun v9=>
   if((!v9)||(v8.2 !=v5.2))then
    some false
   else
    (zbN a0).bind fun v10=>
    (zbK v6 v10).bind fun v11=>
    if(!v11)then
     some false
    else
     (zbJ a1).bind fun v12=>
     (zdL v7 v12).bind fun v13=>
     if(!v13)then
      some false
     else
      (zcb v6 1).bind fun v14=>
      (zcH v7 v14.1).bind fun v15=>
      if(decide (v15.1<0))then
       some false
      else
       (zbK v8.1 v5.1).bind fun v16=>
       if((!v16)||(v8.2 !=v5.2))then
        some false
       else
        (zcb v8.1 1).bind fun v17=>
        (zb5 (⟨v8.1.fTime,v17.2.fRows⟩:zaP) 1).bind fun v18=>
        if(decide (v18<0))then
         some false
        else
         if(v18 !=v17.1)then
          some false
         else
          (zbN a0).bind fun v19=>
          (zbJ a1).bind fun v20=>
          (zcp v19 v20).bind fun v21=>
          (zbK v21.1 v5.1).bind fun v22=>
          if((!v22)||(v21.2 !=v5.2))then
           some false
          else
           (zb5 (⟨v8.1.fTime,v17.2.fRows⟩:zaP) 1).bind fun v23=>
           if(decide (v23<0))then
            some false
           else
            if(v23 !=v17.1)then
             some false
            else
             some true
end Go.Proofs.Ythgeekoigbihbaa
end
section
namespace Go.Proofs.Ythgeekoigbihbaa
open Go.RowKit
set_option maxRecDepth 100000
abbrev Str:=List UInt8
def inB (a b c:Int):Bool:=decide (a≥b)&&decide (a≤c)
theorem zeX {a b c:Int}:inB a b c=true↔b≤a∧a≤c:=by simp [inB]
@[simp] theorem zlq (a b c:Int):zb3 a b c=some (inB a b c):=rfl
@[simp] theorem zhY (a b c:Int):zcf a b c=some (inB a b c):=rfl
def ze5 (b:UInt8):Bool:=(decide ((b.toNat:Int)≥97)&&decide ((b.toNat:Int)≤122))||(decide ((b.toNat:Int)≥48)&&decide ((b.toNat:Int)≤57))
def zhd (s more:Str):Bool:=s.all fun b=>ze5 b||more.contains b
theorem zt8 {a b:UInt8}:((a.toNat:Int)==(b.toNat:Int))=(a==b):=by
 rw [Bool.eq_iff_iff]
 simp only [beq_iff_eq]
 constructor
 ·intro h;exact UInt8.toNat_inj.1 (by omega)
 ·rintro rfl;rfl
theorem zlB {α:Type} (xs:List α) (p:α→Bool) (q:Nat→Bool) (h: ∀(i:Nat) (hi:i<xs.length),q i=p xs[i]):(List.range xs.length).all q=xs.all p:=by
 rw [Bool.eq_iff_iff]
 simp only [List.all_eq_true,List.mem_range]
 constructor
 ·intro hq x hx
  obtain⟨i,hi,rfl⟩:=List.getElem_of_mem hx
  rw [←h i hi];exact hq i hi
 ·intro hp i hi
  rw [h i hi];exact hp _ (List.getElem_mem hi)
theorem zhZ {α β:Type} {xs:List α} {body:Int→Option (Int ⊕ Option β)} (p:α→Bool) (b:β) (fin:Option β)
  (hs: ∀(i:Nat) (hi:i<xs.length),body i=some (if p xs[i]=true then .inl ((i+1:Nat):Int)else .inr (some b))) (he:body xs.length=some (.inr fin)):zaF body 0=if xs.all p=true then fin else some b:=by
 rw [zgy (n:=xs.length) (fun i=>match xs[i]? with|some x=>p x|none=>true) b fin (fun i hi=>by rw [hs i hi];simp [hi]) he,
  zlB xs p _ fun i hi=>by simp [hi]]
theorem zlP {s more:Str} (h1:s.length≤2000000) (h2:more.length≤2000000):zcr s more=some (zhd s more):=by
 unfold zcr
 rw [zhZ (xs:=s) (fun b=>ze5 b||more.contains b) false (some true) ?_ (by simp [zdg])]
 ·unfold zhd
  cases(s.all fun b=>ze5 b||more.contains b)<;>rfl
 ·intro i hi
  have hin:zaF (fun t:Bool × Int=>zbC more i s[i] t.1 t.2) (ze5 s[i],0)=some (if(ze5 s[i]||more.contains s[i])=true then .inl ((i+1:Nat):Int)else .inr (some false)):=by
   have hl:=zk9 (xs:=more) (body:=fun t:Bool × Int=>zbC more i s[i] t.1 t.2) (fun k (ok:Bool)=>(ok,k)) (fun b ok=>some (.inl (ok||s[i]==b))) (fun ok=>zdc i ok)
    (fun k hk ok=>by
     simp only [zbC,Int.ofNat_lt,hk,decide_true,if_true,zau hk,Option.bind_some,zdV hk (by omega:more.length≤_),zt8,zmr]
     cases ok<;>simp) (fun ok=>by simp [zbC]) (ze5 s[i])
   rw [zqd (fun ok b=>ok||s[i]==b) (fun _=>True) (fun _ _ _ _=>trivial) (fun _ _ _ _=>rfl) trivial]at hl
   have hf: ∀(l:Str) (ok:Bool),l.foldl (fun ok b=>ok||s[i]==b) ok=(ok||l.contains s[i]):=by
    intro l
    induction l with
    |nil=>intro ok;simp
    |cons c l ih=>intro ok;rw [List.foldl_cons,ih,List.contains_cons,Bool.or_assoc]
   rw [hl,hf]
   unfold zdc
   rw [zdV hi (by omega)]
   cases(ze5 s[i]||more.contains s[i])<;>rfl
  simp only [zdg,Int.ofNat_lt,hi,decide_true,if_true,zau hi,Option.bind_some]
  exact hin
theorem zkf (l:Str) (c:UInt8):decide (Lib.indexByte l c<0)= !l.contains c:=by
 induction l with
 |nil=>rfl
 |cons b l ih=>
  unfold Lib.indexByte
  have hge:=Lib.indexByte_ge l c
  rw [List.contains_cons]
  by_cases hb:b=c
  ·subst hb;simp
  ·have h1:(b==c)=false:=by simpa using hb
   have h2:(c==b)=false:=by simpa using fun h=>hb h.symm
   rw [h1,h2]
   simp only [Bool.false_eq_true,if_false,Bool.false_or]
   rw [←ih]
   by_cases hm:Lib.indexByte l c= -1
   ·simp [hm]
   ·have h3:(Lib.indexByte l c== -1)=false:=by simpa using hm
    rw [h3]
    simp only [Bool.false_eq_true,if_false]
    rw [decide_eq_decide]
    omega
theorem zjT {s more:Str} (h1:s.length≤2000000):zb9 s more=some (zhd s more):=by
 unfold zb9
 rw [zhZ (xs:=s) (fun b=>ze5 b||more.contains b) false (some true) ?_ (by simp [zcO])]
 ·unfold zhd
  cases(s.all fun b=>ze5 b||more.contains b)<;>rfl
 ·intro i hi
  have hu:((s[i].toNat:Int)).toNat.toUInt8=s[i]:=by simp
  simp only [zcO,Int.ofNat_lt,hi,decide_true,if_true,zau hi,Option.bind_some,zb7,zcA,zaA,hu,zkf,zdV hi (by omega:s.length≤_)]
  rw [show((decide ((s[i].toNat:Int)≥97)&&decide ((s[i].toNat:Int)≤122))||(decide ((s[i].toNat:Int)≥48)&&decide ((s[i].toNat:Int)≤57)))=ze5 s[i]from rfl]
  cases ze5 s[i]<;>cases more.contains s[i]<;>rfl
def zbG (s:Str):Bool:=inB s.length 1 12&&zhd s [46,47]
def zgv (s:Str):Bool:=decide ((s.length:Int)≤24)&&zhd s [46,45,44,95]
theorem zs2 {s:Str} (h:s.length≤2000000):zej s=some (zbG s):=by
 simp only [zej,zlq,Option.bind_some,zlP h (more:= [46,47]) (by decide),zbG]
 cases inB s.length 1 12<;>simp
theorem zqK {s:Str} (h:s.length≤2000000):zcq s=some (zbG s):=by
 simp only [zcq,zhY,Option.bind_some,zjT h,zbG]
 cases inB s.length 1 12<;>simp
theorem zs0 {s:Str} (h:s.length≤2000000):zeg s=some (zgv s):=by
 simp only [zeg,Option.bind_some,zlP h (more:= [46,45,44,95]) (by decide),zgv]
 by_cases hl:(s.length:Int)≤24<;>simp [hl]
theorem zs5 {s:Str} (h:s.length≤2000000):zdm s=some (zgv s):=by
 simp only [zdm,Option.bind_some,zjT h,zgv]
 by_cases hl:(s.length:Int)≤24<;>simp [hl]
def zfc (v:Str) (zmc:Bool):Bool:=zgv v&&(!zmc||v== [])
theorem zlp {v:Str} {zmc:Bool} (h:v.length≤2000000):zb6 v zmc=some (zfc v zmc):=by
 simp only [zb6,zs5 h,Option.bind_some,zfc,bne]
 cases zgv v<;>cases zmc<;>cases(v== [])<;>rfl
theorem zm5 {k v:Str} {zmc:Bool} (hk:k.length≤2000000) (hv:v.length≤2000000):zcs k v zmc=some (zbG k&&zfc v zmc):=by
 simp only [zcs,zs2 hk,zs0 hv,Option.bind_some,zfc]
 cases zbG k<;>simp
def zcL (ks:List Str) (i:Nat):Bool:=i==0||Op.bytesLess ((ks[i-1]?).getD []) ((ks[i]?).getD [])
def zie (ks:List Str):Bool:=(List.range ks.length).all (zcL ks)
theorem zmP: ∀(a b:Str),(Op.bytesLess a b||a==b)= !Op.bytesLess b a
 | [], []=>rfl
 | [],_::_=>rfl
 |_::_, []=>rfl
 |x::a,y::b=>by
  have ih:=zmP a b
  simp only [Op.bytesLess]
  rcases Nat.lt_trichotomy x.toNat y.toNat with h|h|h
  ·have h1:x<y:=UInt8.lt_iff_toNat_lt.2 h
   have h2: ¬y<x:=fun h'=>by have:=UInt8.lt_iff_toNat_lt.1 h';omega
   have h3: ¬y=x:=fun h'=>by subst h';omega
   simp [h1,h2,h3]
  ·have h0:x=y:=UInt8.toNat_inj.1 h
   subst h0
   have h1: ¬x<x:=fun h'=>by have:=UInt8.lt_iff_toNat_lt.1 h';omega
   rw [show((x::a)==(x::b))=(a==b) by simp]
   simp only [h1,decide_false,Bool.false_or,beq_self_eq_true,Bool.true_and]
   exact ih
  ·have h1: ¬x<y:=fun h'=>by have:=UInt8.lt_iff_toNat_lt.1 h';omega
   have h2:y<x:=UInt8.lt_iff_toNat_lt.2 h
   have h3: ¬x=y:=fun h'=>by subst h';omega
   simp [h1,h2,h3]
theorem ziv {i:Nat} (h0:0<i) (h:i≤2000000):IntKind.i64.wrap ((i:Int)-1)=((i-1:Nat):Int):=by
 rw [zbt (by omega) (by omega)];omega
theorem zoL {α:Type} (xs:List α) (p:α→Bool) (q r:Nat→Bool) (h: ∀(i:Nat) (hi:i<xs.length),r i=(p xs[i]&&q i)):(List.range xs.length).all r=(xs.all p&&(List.range xs.length).all q):=by
 rw [←zlB xs p (fun i=>match xs[i]? with|some x=>p x|none=>true) fun i hi=>by simp [hi]]
 rw [Bool.eq_iff_iff]
 simp only [Bool.and_eq_true,List.all_eq_true,List.mem_range]
 constructor
 ·intro hr
  exact⟨fun i hi=>by have:=hr i hi;rw [h i hi,Bool.and_eq_true]at this;simpa [hi]using this.1,fun i hi=>by have:=hr i hi;rw [h i hi,Bool.and_eq_true]at this;exact this.2⟩
 ·rintro⟨h1,h2⟩ i hi
  rw [h i hi,Bool.and_eq_true]
  exact⟨by have:=h1 i hi;simpa [hi]using this,h2 i hi⟩
theorem zmJ {ks:List Str} (h:ks.length≤2000000) (hk: ∀k∈ks,k.length≤2000000):zcx ks=some (ks.all zbG&&zie ks):=by
 unfold zcx zie
 rw [zgy (n:=ks.length) (fun i=>zbG ((ks[i]?).getD [])&&zcL ks i) false (some true) ?_ (by simp [zcC]),zoL ks zbG (zcL ks) _ fun i hi=>by simp [hi]]
 ·cases(ks.all zbG&&(List.range ks.length).all (zcL ks))<;>rfl
 ·intro i hi
  simp only [zcC,Int.ofNat_lt,hi,decide_true,if_true,zau hi,Option.bind_some,zqK (hk _ (List.getElem_mem hi)),zdV hi (by omega:ks.length≤_),List.getElem?_eq_getElem hi,Option.getD_some,zcL]
  by_cases h0:i=0
  ·subst h0
   cases zbG ks[0]<;>simp
  ·have hp:(i:Int)>0:=by omega
   have hi1:i-1<ks.length:=by omega
   have hb:(i==0)=false:=by simpa using h0
   simp only [hp,decide_true,if_true,ziv (Nat.pos_of_ne_zero h0) (by omega:i≤2000000),zau hi1,Option.bind_some,zmP,List.getElem?_eq_getElem hi1,Option.getD_some,hb,Bool.false_or]
   cases zbG ks[i]<;>cases Op.bytesLess ks[i-1] ks[i]<;>rfl
theorem zmI {l:List zab} (h:l.length≤2000000):zcv l=some (l.map (·.fKey)):=by
 have h1:=zfr (xs:=l) (body:=fun s:Int × List Str=>zaW l s.1 s.2) (fun i (o:List Str)=>(i,o)) (fun o w=>o++ [w.fKey]) (fun o=>some o) (fun q o=>o.length=q)
  (fun i hi o hI=>by
   refine⟨?_,by simp [hI]⟩
   show zaW l i o=_
   unfold zaW
   have hr:((o.length:Int)+(([l[i].fKey]:List Str).length:Int))*16≤140737488355328∧(o.length:Int)+(([l[i].fKey]:List Str).length:Int)≤140737488355328:=by
    rw [List.length_singleton,hI];omega
   rw [if_pos (by simpa using hi),zau hi,Option.bind_some,zcB hr,zdV hi (by omega)]) (fun o _=>by
   show zaW l l.length o=_
   unfold zaW
   rw [if_neg (by simp)]) (s:= []) rfl
 have hf: ∀(l:List zab) (o:List Str),l.foldl (fun o w=>o++ [w.fKey]) o=o++l.map (·.fKey):=by
  intro l
  induction l with
  |nil=>intro o;simp
  |cons w l ih=>intro o;rw [List.foldl_cons,ih];simp
 have h2:=h1.1
 rw [hf,List.nil_append]at h2
 unfold zcv
 exact h2
def zjd (w:zab):Bool:=zbG w.fKey&&zfc w.fVal w.fGone
def zbd (l:List zab):Bool:=decide ((l.length:Int)≤24)&&(l.all zjd&&zie (l.map (·.fKey)))
def zeY (l:List zab):Prop:=l.length≤2000000∧ ∀w∈l,w.fKey.length≤2000000∧w.fVal.length≤2000000
theorem zn9 {l:List zab} (h:zeY l):zcg l=some (zbd l):=by
 have e1:zaE l (fun y0_=>zbL y0_)=some (l.any fun w=> !zfc w.fVal w.fGone):=zkg _ (fun w hw=>by simp [zbL,zlp (h.2 w hw).2]) (by have:=h.1;omega)
 have e2:=zmJ (ks:=l.map (·.fKey)) (by simpa using h.1) (by simp only [List.mem_map];rintro k ⟨w,hw,rfl⟩;exact(h.2 w hw).1)
 simp only [zcg,zmI h.1,e1,e2,Option.bind_some,zbd,←List.not_all_eq_any_not]
 have e3:l.all zjd=((l.map (·.fKey)).all zbG&&l.all fun w=>zfc w.fVal w.fGone):=by
  rw [Bool.eq_iff_iff]
  simp only [List.all_eq_true,Bool.and_eq_true,zjd,List.mem_map]
  constructor
  ·intro h;exact⟨by rintro k ⟨w,hw,rfl⟩;exact(h w hw).1,fun w hw=>(h w hw).2⟩
  ·rintro⟨h1,h2⟩ w hw;exact⟨h1 _ ⟨w,hw,rfl⟩,h2 w hw⟩
 rw [e3]
 generalize (l.map (·.fKey)).all zbG=b1
 generalize zie (l.map (·.fKey))=b2
 generalize (l.all fun w=>zfc w.fVal w.fGone)=b3
 by_cases hl:(l.length:Int)≤24<;>cases b1<;>cases b2<;>cases b3<;>simp [hl]
theorem zpe {l:List zab} (h:zeY l):zcX l=some (zbd l):=by
 unfold zcX
 have hn:=h.1
 rw [zgy (n:=l.length) (fun i=>zjd ((l[i]?).getD ⟨[], [],false⟩)&&zcL (l.map (·.fKey)) i) false (zcK l) ?_ (by simp [zcQ]),zoL l zjd (zcL (l.map (·.fKey))) _ fun i hi=>by simp [hi]]
 ·unfold zcK zbd zie
  rw [List.length_map]
  cases(l.all zjd&&(List.range l.length).all (zcL (l.map (·.fKey))))<;>simp
 ·intro i hi
  have hm:=h.2 _ (List.getElem_mem hi)
  simp only [zcQ,Int.ofNat_lt,hi,decide_true,if_true,zau hi,Option.bind_some,zm5 hm.1 hm.2,zdV hi (by omega:l.length≤_),List.getElem?_eq_getElem hi,Option.getD_some,zcL,List.getElem?_map,Option.map_some]
  rw [show(zbG l[i].fKey&&zfc l[i].fVal l[i].fGone)=zjd l[i]from rfl]
  by_cases h0:i=0
  ·subst h0
   cases zjd l[0]<;>simp
  ·have hp:(i:Int)>0:=by omega
   have hi1:i-1<l.length:=by omega
   have hb:(i==0)=false:=by simpa using h0
   simp only [hp,decide_true,if_true,ziv (Nat.pos_of_ne_zero h0) (by omega:i≤2000000),zau hi1,Option.bind_some,List.getElem?_eq_getElem hi1,Option.map_some,Option.getD_some,hb,Bool.false_or]
   cases zjd l[i]<;>cases Op.bytesLess l[i-1].fKey l[i].fKey<;>rfl
def zeW (l:List zab):Bool:=zbd l&&l.all fun w=> !w.fGone
theorem zrx {l:List zab} (h:zeY l):zdS l=some (zeW l):=by
 have e1:zaE l (fun y0_=>zcN y0_)=some (l.any fun w=> !!w.fGone):=zkg _ (fun w hw=>by simp [zcN]) (by have:=h.1;omega)
 simp only [zdS,zn9 h,e1,Option.bind_some,zeW,←List.not_all_eq_any_not]
 cases zbd l<;>simp
end Go.Proofs.Ythgeekoigbihbaa
end
section
namespace Go.Proofs.Ythgeekoigbihbaa
open Go.RowKit
abbrev bl (a b:List UInt8):Bool:=Op.bytesLess a b
theorem zcS: ∀a:List UInt8,bl a a=false
 | []=>rfl
 |x::a=>by
  have h: ¬x<x:=fun h=>by have:=UInt8.lt_iff_toNat_lt.1 h;omega
  show Op.bytesLess (x::a) (x::a)=false
  simp only [Op.bytesLess,h,decide_false,Bool.false_or,beq_self_eq_true,Bool.true_and]
  exact zcS a
theorem zmh (x y:UInt8) (a b:List UInt8):bl (x::a) (y::b)=true↔x.toNat<y.toNat∨x=y∧bl a b=true:=by
 show Op.bytesLess (x::a) (y::b)=true↔_
 simp only [Op.bytesLess,Bool.or_eq_true,decide_eq_true_eq,Bool.and_eq_true,beq_iff_eq,UInt8.lt_iff_toNat_lt]
theorem zdU: ∀{a b c:List UInt8},bl a b=true→bl b c=true→bl a c=true
 | [],_, [],_,h=>by rename_i b _;cases b<;>cases h
 | [],_,_::_,_,_=>rfl
 |_::_, [],_,h,_=>by cases h
 |_::_,_::_, [],_,h=>by cases h
 |x::a,y::b,z::c,h1,h2=>by
  rw [zmh]at*
  rcases h1 with h1|⟨rfl,h1⟩<;>rcases h2 with h2|⟨rfl,h2⟩
  ·exact .inl (by omega)
  ·exact .inl h1
  ·exact .inl h2
  ·exact .inr ⟨rfl,zdU h1 h2⟩
theorem zoV: ∀a b:List UInt8,bl a b=true∨a=b∨bl b a=true
 | [], []=> .inr (.inl rfl)
 | [],_::_=> .inl rfl
 |_::_, []=> .inr (.inr rfl)
 |x::a,y::b=>by
  rw [zmh,zmh]
  rcases Nat.lt_trichotomy x.toNat y.toNat with h|h|h
  ·exact .inl (.inl h)
  ·have h0:x=y:=UInt8.toNat_inj.1 h
   subst h0
   rcases zoV a b with h1|h1|h1
   ·exact .inl (.inr ⟨rfl,h1⟩)
   ·exact .inr (.inl (by rw [h1]))
   ·exact .inr (.inr (.inr ⟨rfl,h1⟩))
  ·exact .inr (.inr (.inl h))
theorem znl {a b:List UInt8} (h:bl a b=true):bl b a=false:=by
 cases h2:bl b a with
 |false=>rfl
 |true=>have:=zdU h h2;rw [zcS]at this;cases this
theorem zjz {a b:List UInt8} (h:bl a b=true):a≠b:=by
 rintro rfl;rw [zcS]at h;cases h
theorem zlU {a b:List UInt8} (h:bl a b=false) (hn:a≠b):bl b a=true:=by
 rcases zoV a b with h1|h1|h1
 ·rw [h]at h1;cases h1
 ·exact absurd h1 hn
 ·exact h1
section
variable {α:Type} (key:α→List UInt8)
def zjo (l:List α):Prop:=l.Pairwise fun a b=>bl (key a) (key b)=true
def zh8 (x:α):List α→List α
 | []=> [x]
 |y::l=>if bl (key x) (key y)=true then x::y::l else if key x=key y then x::l else y::zh8 x l
variable {key}
theorem zjo.nodupKey {l:List α} (h:zjo key l) {a b:α} (ha:a∈l) (hb:b∈l) (e:key a=key b):a=b:=by
 induction l with
 |nil=>cases ha
 |cons y l ih=>
  have h1:=List.pairwise_cons.1 h
  rcases List.mem_cons.1 ha with q1|q1<;>rcases List.mem_cons.1 hb with q2|q2
  ·rw [q1,q2]
  ·exact absurd (q1▸e) (zjz (h1.1 _ q2))
  ·exact absurd (q2▸e.symm) (zjz (h1.1 _ q1))
  ·exact ih h1.2 q1 q2
theorem zeQ {x:α}: ∀{l:List α},zjo key l→ ∀y,y∈zh8 key x l↔y=x∨y∈l∧key y≠key x
 | [],_,y=>by simp [zh8]
 |z::l,h,y=>by
  have h1:=List.pairwise_cons.1 h
  unfold zh8
  split
  ·rename_i hb
   constructor
   ·intro hy
    rcases List.mem_cons.1 hy with rfl|hy
    ·exact .inl rfl
    ·refine .inr ⟨hy, ?_⟩
     rcases List.mem_cons.1 hy with rfl|hy
     ·exact(zjz hb).symm
     ·exact(zjz (zdU hb (h1.1 _ hy))).symm
   ·rintro(rfl|⟨hy,_⟩)
    ·simp
    ·exact List.mem_cons_of_mem _ hy
  ·rename_i hb
   split
   ·rename_i he
    constructor
    ·intro hy
     rcases List.mem_cons.1 hy with rfl|hy
     ·exact .inl rfl
     ·exact .inr ⟨List.mem_cons_of_mem _ hy,fun e=>zjz (h1.1 _ hy) (by rw [e,he])⟩
    ·rintro(rfl|⟨hy,hn⟩)
     ·simp
     ·rcases List.mem_cons.1 hy with rfl|hy
      ·exact absurd he.symm hn
      ·exact List.mem_cons_of_mem _ hy
   ·rename_i he
    rw [List.mem_cons,zeQ h1.2]
    constructor
    ·rintro(rfl|rfl|⟨hy,hn⟩)
     ·exact .inr ⟨by simp,fun e=>he e.symm⟩
     ·exact .inl rfl
     ·exact .inr ⟨List.mem_cons_of_mem _ hy,hn⟩
    ·rintro(rfl|⟨hy,hn⟩)
     ·exact .inr (.inl rfl)
     ·rcases List.mem_cons.1 hy with rfl|hy
      ·exact .inl rfl
      ·exact .inr (.inr ⟨hy,hn⟩)
theorem zd7 {x:α}: ∀{l:List α},zjo key l→zjo key (zh8 key x l)
 | [],_=>by simp [zh8,zjo]
 |z::l,h=>by
  have h1:=List.pairwise_cons.1 h
  unfold zh8
  split
  ·rename_i hb
   refine List.pairwise_cons.2 ⟨fun y hy=> ?_,h⟩
   rcases List.mem_cons.1 hy with rfl|hy
   ·exact hb
   ·exact zdU hb (h1.1 _ hy)
  ·rename_i hb
   split
   ·rename_i he
    exact List.pairwise_cons.2 ⟨fun y hy=>by rw [he];exact h1.1 _ hy,h1.2⟩
   ·rename_i he
    refine List.pairwise_cons.2 ⟨fun y hy=> ?_,zd7 h1.2⟩
    rcases(zeQ h1.2 y).1 hy with rfl|⟨hy,_⟩
    ·exact zlU (by simpa using hb) he
    ·exact h1.1 _ hy
theorem zjo.ext: ∀{a b:List α},zjo key a→zjo key b→(∀x,x∈a↔x∈b)→a=b
 | [], [],_,_,_=>rfl
 | [],y::b,_,_,h=>absurd ((h y).2 (by simp)) (by simp)
 |x::a, [],_,_,h=>absurd ((h x).1 (by simp)) (by simp)
 |x::a,y::b,ha,hb,h=>by
  have h1:=List.pairwise_cons.1 ha
  have h2:=List.pairwise_cons.1 hb
  have e:x=y:=by
   rcases List.mem_cons.1 ((h x).1 (by simp))with e|hx
   ·exact e
   ·rcases List.mem_cons.1 ((h y).2 (by simp))with e|hy
    ·exact e.symm
    ·have:=zdU (h1.1 _ hy) (h2.1 _ hx)
     rw [zcS]at this;cases this
  subst e
  rw [zjo.ext h1.2 h2.2 fun z=> ?_]
  constructor
  ·intro hz
   rcases List.mem_cons.1 ((h z).1 (List.mem_cons_of_mem _ hz))with rfl|hz2
   ·have:=h1.1 _ hz;rw [zcS]at this;cases this
   ·exact hz2
  ·intro hz
   rcases List.mem_cons.1 ((h z).2 (List.mem_cons_of_mem _ hz))with rfl|hz2
   ·have:=h2.1 _ hz;rw [zcS]at this;cases this
   ·exact hz2
theorem zjo.filter {l:List α} (h:zjo key l) (p:α→Bool):zjo key (l.filter p):=List.Pairwise.filter p h
theorem zjo.sub {a b:List α} (h:zjo key b) (hs:a.Sublist b):zjo key a:=List.Pairwise.sublist hs h
theorem zkS {x:α}: ∀(l:List α),(zh8 key x l).length≤l.length+1
 | []=>by simp [zh8]
 |y::l=>by
  unfold zh8
  have:=zkS (x:=x) l
  split
  ·simp
  ·split
   ·simp
   ·simp only [List.length_cons];omega
end
end Go.Proofs.Ythgeekoigbihbaa
end

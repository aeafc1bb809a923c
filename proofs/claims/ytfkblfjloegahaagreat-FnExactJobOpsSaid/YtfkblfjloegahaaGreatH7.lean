/- Parts of a proof, joined: DA, DB, MA, MB, OB, OG, QA, QO, HB, MC, SP, HL, IA, IC, IB, QM, NA, NE. -/
import Derived.Test.YtfkblfjloegahaaGreatH6
import Derived.Test.YtfkblfjloegahaaGreatChecked
import Derived.Shelf.Strings.Builder1
import Derived.Shelf.Strings.Builder2
import Derived.Shelf.Strings.OnBuilder
import Derived.Shelf.Small.Strs
import Derived.Shelf.Strings.BuilderF
import Derived.Shelf.Strings.BuilderK
import Derived.Shelf.Strings.Builder2Cap
import Derived.Shelf.Strings.Search1
import Derived.Shelf.Strings.BuilderCap
import Derived.Test.YtfkblfjloegahaaGreatProg
import Derived.Laws.CopyRow
import Derived.Lib.AppendZerosOnto
import Derived.Lib.Overlaps
import Derived.Deep.RegionLaw
section
namespace Go.Proofs.YtfkblfjloegahaaGreat
open Go.RowKit
noncomputable def flT (t:TypeId):List Bool:=(zam Tryz.prog t).map fun u=>match zcR Tryz.prog u with|some e=>zdO Tryz.prog e|none=>false
noncomputable def zvH (u:TypeId):List Bool:=flT u
noncomputable def zxr (fn:Func):Sig:={modes:=fn.params.toList.map fun t=>match zsn Tryz.prog t with|some u=> .bx (zvH u) (zvH u)|none=> .ro,res:=fn.resultTypes.toList.flatMap flT}
noncomputable def zvY (f:Nat):Option Sig:=
 match f with
 |3=>some {modes:= [],res:= [false],dp:=true}
 |7=>some {modes:= [],res:= [true],dp:=true}
 |13=>some {modes:= [.mu [true], .ro],res:= [],dp:=true}
 |14=>some {modes:= [.mu [false,false,false,true,true,true], .ro],res:= []}
 |15=>some {modes:= [.mu [true], .ro],res:= []}
 |33=>some {modes:= [.mu [true], .ro],res:= []}
 |34=>some {modes:= [.mu [true], .ro],res:= []}
 |35=>some {modes:= [.mu [false,true,true], .ro],res:= []}
 |36=>some {modes:= [.mu [true], .ro],res:= []}
 |85=>some {modes:= [.ro, .ro, .bx [true] [true]],res:= [],ft:= [1000000032]}
 |_=>none
noncomputable def zx2 (f:Nat):Option Sig:=match Tryz.prog.funcs[f]? with
 |some fn=>some ((zvY f).getD (zxr fn))
 |none=>none
noncomputable def sgs:SgT:={f:=zx2}
theorem zwn:Tryz.prog.follows .mixedOrders=true:=by kernel_rfl
theorem zyH:Tryz.prog.funcs.size<1000000:=by
 have:(decide (Tryz.prog.funcs.size<1000000))=true:=by kernel_rfl
 exact of_decide_eq_true this
theorem zn3 (f:Nat) (s:Sig) (h:sgs f=some s):f<1000000:=by
 simp only [sgs]at h
 unfold zx2 at h
 split at h
 ·rename_i fn hf
  have:=(Array.getElem?_eq_some_iff.1 hf).1
  exact Nat.lt_trans this zyH
 ·cases h
def zwC (P:Program) (sg:SgT) (f:Nat) (xs:List AV) (r:AV):Bool:=
 match P.funcs[f]?,sg f with
 |some fn,some s=> !(fn.name== "runtime.NumGoroutine")&&zhm P fn s r&&xs.length==fn.params.size+fn.nfree
 |_,_=>false
abbrev Den (t:Tr) (r:AV) (xs:List AV):Prop:=t.den (Rts Tryz.prog sgs) (fun r'=>r'=r) (fun _ _ _ _=>False) [] xs
theorem zlB {f:Nat} {t:Tr} {xs:List AV} {r:AV} (hc:zvQ Tryz.prog sgs f=some t) (hk:zwC Tryz.prog sgs f xs r=true) (hd:Den t r xs):Rts Tryz.prog sgs f xs r:=by
 unfold zwC at hk
 split at hk
 ·rename_i fn s hf hs
  simp only [Bool.and_eq_true,Bool.not_eq_true',beq_iff_eq]at hk
  unfold Rts
  rw [if_pos (zn3 f s hs)]
  exact⟨s,hs,zs7 zwn zn3 hf hs hk.1.1 hc hk.1.2 hk.2 hd⟩
 ·cases hk
section
variable {Rt:Nat→List AV→AV→Prop} {R:AV→Prop} {L:LK} {js:List JK} {ρ:List AV}
theorem zl7 {i:EL} {b k:Tr} (hL:zji L) (I:Nat→List AV→Prop) {m:Nat} (h0:I m (i.den ρ)) (hstep: ∀m vs,I m vs→b.den Rt R L ((fun us=> ∃m',m'<m∧I m' us)::(fun us=>k.den Rt R L js (ρ++us))::js) (ρ++vs)):(Tr.loop i b k).den Rt R L js ρ:=by
 have hb: ∀W W':JK,(∀vs,W vs→W' vs)→ ∀vs,b.den Rt R L (W::(fun us=>k.den Rt R L js (ρ++us))::js) (ρ++vs)→b.den Rt R L (W'::(fun us=>k.den Rt R L js (ρ++us))::js) (ρ++vs):=
  fun W W' hW vs hv=>b.den_js hL hv (.cons hW (JLe.refl _))
 have mono: ∀n vs,zjh (fun W vs=>b.den Rt R L (W::(fun us=>k.den Rt R L js (ρ++us))::js) (ρ++vs)) n vs→ ∀n',n≤n'→zjh (fun W vs=>b.den Rt R L (W::(fun us=>k.den Rt R L js (ρ++us))::js) (ρ++vs)) n' vs:=by
  intro n
  induction n with
  |zero=>intro vs h;exact h.elim
  |succ n ih=>
   intro vs h n' hn
   cases n' with
   |zero=>omega
   |succ n'=>exact hb _ _ (fun us hu=>ih us hu n' (by omega)) vs h
 have key: ∀m vs,I m vs→zjh (fun W vs=>b.den Rt R L (W::(fun us=>k.den Rt R L js (ρ++us))::js) (ρ++vs)) (m+1) vs:=by
  intro m
  induction m using Nat.strongRecOn with
  |_ m ih=>
   intro vs hI
   exact hb _ _ (fun us ⟨m',hm,hu⟩=>mono _ _ (ih m' hm us hu) m (by omega)) vs (hstep m vs hI)
 exact⟨m+1,key m _ h0⟩
theorem zf7:zji (fun _ _ _ _=>False):=fun _ _ _ _ _ _ h=>h
end
@[simp] theorem zx5 (ρ:List AV):zcJ ρ []↔True:=⟨fun _=>trivial,fun _=>zbF ρ⟩
@[simp] theorem zxF (ρ:List AV) (x:E) (b:Bool) (gs:Gd):zcJ ρ ((x,b)::gs)↔x.den ρ= .bool b∧zcJ ρ gs:=
 ⟨fun h=>⟨h (x,b) (by simp),fun g hg=>h g (by simp [hg])⟩,fun h g hg=>by rcases List.mem_cons.1 hg with rfl|hg;exact h.1;exact h.2 g hg⟩
attribute [simp] E.den EL.den Cn.den AV.fld AV.proj AV.deref AV.len AV.slen AV.idx AV.nth AV.notB AV.negI AV.conv AV.bin AV.bbin AV.sbin AV.app AV.setNth AV.rep
@[simp] theorem zvm (cs:List AV):(AV.agg cs).cells=cs:=rfl
@[simp] theorem zwf (k:IntKind) (n:Int):(AV.int k n).cells= [.int k n]:=rfl
@[simp] theorem zvj (b:Bool):(AV.bool b).cells= [.bool b]:=rfl
@[simp] theorem zvp (s:List UInt8):(AV.str s).cells= [.str s]:=rfl
@[simp] theorem zwB (xs:List AV):(AV.sl xs).cells= [.sl xs]:=rfl
@[simp] theorem zvk (k:IntKind) (n:Int):(AV.int k n).scalar=true:=rfl
@[simp] theorem zuX (b:Bool):(AV.bool b).scalar=true:=rfl
@[simp] theorem zvi (s:List UInt8):(AV.str s).scalar=true:=rfl
@[simp] theorem zw5 (b c d:Bool):AV.cond (.bool b) (.bool c) (.bool d)= .bool (bif b then c else d):=by cases b<;>rfl
theorem zoi {y:AV} (h:y.scalar=true):y.cells= [y]:=by cases y<;>first|rfl|simp [AV.scalar]at h
theorem zbr {n:Int} (h1: -9223372036854775808≤n) (h2:n≤9223372036854775807):IntKind.i64.wrap n=n:=by
 rw [IntKind.wrap_i64];omega
end Go.Proofs.YtfkblfjloegahaaGreat
end
section
namespace Go.Proofs.YtfkblfjloegahaaGreat
open Go.RowKit
section
variable {Rt:Nat→List AV→AV→Prop} {R:AV→Prop} {L:LK} {js:List JK} {ρ:List AV}
theorem zaz {gs:Gd} {c:Cn} {k:Tr} (h:zcJ ρ gs→c.den ρ) (hk:k.den Rt R L js ρ):(Tr.chk gs c k).den Rt R L js ρ:=⟨h,hk⟩
theorem zjw {gs:Gd} {f:Nat} {args:EL} {k:Tr} {r:AV} (h:zcJ ρ gs→Rt f (args.den ρ) r) (hk:k.den Rt R L js (ρ++ [r])):(Tr.call gs (.inl f) args k).den Rt R L js ρ:=⟨r,h,hk⟩
theorem zjZ {gs:Gd} {x:E} {args:EL} {k:Tr} {r:AV} (h:zcJ ρ gs→ ∃g caps,x.den ρ= .fn g caps∧Rt (1000000+g) (args.den ρ++caps) r∧ ∀y∈r.cells,y.scalar=true) (hk:k.den Rt R L js (ρ++ [r])):(Tr.call gs (.inr x) args k).den Rt R L js ρ:=⟨r,h,hk⟩
theorem zbY {c:E} {a b:Tr} {t:Bool} (h:c.den ρ= .bool t) (ha:t=true→a.den Rt R L js ρ) (hb:t=false→b.den Rt R L js ρ):(Tr.ite c a b).den Rt R L js ρ:=⟨t,h,ha,hb⟩
theorem zeD {r:E} (h:R (r.den ρ)):(Tr.ret r).den Rt R L js ρ:=h
theorem zgX {es:EL} {j:JK} (h:j (es.den ρ)):(Tr.jmp 0 es).den Rt R L (j::js) ρ:=h
theorem zjx {es:EL} {i j:JK} (h:j (es.den ρ)):(Tr.jmp 1 es).den Rt R L (i::j::js) ρ:=h
theorem zuv {i:EL} {b k:Tr} (hL:zji L) (n:Nat) (st:Nat→List AV) (h0:i.den ρ=st 0) (hb: ∀q,q≤n→ ∀W:JK,(q<n→W (st (q+1)))→b.den Rt R L (W::(fun us=>k.den Rt R L js (ρ++us))::js) (ρ++st q)):(Tr.loop i b k).den Rt R L js ρ:=by
 refine zl7 hL (fun m vs=> ∃q,q+m=n∧vs=st q) (m:=n) ⟨0,by omega,h0⟩ ?_
 rintro m vs ⟨q,hq,rfl⟩
 exact hb q (by omega) _ fun hlt=>⟨m-1,by omega,q+1,by omega,rfl⟩
end
theorem E.den_app_nil:True:=trivial
def tSz:Tr:=
 .chk [] (.dfd (.len (.var 0)))<|
 .chk [] (.dfd (.bin .sub (.var 1) (.len (.var 0))))<|
 .chk [] (.dfd (.bin .lss (.bin .sub (.var 1) (.len (.var 0))) (.int .i64 (0))))<|
 .ite (.bin .lss (.bin .sub (.var 1) (.len (.var 0))) (.int .i64 (0))) (
  .ret (.int .i64 (-1))) (
  .ret (.bin .sub (.var 1) (.len (.var 0))))
def zx7 (n:Nat) (k:Int):Int:=if k-n<0 then-1 else k-n
theorem zyh {xs:List AV} {k:Int} (hk:0≤k) (hk2:k≤9223372036854775807) (hn:xs.length≤9223372036854775807):Den tSz (.int .i64 (zx7 xs.length k)) [.sl xs, .int .i64 k]:=by
 have hw:IntKind.i64.wrap (k-xs.length)=k-xs.length:=zbr (by omega) (by omega)
 unfold Den tSz
 by_cases h:k-xs.length<0<;>simp [Tr.den,zaE,hw,h,zx7]
def zxS (f cn:Nat):Tr:=
 .chk [] (.dfd (.len (.var 0)))<|
 .chk [] (.dfd (.len (.var 1)))<|
 .ite (.bin .neq (.len (.var 0)) (.len (.var 1))) (
  .ret (.bool false)) (
  .loop (.cons (.int .i64 (0)) .nil) (
  .chk [] (.dfd (.len (.var 0)))<|
  .chk [] (.dfd (.bin .lss (.var 2) (.len (.var 0))))<|
  .ite (.bin .lss (.var 2) (.len (.var 0))) (
   .chk [] (.inb (.var 2) (.var 0) cn)<|
   .chk [] (.inb (.var 2) (.var 1) cn)<|
   .call [] (.inl f) (.cons (.fld (.idx (.var 0) (.var 2)) 0 cn true) (.cons (.fld (.idx (.var 1) (.var 2)) 0 cn true) .nil))<|
   .chk [] (.dfd (.not (.var 3)))<|
   .ite (.not (.var 3)) (
   .ret (.bool false)) (
   .chk [] (.dfd (.bin .add (.var 2) (.int .i64 (1))))<|
   .jmp 0 (.cons (.bin .add (.var 2) (.int .i64 (1))) .nil))) (
   .jmp 1 .nil)) (
  .ret (.bool true)))
def zoI (cn:Nat) (xs:List AV):Prop:= ∀x∈xs,∃cs,x= .agg cs∧cs.length=cn
theorem zoI.at {cn:Nat} {xs:List AV} (h:zoI cn xs) {q:Nat} (hq:q<xs.length): ∃cs,xs[q]= .agg cs∧cs.length=cn:=h _ (List.getElem_mem hq)
theorem zwH {f cn:Nat} {xs:List AV} (hs:zoI cn xs) (hn:xs.length≤9223372036854775806) (hf: ∀x∈xs,Rts Tryz.prog sgs f [x,x] (.bool true)):Den (zxS f cn) (.bool true) [.sl xs, .sl xs]:=by
 unfold Den zxS
 refine zaz (by simp) (zaz (by simp) (zbY (t:=false) (by simp [zaE]) (by simp) fun _=> ?_))
 refine zuv zf7 xs.length (fun q=> [.int .i64 q]) (by simp) fun q hq W hW=> ?_
 by_cases hlt:q<xs.length
 ·obtain⟨cs,hc,hl⟩:=hs.at hlt
  have hx:(xs[(q:Int).toNat]?).getD .undef= .agg cs:=by simp [hlt,hc]
  have hin:Cn.den [AV.sl xs, .sl xs, .int .i64 q] (.inb (.var 2) (.var 0) cn):=⟨.i64,q,xs.length,by simp,by omega,by simp,by omega,by simp [hlt,hc,hl]⟩
  have hin1:Cn.den [AV.sl xs, .sl xs, .int .i64 q] (.inb (.var 2) (.var 1) cn):=⟨.i64,q,xs.length,by simp,by omega,by simp,by omega,by simp [hlt,hc,hl]⟩
  refine zaz (by simp) (zaz (by simp [zaE]) (zbY (t:=true) (by simp [zaE,hlt]) (fun _=> ?_) (by simp)))
  refine zaz (fun _=>hin) (zaz (fun _=>hin1) (zjw (r:= .bool true) (fun _=> ?_) ?_))
  ·have:=hf xs[q] (List.getElem_mem hlt)
   rw [hc]at this
   simpa [hlt,hc,←hl]using this
  ·refine zaz (by simp) (zbY (t:=false) (by simp) (by simp) fun _=>zaz (by simp [zaE]) (zgX ?_))
   have:=hW hlt
   simpa [zaE,zbr (n:=(q:Int)+1) (by omega) (by omega)]using this
 ·have hqe:q=xs.length:=by omega
  refine zaz (by simp) (zaz (by simp [zaE]) (zbY (t:=false) (by simp [zaE];omega) (by simp) fun _=>zjx ?_))
  exact zeD (by simp)
end Go.Proofs.YtfkblfjloegahaaGreat
end
section
namespace Go.Proofs.YtfkblfjloegahaaGreat
open Go.RowKit
section
variable {Rt:Nat→List AV→AV→Prop} {R:AV→Prop} {L:LK} {js:List JK} {ρ:List AV} {α β σ τ:Type}
theorem zyp {gs:Gd} {c:Cn} {k:Tr} (h:zcJ ρ gs→c.den ρ) (hk:k.den Rt R L js ρ):(Tr.chk gs c k).den Rt R L js ρ:=⟨h,hk⟩
theorem zym {c:E} {a b:Tr} {t:Bool} {A B:Option α} {r:α} (h:(if t=true then A else B)=some r) (hc:c.den ρ= .bool t) (ha:t=true→A=some r→a.den Rt R L js ρ) (hb:t=false→B=some r→b.den Rt R L js ρ):(Tr.ite c a b).den Rt R L js ρ:=
 ⟨t,hc,fun e=>ha e (by rwa [if_pos e]at h),fun e=>hb e (by rwa [if_neg (by simp [e])]at h)⟩
theorem zyd {c:E} {a b:Tr} (hc:c.den ρ= .bool true) (ha:a.den Rt R L js ρ):(Tr.ite c a b).den Rt R L js ρ:=⟨true,hc,fun _=>ha,fun h=>Bool.noConfusion h⟩
theorem zyi {c:E} {a b:Tr} (hc:c.den ρ= .bool false) (hb:b.den Rt R L js ρ):(Tr.ite c a b).den Rt R L js ρ:=⟨false,hc,fun h=>Bool.noConfusion h,fun _=>hb⟩
theorem zxI {P:Prop} {t:Bool} {A B:Option α} {r:α} (h:(if t=true then A else B)=some r) (ha:t=true→A=some r→P) (hb:t=false→B=some r→P):P:=by
 cases t with
 |true=>exact ha rfl (by simpa using h)
 |false=>exact hb rfl (by simpa using h)
theorem zyl {gs:Gd} {f:Nat} {args:EL} {k:Tr} {o:Option α} {K:α→Option β} {r:β} (av:α→AV) (h:o.bind K=some r) (hR: ∀x,o=some x→Rt f (args.den ρ) (av x)) (hk: ∀x,o=some x→K x=some r→k.den Rt R L js (ρ++ [av x])):(Tr.call gs (.inl f) args k).den Rt R L js ρ:=by
 obtain⟨x,hx,hK⟩:=zjj h
 exact⟨av x,fun _=>hR x hx,hk x hx hK⟩
theorem zxu {gs:Gd} {x:E} {args:EL} {k:Tr} {o:Option α} {K:α→Option β} {r:β} {g:Nat} {caps:List AV} (av:α→AV) (h:o.bind K=some r) (hx:x.den ρ= .fn g caps) (hR: ∀x,o=some x→Rt (1000000+g) (args.den ρ++caps) (av x)) (hs: ∀x,∀y∈(av x).cells,y.scalar=true) (hk: ∀x,o=some x→K x=some r→k.den Rt R L js (ρ++ [av x])):(Tr.call gs (.inr x) args k).den Rt R L js ρ:=by
 obtain⟨y,hy,hK⟩:=zjj h
 exact⟨av y,fun _=>⟨g,caps,hx,hR y hy,hs y⟩,hk y hy hK⟩
theorem zx9 {gs:Gd} {f:Nat ⊕ E} {args:EL} {k:Tr} (h: ¬zcJ ρ gs) (hk:k.den Rt R L js (ρ++ [.undef])):(Tr.call gs f args k).den Rt R L js ρ:=⟨.undef,fun h'=>absurd h' h,hk⟩
theorem zys {e:E} {x y:α} {av:α→AV} (h:some x=some y) (he:e.den ρ=av x):(Tr.ret e).den Rt (fun r'=>r'=av y) L js ρ:=by
 cases h;exact he
theorem zyI {d:Nat} {es:EL} {j:JK} {emb:τ→List AV} {K:τ→Option α} {s:τ} {r:α} (hj: ∀s,K s=some r→j (emb s)) (h:K s=some r) (hd:js[d]?=some j) (he:es.den ρ=emb s):(Tr.jmp d es).den Rt R L js ρ:=by
 show match js[d]? with|some j=>j (es.den ρ)|none=>False
 rw [hd];show j (es.den ρ);rw [he];exact hj s h
theorem zx0 {t k:Tr} {emb:τ→List AV} {K:τ→Option α} {r:α} (hK: ∀s,K s=some r→k.den Rt R L js (ρ++emb s)) (ht: ∀j:JK,(∀s,K s=some r→j (emb s))→t.den Rt R L (j::js) ρ):(Tr.join t k).den Rt R L js ρ:=
 ht _ hK
theorem zxy {t k:Tr} (ht: ∀j:JK,(∀vs,k.den Rt R L js (ρ++vs)→j vs)→t.den Rt R L (j::js) ρ):(Tr.join t k).den Rt R L js ρ:=ht _ fun _ h=>h
theorem zxX {d:Nat} {es:EL} {j:JK} {P:List AV→Prop} (hj: ∀vs,P vs→j vs) (hd:js[d]?=some j) {vs:List AV} (he:es.den ρ=vs) (h:P vs):(Tr.jmp d es).den Rt R L js ρ:=by
 show match js[d]? with|some j=>j (es.den ρ)|none=>False
 rw [hd];show j (es.den ρ);rw [he];exact hj _ h
theorem zvM {i:EL} {b k:Tr} {body:σ→Option (σ ⊕ Option α)} {s0:σ} {r:α} (emb:σ→List AV) (h:zay body s0=some r) (h0:i.den ρ=emb s0)
  (hb: ∀(W A:JK) (s:σ) (o:σ ⊕ Option α),body s=some o→(∀s',some (Sum.inl s')=some o→W (emb s'))→(∀q,some (Sum.inr q)=some o→q=some r)→(∀vs,k.den Rt R L js (ρ++vs)→A vs)→b.den Rt R L (W::A::js) (ρ++emb s)):(Tr.loop i b k).den Rt R L js ρ:=by
 obtain⟨n,hn⟩:=zfD.1 h
 refine⟨n, ?_⟩
 rw [h0]
 clear h h0
 induction n generalizing s0 with
 |zero=>cases hn
 |succ n ih=>
  rcases ho:body s0 with _|s'|o
  ·simp [zeO,ho]at hn
  ·have hn':zeO body n s'=some r:=by simpa [zeO,ho]using hn
   exact hb _ _ s0 _ ho (fun s2 h2=>by cases h2;exact ih hn') (fun q hq=>by cases hq) (fun _ h=>h)
  ·have hn':o=some r:=by simpa [zeO,ho]using hn
   exact hb _ _ s0 _ ho (fun s2 h2=>by cases h2) (fun q hq=>by cases hq;exact hn') (fun _ h=>h)
theorem zwS {i:EL} {b k:Tr} {body:σ→Option (σ ⊕ Option α)} {s0:σ} {r:α} (emb:σ→List AV) (embK:τ→List AV) (h:zay body s0=some r) (h0:i.den ρ=emb s0) {K:τ→Option α} (hK: ∀s,K s=some r→k.den Rt R L js (ρ++embK s))
  (hb: ∀(W A:JK) (s:σ) (o:σ ⊕ Option α),body s=some o→(∀s',some (Sum.inl s')=some o→W (emb s'))→(∀q,some (Sum.inr q)=some o→q=some r)→(∀s,K s=some r→A (embK s))→b.den Rt R L (W::A::js) (ρ++emb s)):(Tr.loop i b k).den Rt R L js ρ:=
 zvM emb h h0 fun W A s o ho hn hf hk=>hb W A s o ho hn hf fun s hs=>hk _ (hK s hs)
theorem zyx {i x:E} {sz:Nat} {kk:IntKind} {n:Int} {xs:List α} {y:α} {f:α→AV} (hi:i.den ρ= .int kk n) (hx:x.den ρ= .sl (xs.map f)) (h:zbD xs n=some y) (hf:(f y).cells.length=sz):Cn.den ρ (.inb i x sz):=by
 obtain⟨h1,h2,h3⟩:=zo9 h
 exact⟨kk,n,xs.length,hi,h1,by rw [hx];simp,h2,by rw [hx];simp [h3,hf]⟩
theorem zyc {i x:E} {kk:IntKind} {n:Int} {xs:List UInt8} {y:UInt8} (hi:i.den ρ= .int kk n) (hx:x.den ρ= .str xs) (h:zbD xs n=some y):Cn.den ρ (.inbS i x):=by
 obtain⟨h1,h2,h3⟩:=zo9 h
 exact⟨kk,n,xs,hi,hx,h1,h2⟩
theorem zyu {x lo hi:E} {ka kb:IntKind} {a b:Int} {xs:List AV} (ha:lo.den ρ= .int ka a) (hb:hi.den ρ= .int kb b) (hx:x.den ρ= .sl xs) (h:0≤a∧a≤b∧b≤xs.length):Cn.den ρ (.win x lo hi):=
 ⟨ka,a,kb,b,xs.length,ha,hb,by rw [hx];simp,h.1,h.2.1,h.2.2⟩
theorem zxQ {x lo hi:E} {ka kb:IntKind} {a b:Int} {xs:List UInt8} (ha:lo.den ρ= .int ka a) (hb:hi.den ρ= .int kb b) (hx:x.den ρ= .str xs) (h:0≤a∧a≤b∧b≤xs.length):Cn.den ρ (.winS x lo hi):=
 ⟨ka,a,kb,b,xs,ha,hb,hx,h.1,h.2.1,h.2.2⟩
theorem zxO {x y:E} {bytes:Nat} {xs ys:List AV} (hx:x.den ρ= .sl xs) (hy:y.den ρ= .sl ys) (h:((xs.length:Int)+ys.length)*bytes≤140737488355328∧(xs.length:Int)+ys.length≤140737488355328):Cn.den ρ (.room x y bytes):=
 ⟨xs.length,ys.length,by rw [hx];simp,by rw [hy];simp,h.1,h.2⟩
theorem zxB {x y:E} {xs ys:List UInt8} (hx:x.den ρ= .str xs) (hy:y.den ρ= .str ys) (h:xs.length+ys.length≤9223372036854775807):Cn.den ρ (.roomS x y):=⟨xs,ys,hx,hy,h⟩
theorem zwD {n:E} {bytes:Nat} {kk:IntKind} {k:Int} (hn:n.den ρ= .int kk k) (h:0≤k∧k*bytes≤140737488355328∧k≤140737488355328):Cn.den ρ (.mkroom n bytes):=⟨kk,k,hn,h.1,h.2.1,h.2.2⟩
theorem zyU {x:E} {kk:IntKind} {n:Int} (hx:x.den ρ= .int kk n) (h:n≠0):Cn.den ρ (.nz x):=⟨kk,n,hx,h⟩
theorem zyS {x:E} {kk:IntKind} {n:Int} (hx:x.den ρ= .int kk n) (h:0≤n):Cn.den ρ (.nn x):=⟨kk,n,hx,h⟩
theorem zvR {x:E} {sz:Nat} {xs:List α} (f:α→AV) (hx:x.den ρ= .sl (xs.map f)) (hf: ∀y,(f y).cells.length=sz):Cn.den ρ (.issl x sz):=⟨_,hx,by simp [hf]⟩
theorem zuI {x:E} {sz:Nat} {xs:List α} (f:α→AV) (hx:x.den ρ= .sl (xs.map f)) (hf: ∀y,(f y).cells.length=sz∧ ∀z∈(f y).cells,z.scalar=true):Cn.den ρ (.flatS x sz):=⟨_,hx,by simp only [List.mem_map];rintro _ ⟨y,_,rfl⟩;exact hf y⟩
theorem zxe {x:E} {n:Nat} {y:AV} (hx:x.den ρ= .ref y) (hn:n≤y.cells.length):Cn.den ρ (.isref x n):=⟨y,hx,hn⟩
theorem zyJ {x:E} {n:Nat} {cs:List AV} (hx:x.den ρ= .agg cs) (hn:cs.length=n):Cn.den ρ (.agg x n):=⟨cs,hx,hn⟩
end
@[simp] def zwh (n:Int):AV:= .int .i64 n
@[simp] def zyG (n:Int):AV:= .int .u64 n
@[simp] def zyK (n:Int):AV:= .int .i32 n
@[simp] def zyt (n:Int):AV:= .int .u32 n
@[simp] def zyr (n:Int):AV:= .int .u8 n
@[simp] def avB (b:Bool):AV:= .bool b
@[simp] def zie (x:List UInt8):AV:= .str x
@[simp] theorem zxU (xs:List AV) (ka kb:IntKind) (a b:Int):AV.win (.sl xs) (.int ka a) (.int kb b)= .sl (zm9 xs a b):=rfl
@[simp] theorem zwo {α β:Type} (xs:List α) (f:α→β) (a b:Int):(zm9 xs a b).map f=zm9 (xs.map f) a b:=by simp [zm9,List.map_take,List.map_drop]
@[simp] theorem zwv (s:List UInt8) (ka kb:IntKind) (a b:Int):AV.swin (.str s) (.int ka a) (.int kb b)= .str (zm9 s a b):=rfl
attribute [simp] zaE zlQ AV.sidx AV.aeq AV.leq AV.seq AV.sk AV.putF AV.bytes AV.text
@[simp] theorem zuR {α:Type} (l:List α) (i:Nat) (a:α):(l.set i a)[i]?=l[i]?.map fun _=>a:=by
 rcases Nat.lt_or_ge i l.length with h|h
 ·simp [h]
 ·simp [h]
theorem zwG {α:Type} {xs:List α} {i:Int} {y:α} (h:zbD xs i=some y) (v:α):zbD (xs.set i.toNat v) i=some v:=by
 obtain⟨h1,h2,h3⟩:=zo9 h
 unfold zbD
 rw [if_pos h1]
 have:i.toNat<xs.length:=by omega
 simp [this]
@[simp] theorem zxg (b:Bool) (k:IntKind) (x y:Int):AV.cond (.bool b) (.int k x) (.int k y)= .int k (bif b then x else y):=by cases b<;>rfl
@[simp] theorem zxC (b:Bool) (x y:List UInt8):AV.cond (.bool b) (.str x) (.str y)= .str (bif b then x else y):=by cases b<;>rfl
@[simp] theorem zx8 (x y:AV):AV.cond (.bool true) x y=x:=rfl
@[simp] theorem zx3 (x y:AV):AV.cond (.bool false) x y=y:=rfl
end Go.Proofs.YtfkblfjloegahaaGreat
end
section
namespace Go.Proofs.YtfkblfjloegahaaGreat
open Go.RowKit
section
variable {P:Program} {w:World}
theorem zeQ.anyRo {ts:List TypeId} {vs:List Value} {xs:List AV} {rf hs:List Nat} (h:zeQ P w ts [] vs xs rf hs): ∀(ms:List PM),(∀m∈ms,m= .ro)→zeQ P w ts ms vs xs rf hs:=by
 generalize hm:([]:List PM)=m0 at h
 induction h with
 |nil=>intro ms _;exact .nil
 | @cons t ts ms' v vs x xs f h rf hs harg _ ih=>
  subst hm
  intro ms hms
  refine .cons ?_ (ih rfl ms.tail fun m hm=>hms m (List.mem_of_mem_tail hm))
  have:ms.headD .ro= .ro:=by cases ms with|nil=>rfl|cons m ms=>exact hms m (by simp)
  rw [this];exact harg
 |free h1 _ ih=>
  subst hm
  intro ms hms
  exact .free h1 (ih rfl ms.tail fun m hm=>hms m (List.mem_of_mem_tail hm))
theorem zco.anyRo {ts:List TypeId} {ms:List PM} {vs:List Value} {Bs:List AV} {f o:List Nat} (h:zco P w ts ms vs Bs f o) (hms: ∀m∈ms,m= .ro):zco P w ts [] vs Bs f o:=by
 have hd: ∀{ms:List PM},(∀m∈ms,m= .ro)→ms.headD .ro= .ro:=by
  intro ms h;cases ms with|nil=>rfl|cons m ms=>exact h m (by simp)
 induction h with
 |nil=>exact .nil
 |ro _ _ ih=>exact .ro rfl (ih fun m hm=>hms m (List.mem_of_mem_tail hm))
 |va h9 _ _=>rw [hd hms]at h9;cases h9
 |mu h9 _ _ _ _=>rw [hd hms]at h9;cases h9
 |bx h9 _ _ _ _ _ _ _ _=>rw [hd hms]at h9;cases h9
end
noncomputable def zqP (f:Nat) (r:AV):Bool:=
 match Tryz.prog.funcs[f]?,sgs f with
 |some fn,some s=>s.modes.all (fun m=>match m with| .ro=>true|_=>false)&&s.ft.isEmpty&&(match fn.resultTypes.toList with| [t]=> !zh5 Tryz.prog t s.res|_=>false)&&zhm Tryz.prog fn {modes:= [],res:= []} r
 |_,_=>false
theorem zq7 {f:Nat} {xs:List AV} {r:AV} (h:Rts Tryz.prog sgs f xs r) (hp:zqP f r=true):Rts Tryz.prog sgs (1000000+f) xs r:=by
 unfold zqP at hp
 split at hp
 ·rename_i fn s hf hs
  simp only [Bool.and_eq_true,List.all_eq_true]at hp
  obtain⟨⟨⟨h1,hft⟩,h2⟩,h3⟩:=hp
  have hft:s.ft= []:=by simpa using hft
  have hro: ∀m∈s.modes,m= .ro:=fun m hm=>by
   have:=h1 m hm
   split at this
   ·rfl
   ·cases this
  unfold Rts at h ⊢
  rw [if_pos (zn3 f s hs)]at h
  rw [if_neg (by omega),Nat.add_sub_cancel_left]
  obtain⟨s',hs',fn',hf',hb,hn,_,hl,_,hc⟩:=h
  rw [hs]at hs';cases hs'
  rw [hf]at hf';cases hf'
  rw [hft]at hc
  refine⟨fn,hf,hb,hn,h3,hl,by simp,fun w vs rf hs' hargs hd hnd=>(hc w vs rf hs' (hargs.anyRo _ hro) hd hnd).mono ?_⟩
  rintro e w' ⟨v,rfl,⟨R,Bs,f1,o1,f2,o2,e1,e2,e3,e4,e5,e6⟩,hm⟩
  rw [hft]at e3
  refine⟨v,rfl,⟨R,Bs,f1,o1,f2,o2,e1, ?_,e3.anyRo hro,e4,e5,e6⟩,hm⟩
  unfold zsp at e2 ⊢
  split at h2
  ·rename_i t ht
   rw [ht]at e2 ⊢
   simp only at e2 ⊢
   unfold zm2 at e2 ⊢
   have h2:zh5 Tryz.prog t s.res=false:=by simpa using h2
   rw [if_neg (by rw [h2];simp)]at e2
   rw [if_neg (by simp [zh5])]
   exact e2
  ·cases h2
 ·cases hp
section
variable {Rt:Nat→List AV→AV→Prop} {R:AV→Prop} {L:LK} {js:List JK} {ρ:List AV}
theorem zpk {i:EL} {b k:Tr} (hL:zji L) (n:Nat) (st:Nat→List AV) (J:Nat→Prop) (hJ:J 0) (h0:i.den ρ=st 0) (hb: ∀q,q≤n→J q→ ∀W:JK,(q<n→J (q+1)→W (st (q+1)))→b.den Rt R L (W::(fun us=>k.den Rt R L js (ρ++us))::js) (ρ++st q)):(Tr.loop i b k).den Rt R L js ρ:=by
 refine zl7 hL (fun m vs=> ∃q,q+m=n∧vs=st q∧J q) (m:=n) ⟨0,by omega,h0,hJ⟩ ?_
 rintro m vs ⟨q,hq,rfl,hj⟩
 exact hb q (by omega) hj _ fun hlt hj'=>⟨m-1,by omega,q+1,by omega,rfl,hj'⟩
end
def zuk (cn:Nat):Tr:=
 .chk [] (.dfd (.len (.var 0)))<|
 .loop (.cons (.int .i64 (0)) .nil) (
  .chk [] (.dfd (.bin .lss (.var 2) (.len (.var 0))))<|
  .ite (.bin .lss (.var 2) (.len (.var 0))) (
  .chk [] (.inb (.var 2) (.var 0) cn)<|
  .call [] (.inr (.var 1)) (.cons (.fld (.idx (.var 0) (.var 2)) 0 cn true) .nil)<|
  .ite (.var 3) (
   .ret (.var 2)) (
   .chk [] (.dfd (.bin .add (.var 2) (.int .i64 (1))))<|
   .jmp 0 (.cons (.bin .add (.var 2) (.int .i64 (1))) .nil))) (
  .jmp 1 .nil)) (
  .ret (.int .i64 (-1)))
def zre:Tr:=
 .chk [] (.dfd (.len (.var 0)))<|
 .loop (.cons (.int .i64 (0)) .nil) (
  .chk [] (.dfd (.bin .lss (.var 2) (.len (.var 0))))<|
  .ite (.bin .lss (.var 2) (.len (.var 0))) (
  .chk [] (.inb (.var 2) (.var 0) 1)<|
  .call [] (.inr (.var 1)) (.cons (.fld (.idx (.var 0) (.var 2)) 0 1 false) .nil)<|
  .ite (.var 3) (
   .ret (.var 2)) (
   .chk [] (.dfd (.bin .add (.var 2) (.int .i64 (1))))<|
   .jmp 0 (.cons (.bin .add (.var 2) (.int .i64 (1))) .nil))) (
  .jmp 1 .nil)) (
  .ret (.int .i64 (-1)))
def zk1 {α:Type} (p:α→Option Bool):List α→Int→Option Int
 | [],_=>some (-1)
 |x::xs,i=>(p x).bind fun b=>if b=true then some i else zk1 p xs (i+1)
noncomputable def zbj {α:Type} (xs:List α) (p:α→Option Bool):Option Int:=req (xs.length≤9223372036854775806) (zk1 p xs 0)
noncomputable def zcE {α:Type} (xs:List α) (p:α→Option Bool):Option Bool:=(zbj xs p).bind fun i=>some (decide (i≥0))
noncomputable def zky {α:Type} (bytes:Nat) (xs:List α):Option (List α):=req ((xs.length:Int)*bytes≤140737488355328∧(xs.length:Int)≤140737488355328) (some xs)
theorem znv {α:Type} {p:α→Option Bool} {l:List α} {r:Int} {q:Nat} (hq:q<l.length) (h:zk1 p (l.drop q) q=some r): ∃b,p l[q]=some b∧(b=true→r=q)∧(b=false→zk1 p (l.drop (q+1)) ((q+1:Nat):Int)=some r):=by
 rw [List.drop_eq_getElem_cons hq]at h
 obtain⟨b,hb,h⟩:=zjj h
 refine⟨b,hb, ?_, ?_⟩
 ·rintro rfl;simpa using h.symm
 ·rintro rfl;simpa using h
theorem zuQ {α:Type} {av:α→AV} {l:List α} {p:α→Option Bool} {cn g:Nat} {caps:List AV} {r:Int} (hs: ∀x,∃cs,av x= .agg cs∧cs.length=cn) (h:zbj l p=some r) (hf: ∀x b,p x=some b→Rts Tryz.prog sgs (1000000+g) (av x::caps) (.bool b)):Den (zuk cn) (.int .i64 r) [.sl (l.map av), .fn g caps]:=by
 obtain⟨hn,h⟩:=zoP h
 unfold Den zuk
 refine zaz (by simp) ?_
 refine zpk zf7 l.length (fun q=> [.int .i64 q]) (fun q=>zk1 p (l.drop q) q=some r) (by simpa using h) (by simp) fun q hq hJ W hW=> ?_
 by_cases hlt:q<l.length
 ·obtain⟨cs,hc,hl⟩:=hs l[q]
  obtain⟨b,hb,hb1,hb2⟩:=znv hlt hJ
  refine zaz (by simp [zaE]) (zbY (t:=true) (by simp [zaE,hlt]) (fun _=> ?_) (by simp))
  refine zaz (fun _=>⟨.i64,q,l.length,by simp,by omega,by simp,by omega,by simp [hlt,hc,hl]⟩) (zjZ (r:= .bool b) (fun _=>⟨g,caps,by simp, ?_,by simp⟩) ?_)
  ·have:=hf l[q] b hb
   rw [hc]at this
   simpa [hlt,hc,←hl]using this
  ·cases b with
   |true=>exact zbY (t:=true) (by simp) (fun _=>zeD (by simp [hb1 rfl])) (by simp)
   |false=>
    refine zbY (t:=false) (by simp) (by simp) fun _=>zaz (by simp [zaE]) (zgX ?_)
    have:=hW hlt (hb2 rfl)
    simpa [zaE,zbr (n:=(q:Int)+1) (by omega) (by omega)]using this
 ·have hqe:q=l.length:=by omega
  subst hqe
  have hr:r= -1:=by simpa [zk1]using hJ.symm
  refine zaz (by simp [zaE]) (zbY (t:=false) (by simp [zaE]) (by simp) fun _=>zjx ?_)
  exact zeD (by simp [hr])
theorem ztj {α:Type} {av:α→AV} {l:List α} {p:α→Option Bool} {g:Nat} {caps:List AV} {r:Int} (hs: ∀x,(av x).cells= [av x]) (h:zbj l p=some r) (hf: ∀x b,p x=some b→Rts Tryz.prog sgs (1000000+g) (av x::caps) (.bool b)):Den zre (.int .i64 r) [.sl (l.map av), .fn g caps]:=by
 obtain⟨hn,h⟩:=zoP h
 unfold Den zre
 refine zaz (by simp) ?_
 refine zpk zf7 l.length (fun q=> [.int .i64 q]) (fun q=>zk1 p (l.drop q) q=some r) (by simpa using h) (by simp) fun q hq hJ W hW=> ?_
 by_cases hlt:q<l.length
 ·obtain⟨b,hb,hb1,hb2⟩:=znv hlt hJ
  refine zaz (by simp [zaE]) (zbY (t:=true) (by simp [zaE,hlt]) (fun _=> ?_) (by simp))
  refine zaz (fun _=>⟨.i64,q,l.length,by simp,by omega,by simp,by omega,by simp [hlt,hs]⟩) (zjZ (r:= .bool b) (fun _=>⟨g,caps,by simp, ?_,by simp⟩) ?_)
  ·have:=hf l[q] b hb
   simpa [hlt,hs]using this
  ·cases b with
   |true=>exact zbY (t:=true) (by simp) (fun _=>zeD (by simp [hb1 rfl])) (by simp)
   |false=>
    refine zbY (t:=false) (by simp) (by simp) fun _=>zaz (by simp [zaE]) (zgX ?_)
    have:=hW hlt (hb2 rfl)
    simpa [zaE,zbr (n:=(q:Int)+1) (by omega) (by omega)]using this
 ·have hqe:q=l.length:=by omega
  subst hqe
  have hr:r= -1:=by simpa [zk1]using hJ.symm
  refine zaz (by simp [zaE]) (zbY (t:=false) (by simp [zaE]) (by simp) fun _=>zjx ?_)
  exact zeD (by simp [hr])
def zud (f:Nat):Tr:=
 .call [] (.inl f) (.cons (.var 0) (.cons (.var 1) .nil))<|
 .chk [] (.dfd (.bin .geq (.var 2) (.int .i64 (0))))<|
 .ret (.bin .geq (.var 2) (.int .i64 (0)))
theorem zug {α:Type} {l:List α} {p:α→Option Bool} {f:Nat} {x y:AV} {r:Bool} (h:zcE l p=some r) (hf: ∀i,zbj l p=some i→Rts Tryz.prog sgs f [x,y] (.int .i64 i)):Den (zud f) (.bool r) [x,y]:=by
 obtain⟨i,hi,h⟩:=zjj h
 unfold Den zud
 refine zjw (fun _=>by simpa using hf i hi) (zaz (by simp [zaE]) (zeD ?_))
 simp only [Option.some.injEq]at h
 simp [zaE,←h]
def zpw (bytes sz:Nat):Tr:=
 .chk [] (.dfd (.len (.var 0)))<|
 .nilq [] (.var 0)<|
 .ite (.var 1) (
  .ret (.lst .nil)) (
  .chk [] (.room (.lst .nil) (.var 0) bytes)<|
  .chk [] (.flatS (.var 0) sz)<|
  .ret (.app (.lst .nil) (.var 0)))
def zrA (bytes sz:Nat):Tr:=
 .chk [] (.dfd (.len (.var 0)))<|
 .nilq [] (.var 0)<|
 .ite (.var 1) (
  .ret (.lst .nil)) (
  .chk [] (.room (.lst .nil) (.var 0) bytes)<|
  .chk [] (.issl (.var 0) sz)<|
  .ret (.app (.lst .nil) (.var 0)))
theorem zn6 {α:Type} {av:α→AV} {xs r:List α} {bytes sz:Nat} (hs: ∀x,(av x).cells.length=sz∧ ∀z∈(av x).cells,z.scalar=true) (h:zky bytes xs=some r):Den (zpw bytes sz) (.sl (r.map av)) [.sl (xs.map av)]:=by
 obtain⟨hq,h⟩:=zoP h
 cases h
 unfold Den zpw
 refine zaz (by simp) fun b hb=> ?_
 cases b with
 |true=>
  have:=hb (by simp) rfl
  exact zbY (t:=true) (by simp) (fun _=>zeD (by simpa using this.symm)) (by simp)
 |false=>exact zbY (t:=false) (by simp) (by simp) fun _=>zaz (fun _=>⟨0,xs.length,by simp,by simp,by simpa using hq.1,by simpa using hq.2⟩) (zaz (fun _=>zuI (xs:=xs) av (by simp) hs) (zeD (by simp)))
theorem zvd {α:Type} {av:α→AV} {xs r:List α} {bytes sz:Nat} (hs: ∀x,(av x).cells.length=sz) (h:zky bytes xs=some r):Den (zrA bytes sz) (.sl (r.map av)) [.sl (xs.map av)]:=by
 obtain⟨hq,h⟩:=zoP h
 cases h
 unfold Den zrA
 refine zaz (by simp) fun b hb=> ?_
 cases b with
 |true=>
  have:=hb (by simp) rfl
  exact zbY (t:=true) (by simp) (fun _=>zeD (by simpa using this.symm)) (by simp)
 |false=>exact zbY (t:=false) (by simp) (by simp) fun _=>zaz (fun _=>⟨0,xs.length,by simp,by simp,by simpa using hq.1,by simpa using hq.2⟩) (zaz (fun _=>zvR (xs:=xs) av (by simp) hs) (zeD (by simp)))
end Go.Proofs.YtfkblfjloegahaaGreat
end
section
namespace Go.Proofs.YtfkblfjloegahaaGreat
open Go.ChangeShapes Go.WideShapes Go.ChangeAt Go.RowKit
theorem zsT {P:Program} {w:World}:zeQ P w [] [] [] [] [] []:= .nil
theorem zj8 {P:Program} {w:World} {t:TypeId} {ts:List TypeId} {v:Value} {vs:List Value} {x:AV} {xs:List AV} {f rf:List Nat} (h:Rd w [v] [x] f) (k:zeQ P w ts [] vs xs rf []):zeQ P w (t::ts) [] (v::vs) (x::xs) (f++rf) []:=
 zeQ.cons (h:= []) (hs:= []) (ms:= []) ⟨h,rfl⟩ k
theorem zsZ {P:Program} {sg:SgT} {f:Nat} {fn:Func} {t:TypeId} {xs:List AV} (h:Rts P sg f xs (.bool true)) (hf:f<1000000) {s:Sig} (hs:sg f=some s) (hft:s.ft= []) (hro: ∀m∈s.modes,m= .ro) (hfl:zh5 P t s.res=false) (hfn:P.funcs[f]?=some fn) (hr:fn.resultTypes.toList= [t])
  {w:World} {vs:List Value} {rf:List Nat} (ha:zeQ P w fn.params.toList [] vs xs rf []):
  Calls P f vs.toArray w fun e w'=>e= .returned (.bool true)∧Below w.heap.size w w':=by
 unfold Rts at h
 rw [if_pos hf]at h
 obtain⟨s',hs',fn',hfn',_,_,_,_,_,hc⟩:=h
 rw [hs]at hs'
 obtain rfl:=Option.some.inj hs'
 rw [hfn]at hfn'
 obtain rfl:=Option.some.inj hfn'
 refine(hc w vs rf [] (by rw [hft,List.append_nil];exact ha.anyRo _ hro) (by simp) (by simp)).mono fun e w' ⟨v,he,hp⟩=> ?_
 obtain⟨⟨R,bs,f1,o1,f2,o2,hR,hres,_⟩,hm⟩:=hp
 have hRt:R= .bool true:=by
  cases bs with
  |nil=>exact hR.symm
  |cons=>cases hR
 subst hRt
 rw [hr]at hres
 have h2:zm2 P w' t s.res v (.bool true) f1 o1:=hres
 unfold zm2 at h2
 rw [hfl]at h2
 obtain⟨h3,_⟩:=h2
 have:v= .bool true:=by cases h3;rfl
 subst this
 exact⟨he,hm.below⟩
section
variable {P:Program} {t:TypeId} {Q:List AV→Prop} {H:Type} {enc:TypeId × Value→H} {w:World} {spare:Nat→Bool} {held:Bool} {v:Value} {d:DataW H} {p:List MemPlace} {r:Reach} {base:Nat}
theorem zmA (hO:OpA P t Q) (hc:v.cells= #[v]) (h:DataW.Trod enc P w 0 spare held t v d p): ∃x f,Rd w [v] [x] f∧Q [x]:=by
 obtain⟨n,h⟩:=h
 rw [hc]at h
 obtain⟨_,_,xs,f,hr,hq⟩:=hO.2 _ _ _ _ _ _ _ _ h
 have hl:=hr.len
 match xs,hl with
 | [x],_=>exact⟨x,f,hr,hq⟩
theorem zqi {fs:Array Field} (hO:OpA P t Q) (ht:P.underlying t=some (.struct fs)) (hv:Value.okWide P w r base t v) (h:DataW.Trod enc P w 0 spare held t v d p): ∃xs f,Rd w [v] [.agg xs] f∧Q xs:=by
 obtain⟨n,h⟩:=h
 obtain⟨cs,rfl,_⟩:=okWide_struct ht hv
 obtain⟨_,h1,xs,f,hr,hq⟩:=hO.2 _ _ _ _ _ _ _ _ h
 refine⟨xs,f++ [], ?_,hq⟩
 have:=Rd.agg (w:=w) h1 hr .nil
 simpa [Value.cells]using this
theorem zqS {e:TypeId} (hO:OpA P t Q) (ht:P.underlying t=some (.slice e)) (hv:Value.okWide P w r base t v) (h:DataW.Trod enc P w 0 spare held t v d p): ∃x f,Rd w [v] [x] f∧Q [x]:=by
 obtain⟨a,l,c,rfl⟩:=okWide_slice ht hv
 exact zmA hO rfl h
theorem zxp {k:IntKind} (hO:OpA P t Q) (ht:P.underlying t=some (.int k)) (hv:Value.okWide P w r base t v) (h:DataW.Trod enc P w 0 spare held t v d p): ∃x f,Rd w [v] [x] f∧Q [x]:=by
 obtain⟨n,rfl⟩:=okWide_int ht hv
 exact zmA hO rfl h
theorem zwF (hO:OpA P t Q) (ht:P.underlying t=some .bool) (hv:Value.okWide P w r base t v) (h:DataW.Trod enc P w 0 spare held t v d p): ∃x f,Rd w [v] [x] f∧Q [x]:=by
 obtain⟨n,rfl⟩:=okWide_bool ht hv
 exact zmA hO rfl h
theorem zp0 (hO:OpA P t Q) (ht:P.underlying t=some .string) (hv:Value.okWide P w r base t v) (h:DataW.Trod enc P w 0 spare held t v d p): ∃x f,Rd w [v] [x] f∧Q [x]:=by
 obtain⟨n,rfl⟩:=okWide_string ht hv
 exact zmA hO rfl h
end
end Go.Proofs.YtfkblfjloegahaaGreat
end
section
namespace Go.Proofs.YtfkblfjloegahaaGreat
open Go.ChangeShapes Go.WideShapes Go.ChangeAt Go.RowKit
theorem zv6 {a b:Bool} (ha:a=true) (hb:b=true):(a&&b)=true:=by rw [ha,hb];rfl
def znK (n:Int):Prop:= -9223372036854775808≤n∧n≤9223372036854775807
def zw8 (n:Int):Prop:=0≤n∧n≤255
def okB (_:Bool):Prop:=True
def zm5 (s:List UInt8):Prop:=s.length≤9223372036854775807
def okL {α:Type} (ok:α→Prop) (l:List α):Prop:=l.length≤9223372036854775807∧ ∀x∈l,ok x
theorem zxf {n:Int} (h:InK .i64 n):znK n:=by
 unfold InK at h
 rw [IntKind.wrap_i64]at h
 unfold znK
 omega
theorem zyA {n:Int} (h:InK .u8 n):zw8 n:=by
 unfold InK at h
 simp only [IntKind.wrap,IntKind.bits,IntKind.signed]at h
 unfold zw8
 simp at h
 omega
section
variable {P:Program} {t e:TypeId} {α:Type} {ok:α→Prop} {av:α→AV}
theorem zxv (ht:P.underlying t=some (.int .i64)) (hc:P.cellsOf t=1):OpA P t fun xs=> ∃n,znK n∧xs= [zwh n]:=
 (zqU ht hc).mono fun _ ⟨n,h,e⟩=>⟨n,zxf h,e⟩
theorem zyO (ht:P.underlying t=some (.int .u8)) (hc:P.cellsOf t=1):OpA P t fun xs=> ∃n,zw8 n∧xs= [zyr n]:=
 (zqU ht hc).mono fun _ ⟨n,h,e⟩=>⟨n,zyA h,e⟩
theorem opB (ht:P.underlying t=some .bool) (hc:P.cellsOf t=1):OpA P t fun xs=> ∃b,okB b∧xs= [avB b]:=
 (zsH ht hc).mono fun _ ⟨b,e⟩=>⟨b,trivial,e⟩
theorem zxM (ht:P.underlying t=some .string) (hc:P.cellsOf t=1):OpA P t fun xs=> ∃s,zm5 s∧xs= [zie s]:=
 (zqc ht hc).mono fun _ ⟨s,h,e⟩=>⟨s,h,e⟩
theorem zpJ: ∀{ys:List AV},(∀y∈ys,ElA true (fun xs=> ∃c,ok c∧ .agg xs=av c) y)→ ∃l:List α,(∀c∈l,ok c)∧ys=l.map av
 | [],_=>⟨[],by simp,rfl⟩
 |y::ys,h=>by
  obtain⟨l,hl,rfl⟩:=zpJ fun z hz=>h z (List.mem_cons_of_mem _ hz)
  have h0:=h y (List.mem_cons_self ..)
  simp only [ElA,if_true]at h0
  obtain⟨zs,rfl,c,hk,hc⟩:=h0
  exact⟨c::l,by simpa using⟨hk,hl⟩,by simp [hc]⟩
theorem zpL: ∀{ys:List AV},(∀y∈ys,ElA false (fun xs=> ∃c,ok c∧xs= [av c]) y)→ ∃l:List α,(∀c∈l,ok c)∧ys=l.map av
 | [],_=>⟨[],by simp,rfl⟩
 |y::ys,h=>by
  obtain⟨l,hl,rfl⟩:=zpL fun z hz=>h z (List.mem_cons_of_mem _ hz)
  have h0:=h y (List.mem_cons_self ..)
  simp only [ElA,Bool.false_eq_true,if_false]at h0
  obtain⟨_,c,hk,hc⟩:=h0
  exact⟨c::l,by simpa using⟨hk,hl⟩,by simp at hc;simp [hc]⟩
theorem zvU (ht:P.underlying t=some (.slice e)) (hc:P.cellsOf t=1) (he:OpA P e fun xs=> ∃c,ok c∧ .agg xs=av c):OpA P t fun xs=> ∃l:List α,okL ok l∧xs= [.sl (l.map av)]:=
 (zni true ht hc he (.inl rfl)).mono fun _ ⟨ys,hl,hy,e⟩=>by
  obtain⟨l,hk,rfl⟩:=zpJ hy
  exact⟨l,⟨by simpa using hl,hk⟩,e⟩
theorem zxG (ht:P.underlying t=some (.slice e)) (hc:P.cellsOf t=1) (he1:P.cellsOf e=1) (he:OpA P e fun xs=> ∃c,ok c∧xs= [av c]):OpA P t fun xs=> ∃l:List α,okL ok l∧xs= [.sl (l.map av)]:=
 (zni false ht hc he (.inr he1)).mono fun _ ⟨ys,hl,hy,e⟩=>by
  obtain⟨l,hk,rfl⟩:=zpL hy
  exact⟨l,⟨by simpa using hl,hk⟩,e⟩
end
end Go.Proofs.YtfkblfjloegahaaGreat
end
section
namespace Go.Proofs.YtfkblfjloegahaaGreat
open Go.RowKit
set_option maxRecDepth 100000
structure zbg where
 fName:List UInt8
 fCol:Int
 fStage:Int
@[simp] def ztz (x:zbg):AV:= .agg [.str x.fName, .int .i64 x.fCol, .int .i64 x.fStage]
structure zaa where
 fName:List UInt8
 fCols:List (List UInt8)
 fIdxs:List zbg
@[simp] def zm0 (x:zaa):AV:= .agg [.str x.fName, .sl (x.fCols.map zie), .sl (x.fIdxs.map ztz)]
structure zd5 where
 fVals:List (List UInt8)
@[simp] def zwk (x:zd5):AV:= .agg [.sl (x.fVals.map zie)]
structure zal where
 fKind:Int
 fOld:zd5
 fNew:zd5
@[simp] def zpR (x:zal):AV:= .agg [.int .i64 x.fKind, .sl (x.fOld.fVals.map zie), .sl (x.fNew.fVals.map zie)]
structure zaJ where
 fVer:Int
 fFill:Bool
 fAct:zal
 fRow:zd5
@[simp] def zjM (x:zaJ):AV:= .agg [.int .i64 x.fVer, .bool x.fFill, .int .i64 x.fAct.fKind, .sl (x.fAct.fOld.fVals.map zie), .sl (x.fAct.fNew.fVals.map zie), .sl (x.fRow.fVals.map zie)]
structure za4 where
 fKey:List UInt8
 fVal:List UInt8
 fGone:Bool
@[simp] def zut (x:za4):AV:= .agg [.str x.fKey, .str x.fVal, .bool x.fGone]
structure DOp where
 fKind:Int
 fKey:List UInt8
 fVal:List UInt8
 fBy:Int
@[simp] def zyL (x:DOp):AV:= .agg [.int .i64 x.fKind, .str x.fKey, .str x.fVal, .int .i64 x.fBy]
end Go.Proofs.YtfkblfjloegahaaGreat
end
section
namespace Go.Proofs.YtfkblfjloegahaaGreat
open Go.ChangeShapes Go.WideShapes Go.ChangeAt Go.RowKit
set_option maxRecDepth 100000
theorem op2:OpA Tryz.prog 9 fun xs=> ∃s,zm5 s∧xs= [zie s]:=zxM Tryz.underlying9 (by kernel_rfl)
theorem op3:OpA Tryz.prog 23 fun xs=> ∃l:List (List UInt8),okL zm5 l∧xs= [.sl (l.map zie)]:=zxG Tryz.underlying23 (by kernel_rfl) (by kernel_rfl) op2
theorem op6:OpA Tryz.prog 3 fun xs=> ∃n,znK n∧xs= [zwh n]:=zxv Tryz.underlying3 (by kernel_rfl)
def zrL (x:zbg):Prop:=zm5 x.fName∧znK x.fCol∧znK x.fStage
theorem op5:OpA Tryz.prog 101 fun xs=> ∃x:zbg,zrL x∧ .agg xs=ztz x:=
 (zfQ Tryz.underlying101 (by decide+kernel) (by kernel_rfl) (.cons op2 (.cons op6 (.cons op6 .nil)))).mono fun _ ⟨_,_,e0,⟨x0,k0,h0⟩,_,_,e1,⟨x1,k1,h1⟩,_,_,e2,⟨x2,k2,h2⟩,hz⟩=>by
  subst h2 hz e2 h1 e1 h0 e0
  exact⟨⟨x0,x1,x2⟩,⟨k0,k1,k2⟩,by simp⟩
theorem op4:OpA Tryz.prog 51 fun xs=> ∃l:List zbg,okL zrL l∧xs= [.sl (l.map ztz)]:=zvU Tryz.underlying51 (by kernel_rfl) op5
def zkd (x:zaa):Prop:=zm5 x.fName∧(okL zm5) x.fCols∧(okL zrL) x.fIdxs
theorem op1:OpA Tryz.prog 53 fun xs=> ∃x:zaa,zkd x∧ .agg xs=zm0 x:=
 (zfQ Tryz.underlying53 (by decide+kernel) (by kernel_rfl) (.cons op2 (.cons op3 (.cons op4 .nil)))).mono fun _ ⟨_,_,e0,⟨x0,k0,h0⟩,_,_,e1,⟨x1,k1,h1⟩,_,_,e2,⟨x2,k2,h2⟩,hz⟩=>by
  subst h2 hz e2 h1 e1 h0 e0
  exact⟨⟨x0,x1,x2⟩,⟨k0,k1,k2⟩,by simp⟩
theorem op0:OpA Tryz.prog 22 fun xs=> ∃l:List zaa,okL zkd l∧xs= [.sl (l.map zm0)]:=zvU Tryz.underlying22 (by kernel_rfl) op1
theorem op8:OpA Tryz.prog 4 fun xs=> ∃b,okB b∧xs= [avB b]:=opB Tryz.underlying4 (by kernel_rfl)
def zq9 (x:zd5):Prop:=(okL zm5) x.fVals
theorem zxc:OpA Tryz.prog 25 fun xs=> ∃x:zd5,zq9 x∧ .agg xs=zwk x:=
 (zfQ Tryz.underlying25 (by decide+kernel) (by kernel_rfl) (.cons op3 .nil)).mono fun _ ⟨_,_,e0,⟨x0,k0,h0⟩,hz⟩=>by
  subst h0 hz e0
  exact⟨⟨x0⟩,k0,by simp⟩
def zmi (x:zal):Prop:=znK x.fKind∧zq9 x.fOld∧zq9 x.fNew
theorem op9:OpA Tryz.prog 27 fun xs=> ∃x:zal,zmi x∧ .agg xs=zpR x:=
 (zfQ Tryz.underlying27 (by decide+kernel) (by kernel_rfl) (.cons op6 (.cons zxc (.cons zxc .nil)))).mono fun _ ⟨_,_,e0,⟨x0,k0,h0⟩,_,_,e1,⟨x1,k1,h1⟩,_,_,e2,⟨x2,k2,h2⟩,hz⟩=>by
  have g2:=AV.agg.inj h2
  have g1:=AV.agg.inj h1
  subst g2 hz e2 g1 e1 h0 e0
  exact⟨⟨x0,x1,x2⟩,⟨k0,k1,k2⟩,by simp⟩
def zkU (x:zaJ):Prop:=znK x.fVer∧okB x.fFill∧zmi x.fAct∧zq9 x.fRow
theorem op7:OpA Tryz.prog 29 fun xs=> ∃x:zaJ,zkU x∧ .agg xs=zjM x:=
 (zfQ Tryz.underlying29 (by decide+kernel) (by kernel_rfl) (.cons op6 (.cons op8 (.cons op9 (.cons zxc .nil))))).mono fun _ ⟨_,_,e0,⟨x0,k0,h0⟩,_,_,e1,⟨x1,k1,h1⟩,_,_,e2,⟨x2,k2,h2⟩,_,_,e3,⟨x3,k3,h3⟩,hz⟩=>by
  have g3:=AV.agg.inj h3
  have g2:=AV.agg.inj h2
  subst g3 hz e3 g2 e2 h1 e1 h0 e0
  exact⟨⟨x0,x1,x2,x3⟩,⟨k0,k1,k2,k3⟩,by simp⟩
end Go.Proofs.YtfkblfjloegahaaGreat
end
section
namespace Go.Proofs.YtfkblfjloegahaaGreat
open Go.RowKit
theorem zeQ.rd {P:Program} {w:World} {ts:List TypeId} {ms:List PM} {vs:List Value} {xs:List AV} {rf hs:List Nat} (h:zeQ P w ts ms vs xs rf hs):(∀m∈ms,m= .ro)→Rd w vs xs rf∧hs= []:=by
 induction h with
 |nil=>intro _;exact⟨.nil,rfl⟩
 | @cons t ts ms v vs x xs f h rf hs harg _ ih=>
  intro hms
  obtain⟨h1,rfl⟩:=ih fun m hm=>hms m (List.mem_of_mem_tail hm)
  have hro:ms.headD .ro= .ro:=by
   cases ms with
   |nil=>rfl
   |cons m ms=>exact hms m (by simp)
  rw [hro]at harg
  obtain⟨h2,h3⟩:Rd w [v] [x] f∧h= []:=harg
  subst h3
  exact⟨by simpa using h2.app h1,rfl⟩
 |free h1 _ ih=>
  intro hms
  obtain⟨h2,rfl⟩:=ih fun m hm=>hms m (List.mem_of_mem_tail hm)
  exact⟨by simpa using h1.app h2,rfl⟩
theorem zco.allRo {P:Program} {w:World}: ∀{ts:List TypeId} {ms:List PM} {vs:List Value},vs.length=ts.length→(∀m∈ms,m= .ro)→zco P w ts ms vs [] [] []
 | [],_,vs,_,_=> .nil
 |t::ts,ms, [],h,_=>by simp at h
 |t::ts,ms,v::vs,h,hms=>by
  refine .ro ?_ (zco.allRo (by simpa using h) fun m hm=>hms m (List.mem_of_mem_tail hm))
  cases ms with
  |nil=>rfl
  |cons m ms=>exact hms m (by simp)
def zxY (P:Program) (sg:SgT) (f:Nat) (np:Nat) (r:AV):Bool:=
 match P.funcs[f]?,sg f with
 |some fn,some s=>fn.body.isSome&& !(fn.name== "runtime.NumGoroutine")&&zhm P fn s r&&s.modes.all (fun m=>match m with| .ro=>true|_=>false)&&fn.params.size==np&&fn.nfree==0&&s.ft.isEmpty&&(match fn.resultTypes.toList with| [t]=> !zh5 P t s.res|_=>false)
 |_,_=>false
theorem zqG {f:Nat} {xs:List AV} {r:AV} (hk:zxY Tryz.prog sgs f xs.length r=true) (hc: ∀(w:World) (vs:List Value) (rf:List Nat),Rd w vs xs rf→Calls Tryz.prog f vs.toArray w fun e w'=>Mod [] w w'∧ ∃v f1,e= .returned v∧Rd w' [v] [r] f1∧ ∀b∈f1,b∈rf∨w.heap.size≤b):Rts Tryz.prog sgs f xs r:=by
 unfold zxY at hk
 split at hk
 ·rename_i fn s hf hs
  simp only [Bool.and_eq_true,Bool.not_eq_true',beq_iff_eq,List.all_eq_true]at hk
  obtain⟨⟨⟨⟨⟨⟨⟨h1,h2⟩,h3⟩,h4⟩,h5⟩,h6⟩,hft⟩,h7⟩:=hk
  have hft:s.ft= []:=by simpa using hft
  have hro: ∀m∈s.modes,m= .ro:=fun m hm=>by
   have:=h4 m hm
   split at this
   ·rfl
   ·cases this
  unfold Rts
  rw [if_pos (zn3 f s hs)]
  refine⟨s,hs,fn,hf,h1,h2,h3,by omega,by simp [hft],fun w vs rf hs' hargs hd hnd=> ?_⟩
  obtain⟨hr,rfl⟩:=hargs.rd hro
  refine(hc w vs rf hr).mono ?_
  rintro e w' ⟨hm,v,f1,rfl,hv,hb⟩
  refine⟨v,rfl,⟨⟨r, [],f1, [], [], [],rfl, ?_,zco.allRo ?_ hro,by simp,by simp,fun b hb'=>⟨by simp, ?_⟩⟩,hm⟩⟩
  ·unfold zsp
   split at h7
   ·rename_i t ht
    rw [ht]
    show zm2 Tryz.prog w' t s.res v r f1 []
    unfold zm2
    rw [if_neg (by rw [Bool.not_eq_true];simpa using h7)]
    exact⟨hv,rfl⟩
   ·cases h7
  ·rw [hr.len];simp [hft];omega
  ·rcases hb b (by simpa using hb')with h|h
   ·exact .inl h
   ·exact .inr (.inr h)
 ·cases hk
theorem zpN {w:World} {s:List UInt8} {vs:List Value} {xs:List AV} {f:List Nat} (h:Rd w vs (.str s::xs) f): ∃(b:ByteArray) (us:List Value),vs= .string b::us∧b.data.toList=s∧b.size≤9223372036854775807∧Rd w us xs f:=by
 cases h with
 |str a h=>exact⟨_,_,rfl,rfl,a,h⟩
theorem ztN {w:World} {k:IntKind} {n:Int} {vs:List Value} {xs:List AV} {f:List Nat} (h:Rd w vs (.int k n::xs) f): ∃us:List Value,vs= .int k n::us∧InK k n∧Rd w us xs f:=by
 cases h with
 |int a h=>exact⟨_,rfl,a,h⟩
theorem zkI {w:World} {vs:List Value} {f:List Nat} (h:Rd w vs [] f):vs= []∧f= []:=by
 cases h;exact⟨rfl,rfl⟩
end Go.Proofs.YtfkblfjloegahaaGreat
end
section
namespace Go.Proofs.YtfkblfjloegahaaGreat
open Go.RowKit
def zfn {α:Type} (p:α→Option Bool):List α→Option (List α)
 | []=>some []
 |x::xs=>(p x).bind fun b=>(zfn p xs).bind fun r=>some (if b=true then r else x::r)
noncomputable def zna {α:Type} (xs:List α) (p:α→Option Bool):Option (List α):=req (xs.length≤9223372036854775806) (zfn p xs)
theorem zp8 {α:Type} {p:α→Option Bool} (q:α→Bool): ∀{l:List α},(∀x∈l,p x=some (q x))→zfn p l=some (l.filter fun x=> !q x)
 | [],_=>rfl
 |x::l,h=>by
  have e:=zp8 (p:=p) q (l:=l) fun y hy=>h y (List.mem_cons_of_mem _ hy)
  simp only [zfn,h x (by simp),e,Option.bind_some,List.filter_cons]
  cases q x<;>rfl
theorem znx {α:Type} {p:α→Option Bool} {l r:List α} {q:Nat} (hq:q<l.length) (h:zfn p (l.drop q)=some r): ∃b r',p l[q]=some b∧zfn p (l.drop (q+1))=some r'∧r=if b=true then r' else l[q]::r':=by
 rw [List.drop_eq_getElem_cons hq]at h
 obtain⟨b,hb,h⟩:=zjj h
 obtain⟨r',hr,h⟩:=zjj h
 exact⟨b,r',hb,hr,by simpa using h.symm⟩
theorem zjD {α:Type} {p:α→Option Bool}: ∀{l r:List α} (i:Int),zfn p l=some r→(zk1 p l i=some (-1)∧r=l)∨ ∃k r',k<l.length∧zk1 p l i=some (i+(k:Nat))∧zfn p (l.drop (k+1))=some r'∧r=l.take k++r'
 | [],r,i,h=>by cases h;exact .inl ⟨rfl,rfl⟩
 |x::l,r,i,h=>by
  obtain⟨b,hb,h⟩:=zjj h
  obtain⟨r1,hr,h⟩:=zjj h
  cases b with
  |true=>
   have:r1=r:=by simpa using h
   subst this
   exact .inr ⟨0,r1,by simp,by simp [zk1,hb],by simpa using hr,by simp⟩
  |false=>
   have:r=x::r1:=by simpa using h.symm
   subst this
   rcases zjD (i+1) hr with⟨h1,rfl⟩|⟨k,r',h1,h2,h3,rfl⟩
   ·exact .inl ⟨by simp [zk1,hb,h1],rfl⟩
   ·exact .inr ⟨k+1,r',by simp;omega,by simp [zk1,hb,h2];omega,by simpa using h3,by simp⟩
def zvD (ck:List Cn) (k:Tr):Tr:=ck.foldr (fun c k=> .chk [] c k) k
section
variable {Rt:Nat→List AV→AV→Prop} {R:AV→Prop} {L:LK} {js:List JK} {ρ:List AV}
theorem zpQ: ∀{ck:List Cn} {k:Tr},(∀c∈ck,c.den ρ)→k.den Rt R L js ρ→(zvD ck k).den Rt R L js ρ
 | [],_,_,hk=>hk
 |c::ck,k,h,hk=>⟨fun _=>h c (by simp),zpQ (fun q hq=>h q (by simp [hq])) hk⟩
theorem zsR {t k:Tr} {K:List AV→Prop} (hK: ∀vs,K vs→k.den Rt R L js (ρ++vs)) (ht: ∀j:JK,(∀vs,K vs→j vs)→t.den Rt R L (j::js) ρ):(Tr.join t k).den Rt R L js ρ:=ht _ hK
end
def zvO (fi cn:Nat) (g:Bool) (X:E) (ck:List Cn) (z:E):Tr:=
 .call [] (.inl fi) (.cons (.var 0) (.cons (.var 1) .nil))<|
 .chk [] (.dfd (.bin .eql (.var 2) (.int .i64 (-1))))<|
 .ite (.bin .eql (.var 2) (.int .i64 (-1))) (
  .ret (.var 0)) (
  .chk [] (.dfd (.bin .add (.var 2) (.int .i64 (1))))<|
  .loop (.cons (.var 2) (.cons (.bin .add (.var 2) (.int .i64 (1))) (.cons (.var 0) .nil))) (
  .chk [] (.dfd (.len (.var 5)))<|
  .chk [] (.dfd (.bin .lss (.var 4) (.len (.var 5))))<|
  .ite (.bin .lss (.var 4) (.len (.var 5))) (
   .join (
   .chk [] (.inb (.var 4) (.var 5) cn)<|
   zvD ck<|
   .call [] (.inr (.var 1)) (.cons X .nil)<|
   .chk [] (.dfd (.not (.var 6)))<|
   .ite (.not (.var 6)) (
    .chk [] (.inb (.var 3) (.var 5) cn)<|
    .chk [] (.flat X cn g)<|
    .chk [] (.flat (.fld (.idx (.var 5) (.var 3)) 0 cn g) cn g)<|
    .chk [] (.dfd (.bin .add (.var 3) (.int .i64 (1))))<|
    .jmp 0 (.cons (.bin .add (.var 3) (.int .i64 (1))) (.cons (.set (.var 5) (.var 3) (.put (.idx (.var 5) (.var 3)) 0 X g)) .nil))) (
    .jmp 0 (.cons (.var 3) (.cons (.var 5) .nil)))) (
   .chk [] (.dfd (.bin .add (.var 4) (.int .i64 (1))))<|
   .jmp 0 (.cons (.var 6) (.cons (.bin .add (.var 4) (.int .i64 (1))) (.cons (.var 7) .nil))))) (
   .jmp 1 (.cons (.var 3) (.cons (.var 5) .nil)))) (
  .chk [] (.win (.var 4) (.var 3) (.len (.var 4)))<|
  .chk [] (.win (.var 4) (.var 3) (.len (.var 4)))<|
  .chk [] (.dfd (.bin .sub (.len (.var 4)) (.var 3)))<|
  .chk [] (.win (.app (.win (.var 4) (.int .i64 (0)) (.var 3)) (.rep (.bin .sub (.len (.var 4)) (.var 3)) z)) (.int .i64 (0)) (.var 3))<|
  .ret (.win (.app (.win (.var 4) (.int .i64 (0)) (.var 3)) (.rep (.bin .sub (.len (.var 4)) (.var 3)) z)) (.int .i64 (0)) (.var 3))))
theorem zwT {α:Type} {av:α→AV} {l r:List α} {p:α→Option Bool} {fi cn g9:Nat} {g:Bool} {X z:E} {ck:List Cn} {caps:List AV}
  (hs: ∀x,(av x).cells.length=cn∧(∀z∈(av x).cells,z.scalar=true)∧(g=true→ ∃cs,av x= .agg cs)∧(g=false→(av x).scalar=true)) (hcn:0<cn)
  (hX: ∀(a b c d:AV) (j:Nat) (ys:List AV) (x:α) (tl:List AV),ys[j]?=some (av x)→X.den ([a,b,c,d, .int .i64 j, .sl ys]++tl)=av x)
  (hck: ∀(a b c d:AV) (j:Nat) (ys:List AV) (x:α),ys[j]?=some (av x)→ ∀q∈ck,q.den [a,b,c,d, .int .i64 j, .sl ys])
  (h:zna l p=some r) (hi: ∀i,zbj l p=some i→Rts Tryz.prog sgs fi [.sl (l.map av), .fn g9 caps] (.int .i64 i))
  (hf: ∀x b,p x=some b→Rts Tryz.prog sgs (1000000+g9) (av x::caps) (.bool b)):Den (zvO fi cn g X ck z) (.sl (r.map av)) [.sl (l.map av), .fn g9 caps]:=by
 obtain⟨hn,h⟩:=zoP h
 unfold Den zvO
 have hput: ∀x y:α,(av y).putF 0 (av x) g=av x:=by
  intro x y
  cases g with
  |false=>rfl
  |true=>
   obtain⟨cs,hcs⟩:=(hs x).2.2.1 rfl
   have e1:=(hs x).1
   have e2:=(hs y).1
   have e3:(av x).cells=cs:=by rw [hcs];rfl
   have e4:(av y).cells.drop (0+cs.length)= []:=List.drop_eq_nil_of_le (by rw [e2,←e1,e3];omega)
   show AV.agg ((av y).cells.take 0++(av x).cells++(av y).cells.drop (0+(av x).cells.length))=av x
   rw [e3,e4,List.append_nil,List.take_zero,List.nil_append,hcs]
 have hfld: ∀x:α,(av x).fld 0 cn g=av x:=by
  intro x
  cases g with
  |false=>
   have:=zoi ((hs x).2.2.2 rfl)
   simp [AV.fld,this]
  |true=>
   obtain⟨cs,hcs⟩:=(hs x).2.2.1 rfl
   have e1:=(hs x).1
   rw [hcs]at e1 ⊢
   simp only [AV.fld,if_true,AV.cells]at e1 ⊢
   rw [List.drop_zero,List.take_of_length_le (by omega)]
 have hflat: ∀(e:E) (ρ:List AV) (x:α),e.den ρ=av x→Cn.den ρ (.flat e cn g):=fun e ρ x he=>by
  show(e.den ρ).cells.length=cn∧(∀y∈(e.den ρ).cells,y.scalar=true)∧(g=true→ ∃cs,e.den ρ= .agg cs)∧(g=false→(e.den ρ).scalar=true)
  rw [he];exact hs x
 rcases zjD 0 h with⟨h1,rfl⟩|⟨k0,r0,hk0,h1,h2,rfl⟩
 ·refine zjw (r:= .int .i64 (-1)) (fun _=>hi _ (by unfold zbj;rw [show req (r.length≤9223372036854775806) (zk1 p r 0)=zk1 p r 0 from if_pos hn];exact h1)) ?_
  exact zaz (by simp [zaE]) (zbY (t:=true) (by simp [zaE]) (fun _=>zeD (by simp)) (by simp))
 ·refine zjw (r:= .int .i64 k0) (fun _=>hi _ (by unfold zbj;rw [show req (l.length≤9223372036854775806) (zk1 p l 0)=zk1 p l 0 from if_pos hn,h1];simp)) ?_
  have hw:IntKind.i64.wrap ((k0:Int)+1)=k0+1:=zbr (by omega) (by omega)
  refine zaz (by simp [zaE]) (zbY (t:=false) (by simp [zaE];try omega) (by simp) fun _=>zaz (by simp [zaE]) ?_)
  refine zl7 zf7 (fun m vs=> ∃(j:Nat) (K zs r':List α),j+m=l.length∧vs= [.int .i64 K.length, .int .i64 j, .sl (zs.map av)]∧K.length<j∧zs.length=l.length∧zs.take K.length=K∧zs.drop j=l.drop j∧zfn p (l.drop j)=some r'∧l.take k0++r0=K++r') (m:=l.length-(k0+1))
   ⟨k0+1,l.take k0,l,r0,by omega, ?_,by simp;omega,rfl,by simp [Nat.min_eq_left (Nat.le_of_lt hk0)],rfl,h2,rfl⟩ ?_
  ·simp [zaE,hw,Nat.min_eq_left (Nat.le_of_lt hk0)]
  rintro m vs ⟨j,K,zs,r',hj,rfl,hKj,hyl,hyt,hyd,hr',hres⟩
  refine zaz (by simp) (zaz (by simp [zaE]) ?_)
  by_cases hlt:j<l.length
  ·refine zbY (t:=true) (by simp [zaE,hyl,hlt]) (fun _=> ?_) (by simp)
   obtain⟨b,r2,hb,hr2,hrr⟩:=znx hlt hr'
   have hzj:zs[j]?=some l[j]:=by
    have:=congrArg (fun L=>L[0]?) hyd
    simpa [hlt]using this
   have hyj:(zs.map av)[j]?=some (av l[j]):=by simp [hzj]
   have hKlt:K.length<zs.length:=by omega
   have hwj:IntKind.i64.wrap ((j:Int)+1)=j+1:=zbr (by omega) (by omega)
   have hwK:IntKind.i64.wrap ((K.length:Int)+1)=K.length+1:=zbr (by omega) (by omega)
   refine zsR (K:=fun us=> ∃(K' zs':List α),us= [.int .i64 K'.length, .sl (zs'.map av)]∧K'.length<j+1∧zs'.length=l.length∧zs'.take K'.length=K'∧zs'.drop (j+1)=l.drop (j+1)∧l.take k0++r0=K'++r2) ?_ ?_
   ·rintro us ⟨K',zs',rfl,a1,a2,a3,a4,a5⟩
    refine zaz (by simp [zaE]) (zgX ⟨m-1,by omega,j+1,K',zs',r2,by omega, ?_,a1,a2,a3,a4,hr2,a5⟩)
    simp [zaE,hwj]
   ·intro J hJ
    refine zaz (fun _=>⟨.i64,j,zs.length,by simp,by omega,by simp,by omega, ?_⟩) (zpQ (hck _ _ _ _ j (zs.map av) _ hyj) (zjZ (r:= .bool b) (fun _=>⟨g9,caps,by simp, ?_,by simp⟩) ?_))
    ·simp [AV.nth,hzj,(hs l[j]).1]
    ·have e1:=hX (.sl (l.map av)) (.fn g9 caps) (.int .i64 k0) (.int .i64 K.length) j (zs.map av) l[j] [] hyj
     rw [List.append_nil]at e1
     show Rts Tryz.prog sgs (1000000+g9) ([X.den [.sl (l.map av), .fn g9 caps, .int .i64 k0, .int .i64 K.length, .int .i64 j, .sl (zs.map av)]]++caps) (.bool b)
     rw [e1]
     exact hf _ _ hb
    ·refine zaz (by simp) ?_
     have e2:=hX (.sl (l.map av)) (.fn g9 caps) (.int .i64 k0) (.int .i64 K.length) j (zs.map av) l[j] [.bool b] hyj
     cases b with
     |true=>
      refine zbY (t:=false) (by simp) (by simp) fun _=>zgX (hJ _ ⟨K,zs,by simp,by omega,hyl,hyt, ?_,by rw [hres,hrr];simp⟩)
      have:=congrArg (List.drop 1) hyd
      simpa [List.drop_drop]using this
     |false=>
      refine zbY (t:=true) (by simp) (fun _=> ?_) (by simp)
      obtain⟨zk,hzk⟩: ∃zk,zs[K.length]?=some zk:=⟨zs[K.length],by simp [hKlt]⟩
      have e3:(E.idx (.var 5) (.var 3)).den ([AV.sl (l.map av), .fn g9 caps, .int .i64 k0, .int .i64 K.length, .int .i64 j, .sl (zs.map av)]++ [.bool false])=av zk:=by
       simp [AV.nth,hzk]
      refine zaz (fun _=>⟨.i64,K.length,zs.length,by simp,by omega,by simp,by omega, ?_⟩) (zaz (fun _=>hflat _ _ _ e2) (zaz (fun _=>hflat _ _ zk ?_) (zaz (by simp [zaE]) (zgX (hJ _ ⟨K++ [l[j]],zs.set K.length l[j], ?_,by simp;omega,by simpa using hyl, ?_, ?_,by rw [hres,hrr];simp⟩)))))
      ·simp [AV.nth,hzk,(hs zk).1]
      ·exact(congrArg (fun y=>AV.fld y 0 cn g) e3).trans (hfld zk)
      ·have e4:(E.set (.var 5) (.var 3) (.put (.idx (.var 5) (.var 3)) 0 X g)).den ([AV.sl (l.map av), .fn g9 caps, .int .i64 k0, .int .i64 K.length, .int .i64 j, .sl (zs.map av)]++ [.bool false])= .sl ((zs.set K.length l[j]).map av):=by
        show AV.setNth _ _ (AV.putF ((E.idx (.var 5) (.var 3)).den _) 0 (X.den _) g)=_
        rw [e3,e2,hput]
        simp [AV.setNth,List.map_set]
       show EL.den _ (.cons (.bin .add (.var 3) (.int .i64 1)) (.cons (.set (.var 5) (.var 3) (.put (.idx (.var 5) (.var 3)) 0 X g)) .nil))=_
       simp only [EL.den]
       have e5:(E.bin .add (.var 3) (.int .i64 1)).den ([AV.sl (l.map av), .fn g9 caps, .int .i64 k0, .int .i64 K.length, .int .i64 j, .sl (zs.map av)]++ [.bool false])= .int .i64 ((K++ [l[j]]).length:Int):=by
        simp [zaE,hwK]
       congr 1
       congr 1
      ·rw [List.length_append,List.length_singleton,List.take_add_one,List.take_set_of_le (Nat.le_refl _),hyt]
       simp [hKlt]
      ·rw [List.drop_set_of_lt (by omega)]
       have:=congrArg (List.drop 1) hyd
       simpa [List.drop_drop]using this
  ·have hje:j=l.length:=by omega
   subst hje
   refine zbY (t:=false) (by simp [zaE,hyl]) (by simp) fun _=>zjx ?_
   have hr0:r'= []:=by
    rw [List.drop_eq_nil_of_le (Nat.le_refl _)]at hr'
    exact(by simpa [zfn]using hr'.symm)
   subst hr0
   rw [hres,List.append_nil]
   have hwn:IntKind.i64.wrap ((zs.length:Int)-K.length)=zs.length-K.length:=zbr (by omega) (by omega)
   have d3:(E.var 3).den ([AV.sl (l.map av),AV.fn g9 caps]++ [AV.int .i64 (k0:Int)]++ [AV.int .i64 (K.length:Int),AV.sl (zs.map av)])= .int .i64 K.length:=by simp
   have d4:(E.var 4).den ([AV.sl (l.map av),AV.fn g9 caps]++ [AV.int .i64 (k0:Int)]++ [AV.int .i64 (K.length:Int),AV.sl (zs.map av)])= .sl (zs.map av):=by simp
   have dm:(E.bin .sub (.len (.var 4)) (.var 3)).den ([AV.sl (l.map av),AV.fn g9 caps]++ [AV.int .i64 (k0:Int)]++ [AV.int .i64 (K.length:Int),AV.sl (zs.map av)])= .int .i64 ((zs.length:Int)-K.length):=by simp [zaE,hwn]
   have hwin:Cn.den ([AV.sl (l.map av),AV.fn g9 caps]++ [AV.int .i64 (k0:Int)]++ [AV.int .i64 (K.length:Int),AV.sl (zs.map av)]) (.win (.var 4) (.var 3) (.len (.var 4))):=⟨.i64,K.length, .i64,zs.length,zs.length,d3,by simp,by rw [d4];simp,by omega,by omega,by omega⟩
   have dapp:(E.app (.win (.var 4) (.int .i64 (0)) (.var 3)) (.rep (.bin .sub (.len (.var 4)) (.var 3)) z)).den ([AV.sl (l.map av),AV.fn g9 caps]++ [AV.int .i64 (k0:Int)]++ [AV.int .i64 (K.length:Int),AV.sl (zs.map av)])= .sl ((zs.map av).take K.length++List.replicate (zs.length-K.length) (z.den ([AV.sl (l.map av),AV.fn g9 caps]++ [AV.int .i64 (k0:Int)]++ [AV.int .i64 (K.length:Int),AV.sl (zs.map av)]))):=by
    show AV.app (AV.win ((E.var 4).den _) (.int .i64 0) ((E.var 3).den _)) (AV.rep ((E.bin .sub (.len (.var 4)) (.var 3)).den _) _)=_
    rw [d3,d4,dm]
    simp only [AV.win,AV.rep,AV.app,Int.toNat_natCast,Int.toNat_zero,List.drop_zero]
    congr 3;omega
   refine zaz (fun _=>hwin) (zaz (fun _=>hwin) (zaz (fun _=>fun hu=>by have:=dm.symm.trans hu;simp at this) (zaz (fun _=>⟨.i64,0, .i64,K.length,zs.length,rfl,d3, ?_,by omega,by omega,by omega⟩) (zeD ?_))))
   ·refine(congrArg AV.len dapp).trans ?_
    simp only [AV.len,List.length_append,List.length_take,List.length_map,List.length_replicate]
    congr 1;omega
   ·refine(congrArg (fun y=>AV.win y (.int .i64 0) (.int .i64 K.length)) dapp).trans ?_
    simp only [AV.win,Int.toNat_natCast,Int.toNat_zero,List.drop_zero]
    rw [List.take_append_of_le_length (by simp;omega),List.take_take,Nat.min_self,←List.map_take,hyt]
end Go.Proofs.YtfkblfjloegahaaGreat
end
section
namespace Go.Proofs
open Go.Shelf
def Tryz.lays169_ren:Go.Shelf.Ren:=⟨fun|169=>116|n=>n,fun|70=>139|9=>9|0=>0|72=>141|37=>99|127=>148|3=>3|5=>5|n=>n,fun|n=>n⟩
theorem Tryz.lays169:Go.Proofs.Lays.n169 Tryz.prog Tryz.lays169_ren:={
 mixed:=by kernel_rfl
 f169:=Tryz.func116.trans (congrArg some (by kernel_rfl))
 t0:=Tryz.underlying0
 a0:=Tryz.isAgg0
 z0:=Tryz.sizeOf0
 v0:=Tryz.zeroValue0
 t3:=Tryz.underlying3
 a3:=Tryz.isAgg3
 z3:=Tryz.sizeOf3
 v3:=Tryz.zeroValue3
 t9:=Tryz.underlying9
 a9:=Tryz.isAgg9
 z9:=Tryz.sizeOf9
 v9:=Tryz.zeroValue9
 t37:=Tryz.underlying99
 a37:=Tryz.isAgg99
 z37:=Tryz.sizeOf99
 v37:=Tryz.zeroValue99
 t70:=Tryz.underlying139
 a70:=Tryz.isAgg139
 z70:=Tryz.sizeOf139
 v70:=Tryz.zeroValue139
 t72:=Tryz.underlying141
 a72:=Tryz.isAgg141
 z72:=Tryz.sizeOf141
 v72:=Tryz.zeroValue141
 t127:=Tryz.underlying148
 a127:=Tryz.isAgg148
 z127:=Tryz.sizeOf148
 v127:=Tryz.zeroValue148}
theorem Tryz.Builder_Extra_169:Builder.Extra Tryz.prog Tryz.lays169_ren:={
 sizeBuilder:=by kernel_rfl
 liesBuilder:=by kernel_rfl
 t5:=Tryz.underlying5
 a5:=Tryz.isAgg5
 z5:=Tryz.sizeOf5
 v5:=Tryz.zeroValue5
 infoByte:=by kernel_rfl
 cellsByte:=by kernel_rfl
 sizeByte:=by kernel_rfl
 neB5:=by decide}
open Go.RowKit in
theorem Tryz.Builder_String (B b:Nat) (l:List UInt8) (w:World) (h:Lib.IsBuilder 141 5 B b (Lib.byteCells l) w) (h0:l≠ []):
  Calls Tryz.prog 116 #[.pointer (some ⟨b,0,none⟩)] w fun e w'=>e= .returned (.string ⟨l.toArray⟩)∧Below B w w':=Any.Builder_String Tryz.lays169 Tryz.Builder_Extra_169 B b l w h h0
open Go.RowKit in
theorem Tryz.Builder_String_empty (B b:Nat) (w:World) (h:Lib.IsBuilder 141 5 B b [] w) (hBw:B≤w.heap.size):
  Calls Tryz.prog 116 #[.pointer (some ⟨b,0,none⟩)] w fun e w'=>e= .returned (.string ⟨#[]⟩)∧Below B w w':=Any.Builder_String_empty Tryz.lays169 Tryz.Builder_Extra_169 B b w h hBw
open Go.RowKit in
theorem Tryz.Builder_String_any (B b:Nat) (l:List UInt8) (w:World) (h:Lib.IsBuilder 141 5 B b (Lib.byteCells l) w) (hBw:B≤w.heap.size):
  Calls Tryz.prog 116 #[.pointer (some ⟨b,0,none⟩)] w fun e w'=>e= .returned (.string ⟨l.toArray⟩)∧Below B w w':=Any.Builder_String_any Tryz.lays169 Tryz.Builder_Extra_169 B b l w h hBw
def Tryz.lays241_ren:Go.Shelf.Ren:=⟨fun|241=>119|277=>122|n=>n,fun|70=>139|3=>3|0=>0|72=>141|37=>99|5=>5|n=>n,fun|n=>n⟩
theorem Tryz.lays241:Go.Proofs.Lays.n241 Tryz.prog Tryz.lays241_ren:={
 mixed:=by kernel_rfl
 f241:=Tryz.func119.trans (congrArg some (by kernel_rfl))
 f277:=Tryz.func122.trans (congrArg some (by kernel_rfl))
 t0:=Tryz.underlying0
 a0:=Tryz.isAgg0
 z0:=Tryz.sizeOf0
 v0:=Tryz.zeroValue0
 t3:=Tryz.underlying3
 a3:=Tryz.isAgg3
 z3:=Tryz.sizeOf3
 v3:=Tryz.zeroValue3
 t37:=Tryz.underlying99
 a37:=Tryz.isAgg99
 z37:=Tryz.sizeOf99
 v37:=Tryz.zeroValue99
 t70:=Tryz.underlying139
 a70:=Tryz.isAgg139
 z70:=Tryz.sizeOf139
 v70:=Tryz.zeroValue139
 t72:=Tryz.underlying141
 a72:=Tryz.isAgg141
 z72:=Tryz.sizeOf141
 v72:=Tryz.zeroValue141}
theorem Tryz.Builder_Extra_241:Builder.Extra Tryz.prog Tryz.lays241_ren:={
 sizeBuilder:=by kernel_rfl
 liesBuilder:=by kernel_rfl
 t5:=Tryz.underlying5
 a5:=Tryz.isAgg5
 z5:=Tryz.sizeOf5
 v5:=Tryz.zeroValue5
 infoByte:=by kernel_rfl
 cellsByte:=by kernel_rfl
 sizeByte:=by kernel_rfl
 neB5:=by decide}
open Go.RowKit in
theorem Tryz.Builder_grow_fresh (B b n:Nat) (w:World) (hB:B≤b) (hbk:w.heap[b]?=some (.cells #[.pointer (some ⟨b,0,none⟩), .slice none 0 0] 141 (0,0))) (hBw:B≤w.heap.size) (hn:n≤281474976710656):
  Calls Tryz.prog 119 #[.pointer (some ⟨b,0,none⟩), .int .i64 n] w fun e w'=>e= .returned (.tuple #[])∧(Lib.BuilderAt 141 5 B b (.pointer (some ⟨b,0,none⟩)) [] w'∧Below B w w'):=Any.Builder_grow_fresh Tryz.lays241 Tryz.Builder_Extra_241 B b n w hB hbk hBw hn
def Tryz.lays165_ren:Go.Shelf.Ren:=⟨fun|165=>114|240=>118|241=>119|276=>121|277=>122|n=>n,fun|70=>139|3=>3|0=>0|4=>4|9=>9|20=>20|72=>141|37=>99|164=>149|5=>5|n=>n,fun|n=>n⟩
theorem Tryz.lays165:Go.Proofs.Lays.n165 Tryz.prog Tryz.lays165_ren:={
 mixed:=by kernel_rfl
 f165:=Tryz.func114.trans (congrArg some (by kernel_rfl))
 f240:=Tryz.func118.trans (congrArg some (by kernel_rfl))
 f241:=Tryz.func119.trans (congrArg some (by kernel_rfl))
 f276:=Tryz.func121.trans (congrArg some (by kernel_rfl))
 f277:=Tryz.func122.trans (congrArg some (by kernel_rfl))
 t0:=Tryz.underlying0
 a0:=Tryz.isAgg0
 z0:=Tryz.sizeOf0
 v0:=Tryz.zeroValue0
 t3:=Tryz.underlying3
 a3:=Tryz.isAgg3
 z3:=Tryz.sizeOf3
 v3:=Tryz.zeroValue3
 t4:=Tryz.underlying4
 a4:=Tryz.isAgg4
 z4:=Tryz.sizeOf4
 v4:=Tryz.zeroValue4
 t9:=Tryz.underlying9
 a9:=Tryz.isAgg9
 z9:=Tryz.sizeOf9
 v9:=Tryz.zeroValue9
 t20:=Tryz.underlying20
 a20:=Tryz.isAgg20
 z20:=Tryz.sizeOf20
 v20:=Tryz.zeroValue20
 t37:=Tryz.underlying99
 a37:=Tryz.isAgg99
 z37:=Tryz.sizeOf99
 v37:=Tryz.zeroValue99
 t70:=Tryz.underlying139
 a70:=Tryz.isAgg139
 z70:=Tryz.sizeOf139
 v70:=Tryz.zeroValue139
 t72:=Tryz.underlying141
 a72:=Tryz.isAgg141
 z72:=Tryz.sizeOf141
 v72:=Tryz.zeroValue141
 t164:=Tryz.underlying149
 a164:=Tryz.isAgg149
 z164:=Tryz.sizeOf149
 v164:=Tryz.zeroValue149}
theorem Tryz.Builder_Extra_165:Builder.Extra Tryz.prog Tryz.lays165_ren:={
 sizeBuilder:=by kernel_rfl
 liesBuilder:=by kernel_rfl
 t5:=Tryz.underlying5
 a5:=Tryz.isAgg5
 z5:=Tryz.sizeOf5
 v5:=Tryz.zeroValue5
 infoByte:=by kernel_rfl
 cellsByte:=by kernel_rfl
 sizeByte:=by kernel_rfl
 neB5:=by decide}
open Go.RowKit in
theorem Tryz.Builder_Grow_fresh (B b n:Nat) (w:World) (hB:B≤b) (hbk:w.heap[b]?=some (.cells #[.pointer none, .slice none 0 0] 141 (0,0))) (hBw:B≤w.heap.size) (hn:n≤281474976710656):
  Calls Tryz.prog 114 #[.pointer (some ⟨b,0,none⟩), .int .i64 n] w fun e w'=>e= .returned (.tuple #[])∧(Lib.BuilderAt 141 5 B b (.pointer (some ⟨b,0,none⟩)) [] w'∧Below B w w'):=Any.Builder_Grow_fresh Tryz.lays165 Tryz.Builder_Extra_165 B b n w hB hbk hBw hn
def Tryz.lays156_ren:Go.Shelf.Ren:=⟨fun|156=>107|165=>114|166=>115|169=>116|240=>118|241=>119|276=>121|277=>122|n=>n,fun|31=>23|9=>9|3=>3|4=>4|0=>0|20=>20|72=>141|76=>145|70=>139|37=>99|75=>144|127=>148|164=>149|5=>5|80=>147|n=>n,fun|n=>n⟩
theorem Tryz.lays156:Go.Proofs.Lays.n156 Tryz.prog Tryz.lays156_ren:={
 mixed:=by kernel_rfl
 f156:=Tryz.func107.trans (congrArg some (by kernel_rfl))
 f165:=Tryz.func114.trans (congrArg some (by kernel_rfl))
 f166:=Tryz.func115.trans (congrArg some (by kernel_rfl))
 f169:=Tryz.func116.trans (congrArg some (by kernel_rfl))
 f240:=Tryz.func118.trans (congrArg some (by kernel_rfl))
 f241:=Tryz.func119.trans (congrArg some (by kernel_rfl))
 f276:=Tryz.func121.trans (congrArg some (by kernel_rfl))
 f277:=Tryz.func122.trans (congrArg some (by kernel_rfl))
 t0:=Tryz.underlying0
 a0:=Tryz.isAgg0
 z0:=Tryz.sizeOf0
 v0:=Tryz.zeroValue0
 t3:=Tryz.underlying3
 a3:=Tryz.isAgg3
 z3:=Tryz.sizeOf3
 v3:=Tryz.zeroValue3
 t4:=Tryz.underlying4
 a4:=Tryz.isAgg4
 z4:=Tryz.sizeOf4
 v4:=Tryz.zeroValue4
 t9:=Tryz.underlying9
 a9:=Tryz.isAgg9
 z9:=Tryz.sizeOf9
 v9:=Tryz.zeroValue9
 t20:=Tryz.underlying20
 a20:=Tryz.isAgg20
 z20:=Tryz.sizeOf20
 v20:=Tryz.zeroValue20
 t31:=Tryz.underlying23
 a31:=Tryz.isAgg23
 z31:=Tryz.sizeOf23
 v31:=Tryz.zeroValue23
 t37:=Tryz.underlying99
 a37:=Tryz.isAgg99
 z37:=Tryz.sizeOf99
 v37:=Tryz.zeroValue99
 t70:=Tryz.underlying139
 a70:=Tryz.isAgg139
 z70:=Tryz.sizeOf139
 v70:=Tryz.zeroValue139
 t72:=Tryz.underlying141
 a72:=Tryz.isAgg141
 z72:=Tryz.sizeOf141
 v72:=Tryz.zeroValue141
 t75:=Tryz.underlying144
 a75:=Tryz.isAgg144
 z75:=Tryz.sizeOf144
 v75:=Tryz.zeroValue144
 t76:=Tryz.underlying145
 a76:=Tryz.isAgg145
 z76:=Tryz.sizeOf145
 v76:=Tryz.zeroValue145
 t127:=Tryz.underlying148
 a127:=Tryz.isAgg148
 z127:=Tryz.sizeOf148
 v127:=Tryz.zeroValue148
 t164:=Tryz.underlying149
 a164:=Tryz.isAgg149
 z164:=Tryz.sizeOf149
 v164:=Tryz.zeroValue149}
theorem Tryz.Builder_Extra_156:Builder.Extra Tryz.prog Tryz.lays156_ren:={
 sizeBuilder:=by kernel_rfl
 liesBuilder:=by kernel_rfl
 t5:=Tryz.underlying5
 a5:=Tryz.isAgg5
 z5:=Tryz.sizeOf5
 v5:=Tryz.zeroValue5
 infoByte:=by kernel_rfl
 cellsByte:=by kernel_rfl
 sizeByte:=by kernel_rfl
 neB5:=by decide}
open Go.RowKit in
theorem Tryz.strings_Join_none (a:Option Addr) (c:Nat) (sep:ByteArray) (w:World):
  Calls Tryz.prog 107 #[.slice a 0 c, .string sep] w fun e w'=>e= .returned (.string ⟨#[]⟩)∧w'=w:=Any.strings_Join_none Tryz.lays156 Tryz.Builder_Extra_156 a c sep w
open Go.RowKit in
theorem Tryz.strings_Join (bk o c:Nat) (xs:List ByteArray) (sep:ByteArray) (w:World) (hcells: ∀(j:Nat) x,xs[j]?=some x→w.cell? ⟨bk,o+j,none⟩=some (.string x)) (hbk:bk<w.heap.size) (hN:xs.length≤140737488355328) (hcap:xs.length≤c) (hlen:(Lib.join (xs.map (·.data.toList)) sep.data.toList).length≤140737488355328):
  Calls Tryz.prog 107 #[.slice (some ⟨bk,o,none⟩) xs.length c, .string sep] w fun e w'=>e= .returned (.string ⟨(Lib.join (xs.map (·.data.toList)) sep.data.toList).toArray⟩)∧Below w.heap.size w w':=Any.strings_Join Tryz.lays156 Tryz.Builder_Extra_156 bk o c xs sep w hcells hbk hN hcap hlen
def Tryz.lays137_ren:Go.Shelf.Ren:=⟨fun|137=>113|217=>117|266=>120|n=>n,fun|9=>9|5=>5|3=>3|n=>n,fun|n=>n⟩
theorem Tryz.lays137:Go.Proofs.Lays.n137 Tryz.prog Tryz.lays137_ren:={
 mixed:=by kernel_rfl
 f137:=Tryz.func113.trans (congrArg some (by kernel_rfl))
 f217:=Tryz.func117.trans (congrArg some (by kernel_rfl))
 f266:=Tryz.func120.trans (congrArg some (by kernel_rfl))
 t3:=Tryz.underlying3
 a3:=Tryz.isAgg3
 z3:=Tryz.sizeOf3
 v3:=Tryz.zeroValue3
 t5:=Tryz.underlying5
 a5:=Tryz.isAgg5
 z5:=Tryz.sizeOf5
 v5:=Tryz.zeroValue5
 t9:=Tryz.underlying9
 a9:=Tryz.isAgg9
 z9:=Tryz.sizeOf9
 v9:=Tryz.zeroValue9}
open Go.RowKit in
theorem Tryz.strings_IndexByte (s:ByteArray) (c:Int) (w:World):
  Calls Tryz.prog 113 #[.string s, .int .u8 c] w fun e w'=>e= .returned (.int .i64 (Lib.indexByte s.data.toList c.toNat.toUInt8))∧w'=w:=Any.strings_IndexByte Tryz.lays137 s c w
open Go.RowKit in
theorem Tryz.Builder_String_f (B b:Nat) (l:List UInt8) (w:World) (h:Lib.IsBuilderF 141 5 B b (Lib.byteCells l) w) (h0:l≠ []):
  Calls Tryz.prog 116 #[.pointer (some ⟨b,0,none⟩)] w fun e w'=>e= .returned (.string ⟨l.toArray⟩)∧(Lib.IsBuilderF 141 5 B b (Lib.byteCells l) w'∧Below B w w'):=Any.Builder_String_f Tryz.lays169 Tryz.Builder_Extra_169 B b l w h h0
open Go.RowKit in
theorem Tryz.Builder_String_empty_f (B b:Nat) (w:World) (h:Lib.IsBuilderF 141 5 B b [] w) (hBw:B≤w.heap.size):
  Calls Tryz.prog 116 #[.pointer (some ⟨b,0,none⟩)] w fun e w'=>e= .returned (.string ⟨#[]⟩)∧(Lib.IsBuilderF 141 5 B b [] w'∧Below B w w'):=Any.Builder_String_empty_f Tryz.lays169 Tryz.Builder_Extra_169 B b w h hBw
open Go.RowKit in
theorem Tryz.Builder_String_any_f (B b:Nat) (l:List UInt8) (w:World) (h:Lib.IsBuilderF 141 5 B b (Lib.byteCells l) w) (hBw:B≤w.heap.size):
  Calls Tryz.prog 116 #[.pointer (some ⟨b,0,none⟩)] w fun e w'=>e= .returned (.string ⟨l.toArray⟩)∧(Lib.IsBuilderF 141 5 B b (Lib.byteCells l) w'∧Below B w w'):=Any.Builder_String_any_f Tryz.lays169 Tryz.Builder_Extra_169 B b l w h hBw
open Go.RowKit in
theorem Tryz.Builder_String_k (B b:Nat) (l:List UInt8) (w:World) (h:Lib.IsBuilderF 141 5 B b (Lib.byteCells l) w) (h0:l≠ []):
  Calls Tryz.prog 116 #[.pointer (some ⟨b,0,none⟩)] w fun e w'=>e= .returned (.string ⟨l.toArray⟩)∧(Lib.IsBuilderF 141 5 B b (Lib.byteCells l) w'∧Below B w w'∧Lib.OthersKept 5 (some b) w w'):=Any.Builder_String_k Tryz.lays169 Tryz.Builder_Extra_169 B b l w h h0
open Go.RowKit in
theorem Tryz.Builder_String_empty_k (B b:Nat) (w:World) (h:Lib.IsBuilderF 141 5 B b [] w) (hBw:B≤w.heap.size):
  Calls Tryz.prog 116 #[.pointer (some ⟨b,0,none⟩)] w fun e w'=>e= .returned (.string ⟨#[]⟩)∧(Lib.IsBuilderF 141 5 B b [] w'∧Below B w w'∧Lib.OthersKept 5 (some b) w w'):=Any.Builder_String_empty_k Tryz.lays169 Tryz.Builder_Extra_169 B b w h hBw
open Go.RowKit in
theorem Tryz.Builder_String_any_k (B b:Nat) (l:List UInt8) (w:World) (h:Lib.IsBuilderF 141 5 B b (Lib.byteCells l) w) (hBw:B≤w.heap.size):
  Calls Tryz.prog 116 #[.pointer (some ⟨b,0,none⟩)] w fun e w'=>e= .returned (.string ⟨l.toArray⟩)∧(Lib.IsBuilderF 141 5 B b (Lib.byteCells l) w'∧Below B w w'∧Lib.OthersKept 5 (some b) w w'):=Any.Builder_String_any_k Tryz.lays169 Tryz.Builder_Extra_169 B b l w h hBw
open Go.RowKit in
theorem Tryz.Builder_grow_fresh_cap (B b n:Nat) (w:World) (hB:B≤b) (hbk:w.heap[b]?=some (.cells #[.pointer (some ⟨b,0,none⟩), .slice none 0 0] 141 (0,0))) (hBw:B≤w.heap.size) (hn:n≤281474976710656):
  Calls Tryz.prog 119 #[.pointer (some ⟨b,0,none⟩), .int .i64 n] w fun e w'=>e= .returned (.tuple #[])∧(Lib.BuilderAt 141 5 B b (.pointer (some ⟨b,0,none⟩)) [] w'∧Below B w w')∧ ∃p cap,w'.cell? ⟨b,1,none⟩=some (.slice p 0 cap)∧n≤cap:=Any.Builder_grow_fresh_cap Tryz.lays241 Tryz.Builder_Extra_241 B b n w hB hbk hBw hn
open Go.RowKit in
theorem Tryz.Builder_Grow_fresh_cap (B b n:Nat) (w:World) (hB:B≤b) (hbk:w.heap[b]?=some (.cells #[.pointer none, .slice none 0 0] 141 (0,0))) (hBw:B≤w.heap.size) (hn:n≤281474976710656):
  Calls Tryz.prog 114 #[.pointer (some ⟨b,0,none⟩), .int .i64 n] w fun e w'=>e= .returned (.tuple #[])∧(Lib.BuilderAt 141 5 B b (.pointer (some ⟨b,0,none⟩)) [] w'∧Below B w w')∧ ∃p cap,w'.cell? ⟨b,1,none⟩=some (.slice p 0 cap)∧n≤cap:=Any.Builder_Grow_fresh_cap Tryz.lays165 Tryz.Builder_Extra_165 B b n w hB hbk hBw hn
def Tryz.lays217_ren:Go.Shelf.Ren:=⟨fun|217=>117|266=>120|n=>n,fun|9=>9|5=>5|3=>3|n=>n,fun|n=>n⟩
theorem Tryz.lays217:Go.Proofs.Lays.n217 Tryz.prog Tryz.lays217_ren:={
 mixed:=by kernel_rfl
 f217:=Tryz.func117.trans (congrArg some (by kernel_rfl))
 f266:=Tryz.func120.trans (congrArg some (by kernel_rfl))
 t3:=Tryz.underlying3
 a3:=Tryz.isAgg3
 z3:=Tryz.sizeOf3
 v3:=Tryz.zeroValue3
 t5:=Tryz.underlying5
 a5:=Tryz.isAgg5
 z5:=Tryz.sizeOf5
 v5:=Tryz.zeroValue5
 t9:=Tryz.underlying9
 a9:=Tryz.isAgg9
 z9:=Tryz.sizeOf9
 v9:=Tryz.zeroValue9}
open Go.RowKit Go.Lib in
theorem Tryz.stringslite_IndexByte (s:ByteArray) (c:Int) (w:World):
  Calls Tryz.prog 117 #[.string s, .int .u8 c] w fun e w'=>e= .returned (.int .i64 (Lib.indexByte s.data.toList c.toNat.toUInt8))∧w'=w:=Any.stringslite_IndexByte Tryz.lays217 s c w
end Go.Proofs
end
section
namespace Go.Proofs.YtfkblfjloegahaaGreat
open Go.RowKit
set_option maxRecDepth 100000
theorem ziT: ∀(l:List UInt8) (c:UInt8), -1≤Lib.indexByte l c∧Lib.indexByte l c<l.length∨Lib.indexByte l c= -1
 | [],_=> .inr rfl
 |b::l,c=>by
  unfold Lib.indexByte
  rcases ziT l c with h|h
  ·split
   ·left;simp
   ·split
    ·exact .inr rfl
    ·left;rw [List.length_cons];omega
  ·rw [h]
   split
   ·left;simp
   ·right;rfl
theorem zs3 {n:Int} (h1: -9223372036854775808≤n) (h2:n≤9223372036854775807):InK .i64 n:=zbr h1 h2
theorem zyv {b:ByteArray} {c:UInt8} (h:b.data.toList= [c]):b=⟨#[c]⟩:=by
 cases b with
 |mk d=>cases d with
  |mk l=>simp at h;rw [h]
def zaU (s:List UInt8) (c:Int):Option Int:=some (Lib.indexByte s c.toNat.toUInt8)
theorem zdX (a0:List UInt8) (a1:Int) (r:Int) (h:zaU a0 a1=some r):Rts Tryz.prog sgs 117 [.str a0, .int .u8 a1] (.int .i64 r):=zqG (by kernel_rfl) fun w vs rf hr=>by
 obtain⟨b,us,rfl,rfl,hb,hr⟩:=zpN hr
 obtain⟨us1,rfl,_,hr⟩:=ztN hr
 obtain⟨rfl,rfl⟩:=zkI hr
 refine(Tryz.stringslite_IndexByte b a1 w).mono ?_
 rintro e w' ⟨rfl,rfl⟩
 cases h
 have hl:b.data.toList.length≤9223372036854775807:=by rw [Array.length_toList];exact hb
 exact⟨Mod.refl [] _,_, [],rfl, .int (by rcases ziT b.data.toList a1.toNat.toUInt8 with h|h<;>exact zs3 (by omega) (by omega)) .nil,by simp⟩
noncomputable def zes (xs:List (List UInt8)) (sep:List UInt8):Option (List UInt8):=req (xs.length≤140737488355328∧(Lib.join xs sep).length≤140737488355328) (some (Lib.join xs sep))
theorem zi8 {w:World}: ∀{cs:List Value} {xs:List (List UInt8)} {f:List Nat},Rd w cs (zan (xs.map zie)) f→ ∃bs:List ByteArray,cs=bs.map Value.string∧bs.map (·.data.toList)=xs
 |cs, [],f,h=>by
  obtain⟨rfl,_⟩:=zkI (by simpa [zan]using h)
  exact⟨[],rfl,rfl⟩
 |cs,x::xs,f,h=>by
  have h':Rd w cs (.str x::zan (xs.map zie)) f:=by simpa [zan]using h
  obtain⟨b,us,rfl,rfl,_,h2⟩:=zpN h'
  obtain⟨bs,rfl,rfl⟩:=zi8 h2
  exact⟨b::bs,rfl,rfl⟩
theorem zlo (a0:List (List UInt8)) (a1:List UInt8) (r:List UInt8) (h:zes a0 a1=some r):Rts Tryz.prog sgs 107 [.sl (a0.map zie), .str a1] (.str r):=zqG (by kernel_rfl) fun w vs rf hr=>by
 obtain⟨⟨hq1,hq2⟩,h⟩:=zoP h
 cases h
 generalize hx:a0.map zie=ys at hr
 cases hr with
 |snil hr=>
  obtain⟨b1,us1,rfl,rfl,_,hr⟩:=zpN hr
  obtain⟨rfl,rfl⟩:=zkI hr
  have:a0= []:=by simpa using hx
  subst this
  refine(Tryz.strings_Join_none _ _ b1 w).mono ?_
  rintro e w' ⟨rfl,rfl⟩
  exact⟨Mod.refl [] _,_, [],rfl, .str (by simp [ByteArray.size]) .nil,by simp⟩
 |scons hb h1 h2 h3 h4 h5 h6 h6' h7 hr=>
  rename_i bk o n c cs C t fz sz f1 vs f
  obtain⟨b1,us1,rfl,rfl,_,hr⟩:=zpN hr
  obtain⟨rfl,rfl⟩:=zkI hr
  subst hx
  obtain⟨bs,rfl,rfl⟩:=zi8 h7
  have hn:n=bs.length:=by simpa using h3.symm
  subst hn
  have hbk:bk<w.heap.size:=zbn hb
  refine(Tryz.strings_Join bk o c bs b1 w (fun j x hx=> ?_) hbk (by simpa using hq1) h2.2 hq2).mono ?_
  ·have:=h6 j (.string x) (by simp [hx])
   rw [zak hb];exact this
  ·rintro e w' ⟨rfl,hbel⟩
   exact⟨.of_below hbel (Nat.le_refl _),_, [],rfl, .str (by simp [ByteArray.size];omega) .nil,by simp⟩
end Go.Proofs.YtfkblfjloegahaaGreat
end
section
namespace Go.Proofs.YtfkblfjloegahaaGreat
open Go.RowKit
theorem zsD {P:Program} (w:World) (dT sT ty elem:TypeId) (k:Nat) (g o dLen dCap:Nat) (a:Addr) (sLen sCap:Nat) (cur:Array Value) (t:TypeId) (cs:List Value)
  (hu:P.underlying dT=some (.slice elem)) (hs:(P.info? elem).map (·.size)=some k)
  (hg:w.heap[g]?=some (.cells cur t (0,0))) (hn:cs.length=Nat.min sLen dLen*k)
  (hsrc: ∀j v,cs[j]?=some v→w.cell? (a.add j)=some v) (hfit:o+cs.length≤cur.size) (h1: ∀v∈cs,v.oneCell'=true):
  (Builtin.copy_ #[dT,sT] ty #[.slice (some ⟨g,o,none⟩) dLen dCap, .slice (some a) sLen sCap]).run P w=
   .ok (goInt (Nat.min sLen dLen)) (w.setRow g (cur.toList.take o++cs++cur.toList.drop (o+cs.length)).toArray):=by
 have hl:=run_loadCells_list (P:=P) w a cs hsrc
 have hst:=run_storeCells_at P g o t cs 0 cur w hg (by simpa using hfit) h1
 cases hq:P.info? elem with
 |none=>simp [hq]at hs
 |some i=>
  have hi:i.size=k:=by simpa [hq]using hs
  rw [hn]at hl
  simp [Builtin.copy_,run_underlying hu,Builtin.lenOf,Builtin.firstCells,sizeOf,typeInfo,hq,hi,hl,hst]
theorem ztb {P:Program} (w:World) {ops:Array Oper} {rest:List Oper} {o:Oper} {a:Act} {Q:Exit→Act→World→Prop} (hgd:o.guard=none) (d s:Operand) (t t':TypeId)
  (ho:o.op= .call {callee:= .builtin .copy,args:= #[d,s],argTypes:= #[t,t']}) (v u:Value) (hd:a.eval d=v) (hs:a.eval s=u) {v':Value} {w':World}
  (hr:(Builtin.copy_ #[t,t'] o.type #[v,u]).run P w= .ok v' w') (h:wpList P ops Q rest (a.put o.dst v') w'):wpList P ops Q (o::rest) a w:=
 wpList_plain hgd fun _ hK=>by
  unfold Oper.wp execOp
  simp only [ho,resolve,invoke,builtin,Sem.run_bind,Sem.run_pure,Result.andThen_ok,List.map_toArray,List.map_cons,List.map_nil,hd,hs,hr]
  exact hK _ _ h
theorem zu4 {P:Program} {ops:Array Oper} {o:Oper} {a:Act} {w:World} {K:Act→World→Prop} {Q:Exit→Act→World→Prop} {E:Prop}
  (hg:o.guard=none) (d x:Operand) (dT sT:TypeId) (hop:o.op=Op.call {callee:=Callee.builtin Builtin.copy,args:= #[d,x],argTypes:= #[dT,sT]})
  (v u:Value) (hd:a.eval d=v) (hx:a.eval x=u) {v':Value} {w':World} (hr:(Builtin.copy_ #[dT,sT] o.type #[v,u]).run P w= .ok v' w') (hK:K (a.put o.dst v') w'):
  if Region.wanted o (yielded ops a.tmps)=true then Oper.wp P o a w K Q else E:=by
 have hw:Region.wanted o (yielded ops a.tmps)=true:=by simp [Region.wanted,hg]
 rw [if_pos hw]
 unfold Oper.wp
 simp [execOp,hop,resolve,invoke,builtin,hd,hx,hr,Result.andThen]
 exact hK
def zsu (w:World) (el:TypeId) (k:Nat) (g cap:Nat) (C:Array Value) (n:Nat) (cs:List Value):Prop:=
 n≤cap∧cap≤maxLen∧w.heap[g]?=some (.cells C el (0,0))∧C.size=cap*k∧cs=C.toList.take (n*k)
def zyz (w w':World) (el:TypeId) (k:Nat) (own:List Nat) (v:Value) (n:Nat) (cs:List Value):Prop:=
 ∃g cap C,v= .slice (some ⟨g,0,none⟩) n cap∧zsu w' el k g cap C n cs∧Mod own w w'∧(g∈own∨w.heap.size≤g)
def zvZ (P:Program) (f:Nat) (el:TypeId) (k:Nat):Prop:=
 ∀(w:World) (v:Value) (n i:Nat) (cs:List Value) (own:List Nat) (vb vc m:Nat) (VC:Array Value) (vs:List Value),cs.length=n*k→
  ((n=0∧ ∃q,v= .slice q 0 0)∨ ∃g cap C,v= .slice (some ⟨g,0,none⟩) n cap∧zsu w el k g cap C n cs∧g∈own)→i≤n→zsu w el k vb vc VC m vs→(∀g∈own,vb≠g)→0<m→(n+m)*1000≤140737488355328→
  (∀u∈vs,u.oneCell'=true)→(∀u∈cs,u.oneCell'=true)→
  Calls P f #[v, .int .i64 i, .slice (some ⟨vb,0,none⟩) m vc] w fun e w'=> ∃u,e= .returned u∧zyz w w' el k own u (n+m) (cs.take (i*k)++vs++cs.drop (i*k))
theorem zsu.cell {w:World} {el:TypeId} {k g cap:Nat} {C:Array Value} {n:Nat} {cs:List Value} (h:zsu w el k g cap C n cs) (off:Nat) (j:Nat) (v:Value) (hj:(cs.drop off)[j]?=some v):w.cell? ((⟨g,off,none⟩:Addr).add j)=some v:=by
 obtain⟨_,_,h3,_,h5⟩:=h
 rw [Addr.add_lit,zak h3]
 rw [List.getElem?_drop,h5,List.getElem?_take]at hj
 split at hj
 ·simpa using hj
 ·cases hj
theorem zsu.len {w:World} {el:TypeId} {k g cap:Nat} {C:Array Value} {n:Nat} {cs:List Value} (h:zsu w el k g cap C n cs):cs.length=n*k:=by
 obtain⟨h1,_,_,h4,h5⟩:=h
 have:=Nat.mul_le_mul_right k h1
 rw [h5,List.length_take,Array.length_toList];omega
theorem zyy {α:Type} (cur cs vs:List α) (i m n:Nat) (hc:cs=cur.take n) (hi:i≤n) (hv:vs.length=m) (hn:n+m≤cur.length):
  let c1:=cur.take (i+m)++cs.drop i++cur.drop (i+m+(cs.drop i).length)
  (c1.take i++vs++c1.drop (i+vs.length)).take (n+m)=cs.take i++vs++cs.drop i:=by
 have hcl:cs.length=n:=by rw [hc,List.length_take];omega
 have hd:(cs.drop i).length=n-i:=by rw [List.length_drop,hcl]
 intro c1
 have e1:c1.take i=cs.take i:=by
  show(cur.take (i+m)++cs.drop i++_).take i=_
  rw [List.append_assoc,List.take_append_of_le_length (by rw [List.length_take];omega),List.take_take,hc,List.take_take]
  congr 1;omega
 have e2:c1.drop (i+vs.length)=cs.drop i++cur.drop (i+m+(cs.drop i).length):=by
  show(cur.take (i+m)++cs.drop i++_).drop _=_
  rw [List.append_assoc,List.drop_append_of_le_length (by rw [List.length_take,hv];omega),List.drop_eq_nil_of_le (by rw [List.length_take,hv];omega),List.nil_append]
 rw [e1,e2]
 have l1:(cs.take i++vs++cs.drop i).length=n+m:=by
  simp only [List.length_append,List.length_take,hv,hd,hcl];omega
 rw [←List.append_assoc,←l1,List.take_left]
theorem two {α:Type} (zs cs vs:List α) (i m n:Nat) (cur:List α) (hcur:cur=cs.take i++zs) (hcl:cs.length=n) (hi:i≤n) (hv:vs.length=m) (hz:n+m-i≤zs.length):
  let c1:=cur.take i++vs++cur.drop (i+vs.length)
  (c1.take (i+m)++cs.drop i++c1.drop (i+m+(cs.drop i).length)).take (n+m)=cs.take i++vs++cs.drop i:=by
 have ht:(cs.take i).length=i:=by rw [List.length_take];omega
 intro c1
 have e1:c1=cs.take i++vs++cur.drop (i+vs.length):=by
  show cur.take i++vs++cur.drop (i+vs.length)=_
  rw [hcur]
  congr 2
  rw [List.take_append_of_le_length (by omega),List.take_take,Nat.min_self]
 have e2:c1.take (i+m)=cs.take i++vs:=by
  have l2:(cs.take i++vs).length=i+m:=by rw [List.length_append,ht,hv]
  rw [e1,←l2,List.take_left]
 rw [e2]
 have l1:(cs.take i++vs++cs.drop i).length=n+m:=by
  simp only [List.length_append,ht,hv,List.length_drop,hcl];omega
 rw [←l1,List.take_left]
end Go.Proofs.YtfkblfjloegahaaGreat
end
section
namespace Go.Proofs.YtfkblfjloegahaaGreat
open Go.RowKit
theorem zkn (xs ys:List AV):zan (xs++ys)=zan xs++zan ys:=by simp [zan]
theorem zqf {K:Nat} {xs:List AV} (h: ∀y∈xs,y.cells.length=K) {i:Nat} (hi:i≤xs.length):zan (xs.take i)=(zan xs).take (i*K)∧zan (xs.drop i)=(zan xs).drop (i*K):=by
 have l1:(zan (xs.take i)).length=i*K:=by rw [zeC _ fun y hy=>h y (List.mem_of_mem_take hy),List.length_take,Nat.min_eq_left hi]
 have e:zan xs=zan (xs.take i)++zan (xs.drop i):=by rw [←zkn,List.take_append_drop]
 rw [e,←l1,List.take_left,List.drop_left]
 exact⟨rfl,rfl⟩
theorem zbI.rowC {w:World} {el K:Nat} {v:Value} {x:AV} {top:List Nat} (h:zbI w el K v x top []): ∃xs cs,x= .sl xs∧0<K∧(∀y∈xs,y.cells.length=K)∧cs.length=xs.length*K∧Rd w cs (zan xs) []∧(∀u∈cs,u.oneCell'=true)∧
  ((xs= []∧top= []∧ ∃q,v= .slice q 0 0)∨ ∃g cap C,v= .slice (some ⟨g,0,none⟩) xs.length cap∧zsu w el K g cap C xs.length cs∧top= [g]):=by
 obtain⟨xs,rfl,h2,h3,⟨rfl,⟨a,hv⟩,rfl,_⟩|⟨g,cap,C,rfl,h6,h7,h8,h9,rfl,h10,h11⟩⟩:=h
 ·exact⟨[], [],rfl,h3,h2,by simp,by simpa [zan]using Rd.nil,by simp, .inl ⟨rfl,rfl,a,hv⟩⟩
 ·exact⟨xs,_,rfl,h3,h2,(zsu.len ⟨h6,h7,h8,h9,rfl⟩),h11,h10, .inr ⟨g,cap,C,rfl,⟨h6,h7,h8,h9,rfl⟩,rfl⟩⟩
theorem znZ {P:Program} {w:World} {t el:TypeId} {v:Value} {x:AV} {rf hs:List Nat} (ha:zaw P t=false) (hl:zam P t= [t]) (he:zcR P t=some el) (hf:zdO P el=true) (h:zoH P w t [true] v x rf hs):rf= []∧zbI w el (P.cellsOf el) v x hs []:=by
 obtain⟨us,ys,h1,h2⟩:=h
 rw [ha]at h1
 simp only [Bool.false_eq_true,if_false]at h1
 obtain⟨rfl,rfl⟩:=h1
 rw [hl]at h2
 cases h2 with
 |own q1 q2 q3 q4 q5=>
  cases q5
  rw [he]at q2;cases q2
  exact⟨rfl,by simpa using q4⟩
 |deep q1 q2 q3=>
  rw [he]at q2;cases q2
  rw [hf]at q3;cases q3
 |rd q1=>
  have:=q1 rfl
  rw [he]at this;cases this
def zxA (P:Program) (sg:SgT) (f:Nat) (t it el K:Nat):Bool:=
 match P.funcs[f]?,sg f with
 |some fn,some s=>(match s.modes,s.res,s.ft with
  | [.va [true], .ro, .va [true]], [true], []=>true
  |_,_,_=>false)&&fn.body.isSome&& !(fn.name== "runtime.NumGoroutine")&&fn.params.toList== [t,it,t]&&fn.resultTypes.toList== [t]&&fn.nfree==0&& !zaw P t&&zam P t== [t]&&zcR P t==some el&&zdO P el&&P.cellsOf el==K&&zh5 P t [true]&&fn.params.size==3
 |_,_=>false
def zuW (P:Program) (sg:SgT) (f:Nat) (r:List AV):Bool:=match P.funcs[f]?,sg f with
 |some fn,some s=>zhm P fn s (.sl r)
 |_,_=>false
theorem zuZ {f t it el K:Nat} (hk:zxA Tryz.prog sgs f t it el K=true) (hfl: ∀r,zuW Tryz.prog sgs f r=true) (hins:zvZ Tryz.prog f el K) (xs ys:List AV) (i:Int) (h0:0≤i) (h1:i≤xs.length) (hy:ys≠ []) (hb:(xs.length+ys.length)*1000≤140737488355328):
  Rts Tryz.prog sgs f [.sl xs, .int .i64 i, .sl ys] (.sl (xs.take i.toNat++ys++xs.drop i.toNat)):=by
 unfold zxA at hk
 split at hk
 ·rename_i fn s hf hs
  simp only [Bool.and_eq_true,Bool.not_eq_true',beq_iff_eq]at hk
  obtain⟨⟨⟨⟨⟨⟨⟨⟨⟨⟨⟨⟨g1,g2⟩,g3⟩,g4⟩,g5⟩,g6⟩,g7⟩,g8⟩,g9⟩,g10⟩,g11⟩,g12⟩,g13⟩:=hk
  obtain⟨hm,hr,hft⟩:s.modes= [.va [true], .ro, .va [true]]∧s.res= [true]∧s.ft= []:=by
   split at g1
   ·rename_i a b c;exact⟨a,b,c⟩
   ·cases g1
  unfold Rts
  rw [if_pos (zn3 f s hs)]
  refine⟨s,hs,fn,hf,g2,g3,by have:=hfl (xs.take i.toNat++ys++xs.drop i.toNat);unfold zuW at this;rw [hf,hs]at this;exact this,by simp [g6,g13],by simp [hft],fun w vs rf hs' hargs hd hnd=> ?_⟩
  rw [g4,hft,List.append_nil,hm]at hargs
  cases hargs with
  | @cons _ _ _ v1 vs1 _ _ f1 k1 rf1 hs1 a1 hargs=>
   cases hargs with
   | @cons _ _ _ v2 vs2 _ _ f2 k2 rf2 hs2 a2 hargs=>
    cases hargs with
    | @cons _ _ _ v3 vs3 _ _ f3 k3 rf3 hs3 a3 hargs=>
     cases hargs
     obtain⟨rfl,r1⟩:=znZ g7 g8 g9 g10 a1
     obtain⟨rfl,r3⟩:=znZ g7 g8 g9 g10 a3
     obtain⟨a2,rfl⟩:Rd w [v2] [AV.int .i64 i] f2∧k2= []:=a2
     obtain⟨us,rfl2,hI,a2⟩:=ztN a2
     obtain⟨rfl,rfl⟩:=zkI a2
     cases rfl2
     obtain⟨xs',cs,e1,p0,p1,p2,p3,p4,p5⟩:=r1.rowC
     cases e1
     obtain⟨ys',cv,e2,_,q1,q2,q3,q4,q5⟩:=r3.rowC
     cases e2
     rw [g11]at p0 p1 p2 p5 q1 q2 q5
     obtain⟨vb,vc,VC,rfl,hv,rfl⟩: ∃g cap C,v3= .slice (some ⟨g,0,none⟩) ys.length cap∧zsu w el K g cap C ys.length cv∧k3= [g]:=by
      rcases q5 with⟨h,_⟩|h
      ·exact absurd h hy
      ·exact h
     have hnd':k1++ [vb]=k1++([]++([vb]++ [])):=by simp
     have hap: ∀g∈k1,vb≠g:=by
      intro g hg e
      subst e
      have:=(List.nodup_append.1 hnd).2.2 vb hg vb (by simp)
      exact this rfl
     have hym:0<ys.length:=by cases ys with|nil=>exact absurd rfl hy|cons=>simp
     have hc:=hins w v1 xs.length i.toNat cs k1 vb vc ys.length VC cv p2 (by
      rcases p5 with⟨rfl,_,q,rfl⟩|⟨g,cap,C,rfl,h,rfl⟩
      ·exact .inl ⟨rfl,q,rfl⟩
      ·exact .inr ⟨g,cap,C,rfl,h,by simp⟩) (by omega) hv hap hym hb q4 p4
     rw [show((i.toNat:Nat):Int)=i by omega]at hc
     refine hc.mono ?_
     rintro e w' ⟨u,rfl,g,cap,C,rfl,⟨z1,z2,z3,z4,z5⟩,hmod,hgo⟩
     have hfr: ∀{us:List Value} {zs:List AV},Rd w us zs []→Rd w' us zs []:=fun h=>h.frame (by simp)
     have cut: ∀o n,Rd w ((cs.drop o).take n) (((zan xs).drop o).take n) []:=fun o n=>by
      obtain⟨gg,k1,k2⟩:=p3.piece o n
      have:gg= []:=List.eq_nil_iff_forall_not_mem.2 fun b hb=>by simpa using k1 b hb
      rw [this]at k2;exact k2
     obtain⟨t1,t2⟩:=zqf p1 (i:=i.toNat) (by omega)
     have hmul:=Nat.mul_le_mul_right K (show i.toNat≤xs.length by omega)
     have hrd:Rd w' (cs.take (i.toNat*K)++cv++cs.drop (i.toNat*K)) (zan (xs.take i.toNat++ys++xs.drop i.toNat)) []:=by
      rw [zkn,zkn,t1,t2]
      have c1:=cut 0 (i.toNat*K)
      have c2:=cut (i.toNat*K) (cs.length-i.toNat*K)
      rw [List.drop_zero,List.drop_zero]at c1
      rw [List.take_of_length_le (by simp),List.take_of_length_le (by rw [List.length_drop,zeC _ p1,p2];exact Nat.le_refl _)]at c2
      exact(((hfr c1).app (hfr q3)).app (hfr c2))
     have hlen:(xs.take i.toNat++ys++xs.drop i.toNat).length=xs.length+ys.length:=by
      simp only [List.length_append,List.length_take,List.length_drop];omega
     have hown:zbI w' el K (.slice (some ⟨g,0,none⟩) (xs.length+ys.length) cap) (.sl (xs.take i.toNat++ys++xs.drop i.toNat)) [g] []:=by
      refine⟨_,rfl,fun y hy=> ?_,p0, .inr ⟨g,cap,C,by rw [hlen],by rw [hlen];exact z1,z2,z3,z4,rfl, ?_, ?_⟩⟩
      ·rcases List.mem_append.1 hy with hy|hy
       ·rcases List.mem_append.1 hy with hy|hy
        ·exact p1 y (List.mem_of_mem_take hy)
        ·exact q1 y hy
       ·exact p1 y (List.mem_of_mem_drop hy)
      ·rw [hlen,←z5]
       intro u hu
       rcases List.mem_append.1 hu with hu|hu
       ·rcases List.mem_append.1 hu with hu|hu
        ·exact p4 u (List.mem_of_mem_take hu)
        ·exact q4 u hu
       ·exact p4 u (List.mem_of_mem_drop hu)
      ·rw [hlen,←z5];exact hrd
     refine⟨_,rfl,⟨⟨_, [], [], [g], [], [],rfl, ?_, ?_,by simp, ?_,by simp⟩,hmod.weaken fun b hb=> .inl (by simp [hb])⟩⟩
     ·rw [g5]
      show zm2 Tryz.prog w' t s.res _ _ [] [g]
      unfold zm2
      rw [hr,if_pos g12]
      refine⟨[.slice (some ⟨g,0,none⟩) (xs.length+ys.length) cap], [.sl (xs.take i.toNat++ys++xs.drop i.toNat)],by rw [g7];simp, ?_⟩
      rw [g8]
      have:=za8.own (P:=Tryz.prog) (t:=t) (ts:= []) (fl:= [true]) (us:= []) (ys:= []) (rf:= []) (hs:= []) rfl g9 (.inl g10) (by rw [g11];exact hown) .nil
      simpa using this
     ·rw [g4,hft,List.append_nil,hm]
      exact .va rfl (.ro rfl (.va rfl .nil))
     ·intro b hb
      simp only [List.append_nil,List.mem_singleton]at hb
      subst hb
      exact⟨by rcases hgo with h|h;exact .inl (by simp [h]);exact .inr h,zbn z3⟩
 ·cases hk
noncomputable def ztd {α:Type} (xs:List α) (i:Int) (ys:List α):Option (List α):=req (0≤i∧i≤xs.length∧0<ys.length∧(xs.length+ys.length)*1000≤140737488355328) (some (xs.take i.toNat++ys++xs.drop i.toNat))
theorem zxJ {f t it el K:Nat} (hk:zxA Tryz.prog sgs f t it el K=true) (hfl: ∀r,zuW Tryz.prog sgs f r=true) (hins:zvZ Tryz.prog f el K) {α:Type} {av:α→AV} {xs ys r:List α} {i:Int} (h:ztd xs i ys=some r):
  Rts Tryz.prog sgs f [.sl (xs.map av), .int .i64 i, .sl (ys.map av)] (.sl (r.map av)):=by
 obtain⟨⟨h0,h1,h2,h3⟩,h⟩:=zoP h
 cases h
 have:=zuZ hk hfl hins (xs.map av) (ys.map av) i h0 (by simpa using h1) (by cases ys with|nil=>simp at h2|cons=>simp) (by simpa using h3)
 simpa [List.map_append,List.map_take,List.map_drop]using this
end Go.Proofs.YtfkblfjloegahaaGreat
end
section
namespace Go.Proofs.YtfkblfjloegahaaGreat
open Go.RowKit
set_option maxRecDepth 100000
end Go.Proofs.YtfkblfjloegahaaGreat
end
section
namespace Go.Proofs.YtfkblfjloegahaaGreat
open Go.RowKit
set_option maxRecDepth 100000
noncomputable def zas (a0:List (List UInt8)) (v1:Int) (v2:Int):Option ((Int × Int) ⊕ Option (Int)):=
 if(decide (v2<(a0.length:Int)))then
  (zbD a0 v2).bind fun y3=>
  if(decide ((IntKind.i64.wrap (v1-(y3.length:Int)))<0))then
   some (.inr (some (-1)))
  else
   some (.inl ((IntKind.i64.wrap (v1-(y3.length:Int))),(IntKind.i64.wrap (v2+1))))
 else
  some (.inr (some v1))
noncomputable def zbx (a0:List (List UInt8)) (a1:Int):Option (Int):=
 if(decide ((IntKind.i64.wrap (a1-(a0.length:Int)))<0))then
  some (-1)
 else
  zay (fun s:Int × Int=>zas a0 s.1 s.2) ((IntKind.i64.wrap (a1-(a0.length:Int))),0)
noncomputable def zdq (a0:zbg) (a1:Int):Option (Int):=
 if(decide ((IntKind.i64.wrap (a1-(a0.fName.length:Int)))<0))then
  some (-1)
 else
  some (IntKind.i64.wrap (a1-(a0.fName.length:Int)))
noncomputable def zav (a0:List zbg) (v1:Int) (v2:Int):Option ((Int × Int) ⊕ Option (Int)):=
 if(decide (v2<(a0.length:Int)))then
  (zbD a0 v2).bind fun y3=>
  (zdq y3 v1).bind fun v4=>
  if(decide (v4<0))then
   some (.inr (some (-1)))
  else
   some (.inl (v4,(IntKind.i64.wrap (v2+1))))
 else
  some (.inr (some v1))
noncomputable def zcY (a0:List zbg) (a1:Int):Option (Int):=
 if(decide ((IntKind.i64.wrap (a1-(a0.length:Int)))<0))then
  some (-1)
 else
  zay (fun s:Int × Int=>zav a0 s.1 s.2) ((IntKind.i64.wrap (a1-(a0.length:Int))),0)
noncomputable def zcG (a0:zaa) (a1:Int):Option (Int):=
 if(decide ((IntKind.i64.wrap (a1-(a0.fName.length:Int)))<0))then
  some (-1)
 else
  (zbx a0.fCols (IntKind.i64.wrap (a1-(a0.fName.length:Int)))).bind fun v1=>
  if(decide (v1<0))then
   some (-1)
  else
   (zcY a0.fIdxs v1).bind fun v2=>
   if(decide (v2<0))then
    some (-1)
   else
    some v2
noncomputable def zbw (a0:List zaa) (v1:Int) (v2:Int):Option ((Int × Int) ⊕ Option (Int)):=
 if(decide (v2<(a0.length:Int)))then
  (zbD a0 v2).bind fun y3=>
  (zcG y3 v1).bind fun v4=>
  if(decide (v4<0))then
   some (.inr (some (-1)))
  else
   some (.inl (v4,(IntKind.i64.wrap (v2+1))))
 else
  some (.inr (some v1))
noncomputable def zdE (a0:List zaa) (a1:Int):Option (Int):=
 if(decide ((IntKind.i64.wrap (a1-(a0.length:Int)))<0))then
  some (-1)
 else
  zay (fun s:Int × Int=>zbw a0 s.1 s.2) ((IntKind.i64.wrap (a1-(a0.length:Int))),0)
noncomputable def zds (a0:zd5) (a1:Int):Option (Int):=
 (zbx a0.fVals a1).bind fun v1=>
 if(decide (v1<0))then
  some (-1)
 else
  some v1
noncomputable def zdH (a0:zal) (a1:Int):Option (Int):=
 (zds a0.fOld a1).bind fun v1=>
 if(decide (v1<0))then
  some (-1)
 else
  (zds a0.fNew v1).bind fun v2=>
  if(decide (v2<0))then
   some (-1)
  else
   some v2
noncomputable def zdb (a0:zaJ) (a1:Int):Option (Int):=
 (zdH a0.fAct a1).bind fun v1=>
 if(decide (v1<0))then
  some (-1)
 else
  (zds a0.fRow v1).bind fun v2=>
  if(decide (v2<0))then
   some (-1)
  else
   some v2
noncomputable def zaI (a0:List (List UInt8)) (v1:Int) (v2:List (List UInt8)):Option ((Int × List (List UInt8)) ⊕ Option (List (List UInt8))):=
 if(decide (v1<(a0.length:Int)))then
  (zbD a0 v1).bind fun y3=>
  (zbD v2 v1).bind fun y4=>
  some (.inl ((IntKind.i64.wrap (v1+1)),(v2.set (v1).toNat y3)))
 else
  some (.inr (some v2))
noncomputable def zbA (a0:List (List UInt8)):Option (List (List UInt8)):=
 req (0≤(a0.length:Int)∧(a0.length:Int)*16≤140737488355328∧(a0.length:Int)≤140737488355328)<|
 zay (fun s:Int × List (List UInt8)=>zaI a0 s.1 s.2) (0,(List.replicate ((a0.length:Int)).toNat ([]:List UInt8)))
noncomputable def zfe (a0:zbg):Option (zbg):=
 some a0
noncomputable def za7 (a0:List zbg) (v1:Int) (v2:List zbg):Option ((Int × List zbg) ⊕ Option (List zbg)):=
 if(decide (v1<(a0.length:Int)))then
  (zbD a0 v1).bind fun y3=>
  (zfe y3).bind fun v4=>
  (zbD v2 v1).bind fun y5=>
  some (.inl ((IntKind.i64.wrap (v1+1)),(v2.set (v1).toNat v4)))
 else
  some (.inr (some v2))
noncomputable def zcZ (a0:List zbg):Option (List zbg):=
 req (0≤(a0.length:Int)∧(a0.length:Int)*32≤140737488355328∧(a0.length:Int)≤140737488355328)<|
 zay (fun s:Int × List zbg=>za7 a0 s.1 s.2) (0,(List.replicate ((a0.length:Int)).toNat (⟨([]:List UInt8),0,0⟩:zbg)))
noncomputable def zcC (a0:zaa):Option (zaa):=
 (zbA a0.fCols).bind fun v1=>
 (zcZ a0.fIdxs).bind fun v2=>
 some (⟨a0.fName,v1,v2⟩:zaa)
noncomputable def zb2 (a0:List zaa) (v1:Int) (v2:List zaa):Option ((Int × List zaa) ⊕ Option (List zaa)):=
 if(decide (v1<(a0.length:Int)))then
  (zbD a0 v1).bind fun y3=>
  (zcC y3).bind fun v4=>
  (zbD v2 v1).bind fun y5=>
  some (.inl ((IntKind.i64.wrap (v1+1)),(v2.set (v1).toNat v4)))
 else
  some (.inr (some v2))
noncomputable def zbT (a0:List zaa):Option (List zaa):=
 req (0≤(a0.length:Int)∧(a0.length:Int)*64≤140737488355328∧(a0.length:Int)≤140737488355328)<|
 zay (fun s:Int × List zaa=>zb2 a0 s.1 s.2) (0,(List.replicate ((a0.length:Int)).toNat (⟨([]:List UInt8), [], []⟩:zaa)))
noncomputable def zdr (a0:zd5):Option (zd5):=
 (zbA a0.fVals).bind fun v1=>
 some (⟨v1⟩:zd5)
noncomputable def zdB (a0:zal):Option (zal):=
 (zdr a0.fOld).bind fun v1=>
 (zdr a0.fNew).bind fun v2=>
 some (⟨a0.fKind,v1,v2⟩:zal)
noncomputable def zbz (a0:zaJ):Option (zaJ):=
 (zdB a0.fAct).bind fun v1=>
 (zdr a0.fRow).bind fun v2=>
 some (⟨a0.fVer,a0.fFill,v1,v2⟩:zaJ)
noncomputable def zc4 (a0:List UInt8) (a1:Int):Option (Bool):=
 some ((decide ((a0.length:Int)≥1))&&(decide ((a0.length:Int)≤a1)))
noncomputable def zc3 (a0:List UInt8) (a1:Int) (v1:Int):Option ((Int) ⊕ Option (Bool)):=
 if(decide (v1<(a0.length:Int)))then
  (zbD a0 v1).bind fun y2=>
  if((decide ((y2.toNat:Int)<97))||(decide ((y2.toNat:Int)>122)))then
   some (.inr (some false))
  else
   some (.inl (IntKind.i64.wrap (v1+1)))
 else
  some (.inr (zc4 a0 a1))
noncomputable def zbK (a0:List UInt8) (a1:Int):Option (Bool):=
 zay (fun s:Int=>zc3 a0 a1 s) 0
noncomputable def ze3 (a0:List (List UInt8)) (a1:List UInt8) (v1:Int):Option ((Int) ⊕ Option (Int)):=
 if(decide (v1<(a0.length:Int)))then
  (zbD a0 v1).bind fun y2=>
  if(y2==a1)then
   some (.inr (some v1))
  else
   some (.inl (IntKind.i64.wrap (v1+1)))
 else
  some (.inr (some (-1)))
noncomputable def zfg (a0:List (List UInt8)) (a1:List UInt8):Option (Int):=
 zay (fun s:Int=>ze3 a0 a1 s) 0
noncomputable def zcS (a0:Int) (a1:Int) (a2:Int):Option (Bool):=
 some ((decide (a0≥a1))&&(decide (a0≤a2)))
noncomputable def zd8 (a0:List (List UInt8)):Option (Bool):=
 (zcS (a0.length:Int) 2 4).bind fun v1=>
 some v1
noncomputable def zd9 (a0:List (List UInt8)) (v2:Int):Option ((Int) ⊕ Option (Bool)):=
 if(decide (v2<(a0.length:Int)))then
  (zbD a0 v2).bind fun y3=>
  (zbK y3 3).bind fun v4=>
  if v4 then
   req (0≤(0:Int)∧(0:Int)≤v2∧v2≤(a0.length:Int))<|
   (zfg (zm9 a0 0 v2) y3).bind fun v5=>
   if(decide (v5≥0))then
    some (.inr (some false))
   else
    some (.inl (IntKind.i64.wrap (v2+1)))
  else
   some (.inr (some false))
 else
  some (.inr (zd8 a0))
noncomputable def zep (a0:List (List UInt8)):Option (Bool):=
 zay (fun s:Int=>zd9 a0 s) 0
noncomputable def zcq (a0:zaa) (v3:Int):Option ((Int) ⊕ Option (Bool)):=
 if(decide (v3<(a0.fIdxs.length:Int)))then
  (zbD a0.fIdxs v3).bind fun y4=>
  (zbK y4.fName 1).bind fun v5=>
  if v5 then
   (zcS y4.fCol 1 (IntKind.i64.wrap ((a0.fCols.length:Int)-1))).bind fun v6=>
   if v6 then
    (zcS y4.fStage 0 3).bind fun v7=>
    if(decide (v3>0))then
     if v7 then
      (zbD a0.fIdxs (IntKind.i64.wrap (v3-1))).bind fun y8=>
      if(!Op.bytesLess y8.fName y4.fName)then
       some (.inr (some false))
      else
       some (.inl (IntKind.i64.wrap (v3+1)))
     else
      some (.inr (some false))
    else
     if((!v7)||false)then
      some (.inr (some false))
     else
      some (.inl (IntKind.i64.wrap (v3+1)))
   else
    some (.inr (some false))
  else
   some (.inr (some false))
 else
  some (.inr (some true))
noncomputable def zbB (a0:zaa):Option (Bool):=
 (zbK a0.fName 1).bind fun v1=>
 if v1 then
  (zep a0.fCols).bind fun v2=>
  if((!v2)||(decide ((a0.fIdxs.length:Int)>3)))then
   some false
  else
   zay (fun s:Int=>zcq a0 s) 0
 else
  some false
noncomputable def zeE (a0:zaa) (a1:List UInt8) (v1:Int):Option ((Int) ⊕ Option (Int)):=
 if(decide (v1<(a0.fIdxs.length:Int)))then
  (zbD a0.fIdxs v1).bind fun y2=>
  if(y2.fName==a1)then
   some (.inr (some v1))
  else
   some (.inl (IntKind.i64.wrap (v1+1)))
 else
  some (.inr (some (-1)))
noncomputable def zcu (a0:zaa) (a1:List UInt8):Option (Int):=
 zay (fun s:Int=>zeE a0 a1 s) 0
noncomputable def zex (a0:zaa) (a1:List UInt8):Option (zbg × Bool):=
 (zcu a0 a1).bind fun v1=>
 (zbB a0).bind fun v2=>
 if((!v2)||(decide (v1<0)))then
  some ((⟨([]:List UInt8),0,0⟩:zbg),false)
 else
  (zbD a0.fIdxs v1).bind fun y3=>
  some (y3,true)
noncomputable def zch (a0:zaa) (a1:List UInt8) (a2:Int):Option (Bool):=
 (zbB a0).bind fun v1=>
 if v1 then
  (zcu a0 a1).bind fun v2=>
  if(decide (v2≥0))then
   (zcS a2 0 3).bind fun v3=>
   some v3
  else
   some false
 else
  some false
noncomputable def zdP (a0:zaa):Option (zaa):=
 req (((([]:List (List UInt8)).length:Int)+((a0.fCols).length:Int))*16≤140737488355328∧(([]:List (List UInt8)).length:Int)+((a0.fCols).length:Int)≤140737488355328)<|
 req (((([]:List zbg).length:Int)+((a0.fIdxs).length:Int))*32≤140737488355328∧(([]:List zbg).length:Int)+((a0.fIdxs).length:Int)≤140737488355328)<|
 some a0
noncomputable def zdL (a0:zaa) (a1:List UInt8) (a2:Int):Option (zaa):=
 (zdP a0).bind fun v1=>
 (zcu a0 a1).bind fun v2=>
 (zbD v1.fIdxs v2).bind fun y3=>
 some (⟨v1.fName,v1.fCols,(v1.fIdxs.set (v2).toNat {y3 with fStage:=a2})⟩:zaa)
noncomputable def zcB (a0:zaa) (a1:List UInt8) (a2:Int) (v4:Int) (v5:List zaa):Option ((Int × List zaa) ⊕ Option (List zaa)):=
 if(v4 !=a2)then
  if(decide (v4<a2))then
   (zdL a0 a1 (IntKind.i64.wrap (v4+1))).bind fun v6=>
   req ((((v5).length:Int)+(([v6]:List zaa).length:Int))*64≤140737488355328∧((v5).length:Int)+(([v6]:List zaa).length:Int)≤140737488355328)<|
   some (.inl ((IntKind.i64.wrap (v4+1)),(v5++ [v6])))
  else
   (zdL a0 a1 (IntKind.i64.wrap (v4-1))).bind fun v7=>
   req ((((v5).length:Int)+(([v7]:List zaa).length:Int))*64≤140737488355328∧((v5).length:Int)+(([v7]:List zaa).length:Int)≤140737488355328)<|
   some (.inl ((IntKind.i64.wrap (v4-1)),(v5++ [v7])))
 else
  some (.inr (some v5))
noncomputable def zeU (a0:zaa) (a1:List UInt8) (a2:Int):Option (List zaa):=
 (zdP a0).bind fun v1=>
 (zcu a0 a1).bind fun v2=>
 (zbD a0.fIdxs v2).bind fun y3=>
 zay (fun s:Int × List zaa=>zcB a0 a1 a2 s.1 s.2) (y3.fStage, [v1])
noncomputable def zdt (a0:zaa) (a1:List UInt8) (a2:Int):Option (List zaa × Bool):=
 (zch a0 a1 a2).bind fun v1=>
 if(!v1)then
  some ([],false)
 else
  (zeU a0 a1 a2).bind fun v2=>
  some (v2,true)
noncomputable def zcd (a0:List (List UInt8)) (a1:List (List UInt8)) (v1:Int):Option ((Int) ⊕ Option (Bool)):=
 if(decide (v1<(a0.length:Int)))then
  (zbD a0 v1).bind fun y2=>
  (zbD a1 v1).bind fun y3=>
  if(y2 !=y3)then
   some (.inr (some false))
  else
   some (.inl (IntKind.i64.wrap (v1+1)))
 else
  some (.inr (some true))
noncomputable def zeg (a0:List (List UInt8)) (a1:List (List UInt8)):Option (Bool):=
 if((a0.length:Int) !=(a1.length:Int))then
  some false
 else
  zay (fun s:Int=>zcd a0 a1 s) 0
noncomputable def za2 (a0:zaa) (a1:zaa) (v2:Int):Option ((Int) ⊕ Option (Bool)):=
 if(decide (v2<(a0.fIdxs.length:Int)))then
  (zbD a0.fIdxs v2).bind fun y3=>
  (zbD a1.fIdxs v2).bind fun y4=>
  if(!(y3.fName==y4.fName&&(y3.fCol==y4.fCol&&(y3.fStage==y4.fStage))))then
   some (.inr (some false))
  else
   some (.inl (IntKind.i64.wrap (v2+1)))
 else
  some (.inr (some true))
noncomputable def zbR (a0:zaa) (a1:zaa):Option (Bool):=
 if(a0.fName !=a1.fName)then
  some false
 else
  (zeg a0.fCols a1.fCols).bind fun v1=>
  if((!v1)||((a0.fIdxs.length:Int) !=(a1.fIdxs.length:Int)))then
   some false
  else
   zay (fun s:Int=>za2 a0 a1 s) 0
noncomputable def zbM (a0:List zaa) (v4:List zaa × Bool) (v5:Int):Option ((Int) ⊕ Option (Bool)):=
 if(decide (v5<(v4.1.length:Int)))then
  (zbD v4.1 v5).bind fun y6=>
  (zbD a0 v5).bind fun y7=>
  (zbR y6 y7).bind fun v8=>
  if(!v8)then
   some (.inr (some false))
  else
   some (.inl (IntKind.i64.wrap (v5+1)))
 else
  some (.inr (some true))
noncomputable def zem (a0:List zaa) (a1:List UInt8):Option (Bool):=
 if((a0.length:Int) !=4)then
  some false
 else
  (zbD a0 0).bind fun y1=>
  (zbB y1).bind fun v2=>
  if(!v2)then
   some false
  else
   (zex y1 a1).bind fun v3=>
   (zdt y1 a1 3).bind fun v4=>
   if((((!v3.2)||(!v4.2))||(v3.1.fStage !=0))||((v4.1.length:Int) !=4))then
    some false
   else
    zay (fun s:Int=>zbM a0 v4 s) 0
noncomputable def zdT (a0:zal):Option (Bool):=
 some ((a0.fKind==0)&&((IntKind.i64.wrap ((a0.fOld.fVals.length:Int)+(a0.fNew.fVals.length:Int)))==0))
noncomputable def zee (v1:Int) (v3:Bool):Option ((Int) ⊕ Option (Bool)):=
 if(!v3)then
  some (.inr (some false))
 else
  some (.inl (IntKind.i64.wrap (v1+1)))
noncomputable def zcg (a1:List UInt8) (v1:Int) (y2:UInt8) (v4:Bool) (v5:Int):Option ((Bool × Int) ⊕ Option ((Int) ⊕ Option (Bool))):=
 if(decide (v5<(a1.length:Int)))then
  if v4 then
   some (.inl (true,(IntKind.i64.wrap (v5+1))))
  else
   (zbD a1 v5).bind fun y6=>
   some (.inl (((y2.toNat:Int)==(y6.toNat:Int)),(IntKind.i64.wrap (v5+1))))
 else
  some (.inr (zee v1 v4))
noncomputable def zd0 (a0:List UInt8) (a1:List UInt8) (v1:Int):Option ((Int) ⊕ Option (Bool)):=
 if(decide (v1<(a0.length:Int)))then
  (zbD a0 v1).bind fun y2=>
  zay (fun s:Bool × Int=>zcg a1 v1 y2 s.1 s.2) ((((decide ((y2.toNat:Int)≥97))&&(decide ((y2.toNat:Int)≤122)))||((decide ((y2.toNat:Int)≥48))&&(decide ((y2.toNat:Int)≤57)))),0)
 else
  some (.inr (some true))
noncomputable def zeo (a0:List UInt8) (a1:List UInt8):Option (Bool):=
 zay (fun s:Int=>zd0 a0 a1 s) 0
noncomputable def zdQ (a0:List UInt8):Option (Bool):=
 (zcS (a0.length:Int) 1 3).bind fun v1=>
 if v1 then
  (zeo a0 ([]:List UInt8)).bind fun v2=>
  some v2
 else
  some false
noncomputable def zd3 (a0:zaa) (a1:zd5):Option (Bool):=
 some ((a1.fVals.length:Int)==(a0.fCols.length:Int))
noncomputable def zd2 (a0:zaa) (a1:zd5) (v1:Int):Option ((Int) ⊕ Option (Bool)):=
 if(decide (v1<(a1.fVals.length:Int)))then
  (zbD a1.fVals v1).bind fun y2=>
  (zdQ y2).bind fun v3=>
  if(!v3)then
   some (.inr (some false))
  else
   some (.inl (IntKind.i64.wrap (v1+1)))
 else
  some (.inr (zd3 a0 a1))
noncomputable def zbH (a0:zaa) (a1:zd5):Option (Bool):=
 zay (fun s:Int=>zd2 a0 a1 s) 0
noncomputable def zbO (a0:List (List UInt8)) (a1:List UInt8) (v1:List UInt8) (v2:Int):Option ((List UInt8 × Int) ⊕ Option (List UInt8)):=
 if(decide (v2<(a0.length:Int)))then
  (zbD a0 v2).bind fun y3=>
  if(decide (v2>0))then
   req ((v1).length+(a1).length≤9223372036854775807)<|
   req (((v1++a1)).length+(y3).length≤9223372036854775807)<|
   some (.inl (((v1++a1)++y3),(IntKind.i64.wrap (v2+1))))
  else
   req ((v1).length+(y3).length≤9223372036854775807)<|
   some (.inl ((v1++y3),(IntKind.i64.wrap (v2+1))))
 else
  some (.inr (some v1))
noncomputable def zfu (a0:List (List UInt8)) (a1:List UInt8):Option (List UInt8):=
 zay (fun s:List UInt8 × Int=>zbO a0 a1 s.1 s.2) (([]:List UInt8),0)
noncomputable def zbQ (a0:zaa) (a1:zd5):Option (za4):=
 req ((a0.fName).length+(([47]:List UInt8)).length≤9223372036854775807)<|
 (zbD a1.fVals 0).bind fun y1=>
 req (((a0.fName++([47]:List UInt8))).length+(y1).length≤9223372036854775807)<|
 req (0≤(1:Int)∧(1:Int)≤(a1.fVals.length:Int)∧(a1.fVals.length:Int)≤(a1.fVals.length:Int))<|
 (zfu (zm9 a1.fVals 1 (a1.fVals.length:Int)) ([44]:List UInt8)).bind fun v2=>
 some (⟨((a0.fName++([47]:List UInt8))++y1),v2,false⟩:za4)
noncomputable def zcj (a0:zaa) (a1:zbg) (a2:zd5):Option (List UInt8):=
 req ((a0.fName).length+(([46]:List UInt8)).length≤9223372036854775807)<|
 req (((a0.fName++([46]:List UInt8))).length+(a1.fName).length≤9223372036854775807)<|
 req ((((a0.fName++([46]:List UInt8))++a1.fName)).length+(([47]:List UInt8)).length≤9223372036854775807)<|
 (zbD a2.fVals a1.fCol).bind fun y1=>
 req (((((a0.fName++([46]:List UInt8))++a1.fName)++([47]:List UInt8))).length+(y1).length≤9223372036854775807)<|
 req ((((((a0.fName++([46]:List UInt8))++a1.fName)++([47]:List UInt8))++y1)).length+(([47]:List UInt8)).length≤9223372036854775807)<|
 (zbD a2.fVals 0).bind fun y2=>
 req (((((((a0.fName++([46]:List UInt8))++a1.fName)++([47]:List UInt8))++y1)++([47]:List UInt8))).length+(y2).length≤9223372036854775807)<|
 some ((((((a0.fName++([46]:List UInt8))++a1.fName)++([47]:List UInt8))++y1)++([47]:List UInt8))++y2)
noncomputable def zfl (a0:zaa) (a1:zbg) (a2:zd5):Option (List DOp):=
 (zbQ a0 a2).bind fun v1=>
 (zcj a0 a1 a2).bind fun v2=>
 some [(⟨7,v1.fKey,v1.fVal,0⟩:DOp),(⟨2,v2,([]:List UInt8),0⟩:DOp)]
noncomputable def zfr (a0:zaa) (a1:List UInt8) (a2:zd5):Option (List DOp × Bool):=
 (zex a0 a1).bind fun v1=>
 if v1.2 then
  (zbH a0 a2).bind fun v2=>
  if(!v2)then
   some ([],false)
  else
   (zfl a0 v1.1 a2).bind fun v3=>
   some (v3,true)
 else
  some ([],false)
noncomputable def zek (a0:zaa) (a1:zal):Option (Bool):=
 if(a1.fKind==1)then
  if((a1.fOld.fVals.length:Int)==0)then
   (zbH a0 a1.fNew).bind fun v1=>
   some v1
  else
   some false
 else
  if(a1.fKind==2)then
   if((a1.fNew.fVals.length:Int)==0)then
    (zbH a0 a1.fOld).bind fun v2=>
    some v2
   else
    some false
  else
   if(a1.fKind==3)then
    (zbH a0 a1.fOld).bind fun v3=>
    if v3 then
     (zbH a0 a1.fNew).bind fun v4=>
     if v4 then
      (zbD a1.fOld.fVals 0).bind fun y5=>
      (zbD a1.fNew.fVals 0).bind fun y6=>
      some (y5==y6)
     else
      some false
    else
     some false
   else
    some false
noncomputable def zfv (a0:zaa) (a1:zal):Option (Bool):=
 (zbB a0).bind fun v1=>
 if v1 then
  (zek a0 a1).bind fun v2=>
  some v2
 else
  some false
noncomputable def zeh (a0:zaa) (a1:zal):Option (List DOp):=
 if(a1.fKind==1)then
  (zbQ a0 a1.fNew).bind fun v1=>
  some [(⟨6,v1.fKey,([]:List UInt8),0⟩:DOp),(⟨2,v1.fKey,v1.fVal,0⟩:DOp)]
 else
  (zbQ a0 a1.fOld).bind fun v2=>
  if(a1.fKind==2)then
   some [(⟨7,v2.fKey,v2.fVal,0⟩:DOp),(⟨3,v2.fKey,([]:List UInt8),0⟩:DOp)]
  else
   (zbQ a0 a1.fNew).bind fun v3=>
   some [(⟨7,v2.fKey,v2.fVal,0⟩:DOp),(⟨2,v2.fKey,v3.fVal,0⟩:DOp)]
noncomputable def zdf (a1:zbg) (v2:List UInt8) (v3:List DOp):Option (List DOp):=
 if((v2 !=([]:List UInt8))&&(decide (a1.fStage≥2)))then
  req ((((v3).length:Int)+(([(⟨2,v2,([]:List UInt8),0⟩:DOp)]:List DOp).length:Int))*48≤140737488355328∧((v3).length:Int)+(([(⟨2,v2,([]:List UInt8),0⟩:DOp)]:List DOp).length:Int)≤140737488355328)<|
  some (v3++ [(⟨2,v2,([]:List UInt8),0⟩:DOp)])
 else
  some v3
noncomputable def zcy (a1:zbg) (v1:List UInt8) (v2:List UInt8):Option (List DOp):=
 if(((v1 !=([]:List UInt8))&&(v1 !=v2))&&(decide (a1.fStage≥1)))then
  req (((([]:List DOp).length:Int)+(([(⟨3,v1,([]:List UInt8),0⟩:DOp)]:List DOp).length:Int))*48≤140737488355328∧(([]:List DOp).length:Int)+(([(⟨3,v1,([]:List UInt8),0⟩:DOp)]:List DOp).length:Int)≤140737488355328)<|
  zdf a1 v2 [(⟨3,v1,([]:List UInt8),0⟩:DOp)]
 else
  zdf a1 v2 []
noncomputable def zde (a0:zaa) (a1:zbg) (a2:zal) (v1:List UInt8):Option (List DOp):=
 if(a2.fKind !=2)then
  (zcj a0 a1 a2.fNew).bind fun v4=>
  zcy a1 v1 v4
 else
  zcy a1 v1 ([]:List UInt8)
noncomputable def zdI (a0:zaa) (a1:zbg) (a2:zal):Option (List DOp):=
 zqN (σ:=List UInt8) (
  if(a2.fKind !=1)then
   (zcj a0 a1 a2.fOld).bind fun v5=>
   some (.inl v5)
  else
   some (.inl ([]:List UInt8))
 ) (fun s=>zde a0 a1 a2 s)
noncomputable def zbZ (a0:zaa) (a1:zal) (v2:Int) (v3:List DOp):Option ((Int × List DOp) ⊕ Option (List DOp)):=
 if(decide (v2<(a0.fIdxs.length:Int)))then
  (zbD a0.fIdxs v2).bind fun y4=>
  (zdI a0 y4 a1).bind fun v5=>
  req ((((v3).length:Int)+((v5).length:Int))*48≤140737488355328∧((v3).length:Int)+((v5).length:Int)≤140737488355328)<|
  some (.inl ((IntKind.i64.wrap (v2+1)),(v3++v5)))
 else
  some (.inr (some v3))
noncomputable def zeT (a0:zaa) (a1:zal):Option (List DOp):=
 (zeh a0 a1).bind fun v1=>
 zay (fun s:Int × List DOp=>zbZ a0 a1 s.1 s.2) (0,v1)
noncomputable def zf3 (a0:zaa) (a1:zal):Option (List DOp × Bool):=
 (zfv a0 a1).bind fun v1=>
 if(!v1)then
  some ([],false)
 else
  (zeT a0 a1).bind fun v2=>
  some (v2,true)
noncomputable def zgb (a0:List zaa) (a1:List UInt8) (a2:zaJ):Option (List DOp × Bool):=
 (zcS a2.fVer 0 3).bind fun v1=>
 if(!v1)then
  some ([],false)
 else
  if a2.fFill then
   if(decide (a2.fVer<2))then
    some ([],false)
   else
    (zdT a2.fAct).bind fun v2=>
    if(!v2)then
     some ([],false)
    else
     (zbD a0 a2.fVer).bind fun y3=>
     (zfr y3 a1 a2.fRow).bind fun v4=>
     some (v4.1,v4.2)
  else
   if(decide ((a2.fRow.fVals.length:Int)>0))then
    some ([],false)
   else
    (zbD a0 a2.fVer).bind fun y5=>
    (zf3 y5 a2.fAct).bind fun v6=>
    some (v6.1,v6.2)
noncomputable def zeM (a0:List zaa) (a1:List UInt8) (a2:zaJ):Option (List DOp × Bool):=
 (zem a0 a1).bind fun v1=>
 if(!v1)then
  some ([],false)
 else
  (zgb a0 a1 a2).bind fun v2=>
  some (v2.1,v2.2)
noncomputable def zb0 (a0:Int) (a1:Int) (a2:Int):Option (Bool):=
 some ((decide (a0≥a1))&&(decide (a0≤a2)))
noncomputable def zc5 (a0:List UInt8) (a1:Int):Option (Bool):=
 (zb0 (a0.length:Int) 1 a1).bind fun v1=>
 some v1
noncomputable def zc6 (a0:List UInt8) (a1:Int) (v2:Int):Option ((Int) ⊕ Option (Bool)):=
 if(decide (v2<(a0.length:Int)))then
  (zbD a0 v2).bind fun y3=>
  if((decide ((y3.toNat:Int)<97))||(decide ((y3.toNat:Int)>122)))then
   some (.inr (some false))
  else
   some (.inl (IntKind.i64.wrap (v2+1)))
 else
  some (.inr (zc5 a0 a1))
noncomputable def zbJ (a0:List UInt8) (a1:Int):Option (Bool):=
 zay (fun s:Int=>zc6 a0 a1 s) 0
noncomputable def zbf (a0:List (List UInt8)) (a1:List UInt8) (v1:Int):Option ((Int) ⊕ Option (Int)):=
 if(decide (v1<(a0.length:Int)))then
  (zbD a0 v1).bind fun y2=>
  if(a1==y2)then
   some (.inr (some v1))
  else
   some (.inl (IntKind.i64.wrap (v1+1)))
 else
  some (.inr (some (-1)))
noncomputable def zaZ (a0:List (List UInt8)) (a1:List UInt8):Option (Int):=
 zay (fun s:Int=>zbf a0 a1 s) 0
noncomputable def zaM (a0:List (List UInt8)) (a1:List UInt8):Option (Bool):=
 (zaZ a0 a1).bind fun v1=>
 some (decide (v1≥0))
noncomputable def zfo (a0:Int):Option (Bool):=
 (zb0 a0 0 3).bind fun v1=>
 some v1
noncomputable def zct (a0:zaa) (v3:Int):Option ((Int) ⊕ Option (Bool)):=
 if(decide (v3<(a0.fIdxs.length:Int)))then
  (zbD a0.fIdxs v3).bind fun y4=>
  (zbJ y4.fName 1).bind fun v5=>
  if v5 then
   (zb0 y4.fCol 1 (IntKind.i64.wrap ((a0.fCols.length:Int)-1))).bind fun v6=>
   if v6 then
    (zfo y4.fStage).bind fun v7=>
    if(decide (v3>0))then
     if v7 then
      (zbD a0.fIdxs (IntKind.i64.wrap (v3-1))).bind fun y8=>
      if(Op.bytesLess y4.fName y8.fName||y4.fName==y8.fName)then
       some (.inr (some false))
      else
       some (.inl (IntKind.i64.wrap (v3+1)))
     else
      some (.inr (some false))
    else
     if((!v7)||false)then
      some (.inr (some false))
     else
      some (.inl (IntKind.i64.wrap (v3+1)))
   else
    some (.inr (some false))
  else
   some (.inr (some false))
 else
  some (.inr (some true))
noncomputable def zdg (a0:zaa):Option (Bool):=
 zay (fun s:Int=>zct a0 s) 0
noncomputable def zcw (a0:zaa) (v9:Int):Option ((Int) ⊕ Option (Bool)):=
 if(decide (v9<(a0.fCols.length:Int)))then
  (zbD a0.fCols v9).bind fun y10=>
  (zbJ y10 3).bind fun v11=>
  if v11 then
   req (0≤(0:Int)∧(0:Int)≤v9∧v9≤(a0.fCols.length:Int))<|
   (zaM (zm9 a0.fCols 0 v9) y10).bind fun v12=>
   if v12 then
    some (.inr (some false))
   else
    some (.inl (IntKind.i64.wrap (v9+1)))
  else
   some (.inr (some false))
 else
  some (.inr (zdg a0))
noncomputable def zda (a0:zaa):Option (Bool):=
 (zbJ a0.fName 1).bind fun v1=>
 if v1 then
  (zb0 (a0.fCols.length:Int) 2 4).bind fun v2=>
  if((!v2)||(decide ((a0.fIdxs.length:Int)>3)))then
   some false
  else
   zay (fun s:Int=>zcw a0 s) 0
 else
  some false
noncomputable def zcn (a0:zbg) (a1:List UInt8):Option (Bool):=
 some (a0.fName==a1)
noncomputable def za3 (a0:zaa) (a1:List UInt8):Option (Int):=
 (zbj a0.fIdxs (fun y0_=>zcn y0_ a1)).bind fun v1=>
 some v1
noncomputable def zeV (a0:zaa) (a1:List UInt8):Option (Bool):=
 (zda a0).bind fun v1=>
 if v1 then
  (za3 a0 a1).bind fun v2=>
  some (decide (v2≥0))
 else
  some false
noncomputable def zaP (a0:zaa) (a1:List UInt8):Option (zbg):=
 (za3 a0 a1).bind fun v1=>
 (zbD a0.fIdxs v1).bind fun y2=>
 some y2
noncomputable def zbq (xs:List (List UInt8)):Option (List (List UInt8)):=zky 16 xs
noncomputable def zba (xs:List zbg):Option (List zbg):=zky 32 xs
noncomputable def zcA (a0:zaa):Option (zaa):=
 (zbq a0.fCols).bind fun v1=>
 (zba a0.fIdxs).bind fun v2=>
 some (⟨a0.fName,v1,v2⟩:zaa)
noncomputable def zbe (a0:zaa) (a1:List UInt8) (a2:Int):Option (zaa):=
 (zcA a0).bind fun v1=>
 (za3 a0 a1).bind fun v2=>
 (zbD v1.fIdxs v2).bind fun y3=>
 some (⟨v1.fName,v1.fCols,(v1.fIdxs.set (v2).toNat {y3 with fStage:=a2})⟩:zaa)
noncomputable def zbi (a0:zaa) (a1:List UInt8) (a2:Int) (v3:Int) (v4:List zaa):Option ((Int × List zaa) ⊕ Option (List zaa)):=
 if(v3 !=a2)then
  if(decide (v3<a2))then
   (zbe a0 a1 (IntKind.i64.wrap (v3+1))).bind fun v5=>
   req ((((v4).length:Int)+(([v5]:List zaa).length:Int))*64≤140737488355328∧((v4).length:Int)+(([v5]:List zaa).length:Int)≤140737488355328)<|
   some (.inl ((IntKind.i64.wrap (v3+1)),(v4++ [v5])))
  else
   (zbe a0 a1 (IntKind.i64.wrap (v3-1))).bind fun v6=>
   req ((((v4).length:Int)+(([v6]:List zaa).length:Int))*64≤140737488355328∧((v4).length:Int)+(([v6]:List zaa).length:Int)≤140737488355328)<|
   some (.inl ((IntKind.i64.wrap (v3-1)),(v4++ [v6])))
 else
  some (.inr (some v4))
noncomputable def zca (a0:zaa) (a1:List UInt8) (a2:Int):Option (List zaa):=
 (zaP a0 a1).bind fun v1=>
 (zcA a0).bind fun v2=>
 zay (fun s:Int × List zaa=>zbi a0 a1 a2 s.1 s.2) (v1.fStage, [v2])
noncomputable def zac (a0:List zaa) (a1:List zaa) (a2:zaa→zaa→Option Bool) (v1:Int):Option ((Int) ⊕ Option (Bool)):=
 if(decide (v1<(a0.length:Int)))then
  (zbD a0 v1).bind fun y2=>
  (zbD a1 v1).bind fun y3=>
  (a2 y2 y3).bind fun v4=>
  if(!v4)then
   some (.inr (some false))
  else
   some (.inl (IntKind.i64.wrap (v1+1)))
 else
  some (.inr (some true))
noncomputable def zae (a0:List zaa) (a1:List zaa) (a2:zaa→zaa→Option Bool):Option (Bool):=
 if((a0.length:Int) !=(a1.length:Int))then
  some false
 else
  zay (fun s:Int=>zac a0 a1 a2 s) 0
noncomputable def zat (a0:List (List UInt8)) (a1:List (List UInt8)) (v1:Int):Option ((Int) ⊕ Option (Bool)):=
 if(decide (v1<(a0.length:Int)))then
  (zbD a0 v1).bind fun y2=>
  (zbD a1 v1).bind fun y3=>
  if(y2 !=y3)then
   some (.inr (some false))
  else
   some (.inl (IntKind.i64.wrap (v1+1)))
 else
  some (.inr (some true))
noncomputable def zaY (a0:List (List UInt8)) (a1:List (List UInt8)):Option (Bool):=
 if((a0.length:Int) !=(a1.length:Int))then
  some false
 else
  zay (fun s:Int=>zat a0 a1 s) 0
noncomputable def zap (a0:List zbg) (a1:List zbg) (v1:Int):Option ((Int) ⊕ Option (Bool)):=
 if(decide (v1<(a0.length:Int)))then
  (zbD a0 v1).bind fun y2=>
  (zbD a1 v1).bind fun y3=>
  if(!(y2.fName==y3.fName&&(y2.fCol==y3.fCol&&(y2.fStage==y3.fStage))))then
   some (.inr (some false))
  else
   some (.inl (IntKind.i64.wrap (v1+1)))
 else
  some (.inr (some true))
noncomputable def zaG (a0:List zbg) (a1:List zbg):Option (Bool):=
 if((a0.length:Int) !=(a1.length:Int))then
  some false
 else
  zay (fun s:Int=>zap a0 a1 s) 0
noncomputable def zbo (a0:zaa) (a1:zaa):Option (Bool):=
 if(a0.fName==a1.fName)then
  (zaY a0.fCols a1.fCols).bind fun v1=>
  if v1 then
   (zaG a0.fIdxs a1.fIdxs).bind fun v2=>
   some v2
  else
   some false
 else
  some false
noncomputable def zei (a0:List zaa) (a1:List UInt8):Option (Bool):=
 if((a0.length:Int)==4)then
  (zbD a0 0).bind fun y1=>
  (zeV y1 a1).bind fun v2=>
  if v2 then
   (zaP y1 a1).bind fun v3=>
   if(v3.fStage==0)then
    (zca y1 a1 3).bind fun v4=>
    (zae a0 v4 (fun y0_ y1_=>zbo y0_ y1_)).bind fun v5=>
    some v5
   else
    some false
  else
   some false
 else
  some false
noncomputable def zdN (a0:zal):Option (Bool):=
 some (((a0.fKind==0)&&((a0.fOld.fVals.length:Int)==0))&&((a0.fNew.fVals.length:Int)==0))
noncomputable def zcV (a0:Int):Option (Bool):=
 some (((decide (a0≥97))&&(decide (a0≤122)))||((decide (a0≥48))&&(decide (a0≤57))))
noncomputable def zdl (a0:List UInt8) (a1:Int):Option (Int):=
 (zaU a0 a1).bind fun v1=>
 some v1
noncomputable def zdC (a0:List UInt8) (a1:List UInt8) (v1:Int):Option ((Int) ⊕ Option (Bool)):=
 if(decide (v1<(a0.length:Int)))then
  (zbD a0 v1).bind fun y2=>
  (zcV (y2.toNat:Int)).bind fun v3=>
  if v3 then
   some (.inl (IntKind.i64.wrap (v1+1)))
  else
   (zdl a1 (y2.toNat:Int)).bind fun v4=>
   if(decide (v4<0))then
    some (.inr (some false))
   else
    some (.inl (IntKind.i64.wrap (v1+1)))
 else
  some (.inr (some true))
noncomputable def zdM (a0:List UInt8) (a1:List UInt8):Option (Bool):=
 zay (fun s:Int=>zdC a0 a1 s) 0
noncomputable def zej (a0:List UInt8):Option (Bool):=
 (zb0 (a0.length:Int) 1 3).bind fun v1=>
 if v1 then
  (zdM a0 ([]:List UInt8)).bind fun v2=>
  some v2
 else
  some false
noncomputable def zbV (a0:List UInt8):Option (Bool):=
 (zej a0).bind fun v1=>
 some (!v1)
noncomputable def zaN (a0:zaa) (a1:zd5):Option (Bool):=
 if((a1.fVals.length:Int)==(a0.fCols.length:Int))then
  (zcE a1.fVals (fun y0_=>zbV y0_)).bind fun v1=>
  some (!v1)
 else
  some false
noncomputable def zbG (a0:zaa) (a1:zal):Option (Bool):=
 if(a1.fKind==1)then
  if((a1.fOld.fVals.length:Int)==0)then
   (zaN a0 a1.fNew).bind fun v1=>
   some v1
  else
   some false
 else
  if(a1.fKind==2)then
   (zaN a0 a1.fOld).bind fun v2=>
   some (v2&&((a1.fNew.fVals.length:Int)==0))
  else
   if(a1.fKind==3)then
    (zaN a0 a1.fOld).bind fun v3=>
    if v3 then
     (zaN a0 a1.fNew).bind fun v4=>
     if v4 then
      (zbD a1.fOld.fVals 0).bind fun y5=>
      (zbD a1.fNew.fVals 0).bind fun y6=>
      some (y5==y6)
     else
      some false
    else
     some false
   else
    some false
noncomputable def zgJ (a0:List zaa) (a1:zaJ):Option (Bool):=
 (zb0 a1.fVer 0 3).bind fun v1=>
 if(!v1)then
  some false
 else
  if a1.fFill then
   if(decide (a1.fVer≥2))then
    (zdN a1.fAct).bind fun v2=>
    if v2 then
     (zbD a0 a1.fVer).bind fun y3=>
     (zaN y3 a1.fRow).bind fun v4=>
     some v4
    else
     some false
   else
    some false
  else
   (zbD a0 a1.fVer).bind fun y5=>
   (zbG y5 a1.fAct).bind fun v6=>
   some (v6&&((a1.fRow.fVals.length:Int)==0))
noncomputable def zaX (a0:zaa) (a1:zd5):Option (za4):=
 req ((a0.fName).length+(([47]:List UInt8)).length≤9223372036854775807)<|
 (zbD a1.fVals 0).bind fun y1=>
 req (((a0.fName++([47]:List UInt8))).length+(y1).length≤9223372036854775807)<|
 req (0≤(1:Int)∧(1:Int)≤(a1.fVals.length:Int)∧(a1.fVals.length:Int)≤(a1.fVals.length:Int))<|
 (zes (zm9 a1.fVals 1 (a1.fVals.length:Int)) ([44]:List UInt8)).bind fun v2=>
 some (⟨((a0.fName++([47]:List UInt8))++y1),v2,false⟩:za4)
noncomputable def zbU (a0:zaa) (a1:List UInt8):Option (List UInt8):=
 req ((a0.fName).length+(([46]:List UInt8)).length≤9223372036854775807)<|
 req (((a0.fName++([46]:List UInt8))).length+(a1).length≤9223372036854775807)<|
 req ((((a0.fName++([46]:List UInt8))++a1)).length+(([47]:List UInt8)).length≤9223372036854775807)<|
 some (((a0.fName++([46]:List UInt8))++a1)++([47]:List UInt8))
noncomputable def zaF (a0:zaa) (a1:List UInt8) (a2:zd5):Option (List UInt8):=
 (zbU a0 a1).bind fun v1=>
 (zaP a0 a1).bind fun v2=>
 (zbD a2.fVals v2.fCol).bind fun y3=>
 req ((v1).length+(y3).length≤9223372036854775807)<|
 req (((v1++y3)).length+(([47]:List UInt8)).length≤9223372036854775807)<|
 (zbD a2.fVals 0).bind fun y4=>
 req ((((v1++y3)++([47]:List UInt8))).length+(y4).length≤9223372036854775807)<|
 some (((v1++y3)++([47]:List UInt8))++y4)
noncomputable def zcI (a0:zaa) (a1:List UInt8) (a2:zd5):Option (List DOp):=
 (zaX a0 a2).bind fun v1=>
 (zaF a0 a1 a2).bind fun v2=>
 some [(⟨7,v1.fKey,v1.fVal,0⟩:DOp),(⟨2,v2,([]:List UInt8),0⟩:DOp)]
noncomputable def zao (a0:Int) (a1:za4) (a2:List DOp):Option (Unit × List DOp):=
 req ((((a2).length:Int)+(([(⟨a0,a1.fKey,a1.fVal,0⟩:DOp)]:List DOp).length:Int))*48≤140737488355328∧((a2).length:Int)+(([(⟨a0,a1.fKey,a1.fVal,0⟩:DOp)]:List DOp).length:Int)≤140737488355328)<|
 some ((),(a2++ [(⟨a0,a1.fKey,a1.fVal,0⟩:DOp)]))
noncomputable def zfs (a0:Int):Option (Bool):=
 some (decide (a0≥1))
noncomputable def zfm (a0:Int):Option (Bool):=
 some (decide (a0≥2))
noncomputable def zaT (v9:Int) (y11:zbg) (v13:List UInt8) (v14:List DOp):Option ((Int × List DOp) ⊕ Option (List DOp)):=
 if(v13 !=([]:List UInt8))then
  (zfm y11.fStage).bind fun v15=>
  if v15 then
   (zao 2 (⟨v13,([]:List UInt8),false⟩:za4) v14).bind fun v16=>
   some (.inl ((IntKind.i64.wrap (v9+1)),v16.2))
  else
   some (.inl ((IntKind.i64.wrap (v9+1)),v14))
 else
  some (.inl ((IntKind.i64.wrap (v9+1)),v14))
noncomputable def zaC (v9:Int) (v10:List DOp) (y11:zbg) (v12:List UInt8) (v13:List UInt8):Option ((Int × List DOp) ⊕ Option (List DOp)):=
 if(v12 !=([]:List UInt8))then
  if(v12 !=v13)then
   (zfs y11.fStage).bind fun v17=>
   if v17 then
    (zao 3 (⟨v12,([]:List UInt8),false⟩:za4) v10).bind fun v18=>
    zaT v9 y11 v13 v18.2
   else
    zaT v9 y11 v13 v10
  else
   zaT v9 y11 v13 v10
 else
  zaT v9 y11 v13 v10
noncomputable def zck (a0:zaa) (a1:zal) (v9:Int) (v10:List DOp) (y11:zbg) (v12:List UInt8):Option ((Int × List DOp) ⊕ Option (List DOp)):=
 if(a1.fKind !=2)then
  (zaF a0 y11.fName a1.fNew).bind fun v19=>
  zaC v9 v10 y11 v12 v19
 else
  zaC v9 v10 y11 v12 ([]:List UInt8)
noncomputable def zaR (a0:zaa) (a1:zal) (v9:Int) (v10:List DOp):Option ((Int × List DOp) ⊕ Option (List DOp)):=
 if(decide (v9<(a0.fIdxs.length:Int)))then
  (zbD a0.fIdxs v9).bind fun y11=>
  zqN (σ:=List UInt8) (
   if(a1.fKind !=1)then
    (zaF a0 y11.fName a1.fOld).bind fun v20=>
    some (.inl v20)
   else
    some (.inl ([]:List UInt8))
  ) (fun s=>zck a0 a1 v9 v10 y11 s)
 else
  some (.inr (some v10))
noncomputable def zaS (a0:zaa) (a1:zal) (v8:List DOp):Option (List DOp):=
 zay (fun s:Int × List DOp=>zaR a0 a1 s.1 s.2) (0,v8)
noncomputable def zbd (a0:zaa) (a1:zal) (v1:List UInt8) (v4:List DOp) (v5:List UInt8) (v6:List UInt8) (v7:Bool):Option (List DOp):=
 if(a1.fKind==1)then
  (zao 6 (⟨v5,([]:List UInt8),false⟩:za4) v4).bind fun v21=>
  (zao 2 (⟨v5,v6,v7⟩:za4) v21.2).bind fun v22=>
  zaS a0 a1 v22.2
 else
  if(a1.fKind==2)then
   (zao 3 (⟨v1,([]:List UInt8),false⟩:za4) v4).bind fun v23=>
   zaS a0 a1 v23.2
  else
   if(a1.fKind==3)then
    (zao 2 (⟨v5,v6,v7⟩:za4) v4).bind fun v24=>
    zaS a0 a1 v24.2
   else
    zaS a0 a1 v4
noncomputable def zaB (a0:zaa) (a1:zal) (v1:List UInt8) (v2:List UInt8) (v3:Bool) (v4:List DOp):Option (List DOp):=
 if(a1.fKind !=2)then
  (zaX a0 a1.fNew).bind fun v25=>
  zbd a0 a1 v1 v4 v25.fKey v25.fVal v25.fGone
 else
  zbd a0 a1 v1 v4 ([]:List UInt8) ([]:List UInt8) false
noncomputable def zb1 (a0:zaa) (a1:zal):Option (List DOp):=
 zqN (σ:=List UInt8 × List UInt8 × Bool × List DOp) (
  if(a1.fKind !=1)then
   (zaX a0 a1.fOld).bind fun v26=>
   (zao 7 v26 ([]:List DOp)).bind fun v27=>
   some (.inl (v26.fKey,v26.fVal,v26.fGone,v27.2))
  else
   some (.inl (([]:List UInt8),([]:List UInt8),false, []))
 ) (fun s=>zaB a0 a1 s.1 s.2.1 s.2.2.1 s.2.2.2)
noncomputable def zeS (a0:List zaa) (a1:List UInt8) (a2:zaJ):Option (List DOp):=
 if a2.fFill then
  (zbD a0 a2.fVer).bind fun y1=>
  (zcI y1 a1 a2.fRow).bind fun v2=>
  some v2
 else
  (zbD a0 a2.fVer).bind fun y3=>
  (zb1 y3 a2.fAct).bind fun v4=>
  some v4
noncomputable def zdG (a0:List zaa) (a1:List UInt8) (a2:zaJ):Option (List DOp × Bool):=
 (zei a0 a1).bind fun v1=>
 if v1 then
  (zgJ a0 a2).bind fun v2=>
  if(!v2)then
   some ([],false)
  else
   (zeS a0 a1 a2).bind fun v3=>
   some (v3,true)
 else
  some ([],false)
noncomputable def zfS (a0:DOp) (a1:DOp):Option (Bool):=
 if(a0.fKind !=a1.fKind)then
  some false
 else
  if(a0.fKey !=a1.fKey)then
   some false
  else
   if(a0.fVal !=a1.fVal)then
    some false
   else
    if(a0.fBy !=a1.fBy)then
     some false
    else
     some true
noncomputable def zcT (a0:List DOp) (a1:List DOp) (v1:Int):Option ((Int) ⊕ Option (Bool)):=
 if(decide (v1<(a0.length:Int)))then
  (zbD a0 v1).bind fun y2=>
  (zbD a1 v1).bind fun y3=>
  (zfS y2 y3).bind fun v4=>
  if(!v4)then
   some (.inr (some false))
  else
   some (.inl (IntKind.i64.wrap (v1+1)))
 else
  some (.inr (some true))
noncomputable def zdn (a0:List DOp) (a1:List DOp):Option (Bool):=
 if((a0.length:Int) !=(a1.length:Int))then
  some false
 else
  zay (fun s:Int=>zcT a0 a1 s) 0
noncomputable def zaH (a0:List (List UInt8)) (a1:List (List UInt8)) (v1:Int):Option ((Int) ⊕ Option (Bool)):=
 if(decide (v1<(a0.length:Int)))then
  (zbD a0 v1).bind fun y2=>
  (zbD a1 v1).bind fun y3=>
  if(y2 !=y3)then
   some (.inr (some false))
  else
   some (.inl (IntKind.i64.wrap (v1+1)))
 else
  some (.inr (some true))
noncomputable def zby (a0:List (List UInt8)) (a1:List (List UInt8)):Option (Bool):=
 if((a0.length:Int) !=(a1.length:Int))then
  some false
 else
  zay (fun s:Int=>zaH a0 a1 s) 0
noncomputable def zdo (a0:zbg) (a1:zbg):Option (Bool):=
 if(a0.fName !=a1.fName)then
  some false
 else
  if(a0.fCol !=a1.fCol)then
   some false
  else
   if(a0.fStage !=a1.fStage)then
    some false
   else
    some true
noncomputable def za6 (a0:List zbg) (a1:List zbg) (v1:Int):Option ((Int) ⊕ Option (Bool)):=
 if(decide (v1<(a0.length:Int)))then
  (zbD a0 v1).bind fun y2=>
  (zbD a1 v1).bind fun y3=>
  (zdo y2 y3).bind fun v4=>
  if(!v4)then
   some (.inr (some false))
  else
   some (.inl (IntKind.i64.wrap (v1+1)))
 else
  some (.inr (some true))
noncomputable def zc0 (a0:List zbg) (a1:List zbg):Option (Bool):=
 if((a0.length:Int) !=(a1.length:Int))then
  some false
 else
  zay (fun s:Int=>za6 a0 a1 s) 0
noncomputable def zcF (a0:zaa) (a1:zaa):Option (Bool):=
 if(a0.fName !=a1.fName)then
  some false
 else
  (zby a0.fCols a1.fCols).bind fun v1=>
  if(!v1)then
   some false
  else
   (zc0 a0.fIdxs a1.fIdxs).bind fun v2=>
   if(!v2)then
    some false
   else
    some true
noncomputable def zb4 (a0:List zaa) (a1:List zaa) (v1:Int):Option ((Int) ⊕ Option (Bool)):=
 if(decide (v1<(a0.length:Int)))then
  (zbD a0 v1).bind fun y2=>
  (zbD a1 v1).bind fun y3=>
  (zcF y2 y3).bind fun v4=>
  if(!v4)then
   some (.inr (some false))
  else
   some (.inl (IntKind.i64.wrap (v1+1)))
 else
  some (.inr (some true))
noncomputable def zdy (a0:List zaa) (a1:List zaa):Option (Bool):=
 if((a0.length:Int) !=(a1.length:Int))then
  some false
 else
  zay (fun s:Int=>zb4 a0 a1 s) 0
noncomputable def zdu (a0:zd5) (a1:zd5):Option (Bool):=
 (zby a0.fVals a1.fVals).bind fun v1=>
 if(!v1)then
  some false
 else
  some true
noncomputable def zdx (a0:zal) (a1:zal):Option (Bool):=
 if(a0.fKind !=a1.fKind)then
  some false
 else
  (zdu a0.fOld a1.fOld).bind fun v1=>
  if(!v1)then
   some false
  else
   (zdu a0.fNew a1.fNew).bind fun v2=>
   if(!v2)then
    some false
   else
    some true
noncomputable def zdd (a0:zaJ) (a1:zaJ):Option (Bool):=
 if(a0.fVer !=a1.fVer)then
  some false
 else
  if(a0.fFill !=a1.fFill)then
   some false
  else
   (zdx a0.fAct a1.fAct).bind fun v1=>
   if(!v1)then
    some false
   else
    (zdu a0.fRow a1.fRow).bind fun v2=>
    if(!v2)then
     some false
    else
     some true
noncomputable def zfh (v1:List UInt8):Option (List UInt8):=
 req ((([109]:List UInt8)).length+(v1).length≤9223372036854775807)<|
 some ((([109]:List UInt8):List UInt8)++v1)
noncomputable def za1 (v2:Int) (v3:List UInt8):Option ((Int × List UInt8) ⊕ Option (List UInt8)):=
 if(decide (v2>0))then
  req (([(IntKind.u8.wrap (IntKind.i64.wrap ((48:Int)+(Int.tmod v2 10))))]:List Int).length≤9223372036854775807)<|
  req ((([(IntKind.u8.wrap (IntKind.i64.wrap ((48:Int)+(Int.tmod v2 10))))].map fun n=>UInt8.ofNat n.toNat)).length+(v3).length≤9223372036854775807)<|
  some (.inl ((IntKind.i64.wrap (Int.tdiv v2 10)),(([(IntKind.u8.wrap (IntKind.i64.wrap ((48:Int)+(Int.tmod v2 10))))].map fun n=>UInt8.ofNat n.toNat)++v3)))
 else
  some (.inr (zfh v3))
noncomputable def zaK (a0:Int):Option (List UInt8):=
 if(decide (a0≤0))then
  some ([109,48]:List UInt8)
 else
  zay (fun s:Int × List UInt8=>za1 s.1 s.2) (a0,([]:List UInt8))
noncomputable def zbb (v1:Int) (v2:Int) (v3:List (List UInt8)):Option ((Int × Int × List (List UInt8)) ⊕ Option (Int × List (List UInt8))):=
 if(decide (v2<(v3.length:Int)))then
  (zaK v1).bind fun v4=>
  (zbD v3 v2).bind fun y5=>
  some (.inl ((IntKind.i64.wrap (v1+1)),(IntKind.i64.wrap (v2+1)),(v3.set (v2).toNat v4)))
 else
  some (.inr (some (v1,v3)))
noncomputable def zcL (a0:List (List UInt8)) (a1:Int):Option (Int × List (List UInt8)):=
 zay (fun s:Int × Int × List (List UInt8)=>zbb s.1 s.2.1 s.2.2) (a1,0,a0)
noncomputable def zbv (v1:Int) (v2:Int) (v3:List zbg):Option ((Int × Int × List zbg) ⊕ Option (Int × List zbg)):=
 if(decide (v2<(v3.length:Int)))then
  (zaK v1).bind fun v4=>
  (zbD v3 v2).bind fun y5=>
  some (.inl ((IntKind.i64.wrap ((IntKind.i64.wrap ((IntKind.i64.wrap (v1+1))+1))+1)),(IntKind.i64.wrap (v2+1)),(((v3.set (v2).toNat {y5 with fName:=v4}).set (v2).toNat {{y5 with fName:=v4}with fCol:=(IntKind.i64.wrap (v1+1))}).set (v2).toNat {{{y5 with fName:=v4}with fCol:=(IntKind.i64.wrap (v1+1))}with fStage:=(IntKind.i64.wrap ((IntKind.i64.wrap (v1+1))+1))})))
 else
  some (.inr (some (v1,v3)))
noncomputable def ze5 (a0:List zbg) (a1:Int):Option (Int × List zbg):=
 zay (fun s:Int × Int × List zbg=>zbv s.1 s.2.1 s.2.2) (a1,0,a0)
noncomputable def zbl (v1:Int) (v2:Int) (v3:List zaa):Option ((Int × Int × List zaa) ⊕ Option (Int × List zaa)):=
 if(decide (v2<(v3.length:Int)))then
  (zaK v1).bind fun v4=>
  (zbD v3 v2).bind fun y5=>
  (zcL ({y5 with fName:=v4}.fCols) (IntKind.i64.wrap (v1+1))).bind fun v6=>
  (ze5 ({{y5 with fName:=v4}with fCols:=v6.2}.fIdxs) v6.1).bind fun v7=>
  some (.inl (v7.1,(IntKind.i64.wrap (v2+1)),(((v3.set (v2).toNat {y5 with fName:=v4}).set (v2).toNat {{y5 with fName:=v4}with fCols:=v6.2}).set (v2).toNat {{{y5 with fName:=v4}with fCols:=v6.2}with fIdxs:=v7.2})))
 else
  some (.inr (some (v1,v3)))
noncomputable def zec (a0:List zaa) (a1:Int):Option (Int × List zaa):=
 zay (fun s:Int × Int × List zaa=>zbl s.1 s.2.1 s.2.2) (a1,0,a0)
noncomputable def zcD (a0:zd5) (a1:Int):Option (Int × zd5):=
 (zcL a0.fVals a1).bind fun v1=>
 some (v1.1,(⟨v1.2⟩:zd5))
noncomputable def zc1 (a0:zal) (a1:Int):Option (Int × zal):=
 (zcD a0.fOld a1).bind fun v1=>
 (zcD a0.fNew v1.1).bind fun v2=>
 some (v2.1,(⟨a0.fKind,v1.2,v2.2⟩:zal))
noncomputable def zcN (a0:zaJ) (a1:Int):Option (Int × zaJ):=
 (zc1 a0.fAct a1).bind fun v1=>
 (zcD a0.fRow v1.1).bind fun v2=>
 some (v2.1,(⟨a0.fVer,a0.fFill,(⟨a0.fAct.fKind,v1.2.fOld,v1.2.fNew⟩:zal),v2.2⟩:zaJ))
noncomputable def zbL (v1:Int) (v2:Int) (v3:List DOp):Option ((Int × Int × List DOp) ⊕ Option (Int × List DOp)):=
 if(decide (v2<(v3.length:Int)))then
  (zbD v3 v2).bind fun y4=>
  (zaK (IntKind.i64.wrap (v1+1))).bind fun v5=>
  (zaK (IntKind.i64.wrap ((IntKind.i64.wrap (v1+1))+1))).bind fun v6=>
  some (.inl ((IntKind.i64.wrap ((IntKind.i64.wrap ((IntKind.i64.wrap ((IntKind.i64.wrap (v1+1))+1))+1))+1)),(IntKind.i64.wrap (v2+1)),((((v3.set (v2).toNat {y4 with fKind:=v1}).set (v2).toNat {{y4 with fKind:=v1}with fKey:=v5}).set (v2).toNat {{{y4 with fKind:=v1}with fKey:=v5}with fVal:=v6}).set (v2).toNat {{{{y4 with fKind:=v1}with fKey:=v5}with fVal:=v6}with fBy:=(IntKind.i64.wrap ((IntKind.i64.wrap ((IntKind.i64.wrap (v1+1))+1))+1))})))
 else
  some (.inr (some (v1,v3)))
noncomputable def zfq (a0:List DOp) (a1:Int):Option (Int × List DOp):=
 zay (fun s:Int × Int × List DOp=>zbL s.1 s.2.1 s.2.2) (a1,0,a0)
noncomputable def zbN (a0:List DOp) (v1:Int) (v2:Int):Option ((Int × Int) ⊕ Option (Int)):=
 if(decide (v2<(a0.length:Int)))then
  (zbD a0 v2).bind fun y3=>
  if(y3.fKind !=v1)then
   some (.inr (some (-1)))
  else
   (zaK (IntKind.i64.wrap (v1+1))).bind fun v4=>
   if(y3.fKey !=v4)then
    some (.inr (some (-1)))
   else
    (zaK (IntKind.i64.wrap ((IntKind.i64.wrap (v1+1))+1))).bind fun v5=>
    if(y3.fVal !=v5)then
     some (.inr (some (-1)))
    else
     if(y3.fBy !=(IntKind.i64.wrap ((IntKind.i64.wrap ((IntKind.i64.wrap (v1+1))+1))+1)))then
      some (.inr (some (-1)))
     else
      some (.inl ((IntKind.i64.wrap ((IntKind.i64.wrap ((IntKind.i64.wrap ((IntKind.i64.wrap (v1+1))+1))+1))+1)),(IntKind.i64.wrap (v2+1))))
 else
  some (.inr (some v1))
noncomputable def zeq (a0:List DOp) (a1:Int):Option (Int):=
 zay (fun s:Int × Int=>zbN a0 s.1 s.2) (a1,0)
noncomputable def zcb (a0:List zaa) (a1:List UInt8) (a2:zaJ):Option (Bool):=
 if(decide ((a1.length:Int)>1048576))then
  some true
 else
  (zdE a0 1048576).bind fun v1=>
  if(decide (v1<0))then
   some true
  else
   (zdb a2 v1).bind fun v2=>
   if(decide (v2<0))then
    some true
   else
    (zbT a0).bind fun v3=>
    (zbz a2).bind fun v4=>
    (zeM v3 a1 v4).bind fun v5=>
    (zbT a0).bind fun v6=>
    (zbz a2).bind fun v7=>
    (zdG v6 a1 v7).bind fun v8=>
    (zdn v8.1 v5.1).bind fun v9=>
    if((!v9)||(v8.2 !=v5.2))then
     some false
    else
     (zbT a0).bind fun v10=>
     (zdy v6 v10).bind fun v11=>
     if(!v11)then
      some false
     else
      (zbz a2).bind fun v12=>
      (zdd v7 v12).bind fun v13=>
      if(!v13)then
       some false
      else
       (zec v6 1).bind fun v14=>
       (zcN v7 v14.1).bind fun v15=>
       if(decide (v15.1<0))then
        some false
       else
        (zdn v8.1 v5.1).bind fun v16=>
        if((!v16)||(v8.2 !=v5.2))then
         some false
        else
         (zfq v8.1 1).bind fun v17=>
         (zeq v17.2 1).bind fun v18=>
         if(decide (v18<0))then
          some false
         else
          if(v18 !=v17.1)then
           some false
          else
           (zbT a0).bind fun v19=>
           (zbz a2).bind fun v20=>
           (zdG v19 a1 v20).bind fun v21=>
           (zdn v21.1 v5.1).bind fun v22=>
           if((!v22)||(v21.2 !=v5.2))then
            some false
           else
            (zeq v17.2 1).bind fun v23=>
            if(decide (v23<0))then
             some false
            else
             if(v23 !=v17.1)then
              some false
             else
              some true
end Go.Proofs.YtfkblfjloegahaaGreat
end
section
namespace Go.Proofs.YtfkblfjloegahaaGreat
open Go.RowKit
theorem zai {α:Type} {xs:List α} {i:Nat} (h:i<xs.length):zbD xs (i:Int)=some xs[i]:=by simp [zbD,h]
theorem zr0 {α:Type} {xs:List α} {i:Int} (h0:0≤i) (h:i<xs.length): ∃x,zbD xs i=some x∧x∈xs∧xs[i.toNat]?=some x:=by
 have hi:i.toNat<xs.length:=by omega
 exact⟨xs[i.toNat],by simp [zbD,h0,hi],List.getElem_mem hi,by simp [hi]⟩
theorem ztr {α:Type} {xs:List α} {i:Int} {x:α} (h:zbD xs i=some x):x∈xs:=by
 obtain⟨h1,h2,h3⟩:=zo9 h
 exact List.mem_of_getElem? h3
theorem zb7 {q n:Nat} (h:q<n) (hn:n≤9223372036854775807):IntKind.i64.wrap ((q:Int)+1)=((q+1:Nat):Int):=by rw [zbr (by omega) (by omega)];simp
theorem zau {α:Type} {p:Prop} {k:Option α} (h:p):req p k=k:=by simp [req,h]
def goL {α σ β:Type} (step:α→σ→Option (σ ⊕ Option β)) (fin:σ→Option β):List α→σ→Option β
 | [],s=>fin s
 |x::xs,s=>match step x s with
  |none=>none
  |some (.inl s')=>goL step fin xs s'
  |some (.inr o)=>o
def zn2 {σ τ β:Type} (f:σ→τ):Option (σ ⊕ Option β)→Option (τ ⊕ Option β)
 |none=>none
 |some (.inl s)=>some (.inl (f s))
 |some (.inr o)=>some (.inr o)
theorem zrp {α σ τ β:Type} {xs:List α} {body:τ→Option (τ ⊕ Option β)} (emb:Int→σ→τ) (step:α→σ→Option (σ ⊕ Option β)) (fin:σ→Option β) (q0:Nat)
  (hs: ∀(i:Nat) (hi:i<xs.length) (s:σ),q0≤i→body (emb i s)=zn2 (emb ((i+1:Nat):Int)) (step xs[i] s)) (he: ∀s,body (emb xs.length s)=some (.inr (fin s))) (s:σ) (h0:q0≤xs.length):zay body (emb q0 s)=goL step fin (xs.drop q0) s:=by
 have key: ∀(n q:Nat) (s:σ),q0≤q→q+n=xs.length→zay body (emb q s)=goL step fin (xs.drop q) s:=by
  intro n
  induction n with
  |zero=>
   intro q s _ hq
   have:q=xs.length:=by omega
   subst this
   rw [zaO,he s]
   simp [goL]
  |succ n ih=>
   intro q s h0 hq
   have hlt:q<xs.length:=by omega
   rw [zaO,hs q hlt s h0,List.drop_eq_getElem_cons hlt]
   rcases hst:step xs[q] s with _|s'|o
   ·simp [goL,hst,zn2]
   ·simp only [goL,hst,zn2];exact ih (q+1) s' (by omega) (by omega)
   ·simp [goL,hst,zn2]
 exact key (xs.length-q0) q0 s (Nat.le_refl _) (by omega)
theorem zkG {α σ τ β:Type} {xs:List α} {body:τ→Option (τ ⊕ Option β)} (emb:Int→σ→τ) (step:α→σ→Option (σ ⊕ Option β)) (fin:σ→Option β)
  (hs: ∀(i:Nat) (hi:i<xs.length) (s:σ),body (emb i s)=zn2 (emb ((i+1:Nat):Int)) (step xs[i] s)) (he: ∀s,body (emb xs.length s)=some (.inr (fin s))) (s:σ):zay body (emb 0 s)=goL step fin xs s:=by
 have:=zrp emb step fin 0 (fun i hi s _=>hs i hi s) he s (by omega)
 simpa using this
theorem zqJ {α σ β:Type} {step:α→σ→Option (σ ⊕ Option β)} {fin:σ→Option β} {xs:List α} (p:α→Bool) (b:β) (h: ∀x∈xs,∀s,step x s=some (if p x=true then .inl s else .inr (some b))) (s:σ):goL step fin xs s=if xs.all p=true then fin s else some b:=by
 induction xs with
 |nil=>simp [goL]
 |cons x xs ih=>
  simp only [goL,h x (by simp) s]
  cases hp:p x with
  |true=>simp [hp,ih fun y hy=>h y (by simp [hy])]
  |false=>simp [hp]
theorem zsx {α σ β:Type} {step:α→σ→Option (σ ⊕ Option β)} {fin:σ→Option β} {xs:List α} (f:σ→α→σ) (I:σ→Prop) (hI: ∀x∈xs,∀s,I s→I (f s x)) (h: ∀x∈xs,∀s,I s→step x s=some (.inl (f s x))) {s:σ} (hs:I s):goL step fin xs s=fin (xs.foldl f s):=by
 induction xs generalizing s with
 |nil=>simp [goL]
 |cons x xs ih=>
  simp only [goL,h x (by simp) s hs,List.foldl_cons]
  exact ih (fun y hy=>hI y (by simp [hy])) (fun y hy=>h y (by simp [hy])) (hI x (by simp) s hs)
theorem zvr {α σ β:Type} {step:α→σ→Option (σ ⊕ Option β)} {fin:σ→Option β} (f:σ→α→σ) (n:Nat) (I:Nat→σ→Prop) {xs:List α} (h: ∀q,q<n→ ∀x∈xs,∀s,I q s→step x s=some (.inl (f s x))∧I (q+1) (f s x)) {q:Nat} {s:σ} (hq:q+xs.length≤n) (hs:I q s):goL step fin xs s=fin (xs.foldl f s)∧I (q+xs.length) (xs.foldl f s):=by
 induction xs generalizing s q with
 |nil=>exact⟨rfl,hs⟩
 |cons x xs ih=>
  simp only [List.length_cons]at hq
  obtain⟨h1,h2⟩:=h q (by omega) x (by simp) s hs
  simp only [goL,h1,List.foldl_cons,List.length_cons]
  have:=ih (fun q hq y hy=>h q hq y (by simp [hy])) (q:=q+1) (by omega) h2
  rw [show q+(xs.length+1)=q+1+xs.length by omega]
  exact this
theorem zh1 {α σ τ β:Type} {xs:List α} {body:τ→Option (τ ⊕ Option β)} (emb:Int→σ→τ) (f:σ→α→σ) (fin:σ→Option β) (I:Nat→σ→Prop)
  (hs: ∀(i:Nat) (hi:i<xs.length) (s:σ),I i s→body (emb i s)=some (.inl (emb ((i+1:Nat):Int) (f s xs[i])))∧I (i+1) (f s xs[i])) (he: ∀s,I xs.length s→body (emb xs.length s)=some (.inr (fin s))) {s:σ} (h0:I 0 s):zay body (emb 0 s)=fin (xs.foldl f s)∧I xs.length (xs.foldl f s):=by
 have key: ∀(n q:Nat) (s:σ),q+n=xs.length→I q s→zay body (emb q s)=fin ((xs.drop q).foldl f s)∧I xs.length ((xs.drop q).foldl f s):=by
  intro n
  induction n with
  |zero=>
   intro q s hq hI
   have:q=xs.length:=by omega
   subst this
   rw [zaO,he s hI]
   simp [hI]
  |succ n ih=>
   intro q s hq hI
   have hlt:q<xs.length:=by omega
   obtain⟨h1,h2⟩:=hs q hlt s hI
   rw [zaO,h1,List.drop_eq_getElem_cons hlt,List.foldl_cons]
   exact ih (q+1) _ (by omega) h2
 have:=key xs.length 0 s (by omega) h0
 simpa using this
theorem zum {α:Type} {xs:List α} {p:α→Option Bool} (q:α→Bool) (hp: ∀x∈xs,p x=some (q x)) (hn:xs.length≤9223372036854775806):zcE xs p=some (xs.any q):=by
 have key: ∀(l:List α) (i:Int),0≤i→(∀x∈l,p x=some (q x))→ ∃r,zk1 p l i=some r∧decide (r≥0)=l.any q:=by
  intro l
  induction l with
  |nil=>intro i _ _;exact⟨-1,rfl,by simp⟩
  |cons x l ih=>
   intro i hi h
   simp only [zk1,h x (by simp),Option.bind_some]
   cases hq:q x with
   |true=>exact⟨i,by simp,by simp [hq,hi]⟩
   |false=>
    obtain⟨r,h1,h2⟩:=ih (i+1) (by omega) fun y hy=>h y (by simp [hy])
    exact⟨r,by simp [h1],by simp [hq,h2]⟩
 obtain⟨r,h1,h2⟩:=key xs 0 (by omega) hp
 simp [zcE,zbj,zau hn,h1,h2]
theorem zpF {α:Type} {b:Nat} {xs:List α} (h:(xs.length:Int)*b≤140737488355328) (h2:(xs.length:Int)≤140737488355328):zky b xs=some xs:=zau ⟨h,h2⟩
theorem zfJ {β:Type} {n:Nat} {body:Int→Option (Int ⊕ Option β)} (p:Nat→Bool) (b:β) (fin:Option β)
  (hs: ∀i:Nat,i<n→body i=some (if p i=true then .inl ((i+1:Nat):Int)else .inr (some b))) (he:body n=some (.inr fin)):zay body 0=if(List.range n).all p=true then fin else some b:=by
 have h1:=zkG (xs:=List.range n) (body:=body) (fun i (_:Unit)=>i) (fun i _=>some (if p i=true then .inl ()else .inr (some b))) (fun _=>fin)
  (fun i hi s=>by
   rw [List.length_range]at hi
   rw [hs i hi,List.getElem_range]
   cases p i<;>simp [zn2]) (fun s=>by simpa using he) ()
 rw [zqJ p b fun x _ s=>rfl]at h1
 exact h1
def zfb {α:Type} (p:α→Bool) (l:List α):Int:=match l.findIdx? p with|some i=>(i:Int)|none=> -1
theorem zh6 {α:Type} (p:α→Bool):zfb p []= -1:=rfl
theorem zgL {α:Type} (p:α→Bool) (x:α) (l:List α):zfb p (x::l)=if p x=true then 0 else if zfb p l= -1 then-1 else zfb p l+1:=by
 unfold zfb
 rw [List.findIdx?_cons]
 cases p x with
 |true=>simp
 |false=>
  cases h:l.findIdx? p with
  |none=>simp
  |some i=>simp<;>omega
theorem zjT {α:Type} (p:α→Bool) (l:List α): -1≤zfb p l:=by
 unfold zfb
 split<;>omega
theorem zxj {α:Type} (p:α→Bool) (l:List α):zfb p l<l.length:=by
 induction l with
 |nil=>simp [zh6]
 |cons x l ih=>rw [zgL];split<;>(try split)<;>simp<;>omega
theorem zhN {α:Type} (p:α→Bool) (l:List α):decide (zfb p l≥0)=l.any p:=by
 induction l with
 |nil=>simp [zh6]
 |cons x l ih=>
  have h1:=zjT p l
  rw [zgL,List.any_cons,←ih]
  cases p x with
  |true=>simp
  |false=>
   by_cases h:zfb p l= -1
   ·simp [h]
   ·have:zfb p l≥0:=by omega
    simp [h,this];try omega
theorem zpd {α:Type} {p:α→Bool} {l:List α} (h:zfb p l≥0): ∃x,zbD l (zfb p l)=some x∧p x=true∧x∈l:=by
 induction l with
 |nil=>simp [zh6]at h
 |cons y l ih=>
  rw [zgL]at h ⊢
  cases hy:p y with
  |true=>exact⟨y,by simp [zbD],hy,by simp⟩
  |false=>
   have h1:=zjT p l
   by_cases hm:zfb p l= -1
   ·rw [hy,hm]at h;simp at h
   ·have h0:zfb p l≥0:=by omega
    obtain⟨x,e1,e2,e3⟩:=ih h0
    obtain⟨_,e4,e5⟩:=zo9 e1
    refine⟨x, ?_,e2,by simp [e3]⟩
    simp only [Bool.false_eq_true,if_false,hm]
    unfold zbD
    rw [if_pos (by omega),show(zfb p l+1).toNat=(zfb p l).toNat+1 by omega]
    simpa using e5
theorem zmf {α:Type} {xs:List α} {body:Int→Option (Int ⊕ Option Int)} (p:α→Bool) (hs: ∀(i:Nat) (hi:i<xs.length),body i=some (if p xs[i]=true then .inr (some (i:Int))else .inl ((i+1:Nat):Int))) (he:body xs.length=some (.inr (some (-1)))):zay body 0=some (zfb p xs):=by
 have key: ∀(n q:Nat),q+n=xs.length→zay body q=some (if zfb p (xs.drop q)= -1 then-1 else q+zfb p (xs.drop q)):=by
  intro n
  induction n with
  |zero=>
   intro q hq
   have:q=xs.length:=by omega
   subst this
   rw [zaO,he]
   simp [zh6]
  |succ n ih=>
   intro q hq
   have hlt:q<xs.length:=by omega
   rw [zaO,hs q hlt,List.drop_eq_getElem_cons hlt,zgL]
   cases p xs[q]with
   |true=>simp
   |false=>
    simp only [Bool.false_eq_true,if_false]
    rw [ih (q+1) (by omega)]
    have h1:=zjT p (xs.drop (q+1))
    congr 1
    by_cases hm:zfb p (xs.drop (q+1))= -1
    ·simp [hm]
    ·have h2: ¬(zfb p (xs.drop (q+1))+1= -1):=by omega
     simp only [hm,if_false,h2]
     omega
 have h:=key xs.length 0 (by omega)
 rw [List.drop_zero]at h
 rw [show((0:Nat):Int)=0 from rfl]at h
 rw [h]
 have h1:=zjT p xs
 by_cases hm:zfb p xs= -1
 ·simp [hm]
 ·simp [hm]
theorem zod {α:Type} {xs:List α} {p:α→Option Bool} (q:α→Bool) (hp: ∀x∈xs,p x=some (q x)) (hn:xs.length≤9223372036854775806):zbj xs p=some (zfb q xs):=by
 have key: ∀(l:List α) (i:Int),(∀x∈l,p x=some (q x))→zk1 p l i=some (if zfb q l= -1 then-1 else i+zfb q l):=by
  intro l
  induction l with
  |nil=>intro i _;simp [zk1,zh6]
  |cons x l ih=>
   intro i h
   simp only [zk1,h x (by simp),Option.bind_some,zgL]
   cases q x with
   |true=>simp
   |false=>
    simp only [Bool.false_eq_true,if_false]
    rw [ih (i+1) fun y hy=>h y (by simp [hy])]
    have h1:=zjT q l
    congr 1
    by_cases hm:zfb q l= -1
    ·simp [hm]
    ·have h2: ¬(zfb q l+1= -1):=by omega
     simp only [hm,if_false,h2]
     omega
 unfold zbj
 rw [zau hn,key xs 0 hp]
 by_cases hm:zfb q xs= -1
 ·simp [hm]
 ·simp [hm]
theorem zyR {α:Type} {b:Bool} {A B:Option α} {y:Option α} (ha:b=true→A=y) (hb:b=false→B=y):(if b=true then A else B)=y:=by
 cases b with
 |true=>simpa using ha rfl
 |false=>simpa using hb rfl
theorem zyQ {α:Type} {b:Bool} {A B y:Option α} (h:b=false) (hb:B=y):(if b=true then A else B)=y:=by rw [if_neg (by simp [h])];exact hb
theorem zyN {α:Type} {b:Bool} {A B y:Option α} (h:b=true) (ha:A=y):(if b=true then A else B)=y:=by rw [if_pos h];exact ha
theorem zuf {α β:Type} {o:Option α} {x:α} {f:α→Option β} (h:o=some x):o.bind f=f x:=by rw [h];rfl
end Go.Proofs.YtfkblfjloegahaaGreat
end
section
namespace Go.Proofs.YtfkblfjloegahaaGreat
open Go.RowKit
set_option maxRecDepth 100000
theorem zsk {α β:Type} (f:α→β) (l:List α) (o:List β):l.foldl (fun o x=>o++ [f x]) o=o++l.map f:=by
 induction l generalizing o with
 |nil=>simp
 |cons x l ih=>rw [List.foldl_cons,ih];simp
theorem zn5 {α:Type} {xs:List α} {d:α} {body:Int × List α→Option ((Int × List α) ⊕ Option (List α))}
  (hs: ∀(i:Nat) (hi:i<xs.length) (v:List α),v.length=xs.length→body ((i:Int),v)=some (.inl (((i+1:Nat):Int),v.set i xs[i])))
  (he: ∀v,body ((xs.length:Int),v)=some (.inr (some v))):zay body (0,List.replicate xs.length d)=some xs:=by
 have h1:=zh1 (xs:=xs) (body:=body) (fun i (o:List α)=>(i,o++List.replicate (xs.length-i.toNat) d)) (fun(o:List α) x=>o++ [x]) (fun o=>some o) (fun i o=>o.length=i)
  (fun i hi o ho=>by
   refine⟨?_,by simp [ho]⟩
   rw [show((i:Int)).toNat=i from rfl,hs i hi _ (by simp [ho];omega)]
   congr 3
   obtain⟨k,hk⟩: ∃k,xs.length-i=k+1:=⟨xs.length-i-1,by omega⟩
   have h2:xs.length-(((i+1:Nat):Int)).toNat=k:=by rw [show(((i+1:Nat):Int)).toNat=i+1 from rfl];omega
   rw [h2,hk,List.replicate_succ]
   subst ho
   simp [List.set_append])
  (fun o ho=>by
   show body ((xs.length:Int),o++List.replicate (xs.length-((xs.length:Int)).toNat) d)=_
   rw [show((xs.length:Int)).toNat=xs.length from rfl,Nat.sub_self,List.replicate_zero,List.append_nil]
   exact he o) (s:=([]:List α)) rfl
 have h3:=h1.1
 rw [show(fun(o:List α) x=>o++ [x])=(fun o x=>o++ [id x])from rfl,zsk,List.map_id,List.nil_append]at h3
 exact h3
theorem zl2 {n:Nat} {body:Int→Option (Int ⊕ Option Bool)} (hs: ∀i:Nat,i<n→body i=some (.inl ((i+1:Nat):Int))) (he:body n=some (.inr (some true))):zay body 0=some true:=by
 have h:=zfJ (n:=n) (body:=body) (fun _=>true) false (some true) (fun i hi=>by rw [hs i hi,if_pos rfl]) he
 rw [h,if_pos (by simp)]
theorem zxV {α:Type} {xs:List α} {body:Int × Int→Option ((Int × Int) ⊕ Option Int)} (P:α→Prop) {a:Int} (h0:0≤a) (h1:a≤1048576)
  (hs: ∀(i:Nat) (hi:i<xs.length) (b:Int),0≤b→b≤1048576→ ∃r,r≤b∧(0≤r→P xs[i])∧body (b,(i:Int))=some (if r<0 then .inr (some (-1))else .inl (r,((i+1:Nat):Int))))
  (he: ∀b,body (b,(xs.length:Int))=some (.inr (some b))): ∃v,zay body (a,0)=some v∧v≤a∧(0≤v→ ∀x∈xs,P x):=by
 have key: ∀(n q:Nat) (b:Int),q+n=xs.length→0≤b→b≤1048576→ ∃v,zay body (b,(q:Int))=some v∧v≤b∧(0≤v→ ∀x∈xs.drop q,P x):=by
  intro n
  induction n with
  |zero=>
   intro q b hq _ _
   have:q=xs.length:=by omega
   subst this
   exact⟨b,by rw [zaO,he b],by omega,by simp⟩
  |succ n ih=>
   intro q b hq hb0 hb1
   have hlt:q<xs.length:=by omega
   obtain⟨r,e1,e2,e3⟩:=hs q hlt b hb0 hb1
   by_cases hr:r<0
   ·exact⟨-1,by rw [zaO,e3,if_pos hr],by omega,by omega⟩
   ·obtain⟨v,f1,f2,f3⟩:=ih (q+1) r (by omega) (by omega) (by omega)
    refine⟨v,by rw [zaO,e3,if_neg hr];exact f1,by omega,fun hv x hx=> ?_⟩
    rw [List.drop_eq_getElem_cons hlt]at hx
    rcases List.mem_cons.1 hx with hx|hx
    ·subst hx;exact e2 (by omega)
    ·exact f3 hv x hx
 have:=key xs.length 0 a (by omega) h0 h1
 simpa using this
theorem zdz {a:Int} {n:Nat} (h0:0≤a) (h1:a≤1048576) (hn:n≤9223372036854775807):IntKind.i64.wrap (a-(n:Int))=a-n:=zbr (by omega) (by omega)
end Go.Proofs.YtfkblfjloegahaaGreat
end

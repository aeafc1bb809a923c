/- Parts of a proof, joined: DA, DB, MA, MB, OB, OG, QA, QO, NA, NE, HB, MC, SP, HL, IA, IC, IB, SB, SW, SQ, PK, SI. -/
import Derived.Test.YthgeekoigbihbaaJ6
import Derived.Test.YthgeekoigbihbaaChecked
import Derived.Shelf.Small.Bits
import Derived.Shelf.Small.Strs
import Derived.Shelf.Small.Wraps
import Derived.Shelf.Strconv.Itoa0
import Derived.Shelf.Strings.Search1
import Derived.Ground.Names2Prog
import Derived.Shelf.Slices.SearchI
import Derived.Test.YthgeekoigbihbaaProg
import Derived.Laws.CopyRow
import Derived.Lib.AppendZerosOnto
import Derived.Lib.Overlaps
import Derived.Deep.RegionLaw
import Derived.Shelf.GgSortFunc.InsertionK
import Derived.StillTailTactics
import Derived.Deep.QuietTactic
import Derived.Sort.Grow
import Derived.Shelf.SlGeneric
import Derived.Shelf.SlLaysF0
import Derived.Ground.SlsfProg
import Derived.Shelf.SlSortCmp.NoneTotal
section
namespace Go.Proofs.Ythgeekoigbihbaa
open Go.RowKit
noncomputable def flT (t:TypeId):List Bool:=(zak Try.prog t).map fun u=>match zcI Try.prog u with|some e=>zdr Try.prog e|none=>false
noncomputable def zvJ (u:TypeId):List Bool:=if u=82 then []else flT u
noncomputable def zw1 (fn:Func):Sig:={modes:=fn.params.toList.map fun t=>match zsB Try.prog t with|some u=> .bx (zvJ u) (zvJ u)|none=> .ro,res:=fn.resultTypes.toList.flatMap flT}
noncomputable def zv3 (f:Nat):Option Sig:=
 match f with
 |5=>some {modes:= [],res:= [false],dp:=true}
 |14=>some {modes:= [.mu [false,true], .ro],res:= []}
 |15=>some {modes:= [.mu [false,false,true], .ro],res:= []}
 |18=>some {modes:= [],res:= []}
 |21=>some {modes:= [.ro, .ro, .ro],res:= []}
 |25=>some {modes:= [],res:= [true],dp:=true}
 |27=>some {modes:= [.mu [true], .ro],res:= [],dp:=true}
 |39=>some {modes:= [.va [true], .ro],res:= [true]}
 |40=>some {modes:= [.va [true], .ro],res:= [true],wn:=true}
 |44=>some {modes:= [.mu [true], .ro],res:= []}
 |45=>some {modes:= [.mu [true], .ro],res:= []}
 |52=>some {modes:= [.va [false,false,true]],res:= [false,false,true,false]}
 |55=>some {modes:= [.ro],res:= []}
 |56=>some {modes:= [.ro, .ro, .ro, .ro],res:= []}
 |63=>some {modes:= [.mu [true], .ro],res:= []}
 |78=>some {modes:= [.va [true], .ro, .va [true]],res:= [true]}
 |87=>some {modes:= [.mu [true], .ro],res:= []}
 |90=>some {modes:= [.ro, .ro],res:= []}
 |118=>some {modes:= [.mu [true], .ro, .ro, .ro, .ro],res:= []}
 |137=>some {modes:= [.mu [true], .ro, .ro, .ro],res:= []}
 |138=>some {modes:= [.mu [true], .ro, .ro, .ro],res:= []}
 |139=>some {modes:= [.mu [true], .ro, .ro, .ro],res:= []}
 |140=>some {modes:= [.mu [true], .ro, .ro, .ro],res:= []}
 |141=>some {modes:= [.mu [true], .ro, .ro, .ro],res:= []}
 |142=>some {modes:= [.mu [true], .ro, .ro, .ro],res:= []}
 |143=>some {modes:= [.mu [true], .ro, .ro, .ro, .ro],res:= []}
 |144=>some {modes:= [.mu [true], .ro, .ro, .ro, .ro],res:= []}
 |149=>some {modes:= [.mu [true]],res:= []}
 |153=>some {modes:= [.mu [true], .ro, .ro, .ro, .ro],res:= []}
 |156=>some {modes:= [.mu [true], .ro, .bx [false] [false], .ro],res:= []}
 |157=>some {modes:= [.mu [true], .ro, .ro, .ro, .bx [false] [false], .ro],res:= []}
 |159=>some {modes:= [.mu [true], .ro, .ro, .bx [false] [false], .ro],res:= []}
 |_=>none
noncomputable def zxY (f:Nat):Option Sig:=match Try.prog.funcs[f]? with
 |some fn=>some ((zv3 f).getD (zw1 fn))
 |none=>none
noncomputable def sgs:SgT:={f:=zxY}
theorem zv0:Try.prog.follows .mixedOrders=true:=by kernel_rfl
theorem zyz:Try.prog.funcs.size<1000000:=by
 have:(decide (Try.prog.funcs.size<1000000))=true:=by kernel_rfl
 exact of_decide_eq_true this
theorem zmb (f:Nat) (s:Sig) (h:sgs f=some s):f<1000000:=by
 simp only [sgs]at h
 unfold zxY at h
 split at h
 ·rename_i fn hf
  have:=(Array.getElem?_eq_some_iff.1 hf).1
  exact Nat.lt_trans this zyz
 ·cases h
def zwO (P:Program) (sg:SgT) (f:Nat) (xs:List AV) (r:AV):Bool:=
 match P.funcs[f]?,sg f with
 |some fn,some s=> !(fn.name== "runtime.NumGoroutine")&&zgQ P fn s r&&xs.length==fn.params.size+fn.nfree
 |_,_=>false
abbrev Den (t:Tr) (r:AV) (xs:List AV):Prop:=t.den (Rts Try.prog sgs) (fun r'=>r'=r) (fun _ _ _ _=>False) [] xs
theorem zkK {f:Nat} {t:Tr} {xs:List AV} {r:AV} (hc:zvV Try.prog sgs f=some t) (hk:zwO Try.prog sgs f xs r=true) (hd:Den t r xs):Rts Try.prog sgs f xs r:=by
 unfold zwO at hk
 split at hk
 ·rename_i fn s hf hs
  simp only [Bool.and_eq_true,Bool.not_eq_true',beq_iff_eq]at hk
  unfold Rts
  rw [if_pos (zmb f s hs)]
  exact⟨s,hs,ztr zv0 zmb hf hs hk.1.1 hc hk.1.2 hk.2 hd⟩
 ·cases hk
section
variable {Rt:Nat→List AV→AV→Prop} {R:AV→Prop} {L:LK} {js:List JK} {ρ:List AV}
theorem zmr {i:EL} {b k:Tr} (hL:zju L) (I:Nat→List AV→Prop) {m:Nat} (h0:I m (i.den ρ)) (hstep: ∀m vs,I m vs→b.den Rt R L ((fun us=> ∃m',m'<m∧I m' us)::(fun us=>k.den Rt R L js (ρ++us))::js) (ρ++vs)):(Tr.loop i b k).den Rt R L js ρ:=by
 have hb: ∀W W':JK,(∀vs,W vs→W' vs)→ ∀vs,b.den Rt R L (W::(fun us=>k.den Rt R L js (ρ++us))::js) (ρ++vs)→b.den Rt R L (W'::(fun us=>k.den Rt R L js (ρ++us))::js) (ρ++vs):=
  fun W W' hW vs hv=>b.den_js hL hv (.cons hW (JLe.refl _))
 have mono: ∀n vs,zjk (fun W vs=>b.den Rt R L (W::(fun us=>k.den Rt R L js (ρ++us))::js) (ρ++vs)) n vs→ ∀n',n≤n'→zjk (fun W vs=>b.den Rt R L (W::(fun us=>k.den Rt R L js (ρ++us))::js) (ρ++vs)) n' vs:=by
  intro n
  induction n with
  |zero=>intro vs h;exact h.elim
  |succ n ih=>
   intro vs h n' hn
   cases n' with
   |zero=>omega
   |succ n'=>exact hb _ _ (fun us hu=>ih us hu n' (by omega)) vs h
 have key: ∀m vs,I m vs→zjk (fun W vs=>b.den Rt R L (W::(fun us=>k.den Rt R L js (ρ++us))::js) (ρ++vs)) (m+1) vs:=by
  intro m
  induction m using Nat.strongRecOn with
  |_ m ih=>
   intro vs hI
   exact hb _ _ (fun us ⟨m',hm,hu⟩=>mono _ _ (ih m' hm us hu) m (by omega)) vs (hstep m vs hI)
 exact⟨m+1,key m _ h0⟩
theorem zgb:zju (fun _ _ _ _=>False):=fun _ _ _ _ _ _ h=>h
end
@[simp] theorem zx5 (ρ:List AV):zcC ρ []↔True:=⟨fun _=>trivial,fun _=>zbo ρ⟩
@[simp] theorem zxm (ρ:List AV) (x:E) (b:Bool) (gs:Gd):zcC ρ ((x,b)::gs)↔x.den ρ= .bool b∧zcC ρ gs:=
 ⟨fun h=>⟨h (x,b) (by simp),fun g hg=>h g (by simp [hg])⟩,fun h g hg=>by rcases List.mem_cons.1 hg with rfl|hg;exact h.1;exact h.2 g hg⟩
attribute [simp] E.den EL.den Cn.den AV.fld AV.proj AV.deref AV.len AV.slen AV.idx AV.nth AV.notB AV.negI AV.conv AV.bin AV.bbin AV.sbin AV.app AV.setNth AV.rep
@[simp] theorem zvC (cs:List AV):(AV.agg cs).cells=cs:=rfl
@[simp] theorem zwi (k:IntKind) (n:Int):(AV.int k n).cells= [.int k n]:=rfl
@[simp] theorem zvx (b:Bool):(AV.bool b).cells= [.bool b]:=rfl
@[simp] theorem zvT (s:List UInt8):(AV.str s).cells= [.str s]:=rfl
@[simp] theorem zwQ (xs:List AV):(AV.sl xs).cells= [.sl xs]:=rfl
@[simp] theorem zvn (k:IntKind) (n:Int):(AV.int k n).scalar=true:=rfl
@[simp] theorem zu6 (b:Bool):(AV.bool b).scalar=true:=rfl
@[simp] theorem zvs (s:List UInt8):(AV.str s).scalar=true:=rfl
@[simp] theorem zxd (b c d:Bool):AV.cond (.bool b) (.bool c) (.bool d)= .bool (bif b then c else d):=by cases b<;>rfl
theorem zob {y:AV} (h:y.scalar=true):y.cells= [y]:=by cases y<;>first|rfl|simp [AV.scalar]at h
theorem za0 {n:Int} (h1: -9223372036854775808≤n) (h2:n≤9223372036854775807):IntKind.i64.wrap n=n:=by
 rw [IntKind.wrap_i64];omega
end Go.Proofs.Ythgeekoigbihbaa
end
section
namespace Go.Proofs.Ythgeekoigbihbaa
open Go.RowKit
section
variable {Rt:Nat→List AV→AV→Prop} {R:AV→Prop} {L:LK} {js:List JK} {ρ:List AV}
theorem zax {gs:Gd} {c:Cn} {k:Tr} (h:zcC ρ gs→c.den ρ) (hk:k.den Rt R L js ρ):(Tr.chk gs c k).den Rt R L js ρ:=⟨h,hk⟩
theorem zjI {gs:Gd} {f:Nat} {args:EL} {k:Tr} {r:AV} (h:zcC ρ gs→Rt f (args.den ρ) r) (hk:k.den Rt R L js (ρ++ [r])):(Tr.call gs (.inl f) args k).den Rt R L js ρ:=⟨r,h,hk⟩
theorem zjZ {gs:Gd} {x:E} {args:EL} {k:Tr} {r:AV} (h:zcC ρ gs→ ∃g caps,x.den ρ= .fn g caps∧Rt (1000000+g) (args.den ρ++caps) r∧ ∀y∈r.cells,y.scalar=true) (hk:k.den Rt R L js (ρ++ [r])):(Tr.call gs (.inr x) args k).den Rt R L js ρ:=⟨r,h,hk⟩
theorem zby {c:E} {a b:Tr} {t:Bool} (h:c.den ρ= .bool t) (ha:t=true→a.den Rt R L js ρ) (hb:t=false→b.den Rt R L js ρ):(Tr.ite c a b).den Rt R L js ρ:=⟨t,h,ha,hb⟩
theorem zeC {r:E} (h:R (r.den ρ)):(Tr.ret r).den Rt R L js ρ:=h
theorem zgR {es:EL} {j:JK} (h:j (es.den ρ)):(Tr.jmp 0 es).den Rt R L (j::js) ρ:=h
theorem zjG {es:EL} {i j:JK} (h:j (es.den ρ)):(Tr.jmp 1 es).den Rt R L (i::j::js) ρ:=h
theorem zum {i:EL} {b k:Tr} (hL:zju L) (n:Nat) (st:Nat→List AV) (h0:i.den ρ=st 0) (hb: ∀q,q≤n→ ∀W:JK,(q<n→W (st (q+1)))→b.den Rt R L (W::(fun us=>k.den Rt R L js (ρ++us))::js) (ρ++st q)):(Tr.loop i b k).den Rt R L js ρ:=by
 refine zmr hL (fun m vs=> ∃q,q+m=n∧vs=st q) (m:=n) ⟨0,by omega,h0⟩ ?_
 rintro m vs ⟨q,hq,rfl⟩
 exact hb q (by omega) _ fun hlt=>⟨m-1,by omega,q+1,by omega,rfl⟩
end
theorem E.den_app_nil:True:=trivial
def tSz:Tr:=
 .chk [] (.dfd (.len (.var 0)))<|
 .chk [] (.dfd (.bin .sub (.var 1) (.len (.var 0))))<|
 .chk [] (.dfd (.bin .lss (.bin .sub (.var 1) (.len (.var 0))) (.int .i64 (0))))<|
 .ite (.bin .lss (.bin .sub (.var 1) (.len (.var 0))) (.int .i64 (0))) (
  .ret (.int .i64 (-1))) (
  .ret (.bin .sub (.var 1) (.len (.var 0))))
def zx6 (n:Nat) (k:Int):Int:=if k-n<0 then-1 else k-n
theorem zxL {xs:List AV} {k:Int} (hk:0≤k) (hk2:k≤9223372036854775807) (hn:xs.length≤9223372036854775807):Den tSz (.int .i64 (zx6 xs.length k)) [.sl xs, .int .i64 k]:=by
 have hw:IntKind.i64.wrap (k-xs.length)=k-xs.length:=za0 (by omega) (by omega)
 unfold Den tSz
 by_cases h:k-xs.length<0<;>simp [Tr.den,zaz,hw,h,zx6]
def zxJ (f cn:Nat):Tr:=
 .chk [] (.dfd (.len (.var 0)))<|
 .chk [] (.dfd (.len (.var 1)))<|
 .ite (.bin .neq (.len (.var 0)) (.len (.var 1))) (
  .ret (.bool false)) (
  .loop (.cons (.int .i64 (0)) .nil) (
  .chk [] (.dfd (.len (.var 0)))<|
  .chk [] (.dfd (.bin .lss (.var 2) (.len (.var 0))))<|
  .ite (.bin .lss (.var 2) (.len (.var 0))) (
   .chk [] (.inb (.var 2) (.var 0) cn)<|
   .chk [] (.inb (.var 2) (.var 1) cn)<|
   .call [] (.inl f) (.cons (.fld (.idx (.var 0) (.var 2)) 0 cn true) (.cons (.fld (.idx (.var 1) (.var 2)) 0 cn true) .nil))<|
   .chk [] (.dfd (.not (.var 3)))<|
   .ite (.not (.var 3)) (
   .ret (.bool false)) (
   .chk [] (.dfd (.bin .add (.var 2) (.int .i64 (1))))<|
   .jmp 0 (.cons (.bin .add (.var 2) (.int .i64 (1))) .nil))) (
   .jmp 1 .nil)) (
  .ret (.bool true)))
def zpg (cn:Nat) (xs:List AV):Prop:= ∀x∈xs,∃cs,x= .agg cs∧cs.length=cn
theorem zpg.at {cn:Nat} {xs:List AV} (h:zpg cn xs) {q:Nat} (hq:q<xs.length): ∃cs,xs[q]= .agg cs∧cs.length=cn:=h _ (List.getElem_mem hq)
theorem zwA {f cn:Nat} {xs:List AV} (hs:zpg cn xs) (hn:xs.length≤9223372036854775806) (hf: ∀x∈xs,Rts Try.prog sgs f [x,x] (.bool true)):Den (zxJ f cn) (.bool true) [.sl xs, .sl xs]:=by
 unfold Den zxJ
 refine zax (by simp) (zax (by simp) (zby (t:=false) (by simp [zaz]) (by simp) fun _=> ?_))
 refine zum zgb xs.length (fun q=> [.int .i64 q]) (by simp) fun q hq W hW=> ?_
 by_cases hlt:q<xs.length
 ·obtain⟨cs,hc,hl⟩:=hs.at hlt
  have hx:(xs[(q:Int).toNat]?).getD .undef= .agg cs:=by simp [hlt,hc]
  have hin:Cn.den [AV.sl xs, .sl xs, .int .i64 q] (.inb (.var 2) (.var 0) cn):=⟨.i64,q,xs.length,by simp,by omega,by simp,by omega,by simp [hlt,hc,hl]⟩
  have hin1:Cn.den [AV.sl xs, .sl xs, .int .i64 q] (.inb (.var 2) (.var 1) cn):=⟨.i64,q,xs.length,by simp,by omega,by simp,by omega,by simp [hlt,hc,hl]⟩
  refine zax (by simp) (zax (by simp [zaz]) (zby (t:=true) (by simp [zaz,hlt]) (fun _=> ?_) (by simp)))
  refine zax (fun _=>hin) (zax (fun _=>hin1) (zjI (r:= .bool true) (fun _=> ?_) ?_))
  ·have:=hf xs[q] (List.getElem_mem hlt)
   rw [hc]at this
   simpa [hlt,hc,←hl]using this
  ·refine zax (by simp) (zby (t:=false) (by simp) (by simp) fun _=>zax (by simp [zaz]) (zgR ?_))
   have:=hW hlt
   simpa [zaz,za0 (n:=(q:Int)+1) (by omega) (by omega)]using this
 ·have hqe:q=xs.length:=by omega
  refine zax (by simp) (zax (by simp [zaz]) (zby (t:=false) (by simp [zaz];omega) (by simp) fun _=>zjG ?_))
  exact zeC (by simp)
end Go.Proofs.Ythgeekoigbihbaa
end
section
namespace Go.Proofs.Ythgeekoigbihbaa
open Go.RowKit
section
variable {Rt:Nat→List AV→AV→Prop} {R:AV→Prop} {L:LK} {js:List JK} {ρ:List AV} {α β σ τ:Type}
theorem zyh {gs:Gd} {c:Cn} {k:Tr} (h:zcC ρ gs→c.den ρ) (hk:k.den Rt R L js ρ):(Tr.chk gs c k).den Rt R L js ρ:=⟨h,hk⟩
theorem zye {c:E} {a b:Tr} {t:Bool} {A B:Option α} {r:α} (h:(if t=true then A else B)=some r) (hc:c.den ρ= .bool t) (ha:t=true→A=some r→a.den Rt R L js ρ) (hb:t=false→B=some r→b.den Rt R L js ρ):(Tr.ite c a b).den Rt R L js ρ:=
 ⟨t,hc,fun e=>ha e (by rwa [if_pos e]at h),fun e=>hb e (by rwa [if_neg (by simp [e])]at h)⟩
theorem zx3 {c:E} {a b:Tr} (hc:c.den ρ= .bool true) (ha:a.den Rt R L js ρ):(Tr.ite c a b).den Rt R L js ρ:=⟨true,hc,fun _=>ha,fun h=>Bool.noConfusion h⟩
theorem zxM {c:E} {a b:Tr} (hc:c.den ρ= .bool false) (hb:b.den Rt R L js ρ):(Tr.ite c a b).den Rt R L js ρ:=⟨false,hc,fun h=>Bool.noConfusion h,fun _=>hb⟩
theorem zwX {P:Prop} {t:Bool} {A B:Option α} {r:α} (h:(if t=true then A else B)=some r) (ha:t=true→A=some r→P) (hb:t=false→B=some r→P):P:=by
 cases t with
 |true=>exact ha rfl (by simpa using h)
 |false=>exact hb rfl (by simpa using h)
theorem zxI {gs:Gd} {f:Nat} {args:EL} {k:Tr} {o:Option α} {K:α→Option β} {r:β} (av:α→AV) (h:o.bind K=some r) (hR: ∀x,o=some x→Rt f (args.den ρ) (av x)) (hk: ∀x,o=some x→K x=some r→k.den Rt R L js (ρ++ [av x])):(Tr.call gs (.inl f) args k).den Rt R L js ρ:=by
 obtain⟨x,hx,hK⟩:=zjn h
 exact⟨av x,fun _=>hR x hx,hk x hx hK⟩
theorem zxi {gs:Gd} {x:E} {args:EL} {k:Tr} {o:Option α} {K:α→Option β} {r:β} {g:Nat} {caps:List AV} (av:α→AV) (h:o.bind K=some r) (hx:x.den ρ= .fn g caps) (hR: ∀x,o=some x→Rt (1000000+g) (args.den ρ++caps) (av x)) (hs: ∀x,∀y∈(av x).cells,y.scalar=true) (hk: ∀x,o=some x→K x=some r→k.den Rt R L js (ρ++ [av x])):(Tr.call gs (.inr x) args k).den Rt R L js ρ:=by
 obtain⟨y,hy,hK⟩:=zjn h
 exact⟨av y,fun _=>⟨g,caps,hx,hR y hy,hs y⟩,hk y hy hK⟩
theorem zxN {gs:Gd} {f:Nat ⊕ E} {args:EL} {k:Tr} (h: ¬zcC ρ gs) (hk:k.den Rt R L js (ρ++ [.undef])):(Tr.call gs f args k).den Rt R L js ρ:=⟨.undef,fun h'=>absurd h' h,hk⟩
theorem zys {e:E} {x y:α} {av:α→AV} (h:some x=some y) (he:e.den ρ=av x):(Tr.ret e).den Rt (fun r'=>r'=av y) L js ρ:=by
 cases h;exact he
theorem zyx {d:Nat} {es:EL} {j:JK} {emb:τ→List AV} {K:τ→Option α} {s:τ} {r:α} (hj: ∀s,K s=some r→j (emb s)) (h:K s=some r) (hd:js[d]?=some j) (he:es.den ρ=emb s):(Tr.jmp d es).den Rt R L js ρ:=by
 show match js[d]? with|some j=>j (es.den ρ)|none=>False
 rw [hd];show j (es.den ρ);rw [he];exact hj s h
theorem zxT {t k:Tr} {emb:τ→List AV} {K:τ→Option α} {r:α} (hK: ∀s,K s=some r→k.den Rt R L js (ρ++emb s)) (ht: ∀j:JK,(∀s,K s=some r→j (emb s))→t.den Rt R L (j::js) ρ):(Tr.join t k).den Rt R L js ρ:=
 ht _ hK
theorem zxp {t k:Tr} (ht: ∀j:JK,(∀vs,k.den Rt R L js (ρ++vs)→j vs)→t.den Rt R L (j::js) ρ):(Tr.join t k).den Rt R L js ρ:=ht _ fun _ h=>h
theorem zx8 {d:Nat} {es:EL} {j:JK} {P:List AV→Prop} (hj: ∀vs,P vs→j vs) (hd:js[d]?=some j) {vs:List AV} (he:es.den ρ=vs) (h:P vs):(Tr.jmp d es).den Rt R L js ρ:=by
 show match js[d]? with|some j=>j (es.den ρ)|none=>False
 rw [hd];show j (es.den ρ);rw [he];exact hj _ h
theorem zvI {i:EL} {b k:Tr} {body:σ→Option (σ ⊕ Option α)} {s0:σ} {r:α} (emb:σ→List AV) (h:zau body s0=some r) (h0:i.den ρ=emb s0)
  (hb: ∀(W A:JK) (s:σ) (o:σ ⊕ Option α),body s=some o→(∀s',some (Sum.inl s')=some o→W (emb s'))→(∀q,some (Sum.inr q)=some o→q=some r)→(∀vs,k.den Rt R L js (ρ++vs)→A vs)→b.den Rt R L (W::A::js) (ρ++emb s)):(Tr.loop i b k).den Rt R L js ρ:=by
 obtain⟨n,hn⟩:=zfK.1 h
 refine⟨n, ?_⟩
 rw [h0]
 clear h h0
 induction n generalizing s0 with
 |zero=>cases hn
 |succ n ih=>
  rcases ho:body s0 with _|s'|o
  ·simp [zeZ,ho]at hn
  ·have hn':zeZ body n s'=some r:=by simpa [zeZ,ho]using hn
   exact hb _ _ s0 _ ho (fun s2 h2=>by cases h2;exact ih hn') (fun q hq=>by cases hq) (fun _ h=>h)
  ·have hn':o=some r:=by simpa [zeZ,ho]using hn
   exact hb _ _ s0 _ ho (fun s2 h2=>by cases h2) (fun q hq=>by cases hq;exact hn') (fun _ h=>h)
theorem zxu {i:EL} {b k:Tr} {body:σ→Option (σ ⊕ Option α)} {s0:σ} {r:α} (emb:σ→List AV) (embK:τ→List AV) (h:zau body s0=some r) (h0:i.den ρ=emb s0) {K:τ→Option α} (hK: ∀s,K s=some r→k.den Rt R L js (ρ++embK s))
  (hb: ∀(W A:JK) (s:σ) (o:σ ⊕ Option α),body s=some o→(∀s',some (Sum.inl s')=some o→W (emb s'))→(∀q,some (Sum.inr q)=some o→q=some r)→(∀s,K s=some r→A (embK s))→b.den Rt R L (W::A::js) (ρ++emb s)):(Tr.loop i b k).den Rt R L js ρ:=
 zvI emb h h0 fun W A s o ho hn hf hk=>hb W A s o ho hn hf fun s hs=>hk _ (hK s hs)
theorem zyv {i x:E} {sz:Nat} {kk:IntKind} {n:Int} {xs:List α} {y:α} {f:α→AV} (hi:i.den ρ= .int kk n) (hx:x.den ρ= .sl (xs.map f)) (h:zce xs n=some y) (hf:(f y).cells.length=sz):Cn.den ρ (.inb i x sz):=by
 obtain⟨h1,h2,h3⟩:=zoM h
 exact⟨kk,n,xs.length,hi,h1,by rw [hx];simp,h2,by rw [hx];simp [h3,hf]⟩
theorem zxP {i x:E} {kk:IntKind} {n:Int} {xs:List UInt8} {y:UInt8} (hi:i.den ρ= .int kk n) (hx:x.den ρ= .str xs) (h:zce xs n=some y):Cn.den ρ (.inbS i x):=by
 obtain⟨h1,h2,h3⟩:=zoM h
 exact⟨kk,n,xs,hi,hx,h1,h2⟩
theorem zyt {x lo hi:E} {ka kb:IntKind} {a b:Int} {xs:List AV} (ha:lo.den ρ= .int ka a) (hb:hi.den ρ= .int kb b) (hx:x.den ρ= .sl xs) (h:0≤a∧a≤b∧b≤xs.length):Cn.den ρ (.win x lo hi):=
 ⟨ka,a,kb,b,xs.length,ha,hb,by rw [hx];simp,h.1,h.2.1,h.2.2⟩
theorem zx9 {x lo hi:E} {ka kb:IntKind} {a b:Int} {xs:List UInt8} (ha:lo.den ρ= .int ka a) (hb:hi.den ρ= .int kb b) (hx:x.den ρ= .str xs) (h:0≤a∧a≤b∧b≤xs.length):Cn.den ρ (.winS x lo hi):=
 ⟨ka,a,kb,b,xs,ha,hb,hx,h.1,h.2.1,h.2.2⟩
theorem zx4 {x y:E} {bytes:Nat} {xs ys:List AV} (hx:x.den ρ= .sl xs) (hy:y.den ρ= .sl ys) (h:((xs.length:Int)+ys.length)*bytes≤140737488355328∧(xs.length:Int)+ys.length≤140737488355328):Cn.den ρ (.room x y bytes):=
 ⟨xs.length,ys.length,by rw [hx];simp,by rw [hy];simp,h.1,h.2⟩
theorem zxa {x y:E} {xs ys:List UInt8} (hx:x.den ρ= .str xs) (hy:y.den ρ= .str ys) (h:xs.length+ys.length≤9223372036854775807):Cn.den ρ (.roomS x y):=⟨xs,ys,hx,hy,h⟩
theorem zwP {n:E} {bytes:Nat} {kk:IntKind} {k:Int} (hn:n.den ρ= .int kk k) (h:0≤k∧k*bytes≤140737488355328∧k≤140737488355328):Cn.den ρ (.mkroom n bytes):=⟨kk,k,hn,h.1,h.2.1,h.2.2⟩
theorem zyC {x:E} {kk:IntKind} {n:Int} (hx:x.den ρ= .int kk n) (h:n≠0):Cn.den ρ (.nz x):=⟨kk,n,hx,h⟩
theorem zyD {x:E} {kk:IntKind} {n:Int} (hx:x.den ρ= .int kk n) (h:0≤n):Cn.den ρ (.nn x):=⟨kk,n,hx,h⟩
theorem zwb {x:E} {sz:Nat} {xs:List α} (f:α→AV) (hx:x.den ρ= .sl (xs.map f)) (hf: ∀y,(f y).cells.length=sz):Cn.den ρ (.issl x sz):=⟨_,hx,by simp [hf]⟩
theorem zt9 {x:E} {sz:Nat} {xs:List α} (f:α→AV) (hx:x.den ρ= .sl (xs.map f)) (hf: ∀y,(f y).cells.length=sz∧ ∀z∈(f y).cells,z.scalar=true):Cn.den ρ (.flatS x sz):=⟨_,hx,by simp only [List.mem_map];rintro _ ⟨y,_,rfl⟩;exact hf y⟩
theorem zxq {x:E} {n:Nat} {y:AV} (hx:x.den ρ= .ref y) (hn:n≤y.cells.length):Cn.den ρ (.isref x n):=⟨y,hx,hn⟩
theorem zyp {x:E} {n:Nat} {cs:List AV} (hx:x.den ρ= .agg cs) (hn:cs.length=n):Cn.den ρ (.agg x n):=⟨cs,hx,hn⟩
end
@[simp] def zvB (n:Int):AV:= .int .i64 n
@[simp] def zyj (n:Int):AV:= .int .u64 n
@[simp] def zym (n:Int):AV:= .int .i32 n
@[simp] def zyg (n:Int):AV:= .int .u32 n
@[simp] def zyl (n:Int):AV:= .int .u8 n
@[simp] def avB (b:Bool):AV:= .bool b
@[simp] def zuT (x:List UInt8):AV:= .str x
@[simp] theorem zxZ (xs:List AV) (ka kb:IntKind) (a b:Int):AV.win (.sl xs) (.int ka a) (.int kb b)= .sl (zho xs a b):=rfl
@[simp] theorem zwC {α β:Type} (xs:List α) (f:α→β) (a b:Int):(zho xs a b).map f=zho (xs.map f) a b:=by simp [zho,List.map_take,List.map_drop]
@[simp] theorem zww (s:List UInt8) (ka kb:IntKind) (a b:Int):AV.swin (.str s) (.int ka a) (.int kb b)= .str (zho s a b):=rfl
attribute [simp] zaz zl2 AV.sidx AV.aeq AV.leq AV.seq AV.sk AV.putF AV.bytes AV.text
@[simp] theorem zuJ {α:Type} (l:List α) (i:Nat) (a:α):(l.set i a)[i]?=l[i]?.map fun _=>a:=by
 rcases Nat.lt_or_ge i l.length with h|h
 ·simp [h]
 ·simp [h]
theorem zwI {α:Type} {xs:List α} {i:Int} {y:α} (h:zce xs i=some y) (v:α):zce (xs.set i.toNat v) i=some v:=by
 obtain⟨h1,h2,h3⟩:=zoM h
 unfold zce
 rw [if_pos h1]
 have:i.toNat<xs.length:=by omega
 simp [this]
@[simp] theorem zxz (b:Bool) (k:IntKind) (x y:Int):AV.cond (.bool b) (.int k x) (.int k y)= .int k (bif b then x else y):=by cases b<;>rfl
@[simp] theorem zxy (b:Bool) (x y:List UInt8):AV.cond (.bool b) (.str x) (.str y)= .str (bif b then x else y):=by cases b<;>rfl
@[simp] theorem zxV (x y:AV):AV.cond (.bool true) x y=x:=rfl
@[simp] theorem zxX (x y:AV):AV.cond (.bool false) x y=y:=rfl
end Go.Proofs.Ythgeekoigbihbaa
end
section
namespace Go.Proofs.Ythgeekoigbihbaa
open Go.RowKit
section
variable {P:Program} {w:World}
theorem zeU.anyRo {ts:List TypeId} {vs:List Value} {xs:List AV} {rf hs:List Nat} (h:zeU P w ts [] vs xs rf hs): ∀(ms:List PM),(∀m∈ms,m= .ro)→zeU P w ts ms vs xs rf hs:=by
 generalize hm:([]:List PM)=m0 at h
 induction h with
 |nil=>intro ms _;exact .nil
 | @cons t ts ms' v vs x xs f h rf hs harg _ ih=>
  subst hm
  intro ms hms
  refine .cons ?_ (ih rfl ms.tail fun m hm=>hms m (List.mem_of_mem_tail hm))
  have:ms.headD .ro= .ro:=by cases ms with|nil=>rfl|cons m ms=>exact hms m (by simp)
  rw [this];exact harg
 |free h1 _ ih=>
  subst hm
  intro ms hms
  exact .free h1 (ih rfl ms.tail fun m hm=>hms m (List.mem_of_mem_tail hm))
theorem zbQ.anyRo {ts:List TypeId} {ms:List PM} {vs:List Value} {Bs:List AV} {f o:List Nat} (h:zbQ P w ts ms vs Bs f o) (hms: ∀m∈ms,m= .ro):zbQ P w ts [] vs Bs f o:=by
 have hd: ∀{ms:List PM},(∀m∈ms,m= .ro)→ms.headD .ro= .ro:=by
  intro ms h;cases ms with|nil=>rfl|cons m ms=>exact h m (by simp)
 induction h with
 |nil=>exact .nil
 |ro _ _ ih=>exact .ro rfl (ih fun m hm=>hms m (List.mem_of_mem_tail hm))
 |va h9 _ _=>rw [hd hms]at h9;cases h9
 |mu h9 _ _ _ _=>rw [hd hms]at h9;cases h9
 |bx h9 _ _ _ _ _ _ _ _=>rw [hd hms]at h9;cases h9
end
noncomputable def zqS (f:Nat) (r:AV):Bool:=
 match Try.prog.funcs[f]?,sgs f with
 |some fn,some s=>s.modes.all (fun m=>match m with| .ro=>true|_=>false)&&(match fn.resultTypes.toList with| [t]=> !ziw Try.prog t s.res|_=>false)&&zgQ Try.prog fn {modes:= [],res:= []} r
 |_,_=>false
theorem zrP {f:Nat} {xs:List AV} {r:AV} (h:Rts Try.prog sgs f xs r) (hp:zqS f r=true):Rts Try.prog sgs (1000000+f) xs r:=by
 unfold zqS at hp
 split at hp
 ·rename_i fn s hf hs
  simp only [Bool.and_eq_true,List.all_eq_true]at hp
  obtain⟨⟨h1,h2⟩,h3⟩:=hp
  have hro: ∀m∈s.modes,m= .ro:=fun m hm=>by
   have:=h1 m hm
   split at this
   ·rfl
   ·cases this
  unfold Rts at h ⊢
  rw [if_pos (zmb f s hs)]at h
  rw [if_neg (by omega),Nat.add_sub_cancel_left]
  obtain⟨s',hs',fn',hf',hb,hn,_,hl,hc⟩:=h
  rw [hs]at hs';cases hs'
  rw [hf]at hf';cases hf'
  refine⟨fn,hf,hb,hn,h3,hl,fun w vs rf hs' hargs hd hnd=>(hc w vs rf hs' (hargs.anyRo _ hro) hd hnd).mono ?_⟩
  rintro e w' ⟨v,rfl,⟨R,Bs,f1,o1,f2,o2,e1,e2,e3,e4,e5,e6⟩,hm⟩
  refine⟨v,rfl,⟨R,Bs,f1,o1,f2,o2,e1, ?_,e3.anyRo hro,e4,e5,e6⟩,hm⟩
  unfold zsE at e2 ⊢
  split at h2
  ·rename_i t ht
   rw [ht]at e2 ⊢
   simp only at e2 ⊢
   unfold zm0 at e2 ⊢
   have h2:ziw Try.prog t s.res=false:=by simpa using h2
   rw [if_neg (by rw [h2];simp)]at e2
   rw [if_neg (by simp [ziw])]
   exact e2
  ·cases h2
 ·cases hp
section
variable {Rt:Nat→List AV→AV→Prop} {R:AV→Prop} {L:LK} {js:List JK} {ρ:List AV}
theorem zp8 {i:EL} {b k:Tr} (hL:zju L) (n:Nat) (st:Nat→List AV) (J:Nat→Prop) (hJ:J 0) (h0:i.den ρ=st 0) (hb: ∀q,q≤n→J q→ ∀W:JK,(q<n→J (q+1)→W (st (q+1)))→b.den Rt R L (W::(fun us=>k.den Rt R L js (ρ++us))::js) (ρ++st q)):(Tr.loop i b k).den Rt R L js ρ:=by
 refine zmr hL (fun m vs=> ∃q,q+m=n∧vs=st q∧J q) (m:=n) ⟨0,by omega,h0,hJ⟩ ?_
 rintro m vs ⟨q,hq,rfl,hj⟩
 exact hb q (by omega) hj _ fun hlt hj'=>⟨m-1,by omega,q+1,by omega,rfl,hj'⟩
end
def zsG (cn:Nat):Tr:=
 .chk [] (.dfd (.len (.var 0)))<|
 .loop (.cons (.int .i64 (0)) .nil) (
  .chk [] (.dfd (.bin .lss (.var 2) (.len (.var 0))))<|
  .ite (.bin .lss (.var 2) (.len (.var 0))) (
  .chk [] (.inb (.var 2) (.var 0) cn)<|
  .call [] (.inr (.var 1)) (.cons (.fld (.idx (.var 0) (.var 2)) 0 cn true) .nil)<|
  .ite (.var 3) (
   .ret (.var 2)) (
   .chk [] (.dfd (.bin .add (.var 2) (.int .i64 (1))))<|
   .jmp 0 (.cons (.bin .add (.var 2) (.int .i64 (1))) .nil))) (
  .jmp 1 .nil)) (
  .ret (.int .i64 (-1)))
def zt5:Tr:=
 .chk [] (.dfd (.len (.var 0)))<|
 .loop (.cons (.int .i64 (0)) .nil) (
  .chk [] (.dfd (.bin .lss (.var 2) (.len (.var 0))))<|
  .ite (.bin .lss (.var 2) (.len (.var 0))) (
  .chk [] (.inb (.var 2) (.var 0) 1)<|
  .call [] (.inr (.var 1)) (.cons (.fld (.idx (.var 0) (.var 2)) 0 1 false) .nil)<|
  .ite (.var 3) (
   .ret (.var 2)) (
   .chk [] (.dfd (.bin .add (.var 2) (.int .i64 (1))))<|
   .jmp 0 (.cons (.bin .add (.var 2) (.int .i64 (1))) .nil))) (
  .jmp 1 .nil)) (
  .ret (.int .i64 (-1)))
def zle {α:Type} (p:α→Option Bool):List α→Int→Option Int
 | [],_=>some (-1)
 |x::xs,i=>(p x).bind fun b=>if b=true then some i else zle p xs (i+1)
noncomputable def zbj {α:Type} (xs:List α) (p:α→Option Bool):Option Int:=req (xs.length≤9223372036854775806) (zle p xs 0)
noncomputable def zaH {α:Type} (xs:List α) (p:α→Option Bool):Option Bool:=(zbj xs p).bind fun i=>some (decide (i≥0))
noncomputable def zmx {α:Type} (bytes:Nat) (xs:List α):Option (List α):=req ((xs.length:Int)*bytes≤140737488355328∧(xs.length:Int)≤140737488355328) (some xs)
theorem znJ {α:Type} {p:α→Option Bool} {l:List α} {r:Int} {q:Nat} (hq:q<l.length) (h:zle p (l.drop q) q=some r): ∃b,p l[q]=some b∧(b=true→r=q)∧(b=false→zle p (l.drop (q+1)) ((q+1:Nat):Int)=some r):=by
 rw [List.drop_eq_getElem_cons hq]at h
 obtain⟨b,hb,h⟩:=zjn h
 refine⟨b,hb, ?_, ?_⟩
 ·rintro rfl;simpa using h.symm
 ·rintro rfl;simpa using h
theorem zr5 {α:Type} {av:α→AV} {l:List α} {p:α→Option Bool} {cn g:Nat} {caps:List AV} {r:Int} (hs: ∀x,∃cs,av x= .agg cs∧cs.length=cn) (h:zbj l p=some r) (hf: ∀x b,p x=some b→Rts Try.prog sgs (1000000+g) (av x::caps) (.bool b)):Den (zsG cn) (.int .i64 r) [.sl (l.map av), .fn g caps]:=by
 obtain⟨hn,h⟩:=zo2 h
 unfold Den zsG
 refine zax (by simp) ?_
 refine zp8 zgb l.length (fun q=> [.int .i64 q]) (fun q=>zle p (l.drop q) q=some r) (by simpa using h) (by simp) fun q hq hJ W hW=> ?_
 by_cases hlt:q<l.length
 ·obtain⟨cs,hc,hl⟩:=hs l[q]
  obtain⟨b,hb,hb1,hb2⟩:=znJ hlt hJ
  refine zax (by simp [zaz]) (zby (t:=true) (by simp [zaz,hlt]) (fun _=> ?_) (by simp))
  refine zax (fun _=>⟨.i64,q,l.length,by simp,by omega,by simp,by omega,by simp [hlt,hc,hl]⟩) (zjZ (r:= .bool b) (fun _=>⟨g,caps,by simp, ?_,by simp⟩) ?_)
  ·have:=hf l[q] b hb
   rw [hc]at this
   simpa [hlt,hc,←hl]using this
  ·cases b with
   |true=>exact zby (t:=true) (by simp) (fun _=>zeC (by simp [hb1 rfl])) (by simp)
   |false=>
    refine zby (t:=false) (by simp) (by simp) fun _=>zax (by simp [zaz]) (zgR ?_)
    have:=hW hlt (hb2 rfl)
    simpa [zaz,za0 (n:=(q:Int)+1) (by omega) (by omega)]using this
 ·have hqe:q=l.length:=by omega
  subst hqe
  have hr:r= -1:=by simpa [zle]using hJ.symm
  refine zax (by simp [zaz]) (zby (t:=false) (by simp [zaz]) (by simp) fun _=>zjG ?_)
  exact zeC (by simp [hr])
theorem zwD {α:Type} {av:α→AV} {l:List α} {p:α→Option Bool} {g:Nat} {caps:List AV} {r:Int} (hs: ∀x,(av x).cells= [av x]) (h:zbj l p=some r) (hf: ∀x b,p x=some b→Rts Try.prog sgs (1000000+g) (av x::caps) (.bool b)):Den zt5 (.int .i64 r) [.sl (l.map av), .fn g caps]:=by
 obtain⟨hn,h⟩:=zo2 h
 unfold Den zt5
 refine zax (by simp) ?_
 refine zp8 zgb l.length (fun q=> [.int .i64 q]) (fun q=>zle p (l.drop q) q=some r) (by simpa using h) (by simp) fun q hq hJ W hW=> ?_
 by_cases hlt:q<l.length
 ·obtain⟨b,hb,hb1,hb2⟩:=znJ hlt hJ
  refine zax (by simp [zaz]) (zby (t:=true) (by simp [zaz,hlt]) (fun _=> ?_) (by simp))
  refine zax (fun _=>⟨.i64,q,l.length,by simp,by omega,by simp,by omega,by simp [hlt,hs]⟩) (zjZ (r:= .bool b) (fun _=>⟨g,caps,by simp, ?_,by simp⟩) ?_)
  ·have:=hf l[q] b hb
   simpa [hlt,hs]using this
  ·cases b with
   |true=>exact zby (t:=true) (by simp) (fun _=>zeC (by simp [hb1 rfl])) (by simp)
   |false=>
    refine zby (t:=false) (by simp) (by simp) fun _=>zax (by simp [zaz]) (zgR ?_)
    have:=hW hlt (hb2 rfl)
    simpa [zaz,za0 (n:=(q:Int)+1) (by omega) (by omega)]using this
 ·have hqe:q=l.length:=by omega
  subst hqe
  have hr:r= -1:=by simpa [zle]using hJ.symm
  refine zax (by simp [zaz]) (zby (t:=false) (by simp [zaz]) (by simp) fun _=>zjG ?_)
  exact zeC (by simp [hr])
def zsF (f:Nat):Tr:=
 .call [] (.inl f) (.cons (.var 0) (.cons (.var 1) .nil))<|
 .chk [] (.dfd (.bin .geq (.var 2) (.int .i64 (0))))<|
 .ret (.bin .geq (.var 2) (.int .i64 (0)))
theorem zsg {α:Type} {l:List α} {p:α→Option Bool} {f:Nat} {x y:AV} {r:Bool} (h:zaH l p=some r) (hf: ∀i,zbj l p=some i→Rts Try.prog sgs f [x,y] (.int .i64 i)):Den (zsF f) (.bool r) [x,y]:=by
 obtain⟨i,hi,h⟩:=zjn h
 unfold Den zsF
 refine zjI (fun _=>by simpa using hf i hi) (zax (by simp [zaz]) (zeC ?_))
 simp only [Option.some.injEq]at h
 simp [zaz,←h]
def zqT (bytes sz:Nat):Tr:=
 .chk [] (.dfd (.len (.var 0)))<|
 .nilq [] (.var 0)<|
 .ite (.var 1) (
  .ret (.lst .nil)) (
  .chk [] (.room (.lst .nil) (.var 0) bytes)<|
  .chk [] (.flatS (.var 0) sz)<|
  .ret (.app (.lst .nil) (.var 0)))
def zri (bytes sz:Nat):Tr:=
 .chk [] (.dfd (.len (.var 0)))<|
 .nilq [] (.var 0)<|
 .ite (.var 1) (
  .ret (.lst .nil)) (
  .chk [] (.room (.lst .nil) (.var 0) bytes)<|
  .chk [] (.issl (.var 0) sz)<|
  .ret (.app (.lst .nil) (.var 0)))
theorem zrd {α:Type} {av:α→AV} {xs r:List α} {bytes sz:Nat} (hs: ∀x,(av x).cells.length=sz∧ ∀z∈(av x).cells,z.scalar=true) (h:zmx bytes xs=some r):Den (zqT bytes sz) (.sl (r.map av)) [.sl (xs.map av)]:=by
 obtain⟨hq,h⟩:=zo2 h
 cases h
 unfold Den zqT
 refine zax (by simp) fun b hb=> ?_
 cases b with
 |true=>
  have:=hb (by simp) rfl
  exact zby (t:=true) (by simp) (fun _=>zeC (by simpa using this.symm)) (by simp)
 |false=>exact zby (t:=false) (by simp) (by simp) fun _=>zax (fun _=>⟨0,xs.length,by simp,by simp,by simpa using hq.1,by simpa using hq.2⟩) (zax (fun _=>zt9 (xs:=xs) av (by simp) hs) (zeC (by simp)))
theorem zvv {α:Type} {av:α→AV} {xs r:List α} {bytes sz:Nat} (hs: ∀x,(av x).cells.length=sz) (h:zmx bytes xs=some r):Den (zri bytes sz) (.sl (r.map av)) [.sl (xs.map av)]:=by
 obtain⟨hq,h⟩:=zo2 h
 cases h
 unfold Den zri
 refine zax (by simp) fun b hb=> ?_
 cases b with
 |true=>
  have:=hb (by simp) rfl
  exact zby (t:=true) (by simp) (fun _=>zeC (by simpa using this.symm)) (by simp)
 |false=>exact zby (t:=false) (by simp) (by simp) fun _=>zax (fun _=>⟨0,xs.length,by simp,by simp,by simpa using hq.1,by simpa using hq.2⟩) (zax (fun _=>zwb (xs:=xs) av (by simp) hs) (zeC (by simp)))
end Go.Proofs.Ythgeekoigbihbaa
end
section
namespace Go.Proofs.Ythgeekoigbihbaa
open Go.ChangeShapes Go.WideShapes Go.ChangeAt Go.RowKit
theorem zs2 {P:Program} {w:World}:zeU P w [] [] [] [] [] []:= .nil
theorem zjO {P:Program} {w:World} {t:TypeId} {ts:List TypeId} {v:Value} {vs:List Value} {x:AV} {xs:List AV} {f rf:List Nat} (h:Rd w [v] [x] f) (k:zeU P w ts [] vs xs rf []):zeU P w (t::ts) [] (v::vs) (x::xs) (f++rf) []:=
 zeU.cons (h:= []) (hs:= []) (ms:= []) ⟨h,rfl⟩ k
theorem zsJ {P:Program} {sg:SgT} {f:Nat} {fn:Func} {t:TypeId} {xs:List AV} (h:Rts P sg f xs (.bool true)) (hf:f<1000000) {s:Sig} (hs:sg f=some s) (hro: ∀m∈s.modes,m= .ro) (hfl:ziw P t s.res=false) (hfn:P.funcs[f]?=some fn) (hr:fn.resultTypes.toList= [t])
  {w:World} {vs:List Value} {rf:List Nat} (ha:zeU P w fn.params.toList [] vs xs rf []):
  Calls P f vs.toArray w fun e w'=>e= .returned (.bool true)∧Below w.heap.size w w':=by
 unfold Rts at h
 rw [if_pos hf]at h
 obtain⟨s',hs',fn',hfn',_,_,_,_,hc⟩:=h
 rw [hs]at hs'
 obtain rfl:=Option.some.inj hs'
 rw [hfn]at hfn'
 obtain rfl:=Option.some.inj hfn'
 refine(hc w vs rf [] (ha.anyRo _ hro) (by simp) (by simp)).mono fun e w' ⟨v,he,hp⟩=> ?_
 obtain⟨⟨R,bs,f1,o1,f2,o2,hR,hres,_⟩,hm⟩:=hp
 have hRt:R= .bool true:=by
  cases bs with
  |nil=>exact hR.symm
  |cons=>cases hR
 subst hRt
 rw [hr]at hres
 have h2:zm0 P w' t s.res v (.bool true) f1 o1:=hres
 unfold zm0 at h2
 rw [hfl]at h2
 obtain⟨h3,_⟩:=h2
 have:v= .bool true:=by cases h3;rfl
 subst this
 exact⟨he,hm.below⟩
section
variable {P:Program} {t:TypeId} {Q:List AV→Prop} {H:Type} {enc:TypeId × Value→H} {w:World} {spare:Nat→Bool} {held:Bool} {v:Value} {d:DataW H} {p:List MemPlace} {r:Reach} {base:Nat}
theorem zna (hO:OpA P t Q) (hc:v.cells= #[v]) (h:DataW.Trod enc P w 0 spare held t v d p): ∃x f,Rd w [v] [x] f∧Q [x]:=by
 obtain⟨n,h⟩:=h
 rw [hc]at h
 obtain⟨_,_,xs,f,hr,hq⟩:=hO.2 _ _ _ _ _ _ _ _ h
 have hl:=hr.len
 match xs,hl with
 | [x],_=>exact⟨x,f,hr,hq⟩
theorem zvl {fs:Array Field} (hO:OpA P t Q) (ht:P.underlying t=some (.struct fs)) (hv:Value.okWide P w r base t v) (h:DataW.Trod enc P w 0 spare held t v d p): ∃xs f,Rd w [v] [.agg xs] f∧Q xs:=by
 obtain⟨n,h⟩:=h
 obtain⟨cs,rfl,_⟩:=okWide_struct ht hv
 obtain⟨_,h1,xs,f,hr,hq⟩:=hO.2 _ _ _ _ _ _ _ _ h
 refine⟨xs,f++ [], ?_,hq⟩
 have:=Rd.agg (w:=w) h1 hr .nil
 simpa [Value.cells]using this
theorem zrU {e:TypeId} (hO:OpA P t Q) (ht:P.underlying t=some (.slice e)) (hv:Value.okWide P w r base t v) (h:DataW.Trod enc P w 0 spare held t v d p): ∃x f,Rd w [v] [x] f∧Q [x]:=by
 obtain⟨a,l,c,rfl⟩:=okWide_slice ht hv
 exact zna hO rfl h
theorem zrc {k:IntKind} (hO:OpA P t Q) (ht:P.underlying t=some (.int k)) (hv:Value.okWide P w r base t v) (h:DataW.Trod enc P w 0 spare held t v d p): ∃x f,Rd w [v] [x] f∧Q [x]:=by
 obtain⟨n,rfl⟩:=okWide_int ht hv
 exact zna hO rfl h
theorem zwB (hO:OpA P t Q) (ht:P.underlying t=some .bool) (hv:Value.okWide P w r base t v) (h:DataW.Trod enc P w 0 spare held t v d p): ∃x f,Rd w [v] [x] f∧Q [x]:=by
 obtain⟨n,rfl⟩:=okWide_bool ht hv
 exact zna hO rfl h
theorem zvq (hO:OpA P t Q) (ht:P.underlying t=some .string) (hv:Value.okWide P w r base t v) (h:DataW.Trod enc P w 0 spare held t v d p): ∃x f,Rd w [v] [x] f∧Q [x]:=by
 obtain⟨n,rfl⟩:=okWide_string ht hv
 exact zna hO rfl h
end
end Go.Proofs.Ythgeekoigbihbaa
end
section
namespace Go.Proofs.Ythgeekoigbihbaa
open Go.ChangeShapes Go.WideShapes Go.ChangeAt Go.RowKit
theorem zwp {a b:Bool} (ha:a=true) (hb:b=true):(a&&b)=true:=by rw [ha,hb];rfl
def zjm (n:Int):Prop:= -9223372036854775808≤n∧n≤9223372036854775807
def zxB (n:Int):Prop:=0≤n∧n≤255
def okB (_:Bool):Prop:=True
def znR (s:List UInt8):Prop:=s.length≤9223372036854775807
def okL {α:Type} (ok:α→Prop) (l:List α):Prop:=l.length≤9223372036854775807∧ ∀x∈l,ok x
theorem zxn {n:Int} (h:InK .i64 n):zjm n:=by
 unfold InK at h
 rw [IntKind.wrap_i64]at h
 unfold zjm
 omega
theorem zyy {n:Int} (h:InK .u8 n):zxB n:=by
 unfold InK at h
 simp only [IntKind.wrap,IntKind.bits,IntKind.signed]at h
 unfold zxB
 simp at h
 omega
section
variable {P:Program} {t e:TypeId} {α:Type} {ok:α→Prop} {av:α→AV}
theorem zxs (ht:P.underlying t=some (.int .i64)) (hc:P.cellsOf t=1):OpA P t fun xs=> ∃n,zjm n∧xs= [zvB n]:=
 (zr0 ht hc).mono fun _ ⟨n,h,e⟩=>⟨n,zxn h,e⟩
theorem zyB (ht:P.underlying t=some (.int .u8)) (hc:P.cellsOf t=1):OpA P t fun xs=> ∃n,zxB n∧xs= [zyl n]:=
 (zr0 ht hc).mono fun _ ⟨n,h,e⟩=>⟨n,zyy h,e⟩
theorem opB (ht:P.underlying t=some .bool) (hc:P.cellsOf t=1):OpA P t fun xs=> ∃b,okB b∧xs= [avB b]:=
 (zs0 ht hc).mono fun _ ⟨b,e⟩=>⟨b,trivial,e⟩
theorem zxo (ht:P.underlying t=some .string) (hc:P.cellsOf t=1):OpA P t fun xs=> ∃s,znR s∧xs= [zuT s]:=
 (zqo ht hc).mono fun _ ⟨s,h,e⟩=>⟨s,h,e⟩
theorem zpW: ∀{ys:List AV},(∀y∈ys,ElA true (fun xs=> ∃c,ok c∧ .agg xs=av c) y)→ ∃l:List α,(∀c∈l,ok c)∧ys=l.map av
 | [],_=>⟨[],by simp,rfl⟩
 |y::ys,h=>by
  obtain⟨l,hl,rfl⟩:=zpW fun z hz=>h z (List.mem_cons_of_mem _ hz)
  have h0:=h y (List.mem_cons_self ..)
  simp only [ElA,if_true]at h0
  obtain⟨zs,rfl,c,hk,hc⟩:=h0
  exact⟨c::l,by simpa using⟨hk,hl⟩,by simp [hc]⟩
theorem zpS: ∀{ys:List AV},(∀y∈ys,ElA false (fun xs=> ∃c,ok c∧xs= [av c]) y)→ ∃l:List α,(∀c∈l,ok c)∧ys=l.map av
 | [],_=>⟨[],by simp,rfl⟩
 |y::ys,h=>by
  obtain⟨l,hl,rfl⟩:=zpS fun z hz=>h z (List.mem_cons_of_mem _ hz)
  have h0:=h y (List.mem_cons_self ..)
  simp only [ElA,Bool.false_eq_true,if_false]at h0
  obtain⟨_,c,hk,hc⟩:=h0
  exact⟨c::l,by simpa using⟨hk,hl⟩,by simp at hc;simp [hc]⟩
theorem zs1 (ht:P.underlying t=some (.slice e)) (hc:P.cellsOf t=1) (he:OpA P e fun xs=> ∃c,ok c∧ .agg xs=av c):OpA P t fun xs=> ∃l:List α,okL ok l∧xs= [.sl (l.map av)]:=
 (zn9 true ht hc he (.inl rfl)).mono fun _ ⟨ys,hl,hy,e⟩=>by
  obtain⟨l,hk,rfl⟩:=zpW hy
  exact⟨l,⟨by simpa using hl,hk⟩,e⟩
theorem zyw (ht:P.underlying t=some (.slice e)) (hc:P.cellsOf t=1) (he1:P.cellsOf e=1) (he:OpA P e fun xs=> ∃c,ok c∧xs= [av c]):OpA P t fun xs=> ∃l:List α,okL ok l∧xs= [.sl (l.map av)]:=
 (zn9 false ht hc he (.inr he1)).mono fun _ ⟨ys,hl,hy,e⟩=>by
  obtain⟨l,hk,rfl⟩:=zpS hy
  exact⟨l,⟨by simpa using hl,hk⟩,e⟩
end
end Go.Proofs.Ythgeekoigbihbaa
end
section
namespace Go.Proofs.Ythgeekoigbihbaa
open Go.RowKit
set_option maxRecDepth 100000
structure zab where
 fKey:List UInt8
 fVal:List UInt8
 fGone:Bool
@[simp] def zkN (x:zab):AV:= .agg [.str x.fKey, .str x.fVal, .bool x.fGone]
structure zaa where
 fTime:Int
 fGroup:Int
 fKey:List UInt8
 fVal:List UInt8
 fGone:Bool
@[simp] def zbC (x:zaa):AV:= .agg [.int .i64 x.fTime, .int .i64 x.fGroup, .str x.fKey, .str x.fVal, .bool x.fGone]
structure zaS where
 fTime:Int
 fRows:List zab
@[simp] def zsw (x:zaS):AV:= .agg [.int .i64 x.fTime, .sl (x.fRows.map zkN)]
structure zaV where
 fFrom:Int
 fTo:Int
 fList:List zaa
@[simp] def zrn (x:zaV):AV:= .agg [.int .i64 x.fFrom, .int .i64 x.fTo, .sl (x.fList.map zbC)]
structure zeB where
 fTime:Int
 fVal:List UInt8
 fGone:Bool
@[simp] def zsT (x:zeB):AV:= .agg [.int .i64 x.fTime, .str x.fVal, .bool x.fGone]
structure zat where
 fKey:List UInt8
 fVers:List zeB
@[simp] def zn2 (x:zat):AV:= .agg [.str x.fKey, .sl (x.fVers.map zsT)]
structure zuX where
 fTxn:Int
 fTime:Int
 fLead:Int
 fReads:List (List UInt8)
 fWrites:List zab
@[simp] def ztJ (x:zuX):AV:= .agg [.int .i64 x.fTxn, .int .i64 x.fTime, .int .i64 x.fLead, .sl (x.fReads.map zuT), .sl (x.fWrites.map zkN)]
structure zu3 where
 fTxn:Int
 fYes:Bool
 fTime:Int
@[simp] def zt4 (x:zu3):AV:= .agg [.int .i64 x.fTxn, .bool x.fYes, .int .i64 x.fTime]
structure zl8 where
 fFloor:Int
 fCells:List zat
 fHeld:List zuX
 fTold:List zu3
@[simp] def zuH (x:zl8):AV:= .agg [.int .i64 x.fFloor, .sl (x.fCells.map zn2), .sl (x.fHeld.map ztJ), .sl (x.fTold.map zt4)]
end Go.Proofs.Ythgeekoigbihbaa
end
section
namespace Go.Proofs.Ythgeekoigbihbaa
open Go.ChangeShapes Go.WideShapes Go.ChangeAt Go.RowKit
set_option maxRecDepth 100000
theorem op1:OpA Try.prog 3 fun xs=> ∃n,zjm n∧xs= [zvB n]:=zxs Try.underlying3 (by kernel_rfl)
theorem op4:OpA Try.prog 9 fun xs=> ∃s,znR s∧xs= [zuT s]:=zxo Try.underlying9 (by kernel_rfl)
theorem op5:OpA Try.prog 4 fun xs=> ∃b,okB b∧xs= [avB b]:=opB Try.underlying4 (by kernel_rfl)
def zkh (x:zab):Prop:=znR x.fKey∧znR x.fVal∧okB x.fGone
theorem op3:OpA Try.prog 108 fun xs=> ∃x:zab,zkh x∧ .agg xs=zkN x:=
 (zfa Try.underlying108 (by decide+kernel) (by kernel_rfl) (.cons op4 (.cons op4 (.cons op5 .nil)))).mono fun _ ⟨_,_,e0,⟨x0,k0,h0⟩,_,_,e1,⟨x1,k1,h1⟩,_,_,e2,⟨x2,k2,h2⟩,hz⟩=>by
  subst h2 hz e2 h1 e1 h0 e0
  exact⟨⟨x0,x1,x2⟩,⟨k0,k1,k2⟩,by simp⟩
theorem op2:OpA Try.prog 22 fun xs=> ∃l:List zab,okL zkh l∧xs= [.sl (l.map zkN)]:=zs1 Try.underlying22 (by kernel_rfl) op3
def zsh (x:zaS):Prop:=zjm x.fTime∧(okL zkh) x.fRows
theorem op0:OpA Try.prog 24 fun xs=> ∃x:zaS,zsh x∧ .agg xs=zsw x:=
 (zfa Try.underlying24 (by decide+kernel) (by kernel_rfl) (.cons op1 (.cons op2 .nil))).mono fun _ ⟨_,_,e0,⟨x0,k0,h0⟩,_,_,e1,⟨x1,k1,h1⟩,hz⟩=>by
  subst h1 hz e1 h0 e0
  exact⟨⟨x0,x1⟩,⟨k0,k1⟩,by simp⟩
def zfP (x:zaa):Prop:=zjm x.fTime∧zjm x.fGroup∧znR x.fKey∧znR x.fVal∧okB x.fGone
theorem op8:OpA Try.prog 110 fun xs=> ∃x:zaa,zfP x∧ .agg xs=zbC x:=
 (zfa Try.underlying110 (by decide+kernel) (by kernel_rfl) (.cons op1 (.cons op1 (.cons op4 (.cons op4 (.cons op5 .nil)))))).mono fun _ ⟨_,_,e0,⟨x0,k0,h0⟩,_,_,e1,⟨x1,k1,h1⟩,_,_,e2,⟨x2,k2,h2⟩,_,_,e3,⟨x3,k3,h3⟩,_,_,e4,⟨x4,k4,h4⟩,hz⟩=>by
  subst h4 hz e4 h3 e3 h2 e2 h1 e1 h0 e0
  exact⟨⟨x0,x1,x2,x3,x4⟩,⟨k0,k1,k2,k3,k4⟩,by simp⟩
theorem op7:OpA Try.prog 25 fun xs=> ∃l:List zaa,okL zfP l∧xs= [.sl (l.map zbC)]:=zs1 Try.underlying25 (by kernel_rfl) op8
def zqZ (x:zaV):Prop:=zjm x.fFrom∧zjm x.fTo∧(okL zfP) x.fList
theorem op6:OpA Try.prog 27 fun xs=> ∃x:zaV,zqZ x∧ .agg xs=zrn x:=
 (zfa Try.underlying27 (by decide+kernel) (by kernel_rfl) (.cons op1 (.cons op1 (.cons op7 .nil)))).mono fun _ ⟨_,_,e0,⟨x0,k0,h0⟩,_,_,e1,⟨x1,k1,h1⟩,_,_,e2,⟨x2,k2,h2⟩,hz⟩=>by
  subst h2 hz e2 h1 e1 h0 e0
  exact⟨⟨x0,x1,x2⟩,⟨k0,k1,k2⟩,by simp⟩
def zr6 (x:zeB):Prop:=zjm x.fTime∧znR x.fVal∧okB x.fGone
theorem zya:OpA Try.prog 161 fun xs=> ∃x:zeB,zr6 x∧ .agg xs=zsT x:=
 (zfa Try.underlying161 (by decide+kernel) (by kernel_rfl) (.cons op1 (.cons op4 (.cons op5 .nil)))).mono fun _ ⟨_,_,e0,⟨x0,k0,h0⟩,_,_,e1,⟨x1,k1,h1⟩,_,_,e2,⟨x2,k2,h2⟩,hz⟩=>by
  subst h2 hz e2 h1 e1 h0 e0
  exact⟨⟨x0,x1,x2⟩,⟨k0,k1,k2⟩,by simp⟩
theorem zyu:OpA Try.prog 97 fun xs=> ∃l:List zeB,okL zr6 l∧xs= [.sl (l.map zsT)]:=zs1 Try.underlying97 (by kernel_rfl) zya
def zoh (x:zat):Prop:=znR x.fKey∧(okL zr6) x.fVers
theorem zyc:OpA Try.prog 99 fun xs=> ∃x:zat,zoh x∧ .agg xs=zn2 x:=
 (zfa Try.underlying99 (by decide+kernel) (by kernel_rfl) (.cons op4 (.cons zyu .nil))).mono fun _ ⟨_,_,e0,⟨x0,k0,h0⟩,_,_,e1,⟨x1,k1,h1⟩,hz⟩=>by
  subst h1 hz e1 h0 e0
  exact⟨⟨x0,x1⟩,⟨k0,k1⟩,by simp⟩
theorem op9:OpA Try.prog 54 fun xs=> ∃l:List zat,okL zoh l∧xs= [.sl (l.map zn2)]:=zs1 Try.underlying54 (by kernel_rfl) zyc
end Go.Proofs.Ythgeekoigbihbaa
end
section
namespace Go.Proofs.Ythgeekoigbihbaa
open Go.RowKit
theorem zag {α:Type} {xs:List α} {i:Nat} (h:i<xs.length):zce xs (i:Int)=some xs[i]:=by simp [zce,h]
theorem zwY {α:Type} {xs:List α} {i:Int} (h0:0≤i) (h:i<xs.length): ∃x,zce xs i=some x∧x∈xs∧xs[i.toNat]?=some x:=by
 have hi:i.toNat<xs.length:=by omega
 exact⟨xs[i.toNat],by simp [zce,h0,hi],List.getElem_mem hi,by simp [hi]⟩
theorem zws {α:Type} {xs:List α} {i:Int} {x:α} (h:zce xs i=some x):x∈xs:=by
 obtain⟨h1,h2,h3⟩:=zoM h
 exact List.mem_of_getElem? h3
theorem zbT {q n:Nat} (h:q<n) (hn:n≤9223372036854775807):IntKind.i64.wrap ((q:Int)+1)=((q+1:Nat):Int):=by rw [za0 (by omega) (by omega)];simp
theorem zaT {α:Type} {p:Prop} {k:Option α} (h:p):req p k=k:=by simp [req,h]
def goL {α σ β:Type} (step:α→σ→Option (σ ⊕ Option β)) (fin:σ→Option β):List α→σ→Option β
 | [],s=>fin s
 |x::xs,s=>match step x s with
  |none=>none
  |some (.inl s')=>goL step fin xs s'
  |some (.inr o)=>o
def zpd {σ τ β:Type} (f:σ→τ):Option (σ ⊕ Option β)→Option (τ ⊕ Option β)
 |none=>none
 |some (.inl s)=>some (.inl (f s))
 |some (.inr o)=>some (.inr o)
theorem zr3 {α σ τ β:Type} {xs:List α} {body:τ→Option (τ ⊕ Option β)} (emb:Int→σ→τ) (step:α→σ→Option (σ ⊕ Option β)) (fin:σ→Option β) (q0:Nat)
  (hs: ∀(i:Nat) (hi:i<xs.length) (s:σ),q0≤i→body (emb i s)=zpd (emb ((i+1:Nat):Int)) (step xs[i] s)) (he: ∀s,body (emb xs.length s)=some (.inr (fin s))) (s:σ) (h0:q0≤xs.length):zau body (emb q0 s)=goL step fin (xs.drop q0) s:=by
 have key: ∀(n q:Nat) (s:σ),q0≤q→q+n=xs.length→zau body (emb q s)=goL step fin (xs.drop q) s:=by
  intro n
  induction n with
  |zero=>
   intro q s _ hq
   have:q=xs.length:=by omega
   subst this
   rw [zay,he s]
   simp [goL]
  |succ n ih=>
   intro q s h0 hq
   have hlt:q<xs.length:=by omega
   rw [zay,hs q hlt s h0,List.drop_eq_getElem_cons hlt]
   rcases hst:step xs[q] s with _|s'|o
   ·simp [goL,hst,zpd]
   ·simp only [goL,hst,zpd];exact ih (q+1) s' (by omega) (by omega)
   ·simp [goL,hst,zpd]
 exact key (xs.length-q0) q0 s (Nat.le_refl _) (by omega)
theorem znW {α σ τ β:Type} {xs:List α} {body:τ→Option (τ ⊕ Option β)} (emb:Int→σ→τ) (step:α→σ→Option (σ ⊕ Option β)) (fin:σ→Option β)
  (hs: ∀(i:Nat) (hi:i<xs.length) (s:σ),body (emb i s)=zpd (emb ((i+1:Nat):Int)) (step xs[i] s)) (he: ∀s,body (emb xs.length s)=some (.inr (fin s))) (s:σ):zau body (emb 0 s)=goL step fin xs s:=by
 have:=zr3 emb step fin 0 (fun i hi s _=>hs i hi s) he s (by omega)
 simpa using this
theorem zt8 {α σ β:Type} {step:α→σ→Option (σ ⊕ Option β)} {fin:σ→Option β} {xs:List α} (p:α→Bool) (b:β) (h: ∀x∈xs,∀s,step x s=some (if p x=true then .inl s else .inr (some b))) (s:σ):goL step fin xs s=if xs.all p=true then fin s else some b:=by
 induction xs with
 |nil=>simp [goL]
 |cons x xs ih=>
  simp only [goL,h x (by simp) s]
  cases hp:p x with
  |true=>simp [hp,ih fun y hy=>h y (by simp [hy])]
  |false=>simp [hp]
theorem ztz {α σ β:Type} {step:α→σ→Option (σ ⊕ Option β)} {fin:σ→Option β} {xs:List α} (f:σ→α→σ) (I:σ→Prop) (hI: ∀x∈xs,∀s,I s→I (f s x)) (h: ∀x∈xs,∀s,I s→step x s=some (.inl (f s x))) {s:σ} (hs:I s):goL step fin xs s=fin (xs.foldl f s):=by
 induction xs generalizing s with
 |nil=>simp [goL]
 |cons x xs ih=>
  simp only [goL,h x (by simp) s hs,List.foldl_cons]
  exact ih (fun y hy=>hI y (by simp [hy])) (fun y hy=>h y (by simp [hy])) (hI x (by simp) s hs)
theorem zwg {α σ β:Type} {step:α→σ→Option (σ ⊕ Option β)} {fin:σ→Option β} (f:σ→α→σ) (n:Nat) (I:Nat→σ→Prop) {xs:List α} (h: ∀q,q<n→ ∀x∈xs,∀s,I q s→step x s=some (.inl (f s x))∧I (q+1) (f s x)) {q:Nat} {s:σ} (hq:q+xs.length≤n) (hs:I q s):goL step fin xs s=fin (xs.foldl f s)∧I (q+xs.length) (xs.foldl f s):=by
 induction xs generalizing s q with
 |nil=>exact⟨rfl,hs⟩
 |cons x xs ih=>
  simp only [List.length_cons]at hq
  obtain⟨h1,h2⟩:=h q (by omega) x (by simp) s hs
  simp only [goL,h1,List.foldl_cons,List.length_cons]
  have:=ih (fun q hq y hy=>h q hq y (by simp [hy])) (q:=q+1) (by omega) h2
  rw [show q+(xs.length+1)=q+1+xs.length by omega]
  exact this
theorem zgt {α σ τ β:Type} {xs:List α} {body:τ→Option (τ ⊕ Option β)} (emb:Int→σ→τ) (f:σ→α→σ) (fin:σ→Option β) (I:Nat→σ→Prop)
  (hs: ∀(i:Nat) (hi:i<xs.length) (s:σ),I i s→body (emb i s)=some (.inl (emb ((i+1:Nat):Int) (f s xs[i])))∧I (i+1) (f s xs[i])) (he: ∀s,I xs.length s→body (emb xs.length s)=some (.inr (fin s))) {s:σ} (h0:I 0 s):zau body (emb 0 s)=fin (xs.foldl f s)∧I xs.length (xs.foldl f s):=by
 have key: ∀(n q:Nat) (s:σ),q+n=xs.length→I q s→zau body (emb q s)=fin ((xs.drop q).foldl f s)∧I xs.length ((xs.drop q).foldl f s):=by
  intro n
  induction n with
  |zero=>
   intro q s hq hI
   have:q=xs.length:=by omega
   subst this
   rw [zay,he s hI]
   simp [hI]
  |succ n ih=>
   intro q s hq hI
   have hlt:q<xs.length:=by omega
   obtain⟨h1,h2⟩:=hs q hlt s hI
   rw [zay,h1,List.drop_eq_getElem_cons hlt,List.foldl_cons]
   exact ih (q+1) _ (by omega) h2
 have:=key xs.length 0 s (by omega) h0
 simpa using this
theorem zmW {α:Type} {xs:List α} {p:α→Option Bool} (q:α→Bool) (hp: ∀x∈xs,p x=some (q x)) (hn:xs.length≤9223372036854775806):zaH xs p=some (xs.any q):=by
 have key: ∀(l:List α) (i:Int),0≤i→(∀x∈l,p x=some (q x))→ ∃r,zle p l i=some r∧decide (r≥0)=l.any q:=by
  intro l
  induction l with
  |nil=>intro i _ _;exact⟨-1,rfl,by simp⟩
  |cons x l ih=>
   intro i hi h
   simp only [zle,h x (by simp),Option.bind_some]
   cases hq:q x with
   |true=>exact⟨i,by simp,by simp [hq,hi]⟩
   |false=>
    obtain⟨r,h1,h2⟩:=ih (i+1) (by omega) fun y hy=>h y (by simp [hy])
    exact⟨r,by simp [h1],by simp [hq,h2]⟩
 obtain⟨r,h1,h2⟩:=key xs 0 (by omega) hp
 simp [zaH,zbj,zaT hn,h1,h2]
theorem zsM {α:Type} {b:Nat} {xs:List α} (h:(xs.length:Int)*b≤140737488355328) (h2:(xs.length:Int)≤140737488355328):zmx b xs=some xs:=zaT ⟨h,h2⟩
theorem zir {β:Type} {n:Nat} {body:Int→Option (Int ⊕ Option β)} (p:Nat→Bool) (b:β) (fin:Option β)
  (hs: ∀i:Nat,i<n→body i=some (if p i=true then .inl ((i+1:Nat):Int)else .inr (some b))) (he:body n=some (.inr fin)):zau body 0=if(List.range n).all p=true then fin else some b:=by
 have h1:=znW (xs:=List.range n) (body:=body) (fun i (_:Unit)=>i) (fun i _=>some (if p i=true then .inl ()else .inr (some b))) (fun _=>fin)
  (fun i hi s=>by
   rw [List.length_range]at hi
   rw [hs i hi,List.getElem_range]
   cases p i<;>simp [zpd]) (fun s=>by simpa using he) ()
 rw [zt8 p b fun x _ s=>rfl]at h1
 exact h1
def zim {α:Type} (p:α→Bool) (l:List α):Int:=match l.findIdx? p with|some i=>(i:Int)|none=> -1
theorem zie {α:Type} (p:α→Bool):zim p []= -1:=rfl
theorem zgF {α:Type} (p:α→Bool) (x:α) (l:List α):zim p (x::l)=if p x=true then 0 else if zim p l= -1 then-1 else zim p l+1:=by
 unfold zim
 rw [List.findIdx?_cons]
 cases p x with
 |true=>simp
 |false=>
  cases h:l.findIdx? p with
  |none=>simp
  |some i=>simp<;>omega
theorem zkc {α:Type} (p:α→Bool) (l:List α): -1≤zim p l:=by
 unfold zim
 split<;>omega
theorem zwT {α:Type} (p:α→Bool) (l:List α):zim p l<l.length:=by
 induction l with
 |nil=>simp [zie]
 |cons x l ih=>rw [zgF];split<;>(try split)<;>simp<;>omega
theorem zwL {α:Type} (p:α→Bool) (l:List α):decide (zim p l≥0)=l.any p:=by
 induction l with
 |nil=>simp [zie]
 |cons x l ih=>
  have h1:=zkc p l
  rw [zgF,List.any_cons,←ih]
  cases p x with
  |true=>simp
  |false=>
   by_cases h:zim p l= -1
   ·simp [h]
   ·have:zim p l≥0:=by omega
    simp [h,this];try omega
theorem zwR {α:Type} {p:α→Bool} {l:List α} (h:zim p l≥0): ∃x,zce l (zim p l)=some x∧p x=true∧x∈l:=by
 induction l with
 |nil=>simp [zie]at h
 |cons y l ih=>
  rw [zgF]at h ⊢
  cases hy:p y with
  |true=>exact⟨y,by simp [zce],hy,by simp⟩
  |false=>
   have h1:=zkc p l
   by_cases hm:zim p l= -1
   ·rw [hy,hm]at h;simp at h
   ·have h0:zim p l≥0:=by omega
    obtain⟨x,e1,e2,e3⟩:=ih h0
    obtain⟨_,e4,e5⟩:=zoM e1
    refine⟨x, ?_,e2,by simp [e3]⟩
    simp only [Bool.false_eq_true,if_false,hm]
    unfold zce
    rw [if_pos (by omega),show(zim p l+1).toNat=(zim p l).toNat+1 by omega]
    simpa using e5
theorem zwK {α:Type} {xs:List α} {body:Int→Option (Int ⊕ Option Int)} (p:α→Bool) (hs: ∀(i:Nat) (hi:i<xs.length),body i=some (if p xs[i]=true then .inr (some (i:Int))else .inl ((i+1:Nat):Int))) (he:body xs.length=some (.inr (some (-1)))):zau body 0=some (zim p xs):=by
 have key: ∀(n q:Nat),q+n=xs.length→zau body q=some (if zim p (xs.drop q)= -1 then-1 else q+zim p (xs.drop q)):=by
  intro n
  induction n with
  |zero=>
   intro q hq
   have:q=xs.length:=by omega
   subst this
   rw [zay,he]
   simp [zie]
  |succ n ih=>
   intro q hq
   have hlt:q<xs.length:=by omega
   rw [zay,hs q hlt,List.drop_eq_getElem_cons hlt,zgF]
   cases p xs[q]with
   |true=>simp
   |false=>
    simp only [Bool.false_eq_true,if_false]
    rw [ih (q+1) (by omega)]
    have h1:=zkc p (xs.drop (q+1))
    congr 1
    by_cases hm:zim p (xs.drop (q+1))= -1
    ·simp [hm]
    ·have h2: ¬(zim p (xs.drop (q+1))+1= -1):=by omega
     simp only [hm,if_false,h2]
     omega
 have h:=key xs.length 0 (by omega)
 rw [List.drop_zero]at h
 rw [show((0:Nat):Int)=0 from rfl]at h
 rw [h]
 have h1:=zkc p xs
 by_cases hm:zim p xs= -1
 ·simp [hm]
 ·simp [hm]
theorem ztR {α:Type} {xs:List α} {p:α→Option Bool} (q:α→Bool) (hp: ∀x∈xs,p x=some (q x)) (hn:xs.length≤9223372036854775806):zbj xs p=some (zim q xs):=by
 have key: ∀(l:List α) (i:Int),(∀x∈l,p x=some (q x))→zle p l i=some (if zim q l= -1 then-1 else i+zim q l):=by
  intro l
  induction l with
  |nil=>intro i _;simp [zle,zie]
  |cons x l ih=>
   intro i h
   simp only [zle,h x (by simp),Option.bind_some,zgF]
   cases q x with
   |true=>simp
   |false=>
    simp only [Bool.false_eq_true,if_false]
    rw [ih (i+1) fun y hy=>h y (by simp [hy])]
    have h1:=zkc q l
    congr 1
    by_cases hm:zim q l= -1
    ·simp [hm]
    ·have h2: ¬(zim q l+1= -1):=by omega
     simp only [hm,if_false,h2]
     omega
 unfold zbj
 rw [zaT hn,key xs 0 hp]
 by_cases hm:zim q xs= -1
 ·simp [hm]
 ·simp [hm]
theorem zyA {α:Type} {b:Bool} {A B:Option α} {y:Option α} (ha:b=true→A=y) (hb:b=false→B=y):(if b=true then A else B)=y:=by
 cases b with
 |true=>simpa using ha rfl
 |false=>simpa using hb rfl
theorem zyG {α:Type} {b:Bool} {A B y:Option α} (h:b=false) (hb:B=y):(if b=true then A else B)=y:=by rw [if_neg (by simp [h])];exact hb
theorem zyH {α:Type} {b:Bool} {A B y:Option α} (h:b=true) (ha:A=y):(if b=true then A else B)=y:=by rw [if_pos h];exact ha
theorem zw6 {α β:Type} {o:Option α} {x:α} {f:α→Option β} (h:o=some x):o.bind f=f x:=by rw [h];rfl
end Go.Proofs.Ythgeekoigbihbaa
end
section
namespace Go.Proofs.Ythgeekoigbihbaa
open Go.RowKit
set_option maxRecDepth 100000
theorem zq5 {α β:Type} (f:α→β) (l:List α) (o:List β):l.foldl (fun o x=>o++ [f x]) o=o++l.map f:=by
 induction l generalizing o with
 |nil=>simp
 |cons x l ih=>rw [List.foldl_cons,ih];simp
theorem zpL {α:Type} {xs:List α} {d:α} {body:Int × List α→Option ((Int × List α) ⊕ Option (List α))}
  (hs: ∀(i:Nat) (hi:i<xs.length) (v:List α),v.length=xs.length→body ((i:Int),v)=some (.inl (((i+1:Nat):Int),v.set i xs[i])))
  (he: ∀v,body ((xs.length:Int),v)=some (.inr (some v))):zau body (0,List.replicate xs.length d)=some xs:=by
 have h1:=zgt (xs:=xs) (body:=body) (fun i (o:List α)=>(i,o++List.replicate (xs.length-i.toNat) d)) (fun(o:List α) x=>o++ [x]) (fun o=>some o) (fun i o=>o.length=i)
  (fun i hi o ho=>by
   refine⟨?_,by simp [ho]⟩
   rw [show((i:Int)).toNat=i from rfl,hs i hi _ (by simp [ho];omega)]
   congr 3
   obtain⟨k,hk⟩: ∃k,xs.length-i=k+1:=⟨xs.length-i-1,by omega⟩
   have h2:xs.length-(((i+1:Nat):Int)).toNat=k:=by rw [show(((i+1:Nat):Int)).toNat=i+1 from rfl];omega
   rw [h2,hk,List.replicate_succ]
   subst ho
   simp [List.set_append])
  (fun o ho=>by
   show body ((xs.length:Int),o++List.replicate (xs.length-((xs.length:Int)).toNat) d)=_
   rw [show((xs.length:Int)).toNat=xs.length from rfl,Nat.sub_self,List.replicate_zero,List.append_nil]
   exact he o) (s:=([]:List α)) rfl
 have h3:=h1.1
 rw [show(fun(o:List α) x=>o++ [x])=(fun o x=>o++ [id x])from rfl,zq5,List.map_id,List.nil_append]at h3
 exact h3
theorem zpB {n:Nat} {body:Int→Option (Int ⊕ Option Bool)} (hs: ∀i:Nat,i<n→body i=some (.inl ((i+1:Nat):Int))) (he:body n=some (.inr (some true))):zau body 0=some true:=by
 have h:=zir (n:=n) (body:=body) (fun _=>true) false (some true) (fun i hi=>by rw [hs i hi,if_pos rfl]) he
 rw [h,if_pos (by simp)]
theorem zyE {α:Type} {xs:List α} {body:Int × Int→Option ((Int × Int) ⊕ Option Int)} (P:α→Prop) {a:Int} (h0:0≤a) (h1:a≤1048576)
  (hs: ∀(i:Nat) (hi:i<xs.length) (b:Int),0≤b→b≤1048576→ ∃r,r≤b∧(0≤r→P xs[i])∧body (b,(i:Int))=some (if r<0 then .inr (some (-1))else .inl (r,((i+1:Nat):Int))))
  (he: ∀b,body (b,(xs.length:Int))=some (.inr (some b))): ∃v,zau body (a,0)=some v∧v≤a∧(0≤v→ ∀x∈xs,P x):=by
 have key: ∀(n q:Nat) (b:Int),q+n=xs.length→0≤b→b≤1048576→ ∃v,zau body (b,(q:Int))=some v∧v≤b∧(0≤v→ ∀x∈xs.drop q,P x):=by
  intro n
  induction n with
  |zero=>
   intro q b hq _ _
   have:q=xs.length:=by omega
   subst this
   exact⟨b,by rw [zay,he b],by omega,by simp⟩
  |succ n ih=>
   intro q b hq hb0 hb1
   have hlt:q<xs.length:=by omega
   obtain⟨r,e1,e2,e3⟩:=hs q hlt b hb0 hb1
   by_cases hr:r<0
   ·exact⟨-1,by rw [zay,e3,if_pos hr],by omega,by omega⟩
   ·obtain⟨v,f1,f2,f3⟩:=ih (q+1) r (by omega) (by omega) (by omega)
    refine⟨v,by rw [zay,e3,if_neg hr];exact f1,by omega,fun hv x hx=> ?_⟩
    rw [List.drop_eq_getElem_cons hlt]at hx
    rcases List.mem_cons.1 hx with hx|hx
    ·subst hx;exact e2 (by omega)
    ·exact f3 hv x hx
 have:=key xs.length 0 a (by omega) h0 h1
 simpa using this
theorem zeo {a:Int} {n:Nat} (h0:0≤a) (h1:a≤1048576) (hn:n≤9223372036854775807):IntKind.i64.wrap (a-(n:Int))=a-n:=za0 (by omega) (by omega)
end Go.Proofs.Ythgeekoigbihbaa
end
section
namespace Go.Proofs.Ythgeekoigbihbaa
open Go.RowKit
theorem zeU.rd {P:Program} {w:World} {ts:List TypeId} {ms:List PM} {vs:List Value} {xs:List AV} {rf hs:List Nat} (h:zeU P w ts ms vs xs rf hs):(∀m∈ms,m= .ro)→Rd w vs xs rf∧hs= []:=by
 induction h with
 |nil=>intro _;exact⟨.nil,rfl⟩
 | @cons t ts ms v vs x xs f h rf hs harg _ ih=>
  intro hms
  obtain⟨h1,rfl⟩:=ih fun m hm=>hms m (List.mem_of_mem_tail hm)
  have hro:ms.headD .ro= .ro:=by
   cases ms with
   |nil=>rfl
   |cons m ms=>exact hms m (by simp)
  rw [hro]at harg
  obtain⟨h2,h3⟩:Rd w [v] [x] f∧h= []:=harg
  subst h3
  exact⟨by simpa using h2.app h1,rfl⟩
 |free h1 _ ih=>
  intro hms
  obtain⟨h2,rfl⟩:=ih fun m hm=>hms m (List.mem_of_mem_tail hm)
  exact⟨by simpa using h1.app h2,rfl⟩
theorem zbQ.allRo {P:Program} {w:World}: ∀{ts:List TypeId} {ms:List PM} {vs:List Value},vs.length=ts.length→(∀m∈ms,m= .ro)→zbQ P w ts ms vs [] [] []
 | [],_,vs,_,_=> .nil
 |t::ts,ms, [],h,_=>by simp at h
 |t::ts,ms,v::vs,h,hms=>by
  refine .ro ?_ (zbQ.allRo (by simpa using h) fun m hm=>hms m (List.mem_of_mem_tail hm))
  cases ms with
  |nil=>rfl
  |cons m ms=>exact hms m (by simp)
def zxQ (P:Program) (sg:SgT) (f:Nat) (np:Nat) (r:AV):Bool:=
 match P.funcs[f]?,sg f with
 |some fn,some s=>fn.body.isSome&& !(fn.name== "runtime.NumGoroutine")&&zgQ P fn s r&&s.modes.all (fun m=>match m with| .ro=>true|_=>false)&&fn.params.size==np&&fn.nfree==0&&(match fn.resultTypes.toList with| [t]=> !ziw P t s.res|_=>false)
 |_,_=>false
theorem zsl {f:Nat} {xs:List AV} {r:AV} (hk:zxQ Try.prog sgs f xs.length r=true) (hc: ∀(w:World) (vs:List Value) (rf:List Nat),Rd w vs xs rf→Calls Try.prog f vs.toArray w fun e w'=>Mod [] w w'∧ ∃v f1,e= .returned v∧Rd w' [v] [r] f1∧ ∀b∈f1,b∈rf∨w.heap.size≤b):Rts Try.prog sgs f xs r:=by
 unfold zxQ at hk
 split at hk
 ·rename_i fn s hf hs
  simp only [Bool.and_eq_true,Bool.not_eq_true',beq_iff_eq,List.all_eq_true]at hk
  obtain⟨⟨⟨⟨⟨⟨h1,h2⟩,h3⟩,h4⟩,h5⟩,h6⟩,h7⟩:=hk
  have hro: ∀m∈s.modes,m= .ro:=fun m hm=>by
   have:=h4 m hm
   split at this
   ·rfl
   ·cases this
  unfold Rts
  rw [if_pos (zmb f s hs)]
  refine⟨s,hs,fn,hf,h1,h2,h3,by omega,fun w vs rf hs' hargs hd hnd=> ?_⟩
  obtain⟨hr,rfl⟩:=hargs.rd hro
  refine(hc w vs rf hr).mono ?_
  rintro e w' ⟨hm,v,f1,rfl,hv,hb⟩
  refine⟨v,rfl,⟨⟨r, [],f1, [], [], [],rfl, ?_,zbQ.allRo ?_ hro,by simp,by simp,fun b hb'=>⟨by simp, ?_⟩⟩,hm⟩⟩
  ·unfold zsE
   split at h7
   ·rename_i t ht
    rw [ht]
    show zm0 Try.prog w' t s.res v r f1 []
    unfold zm0
    rw [if_neg (by rw [Bool.not_eq_true];simpa using h7)]
    exact⟨hv,rfl⟩
   ·cases h7
  ·rw [hr.len];simp;omega
  ·rcases hb b (by simpa using hb')with h|h
   ·exact .inl h
   ·exact .inr (.inr h)
 ·cases hk
theorem zvD {w:World} {s:List UInt8} {vs:List Value} {xs:List AV} {f:List Nat} (h:Rd w vs (.str s::xs) f): ∃(b:ByteArray) (us:List Value),vs= .string b::us∧b.data.toList=s∧b.size≤9223372036854775807∧Rd w us xs f:=by
 cases h with
 |str a h=>exact⟨_,_,rfl,rfl,a,h⟩
theorem zrf {w:World} {k:IntKind} {n:Int} {vs:List Value} {xs:List AV} {f:List Nat} (h:Rd w vs (.int k n::xs) f): ∃us:List Value,vs= .int k n::us∧InK k n∧Rd w us xs f:=by
 cases h with
 |int a h=>exact⟨_,rfl,a,h⟩
theorem zoS {w:World} {vs:List Value} {f:List Nat} (h:Rd w vs [] f):vs= []∧f= []:=by
 cases h;exact⟨rfl,rfl⟩
end Go.Proofs.Ythgeekoigbihbaa
end
section
namespace Go.Proofs.Ythgeekoigbihbaa
open Go.RowKit
def zfC {α:Type} (p:α→Option Bool):List α→Option (List α)
 | []=>some []
 |x::xs=>(p x).bind fun b=>(zfC p xs).bind fun r=>some (if b=true then r else x::r)
noncomputable def zfw {α:Type} (xs:List α) (p:α→Option Bool):Option (List α):=req (xs.length≤9223372036854775806) (zfC p xs)
theorem zlP {α:Type} {p:α→Option Bool} (q:α→Bool): ∀{l:List α},(∀x∈l,p x=some (q x))→zfC p l=some (l.filter fun x=> !q x)
 | [],_=>rfl
 |x::l,h=>by
  have e:=zlP (p:=p) q (l:=l) fun y hy=>h y (List.mem_cons_of_mem _ hy)
  simp only [zfC,h x (by simp),e,Option.bind_some,List.filter_cons]
  cases q x<;>rfl
theorem zoo {α:Type} {p:α→Option Bool} {l r:List α} {q:Nat} (hq:q<l.length) (h:zfC p (l.drop q)=some r): ∃b r',p l[q]=some b∧zfC p (l.drop (q+1))=some r'∧r=if b=true then r' else l[q]::r':=by
 rw [List.drop_eq_getElem_cons hq]at h
 obtain⟨b,hb,h⟩:=zjn h
 obtain⟨r',hr,h⟩:=zjn h
 exact⟨b,r',hb,hr,by simpa using h.symm⟩
theorem zka {α:Type} {p:α→Option Bool}: ∀{l r:List α} (i:Int),zfC p l=some r→(zle p l i=some (-1)∧r=l)∨ ∃k r',k<l.length∧zle p l i=some (i+(k:Nat))∧zfC p (l.drop (k+1))=some r'∧r=l.take k++r'
 | [],r,i,h=>by cases h;exact .inl ⟨rfl,rfl⟩
 |x::l,r,i,h=>by
  obtain⟨b,hb,h⟩:=zjn h
  obtain⟨r1,hr,h⟩:=zjn h
  cases b with
  |true=>
   have:r1=r:=by simpa using h
   subst this
   exact .inr ⟨0,r1,by simp,by simp [zle,hb],by simpa using hr,by simp⟩
  |false=>
   have:r=x::r1:=by simpa using h.symm
   subst this
   rcases zka (i+1) hr with⟨h1,rfl⟩|⟨k,r',h1,h2,h3,rfl⟩
   ·exact .inl ⟨by simp [zle,hb,h1],rfl⟩
   ·exact .inr ⟨k+1,r',by simp;omega,by simp [zle,hb,h2];omega,by simpa using h3,by simp⟩
def zvU (ck:List Cn) (k:Tr):Tr:=ck.foldr (fun c k=> .chk [] c k) k
section
variable {Rt:Nat→List AV→AV→Prop} {R:AV→Prop} {L:LK} {js:List JK} {ρ:List AV}
theorem zpF: ∀{ck:List Cn} {k:Tr},(∀c∈ck,c.den ρ)→k.den Rt R L js ρ→(zvU ck k).den Rt R L js ρ
 | [],_,_,hk=>hk
 |c::ck,k,h,hk=>⟨fun _=>h c (by simp),zpF (fun q hq=>h q (by simp [hq])) hk⟩
theorem zs8 {t k:Tr} {K:List AV→Prop} (hK: ∀vs,K vs→k.den Rt R L js (ρ++vs)) (ht: ∀j:JK,(∀vs,K vs→j vs)→t.den Rt R L (j::js) ρ):(Tr.join t k).den Rt R L js ρ:=ht _ hK
end
def zuZ (fi cn:Nat) (g:Bool) (X:E) (ck:List Cn) (z:E):Tr:=
 .call [] (.inl fi) (.cons (.var 0) (.cons (.var 1) .nil))<|
 .chk [] (.dfd (.bin .eql (.var 2) (.int .i64 (-1))))<|
 .ite (.bin .eql (.var 2) (.int .i64 (-1))) (
  .ret (.var 0)) (
  .chk [] (.dfd (.bin .add (.var 2) (.int .i64 (1))))<|
  .loop (.cons (.var 2) (.cons (.bin .add (.var 2) (.int .i64 (1))) (.cons (.var 0) .nil))) (
  .chk [] (.dfd (.len (.var 5)))<|
  .chk [] (.dfd (.bin .lss (.var 4) (.len (.var 5))))<|
  .ite (.bin .lss (.var 4) (.len (.var 5))) (
   .join (
   .chk [] (.inb (.var 4) (.var 5) cn)<|
   zvU ck<|
   .call [] (.inr (.var 1)) (.cons X .nil)<|
   .chk [] (.dfd (.not (.var 6)))<|
   .ite (.not (.var 6)) (
    .chk [] (.inb (.var 3) (.var 5) cn)<|
    .chk [] (.flat X cn g)<|
    .chk [] (.flat (.fld (.idx (.var 5) (.var 3)) 0 cn g) cn g)<|
    .chk [] (.dfd (.bin .add (.var 3) (.int .i64 (1))))<|
    .jmp 0 (.cons (.bin .add (.var 3) (.int .i64 (1))) (.cons (.set (.var 5) (.var 3) (.put (.idx (.var 5) (.var 3)) 0 X g)) .nil))) (
    .jmp 0 (.cons (.var 3) (.cons (.var 5) .nil)))) (
   .chk [] (.dfd (.bin .add (.var 4) (.int .i64 (1))))<|
   .jmp 0 (.cons (.var 6) (.cons (.bin .add (.var 4) (.int .i64 (1))) (.cons (.var 7) .nil))))) (
   .jmp 1 (.cons (.var 3) (.cons (.var 5) .nil)))) (
  .chk [] (.win (.var 4) (.var 3) (.len (.var 4)))<|
  .chk [] (.win (.var 4) (.var 3) (.len (.var 4)))<|
  .chk [] (.dfd (.bin .sub (.len (.var 4)) (.var 3)))<|
  .chk [] (.win (.app (.win (.var 4) (.int .i64 (0)) (.var 3)) (.rep (.bin .sub (.len (.var 4)) (.var 3)) z)) (.int .i64 (0)) (.var 3))<|
  .ret (.win (.app (.win (.var 4) (.int .i64 (0)) (.var 3)) (.rep (.bin .sub (.len (.var 4)) (.var 3)) z)) (.int .i64 (0)) (.var 3))))
theorem zua {α:Type} {av:α→AV} {l r:List α} {p:α→Option Bool} {fi cn g9:Nat} {g:Bool} {X z:E} {ck:List Cn} {caps:List AV}
  (hs: ∀x,(av x).cells.length=cn∧(∀z∈(av x).cells,z.scalar=true)∧(g=true→ ∃cs,av x= .agg cs)∧(g=false→(av x).scalar=true)) (hcn:0<cn)
  (hX: ∀(a b c d:AV) (j:Nat) (ys:List AV) (x:α) (tl:List AV),ys[j]?=some (av x)→X.den ([a,b,c,d, .int .i64 j, .sl ys]++tl)=av x)
  (hck: ∀(a b c d:AV) (j:Nat) (ys:List AV) (x:α),ys[j]?=some (av x)→ ∀q∈ck,q.den [a,b,c,d, .int .i64 j, .sl ys])
  (h:zfw l p=some r) (hi: ∀i,zbj l p=some i→Rts Try.prog sgs fi [.sl (l.map av), .fn g9 caps] (.int .i64 i))
  (hf: ∀x b,p x=some b→Rts Try.prog sgs (1000000+g9) (av x::caps) (.bool b)):Den (zuZ fi cn g X ck z) (.sl (r.map av)) [.sl (l.map av), .fn g9 caps]:=by
 obtain⟨hn,h⟩:=zo2 h
 unfold Den zuZ
 have hput: ∀x y:α,(av y).putF 0 (av x) g=av x:=by
  intro x y
  cases g with
  |false=>rfl
  |true=>
   obtain⟨cs,hcs⟩:=(hs x).2.2.1 rfl
   have e1:=(hs x).1
   have e2:=(hs y).1
   have e3:(av x).cells=cs:=by rw [hcs];rfl
   have e4:(av y).cells.drop (0+cs.length)= []:=List.drop_eq_nil_of_le (by rw [e2,←e1,e3];omega)
   show AV.agg ((av y).cells.take 0++(av x).cells++(av y).cells.drop (0+(av x).cells.length))=av x
   rw [e3,e4,List.append_nil,List.take_zero,List.nil_append,hcs]
 have hfld: ∀x:α,(av x).fld 0 cn g=av x:=by
  intro x
  cases g with
  |false=>
   have:=zob ((hs x).2.2.2 rfl)
   simp [AV.fld,this]
  |true=>
   obtain⟨cs,hcs⟩:=(hs x).2.2.1 rfl
   have e1:=(hs x).1
   rw [hcs]at e1 ⊢
   simp only [AV.fld,if_true,AV.cells]at e1 ⊢
   rw [List.drop_zero,List.take_of_length_le (by omega)]
 have hflat: ∀(e:E) (ρ:List AV) (x:α),e.den ρ=av x→Cn.den ρ (.flat e cn g):=fun e ρ x he=>by
  show(e.den ρ).cells.length=cn∧(∀y∈(e.den ρ).cells,y.scalar=true)∧(g=true→ ∃cs,e.den ρ= .agg cs)∧(g=false→(e.den ρ).scalar=true)
  rw [he];exact hs x
 rcases zka 0 h with⟨h1,rfl⟩|⟨k0,r0,hk0,h1,h2,rfl⟩
 ·refine zjI (r:= .int .i64 (-1)) (fun _=>hi _ (by unfold zbj;rw [show req (r.length≤9223372036854775806) (zle p r 0)=zle p r 0 from if_pos hn];exact h1)) ?_
  exact zax (by simp [zaz]) (zby (t:=true) (by simp [zaz]) (fun _=>zeC (by simp)) (by simp))
 ·refine zjI (r:= .int .i64 k0) (fun _=>hi _ (by unfold zbj;rw [show req (l.length≤9223372036854775806) (zle p l 0)=zle p l 0 from if_pos hn,h1];simp)) ?_
  have hw:IntKind.i64.wrap ((k0:Int)+1)=k0+1:=za0 (by omega) (by omega)
  refine zax (by simp [zaz]) (zby (t:=false) (by simp [zaz];try omega) (by simp) fun _=>zax (by simp [zaz]) ?_)
  refine zmr zgb (fun m vs=> ∃(j:Nat) (K zs r':List α),j+m=l.length∧vs= [.int .i64 K.length, .int .i64 j, .sl (zs.map av)]∧K.length<j∧zs.length=l.length∧zs.take K.length=K∧zs.drop j=l.drop j∧zfC p (l.drop j)=some r'∧l.take k0++r0=K++r') (m:=l.length-(k0+1))
   ⟨k0+1,l.take k0,l,r0,by omega, ?_,by simp;omega,rfl,by simp [Nat.min_eq_left (Nat.le_of_lt hk0)],rfl,h2,rfl⟩ ?_
  ·simp [zaz,hw,Nat.min_eq_left (Nat.le_of_lt hk0)]
  rintro m vs ⟨j,K,zs,r',hj,rfl,hKj,hyl,hyt,hyd,hr',hres⟩
  refine zax (by simp) (zax (by simp [zaz]) ?_)
  by_cases hlt:j<l.length
  ·refine zby (t:=true) (by simp [zaz,hyl,hlt]) (fun _=> ?_) (by simp)
   obtain⟨b,r2,hb,hr2,hrr⟩:=zoo hlt hr'
   have hzj:zs[j]?=some l[j]:=by
    have:=congrArg (fun L=>L[0]?) hyd
    simpa [hlt]using this
   have hyj:(zs.map av)[j]?=some (av l[j]):=by simp [hzj]
   have hKlt:K.length<zs.length:=by omega
   have hwj:IntKind.i64.wrap ((j:Int)+1)=j+1:=za0 (by omega) (by omega)
   have hwK:IntKind.i64.wrap ((K.length:Int)+1)=K.length+1:=za0 (by omega) (by omega)
   refine zs8 (K:=fun us=> ∃(K' zs':List α),us= [.int .i64 K'.length, .sl (zs'.map av)]∧K'.length<j+1∧zs'.length=l.length∧zs'.take K'.length=K'∧zs'.drop (j+1)=l.drop (j+1)∧l.take k0++r0=K'++r2) ?_ ?_
   ·rintro us ⟨K',zs',rfl,a1,a2,a3,a4,a5⟩
    refine zax (by simp [zaz]) (zgR ⟨m-1,by omega,j+1,K',zs',r2,by omega, ?_,a1,a2,a3,a4,hr2,a5⟩)
    simp [zaz,hwj]
   ·intro J hJ
    refine zax (fun _=>⟨.i64,j,zs.length,by simp,by omega,by simp,by omega, ?_⟩) (zpF (hck _ _ _ _ j (zs.map av) _ hyj) (zjZ (r:= .bool b) (fun _=>⟨g9,caps,by simp, ?_,by simp⟩) ?_))
    ·simp [AV.nth,hzj,(hs l[j]).1]
    ·have e1:=hX (.sl (l.map av)) (.fn g9 caps) (.int .i64 k0) (.int .i64 K.length) j (zs.map av) l[j] [] hyj
     rw [List.append_nil]at e1
     show Rts Try.prog sgs (1000000+g9) ([X.den [.sl (l.map av), .fn g9 caps, .int .i64 k0, .int .i64 K.length, .int .i64 j, .sl (zs.map av)]]++caps) (.bool b)
     rw [e1]
     exact hf _ _ hb
    ·refine zax (by simp) ?_
     have e2:=hX (.sl (l.map av)) (.fn g9 caps) (.int .i64 k0) (.int .i64 K.length) j (zs.map av) l[j] [.bool b] hyj
     cases b with
     |true=>
      refine zby (t:=false) (by simp) (by simp) fun _=>zgR (hJ _ ⟨K,zs,by simp,by omega,hyl,hyt, ?_,by rw [hres,hrr];simp⟩)
      have:=congrArg (List.drop 1) hyd
      simpa [List.drop_drop]using this
     |false=>
      refine zby (t:=true) (by simp) (fun _=> ?_) (by simp)
      obtain⟨zk,hzk⟩: ∃zk,zs[K.length]?=some zk:=⟨zs[K.length],by simp [hKlt]⟩
      have e3:(E.idx (.var 5) (.var 3)).den ([AV.sl (l.map av), .fn g9 caps, .int .i64 k0, .int .i64 K.length, .int .i64 j, .sl (zs.map av)]++ [.bool false])=av zk:=by
       simp [AV.nth,hzk]
      refine zax (fun _=>⟨.i64,K.length,zs.length,by simp,by omega,by simp,by omega, ?_⟩) (zax (fun _=>hflat _ _ _ e2) (zax (fun _=>hflat _ _ zk ?_) (zax (by simp [zaz]) (zgR (hJ _ ⟨K++ [l[j]],zs.set K.length l[j], ?_,by simp;omega,by simpa using hyl, ?_, ?_,by rw [hres,hrr];simp⟩)))))
      ·simp [AV.nth,hzk,(hs zk).1]
      ·exact(congrArg (fun y=>AV.fld y 0 cn g) e3).trans (hfld zk)
      ·have e4:(E.set (.var 5) (.var 3) (.put (.idx (.var 5) (.var 3)) 0 X g)).den ([AV.sl (l.map av), .fn g9 caps, .int .i64 k0, .int .i64 K.length, .int .i64 j, .sl (zs.map av)]++ [.bool false])= .sl ((zs.set K.length l[j]).map av):=by
        show AV.setNth _ _ (AV.putF ((E.idx (.var 5) (.var 3)).den _) 0 (X.den _) g)=_
        rw [e3,e2,hput]
        simp [AV.setNth,List.map_set]
       show EL.den _ (.cons (.bin .add (.var 3) (.int .i64 1)) (.cons (.set (.var 5) (.var 3) (.put (.idx (.var 5) (.var 3)) 0 X g)) .nil))=_
       simp only [EL.den]
       have e5:(E.bin .add (.var 3) (.int .i64 1)).den ([AV.sl (l.map av), .fn g9 caps, .int .i64 k0, .int .i64 K.length, .int .i64 j, .sl (zs.map av)]++ [.bool false])= .int .i64 ((K++ [l[j]]).length:Int):=by
        simp [zaz,hwK]
       congr 1
       congr 1
      ·rw [List.length_append,List.length_singleton,List.take_add_one,List.take_set_of_le (Nat.le_refl _),hyt]
       simp [hKlt]
      ·rw [List.drop_set_of_lt (by omega)]
       have:=congrArg (List.drop 1) hyd
       simpa [List.drop_drop]using this
  ·have hje:j=l.length:=by omega
   subst hje
   refine zby (t:=false) (by simp [zaz,hyl]) (by simp) fun _=>zjG ?_
   have hr0:r'= []:=by
    rw [List.drop_eq_nil_of_le (Nat.le_refl _)]at hr'
    exact(by simpa [zfC]using hr'.symm)
   subst hr0
   rw [hres,List.append_nil]
   have hwn:IntKind.i64.wrap ((zs.length:Int)-K.length)=zs.length-K.length:=za0 (by omega) (by omega)
   have d3:(E.var 3).den ([AV.sl (l.map av),AV.fn g9 caps]++ [AV.int .i64 (k0:Int)]++ [AV.int .i64 (K.length:Int),AV.sl (zs.map av)])= .int .i64 K.length:=by simp
   have d4:(E.var 4).den ([AV.sl (l.map av),AV.fn g9 caps]++ [AV.int .i64 (k0:Int)]++ [AV.int .i64 (K.length:Int),AV.sl (zs.map av)])= .sl (zs.map av):=by simp
   have dm:(E.bin .sub (.len (.var 4)) (.var 3)).den ([AV.sl (l.map av),AV.fn g9 caps]++ [AV.int .i64 (k0:Int)]++ [AV.int .i64 (K.length:Int),AV.sl (zs.map av)])= .int .i64 ((zs.length:Int)-K.length):=by simp [zaz,hwn]
   have hwin:Cn.den ([AV.sl (l.map av),AV.fn g9 caps]++ [AV.int .i64 (k0:Int)]++ [AV.int .i64 (K.length:Int),AV.sl (zs.map av)]) (.win (.var 4) (.var 3) (.len (.var 4))):=⟨.i64,K.length, .i64,zs.length,zs.length,d3,by simp,by rw [d4];simp,by omega,by omega,by omega⟩
   have dapp:(E.app (.win (.var 4) (.int .i64 (0)) (.var 3)) (.rep (.bin .sub (.len (.var 4)) (.var 3)) z)).den ([AV.sl (l.map av),AV.fn g9 caps]++ [AV.int .i64 (k0:Int)]++ [AV.int .i64 (K.length:Int),AV.sl (zs.map av)])= .sl ((zs.map av).take K.length++List.replicate (zs.length-K.length) (z.den ([AV.sl (l.map av),AV.fn g9 caps]++ [AV.int .i64 (k0:Int)]++ [AV.int .i64 (K.length:Int),AV.sl (zs.map av)]))):=by
    show AV.app (AV.win ((E.var 4).den _) (.int .i64 0) ((E.var 3).den _)) (AV.rep ((E.bin .sub (.len (.var 4)) (.var 3)).den _) _)=_
    rw [d3,d4,dm]
    simp only [AV.win,AV.rep,AV.app,Int.toNat_natCast,Int.toNat_zero,List.drop_zero]
    congr 3;omega
   refine zax (fun _=>hwin) (zax (fun _=>hwin) (zax (fun _=>fun hu=>by have:=dm.symm.trans hu;simp at this) (zax (fun _=>⟨.i64,0, .i64,K.length,zs.length,rfl,d3, ?_,by omega,by omega,by omega⟩) (zeC ?_))))
   ·refine(congrArg AV.len dapp).trans ?_
    simp only [AV.len,List.length_append,List.length_take,List.length_map,List.length_replicate]
    congr 1;omega
   ·refine(congrArg (fun y=>AV.win y (.int .i64 0) (.int .i64 K.length)) dapp).trans ?_
    simp only [AV.win,Int.toNat_natCast,Int.toNat_zero,List.drop_zero]
    rw [List.take_append_of_le_length (by simp;omega),List.take_take,Nat.min_self,←List.map_take,hyt]
end Go.Proofs.Ythgeekoigbihbaa
end
section
namespace Go.Proofs
open Go.Shelf
def Try.lays128_ren:Go.Shelf.Ren:=⟨fun|128=>145|n=>n,fun|51=>175|3=>3|4=>4|46=>157|5=>5|9=>9|n=>n,fun|n=>n⟩
theorem Try.lays128:Go.Proofs.Lays.n128 Try.prog Try.lays128_ren:={
 mixed:=by kernel_rfl
 f128:=Try.func145.trans (congrArg some (by kernel_rfl))
 t3:=Try.underlying3
 a3:=Try.isAgg3
 z3:=Try.sizeOf3
 v3:=Try.zeroValue3
 t4:=Try.underlying4
 a4:=Try.isAgg4
 z4:=Try.sizeOf4
 v4:=Try.zeroValue4
 t5:=Try.underlying5
 a5:=Try.isAgg5
 z5:=Try.sizeOf5
 v5:=Try.zeroValue5
 t9:=Try.underlying9
 a9:=Try.isAgg9
 z9:=Try.sizeOf9
 v9:=Try.zeroValue9
 t46:=Try.underlying157
 a46:=Try.isAgg157
 z46:=Try.sizeOf157
 v46:=Try.zeroValue157
 t51:=Try.underlying175
 a51:=Try.isAgg175
 z51:=Try.sizeOf175
 v51:=Try.zeroValue175}
theorem Try.bits_Len32 (x:Int) (w:World) (h0:0≤x) (h1:x≤4294967295):
  Calls Try.prog 145 #[.int .u32 x] w fun e w'=>e= .returned (.int .i64 (Lib.bitLen x.toNat))∧w'=w:=Any.bits_Len32 Try.lays128 x w h0 h1
def Try.lays125_ren:Go.Shelf.Ren:=⟨fun|125=>119|128=>145|129=>146|n=>n,fun|46=>157|3=>3|51=>175|53=>80|4=>4|5=>5|9=>9|n=>n,fun|n=>n⟩
theorem Try.lays125:Go.Proofs.Lays.n125 Try.prog Try.lays125_ren:={
 mixed:=by kernel_rfl
 f125:=Try.func119.trans (congrArg some (by kernel_rfl))
 f128:=Try.func145.trans (congrArg some (by kernel_rfl))
 f129:=Try.func146.trans (congrArg some (by kernel_rfl))
 t3:=Try.underlying3
 a3:=Try.isAgg3
 z3:=Try.sizeOf3
 v3:=Try.zeroValue3
 t4:=Try.underlying4
 a4:=Try.isAgg4
 z4:=Try.sizeOf4
 v4:=Try.zeroValue4
 t5:=Try.underlying5
 a5:=Try.isAgg5
 z5:=Try.sizeOf5
 v5:=Try.zeroValue5
 t9:=Try.underlying9
 a9:=Try.isAgg9
 z9:=Try.sizeOf9
 v9:=Try.zeroValue9
 t46:=Try.underlying157
 a46:=Try.isAgg157
 z46:=Try.sizeOf157
 v46:=Try.zeroValue157
 t51:=Try.underlying175
 a51:=Try.isAgg175
 z51:=Try.sizeOf175
 v51:=Try.zeroValue175
 t53:=Try.underlying80
 a53:=Try.isAgg80
 z53:=Try.sizeOf80
 v53:=Try.zeroValue80}
theorem Try.bits_Len (x:Int) (w:World) (h0:0≤x) (h1:x≤18446744073709551615):
  Calls Try.prog 119 #[.int .u64 x] w fun e w'=>e= .returned (.int .i64 (Lib.bitLen x.toNat))∧w'=w:=Any.bits_Len Try.lays125 x w h0 h1
def Try.lays137_ren:Go.Shelf.Ren:=⟨fun|137=>152|217=>158|266=>160|n=>n,fun|9=>9|5=>5|3=>3|n=>n,fun|n=>n⟩
theorem Try.lays137:Go.Proofs.Lays.n137 Try.prog Try.lays137_ren:={
 mixed:=by kernel_rfl
 f137:=Try.func152.trans (congrArg some (by kernel_rfl))
 f217:=Try.func158.trans (congrArg some (by kernel_rfl))
 f266:=Try.func160.trans (congrArg some (by kernel_rfl))
 t3:=Try.underlying3
 a3:=Try.isAgg3
 z3:=Try.sizeOf3
 v3:=Try.zeroValue3
 t5:=Try.underlying5
 a5:=Try.isAgg5
 z5:=Try.sizeOf5
 v5:=Try.zeroValue5
 t9:=Try.underlying9
 a9:=Try.isAgg9
 z9:=Try.sizeOf9
 v9:=Try.zeroValue9}
open Go.RowKit in
theorem Try.strings_IndexByte (s:ByteArray) (c:Int) (w:World):
  Calls Try.prog 152 #[.string s, .int .u8 c] w fun e w'=>e= .returned (.int .i64 (Lib.indexByte s.data.toList c.toNat.toUInt8))∧w'=w:=Any.strings_IndexByte Try.lays137 s c w
def Try.lays215_ren:Go.Shelf.Ren:=⟨fun|215=>147|n=>n,fun|3=>3|4=>4|n=>n,fun|n=>n⟩
theorem Try.lays215:Go.Proofs.Lays.n215 Try.prog Try.lays215_ren:={
 mixed:=by kernel_rfl
 f215:=Try.func147.trans (congrArg some (by kernel_rfl))
 t3:=Try.underlying3
 a3:=Try.isAgg3
 z3:=Try.sizeOf3
 v3:=Try.zeroValue3
 t4:=Try.underlying4
 a4:=Try.isAgg4
 z4:=Try.sizeOf4
 v4:=Try.zeroValue4}
open Go.RowKit in
theorem Try.cmp_isNaN_int (x:Int) (w:World):
  Calls Try.prog 147 #[.int .i64 x] w fun e w'=>e= .returned (.bool false)∧w'=w:=Any.cmp_isNaN_int Try.lays215 x w
def Try.lays122_ren:Go.Shelf.Ren:=⟨fun|122=>121|215=>147|n=>n,fun|3=>3|4=>4|n=>n,fun|n=>n⟩
theorem Try.lays122:Go.Proofs.Lays.n122 Try.prog Try.lays122_ren:={
 mixed:=by kernel_rfl
 f122:=Try.func121.trans (congrArg some (by kernel_rfl))
 f215:=Try.func147.trans (congrArg some (by kernel_rfl))
 t3:=Try.underlying3
 a3:=Try.isAgg3
 z3:=Try.sizeOf3
 v3:=Try.zeroValue3
 t4:=Try.underlying4
 a4:=Try.isAgg4
 z4:=Try.sizeOf4
 v4:=Try.zeroValue4}
open Go.RowKit in
theorem Try.cmp_Compare_int (x y:Int) (w:World):
  Calls Try.prog 121 #[.int .i64 x, .int .i64 y] w fun e w'=>e= .returned (.int .i64 (Lib.compareInt x y))∧w'=w:=Any.cmp_Compare_int Try.lays122 x y w
def Try.lays129_ren:Go.Shelf.Ren:=⟨fun|129=>146|n=>n,fun|53=>80|3=>3|4=>4|46=>157|5=>5|9=>9|n=>n,fun|n=>n⟩
theorem Try.lays129:Go.Proofs.Lays.n129 Try.prog Try.lays129_ren:={
 mixed:=by kernel_rfl
 f129:=Try.func146.trans (congrArg some (by kernel_rfl))
 t3:=Try.underlying3
 a3:=Try.isAgg3
 z3:=Try.sizeOf3
 v3:=Try.zeroValue3
 t4:=Try.underlying4
 a4:=Try.isAgg4
 z4:=Try.sizeOf4
 v4:=Try.zeroValue4
 t5:=Try.underlying5
 a5:=Try.isAgg5
 z5:=Try.sizeOf5
 v5:=Try.zeroValue5
 t9:=Try.underlying9
 a9:=Try.isAgg9
 z9:=Try.sizeOf9
 v9:=Try.zeroValue9
 t46:=Try.underlying157
 a46:=Try.isAgg157
 z46:=Try.sizeOf157
 v46:=Try.zeroValue157
 t53:=Try.underlying80
 a53:=Try.isAgg80
 z53:=Try.sizeOf80
 v53:=Try.zeroValue80}
theorem Try.bits_Len64 (x:Int) (w:World) (h0:0≤x) (h1:x≤18446744073709551615):
  Calls Try.prog 146 #[.int .u64 x] w fun e w'=>e= .returned (.int .i64 (Lib.bitLen x.toNat))∧w'=w:=Any.bits_Len64 Try.lays129 x w h0 h1
def Try.lays217_ren:Go.Shelf.Ren:=⟨fun|217=>158|266=>160|n=>n,fun|9=>9|5=>5|3=>3|n=>n,fun|n=>n⟩
theorem Try.lays217:Go.Proofs.Lays.n217 Try.prog Try.lays217_ren:={
 mixed:=by kernel_rfl
 f217:=Try.func158.trans (congrArg some (by kernel_rfl))
 f266:=Try.func160.trans (congrArg some (by kernel_rfl))
 t3:=Try.underlying3
 a3:=Try.isAgg3
 z3:=Try.sizeOf3
 v3:=Try.zeroValue3
 t5:=Try.underlying5
 a5:=Try.isAgg5
 z5:=Try.sizeOf5
 v5:=Try.zeroValue5
 t9:=Try.underlying9
 a9:=Try.isAgg9
 z9:=Try.sizeOf9
 v9:=Try.zeroValue9}
open Go.RowKit Go.Lib in
theorem Try.stringslite_IndexByte (s:ByteArray) (c:Int) (w:World):
  Calls Try.prog 158 #[.string s, .int .u8 c] w fun e w'=>e= .returned (.int .i64 (Lib.indexByte s.data.toList c.toNat.toUInt8))∧w'=w:=Any.stringslite_IndexByte Try.lays217 s c w
def Try.laysNm237_ren:Go.Shelf.Ren:=⟨fun|37=>147|n=>n,fun|3=>3|4=>4|n=>n,fun|n=>n⟩
theorem Try.laysNm237:Go.Proofs.Lays2.n37 Try.prog Try.laysNm237_ren:={
 mixed:=by kernel_rfl
 f37:=Try.func147.trans (congrArg some (by kernel_rfl))
 t3:=Try.underlying3
 a3:=Try.isAgg3
 z3:=Try.sizeOf3
 v3:=Try.zeroValue3
 t4:=Try.underlying4
 a4:=Try.isAgg4
 z4:=Try.sizeOf4
 v4:=Try.zeroValue4}
open Go.RowKit Go.Lib in
theorem Try.cmp_isNaN_int2 (x:Int) (w:World):
  Calls Try.prog 147 #[.int .i64 x] w fun e w'=>e= .returned (.bool false)∧w'=w:=Any.cmp_isNaN_int2 Try.laysNm237 x w
end Go.Proofs
end
section
namespace Go.Proofs.Ythgeekoigbihbaa
open Go.RowKit
set_option maxRecDepth 100000
theorem zja: ∀(l:List UInt8) (c:UInt8), -1≤Lib.indexByte l c∧Lib.indexByte l c<l.length∨Lib.indexByte l c= -1
 | [],_=> .inr rfl
 |b::l,c=>by
  unfold Lib.indexByte
  rcases zja l c with h|h
  ·split
   ·left;simp
   ·split
    ·exact .inr rfl
    ·left;rw [List.length_cons];omega
  ·rw [h]
   split
   ·left;simp
   ·right;rfl
theorem zpY {n:Int} (h1: -9223372036854775808≤n) (h2:n≤9223372036854775807):InK .i64 n:=za0 h1 h2
theorem zyd {b:ByteArray} {c:UInt8} (h:b.data.toList= [c]):b=⟨#[c]⟩:=by
 cases b with
 |mk d=>cases d with
  |mk l=>simp at h;rw [h]
def zaD (s:List UInt8) (c:Int):Option Int:=some (Lib.indexByte s c.toNat.toUInt8)
theorem zdT (a0:List UInt8) (a1:Int) (r:Int) (h:zaD a0 a1=some r):Rts Try.prog sgs 158 [.str a0, .int .u8 a1] (.int .i64 r):=zsl (by kernel_rfl) fun w vs rf hr=>by
 obtain⟨b,us,rfl,rfl,hb,hr⟩:=zvD hr
 obtain⟨us1,rfl,_,hr⟩:=zrf hr
 obtain⟨rfl,rfl⟩:=zoS hr
 refine(Try.stringslite_IndexByte b a1 w).mono ?_
 rintro e w' ⟨rfl,rfl⟩
 cases h
 have hl:b.data.toList.length≤9223372036854775807:=by rw [Array.length_toList];exact hb
 exact⟨Mod.refl [] _,_, [],rfl, .int (by rcases zja b.data.toList a1.toNat.toUInt8 with h|h<;>exact zpY (by omega) (by omega)) .nil,by simp⟩
def zkA (x:Int):Option Int:=some (Lib.bitLen x.toNat:Int)
theorem zje: ∀(f x:Nat),Lib.bitLenAux f x≤f
 |0,_=>by simp [Lib.bitLenAux]
 |f+1,x=>by
  unfold Lib.bitLenAux
  have:=zje f (x/2)
  split<;>omega
theorem zsi (a0:Int) (r:Int) (h:zkA a0=some r):Rts Try.prog sgs 119 [.int .u64 a0] (.int .i64 r):=zsl (by kernel_rfl) fun w vs rf hr=>by
 obtain⟨us1,rfl,hI,hr⟩:=zrf hr
 obtain⟨rfl,rfl⟩:=zoS hr
 have hb:0≤a0∧a0≤18446744073709551615:=by
  unfold InK at hI
  simp only [IntKind.wrap,IntKind.bits,IntKind.signed]at hI
  simp at hI
  omega
 refine(Try.bits_Len a0 w hb.1 hb.2).mono ?_
 rintro e w' ⟨rfl,rfl⟩
 cases h
 have:=zje 64 a0.toNat
 exact⟨Mod.refl [] _,_, [],rfl, .int (by unfold Lib.bitLen;exact zpY (by omega) (by omega)) .nil,by simp⟩
end Go.Proofs.Ythgeekoigbihbaa
end
section
namespace Go.Proofs.Ythgeekoigbihbaa
open Go.RowKit
theorem ze8 {P:Program} (w:World) (dT sT ty elem:TypeId) (k:Nat) (g o dLen dCap:Nat) (a:Addr) (sLen sCap:Nat) (cur:Array Value) (t:TypeId) (cs:List Value)
  (hu:P.underlying dT=some (.slice elem)) (hs:(P.info? elem).map (·.size)=some k)
  (hg:w.heap[g]?=some (.cells cur t (0,0))) (hn:cs.length=Nat.min sLen dLen*k)
  (hsrc: ∀j v,cs[j]?=some v→w.cell? (a.add j)=some v) (hfit:o+cs.length≤cur.size) (h1: ∀v∈cs,v.oneCell'=true):
  (Builtin.copy_ #[dT,sT] ty #[.slice (some ⟨g,o,none⟩) dLen dCap, .slice (some a) sLen sCap]).run P w=
   .ok (goInt (Nat.min sLen dLen)) (w.setRow g (cur.toList.take o++cs++cur.toList.drop (o+cs.length)).toArray):=by
 have hl:=run_loadCells_list (P:=P) w a cs hsrc
 have hst:=run_storeCells_at P g o t cs 0 cur w hg (by simpa using hfit) h1
 cases hq:P.info? elem with
 |none=>simp [hq]at hs
 |some i=>
  have hi:i.size=k:=by simpa [hq]using hs
  rw [hn]at hl
  simp [Builtin.copy_,run_underlying hu,Builtin.lenOf,Builtin.firstCells,sizeOf,typeInfo,hq,hi,hl,hst]
theorem zge {P:Program} (w:World) {ops:Array Oper} {rest:List Oper} {o:Oper} {a:Act} {Q:Exit→Act→World→Prop} (hgd:o.guard=none) (d s:Operand) (t t':TypeId)
  (ho:o.op= .call {callee:= .builtin .copy,args:= #[d,s],argTypes:= #[t,t']}) (v u:Value) (hd:a.eval d=v) (hs:a.eval s=u) {v':Value} {w':World}
  (hr:(Builtin.copy_ #[t,t'] o.type #[v,u]).run P w= .ok v' w') (h:wpList P ops Q rest (a.put o.dst v') w'):wpList P ops Q (o::rest) a w:=
 wpList_plain hgd fun _ hK=>by
  unfold Oper.wp execOp
  simp only [ho,resolve,invoke,builtin,Sem.run_bind,Sem.run_pure,Result.andThen_ok,List.map_toArray,List.map_cons,List.map_nil,hd,hs,hr]
  exact hK _ _ h
theorem zke {P:Program} {ops:Array Oper} {o:Oper} {a:Act} {w:World} {K:Act→World→Prop} {Q:Exit→Act→World→Prop} {E:Prop}
  (hg:o.guard=none) (d x:Operand) (dT sT:TypeId) (hop:o.op=Op.call {callee:=Callee.builtin Builtin.copy,args:= #[d,x],argTypes:= #[dT,sT]})
  (v u:Value) (hd:a.eval d=v) (hx:a.eval x=u) {v':Value} {w':World} (hr:(Builtin.copy_ #[dT,sT] o.type #[v,u]).run P w= .ok v' w') (hK:K (a.put o.dst v') w'):
  if Region.wanted o (yielded ops a.tmps)=true then Oper.wp P o a w K Q else E:=by
 have hw:Region.wanted o (yielded ops a.tmps)=true:=by simp [Region.wanted,hg]
 rw [if_pos hw]
 unfold Oper.wp
 simp [execOp,hop,resolve,invoke,builtin,hd,hx,hr,Result.andThen]
 exact hK
def zoG (w:World) (el:TypeId) (k:Nat) (g cap:Nat) (C:Array Value) (n:Nat) (cs:List Value):Prop:=
 n≤cap∧cap≤maxLen∧w.heap[g]?=some (.cells C el (0,0))∧C.size=cap*k∧cs=C.toList.take (n*k)
def zuD (w w':World) (el:TypeId) (k:Nat) (own:List Nat) (v:Value) (n:Nat) (cs:List Value):Prop:=
 ∃g cap C,v= .slice (some ⟨g,0,none⟩) n cap∧zoG w' el k g cap C n cs∧Mod own w w'∧(g∈own∨w.heap.size≤g)
def zup (P:Program) (f:Nat) (el:TypeId) (k:Nat):Prop:=
 ∀(w:World) (v:Value) (n i:Nat) (cs:List Value) (own:List Nat) (vb vc m:Nat) (VC:Array Value) (vs:List Value),cs.length=n*k→
  ((n=0∧ ∃q,v= .slice q 0 0)∨ ∃g cap C,v= .slice (some ⟨g,0,none⟩) n cap∧zoG w el k g cap C n cs∧g∈own)→i≤n→zoG w el k vb vc VC m vs→(∀g∈own,vb≠g)→0<m→(n+m)*1000≤140737488355328→
  (∀u∈vs,u.oneCell'=true)→(∀u∈cs,u.oneCell'=true)→
  Calls P f #[v, .int .i64 i, .slice (some ⟨vb,0,none⟩) m vc] w fun e w'=> ∃u,e= .returned u∧zuD w w' el k own u (n+m) (cs.take (i*k)++vs++cs.drop (i*k))
theorem zoG.cell {w:World} {el:TypeId} {k g cap:Nat} {C:Array Value} {n:Nat} {cs:List Value} (h:zoG w el k g cap C n cs) (off:Nat) (j:Nat) (v:Value) (hj:(cs.drop off)[j]?=some v):w.cell? ((⟨g,off,none⟩:Addr).add j)=some v:=by
 obtain⟨_,_,h3,_,h5⟩:=h
 rw [Addr.add_lit,zam h3]
 rw [List.getElem?_drop,h5,List.getElem?_take]at hj
 split at hj
 ·simpa using hj
 ·cases hj
theorem zoG.len {w:World} {el:TypeId} {k g cap:Nat} {C:Array Value} {n:Nat} {cs:List Value} (h:zoG w el k g cap C n cs):cs.length=n*k:=by
 obtain⟨h1,_,_,h4,h5⟩:=h
 have:=Nat.mul_le_mul_right k h1
 rw [h5,List.length_take,Array.length_toList];omega
theorem zw4 {α:Type} (cur cs vs:List α) (i m n:Nat) (hc:cs=cur.take n) (hi:i≤n) (hv:vs.length=m) (hn:n+m≤cur.length):
  let c1:=cur.take (i+m)++cs.drop i++cur.drop (i+m+(cs.drop i).length)
  (c1.take i++vs++c1.drop (i+vs.length)).take (n+m)=cs.take i++vs++cs.drop i:=by
 have hcl:cs.length=n:=by rw [hc,List.length_take];omega
 have hd:(cs.drop i).length=n-i:=by rw [List.length_drop,hcl]
 intro c1
 have e1:c1.take i=cs.take i:=by
  show(cur.take (i+m)++cs.drop i++_).take i=_
  rw [List.append_assoc,List.take_append_of_le_length (by rw [List.length_take];omega),List.take_take,hc,List.take_take]
  congr 1;omega
 have e2:c1.drop (i+vs.length)=cs.drop i++cur.drop (i+m+(cs.drop i).length):=by
  show(cur.take (i+m)++cs.drop i++_).drop _=_
  rw [List.append_assoc,List.drop_append_of_le_length (by rw [List.length_take,hv];omega),List.drop_eq_nil_of_le (by rw [List.length_take,hv];omega),List.nil_append]
 rw [e1,e2]
 have l1:(cs.take i++vs++cs.drop i).length=n+m:=by
  simp only [List.length_append,List.length_take,hv,hd,hcl];omega
 rw [←List.append_assoc,←l1,List.take_left]
theorem two {α:Type} (zs cs vs:List α) (i m n:Nat) (cur:List α) (hcur:cur=cs.take i++zs) (hcl:cs.length=n) (hi:i≤n) (hv:vs.length=m) (hz:n+m-i≤zs.length):
  let c1:=cur.take i++vs++cur.drop (i+vs.length)
  (c1.take (i+m)++cs.drop i++c1.drop (i+m+(cs.drop i).length)).take (n+m)=cs.take i++vs++cs.drop i:=by
 have ht:(cs.take i).length=i:=by rw [List.length_take];omega
 intro c1
 have e1:c1=cs.take i++vs++cur.drop (i+vs.length):=by
  show cur.take i++vs++cur.drop (i+vs.length)=_
  rw [hcur]
  congr 2
  rw [List.take_append_of_le_length (by omega),List.take_take,Nat.min_self]
 have e2:c1.take (i+m)=cs.take i++vs:=by
  have l2:(cs.take i++vs).length=i+m:=by rw [List.length_append,ht,hv]
  rw [e1,←l2,List.take_left]
 rw [e2]
 have l1:(cs.take i++vs++cs.drop i).length=n+m:=by
  simp only [List.length_append,ht,hv,List.length_drop,hcl];omega
 rw [←l1,List.take_left]
end Go.Proofs.Ythgeekoigbihbaa
end
section
namespace Go.Proofs.Ythgeekoigbihbaa
open Go.RowKit
theorem zkJ (xs ys:List AV):zal (xs++ys)=zal xs++zal ys:=by simp [zal]
theorem zqF {K:Nat} {xs:List AV} (h: ∀y∈xs,y.cells.length=K) {i:Nat} (hi:i≤xs.length):zal (xs.take i)=(zal xs).take (i*K)∧zal (xs.drop i)=(zal xs).drop (i*K):=by
 have l1:(zal (xs.take i)).length=i*K:=by rw [zex _ fun y hy=>h y (List.mem_of_mem_take hy),List.length_take,Nat.min_eq_left hi]
 have e:zal xs=zal (xs.take i)++zal (xs.drop i):=by rw [←zkJ,List.take_append_drop]
 rw [e,←l1,List.take_left,List.drop_left]
 exact⟨rfl,rfl⟩
theorem zbl.rowC {w:World} {el K:Nat} {v:Value} {x:AV} {top:List Nat} (h:zbl w el K v x top []): ∃xs cs,x= .sl xs∧0<K∧(∀y∈xs,y.cells.length=K)∧cs.length=xs.length*K∧Rd w cs (zal xs) []∧(∀u∈cs,u.oneCell'=true)∧
  ((xs= []∧top= []∧ ∃q,v= .slice q 0 0)∨ ∃g cap C,v= .slice (some ⟨g,0,none⟩) xs.length cap∧zoG w el K g cap C xs.length cs∧top= [g]):=by
 obtain⟨xs,rfl,h2,h3,⟨rfl,⟨a,hv⟩,rfl,_⟩|⟨g,cap,C,rfl,h6,h7,h8,h9,rfl,h10,h11⟩⟩:=h
 ·exact⟨[], [],rfl,h3,h2,by simp,by simpa [zal]using Rd.nil,by simp, .inl ⟨rfl,rfl,a,hv⟩⟩
 ·exact⟨xs,_,rfl,h3,h2,(zoG.len ⟨h6,h7,h8,h9,rfl⟩),h11,h10, .inr ⟨g,cap,C,rfl,⟨h6,h7,h8,h9,rfl⟩,rfl⟩⟩
theorem zk8 {P:Program} {w:World} {t el:TypeId} {v:Value} {x:AV} {rf hs:List Nat} (ha:zav P t=false) (hl:zak P t= [t]) (he:zcI P t=some el) (hf:zdr P el=true) (h:zoL P w t [true] v x rf hs):rf= []∧zbl w el (P.cellsOf el) v x hs []:=by
 obtain⟨us,ys,h1,h2⟩:=h
 rw [ha]at h1
 simp only [Bool.false_eq_true,if_false]at h1
 obtain⟨rfl,rfl⟩:=h1
 rw [hl]at h2
 cases h2 with
 |own q1 q2 q3 q4 q5=>
  cases q5
  rw [he]at q2;cases q2
  exact⟨rfl,by simpa using q4⟩
 |deep q1 q2 q3=>
  rw [he]at q2;cases q2
  rw [hf]at q3;cases q3
 |rd q1=>
  have:=q1 rfl
  rw [he]at this;cases this
def zxe (P:Program) (sg:SgT) (f:Nat) (t it el K:Nat):Bool:=
 match P.funcs[f]?,sg f with
 |some fn,some s=>(match s.modes,s.res with
  | [.va [true], .ro, .va [true]], [true]=>true
  |_,_=>false)&&fn.body.isSome&& !(fn.name== "runtime.NumGoroutine")&&fn.params.toList== [t,it,t]&&fn.resultTypes.toList== [t]&&fn.nfree==0&& !zav P t&&zak P t== [t]&&zcI P t==some el&&zdr P el&&P.cellsOf el==K&&ziw P t [true]&&fn.params.size==3
 |_,_=>false
def zuK (P:Program) (sg:SgT) (f:Nat) (r:List AV):Bool:=match P.funcs[f]?,sg f with
 |some fn,some s=>zgQ P fn s (.sl r)
 |_,_=>false
theorem zuW {f t it el K:Nat} (hk:zxe Try.prog sgs f t it el K=true) (hfl: ∀r,zuK Try.prog sgs f r=true) (hins:zup Try.prog f el K) (xs ys:List AV) (i:Int) (h0:0≤i) (h1:i≤xs.length) (hy:ys≠ []) (hb:(xs.length+ys.length)*1000≤140737488355328):
  Rts Try.prog sgs f [.sl xs, .int .i64 i, .sl ys] (.sl (xs.take i.toNat++ys++xs.drop i.toNat)):=by
 unfold zxe at hk
 split at hk
 ·rename_i fn s hf hs
  simp only [Bool.and_eq_true,Bool.not_eq_true',beq_iff_eq]at hk
  obtain⟨⟨⟨⟨⟨⟨⟨⟨⟨⟨⟨⟨g1,g2⟩,g3⟩,g4⟩,g5⟩,g6⟩,g7⟩,g8⟩,g9⟩,g10⟩,g11⟩,g12⟩,g13⟩:=hk
  obtain⟨hm,hr⟩:s.modes= [.va [true], .ro, .va [true]]∧s.res= [true]:=by
   split at g1
   ·rename_i a b;exact⟨a,b⟩
   ·cases g1
  unfold Rts
  rw [if_pos (zmb f s hs)]
  refine⟨s,hs,fn,hf,g2,g3,by have:=hfl (xs.take i.toNat++ys++xs.drop i.toNat);unfold zuK at this;rw [hf,hs]at this;exact this,by simp [g6,g13],fun w vs rf hs' hargs hd hnd=> ?_⟩
  rw [g4,hm]at hargs
  cases hargs with
  | @cons _ _ _ v1 vs1 _ _ f1 k1 rf1 hs1 a1 hargs=>
   cases hargs with
   | @cons _ _ _ v2 vs2 _ _ f2 k2 rf2 hs2 a2 hargs=>
    cases hargs with
    | @cons _ _ _ v3 vs3 _ _ f3 k3 rf3 hs3 a3 hargs=>
     cases hargs
     obtain⟨rfl,r1⟩:=zk8 g7 g8 g9 g10 a1
     obtain⟨rfl,r3⟩:=zk8 g7 g8 g9 g10 a3
     obtain⟨a2,rfl⟩:Rd w [v2] [AV.int .i64 i] f2∧k2= []:=a2
     obtain⟨us,rfl2,hI,a2⟩:=zrf a2
     obtain⟨rfl,rfl⟩:=zoS a2
     cases rfl2
     obtain⟨xs',cs,e1,p0,p1,p2,p3,p4,p5⟩:=r1.rowC
     cases e1
     obtain⟨ys',cv,e2,_,q1,q2,q3,q4,q5⟩:=r3.rowC
     cases e2
     rw [g11]at p0 p1 p2 p5 q1 q2 q5
     obtain⟨vb,vc,VC,rfl,hv,rfl⟩: ∃g cap C,v3= .slice (some ⟨g,0,none⟩) ys.length cap∧zoG w el K g cap C ys.length cv∧k3= [g]:=by
      rcases q5 with⟨h,_⟩|h
      ·exact absurd h hy
      ·exact h
     have hnd':k1++ [vb]=k1++([]++([vb]++ [])):=by simp
     have hap: ∀g∈k1,vb≠g:=by
      intro g hg e
      subst e
      have:=(List.nodup_append.1 hnd).2.2 vb hg vb (by simp)
      exact this rfl
     have hym:0<ys.length:=by cases ys with|nil=>exact absurd rfl hy|cons=>simp
     have hc:=hins w v1 xs.length i.toNat cs k1 vb vc ys.length VC cv p2 (by
      rcases p5 with⟨rfl,_,q,rfl⟩|⟨g,cap,C,rfl,h,rfl⟩
      ·exact .inl ⟨rfl,q,rfl⟩
      ·exact .inr ⟨g,cap,C,rfl,h,by simp⟩) (by omega) hv hap hym hb q4 p4
     rw [show((i.toNat:Nat):Int)=i by omega]at hc
     refine hc.mono ?_
     rintro e w' ⟨u,rfl,g,cap,C,rfl,⟨z1,z2,z3,z4,z5⟩,hmod,hgo⟩
     have hfr: ∀{us:List Value} {zs:List AV},Rd w us zs []→Rd w' us zs []:=fun h=>h.frame (by simp)
     have cut: ∀o n,Rd w ((cs.drop o).take n) (((zal xs).drop o).take n) []:=fun o n=>by
      obtain⟨gg,k1,k2⟩:=p3.piece o n
      have:gg= []:=List.eq_nil_iff_forall_not_mem.2 fun b hb=>by simpa using k1 b hb
      rw [this]at k2;exact k2
     obtain⟨t1,t2⟩:=zqF p1 (i:=i.toNat) (by omega)
     have hmul:=Nat.mul_le_mul_right K (show i.toNat≤xs.length by omega)
     have hrd:Rd w' (cs.take (i.toNat*K)++cv++cs.drop (i.toNat*K)) (zal (xs.take i.toNat++ys++xs.drop i.toNat)) []:=by
      rw [zkJ,zkJ,t1,t2]
      have c1:=cut 0 (i.toNat*K)
      have c2:=cut (i.toNat*K) (cs.length-i.toNat*K)
      rw [List.drop_zero,List.drop_zero]at c1
      rw [List.take_of_length_le (by simp),List.take_of_length_le (by rw [List.length_drop,zex _ p1,p2];exact Nat.le_refl _)]at c2
      exact(((hfr c1).app (hfr q3)).app (hfr c2))
     have hlen:(xs.take i.toNat++ys++xs.drop i.toNat).length=xs.length+ys.length:=by
      simp only [List.length_append,List.length_take,List.length_drop];omega
     have hown:zbl w' el K (.slice (some ⟨g,0,none⟩) (xs.length+ys.length) cap) (.sl (xs.take i.toNat++ys++xs.drop i.toNat)) [g] []:=by
      refine⟨_,rfl,fun y hy=> ?_,p0, .inr ⟨g,cap,C,by rw [hlen],by rw [hlen];exact z1,z2,z3,z4,rfl, ?_, ?_⟩⟩
      ·rcases List.mem_append.1 hy with hy|hy
       ·rcases List.mem_append.1 hy with hy|hy
        ·exact p1 y (List.mem_of_mem_take hy)
        ·exact q1 y hy
       ·exact p1 y (List.mem_of_mem_drop hy)
      ·rw [hlen,←z5]
       intro u hu
       rcases List.mem_append.1 hu with hu|hu
       ·rcases List.mem_append.1 hu with hu|hu
        ·exact p4 u (List.mem_of_mem_take hu)
        ·exact q4 u hu
       ·exact p4 u (List.mem_of_mem_drop hu)
      ·rw [hlen,←z5];exact hrd
     refine⟨_,rfl,⟨⟨_, [], [], [g], [], [],rfl, ?_, ?_,by simp, ?_,by simp⟩,hmod.weaken fun b hb=> .inl (by simp [hb])⟩⟩
     ·rw [g5]
      show zm0 Try.prog w' t s.res _ _ [] [g]
      unfold zm0
      rw [hr,if_pos g12]
      refine⟨[.slice (some ⟨g,0,none⟩) (xs.length+ys.length) cap], [.sl (xs.take i.toNat++ys++xs.drop i.toNat)],by rw [g7];simp, ?_⟩
      rw [g8]
      have:=zaP.own (P:=Try.prog) (t:=t) (ts:= []) (fl:= [true]) (us:= []) (ys:= []) (rf:= []) (hs:= []) rfl g9 (.inl g10) (by rw [g11];exact hown) .nil
      simpa using this
     ·rw [g4,hm]
      exact .va rfl (.ro rfl (.va rfl .nil))
     ·intro b hb
      simp only [List.append_nil,List.mem_singleton]at hb
      subst hb
      exact⟨by rcases hgo with h|h;exact .inl (by simp [h]);exact .inr h,zaB z3⟩
 ·cases hk
noncomputable def zjH {α:Type} (xs:List α) (i:Int) (ys:List α):Option (List α):=req (0≤i∧i≤xs.length∧0<ys.length∧(xs.length+ys.length)*1000≤140737488355328) (some (xs.take i.toNat++ys++xs.drop i.toNat))
theorem zur {f t it el K:Nat} (hk:zxe Try.prog sgs f t it el K=true) (hfl: ∀r,zuK Try.prog sgs f r=true) (hins:zup Try.prog f el K) {α:Type} {av:α→AV} {xs ys r:List α} {i:Int} (h:zjH xs i ys=some r):
  Rts Try.prog sgs f [.sl (xs.map av), .int .i64 i, .sl (ys.map av)] (.sl (r.map av)):=by
 obtain⟨⟨h0,h1,h2,h3⟩,h⟩:=zo2 h
 cases h
 have:=zuW hk hfl hins (xs.map av) (ys.map av) i h0 (by simpa using h1) (by cases ys with|nil=>simp at h2|cons=>simp) (by simpa using h3)
 simpa [List.map_append,List.map_take,List.map_drop]using this
end Go.Proofs.Ythgeekoigbihbaa
end
section
namespace Go.Proofs.Ythgeekoigbihbaa
open Go.RowKit
set_option maxRecDepth 100000
theorem zkB: ∃i z,Try.prog.info? 71=some i∧i.size=3∧i.zero=some z∧z.cells.size=3∧i.bytes≤1000:=by
 have h:(match Try.prog.info? 71 with|some i=>(match i.zero with|some z=>i.size==3&&z.cells.size==3&&decide (i.bytes≤1000)|none=>false)|none=>false)=true:=by kernel_rfl
 split at h
 ·rename_i i hi
  split at h
  ·rename_i z hz
   simp only [Bool.and_eq_true,beq_iff_eq,decide_eq_true_eq]at h
   exact⟨i,z,hi,h.1.1,hz,h.1.2,h.2⟩
  ·cases h
 ·cases h
set_option maxHeartbeats 4000000 in
theorem zmE (w:World) (v:Value) (n:Nat) (cs:List Value) (own:List Nat) (hcl:cs.length=n*3) (hrow:(n=0∧ ∃q,v= .slice q 0 0)∨ ∃g cap C,v= .slice (some ⟨g,0,none⟩) n cap∧zoG w 71 3 g cap C n cs∧g∈own)
  (vb vc m:Nat) (VC:Array Value) (vs:List Value) (hv:zoG w 71 3 vb vc VC m vs) (hm:0<m) (hb:(n+m)*1000≤140737488355328) (h1v: ∀u∈vs,u.oneCell'=true):
  Calls Try.prog 78 #[v, .int .i64 n, .slice (some ⟨vb,0,none⟩) m vc] w fun e w'=> ∃u,e= .returned u∧zuD w w' 71 3 own u (n+m) (cs++vs):=by
 obtain⟨i0,z0,hi,hs,hz,hzs,hby⟩:=zkB
 have hz1: ¬((m:Int)=0):=by omega
 have hsrc:Src w i0.size (some ⟨vb,0,none⟩) m vs:= .inr ⟨_,rfl,by rw [hs];exact hv.len,fun j u hj=>hv.cell 0 j u (by simpa using hj),h1v⟩
 obtain⟨v',w1,hr,hres⟩:=zpb (P:=Try.prog) w 30 30 71 i0 z0 Try.underlying30 hi hz (by rw [hzs,hs]) (by omega) (fun b=>b∈own) v n cs (by rw [hs];exact hcl)
  (by
   rcases hrow with h|⟨g,cap,C,rfl,⟨h1,h2,h3,h4,h5⟩,h6⟩
   ·exact .inl h
   ·exact .inr ⟨g,cap,C,rfl,h1,h2,h3,by rw [hs];exact h4,by rw [hs];exact h5,h6⟩)
  (some ⟨vb,0,none⟩) m vc vs hsrc (by simp only [maxLen];omega) (by
   have:=Nat.mul_le_mul_left (n+m) hby
   omega)
 have fin:zuD w w1 71 3 own v' (n+m) (cs++vs):=by
  rcases hres with⟨_,_,h⟩|⟨g,cap,C,rfl,h1,h2,h3,h4,h5,h6,h7⟩
  ·omega
  ·refine⟨g,cap,C,rfl,⟨h1,h2,h3,by rw [hs]at h4;exact h4,by rw [hs]at h5;exact h5.symm⟩, ?_,h7.symm.imp id fun h=>by omega⟩
   refine⟨h6.os,h6.tape,h6.output,h6.size,fun b hb hn=>h6.block b hb fun e=> ?_⟩
   cases e
   rcases h7 with h7|h7
   ·omega
   ·exact hn h7
 clear hres
 rcases hrow with⟨rfl,q,rfl⟩|⟨g,cap,C,rfl,_,_⟩
 ·cases q with
  |none=>
   go_enter Try.func78,Try.ntmps78
   go_wp2_with (at_builtin;refine Lib.wpList_append_run _ rfl _ _ _ _ rfl _ _ rfl rfl _ _ hr ?_)
   all_goals (go_ret;exact⟨_,rfl,fin⟩)
  |some q=>
   obtain⟨qb,qo,qs⟩:=q
   go_enter Try.func78,Try.ntmps78
   go_wp2_with (at_builtin;refine Lib.wpList_append_run _ rfl _ _ _ _ rfl _ _ rfl rfl _ _ hr ?_)
   all_goals (go_ret;exact⟨_,rfl,fin⟩)
 ·go_enter Try.func78,Try.ntmps78
  go_wp2_with (at_builtin;refine Lib.wpList_append_run _ rfl _ _ _ _ rfl _ _ rfl rfl _ _ hr ?_)
  all_goals (go_ret;exact⟨_,rfl,fin⟩)
set_option maxHeartbeats 4000000 in
theorem zlh (w:World) (n i g cap:Nat) (C:Array Value) (cs:List Value) (own:List Nat) (vb vc m:Nat) (hrow:zoG w 71 3 g cap C n cs) (hin:i<n) (hroom:cap<n+m)
  (VC:Array Value) (vs:List Value) (hv:zoG w 71 3 vb vc VC m vs) (hm:0<m) (hb:(n+m)*1000≤140737488355328) (h1v: ∀u∈vs,u.oneCell'=true) (h1c: ∀u∈cs,u.oneCell'=true):
  Calls Try.prog 78 #[.slice (some ⟨g,0,none⟩) n cap, .int .i64 i, .slice (some ⟨vb,0,none⟩) m vc] w fun e w'=> ∃u,e= .returned u∧zuD w w' 71 3 own u (n+m) (cs.take (i*3)++vs++cs.drop (i*3)):=by
 obtain⟨i0,z0,hi,hs,hz,hzs,hby⟩:=zkB
 have hcl:=hrow.len
 have hvl:=hv.len
 have hcc:=hrow
 obtain⟨hnc,hcm,hg,hCs,hcs⟩:=hcc
 have hgw:g<w.heap.size:=zaB hg
 have hvw:vb<w.heap.size:=zaB hv.2.2.1
 have hsz:(Try.prog.info? 71).map (·.size)=some 3:=by rw [hi];simp [hs]
 have hik:i+(n+m-i)=n+m:=by omega
 have hbb:(n+m)*i0.bytes≤140737488355328:=Nat.le_trans (Nat.mul_le_mul_left _ hby) hb
 have hbk:(n+m-i)*i0.bytes≤140737488355328:=Nat.le_trans (Nat.mul_le_mul_right _ (by omega)) hbb
 have hold:(Builtin.firstCells i0.size i (.slice (some ⟨g,0,none⟩) i cap)).run Try.prog w.drew= .ok (cs.take (i*3)).toArray w.drew:=by
  rw [hs]
  exact run_firstCells_some w.drew 3 i ⟨g,0,none⟩ i cap (cs.take (i*3)) (by rw [List.length_take];omega) (fun j v hj=>by
   rw [List.getElem?_take]at hj
   split at hj
   ·exact hrow.cell 0 j v (by simpa using hj)
   ·cases hj)
 have hrz: ∀ty,(Builtin.append_ #[30,3] ty #[.slice (some ⟨g,0,none⟩) i cap, .int .i64 ((n:Int)+(m:Int)-(i:Int))]).run Try.prog w=
   .ok (.slice (some ⟨w.heap.size,0,none⟩) (n+m) (grownCap w (n+m) cap 71)) (w.drew.alloc (.cells ((cs.take (i*3)).toArray++Builtin.zeroCells z0.cells (n+m-i)++Builtin.zeroCells z0.cells (grownCap w (n+m) cap 71-(n+m))) 71)):=fun ty=>by
  have h:=Lib.run_append_grow_zeros w 30 3 ty 71 i0 z0 .i64 .i64 Try.underlying30 Try.underlying3 hi hz (some ⟨g,0,none⟩) i cap (cs.take (i*3)) hold (n+m-i) (by omega) (by omega) (by omega) (by omega) (by omega) (by rw [hik];exact growslice_fits hroom hbb)
  rw [hik]at h
  rw [show(n:Int)+(m:Int)-(i:Int)=((n+m-i:Nat):Int) by omega]
  exact h
 obtain⟨G,hG⟩: ∃G,G=grownCap w (n+m) cap 71:=⟨_,rfl⟩
 obtain⟨ROW,hROW⟩: ∃ROW:Array Value,ROW=(cs.take (i*3)).toArray++Builtin.zeroCells z0.cells (n+m-i)++Builtin.zeroCells z0.cells (G-(n+m)):=⟨_,rfl⟩
 have hGn:n+m≤G:=by rw [hG];exact grownCap_ge w _ _ _
 have hG63:G≤maxLen:=by rw [hG];exact grownCap_le_maxLen w (n+m) cap 71 (by unfold maxLen;omega)
 have hG64:G≤9223372036854775807:=hG63
 rw [←hG]at hrz
 rw [←hROW]at hrz
 have hRs:ROW.size=G*3:=by
  rw [hROW]
  simp only [Array.size_append,List.size_toArray,List.length_take,size_zeroCells,hzs]
  omega
 obtain⟨ROW2,hR2⟩: ∃R:Array Value,R=(ROW.toList.take (i*3)++vs++ROW.toList.drop (i*3+vs.length)).toArray:=⟨_,rfl⟩
 obtain⟨ROW3,hR3⟩: ∃R:Array Value,R=(ROW2.toList.take ((i+m)*3)++cs.drop (i*3)++ROW2.toList.drop ((i+m)*3+(cs.drop (i*3)).length)).toArray:=⟨_,rfl⟩
 have hR2s:ROW2.size=G*3:=by
  rw [hR2]
  simp only [List.size_toArray,List.length_append,List.length_take,List.length_drop,Array.length_toList]
  omega
 have hR3s:ROW3.size=G*3:=by
  rw [hR3]
  simp only [List.size_toArray,List.length_append,List.length_take,List.length_drop,Array.length_toList]
  omega
 obtain⟨N,hN⟩: ∃N,N=w.heap.size:=⟨_,rfl⟩
 have hA:(w.alloc (.cells ROW 71)).heap[N]?=some (.cells ROW 71 (0,0)):=by rw [hN];exact heap_alloc_new w _
 have hO: ∀k,k<N→(w.alloc (.cells ROW 71)).heap[k]?=w.heap[k]?:=fun k hk=>Below.heap_alloc w _ k (by omega)
 have hcpA: ∀(W:World),W.heap=(w.alloc (.cells ROW 71)).heap→ ∀ty dc,(Builtin.copy_ #[30,30] ty #[.slice (some ⟨N,i*3,none⟩) (n+m-i) dc, .slice (some ⟨vb,0,none⟩) m vc]).run Try.prog W= .ok (goInt m) (W.setRow N ROW2):=fun W hW ty dc=>by
  have h:=ze8 (P:=Try.prog) W 30 30 ty 71 3 N (i*3) (n+m-i) dc ⟨vb,0,none⟩ m vc ROW 71 vs Try.underlying30 hsz (by rw [hW];exact hA) (by rw [hvl,show Nat.min m (n+m-i)=m from Nat.min_eq_left (by omega)])
   (fun j v hj=>by
    rw [World.cell?_of_block (w:=w) (by rw [Addr.add_lit,hW];exact hO vb (by omega))]
    exact hv.cell 0 j v (by simpa using hj)) (by rw [hRs,hvl];omega) h1v
  rw [show Nat.min m (n+m-i)=m from Nat.min_eq_left (by omega),←hR2]at h
  exact h
 have hB:((w.alloc (.cells ROW 71)).setRow N ROW2).heap[N]?=some (.cells ROW2 71 (0,0)):=setRow_heap _ _ _ _ _ _ hA
 have hO2: ∀k,k<N→((w.alloc (.cells ROW 71)).setRow N ROW2).heap[k]?=w.heap[k]?:=fun k hk=>by rw [setRow_other _ _ _ _ (by omega)];exact hO k hk
 have hcpB: ∀(W:World),W.heap=((w.alloc (.cells ROW 71)).setRow N ROW2).heap→ ∀ty dc sc,(Builtin.copy_ #[30,30] ty #[.slice (some ⟨N,(i+m)*3,none⟩) (n+m-(i+m)) dc, .slice (some ⟨g,i*3,none⟩) (n-i) sc]).run Try.prog W= .ok (goInt ((n-i:Nat):Int)) (W.setRow N ROW3):=fun W hW ty dc sc=>by
  have h:=ze8 (P:=Try.prog) W 30 30 ty 71 3 N ((i+m)*3) (n+m-(i+m)) dc ⟨g,i*3,none⟩ (n-i) sc ROW2 71 (cs.drop (i*3)) Try.underlying30 hsz (by rw [hW];exact hB) (by rw [List.length_drop,hcl,show Nat.min (n-i) (n+m-(i+m))=n-i from Nat.min_eq_left (by omega)];omega)
   (fun j v hj=>by
    rw [World.cell?_of_block (w:=w) (by rw [Addr.add_lit,hW];exact hO2 g (by omega))]
    exact hrow.cell (i*3) j v hj) (by rw [hR2s,List.length_drop,hcl];omega) (fun v hv=>h1c v (List.mem_of_mem_drop hv))
  rw [show Nat.min (n-i) (n+m-(i+m))=n-i from Nat.min_eq_left (by omega),←hR3]at h
  exact h
 have fin: ∀W:World,W.os=w.os→W.tape=w.tape→W.output=w.output→W.heap=(((w.alloc (.cells ROW 71)).setRow N ROW2).setRow N ROW3).heap→zuD w W 71 3 own (.slice (some ⟨N,0,none⟩) (n+m) G) (n+m) (cs.take (i*3)++vs++cs.drop (i*3)):=fun W w1 w2 w3 hW=>by
  refine⟨N,G,ROW3,rfl,⟨hGn,hG63,by rw [hW];exact setRow_heap _ _ _ _ _ _ hB,hR3s, ?_⟩,⟨w1,w2,w3,by rw [hW];simp,fun k hk _=>by rw [hW,setRow_other _ _ _ _ (by omega)];exact hO2 k (by omega)⟩, .inr (by omega)⟩
  have h:=two ((Builtin.zeroCells z0.cells (n+m-i)).toList++(Builtin.zeroCells z0.cells (G-(n+m))).toList) cs vs (i*3) (m*3) (n*3) ROW.toList (by rw [hROW];simp) hcl (Nat.mul_le_mul_right _ (by omega)) hvl (by simp only [List.length_append,Array.length_toList,size_zeroCells,hzs];omega)
  rw [hR3,hR2,Nat.add_mul n m,Nat.add_mul i m]
  exact h.symm
 have hz1: ¬((m:Int)=0):=by omega
 have hz2: ¬((i:Int)=(n:Int)):=by omega
 have hz3:(cap:Int)<(n:Int)+(m:Int):=by omega
 have hGi: ¬(G=i):=by omega
 have hGim: ¬(G=i+m):=by omega
 have hci: ¬(cap=i):=by omega
 have hw1:IntKind.i64.wrap ((i:Int)+(m:Int))=(i:Int)+(m:Int):=by rw [IntKind.wrap_i64];omega
 have hb1:(0:Int)≤(i:Int)+(m:Int):=by omega
 have hin':i≤n:=by omega
 have htn:((i:Int)+(m:Int)).toNat=i+m:=by omega
 have hb3:(i:Int)≤(n:Int):=by omega
 have hE1:((w.alloc (.cells ROW 71)).drew).heap=(w.alloc (.cells ROW 71)).heap:=rfl
 have hF1:(((w.alloc (.cells ROW 71)).drew.setRow N ROW2).drew).heap=((w.alloc (.cells ROW 71)).setRow N ROW2).heap:=rfl
 subst hN
 clear hold hik hROW hG hR2 hR3 hA hO hB hO2 hcs
 go_enter Try.func78,Try.ntmps78
 go_wp2_with (first
  |(at_builtin;refine Lib.wpList_append_run _ rfl _ _ _ _ rfl _ _ rfl rfl _ _ (hrz _) ?_)
  |(at_builtin;refine zge _ rfl _ _ 30 30 rfl _ _ rfl rfl (hcpA _ hE1 _ _) ?_)
  |(at_builtin;refine zge _ rfl _ _ 30 30 rfl _ _ rfl rfl (hcpB _ rfl _ _ _) ?_))
 go_region_law (refine zke rfl _ _ 30 30 rfl (.slice (some ⟨w.heap.size,(i+m)*3,none⟩) (n+m-(i+m)) (G-(i+m))) (.slice (some ⟨g,i*3,none⟩) (n-i) (cap-i)) (by simp [Act.eval,Act.put]) (by simp [Act.eval,Act.put]) (hcpB _ hF1 3 (G-(i+m)) (cap-i)) ?_)
 go_wp2
 go_ret
 exact⟨_,rfl,fin _ rfl rfl rfl rfl⟩
set_option maxHeartbeats 4000000 in
theorem zkX (w:World) (n i g cap:Nat) (C:Array Value) (cs:List Value) (own:List Nat) (vb vc m:Nat) (hrow:zoG w 71 3 g cap C n cs) (hgo:g∈own) (hin:i<n) (hroom:n+m≤cap) (hvb:vb≠g)
  (VC:Array Value) (vs:List Value) (hv:zoG w 71 3 vb vc VC m vs) (hm:0<m) (hb:(n+m)*1000≤140737488355328) (h1v: ∀u∈vs,u.oneCell'=true) (h1c: ∀u∈cs,u.oneCell'=true):
  Calls Try.prog 78 #[.slice (some ⟨g,0,none⟩) n cap, .int .i64 i, .slice (some ⟨vb,0,none⟩) m vc] w fun e w'=> ∃u,e= .returned u∧zuD w w' 71 3 own u (n+m) (cs.take (i*3)++vs++cs.drop (i*3)):=by
 obtain⟨i0,z0,hi,hs,hz,hzs,hby⟩:=zkB
 have hcl:=hrow.len
 have hvl:=hv.len
 have hcc:=hrow
 obtain⟨hnc,hcm,hg,hCs,hcs⟩:=hcc
 have hgw:g<w.heap.size:=zaB hg
 have hsz:(Try.prog.info? 71).map (·.size)=some 3:=by rw [hi];simp [hs]
 have hc64:cap≤9223372036854775807:=hcm
 have hwn:=hv.2.2.1
 have hov: ∀lb cb,(callFunc 109 #[.slice (some ⟨vb,0,none⟩) m vc, .slice (some ⟨g,(i+m)*3,none⟩) lb cb]).run Try.prog w= .ok (.value (.bool false)) w:=fun lb cb=>by
  rw [run_callFunc_extern Try.func109 (by kernel_rfl) (by kernel_rfl) (by kernel_rfl) (e:=Extern.SlicesOverlaps.overlaps #[30,30] #[4]) (by kernel_rfl),
   Lib.run_overlaps_apart w 30 4 71 Try.underlying30 3 (fun w=>by simp [Go.sizeOf,typeInfo,hi,hs]) ⟨vb,0,none⟩ ⟨g,(i+m)*3,none⟩ m vc lb cb hvb 71 71 VC.size C.size (by simp [World.shape?,hwn]) (by simp [World.shape?,hg]) (by omega) (by simp [World.frozen?,hwn]) (by simp [World.frozen?,hwn])]
  rfl
 obtain⟨C1,hC1⟩: ∃R:Array Value,R=(C.toList.take ((i+m)*3)++cs.drop (i*3)++C.toList.drop ((i+m)*3+(cs.drop (i*3)).length)).toArray:=⟨_,rfl⟩
 obtain⟨C2,hC2⟩: ∃R:Array Value,R=(C1.toList.take (i*3)++vs++C1.toList.drop (i*3+vs.length)).toArray:=⟨_,rfl⟩
 have hC1s:C1.size=cap*3:=by
  rw [hC1]
  simp only [List.size_toArray,List.length_append,List.length_take,List.length_drop,Array.length_toList]
  omega
 have hC2s:C2.size=cap*3:=by
  rw [hC2]
  simp only [List.size_toArray,List.length_append,List.length_take,List.length_drop,Array.length_toList]
  omega
 have hcp1: ∀(W:World),W.heap=w.heap→ ∀ty dc sc,(Builtin.copy_ #[30,30] ty #[.slice (some ⟨g,(i+m)*3,none⟩) (n+m-(i+m)) dc, .slice (some ⟨g,i*3,none⟩) (n+m-i) sc]).run Try.prog W= .ok (goInt ((n-i:Nat):Int)) (W.setRow g C1):=fun W hW ty dc sc=>by
  have h:=ze8 (P:=Try.prog) W 30 30 ty 71 3 g ((i+m)*3) (n+m-(i+m)) dc ⟨g,i*3,none⟩ (n+m-i) sc C 71 (cs.drop (i*3)) Try.underlying30 hsz (by rw [hW];exact hg) (by rw [List.length_drop,hcl,show Nat.min (n+m-i) (n+m-(i+m))=n-i from by rw [show Nat.min (n+m-i) (n+m-(i+m))=n+m-(i+m)from Nat.min_eq_right (by omega)];omega];omega)
   (fun j v hj=>by
    rw [World.cell?_of_block (w:=w) (by rw [hW])]
    exact hrow.cell (i*3) j v hj) (by rw [hCs,List.length_drop,hcl];omega) (fun v hv=>h1c v (List.mem_of_mem_drop hv))
  rw [show Nat.min (n+m-i) (n+m-(i+m))=n-i from by rw [show Nat.min (n+m-i) (n+m-(i+m))=n+m-(i+m)from Nat.min_eq_right (by omega)];omega,←hC1]at h
  exact h
 have hB:(w.setRow g C1).heap[g]?=some (.cells C1 71 (0,0)):=setRow_heap _ _ _ _ _ _ hg
 have hcp2: ∀(W:World),W.heap=(w.setRow g C1).heap→ ∀ty dc,(Builtin.copy_ #[30,30] ty #[.slice (some ⟨g,i*3,none⟩) (n+m-i) dc, .slice (some ⟨vb,0,none⟩) m vc]).run Try.prog W= .ok (goInt m) (W.setRow g C2):=fun W hW ty dc=>by
  have h:=ze8 (P:=Try.prog) W 30 30 ty 71 3 g (i*3) (n+m-i) dc ⟨vb,0,none⟩ m vc C1 71 vs Try.underlying30 hsz (by rw [hW];exact hB) (by rw [hvl,show Nat.min m (n+m-i)=m from Nat.min_eq_left (by omega)])
   (fun j v hj=>by
    rw [World.cell?_of_block (w:=w) (by rw [Addr.add_lit,hW];exact setRow_other _ _ _ _ (by simpa using hvb))]
    exact hv.cell 0 j v (by simpa using hj)) (by rw [hC1s,hvl];omega) h1v
  rw [show Nat.min m (n+m-i)=m from Nat.min_eq_left (by omega),←hC2]at h
  exact h
 have fin: ∀W:World,W.os=w.os→W.tape=w.tape→W.output=w.output→W.heap=((w.setRow g C1).setRow g C2).heap→zuD w W 71 3 own (.slice (some ⟨g,0,none⟩) (n+m) cap) (n+m) (cs.take (i*3)++vs++cs.drop (i*3)):=fun W w1 w2 w3 hW=>by
  refine⟨g,cap,C2,rfl,⟨hroom,hcm,by rw [hW];exact setRow_heap _ _ _ _ _ _ hB,hC2s, ?_⟩,⟨w1,w2,w3,by rw [hW];simp,fun k hk hn=>by rw [hW,setRow_other _ _ _ _ (fun e=>hn (by first|(rw [e];exact hgo)|(rw [←e];exact hgo))),setRow_other _ _ _ _ (fun e=>hn (by first|(rw [e];exact hgo)|(rw [←e];exact hgo)))]⟩, .inl hgo⟩
  have h:=zw4 C.toList cs vs (i*3) (m*3) (n*3) hcs (Nat.mul_le_mul_right _ (by omega)) hvl (by rw [Array.length_toList,hCs];omega)
  rw [hC2,hC1,Nat.add_mul n m,Nat.add_mul i m]
  exact h.symm
 have hz1: ¬((m:Int)=0):=by omega
 have hz2: ¬((i:Int)=(n:Int)):=by omega
 have hz3: ¬((cap:Int)<(n:Int)+(m:Int)):=by omega
 have hci: ¬(cap=i):=by omega
 have hcim: ¬(cap=i+m):=by omega
 have hw1:IntKind.i64.wrap ((i:Int)+(m:Int))=(i:Int)+(m:Int):=by rw [IntKind.wrap_i64];omega
 have hb1:(0:Int)≤(i:Int)+(m:Int):=by omega
 have hin':i≤n:=by omega
 have htn:((i:Int)+(m:Int)).toNat=i+m:=by omega
 have hb3:(i:Int)≤(n:Int):=by omega
 have hb4:(i:Int)≤(n:Int)+(m:Int):=by omega
 have hF1:(w.drew).heap=w.heap:=rfl
 have hF2:(w.drew.setRow g C1).heap=(w.setRow g C1).heap:=rfl
 clear hC1 hC2 hB hcs hwn hg
 go_enter Try.func78,Try.ntmps78
 go_wp2_with (simp only [hov])
 go_region_law (refine zke rfl _ _ 30 30 rfl (.slice (some ⟨g,(i+m)*3,none⟩) (n+m-(i+m)) (cap-(i+m))) (.slice (some ⟨g,i*3,none⟩) (n+m-i) (cap-i)) (by simp [Act.eval,Act.put]) (by simp [Act.eval,Act.put]) (hcp1 _ hF1 3 (cap-(i+m)) (cap-i)) ?_)
 go_wp2_with (at_builtin;refine zge _ rfl _ _ 30 30 rfl _ _ rfl rfl (hcp2 _ hF2 _ _) ?_)
 go_ret
 exact⟨_,rfl,fin _ rfl rfl rfl rfl⟩
theorem zsp:zup Try.prog 78 71 3:=by
 intro w v n i cs own vb vc m VC vs hcl hrow hin hv hvb hm hb h1v h1c
 by_cases he:i=n
 ·subst he
  refine(zmE w v i cs own hcl hrow vb vc m VC vs hv hm hb h1v).mono ?_
  rintro e w' ⟨u,rfl,h⟩
  refine⟨u,rfl, ?_⟩
  rw [List.take_of_length_le (by omega),List.drop_eq_nil_of_le (by omega),List.append_nil]
  exact h
 ·rcases hrow with⟨rfl,_⟩|⟨g,cap,C,rfl,hr,hg⟩
  ·omega
  ·by_cases hc:n+m≤cap
   ·exact zkX w n i g cap C cs own vb vc m hr hg (by omega) hc (hvb g hg) VC vs hv hm hb h1v h1c
   ·exact zlh w n i g cap C cs own vb vc m hr (by omega) (by omega) VC vs hv hm hb h1v h1c
end Go.Proofs.Ythgeekoigbihbaa
end
section
namespace Go.Proofs.Ythgeekoigbihbaa
open Go.RowKit Go.Sort
def zjh {α:Type} (av:α→AV) (x:α):List Value:=(av x).cells.map AV.val
theorem zvL {w:World}: ∀{cs:List Value} {ys:List AV} {f:List Nat},Rd w cs ys f→(∀y∈ys,y.scalar=true)→cs=ys.map AV.val:=by
 intro cs ys f h
 induction h with
 |nil=>intro _;rfl
 |int _ _ ih=>intro hy;rw [ih fun y m=>hy y (by simp [m])];rfl
 |bool _ ih=>intro hy;rw [ih fun y m=>hy y (by simp [m])];rfl
 |str _ _ ih=>intro hy;rw [ih fun y m=>hy y (by simp [m])];rfl
 |_=>intro hy;first|(have:=hy _ (List.mem_cons_self ..);simp [AV.scalar]at this)
section
variable {α:Type} {av:α→AV} {k:Nat}
theorem zpM (hsc: ∀x,∀y∈(av x).cells,y.scalar=true) {w:World}: ∀{xs:List α} {cs:List Value},Rd w cs (zal (xs.map av)) []→cs=xs.flatMap (zjh av)∧ ∀x∈xs,Rd w (zjh av x) (av x).cells []
 | [],cs,h=>by
  have:zal (List.map av [])= []:=rfl
  rw [this]at h
  cases h
  exact⟨rfl,by simp⟩
 |x::xs,cs,h=>by
  have e:zal ((x::xs).map av)=(av x).cells++zal (xs.map av):=by simp [zal]
  rw [e]at h
  have hl:=h.len
  have e2:cs=cs.take (av x).cells.length++cs.drop (av x).cells.length:=(List.take_append_drop _ _).symm
  rw [e2]at h
  obtain⟨f1,f2,hf,h1,h2⟩:=Rd.unapp (by rw [List.length_take,hl];simp) h
  obtain⟨rfl,rfl⟩:f1= []∧f2= []:=by simpa using hf.symm
  obtain⟨g1,g2⟩:=zpM hsc h2
  have g3:=zvL h1 (hsc x)
  refine⟨by rw [e2,g3,g1];simp [zjh],fun y hy=> ?_⟩
  rcases List.mem_cons.1 hy with rfl|hy
  ·unfold zjh;rw [←g3];exact h1
  ·exact g2 y hy
theorem zrx {w:World}: ∀{xs:List α},(∀x∈xs,Rd w (zjh av x) (av x).cells [])→Rd w (xs.flatMap (zjh av)) (zal (xs.map av)) []
 | [],_=>by simpa [zal]using Rd.nil
 |x::xs,h=>by
  have e:zal ((x::xs).map av)=(av x).cells++zal (xs.map av):=by simp [zal]
  rw [e,List.flatMap_cons]
  exact(h x (by simp)).app (zrx fun y hy=>h y (by simp [hy]))
variable [Inhabited α]
omit [Inhabited α]in
theorem zl5 {j n k:Nat} (h:j<n*k):0<k:=by
 cases k with
 |zero=>simp at h
 |succ k=>omega
omit [Inhabited α]in
theorem zpt {enc:α→List Value} (hk: ∀x,(enc x).length=k): ∀(l:List α),(l.flatMap enc).length=l.length*k
 | []=>by simp
 |x::l=>by simp only [List.flatMap_cons,List.length_append,hk,zpt hk l,List.length_cons,Nat.add_mul];omega
theorem zpv {enc:α→List Value} (hk: ∀x,(enc x).length=k): ∀(l:List α) (j:Nat),j<l.length*k→(l.flatMap enc)[j]?=(enc l[j/k]!)[j % k]?
 | [],j,h=>by simp at h
 |x::l,j,h=>by
  have k0:0<k:=zl5 h
  rw [List.flatMap_cons]
  by_cases hj:j<k
  ·rw [List.getElem?_append_left (by rw [hk];exact hj),Nat.div_eq_of_lt hj,Nat.mod_eq_of_lt hj];rfl
  ·rw [List.getElem?_append_right (by rw [hk];omega),hk,zpv hk l (j-k) (by simp only [List.length_cons,Nat.add_mul]at h;omega)]
   obtain⟨i,rfl⟩: ∃i,j=i+k:=⟨j-k,by omega⟩
   rw [Nat.add_sub_cancel,Nat.add_div_right _ k0,Nat.add_mod_right];rfl
theorem zmf {enc:α→List Value} (hk: ∀x,(enc x).length=k) (d:Array α):(flatK enc k d).toList=d.toList.flatMap enc:=by
 apply List.ext_getElem?
 intro j
 by_cases hj:j<d.size*k
 ·have k0:0<k:=zl5 hj
  have hd:j/k<d.size:=Nat.div_lt_of_lt_mul (by rw [Nat.mul_comm];exact hj)
  have hm:j % k<k:=Nat.mod_lt _ k0
  rw [zpv hk _ _ (by simpa using hj)]
  have h1:=get_flatK enc k d j hj
  rw [Array.getElem?_toList,Array.getElem?_eq_getElem (by simpa using hj),←getElem!_pos (flatK enc k d) j (by simpa using hj),h1]
  rw [show(d.toList[j/k]!)=(d[j/k]!) by simp [hd],List.getElem?_eq_getElem (by rw [hk];exact hm),getElem!_pos _ _ (by rw [hk];exact hm)]
 ·rw [List.getElem?_eq_none (by simpa using hj),List.getElem?_eq_none (by rw [zpt hk];simpa using hj)]
theorem zm4 (F C:Array Value) (h:F.size≤C.size):(Go.Sort.putCells id 0 F C).toList.take F.size=F.toList:=by
 apply List.ext_getElem?
 intro j
 by_cases hj:j<F.size
 ·have hc:j<C.size:=by omega
  simp [Go.Sort.putCells,List.getElem?_take,hj,hc]
 ·rw [List.getElem?_eq_none (by simp;omega),List.getElem?_eq_none (by simpa using hj)]
theorem zoK {enc:α→List Value} {w:World} {g m:Nat} {C:Array Value} {el:TypeId} {d:Array α} {os:Array Obj} (h:w.heap[g]?=some (.cells C el (0,0))):
  (sortWorldK enc k w g 0 m d os).heap[g]?=some (.cells (Go.Sort.putCells id 0 (flatK enc k d) C) el (0,0)):=by
 have hg:=zaB h
 show((w.heap.modify g (onCells (Go.Sort.putCells id 0 (flatK enc k d))))++os)[g]?=_
 rw [Array.getElem?_append_left (by simpa using hg),Array.getElem?_modify,if_pos rfl,h]
 rfl
theorem zqq {enc:α→List Value} {w:World} {g m:Nat} {d:Array α} {os:Array Obj}:Mod [g] w (sortWorldK enc k w g 0 m d os):=by
 refine⟨rfl,rfl,rfl, ?_,fun j hj hn=> ?_⟩
 ·show w.heap.size≤((w.heap.modify g (onCells (Go.Sort.putCells id 0 (flatK enc k d))))++os).size
  simp
 ·show((w.heap.modify g (onCells (Go.Sort.putCells id 0 (flatK enc k d))))++os)[j]?=_
  rw [Array.getElem?_append_left (by simpa using hj),Array.getElem?_modify,if_neg (by simpa [eq_comm]using hn)]
end
def zx7 (P:Program) (sg:SgT) (f:Nat) (t ft el K:Nat):Bool:=
 match P.funcs[f]?,sg f with
 |some fn,some s=>(match s.modes,s.res with
  | [.mu [true], .ro], []=>true
  |_,_=>false)&&fn.body.isSome&& !(fn.name== "runtime.NumGoroutine")&&fn.params.toList== [t,ft]&&fn.resultTypes.toList== []&&fn.nfree==0&& !zav P t&&zak P t== [t]&&zcI P t==some el&&zdr P el&&P.cellsOf el==K&&fn.params.size==2
 |_,_=>false
theorem zsN {f g t ft el k:Nat} {α:Type} [Inhabited α] {av:α→AV} (S:Array α→Array α) (hk:zx7 Try.prog sgs f t ft el k=true)
  (hsc: ∀x,∀y∈(av x).cells,y.scalar=true) (hlen: ∀x,(av x).cells.length=k) (hSp: ∀d:Array α,(S d).toList.Perm d.toList)
  (hS: ∀(blk cap:Nat) (d:Array α) (w:World),HoldsK (zjh av) k w blk 0 d→blk<w.heap.size→d.size<4611686018427387904→
   Calls Try.prog f #[.slice (some ⟨blk,0,none⟩) d.size cap, .func (.func g) #[] #[]] w fun e w'=>e= .returned (.tuple #[])∧ ∃n os,w'=sortWorldK (zjh av) k w blk 0 n (S d) os)
  (h0: ∀p cap fv w,Calls Try.prog f #[.slice p 0 cap,fv] w fun e w'=>e= .returned (.tuple #[])∧w'=w)
  (xs:List α) (hb:xs.length<4611686018427387904):Rts Try.prog sgs f [.sl (xs.map av), .fn g []] (.tup [.tup [], .sl ((S xs.toArray).toList.map av)]):=by
 unfold zx7 at hk
 split at hk
 ·rename_i fn s hf hs
  simp only [Bool.and_eq_true,Bool.not_eq_true',beq_iff_eq]at hk
  obtain⟨⟨⟨⟨⟨⟨⟨⟨⟨⟨⟨g1,g2⟩,g3⟩,g4⟩,g5⟩,g6⟩,g7⟩,g8⟩,g9⟩,g10⟩,g11⟩,g13⟩:=hk
  obtain⟨hm,hr⟩:s.modes= [.mu [true], .ro]∧s.res= []:=by
   split at g1
   ·rename_i a b;exact⟨a,b⟩
   ·cases g1
  have hk': ∀x,(zjh av x).length=k:=fun x=>by simp [zjh,hlen]
  have hp:=hSp xs.toArray
  have hpl:(S xs.toArray).toList.length=xs.length:=by simpa using hp.length_eq
  unfold Rts
  rw [if_pos (zmb f s hs)]
  refine⟨s,hs,fn,hf,g2,g3, ?_,by simp [g6,g13],fun w vs rf hs' hargs hd hnd=> ?_⟩
  ·unfold zgQ zq6
   rw [g4,g5,hm]
   simp [hasBack,znw,zh2]
  rw [g4,hm]at hargs
  cases hargs with
  | @cons _ _ _ v1 vs1 _ _ f1 k1 rf1 hs1 a1 hargs=>
   cases hargs with
   | @cons _ _ _ v2 vs2 _ _ f2 k2 rf2 hs2 a2 hargs=>
    cases hargs
    obtain⟨rfl,r1⟩:=zk8 g7 g8 g9 g10 a1
    obtain⟨a2,rfl⟩:Rd w [v2] [AV.fn g []] f2∧k2= []:=a2
    obtain⟨rfl,rfl⟩:v2= .func (.func g) #[] #[]∧f2= []:=by
     cases a2 with
     |fn b1 b2=>cases b1;cases b2;exact⟨rfl,rfl⟩
    obtain⟨xs',cs,e1,p0,p1,p2,p3,p4,p5⟩:=r1.rowC
    cases e1
    rw [g11]at p0 p1 p2 p5
    have hxl:(xs.map av).length=xs.length:=by simp
    rcases p5 with⟨hnil,rfl,q,rfl⟩|⟨b,cap,C,rfl,⟨z1,z2,z3,z4,z5⟩,rfl⟩
    ·have hxs:xs= []:=by simpa using hnil
     subst hxs
     have hS0:(S #[]).toList= []:=by simpa using hpl
     refine(h0 q 0 _ w).mono ?_
     rintro e w' ⟨rfl,rfl⟩
     refine⟨_,rfl,⟨⟨.tup [], [.sl []], [], [], [], [],by simp [hS0], ?_, ?_,by simp,by simp,by simp⟩,Mod.refl _ _⟩⟩
     ·rw [g5]
      exact⟨[], [],rfl,rfl, .nil⟩
     ·rw [g4,hm]
      have hmu:MuC Try.prog w' (zak Try.prog t) [true] [.slice q 0 0] [.sl []] []:=by
       rw [g8]
       have:=MuC.own (P:=Try.prog) (w:=w') (t:=t) (ts:= []) (fl:= [true]) (us:= []) (ys:= []) rfl g9 (.inl g10) (y:= .sl []) (u:= .slice q 0 0) (top:= []) (by rw [g11];exact⟨[],rfl,by simp,p0, .inl ⟨rfl,⟨q,rfl⟩,rfl,rfl⟩⟩) .nil
       simpa using this
      have:=zbQ.mu (P:=Try.prog) (w:=w') (t:=t) (ts:= [ft]) (ms:= [.mu [true], .ro]) (own:= [true]) (v:= .slice q 0 0) (vs:= [.func (.func g) #[] #[]]) (us:= [.slice q 0 0]) (ys:= [.sl []]) (y:= .sl []) (bs:= []) (f:= []) (o1:= []) (o:= []) rfl (by rw [g7];simp) hmu (.ro rfl .nil)
      simpa using this
    ·obtain⟨q1,q2⟩:=zpM hsc p3
     have hbs:=zaB z3
     have hcell: ∀o,w.cell? ⟨b,o,none⟩=C[o]?:=zmz z3
     have hfl0:(flatK (zjh av) k xs.toArray).toList=xs.flatMap (zjh av):=by rw [zmf hk']
     have hmul:=Nat.mul_le_mul_right k z1
     rw [hxl]at z1 z5 hmul
     have hH:HoldsK (zjh av) k w b 0 xs.toArray:=by
      intro j hj
      rw [size_flatK]at hj
      have hj':j<xs.length*k:=by simpa using hj
      refine⟨?_,zfY z3⟩
      rw [hcell,Nat.zero_add]
      have e1:C[j]?=cs[j]?:=by rw [z5,List.getElem?_take,if_pos hj'];simp
      rw [e1,q1,←hfl0,Array.getElem?_toList,Array.getElem?_eq_getElem (by simpa using hj),←getElem!_pos (flatK (zjh av) k xs.toArray) j (by simpa using hj)]
      rfl
     have hc:=hS b cap xs.toArray w hH hbs (by simpa using hb)
     rw [show xs.toArray.size=(xs.map av).length by simp]at hc
     refine hc.mono ?_
     rintro e w' ⟨rfl,n,os,rfl⟩
     have hmod:Mod [b] w (sortWorldK (zjh av) k w b 0 n (S xs.toArray) os):=zqq
     have hheap:=zoK (enc:=zjh av) (k:=k) (m:=n) (d:=S xs.toArray) (os:=os) z3
     generalize sortWorldK (zjh av) k w b 0 n (S xs.toArray) os=w' at hmod hheap
     have hsz:(S xs.toArray).size=xs.length:=by simpa using hpl
     have hFs:(flatK (zjh av) k (S xs.toArray)).size=xs.length*k:=by rw [size_flatK,hsz]
     have htake:(Go.Sort.putCells id 0 (flatK (zjh av) k (S xs.toArray)) C).toList.take (xs.length*k)=(S xs.toArray).toList.flatMap (zjh av):=by
      rw [←hFs,zm4 _ _ (by rw [hFs,z4];exact hmul),zmf hk']
     have hmem: ∀x∈(S xs.toArray).toList,x∈xs:=fun x hx=>by simpa using hp.mem_iff.1 hx
     have hrd:Rd w' ((S xs.toArray).toList.flatMap (zjh av)) (zal ((S xs.toArray).toList.map av)) []:=(zrx fun x hx=>q2 x (hmem x hx)).frame (by simp)
     have hown:zbl w' el k (.slice (some ⟨b,0,none⟩) (xs.map av).length cap) (.sl ((S xs.toArray).toList.map av)) [b] []:=by
      refine⟨_,rfl,fun y hy=> ?_,p0, .inr ⟨b,cap,_,by simp [hpl],by simpa [hpl]using z1,z2,hheap,by simp [Go.Sort.putCells,z4],rfl, ?_, ?_⟩⟩
      ·obtain⟨x,_,rfl⟩:=List.mem_map.1 hy
       exact hlen x
      ·rw [List.length_map,hpl,htake]
       intro u hu
       obtain⟨x,hx,hu⟩:=List.mem_flatMap.1 hu
       exact p4 u (by rw [q1];exact List.mem_flatMap.2 ⟨x,hmem x hx,hu⟩)
      ·rw [List.length_map,hpl,htake];exact hrd
     refine⟨_,rfl,⟨⟨.tup [], [.sl ((S xs.toArray).toList.map av)], [], [], [], [b],rfl, ?_, ?_,by simp, ?_,by simp⟩,hmod.weaken fun j hj=> .inl (by simpa using hj)⟩⟩
     ·rw [g5]
      exact⟨[], [],rfl,rfl, .nil⟩
     ·rw [g4,hm]
      have hmu:MuC Try.prog w' (zak Try.prog t) [true] [.slice (some ⟨b,0,none⟩) (xs.map av).length cap] [.sl ((S xs.toArray).toList.map av)] [b]:=by
       rw [g8]
       have:=MuC.own (P:=Try.prog) (w:=w') (t:=t) (ts:= []) (fl:= [true]) (us:= []) (ys:= []) rfl g9 (.inl g10) (by rw [g11];exact hown) .nil
       simpa using this
      have:=zbQ.mu (P:=Try.prog) (w:=w') (t:=t) (ts:= [ft]) (ms:= [.mu [true], .ro]) (own:= [true]) (v:= .slice (some ⟨b,0,none⟩) (xs.map av).length cap) (vs:= [.func (.func g) #[] #[]]) (us:= [.slice (some ⟨b,0,none⟩) (xs.map av).length cap]) (ys:= [.sl ((S xs.toArray).toList.map av)]) (y:= .sl ((S xs.toArray).toList.map av)) (bs:= []) (f:= []) (o:= []) rfl (by rw [g7];simp) hmu (.ro rfl .nil)
      simpa using this
     ·intro j hj
      simp only [List.nil_append,List.mem_singleton]at hj
      subst hj
      exact⟨.inl (by simp),zaB hheap⟩
 ·cases hk
end Go.Proofs.Ythgeekoigbihbaa
end
section
namespace Go.Proofs.Ythgeekoigbihbaa
open Go Go.Proofs Go.Shelf Go.Sort
set_option maxRecDepth 100000
set_option maxHeartbeats 1000000
theorem zuj (s:ByteArray) (W:World):Calls Try.prog 131 #[.string s] W fun e w'=>e= .returned (.bool false)∧w'=W:=by
 go_enter Try.func131,Try.ntmps131
 go_wp2
 go_ret
 exact⟨rfl,rfl⟩
def zuV (a b:ByteArray):Int:=if Op.bytesLess a.toList b.toList then-1 else if a.toList==b.toList then 0 else 1
theorem zxf (a b:ByteArray) (W:World):(binOp .gtr 9 (.string a) (.string b)).run Try.prog W= .ok (.bool (!(Op.bytesLess a.toList b.toList||a.toList==b.toList))) W:=by
 kernel_rfl
theorem zs7 (a b:ByteArray) (W:World):Calls Try.prog 108 #[.string a, .string b] W fun e w'=>e= .returned (.int .i64 (zuV a b))∧w'=W:=by
 have hg:=zxf a b
 unfold zuV
 by_cases h1:Op.bytesLess a.toList b.toList=true
 ·rw [if_pos h1]
  go_enter Try.func108,Try.ntmps108
  go_wp2_with (go_at_call 131;refine(zuj _ _).mono ?_;rintro e w' ⟨rfl,rfl⟩)
  go_ret
  exact⟨rfl,rfl⟩
 ·have h1':Op.bytesLess a.toList b.toList=false:=by simpa using h1
  rw [if_neg h1]
  clear h1
  by_cases h2:(a.toList==b.toList)=true
  ·rw [if_pos h2]
   go_enter Try.func108,Try.ntmps108
   go_wp2_with (go_at_call 131;refine(zuj _ _).mono ?_;rintro e w' ⟨rfl,rfl⟩)
   go_ret
   exact⟨rfl,rfl⟩
  ·have h2':(a.toList==b.toList)=false:=by simpa using h2
   rw [if_neg h2]
   clear h2
   go_enter Try.func108,Try.ntmps108
   go_wp2_with (go_at_call 131;refine(zuj _ _).mono ?_;rintro e w' ⟨rfl,rfl⟩)
   go_ret
   exact⟨rfl,rfl⟩
def orI (x y z:Int):Int:=if x≠0 then x else if y≠0 then y else z
theorem zyf (x y z:Int) (b:Nat) (W:World) (h0:W.cell? ⟨b,0,none⟩=some (.int .i64 x)) (h1:W.cell? ⟨b,1,none⟩=some (.int .i64 y)) (h2:W.cell? ⟨b,2,none⟩=some (.int .i64 z)):
  Calls Try.prog 120 #[.slice (some ⟨b,0,none⟩) 3 3] W fun e w'=>e= .returned (.int .i64 (orI x y z))∧w'=W:=by
 unfold orI
 by_cases hx:x=0
 ·subst hx
  by_cases hy:y=0
  ·subst hy
   by_cases hz:z=0
   ·subst hz
    go_enter Try.func120,Try.ntmps120
    go_wp2
    refine wp_loop_rounds 4 ?_
    rw [rounds_succ]
    go_wp2
    rw [rounds_succ]
    go_wp2
    rw [rounds_succ]
    go_wp2
    rw [rounds_succ]
    go_wp2
    go_ret
    exact⟨rfl,rfl⟩
   ·go_enter Try.func120,Try.ntmps120
    go_wp2
    refine wp_loop_rounds 3 ?_
    rw [rounds_succ]
    go_wp2
    rw [rounds_succ]
    go_wp2
    rw [rounds_succ]
    go_wp2
    go_ret
    exact⟨rfl,rfl⟩
  ·rw [if_neg (by simp),if_pos hy]
   go_enter Try.func120,Try.ntmps120
   go_wp2
   refine wp_loop_rounds 2 ?_
   rw [rounds_succ]
   go_wp2
   rw [rounds_succ]
   go_wp2
   go_ret
   exact⟨rfl,rfl⟩
 ·rw [if_pos hx]
  go_enter Try.func120,Try.ntmps120
  go_wp2
  refine wp_loop_rounds 1 ?_
  rw [rounds_succ]
  go_wp2
  go_ret
  exact⟨rfl,rfl⟩
def ztW (t1 g1:Int) (k1:ByteArray) (t2 g2:Int) (k2:ByteArray):Int:=orI (Lib.compareInt t1 t2) (Lib.compareInt g1 g2) (zuV k1 k2)
theorem zux (t1 g1:Int) (k1 v1:ByteArray) (d1:Bool) (t2 g2:Int) (k2 v2:ByteArray) (d2:Bool) (W:World):
  Calls Try.prog 88 #[.agg #[.int .i64 t1, .int .i64 g1, .string k1, .string v1, .bool d1], .agg #[.int .i64 t2, .int .i64 g2, .string k2, .string v2, .bool d2]] W fun e w'=>
   e= .returned (.int .i64 (ztW t1 g1 k1 t2 g2 k2))∧ ∃q os',w'=grow (W.drewN q) os':=by
 unfold ztW
 have hci:=Try.cmp_Compare_int
 have hcs:=zs7
 have hor:=zyf
 go_enter Try.func88,Try.ntmps88
 go_wp2_with fail
 have c0: ∀A B:Obj,((W.alloc A).alloc B).drew.heap[W.heap.size]?=some A:=fun A B=>by
  show((W.heap.push A).push B)[W.heap.size]?=some A
  simp [Array.getElem?_push]
 have c1: ∀A B:Obj,((W.alloc A).alloc B).drew.heap[W.heap.size+1]?=some B:=fun A B=>by
  show((W.heap.push A).push B)[W.heap.size+1]?=some B
  have h:W.heap.size+1=(W.heap.push A).size:=by simp
  rw [h,Array.getElem?_push_size]
 have hd: ∀A B:Obj,∃q os,((W.alloc A).alloc B).drew=grow (W.drewN q) os:=fun A B=>⟨1, #[A,B],by
  rw [alloc_eq_grow,alloc_eq_grow,grow_grow];rfl⟩
 refine wp_region_still_tail 15 (by kernel_rfl) (by kernel_rfl) ?_
 simp only [List.take_succ_cons,List.take_zero,List.drop_succ_cons,List.drop_zero]
 change wpStill _ _ (World.drew _) (fun a'=>wpList _ _ _ _ a' (World.drew _)) _ _
 have b0:=zmz (c0 (.cells #[.int .i64 t1, .int .i64 g1, .string k1, .string v1, .bool d1] 66) (.cells #[.int .i64 t2, .int .i64 g2, .string k2, .string v2, .bool d2] 66))
 have b1:=zmz (c1 (.cells #[.int .i64 t1, .int .i64 g1, .string k1, .string v1, .bool d1] 66) (.cells #[.int .i64 t2, .int .i64 g2, .string k2, .string v2, .bool d2] 66))
 have hq:=hd (.cells #[.int .i64 t1, .int .i64 g1, .string k1, .string v1, .bool d1] 66) (.cells #[.int .i64 t2, .int .i64 g2, .string k2, .string v2, .bool d2] 66)
 clear c0 c1 hd
 generalize ((W.alloc (.cells #[.int .i64 t1, .int .i64 g1, .string k1, .string v1, .bool d1] 66)).alloc (.cells #[.int .i64 t2, .int .i64 g2, .string k2, .string v2, .bool d2] 66)).drew=W2 at*
 obtain⟨q,os,hq⟩:=hq
 have HQ:=Lib.hid hq
 clear hq
 repeat still_step
 still_call (hci _ _ _)
 repeat still_step
 still_call (hci _ _ _)
 repeat still_step
 still_call (hcs _ _ _)
 refine wpStill_nil ?_
 change wpList _ _ _ _ _ W2
 go_wp2_with (go_at_call 120;refine(hor (Lib.compareInt t1 t2) (Lib.compareInt g1 g2) (zuV k1 k2) _ _ (by simp) (by simp) (by simp)).mono ?_;rintro e w' ⟨rfl,rfl⟩)
 have H:=HQ.out
 go_ret
 exact⟨rfl,q,_,by rw [H,alloc_eq_grow,grow_grow]⟩
end Go.Proofs.Ythgeekoigbihbaa
end
section
namespace Go.Proofs
open Go.Shelf
def Try.sortItems_ren:Go.Shelf.Ren:=⟨fun|6=>87|15=>119|14=>118|28=>145|29=>146|20=>137|21=>138|22=>139|23=>140|24=>141|25=>142|26=>143|27=>144|46=>153|47=>154|48=>155|49=>156|50=>157|57=>159|n=>n,fun|22=>36|24=>66|25=>134|3=>3|39=>157|0=>0|53=>175|55=>80|4=>4|46=>169|45=>168|50=>118|5=>5|9=>9|66=>181|70=>185|76=>187|77=>188|n=>n,fun|n=>n⟩
theorem Try.sortItems:Go.Proofs.SlLaysF0.n6 Try.prog Try.sortItems_ren:={
 mixed:=by kernel_rfl
 f6:=⟨Try.f87.name,by decide,Try.func87.trans (congrArg some (by kernel_rfl))⟩
 f14:=⟨Try.f118.name,by decide,Try.func118.trans (congrArg some (by kernel_rfl))⟩
 f15:=Try.func119.trans (congrArg some (by kernel_rfl))
 f20:=⟨Try.f137.name,by decide,Try.func137.trans (congrArg some (by kernel_rfl))⟩
 f21:=⟨Try.f138.name,by decide,Try.func138.trans (congrArg some (by kernel_rfl))⟩
 f22:=⟨Try.f139.name,by decide,Try.func139.trans (congrArg some (by kernel_rfl))⟩
 f23:=⟨Try.f140.name,by decide,Try.func140.trans (congrArg some (by kernel_rfl))⟩
 f24:=⟨Try.f141.name,by decide,Try.func141.trans (congrArg some (by kernel_rfl))⟩
 f25:=⟨Try.f142.name,by decide,Try.func142.trans (congrArg some (by kernel_rfl))⟩
 f26:=⟨Try.f143.name,by decide,Try.func143.trans (congrArg some (by kernel_rfl))⟩
 f27:=⟨Try.f144.name,by decide,Try.func144.trans (congrArg some (by kernel_rfl))⟩
 f28:=Try.func145.trans (congrArg some (by kernel_rfl))
 f29:=Try.func146.trans (congrArg some (by kernel_rfl))
 f46:=⟨Try.f153.name,by decide,Try.func153.trans (congrArg some (by kernel_rfl))⟩
 f47:=Try.func154.trans (congrArg some (by kernel_rfl))
 f48:=Try.func155.trans (congrArg some (by kernel_rfl))
 f49:=⟨Try.f156.name,by decide,Try.func156.trans (congrArg some (by kernel_rfl))⟩
 f50:=⟨Try.f157.name,by decide,Try.func157.trans (congrArg some (by kernel_rfl))⟩
 f57:=⟨Try.f159.name,by decide,Try.func159.trans (congrArg some (by kernel_rfl))⟩
 t0:=Try.underlying0
 a0:=Try.isAgg0
 z0:=Try.sizeOf0
 v0:=Try.zeroValue0
 t3:=Try.underlying3
 a3:=Try.isAgg3
 z3:=Try.sizeOf3
 v3:=Try.zeroValue3
 t4:=Try.underlying4
 a4:=Try.isAgg4
 z4:=Try.sizeOf4
 v4:=Try.zeroValue4
 t5:=Try.underlying5
 a5:=Try.isAgg5
 z5:=Try.sizeOf5
 v5:=Try.zeroValue5
 t9:=Try.underlying9
 a9:=Try.isAgg9
 z9:=Try.sizeOf9
 v9:=Try.zeroValue9
 t22:=Try.underlying36
 a22:=Try.isAgg36
 z22:=Try.sizeOf36
 v22:=Try.zeroValue36
 t25:=Try.underlying134
 a25:=Try.isAgg134
 z25:=Try.sizeOf134
 v25:=Try.zeroValue134
 t39:=Try.underlying157
 a39:=Try.isAgg157
 z39:=Try.sizeOf157
 v39:=Try.zeroValue157
 t45:=Try.underlying168
 a45:=Try.isAgg168
 z45:=Try.sizeOf168
 v45:=Try.zeroValue168
 t46:=Try.underlying169
 a46:=Try.isAgg169
 z46:=Try.sizeOf169
 v46:=Try.zeroValue169
 t50:=Try.underlying118
 a50:=Try.isAgg118
 z50:=Try.sizeOf118
 v50:=Try.zeroValue118
 t53:=Try.underlying175
 a53:=Try.isAgg175
 z53:=Try.sizeOf175
 v53:=Try.zeroValue175
 t55:=Try.underlying80
 a55:=Try.isAgg80
 z55:=Try.sizeOf80
 v55:=Try.zeroValue80
 t66:=Try.underlying181
 a66:=Try.isAgg181
 z66:=Try.sizeOf181
 v66:=Try.zeroValue181
 t70:=Try.underlying185
 a70:=Try.isAgg185
 z70:=Try.sizeOf185
 v70:=Try.zeroValue185
 t76:=Try.underlying187
 a76:=Try.isAgg187
 z76:=Try.sizeOf187
 v76:=Try.zeroValue187
 t77:=Try.underlying188
 a77:=Try.isAgg188
 z77:=Try.sizeOf188
 v77:=Try.zeroValue188}
end Go.Proofs
end
section
namespace Go.Proofs.Ythgeekoigbihbaa
open Go.RowKit
abbrev bl (a b:List UInt8):Bool:=Op.bytesLess a b
theorem zc9: ∀a:List UInt8,bl a a=false
 | []=>rfl
 |x::a=>by
  have h: ¬x<x:=fun h=>by have:=UInt8.lt_iff_toNat_lt.1 h;omega
  show Op.bytesLess (x::a) (x::a)=false
  simp only [Op.bytesLess,h,decide_false,Bool.false_or,beq_self_eq_true,Bool.true_and]
  exact zc9 a
theorem zo5 (x y:UInt8) (a b:List UInt8):bl (x::a) (y::b)=true↔x.toNat<y.toNat∨x=y∧bl a b=true:=by
 show Op.bytesLess (x::a) (y::b)=true↔_
 simp only [Op.bytesLess,Bool.or_eq_true,decide_eq_true_eq,Bool.and_eq_true,beq_iff_eq,UInt8.lt_iff_toNat_lt]
theorem zdJ: ∀{a b c:List UInt8},bl a b=true→bl b c=true→bl a c=true
 | [],_, [],_,h=>by rename_i b _;cases b<;>cases h
 | [],_,_::_,_,_=>rfl
 |_::_, [],_,h,_=>by cases h
 |_::_,_::_, [],_,h=>by cases h
 |x::a,y::b,z::c,h1,h2=>by
  rw [zo5]at*
  rcases h1 with h1|⟨rfl,h1⟩<;>rcases h2 with h2|⟨rfl,h2⟩
  ·exact .inl (by omega)
  ·exact .inl h1
  ·exact .inl h2
  ·exact .inr ⟨rfl,zdJ h1 h2⟩
theorem zpO: ∀a b:List UInt8,bl a b=true∨a=b∨bl b a=true
 | [], []=> .inr (.inl rfl)
 | [],_::_=> .inl rfl
 |_::_, []=> .inr (.inr rfl)
 |x::a,y::b=>by
  rw [zo5,zo5]
  rcases Nat.lt_trichotomy x.toNat y.toNat with h|h|h
  ·exact .inl (.inl h)
  ·have h0:x=y:=UInt8.toNat_inj.1 h
   subst h0
   rcases zpO a b with h1|h1|h1
   ·exact .inl (.inr ⟨rfl,h1⟩)
   ·exact .inr (.inl (by rw [h1]))
   ·exact .inr (.inr (.inr ⟨rfl,h1⟩))
  ·exact .inr (.inr (.inl h))
theorem zpp {a b:List UInt8} (h:bl a b=true):bl b a=false:=by
 cases h2:bl b a with
 |false=>rfl
 |true=>have:=zdJ h h2;rw [zc9]at this;cases this
theorem zkm {a b:List UInt8} (h:bl a b=true):a≠b:=by
 rintro rfl;rw [zc9]at h;cases h
theorem znF {a b:List UInt8} (h:bl a b=false) (hn:a≠b):bl b a=true:=by
 rcases zpO a b with h1|h1|h1
 ·rw [h]at h1;cases h1
 ·exact absurd h1 hn
 ·exact h1
section
variable {α:Type} (key:α→List UInt8)
def zld (l:List α):Prop:=l.Pairwise fun a b=>bl (key a) (key b)=true
def zjA (x:α):List α→List α
 | []=> [x]
 |y::l=>if bl (key x) (key y)=true then x::y::l else if key x=key y then x::l else y::zjA x l
variable {key}
theorem zld.nodupKey {l:List α} (h:zld key l) {a b:α} (ha:a∈l) (hb:b∈l) (e:key a=key b):a=b:=by
 induction l with
 |nil=>cases ha
 |cons y l ih=>
  have h1:=List.pairwise_cons.1 h
  rcases List.mem_cons.1 ha with q1|q1<;>rcases List.mem_cons.1 hb with q2|q2
  ·rw [q1,q2]
  ·exact absurd (q1▸e) (zkm (h1.1 _ q2))
  ·exact absurd (q2▸e.symm) (zkm (h1.1 _ q1))
  ·exact ih h1.2 q1 q2
theorem zf4 {x:α}: ∀{l:List α},zld key l→ ∀y,y∈zjA key x l↔y=x∨y∈l∧key y≠key x
 | [],_,y=>by simp [zjA]
 |z::l,h,y=>by
  have h1:=List.pairwise_cons.1 h
  unfold zjA
  split
  ·rename_i hb
   constructor
   ·intro hy
    rcases List.mem_cons.1 hy with rfl|hy
    ·exact .inl rfl
    ·refine .inr ⟨hy, ?_⟩
     rcases List.mem_cons.1 hy with rfl|hy
     ·exact(zkm hb).symm
     ·exact(zkm (zdJ hb (h1.1 _ hy))).symm
   ·rintro(rfl|⟨hy,_⟩)
    ·simp
    ·exact List.mem_cons_of_mem _ hy
  ·rename_i hb
   split
   ·rename_i he
    constructor
    ·intro hy
     rcases List.mem_cons.1 hy with rfl|hy
     ·exact .inl rfl
     ·exact .inr ⟨List.mem_cons_of_mem _ hy,fun e=>zkm (h1.1 _ hy) (by rw [e,he])⟩
    ·rintro(rfl|⟨hy,hn⟩)
     ·simp
     ·rcases List.mem_cons.1 hy with rfl|hy
      ·exact absurd he.symm hn
      ·exact List.mem_cons_of_mem _ hy
   ·rename_i he
    rw [List.mem_cons,zf4 h1.2]
    constructor
    ·rintro(rfl|rfl|⟨hy,hn⟩)
     ·exact .inr ⟨by simp,fun e=>he e.symm⟩
     ·exact .inl rfl
     ·exact .inr ⟨List.mem_cons_of_mem _ hy,hn⟩
    ·rintro(rfl|⟨hy,hn⟩)
     ·exact .inr (.inl rfl)
     ·rcases List.mem_cons.1 hy with rfl|hy
      ·exact .inl rfl
      ·exact .inr (.inr ⟨hy,hn⟩)
theorem zfl {x:α}: ∀{l:List α},zld key l→zld key (zjA key x l)
 | [],_=>by simp [zjA,zld]
 |z::l,h=>by
  have h1:=List.pairwise_cons.1 h
  unfold zjA
  split
  ·rename_i hb
   refine List.pairwise_cons.2 ⟨fun y hy=> ?_,h⟩
   rcases List.mem_cons.1 hy with rfl|hy
   ·exact hb
   ·exact zdJ hb (h1.1 _ hy)
  ·rename_i hb
   split
   ·rename_i he
    exact List.pairwise_cons.2 ⟨fun y hy=>by rw [he];exact h1.1 _ hy,h1.2⟩
   ·rename_i he
    refine List.pairwise_cons.2 ⟨fun y hy=> ?_,zfl h1.2⟩
    rcases(zf4 h1.2 y).1 hy with rfl|⟨hy,_⟩
    ·exact znF (by simpa using hb) he
    ·exact h1.1 _ hy
theorem zld.ext: ∀{a b:List α},zld key a→zld key b→(∀x,x∈a↔x∈b)→a=b
 | [], [],_,_,_=>rfl
 | [],y::b,_,_,h=>absurd ((h y).2 (by simp)) (by simp)
 |x::a, [],_,_,h=>absurd ((h x).1 (by simp)) (by simp)
 |x::a,y::b,ha,hb,h=>by
  have h1:=List.pairwise_cons.1 ha
  have h2:=List.pairwise_cons.1 hb
  have e:x=y:=by
   rcases List.mem_cons.1 ((h x).1 (by simp))with e|hx
   ·exact e
   ·rcases List.mem_cons.1 ((h y).2 (by simp))with e|hy
    ·exact e.symm
    ·have:=zdJ (h1.1 _ hy) (h2.1 _ hx)
     rw [zc9]at this;cases this
  subst e
  rw [zld.ext h1.2 h2.2 fun z=> ?_]
  constructor
  ·intro hz
   rcases List.mem_cons.1 ((h z).1 (List.mem_cons_of_mem _ hz))with rfl|hz2
   ·have:=h1.1 _ hz;rw [zc9]at this;cases this
   ·exact hz2
  ·intro hz
   rcases List.mem_cons.1 ((h z).2 (List.mem_cons_of_mem _ hz))with rfl|hz2
   ·have:=h2.1 _ hz;rw [zc9]at this;cases this
   ·exact hz2
theorem zld.filter {l:List α} (h:zld key l) (p:α→Bool):zld key (l.filter p):=List.Pairwise.filter p h
theorem zld.sub {a b:List α} (h:zld key b) (hs:a.Sublist b):zld key a:=List.Pairwise.sublist hs h
theorem zm8 {x:α}: ∀(l:List α),(zjA key x l).length≤l.length+1
 | []=>by simp [zjA]
 |y::l=>by
  unfold zjA
  have:=zm8 (x:=x) l
  split
  ·simp
  ·split
   ·simp
   ·simp only [List.length_cons];omega
end
end Go.Proofs.Ythgeekoigbihbaa
end
section
namespace Go.Proofs.Ythgeekoigbihbaa
open Go.RowKit Go.Sort Go.Shelf
set_option maxRecDepth 100000
def cfI (x y:zaa):Int:=orI (Lib.compareInt x.fTime y.fTime) (Lib.compareInt x.fGroup y.fGroup) (zuV ⟨x.fKey.toArray⟩ ⟨y.fKey.toArray⟩)
def ltI (a b:zaa):Bool:=if a.fTime≠b.fTime then decide (a.fTime<b.fTime)else if a.fGroup≠b.fGroup then decide (a.fGroup<b.fGroup)else bl a.fKey b.fKey
theorem znr (x y:Int):(Lib.compareInt x y≠0↔x≠y)∧(Lib.compareInt x y<0↔x<y):=by
 unfold Lib.compareInt
 by_cases h1:x<y
 ·simp [h1];omega
 ·by_cases h2:y<x
  ·simp [h1,h2];omega
  ·simp [h1,h2];omega
theorem zvh (a b:List UInt8):(zuV ⟨a.toArray⟩ ⟨b.toArray⟩<0)↔bl a b=true:=by
 unfold zuV
 rw [ByteArray.toList_eq,ByteArray.toList_eq]
 by_cases h1:bl a b=true
 ·rw [if_pos (by simpa using h1)];simp [h1]
 ·rw [if_neg (by simpa using h1)]
  split<;>simp [h1]
theorem zjN (x y:zaa):ltOf cfI x y=ltI x y:=by
 unfold ltOf cfI ltI orI
 obtain⟨a1,a2⟩:=znr x.fTime y.fTime
 obtain⟨b1,b2⟩:=znr x.fGroup y.fGroup
 by_cases h1:x.fTime=y.fTime
 ·have e1: ¬Lib.compareInt x.fTime y.fTime≠0:=by rw [a1];simpa using h1
  rw [if_neg e1,if_neg (show¬x.fTime≠y.fTime by simpa using h1)]
  by_cases h2:x.fGroup=y.fGroup
  ·have e2: ¬Lib.compareInt x.fGroup y.fGroup≠0:=by rw [b1];simpa using h2
   rw [if_neg e2,if_neg (show¬x.fGroup≠y.fGroup by simpa using h2)]
   have:=zvh x.fKey y.fKey
   cases hb:bl x.fKey y.fKey
   ·rw [decide_eq_false];rw [this,hb];simp
   ·rw [decide_eq_true];rw [this,hb]
  ·rw [if_pos (b1.2 h2),if_pos h2]
   simp only [b2]
 ·rw [if_pos (a1.2 h1),if_pos h1]
  simp only [a2]
theorem zlJ (x:zaa):ltI x x=false:=by simp [ltI,zc9]
theorem zj0 {a b c:zaa} (h1:ltI a b=true) (h2:ltI b c=true):ltI a c=true:=by
 unfold ltI at*
 by_cases t1:a.fTime=b.fTime<;>by_cases t2:b.fTime=c.fTime
 ·rw [if_neg (by simpa using t1)]at h1
  rw [if_neg (by simpa using t2)]at h2
  rw [if_neg (by simpa using t1.trans t2)]
  by_cases g1:a.fGroup=b.fGroup<;>by_cases g2:b.fGroup=c.fGroup
  ·rw [if_neg (by simpa using g1)]at h1
   rw [if_neg (by simpa using g2)]at h2
   rw [if_neg (by simpa using g1.trans g2)]
   exact zdJ h1 h2
  ·rw [if_pos g2]at h2
   rw [if_pos (by rw [g1];exact g2),g1];exact h2
  ·rw [if_pos g1]at h1
   rw [if_pos (by rw [←g2];exact g1),←g2];exact h1
  ·rw [if_pos g1]at h1
   rw [if_pos g2]at h2
   simp only [decide_eq_true_eq]at h1 h2
   rw [if_pos (by omega)];simp;omega
 ·rw [if_pos t2]at h2
  rw [if_pos (by rw [t1];exact t2),t1];exact h2
 ·rw [if_pos t1]at h1
  rw [if_pos (by rw [←t2];exact t1),←t2];exact h1
 ·rw [if_pos t1]at h1
  rw [if_pos t2]at h2
  simp only [decide_eq_true_eq]at h1 h2
  rw [if_pos (by omega)];simp;omega
theorem zms (a b:zaa):ltI a b=true∨ltI b a=true∨(a.fTime=b.fTime∧a.fGroup=b.fGroup∧a.fKey=b.fKey):=by
 unfold ltI
 by_cases t1:a.fTime=b.fTime
 ·rw [if_neg (show¬a.fTime≠b.fTime by simpa using t1),if_neg (show¬b.fTime≠a.fTime by simpa using t1.symm)]
  by_cases g1:a.fGroup=b.fGroup
  ·rw [if_neg (show¬a.fGroup≠b.fGroup by simpa using g1),if_neg (show¬b.fGroup≠a.fGroup by simpa using g1.symm)]
   rcases zpO a.fKey b.fKey with h|h|h
   ·exact .inl h
   ·exact .inr (.inr ⟨t1,g1,h⟩)
   ·exact .inr (.inl h)
  ·rw [if_pos g1,if_pos (Ne.symm g1)]
   simp only [decide_eq_true_eq];omega
 ·rw [if_pos t1,if_pos (Ne.symm t1)]
  simp only [decide_eq_true_eq];omega
theorem zpJ {a b c:zaa} (h:a.fTime=b.fTime∧a.fGroup=b.fGroup∧a.fKey=b.fKey):ltI a c=ltI b c∧ltI c a=ltI c b:=by
 unfold ltI;rw [h.1,h.2.1,h.2.2];exact⟨rfl,rfl⟩
theorem zxO:SWO (ltOf cfI)where
 irrefl x:=by rw [zjN];exact zlJ x
 trans x y z h1 h2:=by rw [zjN]at*;exact zj0 h1 h2
 ntrans x y z h1 h2:=by
  rw [zjN]at*
  rcases zms x y with h|h|h
  ·rw [h]at h1;cases h1
  ·rcases zms y z with k|k|k
   ·rw [k]at h2;cases h2
   ·have hzx:=zj0 k h
    cases hxz:ltI x z
    ·rfl
    ·have:=zj0 hzx hxz;rw [zlJ]at this;cases this
   ·rw [←(zpJ (c:=x) k).2];exact h1
  ·rw [(zpJ (c:=z) h).1];exact h2
instance:Inhabited zaa:=⟨⟨0,0, [], [],false⟩⟩
def zl3 (d:Array zaa):Array zaa:=pdq (ltOf cfI) d 0 d.size (Lib.bitLen d.size) true true
theorem zoj (d:Array zaa):(zl3 d).toList.Perm d.toList∧(zl3 d).size=d.size∧SortedIn (ltOf cfI) 0 d.size (zl3 d):=by
 obtain⟨⟨h1,_,h2⟩,h3⟩:=pdq_sorts (ltOf cfI) zxO d 0 d.size (Lib.bitLen d.size) true true (Nat.zero_le _) (Nat.le_refl _) (Or.inl rfl)
 have e:(zl3 d).extract 0 d.size=zl3 d:=by
  have:d.size=(zl3 d).size:=h1.symm
  rw [this];simp
 refine⟨?_,h1,h3⟩
 have h2':((zl3 d).extract 0 d.size).toList.Perm (d.extract 0 d.size).toList:=h2
 rw [e]at h2'
 simpa using h2'
theorem zrk (blk cap:Nat) (d:Array zaa) (w:World) (hH:HoldsK (zjh zbC) 5 w blk 0 d) (hblk:blk<w.heap.size) (hsz:d.size<4611686018427387904):
  Calls Try.prog 87 #[.slice (some ⟨blk,0,none⟩) d.size cap, .func (.func 88) #[] #[]] w fun e w'=>e= .returned (.tuple #[])∧ ∃n os,w'=sortWorldK (zjh zbC) 5 w blk 0 n (zl3 d) os:=by
 have eg: ∀args w,(callFunc 88 args).run Try.prog w= .ok (.enter 88 args) w:=enters_of Try.func88 (by kernel_rfl) rfl
 have hcmp:CmpLays Try.prog 88 #[] (zjh zbC) 5 cfI blk 0 d.size w:=fun m os dk hs x y=>zux x.fTime x.fGroup ⟨x.fKey.toArray⟩ ⟨x.fVal.toArray⟩ x.fGone y.fTime y.fGroup ⟨y.fKey.toArray⟩ ⟨y.fVal.toArray⟩ y.fGone _
 exact AnyQ.slices_SortFunc_eq Try.sortItems 5 Try.isAgg66 Try.sizeOf66 (zjh zbC) (fun _=>rfl) (fun x v hv=>by
  simp only [zjh,zbC,AV.cells,List.map_cons,List.map_nil,AV.val,List.mem_cons,List.not_mem_nil,or_false]at hv
  rcases hv with rfl|rfl|rfl|rfl|rfl<;>rfl) cfI zxO 88 #[] blk 0 cap d w eg hcmp hH hblk hsz
theorem zqh (p:Option Addr) (cap:Nat) (fv:Value) (w:World):Calls Try.prog 87 #[.slice p 0 cap,fv] w fun e w'=>e= .returned (.tuple #[])∧w'=w:=
 AnyF.slices_SortFunc_none Try.sortItems p cap fv w
noncomputable def zf3 (g:Nat) (caps:List AV) (xs:List zaa):Option (Unit × List zaa):=req (g=88∧caps= []∧xs.length<4611686018427387904) (some ((),(zl3 xs.toArray).toList))
theorem zmq {g:Nat} {caps:List AV} {xs:List zaa} {r:Unit × List zaa} (h:zf3 g caps xs=some r):
  Rts Try.prog sgs 87 [.sl (xs.map zbC), .fn g caps] (.tup [.tup [], .sl (r.2.map zbC)]):=by
 obtain⟨hc,hr⟩:=zo2 h
 obtain⟨rfl,rfl,hb⟩:=hc
 cases hr
 exact zsN (ft:=(match Try.prog.funcs[87]? with|some fn=>fn.params.toList.getD 1 0|none=>0)) (t:=36) (el:=66) (k:=5) zl3 (by kernel_rfl) (fun x y hy=>by
  simp only [zbC,AV.cells,List.mem_cons,List.not_mem_nil,or_false]at hy
  rcases hy with rfl|rfl|rfl|rfl|rfl<;>rfl) (fun _=>rfl) (fun d=>(zoj d).1) zrk zqh xs hb
end Go.Proofs.Ythgeekoigbihbaa
end

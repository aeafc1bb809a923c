/- Parts of a proof, joined: DA, DB, MA, MB, OB, OG, QA, QO, NA, NE, HB, MC, SP, HL. -/
import Derived.Test.YtecngjbpbnfegaaGreatDoorK5
import Derived.Test.YtecngjbpbnfegaaGreatDoorChecked
import Derived.Shelf.Strings.Builder1
import Derived.Shelf.Strings.Builder2
import Derived.Shelf.Strings.OnBuilder
import Derived.Shelf.Small.Strs
import Derived.Shelf.Small.Wraps
import Derived.Shelf.Strings.BuilderF
import Derived.Shelf.Strings.BuilderK
import Derived.Shelf.Utf8.RuneCount
import Derived.Shelf.Strings.Builder2Cap
import Derived.Shelf.Strings.Search1
import Derived.Shelf.Strings.Search2
import Derived.Shelf.Strings.Search3
import Derived.Shelf.Strings.Cut
import Derived.Shelf.Strings.Count
import Derived.Shelf.LaysM
import Derived.Shelf.Strings.Shaped
import Derived.Shelf.Strings.Prefix
import Derived.Shelf.Strings.Split
import Derived.Shelf.Strings.SplitShaped
import Derived.Shelf.Unicode.Decode
import Derived.Shelf.Strings.RuneCount
import Derived.Shelf.Strings.Explode
import Derived.Shelf.Unicode.DecodeSlow
import Derived.Shelf.Unicode.DecodeAny
import Derived.Shelf.Strings.BuilderCap
import Derived.Test.YtecngjbpbnfegaaGreatDoorProg
section
namespace Go.Proofs.YtecngjbpbnfegaaGreatDoor
open Go.RowKit
noncomputable def flT (t:TypeId):List Bool:=(zaz Tryz.prog t).map fun u=>match ze9 Tryz.prog u with|some e=>zgC Tryz.prog e|none=>false
noncomputable def zAG (u:TypeId):List Bool:=flT u
noncomputable def zBA (fn:Func):Sig:={modes:=fn.params.toList.map fun t=>match zxM Tryz.prog t with|some u=> .bx (zAG u) (zAG u)|none=> .ro,res:=fn.resultTypes.toList.flatMap flT}
noncomputable def zAX (f:Nat):Option Sig:=
 match f with
 |95=>some {modes:= [.ro, .ro],res:= []}
 |116=>some {modes:= [.va [true], .ro],res:= [true],wn:=true}
 |143=>some {modes:= [.ro, .ro],res:= []}
 |151=>some {modes:= [.ro, .ro, .ro, .ro],res:= []}
 |_=>none
noncomputable def zCf (f:Nat):Option Sig:=match Tryz.prog.funcs[f]? with
 |some fn=>some ((zAX f).getD (zBA fn))
 |none=>none
noncomputable def sgs:SgT:={f:=zCf}
theorem zAj:Tryz.prog.follows .mixedOrders=true:=by kernel_rfl
theorem zCs:Tryz.prog.funcs.size<1000000:=by
 have:(decide (Tryz.prog.funcs.size<1000000))=true:=by kernel_rfl
 exact of_decide_eq_true this
theorem zvg (f:Nat) (s:Sig) (h:sgs f=some s):f<1000000:=by
 simp only [sgs]at h
 unfold zCf at h
 split at h
 ·rename_i fn hf
  have:=(Array.getElem?_eq_some_iff.1 hf).1
  exact Nat.lt_trans this zCs
 ·cases h
def zCc (P:Program) (sg:SgT) (f:Nat) (xs:List AV) (r:AV):Bool:=
 match P.funcs[f]?,sg f with
 |some fn,some s=> !(fn.name== "runtime.NumGoroutine")&&znw P fn s r&&xs.length==fn.params.size+fn.nfree
 |_,_=>false
abbrev Den (t:Tr) (r:AV) (xs:List AV):Prop:=t.den (Rts Tryz.prog sgs) (fun r'=>r'=r) (fun _ _ _ _=>False) [] xs
theorem zah {f:Nat} {t:Tr} {xs:List AV} {r:AV} (hc:zbj Tryz.prog sgs f=some t) (hk:zCc Tryz.prog sgs f xs r=true) (hd:Den t r xs):Rts Tryz.prog sgs f xs r:=by
 unfold zCc at hk
 split at hk
 ·rename_i fn s hf hs
  simp only [Bool.and_eq_true,Bool.not_eq_true',beq_iff_eq]at hk
  unfold Rts
  rw [if_pos (zvg f s hs)]
  exact⟨s,hs,zxX zAj zvg hf hs hk.1.1 hc hk.1.2 hk.2 hd⟩
 ·cases hk
section
variable {Rt:Nat→List AV→AV→Prop} {R:AV→Prop} {L:LK} {js:List JK} {ρ:List AV}
theorem zsb {i:EL} {b k:Tr} (hL:zoq L) (I:Nat→List AV→Prop) {m:Nat} (h0:I m (i.den ρ)) (hstep: ∀m vs,I m vs→b.den Rt R L ((fun us=> ∃m',m'<m∧I m' us)::(fun us=>k.den Rt R L js (ρ++us))::js) (ρ++vs)):(Tr.loop i b k).den Rt R L js ρ:=by
 have hb: ∀W W':JK,(∀vs,W vs→W' vs)→ ∀vs,b.den Rt R L (W::(fun us=>k.den Rt R L js (ρ++us))::js) (ρ++vs)→b.den Rt R L (W'::(fun us=>k.den Rt R L js (ρ++us))::js) (ρ++vs):=
  fun W W' hW vs hv=>b.den_js hL hv (.cons hW (JLe.refl _))
 have mono: ∀n vs,zoD (fun W vs=>b.den Rt R L (W::(fun us=>k.den Rt R L js (ρ++us))::js) (ρ++vs)) n vs→ ∀n',n≤n'→zoD (fun W vs=>b.den Rt R L (W::(fun us=>k.den Rt R L js (ρ++us))::js) (ρ++vs)) n' vs:=by
  intro n
  induction n with
  |zero=>intro vs h;exact h.elim
  |succ n ih=>
   intro vs h n' hn
   cases n' with
   |zero=>omega
   |succ n'=>exact hb _ _ (fun us hu=>ih us hu n' (by omega)) vs h
 have key: ∀m vs,I m vs→zoD (fun W vs=>b.den Rt R L (W::(fun us=>k.den Rt R L js (ρ++us))::js) (ρ++vs)) (m+1) vs:=by
  intro m
  induction m using Nat.strongRecOn with
  |_ m ih=>
   intro vs hI
   exact hb _ _ (fun us ⟨m',hm,hu⟩=>mono _ _ (ih m' hm us hu) m (by omega)) vs (hstep m vs hI)
 exact⟨m+1,key m _ h0⟩
theorem ziP:zoq (fun _ _ _ _=>False):=fun _ _ _ _ _ _ h=>h
end
@[simp] theorem zCa (ρ:List AV):zeF ρ []↔True:=⟨fun _=>trivial,fun _=>zcQ ρ⟩
@[simp] theorem zBY (ρ:List AV) (x:E) (b:Bool) (gs:Gd):zeF ρ ((x,b)::gs)↔x.den ρ= .bool b∧zeF ρ gs:=
 ⟨fun h=>⟨h (x,b) (by simp),fun g hg=>h g (by simp [hg])⟩,fun h g hg=>by rcases List.mem_cons.1 hg with rfl|hg;exact h.1;exact h.2 g hg⟩
attribute [simp] E.den EL.den Cn.den AV.fld AV.proj AV.deref AV.len AV.slen AV.idx AV.nth AV.notB AV.negI AV.conv AV.bin AV.bbin AV.sbin AV.app AV.setNth AV.rep
@[simp] theorem zAU (cs:List AV):(AV.agg cs).cells=cs:=rfl
@[simp] theorem zA2 (k:IntKind) (n:Int):(AV.int k n).cells= [.int k n]:=rfl
@[simp] theorem zz8 (b:Bool):(AV.bool b).cells= [.bool b]:=rfl
@[simp] theorem zAk (s:List UInt8):(AV.str s).cells= [.str s]:=rfl
@[simp] theorem zBk (xs:List AV):(AV.sl xs).cells= [.sl xs]:=rfl
@[simp] theorem zAb (k:IntKind) (n:Int):(AV.int k n).scalar=true:=rfl
@[simp] theorem zzL (b:Bool):(AV.bool b).scalar=true:=rfl
@[simp] theorem zAa (s:List UInt8):(AV.str s).scalar=true:=rfl
@[simp] theorem zBR (b c d:Bool):AV.cond (.bool b) (.bool c) (.bool d)= .bool (bif b then c else d):=by cases b<;>rfl
theorem zs1 {y:AV} (h:y.scalar=true):y.cells= [y]:=by cases y<;>first|rfl|simp [AV.scalar]at h
theorem zdc {n:Int} (h1: -9223372036854775808≤n) (h2:n≤9223372036854775807):IntKind.i64.wrap n=n:=by
 rw [IntKind.wrap_i64];omega
end Go.Proofs.YtecngjbpbnfegaaGreatDoor
end
section
namespace Go.Proofs.YtecngjbpbnfegaaGreatDoor
open Go.RowKit
section
variable {Rt:Nat→List AV→AV→Prop} {R:AV→Prop} {L:LK} {js:List JK} {ρ:List AV}
theorem za0 {gs:Gd} {c:Cn} {k:Tr} (h:zeF ρ gs→c.den ρ) (hk:k.den Rt R L js ρ):(Tr.chk gs c k).den Rt R L js ρ:=⟨h,hk⟩
theorem zoN {gs:Gd} {f:Nat} {args:EL} {k:Tr} {r:AV} (h:zeF ρ gs→Rt f (args.den ρ) r) (hk:k.den Rt R L js (ρ++ [r])):(Tr.call gs (.inl f) args k).den Rt R L js ρ:=⟨r,h,hk⟩
theorem zo1 {gs:Gd} {x:E} {args:EL} {k:Tr} {r:AV} (h:zeF ρ gs→ ∃g caps,x.den ρ= .fn g caps∧Rt (1000000+g) (args.den ρ++caps) r∧ ∀y∈r.cells,y.scalar=true) (hk:k.den Rt R L js (ρ++ [r])):(Tr.call gs (.inr x) args k).den Rt R L js ρ:=⟨r,h,hk⟩
theorem zdg {c:E} {a b:Tr} {t:Bool} (h:c.den ρ= .bool t) (ha:t=true→a.den Rt R L js ρ) (hb:t=false→b.den Rt R L js ρ):(Tr.ite c a b).den Rt R L js ρ:=⟨t,h,ha,hb⟩
theorem zhd {r:E} (h:R (r.den ρ)):(Tr.ret r).den Rt R L js ρ:=h
theorem zkl {es:EL} {j:JK} (h:j (es.den ρ)):(Tr.jmp 0 es).den Rt R L (j::js) ρ:=h
theorem zoJ {es:EL} {i j:JK} (h:j (es.den ρ)):(Tr.jmp 1 es).den Rt R L (i::j::js) ρ:=h
theorem zzv {i:EL} {b k:Tr} (hL:zoq L) (n:Nat) (st:Nat→List AV) (h0:i.den ρ=st 0) (hb: ∀q,q≤n→ ∀W:JK,(q<n→W (st (q+1)))→b.den Rt R L (W::(fun us=>k.den Rt R L js (ρ++us))::js) (ρ++st q)):(Tr.loop i b k).den Rt R L js ρ:=by
 refine zsb hL (fun m vs=> ∃q,q+m=n∧vs=st q) (m:=n) ⟨0,by omega,h0⟩ ?_
 rintro m vs ⟨q,hq,rfl⟩
 exact hb q (by omega) _ fun hlt=>⟨m-1,by omega,q+1,by omega,rfl⟩
end
theorem E.den_app_nil:True:=trivial
def tSz:Tr:=
 .chk [] (.dfd (.len (.var 0)))<|
 .chk [] (.dfd (.bin .sub (.var 1) (.len (.var 0))))<|
 .chk [] (.dfd (.bin .lss (.bin .sub (.var 1) (.len (.var 0))) (.int .i64 (0))))<|
 .ite (.bin .lss (.bin .sub (.var 1) (.len (.var 0))) (.int .i64 (0))) (
  .ret (.int .i64 (-1))) (
  .ret (.bin .sub (.var 1) (.len (.var 0))))
def zB0 (n:Nat) (k:Int):Int:=if k-n<0 then-1 else k-n
theorem zB1 {xs:List AV} {k:Int} (hk:0≤k) (hk2:k≤9223372036854775807) (hn:xs.length≤9223372036854775807):Den tSz (.int .i64 (zB0 xs.length k)) [.sl xs, .int .i64 k]:=by
 have hw:IntKind.i64.wrap (k-xs.length)=k-xs.length:=zdc (by omega) (by omega)
 unfold Den tSz
 by_cases h:k-xs.length<0<;>simp [Tr.den,zbb,hw,h,zB0]
def zB8 (f cn:Nat):Tr:=
 .chk [] (.dfd (.len (.var 0)))<|
 .chk [] (.dfd (.len (.var 1)))<|
 .ite (.bin .neq (.len (.var 0)) (.len (.var 1))) (
  .ret (.bool false)) (
  .loop (.cons (.int .i64 (0)) .nil) (
  .chk [] (.dfd (.len (.var 0)))<|
  .chk [] (.dfd (.bin .lss (.var 2) (.len (.var 0))))<|
  .ite (.bin .lss (.var 2) (.len (.var 0))) (
   .chk [] (.inb (.var 2) (.var 0) cn)<|
   .chk [] (.inb (.var 2) (.var 1) cn)<|
   .call [] (.inl f) (.cons (.fld (.idx (.var 0) (.var 2)) 0 cn true) (.cons (.fld (.idx (.var 1) (.var 2)) 0 cn true) .nil))<|
   .chk [] (.dfd (.not (.var 3)))<|
   .ite (.not (.var 3)) (
   .ret (.bool false)) (
   .chk [] (.dfd (.bin .add (.var 2) (.int .i64 (1))))<|
   .jmp 0 (.cons (.bin .add (.var 2) (.int .i64 (1))) .nil))) (
   .jmp 1 .nil)) (
  .ret (.bool true)))
def zt8 (cn:Nat) (xs:List AV):Prop:= ∀x∈xs,∃cs,x= .agg cs∧cs.length=cn
theorem zt8.at {cn:Nat} {xs:List AV} (h:zt8 cn xs) {q:Nat} (hq:q<xs.length): ∃cs,xs[q]= .agg cs∧cs.length=cn:=h _ (List.getElem_mem hq)
theorem zBo {f cn:Nat} {xs:List AV} (hs:zt8 cn xs) (hn:xs.length≤9223372036854775806) (hf: ∀x∈xs,Rts Tryz.prog sgs f [x,x] (.bool true)):Den (zB8 f cn) (.bool true) [.sl xs, .sl xs]:=by
 unfold Den zB8
 refine za0 (by simp) (za0 (by simp) (zdg (t:=false) (by simp [zbb]) (by simp) fun _=> ?_))
 refine zzv ziP xs.length (fun q=> [.int .i64 q]) (by simp) fun q hq W hW=> ?_
 by_cases hlt:q<xs.length
 ·obtain⟨cs,hc,hl⟩:=hs.at hlt
  have hx:(xs[(q:Int).toNat]?).getD .undef= .agg cs:=by simp [hlt,hc]
  have hin:Cn.den [AV.sl xs, .sl xs, .int .i64 q] (.inb (.var 2) (.var 0) cn):=⟨.i64,q,xs.length,by simp,by omega,by simp,by omega,by simp [hlt,hc,hl]⟩
  have hin1:Cn.den [AV.sl xs, .sl xs, .int .i64 q] (.inb (.var 2) (.var 1) cn):=⟨.i64,q,xs.length,by simp,by omega,by simp,by omega,by simp [hlt,hc,hl]⟩
  refine za0 (by simp) (za0 (by simp [zbb]) (zdg (t:=true) (by simp [zbb,hlt]) (fun _=> ?_) (by simp)))
  refine za0 (fun _=>hin) (za0 (fun _=>hin1) (zoN (r:= .bool true) (fun _=> ?_) ?_))
  ·have:=hf xs[q] (List.getElem_mem hlt)
   rw [hc]at this
   simpa [hlt,hc,←hl]using this
  ·refine za0 (by simp) (zdg (t:=false) (by simp) (by simp) fun _=>za0 (by simp [zbb]) (zkl ?_))
   have:=hW hlt
   simpa [zbb,zdc (n:=(q:Int)+1) (by omega) (by omega)]using this
 ·have hqe:q=xs.length:=by omega
  refine za0 (by simp) (za0 (by simp [zbb]) (zdg (t:=false) (by simp [zbb];omega) (by simp) fun _=>zoJ ?_))
  exact zhd (by simp)
end Go.Proofs.YtecngjbpbnfegaaGreatDoor
end
section
namespace Go.Proofs.YtecngjbpbnfegaaGreatDoor
open Go.RowKit
def zbF {α:Type} (xs:List α) (i:Int):Option α:=if 0≤i then xs[i.toNat]? else none
def req {α:Type} (p:Prop) [Decidable p] (k:Option α):Option α:=if p then k else none
def zhh {α:Type} (xs:List α) (lo hi:Int):List α:=(xs.take hi.toNat).drop lo.toNat
def zhN {σ α:Type} (body:σ→Option (σ ⊕ Option α)):Nat→σ→Option α
 |0,_=>none
 |n+1,s=>match body s with
  |none=>none
  |some (.inl s')=>zhN body n s'
  |some (.inr o)=>o
theorem zrA {σ α:Type} {body:σ→Option (σ ⊕ Option α)}: ∀{n:Nat} {s:σ} {r:α},zhN body n s=some r→zhN body (n+1) s=some r
 |0,_,_,h=>by cases h
 |n+1,s,r,h=>by
  rcases hb:body s with _|s'|o
  ·simp [zhN,hb]at h
  ·have h':zhN body n s'=some r:=by simpa [zhN,hb]using h
   have:=zrA h'
   simp only [zhN,hb]at this ⊢
   exact this
  ·have h':o=some r:=by simpa [zhN,hb]using h
   simp [zhN,hb,h']
theorem zvb {σ α:Type} {body:σ→Option (σ ⊕ Option α)} {n m:Nat} (hm:n≤m) {s:σ} {r:α} (h:zhN body n s=some r):zhN body m s=some r:=by
 induction hm with
 |refl=>exact h
 |step _ ih=>exact zrA ih
open Classical in
noncomputable def za8 {σ α:Type} (body:σ→Option (σ ⊕ Option α)) (s:σ):Option α:=
 if h: ∃n r,zhN body n s=some r then some (Classical.choose (Classical.choose_spec h))else none
theorem zkC {σ α:Type} {body:σ→Option (σ ⊕ Option α)} {s:σ} {r:α}:za8 body s=some r↔ ∃n,zhN body n s=some r:=by
 unfold za8
 constructor
 ·intro h
  split at h
  ·rename_i hx
   simp only [Option.some.injEq]at h
   exact⟨_,h▸Classical.choose_spec (Classical.choose_spec hx)⟩
  ·cases h
 ·rintro⟨n,hn⟩
  have hx: ∃n r,zhN body n s=some r:=⟨n,r,hn⟩
  rw [dif_pos hx]
  have h2:=Classical.choose_spec (Classical.choose_spec hx)
  have h3:=zvb (Nat.le_max_left n (Classical.choose hx)) hn
  have h4:=zvb (Nat.le_max_right n (Classical.choose hx)) h2
  rw [h3]at h4
  exact h4.symm
theorem zda {σ α:Type} (body:σ→Option (σ ⊕ Option α)) (s:σ):za8 body s=match body s with|none=>none|some (.inl s')=>za8 body s'|some (.inr o)=>o:=by
 apply Option.ext
 intro r
 rw [zkC]
 constructor
 ·rintro⟨n,hn⟩
  cases n with
  |zero=>cases hn
  |succ n=>
   rcases hb:body s with _|s'|o
   ·simp [zhN,hb]at hn
   ·exact zkC.2 ⟨n,by simpa [zhN,hb]using hn⟩
   ·simpa [zhN,hb]using hn
 ·intro h
  rcases hb:body s with _|s'|o
  ·simp [hb]at h
  ·simp only [hb]at h
   obtain⟨n,hn⟩:=zkC.1 h
   exact⟨n+1,by simpa [zhN,hb]using hn⟩
  ·exact⟨1,by simpa [zhN,hb]using h⟩
theorem zaD {α β:Type} {o:Option α} {k:α→Option β} {r:β} (h:o.bind k=some r): ∃x,o=some x∧k x=some r:=by
 cases o with
 |none=>cases h
 |some x=>exact⟨x,rfl,h⟩
theorem zfa {α:Type} {p:Prop} [Decidable p] {k:Option α} {r:α} (h:req p k=some r):p∧k=some r:=by
 unfold req at h
 split at h
 ·exact⟨‹_›,h⟩
 ·cases h
theorem zaG {α:Type} {xs:List α} {i:Int} {x:α} (h:zbF xs i=some x):0≤i∧i<xs.length∧xs[i.toNat]?=some x:=by
 unfold zbF at h
 split at h
 ·rename_i h0
  have:=(List.getElem?_eq_some_iff.1 h).1
  exact⟨h0,by omega,h⟩
 ·cases h
section
variable {Rt:Nat→List AV→AV→Prop} {R:AV→Prop} {L:LK} {js:List JK} {ρ:List AV} {α β σ τ:Type}
theorem zaa {gs:Gd} {c:Cn} {k:Tr} (h:zeF ρ gs→c.den ρ) (hk:k.den Rt R L js ρ):(Tr.chk gs c k).den Rt R L js ρ:=⟨h,hk⟩
theorem zam {c:E} {a b:Tr} {t:Bool} {A B:Option α} {r:α} (h:(if t=true then A else B)=some r) (hc:c.den ρ= .bool t) (ha:t=true→A=some r→a.den Rt R L js ρ) (hb:t=false→B=some r→b.den Rt R L js ρ):(Tr.ite c a b).den Rt R L js ρ:=
 ⟨t,hc,fun e=>ha e (by rwa [if_pos e]at h),fun e=>hb e (by rwa [if_neg (by simp [e])]at h)⟩
theorem zdt {c:E} {a b:Tr} (hc:c.den ρ= .bool true) (ha:a.den Rt R L js ρ):(Tr.ite c a b).den Rt R L js ρ:=⟨true,hc,fun _=>ha,fun h=>Bool.noConfusion h⟩
theorem zAN {c:E} {a b:Tr} (hc:c.den ρ= .bool false) (hb:b.den Rt R L js ρ):(Tr.ite c a b).den Rt R L js ρ:=⟨false,hc,fun h=>Bool.noConfusion h,fun _=>hb⟩
theorem zav {P:Prop} {t:Bool} {A B:Option α} {r:α} (h:(if t=true then A else B)=some r) (ha:t=true→A=some r→P) (hb:t=false→B=some r→P):P:=by
 cases t with
 |true=>exact ha rfl (by simpa using h)
 |false=>exact hb rfl (by simpa using h)
theorem zac {gs:Gd} {f:Nat} {args:EL} {k:Tr} {o:Option α} {K:α→Option β} {r:β} (av:α→AV) (h:o.bind K=some r) (hR: ∀x,o=some x→Rt f (args.den ρ) (av x)) (hk: ∀x,o=some x→K x=some r→k.den Rt R L js (ρ++ [av x])):(Tr.call gs (.inl f) args k).den Rt R L js ρ:=by
 obtain⟨x,hx,hK⟩:=zaD h
 exact⟨av x,fun _=>hR x hx,hk x hx hK⟩
theorem zzY {gs:Gd} {x:E} {args:EL} {k:Tr} {o:Option α} {K:α→Option β} {r:β} {g:Nat} {caps:List AV} (av:α→AV) (h:o.bind K=some r) (hx:x.den ρ= .fn g caps) (hR: ∀x,o=some x→Rt (1000000+g) (args.den ρ++caps) (av x)) (hs: ∀x,∀y∈(av x).cells,y.scalar=true) (hk: ∀x,o=some x→K x=some r→k.den Rt R L js (ρ++ [av x])):(Tr.call gs (.inr x) args k).den Rt R L js ρ:=by
 obtain⟨y,hy,hK⟩:=zaD h
 exact⟨av y,fun _=>⟨g,caps,hx,hR y hy,hs y⟩,hk y hy hK⟩
theorem zaJ {gs:Gd} {f:Nat ⊕ E} {args:EL} {k:Tr} (h: ¬zeF ρ gs) (hk:k.den Rt R L js (ρ++ [.undef])):(Tr.call gs f args k).den Rt R L js ρ:=⟨.undef,fun h'=>absurd h' h,hk⟩
theorem zad {e:E} {x y:α} {av:α→AV} (h:some x=some y) (he:e.den ρ=av x):(Tr.ret e).den Rt (fun r'=>r'=av y) L js ρ:=by
 cases h;exact he
theorem za4 {d:Nat} {es:EL} {j:JK} {emb:τ→List AV} {K:τ→Option α} {s:τ} {r:α} (hj: ∀s,K s=some r→j (emb s)) (h:K s=some r) (hd:js[d]?=some j) (he:es.den ρ=emb s):(Tr.jmp d es).den Rt R L js ρ:=by
 show match js[d]? with|some j=>j (es.den ρ)|none=>False
 rw [hd];show j (es.den ρ);rw [he];exact hj s h
theorem zAy {t k:Tr} {emb:τ→List AV} {K:τ→Option α} {r:α} (hK: ∀s,K s=some r→k.den Rt R L js (ρ++emb s)) (ht: ∀j:JK,(∀s,K s=some r→j (emb s))→t.den Rt R L (j::js) ρ):(Tr.join t k).den Rt R L js ρ:=
 ht _ hK
theorem zic {t k:Tr} (ht: ∀j:JK,(∀vs,k.den Rt R L js (ρ++vs)→j vs)→t.den Rt R L (j::js) ρ):(Tr.join t k).den Rt R L js ρ:=ht _ fun _ h=>h
theorem zaN {d:Nat} {es:EL} {j:JK} {P:List AV→Prop} (hj: ∀vs,P vs→j vs) (hd:js[d]?=some j) {vs:List AV} (he:es.den ρ=vs) (h:P vs):(Tr.jmp d es).den Rt R L js ρ:=by
 show match js[d]? with|some j=>j (es.den ρ)|none=>False
 rw [hd];show j (es.den ρ);rw [he];exact hj _ h
theorem zbB {i:EL} {b k:Tr} {body:σ→Option (σ ⊕ Option α)} {s0:σ} {r:α} (emb:σ→List AV) (h:za8 body s0=some r) (h0:i.den ρ=emb s0)
  (hb: ∀(W A:JK) (s:σ) (o:σ ⊕ Option α),body s=some o→(∀s',some (Sum.inl s')=some o→W (emb s'))→(∀q,some (Sum.inr q)=some o→q=some r)→(∀vs,k.den Rt R L js (ρ++vs)→A vs)→b.den Rt R L (W::A::js) (ρ++emb s)):(Tr.loop i b k).den Rt R L js ρ:=by
 obtain⟨n,hn⟩:=zkC.1 h
 refine⟨n, ?_⟩
 rw [h0]
 clear h h0
 induction n generalizing s0 with
 |zero=>cases hn
 |succ n ih=>
  rcases ho:body s0 with _|s'|o
  ·simp [zhN,ho]at hn
  ·have hn':zhN body n s'=some r:=by simpa [zhN,ho]using hn
   exact hb _ _ s0 _ ho (fun s2 h2=>by cases h2;exact ih hn') (fun q hq=>by cases hq) (fun _ h=>h)
  ·have hn':o=some r:=by simpa [zhN,ho]using hn
   exact hb _ _ s0 _ ho (fun s2 h2=>by cases h2) (fun q hq=>by cases hq;exact hn') (fun _ h=>h)
theorem zhR {i:EL} {b k:Tr} {body:σ→Option (σ ⊕ Option α)} {s0:σ} {r:α} (emb:σ→List AV) (embK:τ→List AV) (h:za8 body s0=some r) (h0:i.den ρ=emb s0) {K:τ→Option α} (hK: ∀s,K s=some r→k.den Rt R L js (ρ++embK s))
  (hb: ∀(W A:JK) (s:σ) (o:σ ⊕ Option α),body s=some o→(∀s',some (Sum.inl s')=some o→W (emb s'))→(∀q,some (Sum.inr q)=some o→q=some r)→(∀s,K s=some r→A (embK s))→b.den Rt R L (W::A::js) (ρ++emb s)):(Tr.loop i b k).den Rt R L js ρ:=
 zbB emb h h0 fun W A s o ho hn hf hk=>hb W A s o ho hn hf fun s hs=>hk _ (hK s hs)
theorem zaH {i x:E} {sz:Nat} {kk:IntKind} {n:Int} {xs:List α} {y:α} {f:α→AV} (hi:i.den ρ= .int kk n) (hx:x.den ρ= .sl (xs.map f)) (h:zbF xs n=some y) (hf:(f y).cells.length=sz):Cn.den ρ (.inb i x sz):=by
 obtain⟨h1,h2,h3⟩:=zaG h
 exact⟨kk,n,xs.length,hi,h1,by rw [hx];simp,h2,by rw [hx];simp [h3,hf]⟩
theorem ziF {i x:E} {kk:IntKind} {n:Int} {xs:List UInt8} {y:UInt8} (hi:i.den ρ= .int kk n) (hx:x.den ρ= .str xs) (h:zbF xs n=some y):Cn.den ρ (.inbS i x):=by
 obtain⟨h1,h2,h3⟩:=zaG h
 exact⟨kk,n,xs,hi,hx,h1,h2⟩
theorem zwN {x lo hi:E} {ka kb:IntKind} {a b:Int} {xs:List AV} (ha:lo.den ρ= .int ka a) (hb:hi.den ρ= .int kb b) (hx:x.den ρ= .sl xs) (h:0≤a∧a≤b∧b≤xs.length):Cn.den ρ (.win x lo hi):=
 ⟨ka,a,kb,b,xs.length,ha,hb,by rw [hx];simp,h.1,h.2.1,h.2.2⟩
theorem zmo {x lo hi:E} {ka kb:IntKind} {a b:Int} {xs:List UInt8} (ha:lo.den ρ= .int ka a) (hb:hi.den ρ= .int kb b) (hx:x.den ρ= .str xs) (h:0≤a∧a≤b∧b≤xs.length):Cn.den ρ (.winS x lo hi):=
 ⟨ka,a,kb,b,xs,ha,hb,hx,h.1,h.2.1,h.2.2⟩
theorem zfU {x y:E} {bytes:Nat} {xs ys:List AV} (hx:x.den ρ= .sl xs) (hy:y.den ρ= .sl ys) (h:((xs.length:Int)+ys.length)*bytes≤140737488355328∧(xs.length:Int)+ys.length≤140737488355328):Cn.den ρ (.room x y bytes):=
 ⟨xs.length,ys.length,by rw [hx];simp,by rw [hy];simp,h.1,h.2⟩
theorem zde {x y:E} {xs ys:List UInt8} (hx:x.den ρ= .str xs) (hy:y.den ρ= .str ys) (h:xs.length+ys.length≤9223372036854775807):Cn.den ρ (.roomS x y):=⟨xs,ys,hx,hy,h⟩
theorem zkp {n:E} {bytes:Nat} {kk:IntKind} {k:Int} (hn:n.den ρ= .int kk k) (h:0≤k∧k*bytes≤140737488355328∧k≤140737488355328):Cn.den ρ (.mkroom n bytes):=⟨kk,k,hn,h.1,h.2.1,h.2.2⟩
theorem zCB {x:E} {kk:IntKind} {n:Int} (hx:x.den ρ= .int kk n) (h:n≠0):Cn.den ρ (.nz x):=⟨kk,n,hx,h⟩
theorem zCD {x:E} {kk:IntKind} {n:Int} (hx:x.den ρ= .int kk n) (h:0≤n):Cn.den ρ (.nn x):=⟨kk,n,hx,h⟩
theorem zi4 {x:E} {sz:Nat} {xs:List α} (f:α→AV) (hx:x.den ρ= .sl (xs.map f)) (hf: ∀y,(f y).cells.length=sz):Cn.den ρ (.issl x sz):=⟨_,hx,by simp [hf]⟩
theorem zfY {x:E} {sz:Nat} {xs:List α} (f:α→AV) (hx:x.den ρ= .sl (xs.map f)) (hf: ∀y,(f y).cells.length=sz∧ ∀z∈(f y).cells,z.scalar=true):Cn.den ρ (.flatS x sz):=⟨_,hx,by simp only [List.mem_map];rintro _ ⟨y,_,rfl⟩;exact hf y⟩
theorem zBK {x:E} {n:Nat} {y:AV} (hx:x.den ρ= .ref y) (hn:n≤y.cells.length):Cn.den ρ (.isref x n):=⟨y,hx,hn⟩
theorem zCi {x:E} {n:Nat} {cs:List AV} (hx:x.den ρ= .agg cs) (hn:cs.length=n):Cn.den ρ (.agg x n):=⟨cs,hx,hn⟩
end
@[simp] def zaw (n:Int):AV:= .int .i64 n
@[simp] def zCn (n:Int):AV:= .int .u64 n
@[simp] def zCm (n:Int):AV:= .int .i32 n
@[simp] def zCo (n:Int):AV:= .int .u32 n
@[simp] def zCv (n:Int):AV:= .int .u8 n
@[simp] def avB (b:Bool):AV:= .bool b
@[simp] def zal (x:List UInt8):AV:= .str x
@[simp] theorem zB3 (xs:List AV) (ka kb:IntKind) (a b:Int):AV.win (.sl xs) (.int ka a) (.int kb b)= .sl (zhh xs a b):=rfl
@[simp] theorem zBi {α β:Type} (xs:List α) (f:α→β) (a b:Int):(zhh xs a b).map f=zhh (xs.map f) a b:=by simp [zhh,List.map_take,List.map_drop]
@[simp] theorem zBm (s:List UInt8) (ka kb:IntKind) (a b:Int):AV.swin (.str s) (.int ka a) (.int kb b)= .str (zhh s a b):=rfl
attribute [simp] zbb ztJ AV.sidx AV.aeq AV.leq AV.seq AV.sk AV.putF AV.bytes AV.text
@[simp] theorem zzV {α:Type} (l:List α) (i:Nat) (a:α):(l.set i a)[i]?=l[i]?.map fun _=>a:=by
 rcases Nat.lt_or_ge i l.length with h|h
 ·simp [h]
 ·simp [h]
theorem zBn {α:Type} {xs:List α} {i:Int} {y:α} (h:zbF xs i=some y) (v:α):zbF (xs.set i.toNat v) i=some v:=by
 obtain⟨h1,h2,h3⟩:=zaG h
 unfold zbF
 rw [if_pos h1]
 have:i.toNat<xs.length:=by omega
 simp [this]
@[simp] theorem zBX (b:Bool) (k:IntKind) (x y:Int):AV.cond (.bool b) (.int k x) (.int k y)= .int k (bif b then x else y):=by cases b<;>rfl
@[simp] theorem zBE (b:Bool) (x y:List UInt8):AV.cond (.bool b) (.str x) (.str y)= .str (bif b then x else y):=by cases b<;>rfl
@[simp] theorem zB2 (x y:AV):AV.cond (.bool true) x y=x:=rfl
@[simp] theorem zBZ (x y:AV):AV.cond (.bool false) x y=y:=rfl
end Go.Proofs.YtecngjbpbnfegaaGreatDoor
end
section
namespace Go.Proofs.YtecngjbpbnfegaaGreatDoor
open Go.RowKit
section
variable {P:Program} {w:World}
theorem zhp.anyRo {ts:List TypeId} {vs:List Value} {xs:List AV} {rf hs:List Nat} (h:zhp P w ts [] vs xs rf hs): ∀(ms:List PM),(∀m∈ms,m= .ro)→zhp P w ts ms vs xs rf hs:=by
 generalize hm:([]:List PM)=m0 at h
 induction h with
 |nil=>intro ms _;exact .nil
 | @cons t ts ms' v vs x xs f h rf hs harg _ ih=>
  subst hm
  intro ms hms
  refine .cons ?_ (ih rfl ms.tail fun m hm=>hms m (List.mem_of_mem_tail hm))
  have:ms.headD .ro= .ro:=by cases ms with|nil=>rfl|cons m ms=>exact hms m (by simp)
  rw [this];exact harg
 |free h1 _ ih=>
  subst hm
  intro ms hms
  exact .free h1 (ih rfl ms.tail fun m hm=>hms m (List.mem_of_mem_tail hm))
theorem zd5.anyRo {ts:List TypeId} {ms:List PM} {vs:List Value} {Bs:List AV} {f o:List Nat} (h:zd5 P w ts ms vs Bs f o) (hms: ∀m∈ms,m= .ro):zd5 P w ts [] vs Bs f o:=by
 have hd: ∀{ms:List PM},(∀m∈ms,m= .ro)→ms.headD .ro= .ro:=by
  intro ms h;cases ms with|nil=>rfl|cons m ms=>exact h m (by simp)
 induction h with
 |nil=>exact .nil
 |ro _ _ ih=>exact .ro rfl (ih fun m hm=>hms m (List.mem_of_mem_tail hm))
 |va h9 _ _=>rw [hd hms]at h9;cases h9
 |mu h9 _ _ _ _=>rw [hd hms]at h9;cases h9
 |bx h9 _ _ _ _ _ _ _ _=>rw [hd hms]at h9;cases h9
end
noncomputable def zzc (f:Nat) (r:AV):Bool:=
 match Tryz.prog.funcs[f]?,sgs f with
 |some fn,some s=>s.modes.all (fun m=>match m with| .ro=>true|_=>false)&&(match fn.resultTypes.toList with| [t]=> !znu Tryz.prog t s.res|_=>false)&&znw Tryz.prog fn {modes:= [],res:= []} r
 |_,_=>false
theorem zg9 {f:Nat} {xs:List AV} {r:AV} (h:Rts Tryz.prog sgs f xs r) (hp:zzc f r=true):Rts Tryz.prog sgs (1000000+f) xs r:=by
 unfold zzc at hp
 split at hp
 ·rename_i fn s hf hs
  simp only [Bool.and_eq_true,List.all_eq_true]at hp
  obtain⟨⟨h1,h2⟩,h3⟩:=hp
  have hro: ∀m∈s.modes,m= .ro:=fun m hm=>by
   have:=h1 m hm
   split at this
   ·rfl
   ·cases this
  unfold Rts at h ⊢
  rw [if_pos (zvg f s hs)]at h
  rw [if_neg (by omega),Nat.add_sub_cancel_left]
  obtain⟨s',hs',fn',hf',hb,hn,_,hl,hc⟩:=h
  rw [hs]at hs';cases hs'
  rw [hf]at hf';cases hf'
  refine⟨fn,hf,hb,hn,h3,hl,fun w vs rf hs' hargs hd hnd=>(hc w vs rf hs' (hargs.anyRo _ hro) hd hnd).mono ?_⟩
  rintro e w' ⟨v,rfl,⟨R,Bs,f1,o1,f2,o2,e1,e2,e3,e4,e5,e6⟩,hm⟩
  refine⟨v,rfl,⟨R,Bs,f1,o1,f2,o2,e1, ?_,e3.anyRo hro,e4,e5,e6⟩,hm⟩
  unfold zxL at e2 ⊢
  split at h2
  ·rename_i t ht
   rw [ht]at e2 ⊢
   simp only at e2 ⊢
   unfold ztM at e2 ⊢
   have h2:znu Tryz.prog t s.res=false:=by simpa using h2
   rw [if_neg (by rw [h2];simp)]at e2
   rw [if_neg (by simp [znu])]
   exact e2
  ·cases h2
 ·cases hp
section
variable {Rt:Nat→List AV→AV→Prop} {R:AV→Prop} {L:LK} {js:List JK} {ρ:List AV}
theorem zuH {i:EL} {b k:Tr} (hL:zoq L) (n:Nat) (st:Nat→List AV) (J:Nat→Prop) (hJ:J 0) (h0:i.den ρ=st 0) (hb: ∀q,q≤n→J q→ ∀W:JK,(q<n→J (q+1)→W (st (q+1)))→b.den Rt R L (W::(fun us=>k.den Rt R L js (ρ++us))::js) (ρ++st q)):(Tr.loop i b k).den Rt R L js ρ:=by
 refine zsb hL (fun m vs=> ∃q,q+m=n∧vs=st q∧J q) (m:=n) ⟨0,by omega,h0,hJ⟩ ?_
 rintro m vs ⟨q,hq,rfl,hj⟩
 exact hb q (by omega) hj _ fun hlt hj'=>⟨m-1,by omega,q+1,by omega,rfl,hj'⟩
end
def zAQ (cn:Nat):Tr:=
 .chk [] (.dfd (.len (.var 0)))<|
 .loop (.cons (.int .i64 (0)) .nil) (
  .chk [] (.dfd (.bin .lss (.var 2) (.len (.var 0))))<|
  .ite (.bin .lss (.var 2) (.len (.var 0))) (
  .chk [] (.inb (.var 2) (.var 0) cn)<|
  .call [] (.inr (.var 1)) (.cons (.fld (.idx (.var 0) (.var 2)) 0 cn true) .nil)<|
  .ite (.var 3) (
   .ret (.var 2)) (
   .chk [] (.dfd (.bin .add (.var 2) (.int .i64 (1))))<|
   .jmp 0 (.cons (.bin .add (.var 2) (.int .i64 (1))) .nil))) (
  .jmp 1 .nil)) (
  .ret (.int .i64 (-1)))
def zyR:Tr:=
 .chk [] (.dfd (.len (.var 0)))<|
 .loop (.cons (.int .i64 (0)) .nil) (
  .chk [] (.dfd (.bin .lss (.var 2) (.len (.var 0))))<|
  .ite (.bin .lss (.var 2) (.len (.var 0))) (
  .chk [] (.inb (.var 2) (.var 0) 1)<|
  .call [] (.inr (.var 1)) (.cons (.fld (.idx (.var 0) (.var 2)) 0 1 false) .nil)<|
  .ite (.var 3) (
   .ret (.var 2)) (
   .chk [] (.dfd (.bin .add (.var 2) (.int .i64 (1))))<|
   .jmp 0 (.cons (.bin .add (.var 2) (.int .i64 (1))) .nil))) (
  .jmp 1 .nil)) (
  .ret (.int .i64 (-1)))
def zqh {α:Type} (p:α→Option Bool):List α→Int→Option Int
 | [],_=>some (-1)
 |x::xs,i=>(p x).bind fun b=>if b=true then some i else zqh p xs (i+1)
def zbw {α:Type} (xs:List α) (p:α→Option Bool):Option Int:=req (xs.length≤9223372036854775806) (zqh p xs 0)
def zaZ {α:Type} (xs:List α) (p:α→Option Bool):Option Bool:=(zbw xs p).bind fun i=>some (decide (i≥0))
def zpe {α:Type} (bytes:Nat) (xs:List α):Option (List α):=req ((xs.length:Int)*bytes≤140737488355328∧(xs.length:Int)≤140737488355328) (some xs)
theorem ztU {α:Type} {p:α→Option Bool} {l:List α} {r:Int} {q:Nat} (hq:q<l.length) (h:zqh p (l.drop q) q=some r): ∃b,p l[q]=some b∧(b=true→r=q)∧(b=false→zqh p (l.drop (q+1)) ((q+1:Nat):Int)=some r):=by
 rw [List.drop_eq_getElem_cons hq]at h
 obtain⟨b,hb,h⟩:=zaD h
 refine⟨b,hb, ?_, ?_⟩
 ·rintro rfl;simpa using h.symm
 ·rintro rfl;simpa using h
theorem zut {α:Type} {av:α→AV} {l:List α} {p:α→Option Bool} {cn g:Nat} {caps:List AV} {r:Int} (hs: ∀x,∃cs,av x= .agg cs∧cs.length=cn) (h:zbw l p=some r) (hf: ∀x b,p x=some b→Rts Tryz.prog sgs (1000000+g) (av x::caps) (.bool b)):Den (zAQ cn) (.int .i64 r) [.sl (l.map av), .fn g caps]:=by
 obtain⟨hn,h⟩:=zfa h
 unfold Den zAQ
 refine za0 (by simp) ?_
 refine zuH ziP l.length (fun q=> [.int .i64 q]) (fun q=>zqh p (l.drop q) q=some r) (by simpa using h) (by simp) fun q hq hJ W hW=> ?_
 by_cases hlt:q<l.length
 ·obtain⟨cs,hc,hl⟩:=hs l[q]
  obtain⟨b,hb,hb1,hb2⟩:=ztU hlt hJ
  refine za0 (by simp [zbb]) (zdg (t:=true) (by simp [zbb,hlt]) (fun _=> ?_) (by simp))
  refine za0 (fun _=>⟨.i64,q,l.length,by simp,by omega,by simp,by omega,by simp [hlt,hc,hl]⟩) (zo1 (r:= .bool b) (fun _=>⟨g,caps,by simp, ?_,by simp⟩) ?_)
  ·have:=hf l[q] b hb
   rw [hc]at this
   simpa [hlt,hc,←hl]using this
  ·cases b with
   |true=>exact zdg (t:=true) (by simp) (fun _=>zhd (by simp [hb1 rfl])) (by simp)
   |false=>
    refine zdg (t:=false) (by simp) (by simp) fun _=>za0 (by simp [zbb]) (zkl ?_)
    have:=hW hlt (hb2 rfl)
    simpa [zbb,zdc (n:=(q:Int)+1) (by omega) (by omega)]using this
 ·have hqe:q=l.length:=by omega
  subst hqe
  have hr:r= -1:=by simpa [zqh]using hJ.symm
  refine za0 (by simp [zbb]) (zdg (t:=false) (by simp [zbb]) (by simp) fun _=>zoJ ?_)
  exact zhd (by simp [hr])
theorem zuR {α:Type} {av:α→AV} {l:List α} {p:α→Option Bool} {g:Nat} {caps:List AV} {r:Int} (hs: ∀x,(av x).cells= [av x]) (h:zbw l p=some r) (hf: ∀x b,p x=some b→Rts Tryz.prog sgs (1000000+g) (av x::caps) (.bool b)):Den zyR (.int .i64 r) [.sl (l.map av), .fn g caps]:=by
 obtain⟨hn,h⟩:=zfa h
 unfold Den zyR
 refine za0 (by simp) ?_
 refine zuH ziP l.length (fun q=> [.int .i64 q]) (fun q=>zqh p (l.drop q) q=some r) (by simpa using h) (by simp) fun q hq hJ W hW=> ?_
 by_cases hlt:q<l.length
 ·obtain⟨b,hb,hb1,hb2⟩:=ztU hlt hJ
  refine za0 (by simp [zbb]) (zdg (t:=true) (by simp [zbb,hlt]) (fun _=> ?_) (by simp))
  refine za0 (fun _=>⟨.i64,q,l.length,by simp,by omega,by simp,by omega,by simp [hlt,hs]⟩) (zo1 (r:= .bool b) (fun _=>⟨g,caps,by simp, ?_,by simp⟩) ?_)
  ·have:=hf l[q] b hb
   simpa [hlt,hs]using this
  ·cases b with
   |true=>exact zdg (t:=true) (by simp) (fun _=>zhd (by simp [hb1 rfl])) (by simp)
   |false=>
    refine zdg (t:=false) (by simp) (by simp) fun _=>za0 (by simp [zbb]) (zkl ?_)
    have:=hW hlt (hb2 rfl)
    simpa [zbb,zdc (n:=(q:Int)+1) (by omega) (by omega)]using this
 ·have hqe:q=l.length:=by omega
  subst hqe
  have hr:r= -1:=by simpa [zqh]using hJ.symm
  refine za0 (by simp [zbb]) (zdg (t:=false) (by simp [zbb]) (by simp) fun _=>zoJ ?_)
  exact zhd (by simp [hr])
def zAz (f:Nat):Tr:=
 .call [] (.inl f) (.cons (.var 0) (.cons (.var 1) .nil))<|
 .chk [] (.dfd (.bin .geq (.var 2) (.int .i64 (0))))<|
 .ret (.bin .geq (.var 2) (.int .i64 (0)))
theorem zrY {α:Type} {l:List α} {p:α→Option Bool} {f:Nat} {x y:AV} {r:Bool} (h:zaZ l p=some r) (hf: ∀i,zbw l p=some i→Rts Tryz.prog sgs f [x,y] (.int .i64 i)):Den (zAz f) (.bool r) [x,y]:=by
 obtain⟨i,hi,h⟩:=zaD h
 unfold Den zAz
 refine zoN (fun _=>by simpa using hf i hi) (za0 (by simp [zbb]) (zhd ?_))
 simp only [Option.some.injEq]at h
 simp [zbb,←h]
def zy2 (bytes sz:Nat):Tr:=
 .chk [] (.dfd (.len (.var 0)))<|
 .nilq [] (.var 0)<|
 .ite (.var 1) (
  .ret (.lst .nil)) (
  .chk [] (.room (.lst .nil) (.var 0) bytes)<|
  .chk [] (.flatS (.var 0) sz)<|
  .ret (.app (.lst .nil) (.var 0)))
def zwK (bytes sz:Nat):Tr:=
 .chk [] (.dfd (.len (.var 0)))<|
 .nilq [] (.var 0)<|
 .ite (.var 1) (
  .ret (.lst .nil)) (
  .chk [] (.room (.lst .nil) (.var 0) bytes)<|
  .chk [] (.issl (.var 0) sz)<|
  .ret (.app (.lst .nil) (.var 0)))
theorem ztE {α:Type} {av:α→AV} {xs r:List α} {bytes sz:Nat} (hs: ∀x,(av x).cells.length=sz∧ ∀z∈(av x).cells,z.scalar=true) (h:zpe bytes xs=some r):Den (zy2 bytes sz) (.sl (r.map av)) [.sl (xs.map av)]:=by
 obtain⟨hq,h⟩:=zfa h
 cases h
 unfold Den zy2
 refine za0 (by simp) fun b hb=> ?_
 cases b with
 |true=>
  have:=hb (by simp) rfl
  exact zdg (t:=true) (by simp) (fun _=>zhd (by simpa using this.symm)) (by simp)
 |false=>exact zdg (t:=false) (by simp) (by simp) fun _=>za0 (fun _=>⟨0,xs.length,by simp,by simp,by simpa using hq.1,by simpa using hq.2⟩) (za0 (fun _=>zfY (xs:=xs) av (by simp) hs) (zhd (by simp)))
theorem zz9 {α:Type} {av:α→AV} {xs r:List α} {bytes sz:Nat} (hs: ∀x,(av x).cells.length=sz) (h:zpe bytes xs=some r):Den (zwK bytes sz) (.sl (r.map av)) [.sl (xs.map av)]:=by
 obtain⟨hq,h⟩:=zfa h
 cases h
 unfold Den zwK
 refine za0 (by simp) fun b hb=> ?_
 cases b with
 |true=>
  have:=hb (by simp) rfl
  exact zdg (t:=true) (by simp) (fun _=>zhd (by simpa using this.symm)) (by simp)
 |false=>exact zdg (t:=false) (by simp) (by simp) fun _=>za0 (fun _=>⟨0,xs.length,by simp,by simp,by simpa using hq.1,by simpa using hq.2⟩) (za0 (fun _=>zi4 (xs:=xs) av (by simp) hs) (zhd (by simp)))
end Go.Proofs.YtecngjbpbnfegaaGreatDoor
end
section
namespace Go.Proofs.YtecngjbpbnfegaaGreatDoor
open Go.ChangeShapes Go.WideShapes Go.ChangeAt Go.RowKit
theorem zuU {P:Program} {w:World}:zhp P w [] [] [] [] [] []:= .nil
theorem zka {P:Program} {w:World} {t:TypeId} {ts:List TypeId} {v:Value} {vs:List Value} {x:AV} {xs:List AV} {f rf:List Nat} (h:Rd w [v] [x] f) (k:zhp P w ts [] vs xs rf []):zhp P w (t::ts) [] (v::vs) (x::xs) (f++rf) []:=
 zhp.cons (h:= []) (hs:= []) (ms:= []) ⟨h,rfl⟩ k
theorem zvd {P:Program} {sg:SgT} {f:Nat} {fn:Func} {t:TypeId} {xs:List AV} (h:Rts P sg f xs (.bool true)) (hf:f<1000000) {s:Sig} (hs:sg f=some s) (hro: ∀m∈s.modes,m= .ro) (hfl:znu P t s.res=false) (hfn:P.funcs[f]?=some fn) (hr:fn.resultTypes.toList= [t])
  {w:World} {vs:List Value} {rf:List Nat} (ha:zhp P w fn.params.toList [] vs xs rf []):
  Calls P f vs.toArray w fun e w'=>e= .returned (.bool true)∧Below w.heap.size w w':=by
 unfold Rts at h
 rw [if_pos hf]at h
 obtain⟨s',hs',fn',hfn',_,_,_,_,hc⟩:=h
 rw [hs]at hs'
 obtain rfl:=Option.some.inj hs'
 rw [hfn]at hfn'
 obtain rfl:=Option.some.inj hfn'
 refine(hc w vs rf [] (ha.anyRo _ hro) (by simp) (by simp)).mono fun e w' ⟨v,he,hp⟩=> ?_
 obtain⟨⟨R,bs,f1,o1,f2,o2,hR,hres,_⟩,hm⟩:=hp
 have hRt:R= .bool true:=by
  cases bs with
  |nil=>exact hR.symm
  |cons=>cases hR
 subst hRt
 rw [hr]at hres
 have h2:ztM P w' t s.res v (.bool true) f1 o1:=hres
 unfold ztM at h2
 rw [hfl]at h2
 obtain⟨h3,_⟩:=h2
 have:v= .bool true:=by cases h3;rfl
 subst this
 exact⟨he,hm.below⟩
section
variable {P:Program} {t:TypeId} {Q:List AV→Prop} {H:Type} {enc:TypeId × Value→H} {w:World} {spare:Nat→Bool} {held:Bool} {v:Value} {d:DataW H} {p:List MemPlace} {r:Reach} {base:Nat}
theorem zsI (hO:OpA P t Q) (hc:v.cells= #[v]) (h:DataW.Trod enc P w 0 spare held t v d p): ∃x f,Rd w [v] [x] f∧Q [x]:=by
 obtain⟨n,h⟩:=h
 rw [hc]at h
 obtain⟨_,_,xs,f,hr,hq⟩:=hO.2 _ _ _ _ _ _ _ _ h
 have hl:=hr.len
 match xs,hl with
 | [x],_=>exact⟨x,f,hr,hq⟩
theorem zrC {fs:Array Field} (hO:OpA P t Q) (ht:P.underlying t=some (.struct fs)) (hv:Value.okWide P w r base t v) (h:DataW.Trod enc P w 0 spare held t v d p): ∃xs f,Rd w [v] [.agg xs] f∧Q xs:=by
 obtain⟨n,h⟩:=h
 obtain⟨cs,rfl,_⟩:=okWide_struct ht hv
 obtain⟨_,h1,xs,f,hr,hq⟩:=hO.2 _ _ _ _ _ _ _ _ h
 refine⟨xs,f++ [], ?_,hq⟩
 have:=Rd.agg (w:=w) h1 hr .nil
 simpa [Value.cells]using this
theorem zxa {e:TypeId} (hO:OpA P t Q) (ht:P.underlying t=some (.slice e)) (hv:Value.okWide P w r base t v) (h:DataW.Trod enc P w 0 spare held t v d p): ∃x f,Rd w [v] [x] f∧Q [x]:=by
 obtain⟨a,l,c,rfl⟩:=okWide_slice ht hv
 exact zsI hO rfl h
theorem zzU {k:IntKind} (hO:OpA P t Q) (ht:P.underlying t=some (.int k)) (hv:Value.okWide P w r base t v) (h:DataW.Trod enc P w 0 spare held t v d p): ∃x f,Rd w [v] [x] f∧Q [x]:=by
 obtain⟨n,rfl⟩:=okWide_int ht hv
 exact zsI hO rfl h
theorem zBd (hO:OpA P t Q) (ht:P.underlying t=some .bool) (hv:Value.okWide P w r base t v) (h:DataW.Trod enc P w 0 spare held t v d p): ∃x f,Rd w [v] [x] f∧Q [x]:=by
 obtain⟨n,rfl⟩:=okWide_bool ht hv
 exact zsI hO rfl h
theorem zvj (hO:OpA P t Q) (ht:P.underlying t=some .string) (hv:Value.okWide P w r base t v) (h:DataW.Trod enc P w 0 spare held t v d p): ∃x f,Rd w [v] [x] f∧Q [x]:=by
 obtain⟨n,rfl⟩:=okWide_string ht hv
 exact zsI hO rfl h
end
end Go.Proofs.YtecngjbpbnfegaaGreatDoor
end
section
namespace Go.Proofs.YtecngjbpbnfegaaGreatDoor
open Go.ChangeShapes Go.WideShapes Go.ChangeAt Go.RowKit
theorem zzf {a b:Bool} (ha:a=true) (hb:b=true):(a&&b)=true:=by rw [ha,hb];rfl
def zqu (n:Int):Prop:= -9223372036854775808≤n∧n≤9223372036854775807
def zBy (n:Int):Prop:=0≤n∧n≤255
def okB (_:Bool):Prop:=True
def zpo (s:List UInt8):Prop:=s.length≤9223372036854775807
def okL {α:Type} (ok:α→Prop) (l:List α):Prop:=l.length≤9223372036854775807∧ ∀x∈l,ok x
theorem zBr {n:Int} (h:InK .i64 n):zqu n:=by
 unfold InK at h
 rw [IntKind.wrap_i64]at h
 unfold zqu
 omega
theorem zCr {n:Int} (h:InK .u8 n):zBy n:=by
 unfold InK at h
 simp only [IntKind.wrap,IntKind.bits,IntKind.signed]at h
 unfold zBy
 simp at h
 omega
section
variable {P:Program} {t e:TypeId} {α:Type} {ok:α→Prop} {av:α→AV}
theorem zBV (ht:P.underlying t=some (.int .i64)) (hc:P.cellsOf t=1):OpA P t fun xs=> ∃n,zqu n∧xs= [zaw n]:=
 (zv6 ht hc).mono fun _ ⟨n,h,e⟩=>⟨n,zBr h,e⟩
theorem zCC (ht:P.underlying t=some (.int .u8)) (hc:P.cellsOf t=1):OpA P t fun xs=> ∃n,zBy n∧xs= [zCv n]:=
 (zv6 ht hc).mono fun _ ⟨n,h,e⟩=>⟨n,zCr h,e⟩
theorem opB (ht:P.underlying t=some .bool) (hc:P.cellsOf t=1):OpA P t fun xs=> ∃b,okB b∧xs= [avB b]:=
 (zxU ht hc).mono fun _ ⟨b,e⟩=>⟨b,trivial,e⟩
theorem zBQ (ht:P.underlying t=some .string) (hc:P.cellsOf t=1):OpA P t fun xs=> ∃s,zpo s∧xs= [zal s]:=
 (zvF ht hc).mono fun _ ⟨s,h,e⟩=>⟨s,h,e⟩
theorem zuC: ∀{ys:List AV},(∀y∈ys,ElA true (fun xs=> ∃c,ok c∧ .agg xs=av c) y)→ ∃l:List α,(∀c∈l,ok c)∧ys=l.map av
 | [],_=>⟨[],by simp,rfl⟩
 |y::ys,h=>by
  obtain⟨l,hl,rfl⟩:=zuC fun z hz=>h z (List.mem_cons_of_mem _ hz)
  have h0:=h y (List.mem_cons_self ..)
  simp only [ElA,if_true]at h0
  obtain⟨zs,rfl,c,hk,hc⟩:=h0
  exact⟨c::l,by simpa using⟨hk,hl⟩,by simp [hc]⟩
theorem zuX: ∀{ys:List AV},(∀y∈ys,ElA false (fun xs=> ∃c,ok c∧xs= [av c]) y)→ ∃l:List α,(∀c∈l,ok c)∧ys=l.map av
 | [],_=>⟨[],by simp,rfl⟩
 |y::ys,h=>by
  obtain⟨l,hl,rfl⟩:=zuX fun z hz=>h z (List.mem_cons_of_mem _ hz)
  have h0:=h y (List.mem_cons_self ..)
  simp only [ElA,Bool.false_eq_true,if_false]at h0
  obtain⟨_,c,hk,hc⟩:=h0
  exact⟨c::l,by simpa using⟨hk,hl⟩,by simp at hc;simp [hc]⟩
theorem zzC (ht:P.underlying t=some (.slice e)) (hc:P.cellsOf t=1) (he:OpA P e fun xs=> ∃c,ok c∧ .agg xs=av c):OpA P t fun xs=> ∃l:List α,okL ok l∧xs= [.sl (l.map av)]:=
 (zto true ht hc he (.inl rfl)).mono fun _ ⟨ys,hl,hy,e⟩=>by
  obtain⟨l,hk,rfl⟩:=zuC hy
  exact⟨l,⟨by simpa using hl,hk⟩,e⟩
theorem zAW (ht:P.underlying t=some (.slice e)) (hc:P.cellsOf t=1) (he1:P.cellsOf e=1) (he:OpA P e fun xs=> ∃c,ok c∧xs= [av c]):OpA P t fun xs=> ∃l:List α,okL ok l∧xs= [.sl (l.map av)]:=
 (zto false ht hc he (.inr he1)).mono fun _ ⟨ys,hl,hy,e⟩=>by
  obtain⟨l,hk,rfl⟩:=zuX hy
  exact⟨l,⟨by simpa using hl,hk⟩,e⟩
end
end Go.Proofs.YtecngjbpbnfegaaGreatDoor
end
section
namespace Go.Proofs.YtecngjbpbnfegaaGreatDoor
open Go.RowKit
set_option maxRecDepth 100000
set_option maxHeartbeats 4000000
structure zb8 where
 fName:List UInt8
 fCol:Int
 fStage:Int
@[simp] def zbW (x:zb8):AV:= .agg [.str x.fName, .int .i64 x.fCol, .int .i64 x.fStage]
structure zab where
 fName:List UInt8
 fCols:List (List UInt8)
 fIdxs:List zb8
@[simp] def zae (x:zab):AV:= .agg [.str x.fName, .sl (x.fCols.map zal), .sl (x.fIdxs.map zbW)]
structure zag where
 fKey:List UInt8
 fVal:List UInt8
 fGone:Bool
@[simp] def zar (x:zag):AV:= .agg [.str x.fKey, .str x.fVal, .bool x.fGone]
structure zaB where
 fName:List UInt8
 fWays:List zab
 fAt:List Int
 fStore:List zag
@[simp] def zcS (x:zaB):AV:= .agg [.str x.fName, .sl (x.fWays.map zae), .sl (x.fAt.map zaw), .sl (x.fStore.map zar)]
@[simp] def zbK (x:List (List UInt8)):AV:= .sl (x.map zal)
@[simp] def zwg (x:List zb8):AV:= .sl (x.map zbW)
@[simp] def zkB (x:List zab):AV:= .sl (x.map zae)
@[simp] def zuI (x:List Int):AV:= .sl (x.map zaw)
@[simp] def zmp (x:List zag):AV:= .sl (x.map zar)
@[simp] def zaI (x:List UInt8 × List UInt8 × Bool):AV:= .tup [.str x.1, .str x.2.1, .bool x.2.2]
structure zdN where
 fVals:List (List UInt8)
@[simp] def zgh (x:zdN):AV:= .agg [.sl (x.fVals.map zal)]
@[simp] def zeO (x:zdN × Bool):AV:= .tup [zgh x.1, .bool x.2]
@[simp] def zu8 (x:List zdN):AV:= .sl (x.map zgh)
@[simp] def zfH (x:List (List UInt8) × Bool):AV:= .tup [.sl (x.1.map zal), .bool x.2]
@[simp] def zeB (x:Bool × Bool):AV:= .tup [.bool x.1, .bool x.2]
@[simp] def zyQ (x:List UInt8):AV:= .ref (.agg [.str x])
@[simp] def zoK (x:zaB):AV:= .ref (zcS x)
@[simp] def zha (x:List UInt8 × Bool):AV:= .tup [.str x.1, .bool x.2]
@[simp] def zxB (x:List (List UInt8)):AV:= .ref (.agg [.sl (x.map zal)])
end Go.Proofs.YtecngjbpbnfegaaGreatDoor
end
section
namespace Go.Proofs.YtecngjbpbnfegaaGreatDoor
open Go.ChangeShapes Go.WideShapes Go.ChangeAt Go.RowKit
set_option maxRecDepth 100000
theorem op1:OpA Tryz.prog 9 fun xs=> ∃s,zpo s∧xs= [zal s]:=zBQ Tryz.underlying9 (by kernel_rfl)
theorem op2:OpA Tryz.prog 22 fun xs=> ∃l:List (List UInt8),okL zpo l∧xs= [.sl (l.map zal)]:=zAW Tryz.underlying22 (by kernel_rfl) (by kernel_rfl) op1
theorem op5:OpA Tryz.prog 3 fun xs=> ∃n,zqu n∧xs= [zaw n]:=zBV Tryz.underlying3 (by kernel_rfl)
def zwt (x:zb8):Prop:=zpo x.fName∧zqu x.fCol∧zqu x.fStage
theorem op4:OpA Tryz.prog 78 fun xs=> ∃x:zb8,zwt x∧ .agg xs=zbW x:=
 (zkr Tryz.underlying78 (by decide+kernel) (by kernel_rfl) (.cons op1 (.cons op5 (.cons op5 .nil)))).mono fun _ ⟨_,_,e0,⟨x0,k0,h0⟩,_,_,e1,⟨x1,k1,h1⟩,_,_,e2,⟨x2,k2,h2⟩,hz⟩=>by
  subst h2 hz e2 h1 e1 h0 e0
  exact⟨⟨x0,x1,x2⟩,⟨k0,k1,k2⟩,by simp⟩
theorem op3:OpA Tryz.prog 23 fun xs=> ∃l:List zb8,okL zwt l∧xs= [.sl (l.map zbW)]:=zzC Tryz.underlying23 (by kernel_rfl) op4
def znF (x:zab):Prop:=zpo x.fName∧(okL zpo) x.fCols∧(okL zwt) x.fIdxs
theorem op0:OpA Tryz.prog 25 fun xs=> ∃x:zab,znF x∧ .agg xs=zae x:=
 (zkr Tryz.underlying25 (by decide+kernel) (by kernel_rfl) (.cons op1 (.cons op2 (.cons op3 .nil)))).mono fun _ ⟨_,_,e0,⟨x0,k0,h0⟩,_,_,e1,⟨x1,k1,h1⟩,_,_,e2,⟨x2,k2,h2⟩,hz⟩=>by
  subst h2 hz e2 h1 e1 h0 e0
  exact⟨⟨x0,x1,x2⟩,⟨k0,k1,k2⟩,by simp⟩
theorem op8:OpA Tryz.prog 4 fun xs=> ∃b,okB b∧xs= [avB b]:=opB Tryz.underlying4 (by kernel_rfl)
def znm (x:zag):Prop:=zpo x.fKey∧zpo x.fVal∧okB x.fGone
theorem op7:OpA Tryz.prog 56 fun xs=> ∃x:zag,znm x∧ .agg xs=zar x:=
 (zkr Tryz.underlying56 (by decide+kernel) (by kernel_rfl) (.cons op1 (.cons op1 (.cons op8 .nil)))).mono fun _ ⟨_,_,e0,⟨x0,k0,h0⟩,_,_,e1,⟨x1,k1,h1⟩,_,_,e2,⟨x2,k2,h2⟩,hz⟩=>by
  subst h2 hz e2 h1 e1 h0 e0
  exact⟨⟨x0,x1,x2⟩,⟨k0,k1,k2⟩,by simp⟩
theorem op6:OpA Tryz.prog 26 fun xs=> ∃l:List zag,okL znm l∧xs= [.sl (l.map zar)]:=zzC Tryz.underlying26 (by kernel_rfl) op7
theorem zCw:OpA Tryz.prog 40 fun xs=> ∃l:List zab,okL znF l∧xs= [.sl (l.map zae)]:=zzC Tryz.underlying40 (by kernel_rfl) op0
theorem zCj:OpA Tryz.prog 41 fun xs=> ∃l:List Int,okL zqu l∧xs= [.sl (l.map zaw)]:=zAW Tryz.underlying41 (by kernel_rfl) (by kernel_rfl) op5
def ztZ (x:zaB):Prop:=zpo x.fName∧(okL znF) x.fWays∧(okL zqu) x.fAt∧(okL znm) x.fStore
theorem op9:OpA Tryz.prog 43 fun xs=> ∃x:zaB,ztZ x∧ .agg xs=zcS x:=
 (zkr Tryz.underlying43 (by decide+kernel) (by kernel_rfl) (.cons op1 (.cons zCw (.cons zCj (.cons op6 .nil))))).mono fun _ ⟨_,_,e0,⟨x0,k0,h0⟩,_,_,e1,⟨x1,k1,h1⟩,_,_,e2,⟨x2,k2,h2⟩,_,_,e3,⟨x3,k3,h3⟩,hz⟩=>by
  subst h3 hz e3 h2 e2 h1 e1 h0 e0
  exact⟨⟨x0,x1,x2,x3⟩,⟨k0,k1,k2,k3⟩,by simp⟩
end Go.Proofs.YtecngjbpbnfegaaGreatDoor
end
section
namespace Go.Proofs.YtecngjbpbnfegaaGreatDoor
open Go.RowKit
theorem zai {α:Type} {xs:List α} {i:Nat} (h:i<xs.length):zbF xs (i:Int)=some xs[i]:=by simp [zbF,h]
theorem zxA {α:Type} {xs:List α} {i:Int} (h0:0≤i) (h:i<xs.length): ∃x,zbF xs i=some x∧x∈xs∧xs[i.toNat]?=some x:=by
 have hi:i.toNat<xs.length:=by omega
 exact⟨xs[i.toNat],by simp [zbF,h0,hi],List.getElem_mem hi,by simp [hi]⟩
theorem zyj {α:Type} {xs:List α} {i:Int} {x:α} (h:zbF xs i=some x):x∈xs:=by
 obtain⟨h1,h2,h3⟩:=zaG h
 exact List.mem_of_getElem? h3
theorem zbT {q n:Nat} (h:q<n) (hn:n≤9223372036854775807):IntKind.i64.wrap ((q:Int)+1)=((q+1:Nat):Int):=by rw [zdc (by omega) (by omega)];simp
theorem zaq {α:Type} {p:Prop} [Decidable p] {k:Option α} (h:p):req p k=k:=by simp [req,h]
def goL {α σ β:Type} (step:α→σ→Option (σ ⊕ Option β)) (fin:σ→Option β):List α→σ→Option β
 | [],s=>fin s
 |x::xs,s=>match step x s with
  |none=>none
  |some (.inl s')=>goL step fin xs s'
  |some (.inr o)=>o
def zsA {σ τ β:Type} (f:σ→τ):Option (σ ⊕ Option β)→Option (τ ⊕ Option β)
 |none=>none
 |some (.inl s)=>some (.inl (f s))
 |some (.inr o)=>some (.inr o)
theorem zxu {α σ τ β:Type} {xs:List α} {body:τ→Option (τ ⊕ Option β)} (emb:Int→σ→τ) (step:α→σ→Option (σ ⊕ Option β)) (fin:σ→Option β) (q0:Nat)
  (hs: ∀(i:Nat) (hi:i<xs.length) (s:σ),q0≤i→body (emb i s)=zsA (emb ((i+1:Nat):Int)) (step xs[i] s)) (he: ∀s,body (emb xs.length s)=some (.inr (fin s))) (s:σ) (h0:q0≤xs.length):za8 body (emb q0 s)=goL step fin (xs.drop q0) s:=by
 have key: ∀(n q:Nat) (s:σ),q0≤q→q+n=xs.length→za8 body (emb q s)=goL step fin (xs.drop q) s:=by
  intro n
  induction n with
  |zero=>
   intro q s _ hq
   have:q=xs.length:=by omega
   subst this
   rw [zda,he s]
   simp [goL]
  |succ n ih=>
   intro q s h0 hq
   have hlt:q<xs.length:=by omega
   rw [zda,hs q hlt s h0,List.drop_eq_getElem_cons hlt]
   rcases hst:step xs[q] s with _|s'|o
   ·simp [goL,hst,zsA]
   ·simp only [goL,hst,zsA];exact ih (q+1) s' (by omega) (by omega)
   ·simp [goL,hst,zsA]
 exact key (xs.length-q0) q0 s (Nat.le_refl _) (by omega)
theorem zmz {α σ τ β:Type} {xs:List α} {body:τ→Option (τ ⊕ Option β)} (emb:Int→σ→τ) (step:α→σ→Option (σ ⊕ Option β)) (fin:σ→Option β)
  (hs: ∀(i:Nat) (hi:i<xs.length) (s:σ),body (emb i s)=zsA (emb ((i+1:Nat):Int)) (step xs[i] s)) (he: ∀s,body (emb xs.length s)=some (.inr (fin s))) (s:σ):za8 body (emb 0 s)=goL step fin xs s:=by
 have:=zxu emb step fin 0 (fun i hi s _=>hs i hi s) he s (by omega)
 simpa using this
theorem zux {α σ β:Type} {step:α→σ→Option (σ ⊕ Option β)} {fin:σ→Option β} {xs:List α} (p:α→Bool) (b:β) (h: ∀x∈xs,∀s,step x s=some (if p x=true then .inl s else .inr (some b))) (s:σ):goL step fin xs s=if xs.all p=true then fin s else some b:=by
 induction xs with
 |nil=>simp [goL]
 |cons x xs ih=>
  simp only [goL,h x (by simp) s]
  cases hp:p x with
  |true=>simp [hp,ih fun y hy=>h y (by simp [hy])]
  |false=>simp [hp]
theorem zyd {α σ β:Type} {step:α→σ→Option (σ ⊕ Option β)} {fin:σ→Option β} {xs:List α} (f:σ→α→σ) (I:σ→Prop) (hI: ∀x∈xs,∀s,I s→I (f s x)) (h: ∀x∈xs,∀s,I s→step x s=some (.inl (f s x))) {s:σ} (hs:I s):goL step fin xs s=fin (xs.foldl f s):=by
 induction xs generalizing s with
 |nil=>simp [goL]
 |cons x xs ih=>
  simp only [goL,h x (by simp) s hs,List.foldl_cons]
  exact ih (fun y hy=>hI y (by simp [hy])) (fun y hy=>h y (by simp [hy])) (hI x (by simp) s hs)
theorem zAp {α σ β:Type} {step:α→σ→Option (σ ⊕ Option β)} {fin:σ→Option β} (f:σ→α→σ) (n:Nat) (I:Nat→σ→Prop) {xs:List α} (h: ∀q,q<n→ ∀x∈xs,∀s,I q s→step x s=some (.inl (f s x))∧I (q+1) (f s x)) {q:Nat} {s:σ} (hq:q+xs.length≤n) (hs:I q s):goL step fin xs s=fin (xs.foldl f s)∧I (q+xs.length) (xs.foldl f s):=by
 induction xs generalizing s q with
 |nil=>exact⟨rfl,hs⟩
 |cons x xs ih=>
  simp only [List.length_cons]at hq
  obtain⟨h1,h2⟩:=h q (by omega) x (by simp) s hs
  simp only [goL,h1,List.foldl_cons,List.length_cons]
  have:=ih (fun q hq y hy=>h q hq y (by simp [hy])) (q:=q+1) (by omega) h2
  rw [show q+(xs.length+1)=q+1+xs.length by omega]
  exact this
theorem zd0 {α σ τ β:Type} {xs:List α} {body:τ→Option (τ ⊕ Option β)} (emb:Int→σ→τ) (f:σ→α→σ) (fin:σ→Option β) (I:Nat→σ→Prop)
  (hs: ∀(i:Nat) (hi:i<xs.length) (s:σ),I i s→body (emb i s)=some (.inl (emb ((i+1:Nat):Int) (f s xs[i])))∧I (i+1) (f s xs[i])) (he: ∀s,I xs.length s→body (emb xs.length s)=some (.inr (fin s))) {s:σ} (h0:I 0 s):za8 body (emb 0 s)=fin (xs.foldl f s)∧I xs.length (xs.foldl f s):=by
 have key: ∀(n q:Nat) (s:σ),q+n=xs.length→I q s→za8 body (emb q s)=fin ((xs.drop q).foldl f s)∧I xs.length ((xs.drop q).foldl f s):=by
  intro n
  induction n with
  |zero=>
   intro q s hq hI
   have:q=xs.length:=by omega
   subst this
   rw [zda,he s hI]
   simp [hI]
  |succ n ih=>
   intro q s hq hI
   have hlt:q<xs.length:=by omega
   obtain⟨h1,h2⟩:=hs q hlt s hI
   rw [zda,h1,List.drop_eq_getElem_cons hlt,List.foldl_cons]
   exact ih (q+1) _ (by omega) h2
 have:=key xs.length 0 s (by omega) h0
 simpa using this
theorem zpb {α:Type} {xs:List α} {p:α→Option Bool} (q:α→Bool) (hp: ∀x∈xs,p x=some (q x)) (hn:xs.length≤9223372036854775806):zaZ xs p=some (xs.any q):=by
 have key: ∀(l:List α) (i:Int),0≤i→(∀x∈l,p x=some (q x))→ ∃r,zqh p l i=some r∧decide (r≥0)=l.any q:=by
  intro l
  induction l with
  |nil=>intro i _ _;exact⟨-1,rfl,by simp⟩
  |cons x l ih=>
   intro i hi h
   simp only [zqh,h x (by simp),Option.bind_some]
   cases hq:q x with
   |true=>exact⟨i,by simp,by simp [hq,hi]⟩
   |false=>
    obtain⟨r,h1,h2⟩:=ih (i+1) (by omega) fun y hy=>h y (by simp [hy])
    exact⟨r,by simp [h1],by simp [hq,h2]⟩
 obtain⟨r,h1,h2⟩:=key xs 0 (by omega) hp
 simp [zaZ,zbw,zaq hn,h1,h2]
theorem zr1 {α:Type} {b:Nat} {xs:List α} (h:(xs.length:Int)*b≤140737488355328) (h2:(xs.length:Int)≤140737488355328):zpe b xs=some xs:=zaq ⟨h,h2⟩
theorem zgT {β:Type} {n:Nat} {body:Int→Option (Int ⊕ Option β)} (p:Nat→Bool) (b:β) (fin:Option β)
  (hs: ∀i:Nat,i<n→body i=some (if p i=true then .inl ((i+1:Nat):Int)else .inr (some b))) (he:body n=some (.inr fin)):za8 body 0=if(List.range n).all p=true then fin else some b:=by
 have h1:=zmz (xs:=List.range n) (body:=body) (fun i (_:Unit)=>i) (fun i _=>some (if p i=true then .inl ()else .inr (some b))) (fun _=>fin)
  (fun i hi s=>by
   rw [List.length_range]at hi
   rw [hs i hi,List.getElem_range]
   cases p i<;>simp [zsA]) (fun s=>by simpa using he) ()
 rw [zux p b fun x _ s=>rfl]at h1
 exact h1
def zhg {α:Type} (p:α→Bool) (l:List α):Int:=match l.findIdx? p with|some i=>(i:Int)|none=> -1
theorem zm0 {α:Type} (p:α→Bool):zhg p []= -1:=rfl
theorem zkc {α:Type} (p:α→Bool) (x:α) (l:List α):zhg p (x::l)=if p x=true then 0 else if zhg p l= -1 then-1 else zhg p l+1:=by
 unfold zhg
 rw [List.findIdx?_cons]
 cases p x with
 |true=>simp
 |false=>
  cases h:l.findIdx? p with
  |none=>simp
  |some i=>simp<;>omega
theorem zpJ {α:Type} (p:α→Bool) (l:List α): -1≤zhg p l:=by
 unfold zhg
 split<;>omega
theorem zBO {α:Type} (p:α→Bool) (l:List α):zhg p l<l.length:=by
 induction l with
 |nil=>simp [zm0]
 |cons x l ih=>rw [zkc];split<;>(try split)<;>simp<;>omega
theorem zmh {α:Type} (p:α→Bool) (l:List α):decide (zhg p l≥0)=l.any p:=by
 induction l with
 |nil=>simp [zm0]
 |cons x l ih=>
  have h1:=zpJ p l
  rw [zkc,List.any_cons,←ih]
  cases p x with
  |true=>simp
  |false=>
   by_cases h:zhg p l= -1
   ·simp [h]
   ·have:zhg p l≥0:=by omega
    simp [h,this];try omega
theorem zx7 {α:Type} {p:α→Bool} {l:List α} (h:zhg p l≥0): ∃x,zbF l (zhg p l)=some x∧p x=true∧x∈l:=by
 induction l with
 |nil=>simp [zm0]at h
 |cons y l ih=>
  rw [zkc]at h ⊢
  cases hy:p y with
  |true=>exact⟨y,by simp [zbF],hy,by simp⟩
  |false=>
   have h1:=zpJ p l
   by_cases hm:zhg p l= -1
   ·rw [hy,hm]at h;simp at h
   ·have h0:zhg p l≥0:=by omega
    obtain⟨x,e1,e2,e3⟩:=ih h0
    obtain⟨_,e4,e5⟩:=zaG e1
    refine⟨x, ?_,e2,by simp [e3]⟩
    simp only [Bool.false_eq_true,if_false,hm]
    unfold zbF
    rw [if_pos (by omega),show(zhg p l+1).toNat=(zhg p l).toNat+1 by omega]
    simpa using e5
theorem zrT {α:Type} {xs:List α} {body:Int→Option (Int ⊕ Option Int)} (p:α→Bool) (hs: ∀(i:Nat) (hi:i<xs.length),body i=some (if p xs[i]=true then .inr (some (i:Int))else .inl ((i+1:Nat):Int))) (he:body xs.length=some (.inr (some (-1)))):za8 body 0=some (zhg p xs):=by
 have key: ∀(n q:Nat),q+n=xs.length→za8 body q=some (if zhg p (xs.drop q)= -1 then-1 else q+zhg p (xs.drop q)):=by
  intro n
  induction n with
  |zero=>
   intro q hq
   have:q=xs.length:=by omega
   subst this
   rw [zda,he]
   simp [zm0]
  |succ n ih=>
   intro q hq
   have hlt:q<xs.length:=by omega
   rw [zda,hs q hlt,List.drop_eq_getElem_cons hlt,zkc]
   cases p xs[q]with
   |true=>simp
   |false=>
    simp only [Bool.false_eq_true,if_false]
    rw [ih (q+1) (by omega)]
    have h1:=zpJ p (xs.drop (q+1))
    congr 1
    by_cases hm:zhg p (xs.drop (q+1))= -1
    ·simp [hm]
    ·have h2: ¬(zhg p (xs.drop (q+1))+1= -1):=by omega
     simp only [hm,if_false,h2]
     omega
 have h:=key xs.length 0 (by omega)
 rw [List.drop_zero]at h
 rw [show((0:Nat):Int)=0 from rfl]at h
 rw [h]
 have h1:=zpJ p xs
 by_cases hm:zhg p xs= -1
 ·simp [hm]
 ·simp [hm]
theorem ztp {α:Type} {xs:List α} {p:α→Option Bool} (q:α→Bool) (hp: ∀x∈xs,p x=some (q x)) (hn:xs.length≤9223372036854775806):zbw xs p=some (zhg q xs):=by
 have key: ∀(l:List α) (i:Int),(∀x∈l,p x=some (q x))→zqh p l i=some (if zhg q l= -1 then-1 else i+zhg q l):=by
  intro l
  induction l with
  |nil=>intro i _;simp [zqh,zm0]
  |cons x l ih=>
   intro i h
   simp only [zqh,h x (by simp),Option.bind_some,zkc]
   cases q x with
   |true=>simp
   |false=>
    simp only [Bool.false_eq_true,if_false]
    rw [ih (i+1) fun y hy=>h y (by simp [hy])]
    have h1:=zpJ q l
    congr 1
    by_cases hm:zhg q l= -1
    ·simp [hm]
    ·have h2: ¬(zhg q l+1= -1):=by omega
     simp only [hm,if_false,h2]
     omega
 unfold zbw
 rw [zaq hn,key xs 0 hp]
 by_cases hm:zhg q xs= -1
 ·simp [hm]
 ·simp [hm]
theorem zCA {α:Type} {b:Bool} {A B:Option α} {y:Option α} (ha:b=true→A=y) (hb:b=false→B=y):(if b=true then A else B)=y:=by
 cases b with
 |true=>simpa using ha rfl
 |false=>simpa using hb rfl
theorem zCy {α:Type} {b:Bool} {A B y:Option α} (h:b=false) (hb:B=y):(if b=true then A else B)=y:=by rw [if_neg (by simp [h])];exact hb
theorem zCz {α:Type} {b:Bool} {A B y:Option α} (h:b=true) (ha:A=y):(if b=true then A else B)=y:=by rw [if_pos h];exact ha
theorem zzB {α β:Type} {o:Option α} {x:α} {f:α→Option β} (h:o=some x):o.bind f=f x:=by rw [h];rfl
end Go.Proofs.YtecngjbpbnfegaaGreatDoor
end
section
namespace Go.Proofs.YtecngjbpbnfegaaGreatDoor
open Go.RowKit
set_option maxRecDepth 100000
theorem zmC {α β:Type} (f:α→β) (l:List α) (o:List β):l.foldl (fun o x=>o++ [f x]) o=o++l.map f:=by
 induction l generalizing o with
 |nil=>simp
 |cons x l ih=>rw [List.foldl_cons,ih];simp
theorem znT {α:Type} {xs:List α} {d:α} {body:Int × List α→Option ((Int × List α) ⊕ Option (List α))}
  (hs: ∀(i:Nat) (hi:i<xs.length) (v:List α),v.length=xs.length→body ((i:Int),v)=some (.inl (((i+1:Nat):Int),v.set i xs[i])))
  (he: ∀v,body ((xs.length:Int),v)=some (.inr (some v))):za8 body (0,List.replicate xs.length d)=some xs:=by
 have h1:=zd0 (xs:=xs) (body:=body) (fun i (o:List α)=>(i,o++List.replicate (xs.length-i.toNat) d)) (fun(o:List α) x=>o++ [x]) (fun o=>some o) (fun i o=>o.length=i)
  (fun i hi o ho=>by
   refine⟨?_,by simp [ho]⟩
   rw [show((i:Int)).toNat=i from rfl,hs i hi _ (by simp [ho];omega)]
   congr 3
   obtain⟨k,hk⟩: ∃k,xs.length-i=k+1:=⟨xs.length-i-1,by omega⟩
   have h2:xs.length-(((i+1:Nat):Int)).toNat=k:=by rw [show(((i+1:Nat):Int)).toNat=i+1 from rfl];omega
   rw [h2,hk,List.replicate_succ]
   subst ho
   simp [List.set_append])
  (fun o ho=>by
   show body ((xs.length:Int),o++List.replicate (xs.length-((xs.length:Int)).toNat) d)=_
   rw [show((xs.length:Int)).toNat=xs.length from rfl,Nat.sub_self,List.replicate_zero,List.append_nil]
   exact he o) (s:=([]:List α)) rfl
 have h3:=h1.1
 rw [show(fun(o:List α) x=>o++ [x])=(fun o x=>o++ [id x])from rfl,zmC,List.map_id,List.nil_append]at h3
 exact h3
theorem znX {n:Nat} {body:Int→Option (Int ⊕ Option Bool)} (hs: ∀i:Nat,i<n→body i=some (.inl ((i+1:Nat):Int))) (he:body n=some (.inr (some true))):za8 body 0=some true:=by
 have h:=zgT (n:=n) (body:=body) (fun _=>true) false (some true) (fun i hi=>by rw [hs i hi,if_pos rfl]) he
 rw [h,if_pos (by simp)]
theorem zzQ {α:Type} {xs:List α} {body:Int × Int→Option ((Int × Int) ⊕ Option Int)} (P:α→Prop) {a:Int} (h0:0≤a) (h1:a≤1048576)
  (hs: ∀(i:Nat) (hi:i<xs.length) (b:Int),0≤b→b≤1048576→ ∃r,r≤b∧(0≤r→P xs[i])∧body (b,(i:Int))=some (if r<0 then .inr (some (-1))else .inl (r,((i+1:Nat):Int))))
  (he: ∀b,body (b,(xs.length:Int))=some (.inr (some b))): ∃v,za8 body (a,0)=some v∧v≤a∧(0≤v→ ∀x∈xs,P x):=by
 have key: ∀(n q:Nat) (b:Int),q+n=xs.length→0≤b→b≤1048576→ ∃v,za8 body (b,(q:Int))=some v∧v≤b∧(0≤v→ ∀x∈xs.drop q,P x):=by
  intro n
  induction n with
  |zero=>
   intro q b hq _ _
   have:q=xs.length:=by omega
   subst this
   exact⟨b,by rw [zda,he b],by omega,by simp⟩
  |succ n ih=>
   intro q b hq hb0 hb1
   have hlt:q<xs.length:=by omega
   obtain⟨r,e1,e2,e3⟩:=hs q hlt b hb0 hb1
   by_cases hr:r<0
   ·exact⟨-1,by rw [zda,e3,if_pos hr],by omega,by omega⟩
   ·obtain⟨v,f1,f2,f3⟩:=ih (q+1) r (by omega) (by omega) (by omega)
    refine⟨v,by rw [zda,e3,if_neg hr];exact f1,by omega,fun hv x hx=> ?_⟩
    rw [List.drop_eq_getElem_cons hlt]at hx
    rcases List.mem_cons.1 hx with hx|hx
    ·subst hx;exact e2 (by omega)
    ·exact f3 hv x hx
 have:=key xs.length 0 a (by omega) h0 h1
 simpa using this
theorem zcR {a:Int} {n:Nat} (h0:0≤a) (h1:a≤1048576) (hn:n≤9223372036854775807):IntKind.i64.wrap (a-(n:Int))=a-n:=zdc (by omega) (by omega)
end Go.Proofs.YtecngjbpbnfegaaGreatDoor
end
section
namespace Go.Proofs.YtecngjbpbnfegaaGreatDoor
open Go.RowKit
theorem zhp.rd {P:Program} {w:World} {ts:List TypeId} {ms:List PM} {vs:List Value} {xs:List AV} {rf hs:List Nat} (h:zhp P w ts ms vs xs rf hs):(∀m∈ms,m= .ro)→Rd w vs xs rf∧hs= []:=by
 induction h with
 |nil=>intro _;exact⟨.nil,rfl⟩
 | @cons t ts ms v vs x xs f h rf hs harg _ ih=>
  intro hms
  obtain⟨h1,rfl⟩:=ih fun m hm=>hms m (List.mem_of_mem_tail hm)
  have hro:ms.headD .ro= .ro:=by
   cases ms with
   |nil=>rfl
   |cons m ms=>exact hms m (by simp)
  rw [hro]at harg
  obtain⟨h2,h3⟩:Rd w [v] [x] f∧h= []:=harg
  subst h3
  exact⟨by simpa using h2.app h1,rfl⟩
 |free h1 _ ih=>
  intro hms
  obtain⟨h2,rfl⟩:=ih fun m hm=>hms m (List.mem_of_mem_tail hm)
  exact⟨by simpa using h1.app h2,rfl⟩
theorem zd5.allRo {P:Program} {w:World}: ∀{ts:List TypeId} {ms:List PM} {vs:List Value},vs.length=ts.length→(∀m∈ms,m= .ro)→zd5 P w ts ms vs [] [] []
 | [],_,vs,_,_=> .nil
 |t::ts,ms, [],h,_=>by simp at h
 |t::ts,ms,v::vs,h,hms=>by
  refine .ro ?_ (zd5.allRo (by simpa using h) fun m hm=>hms m (List.mem_of_mem_tail hm))
  cases ms with
  |nil=>rfl
  |cons m ms=>exact hms m (by simp)
def zCg (P:Program) (sg:SgT) (f:Nat) (np:Nat) (r:AV):Bool:=
 match P.funcs[f]?,sg f with
 |some fn,some s=>fn.body.isSome&& !(fn.name== "runtime.NumGoroutine")&&znw P fn s r&&s.modes.all (fun m=>match m with| .ro=>true|_=>false)&&fn.params.size==np&&fn.nfree==0&&(match fn.resultTypes.toList with| [t]=> !znu P t s.res|_=>false)
 |_,_=>false
theorem zsl {f:Nat} {xs:List AV} {r:AV} (hk:zCg Tryz.prog sgs f xs.length r=true) (hc: ∀(w:World) (vs:List Value) (rf:List Nat),Rd w vs xs rf→Calls Tryz.prog f vs.toArray w fun e w'=>Mod [] w w'∧ ∃v f1,e= .returned v∧Rd w' [v] [r] f1∧ ∀b∈f1,b∈rf∨w.heap.size≤b):Rts Tryz.prog sgs f xs r:=by
 unfold zCg at hk
 split at hk
 ·rename_i fn s hf hs
  simp only [Bool.and_eq_true,Bool.not_eq_true',beq_iff_eq,List.all_eq_true]at hk
  obtain⟨⟨⟨⟨⟨⟨h1,h2⟩,h3⟩,h4⟩,h5⟩,h6⟩,h7⟩:=hk
  have hro: ∀m∈s.modes,m= .ro:=fun m hm=>by
   have:=h4 m hm
   split at this
   ·rfl
   ·cases this
  unfold Rts
  rw [if_pos (zvg f s hs)]
  refine⟨s,hs,fn,hf,h1,h2,h3,by omega,fun w vs rf hs' hargs hd hnd=> ?_⟩
  obtain⟨hr,rfl⟩:=hargs.rd hro
  refine(hc w vs rf hr).mono ?_
  rintro e w' ⟨hm,v,f1,rfl,hv,hb⟩
  refine⟨v,rfl,⟨⟨r, [],f1, [], [], [],rfl, ?_,zd5.allRo ?_ hro,by simp,by simp,fun b hb'=>⟨by simp, ?_⟩⟩,hm⟩⟩
  ·unfold zxL
   split at h7
   ·rename_i t ht
    rw [ht]
    show ztM Tryz.prog w' t s.res v r f1 []
    unfold ztM
    rw [if_neg (by rw [Bool.not_eq_true];simpa using h7)]
    exact⟨hv,rfl⟩
   ·cases h7
  ·rw [hr.len];simp;omega
  ·rcases hb b (by simpa using hb')with h|h
   ·exact .inl h
   ·exact .inr (.inr h)
 ·cases hk
theorem zn0 {w:World} {s:List UInt8} {vs:List Value} {xs:List AV} {f:List Nat} (h:Rd w vs (.str s::xs) f): ∃(b:ByteArray) (us:List Value),vs= .string b::us∧b.data.toList=s∧b.size≤9223372036854775807∧Rd w us xs f:=by
 cases h with
 |str a h=>exact⟨_,_,rfl,rfl,a,h⟩
theorem zAB {w:World} {k:IntKind} {n:Int} {vs:List Value} {xs:List AV} {f:List Nat} (h:Rd w vs (.int k n::xs) f): ∃us:List Value,vs= .int k n::us∧InK k n∧Rd w us xs f:=by
 cases h with
 |int a h=>exact⟨_,rfl,a,h⟩
theorem zm6 {w:World} {vs:List Value} {f:List Nat} (h:Rd w vs [] f):vs= []∧f= []:=by
 cases h;exact⟨rfl,rfl⟩
end Go.Proofs.YtecngjbpbnfegaaGreatDoor
end
section
namespace Go.Proofs.YtecngjbpbnfegaaGreatDoor
open Go.RowKit
def zid {α:Type} (p:α→Option Bool):List α→Option (List α)
 | []=>some []
 |x::xs=>(p x).bind fun b=>(zid p xs).bind fun r=>some (if b=true then r else x::r)
def zh0 {α:Type} (xs:List α) (p:α→Option Bool):Option (List α):=req (xs.length≤9223372036854775806) (zid p xs)
theorem zrm {α:Type} {p:α→Option Bool} (q:α→Bool): ∀{l:List α},(∀x∈l,p x=some (q x))→zid p l=some (l.filter fun x=> !q x)
 | [],_=>rfl
 |x::l,h=>by
  have e:=zrm (p:=p) q (l:=l) fun y hy=>h y (List.mem_cons_of_mem _ hy)
  simp only [zid,h x (by simp),e,Option.bind_some,List.filter_cons]
  cases q x<;>rfl
theorem ztz {α:Type} {p:α→Option Bool} {l r:List α} {q:Nat} (hq:q<l.length) (h:zid p (l.drop q)=some r): ∃b r',p l[q]=some b∧zid p (l.drop (q+1))=some r'∧r=if b=true then r' else l[q]::r':=by
 rw [List.drop_eq_getElem_cons hq]at h
 obtain⟨b,hb,h⟩:=zaD h
 obtain⟨r',hr,h⟩:=zaD h
 exact⟨b,r',hb,hr,by simpa using h.symm⟩
theorem zoX {α:Type} {p:α→Option Bool}: ∀{l r:List α} (i:Int),zid p l=some r→(zqh p l i=some (-1)∧r=l)∨ ∃k r',k<l.length∧zqh p l i=some (i+(k:Nat))∧zid p (l.drop (k+1))=some r'∧r=l.take k++r'
 | [],r,i,h=>by cases h;exact .inl ⟨rfl,rfl⟩
 |x::l,r,i,h=>by
  obtain⟨b,hb,h⟩:=zaD h
  obtain⟨r1,hr,h⟩:=zaD h
  cases b with
  |true=>
   have:r1=r:=by simpa using h
   subst this
   exact .inr ⟨0,r1,by simp,by simp [zqh,hb],by simpa using hr,by simp⟩
  |false=>
   have:r=x::r1:=by simpa using h.symm
   subst this
   rcases zoX (i+1) hr with⟨h1,rfl⟩|⟨k,r',h1,h2,h3,rfl⟩
   ·exact .inl ⟨by simp [zqh,hb,h1],rfl⟩
   ·exact .inr ⟨k+1,r',by simp;omega,by simp [zqh,hb,h2];omega,by simpa using h3,by simp⟩
def zA6 (ck:List Cn) (k:Tr):Tr:=ck.foldr (fun c k=> .chk [] c k) k
section
variable {Rt:Nat→List AV→AV→Prop} {R:AV→Prop} {L:LK} {js:List JK} {ρ:List AV}
theorem zuT: ∀{ck:List Cn} {k:Tr},(∀c∈ck,c.den ρ)→k.den Rt R L js ρ→(zA6 ck k).den Rt R L js ρ
 | [],_,_,hk=>hk
 |c::ck,k,h,hk=>⟨fun _=>h c (by simp),zuT (fun q hq=>h q (by simp [hq])) hk⟩
theorem zyi {t k:Tr} {K:List AV→Prop} (hK: ∀vs,K vs→k.den Rt R L js (ρ++vs)) (ht: ∀j:JK,(∀vs,K vs→j vs)→t.den Rt R L (j::js) ρ):(Tr.join t k).den Rt R L js ρ:=ht _ hK
end
def zAP (fi cn:Nat) (g:Bool) (X:E) (ck:List Cn) (z:E):Tr:=
 .call [] (.inl fi) (.cons (.var 0) (.cons (.var 1) .nil))<|
 .chk [] (.dfd (.bin .eql (.var 2) (.int .i64 (-1))))<|
 .ite (.bin .eql (.var 2) (.int .i64 (-1))) (
  .ret (.var 0)) (
  .chk [] (.dfd (.bin .add (.var 2) (.int .i64 (1))))<|
  .loop (.cons (.var 2) (.cons (.bin .add (.var 2) (.int .i64 (1))) (.cons (.var 0) .nil))) (
  .chk [] (.dfd (.len (.var 5)))<|
  .chk [] (.dfd (.bin .lss (.var 4) (.len (.var 5))))<|
  .ite (.bin .lss (.var 4) (.len (.var 5))) (
   .join (
   .chk [] (.inb (.var 4) (.var 5) cn)<|
   zA6 ck<|
   .call [] (.inr (.var 1)) (.cons X .nil)<|
   .chk [] (.dfd (.not (.var 6)))<|
   .ite (.not (.var 6)) (
    .chk [] (.inb (.var 3) (.var 5) cn)<|
    .chk [] (.flat X cn g)<|
    .chk [] (.flat (.fld (.idx (.var 5) (.var 3)) 0 cn g) cn g)<|
    .chk [] (.dfd (.bin .add (.var 3) (.int .i64 (1))))<|
    .jmp 0 (.cons (.bin .add (.var 3) (.int .i64 (1))) (.cons (.set (.var 5) (.var 3) (.put (.idx (.var 5) (.var 3)) 0 X g)) .nil))) (
    .jmp 0 (.cons (.var 3) (.cons (.var 5) .nil)))) (
   .chk [] (.dfd (.bin .add (.var 4) (.int .i64 (1))))<|
   .jmp 0 (.cons (.var 6) (.cons (.bin .add (.var 4) (.int .i64 (1))) (.cons (.var 7) .nil))))) (
   .jmp 1 (.cons (.var 3) (.cons (.var 5) .nil)))) (
  .chk [] (.win (.var 4) (.var 3) (.len (.var 4)))<|
  .chk [] (.win (.var 4) (.var 3) (.len (.var 4)))<|
  .chk [] (.dfd (.bin .sub (.len (.var 4)) (.var 3)))<|
  .chk [] (.win (.app (.win (.var 4) (.int .i64 (0)) (.var 3)) (.rep (.bin .sub (.len (.var 4)) (.var 3)) z)) (.int .i64 (0)) (.var 3))<|
  .ret (.win (.app (.win (.var 4) (.int .i64 (0)) (.var 3)) (.rep (.bin .sub (.len (.var 4)) (.var 3)) z)) (.int .i64 (0)) (.var 3))))
theorem zz2 {α:Type} {av:α→AV} {l r:List α} {p:α→Option Bool} {fi cn g9:Nat} {g:Bool} {X z:E} {ck:List Cn} {caps:List AV}
  (hs: ∀x,(av x).cells.length=cn∧(∀z∈(av x).cells,z.scalar=true)∧(g=true→ ∃cs,av x= .agg cs)∧(g=false→(av x).scalar=true)) (hcn:0<cn)
  (hX: ∀(a b c d:AV) (j:Nat) (ys:List AV) (x:α) (tl:List AV),ys[j]?=some (av x)→X.den ([a,b,c,d, .int .i64 j, .sl ys]++tl)=av x)
  (hck: ∀(a b c d:AV) (j:Nat) (ys:List AV) (x:α),ys[j]?=some (av x)→ ∀q∈ck,q.den [a,b,c,d, .int .i64 j, .sl ys])
  (h:zh0 l p=some r) (hi: ∀i,zbw l p=some i→Rts Tryz.prog sgs fi [.sl (l.map av), .fn g9 caps] (.int .i64 i))
  (hf: ∀x b,p x=some b→Rts Tryz.prog sgs (1000000+g9) (av x::caps) (.bool b)):Den (zAP fi cn g X ck z) (.sl (r.map av)) [.sl (l.map av), .fn g9 caps]:=by
 obtain⟨hn,h⟩:=zfa h
 unfold Den zAP
 have hput: ∀x y:α,(av y).putF 0 (av x) g=av x:=by
  intro x y
  cases g with
  |false=>rfl
  |true=>
   obtain⟨cs,hcs⟩:=(hs x).2.2.1 rfl
   have e1:=(hs x).1
   have e2:=(hs y).1
   have e3:(av x).cells=cs:=by rw [hcs];rfl
   have e4:(av y).cells.drop (0+cs.length)= []:=List.drop_eq_nil_of_le (by rw [e2,←e1,e3];omega)
   show AV.agg ((av y).cells.take 0++(av x).cells++(av y).cells.drop (0+(av x).cells.length))=av x
   rw [e3,e4,List.append_nil,List.take_zero,List.nil_append,hcs]
 have hfld: ∀x:α,(av x).fld 0 cn g=av x:=by
  intro x
  cases g with
  |false=>
   have:=zs1 ((hs x).2.2.2 rfl)
   simp [AV.fld,this]
  |true=>
   obtain⟨cs,hcs⟩:=(hs x).2.2.1 rfl
   have e1:=(hs x).1
   rw [hcs]at e1 ⊢
   simp only [AV.fld,if_true,AV.cells]at e1 ⊢
   rw [List.drop_zero,List.take_of_length_le (by omega)]
 have hflat: ∀(e:E) (ρ:List AV) (x:α),e.den ρ=av x→Cn.den ρ (.flat e cn g):=fun e ρ x he=>by
  show(e.den ρ).cells.length=cn∧(∀y∈(e.den ρ).cells,y.scalar=true)∧(g=true→ ∃cs,e.den ρ= .agg cs)∧(g=false→(e.den ρ).scalar=true)
  rw [he];exact hs x
 rcases zoX 0 h with⟨h1,rfl⟩|⟨k0,r0,hk0,h1,h2,rfl⟩
 ·refine zoN (r:= .int .i64 (-1)) (fun _=>hi _ (by unfold zbw;rw [show req (r.length≤9223372036854775806) (zqh p r 0)=zqh p r 0 from if_pos hn];exact h1)) ?_
  exact za0 (by simp [zbb]) (zdg (t:=true) (by simp [zbb]) (fun _=>zhd (by simp)) (by simp))
 ·refine zoN (r:= .int .i64 k0) (fun _=>hi _ (by unfold zbw;rw [show req (l.length≤9223372036854775806) (zqh p l 0)=zqh p l 0 from if_pos hn,h1];simp)) ?_
  have hw:IntKind.i64.wrap ((k0:Int)+1)=k0+1:=zdc (by omega) (by omega)
  refine za0 (by simp [zbb]) (zdg (t:=false) (by simp [zbb];try omega) (by simp) fun _=>za0 (by simp [zbb]) ?_)
  refine zsb ziP (fun m vs=> ∃(j:Nat) (K zs r':List α),j+m=l.length∧vs= [.int .i64 K.length, .int .i64 j, .sl (zs.map av)]∧K.length<j∧zs.length=l.length∧zs.take K.length=K∧zs.drop j=l.drop j∧zid p (l.drop j)=some r'∧l.take k0++r0=K++r') (m:=l.length-(k0+1))
   ⟨k0+1,l.take k0,l,r0,by omega, ?_,by simp;omega,rfl,by simp [Nat.min_eq_left (Nat.le_of_lt hk0)],rfl,h2,rfl⟩ ?_
  ·simp [zbb,hw,Nat.min_eq_left (Nat.le_of_lt hk0)]
  rintro m vs ⟨j,K,zs,r',hj,rfl,hKj,hyl,hyt,hyd,hr',hres⟩
  refine za0 (by simp) (za0 (by simp [zbb]) ?_)
  by_cases hlt:j<l.length
  ·refine zdg (t:=true) (by simp [zbb,hyl,hlt]) (fun _=> ?_) (by simp)
   obtain⟨b,r2,hb,hr2,hrr⟩:=ztz hlt hr'
   have hzj:zs[j]?=some l[j]:=by
    have:=congrArg (fun L=>L[0]?) hyd
    simpa [hlt]using this
   have hyj:(zs.map av)[j]?=some (av l[j]):=by simp [hzj]
   have hKlt:K.length<zs.length:=by omega
   have hwj:IntKind.i64.wrap ((j:Int)+1)=j+1:=zdc (by omega) (by omega)
   have hwK:IntKind.i64.wrap ((K.length:Int)+1)=K.length+1:=zdc (by omega) (by omega)
   refine zyi (K:=fun us=> ∃(K' zs':List α),us= [.int .i64 K'.length, .sl (zs'.map av)]∧K'.length<j+1∧zs'.length=l.length∧zs'.take K'.length=K'∧zs'.drop (j+1)=l.drop (j+1)∧l.take k0++r0=K'++r2) ?_ ?_
   ·rintro us ⟨K',zs',rfl,a1,a2,a3,a4,a5⟩
    refine za0 (by simp [zbb]) (zkl ⟨m-1,by omega,j+1,K',zs',r2,by omega, ?_,a1,a2,a3,a4,hr2,a5⟩)
    simp [zbb,hwj]
   ·intro J hJ
    refine za0 (fun _=>⟨.i64,j,zs.length,by simp,by omega,by simp,by omega, ?_⟩) (zuT (hck _ _ _ _ j (zs.map av) _ hyj) (zo1 (r:= .bool b) (fun _=>⟨g9,caps,by simp, ?_,by simp⟩) ?_))
    ·simp [AV.nth,hzj,(hs l[j]).1]
    ·have e1:=hX (.sl (l.map av)) (.fn g9 caps) (.int .i64 k0) (.int .i64 K.length) j (zs.map av) l[j] [] hyj
     rw [List.append_nil]at e1
     show Rts Tryz.prog sgs (1000000+g9) ([X.den [.sl (l.map av), .fn g9 caps, .int .i64 k0, .int .i64 K.length, .int .i64 j, .sl (zs.map av)]]++caps) (.bool b)
     rw [e1]
     exact hf _ _ hb
    ·refine za0 (by simp) ?_
     have e2:=hX (.sl (l.map av)) (.fn g9 caps) (.int .i64 k0) (.int .i64 K.length) j (zs.map av) l[j] [.bool b] hyj
     cases b with
     |true=>
      refine zdg (t:=false) (by simp) (by simp) fun _=>zkl (hJ _ ⟨K,zs,by simp,by omega,hyl,hyt, ?_,by rw [hres,hrr];simp⟩)
      have:=congrArg (List.drop 1) hyd
      simpa [List.drop_drop]using this
     |false=>
      refine zdg (t:=true) (by simp) (fun _=> ?_) (by simp)
      obtain⟨zk,hzk⟩: ∃zk,zs[K.length]?=some zk:=⟨zs[K.length],by simp [hKlt]⟩
      have e3:(E.idx (.var 5) (.var 3)).den ([AV.sl (l.map av), .fn g9 caps, .int .i64 k0, .int .i64 K.length, .int .i64 j, .sl (zs.map av)]++ [.bool false])=av zk:=by
       simp [AV.nth,hzk]
      refine za0 (fun _=>⟨.i64,K.length,zs.length,by simp,by omega,by simp,by omega, ?_⟩) (za0 (fun _=>hflat _ _ _ e2) (za0 (fun _=>hflat _ _ zk ?_) (za0 (by simp [zbb]) (zkl (hJ _ ⟨K++ [l[j]],zs.set K.length l[j], ?_,by simp;omega,by simpa using hyl, ?_, ?_,by rw [hres,hrr];simp⟩)))))
      ·simp [AV.nth,hzk,(hs zk).1]
      ·exact(congrArg (fun y=>AV.fld y 0 cn g) e3).trans (hfld zk)
      ·have e4:(E.set (.var 5) (.var 3) (.put (.idx (.var 5) (.var 3)) 0 X g)).den ([AV.sl (l.map av), .fn g9 caps, .int .i64 k0, .int .i64 K.length, .int .i64 j, .sl (zs.map av)]++ [.bool false])= .sl ((zs.set K.length l[j]).map av):=by
        show AV.setNth _ _ (AV.putF ((E.idx (.var 5) (.var 3)).den _) 0 (X.den _) g)=_
        rw [e3,e2,hput]
        simp [AV.setNth,List.map_set]
       show EL.den _ (.cons (.bin .add (.var 3) (.int .i64 1)) (.cons (.set (.var 5) (.var 3) (.put (.idx (.var 5) (.var 3)) 0 X g)) .nil))=_
       simp only [EL.den]
       have e5:(E.bin .add (.var 3) (.int .i64 1)).den ([AV.sl (l.map av), .fn g9 caps, .int .i64 k0, .int .i64 K.length, .int .i64 j, .sl (zs.map av)]++ [.bool false])= .int .i64 ((K++ [l[j]]).length:Int):=by
        simp [zbb,hwK]
       congr 1
       congr 1
      ·rw [List.length_append,List.length_singleton,List.take_add_one,List.take_set_of_le (Nat.le_refl _),hyt]
       simp [hKlt]
      ·rw [List.drop_set_of_lt (by omega)]
       have:=congrArg (List.drop 1) hyd
       simpa [List.drop_drop]using this
  ·have hje:j=l.length:=by omega
   subst hje
   refine zdg (t:=false) (by simp [zbb,hyl]) (by simp) fun _=>zoJ ?_
   have hr0:r'= []:=by
    rw [List.drop_eq_nil_of_le (Nat.le_refl _)]at hr'
    exact(by simpa [zid]using hr'.symm)
   subst hr0
   rw [hres,List.append_nil]
   have hwn:IntKind.i64.wrap ((zs.length:Int)-K.length)=zs.length-K.length:=zdc (by omega) (by omega)
   have d3:(E.var 3).den ([AV.sl (l.map av),AV.fn g9 caps]++ [AV.int .i64 (k0:Int)]++ [AV.int .i64 (K.length:Int),AV.sl (zs.map av)])= .int .i64 K.length:=by simp
   have d4:(E.var 4).den ([AV.sl (l.map av),AV.fn g9 caps]++ [AV.int .i64 (k0:Int)]++ [AV.int .i64 (K.length:Int),AV.sl (zs.map av)])= .sl (zs.map av):=by simp
   have dm:(E.bin .sub (.len (.var 4)) (.var 3)).den ([AV.sl (l.map av),AV.fn g9 caps]++ [AV.int .i64 (k0:Int)]++ [AV.int .i64 (K.length:Int),AV.sl (zs.map av)])= .int .i64 ((zs.length:Int)-K.length):=by simp [zbb,hwn]
   have hwin:Cn.den ([AV.sl (l.map av),AV.fn g9 caps]++ [AV.int .i64 (k0:Int)]++ [AV.int .i64 (K.length:Int),AV.sl (zs.map av)]) (.win (.var 4) (.var 3) (.len (.var 4))):=⟨.i64,K.length, .i64,zs.length,zs.length,d3,by simp,by rw [d4];simp,by omega,by omega,by omega⟩
   have dapp:(E.app (.win (.var 4) (.int .i64 (0)) (.var 3)) (.rep (.bin .sub (.len (.var 4)) (.var 3)) z)).den ([AV.sl (l.map av),AV.fn g9 caps]++ [AV.int .i64 (k0:Int)]++ [AV.int .i64 (K.length:Int),AV.sl (zs.map av)])= .sl ((zs.map av).take K.length++List.replicate (zs.length-K.length) (z.den ([AV.sl (l.map av),AV.fn g9 caps]++ [AV.int .i64 (k0:Int)]++ [AV.int .i64 (K.length:Int),AV.sl (zs.map av)]))):=by
    show AV.app (AV.win ((E.var 4).den _) (.int .i64 0) ((E.var 3).den _)) (AV.rep ((E.bin .sub (.len (.var 4)) (.var 3)).den _) _)=_
    rw [d3,d4,dm]
    simp only [AV.win,AV.rep,AV.app,Int.toNat_natCast,Int.toNat_zero,List.drop_zero]
    congr 3;omega
   refine za0 (fun _=>hwin) (za0 (fun _=>hwin) (za0 (fun _=>fun hu=>by have:=dm.symm.trans hu;simp at this) (za0 (fun _=>⟨.i64,0, .i64,K.length,zs.length,rfl,d3, ?_,by omega,by omega,by omega⟩) (zhd ?_))))
   ·refine(congrArg AV.len dapp).trans ?_
    simp only [AV.len,List.length_append,List.length_take,List.length_map,List.length_replicate]
    congr 1;omega
   ·refine(congrArg (fun y=>AV.win y (.int .i64 0) (.int .i64 K.length)) dapp).trans ?_
    simp only [AV.win,Int.toNat_natCast,Int.toNat_zero,List.drop_zero]
    rw [List.take_append_of_le_length (by simp;omega),List.take_take,Nat.min_self,←List.map_take,hyt]
end Go.Proofs.YtecngjbpbnfegaaGreatDoor
end
section
namespace Go.Proofs
open Go.Shelf
def Tryz.lays169_ren:Go.Shelf.Ren:=⟨fun|169=>162|n=>n,fun|70=>164|9=>9|0=>0|72=>167|37=>165|127=>176|3=>3|5=>5|n=>n,fun|n=>n⟩
theorem Tryz.lays169:Go.Proofs.Lays.n169 Tryz.prog Tryz.lays169_ren:={
 mixed:=by kernel_rfl
 f169:=Tryz.func162.trans (congrArg some (by kernel_rfl))
 t0:=Tryz.underlying0
 a0:=Tryz.isAgg0
 z0:=Tryz.sizeOf0
 v0:=Tryz.zeroValue0
 t3:=Tryz.underlying3
 a3:=Tryz.isAgg3
 z3:=Tryz.sizeOf3
 v3:=Tryz.zeroValue3
 t9:=Tryz.underlying9
 a9:=Tryz.isAgg9
 z9:=Tryz.sizeOf9
 v9:=Tryz.zeroValue9
 t37:=Tryz.underlying165
 a37:=Tryz.isAgg165
 z37:=Tryz.sizeOf165
 v37:=Tryz.zeroValue165
 t70:=Tryz.underlying164
 a70:=Tryz.isAgg164
 z70:=Tryz.sizeOf164
 v70:=Tryz.zeroValue164
 t72:=Tryz.underlying167
 a72:=Tryz.isAgg167
 z72:=Tryz.sizeOf167
 v72:=Tryz.zeroValue167
 t127:=Tryz.underlying176
 a127:=Tryz.isAgg176
 z127:=Tryz.sizeOf176
 v127:=Tryz.zeroValue176}
theorem Tryz.Builder_Extra_169:Builder.Extra Tryz.prog Tryz.lays169_ren:={
 sizeBuilder:=by kernel_rfl
 liesBuilder:=by kernel_rfl
 t5:=Tryz.underlying5
 a5:=Tryz.isAgg5
 z5:=Tryz.sizeOf5
 v5:=Tryz.zeroValue5
 infoByte:=by kernel_rfl
 cellsByte:=by kernel_rfl
 sizeByte:=by kernel_rfl
 neB5:=by decide}
open Go.RowKit in
theorem Tryz.Builder_String (B b:Nat) (l:List UInt8) (w:World) (h:Lib.IsBuilder 167 5 B b (Lib.byteCells l) w) (h0:l≠ []):
  Calls Tryz.prog 162 #[.pointer (some ⟨b,0,none⟩)] w fun e w'=>e= .returned (.string ⟨l.toArray⟩)∧Below B w w':=Any.Builder_String Tryz.lays169 Tryz.Builder_Extra_169 B b l w h h0
open Go.RowKit in
theorem Tryz.Builder_String_empty (B b:Nat) (w:World) (h:Lib.IsBuilder 167 5 B b [] w) (hBw:B≤w.heap.size):
  Calls Tryz.prog 162 #[.pointer (some ⟨b,0,none⟩)] w fun e w'=>e= .returned (.string ⟨#[]⟩)∧Below B w w':=Any.Builder_String_empty Tryz.lays169 Tryz.Builder_Extra_169 B b w h hBw
open Go.RowKit in
theorem Tryz.Builder_String_any (B b:Nat) (l:List UInt8) (w:World) (h:Lib.IsBuilder 167 5 B b (Lib.byteCells l) w) (hBw:B≤w.heap.size):
  Calls Tryz.prog 162 #[.pointer (some ⟨b,0,none⟩)] w fun e w'=>e= .returned (.string ⟨l.toArray⟩)∧Below B w w':=Any.Builder_String_any Tryz.lays169 Tryz.Builder_Extra_169 B b l w h hBw
def Tryz.lays241_ren:Go.Shelf.Ren:=⟨fun|241=>167|277=>170|n=>n,fun|70=>164|3=>3|0=>0|72=>167|37=>165|5=>5|n=>n,fun|n=>n⟩
theorem Tryz.lays241:Go.Proofs.Lays.n241 Tryz.prog Tryz.lays241_ren:={
 mixed:=by kernel_rfl
 f241:=Tryz.func167.trans (congrArg some (by kernel_rfl))
 f277:=Tryz.func170.trans (congrArg some (by kernel_rfl))
 t0:=Tryz.underlying0
 a0:=Tryz.isAgg0
 z0:=Tryz.sizeOf0
 v0:=Tryz.zeroValue0
 t3:=Tryz.underlying3
 a3:=Tryz.isAgg3
 z3:=Tryz.sizeOf3
 v3:=Tryz.zeroValue3
 t37:=Tryz.underlying165
 a37:=Tryz.isAgg165
 z37:=Tryz.sizeOf165
 v37:=Tryz.zeroValue165
 t70:=Tryz.underlying164
 a70:=Tryz.isAgg164
 z70:=Tryz.sizeOf164
 v70:=Tryz.zeroValue164
 t72:=Tryz.underlying167
 a72:=Tryz.isAgg167
 z72:=Tryz.sizeOf167
 v72:=Tryz.zeroValue167}
theorem Tryz.Builder_Extra_241:Builder.Extra Tryz.prog Tryz.lays241_ren:={
 sizeBuilder:=by kernel_rfl
 liesBuilder:=by kernel_rfl
 t5:=Tryz.underlying5
 a5:=Tryz.isAgg5
 z5:=Tryz.sizeOf5
 v5:=Tryz.zeroValue5
 infoByte:=by kernel_rfl
 cellsByte:=by kernel_rfl
 sizeByte:=by kernel_rfl
 neB5:=by decide}
open Go.RowKit in
theorem Tryz.Builder_grow_fresh (B b n:Nat) (w:World) (hB:B≤b) (hbk:w.heap[b]?=some (.cells #[.pointer (some ⟨b,0,none⟩), .slice none 0 0] 167 (0,0))) (hBw:B≤w.heap.size) (hn:n≤281474976710656):
  Calls Tryz.prog 167 #[.pointer (some ⟨b,0,none⟩), .int .i64 n] w fun e w'=>e= .returned (.tuple #[])∧(Lib.BuilderAt 167 5 B b (.pointer (some ⟨b,0,none⟩)) [] w'∧Below B w w'):=Any.Builder_grow_fresh Tryz.lays241 Tryz.Builder_Extra_241 B b n w hB hbk hBw hn
def Tryz.lays165_ren:Go.Shelf.Ren:=⟨fun|165=>160|240=>166|241=>167|276=>169|277=>170|n=>n,fun|70=>164|3=>3|0=>0|4=>4|9=>9|20=>20|72=>167|37=>165|164=>177|5=>5|n=>n,fun|n=>n⟩
theorem Tryz.lays165:Go.Proofs.Lays.n165 Tryz.prog Tryz.lays165_ren:={
 mixed:=by kernel_rfl
 f165:=Tryz.func160.trans (congrArg some (by kernel_rfl))
 f240:=Tryz.func166.trans (congrArg some (by kernel_rfl))
 f241:=Tryz.func167.trans (congrArg some (by kernel_rfl))
 f276:=Tryz.func169.trans (congrArg some (by kernel_rfl))
 f277:=Tryz.func170.trans (congrArg some (by kernel_rfl))
 t0:=Tryz.underlying0
 a0:=Tryz.isAgg0
 z0:=Tryz.sizeOf0
 v0:=Tryz.zeroValue0
 t3:=Tryz.underlying3
 a3:=Tryz.isAgg3
 z3:=Tryz.sizeOf3
 v3:=Tryz.zeroValue3
 t4:=Tryz.underlying4
 a4:=Tryz.isAgg4
 z4:=Tryz.sizeOf4
 v4:=Tryz.zeroValue4
 t9:=Tryz.underlying9
 a9:=Tryz.isAgg9
 z9:=Tryz.sizeOf9
 v9:=Tryz.zeroValue9
 t20:=Tryz.underlying20
 a20:=Tryz.isAgg20
 z20:=Tryz.sizeOf20
 v20:=Tryz.zeroValue20
 t37:=Tryz.underlying165
 a37:=Tryz.isAgg165
 z37:=Tryz.sizeOf165
 v37:=Tryz.zeroValue165
 t70:=Tryz.underlying164
 a70:=Tryz.isAgg164
 z70:=Tryz.sizeOf164
 v70:=Tryz.zeroValue164
 t72:=Tryz.underlying167
 a72:=Tryz.isAgg167
 z72:=Tryz.sizeOf167
 v72:=Tryz.zeroValue167
 t164:=Tryz.underlying177
 a164:=Tryz.isAgg177
 z164:=Tryz.sizeOf177
 v164:=Tryz.zeroValue177}
theorem Tryz.Builder_Extra_165:Builder.Extra Tryz.prog Tryz.lays165_ren:={
 sizeBuilder:=by kernel_rfl
 liesBuilder:=by kernel_rfl
 t5:=Tryz.underlying5
 a5:=Tryz.isAgg5
 z5:=Tryz.sizeOf5
 v5:=Tryz.zeroValue5
 infoByte:=by kernel_rfl
 cellsByte:=by kernel_rfl
 sizeByte:=by kernel_rfl
 neB5:=by decide}
open Go.RowKit in
theorem Tryz.Builder_Grow_fresh (B b n:Nat) (w:World) (hB:B≤b) (hbk:w.heap[b]?=some (.cells #[.pointer none, .slice none 0 0] 167 (0,0))) (hBw:B≤w.heap.size) (hn:n≤281474976710656):
  Calls Tryz.prog 160 #[.pointer (some ⟨b,0,none⟩), .int .i64 n] w fun e w'=>e= .returned (.tuple #[])∧(Lib.BuilderAt 167 5 B b (.pointer (some ⟨b,0,none⟩)) [] w'∧Below B w w'):=Any.Builder_Grow_fresh Tryz.lays165 Tryz.Builder_Extra_165 B b n w hB hbk hBw hn
def Tryz.lays156_ren:Go.Shelf.Ren:=⟨fun|156=>154|165=>160|166=>161|169=>162|240=>166|241=>167|276=>169|277=>170|n=>n,fun|31=>22|9=>9|3=>3|4=>4|0=>0|20=>20|72=>167|76=>171|70=>164|37=>165|75=>170|127=>176|164=>177|5=>5|80=>173|n=>n,fun|n=>n⟩
theorem Tryz.lays156:Go.Proofs.Lays.n156 Tryz.prog Tryz.lays156_ren:={
 mixed:=by kernel_rfl
 f156:=Tryz.func154.trans (congrArg some (by kernel_rfl))
 f165:=Tryz.func160.trans (congrArg some (by kernel_rfl))
 f166:=Tryz.func161.trans (congrArg some (by kernel_rfl))
 f169:=Tryz.func162.trans (congrArg some (by kernel_rfl))
 f240:=Tryz.func166.trans (congrArg some (by kernel_rfl))
 f241:=Tryz.func167.trans (congrArg some (by kernel_rfl))
 f276:=Tryz.func169.trans (congrArg some (by kernel_rfl))
 f277:=Tryz.func170.trans (congrArg some (by kernel_rfl))
 t0:=Tryz.underlying0
 a0:=Tryz.isAgg0
 z0:=Tryz.sizeOf0
 v0:=Tryz.zeroValue0
 t3:=Tryz.underlying3
 a3:=Tryz.isAgg3
 z3:=Tryz.sizeOf3
 v3:=Tryz.zeroValue3
 t4:=Tryz.underlying4
 a4:=Tryz.isAgg4
 z4:=Tryz.sizeOf4
 v4:=Tryz.zeroValue4
 t9:=Tryz.underlying9
 a9:=Tryz.isAgg9
 z9:=Tryz.sizeOf9
 v9:=Tryz.zeroValue9
 t20:=Tryz.underlying20
 a20:=Tryz.isAgg20
 z20:=Tryz.sizeOf20
 v20:=Tryz.zeroValue20
 t31:=Tryz.underlying22
 a31:=Tryz.isAgg22
 z31:=Tryz.sizeOf22
 v31:=Tryz.zeroValue22
 t37:=Tryz.underlying165
 a37:=Tryz.isAgg165
 z37:=Tryz.sizeOf165
 v37:=Tryz.zeroValue165
 t70:=Tryz.underlying164
 a70:=Tryz.isAgg164
 z70:=Tryz.sizeOf164
 v70:=Tryz.zeroValue164
 t72:=Tryz.underlying167
 a72:=Tryz.isAgg167
 z72:=Tryz.sizeOf167
 v72:=Tryz.zeroValue167
 t75:=Tryz.underlying170
 a75:=Tryz.isAgg170
 z75:=Tryz.sizeOf170
 v75:=Tryz.zeroValue170
 t76:=Tryz.underlying171
 a76:=Tryz.isAgg171
 z76:=Tryz.sizeOf171
 v76:=Tryz.zeroValue171
 t127:=Tryz.underlying176
 a127:=Tryz.isAgg176
 z127:=Tryz.sizeOf176
 v127:=Tryz.zeroValue176
 t164:=Tryz.underlying177
 a164:=Tryz.isAgg177
 z164:=Tryz.sizeOf177
 v164:=Tryz.zeroValue177}
theorem Tryz.Builder_Extra_156:Builder.Extra Tryz.prog Tryz.lays156_ren:={
 sizeBuilder:=by kernel_rfl
 liesBuilder:=by kernel_rfl
 t5:=Tryz.underlying5
 a5:=Tryz.isAgg5
 z5:=Tryz.sizeOf5
 v5:=Tryz.zeroValue5
 infoByte:=by kernel_rfl
 cellsByte:=by kernel_rfl
 sizeByte:=by kernel_rfl
 neB5:=by decide}
open Go.RowKit in
theorem Tryz.strings_Join_none (a:Option Addr) (c:Nat) (sep:ByteArray) (w:World):
  Calls Tryz.prog 154 #[.slice a 0 c, .string sep] w fun e w'=>e= .returned (.string ⟨#[]⟩)∧w'=w:=Any.strings_Join_none Tryz.lays156 Tryz.Builder_Extra_156 a c sep w
open Go.RowKit in
theorem Tryz.strings_Join (bk o c:Nat) (xs:List ByteArray) (sep:ByteArray) (w:World) (hcells: ∀(j:Nat) x,xs[j]?=some x→w.cell? ⟨bk,o+j,none⟩=some (.string x)) (hbk:bk<w.heap.size) (hN:xs.length≤140737488355328) (hcap:xs.length≤c) (hlen:(Lib.join (xs.map (·.data.toList)) sep.data.toList).length≤140737488355328):
  Calls Tryz.prog 154 #[.slice (some ⟨bk,o,none⟩) xs.length c, .string sep] w fun e w'=>e= .returned (.string ⟨(Lib.join (xs.map (·.data.toList)) sep.data.toList).toArray⟩)∧Below w.heap.size w w':=Any.strings_Join Tryz.lays156 Tryz.Builder_Extra_156 bk o c xs sep w hcells hbk hN hcap hlen
def Tryz.lays137_ren:Go.Shelf.Ren:=⟨fun|137=>142|217=>147|266=>155|n=>n,fun|9=>9|5=>5|3=>3|n=>n,fun|n=>n⟩
theorem Tryz.lays137:Go.Proofs.Lays.n137 Tryz.prog Tryz.lays137_ren:={
 mixed:=by kernel_rfl
 f137:=Tryz.func142.trans (congrArg some (by kernel_rfl))
 f217:=Tryz.func147.trans (congrArg some (by kernel_rfl))
 f266:=Tryz.func155.trans (congrArg some (by kernel_rfl))
 t3:=Tryz.underlying3
 a3:=Tryz.isAgg3
 z3:=Tryz.sizeOf3
 v3:=Tryz.zeroValue3
 t5:=Tryz.underlying5
 a5:=Tryz.isAgg5
 z5:=Tryz.sizeOf5
 v5:=Tryz.zeroValue5
 t9:=Tryz.underlying9
 a9:=Tryz.isAgg9
 z9:=Tryz.sizeOf9
 v9:=Tryz.zeroValue9}
open Go.RowKit in
theorem Tryz.strings_IndexByte (s:ByteArray) (c:Int) (w:World):
  Calls Tryz.prog 142 #[.string s, .int .u8 c] w fun e w'=>e= .returned (.int .i64 (Lib.indexByte s.data.toList c.toNat.toUInt8))∧w'=w:=Any.strings_IndexByte Tryz.lays137 s c w
def Tryz.lays210_ren:Go.Shelf.Ren:=⟨fun|210=>132|206=>139|n=>n,fun|9=>9|4=>4|3=>3|n=>n,fun|n=>n⟩
theorem Tryz.lays210:Go.Proofs.Lays.n210 Tryz.prog Tryz.lays210_ren:={
 mixed:=by kernel_rfl
 f206:=Tryz.func139.trans (congrArg some (by kernel_rfl))
 f210:=Tryz.func132.trans (congrArg some (by kernel_rfl))
 t3:=Tryz.underlying3
 a3:=Tryz.isAgg3
 z3:=Tryz.sizeOf3
 v3:=Tryz.zeroValue3
 t4:=Tryz.underlying4
 a4:=Tryz.isAgg4
 z4:=Tryz.sizeOf4
 v4:=Tryz.zeroValue4
 t9:=Tryz.underlying9
 a9:=Tryz.isAgg9
 z9:=Tryz.sizeOf9
 v9:=Tryz.zeroValue9}
open Go.RowKit in
theorem Tryz.stringslite_CutPrefix (s p:ByteArray) (w:World):
  Calls Tryz.prog 132 #[.string s, .string p] w fun e w'=>e= .returned (.tuple #[.string ⟨(Lib.trimPrefix s.data.toList p.data.toList).toArray⟩, .bool (Lib.hasPrefix s.data.toList p.data.toList)])∧w'=w:=Any.stringslite_CutPrefix Tryz.lays210 s p w
def Tryz.lays103_ren:Go.Shelf.Ren:=⟨fun|103=>112|210=>132|206=>139|n=>n,fun|9=>9|4=>4|24=>133|3=>3|n=>n,fun|n=>n⟩
theorem Tryz.lays103:Go.Proofs.Lays.n103 Tryz.prog Tryz.lays103_ren:={
 mixed:=by kernel_rfl
 f103:=Tryz.func112.trans (congrArg some (by kernel_rfl))
 f206:=Tryz.func139.trans (congrArg some (by kernel_rfl))
 f210:=Tryz.func132.trans (congrArg some (by kernel_rfl))
 t3:=Tryz.underlying3
 a3:=Tryz.isAgg3
 z3:=Tryz.sizeOf3
 v3:=Tryz.zeroValue3
 t4:=Tryz.underlying4
 a4:=Tryz.isAgg4
 z4:=Tryz.sizeOf4
 v4:=Tryz.zeroValue4
 t9:=Tryz.underlying9
 a9:=Tryz.isAgg9
 z9:=Tryz.sizeOf9
 v9:=Tryz.zeroValue9
 t24:=Tryz.underlying133
 a24:=Tryz.isAgg133
 z24:=Tryz.sizeOf133
 v24:=Tryz.zeroValue133}
open Go.RowKit in
theorem Tryz.strings_CutPrefix (s p:ByteArray) (w:World):
  Calls Tryz.prog 112 #[.string s, .string p] w fun e w'=>e= .returned (.tuple #[.string ⟨(Lib.trimPrefix s.data.toList p.data.toList).toArray⟩, .bool (Lib.hasPrefix s.data.toList p.data.toList)])∧w'=w:=Any.strings_CutPrefix Tryz.lays103 s p w
open Go.RowKit in
theorem Tryz.Builder_String_f (B b:Nat) (l:List UInt8) (w:World) (h:Lib.IsBuilderF 167 5 B b (Lib.byteCells l) w) (h0:l≠ []):
  Calls Tryz.prog 162 #[.pointer (some ⟨b,0,none⟩)] w fun e w'=>e= .returned (.string ⟨l.toArray⟩)∧(Lib.IsBuilderF 167 5 B b (Lib.byteCells l) w'∧Below B w w'):=Any.Builder_String_f Tryz.lays169 Tryz.Builder_Extra_169 B b l w h h0
open Go.RowKit in
theorem Tryz.Builder_String_empty_f (B b:Nat) (w:World) (h:Lib.IsBuilderF 167 5 B b [] w) (hBw:B≤w.heap.size):
  Calls Tryz.prog 162 #[.pointer (some ⟨b,0,none⟩)] w fun e w'=>e= .returned (.string ⟨#[]⟩)∧(Lib.IsBuilderF 167 5 B b [] w'∧Below B w w'):=Any.Builder_String_empty_f Tryz.lays169 Tryz.Builder_Extra_169 B b w h hBw
open Go.RowKit in
theorem Tryz.Builder_String_any_f (B b:Nat) (l:List UInt8) (w:World) (h:Lib.IsBuilderF 167 5 B b (Lib.byteCells l) w) (hBw:B≤w.heap.size):
  Calls Tryz.prog 162 #[.pointer (some ⟨b,0,none⟩)] w fun e w'=>e= .returned (.string ⟨l.toArray⟩)∧(Lib.IsBuilderF 167 5 B b (Lib.byteCells l) w'∧Below B w w'):=Any.Builder_String_any_f Tryz.lays169 Tryz.Builder_Extra_169 B b l w h hBw
open Go.RowKit in
theorem Tryz.Builder_String_k (B b:Nat) (l:List UInt8) (w:World) (h:Lib.IsBuilderF 167 5 B b (Lib.byteCells l) w) (h0:l≠ []):
  Calls Tryz.prog 162 #[.pointer (some ⟨b,0,none⟩)] w fun e w'=>e= .returned (.string ⟨l.toArray⟩)∧(Lib.IsBuilderF 167 5 B b (Lib.byteCells l) w'∧Below B w w'∧Lib.OthersKept 5 (some b) w w'):=Any.Builder_String_k Tryz.lays169 Tryz.Builder_Extra_169 B b l w h h0
open Go.RowKit in
theorem Tryz.Builder_String_empty_k (B b:Nat) (w:World) (h:Lib.IsBuilderF 167 5 B b [] w) (hBw:B≤w.heap.size):
  Calls Tryz.prog 162 #[.pointer (some ⟨b,0,none⟩)] w fun e w'=>e= .returned (.string ⟨#[]⟩)∧(Lib.IsBuilderF 167 5 B b [] w'∧Below B w w'∧Lib.OthersKept 5 (some b) w w'):=Any.Builder_String_empty_k Tryz.lays169 Tryz.Builder_Extra_169 B b w h hBw
open Go.RowKit in
theorem Tryz.Builder_String_any_k (B b:Nat) (l:List UInt8) (w:World) (h:Lib.IsBuilderF 167 5 B b (Lib.byteCells l) w) (hBw:B≤w.heap.size):
  Calls Tryz.prog 162 #[.pointer (some ⟨b,0,none⟩)] w fun e w'=>e= .returned (.string ⟨l.toArray⟩)∧(Lib.IsBuilderF 167 5 B b (Lib.byteCells l) w'∧Below B w w'∧Lib.OthersKept 5 (some b) w w'):=Any.Builder_String_any_k Tryz.lays169 Tryz.Builder_Extra_169 B b l w h hBw
def Tryz.lays195_ren:Go.Shelf.Ren:=⟨fun|195=>163|n=>n,fun|9=>9|3=>3|0=>0|4=>4|n=>n,fun|n=>n⟩
theorem Tryz.lays195:Go.Proofs.Lays.n195 Tryz.prog Tryz.lays195_ren:={
 mixed:=by kernel_rfl
 f195:=Tryz.func163.trans (congrArg some (by kernel_rfl))
 t0:=Tryz.underlying0
 a0:=Tryz.isAgg0
 z0:=Tryz.sizeOf0
 v0:=Tryz.zeroValue0
 t3:=Tryz.underlying3
 a3:=Tryz.isAgg3
 z3:=Tryz.sizeOf3
 v3:=Tryz.zeroValue3
 t4:=Tryz.underlying4
 a4:=Tryz.isAgg4
 z4:=Tryz.sizeOf4
 v4:=Tryz.zeroValue4
 t9:=Tryz.underlying9
 a9:=Tryz.isAgg9
 z9:=Tryz.sizeOf9
 v9:=Tryz.zeroValue9}
open Go.RowKit in
theorem Tryz.utf8_RuneCountInString (s:ByteArray) (w:World) (hs:s.size<9223372036854775807):
  Calls Tryz.prog 163 #[.string s] w fun e w'=>e= .returned (.int .i64 (Lib.runeCount s))∧ ∃pos,w'=w.iter s pos:=Any.utf8_RuneCountInString Tryz.lays195 s w hs
open Go.RowKit in
theorem Tryz.Builder_grow_fresh_cap (B b n:Nat) (w:World) (hB:B≤b) (hbk:w.heap[b]?=some (.cells #[.pointer (some ⟨b,0,none⟩), .slice none 0 0] 167 (0,0))) (hBw:B≤w.heap.size) (hn:n≤281474976710656):
  Calls Tryz.prog 167 #[.pointer (some ⟨b,0,none⟩), .int .i64 n] w fun e w'=>e= .returned (.tuple #[])∧(Lib.BuilderAt 167 5 B b (.pointer (some ⟨b,0,none⟩)) [] w'∧Below B w w')∧ ∃p cap,w'.cell? ⟨b,1,none⟩=some (.slice p 0 cap)∧n≤cap:=Any.Builder_grow_fresh_cap Tryz.lays241 Tryz.Builder_Extra_241 B b n w hB hbk hBw hn
open Go.RowKit in
theorem Tryz.Builder_Grow_fresh_cap (B b n:Nat) (w:World) (hB:B≤b) (hbk:w.heap[b]?=some (.cells #[.pointer none, .slice none 0 0] 167 (0,0))) (hBw:B≤w.heap.size) (hn:n≤281474976710656):
  Calls Tryz.prog 160 #[.pointer (some ⟨b,0,none⟩), .int .i64 n] w fun e w'=>e= .returned (.tuple #[])∧(Lib.BuilderAt 167 5 B b (.pointer (some ⟨b,0,none⟩)) [] w'∧Below B w w')∧ ∃p cap,w'.cell? ⟨b,1,none⟩=some (.slice p 0 cap)∧n≤cap:=Any.Builder_Grow_fresh_cap Tryz.lays165 Tryz.Builder_Extra_165 B b n w hB hbk hBw hn
def Tryz.lays217_ren:Go.Shelf.Ren:=⟨fun|217=>147|266=>155|n=>n,fun|9=>9|5=>5|3=>3|n=>n,fun|n=>n⟩
theorem Tryz.lays217:Go.Proofs.Lays.n217 Tryz.prog Tryz.lays217_ren:={
 mixed:=by kernel_rfl
 f217:=Tryz.func147.trans (congrArg some (by kernel_rfl))
 f266:=Tryz.func155.trans (congrArg some (by kernel_rfl))
 t3:=Tryz.underlying3
 a3:=Tryz.isAgg3
 z3:=Tryz.sizeOf3
 v3:=Tryz.zeroValue3
 t5:=Tryz.underlying5
 a5:=Tryz.isAgg5
 z5:=Tryz.sizeOf5
 v5:=Tryz.zeroValue5
 t9:=Tryz.underlying9
 a9:=Tryz.isAgg9
 z9:=Tryz.sizeOf9
 v9:=Tryz.zeroValue9}
open Go.RowKit Go.Lib in
theorem Tryz.stringslite_IndexByte (s:ByteArray) (c:Int) (w:World):
  Calls Tryz.prog 147 #[.string s, .int .u8 c] w fun e w'=>e= .returned (.int .i64 (Lib.indexByte s.data.toList c.toNat.toUInt8))∧w'=w:=Any.stringslite_IndexByte Tryz.lays217 s c w
def Tryz.lays224_ren:Go.Shelf.Ren:=⟨fun|224=>149|n=>n,fun|3=>3|n=>n,fun|n=>n⟩
theorem Tryz.lays224:Go.Proofs.Lays.n224 Tryz.prog Tryz.lays224_ren:={
 mixed:=by kernel_rfl
 f224:=Tryz.func149.trans (congrArg some (by kernel_rfl))
 t3:=Tryz.underlying3
 a3:=Tryz.isAgg3
 z3:=Tryz.sizeOf3
 v3:=Tryz.zeroValue3}
open Go.RowKit Go.Lib in
theorem Tryz.bytealg_Cutover (n:Int) (h0:0≤n) (h1:n<4611686018427387904) (w:World):
  Calls Tryz.prog 149 #[.int .i64 n] w fun e w'=>e= .returned (.int .i64 ((n+16)/8))∧w'=w:=Any.bytealg_Cutover Tryz.lays224 n h0 h1 w
def Tryz.lays314_ren:Go.Shelf.Ren:=⟨fun|314=>156|n=>n,fun|9=>9|51=>160|3=>3|4=>4|5=>5|46=>157|n=>n,fun|n=>n⟩
theorem Tryz.lays314:Go.Proofs.Lays.n314 Tryz.prog Tryz.lays314_ren:={
 mixed:=by kernel_rfl
 f314:=Tryz.func156.trans (congrArg some (by kernel_rfl))
 t3:=Tryz.underlying3
 a3:=Tryz.isAgg3
 z3:=Tryz.sizeOf3
 v3:=Tryz.zeroValue3
 t4:=Tryz.underlying4
 a4:=Tryz.isAgg4
 z4:=Tryz.sizeOf4
 v4:=Tryz.zeroValue4
 t5:=Tryz.underlying5
 a5:=Tryz.isAgg5
 z5:=Tryz.sizeOf5
 v5:=Tryz.zeroValue5
 t9:=Tryz.underlying9
 a9:=Tryz.isAgg9
 z9:=Tryz.sizeOf9
 v9:=Tryz.zeroValue9
 t46:=Tryz.underlying157
 a46:=Tryz.isAgg157
 z46:=Tryz.sizeOf157
 v46:=Tryz.zeroValue157
 t51:=Tryz.underlying160
 a51:=Tryz.isAgg160
 z51:=Tryz.sizeOf160
 v51:=Tryz.zeroValue160}
open Go.RowKit Go.Lib in
theorem Tryz.bytealg_hashStr (sep:ByteArray) (hs:sep.size<4294967281) (w:World):
  Calls Tryz.prog 156 #[.string sep] w fun e w'=>e= .returned (.tuple #[.int .u32 (RK.H sep.data.toList % 4294967296), .int .u32 (16777619^sep.size % 4294967296)])∧w'=w:=Any.bytealg_hashStr Tryz.lays314 sep hs w
def Tryz.lays267_ren:Go.Shelf.Ren:=⟨fun|267=>150|314=>156|n=>n,fun|9=>9|3=>3|146=>161|51=>160|4=>4|5=>5|46=>157|n=>n,fun|n=>n⟩
theorem Tryz.lays267:Go.Proofs.Lays.n267 Tryz.prog Tryz.lays267_ren:={
 mixed:=by kernel_rfl
 f267:=Tryz.func150.trans (congrArg some (by kernel_rfl))
 f314:=Tryz.func156.trans (congrArg some (by kernel_rfl))
 t3:=Tryz.underlying3
 a3:=Tryz.isAgg3
 z3:=Tryz.sizeOf3
 v3:=Tryz.zeroValue3
 t4:=Tryz.underlying4
 a4:=Tryz.isAgg4
 z4:=Tryz.sizeOf4
 v4:=Tryz.zeroValue4
 t5:=Tryz.underlying5
 a5:=Tryz.isAgg5
 z5:=Tryz.sizeOf5
 v5:=Tryz.zeroValue5
 t9:=Tryz.underlying9
 a9:=Tryz.isAgg9
 z9:=Tryz.sizeOf9
 v9:=Tryz.zeroValue9
 t46:=Tryz.underlying157
 a46:=Tryz.isAgg157
 z46:=Tryz.sizeOf157
 v46:=Tryz.zeroValue157
 t51:=Tryz.underlying160
 a51:=Tryz.isAgg160
 z51:=Tryz.sizeOf160
 v51:=Tryz.zeroValue160
 t146:=Tryz.underlying161
 a146:=Tryz.isAgg161
 z146:=Tryz.sizeOf161
 v146:=Tryz.zeroValue161}
open Go.RowKit Go.Lib in
theorem Tryz.bytealg_IndexRabinKarp (s sep:ByteArray) (h1:1≤sep.size) (h2:sep.size≤s.size) (hs:s.size<4294967281) (w:World):
  Calls Tryz.prog 150 #[.string s, .string sep] w fun e w'=>e= .returned (.int .i64 (Lib.index s.data.toList sep.data.toList))∧w'=w:=Any.bytealg_IndexRabinKarp Tryz.lays267 s sep h1 h2 hs w
def Tryz.lays219_ren:Go.Shelf.Ren:=⟨fun|219=>140|217=>147|225=>148|224=>149|267=>150|266=>155|314=>156|n=>n,fun|9=>9|3=>3|4=>4|5=>5|46=>157|146=>161|51=>160|n=>n,fun|1=>0|n=>n⟩
theorem Tryz.lays219:Go.Proofs.Lays.n219 Tryz.prog Tryz.lays219_ren:={
 mixed:=by kernel_rfl
 f217:=Tryz.func147.trans (congrArg some (by kernel_rfl))
 f219:=Tryz.func140.trans (congrArg some (by kernel_rfl))
 f224:=Tryz.func149.trans (congrArg some (by kernel_rfl))
 f225:=Tryz.func148.trans (congrArg some (by kernel_rfl))
 f266:=Tryz.func155.trans (congrArg some (by kernel_rfl))
 f267:=Tryz.func150.trans (congrArg some (by kernel_rfl))
 f314:=Tryz.func156.trans (congrArg some (by kernel_rfl))
 t3:=Tryz.underlying3
 a3:=Tryz.isAgg3
 z3:=Tryz.sizeOf3
 v3:=Tryz.zeroValue3
 t4:=Tryz.underlying4
 a4:=Tryz.isAgg4
 z4:=Tryz.sizeOf4
 v4:=Tryz.zeroValue4
 t5:=Tryz.underlying5
 a5:=Tryz.isAgg5
 z5:=Tryz.sizeOf5
 v5:=Tryz.zeroValue5
 t9:=Tryz.underlying9
 a9:=Tryz.isAgg9
 z9:=Tryz.sizeOf9
 v9:=Tryz.zeroValue9
 t46:=Tryz.underlying157
 a46:=Tryz.isAgg157
 z46:=Tryz.sizeOf157
 v46:=Tryz.zeroValue157
 t51:=Tryz.underlying160
 a51:=Tryz.isAgg160
 z51:=Tryz.sizeOf160
 v51:=Tryz.zeroValue160
 t146:=Tryz.underlying161
 a146:=Tryz.isAgg161
 z146:=Tryz.sizeOf161
 v146:=Tryz.zeroValue161
 g1:=by kernel_rfl}
open Go.RowKit Go.Lib in
theorem Tryz.stringslite_Index_one (s:ByteArray) (c:UInt8) (w:World):
  Calls Tryz.prog 140 #[.string s, .string ⟨#[c]⟩] w fun e w'=>e= .returned (.int .i64 (Lib.indexByte s.data.toList c))∧w'=w:=Any.stringslite_Index_one Tryz.lays219 s c w
open Go.RowKit Go.Lib in
theorem Tryz.stringslite_Index (s sub:ByteArray) (m:Int) (w:World) (hs:s.size<4294967281) (hm:w.cell? ⟨0,0,none⟩=some (.int .i64 m)):
  Calls Tryz.prog 140 #[.string s, .string sub] w fun e w'=>e= .returned (.int .i64 (Lib.index s.data.toList sub.data.toList))∧w'=w:=Any.stringslite_Index Tryz.lays219 s sub m w hs hm
def Tryz.lays143_ren:Go.Shelf.Ren:=⟨fun|143=>159|219=>140|217=>147|225=>148|224=>149|267=>150|266=>155|314=>156|n=>n,fun|9=>9|3=>3|4=>4|5=>5|46=>157|146=>161|51=>160|n=>n,fun|1=>0|n=>n⟩
theorem Tryz.lays143:Go.Proofs.Lays.n143 Tryz.prog Tryz.lays143_ren:={
 mixed:=by kernel_rfl
 f143:=Tryz.func159.trans (congrArg some (by kernel_rfl))
 f217:=Tryz.func147.trans (congrArg some (by kernel_rfl))
 f219:=Tryz.func140.trans (congrArg some (by kernel_rfl))
 f224:=Tryz.func149.trans (congrArg some (by kernel_rfl))
 f225:=Tryz.func148.trans (congrArg some (by kernel_rfl))
 f266:=Tryz.func155.trans (congrArg some (by kernel_rfl))
 f267:=Tryz.func150.trans (congrArg some (by kernel_rfl))
 f314:=Tryz.func156.trans (congrArg some (by kernel_rfl))
 t3:=Tryz.underlying3
 a3:=Tryz.isAgg3
 z3:=Tryz.sizeOf3
 v3:=Tryz.zeroValue3
 t4:=Tryz.underlying4
 a4:=Tryz.isAgg4
 z4:=Tryz.sizeOf4
 v4:=Tryz.zeroValue4
 t5:=Tryz.underlying5
 a5:=Tryz.isAgg5
 z5:=Tryz.sizeOf5
 v5:=Tryz.zeroValue5
 t9:=Tryz.underlying9
 a9:=Tryz.isAgg9
 z9:=Tryz.sizeOf9
 v9:=Tryz.zeroValue9
 t46:=Tryz.underlying157
 a46:=Tryz.isAgg157
 z46:=Tryz.sizeOf157
 v46:=Tryz.zeroValue157
 t51:=Tryz.underlying160
 a51:=Tryz.isAgg160
 z51:=Tryz.sizeOf160
 v51:=Tryz.zeroValue160
 t146:=Tryz.underlying161
 a146:=Tryz.isAgg161
 z146:=Tryz.sizeOf161
 v146:=Tryz.zeroValue161
 g1:=by kernel_rfl}
open Go.RowKit Go.Lib in
theorem Tryz.strings_Index_one (s:ByteArray) (c:UInt8) (w:World):
  Calls Tryz.prog 159 #[.string s, .string ⟨#[c]⟩] w fun e w'=>e= .returned (.int .i64 (Lib.indexByte s.data.toList c))∧w'=w:=Any.strings_Index_one Tryz.lays143 s c w
open Go.RowKit Go.Lib in
theorem Tryz.strings_Index (s sub:ByteArray) (m:Int) (w:World) (hs:s.size<4294967281) (hm:w.cell? ⟨0,0,none⟩=some (.int .i64 m)):
  Calls Tryz.prog 159 #[.string s, .string sub] w fun e w'=>e= .returned (.int .i64 (Lib.index s.data.toList sub.data.toList))∧w'=w:=Any.strings_Index Tryz.lays143 s sub m w hs hm
def Tryz.lays220_ren:Go.Shelf.Ren:=⟨fun|220=>133|219=>140|217=>147|225=>148|224=>149|267=>150|266=>155|314=>156|n=>n,fun|9=>9|4=>4|3=>3|5=>5|46=>157|146=>161|51=>160|n=>n,fun|1=>0|n=>n⟩
theorem Tryz.lays220:Go.Proofs.Lays.n220 Tryz.prog Tryz.lays220_ren:={
 mixed:=by kernel_rfl
 f217:=Tryz.func147.trans (congrArg some (by kernel_rfl))
 f219:=Tryz.func140.trans (congrArg some (by kernel_rfl))
 f220:=Tryz.func133.trans (congrArg some (by kernel_rfl))
 f224:=Tryz.func149.trans (congrArg some (by kernel_rfl))
 f225:=Tryz.func148.trans (congrArg some (by kernel_rfl))
 f266:=Tryz.func155.trans (congrArg some (by kernel_rfl))
 f267:=Tryz.func150.trans (congrArg some (by kernel_rfl))
 f314:=Tryz.func156.trans (congrArg some (by kernel_rfl))
 t3:=Tryz.underlying3
 a3:=Tryz.isAgg3
 z3:=Tryz.sizeOf3
 v3:=Tryz.zeroValue3
 t4:=Tryz.underlying4
 a4:=Tryz.isAgg4
 z4:=Tryz.sizeOf4
 v4:=Tryz.zeroValue4
 t5:=Tryz.underlying5
 a5:=Tryz.isAgg5
 z5:=Tryz.sizeOf5
 v5:=Tryz.zeroValue5
 t9:=Tryz.underlying9
 a9:=Tryz.isAgg9
 z9:=Tryz.sizeOf9
 v9:=Tryz.zeroValue9
 t46:=Tryz.underlying157
 a46:=Tryz.isAgg157
 z46:=Tryz.sizeOf157
 v46:=Tryz.zeroValue157
 t51:=Tryz.underlying160
 a51:=Tryz.isAgg160
 z51:=Tryz.sizeOf160
 v51:=Tryz.zeroValue160
 t146:=Tryz.underlying161
 a146:=Tryz.isAgg161
 z146:=Tryz.sizeOf161
 v146:=Tryz.zeroValue161
 g1:=by kernel_rfl}
open Go.RowKit Go.Lib in
theorem Tryz.stringslite_Cut (s sep:ByteArray) (m:Int) (w:World) (hs:s.size<4294967281) (hm:w.cell? ⟨0,0,none⟩=some (.int .i64 m)):
  Calls Tryz.prog 133 #[.string s, .string sep] w fun e w'=>e= .returned (.tuple #[.string ⟨(Lib.cut s.data.toList sep.data.toList).1.toArray⟩, .string ⟨(Lib.cut s.data.toList sep.data.toList).2.1.toArray⟩, .bool (Lib.cut s.data.toList sep.data.toList).2.2])∧ ∃n,w'=w.drewN n:=Any.stringslite_Cut Tryz.lays220 s sep m w hs hm
def Tryz.lays145_ren:Go.Shelf.Ren:=⟨fun|145=>114|220=>133|219=>140|217=>147|225=>148|224=>149|267=>150|266=>155|314=>156|n=>n,fun|9=>9|4=>4|59=>101|3=>3|5=>5|46=>157|146=>161|51=>160|n=>n,fun|1=>0|n=>n⟩
theorem Tryz.lays145:Go.Proofs.Lays.n145 Tryz.prog Tryz.lays145_ren:={
 mixed:=by kernel_rfl
 f145:=Tryz.func114.trans (congrArg some (by kernel_rfl))
 f217:=Tryz.func147.trans (congrArg some (by kernel_rfl))
 f219:=Tryz.func140.trans (congrArg some (by kernel_rfl))
 f220:=Tryz.func133.trans (congrArg some (by kernel_rfl))
 f224:=Tryz.func149.trans (congrArg some (by kernel_rfl))
 f225:=Tryz.func148.trans (congrArg some (by kernel_rfl))
 f266:=Tryz.func155.trans (congrArg some (by kernel_rfl))
 f267:=Tryz.func150.trans (congrArg some (by kernel_rfl))
 f314:=Tryz.func156.trans (congrArg some (by kernel_rfl))
 t3:=Tryz.underlying3
 a3:=Tryz.isAgg3
 z3:=Tryz.sizeOf3
 v3:=Tryz.zeroValue3
 t4:=Tryz.underlying4
 a4:=Tryz.isAgg4
 z4:=Tryz.sizeOf4
 v4:=Tryz.zeroValue4
 t5:=Tryz.underlying5
 a5:=Tryz.isAgg5
 z5:=Tryz.sizeOf5
 v5:=Tryz.zeroValue5
 t9:=Tryz.underlying9
 a9:=Tryz.isAgg9
 z9:=Tryz.sizeOf9
 v9:=Tryz.zeroValue9
 t46:=Tryz.underlying157
 a46:=Tryz.isAgg157
 z46:=Tryz.sizeOf157
 v46:=Tryz.zeroValue157
 t51:=Tryz.underlying160
 a51:=Tryz.isAgg160
 z51:=Tryz.sizeOf160
 v51:=Tryz.zeroValue160
 t59:=Tryz.underlying101
 a59:=Tryz.isAgg101
 z59:=Tryz.sizeOf101
 v59:=Tryz.zeroValue101
 t146:=Tryz.underlying161
 a146:=Tryz.isAgg161
 z146:=Tryz.sizeOf161
 v146:=Tryz.zeroValue161
 g1:=by kernel_rfl}
open Go.RowKit Go.Lib in
theorem Tryz.strings_Cut (s sep:ByteArray) (m:Int) (w:World) (hs:s.size<4294967281) (hm:w.cell? ⟨0,0,none⟩=some (.int .i64 m)):
  Calls Tryz.prog 114 #[.string s, .string sep] w fun e w'=>e= .returned (.tuple #[.string ⟨(Lib.cut s.data.toList sep.data.toList).1.toArray⟩, .string ⟨(Lib.cut s.data.toList sep.data.toList).2.1.toArray⟩, .bool (Lib.cut s.data.toList sep.data.toList).2.2])∧ ∃n,w'=w.drewN n:=Any.strings_Cut Tryz.lays145 s sep m w hs hm
def Tryz.lays138_ren:Go.Shelf.Ren:=⟨fun|138=>158|195=>163|218=>165|143=>159|219=>140|217=>147|225=>148|224=>149|267=>150|266=>155|314=>156|n=>n,fun|9=>9|3=>3|4=>4|5=>5|0=>0|46=>157|146=>161|51=>160|n=>n,fun|1=>0|n=>n⟩
theorem Tryz.lays138:Go.Proofs.Lays.n138 Tryz.prog Tryz.lays138_ren:={
 mixed:=by kernel_rfl
 f138:=Tryz.func158.trans (congrArg some (by kernel_rfl))
 f143:=Tryz.func159.trans (congrArg some (by kernel_rfl))
 f195:=Tryz.func163.trans (congrArg some (by kernel_rfl))
 f217:=Tryz.func147.trans (congrArg some (by kernel_rfl))
 f218:=Tryz.func165.trans (congrArg some (by kernel_rfl))
 f219:=Tryz.func140.trans (congrArg some (by kernel_rfl))
 f224:=Tryz.func149.trans (congrArg some (by kernel_rfl))
 f225:=Tryz.func148.trans (congrArg some (by kernel_rfl))
 f266:=Tryz.func155.trans (congrArg some (by kernel_rfl))
 f267:=Tryz.func150.trans (congrArg some (by kernel_rfl))
 f314:=Tryz.func156.trans (congrArg some (by kernel_rfl))
 t0:=Tryz.underlying0
 a0:=Tryz.isAgg0
 z0:=Tryz.sizeOf0
 v0:=Tryz.zeroValue0
 t3:=Tryz.underlying3
 a3:=Tryz.isAgg3
 z3:=Tryz.sizeOf3
 v3:=Tryz.zeroValue3
 t4:=Tryz.underlying4
 a4:=Tryz.isAgg4
 z4:=Tryz.sizeOf4
 v4:=Tryz.zeroValue4
 t5:=Tryz.underlying5
 a5:=Tryz.isAgg5
 z5:=Tryz.sizeOf5
 v5:=Tryz.zeroValue5
 t9:=Tryz.underlying9
 a9:=Tryz.isAgg9
 z9:=Tryz.sizeOf9
 v9:=Tryz.zeroValue9
 t46:=Tryz.underlying157
 a46:=Tryz.isAgg157
 z46:=Tryz.sizeOf157
 v46:=Tryz.zeroValue157
 t51:=Tryz.underlying160
 a51:=Tryz.isAgg160
 z51:=Tryz.sizeOf160
 v51:=Tryz.zeroValue160
 t146:=Tryz.underlying161
 a146:=Tryz.isAgg161
 z146:=Tryz.sizeOf161
 v146:=Tryz.zeroValue161
 g1:=by kernel_rfl}
open Go.RowKit Go.Lib in
theorem Tryz.strings_Count_one (s:ByteArray) (c:UInt8) (w:World):
  Calls Tryz.prog 158 #[.string s, .string ⟨#[c]⟩] w fun e w'=>e= .returned (.int .i64 (Lib.countByte s.data.toList c))∧w'=w:=Any.strings_Count_one Tryz.lays138 s c w
open Go.RowKit Go.Lib in
theorem Tryz.strings_Count (s sub:ByteArray) (m:Int) (w:World) (hs:s.size<4294967281) (hm:w.cell? ⟨0,0,none⟩=some (.int .i64 m)) (h2:2≤sub.size):
  Calls Tryz.prog 158 #[.string s, .string sub] w fun e w'=>e= .returned (.int .i64 (Lib.countB s sub))∧w'=w:=Any.strings_Count Tryz.lays138 s sub m w hs hm h2
def Tryz.laysM219_ren:Go.Shelf.Ren:=⟨fun|219=>140|217=>147|225=>148|224=>149|267=>150|266=>155|314=>156|n=>n,fun|9=>9|3=>3|4=>4|5=>5|46=>157|146=>161|51=>160|n=>n,fun|1=>0|n=>n⟩
theorem Tryz.laysM219:Go.Proofs.LaysM.n219 Tryz.prog Tryz.laysM219_ren:={
 mixed:=by kernel_rfl
 f217:=Tryz.func147.trans (congrArg some (by kernel_rfl))
 f219:=Tryz.func140.trans (congrArg some (by kernel_rfl))
 f224:=Tryz.func149.trans (congrArg some (by kernel_rfl))
 f225:=Tryz.func148.trans (congrArg some (by kernel_rfl))
 f266:=Tryz.func155.trans (congrArg some (by kernel_rfl))
 f267:=Tryz.func150.trans (congrArg some (by kernel_rfl))
 f314:=Tryz.func156.trans (congrArg some (by kernel_rfl))
 t3:=Tryz.underlying3
 a3:=Tryz.isAgg3
 z3:=Tryz.sizeOf3
 v3:=Tryz.zeroValue3
 t4:=Tryz.underlying4
 a4:=Tryz.isAgg4
 z4:=Tryz.sizeOf4
 v4:=Tryz.zeroValue4
 t5:=Tryz.underlying5
 a5:=Tryz.isAgg5
 z5:=Tryz.sizeOf5
 v5:=Tryz.zeroValue5
 t9:=Tryz.underlying9
 a9:=Tryz.isAgg9
 z9:=Tryz.sizeOf9
 v9:=Tryz.zeroValue9
 t46:=Tryz.underlying157
 a46:=Tryz.isAgg157
 z46:=Tryz.sizeOf157
 v46:=Tryz.zeroValue157
 t51:=Tryz.underlying160
 a51:=Tryz.isAgg160
 z51:=Tryz.sizeOf160
 v51:=Tryz.zeroValue160
 t146:=Tryz.underlying161
 a146:=Tryz.isAgg161
 z146:=Tryz.sizeOf161
 v146:=Tryz.zeroValue161
 g1:=by kernel_rfl
 i3:=by kernel_rfl
 i4:=by kernel_rfl
 i5:=by kernel_rfl
 i9:=by kernel_rfl
 i46:=by kernel_rfl
 i51:=by kernel_rfl
 i146:=by kernel_rfl
 m1:=by kernel_rfl
 s1_3:=fun w h=>Go.Proofs.cell_of_shapedOpen_int (zero:= #[.int .i64 0]) (t:=3) h (of_decide_eq_true (by kernel_rfl)) (by kernel_rfl) rfl (by kernel_rfl) (by kernel_rfl) Tryz.underlying3}
open Go.RowKit Go.Lib in
theorem Tryz.stringslite_Index_shaped (s sub:ByteArray) (w:World) (h:w.ShapedOpen Tryz.prog) (hs:s.size<4294967281):
  Calls Tryz.prog 140 #[.string s, .string sub] w fun e w'=>e= .returned (.int .i64 (Lib.index s.data.toList sub.data.toList))∧w'=w:=Any.stringslite_Index_shaped Tryz.laysM219 s sub w h hs
def Tryz.laysM143_ren:Go.Shelf.Ren:=⟨fun|143=>159|219=>140|217=>147|225=>148|224=>149|267=>150|266=>155|314=>156|n=>n,fun|9=>9|3=>3|4=>4|5=>5|46=>157|146=>161|51=>160|n=>n,fun|1=>0|n=>n⟩
theorem Tryz.laysM143:Go.Proofs.LaysM.n143 Tryz.prog Tryz.laysM143_ren:={
 mixed:=by kernel_rfl
 f143:=Tryz.func159.trans (congrArg some (by kernel_rfl))
 f217:=Tryz.func147.trans (congrArg some (by kernel_rfl))
 f219:=Tryz.func140.trans (congrArg some (by kernel_rfl))
 f224:=Tryz.func149.trans (congrArg some (by kernel_rfl))
 f225:=Tryz.func148.trans (congrArg some (by kernel_rfl))
 f266:=Tryz.func155.trans (congrArg some (by kernel_rfl))
 f267:=Tryz.func150.trans (congrArg some (by kernel_rfl))
 f314:=Tryz.func156.trans (congrArg some (by kernel_rfl))
 t3:=Tryz.underlying3
 a3:=Tryz.isAgg3
 z3:=Tryz.sizeOf3
 v3:=Tryz.zeroValue3
 t4:=Tryz.underlying4
 a4:=Tryz.isAgg4
 z4:=Tryz.sizeOf4
 v4:=Tryz.zeroValue4
 t5:=Tryz.underlying5
 a5:=Tryz.isAgg5
 z5:=Tryz.sizeOf5
 v5:=Tryz.zeroValue5
 t9:=Tryz.underlying9
 a9:=Tryz.isAgg9
 z9:=Tryz.sizeOf9
 v9:=Tryz.zeroValue9
 t46:=Tryz.underlying157
 a46:=Tryz.isAgg157
 z46:=Tryz.sizeOf157
 v46:=Tryz.zeroValue157
 t51:=Tryz.underlying160
 a51:=Tryz.isAgg160
 z51:=Tryz.sizeOf160
 v51:=Tryz.zeroValue160
 t146:=Tryz.underlying161
 a146:=Tryz.isAgg161
 z146:=Tryz.sizeOf161
 v146:=Tryz.zeroValue161
 g1:=by kernel_rfl
 i3:=by kernel_rfl
 i4:=by kernel_rfl
 i5:=by kernel_rfl
 i9:=by kernel_rfl
 i46:=by kernel_rfl
 i51:=by kernel_rfl
 i146:=by kernel_rfl
 m1:=by kernel_rfl
 s1_3:=fun w h=>Go.Proofs.cell_of_shapedOpen_int (zero:= #[.int .i64 0]) (t:=3) h (of_decide_eq_true (by kernel_rfl)) (by kernel_rfl) rfl (by kernel_rfl) (by kernel_rfl) Tryz.underlying3}
open Go.RowKit Go.Lib in
theorem Tryz.strings_Index_shaped (s sub:ByteArray) (w:World) (h:w.ShapedOpen Tryz.prog) (hs:s.size<4294967281):
  Calls Tryz.prog 159 #[.string s, .string sub] w fun e w'=>e= .returned (.int .i64 (Lib.index s.data.toList sub.data.toList))∧w'=w:=Any.strings_Index_shaped Tryz.laysM143 s sub w h hs
def Tryz.laysM220_ren:Go.Shelf.Ren:=⟨fun|220=>133|219=>140|217=>147|225=>148|224=>149|267=>150|266=>155|314=>156|n=>n,fun|9=>9|4=>4|3=>3|5=>5|46=>157|146=>161|51=>160|n=>n,fun|1=>0|n=>n⟩
theorem Tryz.laysM220:Go.Proofs.LaysM.n220 Tryz.prog Tryz.laysM220_ren:={
 mixed:=by kernel_rfl
 f217:=Tryz.func147.trans (congrArg some (by kernel_rfl))
 f219:=Tryz.func140.trans (congrArg some (by kernel_rfl))
 f220:=Tryz.func133.trans (congrArg some (by kernel_rfl))
 f224:=Tryz.func149.trans (congrArg some (by kernel_rfl))
 f225:=Tryz.func148.trans (congrArg some (by kernel_rfl))
 f266:=Tryz.func155.trans (congrArg some (by kernel_rfl))
 f267:=Tryz.func150.trans (congrArg some (by kernel_rfl))
 f314:=Tryz.func156.trans (congrArg some (by kernel_rfl))
 t3:=Tryz.underlying3
 a3:=Tryz.isAgg3
 z3:=Tryz.sizeOf3
 v3:=Tryz.zeroValue3
 t4:=Tryz.underlying4
 a4:=Tryz.isAgg4
 z4:=Tryz.sizeOf4
 v4:=Tryz.zeroValue4
 t5:=Tryz.underlying5
 a5:=Tryz.isAgg5
 z5:=Tryz.sizeOf5
 v5:=Tryz.zeroValue5
 t9:=Tryz.underlying9
 a9:=Tryz.isAgg9
 z9:=Tryz.sizeOf9
 v9:=Tryz.zeroValue9
 t46:=Tryz.underlying157
 a46:=Tryz.isAgg157
 z46:=Tryz.sizeOf157
 v46:=Tryz.zeroValue157
 t51:=Tryz.underlying160
 a51:=Tryz.isAgg160
 z51:=Tryz.sizeOf160
 v51:=Tryz.zeroValue160
 t146:=Tryz.underlying161
 a146:=Tryz.isAgg161
 z146:=Tryz.sizeOf161
 v146:=Tryz.zeroValue161
 g1:=by kernel_rfl
 i3:=by kernel_rfl
 i4:=by kernel_rfl
 i5:=by kernel_rfl
 i9:=by kernel_rfl
 i46:=by kernel_rfl
 i51:=by kernel_rfl
 i146:=by kernel_rfl
 m1:=by kernel_rfl
 s1_3:=fun w h=>Go.Proofs.cell_of_shapedOpen_int (zero:= #[.int .i64 0]) (t:=3) h (of_decide_eq_true (by kernel_rfl)) (by kernel_rfl) rfl (by kernel_rfl) (by kernel_rfl) Tryz.underlying3}
open Go.RowKit Go.Lib in
theorem Tryz.stringslite_Cut_shaped (s sep:ByteArray) (w:World) (h:w.ShapedOpen Tryz.prog) (hs:s.size<4294967281):
  Calls Tryz.prog 133 #[.string s, .string sep] w fun e w'=>e= .returned (.tuple #[.string ⟨(Lib.cut s.data.toList sep.data.toList).1.toArray⟩, .string ⟨(Lib.cut s.data.toList sep.data.toList).2.1.toArray⟩, .bool (Lib.cut s.data.toList sep.data.toList).2.2])∧ ∃n,w'=w.drewN n:=Any.stringslite_Cut_shaped Tryz.laysM220 s sep w h hs
def Tryz.laysM145_ren:Go.Shelf.Ren:=⟨fun|145=>114|220=>133|219=>140|217=>147|225=>148|224=>149|267=>150|266=>155|314=>156|n=>n,fun|9=>9|4=>4|59=>101|3=>3|5=>5|46=>157|146=>161|51=>160|n=>n,fun|1=>0|n=>n⟩
theorem Tryz.laysM145:Go.Proofs.LaysM.n145 Tryz.prog Tryz.laysM145_ren:={
 mixed:=by kernel_rfl
 f145:=Tryz.func114.trans (congrArg some (by kernel_rfl))
 f217:=Tryz.func147.trans (congrArg some (by kernel_rfl))
 f219:=Tryz.func140.trans (congrArg some (by kernel_rfl))
 f220:=Tryz.func133.trans (congrArg some (by kernel_rfl))
 f224:=Tryz.func149.trans (congrArg some (by kernel_rfl))
 f225:=Tryz.func148.trans (congrArg some (by kernel_rfl))
 f266:=Tryz.func155.trans (congrArg some (by kernel_rfl))
 f267:=Tryz.func150.trans (congrArg some (by kernel_rfl))
 f314:=Tryz.func156.trans (congrArg some (by kernel_rfl))
 t3:=Tryz.underlying3
 a3:=Tryz.isAgg3
 z3:=Tryz.sizeOf3
 v3:=Tryz.zeroValue3
 t4:=Tryz.underlying4
 a4:=Tryz.isAgg4
 z4:=Tryz.sizeOf4
 v4:=Tryz.zeroValue4
 t5:=Tryz.underlying5
 a5:=Tryz.isAgg5
 z5:=Tryz.sizeOf5
 v5:=Tryz.zeroValue5
 t9:=Tryz.underlying9
 a9:=Tryz.isAgg9
 z9:=Tryz.sizeOf9
 v9:=Tryz.zeroValue9
 t46:=Tryz.underlying157
 a46:=Tryz.isAgg157
 z46:=Tryz.sizeOf157
 v46:=Tryz.zeroValue157
 t51:=Tryz.underlying160
 a51:=Tryz.isAgg160
 z51:=Tryz.sizeOf160
 v51:=Tryz.zeroValue160
 t59:=Tryz.underlying101
 a59:=Tryz.isAgg101
 z59:=Tryz.sizeOf101
 v59:=Tryz.zeroValue101
 t146:=Tryz.underlying161
 a146:=Tryz.isAgg161
 z146:=Tryz.sizeOf161
 v146:=Tryz.zeroValue161
 g1:=by kernel_rfl
 i3:=by kernel_rfl
 i4:=by kernel_rfl
 i5:=by kernel_rfl
 i9:=by kernel_rfl
 i46:=by kernel_rfl
 i51:=by kernel_rfl
 i59:=by kernel_rfl
 i146:=by kernel_rfl
 m1:=by kernel_rfl
 s1_3:=fun w h=>Go.Proofs.cell_of_shapedOpen_int (zero:= #[.int .i64 0]) (t:=3) h (of_decide_eq_true (by kernel_rfl)) (by kernel_rfl) rfl (by kernel_rfl) (by kernel_rfl) Tryz.underlying3}
open Go.RowKit Go.Lib in
theorem Tryz.strings_Cut_shaped (s sep:ByteArray) (w:World) (h:w.ShapedOpen Tryz.prog) (hs:s.size<4294967281):
  Calls Tryz.prog 114 #[.string s, .string sep] w fun e w'=>e= .returned (.tuple #[.string ⟨(Lib.cut s.data.toList sep.data.toList).1.toArray⟩, .string ⟨(Lib.cut s.data.toList sep.data.toList).2.1.toArray⟩, .bool (Lib.cut s.data.toList sep.data.toList).2.2])∧ ∃n,w'=w.drewN n:=Any.strings_Cut_shaped Tryz.laysM145 s sep w h hs
def Tryz.laysM138_ren:Go.Shelf.Ren:=⟨fun|138=>158|195=>163|218=>165|143=>159|219=>140|217=>147|225=>148|224=>149|267=>150|266=>155|314=>156|n=>n,fun|9=>9|3=>3|4=>4|5=>5|0=>0|46=>157|146=>161|51=>160|n=>n,fun|1=>0|n=>n⟩
theorem Tryz.laysM138:Go.Proofs.LaysM.n138 Tryz.prog Tryz.laysM138_ren:={
 mixed:=by kernel_rfl
 f138:=Tryz.func158.trans (congrArg some (by kernel_rfl))
 f143:=Tryz.func159.trans (congrArg some (by kernel_rfl))
 f195:=Tryz.func163.trans (congrArg some (by kernel_rfl))
 f217:=Tryz.func147.trans (congrArg some (by kernel_rfl))
 f218:=Tryz.func165.trans (congrArg some (by kernel_rfl))
 f219:=Tryz.func140.trans (congrArg some (by kernel_rfl))
 f224:=Tryz.func149.trans (congrArg some (by kernel_rfl))
 f225:=Tryz.func148.trans (congrArg some (by kernel_rfl))
 f266:=Tryz.func155.trans (congrArg some (by kernel_rfl))
 f267:=Tryz.func150.trans (congrArg some (by kernel_rfl))
 f314:=Tryz.func156.trans (congrArg some (by kernel_rfl))
 t0:=Tryz.underlying0
 a0:=Tryz.isAgg0
 z0:=Tryz.sizeOf0
 v0:=Tryz.zeroValue0
 t3:=Tryz.underlying3
 a3:=Tryz.isAgg3
 z3:=Tryz.sizeOf3
 v3:=Tryz.zeroValue3
 t4:=Tryz.underlying4
 a4:=Tryz.isAgg4
 z4:=Tryz.sizeOf4
 v4:=Tryz.zeroValue4
 t5:=Tryz.underlying5
 a5:=Tryz.isAgg5
 z5:=Tryz.sizeOf5
 v5:=Tryz.zeroValue5
 t9:=Tryz.underlying9
 a9:=Tryz.isAgg9
 z9:=Tryz.sizeOf9
 v9:=Tryz.zeroValue9
 t46:=Tryz.underlying157
 a46:=Tryz.isAgg157
 z46:=Tryz.sizeOf157
 v46:=Tryz.zeroValue157
 t51:=Tryz.underlying160
 a51:=Tryz.isAgg160
 z51:=Tryz.sizeOf160
 v51:=Tryz.zeroValue160
 t146:=Tryz.underlying161
 a146:=Tryz.isAgg161
 z146:=Tryz.sizeOf161
 v146:=Tryz.zeroValue161
 g1:=by kernel_rfl
 i0:=by kernel_rfl
 i3:=by kernel_rfl
 i4:=by kernel_rfl
 i5:=by kernel_rfl
 i9:=by kernel_rfl
 i46:=by kernel_rfl
 i51:=by kernel_rfl
 i146:=by kernel_rfl
 m1:=by kernel_rfl
 s1_3:=fun w h=>Go.Proofs.cell_of_shapedOpen_int (zero:= #[.int .i64 0]) (t:=3) h (of_decide_eq_true (by kernel_rfl)) (by kernel_rfl) rfl (by kernel_rfl) (by kernel_rfl) Tryz.underlying3}
open Go.RowKit Go.Lib in
theorem Tryz.strings_Count_shaped (s sub:ByteArray) (w:World) (h:w.ShapedOpen Tryz.prog) (hs:s.size<4294967281) (h2:2≤sub.size):
  Calls Tryz.prog 158 #[.string s, .string sub] w fun e w'=>e= .returned (.int .i64 (Lib.countB s sub))∧w'=w:=Any.strings_Count_shaped Tryz.laysM138 s sub w h hs h2
def Tryz.lays206_ren:Go.Shelf.Ren:=⟨fun|206=>139|n=>n,fun|9=>9|4=>4|3=>3|n=>n,fun|n=>n⟩
theorem Tryz.lays206:Go.Proofs.Lays.n206 Tryz.prog Tryz.lays206_ren:={
 mixed:=by kernel_rfl
 f206:=Tryz.func139.trans (congrArg some (by kernel_rfl))
 t3:=Tryz.underlying3
 a3:=Tryz.isAgg3
 z3:=Tryz.sizeOf3
 v3:=Tryz.zeroValue3
 t4:=Tryz.underlying4
 a4:=Tryz.isAgg4
 z4:=Tryz.sizeOf4
 v4:=Tryz.zeroValue4
 t9:=Tryz.underlying9
 a9:=Tryz.isAgg9
 z9:=Tryz.sizeOf9
 v9:=Tryz.zeroValue9}
open Go.RowKit Go.Lib in
theorem Tryz.stringslite_HasPrefix (s p:ByteArray) (w:World):
  Calls Tryz.prog 139 #[.string s, .string p] w fun e w'=>e= .returned (.bool (Lib.hasPrefix s.data.toList p.data.toList))∧w'=w:=Any.stringslite_HasPrefix Tryz.lays206 s p w
open Go.RowKit Go.Lib in
theorem Tryz.strings_Count_any (s sep:ByteArray) (m:Int) (w:World) (hs:s.size<4294967281) (hm:w.cell? ⟨0,0,none⟩=some (.int .i64 m)) (h1:1≤sep.size):
  Calls Tryz.prog 158 #[.string s, .string sep] w fun e w'=>e= .returned (.int .i64 (Lib.countB s sep))∧w'=w:=Any.strings_Count_any Tryz.lays138 s sep m w hs hm h1
def Tryz.lays221_ren:Go.Shelf.Ren:=⟨fun|221=>151|268=>157|138=>158|143=>159|195=>163|197=>164|218=>165|219=>140|260=>168|217=>147|225=>148|224=>149|267=>150|266=>155|314=>156|n=>n,fun|9=>9|3=>3|31=>22|4=>4|0=>0|105=>174|21=>21|5=>5|46=>157|119=>180|139=>183|138=>182|146=>161|51=>160|n=>n,fun|1=>0|3=>1|4=>2|n=>n⟩
theorem Tryz.lays221:Go.Proofs.Lays.n221 Tryz.prog Tryz.lays221_ren:={
 mixed:=by kernel_rfl
 f138:=Tryz.func158.trans (congrArg some (by kernel_rfl))
 f143:=Tryz.func159.trans (congrArg some (by kernel_rfl))
 f195:=Tryz.func163.trans (congrArg some (by kernel_rfl))
 f197:=Tryz.func164.trans (congrArg some (by kernel_rfl))
 f217:=Tryz.func147.trans (congrArg some (by kernel_rfl))
 f218:=Tryz.func165.trans (congrArg some (by kernel_rfl))
 f219:=Tryz.func140.trans (congrArg some (by kernel_rfl))
 f221:=Tryz.func151.trans (congrArg some (by kernel_rfl))
 f224:=Tryz.func149.trans (congrArg some (by kernel_rfl))
 f225:=Tryz.func148.trans (congrArg some (by kernel_rfl))
 f260:=Tryz.func168.trans (congrArg some (by kernel_rfl))
 f266:=Tryz.func155.trans (congrArg some (by kernel_rfl))
 f267:=Tryz.func150.trans (congrArg some (by kernel_rfl))
 f268:=Tryz.func157.trans (congrArg some (by kernel_rfl))
 f314:=Tryz.func156.trans (congrArg some (by kernel_rfl))
 t0:=Tryz.underlying0
 a0:=Tryz.isAgg0
 z0:=Tryz.sizeOf0
 v0:=Tryz.zeroValue0
 t3:=Tryz.underlying3
 a3:=Tryz.isAgg3
 z3:=Tryz.sizeOf3
 v3:=Tryz.zeroValue3
 t4:=Tryz.underlying4
 a4:=Tryz.isAgg4
 z4:=Tryz.sizeOf4
 v4:=Tryz.zeroValue4
 t5:=Tryz.underlying5
 a5:=Tryz.isAgg5
 z5:=Tryz.sizeOf5
 v5:=Tryz.zeroValue5
 t9:=Tryz.underlying9
 a9:=Tryz.isAgg9
 z9:=Tryz.sizeOf9
 v9:=Tryz.zeroValue9
 t21:=Tryz.underlying21
 a21:=Tryz.isAgg21
 z21:=Tryz.sizeOf21
 v21:=Tryz.zeroValue21
 t31:=Tryz.underlying22
 a31:=Tryz.isAgg22
 z31:=Tryz.sizeOf22
 v31:=Tryz.zeroValue22
 t46:=Tryz.underlying157
 a46:=Tryz.isAgg157
 z46:=Tryz.sizeOf157
 v46:=Tryz.zeroValue157
 t51:=Tryz.underlying160
 a51:=Tryz.isAgg160
 z51:=Tryz.sizeOf160
 v51:=Tryz.zeroValue160
 t105:=Tryz.underlying174
 a105:=Tryz.isAgg174
 z105:=Tryz.sizeOf174
 v105:=Tryz.zeroValue174
 t119:=Tryz.underlying180
 a119:=Tryz.isAgg180
 z119:=Tryz.sizeOf180
 t138:=Tryz.underlying182
 a138:=Tryz.isAgg182
 z138:=Tryz.sizeOf182
 v138:=Tryz.zeroValue182
 t139:=Tryz.underlying183
 a139:=Tryz.isAgg183
 z139:=Tryz.sizeOf183
 v139:=Tryz.zeroValue183
 t146:=Tryz.underlying161
 a146:=Tryz.isAgg161
 z146:=Tryz.sizeOf161
 v146:=Tryz.zeroValue161
 g1:=by kernel_rfl
 g3:=by kernel_rfl
 g4:=by kernel_rfl}
open Go.RowKit Go.Lib in
theorem Tryz.strings_genSplit (s sep:ByteArray) (sv:Nat) (n:Int) (N:Nat) (m:Int) (w:World) (hs:s.size<4294967281) (hm:w.cell? ⟨0,0,none⟩=some (.int .i64 m)) (h1:1≤sep.size) (hsv:sv≤sep.size) (hn0:n≠0) (hn63:n≤9223372036854775807) (hN:(N:Int)=min (if n<0 then(Lib.countB s sep:Int)+1 else n) ((s.size:Int)+1)):
  Calls Tryz.prog 151 #[.string s, .string sep, .int .i64 sv, .int .i64 n] w fun e w'=>
   e= .returned (.slice (some ⟨w.heap.size,0,none⟩) (Lib.splitB sep sv (N-1) s).length N)∧w'=w.alloc (.cells (Lib.cellsOf (Lib.splitB sep sv (N-1) s) N) 9):=Any.strings_genSplit Tryz.lays221 (by kernel_rfl) s sep sv n N m w hs hm h1 hsv hn0 hn63 hN
def Tryz.lays146_ren:Go.Shelf.Ren:=⟨fun|146=>143|221=>151|268=>157|138=>158|143=>159|195=>163|197=>164|218=>165|219=>140|260=>168|217=>147|225=>148|224=>149|267=>150|266=>155|314=>156|n=>n,fun|9=>9|31=>22|3=>3|4=>4|0=>0|105=>174|21=>21|5=>5|46=>157|119=>180|139=>183|138=>182|146=>161|51=>160|n=>n,fun|1=>0|3=>1|4=>2|n=>n⟩
theorem Tryz.lays146:Go.Proofs.Lays.n146 Tryz.prog Tryz.lays146_ren:={
 mixed:=by kernel_rfl
 f138:=Tryz.func158.trans (congrArg some (by kernel_rfl))
 f143:=Tryz.func159.trans (congrArg some (by kernel_rfl))
 f146:=Tryz.func143.trans (congrArg some (by kernel_rfl))
 f195:=Tryz.func163.trans (congrArg some (by kernel_rfl))
 f197:=Tryz.func164.trans (congrArg some (by kernel_rfl))
 f217:=Tryz.func147.trans (congrArg some (by kernel_rfl))
 f218:=Tryz.func165.trans (congrArg some (by kernel_rfl))
 f219:=Tryz.func140.trans (congrArg some (by kernel_rfl))
 f221:=Tryz.func151.trans (congrArg some (by kernel_rfl))
 f224:=Tryz.func149.trans (congrArg some (by kernel_rfl))
 f225:=Tryz.func148.trans (congrArg some (by kernel_rfl))
 f260:=Tryz.func168.trans (congrArg some (by kernel_rfl))
 f266:=Tryz.func155.trans (congrArg some (by kernel_rfl))
 f267:=Tryz.func150.trans (congrArg some (by kernel_rfl))
 f268:=Tryz.func157.trans (congrArg some (by kernel_rfl))
 f314:=Tryz.func156.trans (congrArg some (by kernel_rfl))
 t0:=Tryz.underlying0
 a0:=Tryz.isAgg0
 z0:=Tryz.sizeOf0
 v0:=Tryz.zeroValue0
 t3:=Tryz.underlying3
 a3:=Tryz.isAgg3
 z3:=Tryz.sizeOf3
 v3:=Tryz.zeroValue3
 t4:=Tryz.underlying4
 a4:=Tryz.isAgg4
 z4:=Tryz.sizeOf4
 v4:=Tryz.zeroValue4
 t5:=Tryz.underlying5
 a5:=Tryz.isAgg5
 z5:=Tryz.sizeOf5
 v5:=Tryz.zeroValue5
 t9:=Tryz.underlying9
 a9:=Tryz.isAgg9
 z9:=Tryz.sizeOf9
 v9:=Tryz.zeroValue9
 t21:=Tryz.underlying21
 a21:=Tryz.isAgg21
 z21:=Tryz.sizeOf21
 v21:=Tryz.zeroValue21
 t31:=Tryz.underlying22
 a31:=Tryz.isAgg22
 z31:=Tryz.sizeOf22
 v31:=Tryz.zeroValue22
 t46:=Tryz.underlying157
 a46:=Tryz.isAgg157
 z46:=Tryz.sizeOf157
 v46:=Tryz.zeroValue157
 t51:=Tryz.underlying160
 a51:=Tryz.isAgg160
 z51:=Tryz.sizeOf160
 v51:=Tryz.zeroValue160
 t105:=Tryz.underlying174
 a105:=Tryz.isAgg174
 z105:=Tryz.sizeOf174
 v105:=Tryz.zeroValue174
 t119:=Tryz.underlying180
 a119:=Tryz.isAgg180
 z119:=Tryz.sizeOf180
 t138:=Tryz.underlying182
 a138:=Tryz.isAgg182
 z138:=Tryz.sizeOf182
 v138:=Tryz.zeroValue182
 t139:=Tryz.underlying183
 a139:=Tryz.isAgg183
 z139:=Tryz.sizeOf183
 v139:=Tryz.zeroValue183
 t146:=Tryz.underlying161
 a146:=Tryz.isAgg161
 z146:=Tryz.sizeOf161
 v146:=Tryz.zeroValue161
 g1:=by kernel_rfl
 g3:=by kernel_rfl
 g4:=by kernel_rfl}
open Go.RowKit Go.Lib in
theorem Tryz.strings_Split (s sep:ByteArray) (m:Int) (w:World) (hs:s.size<4294967281) (hm:w.cell? ⟨0,0,none⟩=some (.int .i64 m)) (h1:1≤sep.size):
  Calls Tryz.prog 143 #[.string s, .string sep] w fun e w'=>
   e= .returned (.slice (some ⟨w.heap.size,0,none⟩) (Lib.countB s sep+1) (Lib.countB s sep+1))∧w'=w.alloc (.cells ((Lib.splitB sep 0 (Lib.countB s sep) s).map Value.string).toArray 9):=Any.strings_Split Tryz.lays146 (by kernel_rfl) s sep m w hs hm h1
def Tryz.laysM146_ren:Go.Shelf.Ren:=⟨fun|146=>143|221=>151|268=>157|138=>158|143=>159|195=>163|197=>164|218=>165|219=>140|260=>168|217=>147|225=>148|224=>149|267=>150|266=>155|314=>156|n=>n,fun|9=>9|31=>22|3=>3|4=>4|0=>0|105=>174|21=>21|5=>5|46=>157|119=>180|139=>183|138=>182|146=>161|51=>160|n=>n,fun|1=>0|3=>1|4=>2|n=>n⟩
theorem Tryz.laysM146:Go.Proofs.LaysM.n146 Tryz.prog Tryz.laysM146_ren:={
 mixed:=by kernel_rfl
 f138:=Tryz.func158.trans (congrArg some (by kernel_rfl))
 f143:=Tryz.func159.trans (congrArg some (by kernel_rfl))
 f146:=Tryz.func143.trans (congrArg some (by kernel_rfl))
 f195:=Tryz.func163.trans (congrArg some (by kernel_rfl))
 f197:=Tryz.func164.trans (congrArg some (by kernel_rfl))
 f217:=Tryz.func147.trans (congrArg some (by kernel_rfl))
 f218:=Tryz.func165.trans (congrArg some (by kernel_rfl))
 f219:=Tryz.func140.trans (congrArg some (by kernel_rfl))
 f221:=Tryz.func151.trans (congrArg some (by kernel_rfl))
 f224:=Tryz.func149.trans (congrArg some (by kernel_rfl))
 f225:=Tryz.func148.trans (congrArg some (by kernel_rfl))
 f260:=Tryz.func168.trans (congrArg some (by kernel_rfl))
 f266:=Tryz.func155.trans (congrArg some (by kernel_rfl))
 f267:=Tryz.func150.trans (congrArg some (by kernel_rfl))
 f268:=Tryz.func157.trans (congrArg some (by kernel_rfl))
 f314:=Tryz.func156.trans (congrArg some (by kernel_rfl))
 t0:=Tryz.underlying0
 a0:=Tryz.isAgg0
 z0:=Tryz.sizeOf0
 v0:=Tryz.zeroValue0
 t3:=Tryz.underlying3
 a3:=Tryz.isAgg3
 z3:=Tryz.sizeOf3
 v3:=Tryz.zeroValue3
 t4:=Tryz.underlying4
 a4:=Tryz.isAgg4
 z4:=Tryz.sizeOf4
 v4:=Tryz.zeroValue4
 t5:=Tryz.underlying5
 a5:=Tryz.isAgg5
 z5:=Tryz.sizeOf5
 v5:=Tryz.zeroValue5
 t9:=Tryz.underlying9
 a9:=Tryz.isAgg9
 z9:=Tryz.sizeOf9
 v9:=Tryz.zeroValue9
 t21:=Tryz.underlying21
 a21:=Tryz.isAgg21
 z21:=Tryz.sizeOf21
 v21:=Tryz.zeroValue21
 t31:=Tryz.underlying22
 a31:=Tryz.isAgg22
 z31:=Tryz.sizeOf22
 v31:=Tryz.zeroValue22
 t46:=Tryz.underlying157
 a46:=Tryz.isAgg157
 z46:=Tryz.sizeOf157
 v46:=Tryz.zeroValue157
 t51:=Tryz.underlying160
 a51:=Tryz.isAgg160
 z51:=Tryz.sizeOf160
 v51:=Tryz.zeroValue160
 t105:=Tryz.underlying174
 a105:=Tryz.isAgg174
 z105:=Tryz.sizeOf174
 v105:=Tryz.zeroValue174
 t119:=Tryz.underlying180
 a119:=Tryz.isAgg180
 z119:=Tryz.sizeOf180
 t138:=Tryz.underlying182
 a138:=Tryz.isAgg182
 z138:=Tryz.sizeOf182
 v138:=Tryz.zeroValue182
 t139:=Tryz.underlying183
 a139:=Tryz.isAgg183
 z139:=Tryz.sizeOf183
 v139:=Tryz.zeroValue183
 t146:=Tryz.underlying161
 a146:=Tryz.isAgg161
 z146:=Tryz.sizeOf161
 v146:=Tryz.zeroValue161
 g1:=by kernel_rfl
 g3:=by kernel_rfl
 g4:=by kernel_rfl
 i0:=by kernel_rfl
 i3:=by kernel_rfl
 i4:=by kernel_rfl
 i5:=by kernel_rfl
 i9:=by kernel_rfl
 i21:=by kernel_rfl
 i31:=by kernel_rfl
 i46:=by kernel_rfl
 i51:=by kernel_rfl
 i105:=by kernel_rfl
 i138:=by kernel_rfl
 i139:=by kernel_rfl
 i146:=by kernel_rfl
 m1:=by kernel_rfl
 s1_3:=fun w h=>Go.Proofs.cell_of_shapedOpen_int (zero:= #[.int .i64 0]) (t:=3) h (of_decide_eq_true (by kernel_rfl)) (by kernel_rfl) rfl (by kernel_rfl) (by kernel_rfl) Tryz.underlying3
 m3:=by kernel_rfl
 m4:=by kernel_rfl}
open Go.RowKit Go.Lib in
theorem Tryz.strings_Split_shaped (s sep:ByteArray) (w:World) (h:w.ShapedOpen Tryz.prog) (hs:s.size<4294967281) (h1:1≤sep.size):
  Calls Tryz.prog 143 #[.string s, .string sep] w fun e w'=>
   e= .returned (.slice (some ⟨w.heap.size,0,none⟩) (Lib.countB s sep+1) (Lib.countB s sep+1))∧w'=w.alloc (.cells ((Lib.splitB sep 0 (Lib.countB s sep) s).map Value.string).toArray 9):=Any.strings_Split_shaped Tryz.laysM146 s sep w h hs h1
def Tryz.lays197_ren:Go.Shelf.Ren:=⟨fun|197=>164|260=>168|n=>n,fun|9=>9|21=>21|3=>3|4=>4|5=>5|105=>174|119=>180|0=>0|46=>157|139=>183|138=>182|n=>n,fun|3=>1|4=>2|n=>n⟩
theorem Tryz.lays197:Go.Proofs.Lays.n197 Tryz.prog Tryz.lays197_ren:={
 mixed:=by kernel_rfl
 f197:=Tryz.func164.trans (congrArg some (by kernel_rfl))
 f260:=Tryz.func168.trans (congrArg some (by kernel_rfl))
 t0:=Tryz.underlying0
 a0:=Tryz.isAgg0
 z0:=Tryz.sizeOf0
 v0:=Tryz.zeroValue0
 t3:=Tryz.underlying3
 a3:=Tryz.isAgg3
 z3:=Tryz.sizeOf3
 v3:=Tryz.zeroValue3
 t4:=Tryz.underlying4
 a4:=Tryz.isAgg4
 z4:=Tryz.sizeOf4
 v4:=Tryz.zeroValue4
 t5:=Tryz.underlying5
 a5:=Tryz.isAgg5
 z5:=Tryz.sizeOf5
 v5:=Tryz.zeroValue5
 t9:=Tryz.underlying9
 a9:=Tryz.isAgg9
 z9:=Tryz.sizeOf9
 v9:=Tryz.zeroValue9
 t21:=Tryz.underlying21
 a21:=Tryz.isAgg21
 z21:=Tryz.sizeOf21
 v21:=Tryz.zeroValue21
 t46:=Tryz.underlying157
 a46:=Tryz.isAgg157
 z46:=Tryz.sizeOf157
 v46:=Tryz.zeroValue157
 t105:=Tryz.underlying174
 a105:=Tryz.isAgg174
 z105:=Tryz.sizeOf174
 v105:=Tryz.zeroValue174
 t119:=Tryz.underlying180
 a119:=Tryz.isAgg180
 z119:=Tryz.sizeOf180
 t138:=Tryz.underlying182
 a138:=Tryz.isAgg182
 z138:=Tryz.sizeOf182
 v138:=Tryz.zeroValue182
 t139:=Tryz.underlying183
 a139:=Tryz.isAgg183
 z139:=Tryz.sizeOf183
 v139:=Tryz.zeroValue183
 g3:=by kernel_rfl
 g4:=by kernel_rfl}
open Go.RowKit Go.Lib in
theorem Tryz.utf8_DecodeRuneInString_ascii (s:ByteArray) (x:UInt8) (w:World) (h0:s.data.toList[0]?=some x) (hx:x.toNat<128):
  Calls Tryz.prog 164 #[.string s] w fun e w'=>e= .returned (.tuple #[.int .i32 x.toNat, .int .i64 1])∧w'=w:=Any.utf8_DecodeRuneInString_ascii Tryz.lays197 s x w h0 hx
open Go.RowKit Go.Lib in
theorem Tryz.utf8_RuneCountInString_ascii (s:ByteArray) (w:World) (hs:s.size<4294967281) (hascii: ∀(j:Nat) b,s.data.toList[j]?=some b→b.toNat<128):
  Calls Tryz.prog 163 #[.string s] w fun e w'=>e= .returned (.int .i64 s.size)∧w'=w.iter s s.size:=Any.utf8_RuneCountInString_ascii Tryz.lays195 s w hs hascii
def Tryz.lays268_ren:Go.Shelf.Ren:=⟨fun|268=>157|195=>163|197=>164|260=>168|n=>n,fun|9=>9|3=>3|31=>22|4=>4|105=>174|21=>21|0=>0|5=>5|119=>180|46=>157|139=>183|138=>182|n=>n,fun|3=>1|4=>2|n=>n⟩
theorem Tryz.lays268:Go.Proofs.Lays.n268 Tryz.prog Tryz.lays268_ren:={
 mixed:=by kernel_rfl
 f195:=Tryz.func163.trans (congrArg some (by kernel_rfl))
 f197:=Tryz.func164.trans (congrArg some (by kernel_rfl))
 f260:=Tryz.func168.trans (congrArg some (by kernel_rfl))
 f268:=Tryz.func157.trans (congrArg some (by kernel_rfl))
 t0:=Tryz.underlying0
 a0:=Tryz.isAgg0
 z0:=Tryz.sizeOf0
 v0:=Tryz.zeroValue0
 t3:=Tryz.underlying3
 a3:=Tryz.isAgg3
 z3:=Tryz.sizeOf3
 v3:=Tryz.zeroValue3
 t4:=Tryz.underlying4
 a4:=Tryz.isAgg4
 z4:=Tryz.sizeOf4
 v4:=Tryz.zeroValue4
 t5:=Tryz.underlying5
 a5:=Tryz.isAgg5
 z5:=Tryz.sizeOf5
 v5:=Tryz.zeroValue5
 t9:=Tryz.underlying9
 a9:=Tryz.isAgg9
 z9:=Tryz.sizeOf9
 v9:=Tryz.zeroValue9
 t21:=Tryz.underlying21
 a21:=Tryz.isAgg21
 z21:=Tryz.sizeOf21
 v21:=Tryz.zeroValue21
 t31:=Tryz.underlying22
 a31:=Tryz.isAgg22
 z31:=Tryz.sizeOf22
 v31:=Tryz.zeroValue22
 t46:=Tryz.underlying157
 a46:=Tryz.isAgg157
 z46:=Tryz.sizeOf157
 v46:=Tryz.zeroValue157
 t105:=Tryz.underlying174
 a105:=Tryz.isAgg174
 z105:=Tryz.sizeOf174
 v105:=Tryz.zeroValue174
 t119:=Tryz.underlying180
 a119:=Tryz.isAgg180
 z119:=Tryz.sizeOf180
 t138:=Tryz.underlying182
 a138:=Tryz.isAgg182
 z138:=Tryz.sizeOf182
 v138:=Tryz.zeroValue182
 t139:=Tryz.underlying183
 a139:=Tryz.isAgg183
 z139:=Tryz.sizeOf183
 v139:=Tryz.zeroValue183
 g3:=by kernel_rfl
 g4:=by kernel_rfl}
open Go.RowKit Go.Lib in
theorem Tryz.strings_explode_all (s:ByteArray) (n:Int) (w:World) (hn:n<0) (hs:s.size<4294967281) (hascii: ∀(j:Nat) b,s.data.toList[j]?=some b→b.toNat<128):
  Calls Tryz.prog 157 #[.string s, .int .i64 n] w fun e w'=>
   e= .returned (.slice (some ⟨(w.iter s s.size).heap.size,0,none⟩) s.size s.size)∧w'=(w.iter s s.size).alloc (.cells ((Lib.charsB s).map Value.string).toArray 9):=Any.strings_explode_all Tryz.lays268 (by kernel_rfl) s n w hn hs hascii
open Go.RowKit Go.Lib in
theorem Tryz.strings_genSplit_chars (s sep:ByteArray) (sv n:Int) (w:World) (h0:sep.size=0) (hn:n<0) (hs:s.size<4294967281) (hascii: ∀(j:Nat) b,s.data.toList[j]?=some b→b.toNat<128):
  Calls Tryz.prog 151 #[.string s, .string sep, .int .i64 sv, .int .i64 n] w fun e w'=>
   e= .returned (.slice (some ⟨(w.iter s s.size).heap.size,0,none⟩) s.size s.size)∧w'=(w.iter s s.size).alloc (.cells ((Lib.charsB s).map Value.string).toArray 9):=Any.strings_genSplit_chars Tryz.lays221 (by kernel_rfl) s sep sv n w h0 hn hs hascii
open Go.RowKit Go.Lib in
theorem Tryz.strings_Split_chars (s sep:ByteArray) (w:World) (h0:sep.size=0) (hs:s.size<4294967281) (hascii: ∀(j:Nat) b,s.data.toList[j]?=some b→b.toNat<128):
  Calls Tryz.prog 143 #[.string s, .string sep] w fun e w'=>
   e= .returned (.slice (some ⟨(w.iter s s.size).heap.size,0,none⟩) s.size s.size)∧w'=(w.iter s s.size).alloc (.cells ((Lib.charsB s).map Value.string).toArray 9):=Any.strings_Split_chars Tryz.lays146 (by kernel_rfl) s sep w h0 hs hascii
def Tryz.lays260_ren:Go.Shelf.Ren:=⟨fun|260=>168|n=>n,fun|9=>9|21=>21|3=>3|4=>4|5=>5|119=>180|0=>0|46=>157|139=>183|138=>182|n=>n,fun|3=>1|4=>2|n=>n⟩
theorem Tryz.lays260:Go.Proofs.Lays.n260 Tryz.prog Tryz.lays260_ren:={
 mixed:=by kernel_rfl
 f260:=Tryz.func168.trans (congrArg some (by kernel_rfl))
 t0:=Tryz.underlying0
 a0:=Tryz.isAgg0
 z0:=Tryz.sizeOf0
 v0:=Tryz.zeroValue0
 t3:=Tryz.underlying3
 a3:=Tryz.isAgg3
 z3:=Tryz.sizeOf3
 v3:=Tryz.zeroValue3
 t4:=Tryz.underlying4
 a4:=Tryz.isAgg4
 z4:=Tryz.sizeOf4
 v4:=Tryz.zeroValue4
 t5:=Tryz.underlying5
 a5:=Tryz.isAgg5
 z5:=Tryz.sizeOf5
 v5:=Tryz.zeroValue5
 t9:=Tryz.underlying9
 a9:=Tryz.isAgg9
 z9:=Tryz.sizeOf9
 v9:=Tryz.zeroValue9
 t21:=Tryz.underlying21
 a21:=Tryz.isAgg21
 z21:=Tryz.sizeOf21
 v21:=Tryz.zeroValue21
 t46:=Tryz.underlying157
 a46:=Tryz.isAgg157
 z46:=Tryz.sizeOf157
 v46:=Tryz.zeroValue157
 t119:=Tryz.underlying180
 a119:=Tryz.isAgg180
 z119:=Tryz.sizeOf180
 t138:=Tryz.underlying182
 a138:=Tryz.isAgg182
 z138:=Tryz.sizeOf182
 v138:=Tryz.zeroValue182
 t139:=Tryz.underlying183
 a139:=Tryz.isAgg183
 z139:=Tryz.sizeOf183
 v139:=Tryz.zeroValue183
 g3:=by kernel_rfl
 g4:=by kernel_rfl}
open Go.RowKit Go.Lib in
theorem Tryz.utf8_decodeRuneInStringSlow (s:ByteArray) (w:World) (hT:Lib.Utf8Tabs 1 2 w):
  Calls Tryz.prog 168 #[.string s] w fun e w'=>e= .returned (.tuple #[.int .i32 (Lib.decodeGo s).1, .int .i64 (Lib.decodeGo s).2])∧Below w.heap.size w w':=Any.utf8_decodeRuneInStringSlow Tryz.lays260 s w hT
open Go.RowKit Go.Lib in
theorem Tryz.utf8_DecodeRuneInString (s:ByteArray) (w:World) (hT:Lib.Utf8Tabs 1 2 w):
  Calls Tryz.prog 164 #[.string s] w fun e w'=>e= .returned (.tuple #[.int .i32 (Lib.decodeGo s).1, .int .i64 (Lib.decodeGo s).2])∧Below w.heap.size w w':=Any.utf8_DecodeRuneInString Tryz.lays197 s w hT
end Go.Proofs
end
section
namespace Go.Proofs.YtecngjbpbnfegaaGreatDoor
open Go.RowKit
set_option maxRecDepth 100000
theorem zke: ∀(l:List UInt8) (c:UInt8), -1≤Lib.indexByte l c∧Lib.indexByte l c<l.length∨Lib.indexByte l c= -1
 | [],_=> .inr rfl
 |b::l,c=>by
  unfold Lib.indexByte
  rcases zke l c with h|h
  ·split
   ·left;simp
   ·split
    ·exact .inr rfl
    ·left;rw [List.length_cons];omega
  ·rw [h]
   split
   ·left;simp
   ·right;rfl
theorem zsG {n:Int} (h1: -9223372036854775808≤n) (h2:n≤9223372036854775807):InK .i64 n:=zdc h1 h2
theorem zAA {b:ByteArray} {c:UInt8} (h:b.data.toList= [c]):b=⟨#[c]⟩:=by
 cases b with
 |mk d=>cases d with
  |mk l=>simp at h;rw [h]
def zcf (s:List UInt8) (c:Int):Option Int:=some (Lib.indexByte s c.toNat.toUInt8)
theorem zgb (a0:List UInt8) (a1:Int) (r:Int) (h:zcf a0 a1=some r):Rts Tryz.prog sgs 147 [.str a0, .int .u8 a1] (.int .i64 r):=zsl (by kernel_rfl) fun w vs rf hr=>by
 obtain⟨b,us,rfl,rfl,hb,hr⟩:=zn0 hr
 obtain⟨us1,rfl,_,hr⟩:=zAB hr
 obtain⟨rfl,rfl⟩:=zm6 hr
 refine(Tryz.stringslite_IndexByte b a1 w).mono ?_
 rintro e w' ⟨rfl,rfl⟩
 cases h
 have hl:b.data.toList.length≤9223372036854775807:=by rw [Array.length_toList];exact hb
 exact⟨Mod.refl [] _,_, [],rfl, .int (by rcases zke b.data.toList a1.toNat.toUInt8 with h|h<;>exact zsG (by omega) (by omega)) .nil,by simp⟩
def zbm (s sub:List UInt8):Option Int:=match sub with| [c]=>some (Lib.indexByte s c)|_=>none
theorem zeE (a0 a1:List UInt8) (r:Int) (h:zbm a0 a1=some r):Rts Tryz.prog sgs 140 [.str a0, .str a1] (.int .i64 r):=zsl (by kernel_rfl) fun w vs rf hr=>by
 obtain⟨b,us,rfl,rfl,hb,hr⟩:=zn0 hr
 obtain⟨b1,us1,rfl,h1,_,hr⟩:=zn0 hr
 obtain⟨rfl,rfl⟩:=zm6 hr
 match a1,h,h1 with
 | [c],h,h1=>
  have:=zAA h1
  subst this
  refine(Tryz.stringslite_Index_one b c w).mono ?_
  rintro e w' ⟨rfl,rfl⟩
  cases h
  have hl:b.data.toList.length≤9223372036854775807:=by rw [Array.length_toList];exact hb
  exact⟨Mod.refl [] _,_, [],rfl, .int (by rcases zke b.data.toList c with h|h<;>exact zsG (by omega) (by omega)) .nil,by simp⟩
 | [],h,_=>cases h
 |_::_::_,h,_=>cases h
def zhQ (s sub:List UInt8):Option Int:=match sub with| [c]=>some (Lib.countByte s c:Int)|_=>none
theorem zpV (a0 a1:List UInt8) (r:Int) (h:zhQ a0 a1=some r):Rts Tryz.prog sgs 158 [.str a0, .str a1] (.int .i64 r):=zsl (by kernel_rfl) fun w vs rf hr=>by
 obtain⟨b,us,rfl,rfl,hb,hr⟩:=zn0 hr
 obtain⟨b1,us1,rfl,h1,_,hr⟩:=zn0 hr
 obtain⟨rfl,rfl⟩:=zm6 hr
 match a1,h,h1 with
 | [c],h,h1=>
  have:=zAA h1
  subst this
  refine(Tryz.strings_Count_one b c w).mono ?_
  rintro e w' ⟨rfl,rfl⟩
  cases h
  have hl:b.data.toList.length≤9223372036854775807:=by rw [Array.length_toList];exact hb
  have:Lib.countByte b.data.toList c≤b.data.toList.length:=List.count_le_length
  exact⟨Mod.refl [] _,_, [],rfl, .int (zsG (by omega) (by omega)) .nil,by simp⟩
 | [],h,_=>cases h
 |_::_::_,h,_=>cases h
def ziz (_:List UInt8) (_:Int):Option (List (List UInt8)):=none
theorem znA (a0:List UInt8) (a1:Int) (r:List (List UInt8)) (h:ziz a0 a1=some r):Rts Tryz.prog sgs 157 [.str a0, .int .i64 a1] (.sl (r.map zal)):=by cases h
def zh6 (xs:List (List UInt8)) (sep:List UInt8):Option (List UInt8):=req (xs.length≤140737488355328∧(Lib.join xs sep).length≤140737488355328) (some (Lib.join xs sep))
theorem znZ {w:World}: ∀{cs:List Value} {xs:List (List UInt8)} {f:List Nat},Rd w cs (zaQ (xs.map zal)) f→ ∃bs:List ByteArray,cs=bs.map Value.string∧bs.map (·.data.toList)=xs
 |cs, [],f,h=>by
  obtain⟨rfl,_⟩:=zm6 (by simpa [zaQ]using h)
  exact⟨[],rfl,rfl⟩
 |cs,x::xs,f,h=>by
  have h':Rd w cs (.str x::zaQ (xs.map zal)) f:=by simpa [zaQ]using h
  obtain⟨b,us,rfl,rfl,_,h2⟩:=zn0 h'
  obtain⟨bs,rfl,rfl⟩:=znZ h2
  exact⟨b::bs,rfl,rfl⟩
theorem zqk (a0:List (List UInt8)) (a1:List UInt8) (r:List UInt8) (h:zh6 a0 a1=some r):Rts Tryz.prog sgs 154 [.sl (a0.map zal), .str a1] (.str r):=zsl (by kernel_rfl) fun w vs rf hr=>by
 obtain⟨⟨hq1,hq2⟩,h⟩:=zfa h
 cases h
 generalize hx:a0.map zal=ys at hr
 cases hr with
 |snil hr=>
  obtain⟨b1,us1,rfl,rfl,_,hr⟩:=zn0 hr
  obtain⟨rfl,rfl⟩:=zm6 hr
  have:a0= []:=by simpa using hx
  subst this
  refine(Tryz.strings_Join_none _ _ b1 w).mono ?_
  rintro e w' ⟨rfl,rfl⟩
  exact⟨Mod.refl [] _,_, [],rfl, .str (by simp [ByteArray.size]) .nil,by simp⟩
 |scons hb h1 h2 h3 h4 h5 h6 h6' h7 hr=>
  rename_i bk o n c cs C t fz sz f1 vs f
  obtain⟨b1,us1,rfl,rfl,_,hr⟩:=zn0 hr
  obtain⟨rfl,rfl⟩:=zm6 hr
  subst hx
  obtain⟨bs,rfl,rfl⟩:=znZ h7
  have hn:n=bs.length:=by simpa using h3.symm
  subst hn
  have hbk:bk<w.heap.size:=zcn hb
  refine(Tryz.strings_Join bk o c bs b1 w (fun j x hx=> ?_) hbk (by simpa using hq1) h2.2 hq2).mono ?_
  ·have:=h6 j (.string x) (by simp [hx])
   rw [zax hb];exact this
  ·rintro e w' ⟨rfl,hbel⟩
   exact⟨.of_below hbel (Nat.le_refl _),_, [],rfl, .str (by simp [ByteArray.size];omega) .nil,by simp⟩
end Go.Proofs.YtecngjbpbnfegaaGreatDoor
end

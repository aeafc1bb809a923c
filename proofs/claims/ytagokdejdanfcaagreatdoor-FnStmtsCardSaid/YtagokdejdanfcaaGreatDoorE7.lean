/- Parts of a proof, joined: DA, DB, MA, MB, OB, OG, QA, QO, MC, MD, QT, TF, HB, SP, HL, IA, IC, IB, QM, QF1, QF2, QR, NA, ND, NE, N5. -/
import Derived.Test.YtagokdejdanfcaaGreatDoorE6
import Derived.Test.YtagokdejdanfcaaGreatDoorProg
import Derived.Test.YtagokdejdanfcaaGreatDoorChecked
import Derived.Shelf.Strings.Builder1
import Derived.Shelf.Strings.Builder2
import Derived.Shelf.Strings.OnBuilder
import Derived.Shelf.Small.Strs
import Derived.Shelf.Strings.BuilderF
import Derived.Shelf.Strings.BuilderK
import Derived.Shelf.Utf8.RuneCount
import Derived.Shelf.Strings.Builder2Cap
import Derived.Shelf.Strings.Search1
import Derived.Shelf.Strings.Search2
import Derived.Shelf.Strings.Search3
import Derived.Shelf.Strings.Count
import Derived.Shelf.LaysM
import Derived.Shelf.Strings.Shaped
import Derived.Shelf.Strings.Split
import Derived.Shelf.Strings.SplitShaped
import Derived.Shelf.Unicode.Decode
import Derived.Shelf.Strings.RuneCount
import Derived.Shelf.Strings.Explode
import Derived.Shelf.Unicode.DecodeSlow
import Derived.Shelf.Unicode.DecodeAny
import Derived.Shelf.Strings.BuilderCap
import Derived.Laws.CopyRow
import Derived.Lib.AppendZerosOnto
import Derived.Lib.Overlaps
import Derived.Deep.RegionLaw
set_option linter.unusedVariables false
set_option linter.unusedSimpArgs false
noncomputable section
namespace Go.Proofs.YtagokdejdanfcaaGreatDoor
open Go.RowKit
abbrev Aa:=List UInt8
def Xv (t:TypeId):List Bool:=(A0 Tryz.prog t).map fun u=>match Cf Tryz.prog u with|some e=>BH Tryz.prog e|none=>false
def cV (u:TypeId):List Bool:=if u=56 then []else Xv u
def uO (fn:Func):FD:={ch:=fn.params.toList.map fun t=>match Im Tryz.prog t with|some u=> .bx (cV u) (cV u)|none=> .ro,res:=fn.resultTypes.toList.flatMap Xv}
def tC (f:Nat):Option FD:=
 match f with
 |4=>some {ch:= [],res:= []}
 |9=>some {ch:= [],res:= []}
 |10=>some {ch:= [.ro, .ro],res:= []}
 |14=>some {ch:= [],res:= []}
 |21=>some {ch:= [.bx [] [], .ro, .ro],res:= []}
 |26=>some {ch:= [.ro, .ro],res:= []}
 |30=>some {ch:= [],res:= []}
 |34=>some {ch:= [.ro, .ro, .bx [true] [true]],res:= [],ft:= [1000000037]}
 |43=>some {ch:= [.bx [] [], .ro, .ro],res:= []}
 |47=>some {ch:= [.ro, .ro],res:= [true],dp:=true}
 |55=>some {ch:= [.ro, .ro],res:= []}
 |56=>some {ch:= [.ro],res:= []}
 |67=>some {ch:= [.bx [] [], .ro, .ro],res:= []}
 |68=>some {ch:= [.bx [] []],res:= []}
 |80=>some {ch:= [.ro, .ro, .ro, .ro],res:= []}
 |_=>none
def dI (f:Nat):Option FD:=match Tryz.prog.funcs[f]? with
 |some fn=>some ((tC f).getD (uO fn))
 |none=>none
def CM:BB:={f:=dI}
theorem uX:Tryz.prog.follows .mixedOrders=true:=by kernel_rfl
theorem uK:Tryz.prog.funcs.size<1000000:=by
 have:(decide (Tryz.prog.funcs.size<1000000))=true:=by kernel_rfl
 exact of_decide_eq_true this
theorem SN (f:Nat) (s:FD) (h:CM f=some s):f<1000000:=by
 simp only [CM]at h;unfold dI at h;split at h
 ·rename_i fn hf;have:=(Array.getElem?_eq_some_iff.1 hf).1;exact Nat.lt_trans this uK
 ·cases h
def S0 (P:Program) (sg:BB) (f:Nat) (xs:List AV) (r:AV):Bool:=
 match P.funcs[f]?,sg f with
 |some fn,some s=> !(fn.name== "runtime.NumGoroutine")&&MU P fn s r&&xs.length==fn.params.size+fn.nfree
 |_,_=>false
abbrev Den (t:Tr) (r:AV) (xs:List AV):Prop:=t.den (CB Tryz.prog CM) (fun r'=>r'=r) (fun _ _ _ _=>False) [] xs
theorem SG {f:Nat} {t:Tr} {xs:List AV} {r:AV} (hc:Qf Tryz.prog CM f=some t) (hk:S0 Tryz.prog CM f xs r=true) (hd:Den t r xs):CB Tryz.prog CM f xs r:=by
 unfold S0 at hk;split at hk
 ·rename_i fn s hf hs;simp only [Ac,Bool.not_eq_true',beq_iff_eq]at hk;unfold CB;rw [if_pos (SN f s hs)];exact⟨s,hs,rA uX SN hf hs hk.1.1 hc hk.1.2 hk.2 hd⟩
 ·cases hk
section
variable {Rt:Nat→List AV→AV→Prop} {R:AV→Prop} {L:LK} {js:List JK} {ρ:List AV}
theorem rT {i:EL} {b k:Tr} (hL:HQ L) (I:Nat→List AV→Prop) {m:Nat} (h0:I m (i.den ρ)) (ET: ∀m vs,I m vs→b.den Rt R L ((fun us=> ∃m',m'<m∧I m' us)::(fun us=>k.den Rt R L js (ρ++us))::js) (ρ++vs)):(Tr.loop i b k).den Rt R L js ρ:=by
 have hb: ∀W W':JK,(∀vs,W vs→W' vs)→ ∀vs,b.den Rt R L (W::(fun us=>k.den Rt R L js (ρ++us))::js) (ρ++vs)→b.den Rt R L (W'::(fun us=>k.den Rt R L js (ρ++us))::js) (ρ++vs):=
  fun W W' hW vs hv=>b.ei hL hv (.cons hW (Df.refl _))
 have mono: ∀n vs,GU (fun W vs=>b.den Rt R L (W::(fun us=>k.den Rt R L js (ρ++us))::js) (ρ++vs)) n vs→ ∀n',n≤n'→GU (fun W vs=>b.den Rt R L (W::(fun us=>k.den Rt R L js (ρ++us))::js) (ρ++vs)) n' vs:=by
  intro n
  induction n with
  |zero=>intro vs h;exact h.elim
  |succ n ih=>
   intro vs h n' hn;cases n' with
   |zero=>omega
   |succ n'=>exact hb _ _ (fun us hu=>ih us hu n' (by omega)) vs h
 have key: ∀m vs,I m vs→GU (fun W vs=>b.den Rt R L (W::(fun us=>k.den Rt R L js (ρ++us))::js) (ρ++vs)) (m+1) vs:=by
  intro m
  induction m using Nat.strongRecOn with
  |_ m ih=>intro vs hI;exact hb _ _ (fun us ⟨m',hm,hu⟩=>mono _ _ (ih m' hm us hu) m (by omega)) vs (ET m vs hI)
 exact⟨m+1,key m _ h0⟩
theorem YX:HQ (fun _ _ _ _=>False):=fun _ _ _ _ _ _ h=>h
end
@[simp] theorem wH (ρ:List AV):A2 ρ []↔True:=⟨fun _=>trivial,fun _=>DR ρ⟩
@[simp] theorem wF (ρ:List AV) (x:E) (b:Bool) (gs:Gd):A2 ρ ((x,b)::gs)↔x.den ρ= .bool b∧A2 ρ gs:=
 ⟨fun h=>⟨h (x,b) (by simp),fun g hg=>h g (by simp [hg])⟩,fun h g hg=>by rcases Ad.1 hg with rfl|hg;exact h.1;exact h.2 g hg⟩
attribute [simp] E.den EL.den Cn.den AV.fld AV.proj AV.deref AV.len AV.slen AV.idx AV.nth AV.dv AV.gn AV.conv AV.bin AV.bbin AV.sbin AV.app AV.da AV.rep
@[simp] theorem vZ (cs:List AV):(AV.agg cs).cells=cs:=rfl
@[simp] theorem vT (k:IntKind) (n:Int):(AV.int k n).cells= [.int k n]:=rfl
@[simp] theorem vX (b:Bool):(AV.bool b).cells= [.bool b]:=rfl
@[simp] theorem wA (s:Aa):(AV.str s).cells= [.str s]:=rfl
@[simp] theorem wI (xs:List AV):(AV.sl xs).cells= [.sl xs]:=rfl
@[simp] theorem vY (k:IntKind) (n:Int):(AV.int k n).scalar=true:=rfl
@[simp] theorem vV (b:Bool):(AV.bool b).scalar=true:=rfl
@[simp] theorem vW (s:Aa):(AV.str s).scalar=true:=rfl
@[simp] theorem wD (b c d:Bool):AV.cond (.bool b) (.bool c) (.bool d)= .bool (bif b then c else d):=by cases b<;>rfl
theorem vQ {y:AV} (h:y.scalar=true):y.cells= [y]:=by cases y<;>first|rfl|simp [AV.scalar]at h
theorem CD {n:Int} (h1: -9223372036854775808≤n) (h2:n≤9223372036854775807):IntKind.i64.wrap n=n:=by rw [IntKind.wrap_i64];omega
end Go.Proofs.YtagokdejdanfcaaGreatDoor
end
noncomputable section
namespace Go.Proofs.YtagokdejdanfcaaGreatDoor
open Go.RowKit
section
variable {Rt:Nat→List AV→AV→Prop} {R:AV→Prop} {L:LK} {js:List JK} {ρ:List AV}
theorem HI {gs:Gd} {c:Cn} {k:Tr} (h:A2 ρ gs→c.den ρ) (hk:k.den Rt R L js ρ):(Tr.cd gs c k).den Rt R L js ρ:=⟨h,hk⟩
theorem rD {gs:Gd} {f:Nat} {args:EL} {k:Tr} {r:AV} (h:A2 ρ gs→Rt f (args.den ρ) r) (hk:k.den Rt R L js (ρ++ [r])):(Tr.call gs (.inl f) args k).den Rt R L js ρ:=⟨r,h,hk⟩
theorem Zv {gs:Gd} {x:E} {args:EL} {k:Tr} {r:AV} (h:A2 ρ gs→ ∃g caps,x.den ρ= .fn g caps∧Rt (1000000+g) (args.den ρ++caps) r∧ ∀y∈r.cells,y.scalar=true) (hk:k.den Rt R L js (ρ++ [r])):(Tr.call gs (.inr x) args k).den Rt R L js ρ:=⟨r,h,hk⟩
theorem Kg {c:E} {a b:Tr} {t:Bool} (h:c.den ρ= .bool t) (ha:t=true→a.den Rt R L js ρ) (hb:t=false→b.den Rt R L js ρ):(Tr.ite c a b).den Rt R L js ρ:=⟨t,h,ha,hb⟩
theorem Py {r:E} (h:R (r.den ρ)):(Tr.ret r).den Rt R L js ρ:=h
theorem ZV {es:EL} {j:JK} (h:j (es.den ρ)):(Tr.jmp 0 es).den Rt R L (j::js) ρ:=h
theorem aJ {es:EL} {i j:JK} (h:j (es.den ρ)):(Tr.jmp 1 es).den Rt R L (i::j::js) ρ:=h
end
def aY (cn:Nat) (xs:List AV):Prop:= ∀x∈xs,∃cs,x= .agg cs∧cs.length=cn
theorem aY.at {cn:Nat} {xs:List AV} (h:aY cn xs) {q:Nat} (hq:q<xs.length): ∃cs,xs[q]= .agg cs∧cs.length=cn:=h _ (List.getElem_mem hq)
section
variable {Rt:Nat→List AV→AV→Prop} {R:AV→Prop} {L:LK} {js:List JK} {ρ:List AV} {α β σ τ:Type}
end
@[simp] def Nt (n:Int):AV:= .int .u8 n
@[simp] def HT (x:Aa):AV:= .str x
attribute [simp] CH M7 AV.sidx AV.aeq AV.leq AV.seq AV.sk AV.c9 AV.bytes AV.text
end Go.Proofs.YtagokdejdanfcaaGreatDoor
end
noncomputable section
namespace Go.Proofs.YtagokdejdanfcaaGreatDoor
open Go.RowKit
section
variable {P:Program} {w:World}
theorem CJ.gk {ts:List TypeId} {vs:List Value} {xs:List AV} {rf lf hs:List Nat} (h:CJ P w ts [] [] vs xs rf lf hs): ∀(ms:List PM) (lo:List Bool),(∀m∈ms,m= .ro)→CJ P w ts ms lo vs xs rf lf hs:=by
 generalize hm:([]:List PM)=m0 at h;generalize hn:([]:List Bool)=n0 at h
 induction h with
 |nil=>intro ms lo _;exact .nil
 |lent h1 _ _ _ _=>subst hn;cases h1
 | @cons t ts ms' lo' v vs x xs f h rf lf hs AR _ ih=>
  subst hm;subst hn;intro ms lo DB;refine .cons ?_ (ih rfl rfl ms.tail lo.tail fun m hm=>DB m (List.mem_of_mem_tail hm));have:ms.headD .ro= .ro:=by cases ms with|nil=>rfl|cons m ms=>exact DB m (by simp)
  rw [this];exact AR
 |free h1 _ ih=>subst hm;subst hn;intro ms lo DB;exact .free h1 (ih rfl rfl ms.tail lo.tail fun m hm=>DB m (List.mem_of_mem_tail hm))
theorem Db.gk {ts:List TypeId} {ms:List PM} {vs:List Value} {Bs:List AV} {f o:List Nat} (h:Db P w ts ms vs Bs f o) (DB: ∀m∈ms,m= .ro):Db P w ts [] vs Bs f o:=by
 have hd: ∀{ms:List PM},(∀m∈ms,m= .ro)→ms.headD .ro= .ro:=by intro ms h;cases ms with|nil=>rfl|cons m ms=>exact h m (by simp)
 induction h with
 |nil=>exact .nil
 |ro _ _ ih=>exact .ro rfl (ih fun m hm=>DB m (List.mem_of_mem_tail hm))
 |va h9 _ _=>rw [hd DB]at h9;cases h9
 |mu h9 _ _ _ _=>rw [hd DB]at h9;cases h9
 |bx h9 _ _ _ _ _ _ _ _=>rw [hd DB]at h9;cases h9
end
def W5 (f:Nat) (r:AV):Bool:=
 match Tryz.prog.funcs[f]?,CM f with
 |some fn,some s=>s.ch.all (fun m=>match m with| .ro=>true|_=>false)&&s.ft.isEmpty&&(match fn.resultTypes.toList with| [t]=> !Gs Tryz.prog t s.res|_=>false)&&MU Tryz.prog fn {ch:= [],res:= []} r
 |_,_=>false
theorem oV {f:Nat} {xs:List AV} {r:AV} (h:CB Tryz.prog CM f xs r) (hp:W5 f r=true):CB Tryz.prog CM (1000000+f) xs r:=by
 unfold W5 at hp;split at hp
 ·rename_i fn s hf hs;simp only [Ac,A1]at hp;obtain⟨⟨⟨h1,Fk⟩,h2⟩,h3⟩:=hp;have Fk:s.ft= []:=by simpa using Fk
  have ER: ∀m∈s.ch,m= .ro:=fun m hm=>by
   have:=h1 m hm;split at this
   ·rfl
   ·cases this
  unfold CB at h ⊢;rw [if_pos (SN f s hs)]at h;rw [if_neg (by omega),Nat.add_sub_cancel_left];obtain⟨s',A5,fn',NY,hb,hn,_,hl,_,hc⟩:=h;rw [hs]at A5;cases A5;rw [hf]at NY;cases NY;rw [Fk]at hc;refine⟨fn,hf,hb,hn,h3,hl,by simp,fun w vs rf lf A5 Az hd Tw BO D1=>(hc w vs rf lf A5 (Az.gk _ _ ER) hd Tw BO D1).mono ?_⟩;rintro e w' ⟨v,rfl,⟨R,Bs,f1,o1,f2,o2,e1,e2,e3,e4,e5,e6⟩,hm⟩;rw [Fk]at e3;refine⟨v,rfl,⟨R,Bs,f1,o1,f2,o2,e1, ?_,e3.gk ER,e4,e5,e6⟩,hm⟩;unfold Io at e2 ⊢;split at h2
  ·rename_i t ht;rw [ht]at e2 ⊢;simp only at e2 ⊢;unfold EZ at e2 ⊢;have h2:Gs Tryz.prog t s.res=false:=by simpa using h2
   rw [if_neg (by rw [h2];simp)]at e2;rw [if_neg (by simp [Gs])];exact e2
  ·cases h2
 ·cases hp
section
variable {Rt:Nat→List AV→AV→Prop} {R:AV→Prop} {L:LK} {js:List JK} {ρ:List AV}
theorem aW {i:EL} {b k:Tr} (hL:HQ L) (n:Nat) (st:Nat→List AV) (J:Nat→Prop) (hJ:J 0) (h0:i.den ρ=st 0) (hb: ∀q,q≤n→J q→ ∀W:JK,(q<n→J (q+1)→W (st (q+1)))→b.den Rt R L (W::(fun us=>k.den Rt R L js (ρ++us))::js) (ρ++st q)):(Tr.loop i b k).den Rt R L js ρ:=by refine rT hL (fun m vs=> ∃q,q+m=n∧vs=st q∧J q) (m:=n) ⟨0,by omega,h0,hJ⟩ ?_;rintro m vs ⟨q,hq,rfl,hj⟩;exact hb q (by omega) hj _ fun AD L6=>⟨m-1,by omega,q+1,by omega,rfl,L6⟩
end
def Xi (cn:Nat):Tr:=
 .cd [] (.dfd (.len (.var 0)))<|
 .loop (.cons (.int .i64 (0)) .nil) (
  .cd [] (.dfd (.bin .lss (.var 2) (.len (.var 0))))<|
  .ite (.bin .lss (.var 2) (.len (.var 0))) (
  .cd [] (.inb (.var 2) (.var 0) cn)<|
  .call [] (.inr (.var 1)) (.cons (.fld (.idx (.var 0) (.var 2)) 0 cn true) .nil)<|
  .ite (.var 3) (
   .ret (.var 2)) (
   .cd [] (.dfd (.bin .add (.var 2) (.int .i64 (1))))<|
   .jmp 0 (.cons (.bin .add (.var 2) (.int .i64 (1))) .nil))) (
  .jmp 1 .nil)) (
  .ret (.int .i64 (-1)))
def W3:Tr:=
 .cd [] (.dfd (.len (.var 0)))<|
 .loop (.cons (.int .i64 (0)) .nil) (
  .cd [] (.dfd (.bin .lss (.var 2) (.len (.var 0))))<|
  .ite (.bin .lss (.var 2) (.len (.var 0))) (
  .cd [] (.inb (.var 2) (.var 0) 1)<|
  .call [] (.inr (.var 1)) (.cons (.fld (.idx (.var 0) (.var 2)) 0 1 false) .nil)<|
  .ite (.var 3) (
   .ret (.var 2)) (
   .cd [] (.dfd (.bin .add (.var 2) (.int .i64 (1))))<|
   .jmp 0 (.cons (.bin .add (.var 2) (.int .i64 (1))) .nil))) (
  .jmp 1 .nil)) (
  .ret (.int .i64 (-1)))
def Gw {α:Type} (p:α→Option Bool):List α→Int→Option Int
 | [],_=>some (-1)
 |x::xs,i=>(p x).bind fun b=>if b=true then some i else Gw p xs (i+1)
def HC {α:Type} (xs:List α) (p:α→Option Bool):Option Int:=req (xs.length≤9223372036854775806) (Gw p xs 0)
def Mt {α:Type} (xs:List α) (p:α→Option Bool):Option Bool:=(HC xs p).bind fun i=>some (decide (i≥0))
theorem ZH {α:Type} {p:α→Option Bool} {l:List α} {r:Int} {q:Nat} (hq:q<l.length) (h:Gw p (l.drop q) q=some r): ∃b,p l[q]=some b∧(b=true→r=q)∧(b=false→Gw p (l.drop (q+1)) ((q+1:Nat):Int)=some r):=by
 rw [List.drop_eq_getElem_cons hq]at h;obtain⟨b,hb,h⟩:=Np h;refine⟨b,hb, ?_, ?_⟩
 ·rintro rfl;simpa using h.symm
 ·rintro rfl;simpa using h
theorem tX {α:Type} {av:α→AV} {l:List α} {p:α→Option Bool} {cn g:Nat} {caps:List AV} {r:Int} (hs: ∀x,∃cs,av x= .agg cs∧cs.length=cn) (h:HC l p=some r) (hf: ∀x b,p x=some b→CB Tryz.prog CM (1000000+g) (av x::caps) (.bool b)):Den (Xi cn) (.int .i64 r) [.sl (l.map av), .fn g caps]:=by
 obtain⟨hn,h⟩:=HV h;unfold Den Xi;refine HI (by simp) ?_;refine aW YX l.length (fun q=> [.int .i64 q]) (fun q=>Gw p (l.drop q) q=some r) (by simpa using h) (by simp) fun q hq hJ W hW=> ?_;by_cases AD:q<l.length
 ·obtain⟨cs,hc,hl⟩:=hs l[q];obtain⟨b,hb,G5,G6⟩:=ZH AD hJ;refine HI (by simp [CH]) (Kg (t:=true) (by simp [CH,AD]) (fun _=> ?_) (by simp));refine HI (fun _=>⟨.i64,q,l.length,by simp,by omega,by simp,by omega,by simp [AD,hc,hl]⟩) (Zv (r:= .bool b) (fun _=>⟨g,caps,by simp, ?_,by simp⟩) ?_)
  ·have:=hf l[q] b hb;rw [hc]at this;simpa [AD,hc,←hl]using this
  ·cases b with
   |true=>exact Kg (t:=true) (by simp) (fun _=>Py (by simp [G5 rfl])) (by simp)
   |false=>refine Kg (t:=false) (by simp) (by simp) fun _=>HI (by simp [CH]) (ZV ?_);have:=hW AD (G6 rfl);simpa [CH,CD (n:=(q:Int)+1) (by omega) (by omega)]using this
 ·have GB:q=l.length:=by omega
  subst GB;have hr:r= -1:=by simpa [Gw]using hJ.symm
  refine HI (by simp [CH]) (Kg (t:=false) (by simp [CH]) (by simp) fun _=>aJ ?_);exact Py (by simp [hr])
theorem rI {α:Type} {av:α→AV} {l:List α} {p:α→Option Bool} {g:Nat} {caps:List AV} {r:Int} (hs: ∀x,(av x).cells= [av x]) (h:HC l p=some r) (hf: ∀x b,p x=some b→CB Tryz.prog CM (1000000+g) (av x::caps) (.bool b)):Den W3 (.int .i64 r) [.sl (l.map av), .fn g caps]:=by
 obtain⟨hn,h⟩:=HV h;unfold Den W3;refine HI (by simp) ?_;refine aW YX l.length (fun q=> [.int .i64 q]) (fun q=>Gw p (l.drop q) q=some r) (by simpa using h) (by simp) fun q hq hJ W hW=> ?_;by_cases AD:q<l.length
 ·obtain⟨b,hb,G5,G6⟩:=ZH AD hJ;refine HI (by simp [CH]) (Kg (t:=true) (by simp [CH,AD]) (fun _=> ?_) (by simp));refine HI (fun _=>⟨.i64,q,l.length,by simp,by omega,by simp,by omega,by simp [AD,hs]⟩) (Zv (r:= .bool b) (fun _=>⟨g,caps,by simp, ?_,by simp⟩) ?_)
  ·have:=hf l[q] b hb;simpa [AD,hs]using this
  ·cases b with
   |true=>exact Kg (t:=true) (by simp) (fun _=>Py (by simp [G5 rfl])) (by simp)
   |false=>refine Kg (t:=false) (by simp) (by simp) fun _=>HI (by simp [CH]) (ZV ?_);have:=hW AD (G6 rfl);simpa [CH,CD (n:=(q:Int)+1) (by omega) (by omega)]using this
 ·have GB:q=l.length:=by omega
  subst GB;have hr:r= -1:=by simpa [Gw]using hJ.symm
  refine HI (by simp [CH]) (Kg (t:=false) (by simp [CH]) (by simp) fun _=>aJ ?_);exact Py (by simp [hr])
def Xg (f:Nat):Tr:=
 .call [] (.inl f) (.cons (.var 0) (.cons (.var 1) .nil))<|
 .cd [] (.dfd (.bin .geq (.var 2) (.int .i64 (0))))<|
 .ret (.bin .geq (.var 2) (.int .i64 (0)))
theorem sY {α:Type} {l:List α} {p:α→Option Bool} {f:Nat} {x y:AV} {r:Bool} (h:Mt l p=some r) (hf: ∀i,HC l p=some i→CB Tryz.prog CM f [x,y] (.int .i64 i)):Den (Xg f) (.bool r) [x,y]:=by obtain⟨i,hi,h⟩:=Np h;unfold Den Xg;refine rD (fun _=>by simpa using hf i hi) (HI (by simp [CH]) (Py ?_));simp only [Ae]at h;simp [CH,←h]
end Go.Proofs.YtagokdejdanfcaaGreatDoor
end
noncomputable section
namespace Go.Proofs.YtagokdejdanfcaaGreatDoor
open Go.ChangeShapes Go.WideShapes Go.ChangeAt Go.RowKit
theorem sI {P:Program} {w:World}:CJ P w [] [] [] [] [] [] [] []:= .nil
theorem ZL {P:Program} {w:World} {t:TypeId} {ts:List TypeId} {v:Value} {vs:List Value} {x:AV} {xs:List AV} {f rf:List Nat} (h:Rd w [v] [x] f) (k:CJ P w ts [] [] vs xs rf [] []):CJ P w (t::ts) [] [] (v::vs) (x::xs) (f++rf) [] []:=
 CJ.cons (h:= []) (hs:= []) (ms:= []) (lo:= []) ⟨h,rfl⟩ k
theorem sM {P:Program} {sg:BB} {f:Nat} {fn:Func} {t:TypeId} {xs:List AV} (h:CB P sg f xs (.bool true)) (hf:f<1000000) {s:FD} (hs:sg f=some s) (Fk:s.ft= []) (ER: ∀m∈s.ch,m= .ro) (E2:Gs P t s.res=false) (Fj:P.funcs[f]?=some fn) (hr:fn.resultTypes.toList= [t])
  {w:World} {vs:List Value} {rf:List Nat} (ha:CJ P w fn.params.toList [] [] vs xs rf [] []) (D1:IN.n≤w.heap.size∧IN.K w):
  Calls P f vs.toArray w fun e w'=>e= .returned (.bool true)∧Below w.heap.size w w':=by
 unfold CB at h;rw [if_pos hf]at h;obtain⟨s',A5,fn',Hc,_,_,_,_,_,hc⟩:=h;rw [hs]at A5;obtain rfl:=Option.some.inj A5;rw [Fj]at Hc;obtain rfl:=Option.some.inj Hc;refine(hc w vs rf [] [] (by rw [Fk,List.append_nil];exact ha.gk _ _ ER) (by simp) (by simp) (by simp) ⟨D1.1,D1.2,by simp⟩).mono fun e w' ⟨v,he,hp⟩=> ?_;obtain⟨⟨R,bs,f1,o1,f2,o2,hR,AN,_⟩,hm⟩:=hp;have eG:R= .bool true:=by
  cases bs with
  |nil=>exact hR.symm
  |cons=>cases hR
 subst eG;rw [hr]at AN;have h2:EZ P w' t s.res v (.bool true) f1 o1:=AN;unfold EZ at h2;rw [E2]at h2;obtain⟨h3,_⟩:=h2;have:v= .bool true:=by cases h3;rfl
 subst this;exact⟨he,hm.below⟩
section
variable {P:Program} {t:TypeId} {Q:List AV→Prop} {H:Type} {enc:TypeId × Value→H} {w:World} {spare:Nat→Bool} {held:Bool} {v:Value} {d:DataW H} {p:List MemPlace} {r:Reach} {base:Nat}
theorem tB (hO:FC P t Q) (hc:v.cells= #[v]) (h:DataW.Trod enc P w 0 spare held t v d p): ∃x f,Rd w [v] [x] f∧Q [x]:=by
 obtain⟨n,h⟩:=h;rw [hc]at h;obtain⟨_,_,xs,f,hr,hq⟩:=hO.2 _ _ _ _ _ _ _ _ h;have hl:=hr.len
 match xs,hl with
 | [x],_=>exact⟨x,f,hr,hq⟩
theorem Zy {e:TypeId} (hO:FC P t Q) (ht:P.underlying t=some (.slice e)) (hv:Value.okWide P w r base t v) (h:DataW.Trod enc P w 0 spare held t v d p): ∃x f,Rd w [v] [x] f∧Q [x]:=by obtain⟨a,l,c,rfl⟩:=okWide_slice ht hv;exact tB hO rfl h
end
theorem tF {a b:Bool} (ha:a=true) (hb:b=true):(a&&b)=true:=by rw [ha,hb];rfl
def LW (n:Int):Prop:=0≤n∧n≤255
def QJ {α:Type} (ok:α→Prop) (l:List α):Prop:=l.length≤9223372036854775807∧ ∀x∈l,ok x
theorem uI {n:Int} (h:D7 .u8 n):LW n:=by unfold D7 at h;simp only [IntKind.wrap,IntKind.bits,IntKind.signed]at h;unfold LW;simp at h;omega
section
variable {P:Program} {t e:TypeId} {α:Type} {ok:α→Prop} {av:α→AV}
theorem uG (ht:P.underlying t=some (.int .u8)) (hc:P.cellsOf t=1):FC P t fun xs=> ∃n,LW n∧xs= [Nt n]:=
 (sZ ht hc).mono fun _ ⟨n,h,e⟩=>⟨n,uI h,e⟩
theorem aQ: ∀{ys:List AV},(∀y∈ys,HW false (fun xs=> ∃c,ok c∧xs= [av c]) y)→ ∃l:List α,(∀c∈l,ok c)∧ys=l.map av
 | [],_=>⟨[],by simp,rfl⟩
 |y::ys,h=>by obtain⟨l,hl,rfl⟩:=aQ fun z hz=>h z (List.mem_cons_of_mem _ hz);have h0:=h y (List.mem_cons_self ..);simp only [HW,BW,if_false]at h0;obtain⟨_,c,hk,hc⟩:=h0;exact⟨c::l,by simpa using⟨hk,hl⟩,by simp at hc;simp [hc]⟩
theorem uR (ht:P.underlying t=some (.slice e)) (hc:P.cellsOf t=1) (JA:P.cellsOf e=1) (he:FC P e fun xs=> ∃c,ok c∧xs= [av c]):FC P t fun xs=> ∃l:List α,QJ ok l∧xs= [.sl (l.map av)]:=
 (pJ false ht hc he (.inr JA)).mono fun _ ⟨ys,hl,hy,e⟩=>by obtain⟨l,hk,rfl⟩:=aQ hy;exact⟨l,⟨by simpa using hl,hk⟩,e⟩
end
end Go.Proofs.YtagokdejdanfcaaGreatDoor
end
noncomputable section
namespace Go.Proofs.YtagokdejdanfcaaGreatDoor
open Go.RowKit
set_option maxRecDepth 100000
structure Au where
 aw:List Int
 bu:Int
 ay:Int
@[simp] def uB (x:Au):AV:= .agg [.sl (x.aw.map Nt), .int .i64 x.bu, .int .u64 x.ay]
structure AU where
 ab:Aa
 cq:Int
 bc:Int
@[simp] def dO (x:AU):AV:= .agg [.str x.ab, .int .i64 x.cq, .int .i64 x.bc]
structure Ah where
 ab:Aa
 ax:List (Aa)
 ae:List AU
@[simp] def uA (x:Ah):AV:= .agg [.str x.ab, .sl (x.ax.map HT), .sl (x.ae.map dO)]
structure Aw where
 ah:List (Aa)
@[simp] def uT (x:Aw):AV:= .agg [.sl (x.ah.map HT)]
structure Ao where
 al:Aa
 bf:Aa
 c7:Bool
@[simp] def tA (x:Ao):AV:= .agg [.str x.al, .str x.bf, .bool x.c7]
structure A6 where
 af:Int
 a8:Aw
 bd:Aw
@[simp] def qU (x:A6):AV:= .agg [.int .i64 x.af, .sl (x.a8.ah.map HT), .sl (x.bd.ah.map HT)]
structure AP where
 af:Int
 a6:A6
 cb:Aa
 bt:Aa
 ca:Aa
@[simp] def tT (x:AP):AV:= .agg [.int .i64 x.af, .int .i64 x.a6.af, .sl (x.a6.a8.ah.map HT), .sl (x.a6.bd.ah.map HT), .str x.cb, .str x.bt, .str x.ca]
structure AM where
 af:Int
 al:Aa
 bf:Aa
 k8:Int
@[simp] def u7 (x:AM):AV:= .agg [.int .i64 x.af, .str x.al, .str x.bf, .int .i64 x.k8]
end Go.Proofs.YtagokdejdanfcaaGreatDoor
end
noncomputable section
namespace Go.Proofs.YtagokdejdanfcaaGreatDoor
open Go.ChangeShapes Go.WideShapes Go.ChangeAt Go.RowKit
set_option maxRecDepth 100000
theorem iD:FC Tryz.prog 5 fun xs=> ∃n,LW n∧xs= [Nt n]:=uG Tryz.underlying5 (by kernel_rfl)
theorem X8:FC Tryz.prog 22 fun xs=> ∃l:List Int,QJ LW l∧xs= [.sl (l.map Nt)]:=uR Tryz.underlying22 (by kernel_rfl) (by kernel_rfl) iD
end Go.Proofs.YtagokdejdanfcaaGreatDoor
end
noncomputable section
namespace Go.Proofs.YtagokdejdanfcaaGreatDoor
open Go.RowKit
set_option maxRecDepth 100000
section
variable {Rt:Nat→List AV→AV→Prop} {R:AV→Prop} {L:LK} {js:List JK} {ρ:List AV}
end
abbrev dS:Nat→List AV→AV→Prop:=CB Tryz.prog CM
@[reducible] def Nr:Nat→Type
 |0=>Au
 |1=>AU
 |2=>Ah
 |3=>Aw
 |4=>Ao
 |5=>A6
 |6=>AP
 |7=>AM
 |_+8=>Unit
@[reducible] def SY:Nat→List Ty
 |0=> [.l (.i .u8), .i .i64, .i .u64]
 |1=> [.s, .i .i64, .i .i64]
 |2=> [.s, .l .s, .l (.st 1)]
 |3=> [.l .s]
 |4=> [.s, .s, .b]
 |5=> [.i .i64, .l .s, .l .s]
 |6=> [.i .i64, .i .i64, .l .s, .l .s, .s, .s, .s]
 |7=> [.i .i64, .s, .s, .i .i64]
 |_+8=> []
def UH: ∀n,Nr n→AV
 |0,x=>uB x
 |1,x=>dO x
 |2,x=>uA x
 |3,x=>uT x
 |4,x=>tA x
 |5,x=>qU x
 |6,x=>tT x
 |7,x=>u7 x
 |_+8,_=> .agg []
def Xs: ∀n,Nr n→HL Nr (SY n)
 |0,x=>(x.aw,x.bu,x.ay,())
 |1,x=>(x.ab,x.cq,x.bc,())
 |2,x=>(x.ab,x.ax,x.ae,())
 |3,x=>(x.ah,())
 |4,x=>(x.al,x.bf,x.c7,())
 |5,x=>(x.af,x.a8.ah,x.bd.ah,())
 |6,x=>(x.af,x.a6.af,x.a6.a8.ah,x.a6.bd.ah,x.cb,x.bt,x.ca,())
 |7,x=>(x.af,x.al,x.bf,x.k8,())
 |_+8,_=>()
def X9: ∀n,HL Nr (SY n)→Nr n
 |0,x=>⟨x.1,x.2.1,x.2.2.1⟩
 |1,x=>⟨x.1,x.2.1,x.2.2.1⟩
 |2,x=>⟨x.1,x.2.1,x.2.2.1⟩
 |3,x=>⟨x.1⟩
 |4,x=>⟨x.1,x.2.1,x.2.2.1⟩
 |5,x=>⟨x.1,⟨x.2.1⟩,⟨x.2.2.1⟩⟩
 |6,x=>⟨x.1,⟨x.2.1,⟨x.2.2.1⟩,⟨x.2.2.2.1⟩⟩,x.2.2.2.2.1,x.2.2.2.2.2.1,x.2.2.2.2.2.2.1⟩
 |7,x=>⟨x.1,x.2.1,x.2.2.1,x.2.2.2.1⟩
 |_+8,_=>()
theorem tJ: ∀n x,UH n x= .agg (F1 UH (SY n) (Xs n x))
 |0,_=>rfl
 |1,_=>rfl
 |2,_=>rfl
 |3,_=>rfl
 |4,_=>rfl
 |5,_=>rfl
 |6,_=>rfl
 |7,_=>rfl
 |_+8,_=>rfl
theorem s5: ∀n h,Xs n (X9 n h)=h
 |0,_=>rfl
 |1,_=>rfl
 |2,_=>rfl
 |3,_=>rfl
 |4,_=>rfl
 |5,_=>rfl
 |6,_=>rfl
 |7,_=>rfl
 |_+8,_=>rfl
@[reducible] def C2:Gy:=⟨dS,Nr,UH,SY,Xs,X9,tJ,s5⟩
abbrev FS:=FN C2
def UI (tb:List FS) (hs:List JM) (o:Option Tr) (ps:List PT) (r:RT) (xs:HP C2.car ps) (hp:Gx C2 ps xs):Option (F3 C2.car r):=match o with
 |some t=>BP tb 100000 (Md r) t hs (QM ps xs hp) [] []
 |none=>none
theorem u4 {f:Nat} {ps:List PT} {r:RT} {φ:HP C2.car ps→Option (F3 C2.car r)} (tb:List FS) (hs:List JM) (h: ∀xs hp,UI tb hs (Qf Tryz.prog CM f) ps r xs hp=φ xs) (hk: ∀xs y,S0 Tryz.prog CM f (Ex C2 ps xs) (EY C2 r y)=true) (xs:HP C2.car ps) (y:F3 C2.car r) (hp:Gx C2 ps xs) (e:φ xs=some y):C2.Rt f (Ex C2 ps xs) (EY C2 r y):=by
 rw [←h xs hp]at e;unfold UI at e;split at e
 ·rename_i t ht;refine SG ht (hk xs y) ?_;unfold Den;rw [←bS ps xs hp];exact DL tb 100000 (fa:= []) (fun _ h=>nomatch h) (fun _ h=>nomatch h) (fun v hv=>WO r hv) .nil e
 ·cases e
def AJ (f:Nat) (ps:List PT) (r:RT) (φ:HP C2.car ps→Option (F3 C2.car r)) (tb:List FS) (hs:List JM) (h: ∀xs hp,UI tb hs (Qf Tryz.prog CM f) ps r xs hp=φ xs:=by intro _ _;kernel_rfl) (hk: ∀xs y,S0 Tryz.prog CM f (Ex C2 ps xs) (EY C2 r y)=true:=by intro _ _;kernel_rfl):FS:=
 ⟨f,ps,r,φ,fun xs y hp e=>u4 tb hs h hk xs y hp e,false,fun h=>by cases h⟩
def X7 (d:FS) (h: ∀y,W5 d.f (EY C2 d.r y)=true):FS:=
 ⟨d.f,d.ps,d.r,d.φ,d.ok,true,fun _ xs y hx e=>oV (d.ok xs y hx e) (h y)⟩
def J1 (f:Nat) (ps:List PT) (r:RT) (φ:HP C2.car ps→Option (F3 C2.car r)) (ok: ∀xs y,Gx C2 ps xs→φ xs=some y→C2.Rt f (Ex C2 ps xs) (EY C2 r y)):FS:=⟨f,ps,r,φ,ok,false,fun h=>by cases h⟩
end Go.Proofs.YtagokdejdanfcaaGreatDoor
end
noncomputable section
namespace Go.Proofs.YtagokdejdanfcaaGreatDoor
open Go.RowKit
theorem CJ.rd {P:Program} {w:World} {ts:List TypeId} {ms:List PM} {lo:List Bool} {vs:List Value} {xs:List AV} {rf lf hs:List Nat} (h:CJ P w ts ms lo vs xs rf lf hs):lo= []→(∀m∈ms,m= .ro)→Rd w vs xs rf∧hs= []:=by
 induction h with
 |nil=>intro _ _;exact⟨.nil,rfl⟩
 |lent h1 _ _ _ _=>intro BN;subst BN;cases h1
 | @cons t ts ms lo v vs x xs f h rf lf hs AR _ ih=>
  intro BN DB;subst BN;obtain⟨h1,rfl⟩:=ih rfl fun m hm=>DB m (List.mem_of_mem_tail hm);have ER:ms.headD .ro= .ro:=by
   cases ms with
   |nil=>rfl
   |cons m ms=>exact DB m (by simp)
  rw [ER]at AR;obtain⟨h2,h3⟩:Rd w [v] [x] f∧h= []:=AR;subst h3;exact⟨by simpa using h2.app h1,rfl⟩
 |free h1 _ ih=>intro BN DB;subst BN;obtain⟨h2,rfl⟩:=ih rfl fun m hm=>DB m (List.mem_of_mem_tail hm);exact⟨by simpa using h1.app h2,rfl⟩
theorem Db.jj {P:Program} {w:World}: ∀{ts:List TypeId} {ms:List PM} {vs:List Value},vs.length=ts.length→(∀m∈ms,m= .ro)→Db P w ts ms vs [] [] []
 | [],_,vs,_,_=> .nil
 |t::ts,ms, [],h,_=>by simp at h
 |t::ts,ms,v::vs,h,DB=>by
  refine .ro ?_ (Db.jj (by simpa using h) fun m hm=>DB m (List.mem_of_mem_tail hm));cases ms with
  |nil=>rfl
  |cons m ms=>exact DB m (by simp)
def Xp (P:Program) (sg:BB) (f np:Nat) (r:AV):Bool:=
 match P.funcs[f]?,sg f with
 |some fn,some s=>fn.body.isSome&& !(fn.name== "runtime.NumGoroutine")&&MU P fn s r&&s.ch.all (fun m=>match m with| .ro=>true|_=>false)&&fn.params.size==np&&fn.nfree==0&&(s.ft.isEmpty&&s.lo.isEmpty)&&(match fn.resultTypes.toList with| [t]=> !Gs P t s.res|_=>false)
 |_,_=>false
theorem sG {f:Nat} {xs:List AV} {r:AV} (hk:Xp Tryz.prog CM f xs.length r=true) (hc: ∀(w:World) (vs:List Value) (rf:List Nat),IN.K w→Rd w vs xs rf→Calls Tryz.prog f vs.toArray w fun e w'=>Mod [] w w'∧ ∃v f1,e= .returned v∧Rd w' [v] [r] f1∧ ∀b∈f1,b∈rf∨w.heap.size≤b):CB Tryz.prog CM f xs r:=by
 unfold Xp at hk;split at hk
 ·rename_i fn s hf hs;simp only [Ac,Bool.not_eq_true',beq_iff_eq,A1]at hk;obtain⟨⟨⟨⟨⟨⟨⟨h1,h2⟩,h3⟩,h4⟩,h5⟩,h6⟩,Fk⟩,h7⟩:=hk;obtain⟨Fk,BN⟩:s.ft= []∧s.lo= []:=by simpa using Fk
  have ER: ∀m∈s.ch,m= .ro:=fun m hm=>by
   have:=h4 m hm;split at this
   ·rfl
   ·cases this
  unfold CB;rw [if_pos (SN f s hs)];refine⟨s,hs,fn,hf,h1,h2,h3,by omega,by simp [Fk],fun w vs rf lf A5 Az hd _ BO D1=> ?_⟩;obtain⟨hr,rfl⟩:=Az.rd BN ER;refine(hc w vs rf D1.2.1 hr).mono ?_;rintro e w' ⟨hm,v,f1,rfl,hv,hb⟩;refine⟨v,rfl,⟨⟨r, [],f1, [], [], [],rfl, ?_,Db.jj ?_ ER,by simp,by simp,fun b BE=>⟨by simp, ?_⟩⟩,hm⟩⟩
  ·unfold Io;split at h7
   ·rename_i t ht;rw [ht];show EZ Tryz.prog w' t s.res v r f1 [];unfold EZ;rw [if_neg (by rw [Bool.not_eq_true];simpa using h7)];exact⟨hv,rfl⟩
   ·cases h7
  ·rw [hr.len];simp [Fk];omega
  ·rcases hb b (by simpa using BE)with h|h
   ·exact .inl h
   ·exact .inr (.inr h)
 ·cases hk
theorem Sv {f:Nat} {xs:List AV} {r:AV} (hk:Xp Tryz.prog CM f xs.length r=true) (hc: ∀(w:World) (vs:List Value) (rf:List Nat),Rd w vs xs rf→Calls Tryz.prog f vs.toArray w fun e w'=>Mod [] w w'∧ ∃v f1,e= .returned v∧Rd w' [v] [r] f1∧ ∀b∈f1,b∈rf∨w.heap.size≤b):CB Tryz.prog CM f xs r:=
 sG hk fun w vs rf _ hr=>hc w vs rf hr
theorem Km {w:World} {s:Aa} {vs:List Value} {xs:List AV} {f:List Nat} (h:Rd w vs (.str s::xs) f): ∃(b:ByteArray) (us:List Value),vs= .string b::us∧b.data.toList=s∧b.size≤9223372036854775807∧Rd w us xs f:=by
 cases h with
 |str a h=>exact⟨_,_,rfl,rfl,a,h⟩
theorem tK {w:World} {k:IntKind} {n:Int} {vs:List Value} {xs:List AV} {f:List Nat} (h:Rd w vs (.int k n::xs) f): ∃us:List Value,vs= .int k n::us∧D7 k n∧Rd w us xs f:=by
 cases h with
 |int a h=>exact⟨_,rfl,a,h⟩
theorem MS {w:World} {vs:List Value} {f:List Nat} (h:Rd w vs [] f):vs= []∧f= []:=by cases h;exact⟨rfl,rfl⟩
end Go.Proofs.YtagokdejdanfcaaGreatDoor
end
noncomputable section
namespace Go.Proofs
open Go.Shelf
def Tryz.du:Go.Shelf.Ren:=⟨fun|156=>69|165=>88|166=>89|169=>90|240=>100|241=>101|276=>108|277=>109|n=>n,fun|31=>23|9=>9|3=>3|4=>4|0=>0|20=>20|72=>114|76=>118|70=>112|37=>22|75=>117|127=>127|164=>131|5=>5|80=>86|n=>n,fun|n=>n⟩
theorem Tryz.gj:Go.Proofs.Lays.n156 Tryz.prog Tryz.du:={
 mixed:=by kernel_rfl
 f156:=Tryz.func69.trans (congrArg some (by kernel_rfl))
 f165:=Tryz.func88.trans (congrArg some (by kernel_rfl))
 f166:=Tryz.func89.trans (congrArg some (by kernel_rfl))
 f169:=Tryz.func90.trans (congrArg some (by kernel_rfl))
 f240:=Tryz.func100.trans (congrArg some (by kernel_rfl))
 f241:=Tryz.func101.trans (congrArg some (by kernel_rfl))
 f276:=Tryz.func108.trans (congrArg some (by kernel_rfl))
 f277:=Tryz.func109.trans (congrArg some (by kernel_rfl))
 t0:=Tryz.underlying0
 a0:=Tryz.isAgg0
 z0:=Tryz.sizeOf0
 v0:=Tryz.zeroValue0
 t3:=Tryz.underlying3
 a3:=Tryz.isAgg3
 z3:=Tryz.sizeOf3
 v3:=Tryz.zeroValue3
 t4:=Tryz.underlying4
 a4:=Tryz.isAgg4
 z4:=Tryz.sizeOf4
 v4:=Tryz.zeroValue4
 t9:=Tryz.underlying9
 a9:=Tryz.isAgg9
 z9:=Tryz.sizeOf9
 v9:=Tryz.zeroValue9
 t20:=Tryz.underlying20
 a20:=Tryz.isAgg20
 z20:=Tryz.sizeOf20
 v20:=Tryz.zeroValue20
 t31:=Tryz.underlying23
 a31:=Tryz.isAgg23
 z31:=Tryz.sizeOf23
 v31:=Tryz.zeroValue23
 t37:=Tryz.underlying22
 a37:=Tryz.isAgg22
 z37:=Tryz.sizeOf22
 v37:=Tryz.zeroValue22
 t70:=Tryz.underlying112
 a70:=Tryz.isAgg112
 z70:=Tryz.sizeOf112
 v70:=Tryz.zeroValue112
 t72:=Tryz.underlying114
 a72:=Tryz.isAgg114
 z72:=Tryz.sizeOf114
 v72:=Tryz.zeroValue114
 t75:=Tryz.underlying117
 a75:=Tryz.isAgg117
 z75:=Tryz.sizeOf117
 v75:=Tryz.zeroValue117
 t76:=Tryz.underlying118
 a76:=Tryz.isAgg118
 z76:=Tryz.sizeOf118
 v76:=Tryz.zeroValue118
 t127:=Tryz.underlying127
 a127:=Tryz.isAgg127
 z127:=Tryz.sizeOf127
 v127:=Tryz.zeroValue127
 t164:=Tryz.underlying131
 a164:=Tryz.isAgg131
 z164:=Tryz.sizeOf131
 v164:=Tryz.zeroValue131}
theorem Tryz.c6:Builder.Extra Tryz.prog Tryz.du:={
 sizeBuilder:=by kernel_rfl
 liesBuilder:=by kernel_rfl
 t5:=Tryz.underlying5
 a5:=Tryz.isAgg5
 z5:=Tryz.sizeOf5
 v5:=Tryz.zeroValue5
 infoByte:=by kernel_rfl
 cellsByte:=by kernel_rfl
 sizeByte:=by kernel_rfl
 neB5:=by decide}
open Go.RowKit in
theorem Tryz.strings_Join_none (a:Option Addr) (c:Nat) (sep:ByteArray) (w:World):
  Calls Tryz.prog 69 #[.slice a 0 c, .string sep] w fun e w'=>e= .returned (.string ⟨#[]⟩)∧w'=w:=Any.strings_Join_none Tryz.gj Tryz.c6 a c sep w
open Go.RowKit in
theorem Tryz.strings_Join (bk o c:Nat) (xs:List ByteArray) (sep:ByteArray) (w:World) (KL: ∀(j:Nat) x,xs[j]?=some x→w.cell? ⟨bk,o+j,none⟩=some (.string x)) (NN:bk<w.heap.size) (hN:xs.length≤140737488355328) (G8:xs.length≤c) (hlen:(Lib.join (xs.map (·.data.toList)) sep.data.toList).length≤140737488355328):
  Calls Tryz.prog 69 #[.slice (some ⟨bk,o,none⟩) xs.length c, .string sep] w fun e w'=>e= .returned (.string ⟨(Lib.join (xs.map (·.data.toList)) sep.data.toList).toArray⟩)∧Below w.heap.size w w':=Any.strings_Join Tryz.gj Tryz.c6 bk o c xs sep w KL NN hN G8 hlen
def Tryz.jo:Go.Shelf.Ren:=⟨fun|137=>99|217=>107|266=>114|n=>n,fun|9=>9|5=>5|3=>3|n=>n,fun|n=>n⟩
def Tryz.ew:Go.Shelf.Ren:=⟨fun|217=>107|266=>114|n=>n,fun|9=>9|5=>5|3=>3|n=>n,fun|n=>n⟩
theorem Tryz.jc:Go.Proofs.Lays.n217 Tryz.prog Tryz.ew:={
 mixed:=by kernel_rfl
 f217:=Tryz.func107.trans (congrArg some (by kernel_rfl))
 f266:=Tryz.func114.trans (congrArg some (by kernel_rfl))
 t3:=Tryz.underlying3
 a3:=Tryz.isAgg3
 z3:=Tryz.sizeOf3
 v3:=Tryz.zeroValue3
 t5:=Tryz.underlying5
 a5:=Tryz.isAgg5
 z5:=Tryz.sizeOf5
 v5:=Tryz.zeroValue5
 t9:=Tryz.underlying9
 a9:=Tryz.isAgg9
 z9:=Tryz.sizeOf9
 v9:=Tryz.zeroValue9}
open Go.RowKit Go.Lib in
theorem Tryz.stringslite_IndexByte (s:ByteArray) (c:Int) (w:World):
  Calls Tryz.prog 107 #[.string s, .int .u8 c] w fun e w'=>e= .returned (.int .i64 (Lib.indexByte s.data.toList c.toNat.toUInt8))∧w'=w:=Any.stringslite_IndexByte Tryz.jc s c w
def Tryz.fb:Go.Shelf.Ren:=⟨fun|219=>105|217=>107|225=>111|224=>112|267=>113|266=>114|314=>115|n=>n,fun|9=>9|3=>3|4=>4|5=>5|46=>121|146=>139|51=>138|n=>n,fun|1=>0|n=>n⟩
theorem Tryz.ja:Go.Proofs.Lays.n219 Tryz.prog Tryz.fb:={
 mixed:=by kernel_rfl
 f217:=Tryz.func107.trans (congrArg some (by kernel_rfl))
 f219:=Tryz.func105.trans (congrArg some (by kernel_rfl))
 f224:=Tryz.func112.trans (congrArg some (by kernel_rfl))
 f225:=Tryz.func111.trans (congrArg some (by kernel_rfl))
 f266:=Tryz.func114.trans (congrArg some (by kernel_rfl))
 f267:=Tryz.func113.trans (congrArg some (by kernel_rfl))
 f314:=Tryz.func115.trans (congrArg some (by kernel_rfl))
 t3:=Tryz.underlying3
 a3:=Tryz.isAgg3
 z3:=Tryz.sizeOf3
 v3:=Tryz.zeroValue3
 t4:=Tryz.underlying4
 a4:=Tryz.isAgg4
 z4:=Tryz.sizeOf4
 v4:=Tryz.zeroValue4
 t5:=Tryz.underlying5
 a5:=Tryz.isAgg5
 z5:=Tryz.sizeOf5
 v5:=Tryz.zeroValue5
 t9:=Tryz.underlying9
 a9:=Tryz.isAgg9
 z9:=Tryz.sizeOf9
 v9:=Tryz.zeroValue9
 t46:=Tryz.underlying121
 a46:=Tryz.isAgg121
 z46:=Tryz.sizeOf121
 v46:=Tryz.zeroValue121
 t51:=Tryz.underlying138
 a51:=Tryz.isAgg138
 z51:=Tryz.sizeOf138
 v51:=Tryz.zeroValue138
 t146:=Tryz.underlying139
 a146:=Tryz.isAgg139
 z146:=Tryz.sizeOf139
 v146:=Tryz.zeroValue139
 g1:=by kernel_rfl}
open Go.RowKit Go.Lib in
theorem Tryz.stringslite_Index_one (s:ByteArray) (c:UInt8) (w:World):
  Calls Tryz.prog 105 #[.string s, .string ⟨#[c]⟩] w fun e w'=>e= .returned (.int .i64 (Lib.indexByte s.data.toList c))∧w'=w:=Any.stringslite_Index_one Tryz.ja s c w
def Tryz.ff:Go.Shelf.Ren:=⟨fun|138=>94|195=>102|218=>104|143=>95|219=>105|217=>107|225=>111|224=>112|267=>113|266=>114|314=>115|n=>n,fun|9=>9|3=>3|4=>4|5=>5|0=>0|46=>121|146=>139|51=>138|n=>n,fun|1=>0|n=>n⟩
theorem Tryz.jf:Go.Proofs.Lays.n138 Tryz.prog Tryz.ff:={
 mixed:=by kernel_rfl
 f138:=Tryz.func94.trans (congrArg some (by kernel_rfl))
 f143:=Tryz.func95.trans (congrArg some (by kernel_rfl))
 f195:=Tryz.func102.trans (congrArg some (by kernel_rfl))
 f217:=Tryz.func107.trans (congrArg some (by kernel_rfl))
 f218:=Tryz.func104.trans (congrArg some (by kernel_rfl))
 f219:=Tryz.func105.trans (congrArg some (by kernel_rfl))
 f224:=Tryz.func112.trans (congrArg some (by kernel_rfl))
 f225:=Tryz.func111.trans (congrArg some (by kernel_rfl))
 f266:=Tryz.func114.trans (congrArg some (by kernel_rfl))
 f267:=Tryz.func113.trans (congrArg some (by kernel_rfl))
 f314:=Tryz.func115.trans (congrArg some (by kernel_rfl))
 t0:=Tryz.underlying0
 a0:=Tryz.isAgg0
 z0:=Tryz.sizeOf0
 v0:=Tryz.zeroValue0
 t3:=Tryz.underlying3
 a3:=Tryz.isAgg3
 z3:=Tryz.sizeOf3
 v3:=Tryz.zeroValue3
 t4:=Tryz.underlying4
 a4:=Tryz.isAgg4
 z4:=Tryz.sizeOf4
 v4:=Tryz.zeroValue4
 t5:=Tryz.underlying5
 a5:=Tryz.isAgg5
 z5:=Tryz.sizeOf5
 v5:=Tryz.zeroValue5
 t9:=Tryz.underlying9
 a9:=Tryz.isAgg9
 z9:=Tryz.sizeOf9
 v9:=Tryz.zeroValue9
 t46:=Tryz.underlying121
 a46:=Tryz.isAgg121
 z46:=Tryz.sizeOf121
 v46:=Tryz.zeroValue121
 t51:=Tryz.underlying138
 a51:=Tryz.isAgg138
 z51:=Tryz.sizeOf138
 v51:=Tryz.zeroValue138
 t146:=Tryz.underlying139
 a146:=Tryz.isAgg139
 z146:=Tryz.sizeOf139
 v146:=Tryz.zeroValue139
 g1:=by kernel_rfl}
open Go.RowKit Go.Lib in
theorem Tryz.strings_Count_one (s:ByteArray) (c:UInt8) (w:World):
  Calls Tryz.prog 94 #[.string s, .string ⟨#[c]⟩] w fun e w'=>e= .returned (.int .i64 (Lib.countByte s.data.toList c))∧w'=w:=Any.strings_Count_one Tryz.jf s c w
end Go.Proofs
end
noncomputable section
namespace Go.Proofs.YtagokdejdanfcaaGreatDoor
open Go.RowKit
set_option maxRecDepth 100000
set_option maxHeartbeats 4000000
theorem Vr: ∀(l:Aa) (c:UInt8), -1≤Lib.indexByte l c∧Lib.indexByte l c<l.length∨Lib.indexByte l c= -1
 | [],_=> .inr rfl
 |b::l,c=>by
  unfold Lib.indexByte;rcases Vr l c with h|h
  ·split
   ·left;simp
   ·split
    ·exact .inr rfl
    ·left;rw [An];omega
  ·rw [h];split
   ·left;simp
   ·right;rfl
theorem WH {n:Int} (h1: -9223372036854775808≤n) (h2:n≤9223372036854775807):D7 .i64 n:=CD h1 h2
theorem cY {b:ByteArray} {c:UInt8} (h:b.data.toList= [c]):b=⟨#[c]⟩:=by
 cases b with
 |mk d=>cases d with
  |mk l=>simp at h;rw [h]
def QP (s:Aa) (c:Int):Option Int:=some (Lib.indexByte s c.toNat.toUInt8)
theorem iH (a0:Aa) (a1 r:Int) (h:QP a0 a1=some r):CB Tryz.prog CM 107 [.str a0, .int .u8 a1] (.int .i64 r):=Sv (by kernel_rfl) fun w vs rf hr=>by
 obtain⟨b,us,rfl,rfl,hb,hr⟩:=Km hr;obtain⟨us1,rfl,_,hr⟩:=tK hr;obtain⟨rfl,rfl⟩:=MS hr;refine(Tryz.stringslite_IndexByte b a1 w).mono ?_;rintro e w' ⟨rfl,rfl⟩;cases h;have hl:b.data.toList.length≤9223372036854775807:=by rw [Array.length_toList];exact hb
 exact⟨Mod.refl [] _,_, [],rfl, .int (by rcases Vr b.data.toList a1.toNat.toUInt8 with h|h<;>exact WH (by omega) (by omega)) .nil,by simp⟩
def QN (s sub:Aa):Option Int:=match sub with| [c]=>some (Lib.indexByte s c)|_=>none
theorem iL (a0 a1:Aa) (r:Int) (h:QN a0 a1=some r):CB Tryz.prog CM 105 [.str a0, .str a1] (.int .i64 r):=Sv (by kernel_rfl) fun w vs rf hr=>by
 obtain⟨b,us,rfl,rfl,hb,hr⟩:=Km hr;obtain⟨b1,us1,rfl,h1,_,hr⟩:=Km hr;obtain⟨rfl,rfl⟩:=MS hr
 match a1,h,h1 with
 | [c],h,h1=>
  have:=cY h1;subst this;refine(Tryz.stringslite_Index_one b c w).mono ?_;rintro e w' ⟨rfl,rfl⟩;cases h;have hl:b.data.toList.length≤9223372036854775807:=by rw [Array.length_toList];exact hb
  exact⟨Mod.refl [] _,_, [],rfl, .int (by rcases Vr b.data.toList c with h|h<;>exact WH (by omega) (by omega)) .nil,by simp⟩
 | [],h,_=>cases h
 |_::_::_,h,_=>cases h
def Rm (s sub:Aa):Option Int:=match sub with| [c]=>some (Lib.countByte s c:Int)|_=>none
theorem kL (a0 a1:Aa) (r:Int) (h:Rm a0 a1=some r):CB Tryz.prog CM 94 [.str a0, .str a1] (.int .i64 r):=Sv (by kernel_rfl) fun w vs rf hr=>by
 obtain⟨b,us,rfl,rfl,hb,hr⟩:=Km hr;obtain⟨b1,us1,rfl,h1,_,hr⟩:=Km hr;obtain⟨rfl,rfl⟩:=MS hr
 match a1,h,h1 with
 | [c],h,h1=>
  have:=cY h1;subst this;refine(Tryz.strings_Count_one b c w).mono ?_;rintro e w' ⟨rfl,rfl⟩;cases h;have hl:b.data.toList.length≤9223372036854775807:=by rw [Array.length_toList];exact hb
  have:Lib.countByte b.data.toList c≤b.data.toList.length:=List.count_le_length;exact⟨Mod.refl [] _,_, [],rfl, .int (WH (by omega) (by omega)) .nil,by simp⟩
 | [],h,_=>cases h
 |_::_::_,h,_=>cases h
def U0 (_:Aa) (_:Int):Option (List (Aa)):=none
theorem jS (a0:Aa) (a1:Int) (r:List (Aa)) (h:U0 a0 a1=some r):CB Tryz.prog CM 93 [.str a0, .int .i64 a1] (.sl (r.map HT)):=by cases h
def O7 (xs:List (Aa)) (sep:Aa):Option (Aa):=req (xs.length≤140737488355328∧(Lib.join xs sep).length≤140737488355328) (some (Lib.join xs sep))
theorem YW {w:World}: ∀{cs:List Value} {xs:List (Aa)} {f:List Nat},Rd w cs (AH (xs.map HT)) f→ ∃bs:List ByteArray,cs=bs.map Value.string∧bs.map (·.data.toList)=xs
 |cs, [],f,h=>by obtain⟨rfl,_⟩:=MS (by simpa [AH]using h);exact⟨[],rfl,rfl⟩
 |cs,x::xs,f,h=>by
  have h':Rd w cs (.str x::AH (xs.map HT)) f:=by simpa [AH]using h
  obtain⟨b,us,rfl,rfl,_,h2⟩:=Km h';obtain⟨bs,rfl,rfl⟩:=YW h2;exact⟨b::bs,rfl,rfl⟩
theorem lB (a0:List (Aa)) (a1 r:Aa) (h:O7 a0 a1=some r):CB Tryz.prog CM 69 [.sl (a0.map HT), .str a1] (.str r):=Sv (by kernel_rfl) fun w vs rf hr=>by
 obtain⟨⟨E4,FJ⟩,h⟩:=HV h;cases h;generalize hx:a0.map HT=ys at hr;cases hr with
 |dh hr=>
  obtain⟨b1,us1,rfl,rfl,_,hr⟩:=Km hr;obtain⟨rfl,rfl⟩:=MS hr;have:a0= []:=by simpa using hx
  subst this;refine(Tryz.strings_Join_none _ _ b1 w).mono ?_;rintro e w' ⟨rfl,rfl⟩;exact⟨Mod.refl [] _,_, [],rfl, .str (by simp [ByteArray.size]) .nil,by simp⟩
 |dw hb h1 h2 h3 h4 h5 h6 Fc h7 hr=>
  rename_i bk o n c cs C t fz sz f1 vs f;obtain⟨b1,us1,rfl,rfl,_,hr⟩:=Km hr;obtain⟨rfl,rfl⟩:=MS hr;subst hx;obtain⟨bs,rfl,rfl⟩:=YW h7;have hn:n=bs.length:=by simpa using h3.symm
  subst hn;have NN:bk<w.heap.size:=Fy hb;refine(Tryz.strings_Join bk o c bs b1 w (fun j x hx=> ?_) NN (by simpa using E4) h2.2 FJ).mono ?_
  ·have:=h6 j (.string x) (by simp [hx]);rw [DS hb];exact this
  ·rintro e w' ⟨rfl,Tm⟩;exact⟨.gr Tm (Nat.le_refl _),_, [],rfl, .str (by simp [ByteArray.size];omega) .nil,by simp⟩
def S5 (w:World) (el:TypeId) (k:Nat) (g cap:Nat) (C:Array Value) (n:Nat) (cs:List Value):Prop:=
 n≤cap∧cap≤maxLen∧w.heap[g]?=some (.cells C el (0,0))∧C.size=cap*k∧cs=C.toList.take (n*k)
theorem S5.cell {w:World} {el:TypeId} {k g cap:Nat} {C:Array Value} {n:Nat} {cs:List Value} (h:S5 w el k g cap C n cs) (off j:Nat) (v:Value) (hj:(cs.drop off)[j]?=some v):w.cell? ((⟨g,off,none⟩:Addr).add j)=some v:=by
 obtain⟨_,_,h3,_,h5⟩:=h;rw [Addr.add_lit,DS h3];rw [List.getElem?_drop,h5,List.getElem?_take]at hj;split at hj
 ·simpa using hj
 ·cases hj
theorem S5.len {w:World} {el:TypeId} {k g cap:Nat} {C:Array Value} {n:Nat} {cs:List Value} (h:S5 w el k g cap C n cs):cs.length=n*k:=by obtain⟨h1,_,_,h4,h5⟩:=h;have:=Nat.mul_le_mul_right k h1;rw [h5,List.length_take,Array.length_toList];omega
theorem two {α:Type} (zs cs vs:List α) (i m n:Nat) (cur:List α) (Tt:cur=cs.take i++zs) (At:cs.length=n) (hi:i≤n) (hv:vs.length=m) (hz:n+m-i≤zs.length):
  let c1:=cur.take i++vs++cur.drop (i+vs.length)
  (c1.take (i+m)++cs.drop i++c1.drop (i+m+(cs.drop i).length)).take (n+m)=cs.take i++vs++cs.drop i:=by
 have ht:(cs.take i).length=i:=by rw [List.length_take];omega
 intro c1;have e1:c1=cs.take i++vs++cur.drop (i+vs.length):=by show cur.take i++vs++cur.drop (i+vs.length)=_;rw [Tt];congr 2;rw [List.take_append_of_le_length (by omega),List.take_take,Nat.min_self]
 have e2:c1.take (i+m)=cs.take i++vs:=by
  have l2:(cs.take i++vs).length=i+m:=by rw [Aj,ht,hv]
  rw [e1,←l2,List.take_left]
 rw [e2];have l1:(cs.take i++vs++cs.drop i).length=n+m:=by simp only [Aj,ht,hv,List.length_drop,At];omega
 rw [←l1,List.take_left]
def OW (a0:Au):Option (Int × Au):=
 if(decide (a0.bu<(a0.aw.length:Int)))then
  (getI a0.aw a0.bu).bind fun y1=>
  if(decide ((IntKind.i64.wrap (a0.bu+1))≤(a0.aw.length:Int)))then
   some ((IntKind.i64.wrap y1),(⟨a0.aw,(IntKind.i64.wrap (a0.bu+1)),(IntKind.u64.wrap ((IntKind.u64.wrap ((IntKind.u64.wrap (a0.ay*6364136223846793005))+(IntKind.u64.wrap (IntKind.i64.wrap y1))))+1442695040888963407))⟩:Au))
  else
   some ((IntKind.i64.wrap (IntKind.u64.wrap ((BitVec.ofInt (IntKind.bits .u64) (Int.fdiv (IntKind.u64.wrap ((IntKind.u64.wrap ((IntKind.u64.wrap (a0.ay*6364136223846793005))+(IntKind.u64.wrap (IntKind.i64.wrap y1))))+1442695040888963407)) (2^(min ((40:Int)).toNat (IntKind.bits .u64))))&&&BitVec.ofInt (IntKind.bits .u64) 255).toNat:Int))),(⟨a0.aw,(IntKind.i64.wrap (a0.bu+1)),(IntKind.u64.wrap ((IntKind.u64.wrap ((IntKind.u64.wrap (a0.ay*6364136223846793005))+(IntKind.u64.wrap (IntKind.i64.wrap y1))))+1442695040888963407))⟩:Au))
 else
  if(decide ((IntKind.i64.wrap (a0.bu+1))≤(a0.aw.length:Int)))then
   some (0,(⟨a0.aw,(IntKind.i64.wrap (a0.bu+1)),(IntKind.u64.wrap ((IntKind.u64.wrap ((IntKind.u64.wrap (a0.ay*6364136223846793005))+(IntKind.u64.wrap 0)))+1442695040888963407))⟩:Au))
  else
   some ((IntKind.i64.wrap (IntKind.u64.wrap ((BitVec.ofInt (IntKind.bits .u64) (Int.fdiv (IntKind.u64.wrap ((IntKind.u64.wrap ((IntKind.u64.wrap (a0.ay*6364136223846793005))+(IntKind.u64.wrap 0)))+1442695040888963407)) (2^(min ((40:Int)).toNat (IntKind.bits .u64))))&&&BitVec.ofInt (IntKind.bits .u64) 255).toNat:Int))),(⟨a0.aw,(IntKind.i64.wrap (a0.bu+1)),(IntKind.u64.wrap ((IntKind.u64.wrap ((IntKind.u64.wrap (a0.ay*6364136223846793005))+(IntKind.u64.wrap 0)))+1442695040888963407))⟩:Au))
def C7 (a0:Au) (a1:Int):Option (Int × Au):=
 if(decide (a1≤1))then
  some (0,a0)
 else
  (OW a0).bind fun v1=>
  if(decide (a1>200))then
   (OW v1.2).bind fun v2=>
   req (a1≠0)<|
   some ((Int.tmod (IntKind.i64.wrap ((IntKind.i64.wrap (v1.1*256))+v2.1)) a1),(⟨v2.2.aw,v2.2.bu,v2.2.ay⟩:Au))
  else
   req (a1≠0)<|
   some ((Int.tmod v1.1 a1),(⟨v1.2.aw,v1.2.bu,v1.2.ay⟩:Au))
def Ef (a0:Au) (a1:List (Aa)):Option (Aa × Au):=
 (C7 a0 (a1.length:Int)).bind fun v1=>
 (getI a1 v1.1).bind fun y2=>
 some (y2,v1.2)
def GK (a0:Au) (a1:Int):Option (Bool × Au):=
 (C7 a0 a1).bind fun v1=>
 some ((v1.1==0),v1.2)
def OP (v2:Int × Au) (v3:Int) (v7:List AU) (y8:Aa) (v9:List Int) (v10 v11:Int) (v12:Bool):Option ((Int × List Int × Int × Int × List AU) ⊕ Option (Ah × Au)):=
 if v12 then
  (C7 (⟨v9,v10,v11⟩:Au) (IntKind.i64.wrap (((AL [([107]:Aa),([97]:Aa),([98]:Aa),([99,99]:Aa)] 0 (IntKind.i64.wrap ((2:Int)+v2.1))).length:Int)-1))).bind fun v13=>
  (C7 v13.2 4).bind fun v14=>
  req ((((v7).length:Int)+(([(⟨y8,(IntKind.i64.wrap ((1:Int)+v13.1)),v14.1⟩:AU)]:List AU).length:Int))*32≤140737488355328∧((v7).length:Int)+(([(⟨y8,(IntKind.i64.wrap ((1:Int)+v13.1)),v14.1⟩:AU)]:List AU).length:Int)≤140737488355328)<|
  some (.inl ((IntKind.i64.wrap (v3+1)),v14.2.aw,v14.2.bu,v14.2.ay,(v7++ [(⟨y8,(IntKind.i64.wrap ((1:Int)+v13.1)),v14.1⟩:AU)])))
 else
  some (.inl ((IntKind.i64.wrap (v3+1)),v9,v10,v11,v7))
def Ye (v1:Aa × Au) (v2:Int × Au) (v3:Int) (v4:List Int) (v5 v6:Int) (v7:List AU):Option ((Int × List Int × Int × Int × List AU) ⊕ Option (Ah × Au)):=
 if(decide (v3<([([105]:Aa),([106]:Aa),([109]:Aa)].length:Int)))then
  (getI [([105]:Aa),([106]:Aa),([109]:Aa)] v3).bind fun y8=>
  (GK (⟨v4,v5,v6⟩:Au) 3).bind fun v15=>
  if(!v15.1)then
   OP v2 v3 v7 y8 v15.2.aw v15.2.bu v15.2.ay true
  else
   if(y8==([105]:Aa))then
    (GK v15.2 8).bind fun v16=>
    OP v2 v3 v7 y8 v16.2.aw v16.2.bu v16.2.ay (!v16.1)
   else
    OP v2 v3 v7 y8 v15.2.aw v15.2.bu v15.2.ay false
 else
  some (.inr (some ((⟨v1.1,(AL [([107]:Aa),([97]:Aa),([98]:Aa),([99,99]:Aa)] 0 (IntKind.i64.wrap ((2:Int)+v2.1))),v7⟩:Ah),(⟨v4,v5,v6⟩:Au))))
def Mk (a0:Au):Option (Ah × Au):=
 (Ef a0 ([([116]:Aa),([117]:Aa)]:List (Aa))).bind fun v1=>
 (C7 v1.2 3).bind fun v2=>
 req (0≤(0:Int)∧(0:Int)≤(IntKind.i64.wrap ((2:Int)+v2.1))∧(IntKind.i64.wrap ((2:Int)+v2.1))≤(([([107]:Aa),([97]:Aa),([98]:Aa),([99,99]:Aa)]:List (Aa)).length:Int))<|
 req (((([]:List (Aa)).length:Int)+(((AL [([107]:Aa),([97]:Aa),([98]:Aa),([99,99]:Aa)] 0 (IntKind.i64.wrap ((2:Int)+v2.1)))).length:Int))*16≤140737488355328∧(([]:List (Aa)).length:Int)+(((AL [([107]:Aa),([97]:Aa),([98]:Aa),([99,99]:Aa)] 0 (IntKind.i64.wrap ((2:Int)+v2.1)))).length:Int)≤140737488355328)<|
 BA (fun s:Int × List Int × Int × Int × List AU=>Ye v1 v2 s.1 s.2.1 s.2.2.1 s.2.2.2.1 s.2.2.2.2) (0,v2.2.aw,v2.2.bu,v2.2.ay, [])
def Ya (a1:Ah) (v2:List Int) (v3 v4:Int) (v5:List (Aa)):Option ((List Int × Int × Int × List (Aa)) ⊕ Option (Aw × Au)):=
 if(decide ((v5.length:Int)<(a1.ax.length:Int)))then
  (Ef (⟨v2,v3,v4⟩:Au) ([([120]:Aa),([121]:Aa),([120]:Aa),([48]:Aa),([97,98,99]:Aa)]:List (Aa))).bind fun v6=>
  req ((((v5).length:Int)+(([v6.1]:List (Aa)).length:Int))*16≤140737488355328∧((v5).length:Int)+(([v6.1]:List (Aa)).length:Int)≤140737488355328)<|
  some (.inl (v6.2.aw,v6.2.bu,v6.2.ay,(v5++ [v6.1])))
 else
  some (.inr (some ((⟨v5⟩:Aw),(⟨v2,v3,v4⟩:Au))))
def IP (a0:Au) (a1:Ah):Option (Aw × Au):=
 (Ef a0 ([([49]:Aa),([50]:Aa),([51]:Aa),([97]:Aa),([122,122]:Aa),([97,98,99]:Aa)]:List (Aa))).bind fun v1=>
 BA (fun s:List Int × Int × Int × List (Aa)=>Ya a1 s.1 s.2.1 s.2.2.1 s.2.2.2) (v1.2.aw,v1.2.bu,v1.2.ay, [v1.1])
def Mq (a0:List (Aa)) (a1 v1:Aa) (v2:Int):Option ((Aa × Int) ⊕ Option (Aa)):=
 if(decide (v2<(a0.length:Int)))then
  (getI a0 v2).bind fun y3=>
  if(decide (v2>0))then
   req ((v1).length+(a1).length≤9223372036854775807)<|
   req (((v1++a1)).length+(y3).length≤9223372036854775807)<|
   some (.inl (((v1++a1)++y3),(IntKind.i64.wrap (v2+1))))
  else
   req ((v1).length+(y3).length≤9223372036854775807)<|
   some (.inl ((v1++y3),(IntKind.i64.wrap (v2+1))))
 else
  some (.inr (some v1))
def RJ (a0:List (Aa)) (a1:Aa):Option (Aa):=
 BA (fun s:Aa × Int=>Mq a0 a1 s.1 s.2) (([]:Aa),0)
def J6 (a0:Ah) (a1:Aw):Option (Ao):=
 req ((a0.ab).length+(([47]:Aa)).length≤9223372036854775807)<|
 (getI a1.ah 0).bind fun y1=>
 req (((a0.ab++([47]:Aa))).length+(y1).length≤9223372036854775807)<|
 req (0≤(1:Int)∧(1:Int)≤(a1.ah.length:Int)∧(a1.ah.length:Int)≤(a1.ah.length:Int))<|
 (RJ (AL a1.ah 1 (a1.ah.length:Int)) ([44]:Aa)).bind fun v2=>
 some (⟨((a0.ab++([47]:Aa))++y1),v2,false⟩:Ao)
def Rj (a0:List Ao) (a1:Ao) (v1:Int):Option (List Ao):=
 if(decide (v1>0))then
  (getI a0 (IntKind.i64.wrap (v1-1))).bind fun y2=>
  if(y2.al==a1.al)then
   req (((([]:List Ao).length:Int)+((a0).length:Int))*40≤140737488355328∧(([]:List Ao).length:Int)+((a0).length:Int)≤140737488355328)<|
   (getI a0 (IntKind.i64.wrap (v1-1))).bind fun y3=>
   some (a0.set ((IntKind.i64.wrap (v1-1))).toNat a1)
  else
   req (0≤v1∧v1≤(a0.length:Int)∧(a0.length:Int)≤(a0.length:Int))<|
   req (((([]:List Ao).length:Int)+(((AL a0 v1 (a0.length:Int))).length:Int))*40≤140737488355328∧(([]:List Ao).length:Int)+(((AL a0 v1 (a0.length:Int))).length:Int)≤140737488355328)<|
   req (0≤(0:Int)∧(0:Int)≤v1∧v1≤(a0.length:Int))<|
   req (((([]:List Ao).length:Int)+(((AL a0 0 v1)).length:Int))*40≤140737488355328∧(([]:List Ao).length:Int)+(((AL a0 0 v1)).length:Int)≤140737488355328)<|
   req (((((AL a0 0 v1)).length:Int)+(([a1]:List Ao).length:Int))*40≤140737488355328∧(((AL a0 0 v1)).length:Int)+(([a1]:List Ao).length:Int)≤140737488355328)<|
   req ((((((AL a0 0 v1)++ [a1])).length:Int)+(((AL a0 v1 (a0.length:Int))).length:Int))*40≤140737488355328∧((((AL a0 0 v1)++ [a1])).length:Int)+(((AL a0 v1 (a0.length:Int))).length:Int)≤140737488355328)<|
   some (((AL a0 0 v1)++ [a1])++(AL a0 v1 (a0.length:Int)))
 else
  req (0≤v1∧v1≤(a0.length:Int)∧(a0.length:Int)≤(a0.length:Int))<|
  req (((([]:List Ao).length:Int)+(((AL a0 v1 (a0.length:Int))).length:Int))*40≤140737488355328∧(([]:List Ao).length:Int)+(((AL a0 v1 (a0.length:Int))).length:Int)≤140737488355328)<|
  req (0≤(0:Int)∧(0:Int)≤v1∧v1≤(a0.length:Int))<|
  req (((([]:List Ao).length:Int)+(((AL a0 0 v1)).length:Int))*40≤140737488355328∧(([]:List Ao).length:Int)+(((AL a0 0 v1)).length:Int)≤140737488355328)<|
  req (((((AL a0 0 v1)).length:Int)+(([a1]:List Ao).length:Int))*40≤140737488355328∧(((AL a0 0 v1)).length:Int)+(([a1]:List Ao).length:Int)≤140737488355328)<|
  req ((((((AL a0 0 v1)++ [a1])).length:Int)+(((AL a0 v1 (a0.length:Int))).length:Int))*40≤140737488355328∧((((AL a0 0 v1)++ [a1])).length:Int)+(((AL a0 v1 (a0.length:Int))).length:Int)≤140737488355328)<|
  some (((AL a0 0 v1)++ [a1])++(AL a0 v1 (a0.length:Int)))
def Lq (a0:List Ao) (a1:Ao) (v4:Int):Option ((Int) ⊕ Option (List Ao)):=
 if(decide (v4>0))then
  (getI a0 (IntKind.i64.wrap (v4-1))).bind fun y5=>
  if(!(Op.bytesLess y5.al a1.al||y5.al==a1.al))then
   some (.inl (IntKind.i64.wrap (v4-1)))
  else
   some (.inr (Rj a0 a1 v4))
 else
  some (.inr (Rj a0 a1 v4))
def IY (a0:List Ao) (a1:Ao):Option (List Ao):=
 BA (fun s:Int=>Lq a0 a1 s) (a0.length:Int)
def U4 (a0:Aa) (v1:Int) (v2:List (Aa)):Option (List (Aa)):=
 req (0≤v1∧v1≤(a0.length:Int)∧(a0.length:Int)≤(a0.length:Int))<|
 req ((((v2).length:Int)+(([(AL a0 v1 (a0.length:Int))]:List (Aa)).length:Int))*16≤140737488355328∧((v2).length:Int)+(([(AL a0 v1 (a0.length:Int))]:List (Aa)).length:Int)≤140737488355328)<|
 some (v2++ [(AL a0 v1 (a0.length:Int))])
def Mp (a0:Aa) (a1:Int) (v3:List (Aa)) (v4 v5:Int):Option ((List (Aa) × Int × Int) ⊕ Option (List (Aa))):=
 if(decide (v5<(a0.length:Int)))then
  (getI a0 v5).bind fun y6=>
  if((y6.toNat:Int)==a1)then
   req (0≤v4∧v4≤v5∧v5≤(a0.length:Int))<|
   req ((((v3).length:Int)+(([(AL a0 v4 v5)]:List (Aa)).length:Int))*16≤140737488355328∧((v3).length:Int)+(([(AL a0 v4 v5)]:List (Aa)).length:Int)≤140737488355328)<|
   some (.inl ((v3++ [(AL a0 v4 v5)]),(IntKind.i64.wrap (v5+1)),(IntKind.i64.wrap (v5+1))))
  else
   some (.inl (v3,v4,(IntKind.i64.wrap (v5+1))))
 else
  some (.inr (U4 a0 v4 v3))
def IW (a0:Aa) (a1:Int):Option (List (Aa)):=
 BA (fun s:List (Aa) × Int × Int=>Mp a0 a1 s.1 s.2.1 s.2.2) ([],0,0)
def Mx (a0 a1 a2:Int):Option (Bool):=
 some ((decide (a0≥a1))&&(decide (a0≤a2)))
def Vg (v1:Int) (v3:Bool):Option ((Int) ⊕ Option (Bool)):=
 if(!v3)then
  some (.inr (some false))
 else
  some (.inl (IntKind.i64.wrap (v1+1)))
def O4 (a1:Aa) (v1:Int) (y2:UInt8) (v4:Bool) (v5:Int):Option ((Bool × Int) ⊕ Option ((Int) ⊕ Option (Bool))):=
 if(decide (v5<(a1.length:Int)))then
  if v4 then
   some (.inl (true,(IntKind.i64.wrap (v5+1))))
  else
   (getI a1 v5).bind fun y6=>
   some (.inl (((y2.toNat:Int)==(y6.toNat:Int)),(IntKind.i64.wrap (v5+1))))
 else
  some (.inr (Vg v1 v4))
def U3 (a0 a1:Aa) (v1:Int):Option ((Int) ⊕ Option (Bool)):=
 if(decide (v1<(a0.length:Int)))then
  (getI a0 v1).bind fun y2=>
  BA (fun s:Bool × Int=>O4 a1 v1 y2 s.1 s.2) ((((decide ((y2.toNat:Int)≥97))&&(decide ((y2.toNat:Int)≤122)))||((decide ((y2.toNat:Int)≥48))&&(decide ((y2.toNat:Int)≤57)))),0)
 else
  some (.inr (some true))
def RF (a0 a1:Aa):Option (Bool):=
 BA (fun s:Int=>U3 a0 a1 s) 0
def Lp (a0:Aa):Option (Bool):=
 (Mx (a0.length:Int) 1 3).bind fun v1=>
 if v1 then
  (RF a0 ([]:Aa)).bind fun v2=>
  some v2
 else
  some false
def UY (a0:Ah) (a1:Aw):Option (Bool):=
 some ((a1.ah.length:Int)==(a0.ax.length:Int))
def UX (a0:Ah) (a1:Aw) (v1:Int):Option ((Int) ⊕ Option (Bool)):=
 if(decide (v1<(a1.ah.length:Int)))then
  (getI a1.ah v1).bind fun y2=>
  (Lp y2).bind fun v3=>
  if(!v3)then
   some (.inr (some false))
  else
   some (.inl (IntKind.i64.wrap (v1+1)))
 else
  some (.inr (UY a0 a1))
def J5 (a0:Ah) (a1:Aw):Option (Bool):=
 BA (fun s:Int=>UX a0 a1 s) 0
def Rw (a0:Ah) (a1:Ao):Option (Aw × Bool):=
 if(decide ((a1.al.length:Int)<3))then
  some ((⟨[]⟩:Aw),false)
 else
  req (0≤(2:Int)∧(2:Int)≤(a1.al.length:Int)∧(a1.al.length:Int)≤(a1.al.length:Int))<|
  (IW a1.bf 44).bind fun v1=>
  req (((([(AL a1.al 2 (a1.al.length:Int))]:List (Aa)).length:Int)+((v1).length:Int))*16≤140737488355328∧(([(AL a1.al 2 (a1.al.length:Int))]:List (Aa)).length:Int)+((v1).length:Int)≤140737488355328)<|
  (J5 a0 (⟨([(AL a1.al 2 (a1.al.length:Int))]++v1)⟩:Aw)).bind fun v2=>
  if v2 then
   (J6 a0 (⟨([(AL a1.al 2 (a1.al.length:Int))]++v1)⟩:Aw)).bind fun v3=>
   some ((⟨([(AL a1.al 2 (a1.al.length:Int))]++v1)⟩:Aw),(v3.al==a1.al&&(v3.bf==a1.bf&&(v3.c7==a1.c7))))
  else
   some ((⟨([(AL a1.al 2 (a1.al.length:Int))]++v1)⟩:Aw),false)
def Mo (a0:Ah) (a1:List Ao) (v1:List Aw) (v2:Int):Option ((List Aw × Int) ⊕ Option (List Aw)):=
 if(decide (v2<(a1.length:Int)))then
  (getI a1 v2).bind fun y3=>
  (Rw a0 y3).bind fun v4=>
  if v4.2 then
   req ((((v1).length:Int)+(([v4.1]:List Aw).length:Int))*24≤140737488355328∧((v1).length:Int)+(([v4.1]:List Aw).length:Int)≤140737488355328)<|
   some (.inl ((v1++ [v4.1]),(IntKind.i64.wrap (v2+1))))
  else
   some (.inl (v1,(IntKind.i64.wrap (v2+1))))
 else
  some (.inr (some v1))
def Rx (a0:Ah) (a1:List Ao):Option (List Aw):=
 BA (fun s:List Aw × Int=>Mo a0 a1 s.1 s.2) ([],0)
def J7 (a0:Ah) (a1:AU) (a2:Aw):Option (Aa):=
 req ((a0.ab).length+(([46]:Aa)).length≤9223372036854775807)<|
 req (((a0.ab++([46]:Aa))).length+(a1.ab).length≤9223372036854775807)<|
 req ((((a0.ab++([46]:Aa))++a1.ab)).length+(([47]:Aa)).length≤9223372036854775807)<|
 (getI a2.ah a1.cq).bind fun y1=>
 req (((((a0.ab++([46]:Aa))++a1.ab)++([47]:Aa))).length+(y1).length≤9223372036854775807)<|
 req ((((((a0.ab++([46]:Aa))++a1.ab)++([47]:Aa))++y1)).length+(([47]:Aa)).length≤9223372036854775807)<|
 (getI a2.ah 0).bind fun y2=>
 req (((((((a0.ab++([46]:Aa))++a1.ab)++([47]:Aa))++y1)++([47]:Aa))).length+(y2).length≤9223372036854775807)<|
 some ((((((a0.ab++([46]:Aa))++a1.ab)++([47]:Aa))++y1)++([47]:Aa))++y2)
def Q3 (a0:Au):Option (Aa × Au):=
 (Ef a0 ([([97]:Aa),([98]:Aa),([99]:Aa),([109]:Aa),([110]:Aa),([122]:Aa),([114,47,49]:Aa),([105,47,120,47,49]:Aa)]:List (Aa))).bind fun v1=>
 some (v1.1,v1.2)
def Q4 (a0:Au):Option (Aa × Au):=
 (Ef a0 ([([]:Aa),([49]:Aa),([55]:Aa),([49,48]:Aa),([45,51]:Aa),([120]:Aa),([97,44,98,95,99]:Aa)]:List (Aa))).bind fun v1=>
 some (v1.1,v1.2)
def UT (v6:List Int) (v7 v8:Int) (v9:List Ao):Option (List Ao × Au):=
 (GK (⟨v6,v7,v8⟩:Au) 6).bind fun v10=>
 if v10.1 then
  (Q3 v10.2).bind fun v11=>
  (Q4 v11.2).bind fun v12=>
  (IY v9 (⟨v11.1,v12.1,false⟩:Ao)).bind fun v13=>
  some (v13,(⟨v12.2.aw,v12.2.bu,v12.2.ay⟩:Au))
 else
  some (v9,(⟨v10.2.aw,v10.2.bu,v10.2.ay⟩:Au))
def UW (a1:Ah) (v14:Int) (y19:AU) (v21:List Int) (v22 v23:Int) (v24:List Ao):Option ((Int × List Int × Int × Int × List Ao) ⊕ Option (List Ao × Au)):=
 (GK (⟨v21,v22,v23⟩:Au) 5).bind fun v25=>
 if v25.1 then
  (IP v25.2 a1).bind fun v26=>
  (J7 a1 y19 v26.1).bind fun v27=>
  (IY v24 (⟨v27,([]:Aa),false⟩:Ao)).bind fun v28=>
  some (.inl ((IntKind.i64.wrap (v14+1)),v26.2.aw,v26.2.bu,v26.2.ay,v28))
 else
  some (.inl ((IntKind.i64.wrap (v14+1)),v25.2.aw,v25.2.bu,v25.2.ay,v24))
def Yf (a1:Ah) (v14:Int) (y19:AU) (v20:List Aw) (v29:Int) (v30:List Int) (v31 v32:Int) (v33:List Ao):Option ((Int × List Int × Int × Int × List Ao) ⊕ Option ((Int × List Int × Int × Int × List Ao) ⊕ Option (List Ao × Au))):=
 if(decide (v29<(v20.length:Int)))then
  (getI v20 v29).bind fun y34=>
  (GK (⟨v30,v31,v32⟩:Au) 5).bind fun v35=>
  if(!v35.1)then
   (J7 a1 y19 y34).bind fun v36=>
   (IY v33 (⟨v36,([]:Aa),false⟩:Ao)).bind fun v37=>
   some (.inl ((IntKind.i64.wrap (v29+1)),v35.2.aw,v35.2.bu,v35.2.ay,v37))
  else
   some (.inl ((IntKind.i64.wrap (v29+1)),v35.2.aw,v35.2.bu,v35.2.ay,v33))
 else
  some (.inr (UW a1 v14 y19 v30 v31 v32 v33))
def Yd (a1:Ah) (v14:Int) (v15:List Int) (v16 v17:Int) (v18:List Ao):Option ((Int × List Int × Int × Int × List Ao) ⊕ Option (List Ao × Au)):=
 if(decide (v14<(a1.ae.length:Int)))then
  (getI a1.ae v14).bind fun y19=>
  (Rx a1 v18).bind fun v20=>
  BA (fun s:Int × List Int × Int × Int × List Ao=>Yf a1 v14 y19 v20 s.1 s.2.1 s.2.2.1 s.2.2.2.1 s.2.2.2.2) (0,v15,v16,v17,v18)
 else
  some (.inr (UT v15 v16 v17 v18))
def UR (a1:Ah) (v2:List Int) (v3 v4:Int) (v5:List Ao):Option (List Ao × Au):=
 BA (fun s:Int × List Int × Int × Int × List Ao=>Yd a1 s.1 s.2.1 s.2.2.1 s.2.2.2.1 s.2.2.2.2) (0,v2,v3,v4,v5)
def Yg (a1:Ah) (v38:List Ao) (v39:Int) (v40:List Int) (v41 v42:Int):Option ((List Ao × Int × List Int × Int × Int) ⊕ Option (List Ao × Au)):=
 if(decide (v39>0))then
  (IP (⟨v40,v41,v42⟩:Au) a1).bind fun v43=>
  (J6 a1 v43.1).bind fun v44=>
  (IY v38 v44).bind fun v45=>
  some (.inl (v45,(IntKind.i64.wrap (v39-1)),v43.2.aw,v43.2.bu,v43.2.ay))
 else
  some (.inr (UR a1 v40 v41 v42 v38))
def OU (a0:Au) (a1:Ah):Option (List Ao × Au):=
 (C7 a0 5).bind fun v1=>
 BA (fun s:List Ao × Int × List Int × Int × Int=>Yg a1 s.1 s.2.1 s.2.2.1 s.2.2.2.1 s.2.2.2.2) ([],v1.1,v1.2.aw,v1.2.bu,v1.2.ay)
def QY (a0:Au) (a1:Ah):Option (List Ao × Au):=
 (OU a0 a1).bind fun v1=>
 (C7 v1.2 12).bind fun v2=>
 if(v2.1==0)then
  req ((((v1.1).length:Int)+(([(⟨([97]:Aa),([33]:Aa),false⟩:Ao)]:List Ao).length:Int))*40≤140737488355328∧((v1.1).length:Int)+(([(⟨([97]:Aa),([33]:Aa),false⟩:Ao)]:List Ao).length:Int)≤140737488355328)<|
  some ((v1.1++ [(⟨([97]:Aa),([33]:Aa),false⟩:Ao)]),(⟨v2.2.aw,v2.2.bu,v2.2.ay⟩:Au))
 else
  if(v2.1==1)then
   req ((a1.ab).length+(([47]:Aa)).length≤9223372036854775807)<|
   (Ef v2.2 ([([97,98,99,100]:Aa),([97]:Aa),([49]:Aa)]:List (Aa))).bind fun v3=>
   req (((a1.ab++([47]:Aa))).length+(v3.1).length≤9223372036854775807)<|
   (Ef v3.2 ([([120]:Aa),([120,44,44,121]:Aa),([]:Aa),([120,44,121,44,122]:Aa)]:List (Aa))).bind fun v4=>
   (IY v1.1 (⟨((a1.ab++([47]:Aa))++v3.1),v4.1,false⟩:Ao)).bind fun v5=>
   some (v5,(⟨v4.2.aw,v4.2.bu,v4.2.ay⟩:Au))
  else
   if(v2.1==2)then
    if(decide ((v1.1.length:Int)>0))then
     (C7 v2.2 (v1.1.length:Int)).bind fun v6=>
     (getI v1.1 v6.1).bind fun y7=>
     some ((v1.1.set (v6.1).toNat {y7 with c7:=true}),(⟨v6.2.aw,v6.2.bu,v6.2.ay⟩:Au))
    else
     some (v1.1,(⟨v2.2.aw,v2.2.bu,v2.2.ay⟩:Au))
   else
    if(v2.1==3)then
     req ((a1.ab).length+(([46,105,47]:Aa)).length≤9223372036854775807)<|
     (Ef v2.2 ([([120]:Aa),([120,47,49,47,50]:Aa),([47,49]:Aa),([97,98,99,100,47,49]:Aa)]:List (Aa))).bind fun v8=>
     req (((a1.ab++([46,105,47]:Aa))).length+(v8.1).length≤9223372036854775807)<|
     (IY v1.1 (⟨((a1.ab++([46,105,47]:Aa))++v8.1),([]:Aa),false⟩:Ao)).bind fun v9=>
     some (v9,(⟨v8.2.aw,v8.2.bu,v8.2.ay⟩:Au))
    else
     some (v1.1,(⟨v2.2.aw,v2.2.bu,v2.2.ay⟩:Au))
def QW (a1:Ah) (v3:List Int) (v4 v5:Int) (v6:List (Aa)):Option (A6 × Au):=
 (C7 (⟨v3,v4,v5⟩:Au) 3).bind fun v7=>
 if(v7.1==0)then
  (IP v7.2 a1).bind fun v8=>
  some ((⟨1,(⟨[]⟩:Aw),v8.1⟩:A6),v8.2)
 else
  if(v7.1==1)then
   some ((⟨2,(⟨v6⟩:Aw),(⟨[]⟩:Aw)⟩:A6),v7.2)
  else
   (IP v7.2 a1).bind fun v9=>
   (getI v6 0).bind fun y10=>
   (getI v9.1.ah 0).bind fun y11=>
   some ((⟨3,(⟨v6⟩:Aw),(⟨(v9.1.ah.set ((0:Int)).toNat y10)⟩:Aw)⟩:A6),v9.2)
def QV (a1:Ah) (v1:List Aw) (v2:Aw × Au) (v12:Bool) (v13:List Int) (v14 v15:Int):Option (A6 × Au):=
 if v12 then
  (C7 (⟨v13,v14,v15⟩:Au) (v1.length:Int)).bind fun v16=>
  (getI v1 v16.1).bind fun y17=>
  QW a1 v16.2.aw v16.2.bu v16.2.ay y17.ah
 else
  QW a1 v13 v14 v15 v2.1.ah
def OR (a0:Au) (a1:Ah) (a2:List Ao):Option (A6 × Au):=
 (Rx a1 a2).bind fun v1=>
 (IP a0 a1).bind fun v2=>
 if(decide ((v1.length:Int)>0))then
  (GK v2.2 4).bind fun v18=>
  QV a1 v1 v2 (!v18.1) v18.2.aw v18.2.bu v18.2.ay
 else
  QV a1 v1 v2 false v2.2.aw v2.2.bu v2.2.ay
def OV (a0:Au) (a1:Ah) (a2:List Ao):Option (AP × Au):=
 (C7 a0 4).bind fun v1=>
 if(v1.1==0)then
  (Ef v1.2 ([([49]:Aa),([50]:Aa),([51]:Aa),([97]:Aa),([113]:Aa)]:List (Aa))).bind fun v2=>
  some ((⟨2,(⟨0,(⟨[]⟩:Aw),(⟨[]⟩:Aw)⟩:A6),([]:Aa),v2.1,([]:Aa)⟩:AP),v2.2)
 else
  if(v1.1==1)then
   if(decide ((a1.ae.length:Int)>0))then
    (C7 v1.2 (a1.ae.length:Int)).bind fun v3=>
    (getI a1.ae v3.1).bind fun y4=>
    (Ef v3.2 ([([48]:Aa),([120]:Aa),([97,98,99]:Aa)]:List (Aa))).bind fun v5=>
    (Ef v5.2 ([([121]:Aa),([120]:Aa),([122,122]:Aa)]:List (Aa))).bind fun v6=>
    some ((⟨3,(⟨0,(⟨[]⟩:Aw),(⟨[]⟩:Aw)⟩:A6),y4.ab,v5.1,v6.1⟩:AP),v6.2)
   else
    (OR (⟨v1.2.aw,v1.2.bu,v1.2.ay⟩:Au) a1 a2).bind fun v7=>
    some ((⟨1,v7.1,([]:Aa),([]:Aa),([]:Aa)⟩:AP),v7.2)
  else
   (OR (⟨v1.2.aw,v1.2.bu,v1.2.ay⟩:Au) a1 a2).bind fun v8=>
   some ((⟨1,v8.1,([]:Aa),([]:Aa),([]:Aa)⟩:AP),v8.2)
def Q1 (a0:Au) (a1:Ah):Option (Aw × Au):=
 (IP a0 a1).bind fun v1=>
 (C7 v1.2 10).bind fun v2=>
 if(v2.1==0)then
  (C7 v2.2 (v1.1.ah.length:Int)).bind fun v3=>
  (Ef v3.2 ([([]:Aa),([97,98,99,100]:Aa),([45]:Aa),([65]:Aa)]:List (Aa))).bind fun v4=>
  (getI v1.1.ah v3.1).bind fun y5=>
  some ((⟨(v1.1.ah.set (v3.1).toNat v4.1)⟩:Aw),(⟨v4.2.aw,v4.2.bu,v4.2.ay⟩:Au))
 else
  if(v2.1==1)then
   req ((((v1.1.ah).length:Int)+(([([120]:Aa)]:List (Aa)).length:Int))*16≤140737488355328∧((v1.1.ah).length:Int)+(([([120]:Aa)]:List (Aa)).length:Int)≤140737488355328)<|
   some ((⟨(v1.1.ah++ [([120]:Aa)])⟩:Aw),(⟨v2.2.aw,v2.2.bu,v2.2.ay⟩:Au))
  else
   if(v2.1==2)then
    some ((⟨[]⟩:Aw),(⟨v2.2.aw,v2.2.bu,v2.2.ay⟩:Au))
   else
    some ((⟨v1.1.ah⟩:Aw),(⟨v2.2.aw,v2.2.bu,v2.2.ay⟩:Au))
def Q0 (a0:Au) (a1:Ah) (a2:List Ao):Option (AP × Au):=
 (OV a0 a1 a2).bind fun v1=>
 (C7 v1.2 12).bind fun v2=>
 if(v2.1==0)then
  (C7 v2.2 5).bind fun v3=>
  some ((⟨v3.1,v1.1.a6,v1.1.cb,v1.1.bt,v1.1.ca⟩:AP),(⟨v3.2.aw,v3.2.bu,v3.2.ay⟩:Au))
 else
  if(v2.1==1)then
   (Ef v2.2 ([([]:Aa),([97,98,99,100]:Aa),([45]:Aa)]:List (Aa))).bind fun v4=>
   some ((⟨v1.1.af,v1.1.a6,v1.1.cb,v4.1,v1.1.ca⟩:AP),(⟨v4.2.aw,v4.2.bu,v4.2.ay⟩:Au))
  else
   if(v2.1==2)then
    (Ef v2.2 ([([122]:Aa),([105]:Aa)]:List (Aa))).bind fun v5=>
    some ((⟨v1.1.af,v1.1.a6,v5.1,v1.1.bt,v1.1.ca⟩:AP),(⟨v5.2.aw,v5.2.bu,v5.2.ay⟩:Au))
   else
    if(v2.1==3)then
     (Q1 v2.2 a1).bind fun v6=>
     some ((⟨v1.1.af,(⟨v1.1.a6.af,v1.1.a6.a8,(⟨v6.1.ah⟩:Aw)⟩:A6),v1.1.cb,v1.1.bt,v1.1.ca⟩:AP),(⟨v6.2.aw,v6.2.bu,v6.2.ay⟩:Au))
    else
     some ((⟨v1.1.af,v1.1.a6,v1.1.cb,v1.1.bt,v1.1.ca⟩:AP),(⟨v2.2.aw,v2.2.bu,v2.2.ay⟩:Au))
def QZ (a0:Au):Option (Ah × Au):=
 (Mk a0).bind fun v1=>
 (C7 v1.2 14).bind fun v2=>
 if(v2.1==0)then
  (Ef v2.2 ([([]:Aa),([116,116]:Aa),([84]:Aa)]:List (Aa))).bind fun v3=>
  some ((⟨v3.1,v1.1.ax,v1.1.ae⟩:Ah),(⟨v3.2.aw,v3.2.bu,v3.2.ay⟩:Au))
 else
  if(v2.1==1)then
   (Ef v2.2 ([([97]:Aa),([97,98,99,100]:Aa),([]:Aa),([100]:Aa)]:List (Aa))).bind fun v4=>
   req ((((v1.1.ax).length:Int)+(([v4.1]:List (Aa)).length:Int))*16≤140737488355328∧((v1.1.ax).length:Int)+(([v4.1]:List (Aa)).length:Int)≤140737488355328)<|
   some ((⟨v1.1.ab,(v1.1.ax++ [v4.1]),v1.1.ae⟩:Ah),(⟨v4.2.aw,v4.2.bu,v4.2.ay⟩:Au))
  else
   if(v2.1==2)then
    req (0≤(0:Int)∧(0:Int)≤1∧(1:Int)≤(v1.1.ax.length:Int))<|
    some ((⟨v1.1.ab,(AL v1.1.ax 0 1),v1.1.ae⟩:Ah),(⟨v2.2.aw,v2.2.bu,v2.2.ay⟩:Au))
   else
    if(v2.1==3)then
     (Ef v2.2 ([([97]:Aa),([122]:Aa),([122,122]:Aa)]:List (Aa))).bind fun v5=>
     (C7 v5.2 5).bind fun v6=>
     (C7 v6.2 5).bind fun v7=>
     req ((((v1.1.ae).length:Int)+(([(⟨v5.1,v6.1,(IntKind.i64.wrap (v7.1-1))⟩:AU)]:List AU).length:Int))*32≤140737488355328∧((v1.1.ae).length:Int)+(([(⟨v5.1,v6.1,(IntKind.i64.wrap (v7.1-1))⟩:AU)]:List AU).length:Int)≤140737488355328)<|
     some ((⟨v1.1.ab,v1.1.ax,(v1.1.ae++ [(⟨v5.1,v6.1,(IntKind.i64.wrap (v7.1-1))⟩:AU)])⟩:Ah),(⟨v7.2.aw,v7.2.bu,v7.2.ay⟩:Au))
    else
     some ((⟨v1.1.ab,v1.1.ax,v1.1.ae⟩:Ah),(⟨v2.2.aw,v2.2.bu,v2.2.ay⟩:Au))
def Mj (v1:Ah × Au) (v2:List Int) (v3 v4:Int) (v5:List AU):Option (Ah × List Ao × AP):=
 (QY (⟨v2,v3,v4⟩:Au) (⟨v1.1.ab,v1.1.ax,v5⟩:Ah)).bind fun v6=>
 (Q0 v6.2 (⟨v1.1.ab,v1.1.ax,v5⟩:Ah) v6.1).bind fun v7=>
 (GK v7.2 12).bind fun v8=>
 if v8.1 then
  (QZ v8.2).bind fun v9=>
  some ((⟨v9.1.ab,v9.1.ax,v9.1.ae⟩:Ah),v6.1,v7.1)
 else
  some ((⟨v1.1.ab,v1.1.ax,v5⟩:Ah),v6.1,v7.1)
def Q8 (a0:List Int):Option (Ah × List Ao × AP):=
 (Mk (⟨a0,0,0⟩:Au)).bind fun v1=>
 if(decide ((v1.1.ae.length:Int)>0))then
  (GK v1.2 2).bind fun v10=>
  if v10.1 then
   (getI v1.1.ae 0).bind fun y11=>
   Mj v1 v10.2.aw v10.2.bu v10.2.ay (v1.1.ae.set ((0:Int)).toNat {y11 with bc:=3})
  else
   Mj v1 v10.2.aw v10.2.bu v10.2.ay v1.1.ae
 else
  if false then
   (getI v1.1.ae 0).bind fun y12=>
   Mj v1 v1.2.aw v1.2.bu v1.2.ay (v1.1.ae.set ((0:Int)).toNat {y12 with bc:=3})
  else
   Mj v1 v1.2.aw v1.2.bu v1.2.ay v1.1.ae
def U9 (a0:List Int):Option (Ah × AP):=
 (Q8 a0).bind fun v1=>
 some (v1.1,v1.2.2)
def Rb (a0:List Int):Option (Ah × AP):=
 (U9 a0).bind fun v1=>
 some (v1.1,v1.2)
def Lt (a0 a1 a2:Int):Option (Bool):=
 some ((decide (a0≥a1))&&(decide (a0≤a2)))
def UO (a0:Aa) (a1:Int):Option (Bool):=
 (Lt (a0.length:Int) 1 a1).bind fun v1=>
 some v1
def U5 (a0:Aa) (a1 v2:Int):Option ((Int) ⊕ Option (Bool)):=
 if(decide (v2<(a0.length:Int)))then
  (getI a0 v2).bind fun y3=>
  if((decide ((y3.toNat:Int)<97))||(decide ((y3.toNat:Int)>122)))then
   some (.inr (some false))
  else
   some (.inl (IntKind.i64.wrap (v2+1)))
 else
  some (.inr (UO a0 a1))
def Mm (a0:Aa) (a1:Int):Option (Bool):=
 BA (fun s:Int=>U5 a0 a1 s) 0
def UJ (a0:List (Aa)) (a1:Aa) (v1:Int):Option ((Int) ⊕ Option (Int)):=
 if(decide (v1<(a0.length:Int)))then
  (getI a0 v1).bind fun y2=>
  if(a1==y2)then
   some (.inr (some v1))
  else
   some (.inl (IntKind.i64.wrap (v1+1)))
 else
  some (.inr (some (-1)))
def QQ (a0:List (Aa)) (a1:Aa):Option (Int):=
 BA (fun s:Int=>UJ a0 a1 s) 0
def QO (a0:List (Aa)) (a1:Aa):Option (Bool):=
 (QQ a0 a1).bind fun v1=>
 some (decide (v1≥0))
def Vm (a0:Int):Option (Bool):=
 (Lt a0 0 3).bind fun v1=>
 some v1
def Ra (a0:Ah) (v3:Int):Option ((Int) ⊕ Option (Bool)):=
 if(decide (v3<(a0.ae.length:Int)))then
  (getI a0.ae v3).bind fun y4=>
  (Mm y4.ab 1).bind fun v5=>
  if v5 then
   (Lt y4.cq 1 (IntKind.i64.wrap ((a0.ax.length:Int)-1))).bind fun v6=>
   if v6 then
    (Vm y4.bc).bind fun v7=>
    if(decide (v3>0))then
     if v7 then
      (getI a0.ae (IntKind.i64.wrap (v3-1))).bind fun y8=>
      if(Op.bytesLess y4.ab y8.ab||y4.ab==y8.ab)then
       some (.inr (some false))
      else
       some (.inl (IntKind.i64.wrap (v3+1)))
     else
      some (.inr (some false))
    else
     if((!v7)||false)then
      some (.inr (some false))
     else
      some (.inl (IntKind.i64.wrap (v3+1)))
   else
    some (.inr (some false))
  else
   some (.inr (some false))
 else
  some (.inr (some true))
def U6 (a0:Ah):Option (Bool):=
 BA (fun s:Int=>Ra a0 s) 0
def Q5 (a0:Ah) (v9:Int):Option ((Int) ⊕ Option (Bool)):=
 if(decide (v9<(a0.ax.length:Int)))then
  (getI a0.ax v9).bind fun y10=>
  (Mm y10 3).bind fun v11=>
  if v11 then
   req (0≤(0:Int)∧(0:Int)≤v9∧v9≤(a0.ax.length:Int))<|
   (QO (AL a0.ax 0 v9) y10).bind fun v12=>
   if v12 then
    some (.inr (some false))
   else
    some (.inl (IntKind.i64.wrap (v9+1)))
  else
   some (.inr (some false))
 else
  some (.inr (U6 a0))
def OZ (a0:Ah):Option (Bool):=
 (Mm a0.ab 1).bind fun v1=>
 if v1 then
  (Lt (a0.ax.length:Int) 2 4).bind fun v2=>
  if((!v2)||(decide ((a0.ae.length:Int)>3)))then
   some false
  else
   BA (fun s:Int=>Q5 a0 s) 0
 else
  some false
def UK (a0:Int):Option (Bool):=
 some (((decide (a0≥97))&&(decide (a0≤122)))||((decide (a0≥48))&&(decide (a0≤57))))
def U8 (a0:Aa) (a1:Int):Option (Int):=
 (QP a0 a1).bind fun v1=>
 some v1
def Va (a0 a1:Aa) (v1:Int):Option ((Int) ⊕ Option (Bool)):=
 if(decide (v1<(a0.length:Int)))then
  (getI a0 v1).bind fun y2=>
  (UK (y2.toNat:Int)).bind fun v3=>
  if v3 then
   some (.inl (IntKind.i64.wrap (v1+1)))
  else
   (U8 a1 (y2.toNat:Int)).bind fun v4=>
   if(decide (v4<0))then
    some (.inr (some false))
   else
    some (.inl (IntKind.i64.wrap (v1+1)))
 else
  some (.inr (some true))
def Rf (a0 a1:Aa):Option (Bool):=
 BA (fun s:Int=>Va a0 a1 s) 0
def Ln (a0:Aa):Option (Bool):=
 (Lt (a0.length:Int) 1 3).bind fun v1=>
 if v1 then
  (Rf a0 ([]:Aa)).bind fun v2=>
  some v2
 else
  some false
def QX (a0:Aa):Option (Bool):=
 (Ln a0).bind fun v1=>
 some (!v1)
def Lm (a0:Ah) (a1:Aw):Option (Bool):=
 if((a1.ah.length:Int)==(a0.ax.length:Int))then
  (Mt a1.ah (fun y0_=>QX y0_)).bind fun v1=>
  some (!v1)
 else
  some false
def Q2 (a0:Ah) (a1:A6):Option (Bool):=
 if(a1.af==1)then
  if((a1.a8.ah.length:Int)==0)then
   (Lm a0 a1.bd).bind fun v1=>
   some v1
  else
   some false
 else
  if(a1.af==2)then
   (Lm a0 a1.a8).bind fun v2=>
   some (v2&&((a1.bd.ah.length:Int)==0))
  else
   if(a1.af==3)then
    (Lm a0 a1.a8).bind fun v3=>
    if v3 then
     (Lm a0 a1.bd).bind fun v4=>
     if v4 then
      (getI a1.a8.ah 0).bind fun y5=>
      (getI a1.bd.ah 0).bind fun y6=>
      some (y5==y6)
     else
      some false
    else
     some false
   else
    some false
def Ru (a0:A6):Option (Bool):=
 some (((a0.af==0)&&((a0.a8.ah.length:Int)==0))&&((a0.bd.ah.length:Int)==0))
def UU (a0:AU) (a1:Aa):Option (Bool):=
 some (a0.ab==a1)
def OS (a0:Ah) (a1:Aa):Option (Int):=
 (HC a0.ae (fun y0_=>UU y0_ a1)).bind fun v1=>
 some v1
def OT (a0:Ah) (a1:AP):Option (Bool):=
 if(a1.af==1)then
  (Q2 a0 a1.a6).bind fun v1=>
  some (((v1&&(a1.cb==([]:Aa)))&&(a1.bt==([]:Aa)))&&(a1.ca==([]:Aa)))
 else
  if(a1.af==2)then
   (Ru a1.a6).bind fun v2=>
   if v2 then
    if(a1.cb==([]:Aa))then
     (Ln a1.bt).bind fun v3=>
     some (v3&&(a1.ca==([]:Aa)))
    else
     some false
   else
    some false
  else
   if(a1.af==3)then
    (Ru a1.a6).bind fun v4=>
    if v4 then
     (OS a0 a1.cb).bind fun v5=>
     if(decide (v5≥0))then
      (Ln a1.bt).bind fun v6=>
      if v6 then
       (Ln a1.ca).bind fun v7=>
       some v7
      else
       some false
     else
      some false
    else
     some false
   else
    some false
def Mw (a0:Ah) (a1:AP):Option (Bool):=
 (OZ a0).bind fun v1=>
 if v1 then
  (OT a0 a1).bind fun v2=>
  some v2
 else
  some false
def IX (a0:Aw):Option (Aa):=
 (O7 a0.ah ([44]:Aa)).bind fun v1=>
 some v1
def ON (a0:Ah) (a1:AP):Option (Aa):=
 if(a1.af==2)then
  req ((([103,101,116,32]:Aa)).length+(a0.ab).length≤9223372036854775807)<|
  req ((((([103,101,116,32]:Aa):Aa)++a0.ab)).length+(([32]:Aa)).length≤9223372036854775807)<|
  req (((((([103,101,116,32]:Aa):Aa)++a0.ab)++([32]:Aa))).length+(a1.bt).length≤9223372036854775807)<|
  some ((((([103,101,116,32]:Aa):Aa)++a0.ab)++([32]:Aa))++a1.bt)
 else
  if(a1.af==3)then
   req ((([114,97,110,103,101,32]:Aa)).length+(a0.ab).length≤9223372036854775807)<|
   req ((((([114,97,110,103,101,32]:Aa):Aa)++a0.ab)).length+(([32]:Aa)).length≤9223372036854775807)<|
   req (((((([114,97,110,103,101,32]:Aa):Aa)++a0.ab)++([32]:Aa))).length+(a1.cb).length≤9223372036854775807)<|
   req ((((((([114,97,110,103,101,32]:Aa):Aa)++a0.ab)++([32]:Aa))++a1.cb)).length+(([32]:Aa)).length≤9223372036854775807)<|
   req (((((((([114,97,110,103,101,32]:Aa):Aa)++a0.ab)++([32]:Aa))++a1.cb)++([32]:Aa))).length+(a1.bt).length≤9223372036854775807)<|
   req ((((((((([114,97,110,103,101,32]:Aa):Aa)++a0.ab)++([32]:Aa))++a1.cb)++([32]:Aa))++a1.bt)).length+(([32]:Aa)).length≤9223372036854775807)<|
   req (((((((((([114,97,110,103,101,32]:Aa):Aa)++a0.ab)++([32]:Aa))++a1.cb)++([32]:Aa))++a1.bt)++([32]:Aa))).length+(a1.ca).length≤9223372036854775807)<|
   some ((((((((([114,97,110,103,101,32]:Aa):Aa)++a0.ab)++([32]:Aa))++a1.cb)++([32]:Aa))++a1.bt)++([32]:Aa))++a1.ca)
  else
   if(a1.a6.af==1)then
    req ((([105,110,115,101,114,116,32]:Aa)).length+(a0.ab).length≤9223372036854775807)<|
    req ((((([105,110,115,101,114,116,32]:Aa):Aa)++a0.ab)).length+(([32]:Aa)).length≤9223372036854775807)<|
    (IX a1.a6.bd).bind fun v1=>
    req (((((([105,110,115,101,114,116,32]:Aa):Aa)++a0.ab)++([32]:Aa))).length+(v1).length≤9223372036854775807)<|
    some ((((([105,110,115,101,114,116,32]:Aa):Aa)++a0.ab)++([32]:Aa))++v1)
   else
    if(a1.a6.af==2)then
     req ((([100,101,108,101,116,101,32]:Aa)).length+(a0.ab).length≤9223372036854775807)<|
     req ((((([100,101,108,101,116,101,32]:Aa):Aa)++a0.ab)).length+(([32]:Aa)).length≤9223372036854775807)<|
     (IX a1.a6.a8).bind fun v2=>
     req (((((([100,101,108,101,116,101,32]:Aa):Aa)++a0.ab)++([32]:Aa))).length+(v2).length≤9223372036854775807)<|
     some ((((([100,101,108,101,116,101,32]:Aa):Aa)++a0.ab)++([32]:Aa))++v2)
    else
     req ((([117,112,100,97,116,101,32]:Aa)).length+(a0.ab).length≤9223372036854775807)<|
     req ((((([117,112,100,97,116,101,32]:Aa):Aa)++a0.ab)).length+(([32]:Aa)).length≤9223372036854775807)<|
     (IX a1.a6.a8).bind fun v3=>
     req (((((([117,112,100,97,116,101,32]:Aa):Aa)++a0.ab)++([32]:Aa))).length+(v3).length≤9223372036854775807)<|
     req ((((((([117,112,100,97,116,101,32]:Aa):Aa)++a0.ab)++([32]:Aa))++v3)).length+(([32,116,111,32]:Aa)).length≤9223372036854775807)<|
     (IX a1.a6.bd).bind fun v4=>
     req (((((((([117,112,100,97,116,101,32]:Aa):Aa)++a0.ab)++([32]:Aa))++v3)++([32,116,111,32]:Aa))).length+(v4).length≤9223372036854775807)<|
     some ((((((([117,112,100,97,116,101,32]:Aa):Aa)++a0.ab)++([32]:Aa))++v3)++([32,116,111,32]:Aa))++v4)
def Rc (a0:Ah) (a1:AP):Option (Aa × Bool):=
 (Mw a0 a1).bind fun v1=>
 if(!v1)then
  some (([]:Aa),false)
 else
  (ON a0 a1).bind fun v2=>
  some (v2,true)
def UN (a0:Aa) (a1:Int):Option (Bool):=
 some ((decide ((a0.length:Int)≥1))&&(decide ((a0.length:Int)≤a1)))
def UM (a0:Aa) (a1 v1:Int):Option ((Int) ⊕ Option (Bool)):=
 if(decide (v1<(a0.length:Int)))then
  (getI a0 v1).bind fun y2=>
  if((decide ((y2.toNat:Int)<97))||(decide ((y2.toNat:Int)>122)))then
   some (.inr (some false))
  else
   some (.inl (IntKind.i64.wrap (v1+1)))
 else
  some (.inr (UN a0 a1))
def Mn (a0:Aa) (a1:Int):Option (Bool):=
 BA (fun s:Int=>UM a0 a1 s) 0
def Ve (a0:List (Aa)) (a1:Aa) (v1:Int):Option ((Int) ⊕ Option (Int)):=
 if(decide (v1<(a0.length:Int)))then
  (getI a0 v1).bind fun y2=>
  if(y2==a1)then
   some (.inr (some v1))
  else
   some (.inl (IntKind.i64.wrap (v1+1)))
 else
  some (.inr (some (-1)))
def Rp (a0:List (Aa)) (a1:Aa):Option (Int):=
 BA (fun s:Int=>Ve a0 a1 s) 0
def UZ (a0:List (Aa)):Option (Bool):=
 (Mx (a0.length:Int) 2 4).bind fun v1=>
 some v1
def U1 (a0:List (Aa)) (v2:Int):Option ((Int) ⊕ Option (Bool)):=
 if(decide (v2<(a0.length:Int)))then
  (getI a0 v2).bind fun y3=>
  (Mn y3 3).bind fun v4=>
  if v4 then
   req (0≤(0:Int)∧(0:Int)≤v2∧v2≤(a0.length:Int))<|
   (Rp (AL a0 0 v2) y3).bind fun v5=>
   if(decide (v5≥0))then
    some (.inr (some false))
   else
    some (.inl (IntKind.i64.wrap (v2+1)))
  else
   some (.inr (some false))
 else
  some (.inr (UZ a0))
def RG (a0:List (Aa)):Option (Bool):=
 BA (fun s:Int=>U1 a0 s) 0
def Q7 (a0:Ah) (v3:Int):Option ((Int) ⊕ Option (Bool)):=
 if(decide (v3<(a0.ae.length:Int)))then
  (getI a0.ae v3).bind fun y4=>
  (Mn y4.ab 1).bind fun v5=>
  if v5 then
   (Mx y4.cq 1 (IntKind.i64.wrap ((a0.ax.length:Int)-1))).bind fun v6=>
   if v6 then
    (Mx y4.bc 0 3).bind fun v7=>
    if(decide (v3>0))then
     if v7 then
      (getI a0.ae (IntKind.i64.wrap (v3-1))).bind fun y8=>
      if(!Op.bytesLess y8.ab y4.ab)then
       some (.inr (some false))
      else
       some (.inl (IntKind.i64.wrap (v3+1)))
     else
      some (.inr (some false))
    else
     if((!v7)||false)then
      some (.inr (some false))
     else
      some (.inl (IntKind.i64.wrap (v3+1)))
   else
    some (.inr (some false))
  else
   some (.inr (some false))
 else
  some (.inr (some true))
def O1 (a0:Ah):Option (Bool):=
 (Mn a0.ab 1).bind fun v1=>
 if v1 then
  (RG a0.ax).bind fun v2=>
  if((!v2)||(decide ((a0.ae.length:Int)>3)))then
   some false
  else
   BA (fun s:Int=>Q7 a0 s) 0
 else
  some false
def RB (a0:Ah) (a1:A6):Option (Bool):=
 if(a1.af==1)then
  if((a1.a8.ah.length:Int)==0)then
   (J5 a0 a1.bd).bind fun v1=>
   some v1
  else
   some false
 else
  if(a1.af==2)then
   if((a1.bd.ah.length:Int)==0)then
    (J5 a0 a1.a8).bind fun v2=>
    some v2
   else
    some false
  else
   if(a1.af==3)then
    (J5 a0 a1.a8).bind fun v3=>
    if v3 then
     (J5 a0 a1.bd).bind fun v4=>
     if v4 then
      (getI a1.a8.ah 0).bind fun y5=>
      (getI a1.bd.ah 0).bind fun y6=>
      some (y5==y6)
     else
      some false
    else
     some false
   else
    some false
def Rg (a0:A6):Option (Bool):=
 some (((a0.af==0)&&((a0.a8.ah.length:Int)==0))&&((a0.bd.ah.length:Int)==0))
def Vh (a0:Ah) (a1:Aa) (v1:Int):Option ((Int) ⊕ Option (Int)):=
 if(decide (v1<(a0.ae.length:Int)))then
  (getI a0.ae v1).bind fun y2=>
  if(y2.ab==a1)then
   some (.inr (some v1))
  else
   some (.inl (IntKind.i64.wrap (v1+1)))
 else
  some (.inr (some (-1)))
def Rr (a0:Ah) (a1:Aa):Option (Int):=
 BA (fun s:Int=>Vh a0 a1 s) 0
def O6 (a0:Ah) (a1:AP):Option (Bool):=
 if(a1.af==1)then
  (RB a0 a1.a6).bind fun v1=>
  some (((v1&&(a1.cb==([]:Aa)))&&(a1.bt==([]:Aa)))&&(a1.ca==([]:Aa)))
 else
  if(a1.af==2)then
   (Rg a1.a6).bind fun v2=>
   if v2 then
    if(a1.cb==([]:Aa))then
     (Lp a1.bt).bind fun v3=>
     some (v3&&(a1.ca==([]:Aa)))
    else
     some false
   else
    some false
  else
   if(a1.af==3)then
    (Rg a1.a6).bind fun v4=>
    if v4 then
     (Rr a0 a1.cb).bind fun v5=>
     if(decide (v5≥0))then
      (Lp a1.bt).bind fun v6=>
      if v6 then
       (Lp a1.ca).bind fun v7=>
       some v7
      else
       some false
     else
      some false
    else
     some false
   else
    some false
def O3 (a0:Ah) (a1:AP):Option (Bool):=
 (O1 a0).bind fun v1=>
 if v1 then
  (O6 a0 a1).bind fun v2=>
  some v2
 else
  some false
def IU (a0:Aw):Option (Aa):=
 (RJ a0.ah ([44]:Aa)).bind fun v1=>
 some v1
def Ms (a0:Ah) (a1:AP):Option (Aa):=
 if(a1.af==2)then
  req ((([103,101,116,32]:Aa)).length+(a0.ab).length≤9223372036854775807)<|
  req ((((([103,101,116,32]:Aa):Aa)++a0.ab)).length+(([32]:Aa)).length≤9223372036854775807)<|
  req (((((([103,101,116,32]:Aa):Aa)++a0.ab)++([32]:Aa))).length+(a1.bt).length≤9223372036854775807)<|
  some ((((([103,101,116,32]:Aa):Aa)++a0.ab)++([32]:Aa))++a1.bt)
 else
  if(a1.af==3)then
   req ((([114,97,110,103,101,32]:Aa)).length+(a0.ab).length≤9223372036854775807)<|
   req ((((([114,97,110,103,101,32]:Aa):Aa)++a0.ab)).length+(([32]:Aa)).length≤9223372036854775807)<|
   req (((((([114,97,110,103,101,32]:Aa):Aa)++a0.ab)++([32]:Aa))).length+(a1.cb).length≤9223372036854775807)<|
   req ((((((([114,97,110,103,101,32]:Aa):Aa)++a0.ab)++([32]:Aa))++a1.cb)).length+(([32]:Aa)).length≤9223372036854775807)<|
   req (((((((([114,97,110,103,101,32]:Aa):Aa)++a0.ab)++([32]:Aa))++a1.cb)++([32]:Aa))).length+(a1.bt).length≤9223372036854775807)<|
   req ((((((((([114,97,110,103,101,32]:Aa):Aa)++a0.ab)++([32]:Aa))++a1.cb)++([32]:Aa))++a1.bt)).length+(([32]:Aa)).length≤9223372036854775807)<|
   req (((((((((([114,97,110,103,101,32]:Aa):Aa)++a0.ab)++([32]:Aa))++a1.cb)++([32]:Aa))++a1.bt)++([32]:Aa))).length+(a1.ca).length≤9223372036854775807)<|
   some ((((((((([114,97,110,103,101,32]:Aa):Aa)++a0.ab)++([32]:Aa))++a1.cb)++([32]:Aa))++a1.bt)++([32]:Aa))++a1.ca)
  else
   if(a1.a6.af==1)then
    req ((([105,110,115,101,114,116,32]:Aa)).length+(a0.ab).length≤9223372036854775807)<|
    req ((((([105,110,115,101,114,116,32]:Aa):Aa)++a0.ab)).length+(([32]:Aa)).length≤9223372036854775807)<|
    (IU a1.a6.bd).bind fun v1=>
    req (((((([105,110,115,101,114,116,32]:Aa):Aa)++a0.ab)++([32]:Aa))).length+(v1).length≤9223372036854775807)<|
    some ((((([105,110,115,101,114,116,32]:Aa):Aa)++a0.ab)++([32]:Aa))++v1)
   else
    if(a1.a6.af==2)then
     req ((([100,101,108,101,116,101,32]:Aa)).length+(a0.ab).length≤9223372036854775807)<|
     req ((((([100,101,108,101,116,101,32]:Aa):Aa)++a0.ab)).length+(([32]:Aa)).length≤9223372036854775807)<|
     (IU a1.a6.a8).bind fun v2=>
     req (((((([100,101,108,101,116,101,32]:Aa):Aa)++a0.ab)++([32]:Aa))).length+(v2).length≤9223372036854775807)<|
     some ((((([100,101,108,101,116,101,32]:Aa):Aa)++a0.ab)++([32]:Aa))++v2)
    else
     req ((([117,112,100,97,116,101,32]:Aa)).length+(a0.ab).length≤9223372036854775807)<|
     req ((((([117,112,100,97,116,101,32]:Aa):Aa)++a0.ab)).length+(([32]:Aa)).length≤9223372036854775807)<|
     (IU a1.a6.a8).bind fun v3=>
     req (((((([117,112,100,97,116,101,32]:Aa):Aa)++a0.ab)++([32]:Aa))).length+(v3).length≤9223372036854775807)<|
     req ((((((([117,112,100,97,116,101,32]:Aa):Aa)++a0.ab)++([32]:Aa))++v3)).length+(([32,116,111,32]:Aa)).length≤9223372036854775807)<|
     (IU a1.a6.bd).bind fun v4=>
     req (((((((([117,112,100,97,116,101,32]:Aa):Aa)++a0.ab)++([32]:Aa))++v3)++([32,116,111,32]:Aa))).length+(v4).length≤9223372036854775807)<|
     some ((((((([117,112,100,97,116,101,32]:Aa):Aa)++a0.ab)++([32]:Aa))++v3)++([32,116,111,32]:Aa))++v4)
def Lo (a0:Ah) (a1:AP):Option (Aa × Bool):=
 (O3 a0 a1).bind fun v1=>
 if(!v1)then
  some (([]:Aa),false)
 else
  (Ms a0 a1).bind fun v2=>
  some (v2,true)
def OO (a0:Ah) (a1:Aw):Option (Ao):=
 req ((a0.ab).length+(([47]:Aa)).length≤9223372036854775807)<|
 (getI a1.ah 0).bind fun y1=>
 req (((a0.ab++([47]:Aa))).length+(y1).length≤9223372036854775807)<|
 req (0≤(1:Int)∧(1:Int)≤(a1.ah.length:Int)∧(a1.ah.length:Int)≤(a1.ah.length:Int))<|
 (O7 (AL a1.ah 1 (a1.ah.length:Int)) ([44]:Aa)).bind fun v2=>
 some (⟨((a0.ab++([47]:Aa))++y1),v2,false⟩:Ao)
def H0 (a0:Int) (a1:Ao) (a2:List AM):Option (Unit × List AM):=
 req ((((a2).length:Int)+(([(⟨a0,a1.al,a1.bf,0⟩:AM)]:List AM).length:Int))*48≤140737488355328∧((a2).length:Int)+(([(⟨a0,a1.al,a1.bf,0⟩:AM)]:List AM).length:Int)≤140737488355328)<|
 some ((),(a2++ [(⟨a0,a1.al,a1.bf,0⟩:AM)]))
def QT (a0:Ah) (a1:Aa):Option (Aa):=
 req ((a0.ab).length+(([46]:Aa)).length≤9223372036854775807)<|
 req (((a0.ab++([46]:Aa))).length+(a1).length≤9223372036854775807)<|
 req ((((a0.ab++([46]:Aa))++a1)).length+(([47]:Aa)).length≤9223372036854775807)<|
 some (((a0.ab++([46]:Aa))++a1)++([47]:Aa))
def Q6 (a0:Ah) (a1:Aa):Option (AU):=
 (OS a0 a1).bind fun v1=>
 (getI a0.ae v1).bind fun y2=>
 some y2
def Ll (a0:Ah) (a1:Aa) (a2:Aw):Option (Aa):=
 (QT a0 a1).bind fun v1=>
 (Q6 a0 a1).bind fun v2=>
 (getI a2.ah v2.cq).bind fun y3=>
 req ((v1).length+(y3).length≤9223372036854775807)<|
 req (((v1++y3)).length+(([47]:Aa)).length≤9223372036854775807)<|
 (getI a2.ah 0).bind fun y4=>
 req ((((v1++y3)++([47]:Aa))).length+(y4).length≤9223372036854775807)<|
 some (((v1++y3)++([47]:Aa))++y4)
def Vo (a0:Int):Option (Bool):=
 some (decide (a0≥1))
def Vc (a0:Int):Option (Bool):=
 some (decide (a0≥2))
def Mi (v9:Int) (y11:AU) (v13:Aa) (v14:List AM):Option ((Int × List AM) ⊕ Option (List AM)):=
 if(v13 !=([]:Aa))then
  (Vc y11.bc).bind fun v15=>
  if v15 then
   (H0 2 (⟨v13,([]:Aa),false⟩:Ao) v14).bind fun v16=>
   some (.inl ((IntKind.i64.wrap (v9+1)),v16.2))
  else
   some (.inl ((IntKind.i64.wrap (v9+1)),v14))
 else
  some (.inl ((IntKind.i64.wrap (v9+1)),v14))
def Lk (v9:Int) (v10:List AM) (y11:AU) (v12 v13:Aa):Option ((Int × List AM) ⊕ Option (List AM)):=
 if(v12 !=([]:Aa))then
  if(v12 !=v13)then
   (Vo y11.bc).bind fun v17=>
   if v17 then
    (H0 3 (⟨v12,([]:Aa),false⟩:Ao) v10).bind fun v18=>
    Mi v9 y11 v13 v18.2
   else
    Mi v9 y11 v13 v10
  else
   Mi v9 y11 v13 v10
 else
  Mi v9 y11 v13 v10
def US (a0:Ah) (a1:A6) (v9:Int) (v10:List AM) (y11:AU) (v12:Aa):Option ((Int × List AM) ⊕ Option (List AM)):=
 if(a1.af !=2)then
  (Ll a0 y11.ab a1.bd).bind fun v19=>
  Lk v9 v10 y11 v12 v19
 else
  Lk v9 v10 y11 v12 ([]:Aa)
def Mg (a0:Ah) (a1:A6) (v9:Int) (v10:List AM):Option ((Int × List AM) ⊕ Option (List AM)):=
 if(decide (v9<(a0.ae.length:Int)))then
  (getI a0.ae v9).bind fun y11=>
  P4 (σ:=Aa) (
   if(a1.af !=1)then
    (Ll a0 y11.ab a1.a8).bind fun v20=>
    some (.inl v20)
   else
    some (.inl ([]:Aa))
  ) (fun s=>US a0 a1 v9 v10 y11 s)
 else
  some (.inr (some v10))
def Mh (a0:Ah) (a1:A6) (v8:List AM):Option (List AM):=
 BA (fun s:Int × List AM=>Mg a0 a1 s.1 s.2) (0,v8)
def OM (a0:Ah) (a1:A6) (v1:Aa) (v4:List AM) (v5 v6:Aa) (v7:Bool):Option (List AM):=
 if(a1.af==1)then
  (H0 6 (⟨v5,([]:Aa),false⟩:Ao) v4).bind fun v21=>
  (H0 2 (⟨v5,v6,v7⟩:Ao) v21.2).bind fun v22=>
  Mh a0 a1 v22.2
 else
  if(a1.af==2)then
   (H0 3 (⟨v1,([]:Aa),false⟩:Ao) v4).bind fun v23=>
   Mh a0 a1 v23.2
  else
   if(a1.af==3)then
    (H0 2 (⟨v5,v6,v7⟩:Ao) v4).bind fun v24=>
    Mh a0 a1 v24.2
   else
    Mh a0 a1 v4
def Lj (a0:Ah) (a1:A6) (v1 v2:Aa) (v3:Bool) (v4:List AM):Option (List AM):=
 if(a1.af !=2)then
  (OO a0 a1.bd).bind fun v25=>
  OM a0 a1 v1 v4 v25.al v25.bf v25.c7
 else
  OM a0 a1 v1 v4 ([]:Aa) ([]:Aa) false
def QR (a0:Ah) (a1:A6):Option (List AM):=
 P4 (σ:=Aa × Aa × Bool × List AM) (
  if(a1.af !=1)then
   (OO a0 a1.a8).bind fun v26=>
   (H0 7 v26 ([]:List AM)).bind fun v27=>
   some (.inl (v26.al,v26.bf,v26.c7,v27.2))
  else
   some (.inl (([]:Aa),([]:Aa),false, []))
 ) (fun s=>Lj a0 a1 s.1 s.2.1 s.2.2.1 s.2.2.2)
def RD (a0:Ah) (a1:AP):Option (List AM × Bool):=
 (Mw a0 a1).bind fun v1=>
 if((!v1)||(a1.af==3))then
  some ([],false)
 else
  if(a1.af==2)then
   req ((a0.ab).length+(([47]:Aa)).length≤9223372036854775807)<|
   req (((a0.ab++([47]:Aa))).length+(a1.bt).length≤9223372036854775807)<|
   some ([(⟨1,((a0.ab++([47]:Aa))++a1.bt),([]:Aa),0⟩:AM)],true)
  else
   (QR a0 a1.a6).bind fun v2=>
   some (v2,true)
def Ry (a0:Ah) (a1:A6):Option (List AM):=
 if(a1.af==1)then
  (J6 a0 a1.bd).bind fun v1=>
  some [(⟨6,v1.al,([]:Aa),0⟩:AM),(⟨2,v1.al,v1.bf,0⟩:AM)]
 else
  (J6 a0 a1.a8).bind fun v2=>
  if(a1.af==2)then
   some [(⟨7,v2.al,v2.bf,0⟩:AM),(⟨3,v2.al,([]:Aa),0⟩:AM)]
  else
   (J6 a0 a1.bd).bind fun v3=>
   some [(⟨7,v2.al,v2.bf,0⟩:AM),(⟨2,v2.al,v3.bf,0⟩:AM)]
def Rl (a1:AU) (v2:Aa) (v3:List AM):Option (List AM):=
 if((v2 !=([]:Aa))&&(decide (a1.bc≥2)))then
  req ((((v3).length:Int)+(([(⟨2,v2,([]:Aa),0⟩:AM)]:List AM).length:Int))*48≤140737488355328∧((v3).length:Int)+(([(⟨2,v2,([]:Aa),0⟩:AM)]:List AM).length:Int)≤140737488355328)<|
  some (v3++ [(⟨2,v2,([]:Aa),0⟩:AM)])
 else
  some v3
def O0 (a1:AU) (v1 v2:Aa):Option (List AM):=
 if(((v1 !=([]:Aa))&&(v1 !=v2))&&(decide (a1.bc≥1)))then
  req (((([]:List AM).length:Int)+(([(⟨3,v1,([]:Aa),0⟩:AM)]:List AM).length:Int))*48≤140737488355328∧(([]:List AM).length:Int)+(([(⟨3,v1,([]:Aa),0⟩:AM)]:List AM).length:Int)≤140737488355328)<|
  Rl a1 v2 [(⟨3,v1,([]:Aa),0⟩:AM)]
 else
  Rl a1 v2 []
def Rk (a0:Ah) (a1:AU) (a2:A6) (v1:Aa):Option (List AM):=
 if(a2.af !=2)then
  (J7 a0 a1 a2.bd).bind fun v4=>
  O0 a1 v1 v4
 else
  O0 a1 v1 ([]:Aa)
def O5 (a0:Ah) (a1:AU) (a2:A6):Option (List AM):=
 P4 (σ:=Aa) (
  if(a2.af !=1)then
   (J7 a0 a1 a2.a8).bind fun v5=>
   some (.inl v5)
  else
   some (.inl ([]:Aa))
 ) (fun s=>Rk a0 a1 a2 s)
def Ml (a0:Ah) (a1:A6) (v2:Int) (v3:List AM):Option ((Int × List AM) ⊕ Option (List AM)):=
 if(decide (v2<(a0.ae.length:Int)))then
  (getI a0.ae v2).bind fun y4=>
  (O5 a0 y4 a1).bind fun v5=>
  req ((((v3).length:Int)+((v5).length:Int))*48≤140737488355328∧((v3).length:Int)+((v5).length:Int)≤140737488355328)<|
  some (.inl ((IntKind.i64.wrap (v2+1)),(v3++v5)))
 else
  some (.inr (some v3))
def Rq (a0:Ah) (a1:A6):Option (List AM):=
 (Ry a0 a1).bind fun v1=>
 BA (fun s:Int × List AM=>Ml a0 a1 s.1 s.2) (0,v1)
def RA (a0:Ah) (a1:AP):Option (List AM × Bool):=
 (O3 a0 a1).bind fun v1=>
 if((!v1)||(a1.af==3))then
  some ([],false)
 else
  if(a1.af==2)then
   req ((a0.ab).length+(([47]:Aa)).length≤9223372036854775807)<|
   req (((a0.ab++([47]:Aa))).length+(a1.bt).length≤9223372036854775807)<|
   some ([(⟨1,((a0.ab++([47]:Aa))++a1.bt),([]:Aa),0⟩:AM)],true)
  else
   (Rq a0 a1.a6).bind fun v2=>
   some (v2,true)
def Yc (a2 v2:Aa) (v3:Int) (v4:List Int) (v5 v6:Int):Option ((Aa × Int × List Int × Int × Int) ⊕ Option (Aa × Au)):=
 if((decide (v3>0))&&(decide ((v2.length:Int)>0)))then
  (C7 (⟨v4,v5,v6⟩:Au) (v2.length:Int)).bind fun v7=>
  (C7 v7.2 (a2.length:Int)).bind fun v8=>
  (getI a2 v8.1).bind fun y9=>
  req (([(y9.toNat:Int)]:List Int).length≤9223372036854775807)<|
  (C7 v8.2 3).bind fun v10=>
  if(v10.1==0)then
   req (0≤(0:Int)∧(0:Int)≤v7.1∧v7.1≤(v2.length:Int))<|
   req (((AL v2 0 v7.1)).length+(([(y9.toNat:Int)].map fun n=>UInt8.ofNat n.toNat)).length≤9223372036854775807)<|
   req (0≤v7.1∧v7.1≤(v2.length:Int)∧(v2.length:Int)≤(v2.length:Int))<|
   req ((((AL v2 0 v7.1)++([(y9.toNat:Int)].map fun n=>UInt8.ofNat n.toNat))).length+((AL v2 v7.1 (v2.length:Int))).length≤9223372036854775807)<|
   some (.inl ((((AL v2 0 v7.1)++([(y9.toNat:Int)].map fun n=>UInt8.ofNat n.toNat))++(AL v2 v7.1 (v2.length:Int))),(IntKind.i64.wrap (v3-1)),v10.2.aw,v10.2.bu,v10.2.ay))
  else
   if(v10.1==1)then
    req (0≤(0:Int)∧(0:Int)≤v7.1∧v7.1≤(v2.length:Int))<|
    req (((AL v2 0 v7.1)).length+(([(y9.toNat:Int)].map fun n=>UInt8.ofNat n.toNat)).length≤9223372036854775807)<|
    req (0≤(IntKind.i64.wrap (v7.1+1))∧(IntKind.i64.wrap (v7.1+1))≤(v2.length:Int)∧(v2.length:Int)≤(v2.length:Int))<|
    req ((((AL v2 0 v7.1)++([(y9.toNat:Int)].map fun n=>UInt8.ofNat n.toNat))).length+((AL v2 (IntKind.i64.wrap (v7.1+1)) (v2.length:Int))).length≤9223372036854775807)<|
    some (.inl ((((AL v2 0 v7.1)++([(y9.toNat:Int)].map fun n=>UInt8.ofNat n.toNat))++(AL v2 (IntKind.i64.wrap (v7.1+1)) (v2.length:Int))),(IntKind.i64.wrap (v3-1)),v10.2.aw,v10.2.bu,v10.2.ay))
   else
    req (0≤(0:Int)∧(0:Int)≤v7.1∧v7.1≤(v2.length:Int))<|
    req (0≤(IntKind.i64.wrap (v7.1+1))∧(IntKind.i64.wrap (v7.1+1))≤(v2.length:Int)∧(v2.length:Int)≤(v2.length:Int))<|
    req (((AL v2 0 v7.1)).length+((AL v2 (IntKind.i64.wrap (v7.1+1)) (v2.length:Int))).length≤9223372036854775807)<|
    some (.inl (((AL v2 0 v7.1)++(AL v2 (IntKind.i64.wrap (v7.1+1)) (v2.length:Int))),(IntKind.i64.wrap (v3-1)),v10.2.aw,v10.2.bu,v10.2.ay))
 else
  some (.inr (some (v2,(⟨v4,v5,v6⟩:Au))))
def QU (a0:Au) (a1 a2:Aa):Option (Aa × Au):=
 (C7 a0 2).bind fun v1=>
 BA (fun s:Aa × Int × List Int × Int × Int=>Yc a2 s.1 s.2.1 s.2.2.1 s.2.2.2.1 s.2.2.2.2) (a1,(IntKind.i64.wrap ((1:Int)+v1.1)),v1.2.aw,v1.2.bu,v1.2.ay)
def Q9 (a0:List Int):Option (Ah × Aa):=
 (Mk (⟨a0,0,0⟩:Au)).bind fun v1=>
 (OU v1.2 v1.1).bind fun v2=>
 (OV v2.2 v1.1 v2.1).bind fun v3=>
 (Ms v1.1 v3.1).bind fun v4=>
 (GK v3.2 2).bind fun v5=>
 if v5.1 then
  (QU v5.2 v4 ([97,98,44,32,49,120]:Aa)).bind fun v6=>
  some (v1.1,v6.1)
 else
  some (v1.1,v4)
def Re (a0 a1:Aa):Option (Int):=
 (QN a0 a1).bind fun v1=>
 some v1
def UP (v3:Aa) (v4:Int) (v5:List (Aa)):Option (List (Aa)):=
 (getI v5 v4).bind fun y6=>
 req (0≤(0:Int)∧(0:Int)≤(IntKind.i64.wrap (v4+1))∧(IntKind.i64.wrap (v4+1))≤((v5.set (v4).toNat v3).length:Int))<|
 some (AL (v5.set (v4).toNat v3) 0 (IntKind.i64.wrap (v4+1)))
def Mf (a0 a1:Aa) (a2 v2:Int) (v7:Aa) (v8:Int) (v9:List (Aa)):Option ((Aa × Int × List (Aa)) ⊕ Option (List (Aa))):=
 if(decide (v8<(IntKind.i64.wrap ((bif (decide ((IntKind.i64.wrap ((a0.length:Int)+1))<v2))then(IntKind.i64.wrap ((a0.length:Int)+1))else v2)-1))))then
  (Re v7 a1).bind fun v10=>
  if(decide (v10<0))then
   some (.inr (UP v7 v8 v9))
  else
   req (0≤(0:Int)∧(0:Int)≤(IntKind.i64.wrap (v10+a2))∧(IntKind.i64.wrap (v10+a2))≤(v7.length:Int))<|
   (getI v9 v8).bind fun y11=>
   req (0≤(IntKind.i64.wrap (v10+(a1.length:Int)))∧(IntKind.i64.wrap (v10+(a1.length:Int)))≤(v7.length:Int)∧(v7.length:Int)≤(v7.length:Int))<|
   some (.inl ((AL v7 (IntKind.i64.wrap (v10+(a1.length:Int))) (v7.length:Int)),(IntKind.i64.wrap (v8+1)),(v9.set (v8).toNat (AL v7 0 (IntKind.i64.wrap (v10+a2))))))
 else
  some (.inr (UP v7 v8 v9))
def UQ (a0 a1:Aa) (a2 v2:Int):Option (List (Aa)):=
 req (0≤(bif (decide ((IntKind.i64.wrap ((a0.length:Int)+1))<v2))then(IntKind.i64.wrap ((a0.length:Int)+1))else v2)∧(bif (decide ((IntKind.i64.wrap ((a0.length:Int)+1))<v2))then(IntKind.i64.wrap ((a0.length:Int)+1))else v2)*16≤140737488355328∧(bif (decide ((IntKind.i64.wrap ((a0.length:Int)+1))<v2))then(IntKind.i64.wrap ((a0.length:Int)+1))else v2)≤140737488355328)<|
 BA (fun s:Aa × Int × List (Aa)=>Mf a0 a1 a2 v2 s.1 s.2.1 s.2.2) (a0,0,(List.replicate ((bif (decide ((IntKind.i64.wrap ((a0.length:Int)+1))<v2))then(IntKind.i64.wrap ((a0.length:Int)+1))else v2)).toNat ([]:Aa)))
def U2 (a0 a1:Aa) (a2 a3:Int):Option (List (Aa)):=
 if(a3==0)then
  some []
 else
  if(a1==([]:Aa))then
   (U0 a0 a3).bind fun v1=>
   some v1
  else
   if(decide (a3<0))then
    (Rm a0 a1).bind fun v12=>
    UQ a0 a1 a2 (IntKind.i64.wrap (v12+1))
   else
    UQ a0 a1 a2 a3
def OX (a0 a1:Aa):Option (List (Aa)):=
 (U2 a0 a1 0 (-1)).bind fun v1=>
 some v1
def IT (a0:Aa):Option (Aw):=
 (OX a0 ([44]:Aa)).bind fun v1=>
 some (⟨v1⟩:Aw)
def IS (a0:Ah) (a1:Aa) (v2:List (Aa)) (v3:Int) (v4:List (Aa)) (v5:Int) (v6 v7 v8:Aa):Option (AP × Bool):=
 (OT a0 (⟨v5,(⟨v3,(⟨v4⟩:Aw),(⟨v2⟩:Aw)⟩:A6),v7,v6,v8⟩:AP)).bind fun v9=>
 if v9 then
  (ON a0 (⟨v5,(⟨v3,(⟨v4⟩:Aw),(⟨v2⟩:Aw)⟩:A6),v7,v6,v8⟩:AP)).bind fun v10=>
  if(v10 !=a1)then
   some ((⟨0,(⟨0,(⟨[]⟩:Aw),(⟨[]⟩:Aw)⟩:A6),([]:Aa),([]:Aa),([]:Aa)⟩:AP),false)
  else
   some ((⟨v5,(⟨v3,(⟨v4⟩:Aw),(⟨v2⟩:Aw)⟩:A6),v7,v6,v8⟩:AP),true)
 else
  some ((⟨0,(⟨0,(⟨[]⟩:Aw),(⟨[]⟩:Aw)⟩:A6),([]:Aa),([]:Aa),([]:Aa)⟩:AP),false)
def QS (a0:Ah) (a1:Aa):Option (AP × Bool):=
 (OX a1 ([32]:Aa)).bind fun v1=>
 if((v1.length:Int)==3)then
  (getI v1 0).bind fun y11=>
  if(y11==([105,110,115,101,114,116]:Aa))then
   (getI v1 2).bind fun y12=>
   (IT y12).bind fun v13=>
   IS a0 a1 v13.ah 1 [] 1 ([]:Aa) ([]:Aa) ([]:Aa)
  else
   if(y11==([100,101,108,101,116,101]:Aa))then
    (getI v1 2).bind fun y14=>
    (IT y14).bind fun v15=>
    IS a0 a1 [] 2 v15.ah 1 ([]:Aa) ([]:Aa) ([]:Aa)
   else
    if(((v1.length:Int)==5)&&(y11==([117,112,100,97,116,101]:Aa)))then
     (getI v1 2).bind fun y16=>
     (IT y16).bind fun v17=>
     (getI v1 4).bind fun y18=>
     (IT y18).bind fun v19=>
     IS a0 a1 v19.ah 3 v17.ah 1 ([]:Aa) ([]:Aa) ([]:Aa)
    else
     (getI v1 2).bind fun y20=>
     IS a0 a1 [] 0 [] 2 y20 ([]:Aa) ([]:Aa)
 else
  if((v1.length:Int)==5)then
   (getI v1 0).bind fun y21=>
   if(y21==([117,112,100,97,116,101]:Aa))then
    (getI v1 2).bind fun y22=>
    (IT y22).bind fun v23=>
    (getI v1 4).bind fun y24=>
    (IT y24).bind fun v25=>
    IS a0 a1 v25.ah 3 v23.ah 1 ([]:Aa) ([]:Aa) ([]:Aa)
   else
    (getI v1 2).bind fun y26=>
    (getI v1 3).bind fun y27=>
    (getI v1 4).bind fun y28=>
    IS a0 a1 [] 0 [] 3 y27 y26 y28
  else
   IS a0 a1 [] 0 [] 1 ([]:Aa) ([]:Aa) ([]:Aa)
def O2 (a0:Ah) (a1:Aa):Option (AP × Bool):=
 (OZ a0).bind fun v1=>
 if(!v1)then
  some ((⟨0,(⟨0,(⟨[]⟩:Aw),(⟨[]⟩:Aw)⟩:A6),([]:Aa),([]:Aa),([]:Aa)⟩:AP),false)
 else
  (QS a0 a1).bind fun v2=>
  some (v2.1,v2.2)
def IV (a0:Aa):Option (Aw):=
 (IW a0 44).bind fun v1=>
 some (⟨v1⟩:Aw)
def RH (a0:List (Aa)):Option (AP):=
 if((a0.length:Int)==3)then
  (getI a0 0).bind fun y1=>
  if(y1==([103,101,116]:Aa))then
   (getI a0 2).bind fun y2=>
   some (⟨2,(⟨0,(⟨[]⟩:Aw),(⟨[]⟩:Aw)⟩:A6),([]:Aa),y2,([]:Aa)⟩:AP)
  else
   if(((a0.length:Int)==5)&&(y1==([114,97,110,103,101]:Aa)))then
    (getI a0 2).bind fun y3=>
    (getI a0 3).bind fun y4=>
    (getI a0 4).bind fun y5=>
    some (⟨3,(⟨0,(⟨[]⟩:Aw),(⟨[]⟩:Aw)⟩:A6),y3,y4,y5⟩:AP)
   else
    if(y1==([105,110,115,101,114,116]:Aa))then
     (getI a0 2).bind fun y6=>
     (IV y6).bind fun v7=>
     some (⟨1,(⟨1,(⟨[]⟩:Aw),v7⟩:A6),([]:Aa),([]:Aa),([]:Aa)⟩:AP)
    else
     if(y1==([100,101,108,101,116,101]:Aa))then
      (getI a0 2).bind fun y8=>
      (IV y8).bind fun v9=>
      some (⟨1,(⟨2,v9,(⟨[]⟩:Aw)⟩:A6),([]:Aa),([]:Aa),([]:Aa)⟩:AP)
     else
      if(((a0.length:Int)==5)&&(y1==([117,112,100,97,116,101]:Aa)))then
       (getI a0 2).bind fun y10=>
       (IV y10).bind fun v11=>
       (getI a0 4).bind fun y12=>
       (IV y12).bind fun v13=>
       some (⟨1,(⟨3,v11,v13⟩:A6),([]:Aa),([]:Aa),([]:Aa)⟩:AP)
      else
       some (⟨0,(⟨0,(⟨[]⟩:Aw),(⟨[]⟩:Aw)⟩:A6),([]:Aa),([]:Aa),([]:Aa)⟩:AP)
 else
  if((a0.length:Int)==5)then
   (getI a0 0).bind fun y14=>
   if(y14==([114,97,110,103,101]:Aa))then
    (getI a0 2).bind fun y15=>
    (getI a0 3).bind fun y16=>
    (getI a0 4).bind fun y17=>
    some (⟨3,(⟨0,(⟨[]⟩:Aw),(⟨[]⟩:Aw)⟩:A6),y15,y16,y17⟩:AP)
   else
    if(y14==([117,112,100,97,116,101]:Aa))then
     (getI a0 2).bind fun y18=>
     (IV y18).bind fun v19=>
     (getI a0 4).bind fun y20=>
     (IV y20).bind fun v21=>
     some (⟨1,(⟨3,v19,v21⟩:A6),([]:Aa),([]:Aa),([]:Aa)⟩:AP)
    else
     some (⟨0,(⟨0,(⟨[]⟩:Aw),(⟨[]⟩:Aw)⟩:A6),([]:Aa),([]:Aa),([]:Aa)⟩:AP)
  else
   some (⟨0,(⟨0,(⟨[]⟩:Aw),(⟨[]⟩:Aw)⟩:A6),([]:Aa),([]:Aa),([]:Aa)⟩:AP)
def Vn (a0:Ah) (a1:Aa):Option (AP × Bool):=
 (IW a1 32).bind fun v1=>
 (RH v1).bind fun v2=>
 (O6 a0 v2).bind fun v3=>
 if v3 then
  (Ms a0 v2).bind fun v4=>
  some (v2,(v4==a1))
 else
  some (v2,false)
def Ri (a0:Ah) (a1:Aa):Option (AP × Bool):=
 (Vn a0 a1).bind fun v1=>
 (O1 a0).bind fun v2=>
 if((!v2)||(!v1.2))then
  some ((⟨0,(⟨0,(⟨[]⟩:Aw),(⟨[]⟩:Aw)⟩:A6),([]:Aa),([]:Aa),([]:Aa)⟩:AP),false)
 else
  some (v1.1,true)
def Mr (a0 a1:List AM) (v1:Int):Option ((Int) ⊕ Option (Bool)):=
 if(decide (v1<(a0.length:Int)))then
  (getI a0 v1).bind fun y2=>
  (getI a1 v1).bind fun y3=>
  if(!(y2.af==y3.af&&(y2.al==y3.al&&(y2.bf==y3.bf&&(y2.k8==y3.k8)))))then
   some (.inr (some false))
  else
   some (.inl (IntKind.i64.wrap (v1+1)))
 else
  some (.inr (some true))
def Rh (a0 a1:List AM):Option (Bool):=
 if((a0.length:Int) !=(a1.length:Int))then
  some false
 else
  BA (fun s:Int=>Mr a0 a1 s) 0
def Rz (a0 a1:List Int):Option (Bool):=
 if(decide ((IntKind.i64.wrap ((a0.length:Int)+(a1.length:Int)))>1048576))then
  some true
 else
  (Rb a0).bind fun v1=>
  (Rc v1.1 v1.2).bind fun v2=>
  (Lo v1.1 v1.2).bind fun v3=>
  (RD v1.1 v1.2).bind fun v4=>
  (RA v1.1 v1.2).bind fun v5=>
  (Q9 a1).bind fun v6=>
  (O2 v6.1 v6.2).bind fun v7=>
  (Ri v6.1 v6.2).bind fun v8=>
  (Lo v6.1 v7.1).bind fun v9=>
  (Lo v6.1 v8.1).bind fun v10=>
  if(v2.2 !=v3.2)then
   some false
  else
   if(v2.1 !=v3.1)then
    some false
   else
    if(v4.2 !=v5.2)then
     some false
    else
     (Rh v4.1 v5.1).bind fun v11=>
     if v11 then
      if(v7.2 !=v8.2)then
       some false
      else
       if(v9.1 !=v10.1)then
        some false
       else
        if(v9.2 !=v10.2)then
         some false
        else
         (Mw v1.1 v1.2).bind fun v12=>
         if(v12 !=v2.2)then
          some false
         else
          if(v7.2&&(v9.1 !=v6.2))then
           some false
          else
           if(!v2.2)then
            some true
           else
            (O2 v1.1 v2.1).bind fun v13=>
            (Lo v1.1 v13.1).bind fun v14=>
            some (((v13.2&&v14.2)&&(v14.1==v2.1))&&(v4.2==(v1.2.af !=3)))
     else
      some false
def iM:FS:=J1 105 [.v .s, .v .s] (.v (.i .i64)) (fun x=>QN x.1 x.2.1) fun x r _ h=>iL x.1 x.2.1 r h
def iI:FS:=J1 107 [.v .s, .v (.i .u8)] (.v (.i .i64)) (fun x=>QP x.1 x.2.1) fun x r _ h=>iH x.1 x.2.1 r h
def kI:FS:=J1 94 [.v .s, .v .s] (.v (.i .i64)) (fun x=>Rm x.1 x.2.1) fun x r _ h=>kL x.1 x.2.1 r h
def Yt:FS:=J1 69 [.v (.l .s), .v .s] (.v .s) (fun x=>O7 x.1 x.2.1) fun x r _ h=>lB x.1 x.2.1 r h
def jR:FS:=J1 93 [.v .s, .v (.i .i64)] (.v (.l .s)) (fun x=>U0 x.1 x.2.1) fun x r _ h=>jS x.1 x.2.1 r h
def iZ:FS:=AJ 77 [.rf (.st 0)] (.tu (.cons (.v (.i .i64)) (.cons (.v (.st 0)) .nil))) (fun x=>OW x.1) [] [.inl]
def Hz:FS:=AJ 42 [.rf (.st 0), .v (.i .i64)] (.tu (.cons (.v (.i .i64)) (.cons (.v (.st 0)) .nil))) (fun x=>C7 x.1 x.2.1) [iZ] [.inl]
def IQ:FS:=AJ 41 [.rf (.st 0), .v (.l .s)] (.tu (.cons (.v .s) (.cons (.v (.st 0)) .nil))) (fun x=>Ef x.1 x.2.1) [Hz] []
def OQ:FS:=AJ 23 [.rf (.st 0), .v (.i .i64)] (.tu (.cons (.v .b) (.cons (.v (.st 0)) .nil))) (fun x=>GK x.1 x.2.1) [Hz] []
def UL:FS:=AJ 20 [.rf (.st 0)] (.tu (.cons (.v (.st 2)) (.cons (.v (.st 0)) .nil))) (fun x=>Mk x.1) [IQ,Hz,OQ] [.sp [.i .i64, .l (.i .u8), .i .i64, .i .u64, .l (.st 1)], .inl, .pt]
def U7:FS:=AJ 44 [.rf (.st 0), .v (.st 2)] (.tu (.cons (.v (.st 3)) (.cons (.v (.st 0)) .nil))) (fun x=>IP x.1 x.2.1) [IQ] [.sp [.l (.i .u8), .i .i64, .i .u64, .l .s]]
def YA:FS:=AJ 74 [.v (.l .s), .v .s] (.v .s) (fun x=>RJ x.1 x.2.1) [] [.sp [.s, .i .i64], .inl]
def Vd:FS:=AJ 46 [.v (.st 2), .v (.st 3)] (.v (.st 4)) (fun x=>J6 x.1 x.2.1) [YA] []
def YD:FS:=AJ 45 [.v (.l (.st 4)), .v (.st 4)] (.v (.l (.st 4))) (fun x=>IY x.1 x.2.1) [] [.sp [.i .i64]]
def Vp:FS:=AJ 58 [.v .s, .v (.i .u8)] (.v (.l .s)) (fun x=>IW x.1 x.2.1) [] [.sp [.l .s, .i .i64, .i .i64], .inl]
def VG:FS:=AJ 61 [.v (.i .i64), .v (.i .i64), .v (.i .i64)] (.v .b) (fun x=>Mx x.1 x.2.1 x.2.2.1) [] []
def lF:FS:=AJ 92 [.v .s, .v .s] (.v .b) (fun x=>RF x.1 x.2.1) [] [.sp [.i .i64], .sp [.b, .i .i64]]
def Ys:FS:=AJ 72 [.v .s] (.v .b) (fun x=>Lp x.1) [VG,lF] []
def YB:FS:=AJ 91 [.v (.st 2), .v (.st 3)] (.v .b) (fun x=>J5 x.1 x.2.1) [Ys] [.sp [.i .i64]]
def lA:FS:=AJ 78 [.v (.st 2), .v (.st 4)] (.tu (.cons (.v (.st 3)) (.cons (.v .b) .nil))) (fun x=>Rw x.1 x.2.1) [Vp,YB,Vd] []
def Yu:FS:=AJ 47 [.v (.st 2), .v (.l (.st 4))] (.v (.l (.st 3))) (fun x=>Rx x.1 x.2.1) [lA] [.sp [.l (.st 3), .i .i64], .inl]
def Yr:FS:=AJ 48 [.v (.st 2), .v (.st 1), .v (.st 3)] (.v .s) (fun x=>J7 x.1 x.2.1 x.2.2.1) [] []
def jP:FS:=AJ 49 [.rf (.st 0)] (.tu (.cons (.v .s) (.cons (.v (.st 0)) .nil))) (fun x=>Q3 x.1) [IQ] []
def jJ:FS:=AJ 50 [.rf (.st 0)] (.tu (.cons (.v .s) (.cons (.v (.st 0)) .nil))) (fun x=>Q4 x.1) [IQ] []
def Yk:FS:=AJ 22 [.rf (.st 0), .v (.st 2)] (.tu (.cons (.v (.l (.st 4))) (.cons (.v (.st 0)) .nil))) (fun x=>OU x.1 x.2.1) [Hz,OQ,jP,jJ,YD,Yu,U7,Yr,Vd] [.sp [.l (.st 4), .i .i64, .l (.i .u8), .i .i64, .i .u64], .sp [.i .i64, .l (.i .u8), .i .i64, .i .u64, .l (.st 4)], .inl, .sp [.i .i64, .l (.i .u8), .i .i64, .i .u64, .l (.st 4)], .inl, .inl]
def iW:FS:=AJ 66 [.rf (.st 0), .v (.st 2)] (.tu (.cons (.v (.l (.st 4))) (.cons (.v (.st 0)) .nil))) (fun x=>QY x.1 x.2.1) [Yk,Hz,IQ,YD] [.inl]
def jO:FS:=AJ 43 [.rf (.st 0), .v (.st 2), .v (.l (.st 4))] (.tu (.cons (.v (.st 5)) (.cons (.v (.st 0)) .nil))) (fun x=>OR x.1 x.2.1 x.2.2.1) [Yu,U7,Hz,OQ] [.pt, .pt]
def Yi:FS:=AJ 21 [.rf (.st 0), .v (.st 2), .v (.l (.st 4))] (.tu (.cons (.v (.st 6)) (.cons (.v (.st 0)) .nil))) (fun x=>OV x.1 x.2.1 x.2.2.1) [Hz,IQ,jO] [.inl]
def iT:FS:=AJ 87 [.rf (.st 0), .v (.st 2)] (.tu (.cons (.v (.st 3)) (.cons (.v (.st 0)) .nil))) (fun x=>Q1 x.1 x.2.1) [U7,Hz,IQ] [.inl]
def iY:FS:=AJ 67 [.rf (.st 0), .v (.st 2), .v (.l (.st 4))] (.tu (.cons (.v (.st 6)) (.cons (.v (.st 0)) .nil))) (fun x=>Q0 x.1 x.2.1 x.2.2.1) [Yi,Hz,IQ,iT] [.inl]
def iU:FS:=AJ 68 [.rf (.st 0)] (.tu (.cons (.v (.st 2)) (.cons (.v (.st 0)) .nil))) (fun x=>QZ x.1) [UL,Hz,IQ] [.inl]
def jL:FS:=AJ 30 [.v (.l (.i .u8))] (.tu (.cons (.v (.st 2)) (.cons (.v (.l (.st 4))) (.cons (.v (.st 6)) .nil)))) (fun x=>Q8 x.1) [UL,iW,iY,OQ,iU] [.pt, .inl, .inl]
def jK:FS:=AJ 14 [.v (.l (.i .u8))] (.tu (.cons (.v (.st 2)) (.cons (.v (.st 6)) .nil))) (fun x=>U9 x.1) [jL] []
def jM:FS:=AJ 4 [.v (.l (.i .u8))] (.tu (.cons (.v (.st 2)) (.cons (.v (.st 6)) .nil))) (fun x=>Rb x.1) [jK] []
def Rv:FS:=AJ 52 [.v (.i .i64), .v (.i .i64), .v (.i .i64)] (.v .b) (fun x=>Lt x.1 x.2.1 x.2.2.1) [] []
def jQ:FS:=AJ 51 [.v .s, .v (.i .i64)] (.v .b) (fun x=>Mm x.1 x.2.1) [Rv] [.sp [.i .i64]]
def iN:FS:=AJ 79 [.v (.l .s), .v .s] (.v (.i .i64)) (fun x=>QQ x.1 x.2.1) [] [.sp [.i .i64]]
def iK:FS:=AJ 53 [.v (.l .s), .v .s] (.v .b) (fun x=>QO x.1 x.2.1) [iN] []
def kF:FS:=AJ 54 [.v (.i .i64)] (.v .b) (fun x=>Vm x.1) [Rv] []
def Yp:FS:=AJ 25 [.v (.st 2)] (.v .b) (fun x=>OZ x.1) [jQ,Rv,kF,iK] [.sp [.i .i64], .sp [.i .i64]]
def iJ:FS:=J1 106 [.v (.l .s), .fn [.s] .b] (.v (.i .i64)) (fun x=>HC x.1 (fun y=>x.2.1.φ (y,()))) fun x r hp h=>SG (f:=106) (t:=W3) (by kernel_rfl) (by kernel_rfl) (rI (av:=(BI C2.av .s)) (fun _=>rfl) h (fun y b hb=>hp.2.1 (y,()) b hb))
def iG:FS:=J1 96 [.v (.l .s), .fn [.s] .b] (.v .b) (fun x=>Mt x.1 (fun y=>x.2.1.φ (y,()))) fun x r hp h=>SG (f:=96) (t:=Xg 106) (by kernel_rfl) (by kernel_rfl) (sY h fun r hr=>iJ.ok x r hp hr)
def jB:FS:=AJ 98 [.v (.i .u8)] (.v .b) (fun x=>UK x.1) [] []
def jN:FS:=AJ 99 [.v .s, .v (.i .u8)] (.v (.i .i64)) (fun x=>U8 x.1 x.2.1) [iI] []
def kR:FS:=AJ 84 [.v .s, .v .s] (.v .b) (fun x=>Rf x.1 x.2.1) [jB,jN] [.sp [.i .i64]]
def YC:FS:=AJ 64 [.v .s] (.v .b) (fun x=>Ln x.1) [Rv,kR] []
def jD:FS:=AJ 97 [.v .s] (.v .b) (fun x=>QX x.1) [YC] []
def iQ:FS:=X7 jD fun _=>by kernel_rfl
def jA:FS:=AJ 83 [.v (.st 2), .v (.st 3)] (.v .b) (fun x=>Lm x.1 x.2.1) [iG,iQ] []
def iP:FS:=AJ 62 [.v (.st 2), .v (.st 5)] (.v .b) (fun x=>Q2 x.1 x.2.1) [jA] []
def lN:FS:=AJ 63 [.v (.st 5)] (.v .b) (fun x=>Ru x.1) [] []
def iF:FS:=J1 85 [.v (.l (.st 1)), .fn [.st 1] .b] (.v (.i .i64)) (fun x=>HC x.1 (fun y=>x.2.1.φ (y,()))) fun x r hp h=>SG (f:=85) (t:=Xi 3) (by kernel_rfl) (by kernel_rfl) (tX (av:=(BI C2.av (.st 1))) (cn:=3) (fun _=>⟨_,rfl,rfl⟩) h (fun y b hb=>hp.2.1 (y,()) b hb))
def iX:FS:=AJ 86 [.v (.st 1), .rf .s] (.v .b) (fun x=>UU x.1 x.2.1) [] []
def iV:FS:=X7 iX fun _=>by kernel_rfl
def Yb:FS:=AJ 65 [.v (.st 2), .v .s] (.v (.i .i64)) (fun x=>OS x.1 x.2.1) [iF,iV] []
def Yj:FS:=AJ 29 [.v (.st 2), .v (.st 6)] (.v .b) (fun x=>OT x.1 x.2.1) [iP,lN,YC,Yb] []
def Vf:FS:=AJ 13 [.v (.st 2), .v (.st 6)] (.v .b) (fun x=>Mw x.1 x.2.1) [Yp,Yj] []
def lC:FS:=AJ 31 [.v (.st 3)] (.v .s) (fun x=>IX x.1) [Yt] []
def Yh:FS:=AJ 15 [.v (.st 2), .v (.st 6)] (.v .s) (fun x=>ON x.1 x.2.1) [lC] []
def kS:FS:=AJ 5 [.v (.st 2), .v (.st 6)] (.tu (.cons (.v .s) (.cons (.v .b) .nil))) (fun x=>Rc x.1 x.2.1) [Vf,Yh] []
def Yl:FS:=AJ 59 [.v .s, .v (.i .i64)] (.v .b) (fun x=>Mn x.1 x.2.1) [] [.sp [.i .i64]]
def mJ:FS:=AJ 82 [.v (.l .s), .v .s] (.v (.i .i64)) (fun x=>Rp x.1 x.2.1) [] [.sp [.i .i64]]
def kE:FS:=AJ 60 [.v (.l .s)] (.v .b) (fun x=>RG x.1) [VG,Yl,mJ] [.sp [.i .i64]]
def Yq:FS:=AJ 28 [.v (.st 2)] (.v .b) (fun x=>O1 x.1) [Yl,kE,VG] [.sp [.i .i64]]
def lI:FS:=AJ 70 [.v (.st 2), .v (.st 5)] (.v .b) (fun x=>RB x.1 x.2.1) [YB] []
def kQ:FS:=AJ 71 [.v (.st 5)] (.v .b) (fun x=>Rg x.1) [] []
def kX:FS:=AJ 73 [.v (.st 2), .v .s] (.v (.i .i64)) (fun x=>Rr x.1 x.2.1) [] [.sp [.i .i64]]
def Yy:FS:=AJ 32 [.v (.st 2), .v (.st 6)] (.v .b) (fun x=>O6 x.1 x.2.1) [lI,kQ,Ys,kX] []
def Yn:FS:=AJ 16 [.v (.st 2), .v (.st 6)] (.v .b) (fun x=>O3 x.1 x.2.1) [Yq,Yy] []
def lR:FS:=AJ 33 [.v (.st 3)] (.v .s) (fun x=>IU x.1) [YA] []
def Vl:FS:=AJ 17 [.v (.st 2), .v (.st 6)] (.v .s) (fun x=>Ms x.1 x.2.1) [lR] []
def kT:FS:=AJ 6 [.v (.st 2), .v (.st 6)] (.tu (.cons (.v .s) (.cons (.v .b) .nil))) (fun x=>Lo x.1 x.2.1) [Yn,Vl] []
def iR:FS:=AJ 35 [.v (.st 2), .v (.st 3)] (.v (.st 4)) (fun x=>OO x.1 x.2.1) [Yt] []
def iO:FS:=AJ 34 [.v (.i .i64), .v (.st 4), .rf (.l (.st 7))] (.tu (.cons (.tu .nil) (.cons (.bo (.l (.st 7))) .nil))) (fun x=>H0 x.1 x.2.1 x.2.2.1) [] []
def jC:FS:=AJ 75 [.v (.st 2), .v .s] (.v .s) (fun x=>QT x.1 x.2.1) [] []
def jT:FS:=AJ 76 [.v (.st 2), .v .s] (.v (.st 1)) (fun x=>Q6 x.1 x.2.1) [Yb] []
def jF:FS:=AJ 36 [.v (.st 2), .v .s, .v (.st 3)] (.v .s) (fun x=>Ll x.1 x.2.1 x.2.2.1) [jC,jT] []
def kM:FS:=AJ 37 [.v (.i .i64)] (.v .b) (fun x=>Vo x.1) [] []
def kN:FS:=AJ 38 [.v (.i .i64)] (.v .b) (fun x=>Vc x.1) [] []
def jG:FS:=AJ 18 [.v (.st 2), .v (.st 5)] (.v (.l (.st 7))) (fun x=>QR x.1 x.2.1) [kN,iO,kM,jF,iR] [.sp [.s, .s, .b, .l (.st 7)], .pt, .pt, .sp [.i .i64, .l (.st 7)], .inl, .sp [.s], .pt, .pt]
def kZ:FS:=AJ 7 [.v (.st 2), .v (.st 6)] (.tu (.cons (.v (.l (.st 7))) (.cons (.v .b) .nil))) (fun x=>RD x.1 x.2.1) [Vf,jG] []
def lG:FS:=AJ 39 [.v (.st 2), .v (.st 5)] (.v (.l (.st 7))) (fun x=>Ry x.1 x.2.1) [Vd] []
def lT:FS:=AJ 40 [.v (.st 2), .v (.st 1), .v (.st 5)] (.v (.l (.st 7))) (fun x=>O5 x.1 x.2.1 x.2.2.1) [Yr] [.sp [.s], .pt, .pt, .inl]
def l0:FS:=AJ 19 [.v (.st 2), .v (.st 5)] (.v (.l (.st 7))) (fun x=>Rq x.1 x.2.1) [lG,lT] [.sp [.i .i64, .l (.st 7)]]
def lE:FS:=AJ 8 [.v (.st 2), .v (.st 6)] (.tu (.cons (.v (.l (.st 7))) (.cons (.v .b) .nil))) (fun x=>RA x.1 x.2.1) [Yn,l0] []
def jE:FS:=AJ 24 [.rf (.st 0), .v .s, .v .s] (.tu (.cons (.v .s) (.cons (.v (.st 0)) .nil))) (fun x=>QU x.1 x.2.1 x.2.2.1) [Hz] [.sp [.s, .i .i64, .l (.i .u8), .i .i64, .i .u64], .inl]
def jI:FS:=AJ 9 [.v (.l (.i .u8))] (.tu (.cons (.v (.st 2)) (.cons (.v .s) .nil))) (fun x=>Q9 x.1) [UL,Yk,Yi,Vl,OQ,jE] [.inl]
def kV:FS:=AJ 95 [.v .s, .v .s] (.v (.i .i64)) (fun x=>Re x.1 x.2.1) [iM] []
def jH:FS:=AJ 80 [.v .s, .v .s, .v (.i .i64), .v (.i .i64)] (.v (.l .s)) (fun x=>U2 x.1 x.2.1 x.2.2.1 x.2.2.2.1) [jR,kV,kI] [.pt, .sp [.s, .i .i64, .l .s]]
def Yo:FS:=AJ 55 [.v .s, .v .s] (.v (.l .s)) (fun x=>OX x.1 x.2.1) [jH] []
def mR:FS:=AJ 56 [.v .s] (.v (.st 3)) (fun x=>IT x.1) [Yo] []
def iS:FS:=AJ 26 [.v (.st 2), .v .s] (.tu (.cons (.v (.st 6)) (.cons (.v .b) .nil))) (fun x=>QS x.1 x.2.1) [Yo,Yj,Yh,mR] [.pt]
def jY:FS:=AJ 10 [.v (.st 2), .v .s] (.tu (.cons (.v (.st 6)) (.cons (.v .b) .nil))) (fun x=>O2 x.1 x.2.1) [Yp,iS] []
def lH:FS:=AJ 81 [.v .s] (.v (.st 3)) (fun x=>IV x.1) [Vp] []
def kB:FS:=AJ 57 [.v (.l .s)] (.v (.st 6)) (fun x=>RH x.1) [lH] []
def kA:FS:=AJ 27 [.v (.st 2), .v .s] (.tu (.cons (.v (.st 6)) (.cons (.v .b) .nil))) (fun x=>Vn x.1 x.2.1) [Vp,kB,Yy,Vl] []
def kU:FS:=AJ 11 [.v (.st 2), .v .s] (.tu (.cons (.v (.st 6)) (.cons (.v .b) .nil))) (fun x=>Ri x.1 x.2.1) [kA,Yq] []
def jU:FS:=AJ 12 [.v (.l (.st 7)), .v (.l (.st 7))] (.v .b) (fun x=>Rh x.1 x.2.1) [] [.sp [.i .i64]]
def Yx:FS:=AJ 3 [.v (.l (.i .u8)), .v (.l (.i .u8))] (.v .b) (fun x=>Rz x.1 x.2.1) [jM,kS,kT,kZ,lE,jI,jY,kU,jU,Vf] []
theorem kD (a0 a1:List Int) (r:Bool) (h:Rz a0 a1=some r):CB Tryz.prog CM 3 [.sl (a0.map Nt), .sl (a1.map Nt)] (.bool r):=Yx.ok (a0,a1,()) r (by simp [Yx,AJ,Gx,Qg]) h
theorem CO {α:Type} {xs:List α} {i:Nat} (h:i<xs.length):getI xs (i:Int)=some xs[i]:=by simp [getI,h]
theorem LF {α:Type} {xs:List α} {i:Int} (h0:0≤i) (h:i<xs.length): ∃x,getI xs i=some x∧x∈xs∧xs[i.toNat]?=some x:=by
 have hi:i.toNat<xs.length:=by omega
 exact⟨xs[i.toNat],by simp [getI,h0,hi],List.getElem_mem hi,by simp [hi]⟩
theorem D6 {q n:Nat} (h:q<n) (hn:n≤9223372036854775807):IntKind.i64.wrap ((q:Int)+1)=((q+1:Nat):Int):=by rw [CD (by omega) (by omega)];simp
theorem AY {α:Type} {p:Prop} {k:Option α} (h:p):req p k=k:=by simp [req,h]
def FE {α σ β:Type} (step:α→σ→Option (σ ⊕ Option β)) (fin:σ→Option β):List α→σ→Option β
 | [],s=>fin s
 |x::xs,s=>match step x s with
  |none=>none
  |some (.inl s')=>FE step fin xs s'
  |some (.inr o)=>o
def LR {σ τ β:Type} (f:σ→τ):Option (σ ⊕ Option β)→Option (τ ⊕ Option β)
 |none=>none
 |some (.inl s)=>some (.inl (f s))
 |some (.inr o)=>some (.inr o)
theorem qD {α σ τ β:Type} {xs:List α} {body:τ→Option (τ ⊕ Option β)} (emb:Int→σ→τ) (step:α→σ→Option (σ ⊕ Option β)) (fin:σ→Option β) (q0:Nat)
  (hs: ∀(i:Nat) (hi:i<xs.length) (s:σ),q0≤i→body (emb i s)=LR (emb ((i+1:Nat):Int)) (step xs[i] s)) (he: ∀s,body (emb xs.length s)=some (.inr (fin s))) (s:σ) (h0:q0≤xs.length):BA body (emb q0 s)=FE step fin (xs.drop q0) s:=by
 have key: ∀(n q:Nat) (s:σ),q0≤q→q+n=xs.length→BA body (emb q s)=FE step fin (xs.drop q) s:=by
  intro n
  induction n with
  |zero=>
   intro q s _ hq;have:q=xs.length:=by omega
   subst this;rw [HF,he s];simp [FE]
  |succ n ih=>
   intro q s h0 hq;have AD:q<xs.length:=by omega
   rw [HF,hs q AD s h0,List.drop_eq_getElem_cons AD];rcases IG:step xs[q] s with _|s'|o
   ·simp [FE,IG,LR]
   ·simp only [FE,IG,LR];exact ih (q+1) s' (by omega) (by omega)
   ·simp [FE,IG,LR]
 exact key (xs.length-q0) q0 s (Nat.le_refl _) (by omega)
theorem ZD {α σ τ β:Type} {xs:List α} {body:τ→Option (τ ⊕ Option β)} (emb:Int→σ→τ) (step:α→σ→Option (σ ⊕ Option β)) (fin:σ→Option β)
  (hs: ∀(i:Nat) (hi:i<xs.length) (s:σ),body (emb i s)=LR (emb ((i+1:Nat):Int)) (step xs[i] s)) (he: ∀s,body (emb xs.length s)=some (.inr (fin s))) (s:σ):BA body (emb 0 s)=FE step fin xs s:=by
 have:=qD emb step fin 0 (fun i hi s _=>hs i hi s) he s (by omega);simpa using this
theorem sV {α σ β:Type} {step:α→σ→Option (σ ⊕ Option β)} {fin:σ→Option β} {xs:List α} (p:α→Bool) (b:β) (h: ∀x∈xs,∀s,step x s=some (if p x=true then .inl s else .inr (some b))) (s:σ):FE step fin xs s=if xs.all p=true then fin s else some b:=by
 induction xs with
 |nil=>simp [FE]
 |cons x xs ih=>
  simp only [FE,h x (by simp) s];cases hp:p x with
  |true=>simp [hp,ih fun y hy=>h y (by simp [hy])]
  |false=>simp [hp]
theorem rS {α σ β:Type} {step:α→σ→Option (σ ⊕ Option β)} {fin:σ→Option β} {xs:List α} (f:σ→α→σ) (I:σ→Prop) (hI: ∀x∈xs,∀s,I s→I (f s x)) (h: ∀x∈xs,∀s,I s→step x s=some (.inl (f s x))) {s:σ} (hs:I s):FE step fin xs s=fin (xs.foldl f s):=by
 induction xs generalizing s with
 |nil=>simp [FE]
 |cons x xs ih=>simp only [FE,h x (by simp) s hs,List.foldl_cons];exact ih (fun y hy=>hI y (by simp [hy])) (fun y hy=>h y (by simp [hy])) (hI x (by simp) s hs)
theorem Pn {α σ τ β:Type} {xs:List α} {body:τ→Option (τ ⊕ Option β)} (emb:Int→σ→τ) (f:σ→α→σ) (fin:σ→Option β) (I:Nat→σ→Prop)
  (hs: ∀(i:Nat) (hi:i<xs.length) (s:σ),I i s→body (emb i s)=some (.inl (emb ((i+1:Nat):Int) (f s xs[i])))∧I (i+1) (f s xs[i])) (he: ∀s,I xs.length s→body (emb xs.length s)=some (.inr (fin s))) {s:σ} (h0:I 0 s):BA body (emb 0 s)=fin (xs.foldl f s)∧I xs.length (xs.foldl f s):=by
 have key: ∀(n q:Nat) (s:σ),q+n=xs.length→I q s→BA body (emb q s)=fin ((xs.drop q).foldl f s)∧I xs.length ((xs.drop q).foldl f s):=by
  intro n
  induction n with
  |zero=>
   intro q s hq hI;have:q=xs.length:=by omega
   subst this;rw [HF,he s hI];simp [hI]
  |succ n ih=>
   intro q s hq hI;have AD:q<xs.length:=by omega
   obtain⟨h1,h2⟩:=hs q AD s hI;rw [HF,h1,List.drop_eq_getElem_cons AD,List.foldl_cons];exact ih (q+1) _ (by omega) h2
 have:=key xs.length 0 s (by omega) h0;simpa using this
theorem s6 {α:Type} {xs:List α} {p:α→Option Bool} (q:α→Bool) (hp: ∀x∈xs,p x=some (q x)) (hn:xs.length≤9223372036854775806):Mt xs p=some (xs.any q):=by
 have key: ∀(l:List α) (i:Int),0≤i→(∀x∈l,p x=some (q x))→ ∃r,Gw p l i=some r∧decide (r≥0)=l.any q:=by
  intro l
  induction l with
  |nil=>intro i _ _;exact⟨-1,rfl,by simp⟩
  |cons x l ih=>
   intro i hi h;simp only [Gw,h x (by simp),Ab];cases hq:q x with
   |true=>exact⟨i,by simp,by simp [hq,hi]⟩
   |false=>obtain⟨r,h1,h2⟩:=ih (i+1) (by omega) fun y hy=>h y (by simp [hy]);exact⟨r,by simp [h1],by simp [hq,h2]⟩
 obtain⟨r,h1,h2⟩:=key xs 0 (by omega) hp;simp [Mt,HC,AY hn,h1,h2]
theorem Ph {β:Type} {n:Nat} {body:Int→Option (Int ⊕ Option β)} (p:Nat→Bool) (b:β) (fin:Option β)
  (hs: ∀i:Nat,i<n→body i=some (if p i=true then .inl ((i+1:Nat):Int)else .inr (some b))) (he:body n=some (.inr fin)):BA body 0=if(List.range n).all p=true then fin else some b:=by
 have h1:=ZD (xs:=List.range n) (body:=body) (fun i (_:Unit)=>i) (fun i _=>some (if p i=true then .inl ()else .inr (some b))) (fun _=>fin)
  (fun i hi s=>by rw [List.length_range]at hi;rw [hs i hi,List.getElem_range];cases p i<;>simp [LR]) (fun s=>by simpa using he) ()
 rw [sV p b fun x _ s=>rfl]at h1;exact h1
def B2 {α:Type} (p:α→Bool) (l:List α):Int:=match l.findIdx? p with|some i=>(i:Int)|none=> -1
theorem Sn {α:Type} (p:α→Bool):B2 p []= -1:=rfl
theorem zip {α:Type} (p:α→Bool) (x:α) (l:List α):B2 p (x::l)=if p x=true then 0 else if B2 p l= -1 then-1 else B2 p l+1:=by
 unfold B2;rw [List.findIdx?_cons];cases p x with
 |true=>simp
 |false=>
  cases h:l.findIdx? p with
  |none=>simp
  |some i=>simp<;>omega
theorem Pt {α:Type} (p:α→Bool) (l:List α): -1≤B2 p l:=by unfold B2;split<;>omega
theorem Wn {α:Type} (p:α→Bool) (l:List α):decide (B2 p l≥0)=l.any p:=by
 induction l with
 |nil=>simp [Sn]
 |cons x l ih=>
  have h1:=Pt p l;rw [zip,List.any_cons,←ih];cases p x with
  |true=>simp
  |false=>
   by_cases h:B2 p l= -1
   ·simp [h]
   ·have:B2 p l≥0:=by omega
    simp [h,this];try omega
theorem Z2 {α:Type} {p:α→Bool} {l:List α} (h:B2 p l≥0): ∃x,getI l (B2 p l)=some x∧p x=true∧x∈l:=by
 induction l with
 |nil=>simp [Sn]at h
 |cons y l ih=>
  rw [zip]at h ⊢;cases hy:p y with
  |true=>exact⟨y,by simp [getI],hy,by simp⟩
  |false=>
   have h1:=Pt p l;by_cases hm:B2 p l= -1
   ·rw [hy,hm]at h;simp at h
   ·have h0:B2 p l≥0:=by omega
    obtain⟨x,e1,e2,e3⟩:=ih h0;obtain⟨_,e4,e5⟩:=Xn e1;refine⟨x, ?_,e2,by simp [e3]⟩;simp only [BW,if_false,hm];unfold getI;rw [if_pos (by omega),show(B2 p l+1).toNat=(B2 p l).toNat+1 by omega];simpa using e5
theorem Wx {α:Type} {xs:List α} {body:Int→Option (Int ⊕ Option Int)} (p:α→Bool) (hs: ∀(i:Nat) (hi:i<xs.length),body i=some (if p xs[i]=true then .inr (some (i:Int))else .inl ((i+1:Nat):Int))) (he:body xs.length=some (.inr (some (-1)))):BA body 0=some (B2 p xs):=by
 have key: ∀(n q:Nat),q+n=xs.length→BA body q=some (if B2 p (xs.drop q)= -1 then-1 else q+B2 p (xs.drop q)):=by
  intro n
  induction n with
  |zero=>
   intro q hq;have:q=xs.length:=by omega
   subst this;rw [HF,he];simp [Sn]
  |succ n ih=>
   intro q hq;have AD:q<xs.length:=by omega
   rw [HF,hs q AD,List.drop_eq_getElem_cons AD,zip];cases p xs[q]with
   |true=>simp
   |false=>
    simp only [BW,if_false];rw [ih (q+1) (by omega)];have h1:=Pt p (xs.drop (q+1));congr 1;by_cases hm:B2 p (xs.drop (q+1))= -1
    ·simp [hm]
    ·have h2: ¬(B2 p (xs.drop (q+1))+1= -1):=by omega
     simp only [hm,if_false,h2];omega
 have h:=key xs.length 0 (by omega);rw [List.drop_zero]at h;rw [show((0:Nat):Int)=0 from rfl]at h;rw [h];have h1:=Pt p xs;by_cases hm:B2 p xs= -1
 ·simp [hm]
 ·simp [hm]
theorem mG {α:Type} {xs:List α} {p:α→Option Bool} (q:α→Bool) (hp: ∀x∈xs,p x=some (q x)) (hn:xs.length≤9223372036854775806):HC xs p=some (B2 q xs):=by
 have key: ∀(l:List α) (i:Int),(∀x∈l,p x=some (q x))→Gw p l i=some (if B2 q l= -1 then-1 else i+B2 q l):=by
  intro l
  induction l with
  |nil=>intro i _;simp [Gw,Sn]
  |cons x l ih=>
   intro i h;simp only [Gw,h x (by simp),Ab,zip];cases q x with
   |true=>simp
   |false=>
    simp only [BW,if_false];rw [ih (i+1) fun y hy=>h y (by simp [hy])];have h1:=Pt q l;congr 1;by_cases hm:B2 q l= -1
    ·simp [hm]
    ·have h2: ¬(B2 q l+1= -1):=by omega
     simp only [hm,if_false,h2];omega
 unfold HC;rw [AY hn,key xs 0 hp];by_cases hm:B2 q xs= -1
 ·simp [hm]
 ·simp [hm]
theorem dK {α:Type} {b:Bool} {A B:Option α} {y:Option α} (ha:b=true→A=y) (hb:b=false→B=y):(if b=true then A else B)=y:=by
 cases b with
 |true=>simpa using ha rfl
 |false=>simpa using hb rfl
theorem sX {α β:Type} {o:Option α} {x:α} {f:α→Option β} (h:o=some x):o.bind f=f x:=by rw [h];rfl
def By {α:Type} (o:Option α) (Q:α→Prop):Prop:= ∃x,o=some x∧Q x
section
variable {α β σ:Type} {Q:β→Prop}
theorem By.bind {o:Option α} {P:α→Prop} {f:α→Option β} (h:By o P) (hf: ∀x,P x→By (f x) Q):By (o.bind f) Q:=by obtain⟨x,rfl,hx⟩:=h;exact hf x hx
theorem By.ret {x:β} (h:Q x):By (some x) Q:=⟨x,rfl,h⟩
theorem By.ite {b:Bool} {A B:Option β} (ha:b=true→By A Q) (hb:b=false→By B Q):By (if b=true then A else B) Q:=by
 cases b with
 |true=>simpa using ha rfl
 |false=>simpa using hb rfl
theorem By.req {p:Prop} [Decidable p] {k:Option β} (hp:p) (hk:By k Q):By (req p k) Q:=by rw [AY hp];exact hk
theorem By.mono {o:Option β} {P:β→Prop} (h:By o P) (eD: ∀x,P x→Q x):By o Q:=by obtain⟨x,hx,h⟩:=h;exact⟨x,hx,eD x h⟩
theorem By.getI {xs:List β} {i:Int} (h0:0≤i) (h:i<xs.length) (hq: ∀x,x∈xs→Q x):By (getI xs i) Q:=by obtain⟨x,h1,h2,_⟩:=LF h0 h;exact⟨x,h1,hq x h2⟩
theorem MB {body:σ→Option (σ ⊕ Option β)} (I:Nat→σ→Prop) (h: ∀n s,I n s→By (body s) fun o=>match o with| .inl s'=> ∃m,m<n∧I m s'| .inr q=>By q Q): ∀{n:Nat} {s:σ},I n s→By (BA body s) Q:=by
 intro n
 induction n using Nat.strongRecOn with
 |_ n ih=>
  intro s hI;obtain⟨o,ho,h2⟩:=h n s hI;rw [HF,ho]
  match o,h2 with
  | .inl s',⟨m,hm,eA⟩=>exact ih m hm eA
  | .inr q,hq=>exact hq
end
structure CP where
 j7:List Int→Prop
 lj: ∀l,j7 l→ ∀b∈l,0≤b∧b≤255
instance codeBytes:Inhabited CP:=⟨⟨fun l=> ∀b∈l,0≤b∧b≤255,fun _ h=>h⟩⟩
def Bn [Inhabited CP] (c:Au) (k:Int):Prop:=(default:CP).j7 c.aw∧0≤c.bu∧c.bu≤k
theorem Bn.up [Inhabited CP] {c:Au} {i j:Int} (h:Bn c i) (vN:i≤j):Bn c j:=⟨h.1,h.2.1,by have:=h.2.2;omega⟩
theorem Bn.start [Inhabited CP] {code:List Int} (h:(default:CP).j7 code):Bn ⟨code,0,0⟩ 0:=⟨h,by simp,by simp⟩
theorem cB (a:Int):0≤IntKind.i64.wrap (IntKind.u64.wrap ((BitVec.ofInt (IntKind.bits .u64) a&&&BitVec.ofInt (IntKind.bits .u64) 255).toNat:Int))∧IntKind.i64.wrap (IntKind.u64.wrap ((BitVec.ofInt (IntKind.bits .u64) a&&&BitVec.ofInt (IntKind.bits .u64) 255).toNat:Int))≤255:=by
 have h:(BitVec.ofInt (IntKind.bits .u64) a&&&BitVec.ofInt (IntKind.bits .u64) 255).toNat≤255:=by rw [BitVec.toNat_and];exact Nat.le_trans Nat.and_le_right (by decide)
 generalize (BitVec.ofInt (IntKind.bits .u64) a&&&BitVec.ofInt (IntKind.bits .u64) 255).toNat=m at h ⊢;have e:IntKind.u64.wrap (m:Int)=m:=by simp [IntKind.wrap,IntKind.bits,IntKind.signed];omega
 rw [e,CD (by omega) (by omega)];omega
theorem bO [Inhabited CP] {c:Au} {k:Int} (h:Bn c k) (hk:k≤4611686018427387904):By (OW c) fun p=>(0≤p.1∧p.1≤255)∧Bn p.2 (k+1):=by
 obtain⟨hb,h0,h1⟩:=h;have w:IntKind.i64.wrap (c.bu+1)=c.bu+1:=CD (by omega) (by omega);unfold OW;refine .ite (fun AD=> ?_) fun AD=> ?_
 ·simp only [decide_eq_true_eq]at AD;refine By.bind (P:=fun y=>0≤y∧y≤255) (.getI h0 AD ((default:CP).lj _ hb)) fun y hy=> ?_;have wy:IntKind.i64.wrap y=y:=CD (by omega) (by omega);refine .ite (fun _=> .ret ⟨by dsimp only;rw [wy];exact hy,hb,by dsimp only;omega,by dsimp only;omega⟩) fun _=> .ret ⟨cB _,hb,by dsimp only;omega,by dsimp only;omega⟩
 ·refine .ite (fun _=> .ret ⟨by simp,hb,by dsimp only;omega,by dsimp only;omega⟩) fun _=> .ret ⟨cB _,hb,by dsimp only;omega,by dsimp only;omega⟩
theorem DM [Inhabited CP] {c:Au} {k:Int} (n:Int) (h:Bn c k) (hk:k≤4611686018427387000):By (C7 c n) fun p=>(0≤p.1∧(1≤n→p.1<n)∧p.1≤65535)∧Bn p.2 (k+2):=by
 have tm: ∀x:Int,0≤x→1<n→0≤x.tmod n∧x.tmod n<n∧x.tmod n≤x:=fun x hx hn=>by
  rw [Int.tmod_eq_emod_of_nonneg hx];exact⟨Int.emod_nonneg _ (by omega),Int.emod_lt_of_pos _ (by omega),by have:=Int.emod_add_mul_ediv x n;have h2:0≤n*(x/n):=Int.mul_nonneg (by omega) (Int.ediv_nonneg hx (by omega));omega⟩
 unfold C7;refine .ite (fun hn=> .ret ⟨⟨by simp,fun h1=>by dsimp only;omega,by simp⟩,h.up (by omega)⟩) fun hn=> ?_;simp only [decide_eq_false_iff_not]at hn;refine(bO h (by omega)).bind fun p ⟨hp,hc⟩=> ?_;refine .ite (fun _=> ?_) fun _=> ?_
 ·refine(bO hc (by omega)).bind fun q ⟨hq,hd⟩=> .req (by omega) (.ret ?_);have w1:IntKind.i64.wrap (p.1*256)=p.1*256:=CD (by omega) (by omega);have w2:IntKind.i64.wrap (p.1*256+q.1)=p.1*256+q.1:=CD (by omega) (by omega);have:=tm (p.1*256+q.1) (by omega) (by omega);dsimp only;rw [w1,w2];exact⟨⟨this.1,fun _=>this.2.1,by omega⟩,hd.up (by omega)⟩
 ·have:=tm p.1 hp.1 (by omega);exact .req (by omega) (.ret ⟨⟨this.1,fun _=>this.2.1,by dsimp only;omega⟩,hc.up (by omega)⟩)
theorem Jk [Inhabited CP] {c:Au} {k:Int} (n:Int) (h:Bn c k) (hk:k≤4611686018427387000):By (GK c n) fun p=>Bn p.2 (k+2):=by unfold GK;exact(DM n h hk).bind fun p ⟨_,hc⟩=> .ret hc
abbrev Ai:=Aa
def Dm (a b c:Int):Bool:=decide (a≥b)&&decide (a≤c)
theorem Eg {a b c:Int}:Dm a b c=true↔b≤a∧a≤c:=by simp [Dm]
@[simp] theorem WZ (a b c:Int):Mx a b c=some (Dm a b c):=rfl
@[simp] theorem Sj (a b c:Int):Lt a b c=some (Dm a b c):=rfl
def DN (b:UInt8):Bool:=(decide ((b.toNat:Int)≥97)&&decide ((b.toNat:Int)≤122))||(decide ((b.toNat:Int)≥48)&&decide ((b.toNat:Int)≤57))
def H7 (s more:Ai):Bool:=s.all fun b=>DN b||more.contains b
theorem cX {a b:UInt8}:((a.toNat:Int)==(b.toNat:Int))=(a==b):=by
 rw [Bool.eq_iff_iff];simp only [beq_iff_eq];constructor
 ·intro h;exact UInt8.toNat_inj.1 (by omega)
 ·rintro rfl;rfl
theorem pT {α:Type} (xs:List α) (p:α→Bool) (q:Nat→Bool) (h: ∀(i:Nat) (hi:i<xs.length),q i=p xs[i]):(List.range xs.length).all q=xs.all p:=by
 rw [Bool.eq_iff_iff];simp only [A1,List.mem_range];constructor
 ·intro hq x hx;obtain⟨i,hi,rfl⟩:=List.getElem_of_mem hx;rw [←h i hi];exact hq i hi
 ·intro hp i hi;rw [h i hi];exact hp _ (List.getElem_mem hi)
theorem MR {α β:Type} {xs:List α} {body:Int→Option (Int ⊕ Option β)} (p:α→Bool) (b:β) (fin:Option β)
  (hs: ∀(i:Nat) (hi:i<xs.length),body i=some (if p xs[i]=true then .inl ((i+1:Nat):Int)else .inr (some b))) (he:body xs.length=some (.inr fin)):BA body 0=if xs.all p=true then fin else some b:=by
 rw [Ph (n:=xs.length) (fun i=>match xs[i]? with|some x=>p x|none=>true) b fin (fun i hi=>by rw [hs i hi];simp [hi]) he,
  pT xs p _ fun i hi=>by simp [hi]]
theorem oM {s more:Ai} (h1:s.length≤2000000) (h2:more.length≤2000000):RF s more=some (H7 s more):=by
 unfold RF;rw [MR (xs:=s) (fun b=>DN b||more.contains b) false (some true) ?_ (by simp [U3])]
 ·unfold H7;cases(s.all fun b=>DN b||more.contains b)<;>rfl
 ·intro i hi;have B6:BA (fun t:Bool × Int=>O4 more i s[i] t.1 t.2) (DN s[i],0)=some (if(DN s[i]||more.contains s[i])=true then .inl ((i+1:Nat):Int)else .inr (some false)):=by
   have hl:=ZD (xs:=more) (body:=fun t:Bool × Int=>O4 more i s[i] t.1 t.2) (fun k (ok:Bool)=>(ok,k)) (fun b ok=>some (.inl (ok||s[i]==b))) (fun ok=>Vg i ok)
    (fun k hk ok=>by simp only [O4,Int.ofNat_lt,hk,decide_true,if_true,CO hk,Ab,D6 hk (by omega:more.length≤_),cX,LR];cases ok<;>simp) (fun ok=>by simp [O4]) (DN s[i])
   rw [rS (fun ok b=>ok||s[i]==b) (fun _=>True) (fun _ _ _ _=>trivial) (fun _ _ _ _=>rfl) trivial]at hl;have hf: ∀(l:Ai) (ok:Bool),l.foldl (fun ok b=>ok||s[i]==b) ok=(ok||l.contains s[i]):=by
    intro l
    induction l with
    |nil=>intro ok;simp
    |cons c l ih=>intro ok;rw [List.foldl_cons,ih,List.contains_cons,Bool.or_assoc]
   rw [hl,hf];unfold Vg;rw [D6 hi (by omega)];cases(DN s[i]||more.contains s[i])<;>rfl
  simp only [U3,Int.ofNat_lt,hi,decide_true,if_true,CO hi,Ab];exact B6
theorem l6 (l:Ai) (c:UInt8):decide (Lib.indexByte l c<0)= !l.contains c:=by
 induction l with
 |nil=>rfl
 |cons b l ih=>
  unfold Lib.indexByte;have Hd:=Lib.indexByte_ge l c;rw [List.contains_cons];by_cases hb:b=c
  ·subst hb;simp
  ·have h1:(b==c)=false:=by simpa using hb
   have h2:(c==b)=false:=by simpa using fun h=>hb h.symm
   rw [h1,h2];simp only [BW,if_false,Bool.false_or];rw [←ih];by_cases hm:Lib.indexByte l c= -1
   ·simp [hm]
   ·have h3:(Lib.indexByte l c== -1)=false:=by simpa using hm
    rw [h3];simp only [BW,if_false];rw [decide_eq_decide];omega
theorem nW {s more:Ai} (h1:s.length≤2000000):Rf s more=some (H7 s more):=by
 unfold Rf;rw [MR (xs:=s) (fun b=>DN b||more.contains b) false (some true) ?_ (by simp [Va])]
 ·unfold H7;cases(s.all fun b=>DN b||more.contains b)<;>rfl
 ·intro i hi;have hu:((s[i].toNat:Int)).toNat.toUInt8=s[i]:=by simp
  simp only [Va,Int.ofNat_lt,hi,decide_true,if_true,CO hi,Ab,UK,U8,QP,hu,l6,D6 hi (by omega:s.length≤_)];rw [show((decide ((s[i].toNat:Int)≥97)&&decide ((s[i].toNat:Int)≤122))||(decide ((s[i].toNat:Int)≥48)&&decide ((s[i].toNat:Int)≤57)))=DN s[i]from rfl];cases DN s[i]<;>cases more.contains s[i]<;>rfl
def GP (s:Ai):Bool:=Dm s.length 1 12&&H7 s [46,47]
def H8 (s:Ai):Bool:=decide ((s.length:Int)≤24)&&H7 s [46,45,44,95]
def W9 (v:Ai) (Kz:Bool):Bool:=H8 v&&(!Kz||v== [])
def Sk (ks:List Ai) (i:Nat):Bool:=i==0||Op.bytesLess ((ks[i-1]?).getD []) ((ks[i]?).getD [])
def PU (ks:List Ai):Bool:=(List.range ks.length).all (Sk ks)
theorem aS: ∀(a b:Ai),(Op.bytesLess a b||a==b)= !Op.bytesLess b a
 | [], []=>rfl
 | [],_::_=>rfl
 |_::_, []=>rfl
 |x::a,y::b=>by
  have ih:=aS a b;simp only [Op.bytesLess];rcases Nat.lt_trichotomy x.toNat y.toNat with h|h|h
  ·have h1:x<y:=UInt8.lt_iff_toNat_lt.2 h;have h2: ¬y<x:=fun h'=>by have:=UInt8.lt_iff_toNat_lt.1 h';omega
   have h3: ¬y=x:=fun h'=>by subst h';omega
   simp [h1,h2,h3]
  ·have h0:x=y:=UInt8.toNat_inj.1 h;subst h0;have h1: ¬x<x:=fun h'=>by have:=UInt8.lt_iff_toNat_lt.1 h';omega
   rw [show((x::a)==(x::b))=(a==b) by simp];simp only [h1,decide_false,Bool.false_or,beq_self_eq_true,Bool.true_and];exact ih
  ·have h1: ¬x<y:=fun h'=>by have:=UInt8.lt_iff_toNat_lt.1 h';omega
   have h2:y<x:=UInt8.lt_iff_toNat_lt.2 h;have h3: ¬x=y:=fun h'=>by subst h';omega
   simp [h1,h2,h3]
theorem bL {i:Nat} (h0:0<i) (h:i≤2000000):IntKind.i64.wrap ((i:Int)-1)=((i-1:Nat):Int):=by rw [CD (by omega) (by omega)];omega
def FY (w:Ao):Bool:=GP w.al&&W9 w.bf w.c7
def oG (l:List Ao):Bool:=decide ((l.length:Int)≤24)&&(l.all FY&&PU (l.map (·.al)))
def tI (l:List Ao):Prop:=l.length≤2000000∧ ∀w∈l,w.al.length≤2000000∧w.bf.length≤2000000
def qY (l:List Ao):Bool:=oG l&&l.all fun w=> !w.c7
end Go.Proofs.YtagokdejdanfcaaGreatDoor
end

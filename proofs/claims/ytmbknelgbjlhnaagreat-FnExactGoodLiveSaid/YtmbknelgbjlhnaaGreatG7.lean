/- Parts of a proof, joined: DA, DB, MA, MB, OB, OG, QA, QO, MC, MD, QT, TF, HB, SP, HL, IA, IC, IB. -/
import Derived.Test.YtmbknelgbjlhnaaGreatG6
import Derived.Test.YtmbknelgbjlhnaaGreatProg
import Derived.Test.YtmbknelgbjlhnaaGreatChecked
import Derived.Shelf.Strings.Builder1
import Derived.Shelf.Strings.Builder2
import Derived.Shelf.Strings.OnBuilder
import Derived.Shelf.Small.Strs
import Derived.Shelf.Strings.BuilderF
import Derived.Shelf.Strings.BuilderK
import Derived.Shelf.Strings.Builder2Cap
import Derived.Shelf.Strings.Search1
import Derived.Shelf.Strings.BuilderCap
import Derived.Shelf.Slices.Turned
import Derived.Shelf.Slices.Equal
import Derived.Ground.Names2Prog
import Derived.Shelf.Slices.Clone
import Derived.Shelf.Slices.Empties2
import Derived.Ground.SlgnProg
import Derived.Shelf.SlicesE.Clone
import Derived.Laws.CopyRow
import Derived.Lib.AppendZerosOnto
import Derived.Lib.Overlaps
import Derived.Deep.RegionLaw
set_option linter.unusedVariables false
set_option linter.unusedSimpArgs false
section
namespace Go.Proofs.YtmbknelgbjlhnaaGreat
open Go.RowKit
noncomputable def gT (t:TypeId):List Bool:=(AZ Tryz.prog t).map fun u=>match Cv Tryz.prog u with|some e=>BM Tryz.prog e|none=>false
noncomputable def kD (u:TypeId):List Bool:=gT u
noncomputable def z7 (fn:Func):F7:={dc:=fn.params.toList.map fun t=>match IG Tryz.prog t with|some u=> .bx (kD u) (kD u)|none=> .ro,res:=fn.resultTypes.toList.flatMap gT}
noncomputable def zEh (f:Nat):Option F7:=
 match f with
 |3=>some {dc:= [],res:= [false],dp:=true}
 |6=>some {dc:= [],res:= [false,true,false,true,true,false,false,true,true,true,true,true,true,true],dp:=true}
 |14=>some {dc:= [],res:= [true],dp:=true}
 |16=>some {dc:= [],res:= [true],dp:=true}
 |17=>some {dc:= [],res:= [false,false,true,true,true,true,true,true,true],dp:=true}
 |48=>some {dc:= [],res:= [true],dp:=true}
 |49=>some {dc:= [],res:= [true],dp:=true}
 |50=>some {dc:= [],res:= [true],dp:=true}
 |51=>some {dc:= [],res:= [true],dp:=true}
 |108=>some {dc:= [],res:= [true,false,false],dp:=true}
 |142=>some {dc:= [.ro, .ro, .bx [true] [true]],res:= [],ft:= [1000000075]}
 |176=>some {dc:= [],res:= [true],dp:=true}
 |222=>some {dc:= [],res:= [false,true,false],dp:=true}
 |244=>some {dc:= [],res:= [true],dp:=true}
 |_=>none
noncomputable def kP (f:Nat):Option F7:=match Tryz.prog.funcs[f]? with
 |some fn=>some ((zEh f).getD (z7 fn))
 |none=>none
noncomputable def Dy:BB:={f:=kP}
theorem zEz:Tryz.prog.follows .mixedOrders=true:=by kernel_rfl
theorem zFI:Tryz.prog.funcs.size<1000000:=by
 have:(decide (Tryz.prog.funcs.size<1000000))=true:=by kernel_rfl
 exact of_decide_eq_true this
theorem XZ (f:Nat) (s:F7) (h:Dy f=some s):f<1000000:=by
 simp only [Dy]at h;unfold kP at h;split at h
 ·rename_i fn hf;have:=(Array.getElem?_eq_some_iff.1 hf).1;exact Nat.lt_trans this zFI
 ·cases h
def T5 (P:Program) (sg:BB) (f:Nat) (xs:List AV) (r:AV):Bool:=
 match P.funcs[f]?,sg f with
 |some fn,some s=> !(fn.name== "runtime.NumGoroutine")&&OS P fn s r&&xs.length==fn.params.size+fn.nfree
 |_,_=>false
abbrev Den (t:Tr) (r:AV) (xs:List AV):Prop:=t.den (CY Tryz.prog Dy) (fun r'=>r'=r) (fun _ _ _ _=>False) [] xs
theorem DD {f:Nat} {t:Tr} {xs:List AV} {r:AV} (hc:QC Tryz.prog Dy f=some t) (hk:T5 Tryz.prog Dy f xs r=true) (hd:Den t r xs):CY Tryz.prog Dy f xs r:=by
 unfold T5 at hk;split at hk
 ·rename_i fn s hf hs;simp only [Ac,Bool.not_eq_true',beq_iff_eq]at hk;unfold CY;rw [if_pos (XZ f s hs)];exact⟨s,hs,xO zEz XZ hf hs hk.1.1 hc hk.1.2 hk.2 hd⟩
 ·cases hk
section
variable {Rt:Nat→List AV→AV→Prop} {R:AV→Prop} {L:LK} {js:List JK} {ρ:List AV}
theorem uS {i:EL} {b k:Tr} (hL:Iv L) (I:Nat→List AV→Prop) {m:Nat} (h0:I m (i.den ρ)) (E9: ∀m vs,I m vs→b.den Rt R L ((fun us=> ∃m',m'<m∧I m' us)::(fun us=>k.den Rt R L js (ρ++us))::js) (ρ++vs)):(Tr.loop i b k).den Rt R L js ρ:=by
 have hb: ∀W W':JK,(∀vs,W vs→W' vs)→ ∀vs,b.den Rt R L (W::(fun us=>k.den Rt R L js (ρ++us))::js) (ρ++vs)→b.den Rt R L (W'::(fun us=>k.den Rt R L js (ρ++us))::js) (ρ++vs):=
  fun W W' hW vs hv=>b.gq hL hv (.cons hW (Dn.refl _))
 have mono: ∀n vs,HB (fun W vs=>b.den Rt R L (W::(fun us=>k.den Rt R L js (ρ++us))::js) (ρ++vs)) n vs→ ∀n',n≤n'→HB (fun W vs=>b.den Rt R L (W::(fun us=>k.den Rt R L js (ρ++us))::js) (ρ++vs)) n' vs:=by
  intro n
  induction n with
  |zero=>intro vs h;exact h.elim
  |succ n ih=>
   intro vs h n' hn;cases n' with
   |zero=>omega
   |succ n'=>exact hb _ _ (fun us hu=>ih us hu n' (by omega)) vs h
 have key: ∀m vs,I m vs→HB (fun W vs=>b.den Rt R L (W::(fun us=>k.den Rt R L js (ρ++us))::js) (ρ++vs)) (m+1) vs:=by
  intro m
  induction m using Nat.strongRecOn with
  |_ m ih=>intro vs hI;exact hb _ _ (fun us ⟨m',hm,hu⟩=>mono _ _ (ih m' hm us hu) m (by omega)) vs (E9 m vs hI)
 exact⟨m+1,key m _ h0⟩
theorem mV:Iv (fun _ _ _ _=>False):=fun _ _ _ _ _ _ h=>h
end
@[simp] theorem zFf (ρ:List AV):A1 ρ []↔True:=⟨fun _=>trivial,fun _=>D3 ρ⟩
@[simp] theorem zE8 (ρ:List AV) (x:E) (b:Bool) (gs:Gd):A1 ρ ((x,b)::gs)↔x.den ρ= .bool b∧A1 ρ gs:=
 ⟨fun h=>⟨h (x,b) (by simp),fun g hg=>h g (by simp [hg])⟩,fun h g hg=>by rcases Ae.1 hg with rfl|hg;exact h.1;exact h.2 g hg⟩
attribute [simp] E.den EL.den Cn.den AV.fld AV.proj AV.deref AV.len AV.slen AV.idx AV.nth AV.gh AV.je AV.conv AV.bin AV.bbin AV.sbin AV.app AV.ec AV.rep
@[simp] theorem zDJ (cs:List AV):(AV.agg cs).cells=cs:=rfl
@[simp] theorem zEr (k:IntKind) (n:Int):(AV.int k n).cells= [.int k n]:=rfl
@[simp] theorem zDF (b:Bool):(AV.bool b).cells= [.bool b]:=rfl
@[simp] theorem zDN (s:List UInt8):(AV.str s).cells= [.str s]:=rfl
@[simp] theorem zEC (xs:List AV):(AV.sl xs).cells= [.sl xs]:=rfl
@[simp] theorem zDH (k:IntKind) (n:Int):(AV.int k n).scalar=true:=rfl
@[simp] theorem zDq (b:Bool):(AV.bool b).scalar=true:=rfl
@[simp] theorem zDE (s:List UInt8):(AV.str s).scalar=true:=rfl
@[simp] theorem zEU (b c d:Bool):AV.cond (.bool b) (.bool c) (.bool d)= .bool (bif b then c else d):=by cases b<;>rfl
theorem zCB {y:AV} (h:y.scalar=true):y.cells= [y]:=by cases y<;>first|rfl|simp [AV.scalar]at h
theorem DE {n:Int} (h1: -9223372036854775808≤n) (h2:n≤9223372036854775807):IntKind.i64.wrap n=n:=by rw [IntKind.wrap_i64];omega
end Go.Proofs.YtmbknelgbjlhnaaGreat
end
section
namespace Go.Proofs.YtmbknelgbjlhnaaGreat
open Go.RowKit
section
variable {Rt:Nat→List AV→AV→Prop} {R:AV→Prop} {L:LK} {js:List JK} {ρ:List AV}
theorem Gv {gs:Gd} {c:Cn} {k:Tr} (h:A1 ρ gs→c.den ρ) (hk:k.den Rt R L js ρ):(Tr.c6 gs c k).den Rt R L js ρ:=⟨h,hk⟩
theorem vY {gs:Gd} {f:Nat} {args:EL} {k:Tr} {r:AV} (h:A1 ρ gs→Rt f (args.den ρ) r) (hk:k.den Rt R L js (ρ++ [r])):(Tr.call gs (.inl f) args k).den Rt R L js ρ:=⟨r,h,hk⟩
theorem oI {gs:Gd} {x:E} {args:EL} {k:Tr} {r:AV} (h:A1 ρ gs→ ∃g caps,x.den ρ= .fn g caps∧Rt (1000000+g) (args.den ρ++caps) r∧ ∀y∈r.cells,y.scalar=true) (hk:k.den Rt R L js (ρ++ [r])):(Tr.call gs (.inr x) args k).den Rt R L js ρ:=⟨r,h,hk⟩
theorem I2 {c:E} {a b:Tr} {t:Bool} (h:c.den ρ= .bool t) (ha:t=true→a.den Rt R L js ρ) (hb:t=false→b.den Rt R L js ρ):(Tr.ite c a b).den Rt R L js ρ:=⟨t,h,ha,hb⟩
theorem MG {r:E} (h:R (r.den ρ)):(Tr.ret r).den Rt R L js ρ:=h
theorem pK {es:EL} {j:JK} (h:j (es.den ρ)):(Tr.jmp 0 es).den Rt R L (j::js) ρ:=h
theorem oW {es:EL} {i j:JK} (h:j (es.den ρ)):(Tr.jmp 1 es).den Rt R L (i::j::js) ρ:=h
end
def qU (cn:Nat) (xs:List AV):Prop:= ∀x∈xs,∃cs,x= .agg cs∧cs.length=cn
theorem qU.at {cn:Nat} {xs:List AV} (h:qU cn xs) {q:Nat} (hq:q<xs.length): ∃cs,xs[q]= .agg cs∧cs.length=cn:=h _ (List.getElem_mem hq)
section
variable {Rt:Nat→List AV→AV→Prop} {R:AV→Prop} {L:LK} {js:List JK} {ρ:List AV} {α β σ τ:Type}
theorem zM {x:E} {sz:Nat} {xs:List α} (f:α→AV) (hx:x.den ρ= .sl (xs.map f)) (hf: ∀y,(f y).cells.length=sz∧ ∀z∈(f y).cells,z.scalar=true):Cn.den ρ (.flatS x sz):=⟨_,hx,by simp only [List.mem_map];rintro _ ⟨y,_,rfl⟩;exact hf y⟩
end
@[simp] def MT (n:Int):AV:= .int .i64 n
@[simp] def gS (b:Bool):AV:= .bool b
@[simp] def EG (x:List UInt8):AV:= .str x
attribute [simp] CR O7 AV.sidx AV.aeq AV.leq AV.seq AV.sk AV.eb AV.bytes AV.text
end Go.Proofs.YtmbknelgbjlhnaaGreat
end
section
namespace Go.Proofs.YtmbknelgbjlhnaaGreat
open Go.RowKit
section
variable {P:Program} {w:World}
theorem CT.jc {ts:List TypeId} {vs:List Value} {xs:List AV} {rf lf hs:List Nat} (h:CT P w ts [] [] vs xs rf lf hs): ∀(ms:List PM) (lo:List Bool),(∀m∈ms,m= .ro)→CT P w ts ms lo vs xs rf lf hs:=by
 generalize hm:([]:List PM)=m0 at h;generalize hn:([]:List Bool)=n0 at h
 induction h with
 |nil=>intro ms lo _;exact .nil
 |lent h1 _ _ _ _=>subst hn;cases h1
 | @cons t ts ms' lo' v vs x xs f h rf lf hs AR _ ih=>
  subst hm;subst hn;intro ms lo DO;refine .cons ?_ (ih rfl rfl ms.tail lo.tail fun m hm=>DO m (List.mem_of_mem_tail hm));have:ms.headD .ro= .ro:=by cases ms with|nil=>rfl|cons m ms=>exact DO m (by simp)
  rw [this];exact AR
 |free h1 _ ih=>subst hm;subst hn;intro ms lo DO;exact .free h1 (ih rfl rfl ms.tail lo.tail fun m hm=>DO m (List.mem_of_mem_tail hm))
theorem Dk.jc {ts:List TypeId} {ms:List PM} {vs:List Value} {Bs:List AV} {f o:List Nat} (h:Dk P w ts ms vs Bs f o) (DO: ∀m∈ms,m= .ro):Dk P w ts [] vs Bs f o:=by
 have hd: ∀{ms:List PM},(∀m∈ms,m= .ro)→ms.headD .ro= .ro:=by intro ms h;cases ms with|nil=>rfl|cons m ms=>exact h m (by simp)
 induction h with
 |nil=>exact .nil
 |ro _ _ ih=>exact .ro rfl (ih fun m hm=>DO m (List.mem_of_mem_tail hm))
 |va h9 _ _=>rw [hd DO]at h9;cases h9
 |mu h9 _ _ _ _=>rw [hd DO]at h9;cases h9
 |bx h9 _ _ _ _ _ _ _ _=>rw [hd DO]at h9;cases h9
end
noncomputable def gO (f:Nat) (r:AV):Bool:=
 match Tryz.prog.funcs[f]?,Dy f with
 |some fn,some s=>s.dc.all (fun m=>match m with| .ro=>true|_=>false)&&s.ft.isEmpty&&(match fn.resultTypes.toList with| [t]=> !Ha Tryz.prog t s.res|_=>false)&&OS Tryz.prog fn {dc:= [],res:= []} r
 |_,_=>false
theorem zyY {f:Nat} {xs:List AV} {r:AV} (h:CY Tryz.prog Dy f xs r) (hp:gO f r=true):CY Tryz.prog Dy (1000000+f) xs r:=by
 unfold gO at hp;split at hp
 ·rename_i fn s hf hs;simp only [Ac,A9]at hp;obtain⟨⟨⟨h1,FM⟩,h2⟩,h3⟩:=hp;have FM:s.ft= []:=by simpa using FM
  have Jz: ∀m∈s.dc,m= .ro:=fun m hm=>by
   have:=h1 m hm;split at this
   ·rfl
   ·cases this
  unfold CY at h ⊢;rw [if_pos (XZ f s hs)]at h;rw [if_neg (by omega),Nat.add_sub_cancel_left];obtain⟨s',AY,fn',PO,hb,hn,_,hl,_,hc⟩:=h;rw [hs]at AY;cases AY;rw [hf]at PO;cases PO;rw [FM]at hc;refine⟨fn,hf,hb,hn,h3,hl,by simp,fun w vs rf lf AY Az hd rU BW Eb=>(hc w vs rf lf AY (Az.jc _ _ Jz) hd rU BW Eb).mono ?_⟩;rintro e w' ⟨v,rfl,⟨R,Bs,f1,o1,f2,o2,e1,e2,e3,e4,e5,e6⟩,hm⟩;rw [FM]at e3;refine⟨v,rfl,⟨R,Bs,f1,o1,f2,o2,e1, ?_,e3.jc Jz,e4,e5,e6⟩,hm⟩;unfold IH at e2 ⊢;split at h2
  ·rename_i t ht;rw [ht]at e2 ⊢;simp only at e2 ⊢;unfold Fm at e2 ⊢;have h2:Ha Tryz.prog t s.res=false:=by simpa using h2
   rw [if_neg (by rw [h2];simp)]at e2;rw [if_neg (by simp [Ha])];exact e2
  ·cases h2
 ·cases hp
section
variable {Rt:Nat→List AV→AV→Prop} {R:AV→Prop} {L:LK} {js:List JK} {ρ:List AV}
theorem qB {i:EL} {b k:Tr} (hL:Iv L) (n:Nat) (st:Nat→List AV) (J:Nat→Prop) (hJ:J 0) (h0:i.den ρ=st 0) (hb: ∀q,q≤n→J q→ ∀W:JK,(q<n→J (q+1)→W (st (q+1)))→b.den Rt R L (W::(fun us=>k.den Rt R L js (ρ++us))::js) (ρ++st q)):(Tr.loop i b k).den Rt R L js ρ:=by refine uS hL (fun m vs=> ∃q,q+m=n∧vs=st q∧J q) (m:=n) ⟨0,by omega,h0,hJ⟩ ?_;rintro m vs ⟨q,hq,rfl,hj⟩;exact hb q (by omega) hj _ fun AB YF=>⟨m-1,by omega,q+1,by omega,rfl,YF⟩
end
def Is (cn:Nat):Tr:=
 .c6 [] (.dfd (.len (.var 0)))<|
 .loop (.cons (.int .i64 (0)) .nil) (
  .c6 [] (.dfd (.bin .lss (.var 2) (.len (.var 0))))<|
  .ite (.bin .lss (.var 2) (.len (.var 0))) (
  .c6 [] (.inb (.var 2) (.var 0) cn)<|
  .call [] (.inr (.var 1)) (.cons (.fld (.idx (.var 0) (.var 2)) 0 cn true) .nil)<|
  .ite (.var 3) (
   .ret (.var 2)) (
   .c6 [] (.dfd (.bin .add (.var 2) (.int .i64 (1))))<|
   .jmp 0 (.cons (.bin .add (.var 2) (.int .i64 (1))) .nil))) (
  .jmp 1 .nil)) (
  .ret (.int .i64 (-1)))
def XS:Tr:=
 .c6 [] (.dfd (.len (.var 0)))<|
 .loop (.cons (.int .i64 (0)) .nil) (
  .c6 [] (.dfd (.bin .lss (.var 2) (.len (.var 0))))<|
  .ite (.bin .lss (.var 2) (.len (.var 0))) (
  .c6 [] (.inb (.var 2) (.var 0) 1)<|
  .call [] (.inr (.var 1)) (.cons (.fld (.idx (.var 0) (.var 2)) 0 1 false) .nil)<|
  .ite (.var 3) (
   .ret (.var 2)) (
   .c6 [] (.dfd (.bin .add (.var 2) (.int .i64 (1))))<|
   .jmp 0 (.cons (.bin .add (.var 2) (.int .i64 (1))) .nil))) (
  .jmp 1 .nil)) (
  .ret (.int .i64 (-1)))
def Hf {α:Type} (p:α→Option Bool):List α→Int→Option Int
 | [],_=>some (-1)
 |x::xs,i=>(p x).bind fun b=>if b=true then some i else Hf p xs (i+1)
noncomputable def Es {α:Type} (xs:List α) (p:α→Option Bool):Option Int:=A0 (xs.length≤9223372036854775806) (Hf p xs 0)
noncomputable def CH {α:Type} (xs:List α) (p:α→Option Bool):Option Bool:=(Es xs p).bind fun i=>some (decide (i≥0))
noncomputable def XC {α:Type} (bytes:Nat) (xs:List α):Option (List α):=A0 ((xs.length:Int)*bytes≤140737488355328∧(xs.length:Int)≤140737488355328) (some xs)
theorem oK {α:Type} {p:α→Option Bool} {l:List α} {r:Int} {q:Nat} (hq:q<l.length) (h:Hf p (l.drop q) q=some r): ∃b,p l[q]=some b∧(b=true→r=q)∧(b=false→Hf p (l.drop (q+1)) ((q+1:Nat):Int)=some r):=by
 rw [List.drop_eq_getElem_cons hq]at h;obtain⟨b,hb,h⟩:=Pf h;refine⟨b,hb, ?_, ?_⟩
 ·rintro rfl;simpa using h.symm
 ·rintro rfl;simpa using h
theorem JZ {α:Type} {av:α→AV} {l:List α} {p:α→Option Bool} {cn g:Nat} {caps:List AV} {r:Int} (hs: ∀x,∃cs,av x= .agg cs∧cs.length=cn) (h:Es l p=some r) (hf: ∀x b,p x=some b→CY Tryz.prog Dy (1000000+g) (av x::caps) (.bool b)):Den (Is cn) (.int .i64 r) [.sl (l.map av), .fn g caps]:=by
 obtain⟨hn,h⟩:=HD h;unfold Den Is;refine Gv (by simp) ?_;refine qB mV l.length (fun q=> [.int .i64 q]) (fun q=>Hf p (l.drop q) q=some r) (by simpa using h) (by simp) fun q hq hJ W hW=> ?_;by_cases AB:q<l.length
 ·obtain⟨cs,hc,hl⟩:=hs l[q];obtain⟨b,hb,B8,FI⟩:=oK AB hJ;refine Gv (by simp [CR]) (I2 (t:=true) (by simp [CR,AB]) (fun _=> ?_) (by simp));refine Gv (fun _=>⟨.i64,q,l.length,by simp,by omega,by simp,by omega,by simp [AB,hc,hl]⟩) (oI (r:= .bool b) (fun _=>⟨g,caps,by simp, ?_,by simp⟩) ?_)
  ·have:=hf l[q] b hb;rw [hc]at this;simpa [AB,hc,←hl]using this
  ·cases b with
   |true=>exact I2 (t:=true) (by simp) (fun _=>MG (by simp [B8 rfl])) (by simp)
   |false=>refine I2 (t:=false) (by simp) (by simp) fun _=>Gv (by simp [CR]) (pK ?_);have:=hW AB (FI rfl);simpa [CR,DE (n:=(q:Int)+1) (by omega) (by omega)]using this
 ·have Hk:q=l.length:=by omega
  subst Hk;have hr:r= -1:=by simpa [Hf]using hJ.symm
  refine Gv (by simp [CR]) (I2 (t:=false) (by simp [CR]) (by simp) fun _=>oW ?_);exact MG (by simp [hr])
theorem pP {α:Type} {av:α→AV} {l:List α} {p:α→Option Bool} {g:Nat} {caps:List AV} {r:Int} (hs: ∀x,(av x).cells= [av x]) (h:Es l p=some r) (hf: ∀x b,p x=some b→CY Tryz.prog Dy (1000000+g) (av x::caps) (.bool b)):Den XS (.int .i64 r) [.sl (l.map av), .fn g caps]:=by
 obtain⟨hn,h⟩:=HD h;unfold Den XS;refine Gv (by simp) ?_;refine qB mV l.length (fun q=> [.int .i64 q]) (fun q=>Hf p (l.drop q) q=some r) (by simpa using h) (by simp) fun q hq hJ W hW=> ?_;by_cases AB:q<l.length
 ·obtain⟨b,hb,B8,FI⟩:=oK AB hJ;refine Gv (by simp [CR]) (I2 (t:=true) (by simp [CR,AB]) (fun _=> ?_) (by simp));refine Gv (fun _=>⟨.i64,q,l.length,by simp,by omega,by simp,by omega,by simp [AB,hs]⟩) (oI (r:= .bool b) (fun _=>⟨g,caps,by simp, ?_,by simp⟩) ?_)
  ·have:=hf l[q] b hb;simpa [AB,hs]using this
  ·cases b with
   |true=>exact I2 (t:=true) (by simp) (fun _=>MG (by simp [B8 rfl])) (by simp)
   |false=>refine I2 (t:=false) (by simp) (by simp) fun _=>Gv (by simp [CR]) (pK ?_);have:=hW AB (FI rfl);simpa [CR,DE (n:=(q:Int)+1) (by omega) (by omega)]using this
 ·have Hk:q=l.length:=by omega
  subst Hk;have hr:r= -1:=by simpa [Hf]using hJ.symm
  refine Gv (by simp [CR]) (I2 (t:=false) (by simp [CR]) (by simp) fun _=>oW ?_);exact MG (by simp [hr])
def Hz (f:Nat):Tr:=
 .call [] (.inl f) (.cons (.var 0) (.cons (.var 1) .nil))<|
 .c6 [] (.dfd (.bin .geq (.var 2) (.int .i64 (0))))<|
 .ret (.bin .geq (.var 2) (.int .i64 (0)))
theorem I3 {α:Type} {l:List α} {p:α→Option Bool} {f:Nat} {x y:AV} {r:Bool} (h:CH l p=some r) (hf: ∀i,Es l p=some i→CY Tryz.prog Dy f [x,y] (.int .i64 i)):Den (Hz f) (.bool r) [x,y]:=by obtain⟨i,hi,h⟩:=Pf h;unfold Den Hz;refine vY (fun _=>by simpa using hf i hi) (Gv (by simp [CR]) (MG ?_));simp only [Ab]at h;simp [CR,←h]
def XV (bytes sz:Nat):Tr:=
 .c6 [] (.dfd (.len (.var 0)))<|
 .cq [] (.var 0)<|
 .ite (.var 1) (
  .ret (.lst .nil)) (
  .c6 [] (.room (.lst .nil) (.var 0) bytes)<|
  .c6 [] (.flatS (.var 0) sz)<|
  .ret (.app (.lst .nil) (.var 0)))
theorem nV {α:Type} {av:α→AV} {xs r:List α} {bytes sz:Nat} (hs: ∀x,(av x).cells.length=sz∧ ∀z∈(av x).cells,z.scalar=true) (h:XC bytes xs=some r):Den (XV bytes sz) (.sl (r.map av)) [.sl (xs.map av)]:=by
 obtain⟨hq,h⟩:=HD h;cases h;unfold Den XV;refine Gv (by simp) fun b hb=> ?_;cases b with
 |true=>have:=hb (by simp) rfl;exact I2 (t:=true) (by simp) (fun _=>MG (by simpa using this.symm)) (by simp)
 |false=>exact I2 (t:=false) (by simp) (by simp) fun _=>Gv (fun _=>⟨0,xs.length,by simp,by simp,by simpa using hq.1,by simpa using hq.2⟩) (Gv (fun _=>zM (xs:=xs) av (by simp) hs) (MG (by simp)))
end Go.Proofs.YtmbknelgbjlhnaaGreat
end
section
namespace Go.Proofs.YtmbknelgbjlhnaaGreat
open Go.ChangeShapes Go.WideShapes Go.ChangeAt Go.RowKit
theorem w7 {P:Program} {w:World}:CT P w [] [] [] [] [] [] [] []:= .nil
theorem zzh {P:Program} {w:World} {t:TypeId} {ts:List TypeId} {v:Value} {vs:List Value} {x:AV} {xs:List AV} {f rf:List Nat} (h:Rd w [v] [x] f) (k:CT P w ts [] [] vs xs rf [] []):CT P w (t::ts) [] [] (v::vs) (x::xs) (f++rf) [] []:=
 CT.cons (h:= []) (hs:= []) (ms:= []) (lo:= []) ⟨h,rfl⟩ k
theorem xF {P:Program} {sg:BB} {f:Nat} {fn:Func} {t:TypeId} {xs:List AV} (h:CY P sg f xs (.bool true)) (hf:f<1000000) {s:F7} (hs:sg f=some s) (FM:s.ft= []) (Jz: ∀m∈s.dc,m= .ro) (Fq:Ha P t s.res=false) (GK:P.funcs[f]?=some fn) (hr:fn.resultTypes.toList= [t])
  {w:World} {vs:List Value} {rf:List Nat} (ha:CT P w fn.params.toList [] [] vs xs rf [] []) (Eb:JH.n≤w.heap.size∧JH.K w):
  Calls P f vs.toArray w fun e w'=>e= .returned (.bool true)∧Below w.heap.size w w':=by
 unfold CY at h;rw [if_pos hf]at h;obtain⟨s',AY,fn',HR,_,_,_,_,_,hc⟩:=h;rw [hs]at AY;obtain rfl:=Option.some.inj AY;rw [GK]at HR;obtain rfl:=Option.some.inj HR;refine(hc w vs rf [] [] (by rw [FM,List.append_nil];exact ha.jc _ _ Jz) (by simp) (by simp) (by simp) ⟨Eb.1,Eb.2,by simp⟩).mono fun e w' ⟨v,he,hp⟩=> ?_;obtain⟨⟨R,bs,f1,o1,f2,o2,hR,AO,_⟩,hm⟩:=hp;have rK:R= .bool true:=by
  cases bs with
  |nil=>exact hR.symm
  |cons=>cases hR
 subst rK;rw [hr]at AO;have h2:Fm P w' t s.res v (.bool true) f1 o1:=AO;unfold Fm at h2;rw [Fq]at h2;obtain⟨h3,_⟩:=h2;have:v= .bool true:=by cases h3;rfl
 subst this;exact⟨he,hm.below⟩
section
variable {P:Program} {t:TypeId} {Q:List AV→Prop} {H:Type} {enc:TypeId × Value→H} {w:World} {spare:Nat→Bool} {held:Bool} {v:Value} {d:DataW H} {p:List MemPlace} {r:Reach} {base:Nat}
theorem zxT {fs:Array Field} (hO:Bo P t Q) (ht:P.underlying t=some (.struct fs)) (hv:Value.okWide P w r base t v) (h:DataW.Trod enc P w 0 spare held t v d p): ∃xs f,Rd w [v] [.agg xs] f∧Q xs:=by obtain⟨n,h⟩:=h;obtain⟨cs,rfl,_⟩:=okWide_struct ht hv;obtain⟨_,h1,xs,f,hr,hq⟩:=hO.2 _ _ _ _ _ _ _ _ h;refine⟨xs,f++ [], ?_,hq⟩;have:=Rd.agg (w:=w) h1 hr .nil;simpa [Value.cells]using this
end
theorem zEo {a b:Bool} (ha:a=true) (hb:b=true):(a&&b)=true:=by rw [ha,hb];rfl
def Cw (n:Int):Prop:= -9223372036854775808≤n∧n≤9223372036854775807
def okB (_:Bool):Prop:=True
def EJ (s:List UInt8):Prop:=s.length≤9223372036854775807
def Bi {α:Type} (ok:α→Prop) (l:List α):Prop:=l.length≤9223372036854775807∧ ∀x∈l,ok x
theorem zEZ {n:Int} (h:Ei .i64 n):Cw n:=by unfold Ei at h;rw [IntKind.wrap_i64]at h;unfold Cw;omega
section
variable {P:Program} {t e:TypeId} {α:Type} {ok:α→Prop} {av:α→AV}
theorem zE4 (ht:P.underlying t=some (.int .i64)) (hc:P.cellsOf t=1):Bo P t fun xs=> ∃n,Cw n∧xs= [MT n]:=
 (yD ht hc).mono fun _ ⟨n,h,e⟩=>⟨n,zEZ h,e⟩
theorem uC (ht:P.underlying t=some .bool) (hc:P.cellsOf t=1):Bo P t fun xs=> ∃b,okB b∧xs= [gS b]:=
 (u4 ht hc).mono fun _ ⟨b,e⟩=>⟨b,trivial,e⟩
theorem zFa (ht:P.underlying t=some .string) (hc:P.cellsOf t=1):Bo P t fun xs=> ∃s,EJ s∧xs= [EG s]:=
 (zxP ht hc).mono fun _ ⟨s,h,e⟩=>⟨s,h,e⟩
theorem pQ: ∀{ys:List AV},(∀y∈ys,Hh true (fun xs=> ∃c,ok c∧ .agg xs=av c) y)→ ∃l:List α,(∀c∈l,ok c)∧ys=l.map av
 | [],_=>⟨[],by simp,rfl⟩
 |y::ys,h=>by obtain⟨l,hl,rfl⟩:=pQ fun z hz=>h z (List.mem_cons_of_mem _ hz);have h0:=h y (List.mem_cons_self ..);simp only [Hh,if_true]at h0;obtain⟨zs,rfl,c,hk,hc⟩:=h0;exact⟨c::l,by simpa using⟨hk,hl⟩,by simp [hc]⟩
theorem pS: ∀{ys:List AV},(∀y∈ys,Hh false (fun xs=> ∃c,ok c∧xs= [av c]) y)→ ∃l:List α,(∀c∈l,ok c)∧ys=l.map av
 | [],_=>⟨[],by simp,rfl⟩
 |y::ys,h=>by obtain⟨l,hl,rfl⟩:=pS fun z hz=>h z (List.mem_cons_of_mem _ hz);have h0:=h y (List.mem_cons_self ..);simp only [Hh,Bu,if_false]at h0;obtain⟨_,c,hk,hc⟩:=h0;exact⟨c::l,by simpa using⟨hk,hl⟩,by simp at hc;simp [hc]⟩
theorem Hb (ht:P.underlying t=some (.slice e)) (hc:P.cellsOf t=1) (he:Bo P e fun xs=> ∃c,ok c∧ .agg xs=av c):Bo P t fun xs=> ∃l:List α,Bi ok l∧xs= [.sl (l.map av)]:=
 (oE true ht hc he (.inl rfl)).mono fun _ ⟨ys,hl,hy,e⟩=>by obtain⟨l,hk,rfl⟩:=pQ hy;exact⟨l,⟨by simpa using hl,hk⟩,e⟩
theorem ZO (ht:P.underlying t=some (.slice e)) (hc:P.cellsOf t=1) (Ko:P.cellsOf e=1) (he:Bo P e fun xs=> ∃c,ok c∧xs= [av c]):Bo P t fun xs=> ∃l:List α,Bi ok l∧xs= [.sl (l.map av)]:=
 (oE false ht hc he (.inr Ko)).mono fun _ ⟨ys,hl,hy,e⟩=>by obtain⟨l,hk,rfl⟩:=pS hy;exact⟨l,⟨by simpa using hl,hk⟩,e⟩
end
end Go.Proofs.YtmbknelgbjlhnaaGreat
end
section
namespace Go.Proofs.YtmbknelgbjlhnaaGreat
open Go.RowKit
set_option maxRecDepth 100000
structure AI where
 ab:List UInt8
 cw:Int
 ao:Int
@[simp] def TX (x:AI):AV:= .agg [.str x.ab, .int .i64 x.cw, .int .i64 x.ao]
structure Ai where
 ab:List UInt8
 ak:List (List UInt8)
 ae:List AI
@[simp] def XH (x:Ai):AV:= .agg [.str x.ab, .sl (x.ak.map EG), .sl (x.ae.map TX)]
structure BI where
 al:List (List UInt8)
@[simp] def kK (x:BI):AV:= .agg [.sl (x.al.map EG)]
structure BC where
 af:Int
 ca:BI
 cm:BI
@[simp] def qA (x:BC):AV:= .agg [.int .i64 x.af, .sl (x.ca.al.map EG), .sl (x.cm.al.map EG)]
structure Cj where
 eu:Int
 fw:Bool
 c9:BC
 ee:BI
@[simp] def Xa (x:Cj):AV:= .agg [.int .i64 x.eu, .bool x.fw, .int .i64 x.c9.af, .sl (x.c9.ca.al.map EG), .sl (x.c9.cm.al.map EG), .sl (x.ee.al.map EG)]
structure CL where
 ff:Int
@[simp] def SP (x:CL):AV:= .agg [.int .i64 x.ff]
structure A7 where
 aj:List UInt8
 bd:List UInt8
 dh:Bool
@[simp] def Sv (x:A7):AV:= .agg [.str x.aj, .str x.bd, .bool x.dh]
structure Dz where
 af:Int
 ct:Int
 bq:Int
 bf:Int
 bg:List (List UInt8)
 ay:List A7
 dn:Bool
@[simp] def kF (x:Dz):AV:= .agg [.int .i64 x.af, .int .i64 x.ct, .int .i64 x.bq, .int .i64 x.bf, .sl (x.bg.map EG), .sl (x.ay.map Sv), .bool x.dn]
structure BT where
 bc:Int
 db:Dz
@[simp] def XK (x:BT):AV:= .agg [.int .i64 x.bc, .int .i64 x.db.af, .int .i64 x.db.ct, .int .i64 x.db.bq, .int .i64 x.db.bf, .sl (x.db.bg.map EG), .sl (x.db.ay.map Sv), .bool x.db.dn]
structure Ci where
 j5:Bool
 cj:List BT
 fh:Int
@[simp] def W9 (x:Ci):AV:= .agg [.bool x.j5, .sl (x.cj.map XK), .int .i64 x.fh]
structure BH where
 au:List Ci
 bc:Int
 bf:Int
@[simp] def SW (x:BH):AV:= .agg [.sl (x.au.map W9), .int .i64 x.bc, .int .i64 x.bf]
structure AU where
 aj:List UInt8
 ct:Int
 dk:Bool
@[simp] def XN (x:AU):AV:= .agg [.str x.aj, .int .i64 x.ct, .bool x.dk]
structure Ar where
 af:Int
 aj:List UInt8
 bd:List UInt8
 gg:Int
@[simp] def T9 (x:Ar):AV:= .agg [.int .i64 x.af, .str x.aj, .str x.bd, .int .i64 x.gg]
structure BA where
 aj:List UInt8
 bd:List UInt8
 di:Bool
@[simp] def Te (x:BA):AV:= .agg [.str x.aj, .str x.bd, .bool x.di]
structure B7 where
 dq:List Ar
 bp:List BA
 cb:List Int
 cu:Int
 ej:Int
 dn:Bool
 bq:Int
 ia:Bool
 jh:Bool
 ew:Bool
@[simp] def R9 (x:B7):AV:= .agg [.sl (x.dq.map T9), .sl (x.bp.map Te), .sl (x.cb.map MT), .int .i64 x.cu, .int .i64 x.ej, .bool x.dn, .int .i64 x.bq, .bool x.ia, .bool x.jh, .bool x.ew]
structure BK where
 dw:Int
 bm:List (List UInt8)
 bp:List BA
 bq:Int
 cu:Int
 ej:Int
@[simp] def R0 (x:BK):AV:= .agg [.int .i64 x.dw, .sl (x.bm.map EG), .sl (x.bp.map Te), .int .i64 x.bq, .int .i64 x.cu, .int .i64 x.ej]
@[simp] def gF (x:List AU):AV:= .sl (x.map XN)
structure By where
 gi:Int
 bz:Int
 ax:List CL
 a7:List (List UInt8)
 aw:List BH
 bu:List (List AU)
 a8:List Int
 bj:List B7
 bh:List BK
@[simp] def jH (x:By):AV:= .agg [.int .i64 x.gi, .int .i64 x.bz, .sl (x.ax.map SP), .sl (x.a7.map EG), .sl (x.aw.map SW), .sl (x.bu.map gF), .sl (x.a8.map MT), .sl (x.bj.map R9), .sl (x.bh.map R0)]
structure Cz where
 ab:List UInt8
 ch:List Ai
 ga:Int
 a6:List Int
 bw:List Cj
 aq:By
@[simp] def gJ (x:Cz):AV:= .agg [.str x.ab, .sl (x.ch.map XH), .int .i64 x.ga, .sl (x.a6.map MT), .sl (x.bw.map Xa), .int .i64 x.aq.gi, .int .i64 x.aq.bz, .sl (x.aq.ax.map SP), .sl (x.aq.a7.map EG), .sl (x.aq.aw.map SW), .sl (x.aq.bu.map gF), .sl (x.aq.a8.map MT), .sl (x.aq.bj.map R9), .sl (x.aq.bh.map R0)]
end Go.Proofs.YtmbknelgbjlhnaaGreat
end
section
namespace Go.Proofs.YtmbknelgbjlhnaaGreat
open Go.ChangeShapes Go.WideShapes Go.ChangeAt Go.RowKit
set_option maxRecDepth 100000
theorem Ib:Bo Tryz.prog 9 fun xs=> ∃s,EJ s∧xs= [EG s]:=zFa Tryz.underlying9 (by kernel_rfl)
theorem Qx:Bo Tryz.prog 26 fun xs=> ∃l:List (List UInt8),Bi EJ l∧xs= [.sl (l.map EG)]:=ZO Tryz.underlying26 (by kernel_rfl) (by kernel_rfl) Ib
theorem Dc:Bo Tryz.prog 3 fun xs=> ∃n,Cw n∧xs= [MT n]:=zE4 Tryz.underlying3 (by kernel_rfl)
def Th (x:AI):Prop:=EJ x.ab∧Cw x.cw∧Cw x.ao
theorem uA:Bo Tryz.prog 221 fun xs=> ∃x:AI,Th x∧ .agg xs=TX x:=
 (EN Tryz.underlying221 (by decide+kernel) (by kernel_rfl) (.cons Ib (.cons Dc (.cons Dc .nil)))).mono fun _ ⟨_,_,e0,⟨x0,k0,h0⟩,_,_,e1,⟨x1,k1,h1⟩,_,_,e2,⟨x2,k2,h2⟩,hz⟩=>by subst h2 hz e2 h1 e1 h0 e0;exact⟨⟨x0,x1,x2⟩,⟨k0,k1,k2⟩,by simp⟩
theorem tZ:Bo Tryz.prog 87 fun xs=> ∃l:List AI,Bi Th l∧xs= [.sl (l.map TX)]:=Hb Tryz.underlying87 (by kernel_rfl) uA
def SO (x:Ai):Prop:=EJ x.ab∧(Bi EJ) x.ak∧(Bi Th) x.ae
theorem tY:Bo Tryz.prog 89 fun xs=> ∃x:Ai,SO x∧ .agg xs=XH x:=
 (EN Tryz.underlying89 (by decide+kernel) (by kernel_rfl) (.cons Ib (.cons Qx (.cons tZ .nil)))).mono fun _ ⟨_,_,e0,⟨x0,k0,h0⟩,_,_,e1,⟨x1,k1,h1⟩,_,_,e2,⟨x2,k2,h2⟩,hz⟩=>by subst h2 hz e2 h1 e1 h0 e0;exact⟨⟨x0,x1,x2⟩,⟨k0,k1,k2⟩,by simp⟩
theorem tX:Bo Tryz.prog 22 fun xs=> ∃l:List Ai,Bi SO l∧xs= [.sl (l.map XH)]:=Hb Tryz.underlying22 (by kernel_rfl) tY
theorem Zx:Bo Tryz.prog 23 fun xs=> ∃l:List Int,Bi Cw l∧xs= [.sl (l.map MT)]:=ZO Tryz.underlying23 (by kernel_rfl) (by kernel_rfl) Dc
theorem II:Bo Tryz.prog 4 fun xs=> ∃b,okB b∧xs= [gS b]:=uC Tryz.underlying4 (by kernel_rfl)
def S8 (x:BI):Prop:=(Bi EJ) x.al
theorem ZU:Bo Tryz.prog 91 fun xs=> ∃x:BI,S8 x∧ .agg xs=kK x:=
 (EN Tryz.underlying91 (by decide+kernel) (by kernel_rfl) (.cons Qx .nil)).mono fun _ ⟨_,_,e0,⟨x0,k0,h0⟩,hz⟩=>by subst h0 hz e0;exact⟨⟨x0⟩,k0,by simp⟩
def eW (x:BC):Prop:=Cw x.af∧S8 x.ca∧S8 x.cm
theorem zFn:Bo Tryz.prog 93 fun xs=> ∃x:BC,eW x∧ .agg xs=qA x:=
 (EN Tryz.underlying93 (by decide+kernel) (by kernel_rfl) (.cons Dc (.cons ZU (.cons ZU .nil)))).mono fun _ ⟨_,_,e0,⟨x0,k0,h0⟩,_,_,e1,⟨x1,k1,h1⟩,_,_,e2,⟨x2,k2,h2⟩,hz⟩=>by have g2:=AV.agg.inj h2;have g1:=AV.agg.inj h1;subst g2 hz e2 g1 e1 h0 e0;exact⟨⟨x0,x1,x2⟩,⟨k0,k1,k2⟩,by simp⟩
def Sg (x:Cj):Prop:=Cw x.eu∧okB x.fw∧eW x.c9∧S8 x.ee
theorem zFx:Bo Tryz.prog 95 fun xs=> ∃x:Cj,Sg x∧ .agg xs=Xa x:=
 (EN Tryz.underlying95 (by decide+kernel) (by kernel_rfl) (.cons Dc (.cons II (.cons zFn (.cons ZU .nil))))).mono fun _ ⟨_,_,e0,⟨x0,k0,h0⟩,_,_,e1,⟨x1,k1,h1⟩,_,_,e2,⟨x2,k2,h2⟩,_,_,e3,⟨x3,k3,h3⟩,hz⟩=>by have g3:=AV.agg.inj h3;have g2:=AV.agg.inj h2;subst g3 hz e3 g2 e2 h1 e1 h0 e0;exact⟨⟨x0,x1,x2,x3⟩,⟨k0,k1,k2,k3⟩,by simp⟩
theorem uB:Bo Tryz.prog 24 fun xs=> ∃l:List Cj,Bi Sg l∧xs= [.sl (l.map Xa)]:=Hb Tryz.underlying24 (by kernel_rfl) zFx
def XD (x:CL):Prop:=Cw x.ff
theorem zFt:Bo Tryz.prog 178 fun xs=> ∃x:CL,XD x∧ .agg xs=SP x:=
 (EN Tryz.underlying178 (by decide+kernel) (by kernel_rfl) (.cons Dc .nil)).mono fun _ ⟨_,_,e0,⟨x0,k0,h0⟩,hz⟩=>by subst h0 hz e0;exact⟨⟨x0⟩,k0,by simp⟩
theorem zFu:Bo Tryz.prog 25 fun xs=> ∃l:List CL,Bi XD l∧xs= [.sl (l.map SP)]:=Hb Tryz.underlying25 (by kernel_rfl) zFt
def SC (x:A7):Prop:=EJ x.aj∧EJ x.bd∧okB x.dh
theorem zFE:Bo Tryz.prog 327 fun xs=> ∃x:A7,SC x∧ .agg xs=Sv x:=
 (EN Tryz.underlying327 (by decide+kernel) (by kernel_rfl) (.cons Ib (.cons Ib (.cons II .nil)))).mono fun _ ⟨_,_,e0,⟨x0,k0,h0⟩,_,_,e1,⟨x1,k1,h1⟩,_,_,e2,⟨x2,k2,h2⟩,hz⟩=>by subst h2 hz e2 h1 e1 h0 e0;exact⟨⟨x0,x1,x2⟩,⟨k0,k1,k2⟩,by simp⟩
theorem zFs:Bo Tryz.prog 308 fun xs=> ∃l:List A7,Bi SC l∧xs= [.sl (l.map Sv)]:=Hb Tryz.underlying308 (by kernel_rfl) zFE
def ZF (x:Dz):Prop:=Cw x.af∧Cw x.ct∧Cw x.bq∧Cw x.bf∧(Bi EJ) x.bg∧(Bi SC) x.ay∧okB x.dn
theorem zFy:Bo Tryz.prog 310 fun xs=> ∃x:Dz,ZF x∧ .agg xs=kF x:=
 (EN Tryz.underlying310 (by decide+kernel) (by kernel_rfl) (.cons Dc (.cons Dc (.cons Dc (.cons Dc (.cons Qx (.cons zFs (.cons II .nil)))))))).mono fun _ ⟨_,_,e0,⟨x0,k0,h0⟩,_,_,e1,⟨x1,k1,h1⟩,_,_,e2,⟨x2,k2,h2⟩,_,_,e3,⟨x3,k3,h3⟩,_,_,e4,⟨x4,k4,h4⟩,_,_,e5,⟨x5,k5,h5⟩,_,_,e6,⟨x6,k6,h6⟩,hz⟩=>by subst h6 hz e6 h5 e5 h4 e4 h3 e3 h2 e2 h1 e1 h0 e0;exact⟨⟨x0,x1,x2,x3,x4,x5,x6⟩,⟨k0,k1,k2,k3,k4,k5,k6⟩,by simp⟩
def SI (x:BT):Prop:=Cw x.bc∧ZF x.db
theorem zFD:Bo Tryz.prog 312 fun xs=> ∃x:BT,SI x∧ .agg xs=XK x:=
 (EN Tryz.underlying312 (by decide+kernel) (by kernel_rfl) (.cons Dc (.cons zFy .nil))).mono fun _ ⟨_,_,e0,⟨x0,k0,h0⟩,_,_,e1,⟨x1,k1,h1⟩,hz⟩=>by have g1:=AV.agg.inj h1;subst g1 hz e1 h0 e0;exact⟨⟨x0,x1⟩,⟨k0,k1⟩,by simp⟩
theorem zFF:Bo Tryz.prog 265 fun xs=> ∃l:List BT,Bi SI l∧xs= [.sl (l.map XK)]:=Hb Tryz.underlying265 (by kernel_rfl) zFD
def Si (x:Ci):Prop:=okB x.j5∧(Bi SI) x.cj∧Cw x.fh
theorem zFK:Bo Tryz.prog 267 fun xs=> ∃x:Ci,Si x∧ .agg xs=W9 x:=
 (EN Tryz.underlying267 (by decide+kernel) (by kernel_rfl) (.cons II (.cons zFF (.cons Dc .nil)))).mono fun _ ⟨_,_,e0,⟨x0,k0,h0⟩,_,_,e1,⟨x1,k1,h1⟩,_,_,e2,⟨x2,k2,h2⟩,hz⟩=>by subst h2 hz e2 h1 e1 h0 e0;exact⟨⟨x0,x1,x2⟩,⟨k0,k1,k2⟩,by simp⟩
theorem zFB:Bo Tryz.prog 152 fun xs=> ∃l:List Ci,Bi Si l∧xs= [.sl (l.map W9)]:=Hb Tryz.underlying152 (by kernel_rfl) zFK
def SB (x:BH):Prop:=(Bi Si) x.au∧Cw x.bc∧Cw x.bf
theorem zFA:Bo Tryz.prog 154 fun xs=> ∃x:BH,SB x∧ .agg xs=SW x:=
 (EN Tryz.underlying154 (by decide+kernel) (by kernel_rfl) (.cons zFB (.cons Dc (.cons Dc .nil)))).mono fun _ ⟨_,_,e0,⟨x0,k0,h0⟩,_,_,e1,⟨x1,k1,h1⟩,_,_,e2,⟨x2,k2,h2⟩,hz⟩=>by subst h2 hz e2 h1 e1 h0 e0;exact⟨⟨x0,x1,x2⟩,⟨k0,k1,k2⟩,by simp⟩
theorem zFw:Bo Tryz.prog 27 fun xs=> ∃l:List BH,Bi SB l∧xs= [.sl (l.map SW)]:=Hb Tryz.underlying27 (by kernel_rfl) zFA
def MM (x:AU):Prop:=EJ x.aj∧Cw x.ct∧okB x.dk
theorem zFo:Bo Tryz.prog 224 fun xs=> ∃x:AU,MM x∧ .agg xs=XN x:=
 (EN Tryz.underlying224 (by decide+kernel) (by kernel_rfl) (.cons Ib (.cons Dc (.cons II .nil)))).mono fun _ ⟨_,_,e0,⟨x0,k0,h0⟩,_,_,e1,⟨x1,k1,h1⟩,_,_,e2,⟨x2,k2,h2⟩,hz⟩=>by subst h2 hz e2 h1 e1 h0 e0;exact⟨⟨x0,x1,x2⟩,⟨k0,k1,k2⟩,by simp⟩
theorem zFC:Bo Tryz.prog 156 fun xs=> ∃l:List AU,Bi MM l∧xs= [.sl (l.map XN)]:=Hb Tryz.underlying156 (by kernel_rfl) zFo
theorem zFz:Bo Tryz.prog 28 fun xs=> ∃l:List (List AU),Bi (Bi MM) l∧xs= [.sl (l.map gF)]:=ZO Tryz.underlying28 (by kernel_rfl) (by kernel_rfl) zFC
def QE (x:Ar):Prop:=Cw x.af∧EJ x.aj∧EJ x.bd∧Cw x.gg
theorem zFr:Bo Tryz.prog 269 fun xs=> ∃x:Ar,QE x∧ .agg xs=T9 x:=
 (EN Tryz.underlying269 (by decide+kernel) (by kernel_rfl) (.cons Dc (.cons Ib (.cons Ib (.cons Dc .nil))))).mono fun _ ⟨_,_,e0,⟨x0,k0,h0⟩,_,_,e1,⟨x1,k1,h1⟩,_,_,e2,⟨x2,k2,h2⟩,_,_,e3,⟨x3,k3,h3⟩,hz⟩=>by subst h3 hz e3 h2 e2 h1 e1 h0 e0;exact⟨⟨x0,x1,x2,x3⟩,⟨k0,k1,k2,k3⟩,by simp⟩
theorem zFv:Bo Tryz.prog 158 fun xs=> ∃l:List Ar,Bi QE l∧xs= [.sl (l.map T9)]:=Hb Tryz.underlying158 (by kernel_rfl) zFr
def Pj (x:BA):Prop:=EJ x.aj∧EJ x.bd∧okB x.di
theorem zFM:Bo Tryz.prog 271 fun xs=> ∃x:BA,Pj x∧ .agg xs=Te x:=
 (EN Tryz.underlying271 (by decide+kernel) (by kernel_rfl) (.cons Ib (.cons Ib (.cons II .nil)))).mono fun _ ⟨_,_,e0,⟨x0,k0,h0⟩,_,_,e1,⟨x1,k1,h1⟩,_,_,e2,⟨x2,k2,h2⟩,hz⟩=>by subst h2 hz e2 h1 e1 h0 e0;exact⟨⟨x0,x1,x2⟩,⟨k0,k1,k2⟩,by simp⟩
theorem kR:Bo Tryz.prog 159 fun xs=> ∃l:List BA,Bi Pj l∧xs= [.sl (l.map Te)]:=Hb Tryz.underlying159 (by kernel_rfl) zFM
def R4 (x:B7):Prop:=(Bi QE) x.dq∧(Bi Pj) x.bp∧(Bi Cw) x.cb∧Cw x.cu∧Cw x.ej∧okB x.dn∧Cw x.bq∧okB x.ia∧okB x.jh∧okB x.ew
theorem zFH:Bo Tryz.prog 161 fun xs=> ∃x:B7,R4 x∧ .agg xs=R9 x:=
 (EN Tryz.underlying161 (by decide+kernel) (by kernel_rfl) (.cons zFv (.cons kR (.cons Zx (.cons Dc (.cons Dc (.cons II (.cons Dc (.cons II (.cons II (.cons II .nil))))))))))).mono fun _ ⟨_,_,e0,⟨x0,k0,h0⟩,_,_,e1,⟨x1,k1,h1⟩,_,_,e2,⟨x2,k2,h2⟩,_,_,e3,⟨x3,k3,h3⟩,_,_,e4,⟨x4,k4,h4⟩,_,_,e5,⟨x5,k5,h5⟩,_,_,e6,⟨x6,k6,h6⟩,_,_,e7,⟨x7,k7,h7⟩,_,_,e8,⟨x8,k8,h8⟩,_,_,e9,⟨x9,k9,h9⟩,hz⟩=>by subst h9 hz e9 h8 e8 h7 e7 h6 e6 h5 e5 h4 e4 h3 e3 h2 e2 h1 e1 h0 e0;exact⟨⟨x0,x1,x2,x3,x4,x5,x6,x7,x8,x9⟩,⟨k0,k1,k2,k3,k4,k5,k6,k7,k8,k9⟩,by simp⟩
theorem zFL:Bo Tryz.prog 29 fun xs=> ∃l:List B7,Bi R4 l∧xs= [.sl (l.map R9)]:=Hb Tryz.underlying29 (by kernel_rfl) zFH
def R1 (x:BK):Prop:=Cw x.dw∧(Bi EJ) x.bm∧(Bi Pj) x.bp∧Cw x.bq∧Cw x.cu∧Cw x.ej
theorem zFq:Bo Tryz.prog 164 fun xs=> ∃x:BK,R1 x∧ .agg xs=R0 x:=
 (EN Tryz.underlying164 (by decide+kernel) (by kernel_rfl) (.cons Dc (.cons Qx (.cons kR (.cons Dc (.cons Dc (.cons Dc .nil))))))).mono fun _ ⟨_,_,e0,⟨x0,k0,h0⟩,_,_,e1,⟨x1,k1,h1⟩,_,_,e2,⟨x2,k2,h2⟩,_,_,e3,⟨x3,k3,h3⟩,_,_,e4,⟨x4,k4,h4⟩,_,_,e5,⟨x5,k5,h5⟩,hz⟩=>by subst h5 hz e5 h4 e4 h3 e3 h2 e2 h1 e1 h0 e0;exact⟨⟨x0,x1,x2,x3,x4,x5⟩,⟨k0,k1,k2,k3,k4,k5⟩,by simp⟩
theorem zFJ:Bo Tryz.prog 30 fun xs=> ∃l:List BK,Bi R1 l∧xs= [.sl (l.map R0)]:=Hb Tryz.underlying30 (by kernel_rfl) zFq
def gC (x:By):Prop:=Cw x.gi∧Cw x.bz∧(Bi XD) x.ax∧(Bi EJ) x.a7∧(Bi SB) x.aw∧(Bi (Bi MM)) x.bu∧(Bi Cw) x.a8∧(Bi R4) x.bj∧(Bi R1) x.bh
theorem zFp:Bo Tryz.prog 32 fun xs=> ∃x:By,gC x∧ .agg xs=jH x:=
 (EN Tryz.underlying32 (by decide+kernel) (by kernel_rfl) (.cons Dc (.cons Dc (.cons zFu (.cons Qx (.cons zFw (.cons zFz (.cons Zx (.cons zFL (.cons zFJ .nil)))))))))).mono fun _ ⟨_,_,e0,⟨x0,k0,h0⟩,_,_,e1,⟨x1,k1,h1⟩,_,_,e2,⟨x2,k2,h2⟩,_,_,e3,⟨x3,k3,h3⟩,_,_,e4,⟨x4,k4,h4⟩,_,_,e5,⟨x5,k5,h5⟩,_,_,e6,⟨x6,k6,h6⟩,_,_,e7,⟨x7,k7,h7⟩,_,_,e8,⟨x8,k8,h8⟩,hz⟩=>by subst h8 hz e8 h7 e7 h6 e6 h5 e5 h4 e4 h3 e3 h2 e2 h1 e1 h0 e0;exact⟨⟨x0,x1,x2,x3,x4,x5,x6,x7,x8⟩,⟨k0,k1,k2,k3,k4,k5,k6,k7,k8⟩,by simp⟩
def gN (x:Cz):Prop:=EJ x.ab∧(Bi SO) x.ch∧Cw x.ga∧(Bi Cw) x.a6∧(Bi Sg) x.bw∧gC x.aq
theorem tW:Bo Tryz.prog 34 fun xs=> ∃x:Cz,gN x∧ .agg xs=gJ x:=
 (EN Tryz.underlying34 (by decide+kernel) (by kernel_rfl) (.cons Ib (.cons tX (.cons Dc (.cons Zx (.cons uB (.cons zFp .nil))))))).mono fun _ ⟨_,_,e0,⟨x0,k0,h0⟩,_,_,e1,⟨x1,k1,h1⟩,_,_,e2,⟨x2,k2,h2⟩,_,_,e3,⟨x3,k3,h3⟩,_,_,e4,⟨x4,k4,h4⟩,_,_,e5,⟨x5,k5,h5⟩,hz⟩=>by have g5:=AV.agg.inj h5;subst g5 hz e5 h4 e4 h3 e3 h2 e2 h1 e1 h0 e0;exact⟨⟨x0,x1,x2,x3,x4,x5⟩,⟨k0,k1,k2,k3,k4,k5⟩,by simp⟩
end Go.Proofs.YtmbknelgbjlhnaaGreat
end
section
namespace Go.Proofs.YtmbknelgbjlhnaaGreat
open Go.RowKit
set_option maxRecDepth 100000
section
variable {Rt:Nat→List AV→AV→Prop} {R:AV→Prop} {L:LK} {js:List JK} {ρ:List AV}
end
abbrev qZ:Nat→List AV→AV→Prop:=CY Tryz.prog Dy
@[reducible] def Nk:Nat→Type
 |0=>AI
 |1=>Ai
 |2=>BI
 |3=>BC
 |4=>Cj
 |5=>CL
 |6=>A7
 |7=>Dz
 |8=>BT
 |9=>Ci
 |10=>BH
 |11=>AU
 |12=>Ar
 |13=>BA
 |14=>B7
 |15=>BK
 |16=>By
 |17=>Cz
 |_+18=>Unit
@[reducible] def T3:Nat→List Ty
 |0=> [.s, .i .i64, .i .i64]
 |1=> [.s, .l .s, .l (.st 0)]
 |2=> [.l .s]
 |3=> [.i .i64, .l .s, .l .s]
 |4=> [.i .i64, .b, .i .i64, .l .s, .l .s, .l .s]
 |5=> [.i .i64]
 |6=> [.s, .s, .b]
 |7=> [.i .i64, .i .i64, .i .i64, .i .i64, .l .s, .l (.st 6), .b]
 |8=> [.i .i64, .i .i64, .i .i64, .i .i64, .i .i64, .l .s, .l (.st 6), .b]
 |9=> [.b, .l (.st 8), .i .i64]
 |10=> [.l (.st 9), .i .i64, .i .i64]
 |11=> [.s, .i .i64, .b]
 |12=> [.i .i64, .s, .s, .i .i64]
 |13=> [.s, .s, .b]
 |14=> [.l (.st 12), .l (.st 13), .l (.i .i64), .i .i64, .i .i64, .b, .i .i64, .b, .b, .b]
 |15=> [.i .i64, .l .s, .l (.st 13), .i .i64, .i .i64, .i .i64]
 |16=> [.i .i64, .i .i64, .l (.st 5), .l .s, .l (.st 10), .l (.l (.st 11)), .l (.i .i64), .l (.st 14), .l (.st 15)]
 |17=> [.s, .l (.st 1), .i .i64, .l (.i .i64), .l (.st 4), .i .i64, .i .i64, .l (.st 5), .l .s, .l (.st 10), .l (.l (.st 11)), .l (.i .i64), .l (.st 14), .l (.st 15)]
 |_+18=> []
def Zz: ∀n,Nk n→AV
 |0,x=>TX x
 |1,x=>XH x
 |2,x=>kK x
 |3,x=>qA x
 |4,x=>Xa x
 |5,x=>SP x
 |6,x=>Sv x
 |7,x=>kF x
 |8,x=>XK x
 |9,x=>W9 x
 |10,x=>SW x
 |11,x=>XN x
 |12,x=>T9 x
 |13,x=>Te x
 |14,x=>R9 x
 |15,x=>R0 x
 |16,x=>jH x
 |17,x=>gJ x
 |_+18,_=> .agg []
def ZR: ∀n,Nk n→HL Nk (T3 n)
 |0,x=>(x.ab,x.cw,x.ao,())
 |1,x=>(x.ab,x.ak,x.ae,())
 |2,x=>(x.al,())
 |3,x=>(x.af,x.ca.al,x.cm.al,())
 |4,x=>(x.eu,x.fw,x.c9.af,x.c9.ca.al,x.c9.cm.al,x.ee.al,())
 |5,x=>(x.ff,())
 |6,x=>(x.aj,x.bd,x.dh,())
 |7,x=>(x.af,x.ct,x.bq,x.bf,x.bg,x.ay,x.dn,())
 |8,x=>(x.bc,x.db.af,x.db.ct,x.db.bq,x.db.bf,x.db.bg,x.db.ay,x.db.dn,())
 |9,x=>(x.j5,x.cj,x.fh,())
 |10,x=>(x.au,x.bc,x.bf,())
 |11,x=>(x.aj,x.ct,x.dk,())
 |12,x=>(x.af,x.aj,x.bd,x.gg,())
 |13,x=>(x.aj,x.bd,x.di,())
 |14,x=>(x.dq,x.bp,x.cb,x.cu,x.ej,x.dn,x.bq,x.ia,x.jh,x.ew,())
 |15,x=>(x.dw,x.bm,x.bp,x.bq,x.cu,x.ej,())
 |16,x=>(x.gi,x.bz,x.ax,x.a7,x.aw,x.bu,x.a8,x.bj,x.bh,())
 |17,x=>(x.ab,x.ch,x.ga,x.a6,x.bw,x.aq.gi,x.aq.bz,x.aq.ax,x.aq.a7,x.aq.aw,x.aq.bu,x.aq.a8,x.aq.bj,x.aq.bh,())
 |_+18,_=>()
def jD: ∀n,HL Nk (T3 n)→Nk n
 |0,x=>⟨x.1,x.2.1,x.2.2.1⟩
 |1,x=>⟨x.1,x.2.1,x.2.2.1⟩
 |2,x=>⟨x.1⟩
 |3,x=>⟨x.1,⟨x.2.1⟩,⟨x.2.2.1⟩⟩
 |4,x=>⟨x.1,x.2.1,⟨x.2.2.1,⟨x.2.2.2.1⟩,⟨x.2.2.2.2.1⟩⟩,⟨x.2.2.2.2.2.1⟩⟩
 |5,x=>⟨x.1⟩
 |6,x=>⟨x.1,x.2.1,x.2.2.1⟩
 |7,x=>⟨x.1,x.2.1,x.2.2.1,x.2.2.2.1,x.2.2.2.2.1,x.2.2.2.2.2.1,x.2.2.2.2.2.2.1⟩
 |8,x=>⟨x.1,⟨x.2.1,x.2.2.1,x.2.2.2.1,x.2.2.2.2.1,x.2.2.2.2.2.1,x.2.2.2.2.2.2.1,x.2.2.2.2.2.2.2.1⟩⟩
 |9,x=>⟨x.1,x.2.1,x.2.2.1⟩
 |10,x=>⟨x.1,x.2.1,x.2.2.1⟩
 |11,x=>⟨x.1,x.2.1,x.2.2.1⟩
 |12,x=>⟨x.1,x.2.1,x.2.2.1,x.2.2.2.1⟩
 |13,x=>⟨x.1,x.2.1,x.2.2.1⟩
 |14,x=>⟨x.1,x.2.1,x.2.2.1,x.2.2.2.1,x.2.2.2.2.1,x.2.2.2.2.2.1,x.2.2.2.2.2.2.1,x.2.2.2.2.2.2.2.1,x.2.2.2.2.2.2.2.2.1,x.2.2.2.2.2.2.2.2.2.1⟩
 |15,x=>⟨x.1,x.2.1,x.2.2.1,x.2.2.2.1,x.2.2.2.2.1,x.2.2.2.2.2.1⟩
 |16,x=>⟨x.1,x.2.1,x.2.2.1,x.2.2.2.1,x.2.2.2.2.1,x.2.2.2.2.2.1,x.2.2.2.2.2.2.1,x.2.2.2.2.2.2.2.1,x.2.2.2.2.2.2.2.2.1⟩
 |17,x=>⟨x.1,x.2.1,x.2.2.1,x.2.2.2.1,x.2.2.2.2.1,⟨x.2.2.2.2.2.1,x.2.2.2.2.2.2.1,x.2.2.2.2.2.2.2.1,x.2.2.2.2.2.2.2.2.1,x.2.2.2.2.2.2.2.2.2.1,x.2.2.2.2.2.2.2.2.2.2.1,x.2.2.2.2.2.2.2.2.2.2.2.1,x.2.2.2.2.2.2.2.2.2.2.2.2.1,x.2.2.2.2.2.2.2.2.2.2.2.2.2.1⟩⟩
 |_+18,_=>()
theorem zC: ∀n x,Zz n x= .agg (GB Zz (T3 n) (ZR n x))
 |0,_=>rfl
 |1,_=>rfl
 |2,_=>rfl
 |3,_=>rfl
 |4,_=>rfl
 |5,_=>rfl
 |6,_=>rfl
 |7,_=>rfl
 |8,_=>rfl
 |9,_=>rfl
 |10,_=>rfl
 |11,_=>rfl
 |12,_=>rfl
 |13,_=>rfl
 |14,_=>rfl
 |15,_=>rfl
 |16,_=>rfl
 |17,_=>rfl
 |_+18,_=>rfl
theorem yH: ∀n h,ZR n (jD n h)=h
 |0,_=>rfl
 |1,_=>rfl
 |2,_=>rfl
 |3,_=>rfl
 |4,_=>rfl
 |5,_=>rfl
 |6,_=>rfl
 |7,_=>rfl
 |8,_=>rfl
 |9,_=>rfl
 |10,_=>rfl
 |11,_=>rfl
 |12,_=>rfl
 |13,_=>rfl
 |14,_=>rfl
 |15,_=>rfl
 |16,_=>rfl
 |17,_=>rfl
 |_+18,_=>rfl
@[reducible] def Cf:Hi:=⟨qZ,Nk,Zz,T3,ZR,jD,zC,yH⟩
abbrev FS:=FN Cf
noncomputable def ZA (tb:List FS) (hs:List JM) (o:Option Tr) (ps:List PT) (r:RT) (xs:HP Cf.car ps) (hp:Hg Cf ps xs):Option (GC Cf.car r):=match o with
 |some t=>BY tb 100000 (Nb r) t hs (TT ps xs hp) [] []
 |none=>none
theorem zEO {f:Nat} {ps:List PT} {r:RT} {φ:HP Cf.car ps→Option (GC Cf.car r)} (tb:List FS) (hs:List JM) (h: ∀xs hp,ZA tb hs (QC Tryz.prog Dy f) ps r xs hp=φ xs) (hk: ∀xs y,T5 Tryz.prog Dy f (ER Cf ps xs) (Fl Cf r y)=true) (xs:HP Cf.car ps) (y:GC Cf.car r) (hp:Hg Cf ps xs) (e:φ xs=some y):Cf.Rt f (ER Cf ps xs) (Fl Cf r y):=by
 rw [←h xs hp]at e;unfold ZA at e;split at e
 ·rename_i t ht;refine DD ht (hk xs y) ?_;unfold Den;rw [←qX ps xs hp];exact DX tb 100000 (fa:= []) (fun _ h=>nomatch h) (fun _ h=>nomatch h) (fun v hv=>gD r hv) .nil e
 ·cases e
noncomputable def Ah (f:Nat) (ps:List PT) (r:RT) (φ:HP Cf.car ps→Option (GC Cf.car r)) (tb:List FS) (hs:List JM) (h: ∀xs hp,ZA tb hs (QC Tryz.prog Dy f) ps r xs hp=φ xs:=by intro _ _;kernel_rfl) (hk: ∀xs y,T5 Tryz.prog Dy f (ER Cf ps xs) (Fl Cf r y)=true:=by intro _ _;kernel_rfl):FS:=
 ⟨f,ps,r,φ,fun xs y hp e=>zEO tb hs h hk xs y hp e,false,fun h=>by cases h⟩
noncomputable def Hp (d:FS) (h: ∀y,gO d.f (Fl Cf d.r y)=true):FS:=
 ⟨d.f,d.ps,d.r,d.φ,d.ok,true,fun _ xs y hx e=>zyY (d.ok xs y hx e) (h y)⟩
noncomputable def Dx (f:Nat) (ps:List PT) (r:RT) (φ:HP Cf.car ps→Option (GC Cf.car r)) (ok: ∀xs y,Hg Cf ps xs→φ xs=some y→Cf.Rt f (ER Cf ps xs) (Fl Cf r y)):FS:=⟨f,ps,r,φ,ok,false,fun h=>by cases h⟩
end Go.Proofs.YtmbknelgbjlhnaaGreat
end
section
namespace Go.Proofs.YtmbknelgbjlhnaaGreat
open Go.RowKit
theorem CT.rd {P:Program} {w:World} {ts:List TypeId} {ms:List PM} {lo:List Bool} {vs:List Value} {xs:List AV} {rf lf hs:List Nat} (h:CT P w ts ms lo vs xs rf lf hs):lo= []→(∀m∈ms,m= .ro)→Rd w vs xs rf∧hs= []:=by
 induction h with
 |nil=>intro _ _;exact⟨.nil,rfl⟩
 |lent h1 _ _ _ _=>intro BV;subst BV;cases h1
 | @cons t ts ms lo v vs x xs f h rf lf hs AR _ ih=>
  intro BV DO;subst BV;obtain⟨h1,rfl⟩:=ih rfl fun m hm=>DO m (List.mem_of_mem_tail hm);have Jz:ms.headD .ro= .ro:=by
   cases ms with
   |nil=>rfl
   |cons m ms=>exact DO m (by simp)
  rw [Jz]at AR;obtain⟨h2,h3⟩:Rd w [v] [x] f∧h= []:=AR;subst h3;exact⟨by simpa using h2.app h1,rfl⟩
 |free h1 _ ih=>intro BV DO;subst BV;obtain⟨h2,rfl⟩:=ih rfl fun m hm=>DO m (List.mem_of_mem_tail hm);exact⟨by simpa using h1.app h2,rfl⟩
theorem Dk.kt {P:Program} {w:World}: ∀{ts:List TypeId} {ms:List PM} {vs:List Value},vs.length=ts.length→(∀m∈ms,m= .ro)→Dk P w ts ms vs [] [] []
 | [],_,vs,_,_=> .nil
 |t::ts,ms, [],h,_=>by simp at h
 |t::ts,ms,v::vs,h,DO=>by
  refine .ro ?_ (Dk.kt (by simpa using h) fun m hm=>DO m (List.mem_of_mem_tail hm));cases ms with
  |nil=>rfl
  |cons m ms=>exact DO m (by simp)
def ZT (P:Program) (sg:BB) (f np:Nat) (r:AV):Bool:=
 match P.funcs[f]?,sg f with
 |some fn,some s=>fn.body.isSome&& !(fn.name== "runtime.NumGoroutine")&&OS P fn s r&&s.dc.all (fun m=>match m with| .ro=>true|_=>false)&&fn.params.size==np&&fn.nfree==0&&(s.ft.isEmpty&&s.lo.isEmpty)&&(match fn.resultTypes.toList with| [t]=> !Ha P t s.res|_=>false)
 |_,_=>false
theorem uL {f:Nat} {xs:List AV} {r:AV} (hk:ZT Tryz.prog Dy f xs.length r=true) (hc: ∀(w:World) (vs:List Value) (rf:List Nat),JH.K w→Rd w vs xs rf→Calls Tryz.prog f vs.toArray w fun e w'=>Mod [] w w'∧ ∃v f1,e= .returned v∧Rd w' [v] [r] f1∧ ∀b∈f1,b∈rf∨w.heap.size≤b):CY Tryz.prog Dy f xs r:=by
 unfold ZT at hk;split at hk
 ·rename_i fn s hf hs;simp only [Ac,Bool.not_eq_true',beq_iff_eq,A9]at hk;obtain⟨⟨⟨⟨⟨⟨⟨h1,h2⟩,h3⟩,h4⟩,h5⟩,h6⟩,FM⟩,h7⟩:=hk;obtain⟨FM,BV⟩:s.ft= []∧s.lo= []:=by simpa using FM
  have Jz: ∀m∈s.dc,m= .ro:=fun m hm=>by
   have:=h4 m hm;split at this
   ·rfl
   ·cases this
  unfold CY;rw [if_pos (XZ f s hs)];refine⟨s,hs,fn,hf,h1,h2,h3,by omega,by simp [FM],fun w vs rf lf AY Az hd _ BW Eb=> ?_⟩;obtain⟨hr,rfl⟩:=Az.rd BV Jz;refine(hc w vs rf Eb.2.1 hr).mono ?_;rintro e w' ⟨hm,v,f1,rfl,hv,hb⟩;refine⟨v,rfl,⟨⟨r, [],f1, [], [], [],rfl, ?_,Dk.kt ?_ Jz,by simp,by simp,fun b BJ=>⟨by simp, ?_⟩⟩,hm⟩⟩
  ·unfold IH;split at h7
   ·rename_i t ht;rw [ht];show Fm Tryz.prog w' t s.res v r f1 [];unfold Fm;rw [if_neg (by rw [Bool.not_eq_true];simpa using h7)];exact⟨hv,rfl⟩
   ·cases h7
  ·rw [hr.len];simp [FM];omega
  ·rcases hb b (by simpa using BJ)with h|h
   ·exact .inl h
   ·exact .inr (.inr h)
 ·cases hk
theorem qJ {f:Nat} {xs:List AV} {r:AV} (hk:ZT Tryz.prog Dy f xs.length r=true) (hc: ∀(w:World) (vs:List Value) (rf:List Nat),Rd w vs xs rf→Calls Tryz.prog f vs.toArray w fun e w'=>Mod [] w w'∧ ∃v f1,e= .returned v∧Rd w' [v] [r] f1∧ ∀b∈f1,b∈rf∨w.heap.size≤b):CY Tryz.prog Dy f xs r:=
 uL hk fun w vs rf _ hr=>hc w vs rf hr
theorem X1 {w:World} {s:List UInt8} {vs:List Value} {xs:List AV} {f:List Nat} (h:Rd w vs (.str s::xs) f): ∃(b:ByteArray) (us:List Value),vs= .string b::us∧b.data.toList=s∧b.size≤9223372036854775807∧Rd w us xs f:=by
 cases h with
 |str a h=>exact⟨_,_,rfl,rfl,a,h⟩
theorem zE {w:World} {k:IntKind} {n:Int} {vs:List Value} {xs:List AV} {f:List Nat} (h:Rd w vs (.int k n::xs) f): ∃us:List Value,vs= .int k n::us∧Ei k n∧Rd w us xs f:=by
 cases h with
 |int a h=>exact⟨_,rfl,a,h⟩
theorem XE {w:World} {vs:List Value} {f:List Nat} (h:Rd w vs [] f):vs= []∧f= []:=by cases h;exact⟨rfl,rfl⟩
end Go.Proofs.YtmbknelgbjlhnaaGreat
end
section
namespace Go.Proofs
open Go.Shelf
def Tryz.gf:Go.Shelf.Ren:=⟨fun|156=>199|165=>235|166=>236|169=>237|240=>252|241=>253|276=>262|277=>263|n=>n,fun|31=>26|9=>9|3=>3|4=>4|0=>0|20=>20|72=>289|76=>293|70=>286|37=>287|75=>292|127=>305|164=>315|5=>5|80=>295|n=>n,fun|n=>n⟩
theorem Tryz.jb:Go.Proofs.Lays.n156 Tryz.prog Tryz.gf:={
 mixed:=by kernel_rfl
 f156:=Tryz.func199.trans (congrArg some (by kernel_rfl))
 f165:=Tryz.func235.trans (congrArg some (by kernel_rfl))
 f166:=Tryz.func236.trans (congrArg some (by kernel_rfl))
 f169:=Tryz.func237.trans (congrArg some (by kernel_rfl))
 f240:=Tryz.func252.trans (congrArg some (by kernel_rfl))
 f241:=Tryz.func253.trans (congrArg some (by kernel_rfl))
 f276:=Tryz.func262.trans (congrArg some (by kernel_rfl))
 f277:=Tryz.func263.trans (congrArg some (by kernel_rfl))
 t0:=Tryz.underlying0
 a0:=Tryz.isAgg0
 z0:=Tryz.sizeOf0
 v0:=Tryz.zeroValue0
 t3:=Tryz.underlying3
 a3:=Tryz.isAgg3
 z3:=Tryz.sizeOf3
 v3:=Tryz.zeroValue3
 t4:=Tryz.underlying4
 a4:=Tryz.isAgg4
 z4:=Tryz.sizeOf4
 v4:=Tryz.zeroValue4
 t9:=Tryz.underlying9
 a9:=Tryz.isAgg9
 z9:=Tryz.sizeOf9
 v9:=Tryz.zeroValue9
 t20:=Tryz.underlying20
 a20:=Tryz.isAgg20
 z20:=Tryz.sizeOf20
 v20:=Tryz.zeroValue20
 t31:=Tryz.underlying26
 a31:=Tryz.isAgg26
 z31:=Tryz.sizeOf26
 v31:=Tryz.zeroValue26
 t37:=Tryz.underlying287
 a37:=Tryz.isAgg287
 z37:=Tryz.sizeOf287
 v37:=Tryz.zeroValue287
 t70:=Tryz.underlying286
 a70:=Tryz.isAgg286
 z70:=Tryz.sizeOf286
 v70:=Tryz.zeroValue286
 t72:=Tryz.underlying289
 a72:=Tryz.isAgg289
 z72:=Tryz.sizeOf289
 v72:=Tryz.zeroValue289
 t75:=Tryz.underlying292
 a75:=Tryz.isAgg292
 z75:=Tryz.sizeOf292
 v75:=Tryz.zeroValue292
 t76:=Tryz.underlying293
 a76:=Tryz.isAgg293
 z76:=Tryz.sizeOf293
 v76:=Tryz.zeroValue293
 t127:=Tryz.underlying305
 a127:=Tryz.isAgg305
 z127:=Tryz.sizeOf305
 v127:=Tryz.zeroValue305
 t164:=Tryz.underlying315
 a164:=Tryz.isAgg315
 z164:=Tryz.sizeOf315
 v164:=Tryz.zeroValue315}
theorem Tryz.dy:Builder.Extra Tryz.prog Tryz.gf:={
 sizeBuilder:=by kernel_rfl
 liesBuilder:=by kernel_rfl
 t5:=Tryz.underlying5
 a5:=Tryz.isAgg5
 z5:=Tryz.sizeOf5
 v5:=Tryz.zeroValue5
 infoByte:=by kernel_rfl
 cellsByte:=by kernel_rfl
 sizeByte:=by kernel_rfl
 neB5:=by decide}
open Go.RowKit in
theorem Tryz.strings_Join_none (a:Option Addr) (c:Nat) (sep:ByteArray) (w:World):
  Calls Tryz.prog 199 #[.slice a 0 c, .string sep] w fun e w'=>e= .returned (.string ⟨#[]⟩)∧w'=w:=Any.strings_Join_none Tryz.jb Tryz.dy a c sep w
open Go.RowKit in
theorem Tryz.strings_Join (bk o c:Nat) (xs:List ByteArray) (sep:ByteArray) (w:World) (Ly: ∀(j:Nat) x,xs[j]?=some x→w.cell? ⟨bk,o+j,none⟩=some (.string x)) (PB:bk<w.heap.size) (hN:xs.length≤140737488355328) (HM:xs.length≤c) (hlen:(Lib.join (xs.map (·.data.toList)) sep.data.toList).length≤140737488355328):
  Calls Tryz.prog 199 #[.slice (some ⟨bk,o,none⟩) xs.length c, .string sep] w fun e w'=>e= .returned (.string ⟨(Lib.join (xs.map (·.data.toList)) sep.data.toList).toArray⟩)∧Below w.heap.size w w':=Any.strings_Join Tryz.jb Tryz.dy bk o c xs sep w Ly PB hN HM hlen
def Tryz.ky:Go.Shelf.Ren:=⟨fun|137=>234|217=>251|266=>261|n=>n,fun|9=>9|5=>5|3=>3|n=>n,fun|n=>n⟩
def Tryz.ib:Go.Shelf.Ren:=⟨fun|217=>251|266=>261|n=>n,fun|9=>9|5=>5|3=>3|n=>n,fun|n=>n⟩
theorem Tryz.ki:Go.Proofs.Lays.n217 Tryz.prog Tryz.ib:={
 mixed:=by kernel_rfl
 f217:=Tryz.func251.trans (congrArg some (by kernel_rfl))
 f266:=Tryz.func261.trans (congrArg some (by kernel_rfl))
 t3:=Tryz.underlying3
 a3:=Tryz.isAgg3
 z3:=Tryz.sizeOf3
 v3:=Tryz.zeroValue3
 t5:=Tryz.underlying5
 a5:=Tryz.isAgg5
 z5:=Tryz.sizeOf5
 v5:=Tryz.zeroValue5
 t9:=Tryz.underlying9
 a9:=Tryz.isAgg9
 z9:=Tryz.sizeOf9
 v9:=Tryz.zeroValue9}
open Go.RowKit Go.Lib in
theorem Tryz.stringslite_IndexByte (s:ByteArray) (c:Int) (w:World):
  Calls Tryz.prog 251 #[.string s, .int .u8 c] w fun e w'=>e= .returned (.int .i64 (Lib.indexByte s.data.toList c.toNat.toUInt8))∧w'=w:=Any.stringslite_IndexByte Tryz.ki s c w
end Go.Proofs
end
section
namespace Go.Proofs.YtmbknelgbjlhnaaGreat
open Go.RowKit
set_option maxRecDepth 100000
theorem mL: ∀(l:List UInt8) (c:UInt8), -1≤Lib.indexByte l c∧Lib.indexByte l c<l.length∨Lib.indexByte l c= -1
 | [],_=> .inr rfl
 |b::l,c=>by
  unfold Lib.indexByte;rcases mL l c with h|h
  ·split
   ·left;simp
   ·split
    ·exact .inr rfl
    ·left;rw [AL];omega
  ·rw [h];split
   ·left;simp
   ·right;rfl
theorem xI {n:Int} (h1: -9223372036854775808≤n) (h2:n≤9223372036854775807):Ei .i64 n:=DE h1 h2
def Ui (s:List UInt8) (c:Int):Option Int:=some (Lib.indexByte s c.toNat.toUInt8)
theorem zhj (a0:List UInt8) (a1 r:Int) (h:Ui a0 a1=some r):CY Tryz.prog Dy 251 [.str a0, .int .u8 a1] (.int .i64 r):=qJ (by kernel_rfl) fun w vs rf hr=>by
 obtain⟨b,us,rfl,rfl,hb,hr⟩:=X1 hr;obtain⟨us1,rfl,_,hr⟩:=zE hr;obtain⟨rfl,rfl⟩:=XE hr;refine(Tryz.stringslite_IndexByte b a1 w).mono ?_;rintro e w' ⟨rfl,rfl⟩;cases h;have hl:b.data.toList.length≤9223372036854775807:=by rw [Array.length_toList];exact hb
 exact⟨Mod.refl [] _,_, [],rfl, .int (by rcases mL b.data.toList a1.toNat.toUInt8 with h|h<;>exact xI (by omega) (by omega)) .nil,by simp⟩
noncomputable def Wz (xs:List (List UInt8)) (sep:List UInt8):Option (List UInt8):=A0 (xs.length≤140737488355328∧(Lib.join xs sep).length≤140737488355328) (some (Lib.join xs sep))
theorem mI {w:World}: ∀{cs:List Value} {xs:List (List UInt8)} {f:List Nat},Rd w cs (AM (xs.map EG)) f→ ∃bs:List ByteArray,cs=bs.map Value.string∧bs.map (·.data.toList)=xs
 |cs, [],f,h=>by obtain⟨rfl,_⟩:=XE (by simpa [AM]using h);exact⟨[],rfl,rfl⟩
 |cs,x::xs,f,h=>by
  have h':Rd w cs (.str x::AM (xs.map EG)) f:=by simpa [AM]using h
  obtain⟨b,us,rfl,rfl,_,h2⟩:=X1 h';obtain⟨bs,rfl,rfl⟩:=mI h2;exact⟨b::bs,rfl,rfl⟩
theorem zrQ (a0:List (List UInt8)) (a1 r:List UInt8) (h:Wz a0 a1=some r):CY Tryz.prog Dy 199 [.sl (a0.map EG), .str a1] (.str r):=qJ (by kernel_rfl) fun w vs rf hr=>by
 obtain⟨⟨KF,Gf⟩,h⟩:=HD h;cases h;generalize hx:a0.map EG=ys at hr;cases hr with
 |fb hr=>
  obtain⟨b1,us1,rfl,rfl,_,hr⟩:=X1 hr;obtain⟨rfl,rfl⟩:=XE hr;have:a0= []:=by simpa using hx
  subst this;refine(Tryz.strings_Join_none _ _ b1 w).mono ?_;rintro e w' ⟨rfl,rfl⟩;exact⟨Mod.refl [] _,_, [],rfl, .str (by simp [ByteArray.size]) .nil,by simp⟩
 |gj hb h1 h2 h3 h4 h5 h6 FF h7 hr=>
  rename_i bk o n c cs C t fz sz f1 vs f;obtain⟨b1,us1,rfl,rfl,_,hr⟩:=X1 hr;obtain⟨rfl,rfl⟩:=XE hr;subst hx;obtain⟨bs,rfl,rfl⟩:=mI h7;have hn:n=bs.length:=by simpa using h3.symm
  subst hn;have PB:bk<w.heap.size:=FX hb;refine(Tryz.strings_Join bk o c bs b1 w (fun j x hx=> ?_) PB (by simpa using KF) h2.2 Gf).mono ?_
  ·have:=h6 j (.string x) (by simp [hx]);rw [D1 hb];exact this
  ·rintro e w' ⟨rfl,Yf⟩;exact⟨.jg Yf (Nat.le_refl _),_, [],rfl, .str (by simp [ByteArray.size];omega) .nil,by simp⟩
def T8 (w:World) (el:TypeId) (k:Nat) (g cap:Nat) (C:Array Value) (n:Nat) (cs:List Value):Prop:=
 n≤cap∧cap≤maxLen∧w.heap[g]?=some (.cells C el (0,0))∧C.size=cap*k∧cs=C.toList.take (n*k)
theorem T8.cell {w:World} {el:TypeId} {k g cap:Nat} {C:Array Value} {n:Nat} {cs:List Value} (h:T8 w el k g cap C n cs) (off j:Nat) (v:Value) (hj:(cs.drop off)[j]?=some v):w.cell? ((⟨g,off,none⟩:Addr).add j)=some v:=by
 obtain⟨_,_,h3,_,h5⟩:=h;rw [Addr.add_lit,D1 h3];rw [List.getElem?_drop,h5,List.getElem?_take]at hj;split at hj
 ·simpa using hj
 ·cases hj
theorem T8.len {w:World} {el:TypeId} {k g cap:Nat} {C:Array Value} {n:Nat} {cs:List Value} (h:T8 w el k g cap C n cs):cs.length=n*k:=by obtain⟨h1,_,_,h4,h5⟩:=h;have:=Nat.mul_le_mul_right k h1;rw [h5,List.length_take,Array.length_toList];omega
theorem two {α:Type} (zs cs vs:List α) (i m n:Nat) (cur:List α) (Yl:cur=cs.take i++zs) (AA:cs.length=n) (hi:i≤n) (hv:vs.length=m) (hz:n+m-i≤zs.length):
  let c1:=cur.take i++vs++cur.drop (i+vs.length)
  (c1.take (i+m)++cs.drop i++c1.drop (i+m+(cs.drop i).length)).take (n+m)=cs.take i++vs++cs.drop i:=by
 have ht:(cs.take i).length=i:=by rw [List.length_take];omega
 intro c1;have e1:c1=cs.take i++vs++cur.drop (i+vs.length):=by show cur.take i++vs++cur.drop (i+vs.length)=_;rw [Yl];congr 2;rw [List.take_append_of_le_length (by omega),List.take_take,Nat.min_self]
 have e2:c1.take (i+m)=cs.take i++vs:=by
  have l2:(cs.take i++vs).length=i+m:=by rw [AG,ht,hv]
  rw [e1,←l2,List.take_left]
 rw [e2];have l1:(cs.take i++vs++cs.drop i).length=n+m:=by simp only [AG,ht,hv,List.length_drop,AA];omega
 rw [←l1,List.take_left]
end Go.Proofs.YtmbknelgbjlhnaaGreat
end

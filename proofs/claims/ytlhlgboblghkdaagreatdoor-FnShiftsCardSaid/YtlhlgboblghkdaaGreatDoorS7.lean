/- Parts of a proof, joined: DA, DB, MA, MB, OB, OG, QA, QO, MC, MD, QT, TF, HB, SP, HL, IA, IC, IB, RI. -/
import Derived.Test.YtlhlgboblghkdaaGreatDoorS6
import Derived.Test.YtlhlgboblghkdaaGreatDoorProg
import Derived.Test.YtlhlgboblghkdaaGreatDoorChecked
import Derived.Shelf.Strings.Builder1
import Derived.Shelf.Strings.Builder2
import Derived.Shelf.Strings.OnBuilder
import Derived.Shelf.Small.Strs
import Derived.Shelf.Small.Wraps
import Derived.Shelf.Strings.BuilderF
import Derived.Shelf.Strings.BuilderK
import Derived.Shelf.Utf8.RuneCount
import Derived.Shelf.Strings.Builder2Cap
import Derived.Shelf.Strconv.Atoi
import Derived.Shelf.Strconv.Itoa0
import Derived.Shelf.Strconv.Itoa1
import Derived.Shelf.LaysM
import Derived.Shelf.Strconv.Itoa2
import Derived.Shelf.Strconv.Itoa3
import Derived.Shelf.Strconv.AtoiErrFast
import Derived.Shelf.Strconv.ParseIntEmpty
import Derived.Shelf.Strconv.AtoiFail
import Derived.Shelf.Strconv.Clone
import Derived.Shelf.Strconv.SyntaxError
import Derived.Shelf.LaysC
import Derived.Shelf.Strconv.ToError
import Derived.Shelf.Strconv.Lower
import Derived.Shelf.Strconv.ParseUint10
import Derived.Shelf.Strconv.ParseUint10Empty
import Derived.Shelf.Strconv.ParseUint10Any
import Derived.Shelf.Strconv.ParseInt10
import Derived.Shelf.Strconv.AtoiLong
import Derived.Shelf.Strconv.AtoiInnerAll
import Derived.Shelf.Strconv.RangeError
import Derived.Shelf.Strconv.ToErrorRange
import Derived.Shelf.Strconv.AtoiAll
import Derived.Shelf.Strconv.ErrVarAll
import Derived.Shelf.Strings.Search1
import Derived.Shelf.Strings.Search2
import Derived.Shelf.Strings.Search3
import Derived.Shelf.Strings.Cut
import Derived.Shelf.Strings.Count
import Derived.Shelf.Strings.Shaped
import Derived.Shelf.Strings.Prefix
import Derived.Shelf.Strings.Split
import Derived.Shelf.Strings.SplitShaped
import Derived.Shelf.Unicode.Decode
import Derived.Shelf.Strings.RuneCount
import Derived.Shelf.Strings.Explode
import Derived.Shelf.Unicode.DecodeSlow
import Derived.Shelf.Unicode.DecodeAny
import Derived.Shelf.Strings.BuilderCap
import Derived.Ground.Names2Prog
import Derived.Shelf.Slices.Clone
import Derived.Ground.SlgnProg
import Derived.Shelf.SlicesE.Clone
import Derived.Laws.CopyRow
import Derived.Lib.AppendZerosOnto
import Derived.Lib.Overlaps
import Derived.Deep.RegionLaw
import Derived.StillTailTactics
import Derived.Deep.QuietTactic
import Derived.Sort.Grow
set_option linter.unusedVariables false
set_option linter.unusedSimpArgs false
section
namespace Go.Proofs.YtlhlgboblghkdaaGreatDoor
open Go.RowKit
noncomputable def nC (t:TypeId):List Bool:=(A0 Tryz.prog t).map fun u=>match Cw Tryz.prog u with|some e=>BY Tryz.prog e|none=>false
noncomputable def qP (u:TypeId):List Bool:=if u=51 then []else nC u
noncomputable def zFT (fn:Func):Hn:={cj:=fn.params.toList.map fun t=>match J2 Tryz.prog t with|some u=> .bx (qP u) (qP u)|none=> .ro,res:=fn.resultTypes.toList.flatMap nC}
noncomputable def zE2 (f:Nat):Option Hn:=
 match f with
 |4=>some {cj:= [],res:= []}
 |5=>some {cj:= [.ro, .ro, .ro],res:= [false,true,true,true,true,false],dp:=true}
 |6=>some {cj:= [.ro, .ro, .ro],res:= []}
 |7=>some {cj:= [],res:= []}
 |9=>some {cj:= [.ro, .ro, .ro, .ro, .ro],res:= [false,true,true,true,false],dp:=true}
 |16=>some {cj:= [.bx [] []],res:= [false,true,true,true],dp:=true,fz:=true}
 |17=>some {cj:= [.bx [] [], .ro, .ro],res:= [true]}
 |19=>some {cj:= [.bx [] [], .ro],res:= []}
 |20=>some {cj:= [.bx [] []],res:= [false,false,true,true],dp:=true}
 |21=>some {cj:= [.ro],res:= [false,true,true,true],dp:=true}
 |24=>some {cj:= [.ro, .ro],res:= [false,true,true,true,false],dp:=true}
 |26=>some {cj:= [.ro, .ro, .ro],res:= []}
 |27=>some {cj:= [.ro],res:= [false,true,true,true],dp:=true}
 |28=>some {cj:= [.bx [] []],res:= []}
 |56=>some {cj:= [.ro, .ro],res:= [true],dp:=true}
 |62=>some {cj:= [.bx [] [], .ro],res:= []}
 |66=>some {cj:= [.ro, .ro],res:= []}
 |75=>some {cj:= [.ro, .ro],res:= [false,true,true,true,false],dp:=true}
 |107=>some {cj:= [.bx [] [], .ro, .ro],res:= []}
 |113=>some {cj:= [.ro, .ro, .bx [true] [true]],res:= [],ft:= [1000000109]}
 |148=>some {cj:= [.va [true], .ro],res:= [true]}
 |149=>some {cj:= [.va [true], .ro],res:= [true],wn:=true}
 |175=>some {cj:= [.va [true], .ro, .va [true]],res:= [true]}
 |188=>some {cj:= [.va [true], .ro],res:= [true],wn:=true}
 |223=>some {cj:= [.ro, .ro],res:= []}
 |229=>some {cj:= [.mu [true], .ro],res:= []}
 |231=>some {cj:= [.mu [true]],res:= []}
 |239=>some {cj:= [.ro, .ro, .ro, .ro],res:= []}
 |_=>none
noncomputable def rF (f:Nat):Option Hn:=match Tryz.prog.funcs[f]? with
 |some fn=>some ((zE2 f).getD (zFT fn))
 |none=>none
noncomputable def Ci:BI:={f:=rF}
theorem zFq:Tryz.prog.follows .mixedOrders=true:=by kernel_rfl
theorem zGr:Tryz.prog.funcs.size<1000000:=by
 have:(decide (Tryz.prog.funcs.size<1000000))=true:=by kernel_rfl
 exact of_decide_eq_true this
theorem Ro (f:Nat) (s:Hn) (h:Ci f=some s):f<1000000:=by
 simp only [Ci]at h;unfold rF at h;split at h
 ·rename_i fn hf;have:=(Array.getElem?_eq_some_iff.1 hf).1;exact Nat.lt_trans this zGr
 ·cases h
def Wl (P:Program) (sg:BI) (f:Nat) (xs:List AV) (r:AV):Bool:=
 match P.funcs[f]?,sg f with
 |some fn,some s=> !(fn.name== "runtime.NumGoroutine")&&MJ P fn s r&&xs.length==fn.params.size+fn.nfree
 |_,_=>false
abbrev Den (t:Tr) (r:AV) (xs:List AV):Prop:=t.den (Cj Tryz.prog Ci) (fun r'=>r'=r) (fun _ _ _ _=>False) [] xs
theorem Gu {f:Nat} {t:Tr} {xs:List AV} {r:AV} (hc:S6 Tryz.prog Ci f=some t) (hk:Wl Tryz.prog Ci f xs r=true) (hd:Den t r xs):Cj Tryz.prog Ci f xs r:=by
 unfold Wl at hk;split at hk
 ·rename_i fn s hf hs;simp only [Ae,Bool.not_eq_true',beq_iff_eq]at hk;unfold Cj;rw [if_pos (Ro f s hs)];exact⟨s,hs,zBM zFq Ro hf hs hk.1.1 hc hk.1.2 hk.2 hd⟩
 ·cases hk
section
variable {Rt:Nat→List AV→AV→Prop} {R:AV→Prop} {L:LK} {js:List JK} {ρ:List AV}
theorem xR {i:EL} {b k:Tr} (hL:JG L) (I:Nat→List AV→Prop) {m:Nat} (h0:I m (i.den ρ)) (F0: ∀m vs,I m vs→b.den Rt R L ((fun us=> ∃m',m'<m∧I m' us)::(fun us=>k.den Rt R L js (ρ++us))::js) (ρ++vs)):(Tr.loop i b k).den Rt R L js ρ:=by
 have hb: ∀W W':JK,(∀vs,W vs→W' vs)→ ∀vs,b.den Rt R L (W::(fun us=>k.den Rt R L js (ρ++us))::js) (ρ++vs)→b.den Rt R L (W'::(fun us=>k.den Rt R L js (ρ++us))::js) (ρ++vs):=
  fun W W' hW vs hv=>b.gu hL hv (.cons hW (DQ.refl _))
 have mono: ∀n vs,IU (fun W vs=>b.den Rt R L (W::(fun us=>k.den Rt R L js (ρ++us))::js) (ρ++vs)) n vs→ ∀n',n≤n'→IU (fun W vs=>b.den Rt R L (W::(fun us=>k.den Rt R L js (ρ++us))::js) (ρ++vs)) n' vs:=by
  intro n
  induction n with
  |zero=>intro vs h;exact h.elim
  |succ n ih=>
   intro vs h n' hn;cases n' with
   |zero=>omega
   |succ n'=>exact hb _ _ (fun us hu=>ih us hu n' (by omega)) vs h
 have key: ∀m vs,I m vs→IU (fun W vs=>b.den Rt R L (W::(fun us=>k.den Rt R L js (ρ++us))::js) (ρ++vs)) (m+1) vs:=by
  intro m
  induction m using Nat.strongRecOn with
  |_ m ih=>intro vs hI;exact hb _ _ (fun us ⟨m',hm,hu⟩=>mono _ _ (ih m' hm us hu) m (by omega)) vs (F0 m vs hI)
 exact⟨m+1,key m _ h0⟩
theorem iM:JG (fun _ _ _ _=>False):=fun _ _ _ _ _ _ h=>h
end
@[simp] theorem zGb (ρ:List AV):Bb ρ []↔True:=⟨fun _=>trivial,fun _=>EE ρ⟩
@[simp] theorem zFZ (ρ:List AV) (x:E) (b:Bool) (gs:Gd):Bb ρ ((x,b)::gs)↔x.den ρ= .bool b∧Bb ρ gs:=
 ⟨fun h=>⟨h (x,b) (by simp),fun g hg=>h g (by simp [hg])⟩,fun h g hg=>by rcases Af.1 hg with rfl|hg;exact h.1;exact h.2 g hg⟩
attribute [simp] E.den EL.den Cn.den AV.fld AV.proj AV.deref AV.len AV.slen AV.idx AV.nth AV.fg AV.jr AV.conv AV.bin AV.bbin AV.sbin AV.app AV.cz AV.rep
@[simp] theorem zEo (cs:List AV):(AV.agg cs).cells=cs:=rfl
@[simp] theorem zFd (k:IntKind) (n:Int):(AV.int k n).cells= [.int k n]:=rfl
@[simp] theorem zEj (b:Bool):(AV.bool b).cells= [.bool b]:=rfl
@[simp] theorem zEs (s:List UInt8):(AV.str s).cells= [.str s]:=rfl
@[simp] theorem zFu (xs:List AV):(AV.sl xs).cells= [.sl xs]:=rfl
@[simp] theorem zEl (k:IntKind) (n:Int):(AV.int k n).scalar=true:=rfl
@[simp] theorem zD2 (b:Bool):(AV.bool b).scalar=true:=rfl
@[simp] theorem zEi (s:List UInt8):(AV.str s).scalar=true:=rfl
@[simp] theorem zFM (b c d:Bool):AV.cond (.bool b) (.bool c) (.bool d)= .bool (bif b then c else d):=by cases b<;>rfl
theorem zvI {y:AV} (h:y.scalar=true):y.cells= [y]:=by cases y<;>first|rfl|simp [AV.scalar]at h
theorem Bh {n:Int} (h1: -9223372036854775808≤n) (h2:n≤9223372036854775807):IntKind.i64.wrap n=n:=by rw [IntKind.wrap_i64];omega
end Go.Proofs.YtlhlgboblghkdaaGreatDoor
end
section
namespace Go.Proofs.YtlhlgboblghkdaaGreatDoor
open Go.RowKit
section
variable {Rt:Nat→List AV→AV→Prop} {R:AV→Prop} {L:LK} {js:List JK} {ρ:List AV}
theorem Df {gs:Gd} {c:Cn} {k:Tr} (h:Bb ρ gs→c.den ρ) (hk:k.den Rt R L js ρ):(Tr.ca gs c k).den Rt R L js ρ:=⟨h,hk⟩
theorem lG {gs:Gd} {f:Nat} {args:EL} {k:Tr} {r:AV} (h:Bb ρ gs→Rt f (args.den ρ) r) (hk:k.den Rt R L js (ρ++ [r])):(Tr.call gs (.inl f) args k).den Rt R L js ρ:=⟨r,h,hk⟩
theorem kH {gs:Gd} {x:E} {args:EL} {k:Tr} {r:AV} (h:Bb ρ gs→ ∃g caps,x.den ρ= .fn g caps∧Rt (1000000+g) (args.den ρ++caps) r∧ ∀y∈r.cells,y.scalar=true) (hk:k.den Rt R L js (ρ++ [r])):(Tr.call gs (.inr x) args k).den Rt R L js ρ:=⟨r,h,hk⟩
theorem Gq {c:E} {a b:Tr} {t:Bool} (h:c.den ρ= .bool t) (ha:t=true→a.den Rt R L js ρ) (hb:t=false→b.den Rt R L js ρ):(Tr.ite c a b).den Rt R L js ρ:=⟨t,h,ha,hb⟩
theorem Lk {r:E} (h:R (r.den ρ)):(Tr.ret r).den Rt R L js ρ:=h
theorem Uy {es:EL} {j:JK} (h:j (es.den ρ)):(Tr.jmp 0 es).den Rt R L (j::js) ρ:=h
theorem lH {es:EL} {i j:JK} (h:j (es.den ρ)):(Tr.jmp 1 es).den Rt R L (i::j::js) ρ:=h
end
def zX (cn:Nat) (xs:List AV):Prop:= ∀x∈xs,∃cs,x= .agg cs∧cs.length=cn
theorem zX.at {cn:Nat} {xs:List AV} (h:zX cn xs) {q:Nat} (hq:q<xs.length): ∃cs,xs[q]= .agg cs∧cs.length=cn:=h _ (List.getElem_mem hq)
section
variable {Rt:Nat→List AV→AV→Prop} {R:AV→Prop} {L:LK} {js:List JK} {ρ:List AV} {α β σ τ:Type}
theorem zDM {x:E} {sz:Nat} {xs:List α} (f:α→AV) (hx:x.den ρ= .sl (xs.map f)) (hf: ∀y,(f y).cells.length=sz∧ ∀z∈(f y).cells,z.scalar=true):Cn.den ρ (.flatS x sz):=⟨_,hx,by simp only [List.mem_map];rintro _ ⟨y,_,rfl⟩;exact hf y⟩
end
@[simp] def zF2 (n:Int):AV:= .int .i64 n
@[simp] def Pr (n:Int):AV:= .int .u8 n
@[simp] def JF (x:List UInt8):AV:= .str x
attribute [simp] B8 Rq AV.sidx AV.aeq AV.leq AV.seq AV.sk AV.da AV.bytes AV.text
end Go.Proofs.YtlhlgboblghkdaaGreatDoor
end
section
namespace Go.Proofs.YtlhlgboblghkdaaGreatDoor
open Go.RowKit
section
variable {P:Program} {w:World}
theorem Dr.jn {ts:List TypeId} {vs:List Value} {xs:List AV} {rf lf hs:List Nat} (h:Dr P w ts [] [] vs xs rf lf hs): ∀(ms:List PM) (lo:List Bool),(∀m∈ms,m= .ro)→Dr P w ts ms lo vs xs rf lf hs:=by
 generalize hm:([]:List PM)=m0 at h;generalize hn:([]:List Bool)=n0 at h
 induction h with
 |nil=>intro ms lo _;exact .nil
 |lent h1 _ _ _ _=>subst hn;cases h1
 | @cons t ts ms' lo' v vs x xs f h rf lf hs A1 _ ih=>
  subst hm;subst hn;intro ms lo Ep;refine .cons ?_ (ih rfl rfl ms.tail lo.tail fun m hm=>Ep m (List.mem_of_mem_tail hm));have:ms.headD .ro= .ro:=by cases ms with|nil=>rfl|cons m ms=>exact Ep m (by simp)
  rw [this];exact A1
 |free h1 _ ih=>subst hm;subst hn;intro ms lo Ep;exact .free h1 (ih rfl rfl ms.tail lo.tail fun m hm=>Ep m (List.mem_of_mem_tail hm))
theorem DF.jn {ts:List TypeId} {ms:List PM} {vs:List Value} {Bs:List AV} {f o:List Nat} (h:DF P w ts ms vs Bs f o) (Ep: ∀m∈ms,m= .ro):DF P w ts [] vs Bs f o:=by
 have hd: ∀{ms:List PM},(∀m∈ms,m= .ro)→ms.headD .ro= .ro:=by intro ms h;cases ms with|nil=>rfl|cons m ms=>exact h m (by simp)
 induction h with
 |nil=>exact .nil
 |ro _ _ ih=>exact .ro rfl (ih fun m hm=>Ep m (List.mem_of_mem_tail hm))
 |va h9 _ _=>rw [hd Ep]at h9;cases h9
 |mu h9 _ _ _ _=>rw [hd Ep]at h9;cases h9
 |bx h9 _ _ _ _ _ _ _ _=>rw [hd Ep]at h9;cases h9
end
noncomputable def mT (f:Nat) (r:AV):Bool:=
 match Tryz.prog.funcs[f]?,Ci f with
 |some fn,some s=>s.cj.all (fun m=>match m with| .ro=>true|_=>false)&&s.ft.isEmpty&&(match fn.resultTypes.toList with| [t]=> !Gx Tryz.prog t s.res|_=>false)&&MJ Tryz.prog fn {cj:= [],res:= []} r
 |_,_=>false
theorem zy8 {f:Nat} {xs:List AV} {r:AV} (h:Cj Tryz.prog Ci f xs r) (hp:mT f r=true):Cj Tryz.prog Ci (1000000+f) xs r:=by
 unfold mT at hp;split at hp
 ·rename_i fn s hf hs;simp only [Ae,AG]at hp;obtain⟨⟨⟨h1,Eb⟩,h2⟩,h3⟩:=hp;have Eb:s.ft= []:=by simpa using Eb
  have IB: ∀m∈s.cj,m= .ro:=fun m hm=>by
   have:=h1 m hm;split at this
   ·rfl
   ·cases this
  unfold Cj at h ⊢;rw [if_pos (Ro f s hs)]at h;rw [if_neg (by omega),Nat.add_sub_cancel_left];obtain⟨s',Ba,fn',Sb,hb,hn,_,hl,_,hc⟩:=h;rw [hs]at Ba;cases Ba;rw [hf]at Sb;cases Sb;rw [Eb]at hc;refine⟨fn,hf,hb,hn,h3,hl,by simp,fun w vs rf lf Ba Aw hd ZP B2 DY=>(hc w vs rf lf Ba (Aw.jn _ _ IB) hd ZP B2 DY).mono ?_⟩;rintro e w' ⟨v,rfl,⟨R,Bs,f1,o1,f2,o2,e1,e2,e3,e4,e5,e6⟩,hm⟩;rw [Eb]at e3;refine⟨v,rfl,⟨R,Bs,f1,o1,f2,o2,e1, ?_,e3.jn IB,e4,e5,e6⟩,hm⟩;unfold J3 at e2 ⊢;split at h2
  ·rename_i t ht;rw [ht]at e2 ⊢;simp only at e2 ⊢;unfold Ex at e2 ⊢;have h2:Gx Tryz.prog t s.res=false:=by simpa using h2
   rw [if_neg (by rw [h2];simp)]at e2;rw [if_neg (by simp [Gx])];exact e2
  ·cases h2
 ·cases hp
section
variable {Rt:Nat→List AV→AV→Prop} {R:AV→Prop} {L:LK} {js:List JK} {ρ:List AV}
theorem yW {i:EL} {b k:Tr} (hL:JG L) (n:Nat) (st:Nat→List AV) (J:Nat→Prop) (hJ:J 0) (h0:i.den ρ=st 0) (hb: ∀q,q≤n→J q→ ∀W:JK,(q<n→J (q+1)→W (st (q+1)))→b.den Rt R L (W::(fun us=>k.den Rt R L js (ρ++us))::js) (ρ++st q)):(Tr.loop i b k).den Rt R L js ρ:=by refine xR hL (fun m vs=> ∃q,q+m=n∧vs=st q∧J q) (m:=n) ⟨0,by omega,h0,hJ⟩ ?_;rintro m vs ⟨q,hq,rfl,hj⟩;exact hb q (by omega) hj _ fun Aq Pe=>⟨m-1,by omega,q+1,by omega,rfl,Pe⟩
end
def Ve (cn:Nat):Tr:=
 .ca [] (.dfd (.len (.var 0)))<|
 .loop (.cons (.int .i64 (0)) .nil) (
  .ca [] (.dfd (.bin .lss (.var 2) (.len (.var 0))))<|
  .ite (.bin .lss (.var 2) (.len (.var 0))) (
  .ca [] (.inb (.var 2) (.var 0) cn)<|
  .call [] (.inr (.var 1)) (.cons (.fld (.idx (.var 0) (.var 2)) 0 cn true) .nil)<|
  .ite (.var 3) (
   .ret (.var 2)) (
   .ca [] (.dfd (.bin .add (.var 2) (.int .i64 (1))))<|
   .jmp 0 (.cons (.bin .add (.var 2) (.int .i64 (1))) .nil))) (
  .jmp 1 .nil)) (
  .ret (.int .i64 (-1)))
def Zg:Tr:=
 .ca [] (.dfd (.len (.var 0)))<|
 .loop (.cons (.int .i64 (0)) .nil) (
  .ca [] (.dfd (.bin .lss (.var 2) (.len (.var 0))))<|
  .ite (.bin .lss (.var 2) (.len (.var 0))) (
  .ca [] (.inb (.var 2) (.var 0) 1)<|
  .call [] (.inr (.var 1)) (.cons (.fld (.idx (.var 0) (.var 2)) 0 1 false) .nil)<|
  .ite (.var 3) (
   .ret (.var 2)) (
   .ca [] (.dfd (.bin .add (.var 2) (.int .i64 (1))))<|
   .jmp 0 (.cons (.bin .add (.var 2) (.int .i64 (1))) .nil))) (
  .jmp 1 .nil)) (
  .ret (.int .i64 (-1)))
def EJ {α:Type} (p:α→Option Bool):List α→Int→Option Int
 | [],_=>some (-1)
 |x::xs,i=>(p x).bind fun b=>if b=true then some i else EJ p xs (i+1)
noncomputable def F4 {α:Type} (xs:List α) (p:α→Option Bool):Option Int:=req (xs.length≤9223372036854775806) (EJ p xs 0)
noncomputable def G7 {α:Type} (xs:List α) (p:α→Option Bool):Option Bool:=(F4 xs p).bind fun i=>some (decide (i≥0))
noncomputable def Q3 {α:Type} (bytes:Nat) (xs:List α):Option (List α):=req ((xs.length:Int)*bytes≤140737488355328∧(xs.length:Int)≤140737488355328) (some xs)
theorem wB {α:Type} {p:α→Option Bool} {l:List α} {r:Int} {q:Nat} (hq:q<l.length) (h:EJ p (l.drop q) q=some r): ∃b,p l[q]=some b∧(b=true→r=q)∧(b=false→EJ p (l.drop (q+1)) ((q+1:Nat):Int)=some r):=by
 rw [List.drop_eq_getElem_cons hq]at h;obtain⟨b,hb,h⟩:=IP h;refine⟨b,hb, ?_, ?_⟩
 ·rintro rfl;simpa using h.symm
 ·rintro rfl;simpa using h
theorem mJ {α:Type} {av:α→AV} {l:List α} {p:α→Option Bool} {cn g:Nat} {caps:List AV} {r:Int} (hs: ∀x,∃cs,av x= .agg cs∧cs.length=cn) (h:F4 l p=some r) (hf: ∀x b,p x=some b→Cj Tryz.prog Ci (1000000+g) (av x::caps) (.bool b)):Den (Ve cn) (.int .i64 r) [.sl (l.map av), .fn g caps]:=by
 obtain⟨hn,h⟩:=Hk h;unfold Den Ve;refine Df (by simp) ?_;refine yW iM l.length (fun q=> [.int .i64 q]) (fun q=>EJ p (l.drop q) q=some r) (by simpa using h) (by simp) fun q hq hJ W hW=> ?_;by_cases Aq:q<l.length
 ·obtain⟨cs,hc,hl⟩:=hs l[q];obtain⟨b,hb,HY,EZ⟩:=wB Aq hJ;refine Df (by simp [B8]) (Gq (t:=true) (by simp [B8,Aq]) (fun _=> ?_) (by simp));refine Df (fun _=>⟨.i64,q,l.length,by simp,by omega,by simp,by omega,by simp [Aq,hc,hl]⟩) (kH (r:= .bool b) (fun _=>⟨g,caps,by simp, ?_,by simp⟩) ?_)
  ·have:=hf l[q] b hb;rw [hc]at this;simpa [Aq,hc,←hl]using this
  ·cases b with
   |true=>exact Gq (t:=true) (by simp) (fun _=>Lk (by simp [HY rfl])) (by simp)
   |false=>refine Gq (t:=false) (by simp) (by simp) fun _=>Df (by simp [B8]) (Uy ?_);have:=hW Aq (EZ rfl);simpa [B8,Bh (n:=(q:Int)+1) (by omega) (by omega)]using this
 ·have IA:q=l.length:=by omega
  subst IA;have hr:r= -1:=by simpa [EJ]using hJ.symm
  refine Df (by simp [B8]) (Gq (t:=false) (by simp [B8]) (by simp) fun _=>lH ?_);exact Lk (by simp [hr])
theorem yJ {α:Type} {av:α→AV} {l:List α} {p:α→Option Bool} {g:Nat} {caps:List AV} {r:Int} (hs: ∀x,(av x).cells= [av x]) (h:F4 l p=some r) (hf: ∀x b,p x=some b→Cj Tryz.prog Ci (1000000+g) (av x::caps) (.bool b)):Den Zg (.int .i64 r) [.sl (l.map av), .fn g caps]:=by
 obtain⟨hn,h⟩:=Hk h;unfold Den Zg;refine Df (by simp) ?_;refine yW iM l.length (fun q=> [.int .i64 q]) (fun q=>EJ p (l.drop q) q=some r) (by simpa using h) (by simp) fun q hq hJ W hW=> ?_;by_cases Aq:q<l.length
 ·obtain⟨b,hb,HY,EZ⟩:=wB Aq hJ;refine Df (by simp [B8]) (Gq (t:=true) (by simp [B8,Aq]) (fun _=> ?_) (by simp));refine Df (fun _=>⟨.i64,q,l.length,by simp,by omega,by simp,by omega,by simp [Aq,hs]⟩) (kH (r:= .bool b) (fun _=>⟨g,caps,by simp, ?_,by simp⟩) ?_)
  ·have:=hf l[q] b hb;simpa [Aq,hs]using this
  ·cases b with
   |true=>exact Gq (t:=true) (by simp) (fun _=>Lk (by simp [HY rfl])) (by simp)
   |false=>refine Gq (t:=false) (by simp) (by simp) fun _=>Df (by simp [B8]) (Uy ?_);have:=hW Aq (EZ rfl);simpa [B8,Bh (n:=(q:Int)+1) (by omega) (by omega)]using this
 ·have IA:q=l.length:=by omega
  subst IA;have hr:r= -1:=by simpa [EJ]using hJ.symm
  refine Df (by simp [B8]) (Gq (t:=false) (by simp [B8]) (by simp) fun _=>lH ?_);exact Lk (by simp [hr])
def Rx (f:Nat):Tr:=
 .call [] (.inl f) (.cons (.var 0) (.cons (.var 1) .nil))<|
 .ca [] (.dfd (.bin .geq (.var 2) (.int .i64 (0))))<|
 .ret (.bin .geq (.var 2) (.int .i64 (0)))
theorem Y3 {α:Type} {l:List α} {p:α→Option Bool} {f:Nat} {x y:AV} {r:Bool} (h:G7 l p=some r) (hf: ∀i,F4 l p=some i→Cj Tryz.prog Ci f [x,y] (.int .i64 i)):Den (Rx f) (.bool r) [x,y]:=by obtain⟨i,hi,h⟩:=IP h;unfold Den Rx;refine lG (fun _=>by simpa using hf i hi) (Df (by simp [B8]) (Lk ?_));simp only [Ag]at h;simp [B8,←h]
def Rm (bytes sz:Nat):Tr:=
 .ca [] (.dfd (.len (.var 0)))<|
 .bz [] (.var 0)<|
 .ite (.var 1) (
  .ret (.lst .nil)) (
  .ca [] (.room (.lst .nil) (.var 0) bytes)<|
  .ca [] (.flatS (.var 0) sz)<|
  .ret (.app (.lst .nil) (.var 0)))
theorem Yx {α:Type} {av:α→AV} {xs r:List α} {bytes sz:Nat} (hs: ∀x,(av x).cells.length=sz∧ ∀z∈(av x).cells,z.scalar=true) (h:Q3 bytes xs=some r):Den (Rm bytes sz) (.sl (r.map av)) [.sl (xs.map av)]:=by
 obtain⟨hq,h⟩:=Hk h;cases h;unfold Den Rm;refine Df (by simp) fun b hb=> ?_;cases b with
 |true=>have:=hb (by simp) rfl;exact Gq (t:=true) (by simp) (fun _=>Lk (by simpa using this.symm)) (by simp)
 |false=>exact Gq (t:=false) (by simp) (by simp) fun _=>Df (fun _=>⟨0,xs.length,by simp,by simp,by simpa using hq.1,by simpa using hq.2⟩) (Df (fun _=>zDM (xs:=xs) av (by simp) hs) (Lk (by simp)))
end Go.Proofs.YtlhlgboblghkdaaGreatDoor
end
section
namespace Go.Proofs.YtlhlgboblghkdaaGreatDoor
open Go.ChangeShapes Go.WideShapes Go.ChangeAt Go.RowKit
theorem zBy {P:Program} {w:World}:Dr P w [] [] [] [] [] [] [] []:= .nil
theorem wI {P:Program} {w:World} {t:TypeId} {ts:List TypeId} {v:Value} {vs:List Value} {x:AV} {xs:List AV} {f rf:List Nat} (h:Rd w [v] [x] f) (k:Dr P w ts [] [] vs xs rf [] []):Dr P w (t::ts) [] [] (v::vs) (x::xs) (f++rf) [] []:=
 Dr.cons (h:= []) (hs:= []) (ms:= []) (lo:= []) ⟨h,rfl⟩ k
theorem zBD {P:Program} {sg:BI} {f:Nat} {fn:Func} {t:TypeId} {xs:List AV} (h:Cj P sg f xs (.bool true)) (hf:f<1000000) {s:Hn} (hs:sg f=some s) (Eb:s.ft= []) (IB: ∀m∈s.cj,m= .ro) (E1:Gx P t s.res=false) (GO:P.funcs[f]?=some fn) (hr:fn.resultTypes.toList= [t])
  {w:World} {vs:List Value} {rf:List Nat} (ha:Dr P w fn.params.toList [] [] vs xs rf [] []) (DY:Fs.n≤w.heap.size∧Fs.K w):
  Calls P f vs.toArray w fun e w'=>e= .returned (.bool true)∧Below w.heap.size w w':=by
 unfold Cj at h;rw [if_pos hf]at h;obtain⟨s',Ba,fn',I8,_,_,_,_,_,hc⟩:=h;rw [hs]at Ba;obtain rfl:=Option.some.inj Ba;rw [GO]at I8;obtain rfl:=Option.some.inj I8;refine(hc w vs rf [] [] (by rw [Eb,List.append_nil];exact ha.jn _ _ IB) (by simp) (by simp) (by simp) ⟨DY.1,DY.2,by simp⟩).mono fun e w' ⟨v,he,hp⟩=> ?_;obtain⟨⟨R,bs,f1,o1,f2,o2,hR,AQ,_⟩,hm⟩:=hp;have hRt:R= .bool true:=by
  cases bs with
  |nil=>exact hR.symm
  |cons=>cases hR
 subst hRt;rw [hr]at AQ;have h2:Ex P w' t s.res v (.bool true) f1 o1:=AQ;unfold Ex at h2;rw [E1]at h2;obtain⟨h3,_⟩:=h2;have:v= .bool true:=by cases h3;rfl
 subst this;exact⟨he,hm.below⟩
section
variable {P:Program} {t:TypeId} {Q:List AV→Prop} {H:Type} {enc:TypeId × Value→H} {w:World} {spare:Nat→Bool} {held:Bool} {v:Value} {d:DataW H} {p:List MemPlace} {r:Reach} {base:Nat}
theorem zDz (hO:Hl P t Q) (hc:v.cells= #[v]) (h:DataW.Trod enc P w 0 spare held t v d p): ∃x f,Rd w [v] [x] f∧Q [x]:=by
 obtain⟨n,h⟩:=h;rw [hc]at h;obtain⟨_,_,xs,f,hr,hq⟩:=hO.2 _ _ _ _ _ _ _ _ h;have hl:=hr.len
 match xs,hl with
 | [x],_=>exact⟨x,f,hr,hq⟩
theorem wM {e:TypeId} (hO:Hl P t Q) (ht:P.underlying t=some (.slice e)) (hv:Value.okWide P w r base t v) (h:DataW.Trod enc P w 0 spare held t v d p): ∃x f,Rd w [v] [x] f∧Q [x]:=by obtain⟨a,l,c,rfl⟩:=okWide_slice ht hv;exact zDz hO rfl h
end
theorem zE4 {a b:Bool} (ha:a=true) (hb:b=true):(a&&b)=true:=by rw [ha,hb];rfl
def N5 (n:Int):Prop:=0≤n∧n≤255
def V0 {α:Type} (ok:α→Prop) (l:List α):Prop:=l.length≤9223372036854775807∧ ∀x∈l,ok x
theorem zGo {n:Int} (h:Ey .u8 n):N5 n:=by unfold Ey at h;simp only [IntKind.wrap,IntKind.bits,IntKind.signed]at h;unfold N5;simp at h;omega
section
variable {P:Program} {t e:TypeId} {α:Type} {ok:α→Prop} {av:α→AV}
theorem zGi (ht:P.underlying t=some (.int .u8)) (hc:P.cellsOf t=1):Hl P t fun xs=> ∃n,N5 n∧xs= [Pr n]:=
 (zC9 ht hc).mono fun _ ⟨n,h,e⟩=>⟨n,zGo h,e⟩
theorem yM: ∀{ys:List AV},(∀y∈ys,JP false (fun xs=> ∃c,ok c∧xs= [av c]) y)→ ∃l:List α,(∀c∈l,ok c)∧ys=l.map av
 | [],_=>⟨[],by simp,rfl⟩
 |y::ys,h=>by obtain⟨l,hl,rfl⟩:=yM fun z hz=>h z (List.mem_cons_of_mem _ hz);have h0:=h y (List.mem_cons_self ..);simp only [JP,AY,if_false]at h0;obtain⟨_,c,hk,hc⟩:=h0;exact⟨c::l,by simpa using⟨hk,hl⟩,by simp at hc;simp [hc]⟩
theorem zF0 (ht:P.underlying t=some (.slice e)) (hc:P.cellsOf t=1) (LB:P.cellsOf e=1) (he:Hl P e fun xs=> ∃c,ok c∧xs= [av c]):Hl P t fun xs=> ∃l:List α,V0 ok l∧xs= [.sl (l.map av)]:=
 (zyT false ht hc he (.inr LB)).mono fun _ ⟨ys,hl,hy,e⟩=>by obtain⟨l,hk,rfl⟩:=yM hy;exact⟨l,⟨by simpa using hl,hk⟩,e⟩
end
end Go.Proofs.YtlhlgboblghkdaaGreatDoor
end
section
namespace Go.Proofs.YtlhlgboblghkdaaGreatDoor
open Go.RowKit
set_option maxRecDepth 100000
structure Ac where
 af:List UInt8
 ay:List UInt8
 bb:Bool
@[simp] def zV (x:Ac):AV:= .agg [.str x.af, .str x.ay, .bool x.bb]
structure An where
 ar:List Int
 bf:Int
 au:Int
@[simp] def zDZ (x:An):AV:= .agg [.sl (x.ar.map Pr), .int .i64 x.bf, .int .u64 x.au]
structure Au where
 ab:List UInt8
 bh:Int
 ak:Int
@[simp] def rD (x:Au):AV:= .agg [.str x.ab, .int .i64 x.bh, .int .i64 x.ak]
structure Ad where
 ab:List UInt8
 al:List (List UInt8)
 ae:List Au
@[simp] def o9 (x:Ad):AV:= .agg [.str x.ab, .sl (x.al.map JF), .sl (x.ae.map rD)]
structure AI where
 aw:List (List UInt8)
@[simp] def zF3 (x:AI):AV:= .agg [.sl (x.aw.map JF)]
structure Am where
 ab:List UInt8
 ah:List Ad
 a7:List Int
 ao:List Ac
@[simp] def zDw (x:Am):AV:= .agg [.str x.ab, .sl (x.ah.map o9), .sl (x.a7.map zF2), .sl (x.ao.map zV)]
structure A2 where
 aj:Int
 bd:AI
 bj:AI
@[simp] def zCn (x:A2):AV:= .agg [.int .i64 x.aj, .sl (x.bd.aw.map JF), .sl (x.bj.aw.map JF)]
structure BN where
 a8:Int
 bc:Int
 bp:A2
@[simp] def zxS (x:BN):AV:= .agg [.int .i64 x.a8, .int .i64 x.bc, .int .i64 x.bp.aj, .sl (x.bp.bd.aw.map JF), .sl (x.bp.bj.aw.map JF)]
structure Az where
 aj:Int
 af:List UInt8
 ay:List UInt8
 jq:Int
@[simp] def zGt (x:Az):AV:= .agg [.int .i64 x.aj, .str x.af, .str x.ay, .int .i64 x.jq]
structure BC where
 af:List UInt8
 ay:List UInt8
 c8:Bool
@[simp] def zFG (x:BC):AV:= .agg [.str x.af, .str x.ay, .bool x.c8]
end Go.Proofs.YtlhlgboblghkdaaGreatDoor
end
section
namespace Go.Proofs.YtlhlgboblghkdaaGreatDoor
open Go.ChangeShapes Go.WideShapes Go.ChangeAt Go.RowKit
set_option maxRecDepth 100000
theorem op1:Hl Tryz.prog 5 fun xs=> ∃n,N5 n∧xs= [Pr n]:=zGi Tryz.underlying5 (by kernel_rfl)
theorem oS:Hl Tryz.prog 22 fun xs=> ∃l:List Int,V0 N5 l∧xs= [.sl (l.map Pr)]:=zF0 Tryz.underlying22 (by kernel_rfl) (by kernel_rfl) op1
end Go.Proofs.YtlhlgboblghkdaaGreatDoor
end
section
namespace Go.Proofs.YtlhlgboblghkdaaGreatDoor
open Go.RowKit
set_option maxRecDepth 100000
def Ki {α:Type} (p:α→Option Bool):List α→Option (List α)
 | []=>some []
 |x::xs=>(p x).bind fun b=>(Ki p xs).bind fun r=>some (if b=true then r else x::r)
noncomputable def Ox {α:Type} (xs:List α) (p:α→Option Bool):Option (List α):=req (xs.length≤9223372036854775806) (Ki p xs)
theorem jP {α:Type} {p:α→Option Bool} (q:α→Bool): ∀{l:List α},(∀x∈l,p x=some (q x))→Ki p l=some (l.filter fun x=> !q x)
 | [],_=>rfl
 |x::l,h=>by have e:=jP (p:=p) q (l:=l) fun y hy=>h y (List.mem_cons_of_mem _ hy);simp only [Ki,h x (by simp),e,Aa,List.filter_cons];cases q x<;>rfl
theorem zuM {α:Type} {p:α→Option Bool} {l r:List α} {q:Nat} (hq:q<l.length) (h:Ki p (l.drop q)=some r): ∃b r',p l[q]=some b∧Ki p (l.drop (q+1))=some r'∧r=if b=true then r' else l[q]::r':=by rw [List.drop_eq_getElem_cons hq]at h;obtain⟨b,hb,h⟩:=IP h;obtain⟨r',hr,h⟩:=IP h;exact⟨b,r',hb,hr,by simpa using h.symm⟩
theorem tS {α:Type} {p:α→Option Bool}: ∀{l r:List α} (i:Int),Ki p l=some r→(EJ p l i=some (-1)∧r=l)∨ ∃k r',k<l.length∧EJ p l i=some (i+(k:Nat))∧Ki p (l.drop (k+1))=some r'∧r=l.take k++r'
 | [],r,i,h=>by cases h;exact .inl ⟨rfl,rfl⟩
 |x::l,r,i,h=>by
  obtain⟨b,hb,h⟩:=IP h;obtain⟨r1,hr,h⟩:=IP h;cases b with
  |true=>
   have:r1=r:=by simpa using h
   subst this;exact .inr ⟨0,r1,by simp,by simp [EJ,hb],by simpa using hr,by simp⟩
  |false=>
   have:r=x::r1:=by simpa using h.symm
   subst this;rcases tS (i+1) hr with⟨h1,rfl⟩|⟨k,r',h1,h2,h3,rfl⟩
   ·exact .inl ⟨by simp [EJ,hb,h1],rfl⟩
   ·exact .inr ⟨k+1,r',by simp;omega,by simp [EJ,hb,h2];omega,by simpa using h3,by simp⟩
def qO (ck:List Cn) (k:Tr):Tr:=ck.foldr (fun c k=> .ca [] c k) k
section
variable {Rt:Nat→List AV→AV→Prop} {R:AV→Prop} {L:LK} {js:List JK} {ρ:List AV}
theorem yS: ∀{ck:List Cn} {k:Tr},(∀c∈ck,c.den ρ)→k.den Rt R L js ρ→(qO ck k).den Rt R L js ρ
 | [],_,_,hk=>hk
 |c::ck,k,h,hk=>⟨fun _=>h c (by simp),yS (fun q hq=>h q (by simp [hq])) hk⟩
theorem zBq {t k:Tr} {K:List AV→Prop} (hK: ∀vs,K vs→k.den Rt R L js (ρ++vs)) (ht: ∀j:JK,(∀vs,K vs→j vs)→t.den Rt R L (j::js) ρ):(Tr.join t k).den Rt R L js ρ:=ht _ hK
end
def V4 (fi cn:Nat) (g:Bool) (X:E) (ck:List Cn) (z:E):Tr:=
 .call [] (.inl fi) (.cons (.var 0) (.cons (.var 1) .nil))<|
 .ca [] (.dfd (.bin .eql (.var 2) (.int .i64 (-1))))<|
 .ite (.bin .eql (.var 2) (.int .i64 (-1))) (
  .ret (.var 0)) (
  .ca [] (.dfd (.bin .add (.var 2) (.int .i64 (1))))<|
  .loop (.cons (.var 2) (.cons (.bin .add (.var 2) (.int .i64 (1))) (.cons (.var 0) .nil))) (
  .ca [] (.dfd (.len (.var 5)))<|
  .ca [] (.dfd (.bin .lss (.var 4) (.len (.var 5))))<|
  .ite (.bin .lss (.var 4) (.len (.var 5))) (
   .join (
   .ca [] (.inb (.var 4) (.var 5) cn)<|
   qO ck<|
   .call [] (.inr (.var 1)) (.cons X .nil)<|
   .ca [] (.dfd (.not (.var 6)))<|
   .ite (.not (.var 6)) (
    .ca [] (.inb (.var 3) (.var 5) cn)<|
    .ca [] (.flat X cn g)<|
    .ca [] (.flat (.fld (.idx (.var 5) (.var 3)) 0 cn g) cn g)<|
    .ca [] (.dfd (.bin .add (.var 3) (.int .i64 (1))))<|
    .jmp 0 (.cons (.bin .add (.var 3) (.int .i64 (1))) (.cons (.set (.var 5) (.var 3) (.put (.idx (.var 5) (.var 3)) 0 X g)) .nil))) (
    .jmp 0 (.cons (.var 3) (.cons (.var 5) .nil)))) (
   .ca [] (.dfd (.bin .add (.var 4) (.int .i64 (1))))<|
   .jmp 0 (.cons (.var 6) (.cons (.bin .add (.var 4) (.int .i64 (1))) (.cons (.var 7) .nil))))) (
   .jmp 1 (.cons (.var 3) (.cons (.var 5) .nil)))) (
  .ca [] (.win (.var 4) (.var 3) (.len (.var 4)))<|
  .ca [] (.win (.var 4) (.var 3) (.len (.var 4)))<|
  .ca [] (.dfd (.bin .sub (.len (.var 4)) (.var 3)))<|
  .ca [] (.win (.app (.win (.var 4) (.int .i64 (0)) (.var 3)) (.rep (.bin .sub (.len (.var 4)) (.var 3)) z)) (.int .i64 (0)) (.var 3))<|
  .ret (.win (.app (.win (.var 4) (.int .i64 (0)) (.var 3)) (.rep (.bin .sub (.len (.var 4)) (.var 3)) z)) (.int .i64 (0)) (.var 3))))
theorem zA {α:Type} {av:α→AV} {l r:List α} {p:α→Option Bool} {fi cn g9:Nat} {g:Bool} {X z:E} {ck:List Cn} {caps:List AV}
  (hs: ∀x,(av x).cells.length=cn∧(∀z∈(av x).cells,z.scalar=true)∧(g=true→ ∃cs,av x= .agg cs)∧(g=false→(av x).scalar=true)) (hcn:0<cn)
  (hX: ∀(a b c d:AV) (j:Nat) (ys:List AV) (x:α) (tl:List AV),ys[j]?=some (av x)→X.den ([a,b,c,d, .int .i64 j, .sl ys]++tl)=av x)
  (KD: ∀(a b c d:AV) (j:Nat) (ys:List AV) (x:α),ys[j]?=some (av x)→ ∀q∈ck,q.den [a,b,c,d, .int .i64 j, .sl ys])
  (h:Ox l p=some r) (hi: ∀i,F4 l p=some i→Cj Tryz.prog Ci fi [.sl (l.map av), .fn g9 caps] (.int .i64 i))
  (hf: ∀x b,p x=some b→Cj Tryz.prog Ci (1000000+g9) (av x::caps) (.bool b)):Den (V4 fi cn g X ck z) (.sl (r.map av)) [.sl (l.map av), .fn g9 caps]:=by
 obtain⟨hn,h⟩:=Hk h;unfold Den V4;have GZ: ∀x y:α,(av y).da 0 (av x) g=av x:=by
  intro x y;cases g with
  |false=>rfl
  |true=>
   obtain⟨cs,Bj⟩:=(hs x).2.2.1 rfl;have e1:=(hs x).1;have e2:=(hs y).1;have e3:(av x).cells=cs:=by rw [Bj];rfl
   have e4:(av y).cells.drop (0+cs.length)= []:=List.drop_eq_nil_of_le (by rw [e2,←e1,e3];omega);show AV.agg ((av y).cells.take 0++(av x).cells++(av y).cells.drop (0+(av x).cells.length))=av x;rw [e3,e4,List.append_nil,List.take_zero,List.nil_append,Bj]
 have ZW: ∀x:α,(av x).fld 0 cn g=av x:=by
  intro x;cases g with
  |false=>have:=zvI ((hs x).2.2.2 rfl);simp [AV.fld,this]
  |true=>obtain⟨cs,Bj⟩:=(hs x).2.2.1 rfl;have e1:=(hs x).1;rw [Bj]at e1 ⊢;simp only [AV.fld,if_true,AV.cells]at e1 ⊢;rw [List.drop_zero,List.take_of_length_le (by omega)]
 have BD: ∀(e:E) (ρ:List AV) (x:α),e.den ρ=av x→Cn.den ρ (.flat e cn g):=fun e ρ x he=>by
  show(e.den ρ).cells.length=cn∧(∀y∈(e.den ρ).cells,y.scalar=true)∧(g=true→ ∃cs,e.den ρ= .agg cs)∧(g=false→(e.den ρ).scalar=true)
  rw [he];exact hs x
 rcases tS 0 h with⟨h1,rfl⟩|⟨k0,r0,Pf,h1,h2,rfl⟩
 ·refine lG (r:= .int .i64 (-1)) (fun _=>hi _ (by unfold F4;rw [show req (r.length≤9223372036854775806) (EJ p r 0)=EJ p r 0 from if_pos hn];exact h1)) ?_;exact Df (by simp [B8]) (Gq (t:=true) (by simp [B8]) (fun _=>Lk (by simp)) (by simp))
 ·refine lG (r:= .int .i64 k0) (fun _=>hi _ (by unfold F4;rw [show req (l.length≤9223372036854775806) (EJ p l 0)=EJ p l 0 from if_pos hn,h1];simp)) ?_;have hw:IntKind.i64.wrap ((k0:Int)+1)=k0+1:=Bh (by omega) (by omega);refine Df (by simp [B8]) (Gq (t:=false) (by simp [B8];try omega) (by simp) fun _=>Df (by simp [B8]) ?_);refine xR iM (fun m vs=> ∃(j:Nat) (K zs r':List α),j+m=l.length∧vs= [.int .i64 K.length, .int .i64 j, .sl (zs.map av)]∧K.length<j∧zs.length=l.length∧zs.take K.length=K∧zs.drop j=l.drop j∧Ki p (l.drop j)=some r'∧l.take k0++r0=K++r') (m:=l.length-(k0+1))
   ⟨k0+1,l.take k0,l,r0,by omega, ?_,by simp;omega,rfl,by simp [Nat.min_eq_left (Nat.le_of_lt Pf)],rfl,h2,rfl⟩ ?_
  ·simp [B8,hw,Nat.min_eq_left (Nat.le_of_lt Pf)]
  rintro m vs ⟨j,K,zs,r',hj,rfl,hKj,VW,cC,cB,Da,AQ⟩;refine Df (by simp) (Df (by simp [B8]) ?_);by_cases Aq:j<l.length
  ·refine Gq (t:=true) (by simp [B8,VW,Aq]) (fun _=> ?_) (by simp);obtain⟨b,r2,hb,Dk,oH⟩:=zuM Aq Da;have oQ:zs[j]?=some l[j]:=by
    have:=congrArg (fun L=>L[0]?) cB;simpa [Aq]using this
   have Gm:(zs.map av)[j]?=some (av l[j]):=by simp [oQ]
   have RR:K.length<zs.length:=by omega
   have hwj:IntKind.i64.wrap ((j:Int)+1)=j+1:=Bh (by omega) (by omega);have hwK:IntKind.i64.wrap ((K.length:Int)+1)=K.length+1:=Bh (by omega) (by omega);refine zBq (K:=fun us=> ∃(K' zs':List α),us= [.int .i64 K'.length, .sl (zs'.map av)]∧K'.length<j+1∧zs'.length=l.length∧zs'.take K'.length=K'∧zs'.drop (j+1)=l.drop (j+1)∧l.take k0++r0=K'++r2) ?_ ?_
   ·rintro us ⟨K',zs',rfl,a1,a2,a3,a4,a5⟩;refine Df (by simp [B8]) (Uy ⟨m-1,by omega,j+1,K',zs',r2,by omega, ?_,a1,a2,a3,a4,Dk,a5⟩);simp [B8,hwj]
   ·intro J hJ;refine Df (fun _=>⟨.i64,j,zs.length,by simp,by omega,by simp,by omega, ?_⟩) (yS (KD _ _ _ _ j (zs.map av) _ Gm) (kH (r:= .bool b) (fun _=>⟨g9,caps,by simp, ?_,by simp⟩) ?_))
    ·simp [AV.nth,oQ,(hs l[j]).1]
    ·have e1:=hX (.sl (l.map av)) (.fn g9 caps) (.int .i64 k0) (.int .i64 K.length) j (zs.map av) l[j] [] Gm;rw [List.append_nil]at e1;show Cj Tryz.prog Ci (1000000+g9) ([X.den [.sl (l.map av), .fn g9 caps, .int .i64 k0, .int .i64 K.length, .int .i64 j, .sl (zs.map av)]]++caps) (.bool b);rw [e1];exact hf _ _ hb
    ·refine Df (by simp) ?_;have e2:=hX (.sl (l.map av)) (.fn g9 caps) (.int .i64 k0) (.int .i64 K.length) j (zs.map av) l[j] [.bool b] Gm;cases b with
     |true=>refine Gq (t:=false) (by simp) (by simp) fun _=>Uy (hJ _ ⟨K,zs,by simp,by omega,VW,cC, ?_,by rw [AQ,oH];simp⟩);have:=congrArg (List.drop 1) cB;simpa [List.drop_drop]using this
     |false=>
      refine Gq (t:=true) (by simp) (fun _=> ?_) (by simp);obtain⟨zk,SX⟩: ∃zk,zs[K.length]?=some zk:=⟨zs[K.length],by simp [RR]⟩
      have e3:(E.idx (.var 5) (.var 3)).den ([AV.sl (l.map av), .fn g9 caps, .int .i64 k0, .int .i64 K.length, .int .i64 j, .sl (zs.map av)]++ [.bool false])=av zk:=by simp [AV.nth,SX]
      refine Df (fun _=>⟨.i64,K.length,zs.length,by simp,by omega,by simp,by omega, ?_⟩) (Df (fun _=>BD _ _ _ e2) (Df (fun _=>BD _ _ zk ?_) (Df (by simp [B8]) (Uy (hJ _ ⟨K++ [l[j]],zs.set K.length l[j], ?_,by simp;omega,by simpa using VW, ?_, ?_,by rw [AQ,oH];simp⟩)))))
      ·simp [AV.nth,SX,(hs zk).1]
      ·exact(congrArg (fun y=>AV.fld y 0 cn g) e3).trans (ZW zk)
      ·have e4:(E.set (.var 5) (.var 3) (.put (.idx (.var 5) (.var 3)) 0 X g)).den ([AV.sl (l.map av), .fn g9 caps, .int .i64 k0, .int .i64 K.length, .int .i64 j, .sl (zs.map av)]++ [.bool false])= .sl ((zs.set K.length l[j]).map av):=by
        show AV.cz _ _ (AV.da ((E.idx (.var 5) (.var 3)).den _) 0 (X.den _) g)=_;rw [e3,e2,GZ];simp [AV.cz,List.map_set]
       show EL.den _ (.cons (.bin .add (.var 3) (.int .i64 1)) (.cons (.set (.var 5) (.var 3) (.put (.idx (.var 5) (.var 3)) 0 X g)) .nil))=_;simp only [EL.den];have e5:(E.bin .add (.var 3) (.int .i64 1)).den ([AV.sl (l.map av), .fn g9 caps, .int .i64 k0, .int .i64 K.length, .int .i64 j, .sl (zs.map av)]++ [.bool false])= .int .i64 ((K++ [l[j]]).length:Int):=by simp [B8,hwK]
       congr 1;congr 1
      ·rw [Ao,AD,List.take_add_one,List.take_set_of_le (Nat.le_refl _),cC];simp [RR]
      ·rw [List.drop_set_of_lt (by omega)];have:=congrArg (List.drop 1) cB;simpa [List.drop_drop]using this
  ·have hje:j=l.length:=by omega
   subst hje;refine Gq (t:=false) (by simp [B8,VW]) (by simp) fun _=>lH ?_;have Hw:r'= []:=by rw [List.drop_eq_nil_of_le (Nat.le_refl _)]at Da;exact(by simpa [Ki]using Da.symm)
   subst Hw;rw [AQ,List.append_nil];have Pk:IntKind.i64.wrap ((zs.length:Int)-K.length)=zs.length-K.length:=Bh (by omega) (by omega);have d3:(E.var 3).den ([AV.sl (l.map av),AV.fn g9 caps]++ [AV.int .i64 (k0:Int)]++ [AV.int .i64 (K.length:Int),AV.sl (zs.map av)])= .int .i64 K.length:=by simp
   have d4:(E.var 4).den ([AV.sl (l.map av),AV.fn g9 caps]++ [AV.int .i64 (k0:Int)]++ [AV.int .i64 (K.length:Int),AV.sl (zs.map av)])= .sl (zs.map av):=by simp
   have dm:(E.bin .sub (.len (.var 4)) (.var 3)).den ([AV.sl (l.map av),AV.fn g9 caps]++ [AV.int .i64 (k0:Int)]++ [AV.int .i64 (K.length:Int),AV.sl (zs.map av)])= .int .i64 ((zs.length:Int)-K.length):=by simp [B8,Pk]
   have KV:Cn.den ([AV.sl (l.map av),AV.fn g9 caps]++ [AV.int .i64 (k0:Int)]++ [AV.int .i64 (K.length:Int),AV.sl (zs.map av)]) (.win (.var 4) (.var 3) (.len (.var 4))):=⟨.i64,K.length, .i64,zs.length,zs.length,d3,by simp,by rw [d4];simp,by omega,by omega,by omega⟩
   have dapp:(E.app (.win (.var 4) (.int .i64 (0)) (.var 3)) (.rep (.bin .sub (.len (.var 4)) (.var 3)) z)).den ([AV.sl (l.map av),AV.fn g9 caps]++ [AV.int .i64 (k0:Int)]++ [AV.int .i64 (K.length:Int),AV.sl (zs.map av)])= .sl ((zs.map av).take K.length++List.replicate (zs.length-K.length) (z.den ([AV.sl (l.map av),AV.fn g9 caps]++ [AV.int .i64 (k0:Int)]++ [AV.int .i64 (K.length:Int),AV.sl (zs.map av)]))):=by show AV.app (AV.win ((E.var 4).den _) (.int .i64 0) ((E.var 3).den _)) (AV.rep ((E.bin .sub (.len (.var 4)) (.var 3)).den _) _)=_;rw [d3,d4,dm];simp only [AV.win,AV.rep,AV.app,Int.toNat_natCast,Int.toNat_zero,List.drop_zero];congr 3;omega
   refine Df (fun _=>KV) (Df (fun _=>KV) (Df (fun _=>fun hu=>by have:=dm.symm.trans hu;simp at this) (Df (fun _=>⟨.i64,0, .i64,K.length,zs.length,rfl,d3, ?_,by omega,by omega,by omega⟩) (Lk ?_))))
   ·refine(congrArg AV.len dapp).trans ?_;simp only [AV.len,Ao,List.length_take,List.length_map,List.length_replicate];congr 1;omega
   ·refine(congrArg (fun y=>AV.win y (.int .i64 0) (.int .i64 K.length)) dapp).trans ?_;simp only [AV.win,Int.toNat_natCast,Int.toNat_zero,List.drop_zero];rw [List.take_append_of_le_length (by simp;omega),List.take_take,Nat.min_self,←List.map_take,cC]
abbrev z6:Nat→List AV→AV→Prop:=Cj Tryz.prog Ci
@[reducible] def Pp:Nat→Type
 |0=>Ac
 |1=>An
 |2=>Au
 |3=>Ad
 |4=>AI
 |5=>Am
 |6=>A2
 |7=>BN
 |8=>Az
 |9=>BC
 |_+10=>Unit
@[reducible] def Wi:Nat→List Ty
 |0=> [.s, .s, .b]
 |1=> [.l (.i .u8), .i .i64, .i .u64]
 |2=> [.s, .i .i64, .i .i64]
 |3=> [.s, .l .s, .l (.st 2)]
 |4=> [.l .s]
 |5=> [.s, .l (.st 3), .l (.i .i64), .l (.st 0)]
 |6=> [.i .i64, .l .s, .l .s]
 |7=> [.i .i64, .i .i64, .i .i64, .l .s, .l .s]
 |8=> [.i .i64, .s, .s, .i .i64]
 |9=> [.s, .s, .b]
 |_+10=> []
def NS: ∀n,Pp n→AV
 |0,x=>zV x
 |1,x=>zDZ x
 |2,x=>rD x
 |3,x=>o9 x
 |4,x=>zF3 x
 |5,x=>zDw x
 |6,x=>zCn x
 |7,x=>zxS x
 |8,x=>zGt x
 |9,x=>zFG x
 |_+10,_=> .agg []
def dE: ∀n,Pp n→HL Pp (Wi n)
 |0,x=>(x.af,x.ay,x.bb,())
 |1,x=>(x.ar,x.bf,x.au,())
 |2,x=>(x.ab,x.bh,x.ak,())
 |3,x=>(x.ab,x.al,x.ae,())
 |4,x=>(x.aw,())
 |5,x=>(x.ab,x.ah,x.a7,x.ao,())
 |6,x=>(x.aj,x.bd.aw,x.bj.aw,())
 |7,x=>(x.a8,x.bc,x.bp.aj,x.bp.bd.aw,x.bp.bj.aw,())
 |8,x=>(x.aj,x.af,x.ay,x.jq,())
 |9,x=>(x.af,x.ay,x.c8,())
 |_+10,_=>()
def oT: ∀n,HL Pp (Wi n)→Pp n
 |0,x=>⟨x.1,x.2.1,x.2.2.1⟩
 |1,x=>⟨x.1,x.2.1,x.2.2.1⟩
 |2,x=>⟨x.1,x.2.1,x.2.2.1⟩
 |3,x=>⟨x.1,x.2.1,x.2.2.1⟩
 |4,x=>⟨x.1⟩
 |5,x=>⟨x.1,x.2.1,x.2.2.1,x.2.2.2.1⟩
 |6,x=>⟨x.1,⟨x.2.1⟩,⟨x.2.2.1⟩⟩
 |7,x=>⟨x.1,x.2.1,⟨x.2.2.1,⟨x.2.2.2.1⟩,⟨x.2.2.2.2.1⟩⟩⟩
 |8,x=>⟨x.1,x.2.1,x.2.2.1,x.2.2.2.1⟩
 |9,x=>⟨x.1,x.2.1,x.2.2.1⟩
 |_+10,_=>()
theorem zEA: ∀n x,NS n x= .agg (HU NS (Wi n) (dE n x))
 |0,_=>rfl
 |1,_=>rfl
 |2,_=>rfl
 |3,_=>rfl
 |4,_=>rfl
 |5,_=>rfl
 |6,_=>rfl
 |7,_=>rfl
 |8,_=>rfl
 |9,_=>rfl
 |_+10,_=>rfl
theorem zDg: ∀n h,dE n (oT n h)=h
 |0,_=>rfl
 |1,_=>rfl
 |2,_=>rfl
 |3,_=>rfl
 |4,_=>rfl
 |5,_=>rfl
 |6,_=>rfl
 |7,_=>rfl
 |8,_=>rfl
 |9,_=>rfl
 |_+10,_=>rfl
@[reducible] def tab:Iw:=⟨z6,Pp,NS,Wi,dE,oT,zEA,zDg⟩
abbrev FS:=FN tab
noncomputable def cH (tb:List FS) (hs:List JM) (o:Option Tr) (ps:List PT) (r:RT) (xs:HP tab.car ps) (hp:HV tab ps xs):Option (GD tab.car r):=match o with
 |some t=>Cb tb 100000 (Pn r) t hs (V3 ps xs hp) [] []
 |none=>none
theorem qV {f:Nat} {ps:List PT} {r:RT} {φ:HP tab.car ps→Option (GD tab.car r)} (tb:List FS) (hs:List JM) (h: ∀xs hp,cH tb hs (S6 Tryz.prog Ci f) ps r xs hp=φ xs) (hk: ∀xs y,Wl Tryz.prog Ci f (Fw tab ps xs) (FF tab r y)=true) (xs:HP tab.car ps) (y:GD tab.car r) (hp:HV tab ps xs) (e:φ xs=some y):tab.Rt f (Fw tab ps xs) (FF tab r y):=by
 rw [←h xs hp]at e;unfold cH at e;split at e
 ·rename_i t ht;refine Gu ht (hk xs y) ?_;unfold Den;rw [←zO ps xs hp];exact Ev tb 100000 (fa:= []) (fun _ h=>nomatch h) (fun _ h=>nomatch h) (fun v hv=>mP r hv) .nil e
 ·cases e
noncomputable def Ak (f:Nat) (ps:List PT) (r:RT) (φ:HP tab.car ps→Option (GD tab.car r)) (tb:List FS) (hs:List JM) (h: ∀xs hp,cH tb hs (S6 Tryz.prog Ci f) ps r xs hp=φ xs:=by intro _ _;kernel_rfl) (hk: ∀xs y,Wl Tryz.prog Ci f (Fw tab ps xs) (FF tab r y)=true:=by intro _ _;kernel_rfl):FS:=
 ⟨f,ps,r,φ,fun xs y hp e=>qV tb hs h hk xs y hp e,false,fun h=>by cases h⟩
noncomputable def J0 (d:FS) (h: ∀y,mT d.f (FF tab d.r y)=true):FS:=
 ⟨d.f,d.ps,d.r,d.φ,d.ok,true,fun _ xs y hx e=>zy8 (d.ok xs y hx e) (h y)⟩
noncomputable def D4 (f:Nat) (ps:List PT) (r:RT) (φ:HP tab.car ps→Option (GD tab.car r)) (ok: ∀xs y,HV tab ps xs→φ xs=some y→tab.Rt f (Fw tab ps xs) (FF tab r y)):FS:=⟨f,ps,r,φ,ok,false,fun h=>by cases h⟩
end Go.Proofs.YtlhlgboblghkdaaGreatDoor
end
section
namespace Go.Proofs.YtlhlgboblghkdaaGreatDoor
open Go.RowKit
theorem Dr.rd {P:Program} {w:World} {ts:List TypeId} {ms:List PM} {lo:List Bool} {vs:List Value} {xs:List AV} {rf lf hs:List Nat} (h:Dr P w ts ms lo vs xs rf lf hs):lo= []→(∀m∈ms,m= .ro)→Rd w vs xs rf∧hs= []:=by
 induction h with
 |nil=>intro _ _;exact⟨.nil,rfl⟩
 |lent h1 _ _ _ _=>intro B0;subst B0;cases h1
 | @cons t ts ms lo v vs x xs f h rf lf hs A1 _ ih=>
  intro B0 Ep;subst B0;obtain⟨h1,rfl⟩:=ih rfl fun m hm=>Ep m (List.mem_of_mem_tail hm);have IB:ms.headD .ro= .ro:=by
   cases ms with
   |nil=>rfl
   |cons m ms=>exact Ep m (by simp)
  rw [IB]at A1;obtain⟨h2,h3⟩:Rd w [v] [x] f∧h= []:=A1;subst h3;exact⟨by simpa using h2.app h1,rfl⟩
 |free h1 _ ih=>intro B0 Ep;subst B0;obtain⟨h2,rfl⟩:=ih rfl fun m hm=>Ep m (List.mem_of_mem_tail hm);exact⟨by simpa using h1.app h2,rfl⟩
theorem DF.j1 {P:Program} {w:World}: ∀{ts:List TypeId} {ms:List PM} {vs:List Value},vs.length=ts.length→(∀m∈ms,m= .ro)→DF P w ts ms vs [] [] []
 | [],_,vs,_,_=> .nil
 |t::ts,ms, [],h,_=>by simp at h
 |t::ts,ms,v::vs,h,Ep=>by
  refine .ro ?_ (DF.j1 (by simpa using h) fun m hm=>Ep m (List.mem_of_mem_tail hm));cases ms with
  |nil=>rfl
  |cons m ms=>exact Ep m (by simp)
def dG (P:Program) (sg:BI) (f np:Nat) (r:AV):Bool:=
 match P.funcs[f]?,sg f with
 |some fn,some s=>fn.body.isSome&& !(fn.name== "runtime.NumGoroutine")&&MJ P fn s r&&s.cj.all (fun m=>match m with| .ro=>true|_=>false)&&fn.params.size==np&&fn.nfree==0&&(s.ft.isEmpty&&s.lo.isEmpty)&&(match fn.resultTypes.toList with| [t]=> !Gx P t s.res|_=>false)
 |_,_=>false
theorem yA {f:Nat} {xs:List AV} {r:AV} (hk:dG Tryz.prog Ci f xs.length r=true) (hc: ∀(w:World) (vs:List Value) (rf:List Nat),Fs.K w→Rd w vs xs rf→Calls Tryz.prog f vs.toArray w fun e w'=>Mod [] w w'∧ ∃v f1,e= .returned v∧Rd w' [v] [r] f1∧ ∀b∈f1,b∈rf∨w.heap.size≤b):Cj Tryz.prog Ci f xs r:=by
 unfold dG at hk;split at hk
 ·rename_i fn s hf hs;simp only [Ae,Bool.not_eq_true',beq_iff_eq,AG]at hk;obtain⟨⟨⟨⟨⟨⟨⟨h1,h2⟩,h3⟩,h4⟩,h5⟩,h6⟩,Eb⟩,h7⟩:=hk;obtain⟨Eb,B0⟩:s.ft= []∧s.lo= []:=by simpa using Eb
  have IB: ∀m∈s.cj,m= .ro:=fun m hm=>by
   have:=h4 m hm;split at this
   ·rfl
   ·cases this
  unfold Cj;rw [if_pos (Ro f s hs)];refine⟨s,hs,fn,hf,h1,h2,h3,by omega,by simp [Eb],fun w vs rf lf Ba Aw hd _ B2 DY=> ?_⟩;obtain⟨hr,rfl⟩:=Aw.rd B0 IB;refine(hc w vs rf DY.2.1 hr).mono ?_;rintro e w' ⟨hm,v,f1,rfl,hv,hb⟩;refine⟨v,rfl,⟨⟨r, [],f1, [], [], [],rfl, ?_,DF.j1 ?_ IB,by simp,by simp,fun b BT=>⟨by simp, ?_⟩⟩,hm⟩⟩
  ·unfold J3;split at h7
   ·rename_i t ht;rw [ht];show Ex Tryz.prog w' t s.res v r f1 [];unfold Ex;rw [if_neg (by rw [Bool.not_eq_true];simpa using h7)];exact⟨hv,rfl⟩
   ·cases h7
  ·rw [hr.len];simp [Eb];omega
  ·rcases hb b (by simpa using BT)with h|h
   ·exact .inl h
   ·exact .inr (.inr h)
 ·cases hk
theorem Y1 {f:Nat} {xs:List AV} {r:AV} (hk:dG Tryz.prog Ci f xs.length r=true) (hc: ∀(w:World) (vs:List Value) (rf:List Nat),Rd w vs xs rf→Calls Tryz.prog f vs.toArray w fun e w'=>Mod [] w w'∧ ∃v f1,e= .returned v∧Rd w' [v] [r] f1∧ ∀b∈f1,b∈rf∨w.heap.size≤b):Cj Tryz.prog Ci f xs r:=
 yA hk fun w vs rf _ hr=>hc w vs rf hr
theorem Lr {w:World} {s:List UInt8} {vs:List Value} {xs:List AV} {f:List Nat} (h:Rd w vs (.str s::xs) f): ∃(b:ByteArray) (us:List Value),vs= .string b::us∧b.data.toList=s∧b.size≤9223372036854775807∧Rd w us xs f:=by
 cases h with
 |str a h=>exact⟨_,_,rfl,rfl,a,h⟩
theorem U0 {w:World} {k:IntKind} {n:Int} {vs:List Value} {xs:List AV} {f:List Nat} (h:Rd w vs (.int k n::xs) f): ∃us:List Value,vs= .int k n::us∧Ey k n∧Rd w us xs f:=by
 cases h with
 |int a h=>exact⟨_,rfl,a,h⟩
theorem Ld {w:World} {vs:List Value} {f:List Nat} (h:Rd w vs [] f):vs= []∧f= []:=by cases h;exact⟨rfl,rfl⟩
end Go.Proofs.YtlhlgboblghkdaaGreatDoor
end
section
namespace Go.Proofs
open Go.Shelf
def Tryz.ff:Go.Shelf.Ren:=⟨fun|156=>151|165=>176|166=>177|169=>178|240=>200|241=>201|276=>216|277=>217|n=>n,fun|31=>34|9=>9|3=>3|4=>4|0=>0|20=>20|72=>191|76=>195|70=>189|37=>22|75=>194|127=>214|164=>221|5=>5|80=>128|n=>n,fun|n=>n⟩
theorem Tryz.jm:Go.Proofs.Lays.n156 Tryz.prog Tryz.ff:={
 mixed:=by kernel_rfl
 f156:=Tryz.func151.trans (congrArg some (by kernel_rfl))
 f165:=Tryz.func176.trans (congrArg some (by kernel_rfl))
 f166:=Tryz.func177.trans (congrArg some (by kernel_rfl))
 f169:=Tryz.func178.trans (congrArg some (by kernel_rfl))
 f240:=Tryz.func200.trans (congrArg some (by kernel_rfl))
 f241:=Tryz.func201.trans (congrArg some (by kernel_rfl))
 f276:=Tryz.func216.trans (congrArg some (by kernel_rfl))
 f277:=Tryz.func217.trans (congrArg some (by kernel_rfl))
 t0:=Tryz.underlying0
 a0:=Tryz.isAgg0
 z0:=Tryz.sizeOf0
 v0:=Tryz.zeroValue0
 t3:=Tryz.underlying3
 a3:=Tryz.isAgg3
 z3:=Tryz.sizeOf3
 v3:=Tryz.zeroValue3
 t4:=Tryz.underlying4
 a4:=Tryz.isAgg4
 z4:=Tryz.sizeOf4
 v4:=Tryz.zeroValue4
 t9:=Tryz.underlying9
 a9:=Tryz.isAgg9
 z9:=Tryz.sizeOf9
 v9:=Tryz.zeroValue9
 t20:=Tryz.underlying20
 a20:=Tryz.isAgg20
 z20:=Tryz.sizeOf20
 v20:=Tryz.zeroValue20
 t31:=Tryz.underlying34
 a31:=Tryz.isAgg34
 z31:=Tryz.sizeOf34
 v31:=Tryz.zeroValue34
 t37:=Tryz.underlying22
 a37:=Tryz.isAgg22
 z37:=Tryz.sizeOf22
 v37:=Tryz.zeroValue22
 t70:=Tryz.underlying189
 a70:=Tryz.isAgg189
 z70:=Tryz.sizeOf189
 v70:=Tryz.zeroValue189
 t72:=Tryz.underlying191
 a72:=Tryz.isAgg191
 z72:=Tryz.sizeOf191
 v72:=Tryz.zeroValue191
 t75:=Tryz.underlying194
 a75:=Tryz.isAgg194
 z75:=Tryz.sizeOf194
 v75:=Tryz.zeroValue194
 t76:=Tryz.underlying195
 a76:=Tryz.isAgg195
 z76:=Tryz.sizeOf195
 v76:=Tryz.zeroValue195
 t127:=Tryz.underlying214
 a127:=Tryz.isAgg214
 z127:=Tryz.sizeOf214
 v127:=Tryz.zeroValue214
 t164:=Tryz.underlying221
 a164:=Tryz.isAgg221
 z164:=Tryz.sizeOf221
 v164:=Tryz.zeroValue221}
theorem Tryz.dh:Builder.Extra Tryz.prog Tryz.ff:={
 sizeBuilder:=by kernel_rfl
 liesBuilder:=by kernel_rfl
 t5:=Tryz.underlying5
 a5:=Tryz.isAgg5
 z5:=Tryz.sizeOf5
 v5:=Tryz.zeroValue5
 infoByte:=by kernel_rfl
 cellsByte:=by kernel_rfl
 sizeByte:=by kernel_rfl
 neB5:=by decide}
open Go.RowKit in
theorem Tryz.strings_Join_none (a:Option Addr) (c:Nat) (sep:ByteArray) (w:World):
  Calls Tryz.prog 151 #[.slice a 0 c, .string sep] w fun e w'=>e= .returned (.string ⟨#[]⟩)∧w'=w:=Any.strings_Join_none Tryz.jm Tryz.dh a c sep w
open Go.RowKit in
theorem Tryz.strings_Join (bk o c:Nat) (xs:List ByteArray) (sep:ByteArray) (w:World) (Nb: ∀(j:Nat) x,xs[j]?=some x→w.cell? ⟨bk,o+j,none⟩=some (.string x)) (Pa:bk<w.heap.size) (hN:xs.length≤140737488355328) (I0:xs.length≤c) (hlen:(Lib.join (xs.map (·.data.toList)) sep.data.toList).length≤140737488355328):
  Calls Tryz.prog 151 #[.slice (some ⟨bk,o,none⟩) xs.length c, .string sep] w fun e w'=>e= .returned (.string ⟨(Lib.join (xs.map (·.data.toList)) sep.data.toList).toArray⟩)∧Below w.heap.size w w':=Any.strings_Join Tryz.jm Tryz.dh bk o c xs sep w Nb Pa hN I0 hlen
def Tryz.lu:Go.Shelf.Ren:=⟨fun|137=>192|217=>211|266=>224|n=>n,fun|9=>9|5=>5|3=>3|n=>n,fun|n=>n⟩
def Tryz.l0:Go.Shelf.Ren:=⟨fun|172=>212|244=>225|245=>226|247=>240|279=>241|280=>242|281=>243|282=>244|287=>256|316=>257|171=>173|205=>258|321=>264|322=>265|243=>194|246=>213|283=>227|284=>228|285=>229|286=>230|129=>246|317=>245|318=>247|319=>248|320=>249|337=>259|338=>260|n=>n,fun|9=>9|3=>3|75=>194|76=>195|4=>4|5=>5|167=>236|37=>22|0=>0|85=>237|2=>2|168=>239|53=>49|175=>250|46=>135|210=>253|127=>214|145=>261|143=>259|21=>21|171=>227|173=>230|212=>243|51=>244|20=>20|213=>245|232=>262|233=>263|80=>128|n=>n,fun|15=>2|16=>3|17=>1|18=>4|19=>5|n=>n⟩
def Tryz.ky:Go.Shelf.Ren:=⟨fun|246=>213|283=>227|284=>228|285=>229|286=>230|129=>246|317=>245|318=>247|319=>248|320=>249|337=>259|338=>260|n=>n,fun|2=>2|3=>3|9=>9|4=>4|171=>227|0=>0|53=>49|37=>22|5=>5|173=>230|212=>243|51=>244|20=>20|213=>245|46=>135|232=>262|233=>263|n=>n,fun|17=>1|18=>4|19=>5|n=>n⟩
def Tryz.ln:Go.Shelf.Ren:=⟨fun|243=>194|246=>213|283=>227|284=>228|285=>229|286=>230|129=>246|317=>245|318=>247|319=>248|320=>249|337=>259|338=>260|n=>n,fun|3=>3|9=>9|2=>2|4=>4|171=>227|0=>0|53=>49|37=>22|5=>5|173=>230|212=>243|51=>244|20=>20|213=>245|46=>135|232=>262|233=>263|n=>n,fun|17=>1|18=>4|19=>5|n=>n⟩
def Tryz.gx:Go.Shelf.Ren:=⟨fun|171=>173|243=>194|246=>213|283=>227|284=>228|285=>229|286=>230|129=>246|317=>245|318=>247|319=>248|320=>249|337=>259|338=>260|n=>n,fun|3=>3|9=>9|2=>2|4=>4|171=>227|0=>0|53=>49|37=>22|5=>5|173=>230|212=>243|51=>244|20=>20|213=>245|46=>135|232=>262|233=>263|n=>n,fun|17=>1|18=>4|19=>5|n=>n⟩
theorem Tryz.jy:Go.Proofs.LaysM.n171 Tryz.prog Tryz.gx:={
 mixed:=by kernel_rfl
 f129:=Tryz.func246.trans (congrArg some (by kernel_rfl))
 f171:=Tryz.func173.trans (congrArg some (by kernel_rfl))
 f243:=Tryz.func194.trans (congrArg some (by kernel_rfl))
 f246:=Tryz.func213.trans (congrArg some (by kernel_rfl))
 f283:=Tryz.func227.trans (congrArg some (by kernel_rfl))
 f284:=Tryz.func228.trans (congrArg some (by kernel_rfl))
 f285:=Tryz.func229.trans (congrArg some (by kernel_rfl))
 f286:=Tryz.func230.trans (congrArg some (by kernel_rfl))
 f317:=Tryz.func245.trans (congrArg some (by kernel_rfl))
 f318:=Tryz.func247.trans (congrArg some (by kernel_rfl))
 f319:=Tryz.func248.trans (congrArg some (by kernel_rfl))
 f320:=Tryz.func249.trans (congrArg some (by kernel_rfl))
 f337:=Tryz.func259.trans (congrArg some (by kernel_rfl))
 f338:=Tryz.func260.trans (congrArg some (by kernel_rfl))
 t0:=Tryz.underlying0
 a0:=Tryz.isAgg0
 z0:=Tryz.sizeOf0
 v0:=Tryz.zeroValue0
 t2:=Tryz.underlying2
 a2:=Tryz.isAgg2
 z2:=Tryz.sizeOf2
 v2:=Tryz.zeroValue2
 t3:=Tryz.underlying3
 a3:=Tryz.isAgg3
 z3:=Tryz.sizeOf3
 v3:=Tryz.zeroValue3
 t4:=Tryz.underlying4
 a4:=Tryz.isAgg4
 z4:=Tryz.sizeOf4
 v4:=Tryz.zeroValue4
 t5:=Tryz.underlying5
 a5:=Tryz.isAgg5
 z5:=Tryz.sizeOf5
 v5:=Tryz.zeroValue5
 t9:=Tryz.underlying9
 a9:=Tryz.isAgg9
 z9:=Tryz.sizeOf9
 v9:=Tryz.zeroValue9
 t20:=Tryz.underlying20
 a20:=Tryz.isAgg20
 z20:=Tryz.sizeOf20
 v20:=Tryz.zeroValue20
 t37:=Tryz.underlying22
 a37:=Tryz.isAgg22
 z37:=Tryz.sizeOf22
 v37:=Tryz.zeroValue22
 t46:=Tryz.underlying135
 a46:=Tryz.isAgg135
 z46:=Tryz.sizeOf135
 v46:=Tryz.zeroValue135
 t51:=Tryz.underlying244
 a51:=Tryz.isAgg244
 z51:=Tryz.sizeOf244
 v51:=Tryz.zeroValue244
 t53:=Tryz.underlying49
 a53:=Tryz.isAgg49
 z53:=Tryz.sizeOf49
 v53:=Tryz.zeroValue49
 t171:=Tryz.underlying227
 a171:=Tryz.isAgg227
 z171:=Tryz.sizeOf227
 v171:=Tryz.zeroValue227
 t173:=Tryz.underlying230
 a173:=Tryz.isAgg230
 z173:=Tryz.sizeOf230
 v173:=Tryz.zeroValue230
 t212:=Tryz.underlying243
 a212:=Tryz.isAgg243
 z212:=Tryz.sizeOf243
 v212:=Tryz.zeroValue243
 t213:=Tryz.underlying245
 a213:=Tryz.isAgg245
 z213:=Tryz.sizeOf245
 t232:=Tryz.underlying262
 a232:=Tryz.isAgg262
 z232:=Tryz.sizeOf262
 v232:=Tryz.zeroValue262
 t233:=Tryz.underlying263
 a233:=Tryz.isAgg263
 z233:=Tryz.sizeOf263
 v233:=Tryz.zeroValue263
 g17:=by kernel_rfl
 g18:=by kernel_rfl
 g19:=by kernel_rfl
 i0:=by kernel_rfl
 i2:=by kernel_rfl
 i3:=by kernel_rfl
 i4:=by kernel_rfl
 i5:=by kernel_rfl
 i9:=by kernel_rfl
 i20:=by kernel_rfl
 i37:=by kernel_rfl
 i46:=by kernel_rfl
 i51:=by kernel_rfl
 i53:=by kernel_rfl
 i171:=by kernel_rfl
 i173:=by kernel_rfl
 i212:=by kernel_rfl
 i232:=by kernel_rfl
 i233:=by kernel_rfl
 m17:=by kernel_rfl
 m18:=by kernel_rfl
 m19:=by kernel_rfl}
open Go.RowKit Go.Sort Go.Lib in
theorem Tryz.strconv_Itoa (n:Int) (h0: -9223372036854775808≤n) (h1:n≤9223372036854775807) (w:World) (bP:Lib.TabIs Tryz.prog w "internal/strconv.uint64pow10" .u64 Lib.pow10Tab):
  Calls Tryz.prog 173 #[.int .i64 n] w fun e w'=>e= .returned (.string ⟨(Lib.itoa n).toArray⟩)∧ ∃k os,w'=grow (w.drewN k) os:=Any.strconv_Itoa Tryz.jy n h0 h1 w bP
def Tryz.ia:Go.Shelf.Ren:=⟨fun|172=>212|244=>225|245=>226|247=>240|279=>241|280=>242|281=>243|282=>244|287=>256|316=>257|171=>173|205=>258|321=>264|322=>265|243=>194|246=>213|283=>227|284=>228|285=>229|286=>230|129=>246|317=>245|318=>247|319=>248|320=>249|337=>259|338=>260|n=>n,fun|9=>9|3=>3|75=>194|76=>195|4=>4|5=>5|167=>236|37=>22|0=>0|85=>237|2=>2|168=>239|53=>49|175=>250|46=>135|210=>253|127=>214|145=>261|143=>259|21=>21|171=>227|173=>230|212=>243|51=>244|20=>20|213=>245|232=>262|233=>263|80=>128|n=>n,fun|15=>2|16=>3|17=>1|18=>4|19=>5|n=>n⟩
theorem Tryz.gh:Go.Proofs.LaysC.n172 Tryz.prog Tryz.ia:={
 mixed:=by kernel_rfl
 f129:=Tryz.func246.trans (congrArg some (by kernel_rfl))
 f171:=Tryz.func173.trans (congrArg some (by kernel_rfl))
 f172:=Tryz.func212.trans (congrArg some (by kernel_rfl))
 f205:=Tryz.func258.trans (congrArg some (by kernel_rfl))
 f243:=Tryz.func194.trans (congrArg some (by kernel_rfl))
 f244:=Tryz.func225.trans (congrArg some (by kernel_rfl))
 f245:=Tryz.func226.trans (congrArg some (by kernel_rfl))
 f246:=Tryz.func213.trans (congrArg some (by kernel_rfl))
 f247:=Tryz.func240.trans (congrArg some (by kernel_rfl))
 f279:=Tryz.func241.trans (congrArg some (by kernel_rfl))
 f280:=Tryz.func242.trans (congrArg some (by kernel_rfl))
 f281:=Tryz.func243.trans (congrArg some (by kernel_rfl))
 f282:=Tryz.func244.trans (congrArg some (by kernel_rfl))
 f283:=Tryz.func227.trans (congrArg some (by kernel_rfl))
 f284:=Tryz.func228.trans (congrArg some (by kernel_rfl))
 f285:=Tryz.func229.trans (congrArg some (by kernel_rfl))
 f286:=Tryz.func230.trans (congrArg some (by kernel_rfl))
 f287:=Tryz.func256.trans (congrArg some (by kernel_rfl))
 f316:=Tryz.func257.trans (congrArg some (by kernel_rfl))
 f317:=Tryz.func245.trans (congrArg some (by kernel_rfl))
 f318:=Tryz.func247.trans (congrArg some (by kernel_rfl))
 f319:=Tryz.func248.trans (congrArg some (by kernel_rfl))
 f320:=Tryz.func249.trans (congrArg some (by kernel_rfl))
 f321:=Tryz.func264.trans (congrArg some (by kernel_rfl))
 f322:=Tryz.func265.trans (congrArg some (by kernel_rfl))
 f337:=Tryz.func259.trans (congrArg some (by kernel_rfl))
 f338:=Tryz.func260.trans (congrArg some (by kernel_rfl))
 t0:=Tryz.underlying0
 a0:=Tryz.isAgg0
 z0:=Tryz.sizeOf0
 v0:=Tryz.zeroValue0
 t2:=Tryz.underlying2
 a2:=Tryz.isAgg2
 z2:=Tryz.sizeOf2
 v2:=Tryz.zeroValue2
 t3:=Tryz.underlying3
 a3:=Tryz.isAgg3
 z3:=Tryz.sizeOf3
 v3:=Tryz.zeroValue3
 t4:=Tryz.underlying4
 a4:=Tryz.isAgg4
 z4:=Tryz.sizeOf4
 v4:=Tryz.zeroValue4
 t5:=Tryz.underlying5
 a5:=Tryz.isAgg5
 z5:=Tryz.sizeOf5
 v5:=Tryz.zeroValue5
 t9:=Tryz.underlying9
 a9:=Tryz.isAgg9
 z9:=Tryz.sizeOf9
 v9:=Tryz.zeroValue9
 t20:=Tryz.underlying20
 a20:=Tryz.isAgg20
 z20:=Tryz.sizeOf20
 v20:=Tryz.zeroValue20
 t21:=Tryz.underlying21
 a21:=Tryz.isAgg21
 z21:=Tryz.sizeOf21
 v21:=Tryz.zeroValue21
 t37:=Tryz.underlying22
 a37:=Tryz.isAgg22
 z37:=Tryz.sizeOf22
 v37:=Tryz.zeroValue22
 t46:=Tryz.underlying135
 a46:=Tryz.isAgg135
 z46:=Tryz.sizeOf135
 v46:=Tryz.zeroValue135
 t51:=Tryz.underlying244
 a51:=Tryz.isAgg244
 z51:=Tryz.sizeOf244
 v51:=Tryz.zeroValue244
 t53:=Tryz.underlying49
 a53:=Tryz.isAgg49
 z53:=Tryz.sizeOf49
 v53:=Tryz.zeroValue49
 t75:=Tryz.underlying194
 a75:=Tryz.isAgg194
 z75:=Tryz.sizeOf194
 v75:=Tryz.zeroValue194
 t76:=Tryz.underlying195
 a76:=Tryz.isAgg195
 z76:=Tryz.sizeOf195
 v76:=Tryz.zeroValue195
 t85:=Tryz.underlying237
 a85:=Tryz.isAgg237
 z85:=Tryz.sizeOf237
 v85:=Tryz.zeroValue237
 t127:=Tryz.underlying214
 a127:=Tryz.isAgg214
 z127:=Tryz.sizeOf214
 v127:=Tryz.zeroValue214
 t143:=Tryz.underlying259
 a143:=Tryz.isAgg259
 z143:=Tryz.sizeOf259
 v143:=Tryz.zeroValue259
 t145:=Tryz.underlying261
 a145:=Tryz.isAgg261
 z145:=Tryz.sizeOf261
 v145:=Tryz.zeroValue261
 t167:=Tryz.underlying236
 a167:=Tryz.isAgg236
 z167:=Tryz.sizeOf236
 v167:=Tryz.zeroValue236
 t168:=Tryz.underlying239
 a168:=Tryz.isAgg239
 z168:=Tryz.sizeOf239
 v168:=Tryz.zeroValue239
 t171:=Tryz.underlying227
 a171:=Tryz.isAgg227
 z171:=Tryz.sizeOf227
 v171:=Tryz.zeroValue227
 t173:=Tryz.underlying230
 a173:=Tryz.isAgg230
 z173:=Tryz.sizeOf230
 v173:=Tryz.zeroValue230
 t175:=Tryz.underlying250
 a175:=Tryz.isAgg250
 z175:=Tryz.sizeOf250
 v175:=Tryz.zeroValue250
 t210:=Tryz.underlying253
 a210:=Tryz.isAgg253
 z210:=Tryz.sizeOf253
 v210:=Tryz.zeroValue253
 t212:=Tryz.underlying243
 a212:=Tryz.isAgg243
 z212:=Tryz.sizeOf243
 v212:=Tryz.zeroValue243
 t213:=Tryz.underlying245
 a213:=Tryz.isAgg245
 z213:=Tryz.sizeOf245
 t232:=Tryz.underlying262
 a232:=Tryz.isAgg262
 z232:=Tryz.sizeOf262
 v232:=Tryz.zeroValue262
 t233:=Tryz.underlying263
 a233:=Tryz.isAgg263
 z233:=Tryz.sizeOf263
 v233:=Tryz.zeroValue263
 g15:=by kernel_rfl
 g16:=by kernel_rfl
 g17:=by kernel_rfl
 g18:=by kernel_rfl
 g19:=by kernel_rfl
 t80:=Tryz.underlying128
 a80:=Tryz.isAgg128
 z80:=Tryz.sizeOf128
 v80:=Tryz.zeroValue128
 i0:=by kernel_rfl
 i2:=by kernel_rfl
 i3:=by kernel_rfl
 i4:=by kernel_rfl
 i5:=by kernel_rfl
 i9:=by kernel_rfl
 i20:=by kernel_rfl
 i21:=by kernel_rfl
 i37:=by kernel_rfl
 i46:=by kernel_rfl
 i51:=by kernel_rfl
 i53:=by kernel_rfl
 i75:=by kernel_rfl
 i76:=by kernel_rfl
 i80:=by kernel_rfl
 i85:=by kernel_rfl
 i127:=by kernel_rfl
 i143:=by kernel_rfl
 i145:=by kernel_rfl
 i167:=by kernel_rfl
 i168:=by kernel_rfl
 i171:=by kernel_rfl
 i173:=by kernel_rfl
 i175:=by kernel_rfl
 i210:=by kernel_rfl
 i212:=by kernel_rfl
 i232:=by kernel_rfl
 i233:=by kernel_rfl
 m15:=by kernel_rfl
 m16:=by kernel_rfl
 m17:=by kernel_rfl
 m18:=by kernel_rfl
 m19:=by kernel_rfl
 c0:=by kernel_rfl
 c2:=by kernel_rfl
 c3:=by kernel_rfl
 c4:=by kernel_rfl
 c5:=by kernel_rfl
 c9:=by kernel_rfl
 c20:=by kernel_rfl
 c21:=by kernel_rfl
 c37:=by kernel_rfl
 c46:=by kernel_rfl
 c51:=by kernel_rfl
 c53:=by kernel_rfl
 c75:=by kernel_rfl
 c76:=by kernel_rfl
 c80:=by kernel_rfl
 c85:=by kernel_rfl
 c127:=by kernel_rfl
 c143:=by kernel_rfl
 c145:=by kernel_rfl
 c167:=by kernel_rfl
 c168:=by kernel_rfl
 c171:=by kernel_rfl
 c173:=by kernel_rfl
 c175:=by kernel_rfl
 c210:=by kernel_rfl
 c212:=by kernel_rfl
 c213:=by kernel_rfl
 c232:=by kernel_rfl
 c233:=by kernel_rfl}
open Go.RowKit in
theorem Tryz.strconv_Atoi_ok (s:ByteArray) (DX:s.size≤9223372036854775806) (v:Int) (h:Lib.atoiAll s.data.toList= .ok v) (w:World):
  Calls Tryz.prog 212 #[.string s] w fun e w'=>e= .returned (.tuple #[.int .i64 v, .nilIface])∧(w'=w∨ ∃t,w'=Lib.bytesWorld w 5 t):=Any.strconv_Atoi_ok Tryz.gh s DX v h w
def Tryz.ig:Go.Shelf.Ren:=⟨fun|217=>211|266=>224|n=>n,fun|9=>9|5=>5|3=>3|n=>n,fun|n=>n⟩
theorem Tryz.k8:Go.Proofs.Lays.n217 Tryz.prog Tryz.ig:={
 mixed:=by kernel_rfl
 f217:=Tryz.func211.trans (congrArg some (by kernel_rfl))
 f266:=Tryz.func224.trans (congrArg some (by kernel_rfl))
 t3:=Tryz.underlying3
 a3:=Tryz.isAgg3
 z3:=Tryz.sizeOf3
 v3:=Tryz.zeroValue3
 t5:=Tryz.underlying5
 a5:=Tryz.isAgg5
 z5:=Tryz.sizeOf5
 v5:=Tryz.zeroValue5
 t9:=Tryz.underlying9
 a9:=Tryz.isAgg9
 z9:=Tryz.sizeOf9
 v9:=Tryz.zeroValue9}
open Go.RowKit Go.Lib in
theorem Tryz.stringslite_IndexByte (s:ByteArray) (c:Int) (w:World):
  Calls Tryz.prog 211 #[.string s, .int .u8 c] w fun e w'=>e= .returned (.int .i64 (Lib.indexByte s.data.toList c.toNat.toUInt8))∧w'=w:=Any.stringslite_IndexByte Tryz.k8 s c w
def Tryz.ik:Go.Shelf.Ren:=⟨fun|219=>222|217=>211|225=>236|224=>237|267=>238|266=>224|314=>252|n=>n,fun|9=>9|3=>3|4=>4|5=>5|46=>135|146=>247|51=>244|n=>n,fun|1=>0|n=>n⟩
theorem Tryz.kx:Go.Proofs.Lays.n219 Tryz.prog Tryz.ik:={
 mixed:=by kernel_rfl
 f217:=Tryz.func211.trans (congrArg some (by kernel_rfl))
 f219:=Tryz.func222.trans (congrArg some (by kernel_rfl))
 f224:=Tryz.func237.trans (congrArg some (by kernel_rfl))
 f225:=Tryz.func236.trans (congrArg some (by kernel_rfl))
 f266:=Tryz.func224.trans (congrArg some (by kernel_rfl))
 f267:=Tryz.func238.trans (congrArg some (by kernel_rfl))
 f314:=Tryz.func252.trans (congrArg some (by kernel_rfl))
 t3:=Tryz.underlying3
 a3:=Tryz.isAgg3
 z3:=Tryz.sizeOf3
 v3:=Tryz.zeroValue3
 t4:=Tryz.underlying4
 a4:=Tryz.isAgg4
 z4:=Tryz.sizeOf4
 v4:=Tryz.zeroValue4
 t5:=Tryz.underlying5
 a5:=Tryz.isAgg5
 z5:=Tryz.sizeOf5
 v5:=Tryz.zeroValue5
 t9:=Tryz.underlying9
 a9:=Tryz.isAgg9
 z9:=Tryz.sizeOf9
 v9:=Tryz.zeroValue9
 t46:=Tryz.underlying135
 a46:=Tryz.isAgg135
 z46:=Tryz.sizeOf135
 v46:=Tryz.zeroValue135
 t51:=Tryz.underlying244
 a51:=Tryz.isAgg244
 z51:=Tryz.sizeOf244
 v51:=Tryz.zeroValue244
 t146:=Tryz.underlying247
 a146:=Tryz.isAgg247
 z146:=Tryz.sizeOf247
 v146:=Tryz.zeroValue247
 g1:=by kernel_rfl}
open Go.RowKit Go.Lib in
theorem Tryz.stringslite_Index_one (s:ByteArray) (c:UInt8) (w:World):
  Calls Tryz.prog 222 #[.string s, .string ⟨#[c]⟩] w fun e w'=>e= .returned (.int .i64 (Lib.indexByte s.data.toList c))∧w'=w:=Any.stringslite_Index_one Tryz.kx s c w
def Tryz.im:Go.Shelf.Ren:=⟨fun|138=>254|195=>261|218=>263|143=>255|219=>222|217=>211|225=>236|224=>237|267=>238|266=>224|314=>252|n=>n,fun|9=>9|3=>3|4=>4|5=>5|0=>0|46=>135|146=>247|51=>244|n=>n,fun|1=>0|n=>n⟩
theorem Tryz.lj:Go.Proofs.Lays.n138 Tryz.prog Tryz.im:={
 mixed:=by kernel_rfl
 f138:=Tryz.func254.trans (congrArg some (by kernel_rfl))
 f143:=Tryz.func255.trans (congrArg some (by kernel_rfl))
 f195:=Tryz.func261.trans (congrArg some (by kernel_rfl))
 f217:=Tryz.func211.trans (congrArg some (by kernel_rfl))
 f218:=Tryz.func263.trans (congrArg some (by kernel_rfl))
 f219:=Tryz.func222.trans (congrArg some (by kernel_rfl))
 f224:=Tryz.func237.trans (congrArg some (by kernel_rfl))
 f225:=Tryz.func236.trans (congrArg some (by kernel_rfl))
 f266:=Tryz.func224.trans (congrArg some (by kernel_rfl))
 f267:=Tryz.func238.trans (congrArg some (by kernel_rfl))
 f314:=Tryz.func252.trans (congrArg some (by kernel_rfl))
 t0:=Tryz.underlying0
 a0:=Tryz.isAgg0
 z0:=Tryz.sizeOf0
 v0:=Tryz.zeroValue0
 t3:=Tryz.underlying3
 a3:=Tryz.isAgg3
 z3:=Tryz.sizeOf3
 v3:=Tryz.zeroValue3
 t4:=Tryz.underlying4
 a4:=Tryz.isAgg4
 z4:=Tryz.sizeOf4
 v4:=Tryz.zeroValue4
 t5:=Tryz.underlying5
 a5:=Tryz.isAgg5
 z5:=Tryz.sizeOf5
 v5:=Tryz.zeroValue5
 t9:=Tryz.underlying9
 a9:=Tryz.isAgg9
 z9:=Tryz.sizeOf9
 v9:=Tryz.zeroValue9
 t46:=Tryz.underlying135
 a46:=Tryz.isAgg135
 z46:=Tryz.sizeOf135
 v46:=Tryz.zeroValue135
 t51:=Tryz.underlying244
 a51:=Tryz.isAgg244
 z51:=Tryz.sizeOf244
 v51:=Tryz.zeroValue244
 t146:=Tryz.underlying247
 a146:=Tryz.isAgg247
 z146:=Tryz.sizeOf247
 v146:=Tryz.zeroValue247
 g1:=by kernel_rfl}
open Go.RowKit Go.Lib in
theorem Tryz.strings_Count_one (s:ByteArray) (c:UInt8) (w:World):
  Calls Tryz.prog 254 #[.string s, .string ⟨#[c]⟩] w fun e w'=>e= .returned (.int .i64 (Lib.countByte s.data.toList c))∧w'=w:=Any.strings_Count_one Tryz.lj s c w
end Go.Proofs
end
section
namespace Go.Proofs.YtlhlgboblghkdaaGreatDoor
open Go.RowKit
set_option maxRecDepth 100000
theorem gZ: ∀(l:List UInt8) (c:UInt8), -1≤Lib.indexByte l c∧Lib.indexByte l c<l.length∨Lib.indexByte l c= -1
 | [],_=> .inr rfl
 |b::l,c=>by
  unfold Lib.indexByte;rcases gZ l c with h|h
  ·split
   ·left;simp
   ·split
    ·exact .inr rfl
    ·left;rw [Ar];omega
  ·rw [h];split
   ·left;simp
   ·right;rfl
theorem lV {n:Int} (h1: -9223372036854775808≤n) (h2:n≤9223372036854775807):Ey .i64 n:=Bh h1 h2
theorem qS {b:ByteArray} {c:UInt8} (h:b.data.toList= [c]):b=⟨#[c]⟩:=by
 cases b with
 |mk d=>cases d with
  |mk l=>simp at h;rw [h]
def Wt (s:List UInt8) (c:Int):Option Int:=some (Lib.indexByte s c.toNat.toUInt8)
theorem zhn (a0:List UInt8) (a1 r:Int) (h:Wt a0 a1=some r):Cj Tryz.prog Ci 211 [.str a0, .int .u8 a1] (.int .i64 r):=Y1 (by kernel_rfl) fun w vs rf hr=>by
 obtain⟨b,us,rfl,rfl,hb,hr⟩:=Lr hr;obtain⟨us1,rfl,_,hr⟩:=U0 hr;obtain⟨rfl,rfl⟩:=Ld hr;refine(Tryz.stringslite_IndexByte b a1 w).mono ?_;rintro e w' ⟨rfl,rfl⟩;cases h;have hl:b.data.toList.length≤9223372036854775807:=by rw [Array.length_toList];exact hb
 exact⟨Mod.refl [] _,_, [],rfl, .int (by rcases gZ b.data.toList a1.toNat.toUInt8 with h|h<;>exact lV (by omega) (by omega)) .nil,by simp⟩
def Py (s sub:List UInt8):Option Int:=match sub with| [c]=>some (Lib.indexByte s c)|_=>none
theorem ziO (a0 a1:List UInt8) (r:Int) (h:Py a0 a1=some r):Cj Tryz.prog Ci 222 [.str a0, .str a1] (.int .i64 r):=Y1 (by kernel_rfl) fun w vs rf hr=>by
 obtain⟨b,us,rfl,rfl,hb,hr⟩:=Lr hr;obtain⟨b1,us1,rfl,h1,_,hr⟩:=Lr hr;obtain⟨rfl,rfl⟩:=Ld hr
 match a1,h,h1 with
 | [c],h,h1=>
  have:=qS h1;subst this;refine(Tryz.stringslite_Index_one b c w).mono ?_;rintro e w' ⟨rfl,rfl⟩;cases h;have hl:b.data.toList.length≤9223372036854775807:=by rw [Array.length_toList];exact hb
  exact⟨Mod.refl [] _,_, [],rfl, .int (by rcases gZ b.data.toList c with h|h<;>exact lV (by omega) (by omega)) .nil,by simp⟩
 | [],h,_=>cases h
 |_::_::_,h,_=>cases h
def Xi (s sub:List UInt8):Option Int:=match sub with| [c]=>some (Lib.countByte s c:Int)|_=>none
theorem zrw (a0 a1:List UInt8) (r:Int) (h:Xi a0 a1=some r):Cj Tryz.prog Ci 254 [.str a0, .str a1] (.int .i64 r):=Y1 (by kernel_rfl) fun w vs rf hr=>by
 obtain⟨b,us,rfl,rfl,hb,hr⟩:=Lr hr;obtain⟨b1,us1,rfl,h1,_,hr⟩:=Lr hr;obtain⟨rfl,rfl⟩:=Ld hr
 match a1,h,h1 with
 | [c],h,h1=>
  have:=qS h1;subst this;refine(Tryz.strings_Count_one b c w).mono ?_;rintro e w' ⟨rfl,rfl⟩;cases h;have hl:b.data.toList.length≤9223372036854775807:=by rw [Array.length_toList];exact hb
  have:Lib.countByte b.data.toList c≤b.data.toList.length:=List.count_le_length;exact⟨Mod.refl [] _,_, [],rfl, .int (lV (by omega) (by omega)) .nil,by simp⟩
 | [],h,_=>cases h
 |_::_::_,h,_=>cases h
def fE (_:List UInt8) (_:Int):Option (List (List UInt8)):=none
theorem zoA (a0:List UInt8) (a1:Int) (r:List (List UInt8)) (h:fE a0 a1=some r):Cj Tryz.prog Ci 253 [.str a0, .int .i64 a1] (.sl (r.map JF)):=by cases h
noncomputable def XJ (xs:List (List UInt8)) (sep:List UInt8):Option (List UInt8):=req (xs.length≤140737488355328∧(Lib.join xs sep).length≤140737488355328) (some (Lib.join xs sep))
theorem uE {w:World}: ∀{cs:List Value} {xs:List (List UInt8)} {f:List Nat},Rd w cs (AK (xs.map JF)) f→ ∃bs:List ByteArray,cs=bs.map Value.string∧bs.map (·.data.toList)=xs
 |cs, [],f,h=>by obtain⟨rfl,_⟩:=Ld (by simpa [AK]using h);exact⟨[],rfl,rfl⟩
 |cs,x::xs,f,h=>by
  have h':Rd w cs (.str x::AK (xs.map JF)) f:=by simpa [AK]using h
  obtain⟨b,us,rfl,rfl,_,h2⟩:=Lr h';obtain⟨bs,rfl,rfl⟩:=uE h2;exact⟨b::bs,rfl,rfl⟩
theorem zr1 (a0:List (List UInt8)) (a1 r:List UInt8) (h:XJ a0 a1=some r):Cj Tryz.prog Ci 151 [.sl (a0.map JF), .str a1] (.str r):=Y1 (by kernel_rfl) fun w vs rf hr=>by
 obtain⟨⟨Fy,Ed⟩,h⟩:=Hk h;cases h;generalize hx:a0.map JF=ys at hr;cases hr with
 |dz hr=>
  obtain⟨b1,us1,rfl,rfl,_,hr⟩:=Lr hr;obtain⟨rfl,rfl⟩:=Ld hr;have:a0= []:=by simpa using hx
  subst this;refine(Tryz.strings_Join_none _ _ b1 w).mono ?_;rintro e w' ⟨rfl,rfl⟩;exact⟨Mod.refl [] _,_, [],rfl, .str (by simp [ByteArray.size]) .nil,by simp⟩
 |fu hb h1 h2 h3 h4 h5 h6 GH h7 hr=>
  rename_i bk o n c cs C t fz sz f1 vs f;obtain⟨b1,us1,rfl,rfl,_,hr⟩:=Lr hr;obtain⟨rfl,rfl⟩:=Ld hr;subst hx;obtain⟨bs,rfl,rfl⟩:=uE h7;have hn:n=bs.length:=by simpa using h3.symm
  subst hn;have Pa:bk<w.heap.size:=Fu hb;refine(Tryz.strings_Join bk o c bs b1 w (fun j x hx=> ?_) Pa (by simpa using Fy) h2.2 Ed).mono ?_
  ·have:=h6 j (.string x) (by simp [hx]);rw [EC hb];exact this
  ·rintro e w' ⟨rfl,ZE⟩;exact⟨.eb ZE (Nat.le_refl _),_, [],rfl, .str (by simp [ByteArray.size];omega) .nil,by simp⟩
theorem X0 {P:Program} (w:World) (dT sT ty elem:TypeId) (k:Nat) (g o dLen dCap:Nat) (a:Addr) (sLen sCap:Nat) (cur:Array Value) (t:TypeId) (cs:List Value)
  (hu:P.underlying dT=some (.slice elem)) (hs:(P.info? elem).map (·.size)=some k)
  (hg:w.heap[g]?=some (.cells cur t (0,0))) (hn:cs.length=Nat.min sLen dLen*k)
  (Fm: ∀j v,cs[j]?=some v→w.cell? (a.add j)=some v) (Nj:o+cs.length≤cur.size) (h1: ∀v∈cs,v.oneCell'=true):
  (Builtin.copy_ #[dT,sT] ty #[.slice (some ⟨g,o,none⟩) dLen dCap, .slice (some a) sLen sCap]).run P w=
   .ok (goInt (Nat.min sLen dLen)) (w.setRow g (cur.toList.take o++cs++cur.toList.drop (o+cs.length)).toArray):=by
 have hl:=run_loadCells_list (P:=P) w a cs Fm;have Fo:=run_storeCells_at P g o t cs 0 cur w hg (by simpa using Nj) h1;cases hq:P.info? elem with
 |none=>simp [hq]at hs
 |some i=>
  have hi:i.size=k:=by simpa [hq]using hs
  rw [hn]at hl;simp [Builtin.copy_,run_underlying hu,Builtin.lenOf,Builtin.firstCells,sizeOf,typeInfo,hq,hi,hl,Fo]
theorem gQ {P:Program} (w:World) {ops:Array Oper} {rest:List Oper} {o:Oper} {a:Act} {Q:Exit→Act→World→Prop} (Pc:o.guard=none) (d s:Operand) (t t':TypeId)
  (ho:o.op= .call {callee:= .builtin .copy,args:= #[d,s],argTypes:= #[t,t']}) (v u:Value) (hd:a.eval d=v) (hs:a.eval s=u) {v':Value} {w':World}
  (hr:(Builtin.copy_ #[t,t'] o.type #[v,u]).run P w= .ok v' w') (h:wpList P ops Q rest (a.put o.dst v') w'):wpList P ops Q (o::rest) a w:=
 wpList_plain Pc fun _ hK=>by unfold Oper.wp execOp;simp only [ho,resolve,invoke,builtin,Sem.run_bind,Sem.run_pure,Result.andThen_ok,List.map_toArray,List.map_cons,List.map_nil,hd,hs,hr];exact hK _ _ h
theorem uX {P:Program} {ops:Array Oper} {o:Oper} {a:Act} {w:World} {K:Act→World→Prop} {Q:Exit→Act→World→Prop} {E:Prop}
  (hg:o.guard=none) (d x:Operand) (dT sT:TypeId) (AM:o.op=Op.call {callee:=Callee.builtin Builtin.copy,args:= #[d,x],argTypes:= #[dT,sT]})
  (v u:Value) (hd:a.eval d=v) (hx:a.eval x=u) {v':Value} {w':World} (hr:(Builtin.copy_ #[dT,sT] o.type #[v,u]).run P w= .ok v' w') (hK:K (a.put o.dst v') w'):
  if Region.wanted o (yielded ops a.tmps)=true then Oper.wp P o a w K Q else E:=by
 have hw:Region.wanted o (yielded ops a.tmps)=true:=by simp [Region.wanted,hg]
 rw [if_pos hw];unfold Oper.wp;simp [execOp,AM,resolve,invoke,builtin,hd,hx,hr,Result.andThen];exact hK
def GC (w:World) (el:TypeId) (k:Nat) (g cap:Nat) (C:Array Value) (n:Nat) (cs:List Value):Prop:=
 n≤cap∧cap≤maxLen∧w.heap[g]?=some (.cells C el (0,0))∧C.size=cap*k∧cs=C.toList.take (n*k)
def NU (w w':World) (el:TypeId) (k:Nat) (own:List Nat) (v:Value) (n:Nat) (cs:List Value):Prop:=
 ∃g cap C,v= .slice (some ⟨g,0,none⟩) n cap∧GC w' el k g cap C n cs∧Mod own w w'∧(g∈own∨w.heap.size≤g)
def cT (P:Program) (f:Nat) (el:TypeId) (k:Nat):Prop:=
 ∀(w:World) (v:Value) (n i:Nat) (cs:List Value) (own:List Nat) (vb vc m:Nat) (VC:Array Value) (vs:List Value),cs.length=n*k→
  ((n=0∧ ∃q,v= .slice q 0 0)∨ ∃g cap C,v= .slice (some ⟨g,0,none⟩) n cap∧GC w el k g cap C n cs∧g∈own)→i≤n→GC w el k vb vc VC m vs→(∀g∈own,vb≠g)→0<m→(n+m)*1000≤140737488355328→
  (∀u∈vs,u.oneCell'=true)→(∀u∈cs,u.oneCell'=true)→
  Calls P f #[v, .int .i64 i, .slice (some ⟨vb,0,none⟩) m vc] w fun e w'=> ∃u,e= .returned u∧NU w w' el k own u (n+m) (cs.take (i*k)++vs++cs.drop (i*k))
theorem GC.cell {w:World} {el:TypeId} {k g cap:Nat} {C:Array Value} {n:Nat} {cs:List Value} (h:GC w el k g cap C n cs) (off j:Nat) (v:Value) (hj:(cs.drop off)[j]?=some v):w.cell? ((⟨g,off,none⟩:Addr).add j)=some v:=by
 obtain⟨_,_,h3,_,h5⟩:=h;rw [Addr.add_lit,EC h3];rw [List.getElem?_drop,h5,List.getElem?_take]at hj;split at hj
 ·simpa using hj
 ·cases hj
theorem GC.len {w:World} {el:TypeId} {k g cap:Nat} {C:Array Value} {n:Nat} {cs:List Value} (h:GC w el k g cap C n cs):cs.length=n*k:=by obtain⟨h1,_,_,h4,h5⟩:=h;have:=Nat.mul_le_mul_right k h1;rw [h5,List.length_take,Array.length_toList];omega
theorem zFQ {α:Type} (cur cs vs:List α) (i m n:Nat) (hc:cs=cur.take n) (hi:i≤n) (hv:vs.length=m) (hn:n+m≤cur.length):
  let c1:=cur.take (i+m)++cs.drop i++cur.drop (i+m+(cs.drop i).length)
  (c1.take i++vs++c1.drop (i+vs.length)).take (n+m)=cs.take i++vs++cs.drop i:=by
 have AE:cs.length=n:=by rw [hc,List.length_take];omega
 have hd:(cs.drop i).length=n-i:=by rw [List.length_drop,AE]
 intro c1;have e1:c1.take i=cs.take i:=by show(cur.take (i+m)++cs.drop i++_).take i=_;rw [List.append_assoc,List.take_append_of_le_length (by rw [List.length_take];omega),List.take_take,hc,List.take_take];congr 1;omega
 have e2:c1.drop (i+vs.length)=cs.drop i++cur.drop (i+m+(cs.drop i).length):=by show(cur.take (i+m)++cs.drop i++_).drop _=_;rw [List.append_assoc,List.drop_append_of_le_length (by rw [List.length_take,hv];omega),List.drop_eq_nil_of_le (by rw [List.length_take,hv];omega),List.nil_append]
 rw [e1,e2];have l1:(cs.take i++vs++cs.drop i).length=n+m:=by simp only [Ao,List.length_take,hv,hd,AE];omega
 rw [←List.append_assoc,←l1,List.take_left]
theorem two {α:Type} (zs cs vs:List α) (i m n:Nat) (cur:List α) (ZM:cur=cs.take i++zs) (AE:cs.length=n) (hi:i≤n) (hv:vs.length=m) (hz:n+m-i≤zs.length):
  let c1:=cur.take i++vs++cur.drop (i+vs.length)
  (c1.take (i+m)++cs.drop i++c1.drop (i+m+(cs.drop i).length)).take (n+m)=cs.take i++vs++cs.drop i:=by
 have ht:(cs.take i).length=i:=by rw [List.length_take];omega
 intro c1;have e1:c1=cs.take i++vs++cur.drop (i+vs.length):=by show cur.take i++vs++cur.drop (i+vs.length)=_;rw [ZM];congr 2;rw [List.take_append_of_le_length (by omega),List.take_take,Nat.min_self]
 have e2:c1.take (i+m)=cs.take i++vs:=by
  have l2:(cs.take i++vs).length=i+m:=by rw [Ao,ht,hv]
  rw [e1,←l2,List.take_left]
 rw [e2];have l1:(cs.take i++vs++cs.drop i).length=n+m:=by simp only [Ao,ht,hv,List.length_drop,AE];omega
 rw [←l1,List.take_left]
theorem kA (xs ys:List AV):AK (xs++ys)=AK xs++AK ys:=by simp [AK]
theorem zx3 {K:Nat} {xs:List AV} (h: ∀y∈xs,y.cells.length=K) {i:Nat} (hi:i≤xs.length):AK (xs.take i)=(AK xs).take (i*K)∧AK (xs.drop i)=(AK xs).drop (i*K):=by
 have l1:(AK (xs.take i)).length=i*K:=by rw [MB _ fun y hy=>h y (List.mem_of_mem_take hy),List.length_take,Nat.min_eq_left hi]
 have e:AK xs=AK (xs.take i)++AK (xs.drop i):=by rw [←kA,List.take_append_drop]
 rw [e,←l1,List.take_left,List.drop_left];exact⟨rfl,rfl⟩
theorem CK.mv {w:World} {el K:Nat} {v:Value} {x:AV} {top:List Nat} (h:CK w el K v x top []): ∃xs cs,x= .sl xs∧0<K∧(∀y∈xs,y.cells.length=K)∧cs.length=xs.length*K∧Rd w cs (AK xs) []∧(∀u∈cs,u.oneCell'=true)∧
  ((xs= []∧top= []∧ ∃q,v= .slice q 0 0)∨ ∃g cap C,v= .slice (some ⟨g,0,none⟩) xs.length cap∧GC w el K g cap C xs.length cs∧top= [g]):=by
 obtain⟨xs,rfl,h2,h3,⟨rfl,⟨a,hv⟩,rfl,_⟩|⟨g,cap,C,rfl,h6,h7,h8,h9,rfl,GG,DS⟩⟩:=h
 ·exact⟨[], [],rfl,h3,h2,by simp,by simpa [AK]using Rd.nil,by simp, .inl ⟨rfl,rfl,a,hv⟩⟩
 ·exact⟨xs,_,rfl,h3,h2,(GC.len ⟨h6,h7,h8,h9,rfl⟩),DS,GG, .inr ⟨g,cap,C,rfl,⟨h6,h7,h8,h9,rfl⟩,rfl⟩⟩
theorem w7 {P:Program} {w:World} {t el:TypeId} {v:Value} {x:AV} {rf hs:List Nat} (ha:Ap P t=false) (hl:A0 P t= [t]) (he:Cw P t=some el) (hf:BY P el=true) (h:OY P w t [true] v x rf hs):rf= []∧CK w el (P.cellsOf el) v x hs []:=by
 obtain⟨us,ys,h1,h2⟩:=h;rw [ha]at h1;simp only [AY,if_false]at h1;obtain⟨rfl,rfl⟩:=h1;rw [hl]at h2;cases h2 with
 |own q1 q2 q3 q4 q5=>
  cases q5;rw [he]at q2;cases q2;rcases q3 with⟨_,rfl⟩|⟨h,_⟩
  ·exact⟨rfl,by simpa using q4⟩
  ·rw [hf]at h;cases h
 |deep q1 q2 q3=>rw [he]at q2;cases q2;rw [hf]at q3;cases q3
 |rd q1=>have:=q1 rfl;rw [he]at this;cases this
def dI (P:Program) (sg:BI) (f:Nat) (t it el K:Nat):Bool:=
 match P.funcs[f]?,sg f with
 |some fn,some s=>(match s.cj,s.res,s.ft,s.lo with
  | [.va [true], .ro, .va [true]], [true], [], []=>true
  |_,_,_,_=>false)&&fn.body.isSome&& !(fn.name== "runtime.NumGoroutine")&&fn.params.toList== [t,it,t]&&fn.resultTypes.toList== [t]&&fn.nfree==0&& !Ap P t&&A0 P t== [t]&&Cw P t==some el&&BY P el&&P.cellsOf el==K&&Gx P t [true]&&fn.params.size==3
 |_,_=>false
def cQ (P:Program) (sg:BI) (f:Nat) (r:List AV):Bool:=match P.funcs[f]?,sg f with
 |some fn,some s=>MJ P fn s (.sl r)
 |_,_=>false
theorem zD6 {f t it el K:Nat} (hk:dI Tryz.prog Ci f t it el K=true) (E1: ∀r,cQ Tryz.prog Ci f r=true) (Nr:cT Tryz.prog f el K) (xs ys:List AV) (i:Int) (h0:0≤i) (h1:i≤xs.length) (hy:ys≠ []) (hb:(xs.length+ys.length)*1000≤140737488355328):
  Cj Tryz.prog Ci f [.sl xs, .int .i64 i, .sl ys] (.sl (xs.take i.toNat++ys++xs.drop i.toNat)):=by
 unfold dI at hk;split at hk
 ·rename_i fn s hf hs;simp only [Ae,Bool.not_eq_true',beq_iff_eq]at hk;obtain⟨⟨⟨⟨⟨⟨⟨⟨⟨⟨⟨⟨g1,g2⟩,g3⟩,g4⟩,g5⟩,g6⟩,g7⟩,g8⟩,g9⟩,g10⟩,g11⟩,g12⟩,g13⟩:=hk;obtain⟨hm,hr,Eb,B0⟩:s.cj= [.va [true], .ro, .va [true]]∧s.res= [true]∧s.ft= []∧s.lo= []:=by
   split at g1
   ·rename_i a b c d;exact⟨a,b,c,d⟩
   ·cases g1
  unfold Cj;rw [if_pos (Ro f s hs)];refine⟨s,hs,fn,hf,g2,g3,by have:=E1 (xs.take i.toNat++ys++xs.drop i.toNat);unfold cQ at this;rw [hf,hs]at this;exact this,by simp [g6,g13],by simp [Eb],fun w vs rf lf Ba Aw hd _ B2 DY=> ?_⟩;rw [g4,Eb,List.append_nil,hm,B0]at Aw;cases Aw with
  |lent h _ _ _=>cases h
  | @cons _ _ _ _ v1 vs1 _ _ f1 k1 rf1 lf1 Bz a1 Aw=>
   cases Aw with
   |lent h _ _ _=>cases h
   | @cons _ _ _ _ v2 vs2 _ _ f2 k2 rf2 lf2 AW a2 Aw=>
    cases Aw with
    |lent h _ _ _=>cases h
    | @cons _ _ _ _ v3 vs3 _ _ f3 k3 rf3 lf3 ET a3 Aw=>
     cases Aw;obtain⟨rfl,r1⟩:=w7 g7 g8 g9 g10 a1;obtain⟨rfl,r3⟩:=w7 g7 g8 g9 g10 a3;obtain⟨a2,rfl⟩:Rd w [v2] [AV.int .i64 i] f2∧k2= []:=a2;obtain⟨us,rfl2,hI,a2⟩:=U0 a2;obtain⟨rfl,rfl⟩:=Ld a2;cases rfl2;obtain⟨xs',cs,e1,p0,p1,p2,p3,p4,p5⟩:=r1.mv;cases e1;obtain⟨ys',cv,e2,_,q1,q2,q3,q4,q5⟩:=r3.mv;cases e2;rw [g11]at p0 p1 p2 p5 q1 q2 q5;obtain⟨vb,vc,VC,rfl,hv,rfl⟩: ∃g cap C,v3= .slice (some ⟨g,0,none⟩) ys.length cap∧GC w el K g cap C ys.length cv∧k3= [g]:=by
      rcases q5 with⟨h,_⟩|h
      ·exact absurd h hy
      ·exact h
     have hnd':k1++ [vb]=k1++([]++([vb]++ [])):=by simp
     have Vx: ∀g∈k1,vb≠g:=by intro g hg e;subst e;have:=(List.nodup_append.1 B2).2.2 vb hg vb (by simp);exact this rfl
     have hym:0<ys.length:=by cases ys with|nil=>exact absurd rfl hy|cons=>simp
     have hc:=Nr w v1 xs.length i.toNat cs k1 vb vc ys.length VC cv p2 (by
      rcases p5 with⟨rfl,_,q,rfl⟩|⟨g,cap,C,rfl,h,rfl⟩
      ·exact .inl ⟨rfl,q,rfl⟩
      ·exact .inr ⟨g,cap,C,rfl,h,by simp⟩) (by omega) hv Vx hym hb q4 p4
     rw [show((i.toNat:Nat):Int)=i by omega]at hc;refine hc.mono ?_;rintro e w' ⟨u,rfl,g,cap,C,rfl,⟨z1,z2,z3,z4,z5⟩,C8,Ec⟩;have Iy: ∀{us:List Value} {zs:List AV},Rd w us zs []→Rd w' us zs []:=fun h=>h.frame (by simp);have cut: ∀o n,Rd w ((cs.drop o).take n) (((AK xs).drop o).take n) []:=fun o n=>by
      obtain⟨gg,k1,k2⟩:=p3.piece o n;have:gg= []:=List.eq_nil_iff_forall_not_mem.2 fun b hb=>by simpa using k1 b hb
      rw [this]at k2;exact k2
     obtain⟨t1,t2⟩:=zx3 p1 (i:=i.toNat) (by omega);have hmul:=Nat.mul_le_mul_right K (show i.toNat≤xs.length by omega);have Dl:Rd w' (cs.take (i.toNat*K)++cv++cs.drop (i.toNat*K)) (AK (xs.take i.toNat++ys++xs.drop i.toNat)) []:=by rw [kA,kA,t1,t2];have c1:=cut 0 (i.toNat*K);have c2:=cut (i.toNat*K) (cs.length-i.toNat*K);rw [List.drop_zero,List.drop_zero]at c1;rw [List.take_of_length_le (by simp),List.take_of_length_le (by rw [List.length_drop,MB _ p1,p2];exact Nat.le_refl _)]at c2;exact(((Iy c1).app (Iy q3)).app (Iy c2))
     have hlen:(xs.take i.toNat++ys++xs.drop i.toNat).length=xs.length+ys.length:=by simp only [Ao,List.length_take,List.length_drop];omega
     have Bq:CK w' el K (.slice (some ⟨g,0,none⟩) (xs.length+ys.length) cap) (.sl (xs.take i.toNat++ys++xs.drop i.toNat)) [g] []:=by
      refine⟨_,rfl,fun y hy=> ?_,p0, .inr ⟨g,cap,C,by rw [hlen],by rw [hlen];exact z1,z2,z3,z4,rfl, ?_, ?_⟩⟩
      ·rcases Ah.1 hy with hy|hy
       ·rcases Ah.1 hy with hy|hy
        ·exact p1 y (List.mem_of_mem_take hy)
        ·exact q1 y hy
       ·exact p1 y (List.mem_of_mem_drop hy)
      ·rw [hlen,←z5];intro u hu;rcases Ah.1 hu with hu|hu
       ·rcases Ah.1 hu with hu|hu
        ·exact p4 u (List.mem_of_mem_take hu)
        ·exact q4 u hu
       ·exact p4 u (List.mem_of_mem_drop hu)
      ·rw [hlen,←z5];exact Dl
     refine⟨_,rfl,⟨⟨_, [], [], [g], [], [],rfl, ?_, ?_,by simp, ?_,by simp⟩,C8.weaken fun b hb=> .inl (by simp [hb])⟩⟩
     ·rw [g5];show Ex Tryz.prog w' t s.res _ _ [] [g];unfold Ex;rw [hr,if_pos g12];refine⟨[.slice (some ⟨g,0,none⟩) (xs.length+ys.length) cap], [.sl (xs.take i.toNat++ys++xs.drop i.toNat)],by rw [g7];simp, ?_⟩;rw [g8];have:=Ca.own (P:=Tryz.prog) (t:=t) (ts:= []) (fl:= [true]) (us:= []) (ys:= []) (rf:= []) (hs:= []) rfl g9 (.inl ⟨g10,rfl⟩) (by rw [g11];exact Bq) .nil;simpa using this
     ·rw [g4,Eb,List.append_nil,hm];exact .va rfl (.ro rfl (.va rfl .nil))
     ·intro b hb;simp only [List.append_nil,List.mem_singleton]at hb;subst hb;exact⟨by rcases Ec with h|h;exact .inl (by simp [h]);exact .inr h,Fu z3⟩
 ·cases hk
noncomputable def YX {α:Type} (xs:List α) (i:Int) (ys:List α):Option (List α):=req (0≤i∧i≤xs.length∧0<ys.length∧(xs.length+ys.length)*1000≤140737488355328) (some (xs.take i.toNat++ys++xs.drop i.toNat))
theorem zD3 {f t it el K:Nat} (hk:dI Tryz.prog Ci f t it el K=true) (E1: ∀r,cQ Tryz.prog Ci f r=true) (Nr:cT Tryz.prog f el K) {α:Type} {av:α→AV} {xs ys r:List α} {i:Int} (h:YX xs i ys=some r):
  Cj Tryz.prog Ci f [.sl (xs.map av), .int .i64 i, .sl (ys.map av)] (.sl (r.map av)):=by
 obtain⟨⟨h0,h1,h2,h3⟩,h⟩:=Hk h;cases h;have:=zD6 hk E1 Nr (xs.map av) (ys.map av) i h0 (by simpa using h1) (by cases ys with|nil=>simp at h2|cons=>simp) (by simpa using h3);simpa [List.map_append,List.map_take,List.map_drop]using this
theorem kC: ∃i z,Tryz.prog.info? 77=some i∧i.size=3∧i.zero=some z∧z.cells.size=3∧i.bytes≤1000:=by
 have h:(match Tryz.prog.info? 77 with|some i=>(match i.zero with|some z=>i.size==3&&z.cells.size==3&&decide (i.bytes≤1000)|none=>false)|none=>false)=true:=by kernel_rfl
 split at h
 ·rename_i i hi;split at h
  ·rename_i z hz;simp only [Ae,beq_iff_eq,decide_eq_true_eq]at h;exact⟨i,z,hi,h.1.1,hz,h.1.2,h.2⟩
  ·cases h
 ·cases h
set_option maxHeartbeats 4000000 in
theorem ztF (w:World) (v:Value) (n:Nat) (cs:List Value) (own:List Nat) (AE:cs.length=n*3) (Br:(n=0∧ ∃q,v= .slice q 0 0)∨ ∃g cap C,v= .slice (some ⟨g,0,none⟩) n cap∧GC w 77 3 g cap C n cs∧g∈own)
  (vb vc m:Nat) (VC:Array Value) (vs:List Value) (hv:GC w 77 3 vb vc VC m vs) (hm:0<m) (hb:(n+m)*1000≤140737488355328) (Kv: ∀u∈vs,u.oneCell'=true):
  Calls Tryz.prog 175 #[v, .int .i64 n, .slice (some ⟨vb,0,none⟩) m vc] w fun e w'=> ∃u,e= .returned u∧NU w w' 77 3 own u (n+m) (cs++vs):=by
 obtain⟨i0,z0,hi,hs,hz,DE,Gf⟩:=kC;have SU: ¬((m:Int)=0):=by omega
 have Fm:Src w i0.size (some ⟨vb,0,none⟩) m vs:= .inr ⟨_,rfl,by rw [hs];exact hv.len,fun j u hj=>hv.cell 0 j u (by simpa using hj),Kv⟩;obtain⟨v',w1,hr,AQ⟩:=mD (P:=Tryz.prog) w 25 25 77 i0 z0 Tryz.underlying25 hi hz (by rw [DE,hs]) (by omega) (fun b=>b∈own) v n cs (by rw [hs];exact AE)
  (by
   rcases Br with h|⟨g,cap,C,rfl,⟨h1,h2,h3,h4,h5⟩,h6⟩
   ·exact .inl h
   ·exact .inr ⟨g,cap,C,rfl,h1,h2,h3,by rw [hs];exact h4,by rw [hs];exact h5,h6⟩)
  (some ⟨vb,0,none⟩) m vc vs Fm (by simp only [maxLen];omega) (by have:=Nat.mul_le_mul_left (n+m) Gf;omega)
 have fin:NU w w1 77 3 own v' (n+m) (cs++vs):=by
  rcases AQ with⟨_,_,h⟩|⟨g,cap,C,rfl,h1,h2,h3,h4,h5,h6,h7⟩
  ·omega
  ·refine⟨g,cap,C,rfl,⟨h1,h2,h3,by rw [hs]at h4;exact h4,by rw [hs]at h5;exact h5.symm⟩, ?_,h7.symm.imp id fun h=>by omega⟩;refine⟨h6.os,h6.tape,h6.output,h6.size,fun b hb hn=>h6.block b hb fun e=> ?_⟩;cases e;rcases h7 with h7|h7
   ·omega
   ·exact hn h7
 clear AQ;rcases Br with⟨rfl,q,rfl⟩|⟨g,cap,C,rfl,_,_⟩
 ·cases q with
  |none=>
   go_enter Tryz.func175,Tryz.ntmps175
   go_wp2_with (at_builtin;refine Lib.wpList_append_run _ rfl _ _ _ _ rfl _ _ rfl rfl _ _ hr ?_)
   all_goals (go_ret;exact⟨_,rfl,fin⟩)
  |some q=>
   obtain⟨qb,qo,qs⟩:=q
   go_enter Tryz.func175,Tryz.ntmps175
   go_wp2_with (at_builtin;refine Lib.wpList_append_run _ rfl _ _ _ _ rfl _ _ rfl rfl _ _ hr ?_)
   all_goals (go_ret;exact⟨_,rfl,fin⟩)
 ·go_enter Tryz.func175,Tryz.ntmps175
  go_wp2_with (at_builtin;refine Lib.wpList_append_run _ rfl _ _ _ _ rfl _ _ rfl rfl _ _ hr ?_)
  all_goals (go_ret;exact⟨_,rfl,fin⟩)
set_option maxHeartbeats 4000000 in
theorem zsa (w:World) (n i g cap:Nat) (C:Array Value) (cs:List Value) (own:List Nat) (vb vc m:Nat) (Br:GC w 77 3 g cap C n cs) (BZ:i<n) (Cg:cap<n+m)
  (VC:Array Value) (vs:List Value) (hv:GC w 77 3 vb vc VC m vs) (hm:0<m) (hb:(n+m)*1000≤140737488355328) (Kv: ∀u∈vs,u.oneCell'=true) (Ix: ∀u∈cs,u.oneCell'=true):
  Calls Tryz.prog 175 #[.slice (some ⟨g,0,none⟩) n cap, .int .i64 i, .slice (some ⟨vb,0,none⟩) m vc] w fun e w'=> ∃u,e= .returned u∧NU w w' 77 3 own u (n+m) (cs.take (i*3)++vs++cs.drop (i*3)):=by
 obtain⟨i0,z0,hi,hs,hz,DE,Gf⟩:=kC;have AE:=Br.len;have DL:=hv.len;have ZH:=Br;obtain⟨Sw,KE,hg,RO,Bj⟩:=ZH;have hgw:g<w.heap.size:=Fu hg;have hvw:vb<w.heap.size:=Fu hv.2.2.1;have BV:(Tryz.prog.info? 77).map (·.size)=some 3:=by rw [hi];simp [hs]
 have Z6:i+(n+m-i)=n+m:=by omega
 have Vz:(n+m)*i0.bytes≤140737488355328:=Nat.le_trans (Nat.mul_le_mul_left _ Gf) hb;have Pa:(n+m-i)*i0.bytes≤140737488355328:=Nat.le_trans (Nat.mul_le_mul_right _ (by omega)) Vz;have hold:(Builtin.firstCells i0.size i (.slice (some ⟨g,0,none⟩) i cap)).run Tryz.prog w.drew= .ok (cs.take (i*3)).toArray w.drew:=by
  rw [hs];exact run_firstCells_some w.drew 3 i ⟨g,0,none⟩ i cap (cs.take (i*3)) (by rw [List.length_take];omega) (fun j v hj=>by
   rw [List.getElem?_take]at hj;split at hj
   ·exact Br.cell 0 j v (by simpa using hj)
   ·cases hj)
 have bI: ∀ty,(Builtin.append_ #[25,3] ty #[.slice (some ⟨g,0,none⟩) i cap, .int .i64 ((n:Int)+(m:Int)-(i:Int))]).run Tryz.prog w=
   .ok (.slice (some ⟨w.heap.size,0,none⟩) (n+m) (grownCap w (n+m) cap 77)) (w.drew.alloc (.cells ((cs.take (i*3)).toArray++Builtin.zeroCells z0.cells (n+m-i)++Builtin.zeroCells z0.cells (grownCap w (n+m) cap 77-(n+m))) 77)):=fun ty=>by
  have h:=Lib.run_append_grow_zeros w 25 3 ty 77 i0 z0 .i64 .i64 Tryz.underlying25 Tryz.underlying3 hi hz (some ⟨g,0,none⟩) i cap (cs.take (i*3)) hold (n+m-i) (by omega) (by omega) (by omega) (by omega) (by omega) (by rw [Z6];exact growslice_fits Cg Vz);rw [Z6]at h;rw [show(n:Int)+(m:Int)-(i:Int)=((n+m-i:Nat):Int) by omega];exact h
 obtain⟨G,hG⟩: ∃G,G=grownCap w (n+m) cap 77:=⟨_,rfl⟩
 obtain⟨ROW,Ky⟩: ∃ROW:Array Value,ROW=(cs.take (i*3)).toArray++Builtin.zeroCells z0.cells (n+m-i)++Builtin.zeroCells z0.cells (G-(n+m)):=⟨_,rfl⟩
 have hGn:n+m≤G:=by rw [hG];exact grownCap_ge w _ _ _
 have RQ:G≤maxLen:=by rw [hG];exact grownCap_le_maxLen w (n+m) cap 77 (by unfold maxLen;omega)
 have hG64:G≤9223372036854775807:=RQ;rw [←hG]at bI;rw [←Ky]at bI;have hRs:ROW.size=G*3:=by rw [Ky];simp only [Array.size_append,List.size_toArray,List.length_take,size_zeroCells,DE];omega
 obtain⟨ROW2,O7⟩: ∃R:Array Value,R=(ROW.toList.take (i*3)++vs++ROW.toList.drop (i*3+vs.length)).toArray:=⟨_,rfl⟩
 obtain⟨ROW3,Vu⟩: ∃R:Array Value,R=(ROW2.toList.take ((i+m)*3)++cs.drop (i*3)++ROW2.toList.drop ((i+m)*3+(cs.drop (i*3)).length)).toArray:=⟨_,rfl⟩
 have Zw:ROW2.size=G*3:=by rw [O7];simp only [List.size_toArray,Ao,List.length_take,List.length_drop,Array.length_toList];omega
 have Zx:ROW3.size=G*3:=by rw [Vu];simp only [List.size_toArray,Ao,List.length_take,List.length_drop,Array.length_toList];omega
 obtain⟨N,hN⟩: ∃N,N=w.heap.size:=⟨_,rfl⟩
 have hA:(w.alloc (.cells ROW 77)).heap[N]?=some (.cells ROW 77 (0,0)):=by rw [hN];exact heap_alloc_new w _
 have hO: ∀k,k<N→(w.alloc (.cells ROW 77)).heap[k]?=w.heap[k]?:=fun k hk=>Below.heap_alloc w _ k (by omega);have ZL: ∀(W:World),W.heap=(w.alloc (.cells ROW 77)).heap→ ∀ty dc,(Builtin.copy_ #[25,25] ty #[.slice (some ⟨N,i*3,none⟩) (n+m-i) dc, .slice (some ⟨vb,0,none⟩) m vc]).run Tryz.prog W= .ok (goInt m) (W.setRow N ROW2):=fun W hW ty dc=>by
  have h:=X0 (P:=Tryz.prog) W 25 25 ty 77 3 N (i*3) (n+m-i) dc ⟨vb,0,none⟩ m vc ROW 77 vs Tryz.underlying25 BV (by rw [hW];exact hA) (by rw [DL,show Nat.min m (n+m-i)=m from Nat.min_eq_left (by omega)])
   (fun j v hj=>by rw [World.cell?_of_block (w:=w) (by rw [Addr.add_lit,hW];exact hO vb (by omega))];exact hv.cell 0 j v (by simpa using hj)) (by rw [hRs,DL];omega) Kv
  rw [show Nat.min m (n+m-i)=m from Nat.min_eq_left (by omega),←O7]at h;exact h
 have hB:((w.alloc (.cells ROW 77)).setRow N ROW2).heap[N]?=some (.cells ROW2 77 (0,0)):=setRow_heap _ _ _ _ _ _ hA;have Zu: ∀k,k<N→((w.alloc (.cells ROW 77)).setRow N ROW2).heap[k]?=w.heap[k]?:=fun k hk=>by rw [setRow_other _ _ _ _ (by omega)];exact hO k hk
 have R8: ∀(W:World),W.heap=((w.alloc (.cells ROW 77)).setRow N ROW2).heap→ ∀ty dc sc,(Builtin.copy_ #[25,25] ty #[.slice (some ⟨N,(i+m)*3,none⟩) (n+m-(i+m)) dc, .slice (some ⟨g,i*3,none⟩) (n-i) sc]).run Tryz.prog W= .ok (goInt ((n-i:Nat):Int)) (W.setRow N ROW3):=fun W hW ty dc sc=>by
  have h:=X0 (P:=Tryz.prog) W 25 25 ty 77 3 N ((i+m)*3) (n+m-(i+m)) dc ⟨g,i*3,none⟩ (n-i) sc ROW2 77 (cs.drop (i*3)) Tryz.underlying25 BV (by rw [hW];exact hB) (by rw [List.length_drop,AE,show Nat.min (n-i) (n+m-(i+m))=n-i from Nat.min_eq_left (by omega)];omega)
   (fun j v hj=>by rw [World.cell?_of_block (w:=w) (by rw [Addr.add_lit,hW];exact Zu g (by omega))];exact Br.cell (i*3) j v hj) (by rw [Zw,List.length_drop,AE];omega) (fun v hv=>Ix v (List.mem_of_mem_drop hv))
  rw [show Nat.min (n-i) (n+m-(i+m))=n-i from Nat.min_eq_left (by omega),←Vu]at h;exact h
 have fin: ∀W:World,W.os=w.os→W.tape=w.tape→W.output=w.output→W.heap=(((w.alloc (.cells ROW 77)).setRow N ROW2).setRow N ROW3).heap→NU w W 77 3 own (.slice (some ⟨N,0,none⟩) (n+m) G) (n+m) (cs.take (i*3)++vs++cs.drop (i*3)):=fun W w1 w2 w3 hW=>by refine⟨N,G,ROW3,rfl,⟨hGn,RQ,by rw [hW];exact setRow_heap _ _ _ _ _ _ hB,Zx, ?_⟩,⟨w1,w2,w3,by rw [hW];simp,fun k hk _=>by rw [hW,setRow_other _ _ _ _ (by omega)];exact Zu k (by omega)⟩, .inr (by omega)⟩;have h:=two ((Builtin.zeroCells z0.cells (n+m-i)).toList++(Builtin.zeroCells z0.cells (G-(n+m))).toList) cs vs (i*3) (m*3) (n*3) ROW.toList (by rw [Ky];simp) AE (Nat.mul_le_mul_right _ (by omega)) DL (by simp only [Ao,Array.length_toList,size_zeroCells,DE];omega);rw [Vu,O7,Nat.add_mul n m,Nat.add_mul i m];exact h.symm
 have SU: ¬((m:Int)=0):=by omega
 have SW: ¬((i:Int)=(n:Int)):=by omega
 have hz3:(cap:Int)<(n:Int)+(m:Int):=by omega
 have hGi: ¬(G=i):=by omega
 have hGim: ¬(G=i+m):=by omega
 have R6: ¬(cap=i):=by omega
 have F1:IntKind.i64.wrap ((i:Int)+(m:Int))=(i:Int)+(m:Int):=by rw [IntKind.wrap_i64];omega
 have HY:(0:Int)≤(i:Int)+(m:Int):=by omega
 have Z8:i≤n:=by omega
 have htn:((i:Int)+(m:Int)).toNat=i+m:=by omega
 have FH:(i:Int)≤(n:Int):=by omega
 have nE:((w.alloc (.cells ROW 77)).drew).heap=(w.alloc (.cells ROW 77)).heap:=rfl;have Zn:(((w.alloc (.cells ROW 77)).drew.setRow N ROW2).drew).heap=((w.alloc (.cells ROW 77)).setRow N ROW2).heap:=rfl;subst hN;clear hold Z6 Ky hG O7 Vu hA hO hB Zu Bj
 go_enter Tryz.func175,Tryz.ntmps175
 go_wp2_with (first
  |(at_builtin;refine Lib.wpList_append_run _ rfl _ _ _ _ rfl _ _ rfl rfl _ _ (bI _) ?_)
  |(at_builtin;refine gQ _ rfl _ _ 25 25 rfl _ _ rfl rfl (ZL _ nE _ _) ?_)
  |(at_builtin;refine gQ _ rfl _ _ 25 25 rfl _ _ rfl rfl (R8 _ rfl _ _ _) ?_))
 go_region_law (refine uX rfl _ _ 25 25 rfl (.slice (some ⟨w.heap.size,(i+m)*3,none⟩) (n+m-(i+m)) (G-(i+m))) (.slice (some ⟨g,i*3,none⟩) (n-i) (cap-i)) (by simp [Act.eval,Act.put]) (by simp [Act.eval,Act.put]) (R8 _ Zn 3 (G-(i+m)) (cap-i)) ?_)
 go_wp2
 go_ret
 exact⟨_,rfl,fin _ rfl rfl rfl rfl⟩
set_option maxHeartbeats 4000000 in
theorem zp3 (w:World) (n i g cap:Nat) (C:Array Value) (cs:List Value) (own:List Nat) (vb vc m:Nat) (Br:GC w 77 3 g cap C n cs) (Ec:g∈own) (BZ:i<n) (Cg:n+m≤cap) (VS:vb≠g)
  (VC:Array Value) (vs:List Value) (hv:GC w 77 3 vb vc VC m vs) (hm:0<m) (hb:(n+m)*1000≤140737488355328) (Kv: ∀u∈vs,u.oneCell'=true) (Ix: ∀u∈cs,u.oneCell'=true):
  Calls Tryz.prog 175 #[.slice (some ⟨g,0,none⟩) n cap, .int .i64 i, .slice (some ⟨vb,0,none⟩) m vc] w fun e w'=> ∃u,e= .returned u∧NU w w' 77 3 own u (n+m) (cs.take (i*3)++vs++cs.drop (i*3)):=by
 obtain⟨i0,z0,hi,hs,hz,DE,Gf⟩:=kC;have AE:=Br.len;have DL:=hv.len;have ZH:=Br;obtain⟨Sw,KE,hg,RO,Bj⟩:=ZH;have hgw:g<w.heap.size:=Fu hg;have BV:(Tryz.prog.info? 77).map (·.size)=some 3:=by rw [hi];simp [hs]
 have hc64:cap≤9223372036854775807:=KE;have Pk:=hv.2.2.1;have aY: ∀lb cb,(callFunc 198 #[.slice (some ⟨vb,0,none⟩) m vc, .slice (some ⟨g,(i+m)*3,none⟩) lb cb]).run Tryz.prog w= .ok (.value (.bool false)) w:=fun lb cb=>by
  rw [run_callFunc_extern Tryz.func198 (by kernel_rfl) (by kernel_rfl) (by kernel_rfl) (e:=Extern.SlicesOverlaps.overlaps #[25,25] #[4]) (by kernel_rfl),
   Lib.run_overlaps_apart w 25 4 77 Tryz.underlying25 3 (fun w=>by simp [Go.sizeOf,typeInfo,hi,hs]) ⟨vb,0,none⟩ ⟨g,(i+m)*3,none⟩ m vc lb cb VS 77 77 VC.size C.size (by simp [World.shape?,Pk]) (by simp [World.shape?,hg]) (by omega) (by simp [World.frozen?,Pk]) (by simp [World.frozen?,Pk])]
  rfl
 obtain⟨C1,Kw⟩: ∃R:Array Value,R=(C.toList.take ((i+m)*3)++cs.drop (i*3)++C.toList.drop ((i+m)*3+(cs.drop (i*3)).length)).toArray:=⟨_,rfl⟩
 obtain⟨C2,Vp⟩: ∃R:Array Value,R=(C1.toList.take (i*3)++vs++C1.toList.drop (i*3+vs.length)).toArray:=⟨_,rfl⟩
 have Zl:C1.size=cap*3:=by rw [Kw];simp only [List.size_toArray,Ao,List.length_take,List.length_drop,Array.length_toList];omega
 have Zm:C2.size=cap*3:=by rw [Vp];simp only [List.size_toArray,Ao,List.length_take,List.length_drop,Array.length_toList];omega
 have ZJ: ∀(W:World),W.heap=w.heap→ ∀ty dc sc,(Builtin.copy_ #[25,25] ty #[.slice (some ⟨g,(i+m)*3,none⟩) (n+m-(i+m)) dc, .slice (some ⟨g,i*3,none⟩) (n+m-i) sc]).run Tryz.prog W= .ok (goInt ((n-i:Nat):Int)) (W.setRow g C1):=fun W hW ty dc sc=>by
  have h:=X0 (P:=Tryz.prog) W 25 25 ty 77 3 g ((i+m)*3) (n+m-(i+m)) dc ⟨g,i*3,none⟩ (n+m-i) sc C 77 (cs.drop (i*3)) Tryz.underlying25 BV (by rw [hW];exact hg) (by rw [List.length_drop,AE,show Nat.min (n+m-i) (n+m-(i+m))=n-i from by rw [show Nat.min (n+m-i) (n+m-(i+m))=n+m-(i+m)from Nat.min_eq_right (by omega)];omega];omega)
   (fun j v hj=>by rw [World.cell?_of_block (w:=w) (by rw [hW])];exact Br.cell (i*3) j v hj) (by rw [RO,List.length_drop,AE];omega) (fun v hv=>Ix v (List.mem_of_mem_drop hv))
  rw [show Nat.min (n+m-i) (n+m-(i+m))=n-i from by rw [show Nat.min (n+m-i) (n+m-(i+m))=n+m-(i+m)from Nat.min_eq_right (by omega)];omega,←Kw]at h;exact h
 have hB:(w.setRow g C1).heap[g]?=some (.cells C1 77 (0,0)):=setRow_heap _ _ _ _ _ _ hg;have ZK: ∀(W:World),W.heap=(w.setRow g C1).heap→ ∀ty dc,(Builtin.copy_ #[25,25] ty #[.slice (some ⟨g,i*3,none⟩) (n+m-i) dc, .slice (some ⟨vb,0,none⟩) m vc]).run Tryz.prog W= .ok (goInt m) (W.setRow g C2):=fun W hW ty dc=>by
  have h:=X0 (P:=Tryz.prog) W 25 25 ty 77 3 g (i*3) (n+m-i) dc ⟨vb,0,none⟩ m vc C1 77 vs Tryz.underlying25 BV (by rw [hW];exact hB) (by rw [DL,show Nat.min m (n+m-i)=m from Nat.min_eq_left (by omega)])
   (fun j v hj=>by rw [World.cell?_of_block (w:=w) (by rw [Addr.add_lit,hW];exact setRow_other _ _ _ _ (by simpa using VS))];exact hv.cell 0 j v (by simpa using hj)) (by rw [Zl,DL];omega) Kv
  rw [show Nat.min m (n+m-i)=m from Nat.min_eq_left (by omega),←Vp]at h;exact h
 have fin: ∀W:World,W.os=w.os→W.tape=w.tape→W.output=w.output→W.heap=((w.setRow g C1).setRow g C2).heap→NU w W 77 3 own (.slice (some ⟨g,0,none⟩) (n+m) cap) (n+m) (cs.take (i*3)++vs++cs.drop (i*3)):=fun W w1 w2 w3 hW=>by refine⟨g,cap,C2,rfl,⟨Cg,KE,by rw [hW];exact setRow_heap _ _ _ _ _ _ hB,Zm, ?_⟩,⟨w1,w2,w3,by rw [hW];simp,fun k hk hn=>by rw [hW,setRow_other _ _ _ _ (fun e=>hn (by first|(rw [e];exact Ec)|(rw [←e];exact Ec))),setRow_other _ _ _ _ (fun e=>hn (by first|(rw [e];exact Ec)|(rw [←e];exact Ec)))]⟩, .inl Ec⟩;have h:=zFQ C.toList cs vs (i*3) (m*3) (n*3) Bj (Nat.mul_le_mul_right _ (by omega)) DL (by rw [Array.length_toList,RO];omega);rw [Vp,Kw,Nat.add_mul n m,Nat.add_mul i m];exact h.symm
 have SU: ¬((m:Int)=0):=by omega
 have SW: ¬((i:Int)=(n:Int)):=by omega
 have hz3: ¬((cap:Int)<(n:Int)+(m:Int)):=by omega
 have R6: ¬(cap=i):=by omega
 have hcim: ¬(cap=i+m):=by omega
 have F1:IntKind.i64.wrap ((i:Int)+(m:Int))=(i:Int)+(m:Int):=by rw [IntKind.wrap_i64];omega
 have HY:(0:Int)≤(i:Int)+(m:Int):=by omega
 have Z8:i≤n:=by omega
 have htn:((i:Int)+(m:Int)).toNat=i+m:=by omega
 have FH:(i:Int)≤(n:Int):=by omega
 have hb4:(i:Int)≤(n:Int)+(m:Int):=by omega
 have Zn:(w.drew).heap=w.heap:=rfl;have hF2:(w.drew.setRow g C1).heap=(w.setRow g C1).heap:=rfl;clear Kw Vp hB Bj Pk hg
 go_enter Tryz.func175,Tryz.ntmps175
 go_wp2_with (simp only [aY])
 go_region_law (refine uX rfl _ _ 25 25 rfl (.slice (some ⟨g,(i+m)*3,none⟩) (n+m-(i+m)) (cap-(i+m))) (.slice (some ⟨g,i*3,none⟩) (n+m-i) (cap-i)) (by simp [Act.eval,Act.put]) (by simp [Act.eval,Act.put]) (ZJ _ Zn 3 (cap-(i+m)) (cap-i)) ?_)
 go_wp2_with (at_builtin;refine gQ _ rfl _ _ 25 25 rfl _ _ rfl rfl (ZK _ hF2 _ _) ?_)
 go_ret
 exact⟨_,rfl,fin _ rfl rfl rfl rfl⟩
theorem zAJ:cT Tryz.prog 175 77 3:=by
 intro w v n i cs own vb vc m VC vs AE Br BZ hv VS hm hb Kv Ix;by_cases he:i=n
 ·subst he;refine(ztF w v i cs own AE Br vb vc m VC vs hv hm hb Kv).mono ?_;rintro e w' ⟨u,rfl,h⟩;refine⟨u,rfl, ?_⟩;rw [List.take_of_length_le (by omega),List.drop_eq_nil_of_le (by omega),List.append_nil];exact h
 ·rcases Br with⟨rfl,_⟩|⟨g,cap,C,rfl,hr,hg⟩
  ·omega
  ·by_cases hc:n+m≤cap
   ·exact zp3 w n i g cap C cs own vb vc m hr hg (by omega) hc (VS g hg) VC vs hv hm hb Kv Ix
   ·exact zsa w n i g cap C cs own vb vc m hr (by omega) (by omega) VC vs hv hm hb Kv Ix
end Go.Proofs.YtlhlgboblghkdaaGreatDoor
end
section
namespace Go.Proofs.YtlhlgboblghkdaaGreatDoor
open Go Go.Proofs Go.Shelf Go.Sort Go.RowKit
set_option maxRecDepth 100000
set_option maxHeartbeats 1000000
def rH (P:Program) (sg:BI) (f np:Nat) (r:AV):Bool:=
 match P.funcs[f]?,sg f with
 |some fn,some s=>fn.body.isSome&& !(fn.name== "runtime.NumGoroutine")&&MJ P fn s r&&s.cj.all (fun m=>match m with| .ro=>true|_=>false)&&fn.params.size==np&&fn.nfree==0&&(s.ft.isEmpty&&s.lo.isEmpty)&&(match fn.resultTypes.toList with| [t,u]=> !Gx P t s.res&& !Gx P u (s.res.drop (A0 P t).length)|_=>false)
 |_,_=>false
theorem zCi {f:Nat} {xs:List AV} {y1 y2:AV} (hk:rH Tryz.prog Ci f xs.length (.tup [y1,y2])=true) (hc: ∀(w:World) (vs:List Value) (rf:List Nat),Fs.n≤w.heap.size→Fs.K w→Rd w vs xs rf→Calls Tryz.prog f vs.toArray w fun e w'=>Mod [] w w'∧ ∃v1 v2 f1 f2,e= .returned (.tuple #[v1,v2])∧Rd w' [v1] [y1] f1∧Rd w' [v2] [y2] f2∧ ∀b∈f1++f2,b∈rf∨w.heap.size≤b):Cj Tryz.prog Ci f xs (.tup [y1,y2]):=by
 unfold rH at hk;split at hk
 ·rename_i fn s hf hs;simp only [Ae,Bool.not_eq_true',beq_iff_eq,AG]at hk;obtain⟨⟨⟨⟨⟨⟨⟨h1,h2⟩,h3⟩,h4⟩,h5⟩,h6⟩,Eb⟩,h7⟩:=hk;obtain⟨Eb,B0⟩:s.ft= []∧s.lo= []:=by simpa using Eb
  have IB: ∀m∈s.cj,m= .ro:=fun m hm=>by
   have:=h4 m hm;split at this
   ·rfl
   ·cases this
  unfold Cj;rw [if_pos (Ro f s hs)];refine⟨s,hs,fn,hf,h1,h2,h3,by omega,by simp [Eb],fun w vs rf lf Ba Aw hd _ B2 DY=> ?_⟩;obtain⟨hr,rfl⟩:=Aw.rd B0 IB;refine(hc w vs rf DY.1 DY.2.1 hr).mono ?_;rintro e w' ⟨hm,v1,v2,f1,f2,rfl,EB,C4,hb⟩;refine⟨_,rfl,⟨⟨.tup [y1,y2], [],f1++f2, [], [], [],rfl, ?_,DF.j1 ?_ IB,by simp,by simp,fun b BT=>⟨by simp, ?_⟩⟩,hm⟩⟩
  ·split at h7
   ·rename_i t u ht;simp only [Ae,Bool.not_eq_true']at h7;rw [ht];refine⟨[v1,v2], [y1,y2],rfl,rfl, ?_⟩;have a1:Ex Tryz.prog w' t s.res v1 y1 f1 []:=by
     unfold Ex;rw [if_neg (by rw [h7.1];simp)];exact⟨EB,rfl⟩
    have a2:Ex Tryz.prog w' u (s.res.drop (A0 Tryz.prog t).length) v2 y2 f2 []:=by unfold Ex;rw [if_neg (by rw [h7.2];simp)];exact⟨C4,rfl⟩
    have:=IT.cons a1 (IT.cons a2 (IT.nil (P:=Tryz.prog) (w:=w') (fl:=(s.res.drop (A0 Tryz.prog t).length).drop (A0 Tryz.prog u).length)));simpa using this
   ·cases h7
  ·rw [hr.len];simp [Eb];omega
  ·rcases hb b (by simpa using BT)with h|h
   ·exact .inl h
   ·exact .inr (.inr h)
 ·cases hk
def gA (n:Int):Option (List UInt8):=some (Lib.itoa n)
theorem yI {w:World} (h:Fs.K w):Lib.TabIs Tryz.prog w "internal/strconv.uint64pow10" .u64 Lib.pow10Tab:=by obtain⟨_,_,k⟩:=h;exact k.trans (by kernel_rfl)
theorem zBx (n:Int) (h0: -9223372036854775808≤n) (h1:n≤9223372036854775807):(Lib.itoa n).length≤9223372036854775807:=by
 have key: ∀(k u:Nat),u<10^k→(Lib.decDigits u).length≤k+1:=by
  intro k
  induction k with
  |zero=>intro u hu;rw [Lib.decDigits,dif_pos (by omega)];simp
  |succ k ih=>
   intro u hu;rw [Lib.decDigits];split
   ·simp
   ·rw [Ao,AD];have:=ih (u/10) (by rw [Nat.pow_succ]at hu;omega);omega
 unfold Lib.itoa;split
 ·rw [Ar];have:=key 20 n.natAbs (by omega);omega
 ·have:=key 20 n.toNat (by omega)
  omega
theorem VZ {n:Int} (h:Ey .i64 n): -9223372036854775808≤n∧n≤9223372036854775807:=by unfold Ey at h;rw [IntKind.wrap_i64]at h;omega
theorem yR (w:World) (k:Nat) (os:Array Obj):Mod [] w (grow (w.drewN k) os):=by
 refine⟨rfl,rfl,rfl, ?_,fun b hb _=> ?_⟩
 ·show w.heap.size≤(w.heap++os).size;rw [Array.size_append];omega
 ·show(w.heap++os)[b]?=w.heap[b]?;rw [Array.getElem?_append_left hb]
theorem zr9 (a0:Int) (r:List UInt8) (h:gA a0=some r):Cj Tryz.prog Ci 173 [.int .i64 a0] (.str r):=yA (by kernel_rfl) fun w vs rf hK hr=>by obtain⟨us,rfl,hn,hr⟩:=U0 hr;obtain⟨rfl,rfl⟩:=Ld hr;cases h;refine(Tryz.strconv_Itoa a0 (VZ hn).1 (VZ hn).2 w (yI hK)).mono ?_;rintro e w' ⟨rfl,k,os,rfl⟩;have hl:=zBx a0 (VZ hn).1 (VZ hn).2;exact⟨yR w k os,_, [],rfl,by have:=Rd.str (w:=grow (w.drewN k) os) (s:=⟨(Lib.itoa a0).toArray⟩) (vs:= []) (xs:= []) (f:= []) (by show(Lib.itoa a0).toArray.size≤_;simpa using hl) .nil;simpa using this,by simp⟩
theorem zyW (w:World) (ty:TypeId) (t:ByteArray):Mod [] w (Lib.bytesWorld w ty t):=Mod.eb (Lib.bytesWorld_below w ty t) (Nat.le_refl _)
theorem xZ (a b c:Int) (w:World):Calls Tryz.prog 33 #[.int .i64 a, .int .i64 b, .int .i64 c] w fun e w'=>e= .returned (.bool (decide (a≥b)&&decide (a≤c)))∧w'=w:=by
 by_cases h1:a≥b
 ·go_enter Tryz.func33,Tryz.ntmps33
  go_wp2
  go_ret
  simp [h1]
 ·go_enter Tryz.func33,Tryz.ntmps33
  go_wp2
  go_ret
  simp;intro h;omega
def MU (s:List UInt8) (lo hi:Int):Int × Bool:=match Lib.atoiAll s with
 | .ok n=>if lo≤n∧n≤hi∧Lib.itoa n=s then(n,true)else(0,false)
 |_=>(0,false)
theorem zBm {s:ByteArray} {w:World} (hs:s.size≤281474976710656) (hK:Fs.K w) (h: ∀v,Lib.atoiAll s.data.toList≠ .ok v):
  Calls Tryz.prog 212 #[.string s] w fun e w'=> ∃v te N,e= .returned (.tuple #[.int .i64 v, .iface te (.pointer (some ⟨N,0,none⟩))])∧Mod [] w w':=by
 obtain⟨⟨t1,p1,k1⟩,⟨t2,p2,k2⟩,_⟩:=hK;rcases hA:Lib.atoiAll s.data.toList with v|_|_
 ·exact absurd hA (h v)
 ·exact(Any.strconv_Atoi_syntax_var Tryz.gh s hs hA t1 p1 w k1).mono fun e w' ⟨N,he,_,_,hB⟩=>⟨_,_,_,he,Mod.eb hB (Nat.le_refl _)⟩
 ·exact(Any.strconv_Atoi_range_var Tryz.gh s hs hA t2 p2 w k2).mono fun e w' ⟨N,he,_,_,hB⟩=>⟨_,_,_,he,Mod.eb hB (Nat.le_refl _)⟩
theorem zzH {s:ByteArray} {lo hi:Int} {w:World} (hc:Calls Tryz.prog 212 #[.string s] w fun e w'=> ∃v te N,e= .returned (.tuple #[.int .i64 v, .iface te (.pointer (some ⟨N,0,none⟩))])∧Mod [] w w'):
  Calls Tryz.prog 193 #[.string s, .int .i64 lo, .int .i64 hi] w fun e w'=>e= .returned (.tuple #[.int .i64 0, .bool false])∧Mod [] w w':=by
 go_enter Tryz.func193,Tryz.ntmps193
 go_wp2_with (go_at_call 212;refine hc.mono ?_;rintro e w' ⟨v,te,N,rfl,hm⟩)
 go_ret2
 exact⟨rfl,hm⟩
section
variable (s:ByteArray) (n lo hi:Int) (w:World)
def Rr:Prop:=Calls Tryz.prog 212 #[.string s] w fun e w'=>e= .returned (.tuple #[.int .i64 n, .nilIface])∧Mod [] w w'
theorem zAb (hA:Rr s n w) (hw: ∀W,Calls Tryz.prog 33 #[.int .i64 n, .int .i64 lo, .int .i64 hi] W fun e w'=>e= .returned (.bool false)∧w'=W):
  Calls Tryz.prog 193 #[.string s, .int .i64 lo, .int .i64 hi] w fun e w'=>e= .returned (.tuple #[.int .i64 0, .bool false])∧Mod [] w w':=by
 unfold Rr at hA
 go_enter Tryz.func193,Tryz.ntmps193
 go_wp2_with (first|(go_at_call 212;refine hA.mono ?_;rintro e W1 ⟨rfl,hm⟩)|(go_at_call 33;refine(hw _).mono ?_;rintro e W2 ⟨rfl,rfl⟩))
 go_ret2
 exact⟨rfl,hm⟩
theorem zyN (q:ByteArray) (hq:(q.toList==s.toList)=false) (hA:Rr s n w) (hw: ∀W,Calls Tryz.prog 33 #[.int .i64 n, .int .i64 lo, .int .i64 hi] W fun e w'=>e= .returned (.bool true)∧w'=W)
  (hI: ∀W1,Mod [] w W1→Calls Tryz.prog 173 #[.int .i64 n] W1 fun e w'=>e= .returned (.string q)∧Mod [] w w'):
  Calls Tryz.prog 193 #[.string s, .int .i64 lo, .int .i64 hi] w fun e w'=>e= .returned (.tuple #[.int .i64 0, .bool false])∧Mod [] w w':=by
 unfold Rr at hA
 go_enter Tryz.func193,Tryz.ntmps193
 go_wp2_with (first|(go_at_call 212;refine hA.mono ?_;rintro e W1 ⟨rfl,hm⟩)|(go_at_call 33;refine(hw _).mono ?_;rintro e W2 ⟨rfl,rfl⟩)|(go_at_call 173;refine(hI _ hm).mono ?_;rintro e W3 ⟨rfl,Pg⟩))
 go_ret2
 exact⟨rfl,Pg⟩
theorem zzG (hA:Rr s n w) (hw: ∀W,Calls Tryz.prog 33 #[.int .i64 n, .int .i64 lo, .int .i64 hi] W fun e w'=>e= .returned (.bool true)∧w'=W)
  (hI: ∀W1,Mod [] w W1→Calls Tryz.prog 173 #[.int .i64 n] W1 fun e w'=>e= .returned (.string s)∧Mod [] w w'):
  Calls Tryz.prog 193 #[.string s, .int .i64 lo, .int .i64 hi] w fun e w'=>e= .returned (.tuple #[.int .i64 n, .bool true])∧Mod [] w w':=by
 unfold Rr at hA
 go_enter Tryz.func193,Tryz.ntmps193
 go_wp2_with (first|(go_at_call 212;refine hA.mono ?_;rintro e W1 ⟨rfl,hm⟩)|(go_at_call 33;refine(hw _).mono ?_;rintro e W2 ⟨rfl,rfl⟩)|(go_at_call 173;refine(hI _ hm).mono ?_;rintro e W3 ⟨rfl,Pg⟩))
 go_ret2
 exact⟨rfl,Pg⟩
end
theorem zza (s:ByteArray) (lo hi:Int) (w:World) (hs:s.size≤281474976710656) (hN:Fs.n≤w.heap.size) (hK:Fs.K w):Calls Tryz.prog 193 #[.string s, .int .i64 lo, .int .i64 hi] w fun e w'=>e= .returned (.tuple #[.int .i64 (MU s.data.toList lo hi).1, .bool (MU s.data.toList lo hi).2])∧Mod [] w w':=by
 by_cases Ax: ∃n,Lib.atoiAll s.data.toList= .ok n
 ·obtain⟨n,hA⟩:=Ax;have hR:MU s.data.toList lo hi=if lo≤n∧n≤hi∧Lib.itoa n=s.data.toList then(n,true)else(0,false):=by
   unfold MU;rw [hA]
  rw [hR];obtain⟨b0,b1⟩:=Lib.atoiAll_bounds hA;have Zk:Calls Tryz.prog 212 #[.string s] w fun e w'=>e= .returned (.tuple #[.int .i64 n, .nilIface])∧Mod [] w w':=by
   refine(Tryz.strconv_Atoi_ok s (by omega) n hA w).mono ?_;rintro e w' ⟨rfl,h|⟨t,h⟩⟩
   ·subst h;exact⟨rfl,Mod.refl _ _⟩
   ·subst h;exact⟨rfl,zyW w _ t⟩
  have hI: ∀W1,Mod [] w W1→Calls Tryz.prog 173 #[.int .i64 n] W1 fun e w'=>e= .returned (.string ⟨(Lib.itoa n).toArray⟩)∧Mod [] w w':=by intro W1 hm;have Zp:Fs.K W1:=Fs.mono (fun b hb=>hm.block b (Nat.lt_of_lt_of_le hb hN) (by simp)) hK;refine(Tryz.strconv_Itoa n b0 b1 W1 (yI Zp)).mono ?_;rintro e w' ⟨rfl,k,os,rfl⟩;exact⟨rfl,hm.trans (yR W1 k os) (by simp)⟩
  by_cases h1:n≥lo∧n≤hi
  ·have hw: ∀W,Calls Tryz.prog 33 #[.int .i64 n, .int .i64 lo, .int .i64 hi] W fun e w'=>e= .returned (.bool true)∧w'=W:=fun W=>by
    have:=xZ n lo hi W;rwa [show(decide (n≥lo)&&decide (n≤hi))=true by simp [h1.1,h1.2]]at this
   by_cases h3:Lib.itoa n=s.data.toList
   ·have ET:(⟨(Lib.itoa n).toArray⟩:ByteArray)=s:=by rw [h3]
    rw [ET]at hI;simp only [if_pos (⟨h1.1,h1.2,h3⟩:lo≤n∧n≤hi∧Lib.itoa n=s.data.toList)];exact zzG s n lo hi w Zk hw hI
   ·have ET:((⟨(Lib.itoa n).toArray⟩:ByteArray).toList==s.toList)=false:=by
     rw [tM,beq_eq_false_iff_ne];exact h3
    simp only [if_neg (fun h:lo≤n∧n≤hi∧Lib.itoa n=s.data.toList=>h3 h.2.2)];exact zyN s n lo hi w _ ET Zk hw hI
  ·have hw: ∀W,Calls Tryz.prog 33 #[.int .i64 n, .int .i64 lo, .int .i64 hi] W fun e w'=>e= .returned (.bool false)∧w'=W:=fun W=>by
    have:=xZ n lo hi W;rwa [show(decide (n≥lo)&&decide (n≤hi))=false by simp;omega]at this
   simp only [if_neg (fun h:lo≤n∧n≤hi∧Lib.itoa n=s.data.toList=>h1 ⟨h.1,h.2.1⟩)];exact zAb s n lo hi w Zk hw
 ·have hR:MU s.data.toList lo hi=(0,false):=by
   unfold MU;split
   ·rename_i n hn;exact absurd ⟨n,hn⟩ Ax
   ·rfl
  rw [hR];exact zzH (zBm hs hK fun v hv=>Ax ⟨v,hv⟩)
noncomputable def XC (s:List UInt8) (lo hi:Int):Option (Int × Bool):=req (s.length≤281474976710656) (some (MU s lo hi))
theorem zrH (a0:List UInt8) (a1 a2:Int) (r:Int × Bool) (h:XC a0 a1 a2=some r):Cj Tryz.prog Ci 193 [.str a0, .int .i64 a1, .int .i64 a2] (.tup [.int .i64 r.1, .bool r.2]):=by
 obtain⟨hl,h⟩:=Hk h;refine zCi (by kernel_rfl) fun w vs rf hN hK hr=> ?_;obtain⟨s,us,rfl,hs,hz,hr⟩:=Lr hr;obtain⟨us1,rfl,_,hr⟩:=U0 hr;obtain⟨us2,rfl,_,hr⟩:=U0 hr;obtain⟨rfl,rfl⟩:=Ld hr;subst hs;cases h;refine(zza s a1 a2 w (by simpa using hl) hN hK).mono ?_;rintro e w' ⟨rfl,hm⟩;refine⟨hm,_,_, [], [],rfl, .int ?_ .nil, .bool .nil,by simp⟩;unfold MU;split
 ·rename_i n hn;have:=Lib.atoiAll_bounds hn;split
  ·exact Bh this.1 this.2
  ·exact Bh (by decide) (by decide)
 ·exact Bh (by decide) (by decide)
end Go.Proofs.YtlhlgboblghkdaaGreatDoor
end

/- Parts of a proof, joined: DA, DB, MA, MB, OB, OG, QA, QO, MC, MD, QT, TF, HB, SP, HL, IA, IC, IB, RI. -/
import Derived.Test.YtbmbkgalkfmjdaaGreatDoorY6
import Derived.Test.YtbmbkgalkfmjdaaGreatDoorProg
import Derived.Test.YtbmbkgalkfmjdaaGreatDoorChecked
import Derived.Shelf.Strings.Builder1
import Derived.Shelf.Strings.Builder2
import Derived.Shelf.Strings.OnBuilder
import Derived.Shelf.Small.Strs
import Derived.Shelf.Small.Wraps
import Derived.Shelf.Strings.BuilderF
import Derived.Shelf.Strings.BuilderK
import Derived.Shelf.Utf8.RuneCount
import Derived.Shelf.Strings.Builder2Cap
import Derived.Shelf.Strconv.Atoi
import Derived.Shelf.Strconv.Itoa0
import Derived.Shelf.Strconv.Itoa1
import Derived.Shelf.LaysM
import Derived.Shelf.Strconv.Itoa2
import Derived.Shelf.Strconv.Itoa3
import Derived.Shelf.Strconv.AtoiErrFast
import Derived.Shelf.Strconv.ParseIntEmpty
import Derived.Shelf.Strconv.AtoiFail
import Derived.Shelf.Strconv.Clone
import Derived.Shelf.Strconv.SyntaxError
import Derived.Shelf.LaysC
import Derived.Shelf.Strconv.ToError
import Derived.Shelf.Strconv.AtoiErr
import Derived.Shelf.Strconv.ErrVar
import Derived.Shelf.Strconv.Lower
import Derived.Shelf.Strconv.ParseUint10
import Derived.Shelf.Strconv.ParseUint10Empty
import Derived.Shelf.Strconv.ParseUint10Any
import Derived.Shelf.Strconv.ParseInt10
import Derived.Shelf.Strconv.AtoiLong
import Derived.Shelf.Strconv.AtoiInnerAll
import Derived.Shelf.Strconv.RangeError
import Derived.Shelf.Strconv.ToErrorRange
import Derived.Shelf.Strconv.AtoiAll
import Derived.Shelf.Strconv.ErrVarAll
import Derived.Shelf.Strconv.ParseUintEmpty
import Derived.Shelf.Strconv.ParseUint10b64
import Derived.Shelf.Strconv.ParseUint10b32
import Derived.Shelf.Strconv.ParseUint10b16
import Derived.Shelf.Strconv.ParseUint10b8
import Derived.Shelf.Strconv.ParseUint10At
import Derived.Shelf.Strconv.ParseInt10At64
import Derived.Shelf.Strconv.ParseInt10At32
import Derived.Shelf.Strconv.ParseInt10At16
import Derived.Shelf.Strconv.ParseInt10At8
import Derived.Shelf.Strconv.ParseInt10All
import Derived.Shelf.Strings.Search1
import Derived.Shelf.Strings.Search2
import Derived.Shelf.Strings.Search3
import Derived.Shelf.Strings.Cut
import Derived.Shelf.Strings.Count
import Derived.Shelf.Strings.Shaped
import Derived.Shelf.Strings.Prefix
import Derived.Shelf.Strings.Split
import Derived.Shelf.Strings.SplitShaped
import Derived.Shelf.Unicode.Decode
import Derived.Shelf.Strings.RuneCount
import Derived.Shelf.Strings.Explode
import Derived.Shelf.Unicode.DecodeSlow
import Derived.Shelf.Unicode.DecodeAny
import Derived.Shelf.Strings.BuilderCap
import Derived.Shelf.Slices.Turned
import Derived.Shelf.Slices.Equal
import Derived.Ground.Names2Prog
import Derived.Shelf.Slices.Clone
import Derived.Shelf.Slices.Empties2
import Derived.Ground.SlgnProg
import Derived.Shelf.SlicesE.Clone
import Derived.Laws.CopyRow
import Derived.Lib.AppendZerosOnto
import Derived.Lib.Overlaps
import Derived.Deep.RegionLaw
import Derived.StillTailTactics
import Derived.Deep.QuietTactic
import Derived.Sort.Grow
set_option linter.unusedVariables false
set_option linter.unusedSimpArgs false
noncomputable section
namespace Go.Proofs.YtbmbkgalkfmjdaaGreatDoor
open Go.RowKit
def uM (t:TypeId):List Bool:=(A8 Tryz.prog t).map fun u=>match CP Tryz.prog u with|some e=>Cg Tryz.prog e|none=>false
def zIe (u:TypeId):List Bool:=if u=105 then []else uM u
def zJE (fn:Func):HX:={cy:=fn.params.toList.map fun t=>match KW Tryz.prog t with|some u=> .bx (zIe u) (zIe u)|none=> .ro,res:=fn.resultTypes.toList.flatMap uM}
def zIp (f:Nat):Option HX:=
 match f with
 |7=>some {cy:= [],res:= []}
 |9=>some {cy:= [],res:= []}
 |18=>some {cy:= [],res:= []}
 |25=>some {cy:= [.ro, .ro],res:= [false,true,true,true,false,false,false,false,false,false],dp:=true}
 |28=>some {cy:= [],res:= []}
 |29=>some {cy:= [.ro, .ro],res:= [false,true,true,true,false,false,false,false,true,false],dp:=true}
 |30=>some {cy:= [.ro, .ro],res:= []}
 |36=>some {cy:= [],res:= []}
 |37=>some {cy:= [.ro, .ro],res:= []}
 |47=>some {cy:= [.bx [] [], .ro, .ro],res:= []}
 |49=>some {cy:= [.bx [] []],res:= []}
 |73=>some {cy:= [],res:= []}
 |87=>some {cy:= [.ro, .ro],res:= [true],dp:=true}
 |89=>some {cy:= [.ro, .ro],res:= [false,true,true,true,false,false,false,false,false],dp:=true}
 |94=>some {cy:= [.bx [] [], .ro, .ro],res:= [true]}
 |96=>some {cy:= [.ro],res:= [false,true,true,true,false,false,false,false],dp:=true}
 |100=>some {cy:= [.ro, .ro],res:= []}
 |112=>some {cy:= [.bx [] [], .ro],res:= []}
 |124=>some {cy:= [.bx [] [], .ro, .ro],res:= []}
 |153=>some {cy:= [.ro, .ro, .bx [true] [true]],res:= [],ft:= [1000000129]}
 |157=>some {cy:= [.bx [] []],res:= [false,false,true,true],dp:=true}
 |170=>some {cy:= [.ro, .ro],res:= [false,true,true,true,false,false,false,false,false],dp:=true}
 |178=>some {cy:= [.ro, .ro],res:= [false,true,true,true,false],dp:=true}
 |179=>some {cy:= [.bx [] []],res:= [false,true,true,true],dp:=true,fz:=true}
 |183=>some {cy:= [.ro],res:= [false,true,true,true],dp:=true}
 |185=>some {cy:= [.ro],res:= [false,true,true,true],dp:=true}
 |190=>some {cy:= [.ro, .ro],res:= []}
 |205=>some {cy:= [.bx [] [], .ro],res:= []}
 |218=>some {cy:= [.va [false,false,true,false,true], .ro],res:= [false,false,true,false,true,false]}
 |235=>some {cy:= [.va [true], .ro],res:= [true]}
 |236=>some {cy:= [.va [true], .ro],res:= [true],wn:=true}
 |241=>some {cy:= [.ro, .ro],res:= []}
 |242=>some {cy:= [.va [true], .ro],res:= [true],wn:=true,lo:= [false,true]}
 |243=>some {cy:= [.ro],res:= [true]}
 |246=>some {cy:= [.va [true], .ro],res:= [true],wn:=true}
 |248=>some {cy:= [.ro, .ro, .ro, .ro, .ro],res:= [false,true,true,true,false],dp:=true}
 |256=>some {cy:= [.ro, .ro],res:= [false,true,true,true,false],dp:=true}
 |264=>some {cy:= [.ro, .ro],res:= []}
 |285=>some {cy:= [.va [true], .ro, .va [true]],res:= [true]}
 |287=>some {cy:= [.ro, .ro],res:= [false],lo:= [false,true]}
 |293=>some {cy:= [.ro, .ro, .ro, .ro],res:= []}
 |340=>some {cy:= [.mu [true], .ro],res:= []}
 |342=>some {cy:= [.mu [true]],res:= []}
 |_=>none
def zJ9 (f:Nat):Option HX:=match Tryz.prog.funcs[f]? with
 |some fn=>some ((zIp f).getD (zJE fn))
 |none=>none
def Cu:BX:={f:=zJ9}
theorem zJi:Tryz.prog.follows .mixedOrders=true:=by kernel_rfl
theorem zKn:Tryz.prog.funcs.size<1000000:=by
 have:(decide (Tryz.prog.funcs.size<1000000))=true:=by kernel_rfl
 exact of_decide_eq_true this
theorem TX (f:Nat) (s:HX) (h:Cu f=some s):f<1000000:=by
 simp only [Cu]at h;unfold zJ9 at h;split at h
 ·rename_i fn hf;have:=(Array.getElem?_eq_some_iff.1 hf).1;exact Nat.lt_trans this zKn
 ·cases h
def Yv (P:Program) (sg:BX) (f:Nat) (xs:List AV) (r:AV):Bool:=
 match P.funcs[f]?,sg f with
 |some fn,some s=> !(fn.name== "runtime.NumGoroutine")&&Oj P fn s r&&xs.length==fn.params.size+fn.nfree
 |_,_=>false
abbrev Den (t:Tr) (r:AV) (xs:List AV):Prop:=t.den (Cv Tryz.prog Cu) (fun r'=>r'=r) (fun _ _ _ _=>False) [] xs
theorem FA {f:Nat} {t:Tr} {xs:List AV} {r:AV} (hc:Vk Tryz.prog Cu f=some t) (hk:Yv Tryz.prog Cu f xs r=true) (hd:Den t r xs):Cv Tryz.prog Cu f xs r:=by
 unfold Yv at hk;split at hk
 ·rename_i fn s hf hs;simp only [Ae,Bool.not_eq_true',beq_iff_eq]at hk;unfold Cv;rw [if_pos (TX f s hs)];exact⟨s,hs,zE3 zJi TX hf hs hk.1.1 hc hk.1.2 hk.2 hd⟩
 ·cases hk
section
variable {Rt:Nat→List AV→AV→Prop} {R:AV→Prop} {L:LK} {js:List JK} {ρ:List AV}
theorem sZ {i:EL} {b k:Tr} (hL:KH L) (I:Nat→List AV→Prop) {m:Nat} (h0:I m (i.den ρ)) (DQ: ∀m vs,I m vs→b.den Rt R L ((fun us=> ∃m',m'<m∧I m' us)::(fun us=>k.den Rt R L js (ρ++us))::js) (ρ++vs)):(Tr.loop i b k).den Rt R L js ρ:=by
 have hb: ∀W W':JK,(∀vs,W vs→W' vs)→ ∀vs,b.den Rt R L (W::(fun us=>k.den Rt R L js (ρ++us))::js) (ρ++vs)→b.den Rt R L (W'::(fun us=>k.den Rt R L js (ρ++us))::js) (ρ++vs):=
  fun W W' hW vs hv=>b.ik hL hv (.cons hW (Eo.refl _))
 have mono: ∀n vs,JD (fun W vs=>b.den Rt R L (W::(fun us=>k.den Rt R L js (ρ++us))::js) (ρ++vs)) n vs→ ∀n',n≤n'→JD (fun W vs=>b.den Rt R L (W::(fun us=>k.den Rt R L js (ρ++us))::js) (ρ++vs)) n' vs:=by
  intro n
  induction n with
  |zero=>intro vs h;exact h.elim
  |succ n ih=>
   intro vs h n' hn;cases n' with
   |zero=>omega
   |succ n'=>exact hb _ _ (fun us hu=>ih us hu n' (by omega)) vs h
 have key: ∀m vs,I m vs→JD (fun W vs=>b.den Rt R L (W::(fun us=>k.den Rt R L js (ρ++us))::js) (ρ++vs)) (m+1) vs:=by
  intro m
  induction m using Nat.strongRecOn with
  |_ m ih=>intro vs hI;exact hb _ _ (fun us ⟨m',hm,hu⟩=>mono _ _ (ih m' hm us hu) m (by omega)) vs (DQ m vs hI)
 exact⟨m+1,key m _ h0⟩
theorem bK:KH (fun _ _ _ _=>False):=fun _ _ _ _ _ _ h=>h
end
@[simp] theorem zJ2 (ρ:List AV):Bm ρ []↔True:=⟨fun _=>trivial,fun _=>Fh ρ⟩
@[simp] theorem zJI (ρ:List AV) (x:E) (b:Bool) (gs:Gd):Bm ρ ((x,b)::gs)↔x.den ρ= .bool b∧Bm ρ gs:=
 ⟨fun h=>⟨h (x,b) (by simp),fun g hg=>h g (by simp [hg])⟩,fun h g hg=>by rcases Ag.1 hg with rfl|hg;exact h.1;exact h.2 g hg⟩
attribute [simp] E.den EL.den Cn.den AV.fld AV.proj AV.deref AV.len AV.slen AV.idx AV.nth AV.gl AV.j5 AV.conv AV.bin AV.bbin AV.sbin AV.app AV.da AV.rep
@[simp] theorem zIJ (cs:List AV):(AV.agg cs).cells=cs:=rfl
@[simp] theorem zJa (k:IntKind) (n:Int):(AV.int k n).cells= [.int k n]:=rfl
@[simp] theorem zHZ (b:Bool):(AV.bool b).cells= [.bool b]:=rfl
@[simp] theorem zIL (s:List UInt8):(AV.str s).cells= [.str s]:=rfl
@[simp] theorem zJr (xs:List AV):(AV.sl xs).cells= [.sl xs]:=rfl
@[simp] theorem zH1 (k:IntKind) (n:Int):(AV.int k n).scalar=true:=rfl
@[simp] theorem zHR (b:Bool):(AV.bool b).scalar=true:=rfl
@[simp] theorem zHY (s:List UInt8):(AV.str s).scalar=true:=rfl
@[simp] theorem zJR (b c d:Bool):AV.cond (.bool b) (.bool c) (.bool d)= .bool (bif b then c else d):=by cases b<;>rfl
theorem zyO {y:AV} (h:y.scalar=true):y.cells= [y]:=by cases y<;>first|rfl|simp [AV.scalar]at h
theorem Ba {n:Int} (h1: -9223372036854775808≤n) (h2:n≤9223372036854775807):IntKind.i64.wrap n=n:=by rw [IntKind.wrap_i64];omega
end Go.Proofs.YtbmbkgalkfmjdaaGreatDoor
end
noncomputable section
namespace Go.Proofs.YtbmbkgalkfmjdaaGreatDoor
open Go.RowKit
section
variable {Rt:Nat→List AV→AV→Prop} {R:AV→Prop} {L:LK} {js:List JK} {ρ:List AV}
theorem B9 {gs:Gd} {c:Cn} {k:Tr} (h:Bm ρ gs→c.den ρ) (hk:k.den Rt R L js ρ):(Tr.cc gs c k).den Rt R L js ρ:=⟨h,hk⟩
theorem WO {gs:Gd} {f:Nat} {args:EL} {k:Tr} {r:AV} (h:Bm ρ gs→Rt f (args.den ρ) r) (hk:k.den Rt R L js (ρ++ [r])):(Tr.call gs (.inl f) args k).den Rt R L js ρ:=⟨r,h,hk⟩
theorem cH {gs:Gd} {x:E} {args:EL} {k:Tr} {r:AV} (h:Bm ρ gs→ ∃g caps,x.den ρ= .fn g caps∧Rt (1000000+g) (args.den ρ++caps) r∧ ∀y∈r.cells,y.scalar=true) (hk:k.den Rt R L js (ρ++ [r])):(Tr.call gs (.inr x) args k).den Rt R L js ρ:=⟨r,h,hk⟩
theorem EN {c:E} {a b:Tr} {t:Bool} (h:c.den ρ= .bool t) (ha:t=true→a.den Rt R L js ρ) (hb:t=false→b.den Rt R L js ρ):(Tr.ite c a b).den Rt R L js ρ:=⟨t,h,ha,hb⟩
theorem IY {r:E} (h:R (r.den ρ)):(Tr.ret r).den Rt R L js ρ:=h
theorem Oe {es:EL} {j:JK} (h:j (es.den ρ)):(Tr.jmp 0 es).den Rt R L (j::js) ρ:=h
theorem dG {es:EL} {i j:JK} (h:j (es.den ρ)):(Tr.jmp 1 es).den Rt R L (i::j::js) ρ:=h
end
def yE (cn:Nat) (xs:List AV):Prop:= ∀x∈xs,∃cs,x= .agg cs∧cs.length=cn
theorem yE.at {cn:Nat} {xs:List AV} (h:yE cn xs) {q:Nat} (hq:q<xs.length): ∃cs,xs[q]= .agg cs∧cs.length=cn:=h _ (List.getElem_mem hq)
section
variable {Rt:Nat→List AV→AV→Prop} {R:AV→Prop} {L:LK} {js:List JK} {ρ:List AV} {α β σ τ:Type}
theorem zIl {x:E} {sz:Nat} {xs:List α} (f:α→AV) (hx:x.den ρ= .sl (xs.map f)) (hf: ∀y,(f y).cells.length=sz):Cn.den ρ (.issl x sz):=⟨_,hx,by simp [hf]⟩
theorem zHK {x:E} {sz:Nat} {xs:List α} (f:α→AV) (hx:x.den ρ= .sl (xs.map f)) (hf: ∀y,(f y).cells.length=sz∧ ∀z∈(f y).cells,z.scalar=true):Cn.den ρ (.flatS x sz):=⟨_,hx,by simp only [List.mem_map];rintro _ ⟨y,_,rfl⟩;exact hf y⟩
end
@[simp] def zIz (n:Int):AV:= .int .i64 n
@[simp] def Rx (n:Int):AV:= .int .u8 n
@[simp] def Je (x:List UInt8):AV:= .str x
attribute [simp] BR TO AV.sidx AV.aeq AV.leq AV.seq AV.sk AV.di AV.bytes AV.text
end Go.Proofs.YtbmbkgalkfmjdaaGreatDoor
end
noncomputable section
namespace Go.Proofs.YtbmbkgalkfmjdaaGreatDoor
open Go.RowKit
section
variable {P:Program} {w:World}
theorem DU.j3 {ts:List TypeId} {vs:List Value} {xs:List AV} {rf lf hs:List Nat} (h:DU P w ts [] [] vs xs rf lf hs): ∀(ms:List PM) (lo:List Bool),(∀m∈ms,m= .ro)→DU P w ts ms lo vs xs rf lf hs:=by
 generalize hm:([]:List PM)=m0 at h;generalize hn:([]:List Bool)=n0 at h
 induction h with
 |nil=>intro ms lo _;exact .nil
 |lent h1 _ _ _ _=>subst hn;cases h1
 | @cons t ts ms' lo' v vs x xs f h rf lf hs A9 _ ih=>
  subst hm;subst hn;intro ms lo EZ;refine .cons ?_ (ih rfl rfl ms.tail lo.tail fun m hm=>EZ m (List.mem_of_mem_tail hm));have:ms.headD .ro= .ro:=by cases ms with|nil=>rfl|cons m ms=>exact EZ m (by simp)
  rw [this];exact A9
 |free h1 _ ih=>subst hm;subst hn;intro ms lo EZ;exact .free h1 (ih rfl rfl ms.tail lo.tail fun m hm=>EZ m (List.mem_of_mem_tail hm))
theorem D7.j3 {ts:List TypeId} {ms:List PM} {vs:List Value} {Bs:List AV} {f o:List Nat} (h:D7 P w ts ms vs Bs f o) (EZ: ∀m∈ms,m= .ro):D7 P w ts [] vs Bs f o:=by
 have hd: ∀{ms:List PM},(∀m∈ms,m= .ro)→ms.headD .ro= .ro:=by intro ms h;cases ms with|nil=>rfl|cons m ms=>exact h m (by simp)
 induction h with
 |nil=>exact .nil
 |ro _ _ ih=>exact .ro rfl (ih fun m hm=>EZ m (List.mem_of_mem_tail hm))
 |va h9 _ _=>rw [hd EZ]at h9;cases h9
 |mu h9 _ _ _ _=>rw [hd EZ]at h9;cases h9
 |bx h9 _ _ _ _ _ _ _ _=>rw [hd EZ]at h9;cases h9
end
def jY (f:Nat) (r:AV):Bool:=
 match Tryz.prog.funcs[f]?,Cu f with
 |some fn,some s=>s.cy.all (fun m=>match m with| .ro=>true|_=>false)&&s.ft.isEmpty&&(match fn.resultTypes.toList with| [t]=> !Hf Tryz.prog t s.res|_=>false)&&Oj Tryz.prog fn {cy:= [],res:= []} r
 |_,_=>false
theorem zCk {f:Nat} {xs:List AV} {r:AV} (h:Cv Tryz.prog Cu f xs r) (hp:jY f r=true):Cv Tryz.prog Cu (1000000+f) xs r:=by
 unfold jY at hp;split at hp
 ·rename_i fn s hf hs;simp only [Ae,AK]at hp;obtain⟨⟨⟨h1,EF⟩,h2⟩,h3⟩:=hp;have EF:s.ft= []:=by simpa using EF
  have HC: ∀m∈s.cy,m= .ro:=fun m hm=>by
   have:=h1 m hm;split at this
   ·rfl
   ·cases this
  unfold Cv at h ⊢;rw [if_pos (TX f s hs)]at h;rw [if_neg (by omega),Nat.add_sub_cancel_left];obtain⟨s',Bl,fn',Uq,hb,hn,_,hl,_,hc⟩:=h;rw [hs]at Bl;cases Bl;rw [hf]at Uq;cases Uq;rw [EF]at hc;refine⟨fn,hf,hb,hn,h3,hl,by simp,fun w vs rf lf Bl AB hd hd2 Co Ew=>(hc w vs rf lf Bl (AB.j3 _ _ HC) hd hd2 Co Ew).mono ?_⟩;rintro e w' ⟨v,rfl,⟨R,Bs,f1,o1,f2,o2,e1,e2,e3,e4,e5,e6⟩,hm⟩;rw [EF]at e3;refine⟨v,rfl,⟨R,Bs,f1,o1,f2,o2,e1, ?_,e3.j3 HC,e4,e5,e6⟩,hm⟩;unfold KX at e2 ⊢;split at h2
  ·rename_i t ht;rw [ht]at e2 ⊢;simp only at e2 ⊢;unfold E8 at e2 ⊢;have h2:Hf Tryz.prog t s.res=false:=by simpa using h2
   rw [if_neg (by rw [h2];simp)]at e2;rw [if_neg (by simp [Hf])];exact e2
  ·cases h2
 ·cases hp
section
variable {Rt:Nat→List AV→AV→Prop} {R:AV→Prop} {L:LK} {js:List JK} {ρ:List AV}
theorem xL {i:EL} {b k:Tr} (hL:KH L) (n:Nat) (st:Nat→List AV) (J:Nat→Prop) (hJ:J 0) (h0:i.den ρ=st 0) (hb: ∀q,q≤n→J q→ ∀W:JK,(q<n→J (q+1)→W (st (q+1)))→b.den Rt R L (W::(fun us=>k.den Rt R L js (ρ++us))::js) (ρ++st q)):(Tr.loop i b k).den Rt R L js ρ:=by refine sZ hL (fun m vs=> ∃q,q+m=n∧vs=st q∧J q) (m:=n) ⟨0,by omega,h0,hJ⟩ ?_;rintro m vs ⟨q,hq,rfl,hj⟩;exact hb q (by omega) hj _ fun Ak Q4=>⟨m-1,by omega,q+1,by omega,rfl,Q4⟩
end
def QJ (cn:Nat):Tr:=
 .cc [] (.dfd (.len (.var 0)))<|
 .loop (.cons (.int .i64 (0)) .nil) (
  .cc [] (.dfd (.bin .lss (.var 2) (.len (.var 0))))<|
  .ite (.bin .lss (.var 2) (.len (.var 0))) (
  .cc [] (.inb (.var 2) (.var 0) cn)<|
  .call [] (.inr (.var 1)) (.cons (.fld (.idx (.var 0) (.var 2)) 0 cn true) .nil)<|
  .ite (.var 3) (
   .ret (.var 2)) (
   .cc [] (.dfd (.bin .add (.var 2) (.int .i64 (1))))<|
   .jmp 0 (.cons (.bin .add (.var 2) (.int .i64 (1))) .nil))) (
  .jmp 1 .nil)) (
  .ret (.int .i64 (-1)))
def Yc:Tr:=
 .cc [] (.dfd (.len (.var 0)))<|
 .loop (.cons (.int .i64 (0)) .nil) (
  .cc [] (.dfd (.bin .lss (.var 2) (.len (.var 0))))<|
  .ite (.bin .lss (.var 2) (.len (.var 0))) (
  .cc [] (.inb (.var 2) (.var 0) 1)<|
  .call [] (.inr (.var 1)) (.cons (.fld (.idx (.var 0) (.var 2)) 0 1 false) .nil)<|
  .ite (.var 3) (
   .ret (.var 2)) (
   .cc [] (.dfd (.bin .add (.var 2) (.int .i64 (1))))<|
   .jmp 0 (.cons (.bin .add (.var 2) (.int .i64 (1))) .nil))) (
  .jmp 1 .nil)) (
  .ret (.int .i64 (-1)))
def Em {α:Type} (p:α→Option Bool):List α→Int→Option Int
 | [],_=>some (-1)
 |x::xs,i=>(p x).bind fun b=>if b=true then some i else Em p xs (i+1)
def Ff {α:Type} (xs:List α) (p:α→Option Bool):Option Int:=req (xs.length≤9223372036854775806) (Em p xs 0)
def FP {α:Type} (xs:List α) (p:α→Option Bool):Option Bool:=(Ff xs p).bind fun i=>some (decide (i≥0))
def Og {α:Type} (bytes:Nat) (xs:List α):Option (List α):=req ((xs.length:Int)*bytes≤140737488355328∧(xs.length:Int)≤140737488355328) (some xs)
theorem zxu {α:Type} {p:α→Option Bool} {l:List α} {r:Int} {q:Nat} (hq:q<l.length) (h:Em p (l.drop q) q=some r): ∃b,p l[q]=some b∧(b=true→r=q)∧(b=false→Em p (l.drop (q+1)) ((q+1:Nat):Int)=some r):=by
 rw [List.drop_eq_getElem_cons hq]at h;obtain⟨b,hb,h⟩:=Is h;refine⟨b,hb, ?_, ?_⟩
 ·rintro rfl;simpa using h.symm
 ·rintro rfl;simpa using h
theorem Xb {α:Type} {av:α→AV} {l:List α} {p:α→Option Bool} {cn g:Nat} {caps:List AV} {r:Int} (hs: ∀x,∃cs,av x= .agg cs∧cs.length=cn) (h:Ff l p=some r) (hf: ∀x b,p x=some b→Cv Tryz.prog Cu (1000000+g) (av x::caps) (.bool b)):Den (QJ cn) (.int .i64 r) [.sl (l.map av), .fn g caps]:=by
 obtain⟨hn,h⟩:=GV h;unfold Den QJ;refine B9 (by simp) ?_;refine xL bK l.length (fun q=> [.int .i64 q]) (fun q=>Em p (l.drop q) q=some r) (by simpa using h) (by simp) fun q hq hJ W hW=> ?_;by_cases Ak:q<l.length
 ·obtain⟨cs,hc,hl⟩:=hs l[q];obtain⟨b,hb,Iz,Hq⟩:=zxu Ak hJ;refine B9 (by simp [BR]) (EN (t:=true) (by simp [BR,Ak]) (fun _=> ?_) (by simp));refine B9 (fun _=>⟨.i64,q,l.length,by simp,by omega,by simp,by omega,by simp [Ak,hc,hl]⟩) (cH (r:= .bool b) (fun _=>⟨g,caps,by simp, ?_,by simp⟩) ?_)
  ·have:=hf l[q] b hb;rw [hc]at this;simpa [Ak,hc,←hl]using this
  ·cases b with
   |true=>exact EN (t:=true) (by simp) (fun _=>IY (by simp [Iz rfl])) (by simp)
   |false=>refine EN (t:=false) (by simp) (by simp) fun _=>B9 (by simp [BR]) (Oe ?_);have:=hW Ak (Hq rfl);simpa [BR,Ba (n:=(q:Int)+1) (by omega) (by omega)]using this
 ·have Jk:q=l.length:=by omega
  subst Jk;have hr:r= -1:=by simpa [Em]using hJ.symm
  refine B9 (by simp [BR]) (EN (t:=false) (by simp [BR]) (by simp) fun _=>dG ?_);exact IY (by simp [hr])
theorem wV {α:Type} {av:α→AV} {l:List α} {p:α→Option Bool} {g:Nat} {caps:List AV} {r:Int} (hs: ∀x,(av x).cells= [av x]) (h:Ff l p=some r) (hf: ∀x b,p x=some b→Cv Tryz.prog Cu (1000000+g) (av x::caps) (.bool b)):Den Yc (.int .i64 r) [.sl (l.map av), .fn g caps]:=by
 obtain⟨hn,h⟩:=GV h;unfold Den Yc;refine B9 (by simp) ?_;refine xL bK l.length (fun q=> [.int .i64 q]) (fun q=>Em p (l.drop q) q=some r) (by simpa using h) (by simp) fun q hq hJ W hW=> ?_;by_cases Ak:q<l.length
 ·obtain⟨b,hb,Iz,Hq⟩:=zxu Ak hJ;refine B9 (by simp [BR]) (EN (t:=true) (by simp [BR,Ak]) (fun _=> ?_) (by simp));refine B9 (fun _=>⟨.i64,q,l.length,by simp,by omega,by simp,by omega,by simp [Ak,hs]⟩) (cH (r:= .bool b) (fun _=>⟨g,caps,by simp, ?_,by simp⟩) ?_)
  ·have:=hf l[q] b hb;simpa [Ak,hs]using this
  ·cases b with
   |true=>exact EN (t:=true) (by simp) (fun _=>IY (by simp [Iz rfl])) (by simp)
   |false=>refine EN (t:=false) (by simp) (by simp) fun _=>B9 (by simp [BR]) (Oe ?_);have:=hW Ak (Hq rfl);simpa [BR,Ba (n:=(q:Int)+1) (by omega) (by omega)]using this
 ·have Jk:q=l.length:=by omega
  subst Jk;have hr:r= -1:=by simpa [Em]using hJ.symm
  refine B9 (by simp [BR]) (EN (t:=false) (by simp [BR]) (by simp) fun _=>dG ?_);exact IY (by simp [hr])
def QO (f:Nat):Tr:=
 .call [] (.inl f) (.cons (.var 0) (.cons (.var 1) .nil))<|
 .cc [] (.dfd (.bin .geq (.var 2) (.int .i64 (0))))<|
 .ret (.bin .geq (.var 2) (.int .i64 (0)))
theorem Xf {α:Type} {l:List α} {p:α→Option Bool} {f:Nat} {x y:AV} {r:Bool} (h:FP l p=some r) (hf: ∀i,Ff l p=some i→Cv Tryz.prog Cu f [x,y] (.int .i64 i)):Den (QO f) (.bool r) [x,y]:=by obtain⟨i,hi,h⟩:=Is h;unfold Den QO;refine WO (fun _=>by simpa using hf i hi) (B9 (by simp [BR]) (IY ?_));simp only [Ah]at h;simp [BR,←h]
def TU (bytes sz:Nat):Tr:=
 .cc [] (.dfd (.len (.var 0)))<|
 .cq [] (.var 0)<|
 .ite (.var 1) (
  .ret (.lst .nil)) (
  .cc [] (.room (.lst .nil) (.var 0) bytes)<|
  .cc [] (.flatS (.var 0) sz)<|
  .ret (.app (.lst .nil) (.var 0)))
def tT (bytes sz:Nat):Tr:=
 .cc [] (.dfd (.len (.var 0)))<|
 .cq [] (.var 0)<|
 .ite (.var 1) (
  .ret (.lst .nil)) (
  .cc [] (.room (.lst .nil) (.var 0) bytes)<|
  .cc [] (.issl (.var 0) sz)<|
  .ret (.app (.lst .nil) (.var 0)))
theorem cR {α:Type} {av:α→AV} {xs r:List α} {bytes sz:Nat} (hs: ∀x,(av x).cells.length=sz∧ ∀z∈(av x).cells,z.scalar=true) (h:Og bytes xs=some r):Den (TU bytes sz) (.sl (r.map av)) [.sl (xs.map av)]:=by
 obtain⟨hq,h⟩:=GV h;cases h;unfold Den TU;refine B9 (by simp) fun b hb=> ?_;cases b with
 |true=>have:=hb (by simp) rfl;exact EN (t:=true) (by simp) (fun _=>IY (by simpa using this.symm)) (by simp)
 |false=>exact EN (t:=false) (by simp) (by simp) fun _=>B9 (fun _=>⟨0,xs.length,by simp,by simp,by simpa using hq.1,by simpa using hq.2⟩) (B9 (fun _=>zHK (xs:=xs) av (by simp) hs) (IY (by simp)))
theorem zBS {α:Type} {av:α→AV} {xs r:List α} {bytes sz:Nat} (hs: ∀x,(av x).cells.length=sz) (h:Og bytes xs=some r):Den (tT bytes sz) (.sl (r.map av)) [.sl (xs.map av)]:=by
 obtain⟨hq,h⟩:=GV h;cases h;unfold Den tT;refine B9 (by simp) fun b hb=> ?_;cases b with
 |true=>have:=hb (by simp) rfl;exact EN (t:=true) (by simp) (fun _=>IY (by simpa using this.symm)) (by simp)
 |false=>exact EN (t:=false) (by simp) (by simp) fun _=>B9 (fun _=>⟨0,xs.length,by simp,by simp,by simpa using hq.1,by simpa using hq.2⟩) (B9 (fun _=>zIl (xs:=xs) av (by simp) hs) (IY (by simp)))
end Go.Proofs.YtbmbkgalkfmjdaaGreatDoor
end
noncomputable section
namespace Go.Proofs.YtbmbkgalkfmjdaaGreatDoor
open Go.ChangeShapes Go.WideShapes Go.ChangeAt Go.RowKit
theorem zES {P:Program} {w:World}:DU P w [] [] [] [] [] [] [] []:= .nil
theorem zyn {P:Program} {w:World} {t:TypeId} {ts:List TypeId} {v:Value} {vs:List Value} {x:AV} {xs:List AV} {f rf:List Nat} (h:Rd w [v] [x] f) (k:DU P w ts [] [] vs xs rf [] []):DU P w (t::ts) [] [] (v::vs) (x::xs) (f++rf) [] []:=
 DU.cons (h:= []) (hs:= []) (ms:= []) (lo:= []) ⟨h,rfl⟩ k
theorem zFK {P:Program} {sg:BX} {f:Nat} {fn:Func} {t:TypeId} {xs:List AV} (h:Cv P sg f xs (.bool true)) (hf:f<1000000) {s:HX} (hs:sg f=some s) (EF:s.ft= []) (HC: ∀m∈s.cy,m= .ro) (EE:Hf P t s.res=false) (Hu:P.funcs[f]?=some fn) (hr:fn.resultTypes.toList= [t])
  {w:World} {vs:List Value} {rf:List Nat} (ha:DU P w fn.params.toList [] [] vs xs rf [] []) (Ew:F7.n≤w.heap.size∧F7.K w):
  Calls P f vs.toArray w fun e w'=>e= .returned (.bool true)∧Below w.heap.size w w':=by
 unfold Cv at h;rw [if_pos hf]at h;obtain⟨s',Bl,fn',JW,_,_,_,_,_,hc⟩:=h;rw [hs]at Bl;obtain rfl:=Option.some.inj Bl;rw [Hu]at JW;obtain rfl:=Option.some.inj JW;refine(hc w vs rf [] [] (by rw [EF,List.append_nil];exact ha.j3 _ _ HC) (by simp) (by simp) (by simp) ⟨Ew.1,Ew.2,by simp⟩).mono fun e w' ⟨v,he,hp⟩=> ?_;obtain⟨⟨R,bs,f1,o1,f2,o2,hR,AS,_⟩,hm⟩:=hp;have hRt:R= .bool true:=by
  cases bs with
  |nil=>exact hR.symm
  |cons=>cases hR
 subst hRt;rw [hr]at AS;have h2:E8 P w' t s.res v (.bool true) f1 o1:=AS;unfold E8 at h2;rw [EE]at h2;obtain⟨h3,_⟩:=h2;have:v= .bool true:=by cases h3;rfl
 subst this;exact⟨he,hm.below⟩
section
variable {P:Program} {t:TypeId} {Q:List AV→Prop} {H:Type} {enc:TypeId × Value→H} {w:World} {spare:Nat→Bool} {held:Bool} {v:Value} {d:DataW H} {p:List MemPlace} {r:Reach} {base:Nat}
theorem zG8 (hO:HW P t Q) (hc:v.cells= #[v]) (h:DataW.Trod enc P w 0 spare held t v d p): ∃x f,Rd w [v] [x] f∧Q [x]:=by
 obtain⟨n,h⟩:=h;rw [hc]at h;obtain⟨_,_,xs,f,hr,hq⟩:=hO.2 _ _ _ _ _ _ _ _ h;have hl:=hr.len
 match xs,hl with
 | [x],_=>exact⟨x,f,hr,hq⟩
theorem zx7 {e:TypeId} (hO:HW P t Q) (ht:P.underlying t=some (.slice e)) (hv:Value.okWide P w r base t v) (h:DataW.Trod enc P w 0 spare held t v d p): ∃x f,Rd w [v] [x] f∧Q [x]:=by obtain⟨a,l,c,rfl⟩:=okWide_slice ht hv;exact zG8 hO rfl h
end
theorem zIq {a b:Bool} (ha:a=true) (hb:b=true):(a&&b)=true:=by rw [ha,hb];rfl
def Ma (n:Int):Prop:=0≤n∧n≤255
def Rf {α:Type} (ok:α→Prop) (l:List α):Prop:=l.length≤9223372036854775807∧ ∀x∈l,ok x
theorem zKf {n:Int} (h:E9 .u8 n):Ma n:=by unfold E9 at h;simp only [IntKind.wrap,IntKind.bits,IntKind.signed]at h;unfold Ma;simp at h;omega
section
variable {P:Program} {t e:TypeId} {α:Type} {ok:α→Prop} {av:α→AV}
theorem zKj (ht:P.underlying t=some (.int .u8)) (hc:P.cellsOf t=1):HW P t fun xs=> ∃n,Ma n∧xs= [Rx n]:=
 (zGQ ht hc).mono fun _ ⟨n,h,e⟩=>⟨n,zKf h,e⟩
theorem xI: ∀{ys:List AV},(∀y∈ys,KL false (fun xs=> ∃c,ok c∧xs= [av c]) y)→ ∃l:List α,(∀c∈l,ok c)∧ys=l.map av
 | [],_=>⟨[],by simp,rfl⟩
 |y::ys,h=>by obtain⟨l,hl,rfl⟩:=xI fun z hz=>h z (List.mem_cons_of_mem _ hz);have h0:=h y (List.mem_cons_self ..);simp only [KL,AW,if_false]at h0;obtain⟨_,c,hk,hc⟩:=h0;exact⟨c::l,by simpa using⟨hk,hl⟩,by simp at hc;simp [hc]⟩
theorem zJJ (ht:P.underlying t=some (.slice e)) (hc:P.cellsOf t=1) (MU:P.cellsOf e=1) (he:HW P e fun xs=> ∃c,ok c∧xs= [av c]):HW P t fun xs=> ∃l:List α,Rf ok l∧xs= [.sl (l.map av)]:=
 (zDh false ht hc he (.inr MU)).mono fun _ ⟨ys,hl,hy,e⟩=>by obtain⟨l,hk,rfl⟩:=xI hy;exact⟨l,⟨by simpa using hl,hk⟩,e⟩
end
end Go.Proofs.YtbmbkgalkfmjdaaGreatDoor
end
noncomputable section
namespace Go.Proofs.YtbmbkgalkfmjdaaGreatDoor
open Go.RowKit
set_option maxRecDepth 100000
structure Ac where
 af:List UInt8
 bb:List UInt8
 bh:Bool
@[simp] def tN (x:Ac):AV:= .agg [.str x.af, .str x.bb, .bool x.bh]
structure Ap where
 ax:List Int
 bw:Int
 a7:Int
@[simp] def zHj (x:Ap):AV:= .agg [.sl (x.ax.map Rx), .int .i64 x.bw, .int .u64 x.a7]
structure Au where
 ae:List UInt8
 bj:Int
 aq:Int
@[simp] def zIC (x:Au):AV:= .agg [.str x.ae, .int .i64 x.bj, .int .i64 x.aq]
structure Ad where
 ae:List UInt8
 ar:List (List UInt8)
 ah:List Au
@[simp] def uE (x:Ad):AV:= .agg [.str x.ae, .sl (x.ar.map Je), .sl (x.ah.map zIC)]
structure AE where
 ay:List (List UInt8)
@[simp] def zJK (x:AE):AV:= .agg [.sl (x.ay.map Je)]
structure Aq where
 ae:List UInt8
 aj:List Ad
 bp:List Int
 ao:List Ac
@[simp] def zG5 (x:Aq):AV:= .agg [.str x.ae, .sl (x.aj.map uE), .sl (x.bp.map zIz), .sl (x.ao.map tN)]
structure AD where
 al:List UInt8
 a6:Bool
@[simp] def zIF (x:AD):AV:= .agg [.str x.al, .bool x.a6]
structure Ax where
 ab:Aq
 ca:AD
 az:AD
@[simp] def zIU (x:Ax):AV:= .agg [.str x.ab.ae, .sl (x.ab.aj.map uE), .sl (x.ab.bp.map zIz), .sl (x.ab.ao.map tN), .str x.ca.al, .bool x.ca.a6, .str x.az.al, .bool x.az.a6]
structure Bb where
 ak:Int
 bq:AE
 bz:AE
@[simp] def zFr (x:Bb):AV:= .agg [.int .i64 x.ak, .sl (x.bq.ay.map Je), .sl (x.bz.ay.map Je)]
structure C4 where
 a8:Int
 bg:Int
 au:Bb
@[simp] def zBd (x:C4):AV:= .agg [.int .i64 x.a8, .int .i64 x.bg, .int .i64 x.au.ak, .sl (x.au.bq.ay.map Je), .sl (x.au.bz.ay.map Je)]
structure BT where
 ak:Int
 b8:Int
 au:C4
@[simp] def zCg (x:BT):AV:= .agg [.int .i64 x.ak, .int .i64 x.b8, .int .i64 x.au.a8, .int .i64 x.au.bg, .int .i64 x.au.au.ak, .sl (x.au.au.bq.ay.map Je), .sl (x.au.au.bz.ay.map Je)]
structure AA where
 ak:Int
 af:List UInt8
 bb:List UInt8
 jj:Int
@[simp] def zKc (x:AA):AV:= .agg [.int .i64 x.ak, .str x.af, .str x.bb, .int .i64 x.jj]
structure BP where
 af:List UInt8
 bb:List UInt8
 dn:Bool
@[simp] def zJy (x:BP):AV:= .agg [.str x.af, .str x.bb, .bool x.dn]
structure B3 where
 bd:List UInt8
 cm:List AA
@[simp] def zIw (x:B3):AV:= .agg [.str x.bd, .sl (x.cm.map zKc)]
structure Yl where
 mr:Int
@[simp] def yO (x:Yl):AV:= .agg [.int .i64 x.mr]
structure tU where
 ng:Int
 nk:Int
@[simp] def zz7 (x:tU):AV:= .agg [.int .i64 x.ng, .int .i64 x.nk]
structure z7 where
 oz:Int
 ma:Yl
 l5:List Yl
 ng:Int
 me:List tU
@[simp] def zGL (x:z7):AV:= .agg [.int .i64 x.oz, .int .i64 x.ma.mr, .sl (x.l5.map yO), .int .i64 x.ng, .sl (x.me.map zz7)]
structure zx3 where
 ak:Int
 oj:Int
 jj:Int
@[simp] def zBB (x:zx3):AV:= .agg [.int .i64 x.ak, .int .i64 x.oj, .int .i64 x.jj]
structure zIR where
 o5:Int
 ny:Int
@[simp] def zIk (x:zIR):AV:= .agg [.int .i64 x.o5, .int .i64 x.ny]
end Go.Proofs.YtbmbkgalkfmjdaaGreatDoor
end
noncomputable section
namespace Go.Proofs.YtbmbkgalkfmjdaaGreatDoor
open Go.ChangeShapes Go.WideShapes Go.ChangeAt Go.RowKit
set_option maxRecDepth 100000
theorem op1:HW Tryz.prog 5 fun xs=> ∃n,Ma n∧xs= [Rx n]:=zKj Tryz.underlying5 (by kernel_rfl)
theorem wB:HW Tryz.prog 22 fun xs=> ∃l:List Int,Rf Ma l∧xs= [.sl (l.map Rx)]:=zJJ Tryz.underlying22 (by kernel_rfl) (by kernel_rfl) op1
end Go.Proofs.YtbmbkgalkfmjdaaGreatDoor
end
noncomputable section
namespace Go.Proofs.YtbmbkgalkfmjdaaGreatDoor
open Go.RowKit
set_option maxRecDepth 100000
def Jy {α:Type} (p:α→Option Bool):List α→Option (List α)
 | []=>some []
 |x::xs=>(p x).bind fun b=>(Jy p xs).bind fun r=>some (if b=true then r else x::r)
def Jr {α:Type} (xs:List α) (p:α→Option Bool):Option (List α):=req (xs.length≤9223372036854775806) (Jy p xs)
theorem cA {α:Type} {p:α→Option Bool} (q:α→Bool): ∀{l:List α},(∀x∈l,p x=some (q x))→Jy p l=some (l.filter fun x=> !q x)
 | [],_=>rfl
 |x::l,h=>by have e:=cA (p:=p) q (l:=l) fun y hy=>h y (List.mem_cons_of_mem _ hy);simp only [Jy,h x (by simp),e,Aa,List.filter_cons];cases q x<;>rfl
theorem zrD {α:Type} {p:α→Option Bool} {l r:List α} {q:Nat} (hq:q<l.length) (h:Jy p (l.drop q)=some r): ∃b r',p l[q]=some b∧Jy p (l.drop (q+1))=some r'∧r=if b=true then r' else l[q]::r':=by rw [List.drop_eq_getElem_cons hq]at h;obtain⟨b,hb,h⟩:=Is h;obtain⟨r',hr,h⟩:=Is h;exact⟨b,r',hb,hr,by simpa using h.symm⟩
theorem pP {α:Type} {p:α→Option Bool}: ∀{l r:List α} (i:Int),Jy p l=some r→(Em p l i=some (-1)∧r=l)∨ ∃k r',k<l.length∧Em p l i=some (i+(k:Nat))∧Jy p (l.drop (k+1))=some r'∧r=l.take k++r'
 | [],r,i,h=>by cases h;exact .inl ⟨rfl,rfl⟩
 |x::l,r,i,h=>by
  obtain⟨b,hb,h⟩:=Is h;obtain⟨r1,hr,h⟩:=Is h;cases b with
  |true=>
   have:r1=r:=by simpa using h
   subst this;exact .inr ⟨0,r1,by simp,by simp [Em,hb],by simpa using hr,by simp⟩
  |false=>
   have:r=x::r1:=by simpa using h.symm
   subst this;rcases pP (i+1) hr with⟨h1,rfl⟩|⟨k,r',h1,h2,h3,rfl⟩
   ·exact .inl ⟨by simp [Em,hb,h1],rfl⟩
   ·exact .inr ⟨k+1,r',by simp;omega,by simp [Em,hb,h2];omega,by simpa using h3,by simp⟩
def kG (ck:List Cn) (k:Tr):Tr:=ck.foldr (fun c k=> .cc [] c k) k
section
variable {Rt:Nat→List AV→AV→Prop} {R:AV→Prop} {L:LK} {js:List JK} {ρ:List AV}
theorem tJ: ∀{ck:List Cn} {k:Tr},(∀c∈ck,c.den ρ)→k.den Rt R L js ρ→(kG ck k).den Rt R L js ρ
 | [],_,_,hk=>hk
 |c::ck,k,h,hk=>⟨fun _=>h c (by simp),tJ (fun q hq=>h q (by simp [hq])) hk⟩
theorem wH {t k:Tr} {K:List AV→Prop} (hK: ∀vs,K vs→k.den Rt R L js (ρ++vs)) (ht: ∀j:JK,(∀vs,K vs→j vs)→t.den Rt R L (j::js) ρ):(Tr.join t k).den Rt R L js ρ:=ht _ hK
end
def Yq (fi cn:Nat) (g:Bool) (X:E) (ck:List Cn) (z:E):Tr:=
 .call [] (.inl fi) (.cons (.var 0) (.cons (.var 1) .nil))<|
 .cc [] (.dfd (.bin .eql (.var 2) (.int .i64 (-1))))<|
 .ite (.bin .eql (.var 2) (.int .i64 (-1))) (
  .ret (.var 0)) (
  .cc [] (.dfd (.bin .add (.var 2) (.int .i64 (1))))<|
  .loop (.cons (.var 2) (.cons (.bin .add (.var 2) (.int .i64 (1))) (.cons (.var 0) .nil))) (
  .cc [] (.dfd (.len (.var 5)))<|
  .cc [] (.dfd (.bin .lss (.var 4) (.len (.var 5))))<|
  .ite (.bin .lss (.var 4) (.len (.var 5))) (
   .join (
   .cc [] (.inb (.var 4) (.var 5) cn)<|
   kG ck<|
   .call [] (.inr (.var 1)) (.cons X .nil)<|
   .cc [] (.dfd (.not (.var 6)))<|
   .ite (.not (.var 6)) (
    .cc [] (.inb (.var 3) (.var 5) cn)<|
    .cc [] (.flat X cn g)<|
    .cc [] (.flat (.fld (.idx (.var 5) (.var 3)) 0 cn g) cn g)<|
    .cc [] (.dfd (.bin .add (.var 3) (.int .i64 (1))))<|
    .jmp 0 (.cons (.bin .add (.var 3) (.int .i64 (1))) (.cons (.set (.var 5) (.var 3) (.put (.idx (.var 5) (.var 3)) 0 X g)) .nil))) (
    .jmp 0 (.cons (.var 3) (.cons (.var 5) .nil)))) (
   .cc [] (.dfd (.bin .add (.var 4) (.int .i64 (1))))<|
   .jmp 0 (.cons (.var 6) (.cons (.bin .add (.var 4) (.int .i64 (1))) (.cons (.var 7) .nil))))) (
   .jmp 1 (.cons (.var 3) (.cons (.var 5) .nil)))) (
  .cc [] (.win (.var 4) (.var 3) (.len (.var 4)))<|
  .cc [] (.win (.var 4) (.var 3) (.len (.var 4)))<|
  .cc [] (.dfd (.bin .sub (.len (.var 4)) (.var 3)))<|
  .cc [] (.win (.app (.win (.var 4) (.int .i64 (0)) (.var 3)) (.rep (.bin .sub (.len (.var 4)) (.var 3)) z)) (.int .i64 (0)) (.var 3))<|
  .ret (.win (.app (.win (.var 4) (.int .i64 (0)) (.var 3)) (.rep (.bin .sub (.len (.var 4)) (.var 3)) z)) (.int .i64 (0)) (.var 3))))
theorem xX {α:Type} {av:α→AV} {l r:List α} {p:α→Option Bool} {fi cn g9:Nat} {g:Bool} {X z:E} {ck:List Cn} {caps:List AV}
  (hs: ∀x,(av x).cells.length=cn∧(∀z∈(av x).cells,z.scalar=true)∧(g=true→ ∃cs,av x= .agg cs)∧(g=false→(av x).scalar=true)) (hcn:0<cn)
  (hX: ∀(a b c d:AV) (j:Nat) (ys:List AV) (x:α) (tl:List AV),ys[j]?=some (av x)→X.den ([a,b,c,d, .int .i64 j, .sl ys]++tl)=av x)
  (JQ: ∀(a b c d:AV) (j:Nat) (ys:List AV) (x:α),ys[j]?=some (av x)→ ∀q∈ck,q.den [a,b,c,d, .int .i64 j, .sl ys])
  (h:Jr l p=some r) (hi: ∀i,Ff l p=some i→Cv Tryz.prog Cu fi [.sl (l.map av), .fn g9 caps] (.int .i64 i))
  (hf: ∀x b,p x=some b→Cv Tryz.prog Cu (1000000+g9) (av x::caps) (.bool b)):Den (Yq fi cn g X ck z) (.sl (r.map av)) [.sl (l.map av), .fn g9 caps]:=by
 obtain⟨hn,h⟩:=GV h;unfold Den Yq;have F2: ∀x y:α,(av y).di 0 (av x) g=av x:=by
  intro x y;cases g with
  |false=>rfl
  |true=>
   obtain⟨cs,Bp⟩:=(hs x).2.2.1 rfl;have e1:=(hs x).1;have e2:=(hs y).1;have e3:(av x).cells=cs:=by rw [Bp];rfl
   have e4:(av y).cells.drop (0+cs.length)= []:=List.drop_eq_nil_of_le (by rw [e2,←e1,e3];omega);show AV.agg ((av y).cells.take 0++(av x).cells++(av y).cells.drop (0+(av x).cells.length))=av x;rw [e3,e4,List.append_nil,List.take_zero,List.nil_append,Bp]
 have fP: ∀x:α,(av x).fld 0 cn g=av x:=by
  intro x;cases g with
  |false=>have:=zyO ((hs x).2.2.2 rfl);simp [AV.fld,this]
  |true=>obtain⟨cs,Bp⟩:=(hs x).2.2.1 rfl;have e1:=(hs x).1;rw [Bp]at e1 ⊢;simp only [AV.fld,if_true,AV.cells]at e1 ⊢;rw [List.drop_zero,List.take_of_length_le (by omega)]
 have BC: ∀(e:E) (ρ:List AV) (x:α),e.den ρ=av x→Cn.den ρ (.flat e cn g):=fun e ρ x he=>by
  show(e.den ρ).cells.length=cn∧(∀y∈(e.den ρ).cells,y.scalar=true)∧(g=true→ ∃cs,e.den ρ= .agg cs)∧(g=false→(e.den ρ).scalar=true)
  rw [he];exact hs x
 rcases pP 0 h with⟨h1,rfl⟩|⟨k0,r0,LX,h1,h2,rfl⟩
 ·refine WO (r:= .int .i64 (-1)) (fun _=>hi _ (by unfold Ff;rw [show req (r.length≤9223372036854775806) (Em p r 0)=Em p r 0 from if_pos hn];exact h1)) ?_;exact B9 (by simp [BR]) (EN (t:=true) (by simp [BR]) (fun _=>IY (by simp)) (by simp))
 ·refine WO (r:= .int .i64 k0) (fun _=>hi _ (by unfold Ff;rw [show req (l.length≤9223372036854775806) (Em p l 0)=Em p l 0 from if_pos hn,h1];simp)) ?_;have hw:IntKind.i64.wrap ((k0:Int)+1)=k0+1:=Ba (by omega) (by omega);refine B9 (by simp [BR]) (EN (t:=false) (by simp [BR];try omega) (by simp) fun _=>B9 (by simp [BR]) ?_);refine sZ bK (fun m vs=> ∃(j:Nat) (K zs r':List α),j+m=l.length∧vs= [.int .i64 K.length, .int .i64 j, .sl (zs.map av)]∧K.length<j∧zs.length=l.length∧zs.take K.length=K∧zs.drop j=l.drop j∧Jy p (l.drop j)=some r'∧l.take k0++r0=K++r') (m:=l.length-(k0+1))
   ⟨k0+1,l.take k0,l,r0,by omega, ?_,by simp;omega,rfl,by simp [Nat.min_eq_left (Nat.le_of_lt LX)],rfl,h2,rfl⟩ ?_
  ·simp [BR,hw,Nat.min_eq_left (Nat.le_of_lt LX)]
  rintro m vs ⟨j,K,zs,r',hj,rfl,hKj,L7,Py,Pv,CZ,AS⟩;refine B9 (by simp) (B9 (by simp [BR]) ?_);by_cases Ak:j<l.length
  ·refine EN (t:=true) (by simp [BR,L7,Ak]) (fun _=> ?_) (by simp);obtain⟨b,r2,hb,Dd,Ni⟩:=zrD Ak CZ;have U5:zs[j]?=some l[j]:=by
    have:=congrArg (fun L=>L[0]?) Pv;simpa [Ak]using this
   have FO:(zs.map av)[j]?=some (av l[j]):=by simp [U5]
   have JJ:K.length<zs.length:=by omega
   have jB:IntKind.i64.wrap ((j:Int)+1)=j+1:=Ba (by omega) (by omega);have Rc:IntKind.i64.wrap ((K.length:Int)+1)=K.length+1:=Ba (by omega) (by omega);refine wH (K:=fun us=> ∃(K' zs':List α),us= [.int .i64 K'.length, .sl (zs'.map av)]∧K'.length<j+1∧zs'.length=l.length∧zs'.take K'.length=K'∧zs'.drop (j+1)=l.drop (j+1)∧l.take k0++r0=K'++r2) ?_ ?_
   ·rintro us ⟨K',zs',rfl,a1,a2,a3,a4,a5⟩;refine B9 (by simp [BR]) (Oe ⟨m-1,by omega,j+1,K',zs',r2,by omega, ?_,a1,a2,a3,a4,Dd,a5⟩);simp [BR,jB]
   ·intro J hJ;refine B9 (fun _=>⟨.i64,j,zs.length,by simp,by omega,by simp,by omega, ?_⟩) (tJ (JQ _ _ _ _ j (zs.map av) _ FO) (cH (r:= .bool b) (fun _=>⟨g9,caps,by simp, ?_,by simp⟩) ?_))
    ·simp [AV.nth,U5,(hs l[j]).1]
    ·have e1:=hX (.sl (l.map av)) (.fn g9 caps) (.int .i64 k0) (.int .i64 K.length) j (zs.map av) l[j] [] FO;rw [List.append_nil]at e1;show Cv Tryz.prog Cu (1000000+g9) ([X.den [.sl (l.map av), .fn g9 caps, .int .i64 k0, .int .i64 K.length, .int .i64 j, .sl (zs.map av)]]++caps) (.bool b);rw [e1];exact hf _ _ hb
    ·refine B9 (by simp) ?_;have e2:=hX (.sl (l.map av)) (.fn g9 caps) (.int .i64 k0) (.int .i64 K.length) j (zs.map av) l[j] [.bool b] FO;cases b with
     |true=>refine EN (t:=false) (by simp) (by simp) fun _=>Oe (hJ _ ⟨K,zs,by simp,by omega,L7,Py, ?_,by rw [AS,Ni];simp⟩);have:=congrArg (List.drop 1) Pv;simpa [List.drop_drop]using this
     |false=>
      refine EN (t:=true) (by simp) (fun _=> ?_) (by simp);obtain⟨zk,Nr⟩: ∃zk,zs[K.length]?=some zk:=⟨zs[K.length],by simp [JJ]⟩
      have e3:(E.idx (.var 5) (.var 3)).den ([AV.sl (l.map av), .fn g9 caps, .int .i64 k0, .int .i64 K.length, .int .i64 j, .sl (zs.map av)]++ [.bool false])=av zk:=by simp [AV.nth,Nr]
      refine B9 (fun _=>⟨.i64,K.length,zs.length,by simp,by omega,by simp,by omega, ?_⟩) (B9 (fun _=>BC _ _ _ e2) (B9 (fun _=>BC _ _ zk ?_) (B9 (by simp [BR]) (Oe (hJ _ ⟨K++ [l[j]],zs.set K.length l[j], ?_,by simp;omega,by simpa using L7, ?_, ?_,by rw [AS,Ni];simp⟩)))))
      ·simp [AV.nth,Nr,(hs zk).1]
      ·exact(congrArg (fun y=>AV.fld y 0 cn g) e3).trans (fP zk)
      ·have e4:(E.set (.var 5) (.var 3) (.put (.idx (.var 5) (.var 3)) 0 X g)).den ([AV.sl (l.map av), .fn g9 caps, .int .i64 k0, .int .i64 K.length, .int .i64 j, .sl (zs.map av)]++ [.bool false])= .sl ((zs.set K.length l[j]).map av):=by
        show AV.da _ _ (AV.di ((E.idx (.var 5) (.var 3)).den _) 0 (X.den _) g)=_;rw [e3,e2,F2];simp [AV.da,List.map_set]
       show EL.den _ (.cons (.bin .add (.var 3) (.int .i64 1)) (.cons (.set (.var 5) (.var 3) (.put (.idx (.var 5) (.var 3)) 0 X g)) .nil))=_;simp only [EL.den];have e5:(E.bin .add (.var 3) (.int .i64 1)).den ([AV.sl (l.map av), .fn g9 caps, .int .i64 k0, .int .i64 K.length, .int .i64 j, .sl (zs.map av)]++ [.bool false])= .int .i64 ((K++ [l[j]]).length:Int):=by simp [BR,Rc]
       congr 1;congr 1
      ·rw [Ar,AH,List.take_add_one,List.take_set_of_le (Nat.le_refl _),Py];simp [JJ]
      ·rw [List.drop_set_of_lt (by omega)];have:=congrArg (List.drop 1) Pv;simpa [List.drop_drop]using this
  ·have gD:j=l.length:=by omega
   subst gD;refine EN (t:=false) (by simp [BR,L7]) (by simp) fun _=>dG ?_;have G5:r'= []:=by rw [List.drop_eq_nil_of_le (Nat.le_refl _)]at CZ;exact(by simpa [Jy]using CZ.symm)
   subst G5;rw [AS,List.append_nil];have Np:IntKind.i64.wrap ((zs.length:Int)-K.length)=zs.length-K.length:=Ba (by omega) (by omega);have d3:(E.var 3).den ([AV.sl (l.map av),AV.fn g9 caps]++ [AV.int .i64 (k0:Int)]++ [AV.int .i64 (K.length:Int),AV.sl (zs.map av)])= .int .i64 K.length:=by simp
   have d4:(E.var 4).den ([AV.sl (l.map av),AV.fn g9 caps]++ [AV.int .i64 (k0:Int)]++ [AV.int .i64 (K.length:Int),AV.sl (zs.map av)])= .sl (zs.map av):=by simp
   have dm:(E.bin .sub (.len (.var 4)) (.var 3)).den ([AV.sl (l.map av),AV.fn g9 caps]++ [AV.int .i64 (k0:Int)]++ [AV.int .i64 (K.length:Int),AV.sl (zs.map av)])= .int .i64 ((zs.length:Int)-K.length):=by simp [BR,Np]
   have HF:Cn.den ([AV.sl (l.map av),AV.fn g9 caps]++ [AV.int .i64 (k0:Int)]++ [AV.int .i64 (K.length:Int),AV.sl (zs.map av)]) (.win (.var 4) (.var 3) (.len (.var 4))):=⟨.i64,K.length, .i64,zs.length,zs.length,d3,by simp,by rw [d4];simp,by omega,by omega,by omega⟩
   have dapp:(E.app (.win (.var 4) (.int .i64 (0)) (.var 3)) (.rep (.bin .sub (.len (.var 4)) (.var 3)) z)).den ([AV.sl (l.map av),AV.fn g9 caps]++ [AV.int .i64 (k0:Int)]++ [AV.int .i64 (K.length:Int),AV.sl (zs.map av)])= .sl ((zs.map av).take K.length++List.replicate (zs.length-K.length) (z.den ([AV.sl (l.map av),AV.fn g9 caps]++ [AV.int .i64 (k0:Int)]++ [AV.int .i64 (K.length:Int),AV.sl (zs.map av)]))):=by show AV.app (AV.win ((E.var 4).den _) (.int .i64 0) ((E.var 3).den _)) (AV.rep ((E.bin .sub (.len (.var 4)) (.var 3)).den _) _)=_;rw [d3,d4,dm];simp only [AV.win,AV.rep,AV.app,Int.toNat_natCast,Int.toNat_zero,List.drop_zero];congr 3;omega
   refine B9 (fun _=>HF) (B9 (fun _=>HF) (B9 (fun _=>fun hu=>by have:=dm.symm.trans hu;simp at this) (B9 (fun _=>⟨.i64,0, .i64,K.length,zs.length,rfl,d3, ?_,by omega,by omega,by omega⟩) (IY ?_))))
   ·refine(congrArg AV.len dapp).trans ?_;simp only [AV.len,Ar,List.length_take,List.length_map,List.length_replicate];congr 1;omega
   ·refine(congrArg (fun y=>AV.win y (.int .i64 0) (.int .i64 K.length)) dapp).trans ?_;simp only [AV.win,Int.toNat_natCast,Int.toNat_zero,List.drop_zero];rw [List.take_append_of_le_length (by simp;omega),List.take_take,Nat.min_self,←List.map_take,Py]
def jR (fi cn:Nat) (X:E) (ck:List Cn) (z:E):Tr:=
 .call [] (.inl fi) (.cons (.var 0) (.cons (.var 1) .nil))<|
 .cc [] (.dfd (.bin .eql (.var 2) (.int .i64 (-1))))<|
 .ite (.bin .eql (.var 2) (.int .i64 (-1))) (
  .ret (.var 0)) (
  .cc [] (.dfd (.bin .add (.var 2) (.int .i64 (1))))<|
  .loop (.cons (.var 2) (.cons (.bin .add (.var 2) (.int .i64 (1))) (.cons (.var 0) .nil))) (
  .cc [] (.dfd (.len (.var 5)))<|
  .cc [] (.dfd (.bin .lss (.var 4) (.len (.var 5))))<|
  .ite (.bin .lss (.var 4) (.len (.var 5))) (
   .join (
   .cc [] (.inb (.var 4) (.var 5) cn)<|
   kG ck<|
   .call [] (.inr (.var 1)) (.cons X .nil)<|
   .cc [] (.dfd (.not (.var 6)))<|
   .ite (.not (.var 6)) (
    .cc [] (.inb (.var 3) (.var 5) cn)<|
    .cc [] (.agg X cn)<|
    .cc [] (.dfd (.bin .add (.var 3) (.int .i64 (1))))<|
    .jmp 0 (.cons (.bin .add (.var 3) (.int .i64 (1))) (.cons (.set (.var 5) (.var 3) (.put (.idx (.var 5) (.var 3)) 0 X true)) .nil))) (
    .jmp 0 (.cons (.var 3) (.cons (.var 5) .nil)))) (
   .cc [] (.dfd (.bin .add (.var 4) (.int .i64 (1))))<|
   .jmp 0 (.cons (.var 6) (.cons (.bin .add (.var 4) (.int .i64 (1))) (.cons (.var 7) .nil))))) (
   .jmp 1 (.cons (.var 3) (.cons (.var 5) .nil)))) (
  .cc [] (.win (.var 4) (.var 3) (.len (.var 4)))<|
  .cc [] (.win (.var 4) (.var 3) (.len (.var 4)))<|
  .cc [] (.dfd (.bin .sub (.len (.var 4)) (.var 3)))<|
  .cc [] (.win (.app (.win (.var 4) (.int .i64 (0)) (.var 3)) (.rep (.bin .sub (.len (.var 4)) (.var 3)) z)) (.int .i64 (0)) (.var 3))<|
  .ret (.win (.app (.win (.var 4) (.int .i64 (0)) (.var 3)) (.rep (.bin .sub (.len (.var 4)) (.var 3)) z)) (.int .i64 (0)) (.var 3))))
theorem zFC {α:Type} {av:α→AV} {l r:List α} {p:α→Option Bool} {fi cn g9:Nat} {X z:E} {ck:List Cn} {caps:List AV}
  (hs: ∀x,(av x).cells.length=cn∧ ∃cs,av x= .agg cs) (hcn:0<cn)
  (hX: ∀(a b c d:AV) (j:Nat) (ys:List AV) (x:α) (tl:List AV),ys[j]?=some (av x)→X.den ([a,b,c,d, .int .i64 j, .sl ys]++tl)=av x)
  (JQ: ∀(a b c d:AV) (j:Nat) (ys:List AV) (x:α),ys[j]?=some (av x)→ ∀q∈ck,q.den [a,b,c,d, .int .i64 j, .sl ys])
  (h:Jr l p=some r) (hi: ∀i,Ff l p=some i→Cv Tryz.prog Cu fi [.sl (l.map av), .fn g9 caps] (.int .i64 i))
  (hf: ∀x b,p x=some b→Cv Tryz.prog Cu (1000000+g9) (av x::caps) (.bool b)):Den (jR fi cn X ck z) (.sl (r.map av)) [.sl (l.map av), .fn g9 caps]:=by
 obtain⟨hn,h⟩:=GV h;unfold Den jR;have F2: ∀x y:α,(av y).di 0 (av x) true=av x:=by
  intro x y;obtain⟨cs,Bp⟩:=(hs x).2;have e1:=(hs x).1;have e2:=(hs y).1;have e3:(av x).cells=cs:=by rw [Bp];rfl
  have e4:(av y).cells.drop (0+cs.length)= []:=List.drop_eq_nil_of_le (by rw [e2,←e1,e3];omega);show AV.agg ((av y).cells.take 0++(av x).cells++(av y).cells.drop (0+(av x).cells.length))=av x;rw [e3,e4,List.append_nil,List.take_zero,List.nil_append,Bp]
 have BC: ∀(e:E) (ρ:List AV) (x:α),e.den ρ=av x→Cn.den ρ (.agg e cn):=fun e ρ x he=>by show∃cs,e.den ρ= .agg cs∧cs.length=cn;rw [he];obtain⟨cs,Bp⟩:=(hs x).2;have e1:=(hs x).1;rw [Bp]at e1;exact⟨cs,Bp,e1⟩
 rcases pP 0 h with⟨h1,rfl⟩|⟨k0,r0,LX,h1,h2,rfl⟩
 ·refine WO (r:= .int .i64 (-1)) (fun _=>hi _ (by unfold Ff;rw [show req (r.length≤9223372036854775806) (Em p r 0)=Em p r 0 from if_pos hn];exact h1)) ?_;exact B9 (by simp [BR]) (EN (t:=true) (by simp [BR]) (fun _=>IY (by simp)) (by simp))
 ·refine WO (r:= .int .i64 k0) (fun _=>hi _ (by unfold Ff;rw [show req (l.length≤9223372036854775806) (Em p l 0)=Em p l 0 from if_pos hn,h1];simp)) ?_;have hw:IntKind.i64.wrap ((k0:Int)+1)=k0+1:=Ba (by omega) (by omega);refine B9 (by simp [BR]) (EN (t:=false) (by simp [BR];try omega) (by simp) fun _=>B9 (by simp [BR]) ?_);refine sZ bK (fun m vs=> ∃(j:Nat) (K zs r':List α),j+m=l.length∧vs= [.int .i64 K.length, .int .i64 j, .sl (zs.map av)]∧K.length<j∧zs.length=l.length∧zs.take K.length=K∧zs.drop j=l.drop j∧Jy p (l.drop j)=some r'∧l.take k0++r0=K++r') (m:=l.length-(k0+1))
   ⟨k0+1,l.take k0,l,r0,by omega, ?_,by simp;omega,rfl,by simp [Nat.min_eq_left (Nat.le_of_lt LX)],rfl,h2,rfl⟩ ?_
  ·simp [BR,hw,Nat.min_eq_left (Nat.le_of_lt LX)]
  rintro m vs ⟨j,K,zs,r',hj,rfl,hKj,L7,Py,Pv,CZ,AS⟩;refine B9 (by simp) (B9 (by simp [BR]) ?_);by_cases Ak:j<l.length
  ·refine EN (t:=true) (by simp [BR,L7,Ak]) (fun _=> ?_) (by simp);obtain⟨b,r2,hb,Dd,Ni⟩:=zrD Ak CZ;have U5:zs[j]?=some l[j]:=by
    have:=congrArg (fun L=>L[0]?) Pv;simpa [Ak]using this
   have FO:(zs.map av)[j]?=some (av l[j]):=by simp [U5]
   have JJ:K.length<zs.length:=by omega
   have jB:IntKind.i64.wrap ((j:Int)+1)=j+1:=Ba (by omega) (by omega);have Rc:IntKind.i64.wrap ((K.length:Int)+1)=K.length+1:=Ba (by omega) (by omega);refine wH (K:=fun us=> ∃(K' zs':List α),us= [.int .i64 K'.length, .sl (zs'.map av)]∧K'.length<j+1∧zs'.length=l.length∧zs'.take K'.length=K'∧zs'.drop (j+1)=l.drop (j+1)∧l.take k0++r0=K'++r2) ?_ ?_
   ·rintro us ⟨K',zs',rfl,a1,a2,a3,a4,a5⟩;refine B9 (by simp [BR]) (Oe ⟨m-1,by omega,j+1,K',zs',r2,by omega, ?_,a1,a2,a3,a4,Dd,a5⟩);simp [BR,jB]
   ·intro J hJ;refine B9 (fun _=>⟨.i64,j,zs.length,by simp,by omega,by simp,by omega, ?_⟩) (tJ (JQ _ _ _ _ j (zs.map av) _ FO) (cH (r:= .bool b) (fun _=>⟨g9,caps,by simp, ?_,by simp⟩) ?_))
    ·simp [AV.nth,U5,(hs l[j]).1]
    ·have e1:=hX (.sl (l.map av)) (.fn g9 caps) (.int .i64 k0) (.int .i64 K.length) j (zs.map av) l[j] [] FO;rw [List.append_nil]at e1;show Cv Tryz.prog Cu (1000000+g9) ([X.den [.sl (l.map av), .fn g9 caps, .int .i64 k0, .int .i64 K.length, .int .i64 j, .sl (zs.map av)]]++caps) (.bool b);rw [e1];exact hf _ _ hb
    ·refine B9 (by simp) ?_;have e2:=hX (.sl (l.map av)) (.fn g9 caps) (.int .i64 k0) (.int .i64 K.length) j (zs.map av) l[j] [.bool b] FO;cases b with
     |true=>refine EN (t:=false) (by simp) (by simp) fun _=>Oe (hJ _ ⟨K,zs,by simp,by omega,L7,Py, ?_,by rw [AS,Ni];simp⟩);have:=congrArg (List.drop 1) Pv;simpa [List.drop_drop]using this
     |false=>
      refine EN (t:=true) (by simp) (fun _=> ?_) (by simp);obtain⟨zk,Nr⟩: ∃zk,zs[K.length]?=some zk:=⟨zs[K.length],by simp [JJ]⟩
      have e3:(E.idx (.var 5) (.var 3)).den ([AV.sl (l.map av), .fn g9 caps, .int .i64 k0, .int .i64 K.length, .int .i64 j, .sl (zs.map av)]++ [.bool false])=av zk:=by simp [AV.nth,Nr]
      refine B9 (fun _=>⟨.i64,K.length,zs.length,by simp,by omega,by simp,by omega, ?_⟩) (B9 (fun _=>BC _ _ _ e2) (B9 (by simp [BR]) (Oe (hJ _ ⟨K++ [l[j]],zs.set K.length l[j], ?_,by simp;omega,by simpa using L7, ?_, ?_,by rw [AS,Ni];simp⟩))))
      ·simp [AV.nth,Nr,(hs zk).1]
      ·have e4:(E.set (.var 5) (.var 3) (.put (.idx (.var 5) (.var 3)) 0 X true)).den ([AV.sl (l.map av), .fn g9 caps, .int .i64 k0, .int .i64 K.length, .int .i64 j, .sl (zs.map av)]++ [.bool false])= .sl ((zs.set K.length l[j]).map av):=by
        show AV.da _ _ (AV.di ((E.idx (.var 5) (.var 3)).den _) 0 (X.den _) true)=_;rw [e3,e2,F2];simp [AV.da,List.map_set]
       show EL.den _ (.cons (.bin .add (.var 3) (.int .i64 1)) (.cons (.set (.var 5) (.var 3) (.put (.idx (.var 5) (.var 3)) 0 X true)) .nil))=_;simp only [EL.den];have e5:(E.bin .add (.var 3) (.int .i64 1)).den ([AV.sl (l.map av), .fn g9 caps, .int .i64 k0, .int .i64 K.length, .int .i64 j, .sl (zs.map av)]++ [.bool false])= .int .i64 ((K++ [l[j]]).length:Int):=by simp [BR,Rc]
       congr 1;congr 1
      ·rw [Ar,AH,List.take_add_one,List.take_set_of_le (Nat.le_refl _),Py];simp [JJ]
      ·rw [List.drop_set_of_lt (by omega)];have:=congrArg (List.drop 1) Pv;simpa [List.drop_drop]using this
  ·have gD:j=l.length:=by omega
   subst gD;refine EN (t:=false) (by simp [BR,L7]) (by simp) fun _=>dG ?_;have G5:r'= []:=by rw [List.drop_eq_nil_of_le (Nat.le_refl _)]at CZ;exact(by simpa [Jy]using CZ.symm)
   subst G5;rw [AS,List.append_nil];have Np:IntKind.i64.wrap ((zs.length:Int)-K.length)=zs.length-K.length:=Ba (by omega) (by omega);have d3:(E.var 3).den ([AV.sl (l.map av),AV.fn g9 caps]++ [AV.int .i64 (k0:Int)]++ [AV.int .i64 (K.length:Int),AV.sl (zs.map av)])= .int .i64 K.length:=by simp
   have d4:(E.var 4).den ([AV.sl (l.map av),AV.fn g9 caps]++ [AV.int .i64 (k0:Int)]++ [AV.int .i64 (K.length:Int),AV.sl (zs.map av)])= .sl (zs.map av):=by simp
   have dm:(E.bin .sub (.len (.var 4)) (.var 3)).den ([AV.sl (l.map av),AV.fn g9 caps]++ [AV.int .i64 (k0:Int)]++ [AV.int .i64 (K.length:Int),AV.sl (zs.map av)])= .int .i64 ((zs.length:Int)-K.length):=by simp [BR,Np]
   have HF:Cn.den ([AV.sl (l.map av),AV.fn g9 caps]++ [AV.int .i64 (k0:Int)]++ [AV.int .i64 (K.length:Int),AV.sl (zs.map av)]) (.win (.var 4) (.var 3) (.len (.var 4))):=⟨.i64,K.length, .i64,zs.length,zs.length,d3,by simp,by rw [d4];simp,by omega,by omega,by omega⟩
   have dapp:(E.app (.win (.var 4) (.int .i64 (0)) (.var 3)) (.rep (.bin .sub (.len (.var 4)) (.var 3)) z)).den ([AV.sl (l.map av),AV.fn g9 caps]++ [AV.int .i64 (k0:Int)]++ [AV.int .i64 (K.length:Int),AV.sl (zs.map av)])= .sl ((zs.map av).take K.length++List.replicate (zs.length-K.length) (z.den ([AV.sl (l.map av),AV.fn g9 caps]++ [AV.int .i64 (k0:Int)]++ [AV.int .i64 (K.length:Int),AV.sl (zs.map av)]))):=by show AV.app (AV.win ((E.var 4).den _) (.int .i64 0) ((E.var 3).den _)) (AV.rep ((E.bin .sub (.len (.var 4)) (.var 3)).den _) _)=_;rw [d3,d4,dm];simp only [AV.win,AV.rep,AV.app,Int.toNat_natCast,Int.toNat_zero,List.drop_zero];congr 3;omega
   refine B9 (fun _=>HF) (B9 (fun _=>HF) (B9 (fun _=>fun hu=>by have:=dm.symm.trans hu;simp at this) (B9 (fun _=>⟨.i64,0, .i64,K.length,zs.length,rfl,d3, ?_,by omega,by omega,by omega⟩) (IY ?_))))
   ·refine(congrArg AV.len dapp).trans ?_;simp only [AV.len,Ar,List.length_take,List.length_map,List.length_replicate];congr 1;omega
   ·refine(congrArg (fun y=>AV.win y (.int .i64 0) (.int .i64 K.length)) dapp).trans ?_;simp only [AV.win,Int.toNat_natCast,Int.toNat_zero,List.drop_zero];rw [List.take_append_of_le_length (by simp;omega),List.take_take,Nat.min_self,←List.map_take,Py]
abbrev RtS:Nat→List AV→AV→Prop:=Cv Tryz.prog Cu
@[reducible] def Rv:Nat→Type
 |0=>Ac
 |1=>Ap
 |2=>Au
 |3=>Ad
 |4=>AE
 |5=>Aq
 |6=>AD
 |7=>Ax
 |8=>Bb
 |9=>C4
 |10=>BT
 |11=>AA
 |12=>BP
 |13=>B3
 |14=>Yl
 |15=>tU
 |16=>z7
 |17=>zx3
 |18=>zIR
 |_+19=>Unit
@[reducible] def YB:Nat→List Ty
 |0=> [.s, .s, .b]
 |1=> [.l (.i .u8), .i .i64, .i .u64]
 |2=> [.s, .i .i64, .i .i64]
 |3=> [.s, .l .s, .l (.st 2)]
 |4=> [.l .s]
 |5=> [.s, .l (.st 3), .l (.i .i64), .l (.st 0)]
 |6=> [.s, .b]
 |7=> [.s, .l (.st 3), .l (.i .i64), .l (.st 0), .s, .b, .s, .b]
 |8=> [.i .i64, .l .s, .l .s]
 |9=> [.i .i64, .i .i64, .i .i64, .l .s, .l .s]
 |10=> [.i .i64, .i .i64, .i .i64, .i .i64, .i .i64, .l .s, .l .s]
 |11=> [.i .i64, .s, .s, .i .i64]
 |12=> [.s, .s, .b]
 |13=> [.s, .l (.st 11)]
 |14=> [.i .i64]
 |15=> [.i .i64, .i .i64]
 |16=> [.i .i64, .i .i64, .l (.st 14), .i .i64, .l (.st 15)]
 |17=> [.i .i64, .i .i64, .i .i64]
 |18=> [.i .i64, .i .i64]
 |_+19=> []
def L8: ∀n,Rv n→AV
 |0,x=>tN x
 |1,x=>zHj x
 |2,x=>zIC x
 |3,x=>uE x
 |4,x=>zJK x
 |5,x=>zG5 x
 |6,x=>zIF x
 |7,x=>zIU x
 |8,x=>zFr x
 |9,x=>zBd x
 |10,x=>zCg x
 |11,x=>zKc x
 |12,x=>zJy x
 |13,x=>zIw x
 |14,x=>yO x
 |15,x=>zz7 x
 |16,x=>zGL x
 |17,x=>zBB x
 |18,x=>zIk x
 |_+19,_=> .agg []
def lF: ∀n,Rv n→HL Rv (YB n)
 |0,x=>(x.af,x.bb,x.bh,())
 |1,x=>(x.ax,x.bw,x.a7,())
 |2,x=>(x.ae,x.bj,x.aq,())
 |3,x=>(x.ae,x.ar,x.ah,())
 |4,x=>(x.ay,())
 |5,x=>(x.ae,x.aj,x.bp,x.ao,())
 |6,x=>(x.al,x.a6,())
 |7,x=>(x.ab.ae,x.ab.aj,x.ab.bp,x.ab.ao,x.ca.al,x.ca.a6,x.az.al,x.az.a6,())
 |8,x=>(x.ak,x.bq.ay,x.bz.ay,())
 |9,x=>(x.a8,x.bg,x.au.ak,x.au.bq.ay,x.au.bz.ay,())
 |10,x=>(x.ak,x.b8,x.au.a8,x.au.bg,x.au.au.ak,x.au.au.bq.ay,x.au.au.bz.ay,())
 |11,x=>(x.ak,x.af,x.bb,x.jj,())
 |12,x=>(x.af,x.bb,x.dn,())
 |13,x=>(x.bd,x.cm,())
 |14,x=>(x.mr,())
 |15,x=>(x.ng,x.nk,())
 |16,x=>(x.oz,x.ma.mr,x.l5,x.ng,x.me,())
 |17,x=>(x.ak,x.oj,x.jj,())
 |18,x=>(x.o5,x.ny,())
 |_+19,_=>()
def wC: ∀n,HL Rv (YB n)→Rv n
 |0,x=>⟨x.1,x.2.1,x.2.2.1⟩
 |1,x=>⟨x.1,x.2.1,x.2.2.1⟩
 |2,x=>⟨x.1,x.2.1,x.2.2.1⟩
 |3,x=>⟨x.1,x.2.1,x.2.2.1⟩
 |4,x=>⟨x.1⟩
 |5,x=>⟨x.1,x.2.1,x.2.2.1,x.2.2.2.1⟩
 |6,x=>⟨x.1,x.2.1⟩
 |7,x=>⟨⟨x.1,x.2.1,x.2.2.1,x.2.2.2.1⟩,⟨x.2.2.2.2.1,x.2.2.2.2.2.1⟩,⟨x.2.2.2.2.2.2.1,x.2.2.2.2.2.2.2.1⟩⟩
 |8,x=>⟨x.1,⟨x.2.1⟩,⟨x.2.2.1⟩⟩
 |9,x=>⟨x.1,x.2.1,⟨x.2.2.1,⟨x.2.2.2.1⟩,⟨x.2.2.2.2.1⟩⟩⟩
 |10,x=>⟨x.1,x.2.1,⟨x.2.2.1,x.2.2.2.1,⟨x.2.2.2.2.1,⟨x.2.2.2.2.2.1⟩,⟨x.2.2.2.2.2.2.1⟩⟩⟩⟩
 |11,x=>⟨x.1,x.2.1,x.2.2.1,x.2.2.2.1⟩
 |12,x=>⟨x.1,x.2.1,x.2.2.1⟩
 |13,x=>⟨x.1,x.2.1⟩
 |14,x=>⟨x.1⟩
 |15,x=>⟨x.1,x.2.1⟩
 |16,x=>⟨x.1,⟨x.2.1⟩,x.2.2.1,x.2.2.2.1,x.2.2.2.2.1⟩
 |17,x=>⟨x.1,x.2.1,x.2.2.1⟩
 |18,x=>⟨x.1,x.2.1⟩
 |_+19,_=>()
theorem zIT: ∀n x,L8 n x= .agg (Ih L8 (YB n) (lF n x))
 |0,_=>rfl
 |1,_=>rfl
 |2,_=>rfl
 |3,_=>rfl
 |4,_=>rfl
 |5,_=>rfl
 |6,_=>rfl
 |7,_=>rfl
 |8,_=>rfl
 |9,_=>rfl
 |10,_=>rfl
 |11,_=>rfl
 |12,_=>rfl
 |13,_=>rfl
 |14,_=>rfl
 |15,_=>rfl
 |16,_=>rfl
 |17,_=>rfl
 |18,_=>rfl
 |_+19,_=>rfl
theorem zGV: ∀n h,lF n (wC n h)=h
 |0,_=>rfl
 |1,_=>rfl
 |2,_=>rfl
 |3,_=>rfl
 |4,_=>rfl
 |5,_=>rfl
 |6,_=>rfl
 |7,_=>rfl
 |8,_=>rfl
 |9,_=>rfl
 |10,_=>rfl
 |11,_=>rfl
 |12,_=>rfl
 |13,_=>rfl
 |14,_=>rfl
 |15,_=>rfl
 |16,_=>rfl
 |17,_=>rfl
 |18,_=>rfl
 |_+19,_=>rfl
@[reducible] def tab:Jf:=⟨RtS,Rv,L8,YB,lF,wC,zIT,zGV⟩
abbrev FS:=FN tab
def jL (tb:List FS) (hs:List JM) (o:Option Tr) (ps:List PT) (r:RT) (xs:HP tab.car ps) (hp:Ig tab ps xs):Option (Hj tab.car r):=match o with
 |some t=>CB tb 100000 (Rh r) t hs (Yb ps xs hp) [] []
 |none=>none
theorem zIN {f:Nat} {ps:List PT} {r:RT} {φ:HP tab.car ps→Option (Hj tab.car r)} (tb:List FS) (hs:List JM) (h: ∀xs hp,jL tb hs (Vk Tryz.prog Cu f) ps r xs hp=φ xs) (hk: ∀xs y,Yv Tryz.prog Cu f (Gg tab ps xs) (Gp tab r y)=true) (xs:HP tab.car ps) (y:Hj tab.car r) (hp:Ig tab ps xs) (e:φ xs=some y):tab.Rt f (Gg tab ps xs) (Gp tab r y):=by
 rw [←h xs hp]at e;unfold jL at e;split at e
 ·rename_i t ht;refine FA ht (hk xs y) ?_;unfold Den;rw [←yQ ps xs hp];exact E4 tb 100000 (fa:= []) (fun _ h=>nomatch h) (fun _ h=>nomatch h) (fun v hv=>tZ r hv) .nil e
 ·cases e
def Am (f:Nat) (ps:List PT) (r:RT) (φ:HP tab.car ps→Option (Hj tab.car r)) (tb:List FS) (hs:List JM) (h: ∀xs hp,jL tb hs (Vk Tryz.prog Cu f) ps r xs hp=φ xs:=by intro _ _;kernel_rfl) (hk: ∀xs y,Yv Tryz.prog Cu f (Gg tab ps xs) (Gp tab r y)=true:=by intro _ _;kernel_rfl):FS:=
 ⟨f,ps,r,φ,fun xs y hp e=>zIN tb hs h hk xs y hp e,false,fun h=>by cases h⟩
def II (d:FS) (h: ∀y,jY d.f (Gp tab d.r y)=true):FS:=
 ⟨d.f,d.ps,d.r,d.φ,d.ok,true,fun _ xs y hx e=>zCk (d.ok xs y hx e) (h y)⟩
def DJ (f:Nat) (ps:List PT) (r:RT) (φ:HP tab.car ps→Option (Hj tab.car r)) (ok: ∀xs y,Ig tab ps xs→φ xs=some y→tab.Rt f (Gg tab ps xs) (Gp tab r y)):FS:=⟨f,ps,r,φ,ok,false,fun h=>by cases h⟩
end Go.Proofs.YtbmbkgalkfmjdaaGreatDoor
end
noncomputable section
namespace Go.Proofs.YtbmbkgalkfmjdaaGreatDoor
open Go.RowKit
theorem DU.rd {P:Program} {w:World} {ts:List TypeId} {ms:List PM} {lo:List Bool} {vs:List Value} {xs:List AV} {rf lf hs:List Nat} (h:DU P w ts ms lo vs xs rf lf hs):lo= []→(∀m∈ms,m= .ro)→Rd w vs xs rf∧hs= []:=by
 induction h with
 |nil=>intro _ _;exact⟨.nil,rfl⟩
 |lent h1 _ _ _ _=>intro Ci;subst Ci;cases h1
 | @cons t ts ms lo v vs x xs f h rf lf hs A9 _ ih=>
  intro Ci EZ;subst Ci;obtain⟨h1,rfl⟩:=ih rfl fun m hm=>EZ m (List.mem_of_mem_tail hm);have HC:ms.headD .ro= .ro:=by
   cases ms with
   |nil=>rfl
   |cons m ms=>exact EZ m (by simp)
  rw [HC]at A9;obtain⟨h2,h3⟩:Rd w [v] [x] f∧h= []:=A9;subst h3;exact⟨by simpa using h2.app h1,rfl⟩
 |free h1 _ ih=>intro Ci EZ;subst Ci;obtain⟨h2,rfl⟩:=ih rfl fun m hm=>EZ m (List.mem_of_mem_tail hm);exact⟨by simpa using h1.app h2,rfl⟩
theorem D7.kj {P:Program} {w:World}: ∀{ts:List TypeId} {ms:List PM} {vs:List Value},vs.length=ts.length→(∀m∈ms,m= .ro)→D7 P w ts ms vs [] [] []
 | [],_,vs,_,_=> .nil
 |t::ts,ms, [],h,_=>by simp at h
 |t::ts,ms,v::vs,h,EZ=>by
  refine .ro ?_ (D7.kj (by simpa using h) fun m hm=>EZ m (List.mem_of_mem_tail hm));cases ms with
  |nil=>rfl
  |cons m ms=>exact EZ m (by simp)
def lC (P:Program) (sg:BX) (f np:Nat) (r:AV):Bool:=
 match P.funcs[f]?,sg f with
 |some fn,some s=>fn.body.isSome&& !(fn.name== "runtime.NumGoroutine")&&Oj P fn s r&&s.cy.all (fun m=>match m with| .ro=>true|_=>false)&&fn.params.size==np&&fn.nfree==0&&(s.ft.isEmpty&&s.lo.isEmpty)&&(match fn.resultTypes.toList with| [t]=> !Hf P t s.res|_=>false)
 |_,_=>false
theorem wI {f:Nat} {xs:List AV} {r:AV} (hk:lC Tryz.prog Cu f xs.length r=true) (hc: ∀(w:World) (vs:List Value) (rf:List Nat),F7.K w→Rd w vs xs rf→Calls Tryz.prog f vs.toArray w fun e w'=>Mod [] w w'∧ ∃v f1,e= .returned v∧Rd w' [v] [r] f1∧ ∀b∈f1,b∈rf∨w.heap.size≤b):Cv Tryz.prog Cu f xs r:=by
 unfold lC at hk;split at hk
 ·rename_i fn s hf hs;simp only [Ae,Bool.not_eq_true',beq_iff_eq,AK]at hk;obtain⟨⟨⟨⟨⟨⟨⟨h1,h2⟩,h3⟩,h4⟩,h5⟩,h6⟩,EF⟩,h7⟩:=hk;obtain⟨EF,Ci⟩:s.ft= []∧s.lo= []:=by simpa using EF
  have HC: ∀m∈s.cy,m= .ro:=fun m hm=>by
   have:=h4 m hm;split at this
   ·rfl
   ·cases this
  unfold Cv;rw [if_pos (TX f s hs)];refine⟨s,hs,fn,hf,h1,h2,h3,by omega,by simp [EF],fun w vs rf lf Bl AB hd _ Co Ew=> ?_⟩;obtain⟨hr,rfl⟩:=AB.rd Ci HC;refine(hc w vs rf Ew.2.1 hr).mono ?_;rintro e w' ⟨hm,v,f1,rfl,hv,hb⟩;refine⟨v,rfl,⟨⟨r, [],f1, [], [], [],rfl, ?_,D7.kj ?_ HC,by simp,by simp,fun b Cc=>⟨by simp, ?_⟩⟩,hm⟩⟩
  ·unfold KX;split at h7
   ·rename_i t ht;rw [ht];show E8 Tryz.prog w' t s.res v r f1 [];unfold E8;rw [if_neg (by rw [Bool.not_eq_true];simpa using h7)];exact⟨hv,rfl⟩
   ·cases h7
  ·rw [hr.len];simp [EF];omega
  ·rcases hb b (by simpa using Cc)with h|h
   ·exact .inl h
   ·exact .inr (.inr h)
 ·cases hk
theorem dU {f:Nat} {xs:List AV} {r:AV} (hk:lC Tryz.prog Cu f xs.length r=true) (hc: ∀(w:World) (vs:List Value) (rf:List Nat),Rd w vs xs rf→Calls Tryz.prog f vs.toArray w fun e w'=>Mod [] w w'∧ ∃v f1,e= .returned v∧Rd w' [v] [r] f1∧ ∀b∈f1,b∈rf∨w.heap.size≤b):Cv Tryz.prog Cu f xs r:=
 wI hk fun w vs rf _ hr=>hc w vs rf hr
theorem MH {w:World} {s:List UInt8} {vs:List Value} {xs:List AV} {f:List Nat} (h:Rd w vs (.str s::xs) f): ∃(b:ByteArray) (us:List Value),vs= .string b::us∧b.data.toList=s∧b.size≤9223372036854775807∧Rd w us xs f:=by
 cases h with
 |str a h=>exact⟨_,_,rfl,rfl,a,h⟩
theorem Xn {w:World} {k:IntKind} {n:Int} {vs:List Value} {xs:List AV} {f:List Nat} (h:Rd w vs (.int k n::xs) f): ∃us:List Value,vs= .int k n::us∧E9 k n∧Rd w us xs f:=by
 cases h with
 |int a h=>exact⟨_,rfl,a,h⟩
theorem My {w:World} {vs:List Value} {f:List Nat} (h:Rd w vs [] f):vs= []∧f= []:=by cases h;exact⟨rfl,rfl⟩
end Go.Proofs.YtbmbkgalkfmjdaaGreatDoor
end
noncomputable section
namespace Go.Proofs
open Go.Shelf
def Tryz.gk:Go.Shelf.Ren:=⟨fun|156=>199|165=>265|166=>266|169=>267|240=>294|241=>295|276=>317|277=>318|n=>n,fun|31=>23|9=>9|3=>3|4=>4|0=>0|20=>20|72=>280|76=>284|70=>278|37=>22|75=>283|127=>302|164=>314|5=>5|80=>241|n=>n,fun|n=>n⟩
theorem Tryz.j2:Go.Proofs.Lays.n156 Tryz.prog Tryz.gk:={
 mixed:=by kernel_rfl
 f156:=Tryz.func199.trans (congrArg some (by kernel_rfl))
 f165:=Tryz.func265.trans (congrArg some (by kernel_rfl))
 f166:=Tryz.func266.trans (congrArg some (by kernel_rfl))
 f169:=Tryz.func267.trans (congrArg some (by kernel_rfl))
 f240:=Tryz.func294.trans (congrArg some (by kernel_rfl))
 f241:=Tryz.func295.trans (congrArg some (by kernel_rfl))
 f276:=Tryz.func317.trans (congrArg some (by kernel_rfl))
 f277:=Tryz.func318.trans (congrArg some (by kernel_rfl))
 t0:=Tryz.underlying0
 a0:=Tryz.isAgg0
 z0:=Tryz.sizeOf0
 v0:=Tryz.zeroValue0
 t3:=Tryz.underlying3
 a3:=Tryz.isAgg3
 z3:=Tryz.sizeOf3
 v3:=Tryz.zeroValue3
 t4:=Tryz.underlying4
 a4:=Tryz.isAgg4
 z4:=Tryz.sizeOf4
 v4:=Tryz.zeroValue4
 t9:=Tryz.underlying9
 a9:=Tryz.isAgg9
 z9:=Tryz.sizeOf9
 v9:=Tryz.zeroValue9
 t20:=Tryz.underlying20
 a20:=Tryz.isAgg20
 z20:=Tryz.sizeOf20
 v20:=Tryz.zeroValue20
 t31:=Tryz.underlying23
 a31:=Tryz.isAgg23
 z31:=Tryz.sizeOf23
 v31:=Tryz.zeroValue23
 t37:=Tryz.underlying22
 a37:=Tryz.isAgg22
 z37:=Tryz.sizeOf22
 v37:=Tryz.zeroValue22
 t70:=Tryz.underlying278
 a70:=Tryz.isAgg278
 z70:=Tryz.sizeOf278
 v70:=Tryz.zeroValue278
 t72:=Tryz.underlying280
 a72:=Tryz.isAgg280
 z72:=Tryz.sizeOf280
 v72:=Tryz.zeroValue280
 t75:=Tryz.underlying283
 a75:=Tryz.isAgg283
 z75:=Tryz.sizeOf283
 v75:=Tryz.zeroValue283
 t76:=Tryz.underlying284
 a76:=Tryz.isAgg284
 z76:=Tryz.sizeOf284
 v76:=Tryz.zeroValue284
 t127:=Tryz.underlying302
 a127:=Tryz.isAgg302
 z127:=Tryz.sizeOf302
 v127:=Tryz.zeroValue302
 t164:=Tryz.underlying314
 a164:=Tryz.isAgg314
 z164:=Tryz.sizeOf314
 v164:=Tryz.zeroValue314}
theorem Tryz.dw:Builder.Extra Tryz.prog Tryz.gk:={
 sizeBuilder:=by kernel_rfl
 liesBuilder:=by kernel_rfl
 t5:=Tryz.underlying5
 a5:=Tryz.isAgg5
 z5:=Tryz.sizeOf5
 v5:=Tryz.zeroValue5
 infoByte:=by kernel_rfl
 cellsByte:=by kernel_rfl
 sizeByte:=by kernel_rfl
 neB5:=by decide}
open Go.RowKit in
theorem Tryz.strings_Join_none (a:Option Addr) (c:Nat) (sep:ByteArray) (w:World):
  Calls Tryz.prog 199 #[.slice a 0 c, .string sep] w fun e w'=>e= .returned (.string ⟨#[]⟩)∧w'=w:=Any.strings_Join_none Tryz.j2 Tryz.dw a c sep w
open Go.RowKit in
theorem Tryz.strings_Join (bk o c:Nat) (xs:List ByteArray) (sep:ByteArray) (w:World) (OO: ∀(j:Nat) x,xs[j]?=some x→w.cell? ⟨bk,o+j,none⟩=some (.string x)) (QZ:bk<w.heap.size) (hN:xs.length≤140737488355328) (JP:xs.length≤c) (hlen:(Lib.join (xs.map (·.data.toList)) sep.data.toList).length≤140737488355328):
  Calls Tryz.prog 199 #[.slice (some ⟨bk,o,none⟩) xs.length c, .string sep] w fun e w'=>e= .returned (.string ⟨(Lib.join (xs.map (·.data.toList)) sep.data.toList).toArray⟩)∧Below w.heap.size w w':=Any.strings_Join Tryz.j2 Tryz.dw bk o c xs sep w OO QZ hN JP hlen
def Tryz.im:Go.Shelf.Ren:=⟨fun|171=>283|243=>302|246=>321|283=>338|284=>339|285=>340|286=>341|129=>355|317=>354|318=>356|319=>357|320=>358|337=>364|338=>365|n=>n,fun|3=>3|9=>9|2=>2|4=>4|171=>323|0=>0|53=>103|37=>22|5=>5|173=>326|212=>341|51=>331|20=>20|213=>342|46=>243|232=>358|233=>359|n=>n,fun|17=>1|18=>6|19=>7|n=>n⟩
theorem Tryz.kd:Go.Proofs.LaysM.n171 Tryz.prog Tryz.im:={
 mixed:=by kernel_rfl
 f129:=Tryz.func355.trans (congrArg some (by kernel_rfl))
 f171:=Tryz.func283.trans (congrArg some (by kernel_rfl))
 f243:=Tryz.func302.trans (congrArg some (by kernel_rfl))
 f246:=Tryz.func321.trans (congrArg some (by kernel_rfl))
 f283:=Tryz.func338.trans (congrArg some (by kernel_rfl))
 f284:=Tryz.func339.trans (congrArg some (by kernel_rfl))
 f285:=Tryz.func340.trans (congrArg some (by kernel_rfl))
 f286:=Tryz.func341.trans (congrArg some (by kernel_rfl))
 f317:=Tryz.func354.trans (congrArg some (by kernel_rfl))
 f318:=Tryz.func356.trans (congrArg some (by kernel_rfl))
 f319:=Tryz.func357.trans (congrArg some (by kernel_rfl))
 f320:=Tryz.func358.trans (congrArg some (by kernel_rfl))
 f337:=Tryz.func364.trans (congrArg some (by kernel_rfl))
 f338:=Tryz.func365.trans (congrArg some (by kernel_rfl))
 t0:=Tryz.underlying0
 a0:=Tryz.isAgg0
 z0:=Tryz.sizeOf0
 v0:=Tryz.zeroValue0
 t2:=Tryz.underlying2
 a2:=Tryz.isAgg2
 z2:=Tryz.sizeOf2
 v2:=Tryz.zeroValue2
 t3:=Tryz.underlying3
 a3:=Tryz.isAgg3
 z3:=Tryz.sizeOf3
 v3:=Tryz.zeroValue3
 t4:=Tryz.underlying4
 a4:=Tryz.isAgg4
 z4:=Tryz.sizeOf4
 v4:=Tryz.zeroValue4
 t5:=Tryz.underlying5
 a5:=Tryz.isAgg5
 z5:=Tryz.sizeOf5
 v5:=Tryz.zeroValue5
 t9:=Tryz.underlying9
 a9:=Tryz.isAgg9
 z9:=Tryz.sizeOf9
 v9:=Tryz.zeroValue9
 t20:=Tryz.underlying20
 a20:=Tryz.isAgg20
 z20:=Tryz.sizeOf20
 v20:=Tryz.zeroValue20
 t37:=Tryz.underlying22
 a37:=Tryz.isAgg22
 z37:=Tryz.sizeOf22
 v37:=Tryz.zeroValue22
 t46:=Tryz.underlying243
 a46:=Tryz.isAgg243
 z46:=Tryz.sizeOf243
 v46:=Tryz.zeroValue243
 t51:=Tryz.underlying331
 a51:=Tryz.isAgg331
 z51:=Tryz.sizeOf331
 v51:=Tryz.zeroValue331
 t53:=Tryz.underlying103
 a53:=Tryz.isAgg103
 z53:=Tryz.sizeOf103
 v53:=Tryz.zeroValue103
 t171:=Tryz.underlying323
 a171:=Tryz.isAgg323
 z171:=Tryz.sizeOf323
 v171:=Tryz.zeroValue323
 t173:=Tryz.underlying326
 a173:=Tryz.isAgg326
 z173:=Tryz.sizeOf326
 v173:=Tryz.zeroValue326
 t212:=Tryz.underlying341
 a212:=Tryz.isAgg341
 z212:=Tryz.sizeOf341
 v212:=Tryz.zeroValue341
 t213:=Tryz.underlying342
 a213:=Tryz.isAgg342
 z213:=Tryz.sizeOf342
 t232:=Tryz.underlying358
 a232:=Tryz.isAgg358
 z232:=Tryz.sizeOf358
 v232:=Tryz.zeroValue358
 t233:=Tryz.underlying359
 a233:=Tryz.isAgg359
 z233:=Tryz.sizeOf359
 v233:=Tryz.zeroValue359
 g17:=by kernel_rfl
 g18:=by kernel_rfl
 g19:=by kernel_rfl
 i0:=by kernel_rfl
 i2:=by kernel_rfl
 i3:=by kernel_rfl
 i4:=by kernel_rfl
 i5:=by kernel_rfl
 i9:=by kernel_rfl
 i20:=by kernel_rfl
 i37:=by kernel_rfl
 i46:=by kernel_rfl
 i51:=by kernel_rfl
 i53:=by kernel_rfl
 i171:=by kernel_rfl
 i173:=by kernel_rfl
 i212:=by kernel_rfl
 i232:=by kernel_rfl
 i233:=by kernel_rfl
 m17:=by kernel_rfl
 m18:=by kernel_rfl
 m19:=by kernel_rfl}
open Go.RowKit Go.Sort Go.Lib in
theorem Tryz.strconv_Itoa (n:Int) (h0: -9223372036854775808≤n) (h1:n≤9223372036854775807) (w:World) (iT:Lib.TabIs Tryz.prog w "internal/strconv.uint64pow10" .u64 Lib.pow10Tab):
  Calls Tryz.prog 283 #[.int .i64 n] w fun e w'=>e= .returned (.string ⟨(Lib.itoa n).toArray⟩)∧ ∃k os,w'=grow (w.drewN k) os:=Any.strconv_Itoa Tryz.kd n h0 h1 w iT
def Tryz.iw:Go.Shelf.Ren:=⟨fun|172=>320|244=>336|245=>337|247=>349|279=>350|280=>351|281=>352|282=>353|287=>361|316=>362|171=>283|205=>363|321=>366|322=>367|243=>302|246=>321|283=>338|284=>339|285=>340|286=>341|129=>355|317=>354|318=>356|319=>357|320=>358|337=>364|338=>365|n=>n,fun|9=>9|3=>3|75=>283|76=>284|4=>4|5=>5|167=>334|37=>22|0=>0|85=>335|2=>2|168=>337|53=>103|175=>348|46=>243|210=>351|127=>302|145=>357|143=>355|21=>21|171=>323|173=>326|212=>341|51=>331|20=>20|213=>342|232=>358|233=>359|80=>241|n=>n,fun|15=>4|16=>5|17=>1|18=>6|19=>7|n=>n⟩
theorem Tryz.gv:Go.Proofs.LaysC.n172 Tryz.prog Tryz.iw:={
 mixed:=by kernel_rfl
 f129:=Tryz.func355.trans (congrArg some (by kernel_rfl))
 f171:=Tryz.func283.trans (congrArg some (by kernel_rfl))
 f172:=Tryz.func320.trans (congrArg some (by kernel_rfl))
 f205:=Tryz.func363.trans (congrArg some (by kernel_rfl))
 f243:=Tryz.func302.trans (congrArg some (by kernel_rfl))
 f244:=Tryz.func336.trans (congrArg some (by kernel_rfl))
 f245:=Tryz.func337.trans (congrArg some (by kernel_rfl))
 f246:=Tryz.func321.trans (congrArg some (by kernel_rfl))
 f247:=Tryz.func349.trans (congrArg some (by kernel_rfl))
 f279:=Tryz.func350.trans (congrArg some (by kernel_rfl))
 f280:=Tryz.func351.trans (congrArg some (by kernel_rfl))
 f281:=Tryz.func352.trans (congrArg some (by kernel_rfl))
 f282:=Tryz.func353.trans (congrArg some (by kernel_rfl))
 f283:=Tryz.func338.trans (congrArg some (by kernel_rfl))
 f284:=Tryz.func339.trans (congrArg some (by kernel_rfl))
 f285:=Tryz.func340.trans (congrArg some (by kernel_rfl))
 f286:=Tryz.func341.trans (congrArg some (by kernel_rfl))
 f287:=Tryz.func361.trans (congrArg some (by kernel_rfl))
 f316:=Tryz.func362.trans (congrArg some (by kernel_rfl))
 f317:=Tryz.func354.trans (congrArg some (by kernel_rfl))
 f318:=Tryz.func356.trans (congrArg some (by kernel_rfl))
 f319:=Tryz.func357.trans (congrArg some (by kernel_rfl))
 f320:=Tryz.func358.trans (congrArg some (by kernel_rfl))
 f321:=Tryz.func366.trans (congrArg some (by kernel_rfl))
 f322:=Tryz.func367.trans (congrArg some (by kernel_rfl))
 f337:=Tryz.func364.trans (congrArg some (by kernel_rfl))
 f338:=Tryz.func365.trans (congrArg some (by kernel_rfl))
 t0:=Tryz.underlying0
 a0:=Tryz.isAgg0
 z0:=Tryz.sizeOf0
 v0:=Tryz.zeroValue0
 t2:=Tryz.underlying2
 a2:=Tryz.isAgg2
 z2:=Tryz.sizeOf2
 v2:=Tryz.zeroValue2
 t3:=Tryz.underlying3
 a3:=Tryz.isAgg3
 z3:=Tryz.sizeOf3
 v3:=Tryz.zeroValue3
 t4:=Tryz.underlying4
 a4:=Tryz.isAgg4
 z4:=Tryz.sizeOf4
 v4:=Tryz.zeroValue4
 t5:=Tryz.underlying5
 a5:=Tryz.isAgg5
 z5:=Tryz.sizeOf5
 v5:=Tryz.zeroValue5
 t9:=Tryz.underlying9
 a9:=Tryz.isAgg9
 z9:=Tryz.sizeOf9
 v9:=Tryz.zeroValue9
 t20:=Tryz.underlying20
 a20:=Tryz.isAgg20
 z20:=Tryz.sizeOf20
 v20:=Tryz.zeroValue20
 t21:=Tryz.underlying21
 a21:=Tryz.isAgg21
 z21:=Tryz.sizeOf21
 v21:=Tryz.zeroValue21
 t37:=Tryz.underlying22
 a37:=Tryz.isAgg22
 z37:=Tryz.sizeOf22
 v37:=Tryz.zeroValue22
 t46:=Tryz.underlying243
 a46:=Tryz.isAgg243
 z46:=Tryz.sizeOf243
 v46:=Tryz.zeroValue243
 t51:=Tryz.underlying331
 a51:=Tryz.isAgg331
 z51:=Tryz.sizeOf331
 v51:=Tryz.zeroValue331
 t53:=Tryz.underlying103
 a53:=Tryz.isAgg103
 z53:=Tryz.sizeOf103
 v53:=Tryz.zeroValue103
 t75:=Tryz.underlying283
 a75:=Tryz.isAgg283
 z75:=Tryz.sizeOf283
 v75:=Tryz.zeroValue283
 t76:=Tryz.underlying284
 a76:=Tryz.isAgg284
 z76:=Tryz.sizeOf284
 v76:=Tryz.zeroValue284
 t85:=Tryz.underlying335
 a85:=Tryz.isAgg335
 z85:=Tryz.sizeOf335
 v85:=Tryz.zeroValue335
 t127:=Tryz.underlying302
 a127:=Tryz.isAgg302
 z127:=Tryz.sizeOf302
 v127:=Tryz.zeroValue302
 t143:=Tryz.underlying355
 a143:=Tryz.isAgg355
 z143:=Tryz.sizeOf355
 v143:=Tryz.zeroValue355
 t145:=Tryz.underlying357
 a145:=Tryz.isAgg357
 z145:=Tryz.sizeOf357
 v145:=Tryz.zeroValue357
 t167:=Tryz.underlying334
 a167:=Tryz.isAgg334
 z167:=Tryz.sizeOf334
 v167:=Tryz.zeroValue334
 t168:=Tryz.underlying337
 a168:=Tryz.isAgg337
 z168:=Tryz.sizeOf337
 v168:=Tryz.zeroValue337
 t171:=Tryz.underlying323
 a171:=Tryz.isAgg323
 z171:=Tryz.sizeOf323
 v171:=Tryz.zeroValue323
 t173:=Tryz.underlying326
 a173:=Tryz.isAgg326
 z173:=Tryz.sizeOf326
 v173:=Tryz.zeroValue326
 t175:=Tryz.underlying348
 a175:=Tryz.isAgg348
 z175:=Tryz.sizeOf348
 v175:=Tryz.zeroValue348
 t210:=Tryz.underlying351
 a210:=Tryz.isAgg351
 z210:=Tryz.sizeOf351
 v210:=Tryz.zeroValue351
 t212:=Tryz.underlying341
 a212:=Tryz.isAgg341
 z212:=Tryz.sizeOf341
 v212:=Tryz.zeroValue341
 t213:=Tryz.underlying342
 a213:=Tryz.isAgg342
 z213:=Tryz.sizeOf342
 t232:=Tryz.underlying358
 a232:=Tryz.isAgg358
 z232:=Tryz.sizeOf358
 v232:=Tryz.zeroValue358
 t233:=Tryz.underlying359
 a233:=Tryz.isAgg359
 z233:=Tryz.sizeOf359
 v233:=Tryz.zeroValue359
 g15:=by kernel_rfl
 g16:=by kernel_rfl
 g17:=by kernel_rfl
 g18:=by kernel_rfl
 g19:=by kernel_rfl
 t80:=Tryz.underlying241
 a80:=Tryz.isAgg241
 z80:=Tryz.sizeOf241
 v80:=Tryz.zeroValue241
 i0:=by kernel_rfl
 i2:=by kernel_rfl
 i3:=by kernel_rfl
 i4:=by kernel_rfl
 i5:=by kernel_rfl
 i9:=by kernel_rfl
 i20:=by kernel_rfl
 i21:=by kernel_rfl
 i37:=by kernel_rfl
 i46:=by kernel_rfl
 i51:=by kernel_rfl
 i53:=by kernel_rfl
 i75:=by kernel_rfl
 i76:=by kernel_rfl
 i80:=by kernel_rfl
 i85:=by kernel_rfl
 i127:=by kernel_rfl
 i143:=by kernel_rfl
 i145:=by kernel_rfl
 i167:=by kernel_rfl
 i168:=by kernel_rfl
 i171:=by kernel_rfl
 i173:=by kernel_rfl
 i175:=by kernel_rfl
 i210:=by kernel_rfl
 i212:=by kernel_rfl
 i232:=by kernel_rfl
 i233:=by kernel_rfl
 m15:=by kernel_rfl
 m16:=by kernel_rfl
 m17:=by kernel_rfl
 m18:=by kernel_rfl
 m19:=by kernel_rfl
 c0:=by kernel_rfl
 c2:=by kernel_rfl
 c3:=by kernel_rfl
 c4:=by kernel_rfl
 c5:=by kernel_rfl
 c9:=by kernel_rfl
 c20:=by kernel_rfl
 c21:=by kernel_rfl
 c37:=by kernel_rfl
 c46:=by kernel_rfl
 c51:=by kernel_rfl
 c53:=by kernel_rfl
 c75:=by kernel_rfl
 c76:=by kernel_rfl
 c80:=by kernel_rfl
 c85:=by kernel_rfl
 c127:=by kernel_rfl
 c143:=by kernel_rfl
 c145:=by kernel_rfl
 c167:=by kernel_rfl
 c168:=by kernel_rfl
 c171:=by kernel_rfl
 c173:=by kernel_rfl
 c175:=by kernel_rfl
 c210:=by kernel_rfl
 c212:=by kernel_rfl
 c213:=by kernel_rfl
 c232:=by kernel_rfl
 c233:=by kernel_rfl}
open Go.RowKit in
theorem Tryz.strconv_Atoi_ok (s:ByteArray) (Ev:s.size≤9223372036854775806) (v:Int) (h:Lib.atoiAll s.data.toList= .ok v) (w:World):
  Calls Tryz.prog 320 #[.string s] w fun e w'=>e= .returned (.tuple #[.int .i64 v, .nilIface])∧(w'=w∨ ∃t,w'=Lib.bytesWorld w 5 t):=Any.strconv_Atoi_ok Tryz.gv s Ev v h w
def Tryz.jb:Go.Shelf.Ren:=⟨fun|217=>319|266=>335|n=>n,fun|9=>9|5=>5|3=>3|n=>n,fun|n=>n⟩
theorem Tryz.lz:Go.Proofs.Lays.n217 Tryz.prog Tryz.jb:={
 mixed:=by kernel_rfl
 f217:=Tryz.func319.trans (congrArg some (by kernel_rfl))
 f266:=Tryz.func335.trans (congrArg some (by kernel_rfl))
 t3:=Tryz.underlying3
 a3:=Tryz.isAgg3
 z3:=Tryz.sizeOf3
 v3:=Tryz.zeroValue3
 t5:=Tryz.underlying5
 a5:=Tryz.isAgg5
 z5:=Tryz.sizeOf5
 v5:=Tryz.zeroValue5
 t9:=Tryz.underlying9
 a9:=Tryz.isAgg9
 z9:=Tryz.sizeOf9
 v9:=Tryz.zeroValue9}
open Go.RowKit Go.Lib in
theorem Tryz.stringslite_IndexByte (s:ByteArray) (c:Int) (w:World):
  Calls Tryz.prog 319 #[.string s, .int .u8 c] w fun e w'=>e= .returned (.int .i64 (Lib.indexByte s.data.toList c.toNat.toUInt8))∧w'=w:=Any.stringslite_IndexByte Tryz.lz s c w
def Tryz.jd:Go.Shelf.Ren:=⟨fun|219=>313|217=>319|225=>329|224=>330|267=>331|266=>335|314=>347|n=>n,fun|9=>9|3=>3|4=>4|5=>5|46=>243|146=>332|51=>331|n=>n,fun|1=>0|n=>n⟩
theorem Tryz.lq:Go.Proofs.Lays.n219 Tryz.prog Tryz.jd:={
 mixed:=by kernel_rfl
 f217:=Tryz.func319.trans (congrArg some (by kernel_rfl))
 f219:=Tryz.func313.trans (congrArg some (by kernel_rfl))
 f224:=Tryz.func330.trans (congrArg some (by kernel_rfl))
 f225:=Tryz.func329.trans (congrArg some (by kernel_rfl))
 f266:=Tryz.func335.trans (congrArg some (by kernel_rfl))
 f267:=Tryz.func331.trans (congrArg some (by kernel_rfl))
 f314:=Tryz.func347.trans (congrArg some (by kernel_rfl))
 t3:=Tryz.underlying3
 a3:=Tryz.isAgg3
 z3:=Tryz.sizeOf3
 v3:=Tryz.zeroValue3
 t4:=Tryz.underlying4
 a4:=Tryz.isAgg4
 z4:=Tryz.sizeOf4
 v4:=Tryz.zeroValue4
 t5:=Tryz.underlying5
 a5:=Tryz.isAgg5
 z5:=Tryz.sizeOf5
 v5:=Tryz.zeroValue5
 t9:=Tryz.underlying9
 a9:=Tryz.isAgg9
 z9:=Tryz.sizeOf9
 v9:=Tryz.zeroValue9
 t46:=Tryz.underlying243
 a46:=Tryz.isAgg243
 z46:=Tryz.sizeOf243
 v46:=Tryz.zeroValue243
 t51:=Tryz.underlying331
 a51:=Tryz.isAgg331
 z51:=Tryz.sizeOf331
 v51:=Tryz.zeroValue331
 t146:=Tryz.underlying332
 a146:=Tryz.isAgg332
 z146:=Tryz.sizeOf332
 v146:=Tryz.zeroValue332
 g1:=by kernel_rfl}
open Go.RowKit Go.Lib in
theorem Tryz.stringslite_Index_one (s:ByteArray) (c:UInt8) (w:World):
  Calls Tryz.prog 313 #[.string s, .string ⟨#[c]⟩] w fun e w'=>e= .returned (.int .i64 (Lib.indexByte s.data.toList c))∧w'=w:=Any.stringslite_Index_one Tryz.lq s c w
def Tryz.jg:Go.Shelf.Ren:=⟨fun|138=>315|195=>332|218=>334|143=>316|219=>313|217=>319|225=>329|224=>330|267=>331|266=>335|314=>347|n=>n,fun|9=>9|3=>3|4=>4|5=>5|0=>0|46=>243|146=>332|51=>331|n=>n,fun|1=>0|n=>n⟩
theorem Tryz.l6:Go.Proofs.Lays.n138 Tryz.prog Tryz.jg:={
 mixed:=by kernel_rfl
 f138:=Tryz.func315.trans (congrArg some (by kernel_rfl))
 f143:=Tryz.func316.trans (congrArg some (by kernel_rfl))
 f195:=Tryz.func332.trans (congrArg some (by kernel_rfl))
 f217:=Tryz.func319.trans (congrArg some (by kernel_rfl))
 f218:=Tryz.func334.trans (congrArg some (by kernel_rfl))
 f219:=Tryz.func313.trans (congrArg some (by kernel_rfl))
 f224:=Tryz.func330.trans (congrArg some (by kernel_rfl))
 f225:=Tryz.func329.trans (congrArg some (by kernel_rfl))
 f266:=Tryz.func335.trans (congrArg some (by kernel_rfl))
 f267:=Tryz.func331.trans (congrArg some (by kernel_rfl))
 f314:=Tryz.func347.trans (congrArg some (by kernel_rfl))
 t0:=Tryz.underlying0
 a0:=Tryz.isAgg0
 z0:=Tryz.sizeOf0
 v0:=Tryz.zeroValue0
 t3:=Tryz.underlying3
 a3:=Tryz.isAgg3
 z3:=Tryz.sizeOf3
 v3:=Tryz.zeroValue3
 t4:=Tryz.underlying4
 a4:=Tryz.isAgg4
 z4:=Tryz.sizeOf4
 v4:=Tryz.zeroValue4
 t5:=Tryz.underlying5
 a5:=Tryz.isAgg5
 z5:=Tryz.sizeOf5
 v5:=Tryz.zeroValue5
 t9:=Tryz.underlying9
 a9:=Tryz.isAgg9
 z9:=Tryz.sizeOf9
 v9:=Tryz.zeroValue9
 t46:=Tryz.underlying243
 a46:=Tryz.isAgg243
 z46:=Tryz.sizeOf243
 v46:=Tryz.zeroValue243
 t51:=Tryz.underlying331
 a51:=Tryz.isAgg331
 z51:=Tryz.sizeOf331
 v51:=Tryz.zeroValue331
 t146:=Tryz.underlying332
 a146:=Tryz.isAgg332
 z146:=Tryz.sizeOf332
 v146:=Tryz.zeroValue332
 g1:=by kernel_rfl}
open Go.RowKit Go.Lib in
theorem Tryz.strings_Count_one (s:ByteArray) (c:UInt8) (w:World):
  Calls Tryz.prog 315 #[.string s, .string ⟨#[c]⟩] w fun e w'=>e= .returned (.int .i64 (Lib.countByte s.data.toList c))∧w'=w:=Any.strings_Count_one Tryz.l6 s c w
end Go.Proofs
end
noncomputable section
namespace Go.Proofs.YtbmbkgalkfmjdaaGreatDoor
open Go.RowKit
set_option maxRecDepth 100000
theorem oO: ∀(l:List UInt8) (c:UInt8), -1≤Lib.indexByte l c∧Lib.indexByte l c<l.length∨Lib.indexByte l c= -1
 | [],_=> .inr rfl
 |b::l,c=>by
  unfold Lib.indexByte;rcases oO l c with h|h
  ·split
   ·left;simp
   ·split
    ·exact .inr rfl
    ·left;rw [Ao];omega
  ·rw [h];split
   ·left;simp
   ·right;rfl
theorem tA {n:Int} (h1: -9223372036854775808≤n) (h2:n≤9223372036854775807):E9 .i64 n:=Ba h1 h2
theorem zIi {b:ByteArray} {c:UInt8} (h:b.data.toList= [c]):b=⟨#[c]⟩:=by
 cases b with
 |mk d=>cases d with
  |mk l=>simp at h;rw [h]
def YL (s:List UInt8) (c:Int):Option Int:=some (Lib.indexByte s c.toNat.toUInt8)
theorem ziB (a0:List UInt8) (a1 r:Int) (h:YL a0 a1=some r):Cv Tryz.prog Cu 319 [.str a0, .int .u8 a1] (.int .i64 r):=dU (by kernel_rfl) fun w vs rf hr=>by
 obtain⟨b,us,rfl,rfl,hb,hr⟩:=MH hr;obtain⟨us1,rfl,_,hr⟩:=Xn hr;obtain⟨rfl,rfl⟩:=My hr;refine(Tryz.stringslite_IndexByte b a1 w).mono ?_;rintro e w' ⟨rfl,rfl⟩;cases h;have hl:b.data.toList.length≤9223372036854775807:=by rw [Array.length_toList];exact hb
 exact⟨Mod.refl [] _,_, [],rfl, .int (by rcases oO b.data.toList a1.toNat.toUInt8 with h|h<;>exact tA (by omega) (by omega)) .nil,by simp⟩
def RP (s sub:List UInt8):Option Int:=match sub with| [c]=>some (Lib.indexByte s c)|_=>none
theorem zkh (a0 a1:List UInt8) (r:Int) (h:RP a0 a1=some r):Cv Tryz.prog Cu 313 [.str a0, .str a1] (.int .i64 r):=dU (by kernel_rfl) fun w vs rf hr=>by
 obtain⟨b,us,rfl,rfl,hb,hr⟩:=MH hr;obtain⟨b1,us1,rfl,h1,_,hr⟩:=MH hr;obtain⟨rfl,rfl⟩:=My hr
 match a1,h,h1 with
 | [c],h,h1=>
  have:=zIi h1;subst this;refine(Tryz.stringslite_Index_one b c w).mono ?_;rintro e w' ⟨rfl,rfl⟩;cases h;have hl:b.data.toList.length≤9223372036854775807:=by rw [Array.length_toList];exact hb
  exact⟨Mod.refl [] _,_, [],rfl, .int (by rcases oO b.data.toList c with h|h<;>exact tA (by omega) (by omega)) .nil,by simp⟩
 | [],h,_=>cases h
 |_::_::_,h,_=>cases h
def ZC (s sub:List UInt8):Option Int:=match sub with| [c]=>some (Lib.countByte s c:Int)|_=>none
theorem zt5 (a0 a1:List UInt8) (r:Int) (h:ZC a0 a1=some r):Cv Tryz.prog Cu 315 [.str a0, .str a1] (.int .i64 r):=dU (by kernel_rfl) fun w vs rf hr=>by
 obtain⟨b,us,rfl,rfl,hb,hr⟩:=MH hr;obtain⟨b1,us1,rfl,h1,_,hr⟩:=MH hr;obtain⟨rfl,rfl⟩:=My hr
 match a1,h,h1 with
 | [c],h,h1=>
  have:=zIi h1;subst this;refine(Tryz.strings_Count_one b c w).mono ?_;rintro e w' ⟨rfl,rfl⟩;cases h;have hl:b.data.toList.length≤9223372036854775807:=by rw [Array.length_toList];exact hb
  have:Lib.countByte b.data.toList c≤b.data.toList.length:=List.count_le_length;exact⟨Mod.refl [] _,_, [],rfl, .int (tA (by omega) (by omega)) .nil,by simp⟩
 | [],h,_=>cases h
 |_::_::_,h,_=>cases h
def mV (_:List UInt8) (_:Int):Option (List (List UInt8)):=none
theorem zqZ (a0:List UInt8) (a1:Int) (r:List (List UInt8)) (h:mV a0 a1=some r):Cv Tryz.prog Cu 314 [.str a0, .int .i64 a1] (.sl (r.map Je)):=by cases h
def aH (xs:List (List UInt8)) (sep:List UInt8):Option (List UInt8):=req (xs.length≤140737488355328∧(Lib.join xs sep).length≤140737488355328) (some (Lib.join xs sep))
theorem zrv {w:World}: ∀{cs:List Value} {xs:List (List UInt8)} {f:List Nat},Rd w cs (AO (xs.map Je)) f→ ∃bs:List ByteArray,cs=bs.map Value.string∧bs.map (·.data.toList)=xs
 |cs, [],f,h=>by obtain⟨rfl,_⟩:=My (by simpa [AO]using h);exact⟨[],rfl,rfl⟩
 |cs,x::xs,f,h=>by
  have h':Rd w cs (.str x::AO (xs.map Je)) f:=by simpa [AO]using h
  obtain⟨b,us,rfl,rfl,_,h2⟩:=MH h';obtain⟨bs,rfl,rfl⟩:=zrv h2;exact⟨b::bs,rfl,rfl⟩
theorem zuI (a0:List (List UInt8)) (a1 r:List UInt8) (h:aH a0 a1=some r):Cv Tryz.prog Cu 199 [.sl (a0.map Je), .str a1] (.str r):=dU (by kernel_rfl) fun w vs rf hr=>by
 obtain⟨⟨Gh,EK⟩,h⟩:=GV h;cases h;generalize hx:a0.map Je=ys at hr;cases hr with
 |fb hr=>
  obtain⟨b1,us1,rfl,rfl,_,hr⟩:=MH hr;obtain⟨rfl,rfl⟩:=My hr;have:a0= []:=by simpa using hx
  subst this;refine(Tryz.strings_Join_none _ _ b1 w).mono ?_;rintro e w' ⟨rfl,rfl⟩;exact⟨Mod.refl [] _,_, [],rfl, .str (by simp [ByteArray.size]) .nil,by simp⟩
 |gp hb h1 h2 h3 h4 h5 h6 Hn h7 hr=>
  rename_i bk o n c cs C t fz sz f1 vs f;obtain⟨b1,us1,rfl,rfl,_,hr⟩:=MH hr;obtain⟨rfl,rfl⟩:=My hr;subst hx;obtain⟨bs,rfl,rfl⟩:=zrv h7;have hn:n=bs.length:=by simpa using h3.symm
  subst hn;have QZ:bk<w.heap.size:=F9 hb;refine(Tryz.strings_Join bk o c bs b1 w (fun j x hx=> ?_) QZ (by simpa using Gh) h2.2 EK).mono ?_
  ·have:=h6 j (.string x) (by simp [hx]);rw [Fg hb];exact this
  ·rintro e w' ⟨rfl,eV⟩;exact⟨.fg eV (Nat.le_refl _),_, [],rfl, .str (by simp [ByteArray.size];omega) .nil,by simp⟩
theorem aK {P:Program} (w:World) (dT sT ty elem:TypeId) (k:Nat) (g o dLen dCap:Nat) (a:Addr) (sLen sCap:Nat) (cur:Array Value) (t:TypeId) (cs:List Value)
  (hu:P.underlying dT=some (.slice elem)) (hs:(P.info? elem).map (·.size)=some k)
  (hg:w.heap[g]?=some (.cells cur t (0,0))) (hn:cs.length=Nat.min sLen dLen*k)
  (F3: ∀j v,cs[j]?=some v→w.cell? (a.add j)=some v) (OV:o+cs.length≤cur.size) (h1: ∀v∈cs,v.oneCell'=true):
  (Builtin.copy_ #[dT,sT] ty #[.slice (some ⟨g,o,none⟩) dLen dCap, .slice (some a) sLen sCap]).run P w=
   .ok (goInt (Nat.min sLen dLen)) (w.setRow g (cur.toList.take o++cs++cur.toList.drop (o+cs.length)).toArray):=by
 have hl:=run_loadCells_list (P:=P) w a cs F3;have AZ:=run_storeCells_at P g o t cs 0 cur w hg (by simpa using OV) h1;cases hq:P.info? elem with
 |none=>simp [hq]at hs
 |some i=>
  have hi:i.size=k:=by simpa [hq]using hs
  rw [hn]at hl;simp [Builtin.copy_,run_underlying hu,Builtin.lenOf,Builtin.firstCells,sizeOf,typeInfo,hq,hi,hl,AZ]
theorem oW {P:Program} (w:World) {ops:Array Oper} {rest:List Oper} {o:Oper} {a:Act} {Q:Exit→Act→World→Prop} (Q1:o.guard=none) (d s:Operand) (t t':TypeId)
  (ho:o.op= .call {callee:= .builtin .copy,args:= #[d,s],argTypes:= #[t,t']}) (v u:Value) (hd:a.eval d=v) (hs:a.eval s=u) {v':Value} {w':World}
  (hr:(Builtin.copy_ #[t,t'] o.type #[v,u]).run P w= .ok v' w') (h:wpList P ops Q rest (a.put o.dst v') w'):wpList P ops Q (o::rest) a w:=
 wpList_plain Q1 fun _ hK=>by unfold Oper.wp execOp;simp only [ho,resolve,invoke,builtin,Sem.run_bind,Sem.run_pure,Result.andThen_ok,List.map_toArray,List.map_cons,List.map_nil,hd,hs,hr];exact hK _ _ h
theorem zt7 {P:Program} {ops:Array Oper} {o:Oper} {a:Act} {w:World} {K:Act→World→Prop} {Q:Exit→Act→World→Prop} {E:Prop}
  (hg:o.guard=none) (d x:Operand) (dT sT:TypeId) (AT:o.op=Op.call {callee:=Callee.builtin Builtin.copy,args:= #[d,x],argTypes:= #[dT,sT]})
  (v u:Value) (hd:a.eval d=v) (hx:a.eval x=u) {v':Value} {w':World} (hr:(Builtin.copy_ #[dT,sT] o.type #[v,u]).run P w= .ok v' w') (hK:K (a.put o.dst v') w'):
  if Region.wanted o (yielded ops a.tmps)=true then Oper.wp P o a w K Q else E:=by
 have hw:Region.wanted o (yielded ops a.tmps)=true:=by simp [Region.wanted,hg]
 rw [if_pos hw];unfold Oper.wp;simp [execOp,AT,resolve,invoke,builtin,hd,hx,hr,Result.andThen];exact hK
def Hi (w:World) (el:TypeId) (k:Nat) (g cap:Nat) (C:Array Value) (n:Nat) (cs:List Value):Prop:=
 n≤cap∧cap≤maxLen∧w.heap[g]?=some (.cells C el (0,0))∧C.size=cap*k∧cs=C.toList.take (n*k)
def PD (w w':World) (el:TypeId) (k:Nat) (own:List Nat) (v:Value) (n:Nat) (cs:List Value):Prop:=
 ∃g cap C,v= .slice (some ⟨g,0,none⟩) n cap∧Hi w' el k g cap C n cs∧Mod own w w'∧(g∈own∨w.heap.size≤g)
def kR (P:Program) (f:Nat) (el:TypeId) (k:Nat):Prop:=
 ∀(w:World) (v:Value) (n i:Nat) (cs:List Value) (own:List Nat) (vb vc m:Nat) (VC:Array Value) (vs:List Value),cs.length=n*k→
  ((n=0∧ ∃q,v= .slice q 0 0)∨ ∃g cap C,v= .slice (some ⟨g,0,none⟩) n cap∧Hi w el k g cap C n cs∧g∈own)→i≤n→Hi w el k vb vc VC m vs→(∀g∈own,vb≠g)→0<m→(n+m)*1000≤140737488355328→
  (∀u∈vs,u.oneCell'=true)→(∀u∈cs,u.oneCell'=true)→
  Calls P f #[v, .int .i64 i, .slice (some ⟨vb,0,none⟩) m vc] w fun e w'=> ∃u,e= .returned u∧PD w w' el k own u (n+m) (cs.take (i*k)++vs++cs.drop (i*k))
theorem Hi.cell {w:World} {el:TypeId} {k g cap:Nat} {C:Array Value} {n:Nat} {cs:List Value} (h:Hi w el k g cap C n cs) (off j:Nat) (v:Value) (hj:(cs.drop off)[j]?=some v):w.cell? ((⟨g,off,none⟩:Addr).add j)=some v:=by
 obtain⟨_,_,h3,_,h5⟩:=h;rw [Addr.add_lit,Fg h3];rw [List.getElem?_drop,h5,List.getElem?_take]at hj;split at hj
 ·simpa using hj
 ·cases hj
theorem Hi.len {w:World} {el:TypeId} {k g cap:Nat} {C:Array Value} {n:Nat} {cs:List Value} (h:Hi w el k g cap C n cs):cs.length=n*k:=by obtain⟨h1,_,_,h4,h5⟩:=h;have:=Nat.mul_le_mul_right k h1;rw [h5,List.length_take,Array.length_toList];omega
theorem zJC {α:Type} (cur cs vs:List α) (i m n:Nat) (hc:cs=cur.take n) (hi:i≤n) (hv:vs.length=m) (hn:n+m≤cur.length):
  let c1:=cur.take (i+m)++cs.drop i++cur.drop (i+m+(cs.drop i).length)
  (c1.take i++vs++c1.drop (i+vs.length)).take (n+m)=cs.take i++vs++cs.drop i:=by
 have AJ:cs.length=n:=by rw [hc,List.length_take];omega
 have hd:(cs.drop i).length=n-i:=by rw [List.length_drop,AJ]
 intro c1;have e1:c1.take i=cs.take i:=by show(cur.take (i+m)++cs.drop i++_).take i=_;rw [List.append_assoc,List.take_append_of_le_length (by rw [List.length_take];omega),List.take_take,hc,List.take_take];congr 1;omega
 have e2:c1.drop (i+vs.length)=cs.drop i++cur.drop (i+m+(cs.drop i).length):=by show(cur.take (i+m)++cs.drop i++_).drop _=_;rw [List.append_assoc,List.drop_append_of_le_length (by rw [List.length_take,hv];omega),List.drop_eq_nil_of_le (by rw [List.length_take,hv];omega),List.nil_append]
 rw [e1,e2];have l1:(cs.take i++vs++cs.drop i).length=n+m:=by simp only [Ar,List.length_take,hv,hd,AJ];omega
 rw [←List.append_assoc,←l1,List.take_left]
theorem two {α:Type} (zs cs vs:List α) (i m n:Nat) (cur:List α) (fE:cur=cs.take i++zs) (AJ:cs.length=n) (hi:i≤n) (hv:vs.length=m) (hz:n+m-i≤zs.length):
  let c1:=cur.take i++vs++cur.drop (i+vs.length)
  (c1.take (i+m)++cs.drop i++c1.drop (i+m+(cs.drop i).length)).take (n+m)=cs.take i++vs++cs.drop i:=by
 have ht:(cs.take i).length=i:=by rw [List.length_take];omega
 intro c1;have e1:c1=cs.take i++vs++cur.drop (i+vs.length):=by show cur.take i++vs++cur.drop (i+vs.length)=_;rw [fE];congr 2;rw [List.take_append_of_le_length (by omega),List.take_take,Nat.min_self]
 have e2:c1.take (i+m)=cs.take i++vs:=by
  have l2:(cs.take i++vs).length=i+m:=by rw [Ar,ht,hv]
  rw [e1,←l2,List.take_left]
 rw [e2];have l1:(cs.take i++vs++cs.drop i).length=n+m:=by simp only [Ar,ht,hv,List.length_drop,AJ];omega
 rw [←l1,List.take_left]
theorem rJ (xs ys:List AV):AO (xs++ys)=AO xs++AO ys:=by simp [AO]
theorem zBU {K:Nat} {xs:List AV} (h: ∀y∈xs,y.cells.length=K) {i:Nat} (hi:i≤xs.length):AO (xs.take i)=(AO xs).take (i*K)∧AO (xs.drop i)=(AO xs).drop (i*K):=by
 have l1:(AO (xs.take i)).length=i*K:=by rw [N7 _ fun y hy=>h y (List.mem_of_mem_take hy),List.length_take,Nat.min_eq_left hi]
 have e:AO xs=AO (xs.take i)++AO (xs.drop i):=by rw [←rJ,List.take_append_drop]
 rw [e,←l1,List.take_left,List.drop_left];exact⟨rfl,rfl⟩
theorem C8.nu {w:World} {el K:Nat} {v:Value} {x:AV} {top:List Nat} (h:C8 w el K v x top []): ∃xs cs,x= .sl xs∧0<K∧(∀y∈xs,y.cells.length=K)∧cs.length=xs.length*K∧Rd w cs (AO xs) []∧(∀u∈cs,u.oneCell'=true)∧
  ((xs= []∧top= []∧ ∃q,v= .slice q 0 0)∨ ∃g cap C,v= .slice (some ⟨g,0,none⟩) xs.length cap∧Hi w el K g cap C xs.length cs∧top= [g]):=by
 obtain⟨xs,rfl,h2,h3,⟨rfl,⟨a,hv⟩,rfl,_⟩|⟨g,cap,C,rfl,h6,h7,h8,h9,rfl,Hm,Er⟩⟩:=h
 ·exact⟨[], [],rfl,h3,h2,by simp,by simpa [AO]using Rd.nil,by simp, .inl ⟨rfl,rfl,a,hv⟩⟩
 ·exact⟨xs,_,rfl,h3,h2,(Hi.len ⟨h6,h7,h8,h9,rfl⟩),Er,Hm, .inr ⟨g,cap,C,rfl,⟨h6,h7,h8,h9,rfl⟩,rfl⟩⟩
theorem zxR {P:Program} {w:World} {t el:TypeId} {v:Value} {x:AV} {rf hs:List Nat} (ha:As P t=false) (hl:A8 P t= [t]) (he:CP P t=some el) (hf:Cg P el=true) (h:QP P w t [true] v x rf hs):rf= []∧C8 w el (P.cellsOf el) v x hs []:=by
 obtain⟨us,ys,h1,h2⟩:=h;rw [ha]at h1;simp only [AW,if_false]at h1;obtain⟨rfl,rfl⟩:=h1;rw [hl]at h2;cases h2 with
 |own q1 q2 q3 q4 q5=>
  cases q5;rw [he]at q2;cases q2;rcases q3 with⟨_,rfl⟩|⟨h,_⟩
  ·exact⟨rfl,by simpa using q4⟩
  ·rw [hf]at h;cases h
 |deep q1 q2 q3=>rw [he]at q2;cases q2;rw [hf]at q3;cases q3
 |rd q1=>have:=q1 rfl;rw [he]at this;cases this
def lA (P:Program) (sg:BX) (f:Nat) (t it el K:Nat):Bool:=
 match P.funcs[f]?,sg f with
 |some fn,some s=>(match s.cy,s.res,s.ft,s.lo with
  | [.va [true], .ro, .va [true]], [true], [], []=>true
  |_,_,_,_=>false)&&fn.body.isSome&& !(fn.name== "runtime.NumGoroutine")&&fn.params.toList== [t,it,t]&&fn.resultTypes.toList== [t]&&fn.nfree==0&& !As P t&&A8 P t== [t]&&CP P t==some el&&Cg P el&&P.cellsOf el==K&&Hf P t [true]&&fn.params.size==3
 |_,_=>false
def kU (P:Program) (sg:BX) (f:Nat) (r:List AV):Bool:=match P.funcs[f]?,sg f with
 |some fn,some s=>Oj P fn s (.sl r)
 |_,_=>false
theorem zHm {f t it el K:Nat} (hk:lA Tryz.prog Cu f t it el K=true) (EE: ∀r,kU Tryz.prog Cu f r=true) (EY:kR Tryz.prog f el K) (xs ys:List AV) (i:Int) (h0:0≤i) (h1:i≤xs.length) (hy:ys≠ []) (hb:(xs.length+ys.length)*1000≤140737488355328):
  Cv Tryz.prog Cu f [.sl xs, .int .i64 i, .sl ys] (.sl (xs.take i.toNat++ys++xs.drop i.toNat)):=by
 unfold lA at hk;split at hk
 ·rename_i fn s hf hs;simp only [Ae,Bool.not_eq_true',beq_iff_eq]at hk;obtain⟨⟨⟨⟨⟨⟨⟨⟨⟨⟨⟨⟨g1,g2⟩,g3⟩,g4⟩,g5⟩,g6⟩,g7⟩,g8⟩,g9⟩,g10⟩,g11⟩,g12⟩,g13⟩:=hk;obtain⟨hm,hr,EF,Ci⟩:s.cy= [.va [true], .ro, .va [true]]∧s.res= [true]∧s.ft= []∧s.lo= []:=by
   split at g1
   ·rename_i a b c d;exact⟨a,b,c,d⟩
   ·cases g1
  unfold Cv;rw [if_pos (TX f s hs)];refine⟨s,hs,fn,hf,g2,g3,by have:=EE (xs.take i.toNat++ys++xs.drop i.toNat);unfold kU at this;rw [hf,hs]at this;exact this,by simp [g6,g13],by simp [EF],fun w vs rf lf Bl AB hd _ Co Ew=> ?_⟩;rw [g4,EF,List.append_nil,hm,Ci]at AB;cases AB with
  |lent h _ _ _=>cases h
  | @cons _ _ _ _ v1 vs1 _ _ f1 k1 rf1 lf1 BO a1 AB=>
   cases AB with
   |lent h _ _ _=>cases h
   | @cons _ _ _ _ v2 vs2 _ _ f2 k2 rf2 lf2 A6 a2 AB=>
    cases AB with
    |lent h _ _ _=>cases h
    | @cons _ _ _ _ v3 vs3 _ _ f3 k3 rf3 lf3 Fw a3 AB=>
     cases AB;obtain⟨rfl,r1⟩:=zxR g7 g8 g9 g10 a1;obtain⟨rfl,r3⟩:=zxR g7 g8 g9 g10 a3;obtain⟨a2,rfl⟩:Rd w [v2] [AV.int .i64 i] f2∧k2= []:=a2;obtain⟨us,rfl2,hI,a2⟩:=Xn a2;obtain⟨rfl,rfl⟩:=My a2;cases rfl2;obtain⟨xs',cs,e1,p0,p1,p2,p3,p4,p5⟩:=r1.nu;cases e1;obtain⟨ys',cv,e2,_,q1,q2,q3,q4,q5⟩:=r3.nu;cases e2;rw [g11]at p0 p1 p2 p5 q1 q2 q5;obtain⟨vb,vc,VC,rfl,hv,rfl⟩: ∃g cap C,v3= .slice (some ⟨g,0,none⟩) ys.length cap∧Hi w el K g cap C ys.length cv∧k3= [g]:=by
      rcases q5 with⟨h,_⟩|h
      ·exact absurd h hy
      ·exact h
     have hnd':k1++ [vb]=k1++([]++([vb]++ [])):=by simp
     have XJ: ∀g∈k1,vb≠g:=by intro g hg e;subst e;have:=(List.nodup_append.1 Co).2.2 vb hg vb (by simp);exact this rfl
     have hym:0<ys.length:=by cases ys with|nil=>exact absurd rfl hy|cons=>simp
     have hc:=EY w v1 xs.length i.toNat cs k1 vb vc ys.length VC cv p2 (by
      rcases p5 with⟨rfl,_,q,rfl⟩|⟨g,cap,C,rfl,h,rfl⟩
      ·exact .inl ⟨rfl,q,rfl⟩
      ·exact .inr ⟨g,cap,C,rfl,h,by simp⟩) (by omega) hv XJ hym hb q4 p4
     rw [show((i.toNat:Nat):Int)=i by omega]at hc;refine hc.mono ?_;rintro e w' ⟨u,rfl,g,cap,C,rfl,⟨z1,z2,z3,z4,z5⟩,DD,EI⟩;have Jh: ∀{us:List Value} {zs:List AV},Rd w us zs []→Rd w' us zs []:=fun h=>h.frame (by simp);have cut: ∀o n,Rd w ((cs.drop o).take n) (((AO xs).drop o).take n) []:=fun o n=>by
      obtain⟨gg,k1,k2⟩:=p3.piece o n;have:gg= []:=List.eq_nil_iff_forall_not_mem.2 fun b hb=>by simpa using k1 b hb
      rw [this]at k2;exact k2
     obtain⟨t1,t2⟩:=zBU p1 (i:=i.toNat) (by omega);have hmul:=Nat.mul_le_mul_right K (show i.toNat≤xs.length by omega);have DO:Rd w' (cs.take (i.toNat*K)++cv++cs.drop (i.toNat*K)) (AO (xs.take i.toNat++ys++xs.drop i.toNat)) []:=by rw [rJ,rJ,t1,t2];have c1:=cut 0 (i.toNat*K);have c2:=cut (i.toNat*K) (cs.length-i.toNat*K);rw [List.drop_zero,List.drop_zero]at c1;rw [List.take_of_length_le (by simp),List.take_of_length_le (by rw [List.length_drop,N7 _ p1,p2];exact Nat.le_refl _)]at c2;exact(((Jh c1).app (Jh q3)).app (Jh c2))
     have hlen:(xs.take i.toNat++ys++xs.drop i.toNat).length=xs.length+ys.length:=by simp only [Ar,List.length_take,List.length_drop];omega
     have BE:C8 w' el K (.slice (some ⟨g,0,none⟩) (xs.length+ys.length) cap) (.sl (xs.take i.toNat++ys++xs.drop i.toNat)) [g] []:=by
      refine⟨_,rfl,fun y hy=> ?_,p0, .inr ⟨g,cap,C,by rw [hlen],by rw [hlen];exact z1,z2,z3,z4,rfl, ?_, ?_⟩⟩
      ·rcases Ai.1 hy with hy|hy
       ·rcases Ai.1 hy with hy|hy
        ·exact p1 y (List.mem_of_mem_take hy)
        ·exact q1 y hy
       ·exact p1 y (List.mem_of_mem_drop hy)
      ·rw [hlen,←z5];intro u hu;rcases Ai.1 hu with hu|hu
       ·rcases Ai.1 hu with hu|hu
        ·exact p4 u (List.mem_of_mem_take hu)
        ·exact q4 u hu
       ·exact p4 u (List.mem_of_mem_drop hu)
      ·rw [hlen,←z5];exact DO
     refine⟨_,rfl,⟨⟨_, [], [], [g], [], [],rfl, ?_, ?_,by simp, ?_,by simp⟩,DD.weaken fun b hb=> .inl (by simp [hb])⟩⟩
     ·rw [g5];show E8 Tryz.prog w' t s.res _ _ [] [g];unfold E8;rw [hr,if_pos g12];refine⟨[.slice (some ⟨g,0,none⟩) (xs.length+ys.length) cap], [.sl (xs.take i.toNat++ys++xs.drop i.toNat)],by rw [g7];simp, ?_⟩;rw [g8];have:=Cz.own (P:=Tryz.prog) (t:=t) (ts:= []) (fl:= [true]) (us:= []) (ys:= []) (rf:= []) (hs:= []) rfl g9 (.inl ⟨g10,rfl⟩) (by rw [g11];exact BE) .nil;simpa using this
     ·rw [g4,EF,List.append_nil,hm];exact .va rfl (.ro rfl (.va rfl .nil))
     ·intro b hb;simp only [List.append_nil,List.mem_singleton]at hb;subst hb;exact⟨by rcases EI with h|h;exact .inl (by simp [h]);exact .inr h,F9 z3⟩
 ·cases hk
def cZ {α:Type} (xs:List α) (i:Int) (ys:List α):Option (List α):=req (0≤i∧i≤xs.length∧0<ys.length∧(xs.length+ys.length)*1000≤140737488355328) (some (xs.take i.toNat++ys++xs.drop i.toNat))
theorem zHT {f t it el K:Nat} (hk:lA Tryz.prog Cu f t it el K=true) (EE: ∀r,kU Tryz.prog Cu f r=true) (EY:kR Tryz.prog f el K) {α:Type} {av:α→AV} {xs ys r:List α} {i:Int} (h:cZ xs i ys=some r):
  Cv Tryz.prog Cu f [.sl (xs.map av), .int .i64 i, .sl (ys.map av)] (.sl (r.map av)):=by
 obtain⟨⟨h0,h1,h2,h3⟩,h⟩:=GV h;cases h;have:=zHm hk EE EY (xs.map av) (ys.map av) i h0 (by simpa using h1) (by cases ys with|nil=>simp at h2|cons=>simp) (by simpa using h3);simpa [List.map_append,List.map_take,List.map_drop]using this
theorem rO: ∃i z,Tryz.prog.info? 143=some i∧i.size=3∧i.zero=some z∧z.cells.size=3∧i.bytes≤1000:=by
 have h:(match Tryz.prog.info? 143 with|some i=>(match i.zero with|some z=>i.size==3&&z.cells.size==3&&decide (i.bytes≤1000)|none=>false)|none=>false)=true:=by kernel_rfl
 split at h
 ·rename_i i hi;split at h
  ·rename_i z hz;simp only [Ae,beq_iff_eq,decide_eq_true_eq]at h;exact⟨i,z,hi,h.1.1,hz,h.1.2,h.2⟩
  ·cases h
 ·cases h
set_option maxHeartbeats 4000000 in
theorem zwV (w:World) (v:Value) (n:Nat) (cs:List Value) (own:List Nat) (AJ:cs.length=n*3) (BF:(n=0∧ ∃q,v= .slice q 0 0)∨ ∃g cap C,v= .slice (some ⟨g,0,none⟩) n cap∧Hi w 143 3 g cap C n cs∧g∈own)
  (vb vc m:Nat) (VC:Array Value) (vs:List Value) (hv:Hi w 143 3 vb vc VC m vs) (hm:0<m) (hb:(n+m)*1000≤140737488355328) (LC: ∀u∈vs,u.oneCell'=true):
  Calls Tryz.prog 285 #[v, .int .i64 n, .slice (some ⟨vb,0,none⟩) m vc] w fun e w'=> ∃u,e= .returned u∧PD w w' 143 3 own u (n+m) (cs++vs):=by
 obtain⟨i0,z0,hi,hs,hz,D6,G0⟩:=rO;have U3: ¬((m:Int)=0):=by omega
 have F3:Src w i0.size (some ⟨vb,0,none⟩) m vs:= .inr ⟨_,rfl,by rw [hs];exact hv.len,fun j u hj=>hv.cell 0 j u (by simpa using hj),LC⟩;obtain⟨v',w1,hr,AS⟩:=tM (P:=Tryz.prog) w 27 27 143 i0 z0 Tryz.underlying27 hi hz (by rw [D6,hs]) (by omega) (fun b=>b∈own) v n cs (by rw [hs];exact AJ)
  (by
   rcases BF with h|⟨g,cap,C,rfl,⟨h1,h2,h3,h4,h5⟩,h6⟩
   ·exact .inl h
   ·exact .inr ⟨g,cap,C,rfl,h1,h2,h3,by rw [hs];exact h4,by rw [hs];exact h5,h6⟩)
  (some ⟨vb,0,none⟩) m vc vs F3 (by simp only [maxLen];omega) (by have:=Nat.mul_le_mul_left (n+m) G0;omega)
 have fin:PD w w1 143 3 own v' (n+m) (cs++vs):=by
  rcases AS with⟨_,_,h⟩|⟨g,cap,C,rfl,h1,h2,h3,h4,h5,h6,h7⟩
  ·omega
  ·refine⟨g,cap,C,rfl,⟨h1,h2,h3,by rw [hs]at h4;exact h4,by rw [hs]at h5;exact h5.symm⟩, ?_,h7.symm.imp id fun h=>by omega⟩;refine⟨h6.os,h6.tape,h6.output,h6.size,fun b hb hn=>h6.block b hb fun e=> ?_⟩;cases e;rcases h7 with h7|h7
   ·omega
   ·exact hn h7
 clear AS;rcases BF with⟨rfl,q,rfl⟩|⟨g,cap,C,rfl,_,_⟩
 ·cases q with
  |none=>
   go_enter Tryz.func285,Tryz.ntmps285
   go_wp2_with (at_builtin;refine Lib.wpList_append_run _ rfl _ _ _ _ rfl _ _ rfl rfl _ _ hr ?_)
   all_goals (go_ret;exact⟨_,rfl,fin⟩)
  |some q=>
   obtain⟨qb,qo,qs⟩:=q
   go_enter Tryz.func285,Tryz.ntmps285
   go_wp2_with (at_builtin;refine Lib.wpList_append_run _ rfl _ _ _ _ rfl _ _ rfl rfl _ _ hr ?_)
   all_goals (go_ret;exact⟨_,rfl,fin⟩)
 ·go_enter Tryz.func285,Tryz.ntmps285
  go_wp2_with (at_builtin;refine Lib.wpList_append_run _ rfl _ _ _ _ rfl _ _ rfl rfl _ _ hr ?_)
  all_goals (go_ret;exact⟨_,rfl,fin⟩)
set_option maxHeartbeats 4000000 in
theorem zuO (w:World) (n i g cap:Nat) (C:Array Value) (cs:List Value) (own:List Nat) (vb vc m:Nat) (BF:Hi w 143 3 g cap C n cs) (Ch:i<n) (CF:cap<n+m)
  (VC:Array Value) (vs:List Value) (hv:Hi w 143 3 vb vc VC m vs) (hm:0<m) (hb:(n+m)*1000≤140737488355328) (LC: ∀u∈vs,u.oneCell'=true) (Jg: ∀u∈cs,u.oneCell'=true):
  Calls Tryz.prog 285 #[.slice (some ⟨g,0,none⟩) n cap, .int .i64 i, .slice (some ⟨vb,0,none⟩) m vc] w fun e w'=> ∃u,e= .returned u∧PD w w' 143 3 own u (n+m) (cs.take (i*3)++vs++cs.drop (i*3)):=by
 obtain⟨i0,z0,hi,hs,hz,D6,G0⟩:=rO;have AJ:=BF.len;have Ey:=hv.len;have eZ:=BF;obtain⟨UG,LP,hg,T6,Bp⟩:=eZ;have hgw:g<w.heap.size:=F9 hg;have hvw:vb<w.heap.size:=F9 hv.2.2.1;have Cf:(Tryz.prog.info? 143).map (·.size)=some 3:=by rw [hi];simp [hs]
 have fY:i+(n+m-i)=n+m:=by omega
 have XL:(n+m)*i0.bytes≤140737488355328:=Nat.le_trans (Nat.mul_le_mul_left _ G0) hb;have QZ:(n+m-i)*i0.bytes≤140737488355328:=Nat.le_trans (Nat.mul_le_mul_right _ (by omega)) XL;have hold:(Builtin.firstCells i0.size i (.slice (some ⟨g,0,none⟩) i cap)).run Tryz.prog w.drew= .ok (cs.take (i*3)).toArray w.drew:=by
  rw [hs];exact run_firstCells_some w.drew 3 i ⟨g,0,none⟩ i cap (cs.take (i*3)) (by rw [List.length_take];omega) (fun j v hj=>by
   rw [List.getElem?_take]at hj;split at hj
   ·exact BF.cell 0 j v (by simpa using hj)
   ·cases hj)
 have iM: ∀ty,(Builtin.append_ #[27,3] ty #[.slice (some ⟨g,0,none⟩) i cap, .int .i64 ((n:Int)+(m:Int)-(i:Int))]).run Tryz.prog w=
   .ok (.slice (some ⟨w.heap.size,0,none⟩) (n+m) (grownCap w (n+m) cap 143)) (w.drew.alloc (.cells ((cs.take (i*3)).toArray++Builtin.zeroCells z0.cells (n+m-i)++Builtin.zeroCells z0.cells (grownCap w (n+m) cap 143-(n+m))) 143)):=fun ty=>by
  have h:=Lib.run_append_grow_zeros w 27 3 ty 143 i0 z0 .i64 .i64 Tryz.underlying27 Tryz.underlying3 hi hz (some ⟨g,0,none⟩) i cap (cs.take (i*3)) hold (n+m-i) (by omega) (by omega) (by omega) (by omega) (by omega) (by rw [fY];exact growslice_fits CF XL);rw [fY]at h;rw [show(n:Int)+(m:Int)-(i:Int)=((n+m-i:Nat):Int) by omega];exact h
 obtain⟨G,hG⟩: ∃G,G=grownCap w (n+m) cap 143:=⟨_,rfl⟩
 obtain⟨ROW,LH⟩: ∃ROW:Array Value,ROW=(cs.take (i*3)).toArray++Builtin.zeroCells z0.cells (n+m-i)++Builtin.zeroCells z0.cells (G-(n+m)):=⟨_,rfl⟩
 have hGn:n+m≤G:=by rw [hG];exact grownCap_ge w _ _ _
 have T8:G≤maxLen:=by rw [hG];exact grownCap_le_maxLen w (n+m) cap 143 (by unfold maxLen;omega)
 have hG64:G≤9223372036854775807:=T8;rw [←hG]at iM;rw [←LH]at iM;have hRs:ROW.size=G*3:=by rw [LH];simp only [Array.size_append,List.size_toArray,List.length_take,size_zeroCells,D6];omega
 obtain⟨ROW2,HZ⟩: ∃R:Array Value,R=(ROW.toList.take (i*3)++vs++ROW.toList.drop (i*3+vs.length)).toArray:=⟨_,rfl⟩
 obtain⟨ROW3,XF⟩: ∃R:Array Value,R=(ROW2.toList.take ((i+m)*3)++cs.drop (i*3)++ROW2.toList.drop ((i+m)*3+(cs.drop (i*3)).length)).toArray:=⟨_,rfl⟩
 have eN:ROW2.size=G*3:=by rw [HZ];simp only [List.size_toArray,Ar,List.length_take,List.length_drop,Array.length_toList];omega
 have eO:ROW3.size=G*3:=by rw [XF];simp only [List.size_toArray,Ar,List.length_take,List.length_drop,Array.length_toList];omega
 obtain⟨N,hN⟩: ∃N,N=w.heap.size:=⟨_,rfl⟩
 have hA:(w.alloc (.cells ROW 143)).heap[N]?=some (.cells ROW 143 (0,0)):=by rw [hN];exact heap_alloc_new w _
 have hO: ∀k,k<N→(w.alloc (.cells ROW 143)).heap[k]?=w.heap[k]?:=fun k hk=>Below.heap_alloc w _ k (by omega);have fD: ∀(W:World),W.heap=(w.alloc (.cells ROW 143)).heap→ ∀ty dc,(Builtin.copy_ #[27,27] ty #[.slice (some ⟨N,i*3,none⟩) (n+m-i) dc, .slice (some ⟨vb,0,none⟩) m vc]).run Tryz.prog W= .ok (goInt m) (W.setRow N ROW2):=fun W hW ty dc=>by
  have h:=aK (P:=Tryz.prog) W 27 27 ty 143 3 N (i*3) (n+m-i) dc ⟨vb,0,none⟩ m vc ROW 143 vs Tryz.underlying27 Cf (by rw [hW];exact hA) (by rw [Ey,show Nat.min m (n+m-i)=m from Nat.min_eq_left (by omega)])
   (fun j v hj=>by rw [World.cell?_of_block (w:=w) (by rw [Addr.add_lit,hW];exact hO vb (by omega))];exact hv.cell 0 j v (by simpa using hj)) (by rw [hRs,Ey];omega) LC
  rw [show Nat.min m (n+m-i)=m from Nat.min_eq_left (by omega),←HZ]at h;exact h
 have hB:((w.alloc (.cells ROW 143)).setRow N ROW2).heap[N]?=some (.cells ROW2 143 (0,0)):=setRow_heap _ _ _ _ _ _ hA;have eL: ∀k,k<N→((w.alloc (.cells ROW 143)).setRow N ROW2).heap[k]?=w.heap[k]?:=fun k hk=>by rw [setRow_other _ _ _ _ (by omega)];exact hO k hk
 have Un: ∀(W:World),W.heap=((w.alloc (.cells ROW 143)).setRow N ROW2).heap→ ∀ty dc sc,(Builtin.copy_ #[27,27] ty #[.slice (some ⟨N,(i+m)*3,none⟩) (n+m-(i+m)) dc, .slice (some ⟨g,i*3,none⟩) (n-i) sc]).run Tryz.prog W= .ok (goInt ((n-i:Nat):Int)) (W.setRow N ROW3):=fun W hW ty dc sc=>by
  have h:=aK (P:=Tryz.prog) W 27 27 ty 143 3 N ((i+m)*3) (n+m-(i+m)) dc ⟨g,i*3,none⟩ (n-i) sc ROW2 143 (cs.drop (i*3)) Tryz.underlying27 Cf (by rw [hW];exact hB) (by rw [List.length_drop,AJ,show Nat.min (n-i) (n+m-(i+m))=n-i from Nat.min_eq_left (by omega)];omega)
   (fun j v hj=>by rw [World.cell?_of_block (w:=w) (by rw [Addr.add_lit,hW];exact eL g (by omega))];exact BF.cell (i*3) j v hj) (by rw [eN,List.length_drop,AJ];omega) (fun v hv=>Jg v (List.mem_of_mem_drop hv))
  rw [show Nat.min (n-i) (n+m-(i+m))=n-i from Nat.min_eq_left (by omega),←XF]at h;exact h
 have fin: ∀W:World,W.os=w.os→W.tape=w.tape→W.output=w.output→W.heap=(((w.alloc (.cells ROW 143)).setRow N ROW2).setRow N ROW3).heap→PD w W 143 3 own (.slice (some ⟨N,0,none⟩) (n+m) G) (n+m) (cs.take (i*3)++vs++cs.drop (i*3)):=fun W w1 w2 w3 hW=>by refine⟨N,G,ROW3,rfl,⟨hGn,T8,by rw [hW];exact setRow_heap _ _ _ _ _ _ hB,eO, ?_⟩,⟨w1,w2,w3,by rw [hW];simp,fun k hk _=>by rw [hW,setRow_other _ _ _ _ (by omega)];exact eL k (by omega)⟩, .inr (by omega)⟩;have h:=two ((Builtin.zeroCells z0.cells (n+m-i)).toList++(Builtin.zeroCells z0.cells (G-(n+m))).toList) cs vs (i*3) (m*3) (n*3) ROW.toList (by rw [LH];simp) AJ (Nat.mul_le_mul_right _ (by omega)) Ey (by simp only [Ar,Array.length_toList,size_zeroCells,D6];omega);rw [XF,HZ,Nat.add_mul n m,Nat.add_mul i m];exact h.symm
 have U3: ¬((m:Int)=0):=by omega
 have U4: ¬((i:Int)=(n:Int)):=by omega
 have hz3:(cap:Int)<(n:Int)+(m:Int):=by omega
 have hGi: ¬(G=i):=by omega
 have hGim: ¬(G=i+m):=by omega
 have Ul: ¬(cap=i):=by omega
 have GL:IntKind.i64.wrap ((i:Int)+(m:Int))=(i:Int)+(m:Int):=by rw [IntKind.wrap_i64];omega
 have Iz:(0:Int)≤(i:Int)+(m:Int):=by omega
 have gA:i≤n:=by omega
 have htn:((i:Int)+(m:Int)).toNat=i+m:=by omega
 have Gu:(i:Int)≤(n:Int):=by omega
 have uO:((w.alloc (.cells ROW 143)).drew).heap=(w.alloc (.cells ROW 143)).heap:=rfl;have eE:(((w.alloc (.cells ROW 143)).drew.setRow N ROW2).drew).heap=((w.alloc (.cells ROW 143)).setRow N ROW2).heap:=rfl;subst hN;clear hold fY LH hG HZ XF hA hO hB eL Bp
 go_enter Tryz.func285,Tryz.ntmps285
 go_wp2_with (first
  |(at_builtin;refine Lib.wpList_append_run _ rfl _ _ _ _ rfl _ _ rfl rfl _ _ (iM _) ?_)
  |(at_builtin;refine oW _ rfl _ _ 27 27 rfl _ _ rfl rfl (fD _ uO _ _) ?_)
  |(at_builtin;refine oW _ rfl _ _ 27 27 rfl _ _ rfl rfl (Un _ rfl _ _ _) ?_))
 go_region_law (refine zt7 rfl _ _ 27 27 rfl (.slice (some ⟨w.heap.size,(i+m)*3,none⟩) (n+m-(i+m)) (G-(i+m))) (.slice (some ⟨g,i*3,none⟩) (n-i) (cap-i)) (by simp [Act.eval,Act.put]) (by simp [Act.eval,Act.put]) (Un _ eE 3 (G-(i+m)) (cap-i)) ?_)
 go_wp2
 go_ret
 exact⟨_,rfl,fin _ rfl rfl rfl rfl⟩
set_option maxHeartbeats 4000000 in
theorem zsk (w:World) (n i g cap:Nat) (C:Array Value) (cs:List Value) (own:List Nat) (vb vc m:Nat) (BF:Hi w 143 3 g cap C n cs) (EI:g∈own) (Ch:i<n) (CF:n+m≤cap) (X2:vb≠g)
  (VC:Array Value) (vs:List Value) (hv:Hi w 143 3 vb vc VC m vs) (hm:0<m) (hb:(n+m)*1000≤140737488355328) (LC: ∀u∈vs,u.oneCell'=true) (Jg: ∀u∈cs,u.oneCell'=true):
  Calls Tryz.prog 285 #[.slice (some ⟨g,0,none⟩) n cap, .int .i64 i, .slice (some ⟨vb,0,none⟩) m vc] w fun e w'=> ∃u,e= .returned u∧PD w w' 143 3 own u (n+m) (cs.take (i*3)++vs++cs.drop (i*3)):=by
 obtain⟨i0,z0,hi,hs,hz,D6,G0⟩:=rO;have AJ:=BF.len;have Ey:=hv.len;have eZ:=BF;obtain⟨UG,LP,hg,T6,Bp⟩:=eZ;have hgw:g<w.heap.size:=F9 hg;have Cf:(Tryz.prog.info? 143).map (·.size)=some 3:=by rw [hi];simp [hs]
 have hc64:cap≤9223372036854775807:=LP;have Np:=hv.2.2.1;have UO: ∀lb cb,(callFunc 306 #[.slice (some ⟨vb,0,none⟩) m vc, .slice (some ⟨g,(i+m)*3,none⟩) lb cb]).run Tryz.prog w= .ok (.value (.bool false)) w:=fun lb cb=>by
  rw [run_callFunc_extern Tryz.func306 (by kernel_rfl) (by kernel_rfl) (by kernel_rfl) (e:=Extern.SlicesOverlaps.overlaps #[27,27] #[4]) (by kernel_rfl),
   Lib.run_overlaps_apart w 27 4 143 Tryz.underlying27 3 (fun w=>by simp [Go.sizeOf,typeInfo,hi,hs]) ⟨vb,0,none⟩ ⟨g,(i+m)*3,none⟩ m vc lb cb X2 143 143 VC.size C.size (by simp [World.shape?,Np]) (by simp [World.shape?,hg]) (by omega) (by simp [World.frozen?,Np]) (by simp [World.frozen?,Np])]
  rfl
 obtain⟨C1,LD⟩: ∃R:Array Value,R=(C.toList.take ((i+m)*3)++cs.drop (i*3)++C.toList.drop ((i+m)*3+(cs.drop (i*3)).length)).toArray:=⟨_,rfl⟩
 obtain⟨C2,XA⟩: ∃R:Array Value,R=(C1.toList.take (i*3)++vs++C1.toList.drop (i*3+vs.length)).toArray:=⟨_,rfl⟩
 have eC:C1.size=cap*3:=by rw [LD];simp only [List.size_toArray,Ar,List.length_take,List.length_drop,Array.length_toList];omega
 have eD:C2.size=cap*3:=by rw [XA];simp only [List.size_toArray,Ar,List.length_take,List.length_drop,Array.length_toList];omega
 have fB: ∀(W:World),W.heap=w.heap→ ∀ty dc sc,(Builtin.copy_ #[27,27] ty #[.slice (some ⟨g,(i+m)*3,none⟩) (n+m-(i+m)) dc, .slice (some ⟨g,i*3,none⟩) (n+m-i) sc]).run Tryz.prog W= .ok (goInt ((n-i:Nat):Int)) (W.setRow g C1):=fun W hW ty dc sc=>by
  have h:=aK (P:=Tryz.prog) W 27 27 ty 143 3 g ((i+m)*3) (n+m-(i+m)) dc ⟨g,i*3,none⟩ (n+m-i) sc C 143 (cs.drop (i*3)) Tryz.underlying27 Cf (by rw [hW];exact hg) (by rw [List.length_drop,AJ,show Nat.min (n+m-i) (n+m-(i+m))=n-i from by rw [show Nat.min (n+m-i) (n+m-(i+m))=n+m-(i+m)from Nat.min_eq_right (by omega)];omega];omega)
   (fun j v hj=>by rw [World.cell?_of_block (w:=w) (by rw [hW])];exact BF.cell (i*3) j v hj) (by rw [T6,List.length_drop,AJ];omega) (fun v hv=>Jg v (List.mem_of_mem_drop hv))
  rw [show Nat.min (n+m-i) (n+m-(i+m))=n-i from by rw [show Nat.min (n+m-i) (n+m-(i+m))=n+m-(i+m)from Nat.min_eq_right (by omega)];omega,←LD]at h;exact h
 have hB:(w.setRow g C1).heap[g]?=some (.cells C1 143 (0,0)):=setRow_heap _ _ _ _ _ _ hg;have fC: ∀(W:World),W.heap=(w.setRow g C1).heap→ ∀ty dc,(Builtin.copy_ #[27,27] ty #[.slice (some ⟨g,i*3,none⟩) (n+m-i) dc, .slice (some ⟨vb,0,none⟩) m vc]).run Tryz.prog W= .ok (goInt m) (W.setRow g C2):=fun W hW ty dc=>by
  have h:=aK (P:=Tryz.prog) W 27 27 ty 143 3 g (i*3) (n+m-i) dc ⟨vb,0,none⟩ m vc C1 143 vs Tryz.underlying27 Cf (by rw [hW];exact hB) (by rw [Ey,show Nat.min m (n+m-i)=m from Nat.min_eq_left (by omega)])
   (fun j v hj=>by rw [World.cell?_of_block (w:=w) (by rw [Addr.add_lit,hW];exact setRow_other _ _ _ _ (by simpa using X2))];exact hv.cell 0 j v (by simpa using hj)) (by rw [eC,Ey];omega) LC
  rw [show Nat.min m (n+m-i)=m from Nat.min_eq_left (by omega),←XA]at h;exact h
 have fin: ∀W:World,W.os=w.os→W.tape=w.tape→W.output=w.output→W.heap=((w.setRow g C1).setRow g C2).heap→PD w W 143 3 own (.slice (some ⟨g,0,none⟩) (n+m) cap) (n+m) (cs.take (i*3)++vs++cs.drop (i*3)):=fun W w1 w2 w3 hW=>by refine⟨g,cap,C2,rfl,⟨CF,LP,by rw [hW];exact setRow_heap _ _ _ _ _ _ hB,eD, ?_⟩,⟨w1,w2,w3,by rw [hW];simp,fun k hk hn=>by rw [hW,setRow_other _ _ _ _ (fun e=>hn (by first|(rw [e];exact EI)|(rw [←e];exact EI))),setRow_other _ _ _ _ (fun e=>hn (by first|(rw [e];exact EI)|(rw [←e];exact EI)))]⟩, .inl EI⟩;have h:=zJC C.toList cs vs (i*3) (m*3) (n*3) Bp (Nat.mul_le_mul_right _ (by omega)) Ey (by rw [Array.length_toList,T6];omega);rw [XA,LD,Nat.add_mul n m,Nat.add_mul i m];exact h.symm
 have U3: ¬((m:Int)=0):=by omega
 have U4: ¬((i:Int)=(n:Int)):=by omega
 have hz3: ¬((cap:Int)<(n:Int)+(m:Int)):=by omega
 have Ul: ¬(cap=i):=by omega
 have hcim: ¬(cap=i+m):=by omega
 have GL:IntKind.i64.wrap ((i:Int)+(m:Int))=(i:Int)+(m:Int):=by rw [IntKind.wrap_i64];omega
 have Iz:(0:Int)≤(i:Int)+(m:Int):=by omega
 have gA:i≤n:=by omega
 have htn:((i:Int)+(m:Int)).toNat=i+m:=by omega
 have Gu:(i:Int)≤(n:Int):=by omega
 have hb4:(i:Int)≤(n:Int)+(m:Int):=by omega
 have eE:(w.drew).heap=w.heap:=rfl;have hF2:(w.drew.setRow g C1).heap=(w.setRow g C1).heap:=rfl;clear LD XA hB Bp Np hg
 go_enter Tryz.func285,Tryz.ntmps285
 go_wp2_with (simp only [UO])
 go_region_law (refine zt7 rfl _ _ 27 27 rfl (.slice (some ⟨g,(i+m)*3,none⟩) (n+m-(i+m)) (cap-(i+m))) (.slice (some ⟨g,i*3,none⟩) (n+m-i) (cap-i)) (by simp [Act.eval,Act.put]) (by simp [Act.eval,Act.put]) (fB _ eE 3 (cap-(i+m)) (cap-i)) ?_)
 go_wp2_with (at_builtin;refine oW _ rfl _ _ 27 27 rfl _ _ rfl rfl (fC _ hF2 _ _) ?_)
 go_ret
 exact⟨_,rfl,fin _ rfl rfl rfl rfl⟩
theorem zEk:kR Tryz.prog 285 143 3:=by
 intro w v n i cs own vb vc m VC vs AJ BF Ch hv X2 hm hb LC Jg;by_cases he:i=n
 ·subst he;refine(zwV w v i cs own AJ BF vb vc m VC vs hv hm hb LC).mono ?_;rintro e w' ⟨u,rfl,h⟩;refine⟨u,rfl, ?_⟩;rw [List.take_of_length_le (by omega),List.drop_eq_nil_of_le (by omega),List.append_nil];exact h
 ·rcases BF with⟨rfl,_⟩|⟨g,cap,C,rfl,hr,hg⟩
  ·omega
  ·by_cases hc:n+m≤cap
   ·exact zsk w n i g cap C cs own vb vc m hr hg (by omega) hc (X2 g hg) VC vs hv hm hb LC Jg
   ·exact zuO w n i g cap C cs own vb vc m hr (by omega) (by omega) VC vs hv hm hb LC Jg
end Go.Proofs.YtbmbkgalkfmjdaaGreatDoor
end
noncomputable section
namespace Go.Proofs.YtbmbkgalkfmjdaaGreatDoor
open Go Go.Proofs Go.Shelf Go.Sort Go.RowKit
set_option maxRecDepth 100000
set_option maxHeartbeats 1000000
def zJ3 (P:Program) (sg:BX) (f np:Nat) (r:AV):Bool:=
 match P.funcs[f]?,sg f with
 |some fn,some s=>fn.body.isSome&& !(fn.name== "runtime.NumGoroutine")&&Oj P fn s r&&s.cy.all (fun m=>match m with| .ro=>true|_=>false)&&fn.params.size==np&&fn.nfree==0&&(s.ft.isEmpty&&s.lo.isEmpty)&&(match fn.resultTypes.toList with| [t,u]=> !Hf P t s.res&& !Hf P u (s.res.drop (A8 P t).length)|_=>false)
 |_,_=>false
theorem zFn {f:Nat} {xs:List AV} {y1 y2:AV} (hk:zJ3 Tryz.prog Cu f xs.length (.tup [y1,y2])=true) (hc: ∀(w:World) (vs:List Value) (rf:List Nat),F7.n≤w.heap.size→F7.K w→Rd w vs xs rf→Calls Tryz.prog f vs.toArray w fun e w'=>Mod [] w w'∧ ∃v1 v2 f1 f2,e= .returned (.tuple #[v1,v2])∧Rd w' [v1] [y1] f1∧Rd w' [v2] [y2] f2∧ ∀b∈f1++f2,b∈rf∨w.heap.size≤b):Cv Tryz.prog Cu f xs (.tup [y1,y2]):=by
 unfold zJ3 at hk;split at hk
 ·rename_i fn s hf hs;simp only [Ae,Bool.not_eq_true',beq_iff_eq,AK]at hk;obtain⟨⟨⟨⟨⟨⟨⟨h1,h2⟩,h3⟩,h4⟩,h5⟩,h6⟩,EF⟩,h7⟩:=hk;obtain⟨EF,Ci⟩:s.ft= []∧s.lo= []:=by simpa using EF
  have HC: ∀m∈s.cy,m= .ro:=fun m hm=>by
   have:=h4 m hm;split at this
   ·rfl
   ·cases this
  unfold Cv;rw [if_pos (TX f s hs)];refine⟨s,hs,fn,hf,h1,h2,h3,by omega,by simp [EF],fun w vs rf lf Bl AB hd _ Co Ew=> ?_⟩;obtain⟨hr,rfl⟩:=AB.rd Ci HC;refine(hc w vs rf Ew.1 Ew.2.1 hr).mono ?_;rintro e w' ⟨hm,v1,v2,f1,f2,rfl,Fe,Dw,hb⟩;refine⟨_,rfl,⟨⟨.tup [y1,y2], [],f1++f2, [], [], [],rfl, ?_,D7.kj ?_ HC,by simp,by simp,fun b Cc=>⟨by simp, ?_⟩⟩,hm⟩⟩
  ·split at h7
   ·rename_i t u ht;simp only [Ae,Bool.not_eq_true']at h7;rw [ht];refine⟨[v1,v2], [y1,y2],rfl,rfl, ?_⟩;have a1:E8 Tryz.prog w' t s.res v1 y1 f1 []:=by
     unfold E8;rw [if_neg (by rw [h7.1];simp)];exact⟨Fe,rfl⟩
    have a2:E8 Tryz.prog w' u (s.res.drop (A8 Tryz.prog t).length) v2 y2 f2 []:=by unfold E8;rw [if_neg (by rw [h7.2];simp)];exact⟨Dw,rfl⟩
    have:=JC.cons a1 (JC.cons a2 (JC.nil (P:=Tryz.prog) (w:=w') (fl:=(s.res.drop (A8 Tryz.prog t).length).drop (A8 Tryz.prog u).length)));simpa using this
   ·cases h7
  ·rw [hr.len];simp [EF];omega
  ·rcases hb b (by simpa using Cc)with h|h
   ·exact .inl h
   ·exact .inr (.inr h)
 ·cases hk
def oC (n:Int):Option (List UInt8):=some (Lib.itoa n)
theorem wU {w:World} (h:F7.K w):Lib.TabIs Tryz.prog w "internal/strconv.uint64pow10" .u64 Lib.pow10Tab:=by obtain⟨_,_,k⟩:=h;exact k.trans (by kernel_rfl)
theorem zER (n:Int) (h0: -9223372036854775808≤n) (h1:n≤9223372036854775807):(Lib.itoa n).length≤9223372036854775807:=by
 have key: ∀(k u:Nat),u<10^k→(Lib.decDigits u).length≤k+1:=by
  intro k
  induction k with
  |zero=>intro u hu;rw [Lib.decDigits,dif_pos (by omega)];simp
  |succ k ih=>
   intro u hu;rw [Lib.decDigits];split
   ·simp
   ·rw [Ar,AH];have:=ih (u/10) (by rw [Nat.pow_succ]at hu;omega);omega
 unfold Lib.itoa;split
 ·rw [Ao];have:=key 20 n.natAbs (by omega);omega
 ·have:=key 20 n.toNat (by omega)
  omega
theorem X8 {n:Int} (h:E9 .i64 n): -9223372036854775808≤n∧n≤9223372036854775807:=by unfold E9 at h;rw [IntKind.wrap_i64]at h;omega
theorem w6 (w:World) (k:Nat) (os:Array Obj):Mod [] w (grow (w.drewN k) os):=by
 refine⟨rfl,rfl,rfl, ?_,fun b hb _=> ?_⟩
 ·show w.heap.size≤(w.heap++os).size;rw [Array.size_append];omega
 ·show(w.heap++os)[b]?=w.heap[b]?;rw [Array.getElem?_append_left hb]
theorem zur (a0:Int) (r:List UInt8) (h:oC a0=some r):Cv Tryz.prog Cu 283 [.int .i64 a0] (.str r):=wI (by kernel_rfl) fun w vs rf hK hr=>by obtain⟨us,rfl,hn,hr⟩:=Xn hr;obtain⟨rfl,rfl⟩:=My hr;cases h;refine(Tryz.strconv_Itoa a0 (X8 hn).1 (X8 hn).2 w (wU hK)).mono ?_;rintro e w' ⟨rfl,k,os,rfl⟩;have hl:=zER a0 (X8 hn).1 (X8 hn).2;exact⟨w6 w k os,_, [],rfl,by have:=Rd.str (w:=grow (w.drewN k) os) (s:=⟨(Lib.itoa a0).toArray⟩) (vs:= []) (xs:= []) (f:= []) (by show(Lib.itoa a0).toArray.size≤_;simpa using hl) .nil;simpa using this,by simp⟩
theorem zDm (w:World) (ty:TypeId) (t:ByteArray):Mod [] w (Lib.bytesWorld w ty t):=Mod.fg (Lib.bytesWorld_below w ty t) (Nat.le_refl _)
theorem zz5 (a b c:Int) (w:World):Calls Tryz.prog 60 #[.int .i64 a, .int .i64 b, .int .i64 c] w fun e w'=>e= .returned (.bool (decide (a≥b)&&decide (a≤c)))∧w'=w:=by
 by_cases h1:a≥b
 ·go_enter Tryz.func60,Tryz.ntmps60
  go_wp2
  go_ret
  simp [h1]
 ·go_enter Tryz.func60,Tryz.ntmps60
  go_wp2
  go_ret
  simp;intro h;omega
def Oy (s:List UInt8) (lo hi:Int):Int × Bool:=match Lib.atoiAll s with
 | .ok n=>if lo≤n∧n≤hi∧Lib.itoa n=s then(n,true)else(0,false)
 |_=>(0,false)
theorem zEM {s:ByteArray} {w:World} (hs:s.size≤281474976710656) (hK:F7.K w) (h: ∀v,Lib.atoiAll s.data.toList≠ .ok v):
  Calls Tryz.prog 320 #[.string s] w fun e w'=> ∃v te N,e= .returned (.tuple #[.int .i64 v, .iface te (.pointer (some ⟨N,0,none⟩))])∧Mod [] w w':=by
 obtain⟨⟨t1,p1,k1⟩,⟨t2,p2,k2⟩,_⟩:=hK;rcases hA:Lib.atoiAll s.data.toList with v|_|_
 ·exact absurd hA (h v)
 ·exact(Any.strconv_Atoi_syntax_var Tryz.gv s hs hA t1 p1 w k1).mono fun e w' ⟨N,he,_,_,hB⟩=>⟨_,_,_,he,Mod.fg hB (Nat.le_refl _)⟩
 ·exact(Any.strconv_Atoi_range_var Tryz.gv s hs hA t2 p2 w k2).mono fun e w' ⟨N,he,_,_,hB⟩=>⟨_,_,_,he,Mod.fg hB (Nat.le_refl _)⟩
theorem zCz {s:ByteArray} {lo hi:Int} {w:World} (hc:Calls Tryz.prog 320 #[.string s] w fun e w'=> ∃v te N,e= .returned (.tuple #[.int .i64 v, .iface te (.pointer (some ⟨N,0,none⟩))])∧Mod [] w w'):
  Calls Tryz.prog 301 #[.string s, .int .i64 lo, .int .i64 hi] w fun e w'=>e= .returned (.tuple #[.int .i64 0, .bool false])∧Mod [] w w':=by
 go_enter Tryz.func301,Tryz.ntmps301
 go_wp2_with (go_at_call 320;refine hc.mono ?_;rintro e w' ⟨v,te,N,rfl,hm⟩)
 go_ret2
 exact⟨rfl,hm⟩
section
variable (s:ByteArray) (n lo hi:Int) (w:World)
def Rl:Prop:=Calls Tryz.prog 320 #[.string s] w fun e w'=>e= .returned (.tuple #[.int .i64 n, .nilIface])∧Mod [] w w'
theorem zDY (hA:Rl s n w) (hw: ∀W,Calls Tryz.prog 60 #[.int .i64 n, .int .i64 lo, .int .i64 hi] W fun e w'=>e= .returned (.bool false)∧w'=W):
  Calls Tryz.prog 301 #[.string s, .int .i64 lo, .int .i64 hi] w fun e w'=>e= .returned (.tuple #[.int .i64 0, .bool false])∧Mod [] w w':=by
 unfold Rl at hA
 go_enter Tryz.func301,Tryz.ntmps301
 go_wp2_with (first|(go_at_call 320;refine hA.mono ?_;rintro e W1 ⟨rfl,hm⟩)|(go_at_call 60;refine(hw _).mono ?_;rintro e W2 ⟨rfl,rfl⟩))
 go_ret2
 exact⟨rfl,hm⟩
theorem zCe (q:ByteArray) (hq:(q.toList==s.toList)=false) (hA:Rl s n w) (hw: ∀W,Calls Tryz.prog 60 #[.int .i64 n, .int .i64 lo, .int .i64 hi] W fun e w'=>e= .returned (.bool true)∧w'=W)
  (hI: ∀W1,Mod [] w W1→Calls Tryz.prog 283 #[.int .i64 n] W1 fun e w'=>e= .returned (.string q)∧Mod [] w w'):
  Calls Tryz.prog 301 #[.string s, .int .i64 lo, .int .i64 hi] w fun e w'=>e= .returned (.tuple #[.int .i64 0, .bool false])∧Mod [] w w':=by
 unfold Rl at hA
 go_enter Tryz.func301,Tryz.ntmps301
 go_wp2_with (first|(go_at_call 320;refine hA.mono ?_;rintro e W1 ⟨rfl,hm⟩)|(go_at_call 60;refine(hw _).mono ?_;rintro e W2 ⟨rfl,rfl⟩)|(go_at_call 283;refine(hI _ hm).mono ?_;rintro e W3 ⟨rfl,Q6⟩))
 go_ret2
 exact⟨rfl,Q6⟩
theorem zCy (hA:Rl s n w) (hw: ∀W,Calls Tryz.prog 60 #[.int .i64 n, .int .i64 lo, .int .i64 hi] W fun e w'=>e= .returned (.bool true)∧w'=W)
  (hI: ∀W1,Mod [] w W1→Calls Tryz.prog 283 #[.int .i64 n] W1 fun e w'=>e= .returned (.string s)∧Mod [] w w'):
  Calls Tryz.prog 301 #[.string s, .int .i64 lo, .int .i64 hi] w fun e w'=>e= .returned (.tuple #[.int .i64 n, .bool true])∧Mod [] w w':=by
 unfold Rl at hA
 go_enter Tryz.func301,Tryz.ntmps301
 go_wp2_with (first|(go_at_call 320;refine hA.mono ?_;rintro e W1 ⟨rfl,hm⟩)|(go_at_call 60;refine(hw _).mono ?_;rintro e W2 ⟨rfl,rfl⟩)|(go_at_call 283;refine(hI _ hm).mono ?_;rintro e W3 ⟨rfl,Q6⟩))
 go_ret2
 exact⟨rfl,Q6⟩
end
theorem zCl (s:ByteArray) (lo hi:Int) (w:World) (hs:s.size≤281474976710656) (hN:F7.n≤w.heap.size) (hK:F7.K w):Calls Tryz.prog 301 #[.string s, .int .i64 lo, .int .i64 hi] w fun e w'=>e= .returned (.tuple #[.int .i64 (Oy s.data.toList lo hi).1, .bool (Oy s.data.toList lo hi).2])∧Mod [] w w':=by
 by_cases Az: ∃n,Lib.atoiAll s.data.toList= .ok n
 ·obtain⟨n,hA⟩:=Az;have hR:Oy s.data.toList lo hi=if lo≤n∧n≤hi∧Lib.itoa n=s.data.toList then(n,true)else(0,false):=by
   unfold Oy;rw [hA]
  rw [hR];obtain⟨b0,b1⟩:=Lib.atoiAll_bounds hA;have eB:Calls Tryz.prog 320 #[.string s] w fun e w'=>e= .returned (.tuple #[.int .i64 n, .nilIface])∧Mod [] w w':=by
   refine(Tryz.strconv_Atoi_ok s (by omega) n hA w).mono ?_;rintro e w' ⟨rfl,h|⟨t,h⟩⟩
   ·subst h;exact⟨rfl,Mod.refl _ _⟩
   ·subst h;exact⟨rfl,zDm w _ t⟩
  have hI: ∀W1,Mod [] w W1→Calls Tryz.prog 283 #[.int .i64 n] W1 fun e w'=>e= .returned (.string ⟨(Lib.itoa n).toArray⟩)∧Mod [] w w':=by intro W1 hm;have QU:F7.K W1:=F7.mono (fun b hb=>hm.block b (Nat.lt_of_lt_of_le hb hN) (by simp)) hK;refine(Tryz.strconv_Itoa n b0 b1 W1 (wU QU)).mono ?_;rintro e w' ⟨rfl,k,os,rfl⟩;exact⟨rfl,hm.trans (w6 W1 k os) (by simp)⟩
  by_cases h1:n≥lo∧n≤hi
  ·have hw: ∀W,Calls Tryz.prog 60 #[.int .i64 n, .int .i64 lo, .int .i64 hi] W fun e w'=>e= .returned (.bool true)∧w'=W:=fun W=>by
    have:=zz5 n lo hi W;rwa [show(decide (n≥lo)&&decide (n≤hi))=true by simp [h1.1,h1.2]]at this
   by_cases h3:Lib.itoa n=s.data.toList
   ·have Fw:(⟨(Lib.itoa n).toArray⟩:ByteArray)=s:=by rw [h3]
    rw [Fw]at hI;simp only [if_pos (⟨h1.1,h1.2,h3⟩:lo≤n∧n≤hi∧Lib.itoa n=s.data.toList)];exact zCy s n lo hi w eB hw hI
   ·have Fw:((⟨(Lib.itoa n).toArray⟩:ByteArray).toList==s.toList)=false:=by
     rw [zpz,beq_eq_false_iff_ne];exact h3
    simp only [if_neg (fun h:lo≤n∧n≤hi∧Lib.itoa n=s.data.toList=>h3 h.2.2)];exact zCe s n lo hi w _ Fw eB hw hI
  ·have hw: ∀W,Calls Tryz.prog 60 #[.int .i64 n, .int .i64 lo, .int .i64 hi] W fun e w'=>e= .returned (.bool false)∧w'=W:=fun W=>by
    have:=zz5 n lo hi W;rwa [show(decide (n≥lo)&&decide (n≤hi))=false by simp;omega]at this
   simp only [if_neg (fun h:lo≤n∧n≤hi∧Lib.itoa n=s.data.toList=>h1 ⟨h.1,h.2.1⟩)];exact zDY s n lo hi w eB hw
 ·have hR:Oy s.data.toList lo hi=(0,false):=by
   unfold Oy;split
   ·rename_i n hn;exact absurd ⟨n,hn⟩ Az
   ·rfl
  rw [hR];exact zCz (zEM hs hK fun v hv=>Az ⟨v,hv⟩)
def aC (s:List UInt8) (lo hi:Int):Option (Int × Bool):=req (s.length≤281474976710656) (some (Oy s lo hi))
theorem zub (a0:List UInt8) (a1 a2:Int) (r:Int × Bool) (h:aC a0 a1 a2=some r):Cv Tryz.prog Cu 301 [.str a0, .int .i64 a1, .int .i64 a2] (.tup [.int .i64 r.1, .bool r.2]):=by
 obtain⟨hl,h⟩:=GV h;refine zFn (by kernel_rfl) fun w vs rf hN hK hr=> ?_;obtain⟨s,us,rfl,hs,hz,hr⟩:=MH hr;obtain⟨us1,rfl,_,hr⟩:=Xn hr;obtain⟨us2,rfl,_,hr⟩:=Xn hr;obtain⟨rfl,rfl⟩:=My hr;subst hs;cases h;refine(zCl s a1 a2 w (by simpa using hl) hN hK).mono ?_;rintro e w' ⟨rfl,hm⟩;refine⟨hm,_,_, [], [],rfl, .int ?_ .nil, .bool .nil,by simp⟩;unfold Oy;split
 ·rename_i n hn;have:=Lib.atoiAll_bounds hn;split
  ·exact Ba this.1 this.2
  ·exact Ba (by decide) (by decide)
 ·exact Ba (by decide) (by decide)
end Go.Proofs.YtbmbkgalkfmjdaaGreatDoor
end
